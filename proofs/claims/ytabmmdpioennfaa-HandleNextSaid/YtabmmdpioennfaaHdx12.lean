-- Written by wip/mprint.py (a program of this session's, over the kit's print). Lean checks it.
import Derived.Test.YtabmmdpioennfaaHdx0
import Derived.Test.YtabmmdpioennfaaHdx2
import Derived.Test.YtabmmdpioennfaaHdx3
import Derived.Test.YtabmmdpioennfaaHdx5
namespace Go.Proofs.Ytabmmdpioennfaa.Hd
open Go.RowKit Go.Proofs.YtabmmdpioennfaaW.PrintWords Go.Proofs.YtabmmdpioennfaaW.PrintLast Go.Proofs.YtabmmdpioennfaaW.PrintMore
attribute [local go_sem] max2_int min2_int max_two min_two max_three min_three max_four min_four   -- for this text's walks alone
set_option linter.unusedVariables false
set_option linter.unusedSimpArgs false

/-! ### steadinglaw12_HandleNext: function 6 -/
def steadinglaw12_HandleNext.f (a0 : Int) : Option (Bool) := (steadinglaw12_awake.f).bind fun t141 => (if t141 = true then ((handle_Next.f (wrap64 (Int.tmod a0 1073741824))).bind fun t142 => ((handle_Pack.f 1 0 t142).bind fun t143 => (if t143 = 0 then (some false) else (if ((t142 == (wrap64 ((wrap64 (Int.tmod a0 1073741824)) + 1))) == (decide ((wrap64 (Int.tmod a0 1073741824)) < 1073741823))) = true then (some ((t142 == 0) == ((wrap64 (Int.tmod a0 1073741824)) == 1073741823))) else (some false))))) else (some false))
set_option maxHeartbeats 8000000 in
set_option maxRecDepth 100000 in
theorem steadinglaw12_HandleNext.calls (a0 : Int) (r : Bool) (w : World) (h : steadinglaw12_HandleNext.f a0 = some r) :
    Calls Try.prog 6 #[.int .u32 a0] w fun e w' => e = .returned (.bool r) ∧ Below w.heap.size w w' := by
  have HB := Aside0.mk (Below.refl w.heap.size w)
  have H : ((steadinglaw12_awake.f).bind fun t141 => (if t141 = true then ((handle_Next.f (wrap64 (Int.tmod a0 1073741824))).bind fun t142 => ((handle_Pack.f 1 0 t142).bind fun t143 => (if t143 = 0 then (some false) else (if ((t142 == (wrap64 ((wrap64 (Int.tmod a0 1073741824)) + 1))) == (decide ((wrap64 (Int.tmod a0 1073741824)) < 1073741823))) = true then (some ((t142 == 0) == ((wrap64 (Int.tmod a0 1073741824)) == 1073741823))) else (some false))))) else (some false))) = some r := h
  clear h
  replace H := Option.bind_eq_some_iff.mp H
  obtain ⟨t141, A20, H⟩ := H
  replace H : (if t141 = true then ((handle_Next.f (wrap64 (Int.tmod a0 1073741824))).bind fun t142 => ((handle_Pack.f 1 0 t142).bind fun t143 => (if t143 = 0 then (some false) else (if ((t142 == (wrap64 ((wrap64 (Int.tmod a0 1073741824)) + 1))) == (decide ((wrap64 (Int.tmod a0 1073741824)) < 1073741823))) = true then (some ((t142 == 0) == ((wrap64 (Int.tmod a0 1073741824)) == 1073741823))) else (some false))))) else (some false)) = some r := H
  have A2 := Aside0.mk A20
  clear A20
  by_cases c3 : t141 = true
  · subst c3
    have H1 : ((handle_Next.f (wrap64 (Int.tmod a0 1073741824))).bind fun t142 => ((handle_Pack.f 1 0 t142).bind fun t143 => (if t143 = 0 then (some false) else (if ((t142 == (wrap64 ((wrap64 (Int.tmod a0 1073741824)) + 1))) == (decide ((wrap64 (Int.tmod a0 1073741824)) < 1073741823))) = true then (some ((t142 == 0) == ((wrap64 (Int.tmod a0 1073741824)) == 1073741823))) else (some false))))) = some r := by rw [if_pos rfl] at H; exact H
    clear H
    have H := H1
    clear H1
    replace H := Option.bind_eq_some_iff.mp H
    obtain ⟨t142, A40, H⟩ := H
    replace H : ((handle_Pack.f 1 0 t142).bind fun t143 => (if t143 = 0 then (some false) else (if ((t142 == (wrap64 ((wrap64 (Int.tmod a0 1073741824)) + 1))) == (decide ((wrap64 (Int.tmod a0 1073741824)) < 1073741823))) = true then (some ((t142 == 0) == ((wrap64 (Int.tmod a0 1073741824)) == 1073741823))) else (some false)))) = some r := H
    have A4 := Aside0.mk A40
    clear A40
    replace H := Option.bind_eq_some_iff.mp H
    obtain ⟨t143, A50, H⟩ := H
    replace H : (if t143 = 0 then (some false) else (if ((t142 == (wrap64 ((wrap64 (Int.tmod a0 1073741824)) + 1))) == (decide ((wrap64 (Int.tmod a0 1073741824)) < 1073741823))) = true then (some ((t142 == 0) == ((wrap64 (Int.tmod a0 1073741824)) == 1073741823))) else (some false))) = some r := H
    have A5 := Aside0.mk A50
    clear A50
    by_cases c6 : t143 = 0
    · rw [if_pos c6] at H
      have c6b0 : (t143 == 0) = true := beq_iff_eq.mpr c6
      have c6b1 : (t143 != 0) = false := bne_eq_false_iff_eq.mpr c6
      clear c6
      obtain rfl := Option.some.inj H
      go_enter Try.func6, Try.ntmps6
      go_wp2_with (first | ((with_reducible refine gate_callee (f := 13) rfl ?_); refine goesL_ (some 6) rfl rfl Try.func13 (by kernel_rfl) rfl #[] rfl (by (try simp only [List.map_toArray, List.map_cons, List.map_nil]); first | done | rfl | (simp only [List.length_drop, List.length_take]; rfl)) ?_; (with_reducible refine (steadinglaw12_awake.calls  true _ A2.out).mono ?_); rintro e w7 ⟨rfl, hb⟩; refine ⟨_, rfl, ?_⟩; have n0_ := Aside0.mk (below_step (by repeat (first | (with_reducible first | exact HB.out | apply below_alloc | apply pw_below_drewN | apply below_drew1) | exact HB.out)) hb); clear HB; have HB := n0_; clear n0_; (try clear hb); (try clear hb2); (try clear hk); (try clear hi)) | ((with_reducible refine gate_callee (f := 16) rfl ?_); refine goesL_ (some 13) rfl rfl Try.func16 (by kernel_rfl) rfl #[.int .i64 (wrap64 (Int.tmod a0 1073741824))] rfl (by (try simp only [List.map_toArray, List.map_cons, List.map_nil]); first | done | rfl | (simp only [List.length_drop, List.length_take]; rfl)) ?_; (with_reducible refine (handle_Next.calls (wrap64 (Int.tmod a0 1073741824)) t142 _ A4.out).mono ?_); rintro e w' ⟨rfl, ⟨nd, rfl⟩⟩; refine ⟨_, rfl, ?_⟩) | ((with_reducible refine gate_callee (f := 14) rfl ?_); refine goesL_ (some 15) rfl rfl Try.func14 (by kernel_rfl) rfl #[.int .i64 1, .int .i64 0, .int .i64 t142] rfl (by (try simp only [List.map_toArray, List.map_cons, List.map_nil]); first | done | rfl | (simp only [List.length_drop, List.length_take]; rfl)) ?_; (with_reducible refine (handle_Pack.calls 1 0 t142 t143 _ A5.out).mono ?_); rintro e w' ⟨rfl, ⟨nd, rfl⟩⟩; refine ⟨_, rfl, ?_⟩))
      go_ret
      exact ⟨by first | rfl | (simp [errW_none, errW_some] <;> rfl) | (simp [*, errW_none, errW_some] <;> rfl), by repeat (first | (with_reducible first | exact HB.out | apply below_alloc | apply pw_below_drewN | apply below_drew1) | exact HB.out)⟩
    · rw [if_neg c6] at H
      have c6b0 : (t143 == 0) = false := beq_eq_false_iff_ne.mpr c6
      have c6b1 : (t143 != 0) = true := bne_iff_ne.mpr c6
      by_cases c8 : ((t142 == (wrap64 ((wrap64 (Int.tmod a0 1073741824)) + 1))) == (decide ((wrap64 (Int.tmod a0 1073741824)) < 1073741823))) = true
      · rw [if_pos c8] at H
        have c8b0 : ((t142 == (wrap64 ((wrap64 (Int.tmod a0 1073741824)) + 1))) == (decide ((wrap64 (Int.tmod a0 1073741824)) < 1073741823))) = true := c8
        (try (have c8b1 : decide ((t142 == (wrap64 ((wrap64 (Int.tmod a0 1073741824)) + 1))) = (decide ((wrap64 (Int.tmod a0 1073741824)) < 1073741823))) = true := by simpa using c8))
        (try (have c8b2 : ((t142 == (wrap64 ((wrap64 (Int.tmod a0 1073741824)) + 1))) == (decide ((wrap64 (Int.tmod a0 1073741824)) < 1073741823))) = true := by simpa using c8))
        clear c8
        obtain rfl := Option.some.inj H
        go_enter Try.func6, Try.ntmps6
        go_wp2_with (first | ((with_reducible refine gate_callee (f := 13) rfl ?_); refine goesL_ (some 6) rfl rfl Try.func13 (by kernel_rfl) rfl #[] rfl (by (try simp only [List.map_toArray, List.map_cons, List.map_nil]); first | done | rfl | (simp only [List.length_drop, List.length_take]; rfl)) ?_; (with_reducible refine (steadinglaw12_awake.calls  true _ A2.out).mono ?_); rintro e w9 ⟨rfl, hb⟩; refine ⟨_, rfl, ?_⟩; have n0_ := Aside0.mk (below_step (by repeat (first | (with_reducible first | exact HB.out | apply below_alloc | apply pw_below_drewN | apply below_drew1) | exact HB.out)) hb); clear HB; have HB := n0_; clear n0_; (try clear hb); (try clear hb2); (try clear hk); (try clear hi)) | ((with_reducible refine gate_callee (f := 16) rfl ?_); refine goesL_ (some 13) rfl rfl Try.func16 (by kernel_rfl) rfl #[.int .i64 (wrap64 (Int.tmod a0 1073741824))] rfl (by (try simp only [List.map_toArray, List.map_cons, List.map_nil]); first | done | rfl | (simp only [List.length_drop, List.length_take]; rfl)) ?_; (with_reducible refine (handle_Next.calls (wrap64 (Int.tmod a0 1073741824)) t142 _ A4.out).mono ?_); rintro e w' ⟨rfl, ⟨nd, rfl⟩⟩; refine ⟨_, rfl, ?_⟩) | ((with_reducible refine gate_callee (f := 14) rfl ?_); refine goesL_ (some 15) rfl rfl Try.func14 (by kernel_rfl) rfl #[.int .i64 1, .int .i64 0, .int .i64 t142] rfl (by (try simp only [List.map_toArray, List.map_cons, List.map_nil]); first | done | rfl | (simp only [List.length_drop, List.length_take]; rfl)) ?_; (with_reducible refine (handle_Pack.calls 1 0 t142 t143 _ A5.out).mono ?_); rintro e w' ⟨rfl, ⟨nd, rfl⟩⟩; refine ⟨_, rfl, ?_⟩))
        go_ret
        exact ⟨by first | rfl | (simp [errW_none, errW_some] <;> rfl) | (simp [*, errW_none, errW_some] <;> rfl), by repeat (first | (with_reducible first | exact HB.out | apply below_alloc | apply pw_below_drewN | apply below_drew1) | exact HB.out)⟩
      · rw [if_neg c8] at H
        have c8b0 : ((t142 == (wrap64 ((wrap64 (Int.tmod a0 1073741824)) + 1))) == (decide ((wrap64 (Int.tmod a0 1073741824)) < 1073741823))) = false := by simpa using c8
        (try (have c8b1 : decide ((t142 == (wrap64 ((wrap64 (Int.tmod a0 1073741824)) + 1))) = (decide ((wrap64 (Int.tmod a0 1073741824)) < 1073741823))) = false := by simpa using c8))
        (try (have c8b2 : ((t142 == (wrap64 ((wrap64 (Int.tmod a0 1073741824)) + 1))) == (decide ((wrap64 (Int.tmod a0 1073741824)) < 1073741823))) = false := by simpa using c8))
        (try (have c8b3 : ¬ ((t142 == (wrap64 ((wrap64 (Int.tmod a0 1073741824)) + 1))) = (decide ((wrap64 (Int.tmod a0 1073741824)) < 1073741823))) := by simpa using c8))
        clear c8
        obtain rfl := Option.some.inj H
        go_enter Try.func6, Try.ntmps6
        go_wp2_with (first | ((with_reducible refine gate_callee (f := 13) rfl ?_); refine goesL_ (some 6) rfl rfl Try.func13 (by kernel_rfl) rfl #[] rfl (by (try simp only [List.map_toArray, List.map_cons, List.map_nil]); first | done | rfl | (simp only [List.length_drop, List.length_take]; rfl)) ?_; (with_reducible refine (steadinglaw12_awake.calls  true _ A2.out).mono ?_); rintro e w10 ⟨rfl, hb⟩; refine ⟨_, rfl, ?_⟩; have n0_ := Aside0.mk (below_step (by repeat (first | (with_reducible first | exact HB.out | apply below_alloc | apply pw_below_drewN | apply below_drew1) | exact HB.out)) hb); clear HB; have HB := n0_; clear n0_; (try clear hb); (try clear hb2); (try clear hk); (try clear hi)) | ((with_reducible refine gate_callee (f := 16) rfl ?_); refine goesL_ (some 13) rfl rfl Try.func16 (by kernel_rfl) rfl #[.int .i64 (wrap64 (Int.tmod a0 1073741824))] rfl (by (try simp only [List.map_toArray, List.map_cons, List.map_nil]); first | done | rfl | (simp only [List.length_drop, List.length_take]; rfl)) ?_; (with_reducible refine (handle_Next.calls (wrap64 (Int.tmod a0 1073741824)) t142 _ A4.out).mono ?_); rintro e w' ⟨rfl, ⟨nd, rfl⟩⟩; refine ⟨_, rfl, ?_⟩) | ((with_reducible refine gate_callee (f := 14) rfl ?_); refine goesL_ (some 15) rfl rfl Try.func14 (by kernel_rfl) rfl #[.int .i64 1, .int .i64 0, .int .i64 t142] rfl (by (try simp only [List.map_toArray, List.map_cons, List.map_nil]); first | done | rfl | (simp only [List.length_drop, List.length_take]; rfl)) ?_; (with_reducible refine (handle_Pack.calls 1 0 t142 t143 _ A5.out).mono ?_); rintro e w' ⟨rfl, ⟨nd, rfl⟩⟩; refine ⟨_, rfl, ?_⟩))
        go_ret
        exact ⟨by first | rfl | (simp [errW_none, errW_some] <;> rfl) | (simp [*, errW_none, errW_some] <;> rfl), by repeat (first | (with_reducible first | exact HB.out | apply below_alloc | apply pw_below_drewN | apply below_drew1) | exact HB.out)⟩
  · replace c3 := Bool.eq_false_iff.mpr c3
    subst c3
    have H1 : (some false) = some r := by rw [if_neg (show ¬ (false = true) by decide)] at H; exact H
    clear H
    have H := H1
    clear H1
    obtain rfl := Option.some.inj H
    go_enter Try.func6, Try.ntmps6
    go_wp2_with (first | ((with_reducible refine gate_callee (f := 13) rfl ?_); refine goesL_ (some 6) rfl rfl Try.func13 (by kernel_rfl) rfl #[] rfl (by (try simp only [List.map_toArray, List.map_cons, List.map_nil]); first | done | rfl | (simp only [List.length_drop, List.length_take]; rfl)) ?_; (with_reducible refine (steadinglaw12_awake.calls  false _ A2.out).mono ?_); rintro e w11 ⟨rfl, hb⟩; refine ⟨_, rfl, ?_⟩; have n0_ := Aside0.mk (below_step (by repeat (first | (with_reducible first | exact HB.out | apply below_alloc | apply pw_below_drewN | apply below_drew1) | exact HB.out)) hb); clear HB; have HB := n0_; clear n0_; (try clear hb); (try clear hb2); (try clear hk); (try clear hi)))
    go_ret
    exact ⟨by first | rfl | (simp [errW_none, errW_some] <;> rfl) | (simp [*, errW_none, errW_some] <;> rfl), by repeat (first | (with_reducible first | exact HB.out | apply below_alloc | apply pw_below_drewN | apply below_drew1) | exact HB.out)⟩

/-- THE ONE PURE STATEMENT of steadinglaw12_HandleNext: yours. -/
def steadinglaw12_HandleNext.Pure : Prop := ∀ (a0 : Int), (Lit.int .u32 a0).wf = true → steadinglaw12_HandleNext.f a0 = some true
theorem steadinglaw12_HandleNext.walk (P : steadinglaw12_HandleNext.Pure) (a0 : Int) (w : World) (w0 : (Lit.int .u32 a0).wf = true) :
    Calls Try.prog 6 #[.int .u32 a0] w fun e w' => e = .returned (.bool true) ∧ Below w.heap.size w w' := by
  have h := P a0 w0
  refine (steadinglaw12_HandleNext.calls a0 true w h).mono ?_
  rintro e w' ⟨rfl, hd⟩
  exact ⟨rfl, hd⟩

end Go.Proofs.Ytabmmdpioennfaa.Hd
