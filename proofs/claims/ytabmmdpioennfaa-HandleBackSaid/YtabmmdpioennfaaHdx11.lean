-- Written by wip/mprint.py (a program of this session's, over the kit's print). Lean checks it.
import Derived.Test.YtabmmdpioennfaaHdx0
import Derived.Test.YtabmmdpioennfaaHdx2
import Derived.Test.YtabmmdpioennfaaHdx3
import Derived.Test.YtabmmdpioennfaaHdx5
import Derived.Test.YtabmmdpioennfaaMUnpack
namespace Go.Proofs.Ytabmmdpioennfaa.Hd
open Go.RowKit Go.Proofs.YtabmmdpioennfaaW.PrintWords Go.Proofs.YtabmmdpioennfaaW.PrintLast Go.Proofs.YtabmmdpioennfaaW.PrintMore
attribute [local go_sem] max2_int min2_int max_two min_two max_three min_three max_four min_four   -- for this text's walks alone
set_option linter.unusedVariables false
set_option linter.unusedSimpArgs false

/-! ### steadinglaw12_HandleBack: function 5 -/
def steadinglaw12_HandleBack.j0 : Nat → Int → Bool → Option (Bool)
  | 0, _, _ => none
  | k + 1, x3, x91 => if x91 = true then (some false) else ((handle_Unpack.f x3).bind fun bt136 => (if (bt136.2.2.2 == ((x3 / 4611686018427387904) != 0)) = true then (if bt136.2.2.2 = true then ((handle_Pack.f bt136.1 bt136.2.1 bt136.2.2.1).bind fun t140 => (some (t140 == x3))) else (some true)) else (some false)))
def steadinglaw12_HandleBack.f (k : Nat) (a0 : Int) (a1 : Int) (a2 : Int) (a3 : Int) : Option (Bool) := (steadinglaw12_awake.f).bind fun t126 => (if t126 = true then ((handle_Pack.f (wrap64 ((wrap64 (Int.tmod a0 3)) + 1)) (wrap64 (a1)) (wrap64 (Int.tmod a2 1073741824))).bind fun t127 => ((handle_Unpack.f t127).bind fun bt128 => (if bt128.1 = (wrap64 ((wrap64 (Int.tmod a0 3)) + 1)) then (if bt128.2.1 = (wrap64 (a1)) then (if bt128.2.2.1 = (wrap64 (Int.tmod a2 1073741824)) then (if bt128.2.2.2 = true then ((handle_Next.f (wrap64 (Int.tmod a2 1073741824))).bind fun t132 => ((handle_Pack.f (wrap64 ((wrap64 (Int.tmod a0 3)) + 1)) (wrap64 (a1)) t132).bind fun t133 => (if t127 = t133 then (steadinglaw12_HandleBack.j0 k a3 true) else ((handle_Pack.f (wrap64 ((Int.tmod (wrap64 ((wrap64 (Int.tmod a0 3)) + 1)) 3) + 1)) (wrap64 (a1)) (wrap64 (Int.tmod a2 1073741824))).bind fun t134 => (if t127 = t134 then (steadinglaw12_HandleBack.j0 k a3 true) else ((handle_Pack.f (wrap64 ((wrap64 (Int.tmod a0 3)) + 1)) (wrap64 (Go.bits .xor .u32 a1 1)) (wrap64 (Int.tmod a2 1073741824))).bind fun t135 => (steadinglaw12_HandleBack.j0 k a3 (t127 == t135)))))))) else (steadinglaw12_HandleBack.j0 k a3 true)) else (steadinglaw12_HandleBack.j0 k a3 true)) else (steadinglaw12_HandleBack.j0 k a3 true)) else (steadinglaw12_HandleBack.j0 k a3 true)))) else (some false))
theorem steadinglaw12_HandleBack.mono_l : ∀ k, (∀ y0 y1, LeO (steadinglaw12_HandleBack.j0 k y0 y1) (steadinglaw12_HandleBack.j0 (k + 1) y0 y1))
  | 0 => fun _ _ r h => by simp [steadinglaw12_HandleBack.j0] at h
  | k + 1 => by
    have ih0 := steadinglaw12_HandleBack.mono_l k
    · intro y0 y1
      unfold steadinglaw12_HandleBack.j0
      repeat' first
      | (with_reducible exact ih0 _ _)
      | (with_reducible exact LeO.refl _)
      | (with_reducible exact LeO.none _)
      | (with_reducible refine LeO.ite ?_ ?_)
      | (with_reducible refine LeO.bind ?_ (fun _ => ?_))
      | exact ih0 _ _
      | exact LeO.none _
      | refine LeO.ite ?_ ?_
      | refine LeO.bind ?_ (fun _ => ?_)
theorem steadinglaw12_HandleBack.mono : ∀ a0 a1 a2 a3 k, LeO (steadinglaw12_HandleBack.f k a0 a1 a2 a3) (steadinglaw12_HandleBack.f (k + 1) a0 a1 a2 a3) := by
  intro a0 a1 a2 a3 k
  have ih0 := steadinglaw12_HandleBack.mono_l k
  unfold steadinglaw12_HandleBack.f
  repeat' first
      | (with_reducible exact ih0 _ _)
      | (with_reducible exact LeO.refl _)
      | (with_reducible exact LeO.none _)
      | (with_reducible refine LeO.ite ?_ ?_)
      | (with_reducible refine LeO.bind ?_ (fun _ => ?_))
      | exact ih0 _ _
      | exact LeO.none _
      | refine LeO.ite ?_ ?_
      | refine LeO.bind ?_ (fun _ => ?_)
set_option maxHeartbeats 8000000 in
set_option maxRecDepth 100000 in
theorem steadinglaw12_HandleBack.calls (k : Nat) (a0 : Int) (a1 : Int) (a2 : Int) (a3 : Int) (r : Bool) (w : World) (h : steadinglaw12_HandleBack.f k a0 a1 a2 a3 = some r) :
    Calls Try.prog 5 #[.int .u8 a0, .int .u32 a1, .int .u32 a2, .int .u64 a3] w fun e w' => e = .returned (.bool r) ∧ Below w.heap.size w w' := by
  have HB := Aside0.mk (Below.refl w.heap.size w)
  have H : ((steadinglaw12_awake.f).bind fun t126 => (if t126 = true then ((handle_Pack.f (wrap64 ((wrap64 (Int.tmod a0 3)) + 1)) (wrap64 (a1)) (wrap64 (Int.tmod a2 1073741824))).bind fun t127 => ((handle_Unpack.f t127).bind fun bt128 => (if bt128.1 = (wrap64 ((wrap64 (Int.tmod a0 3)) + 1)) then (if bt128.2.1 = (wrap64 (a1)) then (if bt128.2.2.1 = (wrap64 (Int.tmod a2 1073741824)) then (if bt128.2.2.2 = true then ((handle_Next.f (wrap64 (Int.tmod a2 1073741824))).bind fun t132 => ((handle_Pack.f (wrap64 ((wrap64 (Int.tmod a0 3)) + 1)) (wrap64 (a1)) t132).bind fun t133 => (if t127 = t133 then (steadinglaw12_HandleBack.j0 k a3 true) else ((handle_Pack.f (wrap64 ((Int.tmod (wrap64 ((wrap64 (Int.tmod a0 3)) + 1)) 3) + 1)) (wrap64 (a1)) (wrap64 (Int.tmod a2 1073741824))).bind fun t134 => (if t127 = t134 then (steadinglaw12_HandleBack.j0 k a3 true) else ((handle_Pack.f (wrap64 ((wrap64 (Int.tmod a0 3)) + 1)) (wrap64 (Go.bits .xor .u32 a1 1)) (wrap64 (Int.tmod a2 1073741824))).bind fun t135 => (steadinglaw12_HandleBack.j0 k a3 (t127 == t135)))))))) else (steadinglaw12_HandleBack.j0 k a3 true)) else (steadinglaw12_HandleBack.j0 k a3 true)) else (steadinglaw12_HandleBack.j0 k a3 true)) else (steadinglaw12_HandleBack.j0 k a3 true)))) else (some false))) = some r := h
  clear h
  replace H := Option.bind_eq_some_iff.mp H
  obtain ⟨t126, A50, H⟩ := H
  replace H : (if t126 = true then ((handle_Pack.f (wrap64 ((wrap64 (Int.tmod a0 3)) + 1)) (wrap64 (a1)) (wrap64 (Int.tmod a2 1073741824))).bind fun t127 => ((handle_Unpack.f t127).bind fun bt128 => (if bt128.1 = (wrap64 ((wrap64 (Int.tmod a0 3)) + 1)) then (if bt128.2.1 = (wrap64 (a1)) then (if bt128.2.2.1 = (wrap64 (Int.tmod a2 1073741824)) then (if bt128.2.2.2 = true then ((handle_Next.f (wrap64 (Int.tmod a2 1073741824))).bind fun t132 => ((handle_Pack.f (wrap64 ((wrap64 (Int.tmod a0 3)) + 1)) (wrap64 (a1)) t132).bind fun t133 => (if t127 = t133 then (steadinglaw12_HandleBack.j0 k a3 true) else ((handle_Pack.f (wrap64 ((Int.tmod (wrap64 ((wrap64 (Int.tmod a0 3)) + 1)) 3) + 1)) (wrap64 (a1)) (wrap64 (Int.tmod a2 1073741824))).bind fun t134 => (if t127 = t134 then (steadinglaw12_HandleBack.j0 k a3 true) else ((handle_Pack.f (wrap64 ((wrap64 (Int.tmod a0 3)) + 1)) (wrap64 (Go.bits .xor .u32 a1 1)) (wrap64 (Int.tmod a2 1073741824))).bind fun t135 => (steadinglaw12_HandleBack.j0 k a3 (t127 == t135)))))))) else (steadinglaw12_HandleBack.j0 k a3 true)) else (steadinglaw12_HandleBack.j0 k a3 true)) else (steadinglaw12_HandleBack.j0 k a3 true)) else (steadinglaw12_HandleBack.j0 k a3 true)))) else (some false)) = some r := H
  have A5 := Aside0.mk A50
  clear A50
  by_cases c6 : t126 = true
  · subst c6
    have H1 : ((handle_Pack.f (wrap64 ((wrap64 (Int.tmod a0 3)) + 1)) (wrap64 (a1)) (wrap64 (Int.tmod a2 1073741824))).bind fun t127 => ((handle_Unpack.f t127).bind fun bt128 => (if bt128.1 = (wrap64 ((wrap64 (Int.tmod a0 3)) + 1)) then (if bt128.2.1 = (wrap64 (a1)) then (if bt128.2.2.1 = (wrap64 (Int.tmod a2 1073741824)) then (if bt128.2.2.2 = true then ((handle_Next.f (wrap64 (Int.tmod a2 1073741824))).bind fun t132 => ((handle_Pack.f (wrap64 ((wrap64 (Int.tmod a0 3)) + 1)) (wrap64 (a1)) t132).bind fun t133 => (if t127 = t133 then (steadinglaw12_HandleBack.j0 k a3 true) else ((handle_Pack.f (wrap64 ((Int.tmod (wrap64 ((wrap64 (Int.tmod a0 3)) + 1)) 3) + 1)) (wrap64 (a1)) (wrap64 (Int.tmod a2 1073741824))).bind fun t134 => (if t127 = t134 then (steadinglaw12_HandleBack.j0 k a3 true) else ((handle_Pack.f (wrap64 ((wrap64 (Int.tmod a0 3)) + 1)) (wrap64 (Go.bits .xor .u32 a1 1)) (wrap64 (Int.tmod a2 1073741824))).bind fun t135 => (steadinglaw12_HandleBack.j0 k a3 (t127 == t135)))))))) else (steadinglaw12_HandleBack.j0 k a3 true)) else (steadinglaw12_HandleBack.j0 k a3 true)) else (steadinglaw12_HandleBack.j0 k a3 true)) else (steadinglaw12_HandleBack.j0 k a3 true)))) = some r := by rw [if_pos rfl] at H; exact H
    clear H
    have H := H1
    clear H1
    replace H := Option.bind_eq_some_iff.mp H
    obtain ⟨t127, A70, H⟩ := H
    replace H : ((handle_Unpack.f t127).bind fun bt128 => (if bt128.1 = (wrap64 ((wrap64 (Int.tmod a0 3)) + 1)) then (if bt128.2.1 = (wrap64 (a1)) then (if bt128.2.2.1 = (wrap64 (Int.tmod a2 1073741824)) then (if bt128.2.2.2 = true then ((handle_Next.f (wrap64 (Int.tmod a2 1073741824))).bind fun t132 => ((handle_Pack.f (wrap64 ((wrap64 (Int.tmod a0 3)) + 1)) (wrap64 (a1)) t132).bind fun t133 => (if t127 = t133 then (steadinglaw12_HandleBack.j0 k a3 true) else ((handle_Pack.f (wrap64 ((Int.tmod (wrap64 ((wrap64 (Int.tmod a0 3)) + 1)) 3) + 1)) (wrap64 (a1)) (wrap64 (Int.tmod a2 1073741824))).bind fun t134 => (if t127 = t134 then (steadinglaw12_HandleBack.j0 k a3 true) else ((handle_Pack.f (wrap64 ((wrap64 (Int.tmod a0 3)) + 1)) (wrap64 (Go.bits .xor .u32 a1 1)) (wrap64 (Int.tmod a2 1073741824))).bind fun t135 => (steadinglaw12_HandleBack.j0 k a3 (t127 == t135)))))))) else (steadinglaw12_HandleBack.j0 k a3 true)) else (steadinglaw12_HandleBack.j0 k a3 true)) else (steadinglaw12_HandleBack.j0 k a3 true)) else (steadinglaw12_HandleBack.j0 k a3 true))) = some r := H
    have A7 := Aside0.mk A70
    clear A70
    replace H := Option.bind_eq_some_iff.mp H
    obtain ⟨⟨t128, t129, t130, t131⟩, A80, H⟩ := H
    replace H : (if t128 = (wrap64 ((wrap64 (Int.tmod a0 3)) + 1)) then (if t129 = (wrap64 (a1)) then (if t130 = (wrap64 (Int.tmod a2 1073741824)) then (if t131 = true then ((handle_Next.f (wrap64 (Int.tmod a2 1073741824))).bind fun t132 => ((handle_Pack.f (wrap64 ((wrap64 (Int.tmod a0 3)) + 1)) (wrap64 (a1)) t132).bind fun t133 => (if t127 = t133 then (steadinglaw12_HandleBack.j0 k a3 true) else ((handle_Pack.f (wrap64 ((Int.tmod (wrap64 ((wrap64 (Int.tmod a0 3)) + 1)) 3) + 1)) (wrap64 (a1)) (wrap64 (Int.tmod a2 1073741824))).bind fun t134 => (if t127 = t134 then (steadinglaw12_HandleBack.j0 k a3 true) else ((handle_Pack.f (wrap64 ((wrap64 (Int.tmod a0 3)) + 1)) (wrap64 (Go.bits .xor .u32 a1 1)) (wrap64 (Int.tmod a2 1073741824))).bind fun t135 => (steadinglaw12_HandleBack.j0 k a3 (t127 == t135)))))))) else (steadinglaw12_HandleBack.j0 k a3 true)) else (steadinglaw12_HandleBack.j0 k a3 true)) else (steadinglaw12_HandleBack.j0 k a3 true)) else (steadinglaw12_HandleBack.j0 k a3 true)) = some r := H
    have A8 := Aside0.mk A80
    clear A80
    have HC9 := Aside0.mk H
    clear H
    go_enter Try.func5, Try.ntmps5
    go_upto_region 8 with (first | ((with_reducible refine gate_callee (f := 13) rfl ?_); refine goesL_ (some 21) rfl rfl Try.func13 (by kernel_rfl) rfl #[] rfl (by (try simp only [List.map_toArray, List.map_cons, List.map_nil]); first | done | rfl | (simp only [List.length_drop, List.length_take]; rfl)) ?_; (with_reducible refine (steadinglaw12_awake.calls  true _ A5.out).mono ?_); rintro e w10 ⟨rfl, hb⟩; refine ⟨_, rfl, ?_⟩; have n0_ := Aside0.mk (below_step (by repeat (first | (with_reducible first | exact HB.out | apply below_alloc | apply pw_below_drewN | apply below_drew1) | exact HB.out)) hb); clear HB; have HB := n0_; clear n0_; (try clear hb); (try clear hb2); (try clear hk); (try clear hi)) | ((with_reducible refine gate_callee (f := 14) rfl ?_); refine goesL_ (some 35) rfl rfl Try.func14 (by kernel_rfl) rfl #[.int .i64 (wrap64 ((wrap64 (Int.tmod a0 3)) + 1)), .int .i64 (wrap64 (a1)), .int .i64 (wrap64 (Int.tmod a2 1073741824))] rfl (by (try simp only [List.map_toArray, List.map_cons, List.map_nil]); first | done | rfl | (simp only [List.length_drop, List.length_take]; rfl)) ?_; (with_reducible refine (handle_Pack.calls (wrap64 ((wrap64 (Int.tmod a0 3)) + 1)) (wrap64 (a1)) (wrap64 (Int.tmod a2 1073741824)) t127 _ A7.out).mono ?_); rintro e w' ⟨rfl, ⟨nd, rfl⟩⟩; refine ⟨_, rfl, ?_⟩) | ((with_reducible refine gate_callee (f := 18) rfl ?_); refine goesL_ (some 38) rfl rfl Try.func18 (by kernel_rfl) rfl #[.int .u64 t127] rfl (by (try simp only [List.map_toArray, List.map_cons, List.map_nil]); first | done | rfl | (simp only [List.length_drop, List.length_take]; rfl)) ?_; (with_reducible refine (handle_Unpack.calls t127 t128 t129 t130 t131 _ A8.out).mono ?_); rintro e w11 ⟨rfl, hb⟩; refine ⟨_, rfl, ?_⟩; have n0_ := Aside0.mk (below_step (by repeat (first | (with_reducible first | exact HB.out | apply below_alloc | apply pw_below_drewN | apply below_drew1) | exact HB.out)) hb); clear HB; have HB := n0_; clear n0_; (try clear hb); (try clear hb2); (try clear hk); (try clear hi)))
    (try simp only [Act.put, List.setIfInBounds_toArray, List.set_cons_zero, List.set_cons_succ])
    go_cut [91] (fun v91 wc => ∃ (kq : Nat) (x91_8 : Bool), v91 = .bool x91_8 ∧ Aside0 (steadinglaw12_HandleBack.j0 kq a3 x91_8 = some r) ∧ Aside0 (kq ≤ k) ∧ Aside0 (Below w.heap.size w wc))
    case first =>
      have H := HC9.out
      clear HC9
      by_cases c12 : t128 = (wrap64 ((wrap64 (Int.tmod a0 3)) + 1))
      · rw [if_pos c12] at H
        have c12b0 : (t128 == (wrap64 ((wrap64 (Int.tmod a0 3)) + 1))) = true := beq_iff_eq.mpr c12
        have c12b1 : (t128 != (wrap64 ((wrap64 (Int.tmod a0 3)) + 1))) = false := bne_eq_false_iff_eq.mpr c12
        clear c12
        (first | rw [c12b0] | (simp only [i64_w, i32_w]; rw [c12b0]) | skip)
        by_cases c13 : t129 = (wrap64 (a1))
        · rw [if_pos c13] at H
          have c13b0 : (t129 == (wrap64 (a1))) = true := beq_iff_eq.mpr c13
          have c13b1 : (t129 != (wrap64 (a1))) = false := bne_eq_false_iff_eq.mpr c13
          clear c13
          by_cases c14 : t130 = (wrap64 (Int.tmod a2 1073741824))
          · rw [if_pos c14] at H
            have c14b0 : (t130 == (wrap64 (Int.tmod a2 1073741824))) = true := beq_iff_eq.mpr c14
            have c14b1 : (t130 != (wrap64 (Int.tmod a2 1073741824))) = false := bne_eq_false_iff_eq.mpr c14
            clear c14
            by_cases c15 : t131 = true
            · subst c15
              have H1 : ((handle_Next.f (wrap64 (Int.tmod a2 1073741824))).bind fun t132 => ((handle_Pack.f (wrap64 ((wrap64 (Int.tmod a0 3)) + 1)) (wrap64 (a1)) t132).bind fun t133 => (if t127 = t133 then (steadinglaw12_HandleBack.j0 k a3 true) else ((handle_Pack.f (wrap64 ((Int.tmod (wrap64 ((wrap64 (Int.tmod a0 3)) + 1)) 3) + 1)) (wrap64 (a1)) (wrap64 (Int.tmod a2 1073741824))).bind fun t134 => (if t127 = t134 then (steadinglaw12_HandleBack.j0 k a3 true) else ((handle_Pack.f (wrap64 ((wrap64 (Int.tmod a0 3)) + 1)) (wrap64 (Go.bits .xor .u32 a1 1)) (wrap64 (Int.tmod a2 1073741824))).bind fun t135 => (steadinglaw12_HandleBack.j0 k a3 (t127 == t135)))))))) = some r := by rw [if_pos rfl] at H; exact H
              clear H
              have H := H1
              clear H1
              replace H := Option.bind_eq_some_iff.mp H
              obtain ⟨t132, A160, H⟩ := H
              replace H : ((handle_Pack.f (wrap64 ((wrap64 (Int.tmod a0 3)) + 1)) (wrap64 (a1)) t132).bind fun t133 => (if t127 = t133 then (steadinglaw12_HandleBack.j0 k a3 true) else ((handle_Pack.f (wrap64 ((Int.tmod (wrap64 ((wrap64 (Int.tmod a0 3)) + 1)) 3) + 1)) (wrap64 (a1)) (wrap64 (Int.tmod a2 1073741824))).bind fun t134 => (if t127 = t134 then (steadinglaw12_HandleBack.j0 k a3 true) else ((handle_Pack.f (wrap64 ((wrap64 (Int.tmod a0 3)) + 1)) (wrap64 (Go.bits .xor .u32 a1 1)) (wrap64 (Int.tmod a2 1073741824))).bind fun t135 => (steadinglaw12_HandleBack.j0 k a3 (t127 == t135))))))) = some r := H
              have A16 := Aside0.mk A160
              clear A160
              replace H := Option.bind_eq_some_iff.mp H
              obtain ⟨t133, A170, H⟩ := H
              replace H : (if t127 = t133 then (steadinglaw12_HandleBack.j0 k a3 true) else ((handle_Pack.f (wrap64 ((Int.tmod (wrap64 ((wrap64 (Int.tmod a0 3)) + 1)) 3) + 1)) (wrap64 (a1)) (wrap64 (Int.tmod a2 1073741824))).bind fun t134 => (if t127 = t134 then (steadinglaw12_HandleBack.j0 k a3 true) else ((handle_Pack.f (wrap64 ((wrap64 (Int.tmod a0 3)) + 1)) (wrap64 (Go.bits .xor .u32 a1 1)) (wrap64 (Int.tmod a2 1073741824))).bind fun t135 => (steadinglaw12_HandleBack.j0 k a3 (t127 == t135)))))) = some r := H
              have A17 := Aside0.mk A170
              clear A170
              by_cases c18 : t127 = t133
              · rw [if_pos c18] at H
                have c18b0 : (t127 == t133) = true := beq_iff_eq.mpr c18
                have c18b1 : (t127 != t133) = false := bne_eq_false_iff_eq.mpr c18
                clear c18
                have H' := Aside0.mk H
                clear H
                go_wp2_with (first | (go_at_call 16; (with_reducible refine (handle_Next.calls (wrap64 (Int.tmod a2 1073741824)) t132 _ A16.out).mono ?_); rintro e w' ⟨rfl, ⟨nd, rfl⟩⟩) | (go_at_call 14; (with_reducible refine (handle_Pack.calls (wrap64 ((wrap64 (Int.tmod a0 3)) + 1)) (wrap64 (a1)) t132 t133 _ A17.out).mono ?_); rintro e w' ⟨rfl, ⟨nd, rfl⟩⟩))
                go_meet
                case rel => exact ⟨_, (true), (by first | rfl | (simp; done) | (simp [*]; done)), H', ⟨by first | omega | exact Nat.le_refl _⟩, ⟨by repeat (first | (with_reducible first | exact HB.out | apply below_alloc | apply pw_below_drewN | apply below_drew1) | exact HB.out)⟩⟩
              · rw [if_neg c18] at H
                have c18b0 : (t127 == t133) = false := beq_eq_false_iff_ne.mpr c18
                have c18b1 : (t127 != t133) = true := bne_iff_ne.mpr c18
                replace H := Option.bind_eq_some_iff.mp H
                obtain ⟨t134, A190, H⟩ := H
                replace H : (if t127 = t134 then (steadinglaw12_HandleBack.j0 k a3 true) else ((handle_Pack.f (wrap64 ((wrap64 (Int.tmod a0 3)) + 1)) (wrap64 (Go.bits .xor .u32 a1 1)) (wrap64 (Int.tmod a2 1073741824))).bind fun t135 => (steadinglaw12_HandleBack.j0 k a3 (t127 == t135)))) = some r := H
                have A19 := Aside0.mk A190
                clear A190
                by_cases c20 : t127 = t134
                · rw [if_pos c20] at H
                  have c20b0 : (t127 == t134) = true := beq_iff_eq.mpr c20
                  have c20b1 : (t127 != t134) = false := bne_eq_false_iff_eq.mpr c20
                  clear c20
                  have H' := Aside0.mk H
                  clear H
                  go_wp2_with (first | (go_at_call 16; (with_reducible refine (handle_Next.calls (wrap64 (Int.tmod a2 1073741824)) t132 _ A16.out).mono ?_); rintro e w' ⟨rfl, ⟨nd, rfl⟩⟩) | (go_at_call 14; (with_reducible refine (handle_Pack.calls (wrap64 ((wrap64 (Int.tmod a0 3)) + 1)) (wrap64 (a1)) t132 t133 _ A17.out).mono ?_); rintro e w' ⟨rfl, ⟨nd, rfl⟩⟩) | (go_at_call 14; (with_reducible refine (handle_Pack.calls (wrap64 ((Int.tmod (wrap64 ((wrap64 (Int.tmod a0 3)) + 1)) 3) + 1)) (wrap64 (a1)) (wrap64 (Int.tmod a2 1073741824)) t134 _ A19.out).mono ?_); rintro e w' ⟨rfl, ⟨nd, rfl⟩⟩))
                  go_meet
                  case rel => exact ⟨_, (true), (by first | rfl | (simp; done) | (simp [*]; done)), H', ⟨by first | omega | exact Nat.le_refl _⟩, ⟨by repeat (first | (with_reducible first | exact HB.out | apply below_alloc | apply pw_below_drewN | apply below_drew1) | exact HB.out)⟩⟩
                · rw [if_neg c20] at H
                  have c20b0 : (t127 == t134) = false := beq_eq_false_iff_ne.mpr c20
                  have c20b1 : (t127 != t134) = true := bne_iff_ne.mpr c20
                  replace H := Option.bind_eq_some_iff.mp H
                  obtain ⟨t135, A210, H⟩ := H
                  replace H : (steadinglaw12_HandleBack.j0 k a3 (t127 == t135)) = some r := H
                  have A21 := Aside0.mk A210
                  clear A210
                  have H' := Aside0.mk H
                  clear H
                  go_wp2_with (first | (go_at_call 16; (with_reducible refine (handle_Next.calls (wrap64 (Int.tmod a2 1073741824)) t132 _ A16.out).mono ?_); rintro e w' ⟨rfl, ⟨nd, rfl⟩⟩) | (go_at_call 14; (with_reducible refine (handle_Pack.calls (wrap64 ((wrap64 (Int.tmod a0 3)) + 1)) (wrap64 (a1)) t132 t133 _ A17.out).mono ?_); rintro e w' ⟨rfl, ⟨nd, rfl⟩⟩) | (go_at_call 14; (with_reducible refine (handle_Pack.calls (wrap64 ((Int.tmod (wrap64 ((wrap64 (Int.tmod a0 3)) + 1)) 3) + 1)) (wrap64 (a1)) (wrap64 (Int.tmod a2 1073741824)) t134 _ A19.out).mono ?_); rintro e w' ⟨rfl, ⟨nd, rfl⟩⟩) | (go_at_call 14; (with_reducible refine (handle_Pack.calls (wrap64 ((wrap64 (Int.tmod a0 3)) + 1)) (wrap64 (Go.bits .xor .u32 a1 1)) (wrap64 (Int.tmod a2 1073741824)) t135 _ A21.out).mono ?_); rintro e w' ⟨rfl, ⟨nd, rfl⟩⟩))
                  go_meet
                  case rel => exact ⟨_, ((t127 == t135)), (by first | rfl | (simp; done) | (simp [*]; done)), H', ⟨by first | omega | exact Nat.le_refl _⟩, ⟨by repeat (first | (with_reducible first | exact HB.out | apply below_alloc | apply pw_below_drewN | apply below_drew1) | exact HB.out)⟩⟩
            · replace c15 := Bool.eq_false_iff.mpr c15
              subst c15
              have H1 : (steadinglaw12_HandleBack.j0 k a3 true) = some r := by rw [if_neg (show ¬ (false = true) by decide)] at H; exact H
              clear H
              have H := H1
              clear H1
              have H' := Aside0.mk H
              clear H
              go_wp2
              go_meet
              case rel => exact ⟨_, (true), (by first | rfl | (simp; done) | (simp [*]; done)), H', ⟨by first | omega | exact Nat.le_refl _⟩, ⟨by repeat (first | (with_reducible first | exact HB.out | apply below_alloc | apply pw_below_drewN | apply below_drew1) | exact HB.out)⟩⟩
          · rw [if_neg c14] at H
            have c14b0 : (t130 == (wrap64 (Int.tmod a2 1073741824))) = false := beq_eq_false_iff_ne.mpr c14
            have c14b1 : (t130 != (wrap64 (Int.tmod a2 1073741824))) = true := bne_iff_ne.mpr c14
            have H' := Aside0.mk H
            clear H
            go_wp2
            go_meet
            case rel => exact ⟨_, (true), (by first | rfl | (simp; done) | (simp [*]; done)), H', ⟨by first | omega | exact Nat.le_refl _⟩, ⟨by repeat (first | (with_reducible first | exact HB.out | apply below_alloc | apply pw_below_drewN | apply below_drew1) | exact HB.out)⟩⟩
        · rw [if_neg c13] at H
          have c13b0 : (t129 == (wrap64 (a1))) = false := beq_eq_false_iff_ne.mpr c13
          have c13b1 : (t129 != (wrap64 (a1))) = true := bne_iff_ne.mpr c13
          have H' := Aside0.mk H
          clear H
          go_wp2
          go_meet
          case rel => exact ⟨_, (true), (by first | rfl | (simp; done) | (simp [*]; done)), H', ⟨by first | omega | exact Nat.le_refl _⟩, ⟨by repeat (first | (with_reducible first | exact HB.out | apply below_alloc | apply pw_below_drewN | apply below_drew1) | exact HB.out)⟩⟩
      · rw [if_neg c12] at H
        have c12b0 : (t128 == (wrap64 ((wrap64 (Int.tmod a0 3)) + 1))) = false := beq_eq_false_iff_ne.mpr c12
        have c12b1 : (t128 != (wrap64 ((wrap64 (Int.tmod a0 3)) + 1))) = true := bne_iff_ne.mpr c12
        (first | rw [c12b0] | (simp only [i64_w, i32_w]; rw [c12b0]) | skip)
        have H' := Aside0.mk H
        clear H
        go_wp2
        go_meet
        case rel => exact ⟨_, (true), (by first | rfl | (simp; done) | (simp [*]; done)), H', ⟨by first | omega | exact Nat.le_refl _⟩, ⟨by repeat (first | (with_reducible first | exact HB.out | apply below_alloc | apply pw_below_drewN | apply below_drew1) | exact HB.out)⟩⟩
    case rest =>
      clear HC9
      try clear c1
      try clear c2
      try clear p2
      try clear c5
      try clear c6
      try clear p6
      try clear c12
      try clear c12b0
      try clear c12b1
      try clear c13
      try clear c13b0
      try clear c13b1
      try clear c14
      try clear c14b0
      try clear c14b1
      try clear c15
      try clear c18
      try clear c18b0
      try clear c18b1
      try clear c20
      try clear c20b0
      try clear c20b1
      obtain ⟨kq, x91_8, rfl, HA, HJ8, HB⟩ := hcut
      cases kq with
      | zero => exact absurd HA.out (by simp [steadinglaw12_HandleBack.j0])
      | succ kj8 =>
        have H := HA.out
        clear HA
        simp only [steadinglaw12_HandleBack.j0] at H
        by_cases c22 : x91_8 = true
        · subst c22
          have H1 : (some false) = some r := by rw [if_pos rfl] at H; exact H
          clear H
          have H := H1
          clear H1
          obtain rfl := Option.some.inj H
          go_wp2
          go_ret
          exact ⟨by first | rfl | (simp [errW_none, errW_some] <;> rfl) | (simp [*, errW_none, errW_some] <;> rfl), by repeat (first | (with_reducible first | exact HB.out | apply below_alloc | apply pw_below_drewN | apply below_drew1) | exact HB.out)⟩
        · replace c22 := Bool.eq_false_iff.mpr c22
          subst c22
          have H1 : ((handle_Unpack.f a3).bind fun bt136 => (if (bt136.2.2.2 == ((a3 / 4611686018427387904) != 0)) = true then (if bt136.2.2.2 = true then ((handle_Pack.f bt136.1 bt136.2.1 bt136.2.2.1).bind fun t140 => (some (t140 == a3))) else (some true)) else (some false))) = some r := by rw [if_neg (show ¬ (false = true) by decide)] at H; exact H
          clear H
          have H := H1
          clear H1
          replace H := Option.bind_eq_some_iff.mp H
          obtain ⟨⟨t136, t137, t138, t139⟩, A230, H⟩ := H
          replace H : (if (t139 == ((a3 / 4611686018427387904) != 0)) = true then (if t139 = true then ((handle_Pack.f t136 t137 t138).bind fun t140 => (some (t140 == a3))) else (some true)) else (some false)) = some r := H
          have A23 := Aside0.mk A230
          clear A230
          by_cases c24 : (t139 == ((a3 / 4611686018427387904) != 0)) = true
          · rw [if_pos c24] at H
            have c24b0 : (t139 == ((a3 / 4611686018427387904) != 0)) = true := c24
            (try (have c24b1 : decide (t139 = ((a3 / 4611686018427387904) != 0)) = true := by simpa using c24))
            (try (have c24b2 : (t139 == ((a3 / 4611686018427387904) != 0)) = true := by simpa using c24))
            clear c24
            by_cases c25 : t139 = true
            · subst c25
              have H1 : ((handle_Pack.f t136 t137 t138).bind fun t140 => (some (t140 == a3))) = some r := by rw [if_pos rfl] at H; exact H
              clear H
              have H := H1
              clear H1
              replace H := Option.bind_eq_some_iff.mp H
              obtain ⟨t140, A260, H⟩ := H
              replace H : (some (t140 == a3)) = some r := H
              have A26 := Aside0.mk A260
              clear A260
              obtain rfl := Option.some.inj H
              go_wp2_with (first | ((with_reducible refine gate_callee (f := 18) rfl ?_); refine goesL_ (some 94) rfl rfl Try.func18 (by kernel_rfl) rfl #[.int .u64 a3] rfl (by (try simp only [List.map_toArray, List.map_cons, List.map_nil]); first | done | rfl | (simp only [List.length_drop, List.length_take]; rfl)) ?_; (with_reducible refine (handle_Unpack.calls a3 t136 t137 t138 true _ A23.out).mono ?_); rintro e w27 ⟨rfl, hb⟩; refine ⟨_, rfl, ?_⟩; have n0_ := Aside0.mk (below_step (by repeat (first | (with_reducible first | exact HB.out | apply below_alloc | apply pw_below_drewN | apply below_drew1) | exact HB.out)) hb); clear HB; have HB := n0_; clear n0_; (try clear hb); (try clear hb2); (try clear hk); (try clear hi)) | (go_at_call 14; (with_reducible refine (handle_Pack.calls t136 t137 t138 t140 _ A26.out).mono ?_); rintro e w' ⟨rfl, ⟨nd, rfl⟩⟩))
              go_ret
              exact ⟨by first | rfl | (simp [errW_none, errW_some] <;> rfl) | (simp [*, errW_none, errW_some] <;> rfl), by repeat (first | (with_reducible first | exact HB.out | apply below_alloc | apply pw_below_drewN | apply below_drew1) | exact HB.out)⟩
            · replace c25 := Bool.eq_false_iff.mpr c25
              subst c25
              have H1 : (some true) = some r := by rw [if_neg (show ¬ (false = true) by decide)] at H; exact H
              clear H
              have H := H1
              clear H1
              obtain rfl := Option.some.inj H
              go_wp2_with (first | ((with_reducible refine gate_callee (f := 18) rfl ?_); refine goesL_ (some 94) rfl rfl Try.func18 (by kernel_rfl) rfl #[.int .u64 a3] rfl (by (try simp only [List.map_toArray, List.map_cons, List.map_nil]); first | done | rfl | (simp only [List.length_drop, List.length_take]; rfl)) ?_; (with_reducible refine (handle_Unpack.calls a3 t136 t137 t138 false _ A23.out).mono ?_); rintro e w28 ⟨rfl, hb⟩; refine ⟨_, rfl, ?_⟩; have n0_ := Aside0.mk (below_step (by repeat (first | (with_reducible first | exact HB.out | apply below_alloc | apply pw_below_drewN | apply below_drew1) | exact HB.out)) hb); clear HB; have HB := n0_; clear n0_; (try clear hb); (try clear hb2); (try clear hk); (try clear hi)))
              go_ret
              exact ⟨by first | rfl | (simp [errW_none, errW_some] <;> rfl) | (simp [*, errW_none, errW_some] <;> rfl), by repeat (first | (with_reducible first | exact HB.out | apply below_alloc | apply pw_below_drewN | apply below_drew1) | exact HB.out)⟩
          · rw [if_neg c24] at H
            have c24b0 : (t139 == ((a3 / 4611686018427387904) != 0)) = false := by simpa using c24
            (try (have c24b1 : decide (t139 = ((a3 / 4611686018427387904) != 0)) = false := by simpa using c24))
            (try (have c24b2 : (t139 == ((a3 / 4611686018427387904) != 0)) = false := by simpa using c24))
            (try (have c24b3 : ¬ (t139 = ((a3 / 4611686018427387904) != 0)) := by simpa using c24))
            clear c24
            obtain rfl := Option.some.inj H
            go_wp2_with (first | ((with_reducible refine gate_callee (f := 18) rfl ?_); refine goesL_ (some 94) rfl rfl Try.func18 (by kernel_rfl) rfl #[.int .u64 a3] rfl (by (try simp only [List.map_toArray, List.map_cons, List.map_nil]); first | done | rfl | (simp only [List.length_drop, List.length_take]; rfl)) ?_; (with_reducible refine (handle_Unpack.calls a3 t136 t137 t138 t139 _ A23.out).mono ?_); rintro e w29 ⟨rfl, hb⟩; refine ⟨_, rfl, ?_⟩; have n0_ := Aside0.mk (below_step (by repeat (first | (with_reducible first | exact HB.out | apply below_alloc | apply pw_below_drewN | apply below_drew1) | exact HB.out)) hb); clear HB; have HB := n0_; clear n0_; (try clear hb); (try clear hb2); (try clear hk); (try clear hi)))
            go_ret
            exact ⟨by first | rfl | (simp [errW_none, errW_some] <;> rfl) | (simp [*, errW_none, errW_some] <;> rfl), by repeat (first | (with_reducible first | exact HB.out | apply below_alloc | apply pw_below_drewN | apply below_drew1) | exact HB.out)⟩
  · replace c6 := Bool.eq_false_iff.mpr c6
    subst c6
    have H1 : (some false) = some r := by rw [if_neg (show ¬ (false = true) by decide)] at H; exact H
    clear H
    have H := H1
    clear H1
    obtain rfl := Option.some.inj H
    go_enter Try.func5, Try.ntmps5
    go_wp2_with (first | ((with_reducible refine gate_callee (f := 13) rfl ?_); refine goesL_ (some 21) rfl rfl Try.func13 (by kernel_rfl) rfl #[] rfl (by (try simp only [List.map_toArray, List.map_cons, List.map_nil]); first | done | rfl | (simp only [List.length_drop, List.length_take]; rfl)) ?_; (with_reducible refine (steadinglaw12_awake.calls  false _ A5.out).mono ?_); rintro e w30 ⟨rfl, hb⟩; refine ⟨_, rfl, ?_⟩; have n0_ := Aside0.mk (below_step (by repeat (first | (with_reducible first | exact HB.out | apply below_alloc | apply pw_below_drewN | apply below_drew1) | exact HB.out)) hb); clear HB; have HB := n0_; clear n0_; (try clear hb); (try clear hb2); (try clear hk); (try clear hi)))
    go_ret
    exact ⟨by first | rfl | (simp [errW_none, errW_some] <;> rfl) | (simp [*, errW_none, errW_some] <;> rfl), by repeat (first | (with_reducible first | exact HB.out | apply below_alloc | apply pw_below_drewN | apply below_drew1) | exact HB.out)⟩

/-- THE ONE PURE STATEMENT of steadinglaw12_HandleBack: yours. -/
def steadinglaw12_HandleBack.Pure : Prop := ∀ (a0 : Int) (a1 : Int) (a2 : Int) (a3 : Int), (Lit.int .u8 a0).wf = true → (Lit.int .u32 a1).wf = true → (Lit.int .u32 a2).wf = true → (Lit.int .u64 a3).wf = true → ∃ k, steadinglaw12_HandleBack.f k a0 a1 a2 a3 = some true
theorem steadinglaw12_HandleBack.walk (P : steadinglaw12_HandleBack.Pure) (a0 : Int) (a1 : Int) (a2 : Int) (a3 : Int) (w : World) (w0 : (Lit.int .u8 a0).wf = true) (w1 : (Lit.int .u32 a1).wf = true) (w2 : (Lit.int .u32 a2).wf = true) (w3 : (Lit.int .u64 a3).wf = true) :
    Calls Try.prog 5 #[.int .u8 a0, .int .u32 a1, .int .u32 a2, .int .u64 a3] w fun e w' => e = .returned (.bool true) ∧ Below w.heap.size w w' := by
  obtain ⟨k, h⟩ := P a0 a1 a2 a3 w0 w1 w2 w3
  refine (steadinglaw12_HandleBack.calls k a0 a1 a2 a3 true w h).mono ?_
  rintro e w' ⟨rfl, hd⟩
  exact ⟨rfl, hd⟩

end Go.Proofs.Ytabmmdpioennfaa.Hd
