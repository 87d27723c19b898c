-- Written by wip/mprint.py (a program of this session's, over the kit's print). Lean checks it.
import Derived.Test.YtccjcaomhijgdaaRnx0
import Derived.Test.YtccjcaomhijgdaaRnx4
import Derived.Test.YtccjcaomhijgdaaRnx6
import Derived.Test.YtccjcaomhijgdaaRnx12
import Derived.Test.YtccjcaomhijgdaaRnx15
import Derived.Test.YtccjcaomhijgdaaMHas
import Derived.Test.YtccjcaomhijgdaaMTake
namespace Go.Proofs.Ytccjcaomhijgdaa.Rn
open Go.RowKit Go.Proofs.YtccjcaomhijgdaaW.PrintWords Go.Proofs.YtccjcaomhijgdaaW.PrintLast Go.Proofs.YtccjcaomhijgdaaW.PrintMore
attribute [local go_sem] max2_int min2_int max_two min_two max_three min_three max_four min_four   -- for this text's walks alone
set_option linter.unusedVariables false
set_option linter.unusedSimpArgs false

/-! ### steadinglaw05_RunsDrain: function 10 -/
mutual
def steadinglaw05_RunsDrain.j0 : Nat → List (S36) → Bool → Option (Bool)
  | 0, _, _ => none
  | k + 1, x0, x33 => if x33 = true then (some true) else ((runs_Total.f k x0).bind fun t299 => (if 0 ≤ 35184372088832 then ((some (([] : List (S36)) : List (S36))).bind fun y303 => (if y303.length + x0.length < 8796093022208 then (steadinglaw05_RunsDrain.l0 k x0 t299 (List.replicate 0 0) (y303 ++ x0) 0) else (none))) else (none)))
def steadinglaw05_RunsDrain.l0 : Nat → List (S36) → Int → List Int → List (S36) → Int → Option (Bool)
  | 0, _, _, _, _, _ => none
  | k + 1, x0, x5, x6, x7, x8 => if x8 < x5 then ((runs_Best.f k x7 1).bind fun t314 => ((runs_Take.f x7 1).bind fun bt315 => (if bt315.2.2 = true then (if t314 < 0 then (steadinglaw05_RunsDrain.j2 k x0 x5 x6 x8 bt315.1 bt315.2.1 true) else (if 0 ≤ t314 then (if t314 < (x7.length : Int) then (if ((rd_T36 x7 t314).f0) = bt315.1 then ((runs_Has.f x0 bt315.1 1).bind fun t321 => (steadinglaw05_RunsDrain.j2 k x0 x5 x6 x8 bt315.1 bt315.2.1 (!t321))) else (steadinglaw05_RunsDrain.j2 k x0 x5 x6 x8 bt315.1 bt315.2.1 true)) else (none)) else (none))) else (steadinglaw05_RunsDrain.j2 k x0 x5 x6 x8 bt315.1 bt315.2.1 true)))) else ((runs_Take.f x7 1).bind fun bt309 => (if bt309.2.2 = true then (some false) else (some ((x7.length : Int) == 0))))
def steadinglaw05_RunsDrain.j2 : Nat → List (S36) → Int → List Int → Int → Int → List (S36) → Bool → Option (Bool)
  | 0, _, _, _, _, _, _, _ => none
  | k + 1, x0, x5, x6, x8, x10, x11, x73 => if x73 = true then (some false) else (steadinglaw05_RunsDrain.l1 k x0 x5 x6 x8 x10 x11 0)
def steadinglaw05_RunsDrain.l1 : Nat → List (S36) → Int → List Int → Int → Int → List (S36) → Int → Option (Bool)
  | 0, _, _, _, _, _, _, _ => none
  | k + 1, x0, x5, x6, x8, x10, x11, x13 => if x13 < (x6.length : Int) then (if 0 ≤ x13 then (if (rd x6 x13) = x10 then (some false) else (steadinglaw05_RunsDrain.l1 k x0 x5 x6 x8 x10 x11 (wrap64 (x13 + 1)))) else (none)) else (if x6.length < 17592186044416 then (steadinglaw05_RunsDrain.l0 k x0 x5 (x6 ++ [x10]) x11 (wrap64 (x8 + 1))) else (none))
end
def steadinglaw05_RunsDrain.f (k : Nat) (l0 : List (S36)) : Option (Bool) := (steadinglaw05_awake.f k).bind fun t296 => (if t296 = true then ((steadinglaw05_few.f k l0).bind fun t297 => (if t297 = true then (if (l0.length : Int) > 8 then (steadinglaw05_RunsDrain.j0 k l0 true) else ((runs_Total.f k l0).bind fun t298 => (steadinglaw05_RunsDrain.j0 k l0 (decide (t298 > 400))))) else (steadinglaw05_RunsDrain.j0 k l0 true))) else (some false))
theorem steadinglaw05_RunsDrain.mono_l : ∀ k, (∀ y0 y1, LeO (steadinglaw05_RunsDrain.j0 k y0 y1) (steadinglaw05_RunsDrain.j0 (k + 1) y0 y1)) ∧ (∀ y0 y1 y2 y3 y4, LeO (steadinglaw05_RunsDrain.l0 k y0 y1 y2 y3 y4) (steadinglaw05_RunsDrain.l0 (k + 1) y0 y1 y2 y3 y4)) ∧ (∀ y0 y1 y2 y3 y4 y5 y6, LeO (steadinglaw05_RunsDrain.j2 k y0 y1 y2 y3 y4 y5 y6) (steadinglaw05_RunsDrain.j2 (k + 1) y0 y1 y2 y3 y4 y5 y6)) ∧ (∀ y0 y1 y2 y3 y4 y5 y6, LeO (steadinglaw05_RunsDrain.l1 k y0 y1 y2 y3 y4 y5 y6) (steadinglaw05_RunsDrain.l1 (k + 1) y0 y1 y2 y3 y4 y5 y6))
  | 0 => ⟨fun _ _ r h => by simp [steadinglaw05_RunsDrain.j0] at h, fun _ _ _ _ _ r h => by simp [steadinglaw05_RunsDrain.l0] at h, fun _ _ _ _ _ _ _ r h => by simp [steadinglaw05_RunsDrain.j2] at h, fun _ _ _ _ _ _ _ r h => by simp [steadinglaw05_RunsDrain.l1] at h⟩
  | k + 1 => by
    obtain ⟨ih0, ih1, ih2, ih3⟩ := steadinglaw05_RunsDrain.mono_l k
    refine ⟨?_, ?_, ?_, ?_⟩
    · intro y0 y1
      unfold steadinglaw05_RunsDrain.j0
      repeat' first
      | (with_reducible exact ih0 _ _)
      | (with_reducible exact ih1 _ _ _ _ _)
      | (with_reducible exact ih2 _ _ _ _ _ _ _)
      | (with_reducible exact ih3 _ _ _ _ _ _ _)
      | (with_reducible exact runs_Best.mono _ _ _)
      | (with_reducible exact runs_Total.mono _ _)
      | (with_reducible exact steadinglaw05_awake.mono _)
      | (with_reducible exact steadinglaw05_few.mono _ _)
      | (with_reducible exact LeO.refl _)
      | (with_reducible exact LeO.none _)
      | (with_reducible refine LeO.ite ?_ ?_)
      | (with_reducible refine LeO.bind ?_ (fun _ => ?_))
      | exact ih0 _ _
      | exact ih1 _ _ _ _ _
      | exact ih2 _ _ _ _ _ _ _
      | exact ih3 _ _ _ _ _ _ _
      | exact runs_Best.mono _ _ _
      | exact runs_Total.mono _ _
      | exact steadinglaw05_awake.mono _
      | exact steadinglaw05_few.mono _ _
      | exact LeO.none _
      | refine LeO.ite ?_ ?_
      | refine LeO.bind ?_ (fun _ => ?_)
    · intro y0 y1 y2 y3 y4
      unfold steadinglaw05_RunsDrain.l0
      repeat' first
      | (with_reducible exact ih0 _ _)
      | (with_reducible exact ih1 _ _ _ _ _)
      | (with_reducible exact ih2 _ _ _ _ _ _ _)
      | (with_reducible exact ih3 _ _ _ _ _ _ _)
      | (with_reducible exact runs_Best.mono _ _ _)
      | (with_reducible exact runs_Total.mono _ _)
      | (with_reducible exact steadinglaw05_awake.mono _)
      | (with_reducible exact steadinglaw05_few.mono _ _)
      | (with_reducible exact LeO.refl _)
      | (with_reducible exact LeO.none _)
      | (with_reducible refine LeO.ite ?_ ?_)
      | (with_reducible refine LeO.bind ?_ (fun _ => ?_))
      | exact ih0 _ _
      | exact ih1 _ _ _ _ _
      | exact ih2 _ _ _ _ _ _ _
      | exact ih3 _ _ _ _ _ _ _
      | exact runs_Best.mono _ _ _
      | exact runs_Total.mono _ _
      | exact steadinglaw05_awake.mono _
      | exact steadinglaw05_few.mono _ _
      | exact LeO.none _
      | refine LeO.ite ?_ ?_
      | refine LeO.bind ?_ (fun _ => ?_)
    · intro y0 y1 y2 y3 y4 y5 y6
      unfold steadinglaw05_RunsDrain.j2
      repeat' first
      | (with_reducible exact ih0 _ _)
      | (with_reducible exact ih1 _ _ _ _ _)
      | (with_reducible exact ih2 _ _ _ _ _ _ _)
      | (with_reducible exact ih3 _ _ _ _ _ _ _)
      | (with_reducible exact runs_Best.mono _ _ _)
      | (with_reducible exact runs_Total.mono _ _)
      | (with_reducible exact steadinglaw05_awake.mono _)
      | (with_reducible exact steadinglaw05_few.mono _ _)
      | (with_reducible exact LeO.refl _)
      | (with_reducible exact LeO.none _)
      | (with_reducible refine LeO.ite ?_ ?_)
      | (with_reducible refine LeO.bind ?_ (fun _ => ?_))
      | exact ih0 _ _
      | exact ih1 _ _ _ _ _
      | exact ih2 _ _ _ _ _ _ _
      | exact ih3 _ _ _ _ _ _ _
      | exact runs_Best.mono _ _ _
      | exact runs_Total.mono _ _
      | exact steadinglaw05_awake.mono _
      | exact steadinglaw05_few.mono _ _
      | exact LeO.none _
      | refine LeO.ite ?_ ?_
      | refine LeO.bind ?_ (fun _ => ?_)
    · intro y0 y1 y2 y3 y4 y5 y6
      unfold steadinglaw05_RunsDrain.l1
      repeat' first
      | (with_reducible exact ih0 _ _)
      | (with_reducible exact ih1 _ _ _ _ _)
      | (with_reducible exact ih2 _ _ _ _ _ _ _)
      | (with_reducible exact ih3 _ _ _ _ _ _ _)
      | (with_reducible exact runs_Best.mono _ _ _)
      | (with_reducible exact runs_Total.mono _ _)
      | (with_reducible exact steadinglaw05_awake.mono _)
      | (with_reducible exact steadinglaw05_few.mono _ _)
      | (with_reducible exact LeO.refl _)
      | (with_reducible exact LeO.none _)
      | (with_reducible refine LeO.ite ?_ ?_)
      | (with_reducible refine LeO.bind ?_ (fun _ => ?_))
      | exact ih0 _ _
      | exact ih1 _ _ _ _ _
      | exact ih2 _ _ _ _ _ _ _
      | exact ih3 _ _ _ _ _ _ _
      | exact runs_Best.mono _ _ _
      | exact runs_Total.mono _ _
      | exact steadinglaw05_awake.mono _
      | exact steadinglaw05_few.mono _ _
      | exact LeO.none _
      | refine LeO.ite ?_ ?_
      | refine LeO.bind ?_ (fun _ => ?_)
theorem steadinglaw05_RunsDrain.mono : ∀ a0 k, LeO (steadinglaw05_RunsDrain.f k a0) (steadinglaw05_RunsDrain.f (k + 1) a0) := by
  intro a0 k
  obtain ⟨ih0, ih1, ih2, ih3⟩ := steadinglaw05_RunsDrain.mono_l k
  unfold steadinglaw05_RunsDrain.f
  repeat' first
      | (with_reducible exact ih0 _ _)
      | (with_reducible exact ih1 _ _ _ _ _)
      | (with_reducible exact ih2 _ _ _ _ _ _ _)
      | (with_reducible exact ih3 _ _ _ _ _ _ _)
      | (with_reducible exact runs_Best.mono _ _ _)
      | (with_reducible exact runs_Total.mono _ _)
      | (with_reducible exact steadinglaw05_awake.mono _)
      | (with_reducible exact steadinglaw05_few.mono _ _)
      | (with_reducible exact LeO.refl _)
      | (with_reducible exact LeO.none _)
      | (with_reducible refine LeO.ite ?_ ?_)
      | (with_reducible refine LeO.bind ?_ (fun _ => ?_))
      | exact ih0 _ _
      | exact ih1 _ _ _ _ _
      | exact ih2 _ _ _ _ _ _ _
      | exact ih3 _ _ _ _ _ _ _
      | exact runs_Best.mono _ _ _
      | exact runs_Total.mono _ _
      | exact steadinglaw05_awake.mono _
      | exact steadinglaw05_few.mono _ _
      | exact LeO.none _
      | refine LeO.ite ?_ ?_
      | refine LeO.bind ?_ (fun _ => ?_)
set_option maxHeartbeats 8000000 in
set_option maxRecDepth 100000 in
theorem steadinglaw05_RunsDrain.calls (k : Nat) (A0 : Option Addr) (c0 : Nat) (l0 : List (S36)) (r : Bool) (w : World) (hr0 : Kd.C k36 w A0 l0.length l0) (hc0 : l0.length ≤ c0) (h : steadinglaw05_RunsDrain.f k l0 = some r) :
    Calls Try.prog 10 #[.slice A0 l0.length c0] w fun e w' => e = .returned (.bool r) ∧ Below w.heap.size w w' := by
  have HR0 := Aside0.mk hr0
  have HC0 := Aside0.mk hc0
  clear hr0 hc0
  have HB := Aside0.mk (Below.refl w.heap.size w)
  have H : ((steadinglaw05_awake.f k).bind fun t296 => (if t296 = true then ((steadinglaw05_few.f k l0).bind fun t297 => (if t297 = true then (if (l0.length : Int) > 8 then (steadinglaw05_RunsDrain.j0 k l0 true) else ((runs_Total.f k l0).bind fun t298 => (steadinglaw05_RunsDrain.j0 k l0 (decide (t298 > 400))))) else (steadinglaw05_RunsDrain.j0 k l0 true))) else (some false))) = some r := h
  clear h
  replace H := Option.bind_eq_some_iff.mp H
  obtain ⟨t296, A20, H⟩ := H
  replace H : (if t296 = true then ((steadinglaw05_few.f k l0).bind fun t297 => (if t297 = true then (if (l0.length : Int) > 8 then (steadinglaw05_RunsDrain.j0 k l0 true) else ((runs_Total.f k l0).bind fun t298 => (steadinglaw05_RunsDrain.j0 k l0 (decide (t298 > 400))))) else (steadinglaw05_RunsDrain.j0 k l0 true))) else (some false)) = some r := H
  have A2 := Aside0.mk A20
  clear A20
  by_cases c3 : t296 = true
  · subst c3
    have H1 : ((steadinglaw05_few.f k l0).bind fun t297 => (if t297 = true then (if (l0.length : Int) > 8 then (steadinglaw05_RunsDrain.j0 k l0 true) else ((runs_Total.f k l0).bind fun t298 => (steadinglaw05_RunsDrain.j0 k l0 (decide (t298 > 400))))) else (steadinglaw05_RunsDrain.j0 k l0 true))) = some r := by rw [if_pos rfl] at H; exact H
    clear H
    have H := H1
    clear H1
    replace H := Option.bind_eq_some_iff.mp H
    obtain ⟨t297, A40, H⟩ := H
    replace H : (if t297 = true then (if (l0.length : Int) > 8 then (steadinglaw05_RunsDrain.j0 k l0 true) else ((runs_Total.f k l0).bind fun t298 => (steadinglaw05_RunsDrain.j0 k l0 (decide (t298 > 400))))) else (steadinglaw05_RunsDrain.j0 k l0 true)) = some r := H
    have A4 := Aside0.mk A40
    clear A40
    have HC5 := Aside0.mk H
    clear H
    go_enter Try.func10, Try.ntmps10
    go_upto_region 5 with (first | ((with_reducible refine gate_callee (f := 11) rfl ?_); refine goesL_ (some 17) rfl rfl Try.func11 (by kernel_rfl) rfl #[] rfl (by (try simp only [List.map_toArray, List.map_cons, List.map_nil]); first | done | rfl | (simp only [List.length_drop, List.length_take]; rfl)) ?_; (with_reducible refine (steadinglaw05_awake.calls k  true _ A2.out).mono ?_); rintro e w6 ⟨rfl, hb⟩; refine ⟨_, rfl, ?_⟩; have n0_ := Aside0.mk (below_step (by repeat (first | (with_reducible first | exact HB.out | apply below_alloc | apply pw_below_drewN | apply below_drew1) | exact HB.out)) hb); clear HB; have HB := n0_; clear n0_; (try clear hb); (try clear hb2); (try clear hk); (try clear hi)) | ((with_reducible refine gate_callee (f := 14) rfl ?_); refine goesL_ (some 21) rfl rfl Try.func14 (by kernel_rfl) rfl #[.slice A0 l0.length c0] rfl (by (try simp only [List.map_toArray, List.map_cons, List.map_nil]); first | done | rfl | (simp only [List.length_drop, List.length_take]; rfl)) ?_; (with_reducible refine (steadinglaw05_few.calls k _ _ l0 t297 _ ?side1 ?side2 A4.out).mono ?_); (case side1 => repeat (first | exact (Kd.C_below HR0.out HB.out) | (with_reducible refine Kd.C_alloc ?_ _) | (with_reducible refine Kd.C_drewN ?_ _) | (with_reducible refine Kd.C_drew ?_))); (case side2 => exact HC0.out); rintro e w7 ⟨rfl, hb⟩; refine ⟨_, rfl, ?_⟩; have n0_ := Aside0.mk (below_step (by repeat (first | (with_reducible first | exact HB.out | apply below_alloc | apply pw_below_drewN | apply below_drew1) | exact HB.out)) hb); clear HB; have HB := n0_; clear n0_; (try clear hb); (try clear hb2); (try clear hk); (try clear hi)))
    (try simp only [Act.put, List.setIfInBounds_toArray, List.set_cons_zero, List.set_cons_succ])
    go_cut [33] (fun v33 wc => ∃ (kq : Nat) (x33_4 : Bool), v33 = .bool x33_4 ∧ Aside0 (steadinglaw05_RunsDrain.j0 kq l0 x33_4 = some r) ∧ Aside0 (kq ≤ k) ∧ Aside0 (Below w.heap.size w wc))
    case first =>
      have H := HC5.out
      clear HC5
      by_cases c8 : t297 = true
      · subst c8
        have H1 : (if (l0.length : Int) > 8 then (steadinglaw05_RunsDrain.j0 k l0 true) else ((runs_Total.f k l0).bind fun t298 => (steadinglaw05_RunsDrain.j0 k l0 (decide (t298 > 400))))) = some r := by rw [if_pos rfl] at H; exact H
        clear H
        have H := H1
        clear H1
        by_cases c9 : (l0.length : Int) > 8
        · rw [if_pos c9] at H
          have c9b0 : decide (8 < (l0.length : Int)) = true := decide_eq_true c9
          have c9b1 : decide (8 < l0.length) = true := decide_eq_true (by omega)
          clear c9
          (first | rw [c9b0] | (simp only [i64_w, i32_w]; rw [c9b0]) | skip)
          have H' := Aside0.mk H
          clear H
          go_wp2
          go_meet
          case rel => exact ⟨_, (true), (by first | rfl | (simp; done) | (simp [*]; done)), H', ⟨by first | omega | exact Nat.le_refl _⟩, ⟨by repeat (first | (with_reducible first | exact HB.out | apply below_alloc | apply pw_below_drewN | apply below_drew1) | exact HB.out)⟩⟩
        · rw [if_neg c9] at H
          have c9b0 : decide (8 < (l0.length : Int)) = false := decide_eq_false c9
          have c9b1 : decide (8 < l0.length) = false := decide_eq_false (by omega)
          clear c9
          (first | rw [c9b0] | (simp only [i64_w, i32_w]; rw [c9b0]) | skip)
          replace H := Option.bind_eq_some_iff.mp H
          obtain ⟨t298, A100, H⟩ := H
          replace H : (steadinglaw05_RunsDrain.j0 k l0 (decide (t298 > 400))) = some r := H
          have A10 := Aside0.mk A100
          clear A100
          have H' := Aside0.mk H
          clear H
          go_wp2_with (first | (go_at_call 17; (with_reducible refine (runs_Total.calls k _ _ l0 t298 _ ?side1 ?side2 A10.out).mono ?_); (case side1 => repeat (first | exact (Kd.C_below HR0.out HB.out) | (with_reducible refine Kd.C_alloc ?_ _) | (with_reducible refine Kd.C_drewN ?_ _) | (with_reducible refine Kd.C_drew ?_))); (case side2 => exact HC0.out); rintro e w11 ⟨rfl, hb⟩; have n0_ := Aside0.mk (below_step (by repeat (first | (with_reducible first | exact HB.out | apply below_alloc | apply pw_below_drewN | apply below_drew1) | exact HB.out)) hb); clear HB; have HB := n0_; clear n0_; (try clear hb); (try clear hb2); (try clear hk); (try clear hi)))
          go_meet
          case rel => exact ⟨_, (decide (t298 > 400)), (by first | rfl | (simp; done) | (simp [*]; done)), H', ⟨by first | omega | exact Nat.le_refl _⟩, ⟨by repeat (first | (with_reducible first | exact HB.out | apply below_alloc | apply pw_below_drewN | apply below_drew1) | exact HB.out)⟩⟩
      · replace c8 := Bool.eq_false_iff.mpr c8
        subst c8
        have H1 : (steadinglaw05_RunsDrain.j0 k l0 true) = some r := by rw [if_neg (show ¬ (false = true) by decide)] at H; exact H
        clear H
        have H := H1
        clear H1
        have H' := Aside0.mk H
        clear H
        go_wp2
        go_meet
        case rel => exact ⟨_, (true), (by first | rfl | (simp; done) | (simp [*]; done)), H', ⟨by first | omega | exact Nat.le_refl _⟩, ⟨by repeat (first | (with_reducible first | exact HB.out | apply below_alloc | apply pw_below_drewN | apply below_drew1) | exact HB.out)⟩⟩
    case rest =>
      clear HC5
      try clear c1
      try clear p2
      try clear c3
      try clear c8
      try clear c9
      try clear c9b0
      try clear c9b1
      try clear c10
      try clear c11
      obtain ⟨kq, x33_4, rfl, HA, HJ4, HB⟩ := hcut
      cases kq with
      | zero => exact absurd HA.out (by simp [steadinglaw05_RunsDrain.j0])
      | succ kj4 =>
        have H := HA.out
        clear HA
        simp only [steadinglaw05_RunsDrain.j0] at H
        by_cases c12 : x33_4 = true
        · subst c12
          have H1 : (some true) = some r := by rw [if_pos rfl] at H; exact H
          clear H
          have H := H1
          clear H1
          obtain rfl := Option.some.inj H
          go_wp2
          go_ret
          exact ⟨by first | rfl | (simp [errW_none, errW_some] <;> rfl) | (simp [*, errW_none, errW_some] <;> rfl), by repeat (first | (with_reducible first | exact HB.out | apply below_alloc | apply pw_below_drewN | apply below_drew1) | exact HB.out)⟩
        · replace c12 := Bool.eq_false_iff.mpr c12
          subst c12
          have H1 : ((runs_Total.f kj4 l0).bind fun t299 => (if 0 ≤ 35184372088832 then ((some (([] : List (S36)) : List (S36))).bind fun y303 => (if y303.length + l0.length < 8796093022208 then (steadinglaw05_RunsDrain.l0 kj4 l0 t299 (List.replicate 0 0) (y303 ++ l0) 0) else (none))) else (none))) = some r := by rw [if_neg (show ¬ (false = true) by decide)] at H; exact H
          clear H
          have H := H1
          clear H1
          replace H := Option.bind_eq_some_iff.mp H
          obtain ⟨t299, A130, H⟩ := H
          replace H : (if 0 ≤ 35184372088832 then ((some (([] : List (S36)) : List (S36))).bind fun y303 => (if y303.length + l0.length < 8796093022208 then (steadinglaw05_RunsDrain.l0 kj4 l0 t299 (List.replicate 0 0) (y303 ++ l0) 0) else (none))) else (none)) = some r := H
          have A13 := Aside0.mk A130
          clear A130
          by_cases c14 : 0 ≤ 35184372088832
          · rw [if_pos c14] at H
            have c14b0 := eq_true c14
            have c14b1 : decide (0 ≤ 35184372088832) = true := decide_eq_true c14
            clear c14
            obtain ⟨y300, hy300⟩ : ∃ y_ : List Int, y_ = (List.replicate 0 0) := ⟨_, rfl⟩
            replace H : ((some (([] : List (S36)) : List (S36))).bind fun y303 => (if y303.length + l0.length < 8796093022208 then (steadinglaw05_RunsDrain.l0 kj4 l0 t299 y300 (y303 ++ l0) 0) else (none))) = some r := by first | (rw [hy300]; with_reducible exact H) | (have H2_ := (Option.bind_some _ _).symm.trans H; rw [hy300]; with_reducible exact H2_) | (have H2_ := (Option.bind_some _ _).symm.trans H; with_reducible exact H2_) | with_reducible exact H | (rw [hy300]; exact H) | exact H
            have Ny300 := Aside0.mk hy300
            clear hy300
            obtain ⟨y303, hy303⟩ : ∃ y_ : List (S36), y_ = (([] : List (S36))) := ⟨_, rfl⟩
            replace H : (if y303.length + l0.length < 8796093022208 then (steadinglaw05_RunsDrain.l0 kj4 l0 t299 y300 (y303 ++ l0) 0) else (none)) = some r := by first | (rw [hy303]; with_reducible exact H) | (have H2_ := (Option.bind_some _ _).symm.trans H; rw [hy303]; with_reducible exact H2_) | (have H2_ := (Option.bind_some _ _).symm.trans H; with_reducible exact H2_) | with_reducible exact H | (rw [hy303]; exact H) | exact H
            have Ny303 := Aside0.mk hy303
            clear hy303
            by_cases c15 : y303.length + l0.length < 8796093022208
            · rw [if_pos c15] at H
              have LMc15 := Aside0.mk c15
              clear c15
              obtain ⟨y306, hy306⟩ : ∃ y_ : List (S36), y_ = (y303 ++ l0) := ⟨_, rfl⟩
              replace H : (steadinglaw05_RunsDrain.l0 kj4 l0 t299 y300 y306 0) = some r := by first | (rw [hy306]; with_reducible exact H) | (have H2_ := (Option.bind_some _ _).symm.trans H; rw [hy306]; with_reducible exact H2_) | (have H2_ := (Option.bind_some _ _).symm.trans H; with_reducible exact H2_) | with_reducible exact H | (rw [hy306]; exact H) | exact H
              have Ny306 := Aside0.mk hy306
              clear hy306
              have H' := Aside0.mk H
              clear H
              go_wp2_with (first | ((with_reducible refine gate_callee (f := 17) rfl ?_); refine goesL_ (some 35) rfl rfl Try.func17 (by kernel_rfl) rfl #[.slice A0 l0.length c0] rfl (by (try simp only [List.map_toArray, List.map_cons, List.map_nil]); first | done | rfl | (simp only [List.length_drop, List.length_take]; rfl)) ?_; (with_reducible refine (runs_Total.calls kj4 _ _ l0 t299 _ ?side1 ?side2 A13.out).mono ?_); (case side1 => repeat (first | exact (Kd.C_below HR0.out HB.out) | (with_reducible refine Kd.C_alloc ?_ _) | (with_reducible refine Kd.C_drewN ?_ _) | (with_reducible refine Kd.C_drew ?_))); (case side2 => exact HC0.out); rintro e w16 ⟨rfl, hb⟩; refine ⟨_, rfl, ?_⟩; have n0_ := Aside0.mk (below_step (by repeat (first | (with_reducible first | exact HB.out | apply below_alloc | apply pw_below_drewN | apply below_drew1) | exact HB.out)) hb); clear HB; have HB := n0_; clear n0_; (try clear hb); (try clear hb2); (try clear hk); (try clear hi)) | ((with_reducible refine gate_dst (N := 36) rfl ?_); (try (refine gate_guard (by rfl) ?_; dsimp only)); refine Kd.R_make (Kd.int .i64) _ 3 rfl (N := 36) rfl 39 _ _ rfl 0 rfl rfl Try.underlying39 (.int .i64 0) 8 info3 rfl (by decide) (by omega) 0 (ok := fun _ => True) (okp := fun _ => True) rfl (fun _ hk => hk) trivial (by omega) (by omega) (Below.refl _ _) (Nat.le_refl _) ?_; intro v301 w17 ho18 hb hg_ hnew_; clear hg_ hnew_; (first | rw [← Ny300.out] at ho18 | (simp only [Int.reduceToNat] at ho18; rw [← Ny300.out] at ho18)); have n0_ := Aside0.mk (Kd.R_lower ho18 (below_size (by repeat (first | (with_reducible first | exact HB.out | apply below_alloc | apply pw_below_drewN | apply below_drew1) | exact HB.out)))); have n1_ := Aside0.mk (below_step (by repeat (first | (with_reducible first | exact HB.out | apply below_alloc | apply pw_below_drewN | apply below_drew1) | exact HB.out)) hb); clear HB; have HO302 := n0_; have HB := n1_; clear n0_ n1_; clear hb ho18) | ((with_reducible refine gate_dst (N := 37) rfl ?_); (try (refine gate_guard (by rfl) ?_; dsimp only)); refine Kd.R_lit k36 _ 36 ?hg (N := 37) ?hd (xs := ([] : List (S36))) (inner := []) (ok := fun _ => True) (okp := fun _ => True) ?hr ?hp (fun _ hk => hk) trivial (Below.refl _ _) (Nat.le_refl _) (by simp) ?_; (case hd => rfl); (case hg => rfl); (case hr => first | (go_simp; done) | (go_simp; rfl)); (case hp => exact (Reps.none _ _)); intro v304 w19 ho20 hb hg_ hnew_; clear hg_ hnew_; (first | rw [← Ny303.out] at ho20 | (simp only [Int.reduceToNat] at ho20; rw [← Ny303.out] at ho20)); have n0_ := Aside0.mk (Kd.R_below (by (with_reducible repeat (first | apply Kd.R_alloc | apply Kd.R_drewN | apply Kd.R_drew)); exact HO302.out) hb); have n1_ := Aside0.mk (Kd.R_lower ho20 (below_size (by repeat (first | (with_reducible first | exact HB.out | apply below_alloc | apply pw_below_drewN | apply below_drew1) | exact HB.out)))); have n2_ := Aside0.mk (below_step (by repeat (first | (with_reducible first | exact HB.out | apply below_alloc | apply pw_below_drewN | apply below_drew1) | exact HB.out)) hb); clear HO302; clear HB; have HO302 := n0_; have HO305 := n1_; have HB := n2_; clear n0_ n1_ n2_; clear hb ho20) | ((with_reducible refine gate_builtin (b := .append) (xs := #[.tmp 37, .tmp 38]) rfl ?_); (try (refine gate_guard (by rfl) ?_; dsimp only)); at_builtin; refine Kd.R_append_rows k36 (w0 := w) w.heap.size rfl (.tmp 37) (.tmp 38) 22 36 (.agg #[(.int .i64 0), (.int .i64 0)]) 16 rfl Try.underlying22 info36 rfl (by decide) (by omega) v304 y303 l0 _ _ _ (fun _ => True) (fun _ => False) rfl rfl ?aO ?aR (fun _ _ h => h) (fun _ h => h.elim) ?aF ?aB ?aS ?aL ?_; (case aR => repeat (first | exact (Kd.C_below HR0.out HB.out) | (with_reducible refine Kd.C_alloc ?_ _) | (with_reducible refine Kd.C_drewN ?_ _) | (with_reducible refine Kd.C_drew ?_))); (case aB => exact (by repeat (first | (with_reducible first | exact HB.out | apply below_alloc | apply pw_below_drewN | apply below_drew1) | exact HB.out))); (case aF => exact (fun _ _ => trivial)); (case aO => exact (by (with_reducible repeat (first | apply Kd.R_alloc | apply Kd.R_drewN | apply Kd.R_drew)); exact HO305.out)); (case aS => exact (below_size (by repeat (first | (with_reducible first | exact HB.out | apply below_alloc | apply pw_below_drewN | apply below_drew1) | exact HB.out)))); (case aL => have := LMc15.out; omega); intro v307 w21 ho hb hg hat; rw [← Ny306.out] at ho; have n0_ := Aside0.mk (Kd.R_over' (by (with_reducible repeat (first | apply Kd.R_alloc | apply Kd.R_drewN | apply Kd.R_drew)); exact HO302.out) (Kd.R_typed (by (with_reducible repeat (first | apply Kd.R_alloc | apply Kd.R_drewN | apply Kd.R_drew)); exact HO305.out)) (by decide) hg); have n1_ := Aside0.mk (hb); have n2_ := Aside0.mk (ho); clear HO302; clear HB; clear HO305; have HO302 := n0_; have HB := n1_; have HO308 := n2_; clear n0_ n1_ n2_; clear ho hb hg hat))
              go_loopg [6, 7, 8] kj4 (fun kq v6 v7 v8 w' => ∃ (x6_2 : List Int) (x7_2 : List (S36)) (x8_2 : Int), v8 = .int .i64 x8_2 ∧ Aside0 (steadinglaw05_RunsDrain.l0 kq l0 t299 x6_2 x7_2 x8_2 = some r) ∧ Aside0 (kq ≤ kj4) ∧ Aside0 (Kd.R (Kd.int .i64) 3 w' w.heap.size (fun _ => True) v6 x6_2) ∧ Aside0 (Kd.R k36 36 w' w.heap.size (fun _ => True) v7 x7_2) ∧ Aside0 (Below w.heap.size w w'))
              case atStart => exact ⟨(y300), (y306), (0), (by first | rfl | (simp; done) | (simp [*]; done)), H', ⟨Nat.le_refl _⟩, ⟨by (with_reducible repeat (first | apply Kd.R_alloc | apply Kd.R_drewN | apply Kd.R_drew)); exact HO302.out⟩, ⟨by (with_reducible repeat (first | apply Kd.R_alloc | apply Kd.R_drewN | apply Kd.R_drew)); exact HO308.out⟩, ⟨by repeat (first | (with_reducible first | exact HB.out | apply below_alloc | apply pw_below_drewN | apply below_drew1) | exact HB.out)⟩⟩
              case round =>
                clear H'
                try clear c1
                try clear p2
                try clear c3
                try clear c8
                try clear c9
                try clear c9b0
                try clear c9b1
                try clear c10
                try clear c11
                try clear c12
                try clear c14
                try clear c14b0
                try clear c14b1
                try clear c15
                try clear c17
                try clear p2
                obtain ⟨x6_2, x7_2, x8_2, rfl, HA, HK2, HO_6, HO_7, HB⟩ := hrel
                cases gk with
                | zero => exact absurd HA.out (by simp [steadinglaw05_RunsDrain.l0])
                | succ k2 =>
                  have H := HA.out
                  clear HA
                  simp only [steadinglaw05_RunsDrain.l0] at H
                  by_cases c22 : x8_2 < t299
                  · rw [if_pos c22] at H
                    have c22b0 : decide (x8_2 < t299) = true := decide_eq_true c22
                    clear c22
                    replace H := Option.bind_eq_some_iff.mp H
                    obtain ⟨t314, A230, H⟩ := H
                    replace H : ((runs_Take.f x7_2 1).bind fun bt315 => (if bt315.2.2 = true then (if t314 < 0 then (steadinglaw05_RunsDrain.j2 k2 l0 t299 x6_2 x8_2 bt315.1 bt315.2.1 true) else (if 0 ≤ t314 then (if t314 < (x7_2.length : Int) then (if ((rd_T36 x7_2 t314).f0) = bt315.1 then ((runs_Has.f l0 bt315.1 1).bind fun t321 => (steadinglaw05_RunsDrain.j2 k2 l0 t299 x6_2 x8_2 bt315.1 bt315.2.1 (!t321))) else (steadinglaw05_RunsDrain.j2 k2 l0 t299 x6_2 x8_2 bt315.1 bt315.2.1 true)) else (none)) else (none))) else (steadinglaw05_RunsDrain.j2 k2 l0 t299 x6_2 x8_2 bt315.1 bt315.2.1 true))) = some r := H
                    have A23 := Aside0.mk A230
                    clear A230
                    replace H := Option.bind_eq_some_iff.mp H
                    obtain ⟨⟨t315, t316, t317⟩, A240, H⟩ := H
                    replace H : (if t317 = true then (if t314 < 0 then (steadinglaw05_RunsDrain.j2 k2 l0 t299 x6_2 x8_2 t315 t316 true) else (if 0 ≤ t314 then (if t314 < (x7_2.length : Int) then (if ((rd_T36 x7_2 t314).f0) = t315 then ((runs_Has.f l0 t315 1).bind fun t321 => (steadinglaw05_RunsDrain.j2 k2 l0 t299 x6_2 x8_2 t315 t316 (!t321))) else (steadinglaw05_RunsDrain.j2 k2 l0 t299 x6_2 x8_2 t315 t316 true)) else (none)) else (none))) else (steadinglaw05_RunsDrain.j2 k2 l0 t299 x6_2 x8_2 t315 t316 true)) = some r := H
                    have A24 := Aside0.mk A240
                    clear A240
                    have HC25 := Aside0.mk H
                    clear H
                    obtain ⟨Ao26, co26, eo26⟩ := Kd.R_slice HO_7.out
                    subst eo26
                    go_upto_region 15 with (first | ((with_reducible refine gate_callee (f := 19) rfl ?_); refine goesL_ (some 46) rfl rfl Try.func19 (by kernel_rfl) rfl #[.slice Ao26 x7_2.length co26, .int .i64 1] rfl (by (try simp only [List.map_toArray, List.map_cons, List.map_nil]); first | done | rfl | (simp only [List.length_drop, List.length_take]; rfl)) ?_; (with_reducible refine (runs_Best.calls k2 _ _ x7_2 1 t314 _ ?side1 ?side2 A23.out).mono ?_); (case side1 => repeat (first | exact (Kd.R_reads' HO_7.out).2.2 | (with_reducible refine Kd.C_alloc ?_ _) | (with_reducible refine Kd.C_drewN ?_ _) | (with_reducible refine Kd.C_drew ?_))); (case side2 => exact (Kd.R_reads' HO_7.out).2.1); rintro e w27 ⟨rfl, hb⟩; refine ⟨_, rfl, ?_⟩; have n0_ := Aside0.mk (Kd.R_below (by (with_reducible repeat (first | apply Kd.R_alloc | apply Kd.R_drewN | apply Kd.R_drew)); exact HO_6.out) hb); have n1_ := Aside0.mk (Kd.R_below (by (with_reducible repeat (first | apply Kd.R_alloc | apply Kd.R_drewN | apply Kd.R_drew)); exact HO_7.out) hb); have n2_ := Aside0.mk (below_step (by repeat (first | (with_reducible first | exact HB.out | apply below_alloc | apply pw_below_drewN | apply below_drew1) | exact HB.out)) hb); clear HO_6; clear HO_7; clear HB; have HO_6 := n0_; have HO_7 := n1_; have HB := n2_; clear n0_ n1_ n2_; (try clear hb); (try clear hb2); (try clear hk); (try clear hi)) | ((with_reducible refine gate_callee (f := 15) rfl ?_); refine goesL_ (some 49) rfl rfl Try.func15 (by kernel_rfl) rfl #[.slice Ao26 x7_2.length co26, .int .i64 1] rfl (by (try simp only [List.map_toArray, List.map_cons, List.map_nil]); first | done | rfl | (simp only [List.length_drop, List.length_take]; rfl)) ?_; (with_reducible refine (runs_Take.calls _ _ x7_2 1 t315 t316 t317 _ ?side1 ?side2 A24.out).mono ?_); (case side1 => repeat (first | exact (Kd.R_reads' HO_7.out).2.2 | (with_reducible refine Kd.C_alloc ?_ _) | (with_reducible refine Kd.C_drewN ?_ _) | (with_reducible refine Kd.C_drew ?_))); (case side2 => exact (Kd.R_reads' HO_7.out).2.1); rintro e w28 ⟨v318, rfl, ho0, hb⟩; refine ⟨_, rfl, ?_⟩; have n0_ := Aside0.mk (Kd.R_below (by (with_reducible repeat (first | apply Kd.R_alloc | apply Kd.R_drewN | apply Kd.R_drew)); exact HO_6.out) hb); have n1_ := Aside0.mk (Kd.R_elder' (by (with_reducible repeat (first | apply Kd.R_alloc | apply Kd.R_drewN | apply Kd.R_drew)); exact HO_7.out) (Kd.R_base ho0) hb); have n2_ := Aside0.mk (Kd.R_lower (Kd.R_new' ho0 (Kd.R_lt (by (with_reducible repeat (first | apply Kd.R_alloc | apply Kd.R_drewN | apply Kd.R_drew)); exact HO_7.out))) (below_size (by repeat (first | (with_reducible first | exact HB.out | apply below_alloc | apply pw_below_drewN | apply below_drew1) | exact HB.out)))); have n3_ := Aside0.mk (below_step (by repeat (first | (with_reducible first | exact HB.out | apply below_alloc | apply pw_below_drewN | apply below_drew1) | exact HB.out)) hb); clear HO_6; clear HO_7; clear HB; have HO_6 := n0_; have HO_7 := n1_; have HO319 := n2_; have HB := n3_; clear n0_ n1_ n2_ n3_; (try clear hb); (try clear hb2); (try clear hk); (try clear hi); (try clear ho0)))
                    (try simp only [Act.put, List.setIfInBounds_toArray, List.set_cons_zero, List.set_cons_succ])
                    go_cut [73] (fun v73 wc => ∃ (kq : Nat) (x73_24 : Bool), v73 = .bool x73_24 ∧ Aside0 (steadinglaw05_RunsDrain.j2 kq l0 t299 x6_2 x8_2 t315 t316 x73_24 = some r) ∧ Aside0 (kq ≤ k2) ∧ Aside0 (Kd.R (Kd.int .i64) 3 wc w.heap.size (fun _ => True) u6 x6_2) ∧ Aside0 (Kd.R k36 36 wc w.heap.size (fun _ => True) v318 t316) ∧ Aside0 (Below w.heap.size w wc))
                    case first =>
                      have H := HC25.out
                      clear HC25
                      by_cases c29 : t317 = true
                      · subst c29
                        have H1 : (if t314 < 0 then (steadinglaw05_RunsDrain.j2 k2 l0 t299 x6_2 x8_2 t315 t316 true) else (if 0 ≤ t314 then (if t314 < (x7_2.length : Int) then (if ((rd_T36 x7_2 t314).f0) = t315 then ((runs_Has.f l0 t315 1).bind fun t321 => (steadinglaw05_RunsDrain.j2 k2 l0 t299 x6_2 x8_2 t315 t316 (!t321))) else (steadinglaw05_RunsDrain.j2 k2 l0 t299 x6_2 x8_2 t315 t316 true)) else (none)) else (none))) = some r := by rw [if_pos rfl] at H; exact H
                        clear H
                        have H := H1
                        clear H1
                        by_cases c30 : t314 < 0
                        · rw [if_pos c30] at H
                          have c30b0 : decide (t314 < 0) = true := decide_eq_true c30
                          clear c30
                          (first | rw [c30b0] | (simp only [i64_w, i32_w]; rw [c30b0]) | skip)
                          have H' := Aside0.mk H
                          clear H
                          go_wp2
                          go_meet
                          case rel => exact ⟨_, (true), (by first | rfl | (simp; done) | (simp [*]; done)), H', ⟨by have := HJ4.out; have := HK2.out; first | omega | exact Nat.le_refl _⟩, ⟨by (with_reducible repeat (first | apply Kd.R_alloc | apply Kd.R_drewN | apply Kd.R_drew)); exact HO_6.out⟩, ⟨by (with_reducible repeat (first | apply Kd.R_alloc | apply Kd.R_drewN | apply Kd.R_drew)); exact Kd.R_mono HO319.out (fun _ hk => trivial)⟩, ⟨by repeat (first | (with_reducible first | exact HB.out | apply below_alloc | apply pw_below_drewN | apply below_drew1) | exact HB.out)⟩⟩
                        · rw [if_neg c30] at H
                          have c30b0 : decide (t314 < 0) = false := decide_eq_false c30
                          clear c30
                          (first | rw [c30b0] | (simp only [i64_w, i32_w]; rw [c30b0]) | skip)
                          by_cases c31 : 0 ≤ t314
                          · rw [if_pos c31] at H
                            have c31b0 : decide (0 ≤ t314) = true := decide_eq_true c31
                            clear c31
                            by_cases c32 : t314 < (x7_2.length : Int)
                            · rw [if_pos c32] at H
                              have c32b0 : decide (t314 < (x7_2.length : Int)) = true := decide_eq_true c32
                              clear c32
                              by_cases c33 : ((rd_T36 x7_2 t314).f0) = t315
                              · rw [if_pos c33] at H
                                have c33b0 : (((rd_T36 x7_2 t314).f0) == t315) = true := beq_iff_eq.mpr c33
                                have c33b1 : (((rd_T36 x7_2 t314).f0) != t315) = false := bne_eq_false_iff_eq.mpr c33
                                clear c33
                                replace H := Option.bind_eq_some_iff.mp H
                                obtain ⟨t321, A340, H⟩ := H
                                replace H : (steadinglaw05_RunsDrain.j2 k2 l0 t299 x6_2 x8_2 t315 t316 (!t321)) = some r := H
                                have A34 := Aside0.mk A340
                                clear A340
                                have H' := Aside0.mk H
                                clear H
                                have p320 : 0 ≤ (t314 : Int) := of_decide_eq_true (by first | (with_reducible assumption) | assumption)
                                have q320 : t314 < (x7_2.length : Int) := of_decide_eq_true (by first | (with_reducible assumption) | assumption)
                                obtain ⟨ad320, e320, hx320_0, hx320_1⟩ := at_T36 (Kd.R_reads' HO_7.out).2.2 t314 p320 q320
                                cases e320
                                replace p320 := eq_true p320
                                replace q320 := eq_true q320
                                go_wp2_with (first | (go_at_call 24; (with_reducible refine (runs_Has.calls _ _ l0 t315 1 t321 _ ?side1 ?side2 A34.out).mono ?_); (case side1 => repeat (first | exact (Kd.C_below HR0.out HB.out) | (with_reducible refine Kd.C_alloc ?_ _) | (with_reducible refine Kd.C_drewN ?_ _) | (with_reducible refine Kd.C_drew ?_))); (case side2 => exact HC0.out); rintro e w35 ⟨rfl, hb⟩; have n0_ := Aside0.mk (Kd.R_below (by (with_reducible repeat (first | apply Kd.R_alloc | apply Kd.R_drewN | apply Kd.R_drew)); exact HO_6.out) hb); have n1_ := Aside0.mk (Kd.R_below (by (with_reducible repeat (first | apply Kd.R_alloc | apply Kd.R_drewN | apply Kd.R_drew)); exact HO_7.out) hb); have n2_ := Aside0.mk (Kd.R_below (by (with_reducible repeat (first | apply Kd.R_alloc | apply Kd.R_drewN | apply Kd.R_drew)); exact HO319.out) hb); have n3_ := Aside0.mk (below_step (by repeat (first | (with_reducible first | exact HB.out | apply below_alloc | apply pw_below_drewN | apply below_drew1) | exact HB.out)) hb); clear HO_6; clear HO_7; clear HO319; clear HB; have HO_6 := n0_; have HO_7 := n1_; have HO319 := n2_; have HB := n3_; clear n0_ n1_ n2_ n3_; (try clear hb); (try clear hb2); (try clear hk); (try clear hi)))
                                go_meet
                                case rel => exact ⟨_, (!t321), (by first | rfl | (simp; done) | (simp [*]; done)), H', ⟨by have := HJ4.out; have := HK2.out; first | omega | exact Nat.le_refl _⟩, ⟨by (with_reducible repeat (first | apply Kd.R_alloc | apply Kd.R_drewN | apply Kd.R_drew)); exact HO_6.out⟩, ⟨by (with_reducible repeat (first | apply Kd.R_alloc | apply Kd.R_drewN | apply Kd.R_drew)); exact Kd.R_mono HO319.out (fun _ hk => trivial)⟩, ⟨by repeat (first | (with_reducible first | exact HB.out | apply below_alloc | apply pw_below_drewN | apply below_drew1) | exact HB.out)⟩⟩
                              · rw [if_neg c33] at H
                                have c33b0 : (((rd_T36 x7_2 t314).f0) == t315) = false := beq_eq_false_iff_ne.mpr c33
                                have c33b1 : (((rd_T36 x7_2 t314).f0) != t315) = true := bne_iff_ne.mpr c33
                                have H' := Aside0.mk H
                                clear H
                                have p320 : 0 ≤ (t314 : Int) := of_decide_eq_true (by first | (with_reducible assumption) | assumption)
                                have q320 : t314 < (x7_2.length : Int) := of_decide_eq_true (by first | (with_reducible assumption) | assumption)
                                obtain ⟨ad320, e320, hx320_0, hx320_1⟩ := at_T36 (Kd.R_reads' HO_7.out).2.2 t314 p320 q320
                                cases e320
                                replace p320 := eq_true p320
                                replace q320 := eq_true q320
                                go_wp2
                                go_meet
                                case rel => exact ⟨_, (true), (by first | rfl | (simp; done) | (simp [*]; done)), H', ⟨by have := HJ4.out; have := HK2.out; first | omega | exact Nat.le_refl _⟩, ⟨by (with_reducible repeat (first | apply Kd.R_alloc | apply Kd.R_drewN | apply Kd.R_drew)); exact HO_6.out⟩, ⟨by (with_reducible repeat (first | apply Kd.R_alloc | apply Kd.R_drewN | apply Kd.R_drew)); exact Kd.R_mono HO319.out (fun _ hk => trivial)⟩, ⟨by repeat (first | (with_reducible first | exact HB.out | apply below_alloc | apply pw_below_drewN | apply below_drew1) | exact HB.out)⟩⟩
                            · rw [if_neg c32] at H
                              exact absurd H (by simp)
                          · rw [if_neg c31] at H
                            exact absurd H (by simp)
                      · replace c29 := Bool.eq_false_iff.mpr c29
                        subst c29
                        have H1 : (steadinglaw05_RunsDrain.j2 k2 l0 t299 x6_2 x8_2 t315 t316 true) = some r := by rw [if_neg (show ¬ (false = true) by decide)] at H; exact H
                        clear H
                        have H := H1
                        clear H1
                        have H' := Aside0.mk H
                        clear H
                        go_wp2
                        go_meet
                        case rel => exact ⟨_, (true), (by first | rfl | (simp; done) | (simp [*]; done)), H', ⟨by have := HJ4.out; have := HK2.out; first | omega | exact Nat.le_refl _⟩, ⟨by (with_reducible repeat (first | apply Kd.R_alloc | apply Kd.R_drewN | apply Kd.R_drew)); exact HO_6.out⟩, ⟨by (with_reducible repeat (first | apply Kd.R_alloc | apply Kd.R_drewN | apply Kd.R_drew)); exact Kd.R_mono HO319.out (fun _ hk => trivial)⟩, ⟨by repeat (first | (with_reducible first | exact HB.out | apply below_alloc | apply pw_below_drewN | apply below_drew1) | exact HB.out)⟩⟩
                    case rest =>
                      clear HC25
                      try clear c1
                      try clear c2
                      try clear p2
                      try clear c3
                      try clear p3
                      try clear q3
                      try clear hx3
                      try clear c8
                      try clear c9
                      try clear c9b0
                      try clear c9b1
                      try clear c10
                      try clear c11
                      try clear c12
                      try clear c14
                      try clear c14b0
                      try clear c14b1
                      try clear c15
                      try clear c17
                      try clear c19
                      try clear c22
                      try clear c22b0
                      try clear c29
                      try clear c30
                      try clear c30b0
                      try clear c31
                      try clear c31b0
                      try clear c32
                      try clear c32b0
                      try clear p32
                      try clear q32
                      try clear hx32
                      try clear c33
                      try clear c33b0
                      try clear c33b1
                      try clear hx320_0
                      try clear hx320_1
                      try clear p2
                      try clear p320
                      try clear q320
                      obtain ⟨kq, x73_24, rfl, HA, HJ24, HO_6, HO_11, HB⟩ := hcut
                      cases kq with
                      | zero => exact absurd HA.out (by simp [steadinglaw05_RunsDrain.j2])
                      | succ kj24 =>
                        have H := HA.out
                        clear HA
                        simp only [steadinglaw05_RunsDrain.j2] at H
                        by_cases c36 : x73_24 = true
                        · subst c36
                          have H1 : (some false) = some r := by rw [if_pos rfl] at H; exact H
                          clear H
                          have H := H1
                          clear H1
                          obtain rfl := Option.some.inj H
                          go_wp2
                          go_ret
                          exact ⟨by first | rfl | (simp [errW_none, errW_some] <;> rfl) | (simp [*, errW_none, errW_some] <;> rfl), by repeat (first | (with_reducible first | exact HB.out | apply below_alloc | apply pw_below_drewN | apply below_drew1) | exact HB.out)⟩
                        · replace c36 := Bool.eq_false_iff.mpr c36
                          subst c36
                          have H1 : (steadinglaw05_RunsDrain.l1 kj24 l0 t299 x6_2 x8_2 t315 t316 0) = some r := by rw [if_neg (show ¬ (false = true) by decide)] at H; exact H
                          clear H
                          have H := H1
                          clear H1
                          have H' := Aside0.mk H
                          clear H
                          go_wp2
                          go_loopg [13] kj24 (fun kq v13 w' => ∃ (x13_4 : Int), v13 = .int .i64 x13_4 ∧ Aside0 (steadinglaw05_RunsDrain.l1 kq l0 t299 x6_2 x8_2 t315 t316 x13_4 = some r) ∧ Aside0 (kq ≤ kj24) ∧ Aside0 (Kd.R (Kd.int .i64) 3 w' w.heap.size (fun _ => True) u6 x6_2) ∧ Aside0 (Kd.R k36 36 w' w.heap.size (fun _ => True) v318 t316) ∧ Aside0 (Below w.heap.size w w'))
                          case atStart => exact ⟨(0), (by first | rfl | (simp; done) | (simp [*]; done)), H', ⟨Nat.le_refl _⟩, ⟨by (with_reducible repeat (first | apply Kd.R_alloc | apply Kd.R_drewN | apply Kd.R_drew)); exact HO_6.out⟩, ⟨by (with_reducible repeat (first | apply Kd.R_alloc | apply Kd.R_drewN | apply Kd.R_drew)); exact HO_11.out⟩, ⟨by repeat (first | (with_reducible first | exact HB.out | apply below_alloc | apply pw_below_drewN | apply below_drew1) | exact HB.out)⟩⟩
                          case round =>
                            clear H'
                            try clear c1
                            try clear c2
                            try clear p2
                            try clear c3
                            try clear p3
                            try clear q3
                            try clear hx3
                            try clear c8
                            try clear c9
                            try clear c9b0
                            try clear c9b1
                            try clear c10
                            try clear c11
                            try clear c12
                            try clear c14
                            try clear c14b0
                            try clear c14b1
                            try clear c15
                            try clear c17
                            try clear c19
                            try clear c22
                            try clear c22b0
                            try clear c29
                            try clear c30
                            try clear c30b0
                            try clear c31
                            try clear c31b0
                            try clear c32
                            try clear c32b0
                            try clear p32
                            try clear q32
                            try clear hx32
                            try clear c33
                            try clear c33b0
                            try clear c33b1
                            try clear c36
                            try clear hx320_0
                            try clear hx320_1
                            try clear p2
                            try clear p3
                            try clear p32
                            try clear p320
                            try clear q3
                            try clear q32
                            try clear q320
                            obtain ⟨x13_4, rfl, HA, HK4, HO_6, HO_11, HB⟩ := hrel
                            cases gk with
                            | zero => exact absurd HA.out (by simp [steadinglaw05_RunsDrain.l1])
                            | succ k4 =>
                              have H := HA.out
                              clear HA
                              simp only [steadinglaw05_RunsDrain.l1] at H
                              by_cases c37 : x13_4 < (x6_2.length : Int)
                              · rw [if_pos c37] at H
                                have c37b0 : decide (x13_4 < (x6_2.length : Int)) = true := decide_eq_true c37
                                clear c37
                                by_cases c38 : 0 ≤ x13_4
                                · rw [if_pos c38] at H
                                  have c38b0 : decide (0 ≤ x13_4) = true := decide_eq_true c38
                                  clear c38
                                  by_cases c39 : (rd x6_2 x13_4) = t315
                                  · rw [if_pos c39] at H
                                    have c39b0 : ((rd x6_2 x13_4) == t315) = true := beq_iff_eq.mpr c39
                                    have c39b1 : ((rd x6_2 x13_4) != t315) = false := bne_eq_false_iff_eq.mpr c39
                                    clear c39
                                    obtain rfl := Option.some.inj H
                                    obtain ⟨Ao40, co40, eo40⟩ := Kd.R_slice HO_6.out
                                    subst eo40
                                    have p322 : 0 ≤ (x13_4 : Int) := of_decide_eq_true (by first | (with_reducible assumption) | assumption)
                                    have q322 : x13_4 < (x6_2.length : Int) := of_decide_eq_true (by first | (with_reducible assumption) | assumption)
                                    obtain ⟨ad322, e322, hx322_0⟩ := Kd.at_int (Kd.R_reads' HO_6.out).2.2 x13_4 p322 q322
                                    cases e322
                                    replace p322 := eq_true p322
                                    replace q322 := eq_true q322
                                    go_wp2
                                    go_ret
                                    exact ⟨by first | rfl | (simp [errW_none, errW_some] <;> rfl) | (simp [*, errW_none, errW_some] <;> rfl), by repeat (first | (with_reducible first | exact HB.out | apply below_alloc | apply pw_below_drewN | apply below_drew1) | exact HB.out)⟩
                                  · rw [if_neg c39] at H
                                    have c39b0 : ((rd x6_2 x13_4) == t315) = false := beq_eq_false_iff_ne.mpr c39
                                    have c39b1 : ((rd x6_2 x13_4) != t315) = true := bne_iff_ne.mpr c39
                                    have H' := Aside0.mk H
                                    clear H
                                    obtain ⟨Ao41, co41, eo41⟩ := Kd.R_slice HO_6.out
                                    subst eo41
                                    have p322 : 0 ≤ (x13_4 : Int) := of_decide_eq_true (by first | (with_reducible assumption) | assumption)
                                    have q322 : x13_4 < (x6_2.length : Int) := of_decide_eq_true (by first | (with_reducible assumption) | assumption)
                                    obtain ⟨ad322, e322, hx322_0⟩ := Kd.at_int (Kd.R_reads' HO_6.out).2.2 x13_4 p322 q322
                                    cases e322
                                    replace p322 := eq_true p322
                                    replace q322 := eq_true q322
                                    go_wp2
                                    go_roundg k4
                                    case measure => have := HJ4.out; have := HK2.out; have := HJ24.out; have := HK4.out; omega
                                    case rel => exact ⟨(wrap64 (x13_4 + 1)), (by first | rfl | (simp; done) | (simp [*]; done)), H', ⟨by have := HJ4.out; have := HK2.out; have := HJ24.out; have := HK4.out; omega⟩, ⟨by (with_reducible repeat (first | apply Kd.R_alloc | apply Kd.R_drewN | apply Kd.R_drew)); exact HO_6.out⟩, ⟨by (with_reducible repeat (first | apply Kd.R_alloc | apply Kd.R_drewN | apply Kd.R_drew)); exact HO_11.out⟩, ⟨by repeat (first | (with_reducible first | exact HB.out | apply below_alloc | apply pw_below_drewN | apply below_drew1) | exact HB.out)⟩⟩
                                · rw [if_neg c38] at H
                                  exact absurd H (by simp)
                              · rw [if_neg c37] at H
                                have c37b0 : decide (x13_4 < (x6_2.length : Int)) = false := decide_eq_false c37
                                clear c37
                                by_cases c42 : x6_2.length < 17592186044416
                                · rw [if_pos c42] at H
                                  have LMc42 := Aside0.mk c42
                                  clear c42
                                  obtain ⟨y323, hy323⟩ : ∃ y_ : List Int, y_ = (x6_2 ++ [t315]) := ⟨_, rfl⟩
                                  replace H : (steadinglaw05_RunsDrain.l0 k4 l0 t299 y323 t316 (wrap64 (x8_2 + 1))) = some r := by first | (rw [hy323]; with_reducible exact H) | (have H2_ := (Option.bind_some _ _).symm.trans H; rw [hy323]; with_reducible exact H2_) | (have H2_ := (Option.bind_some _ _).symm.trans H; with_reducible exact H2_) | with_reducible exact H | (rw [hy323]; exact H) | exact H
                                  have Ny323 := Aside0.mk hy323
                                  clear hy323
                                  have H' := Aside0.mk H
                                  clear H
                                  obtain ⟨Ao43, co43, eo43⟩ := Kd.R_slice HO_6.out
                                  subst eo43
                                  go_wp2_with (first | ((with_reducible refine gate_builtin (b := .append) (xs := #[.tmp 86, .tmp 88]) rfl ?_); (try (refine gate_guard (by rfl) ?_; dsimp only)); at_builtin; refine Kd.R_append (Kd.int .i64) (w0 := w) w.heap.size rfl (.tmp 86) (.tmp 88) 39 3 (.int .i64 0) 8 rfl Try.underlying39 info3 rfl (by decide) (by omega) (.slice Ao43 x6_2.length co43) x6_2 t315 [.int .i64 t315] (fun _ => True) (fun _ => False) rfl rfl ?aP (fun _ hk => hk.elim) ?aF ?aO ?aB ?aS ?aL ?_; (case aP => exact rfl); (case aB => exact (by repeat (first | (with_reducible first | exact HB.out | apply below_alloc | apply pw_below_drewN | apply below_drew1) | exact HB.out))); (case aF => exact (fun _ _ => trivial)); (case aO => exact (by (with_reducible repeat (first | apply Kd.R_alloc | apply Kd.R_drewN | apply Kd.R_drew)); exact HO_6.out)); (case aS => exact (below_size (by repeat (first | (with_reducible first | exact HB.out | apply below_alloc | apply pw_below_drewN | apply below_drew1) | exact HB.out)))); (case aL => have := LMc42.out; omega); intro v324 w44 ho hb hg hat; rw [← Ny323.out] at ho; have n0_ := Aside0.mk (Kd.R_over' (by (with_reducible repeat (first | apply Kd.R_alloc | apply Kd.R_drewN | apply Kd.R_drew)); exact HO_11.out) (Kd.R_typed (by (with_reducible repeat (first | apply Kd.R_alloc | apply Kd.R_drewN | apply Kd.R_drew)); exact HO_6.out)) (by decide) hg); have n1_ := Aside0.mk (hb); have n2_ := Aside0.mk (ho); clear HO_11; clear HB; clear HO_6; have HO_11 := n0_; have HB := n1_; have HO325 := n2_; clear n0_ n1_ n2_; clear ho hb hg hat))
                                  go_roundg k4
                                  case measure => have := HJ4.out; have := HK2.out; have := HJ24.out; have := HK4.out; omega
                                  case rel => exact ⟨(y323), (t316), (wrap64 (x8_2 + 1)), (by first | rfl | (simp; done) | (simp [*]; done)), H', ⟨by have := HJ4.out; have := HK2.out; have := HJ24.out; have := HK4.out; omega⟩, ⟨by (with_reducible repeat (first | apply Kd.R_alloc | apply Kd.R_drewN | apply Kd.R_drew)); exact HO325.out⟩, ⟨by (with_reducible repeat (first | apply Kd.R_alloc | apply Kd.R_drewN | apply Kd.R_drew)); exact HO_11.out⟩, ⟨by repeat (first | (with_reducible first | exact HB.out | apply below_alloc | apply pw_below_drewN | apply below_drew1) | exact HB.out)⟩⟩
                                · rw [if_neg c42] at H
                                  exact absurd H (by simp)
                  · rw [if_neg c22] at H
                    have c22b0 : decide (x8_2 < t299) = false := decide_eq_false c22
                    clear c22
                    replace H := Option.bind_eq_some_iff.mp H
                    obtain ⟨⟨t309, t310, t311⟩, A450, H⟩ := H
                    replace H : (if t311 = true then (some false) else (some ((x7_2.length : Int) == 0))) = some r := H
                    have A45 := Aside0.mk A450
                    clear A450
                    by_cases c46 : t311 = true
                    · subst c46
                      have H1 : (some false) = some r := by rw [if_pos rfl] at H; exact H
                      clear H
                      have H := H1
                      clear H1
                      obtain rfl := Option.some.inj H
                      obtain ⟨Ao47, co47, eo47⟩ := Kd.R_slice HO_7.out
                      subst eo47
                      go_wp2_with (first | ((with_reducible refine gate_callee (f := 15) rfl ?_); refine goesL_ (some 93) rfl rfl Try.func15 (by kernel_rfl) rfl #[.slice Ao47 x7_2.length co47, .int .i64 1] rfl (by (try simp only [List.map_toArray, List.map_cons, List.map_nil]); first | done | rfl | (simp only [List.length_drop, List.length_take]; rfl)) ?_; (with_reducible refine (runs_Take.calls _ _ x7_2 1 t309 t310 true _ ?side1 ?side2 A45.out).mono ?_); (case side1 => repeat (first | exact (Kd.R_reads' HO_7.out).2.2 | (with_reducible refine Kd.C_alloc ?_ _) | (with_reducible refine Kd.C_drewN ?_ _) | (with_reducible refine Kd.C_drew ?_))); (case side2 => exact (Kd.R_reads' HO_7.out).2.1); rintro e w48 ⟨v312, rfl, ho0, hb⟩; refine ⟨_, rfl, ?_⟩; have n0_ := Aside0.mk (Kd.R_below (by (with_reducible repeat (first | apply Kd.R_alloc | apply Kd.R_drewN | apply Kd.R_drew)); exact HO_6.out) hb); have n1_ := Aside0.mk (Kd.R_elder' (by (with_reducible repeat (first | apply Kd.R_alloc | apply Kd.R_drewN | apply Kd.R_drew)); exact HO_7.out) (Kd.R_base ho0) hb); have n2_ := Aside0.mk (Kd.R_lower (Kd.R_new' ho0 (Kd.R_lt (by (with_reducible repeat (first | apply Kd.R_alloc | apply Kd.R_drewN | apply Kd.R_drew)); exact HO_7.out))) (below_size (by repeat (first | (with_reducible first | exact HB.out | apply below_alloc | apply pw_below_drewN | apply below_drew1) | exact HB.out)))); have n3_ := Aside0.mk (below_step (by repeat (first | (with_reducible first | exact HB.out | apply below_alloc | apply pw_below_drewN | apply below_drew1) | exact HB.out)) hb); clear HO_6; clear HO_7; clear HB; have HO_6 := n0_; have HO_7 := n1_; have HO313 := n2_; have HB := n3_; clear n0_ n1_ n2_ n3_; (try clear hb); (try clear hb2); (try clear hk); (try clear hi); (try clear ho0)))
                      go_ret
                      exact ⟨by first | rfl | (simp [errW_none, errW_some] <;> rfl) | (simp [*, errW_none, errW_some] <;> rfl), by repeat (first | (with_reducible first | exact HB.out | apply below_alloc | apply pw_below_drewN | apply below_drew1) | exact HB.out)⟩
                    · replace c46 := Bool.eq_false_iff.mpr c46
                      subst c46
                      have H1 : (some ((x7_2.length : Int) == 0)) = some r := by rw [if_neg (show ¬ (false = true) by decide)] at H; exact H
                      clear H
                      have H := H1
                      clear H1
                      obtain rfl := Option.some.inj H
                      obtain ⟨Ao49, co49, eo49⟩ := Kd.R_slice HO_7.out
                      subst eo49
                      go_wp2_with (first | ((with_reducible refine gate_callee (f := 15) rfl ?_); refine goesL_ (some 93) rfl rfl Try.func15 (by kernel_rfl) rfl #[.slice Ao49 x7_2.length co49, .int .i64 1] rfl (by (try simp only [List.map_toArray, List.map_cons, List.map_nil]); first | done | rfl | (simp only [List.length_drop, List.length_take]; rfl)) ?_; (with_reducible refine (runs_Take.calls _ _ x7_2 1 t309 t310 false _ ?side1 ?side2 A45.out).mono ?_); (case side1 => repeat (first | exact (Kd.R_reads' HO_7.out).2.2 | (with_reducible refine Kd.C_alloc ?_ _) | (with_reducible refine Kd.C_drewN ?_ _) | (with_reducible refine Kd.C_drew ?_))); (case side2 => exact (Kd.R_reads' HO_7.out).2.1); rintro e w50 ⟨v312, rfl, ho0, hb⟩; refine ⟨_, rfl, ?_⟩; have n0_ := Aside0.mk (Kd.R_below (by (with_reducible repeat (first | apply Kd.R_alloc | apply Kd.R_drewN | apply Kd.R_drew)); exact HO_6.out) hb); have n1_ := Aside0.mk (Kd.R_elder' (by (with_reducible repeat (first | apply Kd.R_alloc | apply Kd.R_drewN | apply Kd.R_drew)); exact HO_7.out) (Kd.R_base ho0) hb); have n2_ := Aside0.mk (Kd.R_lower (Kd.R_new' ho0 (Kd.R_lt (by (with_reducible repeat (first | apply Kd.R_alloc | apply Kd.R_drewN | apply Kd.R_drew)); exact HO_7.out))) (below_size (by repeat (first | (with_reducible first | exact HB.out | apply below_alloc | apply pw_below_drewN | apply below_drew1) | exact HB.out)))); have n3_ := Aside0.mk (below_step (by repeat (first | (with_reducible first | exact HB.out | apply below_alloc | apply pw_below_drewN | apply below_drew1) | exact HB.out)) hb); clear HO_6; clear HO_7; clear HB; have HO_6 := n0_; have HO_7 := n1_; have HO313 := n2_; have HB := n3_; clear n0_ n1_ n2_ n3_; (try clear hb); (try clear hb2); (try clear hk); (try clear hi); (try clear ho0)))
                      go_ret
                      exact ⟨by first | rfl | (simp [errW_none, errW_some] <;> rfl) | (simp [*, errW_none, errW_some] <;> rfl), by repeat (first | (with_reducible first | exact HB.out | apply below_alloc | apply pw_below_drewN | apply below_drew1) | exact HB.out)⟩
            · rw [if_neg c15] at H
              exact absurd H (by simp)
          · rw [if_neg c14] at H
            exact absurd H (by simp)
  · replace c3 := Bool.eq_false_iff.mpr c3
    subst c3
    have H1 : (some false) = some r := by rw [if_neg (show ¬ (false = true) by decide)] at H; exact H
    clear H
    have H := H1
    clear H1
    obtain rfl := Option.some.inj H
    go_enter Try.func10, Try.ntmps10
    go_wp2_with (first | ((with_reducible refine gate_callee (f := 11) rfl ?_); refine goesL_ (some 17) rfl rfl Try.func11 (by kernel_rfl) rfl #[] rfl (by (try simp only [List.map_toArray, List.map_cons, List.map_nil]); first | done | rfl | (simp only [List.length_drop, List.length_take]; rfl)) ?_; (with_reducible refine (steadinglaw05_awake.calls k  false _ A2.out).mono ?_); rintro e w51 ⟨rfl, hb⟩; refine ⟨_, rfl, ?_⟩; have n0_ := Aside0.mk (below_step (by repeat (first | (with_reducible first | exact HB.out | apply below_alloc | apply pw_below_drewN | apply below_drew1) | exact HB.out)) hb); clear HB; have HB := n0_; clear n0_; (try clear hb); (try clear hb2); (try clear hk); (try clear hi)))
    go_ret
    exact ⟨by first | rfl | (simp [errW_none, errW_some] <;> rfl) | (simp [*, errW_none, errW_some] <;> rfl), by repeat (first | (with_reducible first | exact HB.out | apply below_alloc | apply pw_below_drewN | apply below_drew1) | exact HB.out)⟩

end Go.Proofs.Ytccjcaomhijgdaa.Rn
