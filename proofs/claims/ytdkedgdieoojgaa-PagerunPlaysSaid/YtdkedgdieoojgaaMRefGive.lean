/- The document's Give: the print's text, with one line mended (the row's address had been turned into its block ahead of it). -/
import Derived.Test.YtdkedgdieoojgaaRnx0
import Derived.Test.YtdkedgdieoojgaaRnx8
namespace Go.Proofs.Ytdkedgdieoojgaa.Rn
open Go.RowKit Go.Proofs.YtdkedgdieoojgaaW.PrintWords Go.Proofs.YtdkedgdieoojgaaW.PrintLast Go.Proofs.YtdkedgdieoojgaaW.PrintMore
attribute [local go_sem] max2_int min2_int max_two min_two max_three min_three max_four min_four   -- for this text's walks alone
set_option linter.unusedVariables false
set_option linter.unusedSimpArgs false

/-! ### steadingref05_Give: function 30 -/
mutual
def steadingref05_Give.j0 : Nat → List (S51) → Int → Int → Bool → Option ((List (S51)) × Bool)
  | 0, _, _, _, _ => none
  | k + 1, x0, x2, x3, x39 => if x39 = true then (some (([] : List (S51)), false)) else (steadingref05_Give.l0 k x0 x2 x3 ([] : List (S51)) false 0)
def steadingref05_Give.l0 : Nat → List (S51) → Int → Int → List (S51) → Bool → Int → Option ((List (S51)) × Bool)
  | 0, _, _, _, _, _, _ => none
  | k + 1, x0, x2, x3, x10, x11, x12 => if x12 < (x0.length : Int) then (if x11 = true then (if 0 ≤ x12 then (if x10.length < 8796093022208 then (steadingref05_Give.l0 k x0 x2 x3 (x10 ++ [(⟨(rd_T51 x0 x12).f0, (rd_T51 x0 x12).f1⟩ : S51)]) x11 (wrap64 (x12 + 1))) else (none)) else (none)) else (if 0 ≤ x12 then (if ((rd_T51 x0 x12).f0) > x2 then (if x10.length < 8796093022208 then ((some (x10 ++ [(⟨x2, x3⟩ : S51)] : List (S51))).bind fun y132 => (if y132.length < 8796093022208 then (steadingref05_Give.l0 k x0 x2 x3 (y132 ++ [(⟨(rd_T51 x0 x12).f0, (rd_T51 x0 x12).f1⟩ : S51)]) true (wrap64 (x12 + 1))) else (none))) else (none)) else (if x10.length < 8796093022208 then (steadingref05_Give.l0 k x0 x2 x3 (x10 ++ [(⟨(rd_T51 x0 x12).f0, (rd_T51 x0 x12).f1⟩ : S51)]) x11 (wrap64 (x12 + 1))) else (none))) else (none))) else (if x11 = true then (steadingref05_Give.j2 k x10) else (if x10.length < 8796093022208 then (steadingref05_Give.j2 k (x10 ++ [(⟨x2, x3⟩ : S51)])) else (none)))
def steadingref05_Give.j2 : Nat → List (S51) → Option ((List (S51)) × Bool)
  | 0, _ => none
  | k + 1, x10 => steadingref05_Give.l1 k x10 ([] : List (S51)) 0
def steadingref05_Give.l1 : Nat → List (S51) → List (S51) → Int → Option ((List (S51)) × Bool)
  | 0, _, _, _ => none
  | k + 1, x10, x13, x14 => if x14 < (x10.length : Int) then (if (wrap64 ((x13.length : Int) - 1)) ≥ 0 then (if 0 ≤ (wrap64 ((x13.length : Int) - 1)) then (if (wrap64 ((x13.length : Int) - 1)) < (x13.length : Int) then (if 0 ≤ x14 then (if (wrap64 (((rd_T51 x13 (wrap64 ((x13.length : Int) - 1))).f0) + ((rd_T51 x13 (wrap64 ((x13.length : Int) - 1))).f1))) = ((rd_T51 x10 x14).f0) then (steadingref05_Give.l1 k x10 (x13.set ((wrap64 ((x13.length : Int) - 1)) : Int).toNat (⟨(rd_T51 x13 (wrap64 ((x13.length : Int) - 1))).f0, wrap64 (((rd_T51 x13 (wrap64 ((x13.length : Int) - 1))).f1) + ((rd_T51 x10 x14).f1))⟩ : S51)) (wrap64 (x14 + 1))) else (if x13.length < 8796093022208 then (steadingref05_Give.l1 k x10 (x13 ++ [(⟨(rd_T51 x10 x14).f0, (rd_T51 x10 x14).f1⟩ : S51)]) (wrap64 (x14 + 1))) else (none))) else (none)) else (none)) else (none)) else (if 0 ≤ x14 then (if x13.length < 8796093022208 then (steadingref05_Give.l1 k x10 (x13 ++ [(⟨(rd_T51 x10 x14).f0, (rd_T51 x10 x14).f1⟩ : S51)]) (wrap64 (x14 + 1))) else (none)) else (none))) else (some (x13, true))
end
def steadingref05_Give.f (k : Nat) (l0 : List (S51)) (a1 : Int) (a2 : Int) (a3 : Int) : Option ((List (S51)) × Bool) := if a2 < 0 then (steadingref05_Give.j0 k l0 a2 a3 true) else (if a3 < 1 then (steadingref05_Give.j0 k l0 a2 a3 true) else (if a2 > a1 then (steadingref05_Give.j0 k l0 a2 a3 true) else (if a3 > (wrap64 (a1 - a2)) then (steadingref05_Give.j0 k l0 a2 a3 true) else ((steadingref05_Has.f k l0 a2 a3).bind fun t126 => (steadingref05_Give.j0 k l0 a2 a3 t126)))))
theorem steadingref05_Give.mono_l : ∀ k, (∀ y0 y1 y2 y3, LeO (steadingref05_Give.j0 k y0 y1 y2 y3) (steadingref05_Give.j0 (k + 1) y0 y1 y2 y3)) ∧ (∀ y0 y1 y2 y3 y4 y5, LeO (steadingref05_Give.l0 k y0 y1 y2 y3 y4 y5) (steadingref05_Give.l0 (k + 1) y0 y1 y2 y3 y4 y5)) ∧ (∀ y0, LeO (steadingref05_Give.j2 k y0) (steadingref05_Give.j2 (k + 1) y0)) ∧ (∀ y0 y1 y2, LeO (steadingref05_Give.l1 k y0 y1 y2) (steadingref05_Give.l1 (k + 1) y0 y1 y2))
  | 0 => ⟨fun _ _ _ _ r h => by simp [steadingref05_Give.j0] at h, fun _ _ _ _ _ _ r h => by simp [steadingref05_Give.l0] at h, fun _ r h => by simp [steadingref05_Give.j2] at h, fun _ _ _ r h => by simp [steadingref05_Give.l1] at h⟩
  | k + 1 => by
    obtain ⟨ih0, ih1, ih2, ih3⟩ := steadingref05_Give.mono_l k
    refine ⟨?_, ?_, ?_, ?_⟩
    · intro y0 y1 y2 y3
      unfold steadingref05_Give.j0
      repeat' first
      | (with_reducible exact ih0 _ _ _ _)
      | (with_reducible exact ih1 _ _ _ _ _ _)
      | (with_reducible exact ih2 _)
      | (with_reducible exact ih3 _ _ _)
      | (with_reducible exact steadingref05_Has.mono _ _ _ _)
      | (with_reducible exact LeO.refl _)
      | (with_reducible exact LeO.none _)
      | (with_reducible refine LeO.ite ?_ ?_)
      | (with_reducible refine LeO.bind ?_ (fun _ => ?_))
      | exact ih0 _ _ _ _
      | exact ih1 _ _ _ _ _ _
      | exact ih2 _
      | exact ih3 _ _ _
      | exact steadingref05_Has.mono _ _ _ _
      | exact LeO.none _
      | refine LeO.ite ?_ ?_
      | refine LeO.bind ?_ (fun _ => ?_)
    · intro y0 y1 y2 y3 y4 y5
      unfold steadingref05_Give.l0
      repeat' first
      | (with_reducible exact ih0 _ _ _ _)
      | (with_reducible exact ih1 _ _ _ _ _ _)
      | (with_reducible exact ih2 _)
      | (with_reducible exact ih3 _ _ _)
      | (with_reducible exact steadingref05_Has.mono _ _ _ _)
      | (with_reducible exact LeO.refl _)
      | (with_reducible exact LeO.none _)
      | (with_reducible refine LeO.ite ?_ ?_)
      | (with_reducible refine LeO.bind ?_ (fun _ => ?_))
      | exact ih0 _ _ _ _
      | exact ih1 _ _ _ _ _ _
      | exact ih2 _
      | exact ih3 _ _ _
      | exact steadingref05_Has.mono _ _ _ _
      | exact LeO.none _
      | refine LeO.ite ?_ ?_
      | refine LeO.bind ?_ (fun _ => ?_)
    · intro y0
      unfold steadingref05_Give.j2
      repeat' first
      | (with_reducible exact ih0 _ _ _ _)
      | (with_reducible exact ih1 _ _ _ _ _ _)
      | (with_reducible exact ih2 _)
      | (with_reducible exact ih3 _ _ _)
      | (with_reducible exact steadingref05_Has.mono _ _ _ _)
      | (with_reducible exact LeO.refl _)
      | (with_reducible exact LeO.none _)
      | (with_reducible refine LeO.ite ?_ ?_)
      | (with_reducible refine LeO.bind ?_ (fun _ => ?_))
      | exact ih0 _ _ _ _
      | exact ih1 _ _ _ _ _ _
      | exact ih2 _
      | exact ih3 _ _ _
      | exact steadingref05_Has.mono _ _ _ _
      | exact LeO.none _
      | refine LeO.ite ?_ ?_
      | refine LeO.bind ?_ (fun _ => ?_)
    · intro y0 y1 y2
      unfold steadingref05_Give.l1
      repeat' first
      | (with_reducible exact ih0 _ _ _ _)
      | (with_reducible exact ih1 _ _ _ _ _ _)
      | (with_reducible exact ih2 _)
      | (with_reducible exact ih3 _ _ _)
      | (with_reducible exact steadingref05_Has.mono _ _ _ _)
      | (with_reducible exact LeO.refl _)
      | (with_reducible exact LeO.none _)
      | (with_reducible refine LeO.ite ?_ ?_)
      | (with_reducible refine LeO.bind ?_ (fun _ => ?_))
      | exact ih0 _ _ _ _
      | exact ih1 _ _ _ _ _ _
      | exact ih2 _
      | exact ih3 _ _ _
      | exact steadingref05_Has.mono _ _ _ _
      | exact LeO.none _
      | refine LeO.ite ?_ ?_
      | refine LeO.bind ?_ (fun _ => ?_)
theorem steadingref05_Give.mono : ∀ a0 a1 a2 a3 k, LeO (steadingref05_Give.f k a0 a1 a2 a3) (steadingref05_Give.f (k + 1) a0 a1 a2 a3) := by
  intro a0 a1 a2 a3 k
  obtain ⟨ih0, ih1, ih2, ih3⟩ := steadingref05_Give.mono_l k
  unfold steadingref05_Give.f
  repeat' first
      | (with_reducible exact ih0 _ _ _ _)
      | (with_reducible exact ih1 _ _ _ _ _ _)
      | (with_reducible exact ih2 _)
      | (with_reducible exact ih3 _ _ _)
      | (with_reducible exact steadingref05_Has.mono _ _ _ _)
      | (with_reducible exact LeO.refl _)
      | (with_reducible exact LeO.none _)
      | (with_reducible refine LeO.ite ?_ ?_)
      | (with_reducible refine LeO.bind ?_ (fun _ => ?_))
      | exact ih0 _ _ _ _
      | exact ih1 _ _ _ _ _ _
      | exact ih2 _
      | exact ih3 _ _ _
      | exact steadingref05_Has.mono _ _ _ _
      | exact LeO.none _
      | refine LeO.ite ?_ ?_
      | refine LeO.bind ?_ (fun _ => ?_)
def steadingref05_Give.T19 : Bool × List (List Nat × List Nat) := (true, [([], []), ([0], [0]), ([1], [1]), ([2], [2]), ([2], [2]), ([3, 4, 2], [2, 3, 4]), ([5, 2], [2, 5]), ([6, 2], [2, 6]), ([2], [2]), ([2], [2]), ([8, 9, 2], [2, 8, 9]), ([10, 2], [2, 10]), ([11, 2], [2, 11]), ([7, 12, 2], [2, 7, 12]), ([2], [2]), ([2], [2]), ([14, 15, 2], [2, 14, 15]), ([16, 2], [2, 16]), ([17, 2], [2, 17]), ([13, 18, 2], [2, 13, 18]), ([2, 19], [2, 19])])
def steadingref05_Give.B19 : List Nat := [0, 1, 3, 7, 7, 31, 63, 127, 7, 7, 775, 1799, 3847, 8191, 7, 7, 49159, 114695, 245767, 524287, 1048575]
theorem steadingref05_Give.tab19 : rtab .any (opsOf Try.f30 19) = steadingref05_Give.T19 := by kernel_rfl
theorem steadingref05_Give.bits19 : waitsOk steadingref05_Give.T19.2 steadingref05_Give.B19 = true := by kernel_rfl
def steadingref05_Give.T20 : Bool × List (List Nat × List Nat) := (true, [([], []), ([], []), ([0, 1], [0, 1]), ([2], [2]), ([3], [3]), ([], []), ([], []), ([5, 6], [5, 6]), ([7], [7]), ([8], [8]), ([4, 9], [4, 9]), ([0, 1, 0, 1, 2, 3, 4, 5, 6, 7, 8, 9, 10], [0, 1]), ([11, 0, 1, 2, 3, 4, 5, 6, 7, 8, 9, 10], [11]), ([12, 10, 0, 1, 2, 3, 4, 5, 6, 7, 8, 9, 10], [10, 12])])
def steadingref05_Give.B20 : List Nat := [0, 0, 3, 7, 15, 0, 0, 96, 224, 480, 1023, 2047, 4095, 8191]
theorem steadingref05_Give.tab20 : rtab .any (opsOf Try.f30 20) = steadingref05_Give.T20 := by kernel_rfl
theorem steadingref05_Give.bits20 : waitsOk steadingref05_Give.T20.2 steadingref05_Give.B20 = true := by kernel_rfl
set_option maxHeartbeats 8000000 in
set_option maxRecDepth 100000 in
theorem steadingref05_Give.calls (k : Nat) (A0 : Option Addr) (c0 : Nat) (l0 : List (S51)) (a1 : Int) (a2 : Int) (a3 : Int) (r1 : List (S51)) (r2 : Bool) (w : World) (hr0 : Kd.C k51 w A0 l0.length l0) (hc0 : l0.length ≤ c0) (h : steadingref05_Give.f k l0 a1 a2 a3 = some (r1, r2)) :
    Calls Try.prog 30 #[.slice A0 l0.length c0, .int .i64 a1, .int .i64 a2, .int .i64 a3] w fun e w' => ∃ v0_ : Value, e = .returned (.tuple #[v0_, .bool r2]) ∧ Kd.R k51 51 w' w.heap.size (fun _ => True) v0_ r1 ∧ Below w.heap.size w w' := by
  have hu51 := Try.underlying51
  have HR0 := Aside0.mk hr0
  have HC0 := Aside0.mk hc0
  clear hr0 hc0
  have HB := Aside0.mk (Below.refl w.heap.size w)
  have H : (if a2 < 0 then (steadingref05_Give.j0 k l0 a2 a3 true) else (if a3 < 1 then (steadingref05_Give.j0 k l0 a2 a3 true) else (if a2 > a1 then (steadingref05_Give.j0 k l0 a2 a3 true) else (if a3 > (wrap64 (a1 - a2)) then (steadingref05_Give.j0 k l0 a2 a3 true) else ((steadingref05_Has.f k l0 a2 a3).bind fun t126 => (steadingref05_Give.j0 k l0 a2 a3 t126)))))) = some (r1, r2) := h
  clear h
  have HC5 := Aside0.mk H
  clear H
  go_enter Try.func30, Try.ntmps30
  go_upto_region 1 with (fail)
  go_cut [39] (fun v39 wc => ∃ (kq : Nat) (x39_4 : Bool), v39 = .bool x39_4 ∧ Aside0 (steadingref05_Give.j0 kq l0 a2 a3 x39_4 = some (r1, r2)) ∧ Aside0 (kq ≤ k) ∧ Aside0 (Below w.heap.size w wc))
  case first =>
    have H := HC5.out
    clear HC5
    by_cases c6 : a2 < 0
    · rw [if_pos c6] at H
      have c6b0 : decide (a2 < 0) = true := decide_eq_true c6
      clear c6
      (first | rw [c6b0] | (simp only [i64_w, i32_w]; rw [c6b0]) | skip)
      have H' := Aside0.mk H
      clear H
      go_wp2
      go_meet
      case rel => exact ⟨_, (true), (by first | rfl | (simp; done) | (simp [*]; done)), H', ⟨by first | omega | exact Nat.le_refl _⟩, ⟨by repeat (first | (with_reducible first | exact HB.out | apply below_alloc | apply pw_below_drewN | apply below_drew1) | exact HB.out)⟩⟩
    · rw [if_neg c6] at H
      have c6b0 : decide (a2 < 0) = false := decide_eq_false c6
      clear c6
      (first | rw [c6b0] | (simp only [i64_w, i32_w]; rw [c6b0]) | skip)
      by_cases c7 : a3 < 1
      · rw [if_pos c7] at H
        have c7b0 : decide (a3 < 1) = true := decide_eq_true c7
        clear c7
        have H' := Aside0.mk H
        clear H
        go_wp2
        go_meet
        case rel => exact ⟨_, (true), (by first | rfl | (simp; done) | (simp [*]; done)), H', ⟨by first | omega | exact Nat.le_refl _⟩, ⟨by repeat (first | (with_reducible first | exact HB.out | apply below_alloc | apply pw_below_drewN | apply below_drew1) | exact HB.out)⟩⟩
      · rw [if_neg c7] at H
        have c7b0 : decide (a3 < 1) = false := decide_eq_false c7
        clear c7
        by_cases c8 : a2 > a1
        · rw [if_pos c8] at H
          have c8b0 : decide (a1 < a2) = true := decide_eq_true c8
          clear c8
          have H' := Aside0.mk H
          clear H
          go_wp2
          go_meet
          case rel => exact ⟨_, (true), (by first | rfl | (simp; done) | (simp [*]; done)), H', ⟨by first | omega | exact Nat.le_refl _⟩, ⟨by repeat (first | (with_reducible first | exact HB.out | apply below_alloc | apply pw_below_drewN | apply below_drew1) | exact HB.out)⟩⟩
        · rw [if_neg c8] at H
          have c8b0 : decide (a1 < a2) = false := decide_eq_false c8
          clear c8
          by_cases c9 : a3 > (wrap64 (a1 - a2))
          · rw [if_pos c9] at H
            have c9b0 : decide ((wrap64 (a1 - a2)) < a3) = true := decide_eq_true c9
            clear c9
            have H' := Aside0.mk H
            clear H
            go_wp2
            go_meet
            case rel => exact ⟨_, (true), (by first | rfl | (simp; done) | (simp [*]; done)), H', ⟨by first | omega | exact Nat.le_refl _⟩, ⟨by repeat (first | (with_reducible first | exact HB.out | apply below_alloc | apply pw_below_drewN | apply below_drew1) | exact HB.out)⟩⟩
          · rw [if_neg c9] at H
            have c9b0 : decide ((wrap64 (a1 - a2)) < a3) = false := decide_eq_false c9
            clear c9
            replace H := Option.bind_eq_some_iff.mp H
            obtain ⟨t126, A100, H⟩ := H
            replace H : (steadingref05_Give.j0 k l0 a2 a3 t126) = some (r1, r2) := H
            have A10 := Aside0.mk A100
            clear A100
            have H' := Aside0.mk H
            clear H
            go_wp2_with (first | (go_at_call 38; (with_reducible refine (steadingref05_Has.calls k _ _ l0 a2 a3 t126 _ ?side1 ?side2 A10.out).mono ?_); (case side1 => repeat (first | exact (Kd.C_below HR0.out HB.out) | (with_reducible refine Kd.C_alloc ?_ _) | (with_reducible refine Kd.C_drewN ?_ _) | (with_reducible refine Kd.C_drew ?_))); (case side2 => exact HC0.out); rintro e w11 ⟨rfl, hb⟩; have n0_ := Aside0.mk (below_step (by repeat (first | (with_reducible first | exact HB.out | apply below_alloc | apply pw_below_drewN | apply below_drew1) | exact HB.out)) hb); clear HB; have HB := n0_; clear n0_; (try clear hb); (try clear hb2); (try clear hk); (try clear hi)))
            go_meet
            case rel => exact ⟨_, (t126), (by first | rfl | (simp; done) | (simp [*]; done)), H', ⟨by first | omega | exact Nat.le_refl _⟩, ⟨by repeat (first | (with_reducible first | exact HB.out | apply below_alloc | apply pw_below_drewN | apply below_drew1) | exact HB.out)⟩⟩
  case rest =>
    clear HC5
    try clear p2
    try clear c3
    try clear c6
    try clear c6b0
    try clear p6
    try clear c7
    try clear c7b0
    try clear c8
    try clear c8b0
    try clear c9
    try clear c9b0
    obtain ⟨kq, x39_4, rfl, HA, HJ4, HB⟩ := hcut
    cases kq with
    | zero => exact absurd HA.out (by simp [steadingref05_Give.j0])
    | succ kj4 =>
      have H := HA.out
      clear HA
      simp only [steadingref05_Give.j0] at H
      by_cases c12 : x39_4 = true
      · subst c12
        have H1 : (some (([] : List (S51)), false)) = some (r1, r2) := by rw [if_pos rfl] at H; exact H
        clear H
        have H := H1
        clear H1
        simp only [Option.some.injEq, Prod.mk.injEq] at H
        obtain ⟨rfl, rfl⟩ := H
        go_wp2
        go_ret2
        exact ⟨_, by first | rfl | (simp [errW_none, errW_some] <;> rfl) | (simp [*, errW_none, errW_some] <;> rfl), by first | exact Kd.R_nil _ _ _ _ _ | exact Kd.N_nil _ _ _ _ _ | exact Kd.V_nil _ _ _ _ _ | exact Kd.Q_nil _ _ _ _ _ | exact Kd.S_nil _ _ _ _ _, by repeat (first | (with_reducible first | exact HB.out | apply below_alloc | apply pw_below_drewN | apply below_drew1) | exact HB.out)⟩
      · replace c12 := Bool.eq_false_iff.mpr c12
        subst c12
        have H1 : (steadingref05_Give.l0 kj4 l0 a2 a3 ([] : List (S51)) false 0) = some (r1, r2) := by rw [if_neg (show ¬ (false = true) by decide)] at H; exact H
        clear H
        have H := H1
        clear H1
        have H' := Aside0.mk H
        clear H
        go_wp2
        go_loopg [10, 11, 12] kj4 (fun kq v10 v11 v12 w' => ∃ (x10_2 : List (S51)) (x11_2 : Bool) (x12_2 : Int), v11 = .bool x11_2 ∧ v12 = .int .i64 x12_2 ∧ Aside0 (steadingref05_Give.l0 kq l0 a2 a3 x10_2 x11_2 x12_2 = some (r1, r2)) ∧ Aside0 (kq ≤ kj4) ∧ Aside0 (Kd.R k51 51 w' w.heap.size (fun _ => True) v10 x10_2) ∧ Aside0 (Below w.heap.size w w'))
        case atStart => exact ⟨(([] : List (S51))), (false), (0), (by first | rfl | (simp; done) | (simp [*]; done)), (by first | rfl | (simp; done) | (simp [*]; done)), H', ⟨Nat.le_refl _⟩, ⟨by first | exact Kd.R_nil _ _ _ _ _ | exact Kd.N_nil _ _ _ _ _ | exact Kd.V_nil _ _ _ _ _ | exact Kd.Q_nil _ _ _ _ _ | exact Kd.S_nil _ _ _ _ _⟩, ⟨by repeat (first | (with_reducible first | exact HB.out | apply below_alloc | apply pw_below_drewN | apply below_drew1) | exact HB.out)⟩⟩
        case round =>
          clear H'
          try clear c1
          try clear p2
          try clear c3
          try clear c6
          try clear c6b0
          try clear p6
          try clear c7
          try clear c7b0
          try clear c8
          try clear c8b0
          try clear c9
          try clear c9b0
          try clear c12
          try clear p2
          try clear p6
          obtain ⟨x10_2, x11_2, x12_2, rfl, rfl, HA, HK2, HO_10, HB⟩ := hrel
          cases gk with
          | zero => exact absurd HA.out (by simp [steadingref05_Give.l0])
          | succ k2 =>
            have H := HA.out
            clear HA
            simp only [steadingref05_Give.l0] at H
            by_cases c13 : x12_2 < (l0.length : Int)
            · rw [if_pos c13] at H
              have c13b0 : decide (x12_2 < (l0.length : Int)) = true := decide_eq_true c13
              clear c13
              by_cases c14 : x11_2 = true
              · subst c14
                have H1 : (if 0 ≤ x12_2 then (if x10_2.length < 8796093022208 then (steadingref05_Give.l0 k2 l0 a2 a3 (x10_2 ++ [(⟨(rd_T51 l0 x12_2).f0, (rd_T51 l0 x12_2).f1⟩ : S51)]) true (wrap64 (x12_2 + 1))) else (none)) else (none)) = some (r1, r2) := by rw [if_pos rfl] at H; exact H
                clear H
                have H := H1
                clear H1
                by_cases c15 : 0 ≤ x12_2
                · rw [if_pos c15] at H
                  have c15b0 : decide (0 ≤ x12_2) = true := decide_eq_true c15
                  clear c15
                  by_cases c16 : x10_2.length < 8796093022208
                  · rw [if_pos c16] at H
                    have LMc16 := Aside0.mk c16
                    clear c16
                    obtain ⟨y128, hy128⟩ : ∃ y_ : List (S51), y_ = (x10_2 ++ [(⟨(rd_T51 l0 x12_2).f0, (rd_T51 l0 x12_2).f1⟩ : S51)]) := ⟨_, rfl⟩
                    replace H : (steadingref05_Give.l0 k2 l0 a2 a3 y128 true (wrap64 (x12_2 + 1))) = some (r1, r2) := by first | (rw [hy128]; with_reducible exact H) | (have H2_ := (Option.bind_some _ _).symm.trans H; rw [hy128]; with_reducible exact H2_) | (have H2_ := (Option.bind_some _ _).symm.trans H; with_reducible exact H2_) | with_reducible exact H | (rw [hy128]; exact H) | exact H
                    have Ny128 := Aside0.mk hy128
                    clear hy128
                    have H' := Aside0.mk H
                    clear H
                    have p127 : 0 ≤ (x12_2 : Int) := of_decide_eq_true (by first | (with_reducible assumption) | assumption)
                    have q127 : x12_2 < (l0.length : Int) := of_decide_eq_true (by first | (with_reducible assumption) | assumption)
                    obtain ⟨ad127, e127, hx127_0, hx127_1⟩ := at_T51 HR0.out x12_2 p127 q127
                    cases e127
                    replace hx127_0 := (HB.out.cell (World.block_lt_of_cell? w _ hx127_0)).trans hx127_0
                    replace hx127_1 := (HB.out.cell (World.block_lt_of_cell? w _ hx127_1)).trans hx127_1
                    replace p127 := eq_true p127
                    replace q127 := eq_true q127
                    go_wp2_with (first | ((with_reducible refine gate_builtin (b := .append) (xs := #[.tmp 63, .tmp 68]) rfl ?_); at_builtin; refine Kd.R_append k51 (w0 := w) w.heap.size rfl (.tmp 63) (.tmp 68) 32 51 (.agg #[(.int .i64 0), (.int .i64 0)]) 16 rfl Try.underlying32 info51 rfl (by decide) (by omega) u10 x10_2 (⟨(rd_T51 l0 x12_2).f0, (rd_T51 l0 x12_2).f1⟩ : S51) [.int .i64 ((rd_T51 l0 x12_2).f0), .int .i64 ((rd_T51 l0 x12_2).f1)] (fun _ => True) (fun _ => False) rfl rfl ?aP (fun _ hk => hk.elim) ?aF ?aO ?aB ?aS ?aL ?_; (case aP => exact k51_mkM _ _ _ (⟨(rd_T51 l0 x12_2).f0, (rd_T51 l0 x12_2).f1⟩ : S51)); (case aB => exact (by repeat (first | (with_reducible first | exact HB.out | apply below_alloc | apply pw_below_drewN | apply below_drew1) | exact HB.out))); (case aF => exact (fun _ _ => trivial)); (case aO => exact (by (with_reducible repeat (first | apply Kd.R_alloc | apply Kd.R_drewN | apply Kd.R_drew)); exact HO_10.out)); (case aS => exact (below_size (by repeat (first | (with_reducible first | exact HB.out | apply below_alloc | apply pw_below_drewN | apply below_drew1) | exact HB.out)))); (case aL => have := LMc16.out; omega); intro v129 w17 ho hb hg hat; rw [← Ny128.out] at ho; have n0_ := Aside0.mk (hb); have n1_ := Aside0.mk (ho); clear HB; clear HO_10; have HB := n0_; have HO130 := n1_; clear n0_ n1_; clear ho hb hg hat))
                    go_roundg k2
                    case measure => have := HJ4.out; have := HK2.out; omega
                    case rel => exact ⟨(y128), (true), (wrap64 (x12_2 + 1)), (by first | rfl | (simp; done) | (simp [*]; done)), (by first | rfl | (simp; done) | (simp [*]; done)), H', ⟨by have := HJ4.out; have := HK2.out; omega⟩, ⟨by (with_reducible repeat (first | apply Kd.R_alloc | apply Kd.R_drewN | apply Kd.R_drew)); exact HO130.out⟩, ⟨by repeat (first | (with_reducible first | exact HB.out | apply below_alloc | apply pw_below_drewN | apply below_drew1) | exact HB.out)⟩⟩
                  · rw [if_neg c16] at H
                    exact absurd H (by simp)
                · rw [if_neg c15] at H
                  exact absurd H (by simp)
              · replace c14 := Bool.eq_false_iff.mpr c14
                subst c14
                have H1 : (if 0 ≤ x12_2 then (if ((rd_T51 l0 x12_2).f0) > a2 then (if x10_2.length < 8796093022208 then ((some (x10_2 ++ [(⟨a2, a3⟩ : S51)] : List (S51))).bind fun y132 => (if y132.length < 8796093022208 then (steadingref05_Give.l0 k2 l0 a2 a3 (y132 ++ [(⟨(rd_T51 l0 x12_2).f0, (rd_T51 l0 x12_2).f1⟩ : S51)]) true (wrap64 (x12_2 + 1))) else (none))) else (none)) else (if x10_2.length < 8796093022208 then (steadingref05_Give.l0 k2 l0 a2 a3 (x10_2 ++ [(⟨(rd_T51 l0 x12_2).f0, (rd_T51 l0 x12_2).f1⟩ : S51)]) false (wrap64 (x12_2 + 1))) else (none))) else (none)) = some (r1, r2) := by rw [if_neg (show ¬ (false = true) by decide)] at H; exact H
                clear H
                have H := H1
                clear H1
                by_cases c18 : 0 ≤ x12_2
                · rw [if_pos c18] at H
                  have c18b0 : decide (0 ≤ x12_2) = true := decide_eq_true c18
                  clear c18
                  by_cases c19 : ((rd_T51 l0 x12_2).f0) > a2
                  · rw [if_pos c19] at H
                    have c19b0 : decide (a2 < ((rd_T51 l0 x12_2).f0)) = true := decide_eq_true c19
                    clear c19
                    by_cases c20 : x10_2.length < 8796093022208
                    · rw [if_pos c20] at H
                      have LMc20 := Aside0.mk c20
                      clear c20
                      obtain ⟨y132, hy132⟩ : ∃ y_ : List (S51), y_ = (x10_2 ++ [(⟨a2, a3⟩ : S51)]) := ⟨_, rfl⟩
                      replace H : (if y132.length < 8796093022208 then (steadingref05_Give.l0 k2 l0 a2 a3 (y132 ++ [(⟨(rd_T51 l0 x12_2).f0, (rd_T51 l0 x12_2).f1⟩ : S51)]) true (wrap64 (x12_2 + 1))) else (none)) = some (r1, r2) := by first | (rw [hy132]; with_reducible exact H) | (have H2_ := (Option.bind_some _ _).symm.trans H; rw [hy132]; with_reducible exact H2_) | (have H2_ := (Option.bind_some _ _).symm.trans H; with_reducible exact H2_) | with_reducible exact H | (rw [hy132]; exact H) | exact H
                      have Ny132 := Aside0.mk hy132
                      clear hy132
                      by_cases c21 : y132.length < 8796093022208
                      · rw [if_pos c21] at H
                        have LMc21 := Aside0.mk c21
                        clear c21
                        obtain ⟨y136, hy136⟩ : ∃ y_ : List (S51), y_ = (y132 ++ [(⟨(rd_T51 l0 x12_2).f0, (rd_T51 l0 x12_2).f1⟩ : S51)]) := ⟨_, rfl⟩
                        replace H : (steadingref05_Give.l0 k2 l0 a2 a3 y136 true (wrap64 (x12_2 + 1))) = some (r1, r2) := by first | (rw [hy136]; with_reducible exact H) | (have H2_ := (Option.bind_some _ _).symm.trans H; rw [hy136]; with_reducible exact H2_) | (have H2_ := (Option.bind_some _ _).symm.trans H; with_reducible exact H2_) | with_reducible exact H | (rw [hy136]; exact H) | exact H
                        have Ny136 := Aside0.mk hy136
                        clear hy136
                        have H' := Aside0.mk H
                        clear H
                        have p131 : 0 ≤ (x12_2 : Int) := of_decide_eq_true (by first | (with_reducible assumption) | assumption)
                        have q131 : x12_2 < (l0.length : Int) := of_decide_eq_true (by first | (with_reducible assumption) | assumption)
                        obtain ⟨ad131, e131, hx131_0, hx131_1⟩ := at_T51 HR0.out x12_2 p131 q131
                        cases e131
                        replace hx131_0 := (HB.out.cell (World.block_lt_of_cell? w _ hx131_0)).trans hx131_0
                        replace hx131_1 := (HB.out.cell (World.block_lt_of_cell? w _ hx131_1)).trans hx131_1
                        replace p131 := eq_true p131
                        replace q131 := eq_true q131
                        go_wp2_with (first | ((with_reducible refine gate_builtin (b := .append) (xs := #[.tmp 57, .tmp 61]) rfl ?_); at_builtin; refine Kd.R_append k51 (w0 := w) w.heap.size rfl (.tmp 57) (.tmp 61) 32 51 (.agg #[(.int .i64 0), (.int .i64 0)]) 16 rfl Try.underlying32 info51 rfl (by decide) (by omega) u10 x10_2 (⟨a2, a3⟩ : S51) [.int .i64 a2, .int .i64 a3] (fun _ => True) (fun _ => False) rfl rfl ?aP (fun _ hk => hk.elim) ?aF ?aO ?aB ?aS ?aL ?_; (case aP => exact k51_mkM _ _ _ (⟨a2, a3⟩ : S51)); (case aB => exact (by repeat (first | (with_reducible first | exact HB.out | apply below_alloc | apply pw_below_drewN | apply below_drew1) | exact HB.out))); (case aF => exact (fun _ _ => trivial)); (case aO => exact (by (with_reducible repeat (first | apply Kd.R_alloc | apply Kd.R_drewN | apply Kd.R_drew)); exact HO_10.out)); (case aS => exact (below_size (by repeat (first | (with_reducible first | exact HB.out | apply below_alloc | apply pw_below_drewN | apply below_drew1) | exact HB.out)))); (case aL => have := LMc20.out; omega); intro v133 w22 ho hb hg hat; rw [← Ny132.out] at ho; have n0_ := Aside0.mk (hb); have n1_ := Aside0.mk (ho); clear HB; clear HO_10; have HB := n0_; have HO134 := n1_; clear n0_ n1_; clear ho hb hg hat; have p135 : 0 ≤ (x12_2 : Int) := of_decide_eq_true (by first | (with_reducible assumption) | assumption); have q135 : x12_2 < (l0.length : Int) := of_decide_eq_true (by first | (with_reducible assumption) | assumption); obtain ⟨ad135, e135, hx135_0, hx135_1⟩ := at_T51 HR0.out x12_2 p135 q135; obtain rfl : ad131 = ad135 := (by injection e135); replace hx135_0 := (HB.out.cell (World.block_lt_of_cell? w _ hx135_0)).trans hx135_0; replace hx135_1 := (HB.out.cell (World.block_lt_of_cell? w _ hx135_1)).trans hx135_1; replace p135 := eq_true p135; replace q135 := eq_true q135) | ((with_reducible refine gate_builtin (b := .append) (xs := #[.tmp 63, .tmp 68]) rfl ?_); at_builtin; refine Kd.R_append k51 (w0 := w) w.heap.size rfl (.tmp 63) (.tmp 68) 32 51 (.agg #[(.int .i64 0), (.int .i64 0)]) 16 rfl Try.underlying32 info51 rfl (by decide) (by omega) v133 y132 (⟨(rd_T51 l0 x12_2).f0, (rd_T51 l0 x12_2).f1⟩ : S51) [.int .i64 ((rd_T51 l0 x12_2).f0), .int .i64 ((rd_T51 l0 x12_2).f1)] (fun _ => True) (fun _ => False) rfl rfl ?aP (fun _ hk => hk.elim) ?aF ?aO ?aB ?aS ?aL ?_; (case aP => exact k51_mkM _ _ _ (⟨(rd_T51 l0 x12_2).f0, (rd_T51 l0 x12_2).f1⟩ : S51)); (case aB => exact (by repeat (first | (with_reducible first | exact HB.out | apply below_alloc | apply pw_below_drewN | apply below_drew1) | exact HB.out))); (case aF => exact (fun _ _ => trivial)); (case aO => exact (by (with_reducible repeat (first | apply Kd.R_alloc | apply Kd.R_drewN | apply Kd.R_drew)); exact HO134.out)); (case aS => exact (below_size (by repeat (first | (with_reducible first | exact HB.out | apply below_alloc | apply pw_below_drewN | apply below_drew1) | exact HB.out)))); (case aL => have := LMc21.out; omega); intro v137 w23 ho hb hg hat; rw [← Ny136.out] at ho; have n0_ := Aside0.mk (hb); have n1_ := Aside0.mk (ho); clear HB; clear HO134; have HB := n0_; have HO138 := n1_; clear n0_ n1_; clear ho hb hg hat))
                        go_roundg k2
                        case measure => have := HJ4.out; have := HK2.out; omega
                        case rel => exact ⟨(y136), (true), (wrap64 (x12_2 + 1)), (by first | rfl | (simp; done) | (simp [*]; done)), (by first | rfl | (simp; done) | (simp [*]; done)), H', ⟨by have := HJ4.out; have := HK2.out; omega⟩, ⟨by (with_reducible repeat (first | apply Kd.R_alloc | apply Kd.R_drewN | apply Kd.R_drew)); exact HO138.out⟩, ⟨by repeat (first | (with_reducible first | exact HB.out | apply below_alloc | apply pw_below_drewN | apply below_drew1) | exact HB.out)⟩⟩
                      · rw [if_neg c21] at H
                        exact absurd H (by simp)
                    · rw [if_neg c20] at H
                      exact absurd H (by simp)
                  · rw [if_neg c19] at H
                    have c19b0 : decide (a2 < ((rd_T51 l0 x12_2).f0)) = false := decide_eq_false c19
                    clear c19
                    by_cases c24 : x10_2.length < 8796093022208
                    · rw [if_pos c24] at H
                      have LMc24 := Aside0.mk c24
                      clear c24
                      obtain ⟨y140, hy140⟩ : ∃ y_ : List (S51), y_ = (x10_2 ++ [(⟨(rd_T51 l0 x12_2).f0, (rd_T51 l0 x12_2).f1⟩ : S51)]) := ⟨_, rfl⟩
                      replace H : (steadingref05_Give.l0 k2 l0 a2 a3 y140 false (wrap64 (x12_2 + 1))) = some (r1, r2) := by first | (rw [hy140]; with_reducible exact H) | (have H2_ := (Option.bind_some _ _).symm.trans H; rw [hy140]; with_reducible exact H2_) | (have H2_ := (Option.bind_some _ _).symm.trans H; with_reducible exact H2_) | with_reducible exact H | (rw [hy140]; exact H) | exact H
                      have Ny140 := Aside0.mk hy140
                      clear hy140
                      have H' := Aside0.mk H
                      clear H
                      have p131 : 0 ≤ (x12_2 : Int) := of_decide_eq_true (by first | (with_reducible assumption) | assumption)
                      have q131 : x12_2 < (l0.length : Int) := of_decide_eq_true (by first | (with_reducible assumption) | assumption)
                      obtain ⟨ad131, e131, hx131_0, hx131_1⟩ := at_T51 HR0.out x12_2 p131 q131
                      cases e131
                      replace hx131_0 := (HB.out.cell (World.block_lt_of_cell? w _ hx131_0)).trans hx131_0
                      replace hx131_1 := (HB.out.cell (World.block_lt_of_cell? w _ hx131_1)).trans hx131_1
                      replace p131 := eq_true p131
                      replace q131 := eq_true q131
                      have p139 : 0 ≤ (x12_2 : Int) := of_decide_eq_true (by first | (with_reducible assumption) | assumption)
                      have q139 : x12_2 < (l0.length : Int) := of_decide_eq_true (by first | (with_reducible assumption) | assumption)
                      obtain ⟨ad139, e139, hx139_0, hx139_1⟩ := at_T51 HR0.out x12_2 p139 q139
                      obtain rfl : ad131 = ad139 := (by injection e139)
                      replace hx139_0 := (HB.out.cell (World.block_lt_of_cell? w _ hx139_0)).trans hx139_0
                      replace hx139_1 := (HB.out.cell (World.block_lt_of_cell? w _ hx139_1)).trans hx139_1
                      replace p139 := eq_true p139
                      replace q139 := eq_true q139
                      go_wp2_with (first | ((with_reducible refine gate_builtin (b := .append) (xs := #[.tmp 63, .tmp 68]) rfl ?_); at_builtin; refine Kd.R_append k51 (w0 := w) w.heap.size rfl (.tmp 63) (.tmp 68) 32 51 (.agg #[(.int .i64 0), (.int .i64 0)]) 16 rfl Try.underlying32 info51 rfl (by decide) (by omega) u10 x10_2 (⟨(rd_T51 l0 x12_2).f0, (rd_T51 l0 x12_2).f1⟩ : S51) [.int .i64 ((rd_T51 l0 x12_2).f0), .int .i64 ((rd_T51 l0 x12_2).f1)] (fun _ => True) (fun _ => False) rfl rfl ?aP (fun _ hk => hk.elim) ?aF ?aO ?aB ?aS ?aL ?_; (case aP => exact k51_mkM _ _ _ (⟨(rd_T51 l0 x12_2).f0, (rd_T51 l0 x12_2).f1⟩ : S51)); (case aB => exact (by repeat (first | (with_reducible first | exact HB.out | apply below_alloc | apply pw_below_drewN | apply below_drew1) | exact HB.out))); (case aF => exact (fun _ _ => trivial)); (case aO => exact (by (with_reducible repeat (first | apply Kd.R_alloc | apply Kd.R_drewN | apply Kd.R_drew)); exact HO_10.out)); (case aS => exact (below_size (by repeat (first | (with_reducible first | exact HB.out | apply below_alloc | apply pw_below_drewN | apply below_drew1) | exact HB.out)))); (case aL => have := LMc24.out; omega); intro v141 w25 ho hb hg hat; rw [← Ny140.out] at ho; have n0_ := Aside0.mk (hb); have n1_ := Aside0.mk (ho); clear HB; clear HO_10; have HB := n0_; have HO142 := n1_; clear n0_ n1_; clear ho hb hg hat))
                      go_roundg k2
                      case measure => have := HJ4.out; have := HK2.out; omega
                      case rel => exact ⟨(y140), (false), (wrap64 (x12_2 + 1)), (by first | rfl | (simp; done) | (simp [*]; done)), (by first | rfl | (simp; done) | (simp [*]; done)), H', ⟨by have := HJ4.out; have := HK2.out; omega⟩, ⟨by (with_reducible repeat (first | apply Kd.R_alloc | apply Kd.R_drewN | apply Kd.R_drew)); exact HO142.out⟩, ⟨by repeat (first | (with_reducible first | exact HB.out | apply below_alloc | apply pw_below_drewN | apply below_drew1) | exact HB.out)⟩⟩
                    · rw [if_neg c24] at H
                      exact absurd H (by simp)
                · rw [if_neg c18] at H
                  exact absurd H (by simp)
            · rw [if_neg c13] at H
              have c13b0 : decide (x12_2 < (l0.length : Int)) = false := decide_eq_false c13
              clear c13
              have HC26 := Aside0.mk H
              clear H
              go_upto_if 71 with (fail)
              go_cut [10] (fun v10 wc => ∃ (kq : Nat) (x10_25 : List (S51)), Aside0 (steadingref05_Give.j2 kq x10_25 = some (r1, r2)) ∧ Aside0 (kq ≤ k2) ∧ Aside0 (Kd.R k51 51 wc w.heap.size (fun _ => True) v10 x10_25) ∧ Aside0 (Below w.heap.size w wc))
              case first =>
                have H := HC26.out
                clear HC26
                by_cases c27 : x11_2 = true
                · subst c27
                  have H1 : (steadingref05_Give.j2 k2 x10_2) = some (r1, r2) := by rw [if_pos rfl] at H; exact H
                  clear H
                  have H := H1
                  clear H1
                  have H' := Aside0.mk H
                  clear H
                  go_wp2
                  go_meet
                  case rel => exact ⟨_, (x10_2), H', ⟨by have := HJ4.out; have := HK2.out; first | omega | exact Nat.le_refl _⟩, ⟨by (with_reducible repeat (first | apply Kd.R_alloc | apply Kd.R_drewN | apply Kd.R_drew)); exact HO_10.out⟩, ⟨by repeat (first | (with_reducible first | exact HB.out | apply below_alloc | apply pw_below_drewN | apply below_drew1) | exact HB.out)⟩⟩
                · replace c27 := Bool.eq_false_iff.mpr c27
                  subst c27
                  have H1 : (if x10_2.length < 8796093022208 then (steadingref05_Give.j2 k2 (x10_2 ++ [(⟨a2, a3⟩ : S51)])) else (none)) = some (r1, r2) := by rw [if_neg (show ¬ (false = true) by decide)] at H; exact H
                  clear H
                  have H := H1
                  clear H1
                  by_cases c28 : x10_2.length < 8796093022208
                  · rw [if_pos c28] at H
                    have LMc28 := Aside0.mk c28
                    clear c28
                    obtain ⟨y143, hy143⟩ : ∃ y_ : List (S51), y_ = (x10_2 ++ [(⟨a2, a3⟩ : S51)]) := ⟨_, rfl⟩
                    replace H : (steadingref05_Give.j2 k2 y143) = some (r1, r2) := by first | (rw [hy143]; with_reducible exact H) | (have H2_ := (Option.bind_some _ _).symm.trans H; rw [hy143]; with_reducible exact H2_) | (have H2_ := (Option.bind_some _ _).symm.trans H; with_reducible exact H2_) | with_reducible exact H | (rw [hy143]; exact H) | exact H
                    have Ny143 := Aside0.mk hy143
                    clear hy143
                    have H' := Aside0.mk H
                    clear H
                    go_wp2_with (first | ((with_reducible refine gate_builtin (b := .append) (xs := #[.tmp 72, .tmp 76]) rfl ?_); at_builtin; refine Kd.R_append k51 (w0 := w) w.heap.size rfl (.tmp 72) (.tmp 76) 32 51 (.agg #[(.int .i64 0), (.int .i64 0)]) 16 rfl Try.underlying32 info51 rfl (by decide) (by omega) u10 x10_2 (⟨a2, a3⟩ : S51) [.int .i64 a2, .int .i64 a3] (fun _ => True) (fun _ => False) rfl rfl ?aP (fun _ hk => hk.elim) ?aF ?aO ?aB ?aS ?aL ?_; (case aP => exact k51_mkM _ _ _ (⟨a2, a3⟩ : S51)); (case aB => exact (by repeat (first | (with_reducible first | exact HB.out | apply below_alloc | apply pw_below_drewN | apply below_drew1) | exact HB.out))); (case aF => exact (fun _ _ => trivial)); (case aO => exact (by (with_reducible repeat (first | apply Kd.R_alloc | apply Kd.R_drewN | apply Kd.R_drew)); exact HO_10.out)); (case aS => exact (below_size (by repeat (first | (with_reducible first | exact HB.out | apply below_alloc | apply pw_below_drewN | apply below_drew1) | exact HB.out)))); (case aL => have := LMc28.out; omega); intro v144 w29 ho hb hg hat; rw [← Ny143.out] at ho; have n0_ := Aside0.mk (hb); have n1_ := Aside0.mk (ho); clear HB; clear HO_10; have HB := n0_; have HO145 := n1_; clear n0_ n1_; clear ho hb hg hat))
                    go_meet
                    case rel => exact ⟨_, (y143), H', ⟨by have := HJ4.out; have := HK2.out; first | omega | exact Nat.le_refl _⟩, ⟨by (with_reducible repeat (first | apply Kd.R_alloc | apply Kd.R_drewN | apply Kd.R_drew)); exact HO145.out⟩, ⟨by repeat (first | (with_reducible first | exact HB.out | apply below_alloc | apply pw_below_drewN | apply below_drew1) | exact HB.out)⟩⟩
                  · rw [if_neg c28] at H
                    exact absurd H (by simp)
              case rest =>
                clear HC26
                try clear c1
                try clear p1
                try clear q1
                try clear hx1
                try clear c2
                try clear p2
                try clear c3
                try clear c6
                try clear c6b0
                try clear p6
                try clear c7
                try clear c7b0
                try clear c8
                try clear c8b0
                try clear c9
                try clear c9b0
                try clear c12
                try clear p12
                try clear q12
                try clear hx12
                try clear c13
                try clear c13b0
                try clear p13
                try clear q13
                try clear hx13
                try clear c14
                try clear c15
                try clear c15b0
                try clear c16
                try clear c18
                try clear c18b0
                try clear c19
                try clear c19b0
                try clear c20
                try clear c21
                try clear c24
                try clear c27
                try clear c28
                try clear hx127_0
                try clear hx127_1
                try clear hx131_0
                try clear hx131_1
                try clear hx135_0
                try clear hx135_1
                try clear hx139_0
                try clear hx139_1
                try clear p127
                try clear p131
                try clear p135
                try clear p139
                try clear p2
                try clear p6
                try clear q127
                try clear q131
                try clear q135
                try clear q139
                obtain ⟨kq, x10_25, HA, HJ25, HO_10, HB⟩ := hcut
                cases kq with
                | zero => exact absurd HA.out (by simp [steadingref05_Give.j2])
                | succ kj25 =>
                  have H := HA.out
                  clear HA
                  simp only [steadingref05_Give.j2] at H
                  have H' := Aside0.mk H
                  clear H
                  go_wp2
                  go_loopg [13, 14] kj25 (fun kq v13 v14 w' => ∃ (x10_4 : List (S51)) (x13_4 : List (S51)) (x14_4 : Int), v14 = .int .i64 x14_4 ∧ Aside0 (steadingref05_Give.l1 kq x10_4 x13_4 x14_4 = some (r1, r2)) ∧ Aside0 (kq ≤ kj25) ∧ Aside0 (Kd.R k51 51 w' w.heap.size (fun k_ => some k_ ≠ (v13 : Value).ownBlock) u10 x10_4) ∧ Aside0 (Kd.R k51 51 w' w.heap.size (fun k_ => some k_ ≠ (u10 : Value).ownBlock) v13 x13_4) ∧ Aside0 (Below w.heap.size w w'))
                  case atStart => exact ⟨(x10_25), (([] : List (S51))), (0), (by first | rfl | (simp; done) | (simp [*]; done)), H', ⟨Nat.le_refl _⟩, ⟨by (with_reducible repeat (first | apply Kd.R_alloc | apply Kd.R_drewN | apply Kd.R_drew)); exact Kd.R_mono HO_10.out (fun _ hk => (by simp [Value.ownBlock]))⟩, ⟨by first | exact Kd.R_nil _ _ _ _ _ | exact Kd.N_nil _ _ _ _ _ | exact Kd.V_nil _ _ _ _ _ | exact Kd.Q_nil _ _ _ _ _ | exact Kd.S_nil _ _ _ _ _⟩, ⟨by repeat (first | (with_reducible first | exact HB.out | apply below_alloc | apply pw_below_drewN | apply below_drew1) | exact HB.out)⟩⟩
                  case round =>
                    clear H'
                    try clear c1
                    try clear p1
                    try clear q1
                    try clear hx1
                    try clear c2
                    try clear p2
                    try clear c3
                    try clear c6
                    try clear c6b0
                    try clear p6
                    try clear c7
                    try clear c7b0
                    try clear c8
                    try clear c8b0
                    try clear c9
                    try clear c9b0
                    try clear c12
                    try clear p12
                    try clear q12
                    try clear hx12
                    try clear c13
                    try clear c13b0
                    try clear p13
                    try clear q13
                    try clear hx13
                    try clear c14
                    try clear c15
                    try clear c15b0
                    try clear c16
                    try clear c18
                    try clear c18b0
                    try clear c19
                    try clear c19b0
                    try clear c20
                    try clear c21
                    try clear c24
                    try clear c27
                    try clear c28
                    try clear hx127_0
                    try clear hx127_1
                    try clear hx131_0
                    try clear hx131_1
                    try clear hx135_0
                    try clear hx135_1
                    try clear hx139_0
                    try clear hx139_1
                    try clear p1
                    try clear p12
                    try clear p127
                    try clear p13
                    try clear p131
                    try clear p135
                    try clear p139
                    try clear p2
                    try clear p6
                    try clear q1
                    try clear q12
                    try clear q127
                    try clear q13
                    try clear q131
                    try clear q135
                    try clear q139
                    obtain ⟨x10_4, x13_4, x14_4, rfl, HA, HK4, HO_10, HO_13, HB⟩ := hrel
                    cases gk with
                    | zero => exact absurd HA.out (by simp [steadingref05_Give.l1])
                    | succ k4 =>
                      have H := HA.out
                      clear HA
                      simp only [steadingref05_Give.l1] at H
                      by_cases c30 : x14_4 < (x10_4.length : Int)
                      · rw [if_pos c30] at H
                        have c30b0 : decide (x14_4 < (x10_4.length : Int)) = true := decide_eq_true c30
                        clear c30
                        by_cases c31 : (wrap64 ((x13_4.length : Int) - 1)) ≥ 0
                        · rw [if_pos c31] at H
                          have c31b0 : decide (0 ≤ (wrap64 ((x13_4.length : Int) - 1))) = true := decide_eq_true c31
                          clear c31
                          obtain ⟨ji32, hji32⟩ : ∃ j_ : Int, (wrap64 ((x13_4.length : Int) - 1)) = j_ := ⟨_, rfl⟩
                          replace H : (if 0 ≤ (ji32) then (if (ji32) < (x13_4.length : Int) then (if 0 ≤ x14_4 then (if (wrap64 (((rd_T51 x13_4 (ji32)).f0) + ((rd_T51 x13_4 (ji32)).f1))) = ((rd_T51 x10_4 x14_4).f0) then (steadingref05_Give.l1 k4 x10_4 (x13_4.set ((ji32) : Int).toNat (⟨(rd_T51 x13_4 (ji32)).f0, wrap64 (((rd_T51 x13_4 (ji32)).f1) + ((rd_T51 x10_4 x14_4).f1))⟩ : S51)) (wrap64 (x14_4 + 1))) else (if x13_4.length < 8796093022208 then (steadingref05_Give.l1 k4 x10_4 (x13_4 ++ [(⟨(rd_T51 x10_4 x14_4).f0, (rd_T51 x10_4 x14_4).f1⟩ : S51)]) (wrap64 (x14_4 + 1))) else (none))) else (none)) else (none)) else (none)) = some (r1, r2) := by first | (rw [hji32] at H; exact H) | (simp only [hji32] at H ⊢; exact H)
                          (try rw [hji32] at c31b0)
                          have hji32w : (IntKind.i64.wrap ((x13_4.length : Int) - 1)) = ji32 := (i64_w _).trans hji32
                          by_cases c33 : 0 ≤ (ji32)
                          · rw [if_pos c33] at H
                            have c33b0 : decide (0 ≤ (ji32)) = true := decide_eq_true c33
                            clear c33
                            by_cases c34 : (ji32) < (x13_4.length : Int)
                            · rw [if_pos c34] at H
                              have c34b0 : decide ((ji32) < (x13_4.length : Int)) = true := decide_eq_true c34
                              clear c34
                              by_cases c35 : 0 ≤ x14_4
                              · rw [if_pos c35] at H
                                have c35b0 : decide (0 ≤ x14_4) = true := decide_eq_true c35
                                clear c35
                                by_cases c36 : (wrap64 (((rd_T51 x13_4 (ji32)).f0) + ((rd_T51 x13_4 (ji32)).f1))) = ((rd_T51 x10_4 x14_4).f0)
                                · rw [if_pos c36] at H
                                  have c36b0 : ((wrap64 (((rd_T51 x13_4 (ji32)).f0) + ((rd_T51 x13_4 (ji32)).f1))) == ((rd_T51 x10_4 x14_4).f0)) = true := beq_iff_eq.mpr c36
                                  have c36b1 : ((wrap64 (((rd_T51 x13_4 (ji32)).f0) + ((rd_T51 x13_4 (ji32)).f1))) != ((rd_T51 x10_4 x14_4).f0)) = false := bne_eq_false_iff_eq.mpr c36
                                  clear c36
                                  obtain ⟨y151, hy151⟩ : ∃ y_ : List (S51), y_ = (x13_4.set ((ji32) : Int).toNat (⟨(rd_T51 x13_4 (ji32)).f0, wrap64 (((rd_T51 x13_4 (ji32)).f1) + ((rd_T51 x10_4 x14_4).f1))⟩ : S51)) := ⟨_, rfl⟩
                                  replace H : (steadingref05_Give.l1 k4 x10_4 y151 (wrap64 (x14_4 + 1))) = some (r1, r2) := by first | (rw [hy151]; with_reducible exact H) | (have H2_ := (Option.bind_some _ _).symm.trans H; rw [hy151]; with_reducible exact H2_) | (have H2_ := (Option.bind_some _ _).symm.trans H; with_reducible exact H2_) | with_reducible exact H | (rw [hy151]; exact H) | exact H
                                  have Ny151 := Aside0.mk hy151
                                  clear hy151
                                  have H' := Aside0.mk H
                                  clear H
                                  obtain ⟨Ao38, co38, eo38⟩ := Kd.R_slice HO_10.out
                                  subst eo38
                                  obtain ⟨Ao39, co39, eo39⟩ := Kd.R_slice HO_13.out
                                  subst eo39
                                  try go_wp2
                                  have n0_ := Aside0.mk (Kd.R_drew HO_10.out)
                                  have n1_ := Aside0.mk (Kd.R_drew HO_13.out)
                                  have n2_ := Aside0.mk (below_drew1 HB.out)
                                  clear HO_10
                                  clear HO_13
                                  clear HB
                                  have HO_10 := n0_
                                  have HO_13 := n1_
                                  have HB := n2_
                                  clear n0_ n1_ n2_
                                  have p146 : 0 ≤ ((ji32) : Int) := of_decide_eq_true (by first | (with_reducible assumption) | assumption)
                                  have q146 : (ji32) < (x13_4.length : Int) := of_decide_eq_true (by first | (with_reducible assumption) | assumption)
                                  obtain ⟨ad146, e146, hx146_0, hx146_1⟩ := at_T51 (Kd.R_reads' HO_13.out).2.2 (ji32) p146 q146
                                  cases e146
                                  replace p146 := eq_true p146
                                  replace q146 := eq_true q146
                                  have p147 : 0 ≤ ((ji32) : Int) := of_decide_eq_true (by first | (with_reducible assumption) | assumption)
                                  have q147 : (ji32) < (x13_4.length : Int) := of_decide_eq_true (by first | (with_reducible assumption) | assumption)
                                  obtain ⟨ad147, e147, hx147_0, hx147_1⟩ := at_T51 (Kd.R_reads' HO_13.out).2.2 (ji32) p147 q147
                                  obtain rfl : ad146 = ad147 := (by injection e147)
                                  replace p147 := eq_true p147
                                  replace q147 := eq_true q147
                                  have p148 : 0 ≤ (x14_4 : Int) := of_decide_eq_true (by first | (with_reducible assumption) | assumption)
                                  have q148 : x14_4 < (x10_4.length : Int) := of_decide_eq_true (by first | (with_reducible assumption) | assumption)
                                  obtain ⟨ad148, e148, hx148_0, hx148_1⟩ := at_T51 (Kd.R_reads' HO_10.out).2.2 x14_4 p148 q148
                                  cases e148
                                  replace p148 := eq_true p148
                                  replace q148 := eq_true q148
                                  refine start_ (n := 21) (S := fun w' => w'.cell? (ad146.add (((ji32)).toNat * 2)) = some (.int .i64 ((rd_T51 x13_4 (ji32)).f0)) ∧ w'.cell? ⟨(ad146.add (((ji32)).toNat * 2)).block, (ad146.add (((ji32)).toNat * 2)).off + 1, none⟩ = some (.int .i64 ((rd_T51 x13_4 (ji32)).f1)) ∧ w'.cell? (ad146.add (((ji32)).toNat * 2)) = some (.int .i64 ((rd_T51 x13_4 (ji32)).f0)) ∧ w'.cell? ⟨(ad146.add (((ji32)).toNat * 2)).block, (ad146.add (((ji32)).toNat * 2)).off + 1, none⟩ = some (.int .i64 ((rd_T51 x13_4 (ji32)).f1)) ∧ w'.cell? (ad148.add ((x14_4).toNat * 2)) = some (.int .i64 ((rd_T51 x10_4 x14_4).f0)) ∧ w'.cell? ⟨(ad148.add ((x14_4).toNat * 2)).block, (ad148.add ((x14_4).toNat * 2)).off + 1, none⟩ = some (.int .i64 ((rd_T51 x10_4 x14_4).f1))) (ds := []) #[false, false, false, false, false, false, false, false, false, false, false, false, false, false, false, false, false, false, false, false, false] (by kernel_rfl) rfl rfl ⟨hx146_0, hx146_1, hx147_0, hx147_1, hx148_0, hx148_1⟩ (fun hHeld => ?_); refine with_tabW steadingref05_Give.tab19 steadingref05_Give.bits19 (fun HT_ HW_ => ?_)
                                  generalize wr.drew = w40 at HO_10 HO_13 HB hx146_0 hx146_1 hx147_0 hx147_1 hx148_0 hx148_1 hHeld ⊢
                                  refine pure_ (i := 0) (N := some 87) (v := ?_) (a' := ?_) #[true, false, false, false, false, false, false, false, false, false, false, false, false, false, false, false, false, false, false, false, false] rfl rfl (any_of HT_.out (by kernel_rfl)) (fun _ _ _ h => h) (Or.inl ⟨by rfl, ?_⟩) ?_ ?_
                                  rotate_left
                                  · intro w'
                                    go_simp
                                    with_reducible rfl
                                  rotate_left
                                  · simp only [Act.put, List.setIfInBounds_toArray, List.set_cons_zero, List.set_cons_succ, i64_w, i32_w]
                                    rfl
                                  refine pure_ (i := 1) (N := some 88) (v := ?_) (a' := ?_) #[true, true, false, false, false, false, false, false, false, false, false, false, false, false, false, false, false, false, false, false, false] rfl rfl (any_of HT_.out (by kernel_rfl)) (fun _ _ _ h => h) (Or.inl ⟨by rfl, ?_⟩) ?_ ?_
                                  rotate_left
                                  · intro w'
                                    go_simp
                                    with_reducible rfl
                                  rotate_left
                                  · simp only [Act.put, List.setIfInBounds_toArray, List.set_cons_zero, List.set_cons_succ, i64_w, i32_w]
                                    rfl
                                  refine pure_ (i := 2) (N := some 89) (v := ?_) (a' := ?_) #[true, true, true, false, false, false, false, false, false, false, false, false, false, false, false, false, false, false, false, false, false] rfl rfl (any_of HT_.out (by kernel_rfl)) (fun _ _ _ h => h) (Or.inl ⟨by rfl, ?_⟩) ?_ ?_
                                  rotate_left
                                  · intro w'
                                    go_simp
                                    with_reducible rfl
                                  rotate_left
                                  · simp only [Act.put, List.setIfInBounds_toArray, List.set_cons_zero, List.set_cons_succ, i64_w, i32_w]
                                    rfl
                                  refine pure_ (i := 3) (N := some 90) (v := ?_) (a' := ?_) #[true, true, true, true, false, false, false, false, false, false, false, false, false, false, false, false, false, false, false, false, false] rfl rfl (any_of HT_.out (by kernel_rfl)) (fun _ _ _ h => h) (Or.inl ⟨by rfl, ?_⟩) ?_ ?_
                                  rotate_left
                                  · intro w'
                                    go_simp
                                    with_reducible rfl
                                  rotate_left
                                  · simp only [Act.put, List.setIfInBounds_toArray, List.set_cons_zero, List.set_cons_succ, i64_w, i32_w]
                                    rfl
                                  refine pure_ (i := 4) (N := some 91) (v := ?_) (a' := ?_) #[true, true, true, true, true, false, false, false, false, false, false, false, false, false, false, false, false, false, false, false, false] rfl rfl (any_of HT_.out (by kernel_rfl)) (fun _ _ _ h => h) (Or.inl ⟨by rfl, ?_⟩) ?_ ?_
                                  rotate_left
                                  · intro w'
                                    go_simp
                                    with_reducible rfl
                                  rotate_left
                                  · simp only [Act.put, List.setIfInBounds_toArray, List.set_cons_zero, List.set_cons_succ, i64_w, i32_w]
                                    rfl
                                  refine pure_ (i := 5) (N := some 92) (v := ?_) (a' := ?_) #[true, true, true, true, true, true, false, false, false, false, false, false, false, false, false, false, false, false, false, false, false] rfl rfl (any_of HT_.out (by kernel_rfl)) (fun _ _ _ h => h) (Or.inl ⟨by rfl, ?_⟩) ?_ ?_
                                  rotate_left
                                  · intro w'
                                    go_simp
                                    with_reducible rfl
                                  rotate_left
                                  · simp only [Act.put, List.setIfInBounds_toArray, List.set_cons_zero, List.set_cons_succ, i64_w, i32_w]
                                    rfl
                                  refine pure_ (i := 6) (N := some 93) (v := ?_) (a' := ?_) #[true, true, true, true, true, true, true, false, false, false, false, false, false, false, false, false, false, false, false, false, false] rfl rfl (any_of HT_.out (by kernel_rfl)) (fun _ _ _ h => h) (Or.inl ⟨by rfl, ?_⟩) ?_ ?_
                                  rotate_left
                                  · intro w'
                                    go_simp
                                    with_reducible rfl
                                  rotate_left
                                  · simp only [Act.put, List.setIfInBounds_toArray, List.set_cons_zero, List.set_cons_succ, i64_w, i32_w]
                                    rfl
                                  refine pure_ (i := 8) (N := some 95) (v := ?_) (a' := ?_) #[true, true, true, true, true, true, true, false, true, false, false, false, false, false, false, false, false, false, false, false, false] rfl rfl (any_of HT_.out (by kernel_rfl)) (fun _ _ _ h => h) (Or.inl ⟨by rfl, ?_⟩) ?_ ?_
                                  rotate_left
                                  · intro w'
                                    go_simp
                                    with_reducible rfl
                                  rotate_left
                                  · simp only [Act.put, List.setIfInBounds_toArray, List.set_cons_zero, List.set_cons_succ, i64_w, i32_w]
                                    rfl
                                  refine pure_ (i := 9) (N := some 96) (v := ?_) (a' := ?_) #[true, true, true, true, true, true, true, false, true, true, false, false, false, false, false, false, false, false, false, false, false] rfl rfl (any_of HT_.out (by kernel_rfl)) (fun _ _ _ h => h) (Or.inl ⟨by rfl, ?_⟩) ?_ ?_
                                  rotate_left
                                  · intro w'
                                    go_simp
                                    with_reducible rfl
                                  rotate_left
                                  · simp only [Act.put, List.setIfInBounds_toArray, List.set_cons_zero, List.set_cons_succ, i64_w, i32_w]
                                    rfl
                                  refine pure_ (i := 10) (N := some 97) (v := ?_) (a' := ?_) #[true, true, true, true, true, true, true, false, true, true, true, false, false, false, false, false, false, false, false, false, false] rfl rfl (any_of HT_.out (by kernel_rfl)) (fun _ _ _ h => h) (Or.inl ⟨by rfl, ?_⟩) ?_ ?_
                                  rotate_left
                                  · intro w'
                                    go_simp
                                    with_reducible rfl
                                  rotate_left
                                  · simp only [Act.put, List.setIfInBounds_toArray, List.set_cons_zero, List.set_cons_succ, i64_w, i32_w]
                                    rfl
                                  refine pure_ (i := 11) (N := some 98) (v := ?_) (a' := ?_) #[true, true, true, true, true, true, true, false, true, true, true, true, false, false, false, false, false, false, false, false, false] rfl rfl (any_of HT_.out (by kernel_rfl)) (fun _ _ _ h => h) (Or.inl ⟨by rfl, ?_⟩) ?_ ?_
                                  rotate_left
                                  · intro w'
                                    go_simp
                                    with_reducible rfl
                                  rotate_left
                                  · simp only [Act.put, List.setIfInBounds_toArray, List.set_cons_zero, List.set_cons_succ, i64_w, i32_w]
                                    rfl
                                  refine pure_ (i := 14) (N := some 101) (v := ?_) (a' := ?_) #[true, true, true, true, true, true, true, false, true, true, true, true, false, false, true, false, false, false, false, false, false] rfl rfl (any_of HT_.out (by kernel_rfl)) (fun _ _ _ h => h) (Or.inl ⟨by rfl, ?_⟩) ?_ ?_
                                  rotate_left
                                  · intro w'
                                    go_simp
                                    with_reducible rfl
                                  rotate_left
                                  · simp only [Act.put, List.setIfInBounds_toArray, List.set_cons_zero, List.set_cons_succ, i64_w, i32_w]
                                    rfl
                                  refine pure_ (i := 15) (N := some 102) (v := ?_) (a' := ?_) #[true, true, true, true, true, true, true, false, true, true, true, true, false, false, true, true, false, false, false, false, false] rfl rfl (any_of HT_.out (by kernel_rfl)) (fun _ _ _ h => h) (Or.inl ⟨by rfl, ?_⟩) ?_ ?_
                                  rotate_left
                                  · intro w'
                                    go_simp
                                    with_reducible rfl
                                  rotate_left
                                  · simp only [Act.put, List.setIfInBounds_toArray, List.set_cons_zero, List.set_cons_succ, i64_w, i32_w]
                                    rfl
                                  refine pure_ (i := 16) (N := some 103) (v := ?_) (a' := ?_) #[true, true, true, true, true, true, true, false, true, true, true, true, false, false, true, true, true, false, false, false, false] rfl rfl (any_of HT_.out (by kernel_rfl)) (fun _ _ _ h => h) (Or.inl ⟨by rfl, ?_⟩) ?_ ?_
                                  rotate_left
                                  · intro w'
                                    go_simp
                                    with_reducible rfl
                                  rotate_left
                                  · simp only [Act.put, List.setIfInBounds_toArray, List.set_cons_zero, List.set_cons_succ, i64_w, i32_w]
                                    rfl
                                  refine pure_ (i := 17) (N := some 104) (v := ?_) (a' := ?_) #[true, true, true, true, true, true, true, false, true, true, true, true, false, false, true, true, true, true, false, false, false] rfl rfl (any_of HT_.out (by kernel_rfl)) (fun _ _ _ h => h) (Or.inl ⟨by rfl, ?_⟩) ?_ ?_
                                  rotate_left
                                  · intro w'
                                    go_simp
                                    with_reducible rfl
                                  rotate_left
                                  · simp only [Act.put, List.setIfInBounds_toArray, List.set_cons_zero, List.set_cons_succ, i64_w, i32_w]
                                    rfl
                                  refine take_ (i := 7) (N := some 94) (v := ?_) (a' := ?_) #[true, true, true, true, true, true, true, true, true, true, true, true, false, false, true, true, true, true, false, false, false] rfl rfl (take_ofW HT_.out HW_.out (by kernel_rfl)) (fun _ _ _ h => h) (Or.inl ⟨by rfl, ?_⟩) hHeld ?_ ?_
                                  rotate_left
                                  · rintro w' ⟨s0, s1, s2, s3, s4, s5⟩
                                    go_simp
                                    with_reducible rfl
                                  rotate_left
                                  · simp only [Act.put, List.setIfInBounds_toArray, List.set_cons_zero, List.set_cons_succ, i64_w, i32_w]
                                    rfl
                                  refine take_ (i := 12) (N := some 99) (v := ?_) (a' := ?_) #[true, true, true, true, true, true, true, true, true, true, true, true, true, false, true, true, true, true, false, false, false] rfl rfl (take_ofW HT_.out HW_.out (by kernel_rfl)) (fun _ _ _ h => h) (Or.inl ⟨by rfl, ?_⟩) hHeld ?_ ?_
                                  rotate_left
                                  · rintro w' ⟨s0, s1, s2, s3, s4, s5⟩
                                    go_simp
                                    with_reducible rfl
                                  rotate_left
                                  · simp only [Act.put, List.setIfInBounds_toArray, List.set_cons_zero, List.set_cons_succ, i64_w, i32_w]
                                    rfl
                                  refine pure_ (i := 13) (N := some 100) (v := ?_) (a' := ?_) #[true, true, true, true, true, true, true, true, true, true, true, true, true, true, true, true, true, true, false, false, false] rfl rfl (any_of HT_.out (by kernel_rfl)) (fun _ _ _ h => h) (Or.inl ⟨by rfl, ?_⟩) ?_ ?_
                                  rotate_left
                                  · intro w'
                                    go_simp
                                    with_reducible rfl
                                  rotate_left
                                  · simp only [Act.put, List.setIfInBounds_toArray, List.set_cons_zero, List.set_cons_succ, i64_w, i32_w]
                                    rfl
                                  refine take_ (i := 18) (N := some 105) (v := ?_) (a' := ?_) #[true, true, true, true, true, true, true, true, true, true, true, true, true, true, true, true, true, true, true, false, false] rfl rfl (take_ofW HT_.out HW_.out (by kernel_rfl)) (fun _ _ _ h => h) (Or.inl ⟨by rfl, ?_⟩) hHeld ?_ ?_
                                  rotate_left
                                  · rintro w' ⟨s0, s1, s2, s3, s4, s5⟩
                                    go_simp
                                    with_reducible rfl
                                  rotate_left
                                  · simp only [Act.put, List.setIfInBounds_toArray, List.set_cons_zero, List.set_cons_succ, i64_w, i32_w]
                                    rfl
                                  refine pure_ (i := 19) (N := some 106) (v := ?_) (a' := ?_) #[true, true, true, true, true, true, true, true, true, true, true, true, true, true, true, true, true, true, true, true, false] rfl rfl (any_of HT_.out (by kernel_rfl)) (fun _ _ _ h => h) (Or.inl ⟨by rfl, ?_⟩) ?_ ?_
                                  rotate_left
                                  · intro w'
                                    go_simp
                                    with_reducible rfl
                                  rotate_left
                                  · simp only [Act.put, List.setIfInBounds_toArray, List.set_cons_zero, List.set_cons_succ, i64_w, i32_w]
                                    rfl
                                  refine pure_ (i := 20) (N := some 107) (v := ?_) (a' := ?_) #[true, true, true, true, true, true, true, true, true, true, true, true, true, true, true, true, true, true, true, true, true] rfl rfl (any_of HT_.out (by kernel_rfl)) (fun _ _ _ h => h) (Or.inl ⟨by rfl, ?_⟩) ?_ ?_
                                  rotate_left
                                  · intro w'
                                    go_simp
                                    with_reducible rfl
                                  rotate_left
                                  · simp only [Act.put, List.setIfInBounds_toArray, List.set_cons_zero, List.set_cons_succ, i64_w, i32_w]
                                    rfl
                                  refine done_ (done_of HT_.out (by kernel_rfl)) ?_
                                  try go_wp2
                                  have n0_ := Aside0.mk (Kd.R_drew HO_10.out)
                                  have n1_ := Aside0.mk (Kd.R_drew HO_13.out)
                                  have n2_ := Aside0.mk (below_drew1 HB.out)
                                  clear HO_10
                                  clear HO_13
                                  clear HB
                                  have HO_10 := n0_
                                  have HO_13 := n1_
                                  have HB := n2_
                                  clear n0_ n1_ n2_
                                  have p149 : 0 ≤ ((ji32) : Int) := of_decide_eq_true (by first | (with_reducible assumption) | assumption)
                                  have q149 : (ji32) < (x13_4.length : Int) := of_decide_eq_true (by first | (with_reducible assumption) | assumption)
                                  obtain ⟨ad149, e149, hx149_0, hx149_1⟩ := at_T51 (Kd.R_reads' HO_13.out).2.2 (ji32) p149 q149
                                  obtain rfl : ad146 = ad149 := (by injection e149)
                                  replace p149 := eq_true p149
                                  replace q149 := eq_true q149
                                  have p150 : 0 ≤ (x14_4 : Int) := of_decide_eq_true (by first | (with_reducible assumption) | assumption)
                                  have q150 : x14_4 < (x10_4.length : Int) := of_decide_eq_true (by first | (with_reducible assumption) | assumption)
                                  obtain ⟨ad150, e150, hx150_0, hx150_1⟩ := at_T51 (Kd.R_reads' HO_10.out).2.2 x14_4 p150 q150
                                  obtain rfl : ad148 = ad150 := (by injection e150)
                                  replace p150 := eq_true p150
                                  replace q150 := eq_true q150
                                  have p37 : 0 ≤ ((ji32) : Int) := of_decide_eq_true (by first | (with_reducible assumption) | assumption)
                                  have q37 : ((ji32) : Int) < ((x13_4.length : Int) : Int) := of_decide_eq_true (by first | (with_reducible assumption) | assumption)
                                  obtain ⟨go37, co37, eo37, gb37, gl37, cl37, HG37⟩ := Kd.R_form HO_13.out (by omega)
                                  (first | cases eo37 | (injection eo37 with ea_ en_ ec_; (first | subst ea_ | (injection ea_ with ea_; subst ea_)); subst ec_; clear en_))
                                  have GB37 := Aside0.mk gb37
                                  have GG37 := Aside0.mk HG37
                                  clear gb37 gl37 HG37
                                  (first | simp only [add_plain] at hx146_0 | skip)
                                  (first | simp only [add_plain] at hx146_1 | skip)
                                  (first | simp only [add_plain] at hx147_0 | skip)
                                  (first | simp only [add_plain] at hx147_1 | skip)
                                  (first | simp only [add_plain] at hx149_0 | skip)
                                  (first | simp only [add_plain] at hx149_1 | skip)
                                  obtain ⟨ce37, hcl37, hM37, hcc37, hfr37⟩ := Kd.R_elem HO_13.out z51 ((ji32) : Int) p37 q37
                                  obtain rfl := k51_openM hM37
                                  have hx37_0 : World.cell? _ ⟨go37, ((ji32) : Int).toNat * 2, none⟩ = some (.int .i64 ((rd_T51 x13_4 (ji32)).f0)) := hcc37 0 _ rfl
                                  have hx37_1 : World.cell? _ ⟨go37, ((ji32) : Int).toNat * 2 + 1, none⟩ = some (.int .i64 ((rd_T51 x13_4 (ji32)).f1)) := hcc37 1 _ rfl
                                  have hf37_0 : World.frozen? _ ⟨go37, ((ji32) : Int).toNat * 2, none⟩ = false := hfr37 0
                                  have hf37_1 : World.frozen? _ ⟨go37, ((ji32) : Int).toNat * 2 + 1, none⟩ = false := hfr37 1
                                  clear hcl37 hcc37 hfr37 hM37
                                  replace p37 := eq_true p37
                                  replace q37 := eq_true q37
                                  obtain ⟨ce42, hcl42, hM42, hcc42, hfr42⟩ := Kd.R_elem HO_13.out z51 ((ji32) : Int) (of_decide_eq_true (by first | (with_reducible assumption) | assumption)) (by have h_ : ((ji32) : Int) < ((x13_4.length : Int) : Int) := of_decide_eq_true (by first | (with_reducible assumption) | assumption); first | exact h_ | (have e_ := (Kd.R_reads' HO_13.out).1; omega) | simpa using h_)
                                  obtain rfl := k51_openM hM42
                                  have HP42 := (Kd.R_seg HO_13.out ((ji32) : Int) (of_decide_eq_true (by first | (with_reducible assumption) | assumption)) (by have h_ : ((ji32) : Int) < ((x13_4.length : Int) : Int) := of_decide_eq_true (by first | (with_reducible assumption) | assumption); first | exact h_ | (have e_ := (Kd.R_reads' HO_13.out).1; omega) | simpa using h_) (seg := [.int .i64 (wrap64 (((rd_T51 x13_4 (ji32)).f1) + ((rd_T51 x10_4 x14_4).f1)))]) (j := 1) hcl42 hcc42 (show 2 ≤ 2 from by decide) (x' := (⟨(rd_T51 x13_4 (ji32)).f0, wrap64 (((rd_T51 x13_4 (ji32)).f1) + ((rd_T51 x10_4 x14_4).f1))⟩ : S51)) (k51_mkM _ _ _ (⟨(rd_T51 x13_4 (ji32)).f0, wrap64 (((rd_T51 x13_4 (ji32)).f1) + ((rd_T51 x10_4 x14_4).f1))⟩ : S51) ) (fun _ hk => hk)).1
                                  rw [← Ny151.out] at HP42
                                  have HQ42 := Aside0.mk HP42
                                  clear hcl42 hcc42 hfr42 hM42 HP42
                                  refine start_ (n := 14) (S := fun w' => w'.cell? ⟨go37, ((ji32) : Int).toNat * 2, none⟩ = some (.int .i64 ((rd_T51 x13_4 (ji32)).f0)) ∧ w'.cell? ⟨go37, ((ji32) : Int).toNat * 2 + 1, none⟩ = some (.int .i64 ((rd_T51 x13_4 (ji32)).f1)) ∧ w'.cell? (ad148.add ((x14_4).toNat * 2)) = some (.int .i64 ((rd_T51 x10_4 x14_4).f0)) ∧ w'.cell? ⟨(ad148.add ((x14_4).toNat * 2)).block, (ad148.add ((x14_4).toNat * 2)).off + 1, none⟩ = some (.int .i64 ((rd_T51 x10_4 x14_4).f1))) (ds := [13]) #[false, false, false, false, false, false, false, false, false, false, false, false, false, false] (by kernel_rfl) rfl rfl ⟨hx37_0, hx37_1, hx150_0, hx150_1⟩ (fun hHeld => ?_); refine with_tabW steadingref05_Give.tab20 steadingref05_Give.bits20 (fun HT_ HW_ => ?_)
                                  generalize w40.drew = w41 at HO_10 HO_13 HB GG37 HQ42 hf37_0 hf37_1 hx146_0 hx146_1 hx147_0 hx147_1 hx149_0 hx149_1 hx150_0 hx150_1 hx37_0 hx37_1 hHeld ⊢
                                  refine pure_ (i := 0) (N := some 108) (v := ?_) (a' := ?_) #[true, false, false, false, false, false, false, false, false, false, false, false, false, false] rfl rfl (any_of HT_.out (by kernel_rfl)) (fun _ _ _ h => h) (Or.inl ⟨by rfl, ?_⟩) ?_ ?_
                                  rotate_left
                                  · intro w'
                                    go_simp
                                    with_reducible rfl
                                  rotate_left
                                  · simp only [Act.put, List.setIfInBounds_toArray, List.set_cons_zero, List.set_cons_succ, i64_w, i32_w]
                                    rfl
                                  refine pure_ (i := 1) (N := some 109) (v := ?_) (a' := ?_) #[true, true, false, false, false, false, false, false, false, false, false, false, false, false] rfl rfl (any_of HT_.out (by kernel_rfl)) (fun _ _ _ h => h) (Or.inl ⟨by rfl, ?_⟩) ?_ ?_
                                  rotate_left
                                  · intro w'
                                    go_simp
                                    with_reducible rfl
                                  rotate_left
                                  · simp only [Act.put, List.setIfInBounds_toArray, List.set_cons_zero, List.set_cons_succ, i64_w, i32_w]
                                    rfl
                                  refine pure_ (i := 2) (N := some 110) (v := ?_) (a' := ?_) #[true, true, true, false, false, false, false, false, false, false, false, false, false, false] rfl rfl (any_of HT_.out (by kernel_rfl)) (fun _ _ _ h => h) (Or.inl ⟨by rfl, ?_⟩) ?_ ?_
                                  rotate_left
                                  · intro w'
                                    go_simp
                                    with_reducible rfl
                                  rotate_left
                                  · simp only [Act.put, List.setIfInBounds_toArray, List.set_cons_zero, List.set_cons_succ, i64_w, i32_w]
                                    rfl
                                  refine pure_ (i := 3) (N := some 111) (v := ?_) (a' := ?_) #[true, true, true, true, false, false, false, false, false, false, false, false, false, false] rfl rfl (any_of HT_.out (by kernel_rfl)) (fun _ _ _ h => h) (Or.inl ⟨by rfl, ?_⟩) ?_ ?_
                                  rotate_left
                                  · intro w'
                                    go_simp
                                    with_reducible rfl
                                  rotate_left
                                  · simp only [Act.put, List.setIfInBounds_toArray, List.set_cons_zero, List.set_cons_succ, i64_w, i32_w]
                                    rfl
                                  refine pure_ (i := 5) (N := some 113) (v := ?_) (a' := ?_) #[true, true, true, true, false, true, false, false, false, false, false, false, false, false] rfl rfl (any_of HT_.out (by kernel_rfl)) (fun _ _ _ h => h) (Or.inl ⟨by rfl, ?_⟩) ?_ ?_
                                  rotate_left
                                  · intro w'
                                    go_simp
                                    with_reducible rfl
                                  rotate_left
                                  · simp only [Act.put, List.setIfInBounds_toArray, List.set_cons_zero, List.set_cons_succ, i64_w, i32_w]
                                    rfl
                                  refine pure_ (i := 6) (N := some 114) (v := ?_) (a' := ?_) #[true, true, true, true, false, true, true, false, false, false, false, false, false, false] rfl rfl (any_of HT_.out (by kernel_rfl)) (fun _ _ _ h => h) (Or.inl ⟨by rfl, ?_⟩) ?_ ?_
                                  rotate_left
                                  · intro w'
                                    go_simp
                                    with_reducible rfl
                                  rotate_left
                                  · simp only [Act.put, List.setIfInBounds_toArray, List.set_cons_zero, List.set_cons_succ, i64_w, i32_w]
                                    rfl
                                  refine pure_ (i := 7) (N := some 115) (v := ?_) (a' := ?_) #[true, true, true, true, false, true, true, true, false, false, false, false, false, false] rfl rfl (any_of HT_.out (by kernel_rfl)) (fun _ _ _ h => h) (Or.inl ⟨by rfl, ?_⟩) ?_ ?_
                                  rotate_left
                                  · intro w'
                                    go_simp
                                    with_reducible rfl
                                  rotate_left
                                  · simp only [Act.put, List.setIfInBounds_toArray, List.set_cons_zero, List.set_cons_succ, i64_w, i32_w]
                                    rfl
                                  refine pure_ (i := 8) (N := some 116) (v := ?_) (a' := ?_) #[true, true, true, true, false, true, true, true, true, false, false, false, false, false] rfl rfl (any_of HT_.out (by kernel_rfl)) (fun _ _ _ h => h) (Or.inl ⟨by rfl, ?_⟩) ?_ ?_
                                  rotate_left
                                  · intro w'
                                    go_simp
                                    with_reducible rfl
                                  rotate_left
                                  · simp only [Act.put, List.setIfInBounds_toArray, List.set_cons_zero, List.set_cons_succ, i64_w, i32_w]
                                    rfl
                                  refine take_ (i := 4) (N := some 112) (v := ?_) (a' := ?_) #[true, true, true, true, true, true, true, true, true, false, false, false, false, false] rfl rfl (take_ofW HT_.out HW_.out (by kernel_rfl)) (fun _ _ _ h => h) (Or.inl ⟨by rfl, ?_⟩) hHeld ?_ ?_
                                  rotate_left
                                  · rintro w' ⟨s0, s1, s2, s3⟩
                                    go_simp
                                    with_reducible rfl
                                  rotate_left
                                  · simp only [Act.put, List.setIfInBounds_toArray, List.set_cons_zero, List.set_cons_succ, i64_w, i32_w]
                                    rfl
                                  refine take_ (i := 9) (N := some 117) (v := ?_) (a' := ?_) #[true, true, true, true, true, true, true, true, true, true, false, false, false, false] rfl rfl (take_ofW HT_.out HW_.out (by kernel_rfl)) (fun _ _ _ h => h) (Or.inl ⟨by rfl, ?_⟩) hHeld ?_ ?_
                                  rotate_left
                                  · rintro w' ⟨s0, s1, s2, s3⟩
                                    go_simp
                                    with_reducible rfl
                                  rotate_left
                                  · simp only [Act.put, List.setIfInBounds_toArray, List.set_cons_zero, List.set_cons_succ, i64_w, i32_w]
                                    rfl
                                  refine pure_ (i := 10) (N := some 118) (v := ?_) (a' := ?_) #[true, true, true, true, true, true, true, true, true, true, true, false, false, false] rfl rfl (any_of HT_.out (by kernel_rfl)) (fun _ _ _ h => h) (Or.inl ⟨by rfl, ?_⟩) ?_ ?_
                                  rotate_left
                                  · intro w'
                                    go_simp
                                    with_reducible rfl
                                  rotate_left
                                  · simp only [Act.put, List.setIfInBounds_toArray, List.set_cons_zero, List.set_cons_succ, i64_w, i32_w]
                                    rfl
                                  refine pure_ (i := 11) (N := some 119) (v := ?_) (a' := ?_) #[true, true, true, true, true, true, true, true, true, true, true, true, false, false] rfl rfl (any_of HT_.out (by kernel_rfl)) (fun _ _ _ h => h) (Or.inl ⟨by rfl, ?_⟩) ?_ ?_
                                  rotate_left
                                  · intro w'
                                    go_simp
                                    with_reducible rfl
                                  rotate_left
                                  · simp only [Act.put, List.setIfInBounds_toArray, List.set_cons_zero, List.set_cons_succ, i64_w, i32_w]
                                    rfl
                                  refine pure_ (i := 12) (N := some 120) (v := ?_) (a' := ?_) #[true, true, true, true, true, true, true, true, true, true, true, true, true, false] rfl rfl (any_of HT_.out (by kernel_rfl)) (fun _ _ _ h => h) (Or.inl ⟨by rfl, ?_⟩) ?_ ?_
                                  rotate_left
                                  · intro w'
                                    go_simp
                                    with_reducible rfl
                                  rotate_left
                                  · simp only [Act.put, List.setIfInBounds_toArray, List.set_cons_zero, List.set_cons_succ, i64_w, i32_w]
                                    rfl
                                  refine last_ (i := 13) (N := none) #[true, true, true, true, true, true, true, true, true, true, true, true, true, true] rfl rfl (one_of HT_.out (by kernel_rfl)) (by decide) (fun K hK => ?_)
                                  refine skip_ (w1 := ?_) (by rfl) rfl ?_ ?_
                                  rotate_left
                                  · go_simp
                                    rfl
                                  refine hK.out _ _ ?_
                                  clear hK K
                                  refine done_ (done_of HT_.out (by kernel_rfl)) ?_
                                  try go_wp2
                                  go_roundg k4
                                  case measure => have := HJ4.out; have := HK2.out; have := HJ25.out; have := HK4.out; omega
                                  case rel => exact ⟨(x10_4), (y151), (wrap64 (x14_4 + 1)), (by first | rfl | (simp; done) | (simp [*]; done)), H', ⟨by have := HJ4.out; have := HK2.out; have := HJ25.out; have := HK4.out; omega⟩, ⟨by (with_reducible repeat (first | apply Kd.R_alloc | apply Kd.R_drewN | apply Kd.R_drew)); exact Kd.R_mono (Kd.R_far (p := ⟨go37, ((ji32) : Int).toNat * 2 + 1, none⟩) (Kd.R_mono HO_10.out (fun k_ hk => (⟨hk, fun e_ => hk (by rw [e_]; rfl)⟩ : _ ∧ k_ ≠ go37))) (fun _ hk => hk.2) (.int .i64 (wrap64 (((rd_T51 x13_4 (ji32)).f1) + ((rd_T51 x10_4 x14_4).f1))))) (fun _ hk => hk.1)⟩, ⟨by (with_reducible repeat (first | apply Kd.R_alloc | apply Kd.R_drewN | apply Kd.R_drew)); exact HQ42.out⟩, ⟨by repeat (first | (with_reducible first | exact HB.out | apply below_alloc | apply pw_below_drewN | apply below_drew1 | refine below_set ?_ GB37.out) | exact HB.out)⟩⟩
                                · rw [if_neg c36] at H
                                  have c36b0 : ((wrap64 (((rd_T51 x13_4 (ji32)).f0) + ((rd_T51 x13_4 (ji32)).f1))) == ((rd_T51 x10_4 x14_4).f0)) = false := beq_eq_false_iff_ne.mpr c36
                                  have c36b1 : ((wrap64 (((rd_T51 x13_4 (ji32)).f0) + ((rd_T51 x13_4 (ji32)).f1))) != ((rd_T51 x10_4 x14_4).f0)) = true := bne_iff_ne.mpr c36
                                  by_cases c43 : x13_4.length < 8796093022208
                                  · rw [if_pos c43] at H
                                    have LMc43 := Aside0.mk c43
                                    clear c43
                                    obtain ⟨y153, hy153⟩ : ∃ y_ : List (S51), y_ = (x13_4 ++ [(⟨(rd_T51 x10_4 x14_4).f0, (rd_T51 x10_4 x14_4).f1⟩ : S51)]) := ⟨_, rfl⟩
                                    replace H : (steadingref05_Give.l1 k4 x10_4 y153 (wrap64 (x14_4 + 1))) = some (r1, r2) := by first | (rw [hy153]; with_reducible exact H) | (have H2_ := (Option.bind_some _ _).symm.trans H; rw [hy153]; with_reducible exact H2_) | (have H2_ := (Option.bind_some _ _).symm.trans H; with_reducible exact H2_) | with_reducible exact H | (rw [hy153]; exact H) | exact H
                                    have Ny153 := Aside0.mk hy153
                                    clear hy153
                                    have H' := Aside0.mk H
                                    clear H
                                    obtain ⟨Ao44, co44, eo44⟩ := Kd.R_slice HO_10.out
                                    subst eo44
                                    obtain ⟨Ao45, co45, eo45⟩ := Kd.R_slice HO_13.out
                                    subst eo45
                                    try go_wp2
                                    have n0_ := Aside0.mk (Kd.R_drew HO_10.out)
                                    have n1_ := Aside0.mk (Kd.R_drew HO_13.out)
                                    have n2_ := Aside0.mk (below_drew1 HB.out)
                                    clear HO_10
                                    clear HO_13
                                    clear HB
                                    have HO_10 := n0_
                                    have HO_13 := n1_
                                    have HB := n2_
                                    clear n0_ n1_ n2_
                                    have p146 : 0 ≤ ((ji32) : Int) := of_decide_eq_true (by first | (with_reducible assumption) | assumption)
                                    have q146 : (ji32) < (x13_4.length : Int) := of_decide_eq_true (by first | (with_reducible assumption) | assumption)
                                    obtain ⟨ad146, e146, hx146_0, hx146_1⟩ := at_T51 (Kd.R_reads' HO_13.out).2.2 (ji32) p146 q146
                                    cases e146
                                    replace p146 := eq_true p146
                                    replace q146 := eq_true q146
                                    have p147 : 0 ≤ ((ji32) : Int) := of_decide_eq_true (by first | (with_reducible assumption) | assumption)
                                    have q147 : (ji32) < (x13_4.length : Int) := of_decide_eq_true (by first | (with_reducible assumption) | assumption)
                                    obtain ⟨ad147, e147, hx147_0, hx147_1⟩ := at_T51 (Kd.R_reads' HO_13.out).2.2 (ji32) p147 q147
                                    obtain rfl : ad146 = ad147 := (by injection e147)
                                    replace p147 := eq_true p147
                                    replace q147 := eq_true q147
                                    have p148 : 0 ≤ (x14_4 : Int) := of_decide_eq_true (by first | (with_reducible assumption) | assumption)
                                    have q148 : x14_4 < (x10_4.length : Int) := of_decide_eq_true (by first | (with_reducible assumption) | assumption)
                                    obtain ⟨ad148, e148, hx148_0, hx148_1⟩ := at_T51 (Kd.R_reads' HO_10.out).2.2 x14_4 p148 q148
                                    cases e148
                                    replace p148 := eq_true p148
                                    replace q148 := eq_true q148
                                    refine start_ (n := 21) (S := fun w' => w'.cell? (ad146.add (((ji32)).toNat * 2)) = some (.int .i64 ((rd_T51 x13_4 (ji32)).f0)) ∧ w'.cell? ⟨(ad146.add (((ji32)).toNat * 2)).block, (ad146.add (((ji32)).toNat * 2)).off + 1, none⟩ = some (.int .i64 ((rd_T51 x13_4 (ji32)).f1)) ∧ w'.cell? (ad146.add (((ji32)).toNat * 2)) = some (.int .i64 ((rd_T51 x13_4 (ji32)).f0)) ∧ w'.cell? ⟨(ad146.add (((ji32)).toNat * 2)).block, (ad146.add (((ji32)).toNat * 2)).off + 1, none⟩ = some (.int .i64 ((rd_T51 x13_4 (ji32)).f1)) ∧ w'.cell? (ad148.add ((x14_4).toNat * 2)) = some (.int .i64 ((rd_T51 x10_4 x14_4).f0)) ∧ w'.cell? ⟨(ad148.add ((x14_4).toNat * 2)).block, (ad148.add ((x14_4).toNat * 2)).off + 1, none⟩ = some (.int .i64 ((rd_T51 x10_4 x14_4).f1))) (ds := []) #[false, false, false, false, false, false, false, false, false, false, false, false, false, false, false, false, false, false, false, false, false] (by kernel_rfl) rfl rfl ⟨hx146_0, hx146_1, hx147_0, hx147_1, hx148_0, hx148_1⟩ (fun hHeld => ?_); refine with_tabW steadingref05_Give.tab19 steadingref05_Give.bits19 (fun HT_ HW_ => ?_)
                                    generalize wr.drew = w46 at HO_10 HO_13 HB hx146_0 hx146_1 hx147_0 hx147_1 hx148_0 hx148_1 hHeld ⊢
                                    refine pure_ (i := 0) (N := some 87) (v := ?_) (a' := ?_) #[true, false, false, false, false, false, false, false, false, false, false, false, false, false, false, false, false, false, false, false, false] rfl rfl (any_of HT_.out (by kernel_rfl)) (fun _ _ _ h => h) (Or.inl ⟨by rfl, ?_⟩) ?_ ?_
                                    rotate_left
                                    · intro w'
                                      go_simp
                                      with_reducible rfl
                                    rotate_left
                                    · simp only [Act.put, List.setIfInBounds_toArray, List.set_cons_zero, List.set_cons_succ, i64_w, i32_w]
                                      rfl
                                    refine pure_ (i := 1) (N := some 88) (v := ?_) (a' := ?_) #[true, true, false, false, false, false, false, false, false, false, false, false, false, false, false, false, false, false, false, false, false] rfl rfl (any_of HT_.out (by kernel_rfl)) (fun _ _ _ h => h) (Or.inl ⟨by rfl, ?_⟩) ?_ ?_
                                    rotate_left
                                    · intro w'
                                      go_simp
                                      with_reducible rfl
                                    rotate_left
                                    · simp only [Act.put, List.setIfInBounds_toArray, List.set_cons_zero, List.set_cons_succ, i64_w, i32_w]
                                      rfl
                                    refine pure_ (i := 2) (N := some 89) (v := ?_) (a' := ?_) #[true, true, true, false, false, false, false, false, false, false, false, false, false, false, false, false, false, false, false, false, false] rfl rfl (any_of HT_.out (by kernel_rfl)) (fun _ _ _ h => h) (Or.inl ⟨by rfl, ?_⟩) ?_ ?_
                                    rotate_left
                                    · intro w'
                                      go_simp
                                      with_reducible rfl
                                    rotate_left
                                    · simp only [Act.put, List.setIfInBounds_toArray, List.set_cons_zero, List.set_cons_succ, i64_w, i32_w]
                                      rfl
                                    refine pure_ (i := 3) (N := some 90) (v := ?_) (a' := ?_) #[true, true, true, true, false, false, false, false, false, false, false, false, false, false, false, false, false, false, false, false, false] rfl rfl (any_of HT_.out (by kernel_rfl)) (fun _ _ _ h => h) (Or.inl ⟨by rfl, ?_⟩) ?_ ?_
                                    rotate_left
                                    · intro w'
                                      go_simp
                                      with_reducible rfl
                                    rotate_left
                                    · simp only [Act.put, List.setIfInBounds_toArray, List.set_cons_zero, List.set_cons_succ, i64_w, i32_w]
                                      rfl
                                    refine pure_ (i := 4) (N := some 91) (v := ?_) (a' := ?_) #[true, true, true, true, true, false, false, false, false, false, false, false, false, false, false, false, false, false, false, false, false] rfl rfl (any_of HT_.out (by kernel_rfl)) (fun _ _ _ h => h) (Or.inl ⟨by rfl, ?_⟩) ?_ ?_
                                    rotate_left
                                    · intro w'
                                      go_simp
                                      with_reducible rfl
                                    rotate_left
                                    · simp only [Act.put, List.setIfInBounds_toArray, List.set_cons_zero, List.set_cons_succ, i64_w, i32_w]
                                      rfl
                                    refine pure_ (i := 5) (N := some 92) (v := ?_) (a' := ?_) #[true, true, true, true, true, true, false, false, false, false, false, false, false, false, false, false, false, false, false, false, false] rfl rfl (any_of HT_.out (by kernel_rfl)) (fun _ _ _ h => h) (Or.inl ⟨by rfl, ?_⟩) ?_ ?_
                                    rotate_left
                                    · intro w'
                                      go_simp
                                      with_reducible rfl
                                    rotate_left
                                    · simp only [Act.put, List.setIfInBounds_toArray, List.set_cons_zero, List.set_cons_succ, i64_w, i32_w]
                                      rfl
                                    refine pure_ (i := 6) (N := some 93) (v := ?_) (a' := ?_) #[true, true, true, true, true, true, true, false, false, false, false, false, false, false, false, false, false, false, false, false, false] rfl rfl (any_of HT_.out (by kernel_rfl)) (fun _ _ _ h => h) (Or.inl ⟨by rfl, ?_⟩) ?_ ?_
                                    rotate_left
                                    · intro w'
                                      go_simp
                                      with_reducible rfl
                                    rotate_left
                                    · simp only [Act.put, List.setIfInBounds_toArray, List.set_cons_zero, List.set_cons_succ, i64_w, i32_w]
                                      rfl
                                    refine pure_ (i := 8) (N := some 95) (v := ?_) (a' := ?_) #[true, true, true, true, true, true, true, false, true, false, false, false, false, false, false, false, false, false, false, false, false] rfl rfl (any_of HT_.out (by kernel_rfl)) (fun _ _ _ h => h) (Or.inl ⟨by rfl, ?_⟩) ?_ ?_
                                    rotate_left
                                    · intro w'
                                      go_simp
                                      with_reducible rfl
                                    rotate_left
                                    · simp only [Act.put, List.setIfInBounds_toArray, List.set_cons_zero, List.set_cons_succ, i64_w, i32_w]
                                      rfl
                                    refine pure_ (i := 9) (N := some 96) (v := ?_) (a' := ?_) #[true, true, true, true, true, true, true, false, true, true, false, false, false, false, false, false, false, false, false, false, false] rfl rfl (any_of HT_.out (by kernel_rfl)) (fun _ _ _ h => h) (Or.inl ⟨by rfl, ?_⟩) ?_ ?_
                                    rotate_left
                                    · intro w'
                                      go_simp
                                      with_reducible rfl
                                    rotate_left
                                    · simp only [Act.put, List.setIfInBounds_toArray, List.set_cons_zero, List.set_cons_succ, i64_w, i32_w]
                                      rfl
                                    refine pure_ (i := 10) (N := some 97) (v := ?_) (a' := ?_) #[true, true, true, true, true, true, true, false, true, true, true, false, false, false, false, false, false, false, false, false, false] rfl rfl (any_of HT_.out (by kernel_rfl)) (fun _ _ _ h => h) (Or.inl ⟨by rfl, ?_⟩) ?_ ?_
                                    rotate_left
                                    · intro w'
                                      go_simp
                                      with_reducible rfl
                                    rotate_left
                                    · simp only [Act.put, List.setIfInBounds_toArray, List.set_cons_zero, List.set_cons_succ, i64_w, i32_w]
                                      rfl
                                    refine pure_ (i := 11) (N := some 98) (v := ?_) (a' := ?_) #[true, true, true, true, true, true, true, false, true, true, true, true, false, false, false, false, false, false, false, false, false] rfl rfl (any_of HT_.out (by kernel_rfl)) (fun _ _ _ h => h) (Or.inl ⟨by rfl, ?_⟩) ?_ ?_
                                    rotate_left
                                    · intro w'
                                      go_simp
                                      with_reducible rfl
                                    rotate_left
                                    · simp only [Act.put, List.setIfInBounds_toArray, List.set_cons_zero, List.set_cons_succ, i64_w, i32_w]
                                      rfl
                                    refine pure_ (i := 14) (N := some 101) (v := ?_) (a' := ?_) #[true, true, true, true, true, true, true, false, true, true, true, true, false, false, true, false, false, false, false, false, false] rfl rfl (any_of HT_.out (by kernel_rfl)) (fun _ _ _ h => h) (Or.inl ⟨by rfl, ?_⟩) ?_ ?_
                                    rotate_left
                                    · intro w'
                                      go_simp
                                      with_reducible rfl
                                    rotate_left
                                    · simp only [Act.put, List.setIfInBounds_toArray, List.set_cons_zero, List.set_cons_succ, i64_w, i32_w]
                                      rfl
                                    refine pure_ (i := 15) (N := some 102) (v := ?_) (a' := ?_) #[true, true, true, true, true, true, true, false, true, true, true, true, false, false, true, true, false, false, false, false, false] rfl rfl (any_of HT_.out (by kernel_rfl)) (fun _ _ _ h => h) (Or.inl ⟨by rfl, ?_⟩) ?_ ?_
                                    rotate_left
                                    · intro w'
                                      go_simp
                                      with_reducible rfl
                                    rotate_left
                                    · simp only [Act.put, List.setIfInBounds_toArray, List.set_cons_zero, List.set_cons_succ, i64_w, i32_w]
                                      rfl
                                    refine pure_ (i := 16) (N := some 103) (v := ?_) (a' := ?_) #[true, true, true, true, true, true, true, false, true, true, true, true, false, false, true, true, true, false, false, false, false] rfl rfl (any_of HT_.out (by kernel_rfl)) (fun _ _ _ h => h) (Or.inl ⟨by rfl, ?_⟩) ?_ ?_
                                    rotate_left
                                    · intro w'
                                      go_simp
                                      with_reducible rfl
                                    rotate_left
                                    · simp only [Act.put, List.setIfInBounds_toArray, List.set_cons_zero, List.set_cons_succ, i64_w, i32_w]
                                      rfl
                                    refine pure_ (i := 17) (N := some 104) (v := ?_) (a' := ?_) #[true, true, true, true, true, true, true, false, true, true, true, true, false, false, true, true, true, true, false, false, false] rfl rfl (any_of HT_.out (by kernel_rfl)) (fun _ _ _ h => h) (Or.inl ⟨by rfl, ?_⟩) ?_ ?_
                                    rotate_left
                                    · intro w'
                                      go_simp
                                      with_reducible rfl
                                    rotate_left
                                    · simp only [Act.put, List.setIfInBounds_toArray, List.set_cons_zero, List.set_cons_succ, i64_w, i32_w]
                                      rfl
                                    refine take_ (i := 7) (N := some 94) (v := ?_) (a' := ?_) #[true, true, true, true, true, true, true, true, true, true, true, true, false, false, true, true, true, true, false, false, false] rfl rfl (take_ofW HT_.out HW_.out (by kernel_rfl)) (fun _ _ _ h => h) (Or.inl ⟨by rfl, ?_⟩) hHeld ?_ ?_
                                    rotate_left
                                    · rintro w' ⟨s0, s1, s2, s3, s4, s5⟩
                                      go_simp
                                      with_reducible rfl
                                    rotate_left
                                    · simp only [Act.put, List.setIfInBounds_toArray, List.set_cons_zero, List.set_cons_succ, i64_w, i32_w]
                                      rfl
                                    refine take_ (i := 12) (N := some 99) (v := ?_) (a' := ?_) #[true, true, true, true, true, true, true, true, true, true, true, true, true, false, true, true, true, true, false, false, false] rfl rfl (take_ofW HT_.out HW_.out (by kernel_rfl)) (fun _ _ _ h => h) (Or.inl ⟨by rfl, ?_⟩) hHeld ?_ ?_
                                    rotate_left
                                    · rintro w' ⟨s0, s1, s2, s3, s4, s5⟩
                                      go_simp
                                      with_reducible rfl
                                    rotate_left
                                    · simp only [Act.put, List.setIfInBounds_toArray, List.set_cons_zero, List.set_cons_succ, i64_w, i32_w]
                                      rfl
                                    refine pure_ (i := 13) (N := some 100) (v := ?_) (a' := ?_) #[true, true, true, true, true, true, true, true, true, true, true, true, true, true, true, true, true, true, false, false, false] rfl rfl (any_of HT_.out (by kernel_rfl)) (fun _ _ _ h => h) (Or.inl ⟨by rfl, ?_⟩) ?_ ?_
                                    rotate_left
                                    · intro w'
                                      go_simp
                                      with_reducible rfl
                                    rotate_left
                                    · simp only [Act.put, List.setIfInBounds_toArray, List.set_cons_zero, List.set_cons_succ, i64_w, i32_w]
                                      rfl
                                    refine take_ (i := 18) (N := some 105) (v := ?_) (a' := ?_) #[true, true, true, true, true, true, true, true, true, true, true, true, true, true, true, true, true, true, true, false, false] rfl rfl (take_ofW HT_.out HW_.out (by kernel_rfl)) (fun _ _ _ h => h) (Or.inl ⟨by rfl, ?_⟩) hHeld ?_ ?_
                                    rotate_left
                                    · rintro w' ⟨s0, s1, s2, s3, s4, s5⟩
                                      go_simp
                                      with_reducible rfl
                                    rotate_left
                                    · simp only [Act.put, List.setIfInBounds_toArray, List.set_cons_zero, List.set_cons_succ, i64_w, i32_w]
                                      rfl
                                    refine pure_ (i := 19) (N := some 106) (v := ?_) (a' := ?_) #[true, true, true, true, true, true, true, true, true, true, true, true, true, true, true, true, true, true, true, true, false] rfl rfl (any_of HT_.out (by kernel_rfl)) (fun _ _ _ h => h) (Or.inl ⟨by rfl, ?_⟩) ?_ ?_
                                    rotate_left
                                    · intro w'
                                      go_simp
                                      with_reducible rfl
                                    rotate_left
                                    · simp only [Act.put, List.setIfInBounds_toArray, List.set_cons_zero, List.set_cons_succ, i64_w, i32_w]
                                      rfl
                                    refine pure_ (i := 20) (N := some 107) (v := ?_) (a' := ?_) #[true, true, true, true, true, true, true, true, true, true, true, true, true, true, true, true, true, true, true, true, true] rfl rfl (any_of HT_.out (by kernel_rfl)) (fun _ _ _ h => h) (Or.inl ⟨by rfl, ?_⟩) ?_ ?_
                                    rotate_left
                                    · intro w'
                                      go_simp
                                      with_reducible rfl
                                    rotate_left
                                    · simp only [Act.put, List.setIfInBounds_toArray, List.set_cons_zero, List.set_cons_succ, i64_w, i32_w]
                                      rfl
                                    refine done_ (done_of HT_.out (by kernel_rfl)) ?_
                                    have p152 : 0 ≤ (x14_4 : Int) := of_decide_eq_true (by first | (with_reducible assumption) | assumption)
                                    have q152 : x14_4 < (x10_4.length : Int) := of_decide_eq_true (by first | (with_reducible assumption) | assumption)
                                    obtain ⟨ad152, e152, hx152_0, hx152_1⟩ := at_T51 (Kd.R_reads' HO_10.out).2.2 x14_4 p152 q152
                                    obtain rfl : ad148 = ad152 := (by injection e152)
                                    replace p152 := eq_true p152
                                    replace q152 := eq_true q152
                                    try go_wp2_with (first | ((with_reducible refine gate_builtin (b := .append) (xs := #[.tmp 121, .tmp 126]) rfl ?_); at_builtin; refine Kd.R_append k51 (w0 := w) w.heap.size rfl (.tmp 121) (.tmp 126) 32 51 (.agg #[(.int .i64 0), (.int .i64 0)]) 16 rfl Try.underlying32 info51 rfl (by decide) (by omega) (.slice (some ad146) x13_4.length co45) x13_4 (⟨(rd_T51 x10_4 x14_4).f0, (rd_T51 x10_4 x14_4).f1⟩ : S51) [.int .i64 ((rd_T51 x10_4 x14_4).f0), .int .i64 ((rd_T51 x10_4 x14_4).f1)] (fun k_ => some k_ ≠ (.slice (some ad148) x10_4.length co44 : Value).ownBlock) (fun _ => False) rfl rfl ?aP (fun _ hk => hk.elim) ?aF ?aO ?aB ?aS ?aL ?_; (case aP => exact k51_mkM _ _ _ (⟨(rd_T51 x10_4 x14_4).f0, (rd_T51 x10_4 x14_4).f1⟩ : S51)); (case aB => exact (by repeat (first | (with_reducible first | exact HB.out | apply below_alloc | apply pw_below_drewN | apply below_drew1) | exact HB.out))); (case aF => exact (fun k_ hk => Kd.fresh' (Kd.R_lt (by (with_reducible repeat (first | apply Kd.R_alloc | apply Kd.R_drewN | apply Kd.R_drew)); exact HO_10.out)) k_ hk)); (case aO => exact (by (with_reducible repeat (first | apply Kd.R_alloc | apply Kd.R_drewN | apply Kd.R_drew)); exact HO_13.out)); (case aS => exact (below_size (by repeat (first | (with_reducible first | exact HB.out | apply below_alloc | apply pw_below_drewN | apply below_drew1) | exact HB.out)))); (case aL => have := LMc43.out; omega); intro v154 w47 ho hb hg hat; rw [← Ny153.out] at ho; have n0_ := Aside0.mk (Kd.R_after (ok := (fun _ => True)) (by (with_reducible repeat (first | apply Kd.R_alloc | apply Kd.R_drewN | apply Kd.R_drew)); exact Kd.R_mono HO_10.out (fun _ hk => ⟨trivial, hk⟩)) hg hat); have n1_ := Aside0.mk (hb); have n2_ := Aside0.mk (ho); clear HO_10; clear HB; clear HO_13; have HO_10 := n0_; have HB := n1_; have HO155 := n2_; clear n0_ n1_ n2_; clear ho hb hg hat))
                                    go_roundg k4
                                    case measure => have := HJ4.out; have := HK2.out; have := HJ25.out; have := HK4.out; omega
                                    case rel => exact ⟨(x10_4), (y153), (wrap64 (x14_4 + 1)), (by first | rfl | (simp; done) | (simp [*]; done)), H', ⟨by have := HJ4.out; have := HK2.out; have := HJ25.out; have := HK4.out; omega⟩, ⟨by (with_reducible repeat (first | apply Kd.R_alloc | apply Kd.R_drewN | apply Kd.R_drew)); exact Kd.R_mono HO_10.out (fun _ hk => hk.2)⟩, ⟨by (with_reducible repeat (first | apply Kd.R_alloc | apply Kd.R_drewN | apply Kd.R_drew)); exact HO155.out⟩, ⟨by repeat (first | (with_reducible first | exact HB.out | apply below_alloc | apply pw_below_drewN | apply below_drew1) | exact HB.out)⟩⟩
                                  · rw [if_neg c43] at H
                                    exact absurd H (by simp)
                              · rw [if_neg c35] at H
                                exact absurd H (by simp)
                            · rw [if_neg c34] at H
                              exact absurd H (by simp)
                          · rw [if_neg c33] at H
                            exact absurd H (by simp)
                        · rw [if_neg c31] at H
                          have c31b0 : decide (0 ≤ (wrap64 ((x13_4.length : Int) - 1))) = false := decide_eq_false c31
                          clear c31
                          by_cases c48 : 0 ≤ x14_4
                          · rw [if_pos c48] at H
                            have c48b0 : decide (0 ≤ x14_4) = true := decide_eq_true c48
                            clear c48
                            by_cases c49 : x13_4.length < 8796093022208
                            · rw [if_pos c49] at H
                              have LMc49 := Aside0.mk c49
                              clear c49
                              obtain ⟨y157, hy157⟩ : ∃ y_ : List (S51), y_ = (x13_4 ++ [(⟨(rd_T51 x10_4 x14_4).f0, (rd_T51 x10_4 x14_4).f1⟩ : S51)]) := ⟨_, rfl⟩
                              replace H : (steadingref05_Give.l1 k4 x10_4 y157 (wrap64 (x14_4 + 1))) = some (r1, r2) := by first | (rw [hy157]; with_reducible exact H) | (have H2_ := (Option.bind_some _ _).symm.trans H; rw [hy157]; with_reducible exact H2_) | (have H2_ := (Option.bind_some _ _).symm.trans H; with_reducible exact H2_) | with_reducible exact H | (rw [hy157]; exact H) | exact H
                              have Ny157 := Aside0.mk hy157
                              clear hy157
                              have H' := Aside0.mk H
                              clear H
                              obtain ⟨Ao50, co50, eo50⟩ := Kd.R_slice HO_10.out
                              subst eo50
                              obtain ⟨Ao51, co51, eo51⟩ := Kd.R_slice HO_13.out
                              subst eo51
                              try go_wp2
                              have n0_ := Aside0.mk (Kd.R_drew HO_10.out)
                              have n1_ := Aside0.mk (Kd.R_drew HO_13.out)
                              have n2_ := Aside0.mk (below_drew1 HB.out)
                              clear HO_10
                              clear HO_13
                              clear HB
                              have HO_10 := n0_
                              have HO_13 := n1_
                              have HB := n2_
                              clear n0_ n1_ n2_
                              refine start_ (n := 21) (S := fun w' => True) (ds := []) #[false, false, false, false, false, false, false, false, false, false, false, false, false, false, false, false, false, false, false, false, false] (by kernel_rfl) rfl rfl trivial (fun hHeld => ?_); refine with_tabW steadingref05_Give.tab19 steadingref05_Give.bits19 (fun HT_ HW_ => ?_)
                              generalize wr.drew = w52 at HO_10 HO_13 HB hHeld ⊢
                              refine pure_ (i := 0) (N := some 87) (v := ?_) (a' := ?_) #[true, false, false, false, false, false, false, false, false, false, false, false, false, false, false, false, false, false, false, false, false] rfl rfl (any_of HT_.out (by kernel_rfl)) (fun _ _ _ h => h) (Or.inl ⟨by rfl, ?_⟩) ?_ ?_
                              rotate_left
                              · intro w'
                                go_simp
                                with_reducible rfl
                              rotate_left
                              · simp only [Act.put, List.setIfInBounds_toArray, List.set_cons_zero, List.set_cons_succ, i64_w, i32_w]
                                rfl
                              refine pure_ (i := 1) (N := some 88) (v := ?_) (a' := ?_) #[true, true, false, false, false, false, false, false, false, false, false, false, false, false, false, false, false, false, false, false, false] rfl rfl (any_of HT_.out (by kernel_rfl)) (fun _ _ _ h => h) (Or.inl ⟨by rfl, ?_⟩) ?_ ?_
                              rotate_left
                              · intro w'
                                go_simp
                                with_reducible rfl
                              rotate_left
                              · simp only [Act.put, List.setIfInBounds_toArray, List.set_cons_zero, List.set_cons_succ, i64_w, i32_w]
                                rfl
                              refine pure_ (i := 2) (N := some 89) (v := ?_) (a' := ?_) #[true, true, true, false, false, false, false, false, false, false, false, false, false, false, false, false, false, false, false, false, false] rfl rfl (any_of HT_.out (by kernel_rfl)) (fun _ _ _ h => h) (Or.inl ⟨by rfl, ?_⟩) ?_ ?_
                              rotate_left
                              · intro w'
                                go_simp
                                with_reducible rfl
                              rotate_left
                              · simp only [Act.put, List.setIfInBounds_toArray, List.set_cons_zero, List.set_cons_succ, i64_w, i32_w]
                                rfl
                              refine pure_ (i := 3) (N := some 90) (v := undef) (a' := ?_) #[true, true, true, true, false, false, false, false, false, false, false, false, false, false, false, false, false, false, false, false, false] rfl rfl (any_of HT_.out (by kernel_rfl)) (fun _ _ _ h => h) (Or.inr ⟨by rfl, rfl⟩) ?_ ?_
                              rotate_left
                              · simp only [Act.put, List.setIfInBounds_toArray, List.set_cons_zero, List.set_cons_succ, i64_w, i32_w]
                                rfl
                              refine pure_ (i := 4) (N := some 91) (v := undef) (a' := ?_) #[true, true, true, true, true, false, false, false, false, false, false, false, false, false, false, false, false, false, false, false, false] rfl rfl (any_of HT_.out (by kernel_rfl)) (fun _ _ _ h => h) (Or.inr ⟨by rfl, rfl⟩) ?_ ?_
                              rotate_left
                              · simp only [Act.put, List.setIfInBounds_toArray, List.set_cons_zero, List.set_cons_succ, i64_w, i32_w]
                                rfl
                              refine pure_ (i := 5) (N := some 92) (v := undef) (a' := ?_) #[true, true, true, true, true, true, false, false, false, false, false, false, false, false, false, false, false, false, false, false, false] rfl rfl (any_of HT_.out (by kernel_rfl)) (fun _ _ _ h => h) (Or.inr ⟨by rfl, rfl⟩) ?_ ?_
                              rotate_left
                              · simp only [Act.put, List.setIfInBounds_toArray, List.set_cons_zero, List.set_cons_succ, i64_w, i32_w]
                                rfl
                              refine pure_ (i := 6) (N := some 93) (v := undef) (a' := ?_) #[true, true, true, true, true, true, true, false, false, false, false, false, false, false, false, false, false, false, false, false, false] rfl rfl (any_of HT_.out (by kernel_rfl)) (fun _ _ _ h => h) (Or.inr ⟨by rfl, rfl⟩) ?_ ?_
                              rotate_left
                              · simp only [Act.put, List.setIfInBounds_toArray, List.set_cons_zero, List.set_cons_succ, i64_w, i32_w]
                                rfl
                              refine pure_ (i := 7) (N := some 94) (v := undef) (a' := ?_) #[true, true, true, true, true, true, true, true, false, false, false, false, false, false, false, false, false, false, false, false, false] rfl rfl (any_of HT_.out (by kernel_rfl)) (fun _ _ _ h => h) (Or.inr ⟨by rfl, rfl⟩) ?_ ?_
                              rotate_left
                              · simp only [Act.put, List.setIfInBounds_toArray, List.set_cons_zero, List.set_cons_succ, i64_w, i32_w]
                                rfl
                              refine pure_ (i := 8) (N := some 95) (v := undef) (a' := ?_) #[true, true, true, true, true, true, true, true, true, false, false, false, false, false, false, false, false, false, false, false, false] rfl rfl (any_of HT_.out (by kernel_rfl)) (fun _ _ _ h => h) (Or.inr ⟨by rfl, rfl⟩) ?_ ?_
                              rotate_left
                              · simp only [Act.put, List.setIfInBounds_toArray, List.set_cons_zero, List.set_cons_succ, i64_w, i32_w]
                                rfl
                              refine pure_ (i := 9) (N := some 96) (v := undef) (a' := ?_) #[true, true, true, true, true, true, true, true, true, true, false, false, false, false, false, false, false, false, false, false, false] rfl rfl (any_of HT_.out (by kernel_rfl)) (fun _ _ _ h => h) (Or.inr ⟨by rfl, rfl⟩) ?_ ?_
                              rotate_left
                              · simp only [Act.put, List.setIfInBounds_toArray, List.set_cons_zero, List.set_cons_succ, i64_w, i32_w]
                                rfl
                              refine pure_ (i := 10) (N := some 97) (v := undef) (a' := ?_) #[true, true, true, true, true, true, true, true, true, true, true, false, false, false, false, false, false, false, false, false, false] rfl rfl (any_of HT_.out (by kernel_rfl)) (fun _ _ _ h => h) (Or.inr ⟨by rfl, rfl⟩) ?_ ?_
                              rotate_left
                              · simp only [Act.put, List.setIfInBounds_toArray, List.set_cons_zero, List.set_cons_succ, i64_w, i32_w]
                                rfl
                              refine pure_ (i := 11) (N := some 98) (v := undef) (a' := ?_) #[true, true, true, true, true, true, true, true, true, true, true, true, false, false, false, false, false, false, false, false, false] rfl rfl (any_of HT_.out (by kernel_rfl)) (fun _ _ _ h => h) (Or.inr ⟨by rfl, rfl⟩) ?_ ?_
                              rotate_left
                              · simp only [Act.put, List.setIfInBounds_toArray, List.set_cons_zero, List.set_cons_succ, i64_w, i32_w]
                                rfl
                              refine pure_ (i := 12) (N := some 99) (v := undef) (a' := ?_) #[true, true, true, true, true, true, true, true, true, true, true, true, true, false, false, false, false, false, false, false, false] rfl rfl (any_of HT_.out (by kernel_rfl)) (fun _ _ _ h => h) (Or.inr ⟨by rfl, rfl⟩) ?_ ?_
                              rotate_left
                              · simp only [Act.put, List.setIfInBounds_toArray, List.set_cons_zero, List.set_cons_succ, i64_w, i32_w]
                                rfl
                              refine pure_ (i := 13) (N := some 100) (v := undef) (a' := ?_) #[true, true, true, true, true, true, true, true, true, true, true, true, true, true, false, false, false, false, false, false, false] rfl rfl (any_of HT_.out (by kernel_rfl)) (fun _ _ _ h => h) (Or.inr ⟨by rfl, rfl⟩) ?_ ?_
                              rotate_left
                              · simp only [Act.put, List.setIfInBounds_toArray, List.set_cons_zero, List.set_cons_succ, i64_w, i32_w]
                                rfl
                              refine pure_ (i := 14) (N := some 101) (v := undef) (a' := ?_) #[true, true, true, true, true, true, true, true, true, true, true, true, true, true, true, false, false, false, false, false, false] rfl rfl (any_of HT_.out (by kernel_rfl)) (fun _ _ _ h => h) (Or.inr ⟨by rfl, rfl⟩) ?_ ?_
                              rotate_left
                              · simp only [Act.put, List.setIfInBounds_toArray, List.set_cons_zero, List.set_cons_succ, i64_w, i32_w]
                                rfl
                              refine pure_ (i := 15) (N := some 102) (v := undef) (a' := ?_) #[true, true, true, true, true, true, true, true, true, true, true, true, true, true, true, true, false, false, false, false, false] rfl rfl (any_of HT_.out (by kernel_rfl)) (fun _ _ _ h => h) (Or.inr ⟨by rfl, rfl⟩) ?_ ?_
                              rotate_left
                              · simp only [Act.put, List.setIfInBounds_toArray, List.set_cons_zero, List.set_cons_succ, i64_w, i32_w]
                                rfl
                              refine pure_ (i := 16) (N := some 103) (v := undef) (a' := ?_) #[true, true, true, true, true, true, true, true, true, true, true, true, true, true, true, true, true, false, false, false, false] rfl rfl (any_of HT_.out (by kernel_rfl)) (fun _ _ _ h => h) (Or.inr ⟨by rfl, rfl⟩) ?_ ?_
                              rotate_left
                              · simp only [Act.put, List.setIfInBounds_toArray, List.set_cons_zero, List.set_cons_succ, i64_w, i32_w]
                                rfl
                              refine pure_ (i := 17) (N := some 104) (v := undef) (a' := ?_) #[true, true, true, true, true, true, true, true, true, true, true, true, true, true, true, true, true, true, false, false, false] rfl rfl (any_of HT_.out (by kernel_rfl)) (fun _ _ _ h => h) (Or.inr ⟨by rfl, rfl⟩) ?_ ?_
                              rotate_left
                              · simp only [Act.put, List.setIfInBounds_toArray, List.set_cons_zero, List.set_cons_succ, i64_w, i32_w]
                                rfl
                              refine pure_ (i := 18) (N := some 105) (v := undef) (a' := ?_) #[true, true, true, true, true, true, true, true, true, true, true, true, true, true, true, true, true, true, true, false, false] rfl rfl (any_of HT_.out (by kernel_rfl)) (fun _ _ _ h => h) (Or.inr ⟨by rfl, rfl⟩) ?_ ?_
                              rotate_left
                              · simp only [Act.put, List.setIfInBounds_toArray, List.set_cons_zero, List.set_cons_succ, i64_w, i32_w]
                                rfl
                              refine pure_ (i := 19) (N := some 106) (v := undef) (a' := ?_) #[true, true, true, true, true, true, true, true, true, true, true, true, true, true, true, true, true, true, true, true, false] rfl rfl (any_of HT_.out (by kernel_rfl)) (fun _ _ _ h => h) (Or.inr ⟨by rfl, rfl⟩) ?_ ?_
                              rotate_left
                              · simp only [Act.put, List.setIfInBounds_toArray, List.set_cons_zero, List.set_cons_succ, i64_w, i32_w]
                                rfl
                              refine pure_ (i := 20) (N := some 107) (v := ?_) (a' := ?_) #[true, true, true, true, true, true, true, true, true, true, true, true, true, true, true, true, true, true, true, true, true] rfl rfl (any_of HT_.out (by kernel_rfl)) (fun _ _ _ h => h) (Or.inl ⟨by rfl, ?_⟩) ?_ ?_
                              rotate_left
                              · intro w'
                                go_simp
                                with_reducible rfl
                              rotate_left
                              · simp only [Act.put, List.setIfInBounds_toArray, List.set_cons_zero, List.set_cons_succ, i64_w, i32_w]
                                rfl
                              refine done_ (done_of HT_.out (by kernel_rfl)) ?_
                              have p156 : 0 ≤ (x14_4 : Int) := of_decide_eq_true (by first | (with_reducible assumption) | assumption)
                              have q156 : x14_4 < (x10_4.length : Int) := of_decide_eq_true (by first | (with_reducible assumption) | assumption)
                              obtain ⟨ad156, e156, hx156_0, hx156_1⟩ := at_T51 (Kd.R_reads' HO_10.out).2.2 x14_4 p156 q156
                              cases e156
                              replace p156 := eq_true p156
                              replace q156 := eq_true q156
                              try go_wp2_with (first | ((with_reducible refine gate_builtin (b := .append) (xs := #[.tmp 121, .tmp 126]) rfl ?_); at_builtin; refine Kd.R_append k51 (w0 := w) w.heap.size rfl (.tmp 121) (.tmp 126) 32 51 (.agg #[(.int .i64 0), (.int .i64 0)]) 16 rfl Try.underlying32 info51 rfl (by decide) (by omega) (.slice Ao51 x13_4.length co51) x13_4 (⟨(rd_T51 x10_4 x14_4).f0, (rd_T51 x10_4 x14_4).f1⟩ : S51) [.int .i64 ((rd_T51 x10_4 x14_4).f0), .int .i64 ((rd_T51 x10_4 x14_4).f1)] (fun k_ => some k_ ≠ (.slice (some ad156) x10_4.length co50 : Value).ownBlock) (fun _ => False) rfl rfl ?aP (fun _ hk => hk.elim) ?aF ?aO ?aB ?aS ?aL ?_; (case aP => exact k51_mkM _ _ _ (⟨(rd_T51 x10_4 x14_4).f0, (rd_T51 x10_4 x14_4).f1⟩ : S51)); (case aB => exact (by repeat (first | (with_reducible first | exact HB.out | apply below_alloc | apply pw_below_drewN | apply below_drew1) | exact HB.out))); (case aF => exact (fun k_ hk => Kd.fresh' (Kd.R_lt (by (with_reducible repeat (first | apply Kd.R_alloc | apply Kd.R_drewN | apply Kd.R_drew)); exact HO_10.out)) k_ hk)); (case aO => exact (by (with_reducible repeat (first | apply Kd.R_alloc | apply Kd.R_drewN | apply Kd.R_drew)); exact HO_13.out)); (case aS => exact (below_size (by repeat (first | (with_reducible first | exact HB.out | apply below_alloc | apply pw_below_drewN | apply below_drew1) | exact HB.out)))); (case aL => have := LMc49.out; omega); intro v158 w53 ho hb hg hat; rw [← Ny157.out] at ho; have n0_ := Aside0.mk (Kd.R_after (ok := (fun _ => True)) (by (with_reducible repeat (first | apply Kd.R_alloc | apply Kd.R_drewN | apply Kd.R_drew)); exact Kd.R_mono HO_10.out (fun _ hk => ⟨trivial, hk⟩)) hg hat); have n1_ := Aside0.mk (hb); have n2_ := Aside0.mk (ho); clear HO_10; clear HB; clear HO_13; have HO_10 := n0_; have HB := n1_; have HO159 := n2_; clear n0_ n1_ n2_; clear ho hb hg hat))
                              go_roundg k4
                              case measure => have := HJ4.out; have := HK2.out; have := HJ25.out; have := HK4.out; omega
                              case rel => exact ⟨(x10_4), (y157), (wrap64 (x14_4 + 1)), (by first | rfl | (simp; done) | (simp [*]; done)), H', ⟨by have := HJ4.out; have := HK2.out; have := HJ25.out; have := HK4.out; omega⟩, ⟨by (with_reducible repeat (first | apply Kd.R_alloc | apply Kd.R_drewN | apply Kd.R_drew)); exact Kd.R_mono HO_10.out (fun _ hk => hk.2)⟩, ⟨by (with_reducible repeat (first | apply Kd.R_alloc | apply Kd.R_drewN | apply Kd.R_drew)); exact HO159.out⟩, ⟨by repeat (first | (with_reducible first | exact HB.out | apply below_alloc | apply pw_below_drewN | apply below_drew1) | exact HB.out)⟩⟩
                            · rw [if_neg c49] at H
                              exact absurd H (by simp)
                          · rw [if_neg c48] at H
                            exact absurd H (by simp)
                      · rw [if_neg c30] at H
                        have c30b0 : decide (x14_4 < (x10_4.length : Int)) = false := decide_eq_false c30
                        clear c30
                        simp only [Option.some.injEq, Prod.mk.injEq] at H
                        obtain ⟨rfl, rfl⟩ := H
                        obtain ⟨Ao54, co54, eo54⟩ := Kd.R_slice HO_10.out
                        subst eo54
                        go_wp2
                        go_ret2
                        exact ⟨_, by first | rfl | (simp [errW_none, errW_some] <;> rfl) | (simp [*, errW_none, errW_some] <;> rfl), by (with_reducible repeat (first | apply Kd.R_alloc | apply Kd.R_drewN | apply Kd.R_drew)); exact Kd.R_mono HO_13.out (fun _ hk => trivial), by repeat (first | (with_reducible first | exact HB.out | apply below_alloc | apply pw_below_drewN | apply below_drew1) | exact HB.out)⟩

end Go.Proofs.Ytdkedgdieoojgaa.Rn
