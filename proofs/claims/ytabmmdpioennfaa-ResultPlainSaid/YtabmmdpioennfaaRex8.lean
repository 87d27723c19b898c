-- Written by wip/mprint.py (a program of this session's, over the kit's print). Lean checks it.
import Derived.Test.YtabmmdpioennfaaRex0
namespace Go.Proofs.Ytabmmdpioennfaa.Re
open Go.RowKit Go.Proofs.YtabmmdpioennfaaW.PrintWords Go.Proofs.YtabmmdpioennfaaW.PrintLast Go.Proofs.YtabmmdpioennfaaW.PrintMore
attribute [local go_sem] max2_int min2_int max_two min_two max_three min_three max_four min_four   -- for this text's walks alone
set_option linter.unusedVariables false
set_option linter.unusedSimpArgs false

/-! ### steadingref21_Number: function 24 -/
mutual
def steadingref21_Number.l0 : Nat → List (S45) → Int → Int → Int → Option (Int)
  | 0, _, _, _, _ => none
  | k + 1, x0, x1, x5, x6 => if x6 ≤ x1 then (if 0 ≤ x1 then (if x1 < (x0.length : Int) then (steadingref21_Number.j1 k x0 x1 x5 x6 (((rd_T45 x0 x1).f1) != 0)) else (none)) else (none)) else (steadingref21_Number.j1 k x0 x1 x5 x6 false)
def steadingref21_Number.j1 : Nat → List (S45) → Int → Int → Int → Bool → Option (Int)
  | 0, _, _, _, _, _ => none
  | k + 1, x0, x1, x5, x6, x19 => if x19 = true then (if 0 ≤ x6 then (if x6 < (x0.length : Int) then (steadingref21_Number.l1 k x0 x1 x5 x6 (((rd_T45 x0 x6).f1) != 0) 0) else (none)) else (none)) else (some x5)
def steadingref21_Number.l1 : Nat → List (S45) → Int → Int → Int → Bool → Int → Option (Int)
  | 0, _, _, _, _, _, _ => none
  | k + 1, x0, x1, x5, x6, x7, x8 => if x8 < x6 then (if x7 = true then (if 0 ≤ x8 then (if x8 < (x0.length : Int) then (if 0 ≤ x6 then (if x6 < (x0.length : Int) then (steadingref21_Number.l1 k x0 x1 x5 x6 (((rd_T45 x0 x8).f1) != ((rd_T45 x0 x6).f1)) (wrap64 (x8 + 1))) else (none)) else (none)) else (none)) else (none)) else (steadingref21_Number.l1 k x0 x1 x5 x6 false (wrap64 (x8 + 1)))) else (if x7 = true then (if 0 ≤ x6 then (if x6 < (x0.length : Int) then (if 0 ≤ x1 then (if x1 < (x0.length : Int) then (if ((rd_T45 x0 x6).f1) = ((rd_T45 x0 x1).f1) then (some (IntKind.u64.wrap (x5 + 1))) else (steadingref21_Number.l0 k x0 x1 (IntKind.u64.wrap (x5 + 1)) (wrap64 (x6 + 1)))) else (none)) else (none)) else (none)) else (none)) else (if 0 ≤ x6 then (if x6 < (x0.length : Int) then (if 0 ≤ x1 then (if x1 < (x0.length : Int) then (if ((rd_T45 x0 x6).f1) = ((rd_T45 x0 x1).f1) then (some x5) else (steadingref21_Number.l0 k x0 x1 x5 (wrap64 (x6 + 1)))) else (none)) else (none)) else (none)) else (none)))
end
def steadingref21_Number.f (k : Nat) (l0 : List (S45)) (a1 : Int) : Option (Int) := steadingref21_Number.l0 k l0 a1 0 0
theorem steadingref21_Number.mono_l : ∀ k, (∀ y0 y1 y2 y3, LeO (steadingref21_Number.l0 k y0 y1 y2 y3) (steadingref21_Number.l0 (k + 1) y0 y1 y2 y3)) ∧ (∀ y0 y1 y2 y3 y4, LeO (steadingref21_Number.j1 k y0 y1 y2 y3 y4) (steadingref21_Number.j1 (k + 1) y0 y1 y2 y3 y4)) ∧ (∀ y0 y1 y2 y3 y4 y5, LeO (steadingref21_Number.l1 k y0 y1 y2 y3 y4 y5) (steadingref21_Number.l1 (k + 1) y0 y1 y2 y3 y4 y5))
  | 0 => ⟨fun _ _ _ _ r h => by simp [steadingref21_Number.l0] at h, fun _ _ _ _ _ r h => by simp [steadingref21_Number.j1] at h, fun _ _ _ _ _ _ r h => by simp [steadingref21_Number.l1] at h⟩
  | k + 1 => by
    obtain ⟨ih0, ih1, ih2⟩ := steadingref21_Number.mono_l k
    refine ⟨?_, ?_, ?_⟩
    · intro y0 y1 y2 y3
      unfold steadingref21_Number.l0
      repeat' first
      | (with_reducible exact ih0 _ _ _ _)
      | (with_reducible exact ih1 _ _ _ _ _)
      | (with_reducible exact ih2 _ _ _ _ _ _)
      | (with_reducible exact LeO.refl _)
      | (with_reducible exact LeO.none _)
      | (with_reducible refine LeO.ite ?_ ?_)
      | (with_reducible refine LeO.bind ?_ (fun _ => ?_))
      | exact ih0 _ _ _ _
      | exact ih1 _ _ _ _ _
      | exact ih2 _ _ _ _ _ _
      | exact LeO.none _
      | refine LeO.ite ?_ ?_
      | refine LeO.bind ?_ (fun _ => ?_)
    · intro y0 y1 y2 y3 y4
      unfold steadingref21_Number.j1
      repeat' first
      | (with_reducible exact ih0 _ _ _ _)
      | (with_reducible exact ih1 _ _ _ _ _)
      | (with_reducible exact ih2 _ _ _ _ _ _)
      | (with_reducible exact LeO.refl _)
      | (with_reducible exact LeO.none _)
      | (with_reducible refine LeO.ite ?_ ?_)
      | (with_reducible refine LeO.bind ?_ (fun _ => ?_))
      | exact ih0 _ _ _ _
      | exact ih1 _ _ _ _ _
      | exact ih2 _ _ _ _ _ _
      | exact LeO.none _
      | refine LeO.ite ?_ ?_
      | refine LeO.bind ?_ (fun _ => ?_)
    · intro y0 y1 y2 y3 y4 y5
      unfold steadingref21_Number.l1
      repeat' first
      | (with_reducible exact ih0 _ _ _ _)
      | (with_reducible exact ih1 _ _ _ _ _)
      | (with_reducible exact ih2 _ _ _ _ _ _)
      | (with_reducible exact LeO.refl _)
      | (with_reducible exact LeO.none _)
      | (with_reducible refine LeO.ite ?_ ?_)
      | (with_reducible refine LeO.bind ?_ (fun _ => ?_))
      | exact ih0 _ _ _ _
      | exact ih1 _ _ _ _ _
      | exact ih2 _ _ _ _ _ _
      | exact LeO.none _
      | refine LeO.ite ?_ ?_
      | refine LeO.bind ?_ (fun _ => ?_)
theorem steadingref21_Number.mono : ∀ a0 a1 k, LeO (steadingref21_Number.f k a0 a1) (steadingref21_Number.f (k + 1) a0 a1) := by
  intro a0 a1 k
  obtain ⟨ih0, ih1, ih2⟩ := steadingref21_Number.mono_l k
  unfold steadingref21_Number.f
  repeat' first
      | (with_reducible exact ih0 _ _ _ _)
      | (with_reducible exact ih1 _ _ _ _ _)
      | (with_reducible exact ih2 _ _ _ _ _ _)
      | (with_reducible exact LeO.refl _)
      | (with_reducible exact LeO.none _)
      | (with_reducible refine LeO.ite ?_ ?_)
      | (with_reducible refine LeO.bind ?_ (fun _ => ?_))
      | exact ih0 _ _ _ _
      | exact ih1 _ _ _ _ _
      | exact ih2 _ _ _ _ _ _
      | exact LeO.none _
      | refine LeO.ite ?_ ?_
      | refine LeO.bind ?_ (fun _ => ?_)
set_option maxHeartbeats 8000000 in
set_option maxRecDepth 100000 in
theorem steadingref21_Number.calls (k : Nat) (A0 : Option Addr) (c0 : Nat) (l0 : List (S45)) (a1 : Int) (r : Int) (w : World) (hr0 : Kd.C k45 w A0 l0.length l0) (hc0 : l0.length ≤ c0) (h : steadingref21_Number.f k l0 a1 = some r) :
    Calls Try.prog 24 #[.slice A0 l0.length c0, .int .i64 a1] w fun e w' => e = .returned (.int .u64 r) ∧ Drawn0 w w' := by
  have HR0 := Aside0.mk hr0
  have HC0 := Aside0.mk hc0
  clear hr0 hc0
  have H : (steadingref21_Number.l0 k l0 a1 0 0) = some r := h
  clear h
  have H' := Aside0.mk H
  clear H
  go_enter Try.func24, Try.ntmps24
  go_wp2
  repeat (go_quiet (fail); try go_wp2)
  go_loopg [5, 6] k (fun kq v5 v6 w' => ∃ (x5_1 : Int) (x6_1 : Int), v5 = .int .u64 x5_1 ∧ v6 = .int .i64 x6_1 ∧ Aside0 (steadingref21_Number.l0 kq l0 a1 x5_1 x6_1 = some r) ∧ Aside0 (kq ≤ k) ∧ Drawn0 w w')
  case atStart => exact ⟨(0), (0), (by first | rfl | (simp; done) | (simp [*]; done)), (by first | rfl | (simp; done) | (simp [*]; done)), H', ⟨Nat.le_refl _⟩, by repeat (first | exact Drawn0.refl _ | apply Drawn0.step)⟩
  case round =>
    clear H'
    try clear c2
    try clear p2
    obtain ⟨x5_1, x6_1, rfl, rfl, HA, HK1, ⟨m1, rfl⟩⟩ := hrel
    cases gk with
    | zero => exact absurd HA.out (by simp [steadingref21_Number.l0])
    | succ k1 =>
      have H := HA.out
      clear HA
      simp only [steadingref21_Number.l0] at H
      have HC3 := Aside0.mk H
      clear H
      go_upto_region 3 with (fail)
      repeat (go_quiet (fail); go_upto_region 3 with (fail))
      go_cut [19] (fun v19 wc => ∃ (kq : Nat) (x19_2 : Bool), v19 = .bool x19_2 ∧ Aside0 (steadingref21_Number.j1 kq l0 a1 x5_1 x6_1 x19_2 = some r) ∧ Aside0 (kq ≤ k1) ∧ Drawn0 w wc)
      case first =>
        have H := HC3.out
        clear HC3
        by_cases c4 : x6_1 ≤ a1
        · rw [if_pos c4] at H
          have c4b0 : decide (x6_1 ≤ a1) = true := decide_eq_true c4
          clear c4
          (first | rw [c4b0] | (simp only [i64_w, i32_w]; rw [c4b0]) | skip)
          by_cases c5 : 0 ≤ a1
          · rw [if_pos c5] at H
            have c5b0 : decide (0 ≤ a1) = true := decide_eq_true c5
            clear c5
            by_cases c6 : a1 < (l0.length : Int)
            · rw [if_pos c6] at H
              have c6b0 : decide (a1 < (l0.length : Int)) = true := decide_eq_true c6
              clear c6
              have H' := Aside0.mk H
              clear H
              have p128 : 0 ≤ (a1 : Int) := of_decide_eq_true (by first | (with_reducible assumption) | assumption)
              have q128 : a1 < (l0.length : Int) := of_decide_eq_true (by first | (with_reducible assumption) | assumption)
              obtain ⟨ad128, e128, hx128_0, hx128_1, hx128_2, hx128_3⟩ := at_T45 HR0.out a1 p128 q128
              cases e128
              replace p128 := eq_true p128
              replace q128 := eq_true q128
              go_wp2
              repeat (go_quiet (fail); try go_wp2)
              go_meet
              case rel => exact ⟨_, ((((rd_T45 l0 a1).f1) != 0)), (by first | rfl | (simp; done) | (simp [*]; done)), H', ⟨by have := HK1.out; first | omega | exact Nat.le_refl _⟩, by repeat (first | exact Drawn0.refl _ | apply Drawn0.step)⟩
            · rw [if_neg c6] at H
              exact absurd H (by simp)
          · rw [if_neg c5] at H
            exact absurd H (by simp)
        · rw [if_neg c4] at H
          have c4b0 : decide (x6_1 ≤ a1) = false := decide_eq_false c4
          clear c4
          (first | rw [c4b0] | (simp only [i64_w, i32_w]; rw [c4b0]) | skip)
          have H' := Aside0.mk H
          clear H
          go_wp2
          repeat (go_quiet (fail); try go_wp2)
          go_meet
          case rel => exact ⟨_, (false), (by first | rfl | (simp; done) | (simp [*]; done)), H', ⟨by have := HK1.out; first | omega | exact Nat.le_refl _⟩, by repeat (first | exact Drawn0.refl _ | apply Drawn0.step)⟩
      case rest =>
        clear HC3
        try clear p1
        try clear q1
        try clear hx1
        try clear c2
        try clear p2
        try clear c4
        try clear c4b0
        try clear c5
        try clear c5b0
        try clear c6
        try clear c6b0
        try clear hx128_0
        try clear hx128_1
        try clear hx128_2
        try clear hx128_3
        try clear p128
        try clear p2
        try clear q128
        obtain ⟨kq, x19_2, rfl, HA, HJ2, ⟨mc2, rfl⟩⟩ := hcut
        cases kq with
        | zero => exact absurd HA.out (by simp [steadingref21_Number.j1])
        | succ kj2 =>
          have H := HA.out
          clear HA
          simp only [steadingref21_Number.j1] at H
          by_cases c7 : x19_2 = true
          · subst c7
            have H1 : (if 0 ≤ x6_1 then (if x6_1 < (l0.length : Int) then (steadingref21_Number.l1 kj2 l0 a1 x5_1 x6_1 (((rd_T45 l0 x6_1).f1) != 0) 0) else (none)) else (none)) = some r := by rw [if_pos rfl] at H; exact H
            clear H
            have H := H1
            clear H1
            by_cases c8 : 0 ≤ x6_1
            · rw [if_pos c8] at H
              have c8b0 : decide (0 ≤ x6_1) = true := decide_eq_true c8
              clear c8
              by_cases c9 : x6_1 < (l0.length : Int)
              · rw [if_pos c9] at H
                have c9b0 : decide (x6_1 < (l0.length : Int)) = true := decide_eq_true c9
                clear c9
                have H' := Aside0.mk H
                clear H
                have p129 : 0 ≤ (x6_1 : Int) := of_decide_eq_true (by first | (with_reducible assumption) | assumption)
                have q129 : x6_1 < (l0.length : Int) := of_decide_eq_true (by first | (with_reducible assumption) | assumption)
                obtain ⟨ad129, e129, hx129_0, hx129_1, hx129_2, hx129_3⟩ := at_T45 HR0.out x6_1 p129 q129
                cases e129
                replace p129 := eq_true p129
                replace q129 := eq_true q129
                go_wp2
                repeat (go_quiet (fail); try go_wp2)
                go_loopg [7, 8] kj2 (fun kq v7 v8 w' => ∃ (x7_3 : Bool) (x8_3 : Int), v7 = .bool x7_3 ∧ v8 = .int .i64 x8_3 ∧ Aside0 (steadingref21_Number.l1 kq l0 a1 x5_1 x6_1 x7_3 x8_3 = some r) ∧ Aside0 (kq ≤ kj2) ∧ Drawn0 w w')
                case atStart => exact ⟨((((rd_T45 l0 x6_1).f1) != 0)), (0), (by first | rfl | (simp; done) | (simp [*]; done)), (by first | rfl | (simp; done) | (simp [*]; done)), H', ⟨Nat.le_refl _⟩, by repeat (first | exact Drawn0.refl _ | apply Drawn0.step)⟩
                case round =>
                  clear H'
                  try clear p1
                  try clear q1
                  try clear hx1
                  try clear c2
                  try clear p2
                  try clear c4
                  try clear c4b0
                  try clear c5
                  try clear c5b0
                  try clear c6
                  try clear c6b0
                  try clear c7
                  try clear c8
                  try clear c8b0
                  try clear c9
                  try clear c9b0
                  try clear hx128_0
                  try clear hx128_1
                  try clear hx128_2
                  try clear hx128_3
                  try clear hx129_0
                  try clear hx129_1
                  try clear hx129_2
                  try clear hx129_3
                  try clear p1
                  try clear p128
                  try clear p129
                  try clear p2
                  try clear q1
                  try clear q128
                  try clear q129
                  obtain ⟨x7_3, x8_3, rfl, rfl, HA, HK3, ⟨m3, rfl⟩⟩ := hrel
                  cases gk with
                  | zero => exact absurd HA.out (by simp [steadingref21_Number.l1])
                  | succ k3 =>
                    have H := HA.out
                    clear HA
                    simp only [steadingref21_Number.l1] at H
                    by_cases c10 : x8_3 < x6_1
                    · rw [if_pos c10] at H
                      have c10b0 : decide (x8_3 < x6_1) = true := decide_eq_true c10
                      clear c10
                      by_cases c11 : x7_3 = true
                      · subst c11
                        have H1 : (if 0 ≤ x8_3 then (if x8_3 < (l0.length : Int) then (if 0 ≤ x6_1 then (if x6_1 < (l0.length : Int) then (steadingref21_Number.l1 k3 l0 a1 x5_1 x6_1 (((rd_T45 l0 x8_3).f1) != ((rd_T45 l0 x6_1).f1)) (wrap64 (x8_3 + 1))) else (none)) else (none)) else (none)) else (none)) = some r := by rw [if_pos rfl] at H; exact H
                        clear H
                        have H := H1
                        clear H1
                        by_cases c12 : 0 ≤ x8_3
                        · rw [if_pos c12] at H
                          have c12b0 : decide (0 ≤ x8_3) = true := decide_eq_true c12
                          clear c12
                          by_cases c13 : x8_3 < (l0.length : Int)
                          · rw [if_pos c13] at H
                            have c13b0 : decide (x8_3 < (l0.length : Int)) = true := decide_eq_true c13
                            clear c13
                            by_cases c14 : 0 ≤ x6_1
                            · rw [if_pos c14] at H
                              have c14b0 : decide (0 ≤ x6_1) = true := decide_eq_true c14
                              clear c14
                              by_cases c15 : x6_1 < (l0.length : Int)
                              · rw [if_pos c15] at H
                                have c15b0 : decide (x6_1 < (l0.length : Int)) = true := decide_eq_true c15
                                clear c15
                                have H' := Aside0.mk H
                                clear H
                                have p130 : 0 ≤ (x8_3 : Int) := of_decide_eq_true (by first | (with_reducible assumption) | assumption)
                                have q130 : x8_3 < (l0.length : Int) := of_decide_eq_true (by first | (with_reducible assumption) | assumption)
                                obtain ⟨ad130, e130, hx130_0, hx130_1, hx130_2, hx130_3⟩ := at_T45 HR0.out x8_3 p130 q130
                                obtain rfl : ad129 = ad130 := (by injection e130)
                                replace p130 := eq_true p130
                                replace q130 := eq_true q130
                                have p131 : 0 ≤ (x6_1 : Int) := of_decide_eq_true (by first | (with_reducible assumption) | assumption)
                                have q131 : x6_1 < (l0.length : Int) := of_decide_eq_true (by first | (with_reducible assumption) | assumption)
                                obtain ⟨ad131, e131, hx131_0, hx131_1, hx131_2, hx131_3⟩ := at_T45 HR0.out x6_1 p131 q131
                                obtain rfl : ad129 = ad131 := (by injection e131)
                                replace p131 := eq_true p131
                                replace q131 := eq_true q131
                                go_wp2
                                repeat (go_quiet (fail); try go_wp2)
                                go_roundg k3
                                case measure => have := HK1.out; have := HJ2.out; have := HK3.out; omega
                                case rel => exact ⟨((((rd_T45 l0 x8_3).f1) != ((rd_T45 l0 x6_1).f1))), (wrap64 (x8_3 + 1)), (by first | rfl | (simp; done) | (simp [*]; done)), (by first | rfl | (simp; done) | (simp [*]; done)), H', ⟨by have := HK1.out; have := HJ2.out; have := HK3.out; omega⟩, by repeat (first | exact Drawn0.refl _ | apply Drawn0.step)⟩
                              · rw [if_neg c15] at H
                                exact absurd H (by simp)
                            · rw [if_neg c14] at H
                              exact absurd H (by simp)
                          · rw [if_neg c13] at H
                            exact absurd H (by simp)
                        · rw [if_neg c12] at H
                          exact absurd H (by simp)
                      · replace c11 := Bool.eq_false_iff.mpr c11
                        subst c11
                        have H1 : (steadingref21_Number.l1 k3 l0 a1 x5_1 x6_1 false (wrap64 (x8_3 + 1))) = some r := by rw [if_neg (show ¬ (false = true) by decide)] at H; exact H
                        clear H
                        have H := H1
                        clear H1
                        have H' := Aside0.mk H
                        clear H
                        go_wp2
                        repeat (go_quiet (fail); try go_wp2)
                        go_roundg k3
                        case measure => have := HK1.out; have := HJ2.out; have := HK3.out; omega
                        case rel => exact ⟨(false), (wrap64 (x8_3 + 1)), (by first | rfl | (simp; done) | (simp [*]; done)), (by first | rfl | (simp; done) | (simp [*]; done)), H', ⟨by have := HK1.out; have := HJ2.out; have := HK3.out; omega⟩, by repeat (first | exact Drawn0.refl _ | apply Drawn0.step)⟩
                    · rw [if_neg c10] at H
                      have c10b0 : decide (x8_3 < x6_1) = false := decide_eq_false c10
                      clear c10
                      by_cases c16 : x7_3 = true
                      · subst c16
                        have H1 : (if 0 ≤ x6_1 then (if x6_1 < (l0.length : Int) then (if 0 ≤ a1 then (if a1 < (l0.length : Int) then (if ((rd_T45 l0 x6_1).f1) = ((rd_T45 l0 a1).f1) then (some (IntKind.u64.wrap (x5_1 + 1))) else (steadingref21_Number.l0 k3 l0 a1 (IntKind.u64.wrap (x5_1 + 1)) (wrap64 (x6_1 + 1)))) else (none)) else (none)) else (none)) else (none)) = some r := by rw [if_pos rfl] at H; exact H
                        clear H
                        have H := H1
                        clear H1
                        by_cases c17 : 0 ≤ x6_1
                        · rw [if_pos c17] at H
                          have c17b0 : decide (0 ≤ x6_1) = true := decide_eq_true c17
                          clear c17
                          by_cases c18 : x6_1 < (l0.length : Int)
                          · rw [if_pos c18] at H
                            have c18b0 : decide (x6_1 < (l0.length : Int)) = true := decide_eq_true c18
                            clear c18
                            by_cases c19 : 0 ≤ a1
                            · rw [if_pos c19] at H
                              have c19b0 : decide (0 ≤ a1) = true := decide_eq_true c19
                              clear c19
                              by_cases c20 : a1 < (l0.length : Int)
                              · rw [if_pos c20] at H
                                have c20b0 : decide (a1 < (l0.length : Int)) = true := decide_eq_true c20
                                clear c20
                                by_cases c21 : ((rd_T45 l0 x6_1).f1) = ((rd_T45 l0 a1).f1)
                                · rw [if_pos c21] at H
                                  have c21b0 : (((rd_T45 l0 x6_1).f1) == ((rd_T45 l0 a1).f1)) = true := beq_iff_eq.mpr c21
                                  have c21b1 : (((rd_T45 l0 x6_1).f1) != ((rd_T45 l0 a1).f1)) = false := bne_eq_false_iff_eq.mpr c21
                                  clear c21
                                  obtain rfl := Option.some.inj H
                                  have p132 : 0 ≤ (x6_1 : Int) := of_decide_eq_true (by first | (with_reducible assumption) | assumption)
                                  have q132 : x6_1 < (l0.length : Int) := of_decide_eq_true (by first | (with_reducible assumption) | assumption)
                                  obtain ⟨ad132, e132, hx132_0, hx132_1, hx132_2, hx132_3⟩ := at_T45 HR0.out x6_1 p132 q132
                                  obtain rfl : ad129 = ad132 := (by injection e132)
                                  replace p132 := eq_true p132
                                  replace q132 := eq_true q132
                                  have p133 : 0 ≤ (a1 : Int) := of_decide_eq_true (by first | (with_reducible assumption) | assumption)
                                  have q133 : a1 < (l0.length : Int) := of_decide_eq_true (by first | (with_reducible assumption) | assumption)
                                  obtain ⟨ad133, e133, hx133_0, hx133_1, hx133_2, hx133_3⟩ := at_T45 HR0.out a1 p133 q133
                                  obtain rfl : ad129 = ad133 := (by injection e133)
                                  replace p133 := eq_true p133
                                  replace q133 := eq_true q133
                                  go_wp2
                                  repeat (go_quiet (fail); try go_wp2)
                                  go_ret
                                  exact ⟨by first | rfl | (simp; done) | (simp [*]; done), by repeat (first | exact Drawn0.refl _ | apply Drawn0.step)⟩
                                · rw [if_neg c21] at H
                                  have c21b0 : (((rd_T45 l0 x6_1).f1) == ((rd_T45 l0 a1).f1)) = false := beq_eq_false_iff_ne.mpr c21
                                  have c21b1 : (((rd_T45 l0 x6_1).f1) != ((rd_T45 l0 a1).f1)) = true := bne_iff_ne.mpr c21
                                  have H' := Aside0.mk H
                                  clear H
                                  have p132 : 0 ≤ (x6_1 : Int) := of_decide_eq_true (by first | (with_reducible assumption) | assumption)
                                  have q132 : x6_1 < (l0.length : Int) := of_decide_eq_true (by first | (with_reducible assumption) | assumption)
                                  obtain ⟨ad132, e132, hx132_0, hx132_1, hx132_2, hx132_3⟩ := at_T45 HR0.out x6_1 p132 q132
                                  obtain rfl : ad129 = ad132 := (by injection e132)
                                  replace p132 := eq_true p132
                                  replace q132 := eq_true q132
                                  have p133 : 0 ≤ (a1 : Int) := of_decide_eq_true (by first | (with_reducible assumption) | assumption)
                                  have q133 : a1 < (l0.length : Int) := of_decide_eq_true (by first | (with_reducible assumption) | assumption)
                                  obtain ⟨ad133, e133, hx133_0, hx133_1, hx133_2, hx133_3⟩ := at_T45 HR0.out a1 p133 q133
                                  obtain rfl : ad129 = ad133 := (by injection e133)
                                  replace p133 := eq_true p133
                                  replace q133 := eq_true q133
                                  go_wp2
                                  repeat (go_quiet (fail); try go_wp2)
                                  go_roundg k3
                                  case measure => have := HK1.out; have := HJ2.out; have := HK3.out; omega
                                  case rel => exact ⟨(IntKind.u64.wrap (x5_1 + 1)), (wrap64 (x6_1 + 1)), (by first | rfl | (simp; done) | (simp [*]; done)), (by first | rfl | (simp; done) | (simp [*]; done)), H', ⟨by have := HK1.out; have := HJ2.out; have := HK3.out; omega⟩, by repeat (first | exact Drawn0.refl _ | apply Drawn0.step)⟩
                              · rw [if_neg c20] at H
                                exact absurd H (by simp)
                            · rw [if_neg c19] at H
                              exact absurd H (by simp)
                          · rw [if_neg c18] at H
                            exact absurd H (by simp)
                        · rw [if_neg c17] at H
                          exact absurd H (by simp)
                      · replace c16 := Bool.eq_false_iff.mpr c16
                        subst c16
                        have H1 : (if 0 ≤ x6_1 then (if x6_1 < (l0.length : Int) then (if 0 ≤ a1 then (if a1 < (l0.length : Int) then (if ((rd_T45 l0 x6_1).f1) = ((rd_T45 l0 a1).f1) then (some x5_1) else (steadingref21_Number.l0 k3 l0 a1 x5_1 (wrap64 (x6_1 + 1)))) else (none)) else (none)) else (none)) else (none)) = some r := by rw [if_neg (show ¬ (false = true) by decide)] at H; exact H
                        clear H
                        have H := H1
                        clear H1
                        by_cases c22 : 0 ≤ x6_1
                        · rw [if_pos c22] at H
                          have c22b0 : decide (0 ≤ x6_1) = true := decide_eq_true c22
                          clear c22
                          by_cases c23 : x6_1 < (l0.length : Int)
                          · rw [if_pos c23] at H
                            have c23b0 : decide (x6_1 < (l0.length : Int)) = true := decide_eq_true c23
                            clear c23
                            by_cases c24 : 0 ≤ a1
                            · rw [if_pos c24] at H
                              have c24b0 : decide (0 ≤ a1) = true := decide_eq_true c24
                              clear c24
                              by_cases c25 : a1 < (l0.length : Int)
                              · rw [if_pos c25] at H
                                have c25b0 : decide (a1 < (l0.length : Int)) = true := decide_eq_true c25
                                clear c25
                                by_cases c26 : ((rd_T45 l0 x6_1).f1) = ((rd_T45 l0 a1).f1)
                                · rw [if_pos c26] at H
                                  have c26b0 : (((rd_T45 l0 x6_1).f1) == ((rd_T45 l0 a1).f1)) = true := beq_iff_eq.mpr c26
                                  have c26b1 : (((rd_T45 l0 x6_1).f1) != ((rd_T45 l0 a1).f1)) = false := bne_eq_false_iff_eq.mpr c26
                                  clear c26
                                  obtain rfl := Option.some.inj H
                                  have p134 : 0 ≤ (x6_1 : Int) := of_decide_eq_true (by first | (with_reducible assumption) | assumption)
                                  have q134 : x6_1 < (l0.length : Int) := of_decide_eq_true (by first | (with_reducible assumption) | assumption)
                                  obtain ⟨ad134, e134, hx134_0, hx134_1, hx134_2, hx134_3⟩ := at_T45 HR0.out x6_1 p134 q134
                                  obtain rfl : ad129 = ad134 := (by injection e134)
                                  replace p134 := eq_true p134
                                  replace q134 := eq_true q134
                                  have p135 : 0 ≤ (a1 : Int) := of_decide_eq_true (by first | (with_reducible assumption) | assumption)
                                  have q135 : a1 < (l0.length : Int) := of_decide_eq_true (by first | (with_reducible assumption) | assumption)
                                  obtain ⟨ad135, e135, hx135_0, hx135_1, hx135_2, hx135_3⟩ := at_T45 HR0.out a1 p135 q135
                                  obtain rfl : ad129 = ad135 := (by injection e135)
                                  replace p135 := eq_true p135
                                  replace q135 := eq_true q135
                                  go_wp2
                                  repeat (go_quiet (fail); try go_wp2)
                                  go_ret
                                  exact ⟨by first | rfl | (simp; done) | (simp [*]; done), by repeat (first | exact Drawn0.refl _ | apply Drawn0.step)⟩
                                · rw [if_neg c26] at H
                                  have c26b0 : (((rd_T45 l0 x6_1).f1) == ((rd_T45 l0 a1).f1)) = false := beq_eq_false_iff_ne.mpr c26
                                  have c26b1 : (((rd_T45 l0 x6_1).f1) != ((rd_T45 l0 a1).f1)) = true := bne_iff_ne.mpr c26
                                  have H' := Aside0.mk H
                                  clear H
                                  have p134 : 0 ≤ (x6_1 : Int) := of_decide_eq_true (by first | (with_reducible assumption) | assumption)
                                  have q134 : x6_1 < (l0.length : Int) := of_decide_eq_true (by first | (with_reducible assumption) | assumption)
                                  obtain ⟨ad134, e134, hx134_0, hx134_1, hx134_2, hx134_3⟩ := at_T45 HR0.out x6_1 p134 q134
                                  obtain rfl : ad129 = ad134 := (by injection e134)
                                  replace p134 := eq_true p134
                                  replace q134 := eq_true q134
                                  have p135 : 0 ≤ (a1 : Int) := of_decide_eq_true (by first | (with_reducible assumption) | assumption)
                                  have q135 : a1 < (l0.length : Int) := of_decide_eq_true (by first | (with_reducible assumption) | assumption)
                                  obtain ⟨ad135, e135, hx135_0, hx135_1, hx135_2, hx135_3⟩ := at_T45 HR0.out a1 p135 q135
                                  obtain rfl : ad129 = ad135 := (by injection e135)
                                  replace p135 := eq_true p135
                                  replace q135 := eq_true q135
                                  go_wp2
                                  repeat (go_quiet (fail); try go_wp2)
                                  go_roundg k3
                                  case measure => have := HK1.out; have := HJ2.out; have := HK3.out; omega
                                  case rel => exact ⟨(x5_1), (wrap64 (x6_1 + 1)), (by first | rfl | (simp; done) | (simp [*]; done)), (by first | rfl | (simp; done) | (simp [*]; done)), H', ⟨by have := HK1.out; have := HJ2.out; have := HK3.out; omega⟩, by repeat (first | exact Drawn0.refl _ | apply Drawn0.step)⟩
                              · rw [if_neg c25] at H
                                exact absurd H (by simp)
                            · rw [if_neg c24] at H
                              exact absurd H (by simp)
                          · rw [if_neg c23] at H
                            exact absurd H (by simp)
                        · rw [if_neg c22] at H
                          exact absurd H (by simp)
              · rw [if_neg c9] at H
                exact absurd H (by simp)
            · rw [if_neg c8] at H
              exact absurd H (by simp)
          · replace c7 := Bool.eq_false_iff.mpr c7
            subst c7
            have H1 : (some x5_1) = some r := by rw [if_neg (show ¬ (false = true) by decide)] at H; exact H
            clear H
            have H := H1
            clear H1
            obtain rfl := Option.some.inj H
            go_wp2
            repeat (go_quiet (fail); try go_wp2)
            go_ret
            exact ⟨by first | rfl | (simp; done) | (simp [*]; done), by repeat (first | exact Drawn0.refl _ | apply Drawn0.step)⟩

end Go.Proofs.Ytabmmdpioennfaa.Re
