-- Written by wip/mprint.py (a program of this session's, over the kit's print). Lean checks it.
import Derived.Test.YtccjcaomhijgdaaRnx0
import Derived.Test.YtccjcaomhijgdaaRnx4
import Derived.Test.YtccjcaomhijgdaaRnx12
import Derived.Test.YtccjcaomhijgdaaRnx15
namespace Go.Proofs.Ytccjcaomhijgdaa.Rn
open Go.RowKit Go.Proofs.YtccjcaomhijgdaaW.PrintWords Go.Proofs.YtccjcaomhijgdaaW.PrintLast Go.Proofs.YtccjcaomhijgdaaW.PrintMore
attribute [local go_sem] max2_int min2_int max_two min_two max_three min_three max_four min_four   -- for this text's walks alone
set_option linter.unusedVariables false
set_option linter.unusedSimpArgs false

/-! ### steadinglaw05_RunsLeast: function 8 -/
mutual
def steadinglaw05_RunsLeast.l0 : Nat → List (S36) → Int → Int → Int → Option (Bool)
  | 0, _, _, _, _ => none
  | k + 1, x0, x7, x8, x9 => if x9 < (x0.length : Int) then (if x8 < 0 then (if x7 > 0 then (if 0 ≤ x9 then (steadinglaw05_RunsLeast.j1 k x0 x7 x8 x9 (decide (((rd_T36 x0 x9).f1) ≥ x7))) else (none)) else (steadinglaw05_RunsLeast.j1 k x0 x7 x8 x9 false)) else (steadinglaw05_RunsLeast.j1 k x0 x7 x8 x9 false)) else (if x8 < 0 then (some true) else (if x8 < (x0.length : Int) then (if 0 ≤ x8 then (if ((rd_T36 x0 x8).f1) ≥ x7 then (some (decide (x7 > 0))) else (some false)) else (none)) else (some false)))
def steadinglaw05_RunsLeast.j1 : Nat → List (S36) → Int → Int → Int → Bool → Option (Bool)
  | 0, _, _, _, _, _ => none
  | k + 1, x0, x7, x8, x9, x42 => if x42 = true then (some false) else (if x8 ≥ 0 then (if 0 ≤ x9 then (if x9 < (x0.length : Int) then (if ((rd_T36 x0 x9).f1) ≥ x7 then (if 0 ≤ x8 then (if x8 < (x0.length : Int) then (if ((rd_T36 x0 x9).f1) < ((rd_T36 x0 x8).f1) then (some false) else (if ((rd_T36 x0 x9).f1) = ((rd_T36 x0 x8).f1) then (if x9 < x8 then (some false) else (steadinglaw05_RunsLeast.l0 k x0 x7 x8 (wrap64 (x9 + 1)))) else (steadinglaw05_RunsLeast.l0 k x0 x7 x8 (wrap64 (x9 + 1))))) else (none)) else (none)) else (steadinglaw05_RunsLeast.l0 k x0 x7 x8 (wrap64 (x9 + 1)))) else (none)) else (none)) else (steadinglaw05_RunsLeast.l0 k x0 x7 x8 (wrap64 (x9 + 1))))
end
def steadinglaw05_RunsLeast.f (k : Nat) (l0 : List (S36)) (a1 : Int) : Option (Bool) := (steadinglaw05_awake.f k).bind fun t269 => (if t269 = true then ((steadinglaw05_few.f k l0).bind fun t270 => (if t270 = true then ((runs_Best.f k l0 (wrap64 (a1))).bind fun t271 => (steadinglaw05_RunsLeast.l0 k l0 (wrap64 (a1)) t271 0)) else (some true))) else (some false))
theorem steadinglaw05_RunsLeast.mono_l : ∀ k, (∀ y0 y1 y2 y3, LeO (steadinglaw05_RunsLeast.l0 k y0 y1 y2 y3) (steadinglaw05_RunsLeast.l0 (k + 1) y0 y1 y2 y3)) ∧ (∀ y0 y1 y2 y3 y4, LeO (steadinglaw05_RunsLeast.j1 k y0 y1 y2 y3 y4) (steadinglaw05_RunsLeast.j1 (k + 1) y0 y1 y2 y3 y4))
  | 0 => ⟨fun _ _ _ _ r h => by simp [steadinglaw05_RunsLeast.l0] at h, fun _ _ _ _ _ r h => by simp [steadinglaw05_RunsLeast.j1] at h⟩
  | k + 1 => by
    obtain ⟨ih0, ih1⟩ := steadinglaw05_RunsLeast.mono_l k
    refine ⟨?_, ?_⟩
    · intro y0 y1 y2 y3
      unfold steadinglaw05_RunsLeast.l0
      repeat' first
      | (with_reducible exact ih0 _ _ _ _)
      | (with_reducible exact ih1 _ _ _ _ _)
      | (with_reducible exact runs_Best.mono _ _ _)
      | (with_reducible exact steadinglaw05_awake.mono _)
      | (with_reducible exact steadinglaw05_few.mono _ _)
      | (with_reducible exact LeO.refl _)
      | (with_reducible exact LeO.none _)
      | (with_reducible refine LeO.ite ?_ ?_)
      | (with_reducible refine LeO.bind ?_ (fun _ => ?_))
      | exact ih0 _ _ _ _
      | exact ih1 _ _ _ _ _
      | exact runs_Best.mono _ _ _
      | exact steadinglaw05_awake.mono _
      | exact steadinglaw05_few.mono _ _
      | exact LeO.none _
      | refine LeO.ite ?_ ?_
      | refine LeO.bind ?_ (fun _ => ?_)
    · intro y0 y1 y2 y3 y4
      unfold steadinglaw05_RunsLeast.j1
      repeat' first
      | (with_reducible exact ih0 _ _ _ _)
      | (with_reducible exact ih1 _ _ _ _ _)
      | (with_reducible exact runs_Best.mono _ _ _)
      | (with_reducible exact steadinglaw05_awake.mono _)
      | (with_reducible exact steadinglaw05_few.mono _ _)
      | (with_reducible exact LeO.refl _)
      | (with_reducible exact LeO.none _)
      | (with_reducible refine LeO.ite ?_ ?_)
      | (with_reducible refine LeO.bind ?_ (fun _ => ?_))
      | exact ih0 _ _ _ _
      | exact ih1 _ _ _ _ _
      | exact runs_Best.mono _ _ _
      | exact steadinglaw05_awake.mono _
      | exact steadinglaw05_few.mono _ _
      | exact LeO.none _
      | refine LeO.ite ?_ ?_
      | refine LeO.bind ?_ (fun _ => ?_)
theorem steadinglaw05_RunsLeast.mono : ∀ a0 a1 k, LeO (steadinglaw05_RunsLeast.f k a0 a1) (steadinglaw05_RunsLeast.f (k + 1) a0 a1) := by
  intro a0 a1 k
  obtain ⟨ih0, ih1⟩ := steadinglaw05_RunsLeast.mono_l k
  unfold steadinglaw05_RunsLeast.f
  repeat' first
      | (with_reducible exact ih0 _ _ _ _)
      | (with_reducible exact ih1 _ _ _ _ _)
      | (with_reducible exact runs_Best.mono _ _ _)
      | (with_reducible exact steadinglaw05_awake.mono _)
      | (with_reducible exact steadinglaw05_few.mono _ _)
      | (with_reducible exact LeO.refl _)
      | (with_reducible exact LeO.none _)
      | (with_reducible refine LeO.ite ?_ ?_)
      | (with_reducible refine LeO.bind ?_ (fun _ => ?_))
      | exact ih0 _ _ _ _
      | exact ih1 _ _ _ _ _
      | exact runs_Best.mono _ _ _
      | exact steadinglaw05_awake.mono _
      | exact steadinglaw05_few.mono _ _
      | exact LeO.none _
      | refine LeO.ite ?_ ?_
      | refine LeO.bind ?_ (fun _ => ?_)
set_option maxHeartbeats 8000000 in
set_option maxRecDepth 100000 in
theorem steadinglaw05_RunsLeast.calls (k : Nat) (A0 : Option Addr) (c0 : Nat) (l0 : List (S36)) (a1 : Int) (r : Bool) (w : World) (hr0 : Kd.C k36 w A0 l0.length l0) (hc0 : l0.length ≤ c0) (h : steadinglaw05_RunsLeast.f k l0 a1 = some r) :
    Calls Try.prog 8 #[.slice A0 l0.length c0, .int .u8 a1] w fun e w' => e = .returned (.bool r) ∧ Below w.heap.size w w' := by
  have HR0 := Aside0.mk hr0
  have HC0 := Aside0.mk hc0
  clear hr0 hc0
  have HB := Aside0.mk (Below.refl w.heap.size w)
  have H : ((steadinglaw05_awake.f k).bind fun t269 => (if t269 = true then ((steadinglaw05_few.f k l0).bind fun t270 => (if t270 = true then ((runs_Best.f k l0 (wrap64 (a1))).bind fun t271 => (steadinglaw05_RunsLeast.l0 k l0 (wrap64 (a1)) t271 0)) else (some true))) else (some false))) = some r := h
  clear h
  replace H := Option.bind_eq_some_iff.mp H
  obtain ⟨t269, A30, H⟩ := H
  replace H : (if t269 = true then ((steadinglaw05_few.f k l0).bind fun t270 => (if t270 = true then ((runs_Best.f k l0 (wrap64 (a1))).bind fun t271 => (steadinglaw05_RunsLeast.l0 k l0 (wrap64 (a1)) t271 0)) else (some true))) else (some false)) = some r := H
  have A3 := Aside0.mk A30
  clear A30
  by_cases c4 : t269 = true
  · subst c4
    have H1 : ((steadinglaw05_few.f k l0).bind fun t270 => (if t270 = true then ((runs_Best.f k l0 (wrap64 (a1))).bind fun t271 => (steadinglaw05_RunsLeast.l0 k l0 (wrap64 (a1)) t271 0)) else (some true))) = some r := by rw [if_pos rfl] at H; exact H
    clear H
    have H := H1
    clear H1
    replace H := Option.bind_eq_some_iff.mp H
    obtain ⟨t270, A50, H⟩ := H
    replace H : (if t270 = true then ((runs_Best.f k l0 (wrap64 (a1))).bind fun t271 => (steadinglaw05_RunsLeast.l0 k l0 (wrap64 (a1)) t271 0)) else (some true)) = some r := H
    have A5 := Aside0.mk A50
    clear A50
    by_cases c6 : t270 = true
    · subst c6
      have H1 : ((runs_Best.f k l0 (wrap64 (a1))).bind fun t271 => (steadinglaw05_RunsLeast.l0 k l0 (wrap64 (a1)) t271 0)) = some r := by rw [if_pos rfl] at H; exact H
      clear H
      have H := H1
      clear H1
      replace H := Option.bind_eq_some_iff.mp H
      obtain ⟨t271, A70, H⟩ := H
      replace H : (steadinglaw05_RunsLeast.l0 k l0 (wrap64 (a1)) t271 0) = some r := H
      have A7 := Aside0.mk A70
      clear A70
      have H' := Aside0.mk H
      clear H
      go_enter Try.func8, Try.ntmps8
      go_wp2_with (first | (go_at_call 11; (with_reducible refine (steadinglaw05_awake.calls k  true _ A3.out).mono ?_); rintro e w8 ⟨rfl, hb⟩; have n0_ := Aside0.mk (below_step (by repeat (first | (with_reducible first | exact HB.out | apply below_alloc | apply pw_below_drewN | apply below_drew1) | exact HB.out)) hb); clear HB; have HB := n0_; clear n0_; (try clear hb); (try clear hb2); (try clear hk); (try clear hi)) | (go_at_call 14; (with_reducible refine (steadinglaw05_few.calls k _ _ l0 true _ ?side1 ?side2 A5.out).mono ?_); (case side1 => repeat (first | exact (Kd.C_below HR0.out HB.out) | (with_reducible refine Kd.C_alloc ?_ _) | (with_reducible refine Kd.C_drewN ?_ _) | (with_reducible refine Kd.C_drew ?_))); (case side2 => exact HC0.out); rintro e w9 ⟨rfl, hb⟩; have n0_ := Aside0.mk (below_step (by repeat (first | (with_reducible first | exact HB.out | apply below_alloc | apply pw_below_drewN | apply below_drew1) | exact HB.out)) hb); clear HB; have HB := n0_; clear n0_; (try clear hb); (try clear hb2); (try clear hk); (try clear hi)) | (go_at_call 19; (with_reducible refine (runs_Best.calls k _ _ l0 (wrap64 (a1)) t271 _ ?side1 ?side2 A7.out).mono ?_); (case side1 => repeat (first | exact (Kd.C_below HR0.out HB.out) | (with_reducible refine Kd.C_alloc ?_ _) | (with_reducible refine Kd.C_drewN ?_ _) | (with_reducible refine Kd.C_drew ?_))); (case side2 => exact HC0.out); rintro e w10 ⟨rfl, hb⟩; have n0_ := Aside0.mk (below_step (by repeat (first | (with_reducible first | exact HB.out | apply below_alloc | apply pw_below_drewN | apply below_drew1) | exact HB.out)) hb); clear HB; have HB := n0_; clear n0_; (try clear hb); (try clear hb2); (try clear hk); (try clear hi)))
      repeat (go_quiet (first | (go_at_call 11; (with_reducible refine (steadinglaw05_awake.calls k  true _ A3.out).mono ?_); rintro e w8 ⟨rfl, hb⟩; have n0_ := Aside0.mk (below_step (by repeat (first | (with_reducible first | exact HB.out | apply below_alloc | apply pw_below_drewN | apply below_drew1) | exact HB.out)) hb); clear HB; have HB := n0_; clear n0_; (try clear hb); (try clear hb2); (try clear hk); (try clear hi)) | (go_at_call 14; (with_reducible refine (steadinglaw05_few.calls k _ _ l0 true _ ?side1 ?side2 A5.out).mono ?_); (case side1 => repeat (first | exact (Kd.C_below HR0.out HB.out) | (with_reducible refine Kd.C_alloc ?_ _) | (with_reducible refine Kd.C_drewN ?_ _) | (with_reducible refine Kd.C_drew ?_))); (case side2 => exact HC0.out); rintro e w9 ⟨rfl, hb⟩; have n0_ := Aside0.mk (below_step (by repeat (first | (with_reducible first | exact HB.out | apply below_alloc | apply pw_below_drewN | apply below_drew1) | exact HB.out)) hb); clear HB; have HB := n0_; clear n0_; (try clear hb); (try clear hb2); (try clear hk); (try clear hi)) | (go_at_call 19; (with_reducible refine (runs_Best.calls k _ _ l0 (wrap64 (a1)) t271 _ ?side1 ?side2 A7.out).mono ?_); (case side1 => repeat (first | exact (Kd.C_below HR0.out HB.out) | (with_reducible refine Kd.C_alloc ?_ _) | (with_reducible refine Kd.C_drewN ?_ _) | (with_reducible refine Kd.C_drew ?_))); (case side2 => exact HC0.out); rintro e w10 ⟨rfl, hb⟩; have n0_ := Aside0.mk (below_step (by repeat (first | (with_reducible first | exact HB.out | apply below_alloc | apply pw_below_drewN | apply below_drew1) | exact HB.out)) hb); clear HB; have HB := n0_; clear n0_; (try clear hb); (try clear hb2); (try clear hk); (try clear hi))); try go_wp2_with (first | (go_at_call 11; (with_reducible refine (steadinglaw05_awake.calls k  true _ A3.out).mono ?_); rintro e w8 ⟨rfl, hb⟩; have n0_ := Aside0.mk (below_step (by repeat (first | (with_reducible first | exact HB.out | apply below_alloc | apply pw_below_drewN | apply below_drew1) | exact HB.out)) hb); clear HB; have HB := n0_; clear n0_; (try clear hb); (try clear hb2); (try clear hk); (try clear hi)) | (go_at_call 14; (with_reducible refine (steadinglaw05_few.calls k _ _ l0 true _ ?side1 ?side2 A5.out).mono ?_); (case side1 => repeat (first | exact (Kd.C_below HR0.out HB.out) | (with_reducible refine Kd.C_alloc ?_ _) | (with_reducible refine Kd.C_drewN ?_ _) | (with_reducible refine Kd.C_drew ?_))); (case side2 => exact HC0.out); rintro e w9 ⟨rfl, hb⟩; have n0_ := Aside0.mk (below_step (by repeat (first | (with_reducible first | exact HB.out | apply below_alloc | apply pw_below_drewN | apply below_drew1) | exact HB.out)) hb); clear HB; have HB := n0_; clear n0_; (try clear hb); (try clear hb2); (try clear hk); (try clear hi)) | (go_at_call 19; (with_reducible refine (runs_Best.calls k _ _ l0 (wrap64 (a1)) t271 _ ?side1 ?side2 A7.out).mono ?_); (case side1 => repeat (first | exact (Kd.C_below HR0.out HB.out) | (with_reducible refine Kd.C_alloc ?_ _) | (with_reducible refine Kd.C_drewN ?_ _) | (with_reducible refine Kd.C_drew ?_))); (case side2 => exact HC0.out); rintro e w10 ⟨rfl, hb⟩; have n0_ := Aside0.mk (below_step (by repeat (first | (with_reducible first | exact HB.out | apply below_alloc | apply pw_below_drewN | apply below_drew1) | exact HB.out)) hb); clear HB; have HB := n0_; clear n0_; (try clear hb); (try clear hb2); (try clear hk); (try clear hi))))
      go_loopg [9] k (fun kq v9 w' => ∃ (x9_1 : Int), v9 = .int .i64 x9_1 ∧ Aside0 (steadinglaw05_RunsLeast.l0 kq l0 (wrap64 (a1)) t271 x9_1 = some r) ∧ Aside0 (kq ≤ k) ∧ Aside0 (Below w.heap.size w w'))
      case atStart => exact ⟨(0), (by first | rfl | (simp; done) | (simp [*]; done)), H', ⟨Nat.le_refl _⟩, ⟨by repeat (first | (with_reducible first | exact HB.out | apply below_alloc | apply pw_below_drewN | apply below_drew1) | exact HB.out)⟩⟩
      case round =>
        clear H'
        try clear p2
        try clear c4
        try clear c6
        try clear p6
        try clear c8
        obtain ⟨x9_1, rfl, HA, HK1, HB⟩ := hrel
        cases gk with
        | zero => exact absurd HA.out (by simp [steadinglaw05_RunsLeast.l0])
        | succ k1 =>
          have H := HA.out
          clear HA
          simp only [steadinglaw05_RunsLeast.l0] at H
          by_cases c11 : x9_1 < (l0.length : Int)
          · rw [if_pos c11] at H
            have c11b0 : decide (x9_1 < (l0.length : Int)) = true := decide_eq_true c11
            clear c11
            have HC12 := Aside0.mk H
            clear H
            go_upto_region 12 with (fail)
            repeat (go_quiet (fail); go_upto_region 12 with (fail))
            go_cut [42] (fun v42 wc => ∃ (kq : Nat) (x42_11 : Bool), v42 = .bool x42_11 ∧ Aside0 (steadinglaw05_RunsLeast.j1 kq l0 (wrap64 (a1)) t271 x9_1 x42_11 = some r) ∧ Aside0 (kq ≤ k1) ∧ Aside0 (Below w.heap.size w wc))
            case first =>
              have H := HC12.out
              clear HC12
              by_cases c13 : t271 < 0
              · rw [if_pos c13] at H
                have c13b0 : decide (t271 < 0) = true := decide_eq_true c13
                clear c13
                (first | rw [c13b0] | (simp only [i64_w, i32_w]; rw [c13b0]) | skip)
                by_cases c14 : (wrap64 (a1)) > 0
                · rw [if_pos c14] at H
                  have c14b0 : decide (0 < (wrap64 (a1))) = true := decide_eq_true c14
                  clear c14
                  by_cases c15 : 0 ≤ x9_1
                  · rw [if_pos c15] at H
                    have c15b0 : decide (0 ≤ x9_1) = true := decide_eq_true c15
                    clear c15
                    have H' := Aside0.mk H
                    clear H
                    have p273 : 0 ≤ (x9_1 : Int) := of_decide_eq_true (by first | (with_reducible assumption) | assumption)
                    have q273 : x9_1 < (l0.length : Int) := of_decide_eq_true (by first | (with_reducible assumption) | assumption)
                    obtain ⟨ad273, e273, hx273_0, hx273_1⟩ := at_T36 HR0.out x9_1 p273 q273
                    cases e273
                    replace hx273_0 := (HB.out.cell (World.block_lt_of_cell? w _ hx273_0)).trans hx273_0
                    replace hx273_1 := (HB.out.cell (World.block_lt_of_cell? w _ hx273_1)).trans hx273_1
                    replace p273 := eq_true p273
                    replace q273 := eq_true q273
                    go_wp2
                    repeat (go_quiet (fail); try go_wp2)
                    go_meet
                    case rel => exact ⟨_, (decide (((rd_T36 l0 x9_1).f1) ≥ (wrap64 (a1)))), (by first | rfl | (simp; done) | (simp [*]; done)), H', ⟨by have := HK1.out; first | omega | exact Nat.le_refl _⟩, ⟨by repeat (first | (with_reducible first | exact HB.out | apply below_alloc | apply pw_below_drewN | apply below_drew1) | exact HB.out)⟩⟩
                  · rw [if_neg c15] at H
                    exact absurd H (by simp)
                · rw [if_neg c14] at H
                  have c14b0 : decide (0 < (wrap64 (a1))) = false := decide_eq_false c14
                  clear c14
                  have H' := Aside0.mk H
                  clear H
                  go_wp2
                  repeat (go_quiet (fail); try go_wp2)
                  go_meet
                  case rel => exact ⟨_, (false), (by first | rfl | (simp; done) | (simp [*]; done)), H', ⟨by have := HK1.out; first | omega | exact Nat.le_refl _⟩, ⟨by repeat (first | (with_reducible first | exact HB.out | apply below_alloc | apply pw_below_drewN | apply below_drew1) | exact HB.out)⟩⟩
              · rw [if_neg c13] at H
                have c13b0 : decide (t271 < 0) = false := decide_eq_false c13
                clear c13
                (first | rw [c13b0] | (simp only [i64_w, i32_w]; rw [c13b0]) | skip)
                have H' := Aside0.mk H
                clear H
                go_wp2
                repeat (go_quiet (fail); try go_wp2)
                go_meet
                case rel => exact ⟨_, (false), (by first | rfl | (simp; done) | (simp [*]; done)), H', ⟨by have := HK1.out; first | omega | exact Nat.le_refl _⟩, ⟨by repeat (first | (with_reducible first | exact HB.out | apply below_alloc | apply pw_below_drewN | apply below_drew1) | exact HB.out)⟩⟩
            case rest =>
              clear HC12
              try clear c1
              try clear p2
              try clear q2
              try clear hx2
              try clear c4
              try clear c6
              try clear p6
              try clear c8
              try clear c11
              try clear c11b0
              try clear c13
              try clear c13b0
              try clear c14
              try clear c14b0
              try clear c15
              try clear c15b0
              try clear hx273_0
              try clear hx273_1
              try clear p2
              try clear p273
              try clear p6
              try clear q273
              obtain ⟨kq, x42_11, rfl, HA, HJ11, HB⟩ := hcut
              cases kq with
              | zero => exact absurd HA.out (by simp [steadinglaw05_RunsLeast.j1])
              | succ kj11 =>
                have H := HA.out
                clear HA
                simp only [steadinglaw05_RunsLeast.j1] at H
                by_cases c16 : x42_11 = true
                · subst c16
                  have H1 : (some false) = some r := by rw [if_pos rfl] at H; exact H
                  clear H
                  have H := H1
                  clear H1
                  obtain rfl := Option.some.inj H
                  go_wp2
                  repeat (go_quiet (fail); try go_wp2)
                  go_ret
                  exact ⟨by first | rfl | (simp [errW_none, errW_some] <;> rfl) | (simp [*, errW_none, errW_some] <;> rfl), by repeat (first | (with_reducible first | exact HB.out | apply below_alloc | apply pw_below_drewN | apply below_drew1) | exact HB.out)⟩
                · replace c16 := Bool.eq_false_iff.mpr c16
                  subst c16
                  have H1 : (if t271 ≥ 0 then (if 0 ≤ x9_1 then (if x9_1 < (l0.length : Int) then (if ((rd_T36 l0 x9_1).f1) ≥ (wrap64 (a1)) then (if 0 ≤ t271 then (if t271 < (l0.length : Int) then (if ((rd_T36 l0 x9_1).f1) < ((rd_T36 l0 t271).f1) then (some false) else (if ((rd_T36 l0 x9_1).f1) = ((rd_T36 l0 t271).f1) then (if x9_1 < t271 then (some false) else (steadinglaw05_RunsLeast.l0 kj11 l0 (wrap64 (a1)) t271 (wrap64 (x9_1 + 1)))) else (steadinglaw05_RunsLeast.l0 kj11 l0 (wrap64 (a1)) t271 (wrap64 (x9_1 + 1))))) else (none)) else (none)) else (steadinglaw05_RunsLeast.l0 kj11 l0 (wrap64 (a1)) t271 (wrap64 (x9_1 + 1)))) else (none)) else (none)) else (steadinglaw05_RunsLeast.l0 kj11 l0 (wrap64 (a1)) t271 (wrap64 (x9_1 + 1)))) = some r := by rw [if_neg (show ¬ (false = true) by decide)] at H; exact H
                  clear H
                  have H := H1
                  clear H1
                  by_cases c17 : t271 ≥ 0
                  · rw [if_pos c17] at H
                    have c17b0 : decide (0 ≤ t271) = true := decide_eq_true c17
                    clear c17
                    by_cases c18 : 0 ≤ x9_1
                    · rw [if_pos c18] at H
                      have c18b0 : decide (0 ≤ x9_1) = true := decide_eq_true c18
                      clear c18
                      by_cases c19 : x9_1 < (l0.length : Int)
                      · rw [if_pos c19] at H
                        have c19b0 : decide (x9_1 < (l0.length : Int)) = true := decide_eq_true c19
                        clear c19
                        by_cases c20 : ((rd_T36 l0 x9_1).f1) ≥ (wrap64 (a1))
                        · rw [if_pos c20] at H
                          have c20b0 : decide ((wrap64 (a1)) ≤ ((rd_T36 l0 x9_1).f1)) = true := decide_eq_true c20
                          clear c20
                          by_cases c21 : 0 ≤ t271
                          · rw [if_pos c21] at H
                            have c21b0 : decide (0 ≤ t271) = true := decide_eq_true c21
                            clear c21
                            by_cases c22 : t271 < (l0.length : Int)
                            · rw [if_pos c22] at H
                              have c22b0 : decide (t271 < (l0.length : Int)) = true := decide_eq_true c22
                              clear c22
                              by_cases c23 : ((rd_T36 l0 x9_1).f1) < ((rd_T36 l0 t271).f1)
                              · rw [if_pos c23] at H
                                have c23b0 : decide (((rd_T36 l0 x9_1).f1) < ((rd_T36 l0 t271).f1)) = true := decide_eq_true c23
                                clear c23
                                obtain rfl := Option.some.inj H
                                have p274 : 0 ≤ (x9_1 : Int) := of_decide_eq_true (by first | (with_reducible assumption) | assumption)
                                have q274 : x9_1 < (l0.length : Int) := of_decide_eq_true (by first | (with_reducible assumption) | assumption)
                                obtain ⟨ad274, e274, hx274_0, hx274_1⟩ := at_T36 HR0.out x9_1 p274 q274
                                cases e274
                                replace hx274_0 := (HB.out.cell (World.block_lt_of_cell? w _ hx274_0)).trans hx274_0
                                replace hx274_1 := (HB.out.cell (World.block_lt_of_cell? w _ hx274_1)).trans hx274_1
                                replace p274 := eq_true p274
                                replace q274 := eq_true q274
                                have p275 : 0 ≤ (x9_1 : Int) := of_decide_eq_true (by first | (with_reducible assumption) | assumption)
                                have q275 : x9_1 < (l0.length : Int) := of_decide_eq_true (by first | (with_reducible assumption) | assumption)
                                obtain ⟨ad275, e275, hx275_0, hx275_1⟩ := at_T36 HR0.out x9_1 p275 q275
                                obtain rfl : ad274 = ad275 := (by injection e275)
                                replace hx275_0 := (HB.out.cell (World.block_lt_of_cell? w _ hx275_0)).trans hx275_0
                                replace hx275_1 := (HB.out.cell (World.block_lt_of_cell? w _ hx275_1)).trans hx275_1
                                replace p275 := eq_true p275
                                replace q275 := eq_true q275
                                have p276 : 0 ≤ (t271 : Int) := of_decide_eq_true (by first | (with_reducible assumption) | assumption)
                                have q276 : t271 < (l0.length : Int) := of_decide_eq_true (by first | (with_reducible assumption) | assumption)
                                obtain ⟨ad276, e276, hx276_0, hx276_1⟩ := at_T36 HR0.out t271 p276 q276
                                obtain rfl : ad274 = ad276 := (by injection e276)
                                replace hx276_0 := (HB.out.cell (World.block_lt_of_cell? w _ hx276_0)).trans hx276_0
                                replace hx276_1 := (HB.out.cell (World.block_lt_of_cell? w _ hx276_1)).trans hx276_1
                                replace p276 := eq_true p276
                                replace q276 := eq_true q276
                                go_wp2
                                repeat (go_quiet (fail); try go_wp2)
                                go_ret
                                exact ⟨by first | rfl | (simp [errW_none, errW_some] <;> rfl) | (simp [*, errW_none, errW_some] <;> rfl), by repeat (first | (with_reducible first | exact HB.out | apply below_alloc | apply pw_below_drewN | apply below_drew1) | exact HB.out)⟩
                              · rw [if_neg c23] at H
                                have c23b0 : decide (((rd_T36 l0 x9_1).f1) < ((rd_T36 l0 t271).f1)) = false := decide_eq_false c23
                                clear c23
                                by_cases c24 : ((rd_T36 l0 x9_1).f1) = ((rd_T36 l0 t271).f1)
                                · rw [if_pos c24] at H
                                  have c24b0 : (((rd_T36 l0 x9_1).f1) == ((rd_T36 l0 t271).f1)) = true := beq_iff_eq.mpr c24
                                  have c24b1 : (((rd_T36 l0 x9_1).f1) != ((rd_T36 l0 t271).f1)) = false := bne_eq_false_iff_eq.mpr c24
                                  clear c24
                                  by_cases c25 : x9_1 < t271
                                  · rw [if_pos c25] at H
                                    have c25b0 : decide (x9_1 < t271) = true := decide_eq_true c25
                                    clear c25
                                    obtain rfl := Option.some.inj H
                                    have p274 : 0 ≤ (x9_1 : Int) := of_decide_eq_true (by first | (with_reducible assumption) | assumption)
                                    have q274 : x9_1 < (l0.length : Int) := of_decide_eq_true (by first | (with_reducible assumption) | assumption)
                                    obtain ⟨ad274, e274, hx274_0, hx274_1⟩ := at_T36 HR0.out x9_1 p274 q274
                                    cases e274
                                    replace hx274_0 := (HB.out.cell (World.block_lt_of_cell? w _ hx274_0)).trans hx274_0
                                    replace hx274_1 := (HB.out.cell (World.block_lt_of_cell? w _ hx274_1)).trans hx274_1
                                    replace p274 := eq_true p274
                                    replace q274 := eq_true q274
                                    have p275 : 0 ≤ (x9_1 : Int) := of_decide_eq_true (by first | (with_reducible assumption) | assumption)
                                    have q275 : x9_1 < (l0.length : Int) := of_decide_eq_true (by first | (with_reducible assumption) | assumption)
                                    obtain ⟨ad275, e275, hx275_0, hx275_1⟩ := at_T36 HR0.out x9_1 p275 q275
                                    obtain rfl : ad274 = ad275 := (by injection e275)
                                    replace hx275_0 := (HB.out.cell (World.block_lt_of_cell? w _ hx275_0)).trans hx275_0
                                    replace hx275_1 := (HB.out.cell (World.block_lt_of_cell? w _ hx275_1)).trans hx275_1
                                    replace p275 := eq_true p275
                                    replace q275 := eq_true q275
                                    have p276 : 0 ≤ (t271 : Int) := of_decide_eq_true (by first | (with_reducible assumption) | assumption)
                                    have q276 : t271 < (l0.length : Int) := of_decide_eq_true (by first | (with_reducible assumption) | assumption)
                                    obtain ⟨ad276, e276, hx276_0, hx276_1⟩ := at_T36 HR0.out t271 p276 q276
                                    obtain rfl : ad274 = ad276 := (by injection e276)
                                    replace hx276_0 := (HB.out.cell (World.block_lt_of_cell? w _ hx276_0)).trans hx276_0
                                    replace hx276_1 := (HB.out.cell (World.block_lt_of_cell? w _ hx276_1)).trans hx276_1
                                    replace p276 := eq_true p276
                                    replace q276 := eq_true q276
                                    have p277 : 0 ≤ (x9_1 : Int) := of_decide_eq_true (by first | (with_reducible assumption) | assumption)
                                    have q277 : x9_1 < (l0.length : Int) := of_decide_eq_true (by first | (with_reducible assumption) | assumption)
                                    obtain ⟨ad277, e277, hx277_0, hx277_1⟩ := at_T36 HR0.out x9_1 p277 q277
                                    obtain rfl : ad274 = ad277 := (by injection e277)
                                    replace hx277_0 := (HB.out.cell (World.block_lt_of_cell? w _ hx277_0)).trans hx277_0
                                    replace hx277_1 := (HB.out.cell (World.block_lt_of_cell? w _ hx277_1)).trans hx277_1
                                    replace p277 := eq_true p277
                                    replace q277 := eq_true q277
                                    have p278 : 0 ≤ (t271 : Int) := of_decide_eq_true (by first | (with_reducible assumption) | assumption)
                                    have q278 : t271 < (l0.length : Int) := of_decide_eq_true (by first | (with_reducible assumption) | assumption)
                                    obtain ⟨ad278, e278, hx278_0, hx278_1⟩ := at_T36 HR0.out t271 p278 q278
                                    obtain rfl : ad274 = ad278 := (by injection e278)
                                    replace hx278_0 := (HB.out.cell (World.block_lt_of_cell? w _ hx278_0)).trans hx278_0
                                    replace hx278_1 := (HB.out.cell (World.block_lt_of_cell? w _ hx278_1)).trans hx278_1
                                    replace p278 := eq_true p278
                                    replace q278 := eq_true q278
                                    go_wp2
                                    repeat (go_quiet (fail); try go_wp2)
                                    go_ret
                                    exact ⟨by first | rfl | (simp [errW_none, errW_some] <;> rfl) | (simp [*, errW_none, errW_some] <;> rfl), by repeat (first | (with_reducible first | exact HB.out | apply below_alloc | apply pw_below_drewN | apply below_drew1) | exact HB.out)⟩
                                  · rw [if_neg c25] at H
                                    have c25b0 : decide (x9_1 < t271) = false := decide_eq_false c25
                                    clear c25
                                    have H' := Aside0.mk H
                                    clear H
                                    have p274 : 0 ≤ (x9_1 : Int) := of_decide_eq_true (by first | (with_reducible assumption) | assumption)
                                    have q274 : x9_1 < (l0.length : Int) := of_decide_eq_true (by first | (with_reducible assumption) | assumption)
                                    obtain ⟨ad274, e274, hx274_0, hx274_1⟩ := at_T36 HR0.out x9_1 p274 q274
                                    cases e274
                                    replace hx274_0 := (HB.out.cell (World.block_lt_of_cell? w _ hx274_0)).trans hx274_0
                                    replace hx274_1 := (HB.out.cell (World.block_lt_of_cell? w _ hx274_1)).trans hx274_1
                                    replace p274 := eq_true p274
                                    replace q274 := eq_true q274
                                    have p275 : 0 ≤ (x9_1 : Int) := of_decide_eq_true (by first | (with_reducible assumption) | assumption)
                                    have q275 : x9_1 < (l0.length : Int) := of_decide_eq_true (by first | (with_reducible assumption) | assumption)
                                    obtain ⟨ad275, e275, hx275_0, hx275_1⟩ := at_T36 HR0.out x9_1 p275 q275
                                    obtain rfl : ad274 = ad275 := (by injection e275)
                                    replace hx275_0 := (HB.out.cell (World.block_lt_of_cell? w _ hx275_0)).trans hx275_0
                                    replace hx275_1 := (HB.out.cell (World.block_lt_of_cell? w _ hx275_1)).trans hx275_1
                                    replace p275 := eq_true p275
                                    replace q275 := eq_true q275
                                    have p276 : 0 ≤ (t271 : Int) := of_decide_eq_true (by first | (with_reducible assumption) | assumption)
                                    have q276 : t271 < (l0.length : Int) := of_decide_eq_true (by first | (with_reducible assumption) | assumption)
                                    obtain ⟨ad276, e276, hx276_0, hx276_1⟩ := at_T36 HR0.out t271 p276 q276
                                    obtain rfl : ad274 = ad276 := (by injection e276)
                                    replace hx276_0 := (HB.out.cell (World.block_lt_of_cell? w _ hx276_0)).trans hx276_0
                                    replace hx276_1 := (HB.out.cell (World.block_lt_of_cell? w _ hx276_1)).trans hx276_1
                                    replace p276 := eq_true p276
                                    replace q276 := eq_true q276
                                    have p277 : 0 ≤ (x9_1 : Int) := of_decide_eq_true (by first | (with_reducible assumption) | assumption)
                                    have q277 : x9_1 < (l0.length : Int) := of_decide_eq_true (by first | (with_reducible assumption) | assumption)
                                    obtain ⟨ad277, e277, hx277_0, hx277_1⟩ := at_T36 HR0.out x9_1 p277 q277
                                    obtain rfl : ad274 = ad277 := (by injection e277)
                                    replace hx277_0 := (HB.out.cell (World.block_lt_of_cell? w _ hx277_0)).trans hx277_0
                                    replace hx277_1 := (HB.out.cell (World.block_lt_of_cell? w _ hx277_1)).trans hx277_1
                                    replace p277 := eq_true p277
                                    replace q277 := eq_true q277
                                    have p278 : 0 ≤ (t271 : Int) := of_decide_eq_true (by first | (with_reducible assumption) | assumption)
                                    have q278 : t271 < (l0.length : Int) := of_decide_eq_true (by first | (with_reducible assumption) | assumption)
                                    obtain ⟨ad278, e278, hx278_0, hx278_1⟩ := at_T36 HR0.out t271 p278 q278
                                    obtain rfl : ad274 = ad278 := (by injection e278)
                                    replace hx278_0 := (HB.out.cell (World.block_lt_of_cell? w _ hx278_0)).trans hx278_0
                                    replace hx278_1 := (HB.out.cell (World.block_lt_of_cell? w _ hx278_1)).trans hx278_1
                                    replace p278 := eq_true p278
                                    replace q278 := eq_true q278
                                    go_wp2
                                    repeat (go_quiet (fail); try go_wp2)
                                    go_roundg kj11
                                    case measure => have := HK1.out; have := HJ11.out; omega
                                    case rel => exact ⟨(wrap64 (x9_1 + 1)), (by first | rfl | (simp; done) | (simp [*]; done)), H', ⟨by have := HK1.out; have := HJ11.out; omega⟩, ⟨by repeat (first | (with_reducible first | exact HB.out | apply below_alloc | apply pw_below_drewN | apply below_drew1) | exact HB.out)⟩⟩
                                · rw [if_neg c24] at H
                                  have c24b0 : (((rd_T36 l0 x9_1).f1) == ((rd_T36 l0 t271).f1)) = false := beq_eq_false_iff_ne.mpr c24
                                  have c24b1 : (((rd_T36 l0 x9_1).f1) != ((rd_T36 l0 t271).f1)) = true := bne_iff_ne.mpr c24
                                  have H' := Aside0.mk H
                                  clear H
                                  have p274 : 0 ≤ (x9_1 : Int) := of_decide_eq_true (by first | (with_reducible assumption) | assumption)
                                  have q274 : x9_1 < (l0.length : Int) := of_decide_eq_true (by first | (with_reducible assumption) | assumption)
                                  obtain ⟨ad274, e274, hx274_0, hx274_1⟩ := at_T36 HR0.out x9_1 p274 q274
                                  cases e274
                                  replace hx274_0 := (HB.out.cell (World.block_lt_of_cell? w _ hx274_0)).trans hx274_0
                                  replace hx274_1 := (HB.out.cell (World.block_lt_of_cell? w _ hx274_1)).trans hx274_1
                                  replace p274 := eq_true p274
                                  replace q274 := eq_true q274
                                  have p275 : 0 ≤ (x9_1 : Int) := of_decide_eq_true (by first | (with_reducible assumption) | assumption)
                                  have q275 : x9_1 < (l0.length : Int) := of_decide_eq_true (by first | (with_reducible assumption) | assumption)
                                  obtain ⟨ad275, e275, hx275_0, hx275_1⟩ := at_T36 HR0.out x9_1 p275 q275
                                  obtain rfl : ad274 = ad275 := (by injection e275)
                                  replace hx275_0 := (HB.out.cell (World.block_lt_of_cell? w _ hx275_0)).trans hx275_0
                                  replace hx275_1 := (HB.out.cell (World.block_lt_of_cell? w _ hx275_1)).trans hx275_1
                                  replace p275 := eq_true p275
                                  replace q275 := eq_true q275
                                  have p276 : 0 ≤ (t271 : Int) := of_decide_eq_true (by first | (with_reducible assumption) | assumption)
                                  have q276 : t271 < (l0.length : Int) := of_decide_eq_true (by first | (with_reducible assumption) | assumption)
                                  obtain ⟨ad276, e276, hx276_0, hx276_1⟩ := at_T36 HR0.out t271 p276 q276
                                  obtain rfl : ad274 = ad276 := (by injection e276)
                                  replace hx276_0 := (HB.out.cell (World.block_lt_of_cell? w _ hx276_0)).trans hx276_0
                                  replace hx276_1 := (HB.out.cell (World.block_lt_of_cell? w _ hx276_1)).trans hx276_1
                                  replace p276 := eq_true p276
                                  replace q276 := eq_true q276
                                  have p277 : 0 ≤ (x9_1 : Int) := of_decide_eq_true (by first | (with_reducible assumption) | assumption)
                                  have q277 : x9_1 < (l0.length : Int) := of_decide_eq_true (by first | (with_reducible assumption) | assumption)
                                  obtain ⟨ad277, e277, hx277_0, hx277_1⟩ := at_T36 HR0.out x9_1 p277 q277
                                  obtain rfl : ad274 = ad277 := (by injection e277)
                                  replace hx277_0 := (HB.out.cell (World.block_lt_of_cell? w _ hx277_0)).trans hx277_0
                                  replace hx277_1 := (HB.out.cell (World.block_lt_of_cell? w _ hx277_1)).trans hx277_1
                                  replace p277 := eq_true p277
                                  replace q277 := eq_true q277
                                  have p278 : 0 ≤ (t271 : Int) := of_decide_eq_true (by first | (with_reducible assumption) | assumption)
                                  have q278 : t271 < (l0.length : Int) := of_decide_eq_true (by first | (with_reducible assumption) | assumption)
                                  obtain ⟨ad278, e278, hx278_0, hx278_1⟩ := at_T36 HR0.out t271 p278 q278
                                  obtain rfl : ad274 = ad278 := (by injection e278)
                                  replace hx278_0 := (HB.out.cell (World.block_lt_of_cell? w _ hx278_0)).trans hx278_0
                                  replace hx278_1 := (HB.out.cell (World.block_lt_of_cell? w _ hx278_1)).trans hx278_1
                                  replace p278 := eq_true p278
                                  replace q278 := eq_true q278
                                  go_wp2
                                  repeat (go_quiet (fail); try go_wp2)
                                  go_roundg kj11
                                  case measure => have := HK1.out; have := HJ11.out; omega
                                  case rel => exact ⟨(wrap64 (x9_1 + 1)), (by first | rfl | (simp; done) | (simp [*]; done)), H', ⟨by have := HK1.out; have := HJ11.out; omega⟩, ⟨by repeat (first | (with_reducible first | exact HB.out | apply below_alloc | apply pw_below_drewN | apply below_drew1) | exact HB.out)⟩⟩
                            · rw [if_neg c22] at H
                              exact absurd H (by simp)
                          · rw [if_neg c21] at H
                            exact absurd H (by simp)
                        · rw [if_neg c20] at H
                          have c20b0 : decide ((wrap64 (a1)) ≤ ((rd_T36 l0 x9_1).f1)) = false := decide_eq_false c20
                          clear c20
                          have H' := Aside0.mk H
                          clear H
                          have p274 : 0 ≤ (x9_1 : Int) := of_decide_eq_true (by first | (with_reducible assumption) | assumption)
                          have q274 : x9_1 < (l0.length : Int) := of_decide_eq_true (by first | (with_reducible assumption) | assumption)
                          obtain ⟨ad274, e274, hx274_0, hx274_1⟩ := at_T36 HR0.out x9_1 p274 q274
                          cases e274
                          replace hx274_0 := (HB.out.cell (World.block_lt_of_cell? w _ hx274_0)).trans hx274_0
                          replace hx274_1 := (HB.out.cell (World.block_lt_of_cell? w _ hx274_1)).trans hx274_1
                          replace p274 := eq_true p274
                          replace q274 := eq_true q274
                          go_wp2
                          repeat (go_quiet (fail); try go_wp2)
                          go_roundg kj11
                          case measure => have := HK1.out; have := HJ11.out; omega
                          case rel => exact ⟨(wrap64 (x9_1 + 1)), (by first | rfl | (simp; done) | (simp [*]; done)), H', ⟨by have := HK1.out; have := HJ11.out; omega⟩, ⟨by repeat (first | (with_reducible first | exact HB.out | apply below_alloc | apply pw_below_drewN | apply below_drew1) | exact HB.out)⟩⟩
                      · rw [if_neg c19] at H
                        exact absurd H (by simp)
                    · rw [if_neg c18] at H
                      exact absurd H (by simp)
                  · rw [if_neg c17] at H
                    have c17b0 : decide (0 ≤ t271) = false := decide_eq_false c17
                    clear c17
                    have H' := Aside0.mk H
                    clear H
                    go_wp2
                    repeat (go_quiet (fail); try go_wp2)
                    go_roundg kj11
                    case measure => have := HK1.out; have := HJ11.out; omega
                    case rel => exact ⟨(wrap64 (x9_1 + 1)), (by first | rfl | (simp; done) | (simp [*]; done)), H', ⟨by have := HK1.out; have := HJ11.out; omega⟩, ⟨by repeat (first | (with_reducible first | exact HB.out | apply below_alloc | apply pw_below_drewN | apply below_drew1) | exact HB.out)⟩⟩
          · rw [if_neg c11] at H
            have c11b0 : decide (x9_1 < (l0.length : Int)) = false := decide_eq_false c11
            clear c11
            by_cases c26 : t271 < 0
            · rw [if_pos c26] at H
              have c26b0 : decide (t271 < 0) = true := decide_eq_true c26
              clear c26
              obtain rfl := Option.some.inj H
              go_wp2
              repeat (go_quiet (fail); try go_wp2)
              go_ret
              exact ⟨by first | rfl | (simp [errW_none, errW_some] <;> rfl) | (simp [*, errW_none, errW_some] <;> rfl), by repeat (first | (with_reducible first | exact HB.out | apply below_alloc | apply pw_below_drewN | apply below_drew1) | exact HB.out)⟩
            · rw [if_neg c26] at H
              have c26b0 : decide (t271 < 0) = false := decide_eq_false c26
              clear c26
              by_cases c27 : t271 < (l0.length : Int)
              · rw [if_pos c27] at H
                have c27b0 : decide (t271 < (l0.length : Int)) = true := decide_eq_true c27
                clear c27
                by_cases c28 : 0 ≤ t271
                · rw [if_pos c28] at H
                  have c28b0 : decide (0 ≤ t271) = true := decide_eq_true c28
                  clear c28
                  by_cases c29 : ((rd_T36 l0 t271).f1) ≥ (wrap64 (a1))
                  · rw [if_pos c29] at H
                    have c29b0 : decide ((wrap64 (a1)) ≤ ((rd_T36 l0 t271).f1)) = true := decide_eq_true c29
                    clear c29
                    obtain rfl := Option.some.inj H
                    have p272 : 0 ≤ (t271 : Int) := of_decide_eq_true (by first | (with_reducible assumption) | assumption)
                    have q272 : t271 < (l0.length : Int) := of_decide_eq_true (by first | (with_reducible assumption) | assumption)
                    obtain ⟨ad272, e272, hx272_0, hx272_1⟩ := at_T36 HR0.out t271 p272 q272
                    cases e272
                    replace hx272_0 := (HB.out.cell (World.block_lt_of_cell? w _ hx272_0)).trans hx272_0
                    replace hx272_1 := (HB.out.cell (World.block_lt_of_cell? w _ hx272_1)).trans hx272_1
                    replace p272 := eq_true p272
                    replace q272 := eq_true q272
                    go_wp2
                    repeat (go_quiet (fail); try go_wp2)
                    go_ret
                    exact ⟨by first | rfl | (simp [errW_none, errW_some] <;> rfl) | (simp [*, errW_none, errW_some] <;> rfl), by repeat (first | (with_reducible first | exact HB.out | apply below_alloc | apply pw_below_drewN | apply below_drew1) | exact HB.out)⟩
                  · rw [if_neg c29] at H
                    have c29b0 : decide ((wrap64 (a1)) ≤ ((rd_T36 l0 t271).f1)) = false := decide_eq_false c29
                    clear c29
                    obtain rfl := Option.some.inj H
                    have p272 : 0 ≤ (t271 : Int) := of_decide_eq_true (by first | (with_reducible assumption) | assumption)
                    have q272 : t271 < (l0.length : Int) := of_decide_eq_true (by first | (with_reducible assumption) | assumption)
                    obtain ⟨ad272, e272, hx272_0, hx272_1⟩ := at_T36 HR0.out t271 p272 q272
                    cases e272
                    replace hx272_0 := (HB.out.cell (World.block_lt_of_cell? w _ hx272_0)).trans hx272_0
                    replace hx272_1 := (HB.out.cell (World.block_lt_of_cell? w _ hx272_1)).trans hx272_1
                    replace p272 := eq_true p272
                    replace q272 := eq_true q272
                    go_wp2
                    repeat (go_quiet (fail); try go_wp2)
                    go_ret
                    exact ⟨by first | rfl | (simp [errW_none, errW_some] <;> rfl) | (simp [*, errW_none, errW_some] <;> rfl), by repeat (first | (with_reducible first | exact HB.out | apply below_alloc | apply pw_below_drewN | apply below_drew1) | exact HB.out)⟩
                · rw [if_neg c28] at H
                  exact absurd H (by simp)
              · rw [if_neg c27] at H
                have c27b0 : decide (t271 < (l0.length : Int)) = false := decide_eq_false c27
                clear c27
                obtain rfl := Option.some.inj H
                go_wp2
                repeat (go_quiet (fail); try go_wp2)
                go_ret
                exact ⟨by first | rfl | (simp [errW_none, errW_some] <;> rfl) | (simp [*, errW_none, errW_some] <;> rfl), by repeat (first | (with_reducible first | exact HB.out | apply below_alloc | apply pw_below_drewN | apply below_drew1) | exact HB.out)⟩
    · replace c6 := Bool.eq_false_iff.mpr c6
      subst c6
      have H1 : (some true) = some r := by rw [if_neg (show ¬ (false = true) by decide)] at H; exact H
      clear H
      have H := H1
      clear H1
      obtain rfl := Option.some.inj H
      go_enter Try.func8, Try.ntmps8
      go_wp2_with (first | (go_at_call 11; (with_reducible refine (steadinglaw05_awake.calls k  true _ A3.out).mono ?_); rintro e w30 ⟨rfl, hb⟩; have n0_ := Aside0.mk (below_step (by repeat (first | (with_reducible first | exact HB.out | apply below_alloc | apply pw_below_drewN | apply below_drew1) | exact HB.out)) hb); clear HB; have HB := n0_; clear n0_; (try clear hb); (try clear hb2); (try clear hk); (try clear hi)) | (go_at_call 14; (with_reducible refine (steadinglaw05_few.calls k _ _ l0 false _ ?side1 ?side2 A5.out).mono ?_); (case side1 => repeat (first | exact (Kd.C_below HR0.out HB.out) | (with_reducible refine Kd.C_alloc ?_ _) | (with_reducible refine Kd.C_drewN ?_ _) | (with_reducible refine Kd.C_drew ?_))); (case side2 => exact HC0.out); rintro e w31 ⟨rfl, hb⟩; have n0_ := Aside0.mk (below_step (by repeat (first | (with_reducible first | exact HB.out | apply below_alloc | apply pw_below_drewN | apply below_drew1) | exact HB.out)) hb); clear HB; have HB := n0_; clear n0_; (try clear hb); (try clear hb2); (try clear hk); (try clear hi)))
      repeat (go_quiet (first | (go_at_call 11; (with_reducible refine (steadinglaw05_awake.calls k  true _ A3.out).mono ?_); rintro e w30 ⟨rfl, hb⟩; have n0_ := Aside0.mk (below_step (by repeat (first | (with_reducible first | exact HB.out | apply below_alloc | apply pw_below_drewN | apply below_drew1) | exact HB.out)) hb); clear HB; have HB := n0_; clear n0_; (try clear hb); (try clear hb2); (try clear hk); (try clear hi)) | (go_at_call 14; (with_reducible refine (steadinglaw05_few.calls k _ _ l0 false _ ?side1 ?side2 A5.out).mono ?_); (case side1 => repeat (first | exact (Kd.C_below HR0.out HB.out) | (with_reducible refine Kd.C_alloc ?_ _) | (with_reducible refine Kd.C_drewN ?_ _) | (with_reducible refine Kd.C_drew ?_))); (case side2 => exact HC0.out); rintro e w31 ⟨rfl, hb⟩; have n0_ := Aside0.mk (below_step (by repeat (first | (with_reducible first | exact HB.out | apply below_alloc | apply pw_below_drewN | apply below_drew1) | exact HB.out)) hb); clear HB; have HB := n0_; clear n0_; (try clear hb); (try clear hb2); (try clear hk); (try clear hi))); try go_wp2_with (first | (go_at_call 11; (with_reducible refine (steadinglaw05_awake.calls k  true _ A3.out).mono ?_); rintro e w30 ⟨rfl, hb⟩; have n0_ := Aside0.mk (below_step (by repeat (first | (with_reducible first | exact HB.out | apply below_alloc | apply pw_below_drewN | apply below_drew1) | exact HB.out)) hb); clear HB; have HB := n0_; clear n0_; (try clear hb); (try clear hb2); (try clear hk); (try clear hi)) | (go_at_call 14; (with_reducible refine (steadinglaw05_few.calls k _ _ l0 false _ ?side1 ?side2 A5.out).mono ?_); (case side1 => repeat (first | exact (Kd.C_below HR0.out HB.out) | (with_reducible refine Kd.C_alloc ?_ _) | (with_reducible refine Kd.C_drewN ?_ _) | (with_reducible refine Kd.C_drew ?_))); (case side2 => exact HC0.out); rintro e w31 ⟨rfl, hb⟩; have n0_ := Aside0.mk (below_step (by repeat (first | (with_reducible first | exact HB.out | apply below_alloc | apply pw_below_drewN | apply below_drew1) | exact HB.out)) hb); clear HB; have HB := n0_; clear n0_; (try clear hb); (try clear hb2); (try clear hk); (try clear hi))))
      go_ret
      exact ⟨by first | rfl | (simp [errW_none, errW_some] <;> rfl) | (simp [*, errW_none, errW_some] <;> rfl), by repeat (first | (with_reducible first | exact HB.out | apply below_alloc | apply pw_below_drewN | apply below_drew1) | exact HB.out)⟩
  · replace c4 := Bool.eq_false_iff.mpr c4
    subst c4
    have H1 : (some false) = some r := by rw [if_neg (show ¬ (false = true) by decide)] at H; exact H
    clear H
    have H := H1
    clear H1
    obtain rfl := Option.some.inj H
    go_enter Try.func8, Try.ntmps8
    go_wp2_with (first | (go_at_call 11; (with_reducible refine (steadinglaw05_awake.calls k  false _ A3.out).mono ?_); rintro e w32 ⟨rfl, hb⟩; have n0_ := Aside0.mk (below_step (by repeat (first | (with_reducible first | exact HB.out | apply below_alloc | apply pw_below_drewN | apply below_drew1) | exact HB.out)) hb); clear HB; have HB := n0_; clear n0_; (try clear hb); (try clear hb2); (try clear hk); (try clear hi)))
    repeat (go_quiet (first | (go_at_call 11; (with_reducible refine (steadinglaw05_awake.calls k  false _ A3.out).mono ?_); rintro e w32 ⟨rfl, hb⟩; have n0_ := Aside0.mk (below_step (by repeat (first | (with_reducible first | exact HB.out | apply below_alloc | apply pw_below_drewN | apply below_drew1) | exact HB.out)) hb); clear HB; have HB := n0_; clear n0_; (try clear hb); (try clear hb2); (try clear hk); (try clear hi))); try go_wp2_with (first | (go_at_call 11; (with_reducible refine (steadinglaw05_awake.calls k  false _ A3.out).mono ?_); rintro e w32 ⟨rfl, hb⟩; have n0_ := Aside0.mk (below_step (by repeat (first | (with_reducible first | exact HB.out | apply below_alloc | apply pw_below_drewN | apply below_drew1) | exact HB.out)) hb); clear HB; have HB := n0_; clear n0_; (try clear hb); (try clear hb2); (try clear hk); (try clear hi))))
    go_ret
    exact ⟨by first | rfl | (simp [errW_none, errW_some] <;> rfl) | (simp [*, errW_none, errW_some] <;> rfl), by repeat (first | (with_reducible first | exact HB.out | apply below_alloc | apply pw_below_drewN | apply below_drew1) | exact HB.out)⟩

end Go.Proofs.Ytccjcaomhijgdaa.Rn
