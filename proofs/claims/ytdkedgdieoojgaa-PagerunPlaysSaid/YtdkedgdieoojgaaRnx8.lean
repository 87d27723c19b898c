-- Written by wip/mprint.py (a program of this session's, over the kit's print). Lean checks it.
import Derived.Test.YtdkedgdieoojgaaRnx0
namespace Go.Proofs.Ytdkedgdieoojgaa.Rn
open Go.RowKit Go.Proofs.YtdkedgdieoojgaaW.PrintWords Go.Proofs.YtdkedgdieoojgaaW.PrintLast Go.Proofs.YtdkedgdieoojgaaW.PrintMore
attribute [local go_sem] max2_int min2_int max_two min_two max_three min_three max_four min_four   -- for this text's walks alone
set_option linter.unusedVariables false
set_option linter.unusedSimpArgs false

/-! ### steadingref05_Has: function 38 -/
mutual
def steadingref05_Has.l0 : Nat → List (S51) → Int → Int → Int → Option (Bool)
  | 0, _, _, _, _ => none
  | k + 1, x0, x1, x2, x7 => if x7 < (x0.length : Int) then (steadingref05_Has.j1 k x0 x1 x2 x7 (decide (x2 > 0))) else (steadingref05_Has.j1 k x0 x1 x2 x7 false)
def steadingref05_Has.j1 : Nat → List (S51) → Int → Int → Int → Bool → Option (Bool)
  | 0, _, _, _, _, _ => none
  | k + 1, x0, x1, x2, x7, x17 => if x17 = true then (if 0 ≤ x7 then (if x7 < (x0.length : Int) then (if x1 ≥ 0 then (steadingref05_Has.j2 k x0 x1 x2 x7 (decide (x2 > (wrap64 (((rd_T51 x0 x7).f0) - x1)))) ((rd_T51 x0 x7).f0) ((rd_T51 x0 x7).f1)) else (steadingref05_Has.j2 k x0 x1 x2 x7 false ((rd_T51 x0 x7).f0) ((rd_T51 x0 x7).f1))) else (none)) else (none)) else (some false)
def steadingref05_Has.j2 : Nat → List (S51) → Int → Int → Int → Bool → Int → Int → Option (Bool)
  | 0, _, _, _, _, _, _, _ => none
  | k + 1, x0, x1, x2, x7, x9, x126000, x126001 => if x1 < 0 then (if x1 < (wrap64 (x126000 + x126001)) then (if (wrap64 (x1 + x2)) > x126000 then (some true) else (steadingref05_Has.l0 k x0 x1 x2 (wrap64 (x7 + 1)))) else (steadingref05_Has.l0 k x0 x1 x2 (wrap64 (x7 + 1)))) else (if x1 < (wrap64 (x126000 + x126001)) then (if x9 = true then (some true) else (steadingref05_Has.l0 k x0 x1 x2 (wrap64 (x7 + 1)))) else (steadingref05_Has.l0 k x0 x1 x2 (wrap64 (x7 + 1))))
end
def steadingref05_Has.f (k : Nat) (l0 : List (S51)) (a1 : Int) (a2 : Int) : Option (Bool) := steadingref05_Has.l0 k l0 a1 a2 0
theorem steadingref05_Has.mono_l : ∀ k, (∀ y0 y1 y2 y3, LeO (steadingref05_Has.l0 k y0 y1 y2 y3) (steadingref05_Has.l0 (k + 1) y0 y1 y2 y3)) ∧ (∀ y0 y1 y2 y3 y4, LeO (steadingref05_Has.j1 k y0 y1 y2 y3 y4) (steadingref05_Has.j1 (k + 1) y0 y1 y2 y3 y4)) ∧ (∀ y0 y1 y2 y3 y4 y5 y6, LeO (steadingref05_Has.j2 k y0 y1 y2 y3 y4 y5 y6) (steadingref05_Has.j2 (k + 1) y0 y1 y2 y3 y4 y5 y6))
  | 0 => ⟨fun _ _ _ _ r h => by simp [steadingref05_Has.l0] at h, fun _ _ _ _ _ r h => by simp [steadingref05_Has.j1] at h, fun _ _ _ _ _ _ _ r h => by simp [steadingref05_Has.j2] at h⟩
  | k + 1 => by
    obtain ⟨ih0, ih1, ih2⟩ := steadingref05_Has.mono_l k
    refine ⟨?_, ?_, ?_⟩
    · intro y0 y1 y2 y3
      unfold steadingref05_Has.l0
      repeat' first
      | (with_reducible exact ih0 _ _ _ _)
      | (with_reducible exact ih1 _ _ _ _ _)
      | (with_reducible exact ih2 _ _ _ _ _ _ _)
      | (with_reducible exact LeO.refl _)
      | (with_reducible exact LeO.none _)
      | (with_reducible refine LeO.ite ?_ ?_)
      | (with_reducible refine LeO.bind ?_ (fun _ => ?_))
      | exact ih0 _ _ _ _
      | exact ih1 _ _ _ _ _
      | exact ih2 _ _ _ _ _ _ _
      | exact LeO.none _
      | refine LeO.ite ?_ ?_
      | refine LeO.bind ?_ (fun _ => ?_)
    · intro y0 y1 y2 y3 y4
      unfold steadingref05_Has.j1
      repeat' first
      | (with_reducible exact ih0 _ _ _ _)
      | (with_reducible exact ih1 _ _ _ _ _)
      | (with_reducible exact ih2 _ _ _ _ _ _ _)
      | (with_reducible exact LeO.refl _)
      | (with_reducible exact LeO.none _)
      | (with_reducible refine LeO.ite ?_ ?_)
      | (with_reducible refine LeO.bind ?_ (fun _ => ?_))
      | exact ih0 _ _ _ _
      | exact ih1 _ _ _ _ _
      | exact ih2 _ _ _ _ _ _ _
      | exact LeO.none _
      | refine LeO.ite ?_ ?_
      | refine LeO.bind ?_ (fun _ => ?_)
    · intro y0 y1 y2 y3 y4 y5 y6
      unfold steadingref05_Has.j2
      repeat' first
      | (with_reducible exact ih0 _ _ _ _)
      | (with_reducible exact ih1 _ _ _ _ _)
      | (with_reducible exact ih2 _ _ _ _ _ _ _)
      | (with_reducible exact LeO.refl _)
      | (with_reducible exact LeO.none _)
      | (with_reducible refine LeO.ite ?_ ?_)
      | (with_reducible refine LeO.bind ?_ (fun _ => ?_))
      | exact ih0 _ _ _ _
      | exact ih1 _ _ _ _ _
      | exact ih2 _ _ _ _ _ _ _
      | exact LeO.none _
      | refine LeO.ite ?_ ?_
      | refine LeO.bind ?_ (fun _ => ?_)
theorem steadingref05_Has.mono : ∀ a0 a1 a2 k, LeO (steadingref05_Has.f k a0 a1 a2) (steadingref05_Has.f (k + 1) a0 a1 a2) := by
  intro a0 a1 a2 k
  obtain ⟨ih0, ih1, ih2⟩ := steadingref05_Has.mono_l k
  unfold steadingref05_Has.f
  repeat' first
      | (with_reducible exact ih0 _ _ _ _)
      | (with_reducible exact ih1 _ _ _ _ _)
      | (with_reducible exact ih2 _ _ _ _ _ _ _)
      | (with_reducible exact LeO.refl _)
      | (with_reducible exact LeO.none _)
      | (with_reducible refine LeO.ite ?_ ?_)
      | (with_reducible refine LeO.bind ?_ (fun _ => ?_))
      | exact ih0 _ _ _ _
      | exact ih1 _ _ _ _ _
      | exact ih2 _ _ _ _ _ _ _
      | exact LeO.none _
      | refine LeO.ite ?_ ?_
      | refine LeO.bind ?_ (fun _ => ?_)
set_option maxHeartbeats 8000000 in
set_option maxRecDepth 100000 in
theorem steadingref05_Has.calls (k : Nat) (A0 : Option Addr) (c0 : Nat) (l0 : List (S51)) (a1 : Int) (a2 : Int) (r : Bool) (w : World) (hr0 : Kd.C k51 w A0 l0.length l0) (hc0 : l0.length ≤ c0) (h : steadingref05_Has.f k l0 a1 a2 = some r) :
    Calls Try.prog 38 #[.slice A0 l0.length c0, .int .i64 a1, .int .i64 a2] w fun e w' => e = .returned (.bool r) ∧ Below w.heap.size w w' := by
  have hu51 := Try.underlying51
  have HR0 := Aside0.mk hr0
  have HC0 := Aside0.mk hc0
  clear hr0 hc0
  have HB := Aside0.mk (Below.refl w.heap.size w)
  have H : (steadingref05_Has.l0 k l0 a1 a2 0) = some r := h
  clear h
  have H' := Aside0.mk H
  clear H
  go_enter Try.func38, Try.ntmps38
  go_wp2
  go_loopg [7] k (fun kq v7 w' => ∃ (x7_1 : Int), v7 = .int .i64 x7_1 ∧ Aside0 (steadingref05_Has.l0 kq l0 a1 a2 x7_1 = some r) ∧ Aside0 (kq ≤ k) ∧ Aside0 (Below w.heap.size w w'))
  case atStart => exact ⟨(0), (by first | rfl | (simp; done) | (simp [*]; done)), H', ⟨Nat.le_refl _⟩, ⟨by repeat (first | (with_reducible first | exact HB.out | apply below_alloc | apply pw_below_drewN | apply below_drew1) | exact HB.out)⟩⟩
  case round =>
    clear H'
    try clear p2
    try clear c3
    obtain ⟨x7_1, rfl, HA, HK1, HB⟩ := hrel
    cases gk with
    | zero => exact absurd HA.out (by simp [steadingref05_Has.l0])
    | succ k1 =>
      have H := HA.out
      clear HA
      simp only [steadingref05_Has.l0] at H
      have HC4 := Aside0.mk H
      clear H
      go_upto_region 2 with (fail)
      go_cut [17] (fun v17 wc => ∃ (kq : Nat) (x17_3 : Bool), v17 = .bool x17_3 ∧ Aside0 (steadingref05_Has.j1 kq l0 a1 a2 x7_1 x17_3 = some r) ∧ Aside0 (kq ≤ k1) ∧ Aside0 (Below w.heap.size w wc))
      case first =>
        have H := HC4.out
        clear HC4
        by_cases c5 : x7_1 < (l0.length : Int)
        · rw [if_pos c5] at H
          have c5b0 : decide (x7_1 < (l0.length : Int)) = true := decide_eq_true c5
          clear c5
          (first | rw [c5b0] | (simp only [i64_w, i32_w]; rw [c5b0]) | skip)
          have H' := Aside0.mk H
          clear H
          go_wp2
          go_meet
          case rel => exact ⟨_, (decide (a2 > 0)), (by first | rfl | (simp; done) | (simp [*]; done)), H', ⟨by have := HK1.out; first | omega | exact Nat.le_refl _⟩, ⟨by repeat (first | (with_reducible first | exact HB.out | apply below_alloc | apply pw_below_drewN | apply below_drew1) | exact HB.out)⟩⟩
        · rw [if_neg c5] at H
          have c5b0 : decide (x7_1 < (l0.length : Int)) = false := decide_eq_false c5
          clear c5
          (first | rw [c5b0] | (simp only [i64_w, i32_w]; rw [c5b0]) | skip)
          have H' := Aside0.mk H
          clear H
          go_wp2
          go_meet
          case rel => exact ⟨_, (false), (by first | rfl | (simp; done) | (simp [*]; done)), H', ⟨by have := HK1.out; first | omega | exact Nat.le_refl _⟩, ⟨by repeat (first | (with_reducible first | exact HB.out | apply below_alloc | apply pw_below_drewN | apply below_drew1) | exact HB.out)⟩⟩
      case rest =>
        clear HC4
        try clear p2
        try clear c3
        try clear c5
        try clear c5b0
        try clear p2
        obtain ⟨kq, x17_3, rfl, HA, HJ3, HB⟩ := hcut
        cases kq with
        | zero => exact absurd HA.out (by simp [steadingref05_Has.j1])
        | succ kj3 =>
          have H := HA.out
          clear HA
          simp only [steadingref05_Has.j1] at H
          by_cases c6 : x17_3 = true
          · subst c6
            have H1 : (if 0 ≤ x7_1 then (if x7_1 < (l0.length : Int) then (if a1 ≥ 0 then (steadingref05_Has.j2 kj3 l0 a1 a2 x7_1 (decide (a2 > (wrap64 (((rd_T51 l0 x7_1).f0) - a1)))) ((rd_T51 l0 x7_1).f0) ((rd_T51 l0 x7_1).f1)) else (steadingref05_Has.j2 kj3 l0 a1 a2 x7_1 false ((rd_T51 l0 x7_1).f0) ((rd_T51 l0 x7_1).f1))) else (none)) else (none)) = some r := by rw [if_pos rfl] at H; exact H
            clear H
            have H := H1
            clear H1
            by_cases c7 : 0 ≤ x7_1
            · rw [if_pos c7] at H
              have c7b0 : decide (0 ≤ x7_1) = true := decide_eq_true c7
              clear c7
              by_cases c8 : x7_1 < (l0.length : Int)
              · rw [if_pos c8] at H
                have c8b0 : decide (x7_1 < (l0.length : Int)) = true := decide_eq_true c8
                clear c8
                have HC9 := Aside0.mk H
                clear H
                have p124 : 0 ≤ (x7_1 : Int) := of_decide_eq_true (by first | (with_reducible assumption) | assumption)
                have q124 : x7_1 < (l0.length : Int) := of_decide_eq_true (by first | (with_reducible assumption) | assumption)
                obtain ⟨ad124, e124, hx124_0, hx124_1⟩ := at_T51 HR0.out x7_1 p124 q124
                cases e124
                replace hx124_0 := (HB.out.cell (World.block_lt_of_cell? w _ hx124_0)).trans hx124_0
                replace hx124_1 := (HB.out.cell (World.block_lt_of_cell? w _ hx124_1)).trans hx124_1
                replace p124 := eq_true p124
                replace q124 := eq_true q124
                go_upto_region 5 with (first | ((with_reducible refine gate_dst (N := 8) rfl ?_); refine box_event ?hg (N := 8) ?hd (cs := #[.int .i64 0, .int .i64 0]) (t := 51) ?hr ?_; (case hd => rfl); (case hg => rfl); (case hr => first | (go_simp; done) | (go_simp; rfl)); intro gb125 hg w10 hbox hb; have n0_ := Aside0.mk (below_step (by repeat (first | (with_reducible first | exact HB.out | apply below_alloc | apply pw_below_drewN | apply below_drew1) | exact HB.out)) hb); have n1_ := Aside0.mk (hbox); have n2_ := Aside0.mk ((by rw [hg]; exact (below_size (by repeat (first | (with_reducible first | exact HB.out | apply below_alloc | apply pw_below_drewN | apply below_drew1) | exact HB.out))) : w.heap.size ≤ gb125)); have n3_ := Aside0.mk ((by rw [hg]; exact (below_size (by repeat (first | (with_reducible first | exact HB.out | apply below_alloc | apply pw_below_drewN | apply below_drew1) | exact HB.out))) : w.heap.size ≤ gb125)); clear HB; have HB := n0_; have BK125 := n1_; have GW125 := n2_; have GE125 := n3_; clear n0_ n1_ n2_ n3_; clear hb hbox hg; have hcz11_0 : w10.cell? ⟨gb125, 0, none⟩ = some (.int .i64 0) := (blk_cell BK125.out 0).trans rfl; have hcz11_1 : w10.cell? ⟨gb125, 1, none⟩ = some (.int .i64 0) := (blk_cell BK125.out 1).trans rfl; have hfz11_0 := blk_frozen BK125.out 0; have hfz11_1 := blk_frozen BK125.out 1))
                (try simp only [Act.put, List.setIfInBounds_toArray, List.set_cons_zero, List.set_cons_succ])
                go_cut [9] (fun v9 wc => ∃ (kq : Nat) (x9_8 : Bool), v9 = .bool x9_8 ∧ Aside0 (steadingref05_Has.j2 kq l0 a1 a2 x7_1 x9_8 ((rd_T51 l0 x7_1).f0) ((rd_T51 l0 x7_1).f1) = some r) ∧ Aside0 (kq ≤ kj3) ∧ Aside0 (wc.heap[gb125]? = some (.cells #[.int .i64 ((rd_T51 l0 x7_1).f0), .int .i64 ((rd_T51 l0 x7_1).f1)] 51 (0, 0))) ∧ Aside0 (Below w.heap.size w wc))
                case first =>
                  have H := HC9.out
                  clear HC9
                  by_cases c12 : a1 ≥ 0
                  · rw [if_pos c12] at H
                    have c12b0 : decide (0 ≤ a1) = true := decide_eq_true c12
                    clear c12
                    (first | rw [c12b0] | (simp only [i64_w, i32_w]; rw [c12b0]) | skip)
                    have H' := Aside0.mk H
                    clear H
                    have hcz13_0 : w10.cell? ⟨gb125, 0, none⟩ = some (.int .i64 0) := (blk_cell BK125.out 0).trans rfl
                    have hcz13_1 : w10.cell? ⟨gb125, 1, none⟩ = some (.int .i64 0) := (blk_cell BK125.out 1).trans rfl
                    have hfz13_0 := blk_frozen BK125.out 0
                    have hfz13_1 := blk_frozen BK125.out 1
                    go_wp2
                    go_meet
                    case rel => exact ⟨_, (decide (a2 > (wrap64 (((rd_T51 l0 x7_1).f0) - a1)))), (by first | rfl | (simp; done) | (simp [*]; done)), H', ⟨by have := HK1.out; have := HJ3.out; first | omega | exact Nat.le_refl _⟩, ⟨by (with_reducible repeat (first | refine blk_drewN ?_ _ | refine blk_drew ?_ | refine blk_alloc ?_ _)); refine blk_put (cs := #[.int .i64 ((rd_T51 l0 x7_1).f0), .int .i64 0]) ?_ 1 _ rfl; (with_reducible repeat (first | refine blk_drewN ?_ _ | refine blk_drew ?_ | refine blk_alloc ?_ _)); refine blk_put (cs := #[.int .i64 0, .int .i64 0]) ?_ 0 _ rfl; (with_reducible repeat (first | refine blk_drewN ?_ _ | refine blk_drew ?_ | refine blk_alloc ?_ _)); exact BK125.out⟩, ⟨by repeat (first | (with_reducible first | exact HB.out | apply below_alloc | apply pw_below_drewN | apply below_drew1 | refine below_set ?_ GE125.out) | exact HB.out)⟩⟩
                  · rw [if_neg c12] at H
                    have c12b0 : decide (0 ≤ a1) = false := decide_eq_false c12
                    clear c12
                    (first | rw [c12b0] | (simp only [i64_w, i32_w]; rw [c12b0]) | skip)
                    have H' := Aside0.mk H
                    clear H
                    go_wp2
                    go_meet
                    case rel => exact ⟨_, (false), (by first | rfl | (simp; done) | (simp [*]; done)), H', ⟨by have := HK1.out; have := HJ3.out; first | omega | exact Nat.le_refl _⟩, ⟨by (with_reducible repeat (first | refine blk_drewN ?_ _ | refine blk_drew ?_ | refine blk_alloc ?_ _)); refine blk_put (cs := #[.int .i64 ((rd_T51 l0 x7_1).f0), .int .i64 0]) ?_ 1 _ rfl; (with_reducible repeat (first | refine blk_drewN ?_ _ | refine blk_drew ?_ | refine blk_alloc ?_ _)); refine blk_put (cs := #[.int .i64 0, .int .i64 0]) ?_ 0 _ rfl; (with_reducible repeat (first | refine blk_drewN ?_ _ | refine blk_drew ?_ | refine blk_alloc ?_ _)); exact BK125.out⟩, ⟨by repeat (first | (with_reducible first | exact HB.out | apply below_alloc | apply pw_below_drewN | apply below_drew1 | refine below_set ?_ GE125.out) | exact HB.out)⟩⟩
                case rest =>
                  clear HC9
                  try clear c1
                  try clear p1
                  try clear q1
                  try clear hx1
                  try clear p2
                  try clear c3
                  try clear c5
                  try clear c5b0
                  try clear c6
                  try clear p6
                  try clear c7
                  try clear c7b0
                  try clear c8
                  try clear c8b0
                  try clear c12
                  try clear c12b0
                  try clear p12
                  try clear q12
                  try clear hx12
                  try clear hcz11_0
                  try clear hcz11_1
                  try clear hcz13_0
                  try clear hcz13_1
                  try clear hfz11_0
                  try clear hfz11_1
                  try clear hfz13_0
                  try clear hfz13_1
                  try clear hx124_0
                  try clear hx124_1
                  try clear p124
                  try clear p2
                  try clear q124
                  obtain ⟨kq, x9_8, rfl, HA, HJ8, BK125, HB⟩ := hcut
                  cases kq with
                  | zero => exact absurd HA.out (by simp [steadingref05_Has.j2])
                  | succ kj8 =>
                    have H := HA.out
                    clear HA
                    simp only [steadingref05_Has.j2] at H
                    by_cases c14 : a1 < 0
                    · rw [if_pos c14] at H
                      have c14b0 : decide (a1 < 0) = true := decide_eq_true c14
                      clear c14
                      by_cases c15 : a1 < (wrap64 (((rd_T51 l0 x7_1).f0) + ((rd_T51 l0 x7_1).f1)))
                      · rw [if_pos c15] at H
                        have c15b0 : decide (a1 < (wrap64 (((rd_T51 l0 x7_1).f0) + ((rd_T51 l0 x7_1).f1)))) = true := decide_eq_true c15
                        clear c15
                        by_cases c16 : (wrap64 (a1 + a2)) > ((rd_T51 l0 x7_1).f0)
                        · rw [if_pos c16] at H
                          have c16b0 : decide (((rd_T51 l0 x7_1).f0) < (wrap64 (a1 + a2))) = true := decide_eq_true c16
                          clear c16
                          obtain rfl := Option.some.inj H
                          have hcz17_0 : wc.cell? ⟨gb125, 0, none⟩ = some (.int .i64 ((rd_T51 l0 x7_1).f0)) := (blk_cell BK125.out 0).trans rfl
                          have hcz17_1 : wc.cell? ⟨gb125, 1, none⟩ = some (.int .i64 ((rd_T51 l0 x7_1).f1)) := (blk_cell BK125.out 1).trans rfl
                          have hfz17_0 := blk_frozen BK125.out 0
                          have hfz17_1 := blk_frozen BK125.out 1
                          go_wp2
                          go_ret
                          exact ⟨by first | rfl | (simp [errW_none, errW_some] <;> rfl) | (simp [*, errW_none, errW_some] <;> rfl), by repeat (first | (with_reducible first | exact HB.out | apply below_alloc | apply pw_below_drewN | apply below_drew1 | refine below_set ?_ GE125.out) | exact HB.out)⟩
                        · rw [if_neg c16] at H
                          have c16b0 : decide (((rd_T51 l0 x7_1).f0) < (wrap64 (a1 + a2))) = false := decide_eq_false c16
                          clear c16
                          have H' := Aside0.mk H
                          clear H
                          have hcz18_0 : wc.cell? ⟨gb125, 0, none⟩ = some (.int .i64 ((rd_T51 l0 x7_1).f0)) := (blk_cell BK125.out 0).trans rfl
                          have hcz18_1 : wc.cell? ⟨gb125, 1, none⟩ = some (.int .i64 ((rd_T51 l0 x7_1).f1)) := (blk_cell BK125.out 1).trans rfl
                          have hfz18_0 := blk_frozen BK125.out 0
                          have hfz18_1 := blk_frozen BK125.out 1
                          go_wp2
                          go_roundg kj8
                          case measure => have := HK1.out; have := HJ3.out; have := HJ8.out; omega
                          case rel => exact ⟨(wrap64 (x7_1 + 1)), (by first | rfl | (simp; done) | (simp [*]; done)), H', ⟨by have := HK1.out; have := HJ3.out; have := HJ8.out; omega⟩, ⟨by repeat (first | (with_reducible first | exact HB.out | apply below_alloc | apply pw_below_drewN | apply below_drew1 | refine below_set ?_ GE125.out) | exact HB.out)⟩⟩
                      · rw [if_neg c15] at H
                        have c15b0 : decide (a1 < (wrap64 (((rd_T51 l0 x7_1).f0) + ((rd_T51 l0 x7_1).f1)))) = false := decide_eq_false c15
                        clear c15
                        have H' := Aside0.mk H
                        clear H
                        have hcz19_0 : wc.cell? ⟨gb125, 0, none⟩ = some (.int .i64 ((rd_T51 l0 x7_1).f0)) := (blk_cell BK125.out 0).trans rfl
                        have hcz19_1 : wc.cell? ⟨gb125, 1, none⟩ = some (.int .i64 ((rd_T51 l0 x7_1).f1)) := (blk_cell BK125.out 1).trans rfl
                        have hfz19_0 := blk_frozen BK125.out 0
                        have hfz19_1 := blk_frozen BK125.out 1
                        go_wp2
                        go_roundg kj8
                        case measure => have := HK1.out; have := HJ3.out; have := HJ8.out; omega
                        case rel => exact ⟨(wrap64 (x7_1 + 1)), (by first | rfl | (simp; done) | (simp [*]; done)), H', ⟨by have := HK1.out; have := HJ3.out; have := HJ8.out; omega⟩, ⟨by repeat (first | (with_reducible first | exact HB.out | apply below_alloc | apply pw_below_drewN | apply below_drew1 | refine below_set ?_ GE125.out) | exact HB.out)⟩⟩
                    · rw [if_neg c14] at H
                      have c14b0 : decide (a1 < 0) = false := decide_eq_false c14
                      clear c14
                      by_cases c20 : a1 < (wrap64 (((rd_T51 l0 x7_1).f0) + ((rd_T51 l0 x7_1).f1)))
                      · rw [if_pos c20] at H
                        have c20b0 : decide (a1 < (wrap64 (((rd_T51 l0 x7_1).f0) + ((rd_T51 l0 x7_1).f1)))) = true := decide_eq_true c20
                        clear c20
                        by_cases c21 : x9_8 = true
                        · subst c21
                          have H1 : (some true) = some r := by rw [if_pos rfl] at H; exact H
                          clear H
                          have H := H1
                          clear H1
                          obtain rfl := Option.some.inj H
                          have hcz22_0 : wc.cell? ⟨gb125, 0, none⟩ = some (.int .i64 ((rd_T51 l0 x7_1).f0)) := (blk_cell BK125.out 0).trans rfl
                          have hcz22_1 : wc.cell? ⟨gb125, 1, none⟩ = some (.int .i64 ((rd_T51 l0 x7_1).f1)) := (blk_cell BK125.out 1).trans rfl
                          have hfz22_0 := blk_frozen BK125.out 0
                          have hfz22_1 := blk_frozen BK125.out 1
                          go_wp2
                          go_ret
                          exact ⟨by first | rfl | (simp [errW_none, errW_some] <;> rfl) | (simp [*, errW_none, errW_some] <;> rfl), by repeat (first | (with_reducible first | exact HB.out | apply below_alloc | apply pw_below_drewN | apply below_drew1 | refine below_set ?_ GE125.out) | exact HB.out)⟩
                        · replace c21 := Bool.eq_false_iff.mpr c21
                          subst c21
                          have H1 : (steadingref05_Has.l0 kj8 l0 a1 a2 (wrap64 (x7_1 + 1))) = some r := by rw [if_neg (show ¬ (false = true) by decide)] at H; exact H
                          clear H
                          have H := H1
                          clear H1
                          have H' := Aside0.mk H
                          clear H
                          have hcz23_0 : wc.cell? ⟨gb125, 0, none⟩ = some (.int .i64 ((rd_T51 l0 x7_1).f0)) := (blk_cell BK125.out 0).trans rfl
                          have hcz23_1 : wc.cell? ⟨gb125, 1, none⟩ = some (.int .i64 ((rd_T51 l0 x7_1).f1)) := (blk_cell BK125.out 1).trans rfl
                          have hfz23_0 := blk_frozen BK125.out 0
                          have hfz23_1 := blk_frozen BK125.out 1
                          go_wp2
                          go_roundg kj8
                          case measure => have := HK1.out; have := HJ3.out; have := HJ8.out; omega
                          case rel => exact ⟨(wrap64 (x7_1 + 1)), (by first | rfl | (simp; done) | (simp [*]; done)), H', ⟨by have := HK1.out; have := HJ3.out; have := HJ8.out; omega⟩, ⟨by repeat (first | (with_reducible first | exact HB.out | apply below_alloc | apply pw_below_drewN | apply below_drew1 | refine below_set ?_ GE125.out) | exact HB.out)⟩⟩
                      · rw [if_neg c20] at H
                        have c20b0 : decide (a1 < (wrap64 (((rd_T51 l0 x7_1).f0) + ((rd_T51 l0 x7_1).f1)))) = false := decide_eq_false c20
                        clear c20
                        have H' := Aside0.mk H
                        clear H
                        have hcz24_0 : wc.cell? ⟨gb125, 0, none⟩ = some (.int .i64 ((rd_T51 l0 x7_1).f0)) := (blk_cell BK125.out 0).trans rfl
                        have hcz24_1 : wc.cell? ⟨gb125, 1, none⟩ = some (.int .i64 ((rd_T51 l0 x7_1).f1)) := (blk_cell BK125.out 1).trans rfl
                        have hfz24_0 := blk_frozen BK125.out 0
                        have hfz24_1 := blk_frozen BK125.out 1
                        go_wp2
                        go_roundg kj8
                        case measure => have := HK1.out; have := HJ3.out; have := HJ8.out; omega
                        case rel => exact ⟨(wrap64 (x7_1 + 1)), (by first | rfl | (simp; done) | (simp [*]; done)), H', ⟨by have := HK1.out; have := HJ3.out; have := HJ8.out; omega⟩, ⟨by repeat (first | (with_reducible first | exact HB.out | apply below_alloc | apply pw_below_drewN | apply below_drew1 | refine below_set ?_ GE125.out) | exact HB.out)⟩⟩
              · rw [if_neg c8] at H
                exact absurd H (by simp)
            · rw [if_neg c7] at H
              exact absurd H (by simp)
          · replace c6 := Bool.eq_false_iff.mpr c6
            subst c6
            have H1 : (some false) = some r := by rw [if_neg (show ¬ (false = true) by decide)] at H; exact H
            clear H
            have H := H1
            clear H1
            obtain rfl := Option.some.inj H
            go_wp2
            go_ret
            exact ⟨by first | rfl | (simp [errW_none, errW_some] <;> rfl) | (simp [*, errW_none, errW_some] <;> rfl), by repeat (first | (with_reducible first | exact HB.out | apply below_alloc | apply pw_below_drewN | apply below_drew1) | exact HB.out)⟩

end Go.Proofs.Ytdkedgdieoojgaa.Rn
