-- Written by wip/mprint.py (a program of this session's, over the kit's print). Lean checks it.
import Derived.Test.YtdkedgdieoojgaaRnx0
namespace Go.Proofs.Ytdkedgdieoojgaa.Rn
open Go.RowKit Go.Proofs.YtdkedgdieoojgaaW.PrintWords Go.Proofs.YtdkedgdieoojgaaW.PrintLast Go.Proofs.YtdkedgdieoojgaaW.PrintMore
attribute [local go_sem] max2_int min2_int max_two min_two max_three min_three max_four min_four   -- for this text's walks alone
set_option linter.unusedVariables false
set_option linter.unusedSimpArgs false

/-! ### steadingref06_Largest: function 21 -/
def steadingref06_Largest.l0 : Nat → Int → Int → Int → List (S51) → Int → Option (Int)
  | 0, _, _, _, _, _ => none
  | k + 1, x3, x4, x189000, x189001, x189002 => if x4 < (x189001.length : Int) then (if 0 ≤ x4 then (if ((rd_T51 x189001 x4).f1) > x3 then (steadingref06_Largest.l0 k ((rd_T51 x189001 x4).f1) (wrap64 (x4 + 1)) x189000 x189001 x189002) else (steadingref06_Largest.l0 k x3 (wrap64 (x4 + 1)) x189000 x189001 x189002)) else (none)) else (some x3)
def steadingref06_Largest.f (k : Nat) (a0_0 : Int) (l0_1 : List (S51)) (a0_2 : Int) : Option (Int) := steadingref06_Largest.l0 k 0 0 a0_0 l0_1 a0_2
theorem steadingref06_Largest.mono_l : ∀ k, (∀ y0 y1 y2 y3 y4, LeO (steadingref06_Largest.l0 k y0 y1 y2 y3 y4) (steadingref06_Largest.l0 (k + 1) y0 y1 y2 y3 y4))
  | 0 => fun _ _ _ _ _ r h => by simp [steadingref06_Largest.l0] at h
  | k + 1 => by
    have ih0 := steadingref06_Largest.mono_l k
    · intro y0 y1 y2 y3 y4
      unfold steadingref06_Largest.l0
      repeat' first
      | (with_reducible exact ih0 _ _ _ _ _)
      | (with_reducible exact LeO.refl _)
      | (with_reducible exact LeO.none _)
      | (with_reducible refine LeO.ite ?_ ?_)
      | (with_reducible refine LeO.bind ?_ (fun _ => ?_))
      | exact ih0 _ _ _ _ _
      | exact LeO.none _
      | refine LeO.ite ?_ ?_
      | refine LeO.bind ?_ (fun _ => ?_)
theorem steadingref06_Largest.mono : ∀ a0 a1 a2 k, LeO (steadingref06_Largest.f k a0 a1 a2) (steadingref06_Largest.f (k + 1) a0 a1 a2) := by
  intro a0 a1 a2 k
  have ih0 := steadingref06_Largest.mono_l k
  unfold steadingref06_Largest.f
  repeat' first
      | (with_reducible exact ih0 _ _ _ _ _)
      | (with_reducible exact LeO.refl _)
      | (with_reducible exact LeO.none _)
      | (with_reducible refine LeO.ite ?_ ?_)
      | (with_reducible refine LeO.bind ?_ (fun _ => ?_))
      | exact ih0 _ _ _ _ _
      | exact LeO.none _
      | refine LeO.ite ?_ ?_
      | refine LeO.bind ?_ (fun _ => ?_)
set_option maxHeartbeats 8000000 in
set_option maxRecDepth 100000 in
theorem steadingref06_Largest.calls (k : Nat) (a0_0 : Int) (A0_1 : Option Addr) (c0_1 : Nat) (l0_1 : List (S51)) (a0_2 : Int) (r : Int) (w : World) (hr0_1 : Kd.C k51 w A0_1 l0_1.length l0_1) (hc0_1 : l0_1.length ≤ c0_1) (h : steadingref06_Largest.f k a0_0 l0_1 a0_2 = some r) :
    Calls Try.prog 21 #[.agg #[.int .i64 a0_0, .slice A0_1 l0_1.length c0_1, .int .i64 a0_2]] w fun e w' => e = .returned (.int .i64 r) ∧ Below w.heap.size w w' := by
  have hu40 := Try.underlying40
  have HR0_1 := Aside0.mk hr0_1
  have HC0_1 := Aside0.mk hc0_1
  clear hr0_1 hc0_1
  have HB := Aside0.mk (Below.refl w.heap.size w)
  have H : (steadingref06_Largest.l0 k 0 0 a0_0 l0_1 a0_2) = some r := h
  clear h
  have H' := Aside0.mk H
  clear H
  go_enter Try.func21, Try.ntmps21
  go_wp2_with (first | ((with_reducible refine gate_dst (N := 1) rfl ?_); refine box_event ?hg (N := 1) ?hd (cs := #[.int .i64 a0_0, .slice A0_1 l0_1.length c0_1, .int .i64 a0_2]) (t := 40) ?hr ?_; (case hd => rfl); (case hg => rfl); (case hr => first | (go_simp; done) | (go_simp; rfl)); intro gb188 hg w2 hbox hb; have n0_ := Aside0.mk (below_step (by repeat (first | (with_reducible first | exact HB.out | apply below_alloc | apply pw_below_drewN | apply below_drew1) | exact HB.out)) hb); have n1_ := Aside0.mk (hbox); have n2_ := Aside0.mk ((by rw [hg]; exact (below_size (by repeat (first | (with_reducible first | exact HB.out | apply below_alloc | apply pw_below_drewN | apply below_drew1) | exact HB.out))) : w.heap.size ≤ gb188)); have n3_ := Aside0.mk ((by rw [hg]; exact (below_size (by repeat (first | (with_reducible first | exact HB.out | apply below_alloc | apply pw_below_drewN | apply below_drew1) | exact HB.out))) : w.heap.size ≤ gb188)); clear HB; have HB := n0_; have BK188 := n1_; have GW188 := n2_; have GE188 := n3_; clear n0_ n1_ n2_ n3_; clear hb hbox hg))
  go_loopg [3, 4] k (fun kq v3 v4 w' => ∃ (x3_1 : Int) (x4_1 : Int), v3 = .int .i64 x3_1 ∧ v4 = .int .i64 x4_1 ∧ Aside0 (steadingref06_Largest.l0 kq x3_1 x4_1 a0_0 l0_1 a0_2 = some r) ∧ Aside0 (kq ≤ k) ∧ Aside0 (w'.heap[gb188]? = some (.cells #[.int .i64 a0_0, (.slice A0_1 l0_1.length c0_1), .int .i64 a0_2] 40 (0, 0))) ∧ Aside0 (Below w.heap.size w w'))
  case atStart => exact ⟨(0), (0), (by first | rfl | (simp; done) | (simp [*]; done)), (by first | rfl | (simp; done) | (simp [*]; done)), H', ⟨Nat.le_refl _⟩, ⟨by (with_reducible repeat (first | refine blk_drewN ?_ _ | refine blk_drew ?_ | refine blk_alloc ?_ _)); exact BK188.out⟩, ⟨by repeat (first | (with_reducible first | exact HB.out | apply below_alloc | apply pw_below_drewN | apply below_drew1 | refine below_set ?_ GE188.out) | exact HB.out)⟩⟩
  case round =>
    clear H'
    try clear c2
    try clear p2
    obtain ⟨x3_1, x4_1, rfl, rfl, HA, HK1, BK188, HB⟩ := hrel
    cases gk with
    | zero => exact absurd HA.out (by simp [steadingref06_Largest.l0])
    | succ k1 =>
      have H := HA.out
      clear HA
      simp only [steadingref06_Largest.l0] at H
      by_cases c3 : x4_1 < (l0_1.length : Int)
      · rw [if_pos c3] at H
        have c3b0 : decide (x4_1 < (l0_1.length : Int)) = true := decide_eq_true c3
        clear c3
        by_cases c4 : 0 ≤ x4_1
        · rw [if_pos c4] at H
          have c4b0 : decide (0 ≤ x4_1) = true := decide_eq_true c4
          clear c4
          by_cases c5 : ((rd_T51 l0_1 x4_1).f1) > x3_1
          · rw [if_pos c5] at H
            have c5b0 : decide (x3_1 < ((rd_T51 l0_1 x4_1).f1)) = true := decide_eq_true c5
            clear c5
            have H' := Aside0.mk H
            clear H
            have hcz6_0 : wr.cell? ⟨gb188, 0, none⟩ = some (.int .i64 a0_0) := (blk_cell BK188.out 0).trans rfl
            have hcz6_1 : wr.cell? ⟨gb188, 1, none⟩ = some (.slice A0_1 l0_1.length c0_1) := (blk_cell BK188.out 1).trans rfl
            have hcz6_2 : wr.cell? ⟨gb188, 2, none⟩ = some (.int .i64 a0_2) := (blk_cell BK188.out 2).trans rfl
            have hfz6_0 := blk_frozen BK188.out 0
            have hfz6_1 := blk_frozen BK188.out 1
            have hfz6_2 := blk_frozen BK188.out 2
            have p189 : 0 ≤ (x4_1 : Int) := of_decide_eq_true (by first | (with_reducible assumption) | assumption)
            have q189 : x4_1 < (l0_1.length : Int) := of_decide_eq_true (by first | (with_reducible assumption) | assumption)
            obtain ⟨ad189, e189, hx189_0, hx189_1⟩ := at_T51 HR0_1.out x4_1 p189 q189
            cases e189
            replace hx189_0 := (HB.out.cell (World.block_lt_of_cell? w _ hx189_0)).trans hx189_0
            replace hx189_1 := (HB.out.cell (World.block_lt_of_cell? w _ hx189_1)).trans hx189_1
            replace p189 := eq_true p189
            replace q189 := eq_true q189
            have p190 : 0 ≤ (x4_1 : Int) := of_decide_eq_true (by first | (with_reducible assumption) | assumption)
            have q190 : x4_1 < (l0_1.length : Int) := of_decide_eq_true (by first | (with_reducible assumption) | assumption)
            obtain ⟨ad190, e190, hx190_0, hx190_1⟩ := at_T51 HR0_1.out x4_1 p190 q190
            obtain rfl : ad189 = ad190 := (by injection e190)
            replace hx190_0 := (HB.out.cell (World.block_lt_of_cell? w _ hx190_0)).trans hx190_0
            replace hx190_1 := (HB.out.cell (World.block_lt_of_cell? w _ hx190_1)).trans hx190_1
            replace p190 := eq_true p190
            replace q190 := eq_true q190
            go_wp2
            go_roundg k1
            case measure => have := HK1.out; omega
            case rel => exact ⟨((rd_T51 l0_1 x4_1).f1), (wrap64 (x4_1 + 1)), (by first | rfl | (simp; done) | (simp [*]; done)), (by first | rfl | (simp; done) | (simp [*]; done)), H', ⟨by have := HK1.out; omega⟩, ⟨by (with_reducible repeat (first | refine blk_drewN ?_ _ | refine blk_drew ?_ | refine blk_alloc ?_ _)); exact BK188.out⟩, ⟨by repeat (first | (with_reducible first | exact HB.out | apply below_alloc | apply pw_below_drewN | apply below_drew1 | refine below_set ?_ GE188.out) | exact HB.out)⟩⟩
          · rw [if_neg c5] at H
            have c5b0 : decide (x3_1 < ((rd_T51 l0_1 x4_1).f1)) = false := decide_eq_false c5
            clear c5
            have H' := Aside0.mk H
            clear H
            have hcz7_0 : wr.cell? ⟨gb188, 0, none⟩ = some (.int .i64 a0_0) := (blk_cell BK188.out 0).trans rfl
            have hcz7_1 : wr.cell? ⟨gb188, 1, none⟩ = some (.slice A0_1 l0_1.length c0_1) := (blk_cell BK188.out 1).trans rfl
            have hcz7_2 : wr.cell? ⟨gb188, 2, none⟩ = some (.int .i64 a0_2) := (blk_cell BK188.out 2).trans rfl
            have hfz7_0 := blk_frozen BK188.out 0
            have hfz7_1 := blk_frozen BK188.out 1
            have hfz7_2 := blk_frozen BK188.out 2
            have p189 : 0 ≤ (x4_1 : Int) := of_decide_eq_true (by first | (with_reducible assumption) | assumption)
            have q189 : x4_1 < (l0_1.length : Int) := of_decide_eq_true (by first | (with_reducible assumption) | assumption)
            obtain ⟨ad189, e189, hx189_0, hx189_1⟩ := at_T51 HR0_1.out x4_1 p189 q189
            cases e189
            replace hx189_0 := (HB.out.cell (World.block_lt_of_cell? w _ hx189_0)).trans hx189_0
            replace hx189_1 := (HB.out.cell (World.block_lt_of_cell? w _ hx189_1)).trans hx189_1
            replace p189 := eq_true p189
            replace q189 := eq_true q189
            go_wp2
            go_roundg k1
            case measure => have := HK1.out; omega
            case rel => exact ⟨(x3_1), (wrap64 (x4_1 + 1)), (by first | rfl | (simp; done) | (simp [*]; done)), (by first | rfl | (simp; done) | (simp [*]; done)), H', ⟨by have := HK1.out; omega⟩, ⟨by (with_reducible repeat (first | refine blk_drewN ?_ _ | refine blk_drew ?_ | refine blk_alloc ?_ _)); exact BK188.out⟩, ⟨by repeat (first | (with_reducible first | exact HB.out | apply below_alloc | apply pw_below_drewN | apply below_drew1 | refine below_set ?_ GE188.out) | exact HB.out)⟩⟩
        · rw [if_neg c4] at H
          exact absurd H (by simp)
      · rw [if_neg c3] at H
        have c3b0 : decide (x4_1 < (l0_1.length : Int)) = false := decide_eq_false c3
        clear c3
        obtain rfl := Option.some.inj H
        have hcz8_0 : wr.cell? ⟨gb188, 0, none⟩ = some (.int .i64 a0_0) := (blk_cell BK188.out 0).trans rfl
        have hcz8_1 : wr.cell? ⟨gb188, 1, none⟩ = some (.slice A0_1 l0_1.length c0_1) := (blk_cell BK188.out 1).trans rfl
        have hcz8_2 : wr.cell? ⟨gb188, 2, none⟩ = some (.int .i64 a0_2) := (blk_cell BK188.out 2).trans rfl
        have hfz8_0 := blk_frozen BK188.out 0
        have hfz8_1 := blk_frozen BK188.out 1
        have hfz8_2 := blk_frozen BK188.out 2
        go_wp2
        go_ret
        exact ⟨by first | rfl | (simp [errW_none, errW_some] <;> rfl) | (simp [*, errW_none, errW_some] <;> rfl), by repeat (first | (with_reducible first | exact HB.out | apply below_alloc | apply pw_below_drewN | apply below_drew1 | refine below_set ?_ GE188.out) | exact HB.out)⟩

end Go.Proofs.Ytdkedgdieoojgaa.Rn
