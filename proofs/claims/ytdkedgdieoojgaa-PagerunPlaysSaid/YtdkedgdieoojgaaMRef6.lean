/- The document's pages (a struct by value), walked by hand. -/
import Derived.Test.YtdkedgdieoojgaaMPlay
import Derived.Test.YtdkedgdieoojgaaRnx14
set_option linter.unusedVariables false
set_option linter.unusedSimpArgs false
namespace Go.Proofs.Ytdkedgdieoojgaa.Rn
open Go.ChangeShapes Go.RowKit Go.Proofs.YtdkedgdieoojgaaW.PrintWords Go.Proofs.YtdkedgdieoojgaaW.PrintLast Go.Proofs.YtdkedgdieoojgaaW.PrintMore
theorem rf_up {l : List S51} {P Q a : Int} (h : rightFrom l P a = true) (hPQ : P ≤ Q) : rightFrom l Q a = true := by
  induction l generalizing a with
  | nil => rfl
  | cons x t ih => rw [rf_cons] at h ⊢; exact ⟨⟨h.1.1, h.1.2.1, h.1.2.2.1, by omega⟩, ih h.2⟩
theorem ref_give_f {P : Int} {k : Nat} {l : List S51} {t : Int} (hi : Inv P k l t) (hk : k ≤ 60) (p n : Int) (hp : i64 p) (hn : i64 n) :
    steadingref05_Give.f 2000 l P p n = if giveOk l P p n = true then some (giveF l p n, true) else some ([], false) := by
  have h1 := hi.hP
  have h2 := hi.hn
  rw [refgive_is hi.fits (by omega) ⟨by unfold i64; omega, by omega⟩ hp hn 2000 (by omega)]
  by_cases c : giveOk l P p n = true
  · rw [if_pos c, if_pos c]
    have hr2 := rf_up hi.hr (show P ≤ 1073741824 by omega)
    have c2 : giveOk l 1073741824 p n = true := by
      simp only [giveOk, Bool.and_eq_true, decide_eq_true_eq] at c ⊢
      exact ⟨c.1, c.2.1, by omega, by omega, c.2.2.2.2⟩
    rw [refgive_same hr2 c2]
  · rw [if_neg c, if_neg c]
theorem blk3_set {w : World} {b : Nat} {x y z : Value} {t : Nat} (h : w.heap[b]? = some (.cells #[x, y, z] t (0, 0))) (u v q : Value) : (((w.setCell ⟨b, 0, none⟩ u).setCell ⟨b, 1, none⟩ v).setCell ⟨b, 2, none⟩ q).heap[b]? = some (.cells #[u, v, q] t (0, 0)) :=
  blk_put (cs := #[u, v, z]) (blk_put (cs := #[u, y, z]) (blk_put h 0 u rfl) 1 v rfl) 2 q rfl
theorem R_set3 {w : World} {base : Nat} {ok : Nat → Prop} {v : Value} {l : List S51} {b : Nat} {x y z : Value} (h : Kd.R k51 51 w base ok v l) (hb : w.heap[b]? = some (.cells #[x, y, z] 40 (0, 0))) (u u1 u2 : Value) : Kd.R k51 51 (((w.setCell ⟨b, 0, none⟩ u).setCell ⟨b, 1, none⟩ u1).setCell ⟨b, 2, none⟩ u2) base ok v l :=
  Kd.R_set (cells := #[u, u1, z]) (Kd.R_set (cells := #[u, y, z]) (Kd.R_set h hb (by decide) 0 u) (blk_put hb 0 u rfl) (by decide) 1 u1) (blk_put (cs := #[u, y, z]) (blk_put hb 0 u rfl) 1 u1 rfl) (by decide) 2 u2
theorem below_set3 {B : Nat} {w w1 : World} (h : Below B w w1) {b : Nat} (hb : B ≤ b) (u u1 u2 : Value) : Below B w (((w1.setCell ⟨b, 0, none⟩ u).setCell ⟨b, 1, none⟩ u1).setCell ⟨b, 2, none⟩ u2) :=
  ((h.setCell (p := ⟨b, 0, none⟩) hb u).setCell (p := ⟨b, 1, none⟩) hb u1).setCell (p := ⟨b, 2, none⟩) hb u2
set_option maxHeartbeats 2000000 in
theorem give6_ok {w : World} {base : Nat} {ok : Nat → Prop} {v : Value} {P : Int} {k : Nat} {l : List S51} {t : Int} (hR : Kd.R k51 51 w base ok v l) (hfresh : ∀ j, w.heap.size ≤ j → ok j) (hb : base ≤ w.heap.size) (hi : Inv P k l t) (hk : k ≤ 60) (p n : Int) (hp : i64 p) (hn : i64 n) (hok : giveOk l P p n = true) :
    Calls Try.prog 17 #[.agg #[.int .i64 P, v, .int .i64 t], .int .i64 p, .int .i64 n] w fun e w' => ∃ v', e = .returned (.tuple #[.agg #[.int .i64 P, v', .int .i64 (t + 1 + l.length)], .int .i64 0]) ∧ Kd.R k51 51 w' base ok v' (giveF l p n) ∧ Below w.heap.size w w' := by
  have hf := Aside0.mk (show steadingref05_Give.f 2000 l P p n = some (giveF l p n, true) by rw [ref_give_f hi hk p n hp hn, if_pos hok])
  obtain ⟨A, c, rfl, hc, hC⟩ := Kd.R_reads hR
  have HC := Aside0.mk hC
  have HCC := Aside0.mk hc
  have HR := Aside0.mk hR
  have ht0 : 0 ≤ t := hi.ht.1
  have ht1 : t ≤ 500000 := by have := hi.ht; omega
  have hlb : (l.length : Int) ≤ 1000 := by have := hi.hn; omega
  have w1_ : IntKind.i64.wrap (t + 1) = t + 1 := by rw [IntKind.wrap_i64]; omega
  have w2_ : IntKind.i64.wrap (t + 1 + (l.length : Int)) = t + 1 + (l.length : Int) := by rw [IntKind.wrap_i64]; omega
  obtain ⟨m, hm⟩ : ∃ m, m = giveF l p n := ⟨_, rfl⟩
  rw [← hm] at hf ⊢
  have hHFr := Aside0.mk hfresh
  have hB0 : Below w.heap.size w ((w.alloc (.cells #[.int .i64 P, .slice A l.length c, .int .i64 t] 40)).alloc (.cells #[.int .i64 0, .slice none 0 0, .int .i64 0] 40)) := below_alloc (below_alloc (Below.refl _ _) _) _
  have hbx0 : ((w.alloc (.cells #[.int .i64 P, .slice A l.length c, .int .i64 t] 40)).alloc (.cells #[.int .i64 0, .slice none 0 0, .int .i64 0] 40)).heap[w.heap.size]? = some (.cells #[.int .i64 P, .slice A l.length c, .int .i64 t] 40 (0, 0)) :=
    ((below_alloc (Below.refl _ _) _).block _ (Array.getElem?_eq_some_iff.1 (heap_alloc_new w _)).1).trans (heap_alloc_new w _)
  have hbr0 : ((w.alloc (.cells #[.int .i64 P, .slice A l.length c, .int .i64 t] 40)).alloc (.cells #[.int .i64 0, .slice none 0 0, .int .i64 0] 40)).heap[w.heap.size + 1]? = some (.cells #[.int .i64 0, .slice none 0 0, .int .i64 0] 40 (0, 0)) := by
    have := heap_alloc_new (w.alloc (.cells #[.int .i64 P, .slice A l.length c, .int .i64 t] 40)) (.cells #[.int .i64 0, .slice none 0 0, .int .i64 0] 40); simpa using this
  obtain ⟨W0, hW0⟩ : ∃ W, W = ((w.alloc (.cells #[.int .i64 P, .slice A l.length c, .int .i64 t] 40)).alloc (.cells #[.int .i64 0, .slice none 0 0, .int .i64 0] 40)) := ⟨_, rfl⟩
  rw [← hW0] at hB0 hbx0 hbr0
  have HB0 := Aside0.mk hB0
  have HX0 := Aside0.mk hbx0
  have HR0 := Aside0.mk hbr0
  have HW0 := Aside0.mk hW0
  clear hB0 hbx0 hbr0 hW0
  clear hC hc hR hi hok hm hfresh
  go_enter Try.func17, Try.ntmps17
  go_wp2_with fail
  rw [← HW0.out]
  refine (steadingref05_Give.calls 2000 _ _ l P p n m true _ (Kd.C_below HC.out HB0.out) HCC.out hf.out).mono ?_
  rintro e w1 ⟨v1, rfl, hR1, hb1⟩
  obtain ⟨A1, c1_, rfl⟩ := Kd.R_slice hR1
  have HR1 := Aside0.mk (Kd.R_lower (Kd.R_mono (Kd.R_bound hR1) (fun j hj => hHFr.out j (Nat.le_trans HB0.out.size hj.2.1))) (Nat.le_trans hb HB0.out.size))
  clear hR1
  have hbx : w1.heap[w.heap.size]? = some (.cells #[.int .i64 P, .slice A l.length c, .int .i64 t] 40 (0, 0)) := (hb1.block _ (Array.getElem?_eq_some_iff.1 HX0.out).1).trans HX0.out
  have hbr : w1.heap[w.heap.size + 1]? = some (.cells #[.int .i64 0, .slice none 0 0, .int .i64 0] 40 (0, 0)) := (hb1.block _ (Array.getElem?_eq_some_iff.1 HR0.out).1).trans HR0.out
  have HBX := Aside0.mk hbx
  have HBR := Aside0.mk hbr
  have HB1 := Aside0.mk (below_step HB0.out hb1)
  have x0 := blk3_0 hbx
  have x1 := blk3_1 hbx
  have x2 := blk3_2 hbx
  have y0 := blk3_0 hbr
  have y1 := blk3_1 hbr
  have y2 := blk3_2 hbr
  have f0 := blk_free hbr 0
  have f1 := blk_free hbr 1
  have f2 := blk_free hbr 2
  clear hbx hbr hb1
  go_wp2_with fail
  refine bodyPost_ret (results_ct rfl _ _ (w.heap.size + 1) 40 #[.int .i64 P, .slice A1 m.length c1_, .int .i64 (t + 1 + l.length)] (0, 0) _ rfl (blk3_set HBR.out _ _ _) Try.underlying40 rfl (by kernel_rfl)) rfl ?_
  exact ⟨_, rfl, R_set3 HR1.out HBR.out _ _ _, below_set3 HB1.out (Nat.le_succ _) _ _ _⟩
set_option maxHeartbeats 2000000 in
theorem give6_no {w : World} {base : Nat} {ok : Nat → Prop} {v : Value} {P : Int} {k : Nat} {l : List S51} {t : Int} (hR : Kd.R k51 51 w base ok v l) (hfresh : ∀ j, w.heap.size ≤ j → ok j) (hb : base ≤ w.heap.size) (hi : Inv P k l t) (hk : k ≤ 60) (p n : Int) (hp : i64 p) (hn : i64 n) (hok : giveOk l P p n = false) :
    Calls Try.prog 17 #[.agg #[.int .i64 P, v, .int .i64 t], .int .i64 p, .int .i64 n] w fun e w' => e = .returned (.tuple #[.agg #[.int .i64 P, v, .int .i64 t], .int .i64 1]) ∧ Below w.heap.size w w' := by
  have hf := Aside0.mk (show steadingref05_Give.f 2000 l P p n = some ([], false) by rw [ref_give_f hi hk p n hp hn, if_neg (by rw [hok]; decide)])
  obtain ⟨A, c, rfl, hc, hC⟩ := Kd.R_reads hR
  have HC := Aside0.mk hC
  have HCC := Aside0.mk hc
  have HR := Aside0.mk hR
  have ht0 : 0 ≤ t := hi.ht.1
  have ht1 : t ≤ 500000 := by have := hi.ht; omega
  have hlb : (l.length : Int) ≤ 1000 := by have := hi.hn; omega
  have w1_ : IntKind.i64.wrap (t + 1) = t + 1 := by rw [IntKind.wrap_i64]; omega
  have w2_ : IntKind.i64.wrap (t + 1 + (l.length : Int)) = t + 1 + (l.length : Int) := by rw [IntKind.wrap_i64]; omega
  have hB0 : Below w.heap.size w ((w.alloc (.cells #[.int .i64 P, .slice A l.length c, .int .i64 t] 40)).alloc (.cells #[.int .i64 0, .slice none 0 0, .int .i64 0] 40)) := below_alloc (below_alloc (Below.refl _ _) _) _
  have hbx0 : ((w.alloc (.cells #[.int .i64 P, .slice A l.length c, .int .i64 t] 40)).alloc (.cells #[.int .i64 0, .slice none 0 0, .int .i64 0] 40)).heap[w.heap.size]? = some (.cells #[.int .i64 P, .slice A l.length c, .int .i64 t] 40 (0, 0)) :=
    ((below_alloc (Below.refl _ _) _).block _ (Array.getElem?_eq_some_iff.1 (heap_alloc_new w _)).1).trans (heap_alloc_new w _)
  have hbr0 : ((w.alloc (.cells #[.int .i64 P, .slice A l.length c, .int .i64 t] 40)).alloc (.cells #[.int .i64 0, .slice none 0 0, .int .i64 0] 40)).heap[w.heap.size + 1]? = some (.cells #[.int .i64 0, .slice none 0 0, .int .i64 0] 40 (0, 0)) := by
    have := heap_alloc_new (w.alloc (.cells #[.int .i64 P, .slice A l.length c, .int .i64 t] 40)) (.cells #[.int .i64 0, .slice none 0 0, .int .i64 0] 40); simpa using this
  obtain ⟨W0, hW0⟩ : ∃ W, W = ((w.alloc (.cells #[.int .i64 P, .slice A l.length c, .int .i64 t] 40)).alloc (.cells #[.int .i64 0, .slice none 0 0, .int .i64 0] 40)) := ⟨_, rfl⟩
  rw [← hW0] at hB0 hbx0 hbr0
  have HB0 := Aside0.mk hB0
  have HX0 := Aside0.mk hbx0
  have HR0 := Aside0.mk hbr0
  have HW0 := Aside0.mk hW0
  clear hB0 hbx0 hbr0 hW0
  clear hC hc hR hi hok hfresh
  go_enter Try.func17, Try.ntmps17
  go_wp2_with fail
  rw [← HW0.out]
  refine (steadingref05_Give.calls 2000 _ _ l P p n [] false _ (Kd.C_below HC.out HB0.out) HCC.out hf.out).mono ?_
  rintro e w1 ⟨v1, rfl, hR1, hb1⟩
  clear hR1
  have hbx : w1.heap[w.heap.size]? = some (.cells #[.int .i64 P, .slice A l.length c, .int .i64 t] 40 (0, 0)) := (hb1.block _ (Array.getElem?_eq_some_iff.1 HX0.out).1).trans HX0.out
  have hbr : w1.heap[w.heap.size + 1]? = some (.cells #[.int .i64 0, .slice none 0 0, .int .i64 0] 40 (0, 0)) := (hb1.block _ (Array.getElem?_eq_some_iff.1 HR0.out).1).trans HR0.out
  have HBX := Aside0.mk hbx
  have HBR := Aside0.mk hbr
  have HB1 := Aside0.mk (below_step HB0.out hb1)
  have x0 := blk3_0 hbx
  have x1 := blk3_1 hbx
  have x2 := blk3_2 hbx
  have y0 := blk3_0 hbr
  have y1 := blk3_1 hbr
  have y2 := blk3_2 hbr
  have f0 := blk_free hbr 0
  have f1 := blk_free hbr 1
  have f2 := blk_free hbr 2
  clear hbx hbr hb1
  go_wp2_with fail
  refine bodyPost_ret (results_ct rfl _ _ (w.heap.size + 1) 40 #[.int .i64 P, .slice A l.length c, .int .i64 t] (0, 0) _ rfl (blk3_set HBR.out _ _ _) Try.underlying40 rfl (by kernel_rfl)) rfl ?_
  exact ⟨rfl, below_set3 HB1.out (Nat.le_succ _) _ _ _⟩
set_option maxHeartbeats 2000000 in
theorem take6_ok {w : World} {base : Nat} {ok : Nat → Prop} {v : Value} {P : Int} {k : Nat} {l : List S51} {t : Int} (hR : Kd.R k51 51 w base ok v l) (hfresh : ∀ j, w.heap.size ≤ j → ok j) (hb : base ≤ w.heap.size) (hi : Inv P k l t) (hk : k ≤ 60) (n : Int) (hn : 1 ≤ n) (hbs : ¬ bestF l n < 0) :
    Calls Try.prog 18 #[.agg #[.int .i64 P, v, .int .i64 t], .int .i64 n] w fun e w' => ∃ v', e = .returned (.tuple #[.agg #[.int .i64 P, v', .int .i64 (t + 1 + l.length)], .int .i64 (l.getD (bestF l n).toNat z51).f0, .int .i64 0]) ∧ Kd.R k51 51 w' base ok v' (takeAt l (bestF l n).toNat n) ∧ Below w.heap.size w w' := by
  have hf := Aside0.mk (show steadingref05_Take.f 2000 l n = some ((l.getD (bestF l n).toNat z51).f0, takeAt l (bestF l n).toNat n, true) by rw [reftake_is hi.fits 2000 (by have := hi.hn; omega), if_neg hbs])
  obtain ⟨A, c, rfl, hc, hC⟩ := Kd.R_reads hR
  have HC := Aside0.mk hC
  have HCC := Aside0.mk hc
  have HR := Aside0.mk hR
  have ht0 : 0 ≤ t := hi.ht.1
  have ht1 : t ≤ 500000 := by have := hi.ht; omega
  have hlb : (l.length : Int) ≤ 1000 := by have := hi.hn; omega
  have w1_ : IntKind.i64.wrap (t + 1) = t + 1 := by rw [IntKind.wrap_i64]; omega
  have w2_ : IntKind.i64.wrap (t + 1 + (l.length : Int)) = t + 1 + (l.length : Int) := by rw [IntKind.wrap_i64]; omega
  have hn1 : ¬ n < 1 := by omega
  obtain ⟨m, hm⟩ : ∃ m, m = takeAt l (bestF l n).toNat n := ⟨_, rfl⟩
  obtain ⟨pp, hpp⟩ : ∃ m, m = (l.getD (bestF l n).toNat z51).f0 := ⟨_, rfl⟩
  rw [← hm, ← hpp] at hf ⊢
  have hHFr := Aside0.mk hfresh
  have hB0 : Below w.heap.size w ((w.alloc (.cells #[.int .i64 P, .slice A l.length c, .int .i64 t] 40)).alloc (.cells #[.int .i64 0, .slice none 0 0, .int .i64 0] 40)) := below_alloc (below_alloc (Below.refl _ _) _) _
  have hbx0 : ((w.alloc (.cells #[.int .i64 P, .slice A l.length c, .int .i64 t] 40)).alloc (.cells #[.int .i64 0, .slice none 0 0, .int .i64 0] 40)).heap[w.heap.size]? = some (.cells #[.int .i64 P, .slice A l.length c, .int .i64 t] 40 (0, 0)) :=
    ((below_alloc (Below.refl _ _) _).block _ (Array.getElem?_eq_some_iff.1 (heap_alloc_new w _)).1).trans (heap_alloc_new w _)
  have hbr0 : ((w.alloc (.cells #[.int .i64 P, .slice A l.length c, .int .i64 t] 40)).alloc (.cells #[.int .i64 0, .slice none 0 0, .int .i64 0] 40)).heap[w.heap.size + 1]? = some (.cells #[.int .i64 0, .slice none 0 0, .int .i64 0] 40 (0, 0)) := by
    have := heap_alloc_new (w.alloc (.cells #[.int .i64 P, .slice A l.length c, .int .i64 t] 40)) (.cells #[.int .i64 0, .slice none 0 0, .int .i64 0] 40); simpa using this
  obtain ⟨W0, hW0⟩ : ∃ W, W = ((w.alloc (.cells #[.int .i64 P, .slice A l.length c, .int .i64 t] 40)).alloc (.cells #[.int .i64 0, .slice none 0 0, .int .i64 0] 40)) := ⟨_, rfl⟩
  rw [← hW0] at hB0 hbx0 hbr0
  have HB0 := Aside0.mk hB0
  have HX0 := Aside0.mk hbx0
  have HR0 := Aside0.mk hbr0
  have HW0 := Aside0.mk hW0
  clear hB0 hbx0 hbr0 hW0
  clear hC hc hR hi hbs hm hpp hfresh
  go_enter Try.func18, Try.ntmps18
  go_wp2_with fail
  rw [← HW0.out]
  refine (steadingref05_Take.calls 2000 _ _ l n pp m true _ (Kd.C_below HC.out HB0.out) HCC.out hf.out).mono ?_
  rintro e w1 ⟨v1, rfl, hR1, hb1⟩
  obtain ⟨A1, c1_, rfl⟩ := Kd.R_slice hR1
  have HR1 := Aside0.mk (Kd.R_lower (Kd.R_mono (Kd.R_bound hR1) (fun j hj => hHFr.out j (Nat.le_trans HB0.out.size hj.2.1))) (Nat.le_trans hb HB0.out.size))
  clear hR1
  have hbx : w1.heap[w.heap.size]? = some (.cells #[.int .i64 P, .slice A l.length c, .int .i64 t] 40 (0, 0)) := (hb1.block _ (Array.getElem?_eq_some_iff.1 HX0.out).1).trans HX0.out
  have hbr : w1.heap[w.heap.size + 1]? = some (.cells #[.int .i64 0, .slice none 0 0, .int .i64 0] 40 (0, 0)) := (hb1.block _ (Array.getElem?_eq_some_iff.1 HR0.out).1).trans HR0.out
  have HBX := Aside0.mk hbx
  have HBR := Aside0.mk hbr
  have HB1 := Aside0.mk (below_step HB0.out hb1)
  have x0 := blk3_0 hbx
  have x1 := blk3_1 hbx
  have x2 := blk3_2 hbx
  have y0 := blk3_0 hbr
  have y1 := blk3_1 hbr
  have y2 := blk3_2 hbr
  have f0 := blk_free hbr 0
  have f1 := blk_free hbr 1
  have f2 := blk_free hbr 2
  clear hbx hbr hb1
  go_wp2_with fail
  refine bodyPost_ret (results_ctt rfl _ _ (w.heap.size + 1) 40 #[.int .i64 P, .slice A1 m.length c1_, .int .i64 (t + 1 + l.length)] (0, 0) _ rfl (blk3_set HBR.out _ _ _) Try.underlying40 rfl (by kernel_rfl)) rfl ?_
  exact ⟨_, rfl, R_set3 HR1.out HBR.out _ _ _, below_set3 HB1.out (Nat.le_succ _) _ _ _⟩
set_option maxHeartbeats 2000000 in
theorem take6_no {w : World} {base : Nat} {ok : Nat → Prop} {v : Value} {P : Int} {k : Nat} {l : List S51} {t : Int} (hR : Kd.R k51 51 w base ok v l) (hfresh : ∀ j, w.heap.size ≤ j → ok j) (hb : base ≤ w.heap.size) (hi : Inv P k l t) (hk : k ≤ 60) (n : Int) (hn : 1 ≤ n) (hbs : bestF l n < 0) :
    Calls Try.prog 18 #[.agg #[.int .i64 P, v, .int .i64 t], .int .i64 n] w fun e w' => e = .returned (.tuple #[.agg #[.int .i64 P, v, .int .i64 t], .int .i64 0, .int .i64 4]) ∧ Below w.heap.size w w' := by
  have hf := Aside0.mk (show steadingref05_Take.f 2000 l n = some (0, [], false) by rw [reftake_is hi.fits 2000 (by have := hi.hn; omega), if_pos hbs])
  obtain ⟨A, c, rfl, hc, hC⟩ := Kd.R_reads hR
  have HC := Aside0.mk hC
  have HCC := Aside0.mk hc
  have HR := Aside0.mk hR
  have ht0 : 0 ≤ t := hi.ht.1
  have ht1 : t ≤ 500000 := by have := hi.ht; omega
  have hlb : (l.length : Int) ≤ 1000 := by have := hi.hn; omega
  have w1_ : IntKind.i64.wrap (t + 1) = t + 1 := by rw [IntKind.wrap_i64]; omega
  have w2_ : IntKind.i64.wrap (t + 1 + (l.length : Int)) = t + 1 + (l.length : Int) := by rw [IntKind.wrap_i64]; omega
  have hn1 : ¬ n < 1 := by omega
  have hB0 : Below w.heap.size w ((w.alloc (.cells #[.int .i64 P, .slice A l.length c, .int .i64 t] 40)).alloc (.cells #[.int .i64 0, .slice none 0 0, .int .i64 0] 40)) := below_alloc (below_alloc (Below.refl _ _) _) _
  have hbx0 : ((w.alloc (.cells #[.int .i64 P, .slice A l.length c, .int .i64 t] 40)).alloc (.cells #[.int .i64 0, .slice none 0 0, .int .i64 0] 40)).heap[w.heap.size]? = some (.cells #[.int .i64 P, .slice A l.length c, .int .i64 t] 40 (0, 0)) :=
    ((below_alloc (Below.refl _ _) _).block _ (Array.getElem?_eq_some_iff.1 (heap_alloc_new w _)).1).trans (heap_alloc_new w _)
  have hbr0 : ((w.alloc (.cells #[.int .i64 P, .slice A l.length c, .int .i64 t] 40)).alloc (.cells #[.int .i64 0, .slice none 0 0, .int .i64 0] 40)).heap[w.heap.size + 1]? = some (.cells #[.int .i64 0, .slice none 0 0, .int .i64 0] 40 (0, 0)) := by
    have := heap_alloc_new (w.alloc (.cells #[.int .i64 P, .slice A l.length c, .int .i64 t] 40)) (.cells #[.int .i64 0, .slice none 0 0, .int .i64 0] 40); simpa using this
  obtain ⟨W0, hW0⟩ : ∃ W, W = ((w.alloc (.cells #[.int .i64 P, .slice A l.length c, .int .i64 t] 40)).alloc (.cells #[.int .i64 0, .slice none 0 0, .int .i64 0] 40)) := ⟨_, rfl⟩
  rw [← hW0] at hB0 hbx0 hbr0
  have HB0 := Aside0.mk hB0
  have HX0 := Aside0.mk hbx0
  have HR0 := Aside0.mk hbr0
  have HW0 := Aside0.mk hW0
  clear hB0 hbx0 hbr0 hW0
  clear hC hc hR hi hbs hfresh
  go_enter Try.func18, Try.ntmps18
  go_wp2_with fail
  rw [← HW0.out]
  refine (steadingref05_Take.calls 2000 _ _ l n 0 [] false _ (Kd.C_below HC.out HB0.out) HCC.out hf.out).mono ?_
  rintro e w1 ⟨v1, rfl, hR1, hb1⟩
  clear hR1
  have hbx : w1.heap[w.heap.size]? = some (.cells #[.int .i64 P, .slice A l.length c, .int .i64 t] 40 (0, 0)) := (hb1.block _ (Array.getElem?_eq_some_iff.1 HX0.out).1).trans HX0.out
  have hbr : w1.heap[w.heap.size + 1]? = some (.cells #[.int .i64 0, .slice none 0 0, .int .i64 0] 40 (0, 0)) := (hb1.block _ (Array.getElem?_eq_some_iff.1 HR0.out).1).trans HR0.out
  have HBX := Aside0.mk hbx
  have HBR := Aside0.mk hbr
  have HB1 := Aside0.mk (below_step HB0.out hb1)
  have x0 := blk3_0 hbx
  have x1 := blk3_1 hbx
  have x2 := blk3_2 hbx
  have y0 := blk3_0 hbr
  have y1 := blk3_1 hbr
  have y2 := blk3_2 hbr
  have f0 := blk_free hbr 0
  have f1 := blk_free hbr 1
  have f2 := blk_free hbr 2
  clear hbx hbr hb1
  go_wp2_with fail
  refine bodyPost_ret (results_ctt rfl _ _ (w.heap.size + 1) 40 #[.int .i64 P, .slice A l.length c, .int .i64 t] (0, 0) _ rfl (blk3_set HBR.out _ _ _) Try.underlying40 rfl (by kernel_rfl)) rfl ?_
  exact ⟨rfl, below_set3 HB1.out (Nat.le_succ _) _ _ _⟩
set_option maxHeartbeats 2000000 in
theorem take6_bad {w : World} {base : Nat} {ok : Nat → Prop} {v : Value} {P : Int} {k : Nat} {l : List S51} {t : Int} (hR : Kd.R k51 51 w base ok v l) (hfresh : ∀ j, w.heap.size ≤ j → ok j) (hb : base ≤ w.heap.size) (hi : Inv P k l t) (hk : k ≤ 60) (n : Int) (hn : n < 1) :
    Calls Try.prog 18 #[.agg #[.int .i64 P, v, .int .i64 t], .int .i64 n] w fun e w' => e = .returned (.tuple #[.agg #[.int .i64 P, v, .int .i64 t], .int .i64 0, .int .i64 1]) ∧ Below w.heap.size w w' := by
  obtain ⟨A, c, rfl, hc, hC⟩ := Kd.R_reads hR
  have HC := Aside0.mk hC
  have HCC := Aside0.mk hc
  have HR := Aside0.mk hR
  have ht0 : 0 ≤ t := hi.ht.1
  have ht1 : t ≤ 500000 := by have := hi.ht; omega
  have hlb : (l.length : Int) ≤ 1000 := by have := hi.hn; omega
  have w1_ : IntKind.i64.wrap (t + 1) = t + 1 := by rw [IntKind.wrap_i64]; omega
  have w2_ : IntKind.i64.wrap (t + 1 + (l.length : Int)) = t + 1 + (l.length : Int) := by rw [IntKind.wrap_i64]; omega
  have hB0 : Below w.heap.size w ((w.alloc (.cells #[.int .i64 P, .slice A l.length c, .int .i64 t] 40)).alloc (.cells #[.int .i64 0, .slice none 0 0, .int .i64 0] 40)) := below_alloc (below_alloc (Below.refl _ _) _) _
  have hbx0 : ((w.alloc (.cells #[.int .i64 P, .slice A l.length c, .int .i64 t] 40)).alloc (.cells #[.int .i64 0, .slice none 0 0, .int .i64 0] 40)).heap[w.heap.size]? = some (.cells #[.int .i64 P, .slice A l.length c, .int .i64 t] 40 (0, 0)) :=
    ((below_alloc (Below.refl _ _) _).block _ (Array.getElem?_eq_some_iff.1 (heap_alloc_new w _)).1).trans (heap_alloc_new w _)
  have hbr0 : ((w.alloc (.cells #[.int .i64 P, .slice A l.length c, .int .i64 t] 40)).alloc (.cells #[.int .i64 0, .slice none 0 0, .int .i64 0] 40)).heap[w.heap.size + 1]? = some (.cells #[.int .i64 0, .slice none 0 0, .int .i64 0] 40 (0, 0)) := by
    have := heap_alloc_new (w.alloc (.cells #[.int .i64 P, .slice A l.length c, .int .i64 t] 40)) (.cells #[.int .i64 0, .slice none 0 0, .int .i64 0] 40); simpa using this
  obtain ⟨W0, hW0⟩ : ∃ W, W = ((w.alloc (.cells #[.int .i64 P, .slice A l.length c, .int .i64 t] 40)).alloc (.cells #[.int .i64 0, .slice none 0 0, .int .i64 0] 40)) := ⟨_, rfl⟩
  rw [← hW0] at hB0 hbx0 hbr0
  have HB0 := Aside0.mk hB0
  have HX0 := Aside0.mk hbx0
  have HR0 := Aside0.mk hbr0
  have HW0 := Aside0.mk hW0
  clear hB0 hbx0 hbr0 hW0
  clear hC hc hR hi hfresh
  go_enter Try.func18, Try.ntmps18
  go_wp2_with fail
  have hbr : ((w.alloc (.cells #[.int .i64 P, .slice A l.length c, .int .i64 t] 40)).alloc (.cells #[.int .i64 P, .slice A l.length c, .int .i64 t] 40)).heap[w.heap.size + 1]? = some (.cells #[.int .i64 P, .slice A l.length c, .int .i64 t] 40 (0, 0)) := by
    have := heap_alloc_new (w.alloc (.cells #[.int .i64 P, .slice A l.length c, .int .i64 t] 40)) (.cells #[.int .i64 P, .slice A l.length c, .int .i64 t] 40); simpa using this
  refine bodyPost_ret (results_ctt rfl _ _ (w.heap.size + 1) 40 #[.int .i64 P, .slice A l.length c, .int .i64 t] (0, 0) _ rfl hbr Try.underlying40 rfl (by kernel_rfl)) rfl ?_
  exact ⟨rfl, below_alloc (below_alloc (Below.refl _ _) _) _⟩
theorem new6_R (w : World) (P : Int) (o : Obj) : Kd.R k51 51 ((w.alloc o).alloc (.cells #[.int .i64 0, .int .i64 P] 51)) w.heap.size (fun _ => True) (.slice (some ⟨w.heap.size + 1, 0, none⟩) 1 1) [⟨0, P⟩] := by
  have h : ((w.alloc o).alloc (.cells #[.int .i64 0, .int .i64 P] 51)).heap[w.heap.size + 1]? = some (.cells #[.int .i64 0, .int .i64 P] 51 (0, 0)) := by
    have := heap_alloc_new (w.alloc o) (.cells #[.int .i64 0, .int .i64 P] 51); simpa using this
  exact R_of_blk (xs := [⟨0, P⟩]) (rest := []) (cap := 1) h (Nat.le_succ _) rfl (by omega)
set_option maxHeartbeats 2000000 in
theorem new6 (n : Int) (w : World) :
    Calls Try.prog 16 #[.int .i64 n] w fun e w' => ∃ v, e = .returned (.agg #[.int .i64 (min (max n 1) 1048576), v, .int .i64 0]) ∧ Kd.R k51 51 w' w.heap.size (fun _ => True) v [⟨0, min (max n 1) 1048576⟩] ∧ Below w.heap.size w w' := by
  have hc : n < 1 ∨ (¬ n < 1 ∧ 1048576 < n) ∨ (¬ n < 1 ∧ ¬ 1048576 < n) := by omega
  rcases hc with h | ⟨h, h2⟩ | ⟨h, h2⟩
  · have e : min (max n 1) 1048576 = 1 := by omega
    rw [e]
    go_enter Try.func16, Try.ntmps16
    go_wp2_with fail
    refine bodyPost_ret (results_cell_row rfl _ _ w.heap.size 40 #[.int .i64 1, .slice (some ⟨w.heap.size + 1, 0, none⟩) 1 1, .int .i64 0] (0, 0) _ rfl (((below_alloc (Below.refl _ _) _).block _ (Array.getElem?_eq_some_iff.1 (heap_alloc_new w _)).1).trans (heap_alloc_new w _)) Try.underlying40 rfl (by kernel_rfl)) rfl ?_
    exact ⟨_, rfl, new6_R w 1 _, below_alloc (below_alloc (Below.refl _ _) _) _⟩
  · have e : min (max n 1) 1048576 = 1048576 := by omega
    rw [e]
    go_enter Try.func16, Try.ntmps16
    go_wp2_with fail
    refine bodyPost_ret (results_cell_row rfl _ _ w.heap.size 40 #[.int .i64 1048576, .slice (some ⟨w.heap.size + 1, 0, none⟩) 1 1, .int .i64 0] (0, 0) _ rfl (((below_alloc (Below.refl _ _) _).block _ (Array.getElem?_eq_some_iff.1 (heap_alloc_new w _)).1).trans (heap_alloc_new w _)) Try.underlying40 rfl (by kernel_rfl)) rfl ?_
    exact ⟨_, rfl, new6_R w 1048576 _, below_alloc (below_alloc (Below.refl _ _) _) _⟩
  · have e : min (max n 1) 1048576 = n := by omega
    rw [e]
    go_enter Try.func16, Try.ntmps16
    go_wp2_with fail
    refine bodyPost_ret (results_cell_row rfl _ _ w.heap.size 40 #[.int .i64 n, .slice (some ⟨w.heap.size + 1, 0, none⟩) 1 1, .int .i64 0] (0, 0) _ rfl (((below_alloc (Below.refl _ _) _).block _ (Array.getElem?_eq_some_iff.1 (heap_alloc_new w _)).1).trans (heap_alloc_new w _)) Try.underlying40 rfl (by kernel_rfl)) rfl ?_
    exact ⟨_, rfl, new6_R w n _, below_alloc (below_alloc (Below.refl _ _) _) _⟩
end Go.Proofs.Ytdkedgdieoojgaa.Rn
