/- PagerunPlays: the document's pages in a variable, and the calls of the law's tests. -/
import Derived.Test.YtdkedgdieoojgaaMNil
set_option linter.unusedVariables false
set_option linter.unusedSimpArgs false
namespace Go.Proofs.Ytdkedgdieoojgaa.Rn
open Go.ChangeShapes Go.RowKit Go.Proofs.YtdkedgdieoojgaaW.PrintWords Go.Proofs.YtdkedgdieoojgaaW.PrintLast Go.Proofs.YtdkedgdieoojgaaW.PrintMore
/-- The document's pages, in a variable of the law. -/
def RW (w : World) (base g gw : Nat) (P : Int) (l : List S51) (t : Int) (v : Value) : Prop :=
  base ≤ gw ∧ w.heap[gw]? = some (.cells #[.int .i64 P, v, .int .i64 t] 40 (0, 0)) ∧ Kd.R k51 51 w base (fun j => j ≠ g) v l
theorem RW.below {w w1 : World} {base g gw : Nat} {P : Int} {l : List S51} {t : Int} {v : Value} (h : RW w base g gw P l t v) (hb : Below w.heap.size w w1) : RW w1 base g gw P l t v :=
  ⟨h.1, (hb.block _ (Array.getElem?_eq_some_iff.1 h.2.1).1).trans h.2.1, Kd.R_below h.2.2 hb⟩
theorem RW.keep {w w1 : World} {base g gw : Nat} {P : Int} {l : List S51} {t : Int} {v : Value} (h : RW w base g gw P l t v) (hk : KeepBut w w1 g none) (hne : gw ≠ g) : RW w1 base g gw P l t v :=
  ⟨h.1, (hk.2 _ (Array.getElem?_eq_some_iff.1 h.2.1).1 hne (by simp)).trans h.2.1, Kd.R_keep h.2.2 hk (fun _ h => h)⟩
theorem cell_set3 {w : World} {b : Nat} {u u1 u2 v : Value} {a : Addr} (h : w.cell? a = some v) (hne : a.block ≠ b) : (((w.setCell ⟨b, 0, none⟩ u).setCell ⟨b, 1, none⟩ u1).setCell ⟨b, 2, none⟩ u2).cell? a = some v := by
  rw [World.cell?_of_block (w := w) ((Below.heap_setCell _ _ _ _ hne).trans ((Below.heap_setCell _ _ _ _ hne).trans (Below.heap_setCell _ _ _ _ hne)))]; exact h
theorem AL.set3 {w : World} {base g b : Nat} {P : Int} {l : List S51} {t : Int} {x y z : Value} (h : AL w base g P l t) (hb : w.heap[b]? = some (.cells #[x, y, z] 40 (0, 0))) (hne : g ≠ b) (u u1 u2 : Value) : AL (((w.setCell ⟨b, 0, none⟩ u).setCell ⟨b, 1, none⟩ u1).setCell ⟨b, 2, none⟩ u2) base g P l t := by
  obtain ⟨h0, v, h, hR⟩ := h
  exact ⟨h0, v, (Below.heap_setCell _ _ _ _ hne).trans ((Below.heap_setCell _ _ _ _ hne).trans ((Below.heap_setCell _ _ _ _ hne).trans h)), R_set3 hR hb _ _ _⟩
theorem RW.set3 {w : World} {base g gw b : Nat} {P : Int} {l : List S51} {t : Int} {v : Value} {x y z : Value} (h : RW w base g gw P l t v) (hb : w.heap[b]? = some (.cells #[x, y, z] 40 (0, 0))) (hne : gw ≠ b) (u u1 u2 : Value) : RW (((w.setCell ⟨b, 0, none⟩ u).setCell ⟨b, 1, none⟩ u1).setCell ⟨b, 2, none⟩ u2) base g gw P l t v :=
  ⟨h.1, (Below.heap_setCell _ _ _ _ hne).trans ((Below.heap_setCell _ _ _ _ hne).trans ((Below.heap_setCell _ _ _ _ hne).trans h.2.1)), R_set3 h.2.2 hb _ _ _⟩
theorem RW.put {w : World} {base g gw : Nat} {P : Int} {l : List S51} {t : Int} {v : Value} (h : RW w base g gw P l t v) {l2 : List S51} {v2 : Value} (hR : Kd.R k51 51 w base (fun j => j ≠ g) v2 l2) (t2 : Int) : RW (((w.setCell ⟨gw, 0, none⟩ (.int .i64 P)).setCell ⟨gw, 1, none⟩ v2).setCell ⟨gw, 2, none⟩ (.int .i64 t2)) base g gw P l2 t2 v2 :=
  ⟨h.1, blk3_set h.2.1 _ _ _, R_set3 hR h.2.1 _ _ _⟩

theorem below_q {w w1 : World} (h : Drawn0 w w1) : Below w.heap.size w w1 := by obtain ⟨n_, rfl⟩ := h; exact pw_below_drewN (Below.refl _ _) n_
theorem largest_ex (l : List S51) : ∃ m, IsLargest l m := by
  induction l with
  | nil => exact ⟨0, .inl ⟨rfl, rfl⟩⟩
  | cons x t ih =>
    obtain ⟨m, hm⟩ := ih
    rcases hm with ⟨rfl, rfl⟩ | ⟨⟨y, hy, rfl⟩, hall⟩
    · exact ⟨x.f1, .inr ⟨⟨x, by simp, rfl⟩, fun y hy => by simp at hy; rw [hy]; exact Int.le_refl _⟩⟩
    · by_cases c : y.f1 ≤ x.f1
      · exact ⟨x.f1, .inr ⟨⟨x, by simp, rfl⟩, fun z hz => by
          rcases List.mem_cons.1 hz with rfl | hz
          · exact Int.le_refl _
          · have := hall z hz; omega⟩⟩
      · exact ⟨y.f1, .inr ⟨⟨y, by simp [hy], rfl⟩, fun z hz => by
          rcases List.mem_cons.1 hz with rfl | hz
          · omega
          · exact hall z hz⟩⟩
theorem largest_uq {l : List S51} {m n : Int} (h : IsLargest l m) (k : IsLargest l n) : m = n := by
  rcases h with ⟨rfl, rfl⟩ | ⟨⟨x, hx, rfl⟩, h⟩
  · rcases k with ⟨_, rfl⟩ | ⟨⟨y, hy, _⟩, _⟩
    · rfl
    · simp at hy
  · rcases k with ⟨rfl, _⟩ | ⟨⟨y, hy, rfl⟩, k⟩
    · simp at hx
    · have := h y hy; have := k x hx; omega
theorem give6_any {w : World} {base : Nat} {ok : Nat → Prop} {v : Value} {P : Int} {k : Nat} {l : List S51} {t : Int} (hR : Kd.R k51 51 w base ok v l) (hfresh : ∀ j, w.heap.size ≤ j → ok j) (hb : base ≤ w.heap.size) (hi : Inv P k l t) (hk : k ≤ 60) (a : Act3) (ha : a.gv = true) (hp : i64 a.pg) (hn : i64 a.n) (L2 : List S51) (t2 e2 : Int) (hL : L2 = playL P l a) (ht : t2 = playT P l t a) (he : e2 = if did P l a = true then 0 else 1) :
    Calls Try.prog 17 #[.agg #[.int .i64 P, v, .int .i64 t], .int .i64 a.pg, .int .i64 a.n] w fun e w' => ∃ A c, e = .returned (.tuple #[.agg #[.int .i64 P, .slice A L2.length c, .int .i64 t2], .int .i64 e2]) ∧ Kd.R k51 51 w' base ok (.slice A L2.length c) L2 ∧ Below w.heap.size w w' := by
  have e : did P l a = giveOk l P a.pg a.n := by unfold did; rw [if_pos ha]
  unfold playL at hL
  unfold playT at ht
  rw [e] at hL ht he
  rw [if_pos ha] at hL
  cases c : giveOk l P a.pg a.n with
  | true =>
    rw [c, if_pos rfl] at hL ht he
    subst hL ht he
    refine (give6_ok hR hfresh hb hi hk a.pg a.n hp hn c).mono ?_
    rintro e w1 ⟨v1, rfl, hR1, hB1⟩
    obtain ⟨A, c, rfl⟩ := Kd.R_slice hR1
    exact ⟨A, c, rfl, hR1, hB1⟩
  | false =>
    rw [c, if_neg (by decide)] at hL ht he
    subst hL ht he
    refine (give6_no hR hfresh hb hi hk a.pg a.n hp hn c).mono ?_
    rintro e w1 ⟨rfl, hB1⟩
    obtain ⟨A, c, rfl⟩ := Kd.R_slice hR
    exact ⟨A, c, rfl, Kd.R_below hR hB1, hB1⟩
theorem take6_any {w : World} {base : Nat} {ok : Nat → Prop} {v : Value} {P : Int} {k : Nat} {l : List S51} {t : Int} (hR : Kd.R k51 51 w base ok v l) (hfresh : ∀ j, w.heap.size ≤ j → ok j) (hb : base ≤ w.heap.size) (hi : Inv P k l t) (hk : k ≤ 60) (a : Act3) (ha : a.gv = false) (L2 : List S51) (t2 p2 e2 : Int) (hL : L2 = playL P l a) (ht : t2 = playT P l t a) (hp2 : p2 = takeP l a.n) (he : e2 = takeE l a.n) :
    Calls Try.prog 18 #[.agg #[.int .i64 P, v, .int .i64 t], .int .i64 a.n] w fun e w' => ∃ A c, e = .returned (.tuple #[.agg #[.int .i64 P, .slice A L2.length c, .int .i64 t2], .int .i64 p2, .int .i64 e2]) ∧ Kd.R k51 51 w' base ok (.slice A L2.length c) L2 ∧ Below w.heap.size w w' := by
  have e : did P l a = (decide (1 ≤ a.n) && decide (0 ≤ bestF l a.n)) := by unfold did; rw [if_neg (by rw [ha]; decide)]
  unfold playL at hL
  unfold playT at ht
  unfold takeP at hp2
  unfold takeE at he
  rw [e] at hL ht
  rw [if_neg (show ¬ a.gv = true by rw [ha]; decide)] at hL
  by_cases c1 : a.n < 1
  · rw [decide_eq_false (show ¬ 1 ≤ a.n by omega), Bool.false_and, if_neg (by decide)] at hL ht
    rw [if_pos c1] at hp2 he
    subst hL ht he hp2
    refine (take6_bad hR hfresh hb hi hk a.n c1).mono ?_
    rintro e w1 ⟨rfl, hB1⟩
    obtain ⟨A, c, rfl⟩ := Kd.R_slice hR
    exact ⟨A, c, rfl, Kd.R_below hR hB1, hB1⟩
  · rw [decide_eq_true (show 1 ≤ a.n by omega), Bool.true_and] at hL ht
    rw [if_neg c1] at hp2 he
    by_cases c2 : bestF l a.n < 0
    · rw [decide_eq_false (show ¬ 0 ≤ bestF l a.n by omega), if_neg (by decide)] at hL ht
      rw [if_pos c2] at hp2 he
      subst hL ht he hp2
      refine (take6_no hR hfresh hb hi hk a.n (by omega) c2).mono ?_
      rintro e w1 ⟨rfl, hB1⟩
      obtain ⟨A, c, rfl⟩ := Kd.R_slice hR
      exact ⟨A, c, rfl, Kd.R_below hR hB1, hB1⟩
    · rw [decide_eq_true (show 0 ≤ bestF l a.n by omega), if_pos rfl] at hL ht
      rw [if_neg c2] at hp2 he
      subst hL ht he hp2
      refine (take6_ok hR hfresh hb hi hk a.n (by omega) c2).mono ?_
      rintro e w1 ⟨v1, rfl, hR1, hB1⟩
      obtain ⟨A, c, rfl⟩ := Kd.R_slice hR1
      exact ⟨A, c, rfl, hR1, hB1⟩
/-! ### the calls of the law's tests, at any world behind W -/
section
variable {W W1 : World} {base g gw : Nat} {P : Int} {k : Nat} {l : List S51} {t F m : Int} {v : Value}
theorem t_runs (h : AL W base g P l t) (hi : Inv P k l t) (hb : Below W.heap.size W W1) : Calls Try.prog 12 #[.pointer (some ⟨g, 0, none⟩)] W1 fun e w' => ∃ A c, e = .returned (.slice A l.length c) ∧ l.length ≤ c ∧ Kd.C k51 w' A l.length l ∧ Below W1.heap.size W1 w' :=
  (runs_calls (h.below hb) (fitsR_len hi.fits)).mono fun e w' ⟨v, he, hR, hB⟩ => by
    obtain ⟨A, c, rfl, hc, hC⟩ := Kd.R_reads hR
    exact ⟨A, c, he, hc, hC, hB⟩
theorem t_free (h : AL W base g P l t) (hi : Inv P k l t) (hF : F = totalF l) (hb : Below W.heap.size W W1) : Calls Try.prog 19 #[.pointer (some ⟨g, 0, none⟩)] W1 fun e w' => e = .returned (.int .i64 F) ∧ Below W1.heap.size W1 w' := by
  subst hF; exact free_calls (h.below hb) hi.fits
theorem t_largest (h : AL W base g P l t) (hi : Inv P k l t) (hm : IsLargest l m) (hb : Below W.heap.size W W1) : Calls Try.prog 13 #[.pointer (some ⟨g, 0, none⟩)] W1 fun e w' => e = .returned (.int .i64 m) ∧ Below W1.heap.size W1 w' :=
  (largest_calls (h.below hb) hi.fits).mono fun e w' ⟨n, he, hn, hB⟩ => by rw [largest_uq hm hn]; exact ⟨he, hB⟩
theorem t_ticks (h : AL W base g P l t) (hb : Below W.heap.size W W1) : Calls Try.prog 14 #[.pointer (some ⟨g, 0, none⟩)] W1 fun e w' => e = .returned (.int .i64 t) ∧ Below W1.heap.size W1 w' :=
  (ticks_calls (h.below hb)).mono fun e w' ⟨he, hw⟩ => by subst hw; exact ⟨he, Below.refl _ _⟩
theorem t_pages (h : AL W base g P l t) (hb : Below W.heap.size W W1) : Calls Try.prog 22 #[.pointer (some ⟨g, 0, none⟩)] W1 fun e w' => e = .returned (.int .i64 P) ∧ Below W1.heap.size W1 w' :=
  (pages_calls (h.below hb)).mono fun e w' ⟨he, hw⟩ => by subst hw; exact ⟨he, Below.refl _ _⟩
variable {Av : Option Addr} {cv : Nat}
theorem t_same {A : Option Addr} {c : Nat} (h : RW W base g gw P l t (.slice Av l.length cv)) (hi : Inv P k l t) (hC : Kd.C k51 W1 A l.length l) (hc : l.length ≤ c) (hb : Below W.heap.size W W1) : Calls Try.prog 15 #[.slice A l.length c, .slice Av l.length cv] W1 fun e w' => e = .returned (.bool true) ∧ Below W1.heap.size W1 w' := by
  obtain ⟨A5, c5, e5, hc5, hC5⟩ := Kd.R_reads (Kd.R_below h.2.2 hb)
  injection e5 with e5 _ e6
  subst e5 e6
  exact (steadingref05_Same.calls (l.length + 1) _ _ l _ _ l true _ hC hc hC5 hc5 (same_is l (fitsR_len hi.fits) _ (Nat.lt_succ_self _))).mono fun e w' ⟨he, hd⟩ => ⟨he, below_q hd⟩
theorem t_total (h : RW W base g gw P l t (.slice Av l.length cv)) (hi : Inv P k l t) (hF : F = totalF l) (hb : Below W.heap.size W W1) : Calls Try.prog 20 #[.slice Av l.length cv] W1 fun e w' => e = .returned (.int .i64 F) ∧ Below W1.heap.size W1 w' := by
  subst hF
  obtain ⟨A5, c5, e5, hc5, hC5⟩ := Kd.R_reads (Kd.R_below h.2.2 hb)
  injection e5 with e5 _ e6
  subst e5 e6
  exact (steadingref05_Total.calls (l.length + 1) _ _ l _ _ hC5 hc5 (reftotal_is l hi.fits _ (Nat.lt_succ_self _))).mono fun e w' ⟨he, hd⟩ => ⟨he, below_q hd⟩
theorem t_largest6 (h : RW W base g gw P l t (.slice Av l.length cv)) (hi : Inv P k l t) (hm : IsLargest l m) (hb : Below W.heap.size W W1) : Calls Try.prog 21 #[.agg #[.int .i64 P, .slice Av l.length cv, .int .i64 t]] W1 fun e w' => e = .returned (.int .i64 m) ∧ Below W1.heap.size W1 w' := by
  obtain ⟨A5, c5, e5, hc5, hC5⟩ := Kd.R_reads (Kd.R_below h.2.2 hb)
  injection e5 with e5 _ e6
  subst e5 e6
  exact steadingref06_Largest.calls 2000 _ _ _ l _ _ _ hC5 hc5 (largest6_is P t m l hi.fits hm)
theorem n_below {f : Nat} {v : Value} {W1 : World} (h : Calls Try.prog f #[.pointer none] W1 fun e w' => e = .returned v ∧ w' = W1) : Calls Try.prog f #[.pointer none] W1 fun e w' => e = .returned v ∧ Below W1.heap.size W1 w' :=
  h.mono fun e w' ⟨he, hw⟩ => by subst hw; exact ⟨he, Below.refl _ _⟩
end
end Go.Proofs.Ytdkedgdieoojgaa.Rn
