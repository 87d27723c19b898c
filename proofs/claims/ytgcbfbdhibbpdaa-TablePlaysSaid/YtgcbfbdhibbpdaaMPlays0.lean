/- TablePlays, plainly: what holds behind each step of the script; the calls of its tests. -/
import Derived.Test.YtgcbfbdhibbpdaaMRefAll
import Derived.Test.YtgcbfbdhibbpdaaMActs
import Derived.Test.YtgcbfbdhibbpdaaMSame
import Derived.Deep.DeepCutAuto
import Derived.IntWalk
set_option linter.unusedVariables false
set_option linter.unusedSimpArgs false
namespace Go.Proofs.Ytgcbfbdhibbpdaa.Tb
open Go.RowKit Go.Proofs.YtgcbfbdhibbpdaaW.PrintWords Go.Proofs.YtgcbfbdhibbpdaaW.PrintLast Go.Proofs.YtgcbfbdhibbpdaaW.PrintMore
theorem blk4_0 {w : World} {b : Nat} {x y z u : Value} {t : Nat} (h : w.heap[b]? = some (.cells #[x, y, z, u] t (0, 0))) : w.cell? ⟨b, 0, none⟩ = some x := by simp [World.cell?, h]
theorem blk4_1 {w : World} {b : Nat} {x y z u : Value} {t : Nat} (h : w.heap[b]? = some (.cells #[x, y, z, u] t (0, 0))) : w.cell? ⟨b, 1, none⟩ = some y := by simp [World.cell?, h]
theorem blk4_3 {w : World} {b : Nat} {x y z u : Value} {t : Nat} (h : w.heap[b]? = some (.cells #[x, y, z, u] t (0, 0))) : w.cell? ⟨b, 3, none⟩ = some u := by simp [World.cell?, h]
/-- The handle that is taken. -/
def pick (h wh : Int) (told : List Int) : Int := if h = 0 ∧ 0 < told.length then told.getD (wh % (told.length : Int)).toNat 0 else h
theorem pick_range (h wh : Int) (told : List Int) (hh : 0 ≤ h ∧ h < 18446744073709551616) (ht : ∀ x ∈ told, 0 ≤ x ∧ x < 18446744073709551616) : 0 ≤ pick h wh told ∧ pick h wh told < 18446744073709551616 := by
  unfold pick
  split
  · rename_i c
    have h1 := Int.emod_nonneg wh (show (told.length : Int) ≠ 0 by omega)
    have h2 := Int.emod_lt_of_pos wh (show (0 : Int) < told.length by omega)
    have hlt : (wh % (told.length : Int)).toNat < told.length := by omega
    rw [List.getD_eq_getElem?_getD, List.getElem?_eq_getElem hlt]
    exact ht _ (List.getElem_mem hlt)
  · exact hh
/-! ### what each act does, kinds that are none too -/
def okK (kd : Int) : Prop := 1 ≤ kd ∧ kd ≤ 3
instance (kd : Int) : Decidable (okK kd) := by unfold okK; infer_instance
def aH (kd : Int) (sl : List S76) (fr : List Int) : Int := if okK kd then pk kd (addI (sk sl) fr) (addG (sk sl) fr) else 0
def aL (kd : Int) (sl : List S76) (fr : List Int) (v : Int) : List S76 := if okK kd then addL sl fr v else sl
def aF (kd : Int) (fr : List Int) : List Int := if okK kd then fr.dropLast else fr
def sL (kd : Int) (sl : List S76) (h v : Int) : List S76 := if lvS kd (sk sl) h then setL sl (ixn h) v else sl
def dL (kd : Int) (sl : List S76) (h : Int) : List S76 := if lvS kd (sk sl) h then dropL sl (ixn h) else sl
def dF (kd : Int) (sl : List S76) (fr : List Int) (h : Int) : List Int := if lvS kd (sk sl) h then fr ++ [(ixn h : Int)] else fr
structure InvP (q : Nat) (kd : Int) (sl : List S76) (fr told : List Int) : Prop where
  good : Good (sk sl) fr
  q80 : q ≤ 80
  len : sl.length ≤ q
  kind : okK kd ∨ (sl = [] ∧ fr = [])
  tr : ∀ x ∈ told, 0 ≤ x ∧ x < 18446744073709551616
  tlen : told.length ≤ q
theorem InvP.start (kd : Int) : InvP 0 kd [] [] [] := ⟨Good.nil, by omega, by simp, .inr ⟨rfl, rfl⟩, by simp, by simp⟩
theorem InvP.kind' {q : Nat} {kd : Int} {sl : List S76} {fr told : List Int} (h : InvP q kd sl fr told) : (1 ≤ kd ∧ kd ≤ 3) ∨ sl = [] := by
  rcases h.kind with h | h
  · exact .inl h
  · exact .inr h.1
theorem InvP.keep {q : Nat} {kd : Int} {sl : List S76} {fr told : List Int} (h : InvP q kd sl fr told) (hq : q + 1 ≤ 80) : InvP (q + 1) kd sl fr told :=
  ⟨h.good, hq, by have := h.len; omega, h.kind, h.tr, by have := h.tlen; omega⟩
theorem aH_range {q : Nat} {kd : Int} {sl : List S76} {fr told : List Int} (h : InvP q kd sl fr told) : 0 ≤ aH kd sl fr ∧ aH kd sl fr < 18446744073709551616 := by
  unfold aH
  by_cases c : okK kd
  · rw [if_pos c]
    obtain ⟨r1, r2⟩ := add_range h.good
    obtain ⟨p1, p2, _⟩ := pk_parts (k := kd) c r1 r2
    exact ⟨by omega, p2⟩
  · rw [if_neg c]; decide
theorem aL_length (sl : List S76) (fr : List Int) (v : Int) : (addL sl fr v).length ≤ sl.length + 1 := by
  unfold addL; split <;> simp
theorem InvP.add {q : Nat} {kd : Int} {sl : List S76} {fr told : List Int} (h : InvP q kd sl fr told) (hq : q + 1 ≤ 80) (v : Int) : InvP (q + 1) kd (aL kd sl fr v) (aF kd fr) (told ++ [aH kd sl fr]) := by
  have ht : ∀ x ∈ told ++ [aH kd sl fr], 0 ≤ x ∧ x < 18446744073709551616 := fun x hx => by
    rcases List.mem_append.1 hx with hx | hx
    · exact h.tr x hx
    · rw [List.mem_singleton.1 hx]; exact aH_range h
  have hl := h.len
  have htl : (told ++ [aH kd sl fr]).length ≤ q + 1 := by have := h.tlen; simp; omega
  unfold aL aF
  by_cases c : okK kd
  · rw [if_pos c, if_pos c]
    exact ⟨by rw [sk_addL]; exact h.good.add (by rw [sk_length]; omega), hq, by have := aL_length sl fr v; omega, .inl c, ht, htl⟩
  · rw [if_neg c, if_neg c]
    exact ⟨h.good, hq, by omega, h.kind, ht, htl⟩
theorem InvP.set {q : Nat} {kd : Int} {sl : List S76} {fr told : List Int} (h : InvP q kd sl fr told) (hq : q + 1 ≤ 80) (hd v : Int) : InvP (q + 1) kd (sL kd sl hd v) fr told := by
  unfold sL
  split
  · refine ⟨by rw [sk_setL]; exact h.good, hq, by unfold setL; rw [List.length_set]; have := h.len; omega, ?_, h.tr, by have := h.tlen; omega⟩
    rcases h.kind with h1 | ⟨rfl, h2⟩
    · exact .inl h1
    · exact .inr ⟨rfl, h2⟩
  · exact h.keep hq
theorem InvP.drop {q : Nat} {kd : Int} {sl : List S76} {fr told : List Int} (h : InvP q kd sl fr told) (hq : q + 1 ≤ 80) (hd : Int) : InvP (q + 1) kd (dL kd sl hd) (dF kd sl fr hd) told := by
  unfold dL dF
  by_cases c : lvS kd (sk sl) hd = true
  · rw [if_pos c, if_pos c]
    obtain ⟨_, l2, l3, _⟩ := lvS_iff.1 c
    refine ⟨by rw [sk_dropL]; exact h.good.drop l2 l3, hq, by unfold dropL; rw [List.length_set]; have := h.len; omega, ?_, h.tr, by have := h.tlen; omega⟩
    rcases h.kind with h1 | ⟨rfl, h2⟩
    · exact .inl h1
    · simp [sk] at l2
  · rw [if_neg c, if_neg c]
    exact h.keep hq
/-! ### the calls, kinds that are none too -/
section
variable {w0 w : World} {base : Nat} {own : Nat → Nat} {g q : Nat} {kd : Int} {sl : List S76} {fr told : List Int} {vs vf : Value}
theorem t_add (hT : TB w base (tg own 0) g kd sl fr) (hI : InvP q kd sl fr told) (hk : -9223372036854775808 ≤ kd ∧ kd ≤ 9223372036854775807) (v : Int) (hbase : base ≤ w.heap.size) :
    Calls Try.prog 10 #[.pointer (some ⟨g, 0, none⟩), .int .i64 v] w fun e w' => e = .returned (.int .u64 (aH kd sl fr)) ∧ TB w' base (tg (up own w.heap.size 0) 0) g kd (aL kd sl fr v) (aF kd fr) ∧ Fr base (tg (up own w.heap.size 0) 0) w w' := by
  unfold aH aL aF
  by_cases c : okK kd
  · rw [if_pos c, if_pos c, if_pos c]
    exact add_own hT hI.good c v hbase
  · rw [if_neg c, if_neg c, if_neg c]
    refine (add_bad hT v hk c).mono ?_
    rintro e w' ⟨rfl, hb⟩
    exact ⟨rfl, (TB_up hT).below hb, fr_below own 0 hb hbase⟩
theorem r_add (hbe : base = w0.heap.size) (hR : RS w base own 3 vs vf sl fr) (hB : Below base w0 w) (hI : InvP q kd sl fr told) (v : Int) (hbase : base ≤ w.heap.size) :
    Calls Try.prog 23 #[.agg #[.int .i64 kd, vs, vf], .int .i64 v] w fun e w' => ∃ v1 v2, e = .returned (.tuple #[.agg #[.int .i64 kd, v1, v2], .int .u64 (aH kd sl fr)]) ∧ RS w' base (up own w.heap.size 3) 3 v1 v2 (aL kd sl fr v) (aF kd fr) ∧ Fr base (tg (up own w.heap.size 3) 3) w w' := by
  have hlen := hI.good.len
  rw [sk_length] at hlen
  unfold aH aL aF
  by_cases c : okK kd
  · rw [if_pos c, if_pos c, if_pos c]
    by_cases c2 : fr = []
    · subst c2
      refine (refadd_new hbe hR hB hbase (by decide) kd v c hlen).mono ?_
      rintro e w' ⟨v1, v2, rfl, h1, h2⟩
      refine ⟨v1, v2, ?_, ?_, h2⟩
      · rw [addI_nil, addG_nil, sk_length]
      · unfold addL; rw [if_pos rfl]; exact h1
    · obtain ⟨f, i, rfl, hi, hu⟩ := hI.good.last c2
      rw [sk_length] at hi
      have hgn := hI.good.genAt i
      have ea : addI (sk sl) (f ++ [(i : Int)]) = i := addI_snoc _ _ _
      have eg : addG (sk sl) (f ++ [(i : Int)]) = (sl.getD i z76).f2 := by unfold addG; rw [if_neg c2, ea, sk_getD]
      rw [sk_getD] at hgn
      refine (refadd_old hbe hR hB hbase (by decide) kd v c hlen hi hgn (by have := hI.good.flen; simp at this; omega)).mono ?_
      rintro e w' ⟨v1, v2, rfl, h1, h2⟩
      refine ⟨v1, v2, by rw [ea, eg], ?_, h2⟩
      unfold addL
      rw [if_neg c2, ea, eg, List.dropLast_concat]
      exact h1
  · rw [if_neg c, if_neg c, if_neg c]
    refine (refadd_bad hR kd v c).mono ?_
    rintro e w' ⟨rfl, hb⟩
    exact ⟨vs, vf, rfl, (RS.lift hR).below hb, fr_below own 3 hb hbase⟩
theorem t_set (hT : TB w base (tg own 0) g kd sl fr) (hd v : Int) (h0 : 0 ≤ hd) (h1 : hd < 18446744073709551616) (hbase : base ≤ w.heap.size) :
    Calls Try.prog 22 #[.pointer (some ⟨g, 0, none⟩), .int .u64 hd, .int .i64 v] w fun e w' => e = .returned (.bool (lvS kd (sk sl) hd)) ∧ TB w' base (tg (up own w.heap.size 0) 0) g kd (sL kd sl hd v) fr ∧ Fr base (tg (up own w.heap.size 0) 0) w w' := by
  unfold sL
  cases c : lvS kd (sk sl) hd with
  | true => exact set_own hT hd v h1 hbase c
  | false =>
    refine (set_not hT hd v h0 h1 c).mono ?_
    rintro e w' ⟨rfl, hb⟩
    exact ⟨rfl, (TB_up hT).below hb, fr_below own 0 hb hbase⟩
theorem r_set (hbe : base = w0.heap.size) (hR : RS w base own 3 vs vf sl fr) (hB : Below base w0 w) (hI : InvP q kd sl fr told) (hd v : Int) (h0 : 0 ≤ hd) (h1 : hd < 18446744073709551616) (hbase : base ≤ w.heap.size) :
    Calls Try.prog 25 #[.agg #[.int .i64 kd, vs, vf], .int .u64 hd, .int .i64 v] w fun e w' => ∃ v1 v2, e = .returned (.tuple #[.agg #[.int .i64 kd, v1, v2], .bool (lvS kd (sk sl) hd)]) ∧ RS w' base (up own w.heap.size 3) 3 v1 v2 (sL kd sl hd v) fr ∧ Fr base (tg (up own w.heap.size 3) 3) w w' := by
  unfold sL
  cases c : lvS kd (sk sl) hd with
  | true =>
    have hk : okK kd := by
      rcases hI.kind with h | ⟨rfl, _⟩
      · exact h
      · have := (lvS_iff.1 c).2.1; simp [sk] at this
    exact refset_yes hbe hR hB hbase (by decide) kd hd v hk hI.good h0 h1 c
  | false =>
    refine (refset_no hR kd hd v hI.kind' hI.good h0 h1 c).mono ?_
    rintro e w' ⟨rfl, hb⟩
    exact ⟨vs, vf, rfl, (RS.lift hR).below hb, fr_below own 3 hb hbase⟩
theorem t_drop (hT : TB w base (tg own 0) g kd sl fr) (hI : InvP q kd sl fr told) (hd : Int) (h0 : 0 ≤ hd) (h1 : hd < 18446744073709551616) (hbase : base ≤ w.heap.size) :
    Calls Try.prog 11 #[.pointer (some ⟨g, 0, none⟩), .int .u64 hd] w fun e w' => e = .returned (.bool (lvS kd (sk sl) hd)) ∧ TB w' base (tg (up own w.heap.size 0) 0) g kd (dL kd sl hd) (dF kd sl fr hd) ∧ Fr base (tg (up own w.heap.size 0) 0) w w' := by
  unfold dL dF
  cases c : lvS kd (sk sl) hd with
  | true => exact drop_own hT hI.good hd h0 h1 hbase c
  | false =>
    refine (drop_not hT hd h0 h1 c).mono ?_
    rintro e w' ⟨rfl, hb⟩
    exact ⟨rfl, (TB_up hT).below hb, fr_below own 0 hb hbase⟩
theorem r_drop (hbe : base = w0.heap.size) (hR : RS w base own 3 vs vf sl fr) (hB : Below base w0 w) (hI : InvP q kd sl fr told) (hd : Int) (h0 : 0 ≤ hd) (h1 : hd < 18446744073709551616) (hbase : base ≤ w.heap.size) :
    Calls Try.prog 26 #[.agg #[.int .i64 kd, vs, vf], .int .u64 hd] w fun e w' => ∃ v1 v2, e = .returned (.tuple #[.agg #[.int .i64 kd, v1, v2], .bool (lvS kd (sk sl) hd)]) ∧ RS w' base (up own w.heap.size 3) 3 v1 v2 (dL kd sl hd) (dF kd sl fr hd) ∧ Fr base (tg (up own w.heap.size 3) 3) w w' := by
  unfold dL dF
  cases c : lvS kd (sk sl) hd with
  | true =>
    have hk : okK kd := by
      rcases hI.kind with h | ⟨rfl, _⟩
      · exact h
      · have := (lvS_iff.1 c).2.1; simp [sk] at this
    exact refdrop_yes hbe hR hB hbase (by decide) (by decide) kd hd hk hI.good h0 h1 c
  | false =>
    refine (refdrop_no hR kd hd hI.kind' hI.good h0 h1 c).mono ?_
    rintro e w' ⟨rfl, hb⟩
    exact ⟨vs, vf, rfl, (RS.lift hR).below hb, fr_below own 3 hb hbase⟩
/-- The law's variable is written: what came of the call. -/
theorem put53 {gw : Nat} {x y z : Value} (hG : w.heap[gw]? = some (.cells #[x, y, z] 53 (0, 0))) (hO : own gw = 9) (hgb : base ≤ gw) (hbase : base ≤ w.heap.size) (o : Obj) (u u1 u2 : Value) :
    Fr base (tg (up own w.heap.size 9) 9) w ((((w.setCell ⟨gw, 0, none⟩ u).setCell ⟨gw, 1, none⟩ u1).setCell ⟨gw, 2, none⟩ u2).alloc o) ∧ ((((w.setCell ⟨gw, 0, none⟩ u).setCell ⟨gw, 1, none⟩ u1).setCell ⟨gw, 2, none⟩ u2).alloc o).heap[gw]? = some (.cells #[u, u1, u2] 53 (0, 0)) ∧ ∀ b ob, b ≠ gw → w.heap[b]? = some ob → ((((w.setCell ⟨gw, 0, none⟩ u).setCell ⟨gw, 1, none⟩ u1).setCell ⟨gw, 2, none⟩ u2).alloc o).heap[b]? = some ob := by
  have hlt := (Array.getElem?_eq_some_iff.1 hG).1
  have ht : tg (up own w.heap.size 9) 9 gw := up_keep hO hlt
  have hF := (((Fr.refl base (tg (up own w.heap.size 9) 9) w).set hgb ht 0 u).set hgb ht 1 u1).set hgb ht 2 u2
  have hs := set3_all hG (u := u) (u1 := u1) (u2 := u2)
  have hk : ∀ b, b ≠ gw → (((w.setCell ⟨gw, 0, none⟩ u).setCell ⟨gw, 1, none⟩ u1).setCell ⟨gw, 2, none⟩ u2).heap[b]? = w.heap[b]? := fun b hne => by
    rw [Below.heap_setCell _ _ _ _ hne, Below.heap_setCell _ _ _ _ hne, Below.heap_setCell _ _ _ _ hne]
  have hsz : (((w.setCell ⟨gw, 0, none⟩ u).setCell ⟨gw, 1, none⟩ u1).setCell ⟨gw, 2, none⟩ u2).heap.size = w.heap.size := by simp
  generalize ((w.setCell ⟨gw, 0, none⟩ u).setCell ⟨gw, 1, none⟩ u1).setCell ⟨gw, 2, none⟩ u2 = W at hF hs hk hsz ⊢
  have hb : Below W.heap.size W (W.alloc o) := below_alloc (Below.refl _ _) o
  refine ⟨⟨hF.b.trans (hb.mono (by omega)), fun i hi hn => (hb.block i (by omega)).trans (hF.k i hi hn)⟩, (hb.block _ (by omega)).trans hs, fun b ob hne hob => ?_⟩
  have hblt := (Array.getElem?_eq_some_iff.1 hob).1
  exact (hb.block _ (by omega)).trans ((hk b hne).trans hob)
end
/-! ### the tests behind each act -/
section
variable {W W1 : World} {base : Nat} {own : Nat → Nat} {g q : Nat} {kd : Int} {sl : List S76} {fr told : List Int} {vs vf : Value}
theorem q_len (hT : TB W base (tg own 0) g kd sl fr) (hb : Below W.heap.size W W1) : Calls Try.prog 13 #[.pointer (some ⟨g, 0, none⟩)] W1 fun e w' => e = .returned (.int .i64 ((sl.length : Int) - (fr.length : Int))) ∧ Below W1.heap.size W1 w' := len_own (hT.below hb)
theorem q_handles (hT : TB W base (tg own 0) g kd sl fr) (hI : InvP q kd sl fr told) (hk : -9223372036854775808 ≤ kd ∧ kd ≤ 9223372036854775807) (hb : Below W.heap.size W W1) : Calls Try.prog 28 #[.pointer (some ⟨g, 0, none⟩)] W1 fun e w' => ∃ A c, e = .returned (.slice A (hS kd (sk sl) 0).length c) ∧ (hS kd (sk sl) 0).length ≤ c ∧ (Kd.int .u64).C w' A (hS kd (sk sl) 0).length (hS kd (sk sl) 0) ∧ Below W1.heap.size W1 w' :=
  (handles_own (hT.below hb) hI.good hk).mono fun e w' ⟨v, he, hR, hB⟩ => by
    obtain ⟨A, c, rfl, hc, hC⟩ := Kd.R_reads hR
    exact ⟨A, c, he, hc, hC, hB⟩
theorem q_rhandles (hR : RS W base own 3 vs vf sl fr) (hI : InvP q kd sl fr told) (hk : -9223372036854775808 ≤ kd ∧ kd ≤ 9223372036854775807) (hb : Below W.heap.size W W1) : Calls Try.prog 29 #[.agg #[.int .i64 kd, vs, vf]] W1 fun e w' => ∃ A c, e = .returned (.slice A (hS kd (sk sl) 0).length c) ∧ (hS kd (sk sl) 0).length ≤ c ∧ (Kd.int .u64).C w' A (hS kd (sk sl) 0).length (hS kd (sk sl) 0) ∧ Below W1.heap.size W1 w' :=
  (refhandles (hR.below hb) kd hk (gen_of hI.good) (by have := hI.good.len; rw [sk_length] at this; omega)).mono fun e w' ⟨v, he, hR, hB⟩ => by
    rw [hfrom_sk] at hR
    obtain ⟨A, c, rfl, hc, hC⟩ := Kd.R_reads hR
    exact ⟨A, c, he, hc, hC, hB⟩
theorem q_same {l : List Int} {A1 A2 : Option Addr} {n c1 c2 : Nat} (hn : n = l.length) (h1 : (Kd.int .u64).C W A1 n l) (hc1 : n ≤ c1) (h2 : (Kd.int .u64).C W A2 n l) (hc2 : n ≤ c2) (hl : n ≤ 1000000) : Calls Try.prog 27 #[.slice A1 n c1, .slice A2 n c2] W fun e w' => e = .returned (.bool true) ∧ Below W.heap.size W w' := by
  subst hn
  exact (steadingref13_Same.calls _ A1 c1 l A2 c2 l true W h1 hc1 h2 hc2 (same_refl l hl)).mono fun e w' ⟨he, hd⟩ => ⟨he, hd.below⟩
theorem hS_len {q : Nat} (hI : InvP q kd sl fr told) : (hS kd (sk sl) 0).length ≤ 200 := by
  have h1 := hI.good.count kd
  have h2 := hI.good.len
  omega
end
end Go.Proofs.Ytgcbfbdhibbpdaa.Tb
