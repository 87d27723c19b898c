/- A table's block and rows: one row anew, a slot written. -/
import Derived.Test.YtgcbfbdhibbpdaaMNew
set_option linter.unusedVariables false
set_option linter.unusedSimpArgs false
namespace Go.Proofs.Ytgcbfbdhibbpdaa.Tb
open Go.RowKit Go.Proofs.YtgcbfbdhibbpdaaW.PrintWords Go.Proofs.YtgcbfbdhibbpdaaW.PrintLast Go.Proofs.YtgcbfbdhibbpdaaW.PrintMore
attribute [local go_sem] max2_int min2_int
theorem set3_2 {w : World} {g : Nat} {x y z u : Value} {t : TypeId} (h : w.heap[g]? = some (.cells #[x, y, z] t (0, 0))) : (w.setCell ⟨g, 2, none⟩ u).heap[g]? = some (.cells #[x, y, u] t (0, 0)) := by
  have hlt := lt_of_block h
  have h' : w.heap[g] = .cells #[x, y, z] t (0, 0) := by simpa [Array.getElem?_eq_getElem hlt] using h
  show (w.heap.modify g _)[g]? = _
  rw [Array.getElem?_eq_getElem (by simpa using hlt), Array.getElem_modify_self, h']
  rfl
theorem set3_1 {w : World} {g : Nat} {x y z u : Value} {t : TypeId} (h : w.heap[g]? = some (.cells #[x, y, z] t (0, 0))) : (w.setCell ⟨g, 1, none⟩ u).heap[g]? = some (.cells #[x, u, z] t (0, 0)) := by
  have hlt := lt_of_block h
  have h' : w.heap[g] = .cells #[x, y, z] t (0, 0) := by simpa [Array.getElem?_eq_getElem hlt] using h
  show (w.heap.modify g _)[g]? = _
  rw [Array.getElem?_eq_getElem (by simpa using hlt), Array.getElem_modify_self, h']
  rfl
/-- The row of slots stays while the row of free ones is written (its own block is of another type). -/
theorem slots_apart {w w1 : World} {base : Nat} {ok ok2 : Nat → Prop} {vs vf : Value} {sl : List S76} {fr : List Int} (hR : k76.R 76 w base ok vs sl) (hF : (Kd.int .i64).R 3 w base ok2 vf fr) (hg : w.grownBy w1 vf.ownBlock) : k76.R 76 w1 base ok vs sl := by
  cases hv : vf.ownBlock with
  | none => exact Kd.R_step hR (fun k _ hk => hg.block k hk (by rw [hv]; simp))
  | some b =>
    obtain ⟨cells, hc⟩ := own_typed (Kd.R_own hF).choose_spec b hv
    refine Kd.R_mono (Kd.R_step (Kd.R_types hR hc (by decide)) (fun k hk2 hk => hg.block k hk (by rw [hv]; intro e; injection e with e; exact hk2.2 e))) (fun k hk => hk.1)
theorem free_apart {w w1 : World} {base : Nat} {ok ok2 : Nat → Prop} {vs vf : Value} {sl : List S76} {fr : List Int} (hR : k76.R 76 w base ok2 vs sl) (hF : (Kd.int .i64).R 3 w base ok vf fr) (hg : w.grownBy w1 vs.ownBlock) : (Kd.int .i64).R 3 w1 base ok vf fr := by
  cases hv : vs.ownBlock with
  | none => exact Kd.R_step hF (fun k _ hk => hg.block k hk (by rw [hv]; simp))
  | some b =>
    obtain ⟨cells, hc⟩ := own_typed (Kd.R_own hR).choose_spec b hv
    refine Kd.R_mono (Kd.R_step (Kd.R_types hF hc (by decide)) (fun k hk2 hk => hg.block k hk (by rw [hv]; intro e; injection e with e; exact hk2.2 e))) (fun k hk => hk.1)
/-- The table's own block is no row's. -/
theorem block_apart {w w1 : World} {base : Nat} {ok2 : Nat → Prop} {α : Type} {d : Kd α} {e : Nat} {g : Nat} {cs : Array Value} {vf : Value} {fr : List α} (hb : w.heap[g]? = some (.cells cs 74 (0, 0))) (hF : d.R e w base ok2 vf fr) (he : e ≠ 74) (hg : w.grownBy w1 vf.ownBlock) : w1.heap[g]? = some (.cells cs 74 (0, 0)) := by
  refine (hg.block g (lt_of_block hb) ?_).trans hb
  intro hv
  obtain ⟨cells, hc⟩ := own_typed (Kd.R_own hF).choose_spec g hv.symm
  rw [hb] at hc
  injection hc with hc; injection hc with _ h2 _
  exact he h2.symm
/-- A row stays while the table's own block is written. -/
theorem row_set {w : World} {base : Nat} {ok : Nat → Prop} {α : Type} {d : Kd α} {e : Nat} {g : Nat} {cs : Array Value} {vf : Value} {fr : List α} (hb : w.heap[g]? = some (.cells cs 74 (0, 0))) (hF : d.R e w base ok vf fr) (he : ∀ q, q ∈ e :: d.E → q ≠ 74) (j : Nat) (u : Value) : d.R e (w.setCell ⟨g, j, none⟩ u) base ok vf fr :=
  Kd.R_mono (Kd.R_step (Kd.R_types hF hb he) (fun k hk2 _ => Below.heap_setCell _ _ _ _ hk2.2)) (fun k hk => hk.1)
/-- The row of free ones is another one. -/
theorem TB.free_new {w w1 : World} {base : Nat} {ok : Nat → Prop} {g : Nat} {kd : Int} {sl : List S76} {fr fr' : List Int} {vs vf v1 : Value} (h0 : ok g ∧ base ≤ g) (hb : w.heap[g]? = some (.cells #[.int .i64 kd, vs, vf] 74 (0, 0))) (hR : k76.R 76 w base ok vs sl) (hF : (Kd.int .i64).R 3 w base ok vf fr) (hg : w.grownBy w1 vf.ownBlock) (hF1 : (Kd.int .i64).R 3 w1 base ok v1 fr') :
    TB (w1.setCell ⟨g, 2, none⟩ v1) base ok g kd sl fr' ∧ Fr base ok w (w1.setCell ⟨g, 2, none⟩ v1) := by
  have hb1 := block_apart hb hF (by decide) hg
  refine ⟨⟨h0, vs, v1, set3_2 hb1, row_set hb1 (slots_apart hR hF hg) (by decide) _ _, row_set hb1 hF1 (by decide) _ _⟩, ?_⟩
  have hown : ∀ k, vf.ownBlock = some k → ok k ∧ base ≤ k := fun k hk => ⟨hF.1 k hk, by
    rcases Kd.R_base2 hF with h | ⟨j, hj, hbj⟩
    · rw [h] at hk; exact absurd hk (by simp)
    · rw [hj] at hk; injection hk with hk; omega⟩
  have hF0 : Fr base ok w w1 := ⟨⟨hg.os, hg.tape, hg.output, hg.size, fun k hk => by
      by_cases c : k < w.heap.size
      · exact hg.block k c (fun e => by have := (hown k e.symm).2; omega)
      · have := lt_of_block hb; omega⟩, fun i hi hn => hg.block i hi (fun e => hn (hown i e.symm).1)⟩
  exact hF0.set h0.2 h0.1 _ _
theorem TB.slots_new {w w1 : World} {base : Nat} {ok : Nat → Prop} {g : Nat} {kd : Int} {sl sl' : List S76} {fr : List Int} {vs vf v1 : Value} (h0 : ok g ∧ base ≤ g) (hb : w.heap[g]? = some (.cells #[.int .i64 kd, vs, vf] 74 (0, 0))) (hR : k76.R 76 w base ok vs sl) (hF : (Kd.int .i64).R 3 w base ok vf fr) (hg : w.grownBy w1 vs.ownBlock) (hR1 : k76.R 76 w1 base ok v1 sl') :
    TB (w1.setCell ⟨g, 1, none⟩ v1) base ok g kd sl' fr ∧ Fr base ok w (w1.setCell ⟨g, 1, none⟩ v1) := by
  have hb1 := block_apart hb hR (by decide) hg
  refine ⟨⟨h0, v1, vf, set3_1 hb1, row_set hb1 hR1 (by decide) _ _, row_set hb1 (free_apart hR hF hg) (by decide) _ _⟩, ?_⟩
  have hown : ∀ k, vs.ownBlock = some k → ok k ∧ base ≤ k := fun k hk => ⟨hR.1 k hk, by
    rcases Kd.R_base2 hR with h | ⟨j, hj, hbj⟩
    · rw [h] at hk; exact absurd hk (by simp)
    · rw [hj] at hk; injection hk with hk; omega⟩
  have hF0 : Fr base ok w w1 := ⟨⟨hg.os, hg.tape, hg.output, hg.size, fun k hk => by
      by_cases c : k < w.heap.size
      · exact hg.block k c (fun e => by have := (hown k e.symm).2; omega)
      · have := lt_of_block hb; omega⟩, fun i hi hn => hg.block i hi (fun e => hn (hown i e.symm).1)⟩
  exact hF0.set h0.2 h0.1 _ _
/-! ### Drop -/
theorem slot_drop {w : World} {base : Nat} {ok : Nat → Prop} {g : Nat} {kd : Int} {sl : List S76} {fr : List Int} {sb c : Nat} {vf : Value} (h : TB w base ok g kd sl fr) (hb : w.heap[g]? = some (.cells #[.int .i64 kd, .slice (some ⟨sb, 0, none⟩) sl.length c, vf] 74 (0, 0))) {i : Nat} (hi : i < sl.length) (x : S76) :
    TB (((w.setCell ⟨sb, i * 3, none⟩ (.int .i64 x.f0)).setCell ⟨sb, i * 3 + 1, none⟩ (.bool x.f1)).setCell ⟨sb, i * 3 + 2, none⟩ (.int .i64 x.f2)) base ok g kd (sl.set i x) fr ∧ Fr base ok w (((w.setCell ⟨sb, i * 3, none⟩ (.int .i64 x.f0)).setCell ⟨sb, i * 3 + 1, none⟩ (.bool x.f1)).setCell ⟨sb, i * 3 + 2, none⟩ (.int .i64 x.f2)) ∧ (((w.setCell ⟨sb, i * 3, none⟩ (.int .i64 x.f0)).setCell ⟨sb, i * 3 + 1, none⟩ (.bool x.f1)).setCell ⟨sb, i * 3 + 2, none⟩ (.int .i64 x.f2)).heap[g]? = some (.cells #[.int .i64 kd, .slice (some ⟨sb, 0, none⟩) sl.length c, vf] 74 (0, 0)) := by
  obtain ⟨h0, vs, vf2, hb2, hR, hF⟩ := h
  rw [hb] at hb2
  obtain ⟨rfl, e3'⟩ : vs = .slice (some ⟨sb, 0, none⟩) sl.length c ∧ vf = vf2 := by
    simp only [Option.some.injEq, Obj.cells.injEq] at hb2
    have := hb2.1
    simp only [Array.mk.injEq, List.cons.injEq] at this
    exact ⟨this.2.1.symm, this.2.2.1⟩
  subst e3'
  obtain ⟨sb', c', he, hbb, ho, hc, e0, e1, e2, hf⟩ := k76_at hR hi
  obtain ⟨e1', e2'⟩ : sb = sb' ∧ c = c' := by
    simp only [Value.slice.injEq, Option.some.injEq, Addr.mk.injEq] at he
    exact ⟨he.1.1, he.2.2⟩
  subst e1' e2'
  clear e0 e1 e2 hf
  obtain ⟨cs, hcl, hM, hcc, hfr⟩ := Kd.R_elem hR z76 (i : Int) (by omega) (by omega)
  have hMM : (i : Int).toNat * k76.sz = i * 3 := by rw [Int.toNat_natCast]; rfl
  have hcs := k76_openM hM
  rw [Int.toNat_natCast] at hcs
  subst hcs
  have hs := Kd.R_seg hR (i : Int) (by omega) (by omega) (seg := [.int .i64 x.f0, .bool x.f1, .int .i64 x.f2]) (j := 0) (x' := x) (okp := fun _ => False) hcl hcc (show 0 + 3 ≤ 3 by decide) (k76_mkM w base _ x) (fun _ h => h.elim)
  rw [hMM, Int.toNat_natCast] at hs
  have hsw : w.setCells sb (i * 3 + 0) [.int .i64 x.f0, .bool x.f1, .int .i64 x.f2] = (((w.setCell ⟨sb, i * 3, none⟩ (.int .i64 x.f0)).setCell ⟨sb, i * 3 + 1, none⟩ (.bool x.f1)).setCell ⟨sb, i * 3 + 2, none⟩ (.int .i64 x.f2)) := rfl
  rw [hsw] at hs
  have hgs : g ≠ sb := by
    intro e
    obtain ⟨cells, hc⟩ := hc
    rw [← e, hb] at hc
    simp at hc
  have hk : ∀ k, k ≠ sb → (((w.setCell ⟨sb, i * 3, none⟩ (.int .i64 x.f0)).setCell ⟨sb, i * 3 + 1, none⟩ (.bool x.f1)).setCell ⟨sb, i * 3 + 2, none⟩ (.int .i64 x.f2)).heap[k]? = w.heap[k]? := fun k hk => (Below.heap_setCell _ _ _ _ hk).trans ((Below.heap_setCell _ _ _ _ hk).trans (Below.heap_setCell _ _ _ _ hk))
  have hlen : (sl.set i x).length = sl.length := by simp
  have hgb := (hk g hgs).trans hb
  refine ⟨⟨h0, .slice (some ⟨sb, 0, none⟩) sl.length c, vf, hgb, hs.1, ?_⟩, (((Fr.refl base ok w).set hbb ho _ _).set hbb ho _ _).set hbb ho _ _, hgb⟩
  obtain ⟨cells, hc⟩ := hc
  exact Kd.R_mono (Kd.R_step (Kd.R_types hF hc (by decide)) (fun k hk2 _ => hk k hk2.2)) (fun k hk => hk.1)
end Go.Proofs.Ytgcbfbdhibbpdaa.Tb
