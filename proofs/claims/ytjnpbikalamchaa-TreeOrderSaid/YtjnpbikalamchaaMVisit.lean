/- Order's visit: the recursive closure. -/
import Derived.Test.YtjnpbikalamchaaMIter
set_option linter.unusedVariables false
set_option linter.unusedSimpArgs false
namespace Go.Proofs.Ytjnpbikalamchaa.Tr
open Go.RowKit Go.Maps Go.Shelf Go.Proofs.YtjnpbikalamchaaW.PrintWords Go.Proofs.YtjnpbikalamchaaW.PrintLast Go.Proofs.YtjnpbikalamchaaW.PrintMore
attribute [local go_sem] Oper.semAt_some
/-- What is visited, by depth. -/
def ordF (ki : Int → List Int) : Nat → Int → List Int
  | 0, _ => []
  | k + 1, id => (ki id).reverse.flatMap (ordF ki k) ++ [id]
def Dp (ki : Int → List Int) : Nat → Int → Prop
  | 0, _ => False
  | k + 1, id => ∀ c ∈ ki id, Dp ki k c
/-- Between two visits. -/
structure VI (n₀ Bt Bv Bo g : Nat) (w0 : World) (acc : List Int) (W : World) (v : Value) : Prop where
  hB : Below n₀ w0 W
  bt : W.heap[Bt]? = some (.cells #[.pointer (some ⟨g, 0, none⟩)] 24 (0, 0))
  bv : W.heap[Bv]? = some (.cells #[.func (.func 31) #[] #[.pointer (some ⟨Bt, 0, none⟩), .pointer (some ⟨Bv, 0, none⟩), .pointer (some ⟨Bo, 0, none⟩)]] 64 (0, 0))
  bo : W.heap[Bo]? = some (.cells #[v] 33 (0, 0))
  row : (Kd.int .u64).R 27 W n₀ (fun k => v.ownBlock = some k) v acc
structure Vis (n₀ Bo : Nat) (W : World) (v : Value) (W' : World) (v' : Value) : Prop where
  hB : Below n₀ W W'
  blk : ∀ k, k < W.heap.size → k ≠ Bo → v.ownBlock ≠ some k → W'.heap[k]? = W.heap[k]?
  own : v'.ownBlock = v.ownBlock ∨ ∃ b, v'.ownBlock = some b ∧ W.heap.size ≤ b
theorem Vis.refl (n₀ Bo : Nat) (W : World) (v : Value) : Vis n₀ Bo W v W v := ⟨Below.refl _ _, fun _ _ _ _ => rfl, .inl rfl⟩
theorem Vis.trans {n₀ Bo : Nat} {W W1 W2 : World} {v v1 v2 : Value} (h : Vis n₀ Bo W v W1 v1) (k : Vis n₀ Bo W1 v1 W2 v2) : Vis n₀ Bo W v W2 v2 := by
  refine ⟨h.hB.trans k.hB, fun i hi hb ho => ?_, ?_⟩
  · rw [k.blk i (Nat.lt_of_lt_of_le hi h.hB.size) hb ?_, h.blk i hi hb ho]
    rcases h.own with e | ⟨b, e, hb2⟩
    · rw [e]; exact ho
    · rw [e]; intro e2; injection e2 with e2; omega
  · rcases k.own with e | ⟨b, e, hb2⟩
    · rw [e]; exact h.own
    · exact .inr ⟨b, e, Nat.le_trans h.hB.size hb2⟩
section
variable {n₀ Bt Bv Bo g : Nat} {w0 : World} {acc : List Int} {W W' : World} {v v' : Value}
theorem VI.typed (h : VI n₀ Bt Bv Bo g w0 acc W v) {k : Nat} (hk : v.ownBlock = some k) : ∃ cs, W.heap[k]? = some (.cells cs 27 (0, 0)) := own_typed (Kd.R_own h.row).choose_spec k hk
theorem VI.grown (h : VI n₀ Bt Bv Bo g w0 acc W v) {row : Option Nat} (hg : W.grownBy W' row) (hr : ∀ r, row = some r → n₀ ≤ r ∧ ∃ o : Obj, W.heap[r]? = some o ∧ o.isCells = false) (hn : n₀ ≤ w0.heap.size) : VI n₀ Bt Bv Bo g w0 acc W' v := by
  have hc : ∀ (k : Nat) cs t, W.heap[k]? = some (.cells cs t (0, 0)) → W'.heap[k]? = W.heap[k]? := fun k cs t hk => hg.block k (lt_blk hk) (fun e => by
    obtain ⟨_, o, ho, hc⟩ := hr k e.symm
    rw [hk] at ho; injection ho with ho; subst ho; simp [Obj.isCells] at hc)
  refine ⟨h.hB.grown hg (Nat.le_trans hn h.hB.size) (fun k e => (hr k e).1), (hc _ _ _ h.bt).trans h.bt, (hc _ _ _ h.bv).trans h.bv, (hc _ _ _ h.bo).trans h.bo, Kd.R_step h.row (fun k hk hlt => ?_)⟩
  obtain ⟨cs, hcs⟩ := h.typed hk
  exact hc k _ _ hcs
theorem Vis.grown {W0 : World} {v0 : Value} (h : Vis n₀ Bo W0 v0 W v) {B : Nat} {row : Option Nat} (hg : W.grownBy W' row) (hr : ∀ r, row = some r → B ≤ r) (hB : W0.heap.size ≤ B) (hn : n₀ ≤ W0.heap.size) : Vis n₀ Bo W0 v0 W' v :=
  ⟨h.hB.grown hg (Nat.le_trans hn h.hB.size) (fun k e => by have := hr k e; omega), fun k hk hb ho => (hg.block k (Nat.lt_of_lt_of_le hk h.hB.size) (fun e => by have := hr k e.symm; omega)).trans (h.blk k hk hb ho), h.own⟩
/-- What a visit leaves, in the law's words. -/
theorem VI.keeps (h : VI n₀ Bt Bv Bo g w0 acc W v) (hv : Vis n₀ Bo W v W' v') (B : Nat) : KeepsFrom B W W' :=
  ⟨hv.hB.size, fun k o _ hk ho => (hv.blk k (lt_blk hk) (by rintro rfl; rw [h.bo] at hk; injection hk with hk; subst hk; simp [Obj.isCells] at ho) (fun e => by obtain ⟨cs, hcs⟩ := h.typed e; rw [hcs] at hk; injection hk with hk; subst hk; simp [Obj.isCells] at ho)).trans hk⟩
theorem VI.kpb (h : VI n₀ Bt Bv Bo g w0 acc W v) (hv : Vis n₀ Bo W v W' v') {Bs : Nat} (hne : Bs ≠ Bo) : KpB n₀ Bs W W' :=
  ⟨hv.hB, fun u hu => (hv.blk Bs (lt_blk hu) hne (fun e => by obtain ⟨cs, hcs⟩ := h.typed e; rw [hu] at hcs; injection hcs with hcs; injection hcs with _ h2 _; exact absurd h2 (by decide))).trans hu⟩
theorem set1_0 {w : World} {g : Nat} {x u : Value} {t : TypeId} (h : w.heap[g]? = some (.cells #[x] t (0, 0))) : (w.setCell ⟨g, 0, none⟩ u).heap[g]? = some (.cells #[u] t (0, 0)) := by
  have hlt := lt_blk h
  have h' : w.heap[g] = .cells #[x] t (0, 0) := by simpa [Array.getElem?_eq_getElem hlt] using h
  show (w.heap.modify g _)[g]? = _
  rw [Array.getElem?_eq_getElem (by simpa using hlt), Array.getElem_modify_self, h']
  rfl
/-- A number more stands in out. -/
theorem VI.append (h : VI n₀ Bt Bv Bo g w0 acc W v) {w5 : World} {v1 : Value} {ys : List Int} (hR : (Kd.int .u64).R 27 w5 n₀ (fun k => v1.ownBlock = some k) v1 ys) (hg : W.grownBy w5 v.ownBlock) (hat : v1.ownBlock = v.ownBlock ∨ ∃ b, v1.ownBlock = some b ∧ W.heap.size ≤ b) (hn : n₀ ≤ w0.heap.size) (hbo : n₀ ≤ Bo) :
    VI n₀ Bt Bv Bo g w0 ys (w5.setCell ⟨Bo, 0, none⟩ v1) v1 ∧ Vis n₀ Bo W v (w5.setCell ⟨Bo, 0, none⟩ v1) v1 := by
  have hne : ∀ (k : Nat) cs t, W.heap[k]? = some (.cells cs t (0, 0)) → t ≠ 27 → w5.heap[k]? = some (.cells cs t (0, 0)) := fun k cs t hk ht =>
    (hg.block k (lt_blk hk) (fun e => by
      obtain ⟨cs', hcs⟩ := h.typed e.symm
      rw [hk] at hcs; injection hcs with hcs; injection hcs with _ e2 _; exact ht e2)).trans hk
  have hset : ∀ k, k ≠ Bo → (w5.setCell ⟨Bo, 0, none⟩ v1).heap[k]? = w5.heap[k]? := fun k hk => Below.heap_setCell _ _ _ _ hk
  have hBo5 := hne _ _ _ h.bo (by decide)
  have hb5 : Below n₀ W w5 := (Below.refl n₀ W).grown hg (Nat.le_trans hn h.hB.size) (fun k hk => own_base (Kd.R_own h.row).choose_spec k hk)
  have hb6 : Below n₀ W (w5.setCell ⟨Bo, 0, none⟩ v1) := hb5.setCell (p := ⟨Bo, 0, none⟩) hbo _
  refine ⟨⟨h.hB.trans hb6, ?_, ?_, set1_0 hBo5, Kd.R_step hR (fun k hk hlt => hset k ?_)⟩, hb6, fun k hk hb ho => ?_, hat⟩
  · rw [hset Bt (by rintro rfl; have := h.bt; rw [h.bo] at this; simp at this)]; exact hne _ _ _ h.bt (by decide)
  · rw [hset Bv (by rintro rfl; have := h.bv; rw [h.bo] at this; simp at this)]; exact hne _ _ _ h.bv (by decide)
  · rintro rfl
    obtain ⟨cs, hcs⟩ := own_typed (Kd.R_own hR).choose_spec _ hk
    rw [hBo5] at hcs; injection hcs with hcs; injection hcs with _ e2 _; exact absurd e2 (by decide)
  · rw [hset k hb, hg.block k hk (fun e => ho e.symm)]
end
/-- The children that come, from the last one. -/
structure Kid (ks : List Int) where
  i : Int
  c : Int
  mem : c ∈ ks
def kidsL (ks : List Int) : List (Kid ks) := (List.range ks.length).pmap (fun k (h : k < ks.length) => ⟨((ks.length - 1 - k : Nat) : Int), ks[ks.length - 1 - k]'(by omega), List.getElem_mem _⟩) (fun k hk => List.mem_range.1 hk)
theorem kids_items (ks : List Int) : Items (Kid.i) (Kid.c) (kidsL ks) ks := by
  refine ⟨by simp [kidsL], fun k hk => ?_, fun k hk => ?_⟩
  · simp [kidsL, List.getElem_pmap]
  · have hk' : k < ks.length := by simpa [kidsL] using hk
    have : (kidsL ks)[k].c = ks[ks.length - 1 - k]'(by omega) := by simp [kidsL, List.getElem_pmap]
    rw [this, List.getD_eq_getElem?_getD, List.getElem?_eq_getElem (by omega)]; rfl
theorem kids_rev (ks : List Int) : (kidsL ks).map Kid.c = ks.reverse := by
  apply List.ext_getElem
  · simp [kidsL]
  · intro i h1 h2
    simp [kidsL, List.getElem_pmap]
theorem kids_flat (ks : List Int) (f : Int → List Int) : (kidsL ks).flatMap (fun x => f x.c) = ks.reverse.flatMap f := by
  rw [← kids_rev, List.flatMap_map]
end Go.Proofs.Ytjnpbikalamchaa.Tr
