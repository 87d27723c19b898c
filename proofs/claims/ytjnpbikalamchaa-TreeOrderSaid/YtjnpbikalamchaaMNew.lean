/- A tree's New. -/
import Derived.Test.YtjnpbikalamchaaMNode
set_option linter.unusedVariables false
set_option linter.unusedSimpArgs false
namespace Go.Proofs.Ytjnpbikalamchaa.Tr
open Go.RowKit Go.Maps Go.Proofs.YtjnpbikalamchaaW.PrintWords Go.Proofs.YtjnpbikalamchaaW.PrintLast Go.Proofs.YtjnpbikalamchaaW.PrintMore
attribute [local go_sem] max2_int min2_int
theorem mapBelow {w0 w w1 : World} {b : Nat} (h : Below w0.heap.size w0 w) (ht : w.mapTurned w1 b) (hb : w0.heap.size ≤ b) : Below w0.heap.size w0 w1 :=
  h.grown ht.grown h.size (fun j hj => by injection hj with hj; omega)
theorem turned_size {w w1 : World} {b : Nat} (h : w.mapTurned w1 b) : w1.heap.size = w.heap.size := by
  obtain ⟨es, clock, es', clock', hb, rfl⟩ := h
  simp [Go.ChangeMaps.setBlock]
theorem heap_alloc_new (w : World) (o : Obj) : (w.alloc o).heap[w.heap.size]? = some o := by unfold World.alloc; exact Array.getElem?_push_size
theorem heap_alloc_old (w : World) (o : Obj) {k : Nat} (h : k < w.heap.size) : (w.alloc o).heap[k]? = w.heap[k]? := by
  have := (Below.refl w.heap.size w).alloc (Nat.le_refl _) o
  exact this.block k h
set_option maxHeartbeats 1000000 in
theorem new_calls (w : World) (base : Nat) (ok : Nat → Prop) (hbase : base ≤ w.heap.size) (hfresh : ∀ k, w.heap.size ≤ k → ok k) :
    Calls Try.prog 9 #[] w fun e w' => ∃ g, e = .returned (.pointer (some ⟨g, 0, none⟩)) ∧ TR w' base ok g [] ∧ Below w.heap.size w w' := by
  have hmm := @run_makeMap Try.prog
  have ho0 := (World.ownsMap_made w Try.prog 27 Rp).alloc (.cells #[.int .u64 0, .slice none 0 0] 54)
  obtain ⟨W2, hrun2, hown2, hturn2⟩ := ho0.store law27 Try.underlying55 (by decide) (kl := .int .u64 0) (key27 (by unfold u64; omega)) (val := .pointer (some ⟨w.heap.size + 1, 0, none⟩)) (d := .lit (.int .u64 ((w.heap.size + 1 : Nat) : Int))) (ps := []) rfl
  have hs2 : W2.heap.size = w.heap.size + 2 := by rw [turned_size hturn2]; simp
  have hb2 : Below w.heap.size w W2 := mapBelow (below_alloc (below_alloc (Below.refl _ _) _) _) hturn2 (Nat.le_refl _)
  have hn2 : W2.heap[w.heap.size + 1]? = some (.cells #[.int .u64 0, .slice none 0 0] 54 (0, 0)) := by
    rw [hturn2.grown.block _ (by simp) (by simp)]
    have := heap_alloc_new (w.alloc (.map #[] 0)) (.cells #[.int .u64 0, .slice none 0 0] 54)
    simpa using this
  have HO2 := Aside0.mk hown2
  have HB2 := Aside0.mk hb2
  have HN2 := Aside0.mk hn2
  have HS2 := Aside0.mk hs2
  clear ho0 hown2 hturn2 hb2 hn2 hs2
  go_enter Try.func9, Try.ntmps9
  go_wp2_with fail
  go_ret
  refine ⟨W2.heap.size, rfl, ⟨WfT.nil, w.heap.size, fun g => if g = 0 then w.heap.size + 1 else 0, fun k => if k = w.heap.size + 1 then 2 else 0, (DataW.map []).put (Lit.int IntKind.u64 0) (DataW.lit (Lit.int IntKind.u64 ↑(w.heap.size + 1))), ?_⟩, below_alloc HB2.out _⟩
  have e2 : W2.heap.size = w.heap.size + 2 := HS2.out
  refine ⟨heap_alloc_new _ _, by omega, hfresh _ (by omega), by simp [e2], hbase, hfresh _ (Nat.le_refl _), by simp, HO2.out.alloc _, ?_, ?_, ?_⟩
  · have := MapT.start.put (h := 0) rfl (w.heap.size + 1)
    refine ⟨this.tidy, fun h => ?_, fun h hh => ?_, this.size⟩
    · rw [this.has]; simp [inT, ids]
    · have h0 : h = 0 := by simpa [inT, ids] using hh
      have := this.at_ h (by simp [h0])
      rw [this]
  · intro id hid
    have h0 : id = 0 := by simpa [inT, ids] using hid
    subst h0; unfold u64; omega
  · intro id hid
    have h0 : id = 0 := by simpa [inT, ids] using hid
    subst h0
    rw [if_pos rfl]
    refine ⟨.slice none 0 0, ?_, by omega, hfresh _ (by omega), by simp [tN], Kd.R_nil _ _ _ _ _⟩
    rw [heap_alloc_old _ _ (by omega)]
    exact HN2.out
end Go.Proofs.Ytjnpbikalamchaa.Tr
