/- A tree's memory, step by step: a node more, a row written, a node less. -/
import Derived.Test.YtjnpbikalamchaaMNew
set_option linter.unusedVariables false
set_option linter.unusedSimpArgs false
namespace Go.Proofs.Ytjnpbikalamchaa.Tr
open Go.RowKit Go.Maps Go.Proofs.YtjnpbikalamchaaW.PrintWords Go.Proofs.YtjnpbikalamchaaW.PrintLast Go.Proofs.YtjnpbikalamchaaW.PrintMore
theorem blk2_f {w : World} {g : Nat} {x y : Value} {t : Nat} (h : w.heap[g]? = some (.cells #[x, y] t (0, 0))) (j : Nat) : w.frozen? ⟨g, j, none⟩ = false := by simp [World.frozen?, h]
theorem lt_blk {w : World} {g : Nat} {o : Obj} (h : w.heap[g]? = some o) : g < w.heap.size := (Array.getElem?_eq_some_iff.1 h).1
theorem set2_1 {w : World} {g : Nat} {x y u : Value} {t : TypeId} (h : w.heap[g]? = some (.cells #[x, y] t (0, 0))) : (w.setCell ⟨g, 1, none⟩ u).heap[g]? = some (.cells #[x, u] t (0, 0)) := by
  have hlt := lt_blk h
  have h' : w.heap[g] = .cells #[x, y] t (0, 0) := by simpa [Array.getElem?_eq_getElem hlt] using h
  show (w.heap.modify g _)[g]? = _
  rw [Array.getElem?_eq_getElem (by simpa using hlt), Array.getElem_modify_self, h']
  rfl
theorem tN_inj {a b : Int} (ha : u64 a) (hb : u64 b) (h : tN a = tN b) : a = b := by unfold tN at h; unfold u64 at ha hb; omega
theorem tR_inj {a b : Int} (ha : u64 a) (hb : u64 b) (h : tR a = tR b) : a = b := by unfold tR at h; unfold u64 at ha hb; omega
theorem tN_tR (a b : Int) : tN a ≠ tR b := by unfold tN tR; omega
/-- A row grew: the others' blocks are as they were. -/
theorem fr_grown_ok {α : Type} {d : Kd α} {e : Nat} {w w1 : World} {base : Nat} {ok : Nat → Prop} {v : Value} {xs : List α} (hR : d.R e w base ok v xs) (hg : w.grownBy w1 v.ownBlock) (hbase : base ≤ w.heap.size) : Fr base ok w w1 := by
  have hown : ∀ k, v.ownBlock = some k → ok k ∧ base ≤ k ∧ k < w.heap.size := fun k hk => ⟨hR.1 k hk, by
    rcases Kd.R_base2 hR with h | ⟨i, hi, hbi⟩
    · rw [h] at hk; exact absurd hk (by simp)
    · rw [hi] at hk; injection hk with hk; omega, own_lt (Kd.R_own hR).choose_spec k hk⟩
  refine ⟨⟨hg.os, hg.tape, hg.output, hg.size, fun k hk => hg.block k (by omega) (fun e => by have := (hown k e.symm).2.1; omega)⟩, fun i hi hn => hg.block i hi (fun e => hn ?_)⟩
  exact (hown i e.symm).1
theorem fr_turned {w w1 : World} {base : Nat} {ok : Nat → Prop} {m : Nat} (ht : w.mapTurned w1 m) (hm : ok m) (hb : base ≤ m) (hbase : base ≤ w.heap.size) : Fr base ok w w1 :=
  ⟨(Below.refl base w).grown ht.grown hbase (fun j hj => by injection hj with hj; omega), fun i hi hn => ht.grown.block i hi (fun e => hn (by injection e with e; rw [e]; exact hm))⟩
section
variable {w : World} {base : Nat} {ok : Nat → Prop} {g : Nat} {S : Int → Bool} {n : Nat} {pa : Int → Int} {ki : Int → List Int} {m : Nat} {nb : Int → Nat} {tag : Nat → Nat} {D : DataW Unit}
theorem NodeAt.lt {b : Nat} {id p : Int} {ks : List Int} (h : NodeAt w base ok tag b id p ks) : b < w.heap.size := by obtain ⟨_, h, _⟩ := h; exact lt_blk h
theorem TX.congr {S' : Int → Bool} {n' : Nat} {pa' : Int → Int} {ki' : Int → List Int} (h : TX w base ok g S n pa ki m nb tag D) (hS : ∀ x, S x = S' x) (hn : n = n') (hp : ∀ x, S x = true → pa x = pa' x) (hk : ∀ x, S x = true → ki x = ki' x) : TX w base ok g S' n' pa' ki' m nb tag D := by
  obtain rfl : S = S' := funext hS
  subst hn
  exact ⟨h.blk, h.gb, h.go, h.gt, h.mb, h.mo, h.mt, h.own, h.map, h.rng, fun id hid => by rw [← hp id hid, ← hk id hid]; exact h.node id hid⟩
/-- A node more. -/
theorem TX.put (h : TX w base ok g S n pa ki m nb tag D) {id p : Int} (hu : u64 id) (hn : S id = false) (j : Nat) (hbase : base ≤ w.heap.size) (hok : ok w.heap.size) {W2 : World}
    (ho : W2.ownsMap Try.prog 27 Rp m (n + 1) (D.put (.int .u64 id) (.lit (.int .u64 (w.heap.size : Int))))) (ht : (w.alloc (.cells #[.int .u64 p, .slice none 0 0] 54)).mapTurned W2 m) :
    TX W2 base ok g (fun x => decide (x = id) || S x) (n + 1) (fun x => if x = id then p else pa x) (fun x => if x = id then [] else ki x) m (fun x => if x = id then w.heap.size else nb x) (fun k => if k < w.heap.size then tag k else if k = w.heap.size then tN id else j) (D.put (.int .u64 id) (.lit (.int .u64 (w.heap.size : Int)))) := by
  have hold : ∀ k, k < w.heap.size → k ≠ m → W2.heap[k]? = w.heap[k]? := fun k hk hm => by
    rw [ht.grown.block k (by simp; omega) (by simpa using hm), heap_alloc_old _ _ hk]
  have hnew : W2.heap[w.heap.size]? = some (.cells #[.int .u64 p, .slice none 0 0] 54 (0, 0)) := by
    rw [ht.grown.block _ (by simp) (by have := h.own.lt; simp; omega)]
    exact heap_alloc_new w _
  have hgm : g ≠ m := by
    intro e
    obtain ⟨es, cl, hm, _⟩ := h.own
    have := h.blk
    rw [e, hm] at this
    simp at this
  have hgl := lt_blk h.blk
  have hml := h.own.lt
  refine ⟨(hold g hgl hgm).trans h.blk, h.gb, h.go, by simp [hgl, h.gt], h.mb, h.mo, by simp [hml, h.mt], ho, h.map.put hn _, ?_, ?_⟩
  · intro x hx
    by_cases c : x = id
    · rw [c]; exact hu
    · exact h.rng x (by simpa [c] using hx)
  · intro x hx
    by_cases c : x = id
    · subst c
      simp only [if_true]
      exact ⟨.slice none 0 0, hnew, hbase, hok, by simp, Kd.R_nil _ _ _ _ _⟩
    · simp only [c, if_false]
      have hn := h.node x (by simpa [c] using hx)
      refine NodeAt.step (w := w) (hn.mono (fun k hk ho => ho) (fun k hk => by simp [hk])) (fun k hk hlt htk => hold k hlt ?_)
      rintro rfl
      have hmt := h.mt
      simp only [hlt, if_true] at htk
      rw [hmt] at htk
      unfold tN tR at htk
      omega
/-- A row written anew: the node's block has it. -/
theorem TX.row (h : TX w base ok g S n pa ki m nb tag D) {p : Int} (hp : S p = true) {v v1 : Value} {ks : List Int} {w1 : World} (hb : w.heap[nb p]? = some (.cells #[.int .u64 (pa p), v] 54 (0, 0)))
    (hv : ∀ k, v.ownBlock = some k → tag k = tR p) (hg : w.grownBy w1 v.ownBlock) (hR : (Kd.int .u64).R 27 w1 base (fun k => ok k ∧ tag k = tR p) v1 ks) :
    TX (w1.setCell ⟨nb p, 1, none⟩ v1) base ok g S n pa (fun x => if x = p then ks else ki x) m nb tag D := by
  have hnl := lt_blk hb
  have hnt : tag (nb p) = tN p := (h.node p hp).choose_spec.2.2.2.1
  have hold : ∀ k, k < w.heap.size → tag k ≠ tR p → w1.heap[k]? = w.heap[k]? := fun k hk ht => hg.block k hk (fun e => ht (hv k e.symm))
  have hset : ∀ k, k ≠ nb p → (w1.setCell ⟨nb p, 1, none⟩ v1).heap[k]? = w1.heap[k]? := fun k hk => Below.heap_setCell _ _ _ _ hk
  have hb1 : w1.heap[nb p]? = some (.cells #[.int .u64 (pa p), v] 54 (0, 0)) := (hold _ hnl (by rw [hnt]; exact tN_tR _ _)).trans hb
  have h0 : ∀ k, k < w.heap.size → tag k = 0 → (w1.setCell ⟨nb p, 1, none⟩ v1).heap[k]? = w.heap[k]? := fun k hk ht => by
    rw [hset k (by rintro rfl; rw [hnt] at ht; unfold tN at ht; omega), hold k hk (by rw [ht]; unfold tR; omega)]
  refine ⟨(h0 g (lt_blk h.blk) h.gt).trans h.blk, h.gb, h.go, h.gt, h.mb, h.mo, h.mt, ownsMap_of_blk h.own (h0 m h.own.lt h.mt), h.map, h.rng, ?_⟩
  intro x hx
  by_cases c : x = p
  · subst c
    simp only [if_true]
    obtain ⟨_, _, q2, q3, q4, _⟩ := h.node x hx
    exact ⟨v1, set2_1 hb1, q2, q3, q4, Kd.R_step hR (fun k hk _ => hset k (by rintro rfl; exact tN_tR _ _ (q4.symm.trans hk.2)))⟩
  · simp only [c, if_false]
    refine (h.node x hx).step (fun k hk hlt htk => ?_)
    rw [hset k ?_, hold k hlt ?_]
    · intro e
      rcases htk with ht | ht
      · exact tN_tR _ _ (ht.symm.trans e)
      · exact c (tR_inj (h.rng x hx) (h.rng p hp) (ht.symm.trans e))
    · rintro rfl
      rcases htk with ht | ht
      · exact c (tN_inj (h.rng x hx) (h.rng p hp) (ht.symm.trans hnt))
      · exact tN_tR _ _ (hnt.symm.trans ht)
/-- A node less. -/
theorem TX.drop (h : TX w base ok g S (n + 1) pa ki m nb tag D) {id : Int} (hs : S id = true) {W2 : World} (ho : W2.ownsMap Try.prog 27 Rp m (n + 1) (D.del (.int .u64 id))) (ht : w.mapTurned W2 m) :
    TX W2 base ok g (fun x => !decide (x = id) && S x) n pa ki m nb tag (D.del (.int .u64 id)) := by
  have hold : ∀ k, k < w.heap.size → k ≠ m → W2.heap[k]? = w.heap[k]? := fun k hk hm => ht.grown.block k hk (by simpa using hm)
  have hgm : g ≠ m := by
    intro e
    obtain ⟨es, cl, hm, _⟩ := h.own
    have := h.blk
    rw [e, hm] at this
    simp at this
  have hM := h.map.del hs
  have ho2 := ownsMap_tight ho
  rw [hM.size] at ho2
  refine ⟨(hold g (lt_blk h.blk) hgm).trans h.blk, h.gb, h.go, h.gt, h.mb, h.mo, h.mt, ho2, hM, fun x hx => h.rng x (by simp at hx; exact hx.2), fun x hx => ?_⟩
  refine (h.node x (by simp at hx; exact hx.2)).step (fun k hk hlt htk => hold k hlt ?_)
  rintro rfl
  rw [h.mt] at htk
  unfold tN tR at htk
  omega
end
end Go.Proofs.Ytjnpbikalamchaa.Tr
