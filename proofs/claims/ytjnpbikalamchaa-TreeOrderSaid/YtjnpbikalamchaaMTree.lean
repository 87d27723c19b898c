/- A tree of things, its block, its map, its nodes and their rows. -/
import Derived.Test.YtjnpbikalamchaaMFrame
import Derived.Maps.OwnSet
set_option linter.unusedVariables false
set_option linter.unusedSimpArgs false
namespace Go.Proofs.Ytjnpbikalamchaa.Tr
open Go.RowKit Go.Maps Go.Proofs.YtjnpbikalamchaaW.PrintWords Go.Proofs.YtjnpbikalamchaaW.PrintLast Go.Proofs.YtjnpbikalamchaaW.PrintMore
/-! ### the plain tree -/
abbrev T := List (Int × Int)
def ids (l : T) : List Int := l.map (·.1)
def kids (l : T) (id : Int) : List Int := (l.filter (fun e => decide (e.2 = id))).map (·.1)
def par (l : T) (id : Int) : Int := ((l.find? (fun e => decide (e.1 = id))).map (·.2)).getD 0
def inT (l : T) (id : Int) : Prop := id = 0 ∨ id ∈ ids l
instance (l : T) (id : Int) : Decidable (inT l id) := by unfold inT; infer_instance
def u64 (h : Int) : Prop := 0 ≤ h ∧ h < 18446744073709551616
theorem u64_wf {h : Int} (hh : u64 h) : (Lit.int .u64 h).wf = true := by
  unfold u64 at hh
  have h1 : IntKind.u64.min = 0 := by rfl
  have h2 : IntKind.u64.max = 18446744073709551615 := by rfl
  simp only [Lit.wf, h1, h2, Bool.and_eq_true, decide_eq_true_eq]
  omega
theorem keyLit (h : Int) : WideAt.IsKeyLit (.int .u64 h) := trivial
/-- What may be a tree: numbers are there once, none is 0, each stands below none or one that came ahead of it. -/
inductive WfT : T → Prop
  | nil : WfT []
  | snoc {l : T} {x p : Int} : WfT l → u64 x → x ≠ 0 → x ∉ ids l → inT l p → WfT (l ++ [(x, p)])
/-! ### the map of nodes -/
def Rp : Value → Option (DataW Unit × List MemPlace)
  | .pointer (some ⟨b, 0, none⟩) => some (.lit (.int .u64 (b : Int)), [])
  | .pointer none => some (.agg [], [])
  | _ => none
theorem Rp_some {v : Value} {b : Nat} {ps : List MemPlace} (h : Rp v = some (.lit (.int .u64 (b : Int)), ps)) : v = .pointer (some ⟨b, 0, none⟩) := by
  unfold Rp at h
  split at h
  · simp at h
    obtain ⟨h, _⟩ := h
    rw [Int.ofNat_inj.1 h]
  · simp at h
  · simp at h
theorem Rp_none {v : Value} {ps : List MemPlace} (h : Rp v = some (.agg [], ps)) : v = .pointer none := by
  unfold Rp at h
  split at h
  · simp at h
  · rfl
  · simp at h
theorem law27 : Keyed Try.prog 27 := int_keyed Try.underlying27
theorem zero52 (w : World) : (zeroValue 52).run Try.prog w = .ok (.pointer none) w := by kernel_rfl
theorem key27 {h : Int} (hh : u64 h) : keyOf Try.prog 27 (.int .u64 h) = some (.int .u64 h) := keyOf_int_mk Try.underlying27 (u64_wf hh)
structure MapT (D : DataW Unit) (nb : Int → Nat) (S : Int → Bool) (n : Nat) : Prop where
  tidy : Tidy D
  has : ∀ h, Maps.has D (.int .u64 h) = S h
  at_ : ∀ h, S h = true → D.atKey (.int .u64 h) (.agg []) = .lit (.int .u64 (nb h : Int))
  size : Maps.size D = n
theorem MapT.start : MapT (.map [] : DataW Unit) (fun _ => 0) (fun _ => false) 0 := ⟨tidy_empty, fun h => by simp [Maps.has], fun h hh => by simp at hh, by simp [Maps.size]⟩
theorem MapT.put {D : DataW Unit} {nb : Int → Nat} {S : Int → Bool} {n : Nat} (H : MapT D nb S n) {h : Int} (hn : S h = false) (b : Nat) :
    MapT (D.put (.int .u64 h) (.lit (.int .u64 (b : Int)))) (fun g => if g = h then b else nb g) (fun g => decide (g = h) || S g) (n + 1) := by
  refine ⟨H.tidy.put (keyLit _) _, fun g => ?_, fun g hg => ?_, ?_⟩
  · by_cases c : g = h
    · subst c; rw [has_put_same H.tidy.isMap (keyLit _)]; simp
    · rw [has_put_other (by intro e; injection e with _ e; exact c e), H.has]; simp [c]
  · by_cases c : g = h
    · subst c; rw [atKey_put_same H.tidy.isMap (keyLit _)]; simp
    · rw [atKey_put_other (by intro e; injection e with _ e; exact c e), H.at_ g (by simpa [c] using hg)]; simp [c]
  · rw [size_put H.tidy, H.has, hn, H.size]; simp
theorem MapT.del {D : DataW Unit} {nb : Int → Nat} {S : Int → Bool} {n : Nat} (H : MapT D nb S (n + 1)) {h : Int} (hn : S h = true) :
    MapT (D.del (.int .u64 h)) nb (fun g => !decide (g = h) && S g) n := by
  refine ⟨H.tidy.del _, fun g => ?_, fun g hg => ?_, ?_⟩
  · by_cases c : g = h
    · subst c; rw [has_del_same]; simp
    · rw [has_del_other (by intro e; injection e with _ e; exact c e), H.has]; simp [c]
  · simp only [Bool.and_eq_true, Bool.not_eq_true', decide_eq_false_iff_not] at hg
    rw [atKey_del_other (by intro e; injection e with _ e; exact hg.1 e), H.at_ g hg.2]
  · have := size_del H.tidy (k := .int .u64 h)
    rw [H.has, hn, H.size] at this
    simp at this
    exact this
/-- The lookup, carried out. -/
theorem MapT.look {D : DataW Unit} {nb : Int → Nat} {S : Int → Bool} {k : Nat} (H : MapT D nb S k) {w : World} {b n : Nat} (ho : w.ownsMap Try.prog 27 Rp b n D) {h : Int} (hh : u64 h) :
    (Instr.lookup 55 (.map (some b)) (.int .u64 h) false).run Try.prog w = .ok (.pointer (if S h then some ⟨nb h, 0, none⟩ else none)) w := by
  obtain ⟨v, ps, hrun, hv⟩ := ho.lookup law27 Try.underlying55 (zero52 w) (zd := .agg []) (zp := []) rfl (key27 hh)
  rw [hrun]
  cases c : S h with
  | true => rw [H.at_ h c] at hv; rw [Rp_some hv]; rfl
  | false => rw [atKey_of_not_has (by rw [H.has, c])] at hv; rw [Rp_none hv]; rfl
/-- The bound is as tight as one likes. -/
theorem ownsMap_tight {w : World} {b n : Nat} {D : DataW Unit} (ho : w.ownsMap Try.prog 27 Rp b n D) : w.ownsMap Try.prog 27 Rp b (Maps.size D) D := by
  obtain ⟨es, clock, hb, F, hs, hD⟩ := ho
  refine ⟨es, clock, hb, F, ?_, hD⟩
  rw [hD]
  simp [Maps.size, length_sorted]
/-! ### a tree in memory -/
/-- The tags within a tree: 0 the tree and its map, 2 id + 2 a node, 2 id + 3 its row. -/
def tN (id : Int) : Nat := 2 * id.toNat + 2
def tR (id : Int) : Nat := 2 * id.toNat + 3
def NodeAt (w : World) (base : Nat) (ok : Nat → Prop) (tag : Nat → Nat) (b : Nat) (id p : Int) (ks : List Int) : Prop :=
  ∃ v, w.heap[b]? = some (.cells #[.int .u64 p, v] 54 (0, 0)) ∧ base ≤ b ∧ ok b ∧ tag b = tN id ∧ (Kd.int .u64).R 27 w base (fun k => ok k ∧ tag k = tR id) v ks
/-- The nodes of a set S of numbers, par and kids given. -/
structure TX (w : World) (base : Nat) (ok : Nat → Prop) (g : Nat) (S : Int → Bool) (n : Nat) (pa : Int → Int) (ki : Int → List Int) (m : Nat) (nb : Int → Nat) (tag : Nat → Nat) (D : DataW Unit) : Prop where
  blk : w.heap[g]? = some (.cells #[.map (some m)] 57 (0, 0))
  gb : base ≤ g
  go : ok g
  gt : tag g = 0
  mb : base ≤ m
  mo : ok m
  mt : tag m = 0
  own : w.ownsMap Try.prog 27 Rp m n D
  map : MapT D nb S n
  rng : ∀ id, S id = true → u64 id
  node : ∀ id, S id = true → NodeAt w base ok tag (nb id) id (pa id) (ki id)
def TR (w : World) (base : Nat) (ok : Nat → Prop) (g : Nat) (l : T) : Prop := WfT l ∧ ∃ m nb tag D, TX w base ok g (fun id => decide (inT l id)) (l.length + 1) (par l) (kids l) m nb tag D
theorem NodeAt.step {w w1 : World} {base : Nat} {ok : Nat → Prop} {tag : Nat → Nat} {b : Nat} {id p : Int} {ks : List Int} (h : NodeAt w base ok tag b id p ks) (hm : ∀ k, ok k → k < w.heap.size → tag k = tN id ∨ tag k = tR id → w1.heap[k]? = w.heap[k]?) : NodeAt w1 base ok tag b id p ks := by
  obtain ⟨v, h1, h2, h3, h4, h5⟩ := h
  exact ⟨v, (hm b h3 (Array.getElem?_eq_some_iff.1 h1).1 (.inl h4)).trans h1, h2, h3, h4, Kd.R_step h5 (fun k hk hl => hm k hk.1 hl (.inr hk.2))⟩
theorem NodeAt.mono {w : World} {base : Nat} {ok ok' : Nat → Prop} {tag tag' : Nat → Nat} {b : Nat} {id p : Int} {ks : List Int} (h : NodeAt w base ok tag b id p ks) (ho : ∀ k, k < w.heap.size → ok k → ok' k) (ht : ∀ k, k < w.heap.size → tag' k = tag k) : NodeAt w base ok' tag' b id p ks := by
  obtain ⟨v, h1, h2, h3, h4, h5⟩ := h
  have hl := (Array.getElem?_eq_some_iff.1 h1).1
  exact ⟨v, h1, h2, ho b hl h3, (ht b hl).trans h4, Kd.R_mono (Kd.R_bound h5) (fun k hk => ⟨ho k hk.2.2.1 hk.1.1, (ht k hk.2.2.1).trans hk.1.2⟩)⟩
theorem ownsMap_of_blk {w w1 : World} {b n : Nat} {D : DataW Unit} (h : w.ownsMap Try.prog 27 Rp b n D) (hb : w1.heap[b]? = w.heap[b]?) : w1.ownsMap Try.prog 27 Rp b n D := by
  obtain ⟨es, clock, hb0, F, hs, hD⟩ := h
  exact ⟨es, clock, hb.trans hb0, F, hs, hD⟩
theorem TX.step {w w1 : World} {base : Nat} {ok : Nat → Prop} {g : Nat} {S : Int → Bool} {n : Nat} {pa : Int → Int} {ki : Int → List Int} {m : Nat} {nb : Int → Nat} {tag : Nat → Nat} {D : DataW Unit} (h : TX w base ok g S n pa ki m nb tag D) (hm : ∀ k, ok k → k < w.heap.size → w1.heap[k]? = w.heap[k]?) : TX w1 base ok g S n pa ki m nb tag D where
  blk := (hm g h.go (Array.getElem?_eq_some_iff.1 h.blk).1).trans h.blk
  gb := h.gb
  go := h.go
  gt := h.gt
  mb := h.mb
  mo := h.mo
  mt := h.mt
  own := ownsMap_of_blk h.own (hm m h.mo h.own.lt)
  map := h.map
  rng := h.rng
  node := fun id hid => (h.node id hid).step (fun k hk hl _ => hm k hk hl)
theorem TX.mono {w : World} {base : Nat} {ok ok' : Nat → Prop} {g : Nat} {S : Int → Bool} {n : Nat} {pa : Int → Int} {ki : Int → List Int} {m : Nat} {nb : Int → Nat} {tag tag' : Nat → Nat} {D : DataW Unit} (h : TX w base ok g S n pa ki m nb tag D) (ho : ∀ k, k < w.heap.size → ok k → ok' k) (ht : ∀ k, k < w.heap.size → tag' k = tag k) : TX w base ok' g S n pa ki m nb tag' D where
  blk := h.blk
  gb := h.gb
  go := ho g (Array.getElem?_eq_some_iff.1 h.blk).1 h.go
  gt := (ht g (Array.getElem?_eq_some_iff.1 h.blk).1).trans h.gt
  mb := h.mb
  mo := ho m h.own.lt h.mo
  mt := (ht m h.own.lt).trans h.mt
  own := h.own
  map := h.map
  rng := h.rng
  node := fun id hid => (h.node id hid).mono ho ht
theorem TR.step {w w1 : World} {base : Nat} {ok : Nat → Prop} {g : Nat} {l : T} (h : TR w base ok g l) (hm : ∀ k, ok k → k < w.heap.size → w1.heap[k]? = w.heap[k]?) : TR w1 base ok g l := by
  obtain ⟨hw, m, nb, tag, D, h⟩ := h
  exact ⟨hw, m, nb, tag, D, h.step hm⟩
theorem TR.mono {w : World} {base : Nat} {ok ok' : Nat → Prop} {g : Nat} {l : T} (h : TR w base ok g l) (ho : ∀ k, k < w.heap.size → ok k → ok' k) : TR w base ok' g l := by
  obtain ⟨hw, m, nb, tag, D, h⟩ := h
  exact ⟨hw, m, nb, tag, D, h.mono ho (fun _ _ => rfl)⟩
theorem TR.below {w w1 : World} {base : Nat} {ok : Nat → Prop} {g : Nat} {l : T} (h : TR w base ok g l) (hb : Below w.heap.size w w1) : TR w1 base ok g l := h.step (fun k _ hk => hb.block k hk)
/-- A tree of owner i, told by the new owners. -/
theorem TR_up {w : World} {base : Nat} {own : Nat → Nat} {i j : Nat} {g : Nat} {l : T} (h : TR w base (tg own i) g l) : TR w base (tg (up own w.heap.size j) i) g l :=
  h.mono (fun k hk ho => (up_old hk).trans ho)
/-- A tree of another owner stays. -/
theorem TR_pass {w w' : World} {base : Nat} {own : Nat → Nat} {i j : Nat} {g : Nat} {l : T} (h : TR w base (tg own i) g l) (hf : Fr base (tg (up own w.heap.size j) j) w w') (hij : i ≠ j) : TR w' base (tg (up own w.heap.size j) i) g l :=
  (TR_up h).step (fun k hk hlt => hf.k k hlt (fun e => hij (by unfold tg at hk e; rw [up_old hlt] at hk e; omega)))
end Go.Proofs.Ytjnpbikalamchaa.Tr
