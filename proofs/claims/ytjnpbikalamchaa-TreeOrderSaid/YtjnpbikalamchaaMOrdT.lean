/- An order's plain theory: each thing comes behind all that stand below it; a row made and written to. -/
import Derived.Test.YtjnpbikalamchaaMBuild
set_option linter.unusedVariables false
set_option linter.unusedSimpArgs false
namespace Go.Proofs.Ytjnpbikalamchaa.Tr
open Go.RowKit Go.Maps Go.Proofs.YtjnpbikalamchaaW.PrintWords Go.Proofs.YtjnpbikalamchaaW.PrintLast Go.Proofs.YtjnpbikalamchaaW.PrintMore
theorem idx_ne {x y : Int} (r : List Int) (h : x ≠ y) : (x :: r).idxOf y = r.idxOf y + 1 := by rw [List.idxOf_cons, show (x == y) = false by rw [beq_eq_false_iff_ne]; exact h]; rfl
theorem sub_idx {a b : Int} : ∀ {L : List Int}, L.Nodup → [a, b].Sublist L → L.idxOf a < L.idxOf b := by
  intro L
  induction L with
  | nil => intro _ h; simp at h
  | cons x r ih =>
    intro hn h
    have hn' := List.nodup_cons.1 hn
    cases h with
    | cons _ h =>
      have ha : a ∈ r := h.subset (by simp)
      have hb : b ∈ r := h.subset (by simp)
      have := ih hn'.2 h
      rw [idx_ne r (fun (e : x = a) => hn'.1 (by rw [e]; exact ha)), idx_ne r (fun (e : x = b) => hn'.1 (by rw [e]; exact hb))]
      omega
    | cons_cons _ h =>
      have hb : b ∈ r := h.subset (by simp)
      rw [List.idxOf_cons_self, idx_ne r (fun (e : a = b) => hn'.1 (by rw [e]; exact hb))]
      omega
theorem ord_before {l : T} (h : WfT l) : ∀ (k : Nat) {id y : Int}, y ∈ ordF (kids l) k id → y ≠ id → [y, par l y].Sublist (ordF (kids l) k id) := by
  intro k
  induction k with
  | zero => intro id y hy _; simp [ordF] at hy
  | succ k ih =>
    intro id y hy hne
    simp only [ordF, List.mem_append, List.mem_singleton] at hy ⊢
    rcases hy with hy | hy
    · obtain ⟨c, hc, hyc⟩ := List.mem_flatMap.1 hy
      have hck : c ∈ kids l id := List.mem_reverse.1 hc
      by_cases e : y = c
      · have hp : par l y = id := by rw [e]; exact (h.kid_iff.1 hck).2
        rw [hp]
        exact List.Sublist.append (List.singleton_sublist.2 hy) (List.Sublist.refl [id])
      · have h1 := ih hyc e
        have h2 : (ordF (kids l) k c).Sublist ((kids l id).reverse.flatMap (ordF (kids l) k)) := List.sublist_flatten_of_mem (List.mem_map.2 ⟨c, hc, rfl⟩)
        exact (h1.trans h2).trans (List.sublist_append_left _ _)
    · exact absurd hy hne
/-- What an order is. -/
structure OrdTh (l : T) (id : Int) (L : List Int) : Prop where
  nd : L.Nodup
  mem : ∀ y, y ∈ L ↔ Up l y id
  rng : ∀ y ∈ L, y ∈ ids l
  bef : ∀ y ∈ L, y ≠ id → par l y ∈ L ∧ L.idxOf y < L.idxOf (par l y)
  pos : 0 < L.length
  last : L.getD (L.length - 1) 0 = id
theorem ordTh {l : T} (h : WfT l) {id : Int} (hid : id ∈ ids l) : OrdTh l id (ord l id) := by
  have e : ord l id = ordF (kids l) l.length id := by unfold ord; rw [if_pos hid]
  have hnd : (ord l id).Nodup := by rw [e]; exact h.ord_nodup _ _
  have hm : ∀ y, y ∈ ord l id ↔ Up l y id := fun y => h.mem_ord_iff hid
  have hl : 0 < l.length := by rw [← ids_len]; exact List.length_pos_of_mem hid
  obtain ⟨n, hn⟩ : ∃ n, l.length = n + 1 := ⟨l.length - 1, by omega⟩
  refine ⟨hnd, hm, fun y hy => ?_, fun y hy hne => ?_, ?_, ?_⟩
  · by_cases c : y = id
    · rw [c]; exact hid
    · exact ((hm y).1 hy).mem c
  · have hs : [y, par l y].Sublist (ord l id) := by rw [e] at hy ⊢; exact ord_before h _ hy hne
    exact ⟨hs.subset (by simp), sub_idx hnd hs⟩
  · exact List.length_pos_of_mem ((hm id).2 (.refl id))
  · rw [e, hn, ordF]
    simp
/-- Where the things of an order's beginning stand. -/
def AtT (L : List Int) (i n : Nat) (xs : List Int) : Prop := xs.length = n + 1 ∧ ∀ y : Nat, y ≤ n → xs.getD y 0 = if (y : Int) ∈ L.take i then (L.idxOf (y : Int) : Int) + 1 else 0
theorem at_start (L : List Int) (n : Nat) : AtT L 0 n (List.replicate (n + 1) 0) := ⟨by simp, fun y hy => by rw [List.getD_eq_getElem?_getD, List.getElem?_replicate]; simp [show y < n + 1 by omega]⟩
theorem at_step {L : List Int} (hn : L.Nodup) {i n : Nat} {xs : List Int} (h : AtT L i n xs) (hi : i < L.length) {z : Nat} (hz : L.getD i 0 = (z : Int)) (hzn : z ≤ n) : xs.getD z 0 = 0 ∧ AtT L (i + 1) n (xs.set z ((i : Int) + 1)) := by
  have he : L.getD i 0 = L[i] := by rw [List.getD_eq_getElem?_getD, List.getElem?_eq_getElem hi]; rfl
  rw [he] at hz
  have hnt : (z : Int) ∉ L.take i := by
    intro hm
    obtain ⟨j, hj, hje⟩ := List.mem_take_iff_getElem.1 hm
    have hji : j < i := by omega
    have := (List.pairwise_iff_getElem.1 hn) j i (by omega) hi hji
    rw [hje, hz] at this
    exact this rfl
  have hidx : L.idxOf (z : Int) = i := by rw [← hz]; exact hn.idxOf_getElem i hi
  refine ⟨by rw [h.2 z hzn, if_neg hnt], by rw [List.length_set]; exact h.1, fun y hy => ?_⟩
  have hst : L.take (i + 1) = L.take i ++ [L[i]] := List.take_succ_eq_append_getElem hi
  rw [hst, hz]
  by_cases c : y = z
  · subst c
    rw [if_pos (by simp), hidx, List.getD_eq_getElem?_getD, List.getElem?_set_self (by rw [h.1]; omega)]
    rfl
  · rw [List.getD_eq_getElem?_getD, List.getElem?_set_ne (fun e => c e.symm), ← List.getD_eq_getElem?_getD, h.2 y hy]
    have : ((y : Int) ∈ L.take i ++ [(z : Int)]) ↔ (y : Int) ∈ L.take i := by
      rw [List.mem_append, List.mem_singleton]
      exact ⟨fun h => by rcases h with h | h; exact h; exact absurd (Int.ofNat_inj.1 h) c, .inl⟩
    simp only [this]
/-- How many of the first i things are in an order. -/
def cntL (L : List Int) (i : Nat) : Nat := ((List.range i).filter (fun k => decide (((k : Nat) : Int) + 1 ∈ L))).length
theorem cnt_succ (L : List Int) (i : Nat) : cntL L (i + 1) = cntL L i + (if ((i : Nat) : Int) + 1 ∈ L then 1 else 0) := by
  unfold cntL
  rw [List.range_succ, List.filter_append, List.length_append]
  by_cases c : ((i : Nat) : Int) + 1 ∈ L <;> simp [c]
theorem cnt_le (L : List Int) (i : Nat) : cntL L i ≤ i := by unfold cntL; exact Nat.le_trans (List.length_filter_le _ _) (by simp)
theorem cnt_all {L : List Int} (hn : L.Nodup) {n : Nat} (hr : ∀ y ∈ L, 1 ≤ y ∧ y ≤ n) : cntL L n = L.length := by
  unfold cntL
  have e : ((List.range n).filter (fun k => decide (((k : Nat) : Int) + 1 ∈ L))).length = (((List.range n).filter (fun k => decide (((k : Nat) : Int) + 1 ∈ L))).map (fun k : Nat => (k : Int) + 1)).length := by simp
  rw [e]
  have hnd : (((List.range n).filter (fun k => decide (((k : Nat) : Int) + 1 ∈ L))).map (fun k : Nat => (k : Int) + 1)).Nodup := by
    unfold List.Nodup
    rw [List.pairwise_map]
    exact (List.Pairwise.filter _ List.pairwise_lt_range).imp (fun {a b} h => by omega)
  apply Nat.le_antisymm
  · refine hnd.length_le_of_subset (fun y hy => ?_)
    obtain ⟨k, hk, rfl⟩ := List.mem_map.1 hy
    exact of_decide_eq_true (List.mem_filter.1 hk).2
  · refine hn.length_le_of_subset (fun y hy => ?_)
    have := hr y hy
    refine List.mem_map.2 ⟨(y - 1).toNat, List.mem_filter.2 ⟨List.mem_range.2 (by omega), ?_⟩, by omega⟩
    rw [decide_eq_true_eq, show (((y - 1).toNat : Nat) : Int) + 1 = y by omega]
    exact hy
section
variable {w w' : World} {base g : Nat} {lt : T} {v : Value} {ld : T} {rows : List (Value × List Int)} {bl : List Res}
/-- make([]int, m). -/
theorem PS.make (h : PS w base g lt v ld rows bl) (j : Nat) (k : IntKind) (e m : Nat) (hj : 3 ≤ j) (hm : m ≤ 1000) : PS (w.alloc (.cells (madeCells #[.int k 0] m) e)) base g lt v ld rows (.row j k e (.slice (some ⟨w.heap.size, 0, none⟩) m m) (List.replicate m 0) :: bl) := by
  obtain ⟨own, h⟩ := h
  have hb := below_alloc (Below.refl w.heap.size w) (.cells (madeCells #[.int k 0] m) e)
  have q := h.pass j hb
  refine ⟨_, q.bs, q.t, q.d, q.r, fun r hr => ?_⟩
  rcases List.mem_cons.1 hr with rfl | hr
  · refine ⟨hj, ?_⟩
    have ho := own_made' w base e k m h.bs (by omega)
    rw [List.length_replicate] at ho
    refine Kd.R_of_own (by rw [List.length_replicate]; exact ho) (fun x hx => ?_)
    have : w.heap.size = x := by simpa [Value.ownBlock] using hx
    exact up_new (by omega)
  · exact q.b r hr
/-- A number of a row is written. -/
theorem PS.put {rest : List Res} {j b c : Nat} {k : IntKind} {e : Nat} {xs : List Int} (h : PS w base g lt v ld rows (.row j k e (.slice (some ⟨b, 0, none⟩) xs.length c) xs :: rest)) (hj : ∀ q ∈ rest, q.tag ≠ j) (i : Nat) (x : Int) :
    PS (w.setCell ⟨b, i, none⟩ (.int k x)) base g lt v ld rows (.row j k e (.slice (some ⟨b, 0, none⟩) (xs.set i x).length c) (xs.set i x) :: rest) ∧ Below base w (w.setCell ⟨b, i, none⟩ (.int k x)) := by
  obtain ⟨own, hR, hst⟩ := h.act rfl hj
  obtain ⟨h1, h2⟩ := put_own hR h.size i x
  exact ⟨hst _ _ _ (by rw [List.length_set]; exact h1) h2, h2.b⟩
/-- A number of a row that is written to. -/
theorem PS.wat (h : PS w base g lt v ld rows bl) {j b n c : Nat} {k : IntKind} {e : Nat} {xs : List Int} (hq : .row j k e (.slice (some ⟨b, 0, none⟩) n c) xs ∈ bl) {i : Nat} (hi : i < xs.length) : w.cell? ⟨b, i, none⟩ = some (.int k (xs.getD i 0)) := by
  obtain ⟨own, h⟩ := h
  obtain ⟨b2, c2, e2, hc, _⟩ := row_at (h.b _ hq).2 hi
  injection e2 with e2 _ _
  injection e2 with e2
  injection e2 with e2
  rw [e2]
  exact hc
theorem PS.wfr (h : PS w base g lt v ld rows bl) {j b n c : Nat} {k : IntKind} {e : Nat} {xs : List Int} (hq : .row j k e (.slice (some ⟨b, 0, none⟩) n c) xs ∈ bl) {i : Nat} (hi : i < xs.length) : w.frozen? ⟨b, i, none⟩ = false := by
  obtain ⟨own, h⟩ := h
  obtain ⟨b2, c2, e2, _, hf⟩ := row_at (h.b _ hq).2 hi
  injection e2 with e2 _ _
  injection e2 with e2
  injection e2 with e2
  rw [e2]
  exact hf
end
end Go.Proofs.Ytjnpbikalamchaa.Tr
