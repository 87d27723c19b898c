/- The plain tree: what cutting does. -/
import Derived.Test.YtjnpbikalamchaaMDrop
set_option linter.unusedVariables false
set_option linter.unusedSimpArgs false
namespace Go.Proofs.Ytjnpbikalamchaa.Tr
open Go.RowKit Go.Maps Go.Proofs.YtjnpbikalamchaaW.PrintWords Go.Proofs.YtjnpbikalamchaaW.PrintLast Go.Proofs.YtjnpbikalamchaaW.PrintMore
theorem flatMap_congr' {f g : Int → List Int} : ∀ {xs : List Int}, (∀ x ∈ xs, f x = g x) → xs.flatMap f = xs.flatMap g
  | [], _ => rfl
  | a :: r, h => by rw [List.flatMap_cons, List.flatMap_cons, h a List.mem_cons_self, flatMap_congr' (fun x hx => h x (List.mem_cons_of_mem _ hx))]
/-- Deep enough is deep enough. -/
theorem ordF_fuel {ki : Int → List Int} : ∀ (k : Nat) {x : Int}, Dp ki k x → ∀ k', k ≤ k' → ordF ki k' x = ordF ki k x := by
  intro k
  induction k with
  | zero => intro x h; exact h.elim
  | succ k ih =>
    intro x h k' hk
    obtain ⟨q, rfl⟩ : ∃ q, k' = q + 1 := ⟨k' - 1, by omega⟩
    simp only [ordF]
    congr 1
    apply flatMap_congr'
    intro c hc
    exact ih (h c (List.mem_reverse.1 hc)) q (by omega)
/-- Two trees of the same children below x have the same order of x. -/
theorem ordF_same {ki ki' : Int → List Int} : ∀ (k : Nat) {x : Int}, (∀ y, y ∈ ordF ki k x → ki' y = ki y) → Dp ki k x → ordF ki' k x = ordF ki k x ∧ Dp ki' k x := by
  intro k
  induction k with
  | zero => intro x _ h; exact h.elim
  | succ k ih =>
    intro x hy hd
    have hx : ki' x = ki x := hy x (by simp [ordF])
    have hc : ∀ c ∈ ki x, ordF ki' k c = ordF ki k c ∧ Dp ki' k c := fun c hc => ih (fun y hyc => hy y (by simp only [ordF, List.mem_append, List.mem_flatMap, List.mem_reverse]; exact .inl ⟨c, hc, hyc⟩)) (hd c hc)
    refine ⟨?_, fun c hcc => (hc c (hx ▸ hcc)).2⟩
    simp only [ordF]
    rw [hx]
    congr 1
    apply flatMap_congr'
    intro c hcc
    exact (hc c (List.mem_reverse.1 hcc)).1
theorem WfT.ord_without {l : T} (h : WfT l) {gone : List Int} (hc : Closed l gone) {x : Int} (hx : x ∈ ids l) (hd : ∀ y ∈ ord l x, y ∉ gone) : ord (Tr.without l gone) x = ord l x := by
  have hD := h.dp l.length x hx (by omega)
  have hx' : x ∈ ids (Tr.without l gone) := mem_without.2 ⟨hx, hd x (h.ord_self hx)⟩
  have hD' := (h.without hc).dp _ x hx' (Nat.le_add_right _ _)
  have e1 : ord l x = ordF (kids l) l.length x := by unfold ord; rw [if_pos hx]
  rw [e1] at hd
  have hs := ordF_same (ki' := kids (Tr.without l gone)) l.length (fun y hy => by
    rw [kids_without, List.filter_eq_self]
    intro c hcy
    rw [decide_eq_true_eq]
    exact hd c (ord_down _ hD hy hcy)) hD
  rw [e1, ← hs.1]
  unfold ord
  rw [if_pos hx']
  have hle : (Tr.without l gone).length ≤ l.length := List.length_filter_le _ _
  rw [ordF_fuel _ hD' l.length hle]
theorem without_without (l : T) (a b : List Int) : without (without l a) b = without l (a ++ b) := by
  unfold without
  rw [List.filter_filter]
  apply List.filter_congr
  intro e _
  simp [not_or, Bool.and_comm]
theorem Closed.append {l : T} {a b : List Int} (ha : Closed l a) (hb : Closed l b) : Closed l (a ++ b) :=
  ⟨fun h => (List.mem_append.1 h).elim ha.1 hb.1, fun c x hc hx => List.mem_append.2 ((List.mem_append.1 hx).imp (ha.2 c x hc) (hb.2 c x hc))⟩
theorem Closed.nil (l : T) : Closed l [] := ⟨by simp, fun _ _ _ h => by simp at h⟩
/-- What goes when id's children are cut to n. -/
def cutG (l : T) (id : Int) (n : Nat) : List Int := ((kids l id).drop n).reverse.flatMap (ord l)
theorem cutG_step {l : T} {id : Int} {q : Nat} (hq : q < (kids l id).length) : cutG l id q = cutG l id (q + 1) ++ ord l ((kids l id).getD q 0) := by
  unfold cutG
  rw [List.drop_eq_getElem_cons hq, List.reverse_cons, List.flatMap_append]
  rw [List.getD_eq_getElem?_getD, List.getElem?_eq_getElem hq]
  simp
theorem cutG_all (l : T) (id : Int) : cutG l id (kids l id).length = [] := by unfold cutG; simp
theorem WfT.mem_cutG {l : T} (h : WfT l) {id y : Int} {n : Nat} : y ∈ cutG l id n ↔ ∃ c ∈ (kids l id).drop n, Up l y c := by
  unfold cutG
  simp only [List.mem_flatMap, List.mem_reverse]
  constructor
  · rintro ⟨c, hc, hy⟩
    exact ⟨c, hc, (h.mem_ord_iff (kid_in (List.mem_of_mem_drop hc))).1 hy⟩
  · rintro ⟨c, hc, hy⟩
    exact ⟨c, hc, (h.mem_ord_iff (kid_in (List.mem_of_mem_drop hc))).2 hy⟩
theorem WfT.cut_closed {l : T} (h : WfT l) (id : Int) (n : Nat) : Closed l (cutG l id n) := by
  refine ⟨fun h0 => ?_, fun c x hc hx => ?_⟩
  · obtain ⟨c, hc, hu⟩ := h.mem_cutG.1 h0
    exact h.zero (by have := kid_in (List.mem_of_mem_drop hc); rw [h.up_zero hu] at this; exact this)
  · obtain ⟨d, hd, hu⟩ := h.mem_cutG.1 hx
    exact h.mem_cutG.2 ⟨d, hd, .step (mem_ids_of hc) (by rw [h.par_of hc]; exact hu)⟩
theorem nodup_take_drop {ks : List Int} (h : ks.Nodup) {n : Nat} {a : Int} (h1 : a ∈ ks.take n) (h2 : a ∈ ks.drop n) : False := by
  have := h
  rw [← List.take_append_drop n ks, List.nodup_append] at this
  exact this.2.2 a h1 a h2 rfl
/-- The children that stay, when cut to q. -/
theorem WfT.kids_cut {l : T} (h : WfT l) (id : Int) (q : Nat) : kids (Tr.without l (cutG l id q)) id = (kids l id).take q := by
  rw [kids_without]
  have e : ∀ c ∈ kids l id, c ∈ cutG l id q ↔ c ∈ (kids l id).drop q := by
    intro c hc
    rw [h.mem_cutG]
    constructor
    · rintro ⟨d, hd, hu⟩
      have := h.kids_apart hc (List.mem_of_mem_drop hd) (.refl _) hu
      rw [this]; exact hd
    · intro hd; exact ⟨c, hd, .refl _⟩
  have e2 : (kids l id).filter (fun c => decide (c ∉ cutG l id q)) = (kids l id).filter (fun c => decide (c ∉ (kids l id).drop q)) := by
    apply List.filter_congr
    intro c hc
    rw [decide_eq_decide, e c hc]
  rw [e2]
  conv => lhs; rw [← List.take_append_drop q (kids l id)]
  rw [List.filter_append, List.take_append_drop]
  have hn := h.kids_nodup id
  rw [List.filter_eq_self.2 (fun c hc => by rw [decide_eq_true_eq]; exact fun h2 => nodup_take_drop hn hc h2), List.filter_eq_nil_iff.2 (fun c hc => by simp [hc]), List.append_nil]
/-- The order of a child that stays, when cut behind it. -/
theorem WfT.ord_cut {l : T} (h : WfT l) {id : Int} {q : Nat} {c : Int} (hc : c ∈ (kids l id).take q) : ord (Tr.without l (cutG l id q)) c = ord l c := by
  have hck := List.mem_of_mem_take hc
  refine h.ord_without (h.cut_closed id q) (kid_in hck) (fun y hy hg => ?_)
  rw [h.mem_ord_iff (kid_in hck)] at hy
  obtain ⟨d, hd, hu⟩ := h.mem_cutG.1 hg
  have := h.kids_apart hck (List.mem_of_mem_drop hd) hy hu
  subst this
  exact nodup_take_drop (h.kids_nodup id) hc hd
end Go.Proofs.Ytjnpbikalamchaa.Tr
