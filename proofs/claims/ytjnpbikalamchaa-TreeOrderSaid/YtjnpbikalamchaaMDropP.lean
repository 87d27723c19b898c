/- The plain tree: what dropping does. -/
import Derived.Test.YtjnpbikalamchaaMDel2
set_option linter.unusedVariables false
set_option linter.unusedSimpArgs false
namespace Go.Proofs.Ytjnpbikalamchaa.Tr
open Go.RowKit Go.Maps Go.Proofs.YtjnpbikalamchaaW.PrintWords Go.Proofs.YtjnpbikalamchaaW.PrintLast Go.Proofs.YtjnpbikalamchaaW.PrintMore
theorem ord_down {l : T} : ∀ (k : Nat) {id z c : Int}, Dp (kids l) k id → z ∈ ordF (kids l) k id → c ∈ kids l z → c ∈ ordF (kids l) k id := by
  intro k
  induction k with
  | zero => intro id z c hd; exact hd.elim
  | succ k ih =>
    intro id z c hd hz hc
    simp only [ordF, List.mem_append, List.mem_flatMap, List.mem_reverse, List.mem_singleton] at hz ⊢
    rcases hz with ⟨c', hc', hz⟩ | rfl
    · exact .inl ⟨c', hc', ih (hd c' hc') hz hc⟩
    · refine .inl ⟨c, hc, ?_⟩
      have := hd c hc
      cases k with
      | zero => exact this.elim
      | succ k => simp [ordF]
theorem ord_up {l : T} (h : WfT l) {k : Nat} {y id : Int} (hd : Dp (kids l) k id) (hu : Up l y id) : y ∈ ordF (kids l) k id := by
  induction hu with
  | refl =>
    cases k with
    | zero => exact hd.elim
    | succ k => simp [ordF]
  | step hy _ ih => exact ord_down k hd (ih hd) (h.kid_iff.2 ⟨hy, rfl⟩)
theorem WfT.mem_ord_iff {l : T} (h : WfT l) {y id : Int} (hid : id ∈ ids l) : y ∈ ord l id ↔ Up l y id := by
  unfold ord
  rw [if_pos hid]
  exact ⟨mem_ord h _, ord_up h (h.dp _ _ hid (by omega))⟩
/-- Those that are not in a list. -/
def without (l : T) (gone : List Int) : T := l.filter (fun e => decide (e.1 ∉ gone))
theorem ids_without (l : T) (gone : List Int) : ids (without l gone) = (ids l).filter (fun x => decide (x ∉ gone)) := by
  unfold ids without; rw [List.filter_map]; rfl
theorem mem_without {l : T} {gone : List Int} {x : Int} : x ∈ ids (without l gone) ↔ x ∈ ids l ∧ x ∉ gone := by
  rw [ids_without, List.mem_filter]; simp
theorem kids_without (l : T) (gone : List Int) (x : Int) : kids (without l gone) x = (kids l x).filter (fun c => decide (c ∉ gone)) := by
  unfold kids without
  rw [List.filter_filter, List.filter_map, List.filter_filter]
  congr 1
  apply List.filter_congr
  intro e _
  simp [Bool.and_comm]
/-- Closed below: who stands below one that is gone is gone. -/
def Closed (l : T) (gone : List Int) : Prop := (0 : Int) ∉ gone ∧ ∀ c x, (c, x) ∈ l → x ∈ gone → c ∈ gone
theorem WfT.without {l : T} (h : WfT l) : ∀ {gone : List Int}, Closed l gone → WfT (without l gone) := by
  induction h with
  | nil => intro gone _; exact .nil
  | @snoc l x p h hu h0 hn hp ih =>
    intro gone hc
    have hc' : Closed l gone := ⟨hc.1, fun c y hcy hy => hc.2 c y (List.mem_append_left _ hcy) hy⟩
    have e : Tr.without (l ++ [(x, p)]) gone = Tr.without l gone ++ (if x ∈ gone then [] else [(x, p)]) := by
      unfold Tr.without
      rw [List.filter_append]
      by_cases c : x ∈ gone <;> simp [c]
    rw [e]
    by_cases c : x ∈ gone
    · rw [if_pos c, List.append_nil]; exact ih hc'
    · rw [if_neg c]
      refine .snoc (ih hc') hu h0 (fun hx => hn (mem_without.1 hx).1) ?_
      rcases hp with hp | hp
      · exact .inl hp
      · exact .inr (mem_without.2 ⟨hp, fun hg => c (hc.2 x p (by simp) hg)⟩)
theorem WfT.par_without {l : T} (h : WfT l) {gone : List Int} (hc : Closed l gone) {x : Int} (hx : x ∈ ids (Tr.without l gone)) : par (Tr.without l gone) x = par l x := by
  have h1 := (h.without hc).mem_par hx
  exact (h.par_of ((List.mem_filter.1 h1).1)).symm
theorem WfT.ord_closed {l : T} (h : WfT l) {id : Int} (hid : id ∈ ids l) : Closed l (ord l id) := by
  have h0 : id ≠ 0 := fun e => h.zero (e ▸ hid)
  refine ⟨fun hz => h0 (h.up_zero ((h.mem_ord_iff hid).1 hz)), fun c x hc hx => ?_⟩
  rw [h.mem_ord_iff hid] at hx ⊢
  exact .step (mem_ids_of hc) (by rw [h.par_of hc]; exact hx)
/-- The children of those that stay. -/
theorem WfT.kids_drop {l : T} (h : WfT l) {id x : Int} (hid : id ∈ ids l) (hx : x ∉ ord l id) : kids (Tr.without l (ord l id)) x = if x = par l id then (kids l x).filter (fun c => decide (c ≠ id)) else kids l x := by
  rw [kids_without]
  have key : ∀ c ∈ kids l x, c ∈ ord l id ↔ c = id := by
    intro c hc
    rw [h.mem_ord_iff hid]
    refine ⟨fun hu => ?_, fun e => by rw [e]; exact .refl _⟩
    cases hu with
    | refl => rfl
    | step hy hu => rw [(h.kid_iff.1 hc).2] at hu; exact absurd ((h.mem_ord_iff hid).2 hu) hx
  by_cases c : x = par l id
  · rw [if_pos c]
    apply List.filter_congr
    intro e he
    rw [decide_eq_decide, key e he]
  · rw [if_neg c, List.filter_eq_self]
    intro e he
    rw [decide_eq_true_eq, key e he]
    rintro rfl
    exact c (h.kid_iff.1 he).2.symm
theorem WfT.par_stays {l : T} (h : WfT l) {id : Int} (hid : id ∈ ids l) : par l id ∉ ord l id := by
  rw [h.mem_ord_iff hid]
  exact h.no_back (h.kid_iff.2 ⟨hid, rfl⟩)
theorem erase_filter {ks : List Int} (hn : ks.Nodup) {i : Nat} (hi : i < ks.length) : ks.eraseIdx i = ks.filter (fun c => decide (c ≠ ks.getD i 0)) := by
  have e : ks.getD i 0 = ks[i] := by rw [List.getD_eq_getElem?_getD, List.getElem?_eq_getElem hi]; rfl
  rw [e]
  induction ks generalizing i with
  | nil => simp at hi
  | cons a r ih =>
    rw [List.nodup_cons] at hn
    cases i with
    | zero =>
      simp only [List.eraseIdx_cons_zero, List.getElem_cons_zero, List.filter_cons, ne_eq, not_true, decide_false]
      symm
      simp only [Bool.false_eq_true, if_false]
      rw [List.filter_eq_self]
      intro x hx
      simp
      rintro rfl
      exact hn.1 hx
    | succ i =>
      simp only [List.length_cons] at hi
      have hi' : i < r.length := by omega
      rw [List.eraseIdx_cons_succ, List.getElem_cons_succ, List.filter_cons, if_pos ?_, ih hn.2 hi' (by rw [List.getD_eq_getElem?_getD, List.getElem?_eq_getElem hi']; rfl)]
      simp
      intro e
      exact hn.1 (e ▸ List.getElem_mem hi')
def dropT (l : T) (id : Int) : T := without l (ord l id)
end Go.Proofs.Ytjnpbikalamchaa.Tr
