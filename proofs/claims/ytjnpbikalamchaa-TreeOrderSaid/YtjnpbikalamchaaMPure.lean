/- The plain tree: what adding does. -/
import Derived.Test.YtjnpbikalamchaaMAdd
set_option linter.unusedVariables false
set_option linter.unusedSimpArgs false
namespace Go.Proofs.Ytjnpbikalamchaa.Tr
open Go.RowKit Go.Maps Go.Proofs.YtjnpbikalamchaaW.PrintWords Go.Proofs.YtjnpbikalamchaaW.PrintLast Go.Proofs.YtjnpbikalamchaaW.PrintMore
theorem ids_snoc (l : T) (x p : Int) : ids (l ++ [(x, p)]) = ids l ++ [x] := by simp [ids]
theorem inT_snoc (l : T) (x p y : Int) : inT (l ++ [(x, p)]) y ↔ inT l y ∨ y = x := by simp [inT, ids_snoc, or_assoc]
theorem kids_snoc (l : T) (x p y : Int) : kids (l ++ [(x, p)]) y = if y = p then kids l y ++ [x] else kids l y := by
  unfold kids
  rw [List.filter_append, List.map_append]
  by_cases c : y = p
  · subst c; simp
  · rw [if_neg c]; simp [Ne.symm c]
theorem find_none {l : T} {y : Int} (h : y ∉ ids l) : l.find? (fun e => decide (e.1 = y)) = none := by
  rw [List.find?_eq_none]
  intro e he hd
  exact h (List.mem_map.2 ⟨e, he, by simpa using hd⟩)
theorem find_some {l : T} {y : Int} (h : y ∈ ids l) : ∃ e ∈ l, e.1 = y ∧ l.find? (fun e => decide (e.1 = y)) = some e := by
  obtain ⟨e, he, hy⟩ := List.mem_map.1 h
  have : (l.find? (fun e => decide (e.1 = y))).isSome := by rw [List.find?_isSome]; exact ⟨e, he, by simpa using hy⟩
  obtain ⟨e', he'⟩ := Option.isSome_iff_exists.1 this
  exact ⟨e', List.mem_of_find?_eq_some he', by simpa using List.find?_some he', he'⟩
theorem par_snoc_old {l : T} (x p : Int) {y : Int} (h : y ∈ ids l) : par (l ++ [(x, p)]) y = par l y := by
  obtain ⟨e, _, _, he⟩ := find_some h
  unfold par
  rw [List.find?_append, he]; rfl
theorem par_none {l : T} {y : Int} (h : y ∉ ids l) : par l y = 0 := by unfold par; rw [find_none h]; rfl
theorem par_snoc_new {l : T} {x : Int} (p : Int) (h : x ∉ ids l) : par (l ++ [(x, p)]) x = p := by
  unfold par
  rw [List.find?_append, find_none h]; simp
theorem WfT.zero {l : T} (h : WfT l) : (0 : Int) ∉ ids l := by
  induction h with
  | nil => simp [ids]
  | snoc h hu h0 hn hp ih => rw [ids_snoc]; simp [ih, Ne.symm h0]
theorem WfT.u {l : T} (h : WfT l) : ∀ x ∈ ids l, u64 x := by
  induction h with
  | nil => simp [ids]
  | snoc h hu h0 hn hp ih => rw [ids_snoc]; intro y hy; rcases List.mem_append.1 hy with h | h; exact ih y h; rw [List.mem_singleton.1 h]; exact hu
theorem WfT.nodup {l : T} (h : WfT l) : (ids l).Nodup := by
  induction h with
  | nil => simp [ids]
  | snoc h hu h0 hn hp ih => rw [ids_snoc, List.nodup_append]; exact ⟨ih, by simp, fun a ha b hb => by rw [List.mem_singleton.1 hb]; rintro rfl; exact hn ha⟩
theorem WfT.pars {l : T} (h : WfT l) : ∀ e ∈ l, inT l e.2 := by
  induction h with
  | nil => simp
  | snoc h hu h0 hn hp ih =>
    intro e he
    rw [inT_snoc]
    rcases List.mem_append.1 he with h | h
    · exact .inl (ih e h)
    · rw [List.mem_singleton.1 h]; exact .inl hp
theorem kids_mem {l : T} {x y : Int} : y ∈ kids l x ↔ (y, x) ∈ l := by
  unfold kids
  simp only [List.mem_map, List.mem_filter, decide_eq_true_eq]
  exact ⟨fun ⟨e, ⟨h1, h2⟩, h3⟩ => by rw [← h2, ← h3]; exact h1, fun h => ⟨_, ⟨h, rfl⟩, rfl⟩⟩
theorem WfT.kids_none {l : T} (h : WfT l) {x : Int} (hx : ¬ inT l x) : kids l x = [] := by
  rw [List.eq_nil_iff_forall_not_mem]
  intro y hy
  exact hx (h.pars _ (kids_mem.1 hy))
theorem kids_len (l : T) (x : Int) : (kids l x).length ≤ l.length := by unfold kids; rw [List.length_map]; exact List.length_filter_le _ _
def addOk (l : T) (id p : Int) : Bool := decide (¬ inT l id ∧ inT l p)
def addT (l : T) (id p : Int) : T := if addOk l id p then l ++ [(id, p)] else l
theorem inT_dec (l : T) (x : Int) : decide (inT l x) = true ↔ inT l x := by simp
theorem tr_add {w : World} {base : Nat} {ok : Nat → Prop} {g : Nat} {l : T} (h : TR w base ok g l) {id p : Int} (hu : u64 id) (hp : u64 p) (hbase : base ≤ w.heap.size) (hfresh : ∀ k, w.heap.size ≤ k → ok k) (hl : l.length ≤ 1000) :
    Calls Try.prog 11 #[.pointer (some ⟨g, 0, none⟩), .int .u64 id, .int .u64 p] w fun e w' => e = .returned (.bool (addOk l id p)) ∧ TR w' base ok g (addT l id p) ∧ Fr base ok w w' := by
  obtain ⟨hw, m, nb, tag, D, hT⟩ := h
  by_cases c1 : inT l p
  · by_cases c2 : inT l id
    · have e : addOk l id p = false := by simp [addOk, c2]
      rw [e]; unfold addT; rw [e]
      refine (add_there hT (by simpa using c1) (by simpa using c2)).mono ?_
      rintro e w1 ⟨rfl, rfl⟩
      exact ⟨rfl, ⟨hw, m, nb, tag, D, hT⟩, Fr.refl _ _ _⟩
    · have e : addOk l id p = true := by simp [addOk, c1, c2]
      unfold addT; rw [e, if_pos rfl]
      refine (add_new hT hu (by simpa using c1) (by simpa using c2) hbase hfresh (by omega) (by have := kids_len l p; omega)).mono ?_
      rintro e w1 ⟨rfl, ⟨nb', tag', D', hT'⟩, hF⟩
      have hn : id ∉ ids l := fun h => c2 (.inr h)
      have h0 : id ≠ 0 := fun h => c2 (.inl h)
      refine ⟨rfl, ⟨.snoc hw hu h0 hn c1, m, nb', tag', D', hT'.congr (fun x => ?_) (by simp) (fun x hx => ?_) (fun x hx => ?_)⟩, hF⟩
      · rw [Bool.eq_iff_iff]; simp [inT_snoc, or_comm]
      · by_cases cx : x = id
        · rw [if_pos cx, cx, par_snoc_new p hn]
        · rw [if_neg cx]
          by_cases ci : x ∈ ids l
          · rw [par_snoc_old _ _ ci]
          · rw [par_none ci, par_none (by rw [ids_snoc]; simp [ci, cx])]
      · rw [kids_snoc]
        by_cases cx : x = p
        · rw [if_pos cx, if_pos cx, cx]
        · rw [if_neg cx, if_neg cx]
          by_cases ci : x = id
          · rw [if_pos ci, ci, hw.kids_none c2]
          · rw [if_neg ci]
  · have e : addOk l id p = false := by simp [addOk, c1]
    rw [e]; unfold addT; rw [e]
    refine (add_noparent hT hp (by simpa using c1)).mono ?_
    rintro e w1 ⟨rfl, rfl⟩
    exact ⟨rfl, ⟨hw, m, nb, tag, D, hT⟩, Fr.refl _ _ _⟩
end Go.Proofs.Ytjnpbikalamchaa.Tr
