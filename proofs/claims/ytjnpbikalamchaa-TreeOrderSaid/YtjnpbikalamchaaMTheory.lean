/- The plain tree: orders; who stands below whom. -/
import Derived.Test.YtjnpbikalamchaaMOrder
set_option linter.unusedVariables false
set_option linter.unusedSimpArgs false
namespace Go.Proofs.Ytjnpbikalamchaa.Tr
open Go.RowKit Go.Maps Go.Proofs.YtjnpbikalamchaaW.PrintWords Go.Proofs.YtjnpbikalamchaaW.PrintLast Go.Proofs.YtjnpbikalamchaaW.PrintMore
theorem mem_ids_of {l : T} {c x : Int} (h : (c, x) ∈ l) : c ∈ ids l := List.mem_map.2 ⟨_, h, rfl⟩
theorem kid_in {l : T} {c x : Int} (h : c ∈ kids l x) : c ∈ ids l := mem_ids_of (kids_mem.1 h)
theorem WfT.par_of {l : T} (h : WfT l) : ∀ {c x : Int}, (c, x) ∈ l → par l c = x := by
  induction h with
  | nil => intro c x hc; simp at hc
  | snoc h hu h0 hn hp ih =>
    intro c x hc
    rcases List.mem_append.1 hc with hc | hc
    · rw [par_snoc_old _ _ (mem_ids_of hc)]; exact ih hc
    · have e := List.mem_singleton.1 hc
      simp only [Prod.mk.injEq] at e
      rw [e.1, e.2]
      exact par_snoc_new _ hn
theorem WfT.mem_par {l : T} (h : WfT l) {c : Int} (hc : c ∈ ids l) : (c, par l c) ∈ l := by
  obtain ⟨e, he, h1⟩ := List.mem_map.1 hc
  have : (c, e.2) ∈ l := by rw [← h1]; exact he
  rw [h.par_of this]; exact this
theorem WfT.kid_iff {l : T} (h : WfT l) {c x : Int} : c ∈ kids l x ↔ c ∈ ids l ∧ par l c = x := by
  rw [kids_mem]
  exact ⟨fun hc => ⟨mem_ids_of hc, h.par_of hc⟩, fun ⟨h1, h2⟩ => by rw [← h2]; exact h.mem_par h1⟩
theorem WfT.par_in {l : T} (h : WfT l) {c : Int} (hc : c ∈ ids l) : inT l (par l c) := h.pars _ (h.mem_par hc)
def pos (l : T) (x : Int) : Nat := (ids l).idxOf x
theorem pos_lt {l : T} {x : Int} : x ∈ ids l ↔ pos l x < (ids l).length := List.idxOf_lt_length_iff.symm
theorem ids_len (l : T) : (ids l).length = l.length := by simp [ids]
theorem WfT.pos_par {l : T} (h : WfT l) : ∀ {c : Int}, c ∈ ids l → par l c ≠ 0 → pos l (par l c) < pos l c := by
  induction h with
  | nil => intro c hc; simp [ids] at hc
  | @snoc l x p h hu h0 hn hp ih =>
    intro c hc hp0
    by_cases hcl : c ∈ ids l
    · rw [par_snoc_old _ _ hcl] at hp0 ⊢
      have hpi : par l c ∈ ids l := (h.par_in hcl).resolve_left hp0
      have e : ∀ y, y ∈ ids l → pos (l ++ [(x, p)]) y = pos l y := fun y hy => by unfold pos; rw [ids_snoc, List.idxOf_append, if_pos hy]
      rw [e _ hpi, e _ hcl]
      exact ih hcl hp0
    · have hcx : c = x := by rw [ids_snoc] at hc; simpa [hcl] using hc
      subst hcx
      rw [par_snoc_new p hn] at hp0 ⊢
      have hpi : p ∈ ids l := hp.resolve_left hp0
      unfold pos
      rw [ids_snoc, List.idxOf_append, if_pos hpi, List.idxOf_append, if_neg hcl]
      have := List.idxOf_lt_length_iff.2 hpi
      omega
/-! ### climbing -/
inductive Up (l : T) : Int → Int → Prop
  | refl (y : Int) : Up l y y
  | step {y z : Int} : y ∈ ids l → Up l (par l y) z → Up l y z
theorem Up.trans {l : T} {a b c : Int} (h : Up l a b) (k : Up l b c) : Up l a c := by
  induction h with
  | refl => exact k
  | step hy _ ih => exact .step hy (ih k)
theorem Up.linear {l : T} {y a b : Int} (h : Up l y a) (k : Up l y b) : Up l a b ∨ Up l b a := by
  induction h with
  | refl => exact .inl k
  | step hy h1 ih =>
    cases k with
    | refl => exact .inr (.step hy h1)
    | step _ k1 => exact ih k1
theorem WfT.up_zero {l : T} (h : WfT l) {z : Int} (hu : Up l 0 z) : z = 0 := by
  cases hu with
  | refl => rfl
  | step hy _ => exact absurd hy h.zero
theorem WfT.up_pos {l : T} (h : WfT l) {y z : Int} (hu : Up l y z) (hz : z ≠ 0) (hne : y ≠ z) : pos l z < pos l y := by
  induction hu with
  | refl => exact absurd rfl hne
  | @step y z hy h1 ih =>
    have hp0 : par l y ≠ 0 := fun e => by rw [e] at h1; exact hz (h.up_zero h1)
    have h2 := h.pos_par hy hp0
    by_cases c : par l y = z
    · rw [← c]; exact h2
    · exact Nat.lt_trans (ih hz c) h2
theorem Up.mem {l : T} {y z : Int} (hu : Up l y z) (hne : y ≠ z) : y ∈ ids l := by
  cases hu with
  | refl => exact absurd rfl hne
  | step hy _ => exact hy
theorem WfT.up_anti {l : T} (h : WfT l) {a b : Int} (h1 : Up l a b) (h2 : Up l b a) : a = b := by
  by_cases c : a = b
  · exact c
  · by_cases ha : a = 0
    · subst ha; exact (h.up_zero h1).symm
    · by_cases hb : b = 0
      · subst hb; exact h.up_zero h2
      · have := h.up_pos h1 hb c
        have := h.up_pos h2 ha (Ne.symm c)
        omega
theorem mem_ord {l : T} (h : WfT l) : ∀ (k : Nat) {y id : Int}, y ∈ ordF (kids l) k id → Up l y id := by
  intro k
  induction k with
  | zero => intro y id hy; simp [ordF] at hy
  | succ k ih =>
    intro y id hy
    simp only [ordF, List.mem_append, List.mem_flatMap, List.mem_reverse, List.mem_singleton] at hy
    rcases hy with ⟨c, hc, hy⟩ | rfl
    · obtain ⟨h1, h2⟩ := h.kid_iff.1 hc
      exact (ih hy).trans (.step h1 (by rw [h2]; exact .refl _))
    · exact .refl _
/-- A child is not its parent; climbing from the parent never meets the child. -/
theorem WfT.no_back {l : T} (h : WfT l) {c id : Int} (hc : c ∈ kids l id) : ¬ Up l id c := by
  intro hu
  obtain ⟨h1, h2⟩ := h.kid_iff.1 hc
  have e : c = id := h.up_anti (.step h1 (by rw [h2]; exact .refl _)) hu
  subst e
  have h0 : c ≠ 0 := fun e => h.zero (e ▸ h1)
  have := h.pos_par h1 (by rw [h2]; exact h0)
  rw [h2] at this
  omega
theorem WfT.kids_apart {l : T} (h : WfT l) {id c1 c2 y : Int} (h1 : c1 ∈ kids l id) (h2 : c2 ∈ kids l id) (u1 : Up l y c1) (u2 : Up l y c2) : c1 = c2 := by
  have key : ∀ {a b : Int}, a ∈ kids l id → b ∈ kids l id → Up l a b → a = b := by
    intro a b ha hb hu
    cases hu with
    | refl => rfl
    | step hy h3 =>
      rw [(h.kid_iff.1 ha).2] at h3
      exact absurd h3 (h.no_back hb)
  rcases u1.linear u2 with hu | hu
  · exact key h1 h2 hu
  · exact (key h2 h1 hu).symm
theorem WfT.kids_nodup {l : T} (h : WfT l) (id : Int) : (kids l id).Nodup := List.Nodup.sublist (List.Sublist.map _ List.filter_sublist) h.nodup
theorem WfT.ord_nodup {l : T} (h : WfT l) : ∀ (k : Nat) (id : Int), (ordF (kids l) k id).Nodup := by
  intro k
  induction k with
  | zero => intro id; simp [ordF]
  | succ k ih =>
    intro id
    simp only [ordF]
    rw [List.nodup_append]
    refine ⟨?_, by simp, ?_⟩
    · unfold List.Nodup
      rw [List.pairwise_flatMap]
      refine ⟨fun c _ => ih c, ?_⟩
      have hnd : (kids l id).reverse.Pairwise (· ≠ ·) := by rw [List.pairwise_reverse]; exact (h.kids_nodup id).imp (fun h => Ne.symm h)
      refine hnd.imp_of_mem (fun {a b} ha hb hab x hx y hy e => ?_)
      subst e
      exact hab (h.kids_apart (List.mem_reverse.1 ha) (List.mem_reverse.1 hb) (mem_ord h k hx) (mem_ord h k hy))
    · intro a ha b hb e
      rw [List.mem_singleton] at hb
      subst e hb
      simp only [List.mem_flatMap, List.mem_reverse] at ha
      obtain ⟨c, hc, hy⟩ := ha
      exact h.no_back hc (mem_ord h k hy)
theorem WfT.ord_len {l : T} (h : WfT l) (k : Nat) (id : Int) : (ordF (kids l) k id).length ≤ l.length + 1 := by
  have := (h.ord_nodup k id).length_le_of_subset (l₂ := id :: ids l) (fun y hy => by
    by_cases c : y = id
    · rw [c]; exact List.mem_cons_self
    · exact List.mem_cons_of_mem _ ((mem_ord h k hy).mem c))
  simpa [ids_len] using this
theorem WfT.dp {l : T} (h : WfT l) : ∀ (k : Nat) (x : Int), x ∈ ids l → l.length ≤ k + pos l x → Dp (kids l) k x := by
  intro k
  induction k with
  | zero => intro x hx hk; have := pos_lt.1 hx; rw [ids_len] at this; omega
  | succ k ih =>
    intro x hx hk c hc
    obtain ⟨h1, h2⟩ := h.kid_iff.1 hc
    have hx0 : x ≠ 0 := fun e => h.zero (e ▸ hx)
    have := h.pos_par h1 (by rw [h2]; exact hx0)
    rw [h2] at this
    exact ih c h1 (by omega)
/-- The order of a thing. -/
def ord (l : T) (id : Int) : List Int := if id ∈ ids l then ordF (kids l) l.length id else []
theorem tr_order {w : World} {base : Nat} {ok : Nat → Prop} {g : Nat} {l : T} (h : TR w base ok g l) {id : Int} (hu : u64 id) (hl : l.length ≤ 60) :
    Calls Try.prog 24 #[.pointer (some ⟨g, 0, none⟩), .int .u64 id] w fun e w' => ∃ v, e = .returned v ∧ (Kd.int .u64).R 27 w' w.heap.size (fun k => v.ownBlock = some k) v (ord l id) ∧ Below w.heap.size w w' := by
  obtain ⟨hw, m, nb, tag, D, hT⟩ := h
  unfold ord
  by_cases c : id ∈ ids l
  · rw [if_pos c]
    have h0 : id ≠ 0 := fun e => hw.zero (e ▸ c)
    have hb : l.length * (60 * 61 + 1) ≤ 1000000 := Nat.le_trans (Nat.mul_le_mul_right _ hl) (by decide)
    exact order_yes hT (by simp [inT, c]) h0 (fun x _ y hy => by simp [inT, kid_in hy]) 60 61 l.length (fun x => Nat.le_trans (kids_len l x) hl) (by decide) (fun k x => Nat.le_trans (hw.ord_len k x) (by omega)) hb (hw.dp _ _ c (by omega))
  · rw [if_neg c]
    refine (order_no hT hu (by simp [inT, c])).mono ?_
    rintro e w1 ⟨rfl, hb⟩
    exact ⟨_, rfl, Kd.R_nil _ _ _ _ _, hb⟩
end Go.Proofs.Ytjnpbikalamchaa.Tr
