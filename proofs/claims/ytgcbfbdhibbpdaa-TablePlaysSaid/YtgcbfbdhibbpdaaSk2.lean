/- A table's slots, plainly: what adding and dropping does to the handles that are live, and to those that were. -/
import Derived.Test.YtgcbfbdhibbpdaaSk
set_option linter.unusedVariables false
namespace Go.Proofs.Ytgcbfbdhibbpdaa.Tb
theorem add_slot {s : List (Bool × Int)} {fr : List Int} (h : Good s fr) : addI s fr ≤ s.length ∧ (s.getD (addI s fr) (false, 0)).1 = false ∧ addG s fr = (s.getD (addI s fr) (false, 0)).2 := by
  by_cases c : fr = []
  · subst c
    rw [addI_nil, addG_nil]
    have e : s.getD s.length (false, 0) = (false, 0) := by rw [List.getD_eq_getElem?_getD, List.getElem?_eq_none (Nat.le_refl _)]; rfl
    rw [e]
    exact ⟨Nat.le_refl _, rfl, rfl⟩
  · obtain ⟨f, i, rfl, hi, hu⟩ := h.last c
    rw [addI_snoc]
    refine ⟨by omega, hu, ?_⟩
    unfold addG
    rw [if_neg c, addI_snoc]
theorem add_range {s : List (Bool × Int)} {fr : List Int} (h : Good s fr) : addI s fr < 4294967296 ∧ 0 ≤ addG s fr ∧ addG s fr < 1073741824 := by
  obtain ⟨h1, h2, h3⟩ := add_slot h
  have := h.len
  rw [h3]
  exact ⟨by omega, h.genAt _⟩
theorem addS_length {s : List (Bool × Int)} {fr : List Int} : (addS s fr).length = if fr = [] then s.length + 1 else s.length := by
  unfold addS
  split <;> simp
theorem addS_getD {s : List (Bool × Int)} {fr : List Int} (h : Good s fr) (i : Nat) : (addS s fr).getD i (false, 0) = if i = addI s fr then (true, addG s fr) else s.getD i (false, 0) := by
  by_cases c : fr = []
  · subst c
    rw [addI_nil, addG_nil]
    unfold addS
    rw [if_pos rfl, List.getD_eq_getElem?_getD]
    by_cases e : i = s.length
    · rw [if_pos e, e, List.getElem?_append_right (Nat.le_refl _)]; simp
    · rw [if_neg e]
      rcases Nat.lt_or_ge i s.length with hl | hg
      · rw [List.getElem?_append_left hl, List.getD_eq_getElem?_getD]
      · rw [List.getElem?_eq_none (by simp; omega), List.getD_eq_getElem?_getD, List.getElem?_eq_none hg]
  · obtain ⟨f, k, rfl, hk, hu⟩ := h.last c
    have e1 := addI_snoc s f k
    unfold addS
    rw [if_neg c, e1]
    by_cases e : i = k
    · subst e
      rw [if_pos rfl, getD_set_eq hk]
    · rw [if_neg e, getD_set_ne (fun h => e h.symm)]
/-- What is handed out was of nothing before .. -/
theorem add_not_live {kd : Int} {s : List (Bool × Int)} {fr : List Int} (h : Good s fr) (hk : 1 ≤ kd ∧ kd ≤ 3) : lvS kd s (pk kd (addI s fr) (addG s fr)) = false := by
  obtain ⟨h1, h2, h3⟩ := add_slot h
  obtain ⟨r1, r2⟩ := add_range h
  obtain ⟨p1, p2, p3, p4, p5⟩ := pk_parts hk r1 r2
  rw [Bool.eq_false_iff]
  intro hl
  obtain ⟨_, _, hu, _⟩ := lvS_iff.1 hl
  rw [p3, h2] at hu
  exact absurd hu (by decide)
/-- .. and is live then. -/
theorem add_live {kd : Int} {s : List (Bool × Int)} {fr : List Int} (h : Good s fr) (hk : 1 ≤ kd ∧ kd ≤ 3) : lvS kd (addS s fr) (pk kd (addI s fr) (addG s fr)) = true := by
  obtain ⟨h1, h2, h3⟩ := add_slot h
  obtain ⟨r1, r2⟩ := add_range h
  obtain ⟨p1, p2, p3, p4, p5⟩ := pk_parts hk r1 r2
  rw [lvS_iff, p3, p4, p5, addS_getD h, if_pos rfl]
  refine ⟨p1, ?_, rfl, rfl, rfl⟩
  rw [addS_length]
  by_cases c : fr = []
  · rw [if_pos c]; omega
  · rw [if_neg c]
    obtain ⟨f, k, rfl, hk, hu⟩ := h.last c
    rw [addI_snoc]; exact hk
theorem addS_ge {s : List (Bool × Int)} {fr : List Int} : s.length ≤ (addS s fr).length := by rw [addS_length]; split <;> omega
theorem live_add {kd : Int} {s : List (Bool × Int)} {fr : List Int} (h : Good s fr) {hd : Int} (hl : lvS kd s hd = true) : lvS kd (addS s fr) hd = true := by
  obtain ⟨a, b, c, d, e⟩ := lvS_iff.1 hl
  obtain ⟨h1, h2, h3⟩ := add_slot h
  have hne : ixn hd ≠ addI s fr := by intro e; rw [e, h2] at c; exact absurd c (by decide)
  rw [lvS_iff, addS_getD h, if_neg hne]
  exact ⟨a, Nat.lt_of_lt_of_le b addS_ge, c, d, e⟩
theorem dropS_length {s : List (Bool × Int)} {i : Nat} : (dropS s i).length = s.length := by unfold dropS; simp
theorem dropS_getD {s : List (Bool × Int)} {i : Nat} (hi : i < s.length) (j : Nat) : (dropS s i).getD j (false, 0) = if j = i then (false, nx (s.getD i (false, 0)).2) else s.getD j (false, 0) := by
  unfold dropS
  by_cases e : j = i
  · subst e; rw [if_pos rfl, getD_set_eq hi]
  · rw [if_neg e, getD_set_ne (fun h => e h.symm)]
/-- Two live handles of one slot are one. -/
theorem live_one {kd : Int} {s : List (Bool × Int)} {a b : Int} (ha : a < 18446744073709551616) (hb : b < 18446744073709551616) (la : lvS kd s a = true) (lb : lvS kd s b = true) (h : ixn a = ixn b) : a = b := by
  rw [live_pk ha la, live_pk hb lb, h]
theorem live_drop {kd : Int} {s : List (Bool × Int)} {a b : Int} (ha : a < 18446744073709551616) (hb : b < 18446744073709551616) (la : lvS kd s a = true) (lb : lvS kd s b = true) (h : b ≠ a) : lvS kd (dropS s (ixn a)) b = true := by
  obtain ⟨_, a2, _⟩ := lvS_iff.1 la
  obtain ⟨b1, b2, b3, b4, b5⟩ := lvS_iff.1 lb
  have hne : ixn b ≠ ixn a := fun e => h (live_one hb ha lb la e)
  rw [lvS_iff, dropS_getD a2, if_neg hne, dropS_length]
  exact ⟨b1, b2, b3, b4, b5⟩
/-- What stands between two parts of a list with no thing twice is in none of them. -/
theorem nodup_mid {a b : List Int} {x : Int} (h : (a ++ x :: b).Nodup) : (a ++ b).Nodup ∧ ∀ y ∈ a ++ b, y ≠ x := by
  rw [List.nodup_append] at h
  obtain ⟨h1, h2, h3⟩ := h
  rw [List.nodup_cons] at h2
  refine ⟨?_, fun y hy => ?_⟩
  · rw [List.nodup_append]
    exact ⟨h1, h2.2, fun x hx y hy => h3 x hx y (List.mem_cons_of_mem _ hy)⟩
  · rcases List.mem_append.1 hy with hy | hy
    · exact h3 y hy x (by simp)
    · rintro rfl; exact h2.1 hy
theorem mid_split (l : List Int) {k : Nat} (hk : k < l.length) : l = l.take k ++ l.getD k 0 :: l.drop (k + 1) := by
  have e : l.getD k 0 = l[k] := by rw [List.getD_eq_getElem?_getD, List.getElem?_eq_getElem hk]; rfl
  rw [e, ← List.drop_eq_getElem_cons hk, List.take_append_drop]
end Go.Proofs.Ytgcbfbdhibbpdaa.Tb
