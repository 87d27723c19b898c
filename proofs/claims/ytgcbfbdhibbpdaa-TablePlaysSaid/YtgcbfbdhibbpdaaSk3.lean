/- A table's slots, plainly: as many handles as slots that are used. -/
import Derived.Test.YtgcbfbdhibbpdaaSk2
set_option linter.unusedVariables false
namespace Go.Proofs.Ytgcbfbdhibbpdaa.Tb
/-- The slots from k on that are not used. -/
def unS : List (Bool × Int) → Int → List Int
  | [], _ => []
  | x :: t, k => if x.1 = true then unS t (k + 1) else k :: unS t (k + 1)
theorem hS_unS (kd : Int) (s : List (Bool × Int)) (k : Int) : (hS kd s k).length + (unS s k).length = s.length := by
  induction s generalizing k with
  | nil => rfl
  | cons x t ih =>
    have := ih (k + 1)
    simp only [hS, unS]
    split <;> simp <;> omega
theorem mem_unS {s : List (Bool × Int)} {k x : Int} : x ∈ unS s k ↔ ∃ i : Nat, i < s.length ∧ x = k + i ∧ (s.getD i (false, 0)).1 = false := by
  induction s generalizing k with
  | nil => simp [unS]
  | cons y t ih =>
    have step : (x ∈ unS t (k + 1)) ↔ ∃ i : Nat, i < (y :: t).length ∧ 0 < i ∧ x = k + i ∧ ((y :: t).getD i (false, 0)).1 = false := by
      rw [ih]
      constructor
      · rintro ⟨i, h1, h2, h3⟩
        exact ⟨i + 1, by simp; omega, by omega, by omega, by simpa using h3⟩
      · rintro ⟨i, h1, h0, h2, h3⟩
        obtain ⟨j, rfl⟩ : ∃ j, i = j + 1 := ⟨i - 1, by omega⟩
        exact ⟨j, by simp at h1; omega, by omega, by simpa using h3⟩
    simp only [unS]
    by_cases c : y.1 = true
    · rw [if_pos c, step]
      constructor
      · rintro ⟨i, h1, _, h2, h3⟩; exact ⟨i, h1, h2, h3⟩
      · rintro ⟨i, h1, h2, h3⟩
        refine ⟨i, h1, ?_, h2, h3⟩
        rcases Nat.eq_zero_or_pos i with h0 | h0
        · subst h0
          rw [show ((y :: t).getD 0 (false, 0)) = y from rfl, c] at h3
          exact absurd h3 (by decide)
        · exact h0
    · rw [if_neg c, List.mem_cons, step]
      constructor
      · rintro (h | ⟨i, h1, _, h2, h3⟩)
        · exact ⟨0, by simp, by rw [h]; simp, by simpa using c⟩
        · exact ⟨i, h1, h2, h3⟩
      · rintro ⟨i, h1, h2, h3⟩
        rcases Nat.eq_zero_or_pos i with h0 | h0
        · subst h0; exact .inl (by rw [h2]; simp)
        · exact .inr ⟨i, h1, h0, h2, h3⟩
theorem unS_nodup (s : List (Bool × Int)) (k : Int) : (unS s k).Nodup := by
  induction s generalizing k with
  | nil => simp [unS]
  | cons y t ih =>
    simp only [unS]
    split
    · exact ih _
    · rw [List.nodup_cons]
      refine ⟨fun h => ?_, ih _⟩
      obtain ⟨i, _, h2, _⟩ := mem_unS.1 h
      omega
theorem Good.count {s : List (Bool × Int)} {fr : List Int} (h : Good s fr) (kd : Int) : ((hS kd s 0).length : Int) = (s.length : Int) - (fr.length : Int) := by
  have hp : (unS s 0).Perm fr := by
    rw [List.perm_ext_iff_of_nodup (unS_nodup s 0) h.nodup]
    intro a
    rw [mem_unS]
    constructor
    · rintro ⟨i, h1, h2, h3⟩
      have := h.used i h1 h3
      rw [h2]; simpa using this
    · intro ha
      obtain ⟨i, h1, h2, h3⟩ := h.free a ha
      exact ⟨i, h2, by omega, h3⟩
  have := hp.length_eq
  have := hS_unS kd s 0
  omega
end Go.Proofs.Ytgcbfbdhibbpdaa.Tb
