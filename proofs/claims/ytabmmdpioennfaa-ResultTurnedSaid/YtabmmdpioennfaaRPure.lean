/- Lists of results held against each other but for handles' numbers: plain laws. -/
import Derived.Test.YtabmmdpioennfaaMSame2
set_option linter.unusedVariables false
set_option linter.unusedSimpArgs false
namespace Go.Proofs.Ytabmmdpioennfaa.Re
/-- What came ahead of place i, each but once, without 0. -/
def seen (h : Nat → Int) : Nat → List Int
  | 0 => []
  | i + 1 => addSeen (seen h i) (h i)
/-- The number of the handle at place i. -/
def NN (h : Nat → Int) (i : Nat) : Int := numOf (seen h i) (h i)
theorem mem_addSeen {sn : List Int} {x y : Int} : x ∈ addSeen sn y ↔ x ∈ sn ∨ (x = y ∧ y ≠ 0) := by
  unfold addSeen
  by_cases c : y = 0 ∨ y ∈ sn
  · rw [if_pos c]
    constructor
    · exact .inl
    · rintro (h | ⟨rfl, h⟩)
      · exact h
      · exact c.resolve_left h
  · rw [if_neg c, List.mem_append, List.mem_singleton]
    constructor
    · rintro (h | rfl)
      · exact .inl h
      · exact .inr ⟨rfl, fun h => c (.inl h)⟩
    · rintro (h | ⟨h, _⟩)
      · exact .inl h
      · exact .inr h
theorem mem_seen {h : Nat → Int} {x : Int} : ∀ {i : Nat}, x ∈ seen h i ↔ x ≠ 0 ∧ ∃ j, j < i ∧ h j = x
  | 0 => by simp [seen]
  | i + 1 => by
    rw [seen, mem_addSeen, mem_seen]
    constructor
    · rintro (⟨h0, j, hj, rfl⟩ | ⟨rfl, h0⟩)
      · exact ⟨h0, j, by omega, rfl⟩
      · exact ⟨h0, i, by omega, rfl⟩
    · rintro ⟨h0, j, hj, rfl⟩
      rcases Nat.lt_or_ge j i with h1 | h1
      · exact .inl ⟨h0, j, h1, rfl⟩
      · obtain rfl : j = i := by omega
        exact .inr ⟨rfl, h0⟩
theorem numOf_addSeen {sn : List Int} {x y : Int} (hx : x ∈ sn) : numOf (addSeen sn y) x = numOf sn x := by
  unfold addSeen numOf
  by_cases c : y = 0 ∨ y ∈ sn
  · rw [if_pos c]
  · rw [if_neg c, List.idxOf_append, if_pos hx]
theorem numOf_seen_mono {h : Nat → Int} {x : Int} {i k : Nat} (hik : i ≤ k) (hx : x ∈ seen h i) : numOf (seen h k) x = numOf (seen h i) x := by
  induction k with
  | zero => obtain rfl : i = 0 := by omega
            rfl
  | succ k ih =>
    rcases Nat.lt_or_ge i (k + 1) with h1 | h1
    · have hk := ih (by omega)
      rw [seen, numOf_addSeen, hk]
      rw [mem_seen] at hx ⊢
      obtain ⟨h0, j, hj, e⟩ := hx
      exact ⟨h0, j, by omega, e⟩
    · obtain rfl : i = k + 1 := by omega
      rfl
theorem NN_at {h : Nat → Int} {i k : Nat} (hik : i < k) : NN h i = numOf (seen h k) (h i) := by
  by_cases c0 : h i = 0
  · unfold NN numOf; rw [if_pos c0, if_pos c0]
  · have hm : h i ∈ seen h (i + 1) := mem_seen.2 ⟨c0, i, by omega, rfl⟩
    rw [numOf_seen_mono (show i + 1 ≤ k by omega) hm]
    by_cases c : h i ∈ seen h i
    · rw [seen, numOf_addSeen c]; rfl
    · unfold NN
      rw [seen]
      unfold addSeen
      rw [if_neg (by rintro (h1 | h1); exact c0 h1; exact c h1)]
      unfold numOf
      rw [if_neg c0, if_neg c0, List.idxOf_eq_length c, List.idxOf_append, if_neg c]
      simp
theorem NN_zero {h : Nat → Int} {i : Nat} : NN h i = 0 ↔ h i = 0 := by
  unfold NN numOf
  by_cases c : h i = 0
  · rw [if_pos c]; simp [c]
  · rw [if_neg c]; constructor
    · intro h1; omega
    · intro h1; exact absurd h1 c
theorem NN_eq {h : Nat → Int} {i j : Nat} : NN h i = NN h j ↔ h i = h j := by
  obtain ⟨k, hi, hj⟩ : ∃ k, i < k ∧ j < k := ⟨i + j + 1, by omega, by omega⟩
  rw [NN_at hi, NN_at hj]
  constructor
  · intro e
    unfold numOf at e
    by_cases ci : h i = 0
    · by_cases cj : h j = 0
      · rw [ci, cj]
      · rw [if_pos ci, if_neg cj] at e; omega
    · by_cases cj : h j = 0
      · rw [if_neg ci, if_pos cj] at e; omega
      · rw [if_neg ci, if_neg cj] at e
        have mi : h i ∈ seen h k := mem_seen.2 ⟨ci, i, hi, rfl⟩
        have mj : h j ∈ seen h k := mem_seen.2 ⟨cj, j, hj, rfl⟩
        have li := List.idxOf_lt_length_of_mem mi
        have e2 : (seen h k).idxOf (h i) = (seen h k).idxOf (h j) := by omega
        have g1 := List.getElem_idxOf li
        have lj := List.idxOf_lt_length_of_mem mj
        have g2 := List.getElem_idxOf lj
        rw [← g1, ← g2]
        congr 1
  · intro e; rw [e]
/-- Two rows of handles with one and the same pattern, up to n. -/
def Pat (h g : Nat → Int) (n : Nat) : Prop := (∀ i, i < n → (h i = 0 ↔ g i = 0)) ∧ ∀ i, i < n → ∀ j, j < i → (h i = h j ↔ g i = g j)
theorem Pat.num {h g : Nat → Int} {n : Nat} (hp : Pat h g n) : ∀ i, i ≤ n → (seen h i).length = (seen g i).length ∧ ∀ j, j < i → NN h j = NN g j := by
  intro i
  induction i with
  | zero => intro _; exact ⟨rfl, fun j hj => by omega⟩
  | succ i ih =>
    intro hi
    obtain ⟨hl, hN⟩ := ih (by omega)
    by_cases c0 : h i = 0
    · have d0 := (hp.1 i (by omega)).1 c0
      refine ⟨by rw [seen, seen]; unfold addSeen; rw [if_pos (.inl c0), if_pos (.inl d0)]; exact hl, fun j hj => ?_⟩
      rcases Nat.lt_or_ge j i with h1 | h1
      · exact hN j h1
      · obtain rfl : j = i := by omega
        rw [NN_zero.2 c0, NN_zero.2 d0]
    · have d0 : g i ≠ 0 := fun e => c0 ((hp.1 i (by omega)).2 e)
      by_cases c : h i ∈ seen h i
      · obtain ⟨_, j0, hj0, e0⟩ := mem_seen.1 c
        have f0 := (hp.2 i (by omega) j0 hj0).1 e0.symm
        have d : g i ∈ seen g i := mem_seen.2 ⟨d0, j0, hj0, f0.symm⟩
        refine ⟨by rw [seen, seen]; unfold addSeen; rw [if_pos (.inr c), if_pos (.inr d)]; exact hl, fun j hj => ?_⟩
        rcases Nat.lt_or_ge j i with h1 | h1
        · exact hN j h1
        · obtain rfl : j = i := by omega
          rw [NN_eq.2 e0.symm, NN_eq.2 f0]; exact hN j0 hj0
      · have d : g i ∉ seen g i := fun hd => by
          obtain ⟨_, j0, hj0, e0⟩ := mem_seen.1 hd
          exact c (mem_seen.2 ⟨c0, j0, hj0, ((hp.2 i (by omega) j0 hj0).2 e0.symm).symm⟩)
        refine ⟨by rw [seen, seen]; unfold addSeen; rw [if_neg (by rintro (h1 | h1); exact c0 h1; exact c h1), if_neg (by rintro (h1 | h1); exact d0 h1; exact d h1)]; simp [hl], fun j hj => ?_⟩
        rcases Nat.lt_or_ge j i with h1 | h1
        · exact hN j h1
        · obtain rfl : j = i := by omega
          unfold NN numOf
          rw [if_neg c0, if_neg d0, List.idxOf_eq_length c, List.idxOf_eq_length d, hl]
theorem pat_iff {h g : Nat → Int} {n : Nat} : (∀ i, i < n → NN h i = NN g i) ↔ Pat h g n := by
  constructor
  · intro e
    refine ⟨fun i hi => by rw [← NN_zero (h := h), e i hi, NN_zero], fun i hi j hj => ?_⟩
    rw [← NN_eq (h := h), e i hi, e j (by omega), NN_eq]
  · intro hp i hi
    exact (hp.num n (Nat.le_refl _)).2 i hi
theorem Pat.refl (h : Nat → Int) (n : Nat) : Pat h h n := ⟨fun _ _ => Iff.rfl, fun _ _ _ _ => Iff.rfl⟩
theorem Pat.symm {h g : Nat → Int} {n : Nat} (p : Pat h g n) : Pat g h n := ⟨fun i hi => (p.1 i hi).symm, fun i hi j hj => (p.2 i hi j hj).symm⟩
theorem Pat.trans {h g f : Nat → Int} {n : Nat} (p : Pat h g n) (q : Pat g f n) : Pat h f n := ⟨fun i hi => (p.1 i hi).trans (q.1 i hi), fun i hi j hj => (p.2 i hi j hj).trans (q.2 i hi j hj)⟩
theorem Pat.mono {h g : Nat → Int} {n m : Nat} (p : Pat h g n) (hm : m ≤ n) : Pat h g m := ⟨fun i hi => p.1 i (by omega), fun i hi j hj => p.2 i (by omega) j hj⟩
theorem Pat.numbers (h : Nat → Int) (n : Nat) : Pat h (NN h) n := ⟨fun i _ => NN_zero.symm, fun i _ j _ => NN_eq.symm⟩
theorem Pat.congr {h h' g g' : Nat → Int} {n : Nat} (p : Pat h g n) (e1 : ∀ i, i < n → h i = h' i) (e2 : ∀ i, i < n → g i = g' i) : Pat h' g' n :=
  ⟨fun i hi => by rw [← e1 i hi, ← e2 i hi]; exact p.1 i hi, fun i hi j hj => by rw [← e1 i hi, ← e2 i hi, ← e1 j (by omega), ← e2 j (by omega)]; exact p.2 i hi j hj⟩
/-! ### lists -/
def hd (l : List S43) (i : Nat) : Int := (rd_T43 l (i : Int)).f1
theorem seenOf_seen (l : List S43) : ∀ i, i ≤ l.length → seenOf (l.take i) = seen (hd l) i := by
  intro i
  induction i with
  | zero => intro _; rfl
  | succ i ih =>
    intro hi
    rw [List.take_succ_eq_append_getElem (by omega), seenOf_snoc, ih (by omega), seen, hd, rd43_get (show i < l.length by omega)]
theorem plainF_rd {l : List S43} {i : Nat} (hi : i < l.length) : rd_T43 (plainF l) (i : Int) = ⟨(rd_T43 l (i : Int)).f0, NN (hd l) i, (rd_T43 l (i : Int)).f2, (rd_T43 l (i : Int)).f3⟩ := by
  rw [rd43_get (by rw [plainF_length]; exact hi), plainF_get l i hi, rd43_get hi]
  unfold plX NN
  rw [seenOf_seen l i (by omega), hd, rd43_get hi]
/-- What is the same but for handles' numbers. -/
structure SameP (a b : List S43) : Prop where
  len : a.length = b.length
  f0 : ∀ i : Nat, i < a.length → (rd_T43 a (i : Int)).f0 = (rd_T43 b (i : Int)).f0
  f2 : ∀ i : Nat, i < a.length → (rd_T43 a (i : Int)).f2 = (rd_T43 b (i : Int)).f2
  f3 : ∀ i : Nat, i < a.length → (rd_T43 a (i : Int)).f3 = (rd_T43 b (i : Int)).f3
  pat : Pat (hd a) (hd b) a.length
theorem sameL_iff (a b : List S43) : sameL (plainF a) (plainF b) = true ↔ SameP a b := by
  unfold sameL
  rw [Bool.and_eq_true, beq_iff_eq, plainF_length, plainF_length, List.all_eq_true]
  constructor
  · rintro ⟨hl, h⟩
    have H : ∀ i : Nat, i < a.length → (rd_T43 a (i : Int)).f0 = (rd_T43 b (i : Int)).f0 ∧ NN (hd a) i = NN (hd b) i ∧ (rd_T43 a (i : Int)).f3 = (rd_T43 b (i : Int)).f3 ∧ (rd_T43 a (i : Int)).f2 = (rd_T43 b (i : Int)).f2 := by
      intro i hi
      have := h i (List.mem_range.2 hi)
      rw [plainF_rd hi, plainF_rd (by omega)] at this
      simpa [sameX] using this
    exact ⟨hl, fun i hi => (H i hi).1, fun i hi => (H i hi).2.2.2, fun i hi => (H i hi).2.2.1, pat_iff.1 fun i hi => (H i hi).2.1⟩
  · rintro ⟨hl, h0, h2, h3, hp⟩
    refine ⟨hl, fun i hi => ?_⟩
    have hi2 := List.mem_range.1 hi
    rw [plainF_rd hi2, plainF_rd (by omega)]
    have := pat_iff.2 hp i hi2
    simp [sameX, h0 i hi2, h2 i hi2, h3 i hi2, this]
theorem SameP.refl (a : List S43) : SameP a a := ⟨rfl, fun _ _ => rfl, fun _ _ => rfl, fun _ _ => rfl, Pat.refl _ _⟩
theorem SameP.symm {a b : List S43} (h : SameP a b) : SameP b a :=
  ⟨h.len.symm, fun i hi => (h.f0 i (by have := h.len; omega)).symm, fun i hi => (h.f2 i (by have := h.len; omega)).symm, fun i hi => (h.f3 i (by have := h.len; omega)).symm, by rw [← h.len]; exact h.pat.symm⟩
theorem SameP.trans {a b c : List S43} (h : SameP a b) (k : SameP b c) : SameP a c := by
  have hl := h.len
  exact ⟨h.len.trans k.len, fun i hi => (h.f0 i hi).trans (k.f0 i (by omega)), fun i hi => (h.f2 i hi).trans (k.f2 i (by omega)), fun i hi => (h.f3 i hi).trans (k.f3 i (by omega)), h.pat.trans (by rw [hl]; exact k.pat)⟩
theorem same_f {a b : List S43} (ha : fewL a = true) (hb : fewL b = true) : ∃ v, result_Same.f a b = some v ∧ (v = true ↔ SameP a b) := by
  unfold result_Same.f
  rw [if_pos ⟨ha, hb⟩]
  exact ⟨_, rfl, sameL_iff a b⟩
end Go.Proofs.Ytabmmdpioennfaa.Re
