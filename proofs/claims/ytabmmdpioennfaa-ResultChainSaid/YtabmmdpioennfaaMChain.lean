/- ResultChain, walked by hand: two lists that are the same as a third one are the same as each other; handles that are made one add nothing to what was one. -/
import Derived.Test.YtabmmdpioennfaaMResWalk
set_option linter.unusedVariables false
set_option linter.unusedSimpArgs false
namespace Go.Proofs.Ytabmmdpioennfaa.Re
open Go.RowKit Go.Proofs.YtabmmdpioennfaaW.PrintWords Go.Proofs.YtabmmdpioennfaaW.PrintLast Go.Proofs.YtabmmdpioennfaaW.PrintMore
attribute [local go_sem] max2_int min2_int
/-! ### the plain side -/
def seven (x : S43) : S43 := ⟨x.f0, if x.f1 = 0 then 0 else 7, x.f2, x.f3⟩
def stepC (s : Int × Int) (x : S43) : Int × Int := if x.f1 = 0 ∨ x.f1 = s.2 then s else if s.2 = 0 then (1, x.f1) else (s.1 + 1, s.2)
def kindsOf (l : List S43) : Int × Int := l.foldl stepC (0, 0)
theorem kindsOf_snoc (l : List S43) (x : S43) : kindsOf (l ++ [x]) = stepC (kindsOf l) x := by unfold kindsOf; rw [List.foldl_append]; rfl
theorem kinds_inv (l : List S43) : 0 ≤ (kindsOf l).1 ∧ (kindsOf l).1 ≤ l.length ∧ (((kindsOf l).2 = 0 ∧ (kindsOf l).1 = 0 ∧ ∀ x ∈ l, x.f1 = 0) ∨ ((kindsOf l).2 ≠ 0 ∧ 1 ≤ (kindsOf l).1 ∧ (∃ x ∈ l, x.f1 = (kindsOf l).2) ∧ ((kindsOf l).1 < 2 ↔ ∀ x ∈ l, x.f1 = 0 ∨ x.f1 = (kindsOf l).2))) := by
  suffices H : ∀ (n : Nat) (l : List S43), l.length = n → 0 ≤ (kindsOf l).1 ∧ (kindsOf l).1 ≤ l.length ∧ (((kindsOf l).2 = 0 ∧ (kindsOf l).1 = 0 ∧ ∀ x ∈ l, x.f1 = 0) ∨ ((kindsOf l).2 ≠ 0 ∧ 1 ≤ (kindsOf l).1 ∧ (∃ x ∈ l, x.f1 = (kindsOf l).2) ∧ ((kindsOf l).1 < 2 ↔ ∀ x ∈ l, x.f1 = 0 ∨ x.f1 = (kindsOf l).2))) from H l.length l rfl
  intro n
  induction n with
  | zero => intro l hl; obtain rfl := List.eq_nil_of_length_eq_zero hl; exact ⟨by simp [kindsOf], by simp [kindsOf], .inl ⟨rfl, rfl, fun x hx => by simp at hx⟩⟩
  | succ n ih =>
    intro l hl
    obtain ⟨t, y, rfl⟩ : ∃ t y, l = t ++ [y] := ⟨l.dropLast, l.getLast (by intro e; rw [e] at hl; simp at hl), (List.dropLast_concat_getLast _).symm⟩
    obtain ⟨h1, h2, h3⟩ := ih t (by simp at hl; omega)
    rw [kindsOf_snoc]
    have hm : ∀ x, x ∈ t ++ [y] ↔ x ∈ t ∨ x = y := fun x => by simp
    have hlen : (t ++ [y]).length = t.length + 1 := by simp
    generalize kindsOf t = s at h1 h2 h3 ⊢
    obtain ⟨s1, s2⟩ := s
    simp only at h1 h2 h3 ⊢
    unfold stepC
    simp only
    by_cases c : y.f1 = 0 ∨ y.f1 = s2
    · rw [if_pos c]
      refine ⟨h1, by rw [hlen]; omega, ?_⟩
      rcases h3 with ⟨a1, a2, a3⟩ | ⟨a1, a2, ⟨x, hx, a3⟩, a4⟩
      · refine .inl ⟨a1, a2, fun x hx => ?_⟩
        rcases (hm x).1 hx with h | rfl
        · exact a3 x h
        · rcases c with c | c
          · exact c
          · rw [c]; exact a1
      · refine .inr ⟨a1, a2, ⟨x, (hm x).2 (.inl hx), a3⟩, a4.trans ⟨fun h z hz => ?_, fun h z hz => h z ((hm z).2 (.inl hz))⟩⟩
        rcases (hm z).1 hz with hz | rfl
        · exact h z hz
        · exact c
    · rw [if_neg c]
      have c0 : y.f1 ≠ 0 := fun h => c (.inl h)
      have c1 : y.f1 ≠ s2 := fun h => c (.inr h)
      by_cases c2 : s2 = 0
      · rw [if_pos c2]
        refine ⟨by simp, by rw [hlen]; simp; omega, .inr ⟨c0, by simp, ⟨y, (hm y).2 (.inr rfl), rfl⟩, ⟨fun _ z hz => ?_, fun _ => by simp⟩⟩⟩
        rcases h3 with ⟨a1, a2, a3⟩ | ⟨a1, _⟩
        · rcases (hm z).1 hz with hz | rfl
          · exact .inl (a3 z hz)
          · exact .inr rfl
        · exact absurd c2 a1
      · rw [if_neg c2]
        refine ⟨by simp only; omega, by rw [hlen]; simp only; omega, ?_⟩
        rcases h3 with ⟨a1, _⟩ | ⟨a1, a2, ⟨x, hx, a3⟩, a4⟩
        · exact absurd a1 c2
        · refine .inr ⟨a1, by simp only; omega, ⟨x, (hm x).2 (.inl hx), a3⟩, ⟨fun h => by simp only at h; omega, fun h => ?_⟩⟩
          rcases h y ((hm y).2 (.inr rfl)) with h | h
          · exact absurd h c0
          · exact absurd h c1
theorem rd_seven {l : List S43} {i : Nat} (hi : i < l.length) : rd_T43 (l.map seven) (i : Int) = seven (rd_T43 l (i : Int)) := by
  rw [rd43_get (by rw [List.length_map]; exact hi), rd43_get hi]; simp
theorem seven_same (l : List S43) : SameP l (l.map seven) ↔ (kindsOf l).1 < 2 := by
  have hz : ∀ i, i < l.length → (hd (l.map seven) i = if hd l i = 0 then 0 else 7) := fun i hi => by unfold hd; rw [rd_seven hi]; rfl
  have hmem : ∀ x ∈ l, ∃ i, i < l.length ∧ hd l i = x.f1 := fun x hx => by
    obtain ⟨i, hi, rfl⟩ := List.mem_iff_getElem.1 hx
    exact ⟨i, hi, by unfold hd; rw [rd43_get hi]⟩
  have hat : ∀ i, i < l.length → ∃ x ∈ l, hd l i = x.f1 := fun i hi => ⟨l[i], List.getElem_mem hi, by unfold hd; rw [rd43_get hi]⟩
  obtain ⟨k1, k2, k3⟩ := kinds_inv l
  constructor
  · intro h
    rcases k3 with ⟨_, a2, _⟩ | ⟨a1, a2, ⟨x, hx, a3⟩, a4⟩
    · omega
    · rw [a4]
      intro y hy
      by_cases c : y.f1 = 0
      · exact .inl c
      · right
        obtain ⟨i, hi, ei⟩ := hmem x hx
        obtain ⟨j, hj, ej⟩ := hmem y hy
        rw [← a3, ← ei, ← ej]
        have gi := hz i hi
        have gj := hz j hj
        rw [if_neg (by rw [ei, a3]; exact a1)] at gi
        rw [if_neg (by rw [ej]; exact c)] at gj
        rcases Nat.lt_trichotomy i j with h1 | h1 | h1
        · exact (h.pat.2 j hj i h1).2 (by rw [gi, gj])
        · rw [h1]
        · exact ((h.pat.2 i hi j h1).2 (by rw [gi, gj])).symm
  · intro h
    have hone : ∃ f, f ≠ 0 ∧ ∀ i, i < l.length → hd l i = 0 ∨ hd l i = f := by
      rcases k3 with ⟨_, _, a3⟩ | ⟨a1, a2, _, a4⟩
      · exact ⟨7, by decide, fun i hi => by obtain ⟨x, hx, e⟩ := hat i hi; rw [e]; exact .inl (a3 x hx)⟩
      · exact ⟨_, a1, fun i hi => by obtain ⟨x, hx, e⟩ := hat i hi; rw [e]; exact a4.1 h x hx⟩
    obtain ⟨f, hf, hall⟩ := hone
    refine ⟨by simp, fun i hi => by rw [rd_seven hi]; rfl, fun i hi => by rw [rd_seven hi]; rfl, fun i hi => by rw [rd_seven hi]; rfl, fun i hi => ?_, fun i hi j hj => ?_⟩
    · rw [hz i hi]
      by_cases c : hd l i = 0
      · rw [if_pos c, c]
      · rw [if_neg c]; exact ⟨fun h => absurd h c, fun h => by simp at h⟩
    · rw [hz i hi, hz j (by omega)]
      rcases hall i hi with c1 | c1 <;> rcases hall j (by omega) with c2 | c2
      · rw [c1, c2]; simp
      · rw [c1, c2, if_pos rfl, if_neg hf]; exact ⟨fun h => absurd h.symm hf, fun h => by simp at h⟩
      · rw [c1, c2, if_pos rfl, if_neg hf]; exact ⟨fun h => absurd h hf, fun h => by simp at h⟩
      · rw [c1, c2]; simp
theorem few_seven {l : List S43} (h : fewL l = true) : fewL (l.map seven) = true := by
  obtain ⟨h1, h2, h3⟩ := fewL_iff.1 h
  refine fewL_iff.2 ⟨by rw [List.length_map]; exact h1, fun x hx => ?_, fun x hx => ?_⟩
  · obtain ⟨y, hy, rfl⟩ := List.mem_map.1 hx; exact h2 y hy
  · obtain ⟨y, hy, rfl⟩ := List.mem_map.1 hx
    show u64 (if y.f1 = 0 then 0 else 7)
    unfold u64; split <;> omega
end Go.Proofs.Ytabmmdpioennfaa.Re
