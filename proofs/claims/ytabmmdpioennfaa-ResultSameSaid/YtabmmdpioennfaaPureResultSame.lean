/- ResultSame, the plain law: the program's comparison and the document's are one. -/
import Derived.Test.YtabmmdpioennfaaRPure2
import Derived.Test.YtabmmdpioennfaaRex10
import Derived.Test.YtabmmdpioennfaaRex11
set_option linter.unusedVariables false
set_option linter.unusedSimpArgs false
namespace Go.Proofs.Ytabmmdpioennfaa.Re
open Go.RowKit Go.Proofs.YtabmmdpioennfaaW.PrintWords Go.Proofs.YtabmmdpioennfaaW.PrintLast Go.Proofs.YtabmmdpioennfaaW.PrintMore
def EvB (g : Nat → Option Bool) (P : Prop) : Prop := ∃ K v, (∀ k, K ≤ k → g k = some v) ∧ (v = true ↔ P)
def hr (l : List S45) (i : Nat) : Int := (rd_T45 l (i : Int)).f1
def fieldsR (a b : List S45) (i : Nat) : Prop := (rd_T45 a (i : Int)).f0 = (rd_T45 b (i : Int)).f0 ∧ ((rd_T45 a (i : Int)).f2).toList = ((rd_T45 b (i : Int)).f2).toList ∧ (rd_T45 a (i : Int)).f3 = (rd_T45 b (i : Int)).f3 ∧ (hr a i = 0 ↔ hr b i = 0)
def patR (a b : List S45) (i j : Nat) : Prop := hr a i = hr a j ↔ hr b i = hr b j
def restR (a b : List S45) (i : Nat) : Prop := ∀ m, i ≤ m → m < a.length → fieldsR a b m ∧ ∀ j, j < m → patR a b m j
theorem same_l1 {a b : List S45} (hab : a.length = b.length) (hl : a.length ≤ 1000) (i : Nat) (hi : i < a.length) (H : EvB (fun k => steadingref21_Same.l0 k a b ((i + 1 : Nat) : Int)) (restR a b (i + 1))) (d : Nat) :
    ∀ j, j + d = i → EvB (fun k => steadingref21_Same.l1 k a b (i : Int) (j : Int)) ((∀ m, j ≤ m → m < i → patR a b i m) ∧ restR a b (i + 1)) := by
  induction d with
  | zero =>
    intro j hj
    obtain ⟨K, v, h1, h2⟩ := H
    refine ⟨K + 1, v, fun k hk => ?_, h2.trans ⟨fun h => ⟨fun m h3 h4 => by omega, h⟩, fun h => h.2⟩⟩
    obtain ⟨k, rfl⟩ : ∃ q, k = q + 1 := ⟨k - 1, by omega⟩
    simp only [steadingref21_Same.l1]
    rw [if_neg (by omega), show wrap64 ((i : Int) + 1) = ((i + 1 : Nat) : Int) by unfold wrap64; omega]
    exact h1 k (by omega)
  | succ d ih =>
    intro j hj
    obtain ⟨K, v, h1, h2⟩ := ih (j + 1) (by omega)
    by_cases c : patR a b i j
    · refine ⟨K + 1, v, fun k hk => ?_, h2.trans ⟨fun h => ⟨fun m h3 h4 => ?_, h.2⟩, fun h => ⟨fun m h3 h4 => h.1 m (by omega) h4, h.2⟩⟩⟩
      · obtain ⟨k, rfl⟩ : ∃ q, k = q + 1 := ⟨k - 1, by omega⟩
        simp only [steadingref21_Same.l1]
        rw [if_pos (by omega), if_pos (by omega), if_pos (by omega), if_pos (by omega), if_pos (by omega), if_pos (by omega), if_pos (by omega), if_neg ?_, show wrap64 ((j : Int) + 1) = ((j + 1 : Nat) : Int) by unfold wrap64; omega]
        · exact h1 k (by omega)
        · have c2 : hr a i = hr a j ↔ hr b i = hr b j := c
          unfold hr at c2
          have : ((rd_T45 a (i : Int)).f1 == (rd_T45 a (j : Int)).f1) = ((rd_T45 b (i : Int)).f1 == (rd_T45 b (j : Int)).f1) := by rw [Bool.eq_iff_iff, beq_iff_eq, beq_iff_eq]; exact c2
          rw [this]; simp
      · rcases Nat.lt_or_ge j m with h5 | h5
        · exact h.1 m (by omega) h4
        · obtain rfl : m = j := by omega
          exact c
    · refine ⟨1, false, fun k hk => ?_, ⟨fun h => by simp at h, fun h => absurd (h.1 j (Nat.le_refl _) (by omega)) c⟩⟩
      obtain ⟨k, rfl⟩ : ∃ q, k = q + 1 := ⟨k - 1, by omega⟩
      simp only [steadingref21_Same.l1]
      rw [if_pos (by omega), if_pos (by omega), if_pos (by omega), if_pos (by omega), if_pos (by omega), if_pos (by omega), if_pos (by omega), if_pos ?_]
      have c2 : ¬ (hr a i = hr a j ↔ hr b i = hr b j) := c
      unfold hr at c2
      cases e1 : ((rd_T45 a (i : Int)).f1 == (rd_T45 a (j : Int)).f1) <;> cases e2 : ((rd_T45 b (i : Int)).f1 == (rd_T45 b (j : Int)).f1)
      · rw [beq_eq_false_iff_ne] at e1 e2; exact absurd ⟨fun h => absurd h e1, fun h => absurd h e2⟩ c2
      · rfl
      · rfl
      · rw [beq_iff_eq] at e1 e2; exact absurd ⟨fun _ => e2, fun _ => e1⟩ c2
theorem rest_step {a b : List S45} {i : Nat} (hi : i < a.length) : restR a b i ↔ fieldsR a b i ∧ (∀ m, 0 ≤ m → m < i → patR a b i m) ∧ restR a b (i + 1) := by
  constructor
  · intro h
    exact ⟨(h i (Nat.le_refl _) hi).1, fun m _ hm => (h i (Nat.le_refl _) hi).2 m hm, fun m h1 h2 => h m (by omega) h2⟩
  · rintro ⟨h1, h2, h3⟩ m hm1 hm2
    rcases Nat.lt_or_ge i m with h4 | h4
    · exact h3 m (by omega) hm2
    · obtain rfl : m = i := by omega
      exact ⟨h1, fun j hj => h2 j (Nat.zero_le _) hj⟩
theorem same_l0 {a b : List S45} (hab : a.length = b.length) (hl : a.length ≤ 1000) (d : Nat) : ∀ i, i + d = a.length → EvB (fun k => steadingref21_Same.l0 k a b (i : Int)) (restR a b i) := by
  induction d with
  | zero =>
    intro i hi
    refine ⟨1, true, fun k hk => ?_, ⟨fun _ m h1 h2 => by omega, fun _ => rfl⟩⟩
    obtain ⟨k, rfl⟩ : ∃ q, k = q + 1 := ⟨k - 1, by omega⟩
    simp only [steadingref21_Same.l0]
    rw [if_neg (by omega)]
  | succ d ih =>
    intro i hi
    have hlt : i < a.length := by omega
    obtain ⟨K, v, h1, h2⟩ := same_l1 hab hl i hlt (ih (i + 1) (by omega)) i 0 (by omega)
    have hj1 : ∀ k, 1 ≤ k → steadingref21_Same.j1 k a b (i : Int) true = some false := fun k hk => by
      obtain ⟨k, rfl⟩ : ∃ q, k = q + 1 := ⟨k - 1, by omega⟩
      simp only [steadingref21_Same.j1, if_true]
    by_cases c : fieldsR a b i
    · refine ⟨K + 2, v, fun k hk => ?_, h2.trans (by rw [rest_step hlt]; exact ⟨fun h => ⟨c, h.1, h.2⟩, fun h => h.2⟩)⟩
      obtain ⟨k, rfl⟩ : ∃ q, k = q + 1 := ⟨k - 1, by omega⟩
      simp only [steadingref21_Same.l0]
      rw [if_pos (by omega), if_pos (by omega), if_pos (by omega), if_pos c.1, if_pos c.2.1, if_pos c.2.2.1]
      have e : ((rd_T45 a (i : Int)).f1 == 0) = ((rd_T45 b (i : Int)).f1 == 0) := by rw [Bool.eq_iff_iff, beq_iff_eq, beq_iff_eq]; exact c.2.2.2
      rw [e]
      obtain ⟨k, rfl⟩ : ∃ q, k = q + 1 := ⟨k - 1, by omega⟩
      simp only [steadingref21_Same.j1, bne_self_eq_false]
      rw [if_neg (by decide)]
      exact h1 k (by omega)
    · refine ⟨2, false, fun k hk => ?_, ⟨fun h => by simp at h, fun h => absurd ((rest_step hlt).1 h).1 c⟩⟩
      obtain ⟨k, rfl⟩ : ∃ q, k = q + 1 := ⟨k - 1, by omega⟩
      simp only [steadingref21_Same.l0]
      rw [if_pos (by omega), if_pos (by omega), if_pos (by omega)]
      by_cases c0 : (rd_T45 a (i : Int)).f0 = (rd_T45 b (i : Int)).f0
      · rw [if_pos c0]
        by_cases c2 : ((rd_T45 a (i : Int)).f2).toList = ((rd_T45 b (i : Int)).f2).toList
        · rw [if_pos c2]
          by_cases c3 : (rd_T45 a (i : Int)).f3 = (rd_T45 b (i : Int)).f3
          · rw [if_pos c3]
            have c1 : ¬ (hr a i = 0 ↔ hr b i = 0) := fun h => c ⟨c0, c2, c3, h⟩
            unfold hr at c1
            have e : (((rd_T45 a (i : Int)).f1 == 0) != ((rd_T45 b (i : Int)).f1 == 0)) = true := by
              cases e1 : ((rd_T45 a (i : Int)).f1 == 0) <;> cases e2 : ((rd_T45 b (i : Int)).f1 == 0)
              · rw [beq_eq_false_iff_ne] at e1 e2; exact absurd ⟨fun h => absurd h e1, fun h => absurd h e2⟩ c1
              · rfl
              · rfl
              · rw [beq_iff_eq] at e1 e2; exact absurd ⟨fun _ => e2, fun _ => e1⟩ c1
            rw [e]
            exact hj1 k (by omega)
          · rw [if_neg c3]; exact hj1 k (by omega)
        · rw [if_neg c2]; exact hj1 k (by omega)
      · rw [if_neg c0]; exact hj1 k (by omega)
theorem refsame_ev (a b : List S45) (hl : a.length ≤ 1000) : EvB (fun k => steadingref21_Same.f k a b) (a.length = b.length ∧ restR a b 0) := by
  by_cases c : a.length = b.length
  · obtain ⟨K, v, h1, h2⟩ := same_l0 c hl a.length 0 (by omega)
    refine ⟨K, v, fun k hk => ?_, h2.trans ⟨fun h => ⟨c, h⟩, fun h => h.2⟩⟩
    show steadingref21_Same.f k a b = some v
    unfold steadingref21_Same.f
    rw [if_pos (by omega)]; exact h1 k hk
  · refine ⟨0, false, fun k hk => ?_, ⟨fun h => by simp at h, fun h => absurd h.1 c⟩⟩
    show steadingref21_Same.f k a b = some false
    unfold steadingref21_Same.f
    rw [if_neg (by omega)]
theorem ref_model {a b : List S43} (ha : ∀ x ∈ a, bytesB x.f2) (hb : ∀ x ∈ b, bytesB x.f2) : ((a.map toR).length = (b.map toR).length ∧ restR (a.map toR) (b.map toR) 0) ↔ SameP a b := by
  have hh : ∀ (l : List S43) (i : Nat), i < l.length → hr (l.map toR) i = hd l i := fun l i hi => by unfold hr hd; rw [rd45_map hi]; rfl
  constructor
  · rintro ⟨hl, h⟩
    rw [List.length_map, List.length_map] at hl
    have H : ∀ i, i < a.length → fieldsR (a.map toR) (b.map toR) i ∧ ∀ j, j < i → patR (a.map toR) (b.map toR) i j := fun i hi => h i (Nat.zero_le _) (by rw [List.length_map]; exact hi)
    have F : ∀ i, i < a.length → (rd_T43 a (i : Int)).f0 = (rd_T43 b (i : Int)).f0 ∧ (rd_T43 a (i : Int)).f2 = (rd_T43 b (i : Int)).f2 ∧ (rd_T43 a (i : Int)).f3 = (rd_T43 b (i : Int)).f3 := fun i hi => by
      obtain ⟨h0, h2, h3, _⟩ := (H i hi).1
      rw [rd45_map hi, rd45_map (show i < b.length by omega)] at h0 h2 h3
      refine ⟨h0, (strs_eq (ha _ ?_) (hb _ ?_)).1 h2, h3⟩
      · rw [rd43_get hi]; exact List.getElem_mem hi
      · rw [rd43_get (show i < b.length by omega)]; exact List.getElem_mem _
    refine ⟨hl, fun i hi => (F i hi).1, fun i hi => (F i hi).2.1, fun i hi => (F i hi).2.2, fun i hi => ?_, fun i hi j hj => ?_⟩
    · have := (H i hi).1.2.2.2
      rwa [hh a i hi, hh b i (by omega)] at this
    · have := (H i hi).2 j hj
      unfold patR at this
      rwa [hh a i hi, hh b i (by omega), hh a j (by omega), hh b j (by omega)] at this
  · rintro ⟨hl, h0, h2, h3, hp⟩
    refine ⟨by rw [List.length_map, List.length_map]; exact hl, fun i _ hi => ?_⟩
    rw [List.length_map] at hi
    refine ⟨⟨?_, ?_, ?_, ?_⟩, fun j hj => ?_⟩
    · rw [rd45_map hi, rd45_map (show i < b.length by omega)]; exact h0 i hi
    · rw [rd45_map hi, rd45_map (show i < b.length by omega)]; show (strOfNums _).toList = (strOfNums _).toList; rw [h2 i hi]
    · rw [rd45_map hi, rd45_map (show i < b.length by omega)]; exact h3 i hi
    · rw [hh a i hi, hh b i (by omega)]; exact hp.1 i hi
    · unfold patR; rw [hh a i hi, hh b i (by omega), hh a j (by omega), hh b j (by omega)]; exact hp.2 i hi j hj
theorem ResultSame (a b : List S43) (ha : wfL a) (hb : wfL b) : ∃ k, steadinglaw21_ResultSame.f k a b = some true := by
  cases fa : fewR a with
  | false =>
    refine ⟨a.length + b.length + 5, ?_⟩
    unfold steadinglaw21_ResultSame.f
    rw [awake_is]
    simp only [Option.bind_some, if_true]
    rw [few_is ha (by omega), fa]
    simp only [Option.bind_some]
    rw [if_neg (by decide)]
    simp only [steadinglaw21_ResultSame.j0]
    rw [if_neg (by decide)]
  | true =>
    cases fb : fewR b with
    | false =>
      refine ⟨a.length + b.length + 5, ?_⟩
      unfold steadinglaw21_ResultSame.f
      rw [awake_is]
      simp only [Option.bind_some, if_true]
      rw [few_is ha (by omega), fa]
      simp only [Option.bind_some, if_true]
      rw [few_is hb (by omega), fb]
      simp only [Option.bind_some]
      simp only [steadinglaw21_ResultSame.j0]
      rw [if_neg (by decide)]
    | true =>
      have la := fewR_len fa
      have lb := fewR_len fb
      obtain ⟨K, v, h1, h2⟩ := refsame_ev (a.map toR) (b.map toR) (by rw [List.length_map]; omega)
      replace h1 : ∀ k, K ≤ k → steadingref21_Same.f k (a.map toR) (b.map toR) = some v := h1
      rw [ref_model (fun x hx => (ha.2 x hx).2) (fun x hx => (hb.2 x hx).2)] at h2
      obtain ⟨v1, e1, g1⟩ := same_f (fewR_L ha fa) (fewR_L hb fb)
      obtain ⟨v2, e2, g2⟩ := same_f (fewR_L ha fa) (fewR_L ha fa)
      obtain ⟨v3, e3, g3⟩ := same_f (fewR_L hb fb) (fewR_L ha fa)
      refine ⟨K + a.length + b.length + 6, ?_⟩
      unfold steadinglaw21_ResultSame.f
      rw [awake_is]
      simp only [Option.bind_some, if_true]
      rw [few_is ha (by omega), fa]
      simp only [Option.bind_some, if_true]
      rw [few_is hb (by omega), fb]
      simp only [Option.bind_some]
      simp only [steadinglaw21_ResultSame.j0, if_true]
      rw [e1, model_is a (by omega) (by omega), model_is b (by omega) (by omega), e2, e3]
      simp only [Option.bind_some]
      rw [h1 _ (by omega)]
      simp only [Option.bind_some]
      have k1 : v1 = v := by rw [Bool.eq_iff_iff, g1, h2]
      have k2 : v2 = true := g2.2 (SameP.refl a)
      have k3 : v3 = v1 := by rw [Bool.eq_iff_iff, g3, g1]; exact ⟨SameP.symm, SameP.symm⟩
      rw [k1, k2, k3, k1]
      simp
end Go.Proofs.Ytabmmdpioennfaa.Re
