/- The plain theory of lists of runs: which pages they have; that right lists with the same pages are the same; what is taken and given. No Go in it. -/
import Derived.Test.YtdkedgdieoojgaaMGive
set_option linter.unusedVariables false
set_option linter.unusedSimpArgs false
namespace Go.Proofs.Ytdkedgdieoojgaa.Rn
open Go.RowKit Go.Proofs.YtdkedgdieoojgaaW.PrintWords Go.Proofs.YtdkedgdieoojgaaW.PrintLast Go.Proofs.YtdkedgdieoojgaaW.PrintMore

/-- Right from a place on: each run begins behind it, and behind the end of the one ahead of it. -/
def rightFrom : List S51 → Int → Int → Bool
  | [], _, _ => true
  | x :: t, P, a => decide (a < x.f0 ∧ 0 ≤ x.f0 ∧ 1 ≤ x.f1 ∧ x.f0 + x.f1 ≤ P) && rightFrom t P (x.f0 + x.f1)
def rightF (l : List S51) (P : Int) : Bool := rightFrom l P (-1)
def totalF : List S51 → Int
  | [] => 0
  | x :: t => x.f1 + totalF t
/-- Is q a page of these runs? -/
def Cov (l : List S51) (q : Int) : Prop := ∃ x ∈ l, x.f0 ≤ q ∧ q < x.f0 + x.f1

theorem rf_cons {x : S51} {t : List S51} {P a : Int} : rightFrom (x :: t) P a = true ↔ (a < x.f0 ∧ 0 ≤ x.f0 ∧ 1 ≤ x.f1 ∧ x.f0 + x.f1 ≤ P) ∧ rightFrom t P (x.f0 + x.f1) = true := by
  simp only [rightFrom, Bool.and_eq_true, decide_eq_true_eq]
theorem cov_nil (q : Int) : ¬ Cov [] q := by rintro ⟨x, hx, _⟩; simp at hx
theorem cov_cons {x : S51} {t : List S51} {q : Int} : Cov (x :: t) q ↔ (x.f0 ≤ q ∧ q < x.f0 + x.f1) ∨ Cov t q := by
  constructor
  · rintro ⟨y, hy, h⟩
    rcases List.mem_cons.1 hy with rfl | hy
    · exact .inl h
    · exact .inr ⟨y, hy, h⟩
  · rintro (h | ⟨y, hy, h⟩)
    · exact ⟨x, List.mem_cons_self, h⟩
    · exact ⟨y, List.mem_cons_of_mem _ hy, h⟩
theorem cov_append {l m : List S51} {q : Int} : Cov (l ++ m) q ↔ Cov l q ∨ Cov m q := by
  induction l with
  | nil => simp [cov_nil]
  | cons x t ih => rw [List.cons_append, cov_cons, cov_cons, ih, or_assoc]
theorem rf_low {l : List S51} {P a b : Int} (h : rightFrom l P a = true) (hab : b ≤ a) : rightFrom l P b = true := by
  cases l with
  | nil => rfl
  | cons x t => rw [rf_cons] at h ⊢; exact ⟨⟨by omega, h.1.2⟩, h.2⟩
theorem rf_mem {l : List S51} {P a : Int} (h : rightFrom l P a = true) : ∀ x ∈ l, a < x.f0 ∧ 0 ≤ x.f0 ∧ 1 ≤ x.f1 ∧ x.f0 + x.f1 ≤ P := by
  induction l generalizing a with
  | nil => intro x hx; simp at hx
  | cons y t ih =>
    rw [rf_cons] at h
    intro x hx
    rcases List.mem_cons.1 hx with rfl | hx
    · exact h.1
    · have := ih h.2 x hx
      omega
theorem cov_ge {l : List S51} {P a q : Int} (h : rightFrom l P a = true) (hq : Cov l q) : a < q ∧ 0 ≤ q ∧ q < P := by
  obtain ⟨x, hx, h1, h2⟩ := hq
  have := rf_mem h x hx
  omega
theorem canon {l m : List S51} {P Q a b : Int} (hl : rightFrom l P a = true) (hm : rightFrom m Q b = true) (h : ∀ q, Cov l q ↔ Cov m q) : l = m := by
  induction l generalizing m a b with
  | nil =>
    cases m with
    | nil => rfl
    | cons y u =>
      rw [rf_cons] at hm
      exact absurd ((h y.f0).2 (cov_cons.2 (.inl (by omega)))) (cov_nil _)
  | cons x t ih =>
    cases m with
    | nil =>
      rw [rf_cons] at hl
      exact absurd ((h x.f0).1 (cov_cons.2 (.inl (by omega)))) (cov_nil _)
    | cons y u =>
      rw [rf_cons] at hl hm
      have e0 : x.f0 = y.f0 := by
        rcases Int.lt_trichotomy x.f0 y.f0 with hlt | he | hgt
        · rcases cov_cons.1 ((h x.f0).1 (cov_cons.2 (.inl (by omega)))) with c | c
          · omega
          · have := cov_ge hm.2 c; omega
        · exact he
        · rcases cov_cons.1 ((h y.f0).2 (cov_cons.2 (.inl (by omega)))) with c | c
          · omega
          · have := cov_ge hl.2 c; omega
      have e1 : x.f1 = y.f1 := by
        rcases Int.lt_trichotomy x.f1 y.f1 with hlt | he | hgt
        · rcases cov_cons.1 ((h (x.f0 + x.f1)).2 (cov_cons.2 (.inl (by omega)))) with c | c
          · omega
          · have := cov_ge hl.2 c; omega
        · exact he
        · rcases cov_cons.1 ((h (y.f0 + y.f1)).1 (cov_cons.2 (.inl (by omega)))) with c | c
          · omega
          · have := cov_ge hm.2 c; omega
      have exy : x = y := by cases x; cases y; simp only at e0 e1; rw [e0, e1]
      subst exy
      have ht : t = u := ih hl.2 hm.2 (fun q => by
        constructor
        · intro c
          have g := cov_ge hl.2 c
          rcases cov_cons.1 ((h q).1 (cov_cons.2 (.inr c))) with d | d
          · omega
          · exact d
        · intro c
          have g := cov_ge hm.2 c
          rcases cov_cons.1 ((h q).2 (cov_cons.2 (.inr c))) with d | d
          · omega
          · exact d)
      rw [ht]
theorem right_fits {l : List S51} {P : Int} (h : rightF l P = true) (hP : P ≤ 1099511627776) (hl : l.length ≤ 1000) : fitsR l = true := by
  simp only [fitsR, Bool.and_eq_true, List.all_eq_true, decide_eq_true_eq]
  exact ⟨hl, fun x hx => by have := rf_mem h x hx; omega⟩
/-! ### one of some pages -/
theorem hasB_iff {x : S51} {p n : Int} (hp : 0 ≤ p) (hn : 1 ≤ n) : hasB x p n = true ↔ x.f0 < p + n ∧ p < x.f0 + x.f1 := by
  simp only [hasB, Bool.and_eq_true, Bool.or_eq_true, decide_eq_true_eq]; omega
theorem has_iff {l : List S51} {P a p n : Int} (h : rightFrom l P a = true) (hp : 0 ≤ p) (hn : 1 ≤ n) : l.any (fun x => hasB x p n) = true ↔ ∃ q, p ≤ q ∧ q < p + n ∧ Cov l q := by
  rw [List.any_eq_true]
  constructor
  · rintro ⟨x, hx, hb⟩
    rw [hasB_iff hp hn] at hb
    have := rf_mem h x hx
    by_cases c : p ≤ x.f0
    · exact ⟨x.f0, by omega, by omega, x, hx, by omega, by omega⟩
    · exact ⟨p, by omega, by omega, x, hx, by omega, by omega⟩
  · rintro ⟨q, h1, h2, x, hx, h3, h4⟩
    exact ⟨x, hx, (hasB_iff hp hn).2 (by omega)⟩
theorem hasnt_iff {l : List S51} {P a p n : Int} (h : rightFrom l P a = true) (hp : 0 ≤ p) (hn : 1 ≤ n) : l.any (fun x => hasB x p n) = false ↔ ∀ q, p ≤ q → q < p + n → ¬ Cov l q := by
  rw [Bool.eq_false_iff, Ne, has_iff h hp hn]
  constructor
  · intro hh q h1 h2 c; exact hh ⟨q, h1, h2, c⟩
  · rintro hh ⟨q, h1, h2, c⟩; exact hh q h1 h2 c
/-! ### given back -/
/-- What absorb makes of a run that begins ahead of, or right at the end of, the first one. -/
theorem absorb_spec (l : List S51) : ∀ (P a : Int) (r : S51), rightFrom l P a = true → a < r.f0 → 0 ≤ r.f0 → 1 ≤ r.f1 → r.f0 + r.f1 ≤ P → (∀ x ∈ l, r.f0 ≤ x.f0 + x.f1) → (∀ q, r.f0 ≤ q → q < r.f0 + r.f1 → ¬ Cov l q) →
    ∃ s rest, absorb l r = (s, rest) ∧ rightFrom (s :: rest) P a = true ∧ (∀ q, Cov (s :: rest) q ↔ Cov l q ∨ (r.f0 ≤ q ∧ q < r.f0 + r.f1)) ∧ s.f1 + totalF rest = totalF l + r.f1 := by
  induction l with
  | nil =>
    intro P a r _ ha h0 h1 hP _ _
    refine ⟨r, [], rfl, rf_cons.2 ⟨⟨ha, h0, h1, hP⟩, rfl⟩, fun q => ?_, by simp [totalF]⟩
    rw [cov_cons]; simp [cov_nil]
  | cons x t ih =>
    intro P a r hl ha h0 h1 hP hend hdis
    have hl' := hl
    rw [rf_cons] at hl
    have hxe := hend x List.mem_cons_self
    by_cases c : x.f0 ≤ r.f0 + r.f1
    · -- x is taken up: it ends at r's beginning, or begins at r's end
      have hx : x.f0 + x.f1 = r.f0 ∨ x.f0 = r.f0 + r.f1 := by
        by_cases c2 : x.f0 < r.f0
        · have : ¬ (r.f0 < x.f0 + x.f1) := fun hlt => hdis r.f0 (Int.le_refl _) (by omega) (cov_cons.2 (.inl (by omega)))
          omega
        · have : ¬ (x.f0 < r.f0 + r.f1) := fun hlt => hdis x.f0 (by omega) hlt (cov_cons.2 (.inl (by omega)))
          omega
      have hm : mn x.f0 r.f0 = if x.f0 + x.f1 = r.f0 then x.f0 else r.f0 := by rw [mn_if]; split <;> split <;> omega
      have hr' : ∀ y ∈ t, x.f0 + x.f1 < y.f0 := fun y hy => (rf_mem hl.2 y hy).1
      obtain ⟨s, rest, e, hR, hC, hT⟩ := ih P a ⟨mn x.f0 r.f0, x.f1 + r.f1⟩ (rf_low hl.2 (by omega)) (by show a < mn x.f0 r.f0; rw [hm]; split <;> omega) (by show 0 ≤ mn x.f0 r.f0; rw [hm]; split <;> omega) (by show 1 ≤ x.f1 + r.f1; omega)
        (by show mn x.f0 r.f0 + (x.f1 + r.f1) ≤ P; rw [hm]; split <;> omega)
        (fun y hy => by have := hr' y hy; have := (rf_mem hl.2 y hy); show mn x.f0 r.f0 ≤ _; rw [hm]; split <;> omega)
        (fun q hq1 hq2 hq3 => by
          have g := cov_ge hl.2 hq3
          have hq1' : mn x.f0 r.f0 ≤ q := hq1
          have hq2' : q < mn x.f0 r.f0 + (x.f1 + r.f1) := hq2
          rw [hm] at hq1' hq2'
          exact hdis q (by split at hq1' <;> omega) (by split at hq2' <;> split at hq1' <;> omega) (cov_cons.2 (.inr hq3)))
      refine ⟨s, rest, ?_, hR, fun q => ?_, ?_⟩
      · simp only [absorb]; rw [if_pos c]; exact e
      · rw [hC q, cov_cons]
        show Cov t q ∨ (mn x.f0 r.f0 ≤ q ∧ q < mn x.f0 r.f0 + (x.f1 + r.f1)) ↔ _
        rw [hm]
        constructor
        · rintro (h | h)
          · exact .inl (.inr h)
          · split at h
            · by_cases d : q < r.f0
              · exact .inl (.inl (by omega))
              · exact .inr (by omega)
            · by_cases d : q < x.f0
              · exact .inr (by omega)
              · exact .inl (.inl (by omega))
        · rintro ((h | h) | h)
          · right; split <;> omega
          · exact .inl h
          · right; split <;> omega
      · rw [hT]; simp only [totalF]; omega
    · refine ⟨r, x :: t, by simp only [absorb]; rw [if_neg c], rf_cons.2 ⟨⟨ha, h0, h1, hP⟩, rf_cons.2 ⟨⟨by omega, hl.1.2⟩, hl.2⟩⟩, fun q => ?_, by simp only [totalF]; omega⟩
      rw [cov_cons]
      exact Or.comm
theorem give_spec_from (l : List S51) : ∀ (P a p n : Int), rightFrom l P a = true → a < p → 0 ≤ p → 1 ≤ n → p + n ≤ P → (∀ q, p ≤ q → q < p + n → ¬ Cov l q) →
    rightFrom (giveF l p n) P a = true ∧ (∀ q, Cov (giveF l p n) q ↔ Cov l q ∨ (p ≤ q ∧ q < p + n)) ∧ totalF (giveF l p n) = totalF l + n := by
  induction l with
  | nil =>
    intro P a p n _ ha hp hn hP hdis
    refine ⟨?_, fun q => ?_, ?_⟩
    · show rightFrom [⟨p, n⟩] P a = true
      exact rf_cons.2 ⟨⟨ha, hp, hn, hP⟩, rfl⟩
    · show Cov [⟨p, n⟩] q ↔ _
      rw [cov_cons]; simp [cov_nil]
    · show totalF [⟨p, n⟩] = _
      simp [totalF]
  | cons x t ih =>
    intro P a p n hl ha hp hn hP hdis
    by_cases c : p ≤ x.f0 + x.f1
    · have e : afterI (x :: t) p = 0 := by simp only [afterI]; rw [if_pos c]
      have hl2 := rf_cons.1 hl
      obtain ⟨s, rest, ea, hR, hC, hT⟩ := absorb_spec (x :: t) P a ⟨p, n⟩ hl ha hp hn hP (fun y hy => by
        rcases List.mem_cons.1 hy with rfl | hy
        · exact c
        · have := rf_mem hl2.2 y hy; show p ≤ _; omega) hdis
      have eg : giveF (x :: t) p n = s :: rest := by unfold giveF; rw [e]; simp only [List.take_zero, List.drop_zero, List.nil_append, ea]
      rw [eg]
      exact ⟨hR, hC, hT⟩
    · have e : afterI (x :: t) p = afterI t p + 1 := by simp only [afterI]; rw [if_neg c]
      have hl2 := rf_cons.1 hl
      obtain ⟨h1, h2, h3⟩ := ih P (x.f0 + x.f1) p n hl2.2 (by omega) hp hn hP (fun q a b d => hdis q a b (cov_cons.2 (.inr d)))
      have eg : giveF (x :: t) p n = x :: giveF t p n := by unfold giveF; rw [e]; simp only [List.take_succ_cons, List.drop_succ_cons, List.cons_append]
      rw [eg]
      refine ⟨rf_cons.2 ⟨hl2.1, h1⟩, fun q => ?_, ?_⟩
      · rw [cov_cons, h2 q, cov_cons, or_assoc]
      · simp only [totalF]; rw [h3]; omega
theorem give_spec {l : List S51} {P p n : Int} (hl : rightF l P = true) (hg : giveOk l P p n = true) :
    rightF (giveF l p n) P = true ∧ (∀ q, Cov (giveF l p n) q ↔ Cov l q ∨ (p ≤ q ∧ q < p + n)) ∧ totalF (giveF l p n) = totalF l + n := by
  simp only [giveOk, Bool.and_eq_true, decide_eq_true_eq, Bool.not_eq_true'] at hg
  obtain ⟨h1, h2, h3, h4, h5⟩ := hg
  exact give_spec_from l P (-1) p n hl (by omega) h1 h2 (by omega) ((hasnt_iff hl h1 h2).1 h5)
theorem giveOk_iff {l : List S51} {P p n : Int} (hl : rightF l P = true) : giveOk l P p n = true ↔ 0 ≤ p ∧ 1 ≤ n ∧ p + n ≤ P ∧ ∀ q, p ≤ q → q < p + n → ¬ Cov l q := by
  simp only [giveOk, Bool.and_eq_true, decide_eq_true_eq, Bool.not_eq_true']
  constructor
  · rintro ⟨h1, h2, h3, h4, h5⟩
    exact ⟨h1, h2, by omega, (hasnt_iff hl h1 h2).1 h5⟩
  · rintro ⟨h1, h2, h3, h4⟩
    exact ⟨h1, h2, by omega, by omega, (hasnt_iff hl h1 h2).2 h4⟩
theorem give_len {l : List S51} {p n : Int} : (giveF l p n).length ≤ l.length + 1 := by
  have ha : ∀ (m : List S51) (r : S51), (absorb m r).2.length ≤ m.length := by
    intro m
    induction m with
    | nil => intro r; exact Nat.le_refl _
    | cons x t ih => intro r; simp only [absorb]; split <;> simp; exact Nat.le_succ_of_le (ih _)
  unfold giveF
  rw [List.length_append, List.length_cons, List.length_take]
  have := ha (l.drop (afterI l p)) ⟨p, n⟩
  rw [List.length_drop] at this
  have := afterI_le l p
  omega
/-! ### taken -/
theorem take_spec_from (l : List S51) : ∀ (P a : Int) (i : Nat) (x : S51) (n : Int), rightFrom l P a = true → l[i]? = some x → 1 ≤ n → n ≤ x.f1 →
    rightFrom (takeAt l i n) P a = true ∧ (∀ q, Cov (takeAt l i n) q ↔ Cov l q ∧ ¬ (x.f0 ≤ q ∧ q < x.f0 + n)) ∧ totalF (takeAt l i n) = totalF l - n := by
  induction l with
  | nil => intro P a i x n _ hx; simp at hx
  | cons y t ih =>
    intro P a i x n hl hx hn hnx
    have hl2 := rf_cons.1 hl
    cases i with
    | zero =>
      obtain rfl : y = x := by simpa using hx
      unfold takeAt
      simp only [List.getD_cons_zero, List.set_cons_zero, List.eraseIdx_cons_zero]
      have hout : ∀ q, Cov t q → ¬ (y.f0 ≤ q ∧ q < y.f0 + n) := fun q c => by have := cov_ge hl2.2 c; omega
      by_cases c : n < y.f1
      · rw [if_pos c]
        refine ⟨rf_cons.2 ⟨⟨?_, ?_, ?_, ?_⟩, ?_⟩, fun q => ?_, ?_⟩
        · show a < y.f0 + n; omega
        · show 0 ≤ y.f0 + n; omega
        · show 1 ≤ y.f1 - n; omega
        · show y.f0 + n + (y.f1 - n) ≤ P; omega
        · show rightFrom t P (y.f0 + n + (y.f1 - n)) = true
          rw [show y.f0 + n + (y.f1 - n) = y.f0 + y.f1 from by omega]; exact hl2.2
        · rw [cov_cons, cov_cons]
          show (y.f0 + n ≤ q ∧ q < y.f0 + n + (y.f1 - n)) ∨ Cov t q ↔ _
          constructor
          · rintro (h | h)
            · exact ⟨.inl (by omega), by omega⟩
            · exact ⟨.inr h, hout q h⟩
          · rintro ⟨h | h, h2⟩
            · exact .inl (by omega)
            · exact .inr h
        · simp only [totalF]; omega
      · rw [if_neg c]
        refine ⟨rf_low hl2.2 (by omega), fun q => ?_, ?_⟩
        · rw [cov_cons]
          constructor
          · intro h; exact ⟨.inr h, hout q h⟩
          · rintro ⟨h | h, h2⟩
            · omega
            · exact h
        · simp only [totalF]; omega
    | succ i =>
      have hx' : t[i]? = some x := by simpa using hx
      obtain ⟨h1, h2, h3⟩ := ih P (y.f0 + y.f1) i x n hl2.2 hx' hn hnx
      have e : takeAt (y :: t) (i + 1) n = y :: takeAt t i n := by
        unfold takeAt
        simp only [List.getD_cons_succ, List.set_cons_succ, List.eraseIdx_cons_succ]
        split <;> rfl
      have hxm := rf_mem hl2.2 x (List.mem_of_getElem? hx')
      rw [e]
      refine ⟨rf_cons.2 ⟨hl2.1, h1⟩, fun q => ?_, ?_⟩
      · rw [cov_cons, h2 q, cov_cons]
        constructor
        · rintro (h | ⟨h, h'⟩)
          · exact ⟨.inl h, by omega⟩
          · exact ⟨.inr h, h'⟩
        · rintro ⟨h | h, h'⟩
          · exact .inl h
          · exact .inr ⟨h, h'⟩
      · simp only [totalF]; rw [h3]; omega
theorem take_len {l : List S51} {i : Nat} {n : Int} : (takeAt l i n).length ≤ l.length := by
  unfold takeAt; split
  · rw [List.length_set]; exact Nat.le_refl _
  · rw [List.length_eraseIdx]; split <;> omega
theorem total_nonneg {l : List S51} {P a : Int} (h : rightFrom l P a = true) : 0 ≤ totalF l ∧ (totalF l = 0 → l = []) := by
  induction l generalizing a with
  | nil => exact ⟨by simp [totalF], fun _ => rfl⟩
  | cons x t ih =>
    rw [rf_cons] at h
    have := ih h.2
    simp only [totalF]
    exact ⟨by omega, fun e => by omega⟩
theorem total_le {l : List S51} {P a : Int} (h : rightFrom l P a = true) (ha : -1 ≤ a) (hP : 0 ≤ P) : totalF l ≤ P - a - 1 ∨ totalF l = 0 := by
  induction l generalizing a with
  | nil => exact .inr rfl
  | cons x t ih =>
    rw [rf_cons] at h
    have := ih h.2 (by omega)
    simp only [totalF]
    omega
/-! ### the best run -/
theorem rd_at {l : List S51} {i : Nat} {x : S51} (h : l[i]? = some x) : rd_T51 l (i : Int) = x := by
  unfold rd_T51; rw [Int.toNat_natCast, List.getD_eq_getElem?_getD, h]; rfl
theorem bestUpto_least (l : List S51) (n : Int) (hn : 0 < n) (i : Nat) :
    (bestUpto l n i < 0 → ∀ j : Nat, j < i → (rd_T51 l j).f1 < n) ∧
    (0 ≤ bestUpto l n i → ∀ j : Nat, j < i → n ≤ (rd_T51 l j).f1 → (rd_T51 l (bestUpto l n i)).f1 < (rd_T51 l j).f1 ∨ ((rd_T51 l (bestUpto l n i)).f1 = (rd_T51 l j).f1 ∧ bestUpto l n i ≤ j)) := by
  induction i with
  | zero => exact ⟨fun _ j hj => by omega, fun _ j hj => by omega⟩
  | succ i ih =>
    have hb := bestUpto_lt l n i
    unfold bestUpto
    split
    · rename_i c
      refine ⟨fun h => by omega, fun _ j hj hnj => ?_⟩
      rcases Nat.lt_or_ge j i with hlt | hge
      · rcases c.2.2 with c3 | c3
        · have := ih.1 c3 j hlt; omega
        · by_cases c4 : bestUpto l n i < 0
          · have := ih.1 c4 j hlt; omega
          · have := ih.2 (by omega) j hlt hnj; left; omega
      · obtain rfl : j = i := by omega
        exact .inr ⟨rfl, Int.le_refl _⟩
    · rename_i c
      refine ⟨fun h j hj => ?_, fun h j hj hnj => ?_⟩
      · rcases Nat.lt_or_ge j i with hlt | hge
        · exact ih.1 h j hlt
        · obtain rfl : j = i := by omega
          rcases Int.lt_or_le (rd_T51 l (j : Int)).f1 n with hlt | hle
          · exact hlt
          · exact absurd ⟨hn, hle, .inl h⟩ c
      · rcases Nat.lt_or_ge j i with hlt | hge
        · exact ih.2 h j hlt hnj
        · obtain rfl : j = i := by omega
          have h3 : ¬ (rd_T51 l (j : Int)).f1 < (rd_T51 l (bestUpto l n j)).f1 := fun hh => c ⟨hn, hnj, .inr hh⟩
          rcases Int.lt_or_le (rd_T51 l (bestUpto l n j)).f1 (rd_T51 l (j : Int)).f1 with h4 | h4
          · exact .inl h4
          · exact .inr ⟨by omega, by omega⟩
theorem best_nopos (l : List S51) (n : Int) (hn : ¬ 0 < n) (i : Nat) : bestUpto l n i = -1 := by
  induction i with
  | zero => rfl
  | succ i ih => unfold bestUpto; rw [if_neg (fun h => hn h.1)]; exact ih
end Go.Proofs.Ytdkedgdieoojgaa.Rn
