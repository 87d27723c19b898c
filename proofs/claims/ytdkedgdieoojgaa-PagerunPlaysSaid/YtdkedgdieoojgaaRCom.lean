/- Facts of right lists of runs that several laws need. -/
import Derived.Test.YtdkedgdieoojgaaRLink
set_option linter.unusedVariables false
set_option linter.unusedSimpArgs false
namespace Go.Proofs.Ytdkedgdieoojgaa.Rn
open Go.RowKit Go.Proofs.YtdkedgdieoojgaaW.PrintWords Go.Proofs.YtdkedgdieoojgaaW.PrintLast Go.Proofs.YtdkedgdieoojgaaW.PrintMore

/-- The best of the runs from a place on. -/
def IsBest (l : List S51) (n : Int) (lo : Nat) (b : Int) : Prop :=
  (b = -1 ∧ ∀ j : Nat, lo ≤ j → j < l.length → 0 < n → (rd_T51 l j).f1 < n) ∨
  (0 < n ∧ (lo : Int) ≤ b ∧ b < l.length ∧ n ≤ (rd_T51 l b).f1 ∧ ∀ j : Nat, lo ≤ j → j < l.length → n ≤ (rd_T51 l j).f1 → (rd_T51 l b).f1 < (rd_T51 l j).f1 ∨ ((rd_T51 l b).f1 = (rd_T51 l j).f1 ∧ b ≤ j))
theorem isbest_is {l : List S51} {n b c : Int} (hb : IsBest l n 0 b) (hc : IsBest l n 0 c) : b = c := by
  rcases hb with ⟨e, hb⟩ | ⟨hn, h0, h1, h2, hb⟩
  · rcases hc with ⟨e', _⟩ | ⟨hn, h0, h1, h2, _⟩
    · rw [e, e']
    · obtain ⟨j, rfl⟩ : ∃ j : Nat, c = j := ⟨c.toNat, by omega⟩
      have := hb j (by omega) (by omega) hn; omega
  · rcases hc with ⟨e', hc⟩ | ⟨hn', h0', h1', h2', hc⟩
    · obtain ⟨j, rfl⟩ : ∃ j : Nat, b = j := ⟨b.toNat, by omega⟩
      have := hc j (by omega) (by omega) hn; omega
    · obtain ⟨i, rfl⟩ : ∃ j : Nat, b = j := ⟨b.toNat, by omega⟩
      obtain ⟨j, rfl⟩ : ∃ j : Nat, c = j := ⟨c.toNat, by omega⟩
      have g1 := hb j (by omega) (by omega) h2'
      have g2 := hc i (by omega) (by omega) h2
      omega
theorem bestF_best (l : List S51) (n : Int) : IsBest l n 0 (bestF l n) := by
  have hlt := bestF_lt l n
  have hl := bestUpto_least l n
  by_cases hn : 0 < n
  · have h := hl hn l.length
    by_cases c : bestF l n < 0
    · exact .inl ⟨by omega, fun j _ hj _ => h.1 c j hj⟩
    · have ok := bestUpto_ok l n l.length (by unfold bestF at c; omega)
      exact .inr ⟨hn, by omega, by omega, ok.2, fun j _ hj hnj => h.2 (by unfold bestF at c; omega) j hj hnj⟩
  · exact .inl ⟨best_nopos l n hn l.length, fun j _ _ h => absurd h hn⟩
theorem fits_small {l : List S51} (h : rightF l 1073741824 = true) (hl : l.length ≤ 1000) : fitsR l = true := right_fits h (by omega) hl
theorem few_wf {l : List S51} (h : rightF l 1073741824 = true) : wfR l := fun x hx => by have := rf_mem h x hx; unfold i64; omega
/-- What is known of the run that the best place names. -/
theorem best_run {l : List S51} {n : Int} (hr : rightF l 1073741824 = true) (hb : ¬ bestF l n < 0) : ∃ (i : Nat) (x : S51), bestF l n = i ∧ l[i]? = some x ∧ l.getD i z51 = x ∧ rd_T51 l (i : Int) = x ∧ 1 ≤ n ∧ n ≤ x.f1 ∧ 0 ≤ x.f0 ∧ x.f0 + x.f1 ≤ 1073741824 ∧ x ∈ l := by
  have hlt := bestF_lt l n
  have ok := bestUpto_ok l n l.length (by unfold bestF at hb; omega)
  have ok2 : n ≤ (rd_T51 l (bestF l n)).f1 := ok.2
  obtain ⟨i, hi⟩ : ∃ b : Nat, bestF l n = b := ⟨(bestF l n).toNat, by omega⟩
  rw [hi] at ok2 hlt
  have hil : i < l.length := by omega
  have hx := rd_get hil
  rw [hx] at ok2
  have := rf_mem hr l[i] (List.getElem_mem hil)
  exact ⟨i, l[i], hi, List.getElem?_eq_getElem hil, by rw [List.getD_eq_getElem?_getD, List.getElem?_eq_getElem hil]; rfl, hx, by omega, ok2, by omega, by omega, List.getElem_mem hil⟩
theorem total_max {l : List S51} {P : Int} (h : rightF l P = true) (hP : 0 ≤ P) : 0 ≤ totalF l ∧ totalF l ≤ P := by
  have h1 := total_nonneg h
  have h2 := total_le h (by omega) hP
  omega
end Go.Proofs.Ytdkedgdieoojgaa.Rn
