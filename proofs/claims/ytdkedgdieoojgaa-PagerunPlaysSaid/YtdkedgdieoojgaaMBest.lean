/- runs.Best: the place of the best run, as a plain function; what the printed loop comes to. -/
import Derived.Test.YtdkedgdieoojgaaRnx20
set_option linter.unusedVariables false
set_option linter.unusedSimpArgs false
namespace Go.Proofs.Ytdkedgdieoojgaa.Rn
open Go.RowKit Go.Proofs.YtdkedgdieoojgaaW.PrintWords Go.Proofs.YtdkedgdieoojgaaW.PrintLast Go.Proofs.YtdkedgdieoojgaaW.PrintMore
/-- The best place among the first i runs; -1: none. -/
def bestUpto (l : List S51) (n : Int) : Nat → Int
  | 0 => -1
  | i + 1 => if 0 < n ∧ n ≤ (rd_T51 l i).f1 ∧ (bestUpto l n i < 0 ∨ (rd_T51 l i).f1 < (rd_T51 l (bestUpto l n i)).f1) then (i : Int) else bestUpto l n i
def bestF (l : List S51) (n : Int) : Int := bestUpto l n l.length
theorem bestUpto_lt (l : List S51) (n : Int) (i : Nat) : -1 ≤ bestUpto l n i ∧ bestUpto l n i < (i : Int) + 0 ∨ (i = 0 ∧ bestUpto l n i = -1) := by
  induction i with
  | zero => exact .inr ⟨rfl, rfl⟩
  | succ i ih =>
    left
    unfold bestUpto
    split
    · omega
    · omega
theorem best_loop (l : List S51) (n : Int) (hl : l.length ≤ 1000) (d : Nat) : ∀ (k i : Nat), i + d = l.length → d < k → runs_Best.l0 k l n (bestUpto l n i) l (l.length : Int) (i : Int) = some (bestF l n) := by
  induction d with
  | zero =>
    intro k i hi hk
    obtain ⟨k, rfl⟩ : ∃ m, k = m + 1 := ⟨k - 1, by omega⟩
    simp only [runs_Best.l0]
    rw [if_neg (by omega)]
    have : i = l.length := by omega
    subst this; rfl
  | succ d ih =>
    intro k i hi hk
    obtain ⟨k, rfl⟩ : ∃ m, k = m + 1 := ⟨k - 1, by omega⟩
    have hb := bestUpto_lt l n i
    have e : wrap64 ((i : Int) + 1) = ((i + 1 : Nat) : Int) := by unfold wrap64; omega
    have h := ih k (i + 1) (by omega) (by omega)
    simp only [bestUpto] at h
    simp only [runs_Best.l0]
    rw [if_pos (by omega), if_pos (by omega), if_pos (by omega)]
    by_cases c1 : n > 0
    · rw [if_pos c1]
      by_cases c2 : (rd_T51 l i).f1 ≥ n
      · rw [if_pos c2]
        by_cases c3 : bestUpto l n i < 0
        · rw [if_pos c3, e]
          rwa [if_pos ⟨c1, c2, .inl c3⟩] at h
        · rw [if_neg c3, if_pos (by omega), if_pos (by omega)]
          by_cases c4 : (rd_T51 l i).f1 < (rd_T51 l (bestUpto l n i)).f1
          · rw [if_pos c4, e]
            rwa [if_pos ⟨c1, c2, .inr c4⟩] at h
          · rw [if_neg c4, e]
            rwa [if_neg (fun hh => hh.2.2.elim c3 c4)] at h
      · rw [if_neg c2, e]
        rwa [if_neg (fun hh => c2 hh.2.1)] at h
    · rw [if_neg c1, e]
      rwa [if_neg (fun hh => c1 hh.1)] at h
theorem best_is (l : List S51) (n : Int) (hl : l.length ≤ 1000) : runs_Best.f (l.length + 1) l n = some (bestF l n) :=
  best_loop l n hl l.length (l.length + 1) 0 (by omega) (by omega)
theorem bestF_lt (l : List S51) (n : Int) : -1 ≤ bestF l n ∧ bestF l n < l.length := by
  have := bestUpto_lt l n l.length
  unfold bestF; omega
end Go.Proofs.Ytdkedgdieoojgaa.Rn
