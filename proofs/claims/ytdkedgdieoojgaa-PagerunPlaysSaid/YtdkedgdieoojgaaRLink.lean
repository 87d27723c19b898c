/- What the printed loops of runs and of the document's answer come to, as the plain functions of the theory. -/
import Derived.Test.YtdkedgdieoojgaaRTheory
import Derived.Test.YtdkedgdieoojgaaRnx4
import Derived.Test.YtdkedgdieoojgaaRnx2
import Derived.Test.YtdkedgdieoojgaaRnx5
set_option linter.unusedVariables false
set_option linter.unusedSimpArgs false
namespace Go.Proofs.Ytdkedgdieoojgaa.Rn
open Go.RowKit Go.Proofs.YtdkedgdieoojgaaW.PrintWords Go.Proofs.YtdkedgdieoojgaaW.PrintLast Go.Proofs.YtdkedgdieoojgaaW.PrintMore

def i64 (n : Int) : Prop := -9223372036854775808 ≤ n ∧ n ≤ 9223372036854775807
def wfR (l : List S51) : Prop := ∀ x ∈ l, i64 x.f0 ∧ i64 x.f1
theorem rd_get {l : List S51} {i : Nat} (h : i < l.length) : rd_T51 l (i : Int) = l[i] := rd_at (List.getElem?_eq_getElem h)
theorem rd_get_pred {l : List S51} {i : Nat} (h : i < l.length) (h0 : 0 < i) : rd_T51 l ((i : Int) - 1) = l[i - 1] := by
  rw [show (i : Int) - 1 = ((i - 1 : Nat) : Int) from by omega]; exact rd_get (by omega)
theorem wr_succ {i : Nat} (h : i ≤ 1000000) : wrap64 ((i : Int) + 1) = ((i + 1 : Nat) : Int) := by unfold wrap64; omega

/-- The end of the run ahead of place i; ahead of the first one: -1. -/
def endAt (l : List S51) : Nat → Int
  | 0 => -1
  | i + 1 => (rd_T51 l i).f0 + (rd_T51 l i).f1
theorem right_loop (l : List S51) (P : Int) (hw : wfR l) (hP : i64 P) (hl : l.length ≤ 1000) (d : Nat) : ∀ (k i : Nat), i + d = l.length → d < k → (0 < i → 0 ≤ endAt l i ∧ endAt l i ≤ P) →
    runs_Right.l0 k l P l (l.length : Int) (i : Int) = some (rightFrom (l.drop i) P (endAt l i)) := by
  induction d with
  | zero =>
    intro k i hi hk _
    obtain ⟨k, rfl⟩ : ∃ m, k = m + 1 := ⟨k - 1, by omega⟩
    simp only [runs_Right.l0]
    rw [if_neg (by omega), List.drop_eq_nil_of_le (by omega)]; rfl
  | succ d ih =>
    intro k i hi hk hend
    obtain ⟨k, rfl⟩ : ∃ m, k = m + 1 := ⟨k - 1, by omega⟩
    have hil : i < l.length := by omega
    have hx := rd_get hil
    obtain ⟨x, hxx⟩ : ∃ x, x = l[i] := ⟨_, rfl⟩
    rw [← hxx] at hx
    have hm := hw l[i] (List.getElem_mem hil)
    rw [← hxx] at hm
    obtain ⟨⟨m1, m2⟩, m3, m4⟩ := hm
    obtain ⟨p1, p2⟩ := hP
    rw [List.drop_eq_getElem_cons hil, ← hxx]
    simp only [runs_Right.l0]
    rw [if_pos (by omega), if_pos (by omega), if_pos (by omega), hx]
    by_cases c1 : x.f0 < 0
    · rw [if_pos c1]; congr 1; symm; rw [Bool.eq_false_iff, Ne, rf_cons]; omega
    rw [if_neg c1]
    by_cases c2 : x.f1 < 1
    · rw [if_pos c2]; congr 1; symm; rw [Bool.eq_false_iff, Ne, rf_cons]; omega
    rw [if_neg c2]
    by_cases c3 : x.f1 > P
    · rw [if_pos c3]; congr 1; symm; rw [Bool.eq_false_iff, Ne, rf_cons]; omega
    rw [if_neg c3]
    have e1 : wrap64 (P - x.f1) = P - x.f1 := by unfold wrap64; omega
    rw [e1]
    by_cases c4 : x.f0 > P - x.f1
    · rw [if_pos c4]; congr 1; symm; rw [Bool.eq_false_iff, Ne, rf_cons]; omega
    rw [if_neg c4, wr_succ (by omega)]
    have hnext := ih k (i + 1) (by omega) (by omega) (fun _ => by simp only [endAt]; rw [hx]; omega)
    have e2 : endAt l (i + 1) = x.f0 + x.f1 := by simp only [endAt]; rw [hx]
    rw [e2] at hnext
    by_cases c5 : (i : Int) > 0
    · rw [if_pos c5]
      have e3 : wrap64 ((i : Int) - 1) = (i : Int) - 1 := by unfold wrap64; omega
      rw [e3, if_pos (by omega), if_pos (by omega)]
      have hend' := hend (by omega)
      obtain ⟨j, rfl⟩ : ∃ j, i = j + 1 := ⟨i - 1, by omega⟩
      have e4 : rd_T51 l (((j + 1 : Nat) : Int) - 1) = rd_T51 l j := by congr 1; omega
      rw [e4]
      have e5 : runs_end.f (rd_T51 l j).f0 (rd_T51 l j).f1 = some (endAt l (j + 1)) := by
        simp only [endAt] at hend' ⊢
        unfold runs_end.f wrap64; congr 1; omega
      rw [e5]
      simp only [Option.bind_some]
      by_cases c6 : x.f0 ≤ endAt l (j + 1)
      · rw [if_pos c6]; congr 1; symm; rw [Bool.eq_false_iff, Ne, rf_cons]; omega
      · rw [if_neg c6, hnext]; congr 1
        rw [Bool.eq_iff_iff, rf_cons]; refine ⟨fun h => ⟨?_, h⟩, fun h => h.2⟩; omega
    · rw [if_neg c5, hnext]; congr 1
      have : i = 0 := by omega
      subst this
      rw [Bool.eq_iff_iff, rf_cons]; exact ⟨fun h => ⟨by simp only [endAt]; omega, h⟩, fun h => h.2⟩
theorem right_is (l : List S51) (P : Int) (hw : wfR l) (hP : i64 P) (hl : l.length ≤ 1000) (k : Nat) (hk : l.length < k) : runs_Right.f k l P = some (rightF l P) :=
  right_loop l P hw hP hl l.length k 0 (by omega) hk (fun h => absurd h (by omega))
/-! ### sums -/
theorem total_append (l m : List S51) : totalF (l ++ m) = totalF l + totalF m := by
  induction l with
  | nil => simp [totalF]
  | cons x t ih => simp only [List.cons_append, totalF, ih]; omega
theorem total_bd {l : List S51} (hf : ∀ x ∈ l, 0 ≤ x.f1 ∧ x.f1 ≤ 1099511627776) : 0 ≤ totalF l ∧ totalF l ≤ 1099511627776 * l.length := by
  induction l with
  | nil => simp [totalF]
  | cons x t ih =>
    have h1 := hf x List.mem_cons_self
    have h2 := ih (fun y hy => hf y (List.mem_cons_of_mem _ hy))
    simp only [totalF, List.length_cons]; omega
theorem fits_part {l : List S51} (h : fitsR l = true) (i : Nat) : 0 ≤ totalF (l.take i) ∧ totalF (l.take i) ≤ 1099511627776 * 1000 := by
  have h1 := total_bd (l := l.take i) (fun x hx => by have := fitsR_mem h (List.mem_of_mem_take hx); omega)
  have h2 := fitsR_len h
  rw [List.length_take] at h1
  omega
theorem total_loop (l : List S51) (hf : fitsR l = true) (d : Nat) : ∀ (k i : Nat), i + d = l.length → d < k → runs_Total.l0 k (totalF (l.take i)) l (l.length : Int) (i : Int) = some (totalF l) := by
  have hl := fitsR_len hf
  induction d with
  | zero =>
    intro k i hi hk
    obtain ⟨k, rfl⟩ : ∃ m, k = m + 1 := ⟨k - 1, by omega⟩
    simp only [runs_Total.l0]
    rw [if_neg (by omega), List.take_of_length_le (by omega)]
  | succ d ih =>
    intro k i hi hk
    obtain ⟨k, rfl⟩ : ∃ m, k = m + 1 := ⟨k - 1, by omega⟩
    have hil : i < l.length := by omega
    have hm := fitsR_mem hf (List.getElem_mem hil)
    have hp := fits_part hf i
    have hn := ih k (i + 1) (by omega) (by omega)
    rw [List.take_add_one, List.getElem?_eq_getElem hil, total_append] at hn
    simp only [Option.toList_some, totalF] at hn
    simp only [runs_Total.l0]
    rw [if_pos (by omega), if_pos (by omega), if_pos (by omega), rd_get hil, wr_succ (by omega)]
    have e : wrap64 (totalF (l.take i) + l[i].f1) = totalF (l.take i) + (l[i].f1 + 0) := by unfold wrap64; omega
    rw [e]; exact hn
theorem total_is (l : List S51) (hf : fitsR l = true) (k : Nat) (hk : l.length < k) : runs_Total.f k l = some (totalF l) := by
  have := total_loop l hf l.length k 0 (by omega) hk
  simpa [runs_Total.f, totalF] using this
/-! ### two lists that are the same -/
theorem same_loop (l : List S51) (hl : l.length ≤ 1000) (d : Nat) : ∀ (k i : Nat), i + d = l.length → d < k → steadingref05_Same.l0 k l l (i : Int) = some true := by
  induction d with
  | zero =>
    intro k i hi hk
    obtain ⟨k, rfl⟩ : ∃ m, k = m + 1 := ⟨k - 1, by omega⟩
    simp only [steadingref05_Same.l0]
    rw [if_neg (by omega)]
  | succ d ih =>
    intro k i hi hk
    obtain ⟨k, rfl⟩ : ∃ m, k = m + 1 := ⟨k - 1, by omega⟩
    have hn := ih k (i + 1) (by omega) (by omega)
    simp only [steadingref05_Same.l0]
    rw [if_pos (by omega), if_pos (by omega), if_pos (by omega), if_neg (by simp), wr_succ (by omega)]
    exact hn
theorem same_is (l : List S51) (hl : l.length ≤ 1000) (k : Nat) (hk : l.length < k) : steadingref05_Same.f k l l = some true := by
  unfold steadingref05_Same.f
  rw [if_pos rfl]
  exact same_loop l hl l.length k 0 (by omega) hk
theorem best_at (l : List S51) (n : Int) (hl : l.length ≤ 1000) (k : Nat) (hk : l.length < k) : runs_Best.f k l n = some (bestF l n) := best_loop l n hl l.length k 0 (by omega) hk
theorem take_is {l : List S51} {n : Int} (hf : fitsR l = true) : runs_Take.f l n = if bestF l n < 0 then some (0, [], false) else some ((l.getD (bestF l n).toNat z51).f0, takeAt l (bestF l n).toNat n, true) := by
  unfold runs_Take.f; rw [if_pos hf]
theorem has_is {l : List S51} {p n : Int} (hf : fitsR l = true) (hp : i64 p) (hn : i64 n) : runs_Has.f l p n = some (l.any (fun x => hasB x p n)) := by
  unfold runs_Has.f; rw [if_pos ⟨hf, hp, hn.2⟩]
theorem give_is {l : List S51} {P p n : Int} (hf : fitsR l = true) (hP : -9223372036854775808 ≤ P ∧ P ≤ 1099511627776) : runs_Give.f l P p n = if giveOk l P p n = true then some (giveF l p n, true) else some ([], false) := by
  unfold runs_Give.f; rw [if_pos ⟨hf, hP.1, hP.2⟩]
end Go.Proofs.Ytdkedgdieoojgaa.Rn
