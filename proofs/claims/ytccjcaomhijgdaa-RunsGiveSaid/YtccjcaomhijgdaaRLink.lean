/- What the printed loops of runs and of the document's answer come to, as the plain functions of the theory. -/
import Derived.Test.YtccjcaomhijgdaaRTheory
import Derived.Test.YtccjcaomhijgdaaRnx3
import Derived.Test.YtccjcaomhijgdaaRnx6
import Derived.Test.YtccjcaomhijgdaaRnx7
import Derived.Test.YtccjcaomhijgdaaRnx12
import Derived.Test.YtccjcaomhijgdaaRnx13
import Derived.Test.YtccjcaomhijgdaaRnx15
set_option linter.unusedVariables false
set_option linter.unusedSimpArgs false
namespace Go.Proofs.Ytccjcaomhijgdaa.Rn
open Go.RowKit Go.Proofs.YtccjcaomhijgdaaW.PrintWords Go.Proofs.YtccjcaomhijgdaaW.PrintLast Go.Proofs.YtccjcaomhijgdaaW.PrintMore

def i64 (n : Int) : Prop := -9223372036854775808 ≤ n ∧ n ≤ 9223372036854775807
def wfR (l : List S36) : Prop := ∀ x ∈ l, i64 x.f0 ∧ i64 x.f1
theorem rd_get {l : List S36} {i : Nat} (h : i < l.length) : rd_T36 l (i : Int) = l[i] := rd_at (List.getElem?_eq_getElem h)
theorem rd_get_pred {l : List S36} {i : Nat} (h : i < l.length) (h0 : 0 < i) : rd_T36 l ((i : Int) - 1) = l[i - 1] := by
  rw [show (i : Int) - 1 = ((i - 1 : Nat) : Int) from by omega]; exact rd_get (by omega)
theorem wr_succ {i : Nat} (h : i ≤ 1000000) : wrap64 ((i : Int) + 1) = ((i + 1 : Nat) : Int) := by unfold wrap64; omega

/-- The end of the run ahead of place i; ahead of the first one: -1. -/
def endAt (l : List S36) : Nat → Int
  | 0 => -1
  | i + 1 => (rd_T36 l i).f0 + (rd_T36 l i).f1
theorem right_loop (l : List S36) (P : Int) (hw : wfR l) (hP : i64 P) (hl : l.length ≤ 1000) (d : Nat) : ∀ (k i : Nat), i + d = l.length → d < k → (0 < i → 0 ≤ endAt l i ∧ endAt l i ≤ P) →
    runs_Right.l0 k l P l (l.length : Int) (i : Int) = some (rightFrom (l.drop i) P (endAt l i)) := by
  induction d with
  | zero =>
    intro k i hi hk _
    obtain ⟨k, rfl⟩ : ∃ m, k = m + 1 := ⟨k - 1, by omega⟩
    simp only [runs_Right.l0]
    rw [if_neg (by omega), List.drop_eq_nil_of_le (by omega)]; rfl
  | succ d ih =>
    intro k i hi hk hend
    obtain ⟨k, rfl⟩ : ∃ m, k = m + 1 := ⟨k - 1, by omega⟩
    have hil : i < l.length := by omega
    have hx := rd_get hil
    obtain ⟨x, hxx⟩ : ∃ x, x = l[i] := ⟨_, rfl⟩
    rw [← hxx] at hx
    have hm := hw l[i] (List.getElem_mem hil)
    rw [← hxx] at hm
    obtain ⟨⟨m1, m2⟩, m3, m4⟩ := hm
    obtain ⟨p1, p2⟩ := hP
    rw [List.drop_eq_getElem_cons hil, ← hxx]
    simp only [runs_Right.l0]
    rw [if_pos (by omega), if_pos (by omega), if_pos (by omega), hx]
    by_cases c1 : x.f0 < 0
    · rw [if_pos c1]; congr 1; symm; rw [Bool.eq_false_iff, Ne, rf_cons]; omega
    rw [if_neg c1]
    by_cases c2 : x.f1 < 1
    · rw [if_pos c2]; congr 1; symm; rw [Bool.eq_false_iff, Ne, rf_cons]; omega
    rw [if_neg c2]
    by_cases c3 : x.f1 > P
    · rw [if_pos c3]; congr 1; symm; rw [Bool.eq_false_iff, Ne, rf_cons]; omega
    rw [if_neg c3]
    have e1 : wrap64 (P - x.f1) = P - x.f1 := by unfold wrap64; omega
    rw [e1]
    by_cases c4 : x.f0 > P - x.f1
    · rw [if_pos c4]; congr 1; symm; rw [Bool.eq_false_iff, Ne, rf_cons]; omega
    rw [if_neg c4, wr_succ (by omega)]
    have hnext := ih k (i + 1) (by omega) (by omega) (fun _ => by simp only [endAt]; rw [hx]; omega)
    have e2 : endAt l (i + 1) = x.f0 + x.f1 := by simp only [endAt]; rw [hx]
    rw [e2] at hnext
    by_cases c5 : (i : Int) > 0
    · rw [if_pos c5]
      have e3 : wrap64 ((i : Int) - 1) = (i : Int) - 1 := by unfold wrap64; omega
      rw [e3, if_pos (by omega), if_pos (by omega)]
      have hend' := hend (by omega)
      obtain ⟨j, rfl⟩ : ∃ j, i = j + 1 := ⟨i - 1, by omega⟩
      have e4 : rd_T36 l (((j + 1 : Nat) : Int) - 1) = rd_T36 l j := by congr 1; omega
      rw [e4]
      have e5 : runs_end.f (rd_T36 l j).f0 (rd_T36 l j).f1 = some (endAt l (j + 1)) := by
        simp only [endAt] at hend' ⊢
        unfold runs_end.f wrap64; congr 1; omega
      rw [e5]
      simp only [Option.bind_some]
      by_cases c6 : x.f0 ≤ endAt l (j + 1)
      · rw [if_pos c6]; congr 1; symm; rw [Bool.eq_false_iff, Ne, rf_cons]; omega
      · rw [if_neg c6, hnext]; congr 1
        rw [Bool.eq_iff_iff, rf_cons]; refine ⟨fun h => ⟨?_, h⟩, fun h => h.2⟩; omega
    · rw [if_neg c5, hnext]; congr 1
      have : i = 0 := by omega
      subst this
      rw [Bool.eq_iff_iff, rf_cons]; exact ⟨fun h => ⟨by simp only [endAt]; omega, h⟩, fun h => h.2⟩
theorem right_is (l : List S36) (P : Int) (hw : wfR l) (hP : i64 P) (hl : l.length ≤ 1000) (k : Nat) (hk : l.length < k) : runs_Right.f k l P = some (rightF l P) :=
  right_loop l P hw hP hl l.length k 0 (by omega) hk (fun h => absurd h (by omega))
theorem refright_loop (l : List S36) (P : Int) (hw : wfR l) (hP : i64 P) (hl : l.length ≤ 1000) (d : Nat) : ∀ (k i : Nat), i + d = l.length → d < k → (0 < i → 0 ≤ endAt l i ∧ endAt l i ≤ P) →
    steadingref05_Right.l0 k l P (endAt l i) (i : Int) = some (rightFrom (l.drop i) P (endAt l i)) := by
  induction d with
  | zero =>
    intro k i hi hk _
    obtain ⟨k, rfl⟩ : ∃ m, k = m + 1 := ⟨k - 1, by omega⟩
    simp only [steadingref05_Right.l0]
    rw [if_neg (by omega), List.drop_eq_nil_of_le (by omega)]; rfl
  | succ d ih =>
    intro k i hi hk hend
    obtain ⟨k, rfl⟩ : ∃ m, k = m + 1 := ⟨k - 1, by omega⟩
    have hil : i < l.length := by omega
    have hx := rd_get hil
    obtain ⟨x, hxx⟩ : ∃ x, x = l[i] := ⟨_, rfl⟩
    rw [← hxx] at hx
    have hm := hw l[i] (List.getElem_mem hil)
    rw [← hxx] at hm
    obtain ⟨⟨m1, m2⟩, m3, m4⟩ := hm
    obtain ⟨p1, p2⟩ := hP
    rw [List.drop_eq_getElem_cons hil, ← hxx]
    simp only [steadingref05_Right.l0]
    rw [if_pos (by omega), if_pos (by omega), hx]
    by_cases c1 : x.f0 ≤ endAt l i
    · rw [if_pos c1]; congr 1; symm; rw [Bool.eq_false_iff, Ne, rf_cons]; omega
    rw [if_neg c1]
    by_cases c2 : x.f0 < 0
    · rw [if_pos c2]; congr 1; symm; rw [Bool.eq_false_iff, Ne, rf_cons]; omega
    rw [if_neg c2]
    by_cases c3 : x.f1 < 1
    · rw [if_pos c3]; congr 1; symm; rw [Bool.eq_false_iff, Ne, rf_cons]; omega
    rw [if_neg c3]
    by_cases c4 : x.f0 > P
    · rw [if_pos c4]; congr 1; symm; rw [Bool.eq_false_iff, Ne, rf_cons]; omega
    rw [if_neg c4]
    have e1 : wrap64 (P - x.f0) = P - x.f0 := by unfold wrap64; omega
    rw [e1]
    by_cases c5 : x.f1 > P - x.f0
    · rw [if_pos c5]; congr 1; symm; rw [Bool.eq_false_iff, Ne, rf_cons]; omega
    rw [if_neg c5, wr_succ (by omega)]
    have hnext := ih k (i + 1) (by omega) (by omega) (fun _ => by simp only [endAt]; rw [hx]; omega)
    have e2 : endAt l (i + 1) = x.f0 + x.f1 := by simp only [endAt]; rw [hx]
    have e3 : wrap64 (x.f0 + x.f1) = x.f0 + x.f1 := by unfold wrap64; omega
    rw [e2] at hnext
    rw [e3, hnext]; congr 1
    rw [Bool.eq_iff_iff, rf_cons]; exact ⟨fun h => ⟨by omega, h⟩, fun h => h.2⟩
theorem refright_is (l : List S36) (P : Int) (hw : wfR l) (hP : i64 P) (hl : l.length ≤ 1000) (k : Nat) (hk : l.length < k) : steadingref05_Right.f k l P = some (rightF l P) :=
  refright_loop l P hw hP hl l.length k 0 (by omega) hk (fun h => absurd h (by omega))
/-- Are runs few, and right for 2^30 pages? -/
def fewF (l : List S36) : Bool := decide (l.length ≤ 60) && rightF l 1073741824
theorem few_is (l : List S36) (hw : wfR l) (k : Nat) (hk : 60 < k) : steadinglaw05_few.f k l = some (fewF l) := by
  unfold steadinglaw05_few.f fewF
  by_cases c : (l.length : Int) ≤ 60
  · rw [if_pos c, refright_is l 1073741824 hw (by unfold i64; omega) (by omega) k (by omega)]
    simp only [Option.bind_some]
    rw [decide_eq_true (show l.length ≤ 60 by omega)]; rfl
  · rw [if_neg c, decide_eq_false (show ¬ l.length ≤ 60 by omega)]; rfl
theorem few_len {l : List S36} (h : fewF l = true) : l.length ≤ 60 := by simp only [fewF, Bool.and_eq_true, decide_eq_true_eq] at h; exact h.1
theorem few_right {l : List S36} (h : fewF l = true) : rightF l 1073741824 = true := by simp only [fewF, Bool.and_eq_true, decide_eq_true_eq] at h; exact h.2
theorem few_fits {l : List S36} (h : fewF l = true) : fitsR l = true := right_fits (few_right h) (by omega) (by have := few_len h; omega)
/-! ### sums -/
theorem total_append (l m : List S36) : totalF (l ++ m) = totalF l + totalF m := by
  induction l with
  | nil => simp [totalF]
  | cons x t ih => simp only [List.cons_append, totalF, ih]; omega
theorem total_bd {l : List S36} (hf : ∀ x ∈ l, 0 ≤ x.f1 ∧ x.f1 ≤ 1099511627776) : 0 ≤ totalF l ∧ totalF l ≤ 1099511627776 * l.length := by
  induction l with
  | nil => simp [totalF]
  | cons x t ih =>
    have h1 := hf x List.mem_cons_self
    have h2 := ih (fun y hy => hf y (List.mem_cons_of_mem _ hy))
    simp only [totalF, List.length_cons]; omega
theorem fits_part {l : List S36} (h : fitsR l = true) (i : Nat) : 0 ≤ totalF (l.take i) ∧ totalF (l.take i) ≤ 1099511627776 * 1000 := by
  have h1 := total_bd (l := l.take i) (fun x hx => by have := fitsR_mem h (List.mem_of_mem_take hx); omega)
  have h2 := fitsR_len h
  rw [List.length_take] at h1
  omega
theorem total_loop (l : List S36) (hf : fitsR l = true) (d : Nat) : ∀ (k i : Nat), i + d = l.length → d < k → runs_Total.l0 k (totalF (l.take i)) l (l.length : Int) (i : Int) = some (totalF l) := by
  have hl := fitsR_len hf
  induction d with
  | zero =>
    intro k i hi hk
    obtain ⟨k, rfl⟩ : ∃ m, k = m + 1 := ⟨k - 1, by omega⟩
    simp only [runs_Total.l0]
    rw [if_neg (by omega), List.take_of_length_le (by omega)]
  | succ d ih =>
    intro k i hi hk
    obtain ⟨k, rfl⟩ : ∃ m, k = m + 1 := ⟨k - 1, by omega⟩
    have hil : i < l.length := by omega
    have hm := fitsR_mem hf (List.getElem_mem hil)
    have hp := fits_part hf i
    have hn := ih k (i + 1) (by omega) (by omega)
    rw [List.take_add_one, List.getElem?_eq_getElem hil, total_append] at hn
    simp only [Option.toList_some, totalF] at hn
    simp only [runs_Total.l0]
    rw [if_pos (by omega), if_pos (by omega), if_pos (by omega), rd_get hil, wr_succ (by omega)]
    have e : wrap64 (totalF (l.take i) + l[i].f1) = totalF (l.take i) + (l[i].f1 + 0) := by unfold wrap64; omega
    rw [e]; exact hn
theorem total_is (l : List S36) (hf : fitsR l = true) (k : Nat) (hk : l.length < k) : runs_Total.f k l = some (totalF l) := by
  have := total_loop l hf l.length k 0 (by omega) hk
  simpa [runs_Total.f, totalF] using this
/-! ### two lists that are the same -/
theorem same_loop (l : List S36) (hl : l.length ≤ 1000) (d : Nat) : ∀ (k i : Nat), i + d = l.length → d < k → steadingref05_Same.l0 k l l (i : Int) = some true := by
  induction d with
  | zero =>
    intro k i hi hk
    obtain ⟨k, rfl⟩ : ∃ m, k = m + 1 := ⟨k - 1, by omega⟩
    simp only [steadingref05_Same.l0]
    rw [if_neg (by omega)]
  | succ d ih =>
    intro k i hi hk
    obtain ⟨k, rfl⟩ : ∃ m, k = m + 1 := ⟨k - 1, by omega⟩
    have hn := ih k (i + 1) (by omega) (by omega)
    simp only [steadingref05_Same.l0]
    rw [if_pos (by omega), if_pos (by omega), if_pos (by omega), if_neg (by simp), wr_succ (by omega)]
    exact hn
theorem same_is (l : List S36) (hl : l.length ≤ 1000) (k : Nat) (hk : l.length < k) : steadingref05_Same.f k l l = some true := by
  unfold steadingref05_Same.f
  rw [if_pos rfl]
  exact same_loop l hl l.length k 0 (by omega) hk
theorem best_at (l : List S36) (n : Int) (hl : l.length ≤ 1000) (k : Nat) (hk : l.length < k) : runs_Best.f k l n = some (bestF l n) := best_loop l n hl l.length k 0 (by omega) hk
theorem take_is {l : List S36} {n : Int} (hf : fitsR l = true) : runs_Take.f l n = if bestF l n < 0 then some (0, [], false) else some ((l.getD (bestF l n).toNat z36).f0, takeAt l (bestF l n).toNat n, true) := by
  unfold runs_Take.f; rw [if_pos hf]
theorem has_is {l : List S36} {p n : Int} (hf : fitsR l = true) (hp : i64 p) (hn : i64 n) : runs_Has.f l p n = some (l.any (fun x => hasB x p n)) := by
  unfold runs_Has.f; rw [if_pos ⟨hf, hp, hn.2⟩]
theorem give_is {l : List S36} {P p n : Int} (hf : fitsR l = true) (hP : -9223372036854775808 ≤ P ∧ P ≤ 1099511627776) : runs_Give.f l P p n = if giveOk l P p n = true then some (giveF l p n, true) else some ([], false) := by
  unfold runs_Give.f; rw [if_pos ⟨hf, hP.1, hP.2⟩]
/-- The document's examples. -/
theorem awake_is (k : Nat) (hk : 3 < k) : steadinglaw05_awake.f k = some true := by
  obtain ⟨l, hl⟩ : ∃ l : List S36, l = [⟨0, 2⟩, ⟨5, 1⟩] := ⟨_, rfl⟩
  unfold steadinglaw05_awake.f
  simp only [Option.bind_some, ← hl]
  have hf : fitsR l = true := by rw [hl]; decide
  have e1 : bestF l 2 = 0 := by rw [hl]; decide
  have e2 : takeAt l 0 2 = [⟨5, 1⟩] := by rw [hl]; simp [takeAt]
  have e3 : giveOk l 8 3 2 = true := by rw [hl]; decide
  have e4 : giveF l 3 2 = [⟨0, 2⟩, ⟨3, 3⟩] := by rw [hl]; simp [giveF, afterI, absorb, mn]
  have e5 : bestF l 1 = 1 := by rw [hl]; decide
  have e6 : rightF l 6 = true := by rw [hl]; decide
  have e7 : totalF l = 3 := by rw [hl]; decide
  have e8 : l.any (fun x => hasB x 5 1) = true := by rw [hl]; decide
  have e9 : l.length = 2 := by rw [hl]; rfl
  have e10 : (l.getD 0 z36).f0 = 0 := by rw [hl]; rfl
  have hw : wfR l := by rw [hl]; intro x hx; simp at hx; rcases hx with rfl | rfl <;> exact ⟨⟨by decide, by decide⟩, by decide, by decide⟩
  rw [take_is hf, e1]
  simp only [Int.toNat_zero, e2, e10]
  rw [if_neg (by omega), give_is hf (by omega), if_pos e3, e4]
  simp only [Option.bind_some]
  rw [best_at l 1 (by omega) k (by omega), e5]
  simp only [Option.bind_some, if_true]
  rw [same_is _ (by simp) k (by simp; omega)]
  simp only [Option.bind_some, if_true]
  rw [same_is _ (by simp) k (by simp; omega)]
  simp only [Option.bind_some, if_true]
  rw [right_is l 6 hw (by unfold i64; omega) (by omega) k (by omega), e6]
  simp only [Option.bind_some, if_true]
  rw [total_is l hf k (by omega), e7]
  simp only [Option.bind_some, if_true]
  rw [has_is hf (by unfold i64; omega) (by unfold i64; omega), e8]
  rfl
end Go.Proofs.Ytccjcaomhijgdaa.Rn
