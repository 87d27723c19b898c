/- What the document's own Total, Best and Take come to, and the laws that need no more: Right, Take, Least. -/
import Derived.Test.YtccjcaomhijgdaaRLink
import Derived.Test.YtccjcaomhijgdaaRnx14
import Derived.Test.YtccjcaomhijgdaaRnx16
import Derived.Test.YtccjcaomhijgdaaRnx17
import Derived.Test.YtccjcaomhijgdaaRnx18
import Derived.Test.YtccjcaomhijgdaaRnx19
import Derived.Test.YtccjcaomhijgdaaRnx25
set_option linter.unusedVariables false
set_option linter.unusedSimpArgs false
namespace Go.Proofs.Ytccjcaomhijgdaa.Rn
open Go.RowKit Go.Proofs.YtccjcaomhijgdaaW.PrintWords Go.Proofs.YtccjcaomhijgdaaW.PrintLast Go.Proofs.YtccjcaomhijgdaaW.PrintMore

theorem reftotal_loop (l : List S36) (hf : fitsR l = true) (d : Nat) : ∀ (k i : Nat), i + d = l.length → d < k → steadingref05_Total.l0 k l (totalF (l.take i)) (i : Int) = some (totalF l) := by
  have hl := fitsR_len hf
  induction d with
  | zero =>
    intro k i hi hk
    obtain ⟨k, rfl⟩ : ∃ m, k = m + 1 := ⟨k - 1, by omega⟩
    simp only [steadingref05_Total.l0]
    rw [if_neg (by omega), List.take_of_length_le (by omega)]
  | succ d ih =>
    intro k i hi hk
    obtain ⟨k, rfl⟩ : ∃ m, k = m + 1 := ⟨k - 1, by omega⟩
    have hil : i < l.length := by omega
    have hm := fitsR_mem hf (List.getElem_mem hil)
    have hp := fits_part hf i
    have hn := ih k (i + 1) (by omega) (by omega)
    rw [List.take_add_one, List.getElem?_eq_getElem hil, total_append] at hn
    simp only [Option.toList_some, totalF] at hn
    simp only [steadingref05_Total.l0]
    rw [if_pos (by omega), if_pos (by omega), rd_get hil, wr_succ (by omega)]
    have e : wrap64 (totalF (l.take i) + l[i].f1) = totalF (l.take i) + (l[i].f1 + 0) := by unfold wrap64; omega
    rw [e]; exact hn
theorem reftotal_is (l : List S36) (hf : fitsR l = true) (k : Nat) (hk : l.length < k) : steadingref05_Total.f k l = some (totalF l) := by
  have := reftotal_loop l hf l.length k 0 (by omega) hk
  simpa [steadingref05_Total.f, totalF] using this
/-- The best of the runs from a place on. -/
def IsBest (l : List S36) (n : Int) (lo : Nat) (b : Int) : Prop :=
  (b = -1 ∧ ∀ j : Nat, lo ≤ j → j < l.length → 0 < n → (rd_T36 l j).f1 < n) ∨
  (0 < n ∧ (lo : Int) ≤ b ∧ b < l.length ∧ n ≤ (rd_T36 l b).f1 ∧ ∀ j : Nat, lo ≤ j → j < l.length → n ≤ (rd_T36 l j).f1 → (rd_T36 l b).f1 < (rd_T36 l j).f1 ∨ ((rd_T36 l b).f1 = (rd_T36 l j).f1 ∧ b ≤ j))
theorem isbest_is {l : List S36} {n b c : Int} (hb : IsBest l n 0 b) (hc : IsBest l n 0 c) : b = c := by
  rcases hb with ⟨e, hb⟩ | ⟨hn, h0, h1, h2, hb⟩
  · rcases hc with ⟨e', _⟩ | ⟨hn, h0, h1, h2, _⟩
    · rw [e, e']
    · obtain ⟨j, rfl⟩ : ∃ j : Nat, c = j := ⟨c.toNat, by omega⟩
      have := hb j (by omega) (by omega) hn; omega
  · rcases hc with ⟨e', hc⟩ | ⟨hn', h0', h1', h2', hc⟩
    · obtain ⟨j, rfl⟩ : ∃ j : Nat, b = j := ⟨b.toNat, by omega⟩
      have := hc j (by omega) (by omega) hn; omega
    · obtain ⟨i, rfl⟩ : ∃ j : Nat, b = j := ⟨b.toNat, by omega⟩
      obtain ⟨j, rfl⟩ : ∃ j : Nat, c = j := ⟨c.toNat, by omega⟩
      have g1 := hb j (by omega) (by omega) h2'
      have g2 := hc i (by omega) (by omega) h2
      omega
theorem bestF_best (l : List S36) (n : Int) : IsBest l n 0 (bestF l n) := by
  have hlt := bestF_lt l n
  have hl := bestUpto_least l n
  by_cases hn : 0 < n
  · have h := hl hn l.length
    by_cases c : bestF l n < 0
    · exact .inl ⟨by omega, fun j _ hj _ => h.1 c j hj⟩
    · have ok := bestUpto_ok l n l.length (by unfold bestF at c; omega)
      exact .inr ⟨hn, by omega, by omega, ok.2, fun j _ hj hnj => h.2 (by unfold bestF at c; omega) j hj hnj⟩
  · exact .inl ⟨best_nopos l n hn l.length, fun j _ _ h => absurd h hn⟩
theorem refbest_loop (l : List S36) (n : Int) (hl : l.length ≤ 1000) (d : Nat) : ∀ (k : Nat) (b : Int), d ≤ l.length → 2 * d + 1 < k → IsBest l n d b → steadingref05_Best.l0 k l n b ((d : Int) - 1) = some (bestF l n) := by
  induction d with
  | zero =>
    intro k b _ hk hb
    obtain ⟨k, rfl⟩ : ∃ m, k = m + 2 := ⟨k - 2, by omega⟩
    simp only [steadingref05_Best.l0, steadingref05_Best.j1]
    rw [if_neg (by omega), if_neg (by simp)]
    rw [isbest_is hb (bestF_best l n)]
  | succ d ih =>
    intro k b hd hk hb
    obtain ⟨k, rfl⟩ : ∃ m, k = m + 2 := ⟨k - 2, by omega⟩
    have e0 : ((d + 1 : Nat) : Int) - 1 = (d : Int) := by omega
    have e1 : wrap64 ((d : Int) - 1) = (d : Int) - 1 := by unfold wrap64; omega
    simp only [steadingref05_Best.l0, steadingref05_Best.j1]
    rw [e0, e1, if_pos (by omega)]
    by_cases c1 : n > 0
    · rw [if_pos (by simpa using c1), if_pos (by omega), if_pos (by omega)]
      by_cases c2 : (rd_T36 l d).f1 ≥ n
      · rw [if_pos c2]
        rcases hb with ⟨rfl, hb⟩ | ⟨_, h0, h1, h2, hb⟩
        · rw [if_pos (by omega)]
          refine ih k d (by omega) (by omega) (.inr ⟨c1, by omega, by omega, c2, fun j hj hjl hnj => ?_⟩)
          by_cases c : j = d
          · subst c; exact .inr ⟨rfl, Int.le_refl _⟩
          · have := hb j (by omega) hjl c1; omega
        · rw [if_neg (by omega), if_pos (by omega), if_pos (by omega)]
          by_cases c3 : (rd_T36 l d).f1 ≤ (rd_T36 l b).f1
          · rw [if_pos c3]
            refine ih k d (by omega) (by omega) (.inr ⟨c1, by omega, by omega, c2, fun j hj hjl hnj => ?_⟩)
            by_cases c : j = d
            · subst c; exact .inr ⟨rfl, Int.le_refl _⟩
            · have := hb j (by omega) hjl hnj; omega
          · rw [if_neg c3]
            refine ih k b (by omega) (by omega) (.inr ⟨c1, by omega, by omega, h2, fun j hj hjl hnj => ?_⟩)
            by_cases c : j = d
            · subst c; left; omega
            · exact hb j (by omega) hjl hnj
      · rw [if_neg c2]
        refine ih k b (by omega) (by omega) ?_
        rcases hb with ⟨rfl, hb⟩ | ⟨_, h0, h1, h2, hb⟩
        · refine .inl ⟨rfl, fun j hj hjl hn => ?_⟩
          by_cases c : j = d
          · subst c; omega
          · exact hb j (by omega) hjl hn
        · refine .inr ⟨c1, by omega, by omega, h2, fun j hj hjl hnj => ?_⟩
          by_cases c : j = d
          · subst c; omega
          · exact hb j (by omega) hjl hnj
    · -- n is not above nought: there is none
      rw [if_neg (by simpa using c1)]
      rcases hb with ⟨rfl, hb⟩ | ⟨h, _⟩
      · rw [show bestF l n = -1 from best_nopos l n c1 l.length]
      · exact absurd h c1
theorem refbest_is (l : List S36) (n : Int) (hl : l.length ≤ 1000) (k : Nat) (hk : 2 * l.length + 1 < k) : steadingref05_Best.f k l n = some (bestF l n) := by
  have e : wrap64 ((l.length : Int) - 1) = (l.length : Int) - 1 := by unfold wrap64; omega
  unfold steadingref05_Best.f
  rw [e]
  exact refbest_loop l n hl l.length k (-1) (Nat.le_refl _) hk (.inl ⟨rfl, fun j h1 h2 => absurd h2 (by omega)⟩)
/-- What the document's Take leaves from place i on. -/
def leftFrom (l : List S36) (b : Nat) (n : Int) (i : Nat) : List S36 := if i ≤ b then takeAt (l.drop i) (b - i) n else l.drop i
theorem reftake_loop (l : List S36) (n : Int) (b : Nat) (hf : fitsR l = true) (hb : b < l.length) (hn : 0 ≤ n) (hnb : n ≤ (l.getD b z36).f1) (d : Nat) : ∀ (k i : Nat) (acc : List S36), i + d = l.length → d < k → acc.length ≤ i →
    steadingref05_Take.l0 k l n (b : Int) acc (i : Int) = some ((l.getD b z36).f0, acc ++ leftFrom l b n i, true) := by
  have hl := fitsR_len hf
  have hrb : rd_T36 l (b : Int) = l.getD b z36 := by unfold rd_T36; rw [Int.toNat_natCast]
  induction d with
  | zero =>
    intro k i acc hi hk ha
    obtain ⟨k, rfl⟩ : ∃ m, k = m + 1 := ⟨k - 1, by omega⟩
    simp only [steadingref05_Take.l0]
    rw [if_neg (by omega), if_pos (by omega), if_pos (by omega), hrb, leftFrom, if_neg (by omega), List.drop_eq_nil_of_le (by omega), List.append_nil]
  | succ d ih =>
    intro k i acc hi hk ha
    obtain ⟨k, rfl⟩ : ∃ m, k = m + 1 := ⟨k - 1, by omega⟩
    have hil : i < l.length := by omega
    have hm := fitsR_mem hf (List.getElem_mem hil)
    have hgd : l.getD i z36 = l[i] := by rw [List.getD_eq_getElem?_getD, List.getElem?_eq_getElem hil]; rfl
    simp only [steadingref05_Take.l0]
    rw [if_pos (by omega), rd_get hil, wr_succ (by omega)]
    by_cases c1 : (i : Int) = (b : Int)
    · obtain rfl : i = b := by omega
      rw [hgd] at hnb ⊢
      rw [if_pos rfl, if_pos (by omega)]
      have hlf : leftFrom l i n i = takeAt (l[i] :: l.drop (i + 1)) 0 n := by rw [leftFrom, if_pos (Nat.le_refl _), Nat.sub_self, List.drop_eq_getElem_cons hil]
      by_cases c2 : l[i].f1 > n
      · rw [if_pos c2, if_pos (by omega), ih k (i + 1) _ (by omega) (by omega) (by simp; omega), hgd, hlf]
        congr 3
        have e1 : wrap64 (l[i].f0 + n) = l[i].f0 + n := by unfold wrap64; omega
        have e2 : wrap64 (l[i].f1 - n) = l[i].f1 - n := by unfold wrap64; omega
        rw [e1, e2, leftFrom, if_neg (by omega), takeAt, List.getD_cons_zero, if_pos (by omega), List.set_cons_zero, List.append_assoc]; rfl
      · rw [if_neg c2, ih k (i + 1) _ (by omega) (by omega) (by omega), hgd, hlf]
        congr 3
        rw [leftFrom, if_neg (by omega), takeAt, List.getD_cons_zero, if_neg (by omega), List.eraseIdx_cons_zero]
    · rw [if_neg c1, if_pos (by omega), if_pos (by omega), ih k (i + 1) _ (by omega) (by omega) (by simp; omega)]
      congr 3
      rw [List.append_assoc]; congr 1
      unfold leftFrom
      rw [List.drop_eq_getElem_cons hil]
      by_cases c2 : i + 1 ≤ b
      · rw [if_pos c2, if_pos (by omega), show b - i = (b - (i + 1)) + 1 from by omega]
        unfold takeAt
        simp only [List.getD_cons_succ, List.set_cons_succ, List.eraseIdx_cons_succ]
        split <;> rfl
      · rw [if_neg c2, if_neg (by omega)]; rfl
theorem reftake_is {l : List S36} {n : Int} (hf : fitsR l = true) (k : Nat) (hk : 2 * l.length + 1 < k) : steadingref05_Take.f k l n = if bestF l n < 0 then some (0, [], false) else some ((l.getD (bestF l n).toNat z36).f0, takeAt l (bestF l n).toNat n, true) := by
  have hl := fitsR_len hf
  unfold steadingref05_Take.f
  rw [refbest_is l n hl k hk]
  simp only [Option.bind_some]
  by_cases c : bestF l n < 0
  · rw [if_pos c, if_pos c]
  · rw [if_neg c, if_neg c]
    have hlt := bestF_lt l n
    have ok := bestUpto_ok l n l.length (by unfold bestF at c; omega)
    obtain ⟨b, hb⟩ : ∃ b : Nat, bestF l n = b := ⟨(bestF l n).toNat, by omega⟩
    have ok2 : n ≤ (rd_T36 l (bestF l n)).f1 := ok.2
    rw [hb] at ok2 ⊢
    rw [Int.toNat_natCast]
    have := reftake_loop l n b hf (by omega) (by omega) (by simpa [rd_T36] using ok2) l.length k 0 [] (by omega) (by omega) (Nat.le_refl _)
    simpa [leftFrom] using this
/-! ### the laws -/
theorem pure_right (l : List S36) (P : Int) (hw : wfR l) (hP : i64 P) : ∃ k, steadinglaw05_RunsRight.f k l P = some true := by
  refine ⟨100, ?_⟩
  unfold steadinglaw05_RunsRight.f
  rw [awake_is 100 (by omega)]
  simp only [Option.bind_some, if_true]
  by_cases c : (l.length : Int) > 60
  · rw [if_pos c]
  · rw [if_neg c, right_is l P hw hP (by omega) 100 (by omega), refright_is l P hw hP (by omega) 100 (by omega)]
    simp
theorem pure_take (l : List S36) (n : Int) (hw : wfR l) : ∃ k, steadinglaw05_RunsTake.f k l n = some true := by
  refine ⟨1000, ?_⟩
  unfold steadinglaw05_RunsTake.f
  rw [awake_is 1000 (by omega)]
  simp only [Option.bind_some, if_true]
  rw [few_is l hw 1000 (by omega)]
  simp only [Option.bind_some]
  by_cases c : fewF l = true
  · rw [if_pos c]
    have hf := few_fits c
    have hl := few_len c
    have htl : ∀ i m, (takeAt l i m).length ≤ 60 := fun i m => Nat.le_trans take_len hl
    rw [reftake_is hf 1000 (by omega), take_is hf, total_is l hf 1000 (by omega), reftotal_is l hf 1000 (by omega), best_at l n (by omega) 1000 (by omega), refbest_is l n (by omega) 1000 (by omega)]
    by_cases c2 : bestF l n < 0
    · rw [if_pos c2]
      simp only [Option.bind_some, if_true, beq_self_eq_true]
      rw [same_is _ (by simp) 1000 (by simp)]; rfl
    · rw [if_neg c2]
      simp only [Option.bind_some, if_true, beq_self_eq_true]
      rw [same_is _ (by have := htl (bestF l n).toNat n; omega) 1000 (by have := htl (bestF l n).toNat n; omega)]; rfl
  · rw [if_neg c]
theorem least_loop (l : List S36) (n : Int) (hl : l.length ≤ 60) (d : Nat) : ∀ (k i : Nat), i + d = l.length → 2 * d < k → steadinglaw05_RunsLeast.l0 k l n (bestF l n) (i : Int) = some true := by
  have hB := bestF_best l n
  have hlt := bestF_lt l n
  induction d with
  | zero =>
    intro k i hi hk
    obtain ⟨k, rfl⟩ : ∃ m, k = m + 1 := ⟨k - 1, by omega⟩
    simp only [steadinglaw05_RunsLeast.l0]
    rw [if_neg (by omega)]
    rcases hB with ⟨e, hB⟩ | ⟨hn, h0, h1, h2, hB⟩
    · rw [if_pos (by omega)]
    · rw [if_neg (by omega), if_pos (by omega), if_pos (by omega), if_pos (by omega), decide_eq_true (by omega)]
  | succ d ih =>
    intro k i hi hk
    obtain ⟨k, rfl⟩ : ∃ m, k = m + 2 := ⟨k - 2, by omega⟩
    have hn := ih k (i + 1) (by omega) (by omega)
    simp only [steadinglaw05_RunsLeast.l0, steadinglaw05_RunsLeast.j1]
    rw [if_pos (by omega), wr_succ (by omega)]
    rcases hB with ⟨e, hB⟩ | ⟨hn0, h0, h1, h2, hB⟩
    · rw [if_pos (by omega)]
      by_cases c1 : n > 0
      · rw [if_pos c1, if_pos (by omega)]
        have := hB i (by omega) (by omega) c1
        rw [decide_eq_false (by omega), if_neg (by simp), if_neg (by omega)]; exact hn
      · rw [if_neg c1, if_neg (by simp), if_neg (by omega)]; exact hn
    · rw [if_neg (by omega), if_neg (by simp), if_pos (by omega), if_pos (by omega), if_pos (by omega)]
      by_cases c2 : (rd_T36 l i).f1 ≥ n
      · have := hB i (by omega) (by omega) c2
        rw [if_pos c2, if_pos (by omega), if_pos (by omega), if_neg (by omega)]
        by_cases c3 : (rd_T36 l i).f1 = (rd_T36 l (bestF l n)).f1
        · rw [if_pos c3, if_neg (by omega)]; exact hn
        · rw [if_neg c3]; exact hn
      · rw [if_neg c2]; exact hn
theorem pure_least (l : List S36) (n : Int) (hw : wfR l) (hn : 0 ≤ n ∧ n ≤ 255) : ∃ k, steadinglaw05_RunsLeast.f k l n = some true := by
  refine ⟨1000, ?_⟩
  unfold steadinglaw05_RunsLeast.f
  rw [awake_is 1000 (by omega)]
  simp only [Option.bind_some, if_true]
  rw [few_is l hw 1000 (by omega)]
  simp only [Option.bind_some]
  have e : wrap64 n = n := by unfold wrap64; omega
  rw [e]
  by_cases c : fewF l = true
  · have hl := few_len c
    rw [if_pos c, best_at l n (by omega) 1000 (by omega)]
    simp only [Option.bind_some]
    exact least_loop l n hl l.length 1000 0 (by omega) (by omega)
  · rw [if_neg c]
end Go.Proofs.Ytccjcaomhijgdaa.Rn
