/- What the document's own Total, Best and Take come to, and the laws that need no more: Right, Take, Least. -/
import Derived.Test.YtdkedgdieoojgaaRCom
import Derived.Test.YtdkedgdieoojgaaRnx11
import Derived.Test.YtdkedgdieoojgaaRnx12
import Derived.Test.YtdkedgdieoojgaaRnx6
set_option linter.unusedVariables false
set_option linter.unusedSimpArgs false
namespace Go.Proofs.Ytdkedgdieoojgaa.Rn
open Go.RowKit Go.Proofs.YtdkedgdieoojgaaW.PrintWords Go.Proofs.YtdkedgdieoojgaaW.PrintLast Go.Proofs.YtdkedgdieoojgaaW.PrintMore

theorem reftotal_loop (l : List S51) (hf : fitsR l = true) (d : Nat) : ∀ (k i : Nat), i + d = l.length → d < k → steadingref05_Total.l0 k l (totalF (l.take i)) (i : Int) = some (totalF l) := by
  have hl := fitsR_len hf
  induction d with
  | zero =>
    intro k i hi hk
    obtain ⟨k, rfl⟩ : ∃ m, k = m + 1 := ⟨k - 1, by omega⟩
    simp only [steadingref05_Total.l0]
    rw [if_neg (by omega), List.take_of_length_le (by omega)]
  | succ d ih =>
    intro k i hi hk
    obtain ⟨k, rfl⟩ : ∃ m, k = m + 1 := ⟨k - 1, by omega⟩
    have hil : i < l.length := by omega
    have hm := fitsR_mem hf (List.getElem_mem hil)
    have hp := fits_part hf i
    have hn := ih k (i + 1) (by omega) (by omega)
    rw [List.take_add_one, List.getElem?_eq_getElem hil, total_append] at hn
    simp only [Option.toList_some, totalF] at hn
    simp only [steadingref05_Total.l0]
    rw [if_pos (by omega), if_pos (by omega), rd_get hil, wr_succ (by omega)]
    have e : wrap64 (totalF (l.take i) + l[i].f1) = totalF (l.take i) + (l[i].f1 + 0) := by unfold wrap64; omega
    rw [e]; exact hn
theorem reftotal_is (l : List S51) (hf : fitsR l = true) (k : Nat) (hk : l.length < k) : steadingref05_Total.f k l = some (totalF l) := by
  have := reftotal_loop l hf l.length k 0 (by omega) hk
  simpa [steadingref05_Total.f, totalF] using this
theorem refbest_loop (l : List S51) (n : Int) (hl : l.length ≤ 1000) (d : Nat) : ∀ (k : Nat) (b : Int), d ≤ l.length → 2 * d + 1 < k → IsBest l n d b → steadingref05_Best.l0 k l n b ((d : Int) - 1) = some (bestF l n) := by
  induction d with
  | zero =>
    intro k b _ hk hb
    obtain ⟨k, rfl⟩ : ∃ m, k = m + 2 := ⟨k - 2, by omega⟩
    simp only [steadingref05_Best.l0, steadingref05_Best.j1]
    rw [if_neg (by omega), if_neg (by simp)]
    rw [isbest_is hb (bestF_best l n)]
  | succ d ih =>
    intro k b hd hk hb
    obtain ⟨k, rfl⟩ : ∃ m, k = m + 2 := ⟨k - 2, by omega⟩
    have e0 : ((d + 1 : Nat) : Int) - 1 = (d : Int) := by omega
    have e1 : wrap64 ((d : Int) - 1) = (d : Int) - 1 := by unfold wrap64; omega
    simp only [steadingref05_Best.l0, steadingref05_Best.j1]
    rw [e0, e1, if_pos (by omega)]
    by_cases c1 : n > 0
    · rw [if_pos (by simpa using c1), if_pos (by omega), if_pos (by omega)]
      by_cases c2 : (rd_T51 l d).f1 ≥ n
      · rw [if_pos c2]
        rcases hb with ⟨rfl, hb⟩ | ⟨_, h0, h1, h2, hb⟩
        · rw [if_pos (by omega)]
          refine ih k d (by omega) (by omega) (.inr ⟨c1, by omega, by omega, c2, fun j hj hjl hnj => ?_⟩)
          by_cases c : j = d
          · subst c; exact .inr ⟨rfl, Int.le_refl _⟩
          · have := hb j (by omega) hjl c1; omega
        · rw [if_neg (by omega), if_pos (by omega), if_pos (by omega)]
          by_cases c3 : (rd_T51 l d).f1 ≤ (rd_T51 l b).f1
          · rw [if_pos c3]
            refine ih k d (by omega) (by omega) (.inr ⟨c1, by omega, by omega, c2, fun j hj hjl hnj => ?_⟩)
            by_cases c : j = d
            · subst c; exact .inr ⟨rfl, Int.le_refl _⟩
            · have := hb j (by omega) hjl hnj; omega
          · rw [if_neg c3]
            refine ih k b (by omega) (by omega) (.inr ⟨c1, by omega, by omega, h2, fun j hj hjl hnj => ?_⟩)
            by_cases c : j = d
            · subst c; left; omega
            · exact hb j (by omega) hjl hnj
      · rw [if_neg c2]
        refine ih k b (by omega) (by omega) ?_
        rcases hb with ⟨rfl, hb⟩ | ⟨_, h0, h1, h2, hb⟩
        · refine .inl ⟨rfl, fun j hj hjl hn => ?_⟩
          by_cases c : j = d
          · subst c; omega
          · exact hb j (by omega) hjl hn
        · refine .inr ⟨c1, by omega, by omega, h2, fun j hj hjl hnj => ?_⟩
          by_cases c : j = d
          · subst c; omega
          · exact hb j (by omega) hjl hnj
    · -- n is not above nought: there is none
      rw [if_neg (by simpa using c1)]
      rcases hb with ⟨rfl, hb⟩ | ⟨h, _⟩
      · rw [show bestF l n = -1 from best_nopos l n c1 l.length]
      · exact absurd h c1
theorem refbest_is (l : List S51) (n : Int) (hl : l.length ≤ 1000) (k : Nat) (hk : 2 * l.length + 1 < k) : steadingref05_Best.f k l n = some (bestF l n) := by
  have e : wrap64 ((l.length : Int) - 1) = (l.length : Int) - 1 := by unfold wrap64; omega
  unfold steadingref05_Best.f
  rw [e]
  exact refbest_loop l n hl l.length k (-1) (Nat.le_refl _) hk (.inl ⟨rfl, fun j h1 h2 => absurd h2 (by omega)⟩)
/-- What the document's Take leaves from place i on. -/
def leftFrom (l : List S51) (b : Nat) (n : Int) (i : Nat) : List S51 := if i ≤ b then takeAt (l.drop i) (b - i) n else l.drop i
theorem reftake_loop (l : List S51) (n : Int) (b : Nat) (hf : fitsR l = true) (hb : b < l.length) (hn : 0 ≤ n) (hnb : n ≤ (l.getD b z51).f1) (d : Nat) : ∀ (k i : Nat) (acc : List S51), i + d = l.length → d < k → acc.length ≤ i →
    steadingref05_Take.l0 k l n (b : Int) acc (i : Int) = some ((l.getD b z51).f0, acc ++ leftFrom l b n i, true) := by
  have hl := fitsR_len hf
  have hrb : rd_T51 l (b : Int) = l.getD b z51 := by unfold rd_T51; rw [Int.toNat_natCast]
  induction d with
  | zero =>
    intro k i acc hi hk ha
    obtain ⟨k, rfl⟩ : ∃ m, k = m + 1 := ⟨k - 1, by omega⟩
    simp only [steadingref05_Take.l0]
    rw [if_neg (by omega), if_pos (by omega), if_pos (by omega), hrb, leftFrom, if_neg (by omega), List.drop_eq_nil_of_le (by omega), List.append_nil]
  | succ d ih =>
    intro k i acc hi hk ha
    obtain ⟨k, rfl⟩ : ∃ m, k = m + 1 := ⟨k - 1, by omega⟩
    have hil : i < l.length := by omega
    have hm := fitsR_mem hf (List.getElem_mem hil)
    have hgd : l.getD i z51 = l[i] := by rw [List.getD_eq_getElem?_getD, List.getElem?_eq_getElem hil]; rfl
    simp only [steadingref05_Take.l0]
    rw [if_pos (by omega), rd_get hil, wr_succ (by omega)]
    by_cases c1 : (i : Int) = (b : Int)
    · obtain rfl : i = b := by omega
      rw [hgd] at hnb ⊢
      rw [if_pos rfl, if_pos (by omega)]
      have hlf : leftFrom l i n i = takeAt (l[i] :: l.drop (i + 1)) 0 n := by rw [leftFrom, if_pos (Nat.le_refl _), Nat.sub_self, List.drop_eq_getElem_cons hil]
      by_cases c2 : l[i].f1 > n
      · rw [if_pos c2, if_pos (by omega), ih k (i + 1) _ (by omega) (by omega) (by simp; omega), hgd, hlf]
        congr 3
        have e1 : wrap64 (l[i].f0 + n) = l[i].f0 + n := by unfold wrap64; omega
        have e2 : wrap64 (l[i].f1 - n) = l[i].f1 - n := by unfold wrap64; omega
        rw [e1, e2, leftFrom, if_neg (by omega), takeAt, List.getD_cons_zero, if_pos (by omega), List.set_cons_zero, List.append_assoc]; rfl
      · rw [if_neg c2, ih k (i + 1) _ (by omega) (by omega) (by omega), hgd, hlf]
        congr 3
        rw [leftFrom, if_neg (by omega), takeAt, List.getD_cons_zero, if_neg (by omega), List.eraseIdx_cons_zero]
    · rw [if_neg c1, if_pos (by omega), if_pos (by omega), ih k (i + 1) _ (by omega) (by omega) (by simp; omega)]
      congr 3
      rw [List.append_assoc]; congr 1
      unfold leftFrom
      rw [List.drop_eq_getElem_cons hil]
      by_cases c2 : i + 1 ≤ b
      · rw [if_pos c2, if_pos (by omega), show b - i = (b - (i + 1)) + 1 from by omega]
        unfold takeAt
        simp only [List.getD_cons_succ, List.set_cons_succ, List.eraseIdx_cons_succ]
        split <;> rfl
      · rw [if_neg c2, if_neg (by omega)]; rfl
theorem reftake_is {l : List S51} {n : Int} (hf : fitsR l = true) (k : Nat) (hk : 2 * l.length + 1 < k) : steadingref05_Take.f k l n = if bestF l n < 0 then some (0, [], false) else some ((l.getD (bestF l n).toNat z51).f0, takeAt l (bestF l n).toNat n, true) := by
  have hl := fitsR_len hf
  unfold steadingref05_Take.f
  rw [refbest_is l n hl k hk]
  simp only [Option.bind_some]
  by_cases c : bestF l n < 0
  · rw [if_pos c, if_pos c]
  · rw [if_neg c, if_neg c]
    have hlt := bestF_lt l n
    have ok := bestUpto_ok l n l.length (by unfold bestF at c; omega)
    obtain ⟨b, hb⟩ : ∃ b : Nat, bestF l n = b := ⟨(bestF l n).toNat, by omega⟩
    have ok2 : n ≤ (rd_T51 l (bestF l n)).f1 := ok.2
    rw [hb] at ok2 ⊢
    rw [Int.toNat_natCast]
    have := reftake_loop l n b hf (by omega) (by omega) (by simpa [rd_T51] using ok2) l.length k 0 [] (by omega) (by omega) (Nat.le_refl _)
    simpa [leftFrom] using this
/-! ### the laws -/
end Go.Proofs.Ytdkedgdieoojgaa.Rn
