/- What acts do to the free runs, and each act's call. -/
import Derived.Test.YtdkedgdieoojgaaMActs
set_option linter.unusedVariables false
set_option linter.unusedSimpArgs false
namespace Go.Proofs.Ytdkedgdieoojgaa.Rn
open Go.ChangeShapes Go.RowKit Go.Proofs.YtdkedgdieoojgaaW.PrintWords Go.Proofs.YtdkedgdieoojgaaW.PrintLast Go.Proofs.YtdkedgdieoojgaaW.PrintMore
/-! ### what acts do to the free runs -/
def did (P : Int) (l : List S51) (a : Act3) : Bool := if a.gv = true then giveOk l P a.pg a.n else (decide (1 ≤ a.n) && decide (0 ≤ bestF l a.n))
def playL (P : Int) (l : List S51) (a : Act3) : List S51 := if did P l a = true then (if a.gv = true then giveF l a.pg a.n else takeAt l (bestF l a.n).toNat a.n) else l
def playT (P : Int) (l : List S51) (t : Int) (a : Act3) : Int := if did P l a = true then t + 1 + l.length else t
structure Inv (P : Int) (k : Nat) (l : List S51) (t : Int) : Prop where
  hP : 1 ≤ P ∧ P ≤ 1048576
  hr : rightF l P = true
  hn : l.length ≤ k + 1
  hk : k ≤ 500
  ht : 0 ≤ t ∧ t ≤ (k : Int) * 1000
theorem Inv.fits {P : Int} {k : Nat} {l : List S51} {t : Int} (h : Inv P k l t) : fitsR l = true := right_fits h.hr (by have := h.hP; omega) (by have := h.hn; have := h.hk; omega)
theorem Inv.tb {P : Int} {k : Nat} {l : List S51} {t : Int} (h : Inv P k l t) : 0 ≤ t ∧ t ≤ 1000000000 := by have := h.ht; have := h.hk; omega
theorem Inv.start {P : Int} (h : 1 ≤ P ∧ P ≤ 1048576) : Inv P 0 [⟨0, P⟩] 0 := ⟨h, rf_cons.2 ⟨⟨by show (-1 : Int) < 0; decide, by show (0 : Int) ≤ 0; decide, h.1, by show 0 + P ≤ P; omega⟩, rfl⟩, Nat.le_refl _, by omega, by omega⟩
theorem best_some {l : List S51} {n P : Int} (hr : rightF l P = true) (hb : ¬ bestF l n < 0) : ∃ (i : Nat) (x : S51), bestF l n = i ∧ l[i]? = some x ∧ l.getD i z51 = x ∧ rd_T51 l (i : Int) = x ∧ 1 ≤ n ∧ n ≤ x.f1 ∧ 0 ≤ x.f0 ∧ x.f0 + x.f1 ≤ P ∧ x ∈ l := by
  have hlt := bestF_lt l n
  have ok := bestUpto_ok l n l.length (by unfold bestF at hb; omega)
  have ok2 : n ≤ (rd_T51 l (bestF l n)).f1 := ok.2
  obtain ⟨i, hi⟩ : ∃ b : Nat, bestF l n = b := ⟨(bestF l n).toNat, by omega⟩
  rw [hi] at ok2 hlt
  have hil : i < l.length := by omega
  have hx := rd_get hil
  rw [hx] at ok2
  have := rf_mem hr l[i] (List.getElem_mem hil)
  exact ⟨i, l[i], hi, List.getElem?_eq_getElem hil, by rw [List.getD_eq_getElem?_getD, List.getElem?_eq_getElem hil]; rfl, hx, by omega, ok2, by omega, by omega, List.getElem_mem hil⟩
theorem Inv.play {P : Int} {k : Nat} {l : List S51} {t : Int} (h : Inv P k l t) (hk : k < 500) (a : Act3) : Inv P (k + 1) (playL P l a) (playT P l t a) := by
  obtain ⟨h1, h2, h3, h4, h5⟩ := h
  unfold playL playT
  by_cases c : did P l a = true
  · rw [if_pos c, if_pos c]
    unfold did at c
    by_cases c2 : a.gv = true
    · rw [if_pos c2] at c ⊢
      obtain ⟨g1, g2, g3⟩ := give_spec h2 c
      have := @give_len l a.pg a.n
      exact ⟨h1, g1, by omega, by omega, by omega⟩
    · rw [if_neg c2] at c ⊢
      simp only [Bool.and_eq_true, decide_eq_true_eq] at c
      obtain ⟨i, x, hi, hx, _, _, hn1, hnx, _⟩ := best_some h2 (show ¬ bestF l a.n < 0 by omega)
      rw [hi, Int.toNat_natCast]
      obtain ⟨t1, t2, t3⟩ := take_spec_from l P (-1) i x a.n h2 hx hn1 hnx
      have := @take_len l i a.n
      exact ⟨h1, t1, by omega, by omega, by omega⟩
  · rw [if_neg c, if_neg c]
    exact ⟨h1, h2, by omega, by omega, by omega⟩
theorem play_give {w : World} {base g : Nat} {P : Int} {k : Nat} {l : List S51} {t : Int} (h : AL w base g P l t) (hi : Inv P k l t) (a : Act3) (ha : a.gv = true) :
    Calls Try.prog 10 #[.pointer (some ⟨g, 0, none⟩), .int .i64 a.pg, .int .i64 a.n] w fun e w' => e = .returned (.int .i64 (if did P l a = true then 0 else 1)) ∧ AL w' base g P (playL P l a) (playT P l t a) ∧ Kept base g w w' := by
  have e : did P l a = giveOk l P a.pg a.n := by unfold did; rw [if_pos ha]
  unfold playL playT
  rw [e, if_pos ha]
  by_cases c : giveOk l P a.pg a.n = true
  · rw [if_pos c, if_pos c, if_pos c]; exact give_calls h hi.fits hi.hP hi.tb _ _ c
  · rw [if_neg c, if_neg c, if_neg c]; exact give_no h hi.fits hi.hP _ _ (by simpa using c)
/-- The answer of a taking. -/
def takeE (l : List S51) (n : Int) : Int := if n < 1 then 1 else if bestF l n < 0 then 4 else 0
def takeP (l : List S51) (n : Int) : Int := if n < 1 then 0 else if bestF l n < 0 then 0 else (l.getD (bestF l n).toNat z51).f0
theorem play_take {w : World} {base g : Nat} {P : Int} {k : Nat} {l : List S51} {t : Int} (h : AL w base g P l t) (hi : Inv P k l t) (a : Act3) (ha : a.gv = false) :
    Calls Try.prog 11 #[.pointer (some ⟨g, 0, none⟩), .int .i64 a.n] w fun e w' => e = .returned (.tuple #[.int .i64 (takeP l a.n), .int .i64 (takeE l a.n)]) ∧ AL w' base g P (playL P l a) (playT P l t a) ∧ Kept base g w w' := by
  have e : did P l a = (decide (1 ≤ a.n) && decide (0 ≤ bestF l a.n)) := by unfold did; rw [if_neg (by rw [ha]; decide)]
  unfold playL playT takeP takeE
  rw [e, if_neg (show ¬ a.gv = true by rw [ha]; decide)]
  by_cases c1 : a.n < 1
  · rw [decide_eq_false (show ¬ 1 ≤ a.n by omega), Bool.false_and, if_pos c1, if_pos c1, if_neg (by decide), if_neg (by decide)]; exact take_bad h _ c1
  · rw [decide_eq_true (show 1 ≤ a.n by omega), Bool.true_and, if_neg c1, if_neg c1]
    by_cases c2 : bestF l a.n < 0
    · rw [decide_eq_false (show ¬ 0 ≤ bestF l a.n by omega), if_pos c2, if_pos c2, if_neg (by decide), if_neg (by decide)]; exact take_no h hi.fits _ (by omega) c2
    · rw [decide_eq_true (show 0 ≤ bestF l a.n by omega), if_neg c2, if_neg c2, if_pos rfl, if_pos rfl]; exact take_calls h hi.fits hi.tb _ (by omega) c2
/-- Taking so many pages, as an act. -/
def tk (n : Int) : Act3 := ⟨false, 0, n⟩
end Go.Proofs.Ytdkedgdieoojgaa.Rn
