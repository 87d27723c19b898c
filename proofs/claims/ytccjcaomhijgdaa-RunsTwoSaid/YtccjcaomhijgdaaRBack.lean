/- What is taken and given back, and what is given in two parts, in plain Lean. -/
import Derived.Test.YtccjcaomhijgdaaRLink2
import Derived.Test.YtccjcaomhijgdaaRnx23
import Derived.Test.YtccjcaomhijgdaaRnx26
set_option linter.unusedVariables false
set_option linter.unusedSimpArgs false
namespace Go.Proofs.Ytccjcaomhijgdaa.Rn
open Go.RowKit Go.Proofs.YtccjcaomhijgdaaW.PrintWords Go.Proofs.YtccjcaomhijgdaaW.PrintLast Go.Proofs.YtccjcaomhijgdaaW.PrintMore

theorem fits_small {l : List S36} (h : rightF l 1073741824 = true) (hl : l.length ≤ 1000) : fitsR l = true := right_fits h (by omega) hl
theorem few_wf {l : List S36} (h : rightF l 1073741824 = true) : wfR l := fun x hx => by have := rf_mem h x hx; unfold i64; omega
/-- What is known of the run that the best place names. -/
theorem best_run {l : List S36} {n : Int} (hr : rightF l 1073741824 = true) (hb : ¬ bestF l n < 0) : ∃ (i : Nat) (x : S36), bestF l n = i ∧ l[i]? = some x ∧ l.getD i z36 = x ∧ rd_T36 l (i : Int) = x ∧ 1 ≤ n ∧ n ≤ x.f1 ∧ 0 ≤ x.f0 ∧ x.f0 + x.f1 ≤ 1073741824 ∧ x ∈ l := by
  have hlt := bestF_lt l n
  have ok := bestUpto_ok l n l.length (by unfold bestF at hb; omega)
  have ok2 : n ≤ (rd_T36 l (bestF l n)).f1 := ok.2
  obtain ⟨i, hi⟩ : ∃ b : Nat, bestF l n = b := ⟨(bestF l n).toNat, by omega⟩
  rw [hi] at ok2 hlt
  have hil : i < l.length := by omega
  have hx := rd_get hil
  rw [hx] at ok2
  have := rf_mem hr l[i] (List.getElem_mem hil)
  exact ⟨i, l[i], hi, List.getElem?_eq_getElem hil, by rw [List.getD_eq_getElem?_getD, List.getElem?_eq_getElem hil]; rfl, hx, by omega, ok2, by omega, by omega, List.getElem_mem hil⟩
theorem total_max {l : List S36} {P : Int} (h : rightF l P = true) (hP : 0 ≤ P) : 0 ≤ totalF l ∧ totalF l ≤ P := by
  have h1 := total_nonneg h
  have h2 := total_le h (by omega) hP
  omega
theorem back_loop (l : List S36) (n : Int) (hl : l.length ≤ 60) (hn : bestF l n < 0) (d : Nat) : ∀ (k i : Nat), i + d = l.length → d < k → steadinglaw05_RunsBack.l0 k l n [] (i : Int) = some true := by
  have hB := bestF_best l n
  induction d with
  | zero =>
    intro k i hi hk
    obtain ⟨k, rfl⟩ : ∃ m, k = m + 1 := ⟨k - 1, by omega⟩
    simp only [steadinglaw05_RunsBack.l0]
    rw [if_neg (by omega)]; rfl
  | succ d ih =>
    intro k i hi hk
    obtain ⟨k, rfl⟩ : ∃ m, k = m + 1 := ⟨k - 1, by omega⟩
    have hnx := ih k (i + 1) (by omega) (by omega)
    simp only [steadinglaw05_RunsBack.l0]
    rw [if_pos (by omega), wr_succ (by omega)]
    by_cases c1 : n > 0
    · rw [if_pos c1, if_pos (by omega)]
      rcases hB with ⟨e, hB⟩ | ⟨hn0, h0, h1, h2, hB⟩
      · have := hB i (by omega) (by omega) c1
        rw [if_neg (by omega)]; exact hnx
      · omega
    · rw [if_neg c1]; exact hnx
theorem pure_back (l : List S36) (n : Int) (hw : wfR l) (hn : 0 ≤ n ∧ n ≤ 255) : ∃ k, steadinglaw05_RunsBack.f k l n = some true := by
  refine ⟨1000, ?_⟩
  unfold steadinglaw05_RunsBack.f
  rw [awake_is 1000 (by omega)]
  simp only [Option.bind_some, if_true]
  rw [few_is l hw 1000 (by omega)]
  simp only [Option.bind_some]
  have e : wrap64 n = n := by unfold wrap64; omega
  rw [e]
  by_cases c : fewF l = true
  · have hl := few_len c
    have hr := few_right c
    have hf := few_fits c
    rw [if_pos c, take_is hf]
    by_cases c2 : bestF l n < 0
    · rw [if_pos c2]
      simp only [Option.bind_some]
      rw [if_neg (by simp)]
      exact back_loop l n hl c2 l.length 1000 0 (by omega) (by omega)
    · rw [if_neg c2]
      obtain ⟨i, x, hi, hx, hg, _, hn1, hnx, hx0, hxP, hxm⟩ := best_run hr c2
      rw [hi, Int.toNat_natCast, hg]
      simp only [Option.bind_some]
      rw [if_pos trivial]
      obtain ⟨t1, t2, t3⟩ := take_spec_from l 1073741824 (-1) i x n hr hx hn1 hnx
      have tl : (takeAt l i n).length ≤ 60 := Nat.le_trans take_len hl
      generalize takeAt l i n = m at t1 t2 t3 tl ⊢
      have fm := fits_small t1 (by omega)
      have free : ∀ q, x.f0 ≤ q → q < x.f0 + n → ¬ Cov m q := fun q h1 h2 h3 => ((t2 q).1 h3).2 ⟨h1, h2⟩
      have gok : giveOk m 1073741824 x.f0 n = true := (giveOk_iff t1).2 ⟨hx0, hn1, by omega, free⟩
      obtain ⟨g1, g2, g3⟩ := give_spec t1 gok
      have same : giveF m x.f0 n = l := canon g1 hr (fun q => by
        rw [g2 q, t2 q]
        constructor
        · rintro (h | h)
          · exact h.1
          · exact ⟨x, hxm, by omega, by omega⟩
        · intro h
          by_cases d : x.f0 ≤ q ∧ q < x.f0 + n
          · exact .inr d
          · exact .inl ⟨h, d⟩)
      have b1 := total_max hr (by omega)
      rw [give_is fm (by omega), if_pos gok, right_is m 1073741824 (few_wf t1) (by unfold i64; omega) (by omega) 1000 (by omega), show rightF m 1073741824 = true from t1]
      simp only [Option.bind_some, if_true]
      rw [total_is m fm 1000 (by omega), total_is l hf 1000 (by omega)]
      simp only [Option.bind_some]
      have e3 : wrap64 (totalF l - n) = totalF l - n := by unfold wrap64; omega
      rw [e3, if_pos t3, has_is fm (by unfold i64; omega) (by unfold i64; omega), (hasnt_iff t1 hx0 hn1).2 free]
      simp only [Option.bind_some]
      rw [if_neg (by simp), has_is hf (by unfold i64; omega) (by unfold i64; omega), (has_iff hr hx0 hn1).2 ⟨x.f0, by omega, by omega, x, hxm, by omega, by omega⟩]
      simp only [Option.bind_some, if_true]
      rw [same, same_is l (by omega) 1000 (by omega)]; rfl
  · rw [if_neg c]
theorem pure_two (l : List S36) (p n a : Int) (hw : wfR l) (hp : 0 ≤ p ∧ p ≤ 65535) (hn : 0 ≤ n ∧ n ≤ 255) (ha : 0 ≤ a ∧ a ≤ 255) : ∃ k, steadinglaw05_RunsTwo.f k l p n a = some true := by
  refine ⟨1000, ?_⟩
  unfold steadinglaw05_RunsTwo.f
  rw [awake_is 1000 (by omega)]
  simp only [Option.bind_some, if_true]
  rw [few_is l hw 1000 (by omega)]
  simp only [Option.bind_some]
  by_cases c : fewF l = true
  · rw [if_pos c]
    have hl := few_len c
    have hr := few_right c
    have hf := few_fits c
    simp only [steadinglaw05_RunsTwo.j0]
    by_cases c2 : n < 2
    · rw [if_pos (by simpa using c2)]
    rw [if_neg (by simpa using c2)]
    have e1 : wrap64 n = n := by unfold wrap64; omega
    have e2 : wrap64 (n - 1) = n - 1 := by unfold wrap64; omega
    have e3 : wrap64 p = p := by unfold wrap64; omega
    have e4 : wrap64 a = a := by unfold wrap64; omega
    obtain ⟨m, hm⟩ : ∃ m, m = 1 + Int.tmod a (n - 1) := ⟨_, rfl⟩
    have hm1 : 1 ≤ m ∧ m < n := by
      have h1 : 0 ≤ Int.tmod a (n - 1) := by rw [Int.tmod_eq_emod_of_nonneg (by omega)]; exact Int.emod_nonneg _ (by omega)
      have h2 : Int.tmod a (n - 1) < n - 1 := by rw [Int.tmod_eq_emod_of_nonneg (by omega)]; exact Int.emod_lt_of_pos _ (by omega)
      omega
    have e5 : wrap64 m = m := by unfold wrap64; omega
    have e6 : wrap64 (p + m) = p + m := by unfold wrap64; omega
    have e7 : wrap64 (n - m) = n - m := by unfold wrap64; omega
    rw [e1, e2, e3, e4, ← hm, e5, e6, e7, if_neg (by omega)]
    -- the whole, and its second part
    have iff0 : giveOk l 1073741824 p n = true ↔ giveOk l 1073741824 (p + m) (n - m) = true ∧ ∀ q, p ≤ q → q < p + m → ¬ Cov l q := by
      rw [giveOk_iff hr, giveOk_iff hr]
      constructor
      · rintro ⟨h1, h2, h3, h4⟩
        exact ⟨⟨by omega, by omega, by omega, fun q a b => h4 q (by omega) (by omega)⟩, fun q a b => h4 q (by omega) (by omega)⟩
      · rintro ⟨⟨h1, h2, h3, h4⟩, h5⟩
        refine ⟨by omega, by omega, by omega, fun q a b => ?_⟩
        by_cases d : q < p + m
        · exact h5 q a d
        · exact h4 q (by omega) (by omega)
    rw [give_is hf (by omega), give_is hf (by omega)]
    by_cases g2 : giveOk l 1073741824 (p + m) (n - m) = true
    · rw [if_pos g2]
      simp only [Option.bind_some, if_true]
      obtain ⟨s1, s2, s3⟩ := give_spec hr g2
      have sl : (giveF l (p + m) (n - m)).length ≤ 61 := Nat.le_trans give_len (by omega)
      generalize giveF l (p + m) (n - m) = l2 at s1 s2 s3 sl ⊢
      have f2 := fits_small s1 (by omega)
      have iff1 : giveOk l2 1073741824 p m = true ↔ giveOk l 1073741824 p n = true := by
        rw [iff0, giveOk_iff s1]
        constructor
        · rintro ⟨h1, h2, h3, h4⟩
          exact ⟨g2, fun q a b d => h4 q a b ((s2 q).2 (.inl d))⟩
        · rintro ⟨_, h⟩
          have := (giveOk_iff hr).1 g2
          refine ⟨by omega, by omega, by omega, fun q a b d => ?_⟩
          rcases (s2 q).1 d with d | d
          · exact h q a b d
          · omega
      rw [give_is f2 (by omega)]
      by_cases g1 : giveOk l 1073741824 p n = true
      · rw [if_pos g1, if_pos (iff1.2 g1)]
        simp only [Option.bind_some, if_true, beq_self_eq_true]
        obtain ⟨u1, u2, u3⟩ := give_spec hr g1
        obtain ⟨v1, v2, v3⟩ := give_spec s1 (iff1.2 g1)
        have ul : (giveF l p n).length ≤ 61 := Nat.le_trans give_len (by omega)
        have same : giveF l2 p m = giveF l p n := canon v1 u1 (fun q => by
          rw [v2 q, u2 q, s2 q]
          constructor
          · rintro ((h | h) | h)
            · exact .inl h
            · exact .inr (by omega)
            · exact .inr (by omega)
          · rintro (h | h)
            · exact .inl (.inl h)
            · by_cases d : q < p + m
              · exact .inr (by omega)
              · exact .inl (.inr (by omega)))
        have b1 := total_max hr (by omega)
        rw [same, same_is _ (by omega) 999 (by omega)]
        simp only [Option.bind_some, if_true]
        rw [total_is _ (fits_small u1 (by omega)) 999 (by omega), total_is l hf 999 (by omega)]
        simp only [Option.bind_some]
        have e8 : wrap64 (totalF l + n) = totalF l + n := by unfold wrap64; omega
        rw [e8, u3]; simp
      · rw [if_neg g1, if_neg (fun h => g1 (iff1.1 h))]
        simp
    · rw [if_neg g2, if_neg (fun h => g2 (iff0.1 h).1)]
      simp
  · rw [if_neg c]
    simp [steadinglaw05_RunsTwo.j0]
end Go.Proofs.Ytccjcaomhijgdaa.Rn
