/- What the document's Has and Give come to, and the law that needs them, in plain Lean. -/
import Derived.Test.YtdkedgdieoojgaaRCom
import Derived.Test.YtdkedgdieoojgaaMRefGive
set_option linter.unusedVariables false
set_option linter.unusedSimpArgs false
namespace Go.Proofs.Ytdkedgdieoojgaa.Rn
open Go.RowKit Go.Proofs.YtdkedgdieoojgaaW.PrintWords Go.Proofs.YtdkedgdieoojgaaW.PrintLast Go.Proofs.YtdkedgdieoojgaaW.PrintMore

theorem refhas_loop (l : List S51) (p n : Int) (hf : fitsR l = true) (hp : i64 p) (hn : i64 n) (d : Nat) : ∀ (k i : Nat), i + d = l.length → 3 * d + 3 < k → steadingref05_Has.l0 k l p n (i : Int) = some ((l.drop i).any (fun x => hasB x p n)) := by
  have hl := fitsR_len hf
  obtain ⟨hp1, hp2⟩ := hp
  obtain ⟨hn1, hn2⟩ := hn
  induction d with
  | zero =>
    intro k i hi hk
    obtain ⟨k, rfl⟩ : ∃ m, k = m + 2 := ⟨k - 2, by omega⟩
    simp only [steadingref05_Has.l0, steadingref05_Has.j1]
    rw [if_neg (by omega), if_neg (by simp), List.drop_eq_nil_of_le (by omega)]; rfl
  | succ d ih =>
    intro k i hi hk
    obtain ⟨k, rfl⟩ : ∃ m, k = m + 3 := ⟨k - 3, by omega⟩
    have hil : i < l.length := by omega
    have hx := rd_get hil
    have hm := fitsR_mem hf (List.getElem_mem hil)
    have hnx := ih k (i + 1) (by omega) (by omega)
    rw [List.drop_eq_getElem_cons hil, List.any_cons]
    obtain ⟨x, hxx⟩ : ∃ x, x = l[i] := ⟨_, rfl⟩
    rw [← hxx] at hx hm ⊢
    simp only [steadingref05_Has.l0, steadingref05_Has.j1, steadingref05_Has.j2]
    rw [if_pos (by omega), hx, wr_succ (by omega)]
    have e1 : wrap64 (x.f0 + x.f1) = x.f0 + x.f1 := by unfold wrap64; omega
    rw [e1]
    by_cases c1 : n > 0
    · rw [if_pos (by simpa using c1), if_pos (by omega), if_pos (by omega)]
      by_cases c2 : p ≥ 0
      · have e2 : wrap64 (x.f0 - p) = x.f0 - p := by unfold wrap64; omega
        have e3 : hasB x p n = (decide (x.f0 - p < n) && decide (p < x.f0 + x.f1)) := by
          unfold hasB; rw [decide_eq_true (show 0 < n by omega), decide_eq_false (show ¬ p < 0 by omega), decide_eq_true (show 0 ≤ p by omega)]; simp
        rw [if_pos c2, e2, if_neg (by omega), e3]
        by_cases c3 : p < x.f0 + x.f1
        · rw [if_pos c3]
          by_cases c4 : n > x.f0 - p
          · rw [if_pos (by simpa using c4), decide_eq_true c3, decide_eq_true (show x.f0 - p < n from c4)]; rfl
          · rw [if_neg (by simpa using c4), hnx, decide_eq_false (show ¬ x.f0 - p < n from c4)]; rfl
        · rw [if_neg c3, hnx, decide_eq_false c3]; simp
      · have e2 : wrap64 (p + n) = p + n := by unfold wrap64; omega
        have e3 : hasB x p n = (decide (x.f0 < p + n) && decide (p < x.f0 + x.f1)) := by
          unfold hasB; rw [decide_eq_true (show 0 < n by omega), decide_eq_true (show p < 0 by omega), decide_eq_false (show ¬ 0 ≤ p by omega)]; simp
        rw [if_neg c2, e2, if_pos (by omega), e3]
        by_cases c3 : p < x.f0 + x.f1
        · rw [if_pos c3]
          by_cases c4 : p + n > x.f0
          · rw [if_pos c4, decide_eq_true c3, decide_eq_true (show x.f0 < p + n from c4)]; rfl
          · rw [if_neg c4, hnx, decide_eq_false (show ¬ x.f0 < p + n from c4)]; rfl
        · rw [if_neg c3, hnx, decide_eq_false c3]; simp
    · rw [if_neg (by simpa using c1), hasB_no (by omega)]
      have e : (l.drop (i + 1)).any (fun x => hasB x p n) = false := by
        rw [Bool.eq_false_iff, Ne, List.any_eq_true]; rintro ⟨y, _, hy⟩; rw [hasB_no (by omega)] at hy; simp at hy
      rw [e]; rfl
theorem refhas_is {l : List S51} {p n : Int} (hf : fitsR l = true) (hp : i64 p) (hn : i64 n) (k : Nat) (hk : 3 * l.length + 3 < k) : steadingref05_Has.f k l p n = some (l.any (fun x => hasB x p n)) := by
  have := refhas_loop l p n hf hp hn l.length k 0 (by omega) hk
  simpa [steadingref05_Has.f] using this
/-! ### laid in order, then joined -/
def insF : List S51 → Int → Int → List S51
  | [], p, n => [⟨p, n⟩]
  | x :: t, p, n => if p < x.f0 then ⟨p, n⟩ :: x :: t else x :: insF t p n
def mg : S51 → List S51 → List S51
  | y, [] => [y]
  | y, x :: t => if y.f0 + y.f1 = x.f0 then mg ⟨y.f0, y.f1 + x.f1⟩ t else y :: mg x t
/-- In order, where a run may begin at the end of the one ahead of it. -/
def wk : List S51 → Int → Int → Prop
  | [], _, _ => True
  | x :: t, P, a => (a ≤ x.f0 ∧ 0 ≤ x.f0 ∧ 1 ≤ x.f1 ∧ x.f0 + x.f1 ≤ P) ∧ wk t P (x.f0 + x.f1)
theorem wk_of {l : List S51} {P a b : Int} (h : rightFrom l P a = true) (hb : ∀ x ∈ l, b ≤ x.f0) : wk l P b := by
  induction l generalizing a b with
  | nil => trivial
  | cons x t ih =>
    have h' := rf_cons.1 h
    exact ⟨⟨hb x List.mem_cons_self, h'.1.2⟩, ih h'.2 (fun y hy => Int.le_of_lt (rf_mem h'.2 y hy).1)⟩
theorem ins_spec (l : List S51) : ∀ (P a p n : Int), rightFrom l P a = true → a ≤ p → 0 ≤ p → 1 ≤ n → p + n ≤ P → (∀ q, p ≤ q → q < p + n → ¬ Cov l q) →
    wk (insF l p n) P a ∧ (∀ q, Cov (insF l p n) q ↔ Cov l q ∨ (p ≤ q ∧ q < p + n)) := by
  induction l with
  | nil =>
    intro P a p n _ ha hp hn hP _
    refine ⟨⟨⟨ha, hp, hn, hP⟩, trivial⟩, fun q => ?_⟩
    show Cov [⟨p, n⟩] q ↔ _
    rw [cov_cons]; simp [cov_nil]
  | cons x t ih =>
    intro P a p n hl ha hp hn hP hdis
    have hl2 := rf_cons.1 hl
    unfold insF
    by_cases c : p < x.f0
    · rw [if_pos c]
      have : ¬ x.f0 < p + n := fun h => hdis x.f0 (by omega) h (cov_cons.2 (.inl (by omega)))
      refine ⟨⟨⟨ha, hp, hn, hP⟩, wk_of hl (fun y hy => ?_)⟩, fun q => ?_⟩
      · show p + n ≤ _
        rcases List.mem_cons.1 hy with rfl | hy
        · omega
        · have := rf_mem hl2.2 y hy; omega
      · rw [cov_cons]; exact Or.comm
    · rw [if_neg c]
      have : ¬ p < x.f0 + x.f1 := fun h => hdis p (Int.le_refl _) (by omega) (cov_cons.2 (.inl (by omega)))
      obtain ⟨h1, h2⟩ := ih P (x.f0 + x.f1) p n hl2.2 (by omega) hp hn hP (fun q a b d => hdis q a b (cov_cons.2 (.inr d)))
      refine ⟨⟨⟨by omega, hl2.1.2⟩, h1⟩, fun q => ?_⟩
      rw [cov_cons, h2 q, cov_cons, or_assoc]
theorem mg_spec (l : List S51) : ∀ (P a : Int) (y : S51), wk l P (y.f0 + y.f1) → a < y.f0 → 0 ≤ y.f0 → 1 ≤ y.f1 → y.f0 + y.f1 ≤ P → rightFrom (mg y l) P a = true ∧ ∀ q, Cov (mg y l) q ↔ Cov (y :: l) q := by
  induction l with
  | nil => intro P a y _ ha h0 h1 hP; exact ⟨rf_cons.2 ⟨⟨ha, h0, h1, hP⟩, rfl⟩, fun q => Iff.rfl⟩
  | cons x t ih =>
    intro P a y hw ha h0 h1 hP
    obtain ⟨⟨w1, w2, w3, w4⟩, w5⟩ := hw
    unfold mg
    by_cases c : y.f0 + y.f1 = x.f0
    · rw [if_pos c]
      obtain ⟨g1, g2⟩ := ih P a ⟨y.f0, y.f1 + x.f1⟩ (by show wk t P (y.f0 + (y.f1 + x.f1)); rw [show y.f0 + (y.f1 + x.f1) = x.f0 + x.f1 from by omega]; exact w5) ha h0 (by show 1 ≤ y.f1 + x.f1; omega) (by show y.f0 + (y.f1 + x.f1) ≤ P; omega)
      refine ⟨g1, fun q => ?_⟩
      rw [g2 q, cov_cons, cov_cons, cov_cons]
      show (y.f0 ≤ q ∧ q < y.f0 + (y.f1 + x.f1)) ∨ _ ↔ _
      constructor
      · rintro (h | h)
        · by_cases d : q < x.f0
          · exact .inl (by omega)
          · exact .inr (.inl (by omega))
        · exact .inr (.inr h)
      · rintro (h | h | h)
        · exact .inl (by omega)
        · exact .inl (by omega)
        · exact .inr h
    · rw [if_neg c]
      obtain ⟨g1, g2⟩ := ih P (y.f0 + y.f1) x w5 (by omega) w2 w3 w4
      exact ⟨rf_cons.2 ⟨⟨ha, h0, h1, hP⟩, g1⟩, fun q => by rw [cov_cons, g2 q, cov_cons (x := y)]⟩
theorem ins_len (l : List S51) (p n : Int) : (insF l p n).length = l.length + 1 := by
  induction l with
  | nil => rfl
  | cons x t ih => unfold insF; split <;> simp [ih]
theorem mg_len (l : List S51) : ∀ y, (mg y l).length ≤ l.length + 1 := by
  induction l with
  | nil => intro y; exact Nat.le_refl _
  | cons x t ih =>
    intro y; unfold mg; split
    · exact Nat.le_succ_of_le (ih _)
    · simp; exact ih _
/-- What the document's Give leaves. -/
def refGiveF (l : List S51) (p n : Int) : List S51 := match insF l p n with
  | [] => []
  | x :: t => mg x t
theorem refgive_l1 (all : List S51) (hf : ∀ x ∈ all, 0 ≤ x.f0 ∧ x.f0 ≤ 1099511627776 ∧ 0 ≤ x.f1 ∧ x.f1 ≤ 1099511627776) (hl : all.length ≤ 1000) (d : Nat) : ∀ (k i : Nat) (pre : List S51) (y : S51), i + d = all.length → d < k → pre.length < i → (0 ≤ y.f0 ∧ y.f0 ≤ 1099511627776) → 0 ≤ y.f1 → y.f1 ≤ 1099511627776 * i →
    steadingref05_Give.l1 k all (pre ++ [y]) (i : Int) = some (pre ++ mg y (all.drop i), true) := by
  induction d with
  | zero =>
    intro k i pre y hi hk hp h0 h1 h2
    obtain ⟨k, rfl⟩ : ∃ m, k = m + 1 := ⟨k - 1, by omega⟩
    simp only [steadingref05_Give.l1]
    rw [if_neg (by omega), List.drop_eq_nil_of_le (by omega)]; rfl
  | succ d ih =>
    intro k i pre y hi hk hp h0 h1 h2
    obtain ⟨k, rfl⟩ : ∃ m, k = m + 1 := ⟨k - 1, by omega⟩
    have hil : i < all.length := by omega
    have hx := rd_get hil
    have hm := hf _ (List.getElem_mem hil)
    have hlen : ((pre ++ [y]).length : Int) = (pre.length : Int) + 1 := by simp
    have hy : rd_T51 (pre ++ [y]) (pre.length : Int) = y := rd_at (by simp)
    have e1 : wrap64 ((pre.length : Int) + 1 - 1) = (pre.length : Int) := by unfold wrap64; omega
    simp only [steadingref05_Give.l1]
    rw [hlen, e1, hy, hx, List.drop_eq_getElem_cons hil, if_pos (by omega), if_pos (by omega), if_pos (by omega), if_pos (by omega), if_pos (by omega), wr_succ (by omega)]
    obtain ⟨x, hxx⟩ : ∃ x, x = all[i] := ⟨_, rfl⟩
    rw [← hxx] at hm ⊢
    have e2 : wrap64 (y.f0 + y.f1) = y.f0 + y.f1 := by unfold wrap64; omega
    have e3 : wrap64 (y.f1 + x.f1) = y.f1 + x.f1 := by unfold wrap64; omega
    rw [e2, e3, Int.toNat_natCast]
    unfold mg
    by_cases c : y.f0 + y.f1 = x.f0
    · rw [if_pos c, if_pos c]
      have := ih k (i + 1) pre ⟨y.f0, y.f1 + x.f1⟩ (by omega) (by omega) (by omega) h0 (by show 0 ≤ y.f1 + x.f1; omega) (by show y.f1 + x.f1 ≤ _; omega)
      rw [← this]; simp
    · rw [if_neg c, if_neg c, if_pos (by simp; omega)]
      have := ih k (i + 1) (pre ++ [y]) x (by omega) (by omega) (by simp; omega) ⟨hm.1, hm.2.1⟩ hm.2.2.1 (by omega)
      rw [show ([⟨x.f0, x.f1⟩] : List S51) = [x] from rfl, this]; simp
theorem refgive_l0 (l : List S51) (p n : Int) (hl : l.length ≤ 900) (d : Nat) : ∀ (k i : Nat) (acc : List S51) (done : Bool), i + d = l.length → d < k → acc.length ≤ i + 1 → (done = false → acc.length ≤ i) →
    ∃ k', k ≤ k' + d + 1 ∧ steadingref05_Give.l0 k l p n acc done (i : Int) = steadingref05_Give.j2 k' (acc ++ (if done = true then l.drop i else insF (l.drop i) p n)) := by
  induction d with
  | zero =>
    intro k i acc done hi hk ha hd
    obtain ⟨k, rfl⟩ : ∃ m, k = m + 1 := ⟨k - 1, by omega⟩
    refine ⟨k, by omega, ?_⟩
    simp only [steadingref05_Give.l0]
    rw [if_neg (by omega), List.drop_eq_nil_of_le (by omega)]
    cases done
    · rw [if_neg (by simp), if_pos (by omega), if_neg (by simp)]; rfl
    · rw [if_pos rfl, if_pos rfl, List.append_nil]
  | succ d ih =>
    intro k i acc done hi hk ha hd
    obtain ⟨k, rfl⟩ : ∃ m, k = m + 1 := ⟨k - 1, by omega⟩
    have hil : i < l.length := by omega
    have hx := rd_get hil
    simp only [steadingref05_Give.l0]
    rw [if_pos (by omega), hx, wr_succ (by omega), List.drop_eq_getElem_cons hil]
    obtain ⟨x, hxx⟩ : ∃ x, x = l[i] := ⟨_, rfl⟩
    rw [← hxx]
    cases done
    · have hd' := hd rfl
      rw [if_neg (by simp), if_pos (by omega)]
      by_cases c : x.f0 > p
      · obtain ⟨k', h1, h2⟩ := ih k (i + 1) (acc ++ [⟨p, n⟩] ++ [x]) true (by omega) (by omega) (by simp; omega) (by simp)
        refine ⟨k', by omega, ?_⟩
        rw [if_pos c, if_pos (by omega)]
        simp only [Option.bind_some]
        rw [if_pos (by simp; omega), show ([⟨x.f0, x.f1⟩] : List S51) = [x] from rfl, h2, if_pos rfl, if_neg (by simp), insF, if_pos (by omega)]; simp
      · obtain ⟨k', h1, h2⟩ := ih k (i + 1) (acc ++ [x]) false (by omega) (by omega) (by simp; omega) (by simp; omega)
        refine ⟨k', by omega, ?_⟩
        rw [if_neg c, if_pos (by omega), show ([⟨x.f0, x.f1⟩] : List S51) = [x] from rfl, h2, if_neg (by simp), if_neg (by simp), insF, if_neg (by omega)]; simp
    · obtain ⟨k', h1, h2⟩ := ih k (i + 1) (acc ++ [x]) true (by omega) (by omega) (by simp; omega) (by simp)
      refine ⟨k', by omega, ?_⟩
      rw [if_pos rfl, if_pos (by omega), if_pos (by omega), show ([⟨x.f0, x.f1⟩] : List S51) = [x] from rfl, h2, if_pos rfl]; simp
theorem refgive_is {l : List S51} {P p n : Int} (hf : fitsR l = true) (hl : l.length ≤ 100) (hP : i64 P ∧ P ≤ 1073741824) (hp : i64 p) (hn : i64 n) (k : Nat) (hk : 10 * l.length + 100 < k) :
    steadingref05_Give.f k l P p n = if giveOk l P p n = true then some (refGiveF l p n, true) else some ([], false) := by
  have hp' := hp
  have hn' := hn
  obtain ⟨hp1, hp2⟩ := hp
  obtain ⟨hn1, hn2⟩ := hn
  obtain ⟨⟨hP1, hP2⟩, hP3⟩ := hP
  obtain ⟨k, rfl⟩ : ∃ m, k = m + 1 := ⟨k - 1, by omega⟩
  have bad : ∀ (h : giveOk l P p n ≠ true), (if giveOk l P p n = true then some (refGiveF l p n, true) else some ([], false)) = some (([] : List S51), false) := fun h => if_neg h
  unfold steadingref05_Give.f
  by_cases c1 : p < 0
  · rw [if_pos c1, bad (by intro h; simp only [giveOk, Bool.and_eq_true, decide_eq_true_eq] at h; omega)]; simp only [steadingref05_Give.j0]; rfl
  rw [if_neg c1]
  by_cases c2 : n < 1
  · rw [if_pos c2, bad (by intro h; simp only [giveOk, Bool.and_eq_true, decide_eq_true_eq] at h; omega)]; simp only [steadingref05_Give.j0]; rfl
  rw [if_neg c2]
  by_cases c3 : p > P
  · rw [if_pos c3, bad (by intro h; simp only [giveOk, Bool.and_eq_true, decide_eq_true_eq] at h; omega)]; simp only [steadingref05_Give.j0]; rfl
  rw [if_neg c3]
  have e1 : wrap64 (P - p) = P - p := by unfold wrap64; omega
  rw [e1]
  by_cases c4 : n > P - p
  · rw [if_pos c4, bad (by intro h; simp only [giveOk, Bool.and_eq_true, decide_eq_true_eq] at h; omega)]; simp only [steadingref05_Give.j0]; rfl
  rw [if_neg c4, refhas_is hf hp' hn' (k + 1) (by omega)]
  simp only [Option.bind_some, steadingref05_Give.j0]
  by_cases c5 : l.any (fun x => hasB x p n) = true
  · rw [if_pos c5, bad (by intro h; simp only [giveOk, Bool.and_eq_true, decide_eq_true_eq, Bool.not_eq_true'] at h; rw [c5] at h; simp at h)]
  · have hok : giveOk l P p n = true := by
      simp only [giveOk, Bool.and_eq_true, decide_eq_true_eq, Bool.not_eq_true']
      exact ⟨by omega, by omega, by omega, by omega, by simpa using c5⟩
    rw [if_neg c5, if_pos hok]
    obtain ⟨k', h1, h2⟩ := refgive_l0 l p n (by omega) l.length k 0 [] false (by omega) (by omega) (by simp) (fun _ => by simp)
    rw [Int.natCast_zero] at h2
    rw [h2, if_neg (by simp), List.nil_append, List.drop_zero]
    have hil := ins_len l p n
    have hmem : ∀ x ∈ insF l p n, 0 ≤ x.f0 ∧ x.f0 ≤ 1099511627776 ∧ 0 ≤ x.f1 ∧ x.f1 ≤ 1099511627776 := by
      intro x hx
      have key : ∀ (m : List S51), x ∈ insF m p n → x = ⟨p, n⟩ ∨ x ∈ m := by
        intro m
        induction m with
        | nil => intro h; exact .inl (by simpa [insF] using h)
        | cons y t ih =>
          intro h
          unfold insF at h
          split at h
          · rcases List.mem_cons.1 h with h | h
            · exact .inl h
            · exact .inr h
          · rcases List.mem_cons.1 h with h | h
            · exact .inr (h ▸ List.mem_cons_self)
            · rcases ih h with h | h
              · exact .inl h
              · exact .inr (List.mem_cons_of_mem _ h)
      rcases key l hx with rfl | h
      · show 0 ≤ p ∧ p ≤ _ ∧ 0 ≤ n ∧ n ≤ _; omega
      · exact fitsR_mem hf h
    obtain ⟨k', rfl⟩ : ∃ m, k' = m + 2 := ⟨k' - 2, by omega⟩
    unfold refGiveF
    cases hins : insF l p n with
    | nil => rw [hins] at hil; simp at hil
    | cons x t =>
      rw [hins] at hmem hil
      have hx := hmem x List.mem_cons_self
      simp only [steadingref05_Give.j2, steadingref05_Give.l1]
      have e5 : wrap64 (((([] : List S51).length : Nat) : Int) - 1) = -1 := by unfold wrap64; simp
      have e6 : rd_T51 (x :: t) 0 = x := rfl
      have e7 : wrap64 ((0 : Int) + 1) = ((1 : Nat) : Int) := by unfold wrap64; omega
      rw [e5, e6, e7, if_pos (by simp), if_neg (by omega), if_pos (by omega), if_pos (by simp)]
      have := refgive_l1 (x :: t) hmem (by omega) t.length k' 1 [] x (by simp; omega) (by simp at hil; omega) (by simp) ⟨hx.1, hx.2.1⟩ hx.2.2.1 (by omega)
      simpa using this
theorem refgive_same {l : List S51} {p n : Int} (hr : rightF l 1073741824 = true) (hg : giveOk l 1073741824 p n = true) : giveF l p n = refGiveF l p n := by
  obtain ⟨g1, g2, _⟩ := give_spec hr hg
  obtain ⟨h1, h2, h3, h4⟩ := (giveOk_iff hr).1 hg
  obtain ⟨w1, w2⟩ := ins_spec l 1073741824 (-1) p n hr (by omega) h1 h2 h3 h4
  unfold refGiveF
  cases hins : insF l p n with
  | nil => have := ins_len l p n; rw [hins] at this; simp at this
  | cons x t =>
    rw [hins] at w1 w2
    obtain ⟨⟨v1, v2, v3, v4⟩, v5⟩ := w1
    obtain ⟨m1, m2⟩ := mg_spec t 1073741824 (-1) x v5 (by omega) v2 v3 v4
    exact canon g1 m1 (fun q => by rw [g2 q, m2 q, w2 q])
end Go.Proofs.Ytdkedgdieoojgaa.Rn
