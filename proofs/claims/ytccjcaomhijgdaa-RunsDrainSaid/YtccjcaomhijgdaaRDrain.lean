/- What is drained page by page, in plain Lean. -/
import Derived.Test.YtccjcaomhijgdaaRCom
import Derived.Test.YtccjcaomhijgdaaRnx27
set_option linter.unusedVariables false
set_option linter.unusedSimpArgs false
namespace Go.Proofs.Ytccjcaomhijgdaa.Rn
open Go.RowKit Go.Proofs.YtccjcaomhijgdaaW.PrintWords Go.Proofs.YtccjcaomhijgdaaW.PrintLast Go.Proofs.YtccjcaomhijgdaaW.PrintMore

theorem drain_seen (l : List S36) (T : Int) (seen : List Int) (i8 p : Int) (m : List S36) (hs : seen.length ≤ 1000) (hp : ∀ z ∈ seen, z ≠ p) (d : Nat) : ∀ (k i : Nat), i + d = seen.length →
    steadinglaw05_RunsDrain.l1 (k + d + 1) l T seen i8 p m (i : Int) = steadinglaw05_RunsDrain.l0 k l T (seen ++ [p]) m (wrap64 (i8 + 1)) := by
  induction d with
  | zero =>
    intro k i hi
    simp only [steadinglaw05_RunsDrain.l1]
    rw [if_neg (by omega), if_pos (by omega)]
  | succ d ih =>
    intro k i hi
    rw [show k + (d + 1) + 1 = (k + d + 1) + 1 from by omega]
    simp only [steadinglaw05_RunsDrain.l1]
    have hil : i < seen.length := by omega
    have hr : rd seen (i : Int) = seen[i] := by unfold rd; rw [Int.toNat_natCast, List.getD_eq_getElem?_getD, List.getElem?_eq_getElem hil]; rfl
    rw [if_pos (by omega), if_pos (by omega), hr, if_neg (hp _ (List.getElem_mem hil)), wr_succ (by omega)]
    exact ih k (i + 1) (by omega)
set_option maxRecDepth 20000 in
theorem drain_loop (l : List S36) (T : Int) (hrl : rightF l 1073741824 = true) (hl : l.length ≤ 8) (hT : T ≤ 400) (d : Nat) : ∀ (k : Nat) (seen : List Int) (left : List S36), (seen.length : Int) + d = T → d * 500 + 500 < k →
    rightF left 1073741824 = true → left.length ≤ 8 → totalF left = d → (∀ q, Cov left q ↔ Cov l q ∧ q ∉ seen) →
    steadinglaw05_RunsDrain.l0 k l T seen left (seen.length : Int) = some true := by
  have hf := fits_small hrl (by omega)
  induction d with
  | zero =>
    intro k seen left hs hk hr hll ht hc
    obtain ⟨k, rfl⟩ : ∃ m, k = m + 1 := ⟨k - 1, by omega⟩
    simp only [steadinglaw05_RunsDrain.l0]
    obtain rfl := (total_nonneg hr).2 (by omega)
    rw [if_neg (by omega), take_is (fits_small hr (by simp)), show bestF [] 1 = -1 from rfl, if_pos (by omega)]
    simp
  | succ d ih =>
    intro k seen left hs hk hr hll ht hc
    obtain ⟨k, rfl⟩ : ∃ m, k = m + seen.length + 3 := ⟨k - seen.length - 3, by omega⟩
    have fl := fits_small hr (by omega)
    have hnb : ¬ bestF left 1 < 0 := by
      intro h
      rcases bestF_best left 1 with ⟨_, hB⟩ | ⟨_, h0, _⟩
      · cases left with
        | nil => simp [totalF] at ht; omega
        | cons x t =>
          have := hB 0 (Nat.le_refl _) (by simp) (by omega)
          have h1 := rf_cons.1 hr
          have e : rd_T36 (x :: t) ((0 : Nat) : Int) = x := rfl
          rw [e] at this; omega
      · omega
    have hlt := bestF_lt left 1
    obtain ⟨i, x, hi, hx, hg, hrd, hn1, hnx, hx0, hxP, hxm⟩ := best_run hr hnb
    obtain ⟨t1, t2, t3⟩ := take_spec_from left 1073741824 (-1) i x 1 hr hx (by omega) hnx
    have tl : (takeAt left i 1).length ≤ 8 := Nat.le_trans take_len hll
    have hxc : Cov left x.f0 := ⟨x, hxm, by omega, by omega⟩
    have hxn := (hc x.f0).1 hxc
    rw [show k + seen.length + 3 = (k + seen.length + 1) + 2 from by omega]
    simp only [steadinglaw05_RunsDrain.l0]
    rw [if_pos (by omega), best_at left 1 (by omega) _ (by omega), take_is fl, hi, if_neg (by omega), Int.toNat_natCast, hg]
    simp only [Option.bind_some]
    rw [if_pos trivial, if_neg (by omega), if_pos (by omega), if_pos (by omega), hrd, if_pos rfl, has_is hf (by unfold i64; omega) (by unfold i64; omega), (has_iff hrl hx0 (by omega)).2 ⟨x.f0, by omega, by omega, hxn.1⟩]
    simp only [Option.bind_some, steadinglaw05_RunsDrain.j2]
    rw [if_neg (by simp)]
    have hz := drain_seen l T seen (seen.length : Int) x.f0 (takeAt left i 1) (by omega) (fun z hz he => hxn.2 (he ▸ hz)) seen.length k 0 (by omega)
    rw [Int.natCast_zero] at hz
    rw [hz, wr_succ (by omega)]
    have hs' : ((seen ++ [x.f0]).length : Int) = ((seen.length + 1 : Nat) : Int) := by simp
    rw [← hs']
    refine ih k (seen ++ [x.f0]) _ (by rw [hs']; omega) (by omega) t1 tl (by rw [t3]; omega) (fun q => ?_)
    rw [t2 q, hc q]
    constructor
    · rintro ⟨⟨h1, h2⟩, h3⟩
      exact ⟨h1, fun h => by rcases List.mem_append.1 h with h | h; exact h2 h; simp at h; omega⟩
    · rintro ⟨h1, h2⟩
      exact ⟨⟨h1, fun h => h2 (List.mem_append_left _ h)⟩, fun h => h2 (List.mem_append_right _ (by simp; omega))⟩
theorem pure_drain (l : List S36) (hw : wfR l) : ∃ k, steadinglaw05_RunsDrain.f k l = some true := by
  obtain ⟨k, hk⟩ : ∃ k, k = 299998 := ⟨_, rfl⟩
  refine ⟨k + 2, ?_⟩
  unfold steadinglaw05_RunsDrain.f
  rw [awake_is _ (by omega)]
  simp only [Option.bind_some, if_true]
  rw [few_is l hw _ (by omega)]
  simp only [Option.bind_some]
  by_cases c : fewF l = true
  · have hr := few_right c
    have hf := few_fits c
    have hl := few_len c
    have ht := total_nonneg hr
    rw [if_pos c]
    by_cases c2 : (l.length : Int) > 8
    · rw [if_pos c2]; simp [steadinglaw05_RunsDrain.j0]
    rw [if_neg c2, total_is l hf _ (by omega)]
    simp only [Option.bind_some]
    by_cases c3 : totalF l > 400
    · simp only [steadinglaw05_RunsDrain.j0]; rw [if_pos (by simpa using c3)]
    simp only [steadinglaw05_RunsDrain.j0]
    rw [if_neg (by simpa using c3), total_is l hf _ (by omega)]
    simp only [Option.bind_some]
    rw [if_pos (by omega), if_pos (by simp; omega)]
    have := drain_loop l (totalF l) hr (by omega) (by omega) (totalF l).toNat (k + 1) [] l (by simp; omega) (by omega) hr (by omega) (by omega) (fun q => by simp)
    simpa using this
  · rw [if_neg c]
    simp [steadinglaw05_RunsDrain.j0]
end Go.Proofs.Ytccjcaomhijgdaa.Rn
