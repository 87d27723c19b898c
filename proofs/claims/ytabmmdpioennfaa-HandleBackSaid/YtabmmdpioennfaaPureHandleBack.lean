/- The plain law behind HandleBack: what is packed is unpacked as it was, and what is unpacked packed; another generation, kind or slot gives another handle. -/
import Derived.Test.YtabmmdpioennfaaHdx11
import Derived.Test.YtabmmdpioennfaaHPlain
namespace Go.Proofs.Ytabmmdpioennfaa.Pure
open Go.RowKit Go.Proofs.Ytabmmdpioennfaa.Hd Go.Proofs.Ytabmmdpioennfaa.HPlain Go.Proofs.YtabmmdpioennfaaW.PrintWords Go.Proofs.YtabmmdpioennfaaW.PrintLast

theorem xor_one (a : Int) (h0 : 0 ≤ a) (h1 : a < 4294967296) : Go.bits .xor .u32 a 1 = if a % 2 = 0 then a + 1 else a - 1 := by
  rw [u32_xor a 1 h0 h1 (by omega) (by omega)]
  obtain ⟨a, rfl⟩ := Int.eq_ofNat_of_zero_le h0
  have e : (1 : Int).toNat = 1 := rfl
  simp only [Int.toNat_natCast, e]
  have hx : a ^^^ 1 = if a % 2 = 0 then a + 1 else a - 1 := by
    apply Nat.eq_of_testBit_eq
    intro i
    rw [Nat.testBit_xor]
    cases i with
    | zero =>
      rw [Nat.testBit_zero, Nat.testBit_zero, Nat.testBit_zero]
      rcases Nat.mod_two_eq_zero_or_one a with h | h
      · have h2 : (a + 1) % 2 = 1 := by omega
        rw [if_pos h, h, h2]; rfl
      · have h2 : (a - 1) % 2 = 0 := by omega
        rw [if_neg (by omega), h, h2]; rfl
    | succ i =>
      rw [Nat.testBit_succ, Nat.testBit_succ 1, Nat.testBit_succ]
      have e2 : (1 : Nat) / 2 = 0 := rfl
      rw [e2, Nat.zero_testBit, Bool.xor_false]
      congr 1
      split <;> omega
  rw [hx]
  split <;> split <;> omega

theorem j0_is (h : Int) (hh : 0 ≤ h ∧ h ≤ 18446744073709551615) : steadinglaw12_HandleBack.j0 1 h false = some true := by
  simp only [steadinglaw12_HandleBack.j0]
  rw [if_neg (by decide)]
  by_cases c : h < 4611686018427387904
  · rw [unpack_no h hh.1 c]
    simp only [Option.bind_some]
    have e : h / 4611686018427387904 = 0 := by omega
    rw [e]; rfl
  · rw [unpack_yes h (by omega) (by omega)]
    simp only [Option.bind_some]
    have e : (h / 4611686018427387904 != 0) = true := bne_iff_ne.2 (by omega)
    rw [e]
    simp only [beq_self_eq_true, if_true]
    rw [pack_is _ _ _ (by omega) (by omega) (by omega)]
    simp only [Option.bind_some]
    congr 1
    refine beq_iff_eq.2 ?_
    unfold pk; rw [if_pos (by omega)]; omega

theorem HandleBack : steadinglaw12_HandleBack.Pure := by
  intro k0 s g0 h wk ws wg wh
  have hk := bounds_u8 wk
  have hs := bounds_u32 ws
  have hg := bounds_u32 wg
  have hh := bounds_u64 wh
  refine ⟨1, ?_⟩
  unfold steadinglaw12_HandleBack.f
  rw [awake_is]; simp only [Option.bind_some, if_true]
  have e1 : wrap64 (wrap64 (Int.tmod k0 3) + 1) = k0 % 3 + 1 := by rw [Int.tmod_eq_emod_of_nonneg hk.1]; unfold wrap64; omega
  have e2 : wrap64 (Int.tmod g0 1073741824) = g0 % 1073741824 := by rw [Int.tmod_eq_emod_of_nonneg hg.1]; unfold wrap64; omega
  have e3 : wrap64 s = s := by unfold wrap64; omega
  obtain ⟨k, hkk⟩ : ∃ k, k = k0 % 3 + 1 := ⟨_, rfl⟩
  obtain ⟨g, hgg⟩ : ∃ g, g = g0 % 1073741824 := ⟨_, rfl⟩
  have bk : 1 ≤ k ∧ k ≤ 3 := by omega
  have bg : 0 ≤ g ∧ g < 1073741824 := by omega
  have bs : 0 ≤ s ∧ s < 4294967296 := by omega
  rw [e1, e2, e3, ← hkk, ← hgg]
  clear e1 e2 e3 hkk hgg wk ws wg wh hk hg
  rw [pack_is k s g (by omega) (by omega) (by omega)]
  simp only [Option.bind_some]
  rw [unpack_pk k s g bk bs bg]
  simp only [Option.bind_some, if_true]
  rw [next_is g (by omega)]
  simp only [Option.bind_some]
  have bn : 0 ≤ nx g ∧ nx g < 1073741824 := by unfold nx; split <;> omega
  have nn : nx g ≠ g := by unfold nx; split <;> omega
  rw [pack_is k s (nx g) (by omega) (by omega) (by omega)]
  simp only [Option.bind_some]
  have d1 : ¬ (pk k s g = pk k s (nx g)) := by unfold pk; rw [if_pos (by omega), if_pos (by omega)]; omega
  rw [if_neg d1]
  have e4 : wrap64 (Int.tmod k 3 + 1) = k % 3 + 1 := by rw [Int.tmod_eq_emod_of_nonneg (by omega)]; unfold wrap64; omega
  rw [e4, pack_is (k % 3 + 1) s g (by omega) (by omega) (by omega)]
  simp only [Option.bind_some]
  have d2 : ¬ (pk k s g = pk (k % 3 + 1) s g) := by unfold pk; rw [if_pos (by omega), if_pos (by omega)]; omega
  rw [if_neg d2, xor_one s bs.1 bs.2]
  obtain ⟨t, ht⟩ : ∃ t, t = if s % 2 = 0 then s + 1 else s - 1 := ⟨_, rfl⟩
  have bt : 0 ≤ t ∧ t < 4294967296 ∧ t ≠ s := by rw [ht]; split <;> omega
  rw [← ht]
  have e5 : wrap64 t = t := by unfold wrap64; omega
  rw [e5, pack_is k t g (by omega) (by omega) (by omega)]
  simp only [Option.bind_some]
  have d3 : (pk k s g == pk k t g) = false := by
    refine beq_eq_false_iff_ne.2 ?_
    unfold pk; rw [if_pos (by omega), if_pos (by omega)]; omega
  rw [d3]
  exact j0_is h hh

end Go.Proofs.Ytabmmdpioennfaa.Pure
