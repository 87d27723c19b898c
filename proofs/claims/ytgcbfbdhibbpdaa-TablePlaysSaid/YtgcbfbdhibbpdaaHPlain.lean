/- Plain lemmas: what handle.Pack, handle.Next and the document's functions give, as sums of the parts, on every number of 64 bits. -/
import Derived.Test.YtgcbfbdhibbpdaaTbx2
import Derived.Test.YtgcbfbdhibbpdaaTbx3
import Derived.Test.YtgcbfbdhibbpdaaTbx5
import Derived.Test.YtgcbfbdhibbpdaaTbx9
import Derived.OpenShut
import Derived.Laws.BitsAllLaws
namespace Go.Proofs.Ytgcbfbdhibbpdaa.Tb
open Go.RowKit Go.Proofs.YtgcbfbdhibbpdaaW.PrintWords Go.Proofs.YtgcbfbdhibbpdaaW.PrintLast Go.Proofs.YtgcbfbdhibbpdaaW.PrintMore

theorem within32 (n : Int) (h0 : -9223372036854775808 ≤ n) (h1 : n ≤ 9223372036854775807) :
    handle_within.f n 32 = some (decide (0 ≤ n ∧ n < 4294967296)) := by
  unfold handle_within.f shr
  by_cases c : n ≥ 0
  · rw [if_pos c, if_pos (by omega)]
    have e : n / 2 ^ min (32 : Int).toNat IntKind.i64.bits = n / 4294967296 := rfl
    rw [e]
    congr 1
    rw [Bool.eq_iff_iff]; simp; omega
  · rw [if_neg c]
    congr 1
    symm; simp; omega
theorem within30 (n : Int) (h0 : -9223372036854775808 ≤ n) (h1 : n ≤ 9223372036854775807) :
    handle_within.f n 30 = some (decide (0 ≤ n ∧ n < 1073741824)) := by
  unfold handle_within.f shr
  by_cases c : n ≥ 0
  · rw [if_pos c, if_pos (by omega)]
    have e : n / 2 ^ min (30 : Int).toNat IntKind.i64.bits = n / 1073741824 := rfl
    rw [e]
    congr 1
    rw [Bool.eq_iff_iff]; simp; omega
  · rw [if_neg c]
    congr 1
    symm; simp; omega

/-- The handle of three numbers; 0: there is none. -/
def pk (k s g : Int) : Int :=
  if 1 ≤ k ∧ k ≤ 3 ∧ 0 ≤ s ∧ s < 4294967296 ∧ 0 ≤ g ∧ g < 1073741824 then k * 4611686018427387904 + g * 4294967296 + s else 0

theorem or_join (x y : Int) (i : Nat) (hx0 : 0 ≤ x) (hx1 : x < 18446744073709551616) (hx : x % ((2 ^ i : Nat) : Int) = 0) (hi : i ≤ 62) (hy0 : 0 ≤ y) (hy1 : y < ((2 ^ i : Nat) : Int)) :
    Go.bits .or .u64 x y = x + y := by
  have e62 : (2 : Nat) ^ 62 = 4611686018427387904 := by decide
  have hp : (2 : Nat) ^ i ≤ 2 ^ 62 := Nat.pow_le_pow_right (by decide) hi
  obtain ⟨x, rfl⟩ := Int.eq_ofNat_of_zero_le hx0
  obtain ⟨y, rfl⟩ := Int.eq_ofNat_of_zero_le hy0
  have a1 : x % 2 ^ i = 0 := by exact_mod_cast hx
  have a2 : y < 2 ^ i := by exact_mod_cast hy1
  rw [u64_or_nat x y (by omega) (by omega), nat_join i x y a1 a2]
  omega

theorem wrap_u (x : Int) (h0 : 0 ≤ x) (h1 : x < 18446744073709551616) : IntKind.u64.wrap x = x := by rw [IntKind.wrap_u64]; omega

theorem pack_is (k s g : Int) (hk : -9223372036854775808 ≤ k ∧ k ≤ 9223372036854775807) (hs : -9223372036854775808 ≤ s ∧ s ≤ 9223372036854775807) (hg : -9223372036854775808 ≤ g ∧ g ≤ 9223372036854775807) :
    handle_Pack.f k s g = some (pk k s g) := by
  unfold handle_Pack.f pk
  by_cases c1 : k < 1
  · rw [if_pos c1, if_neg (by omega)]
  · rw [if_neg c1]
    by_cases c2 : k > 3
    · rw [if_pos c2, if_neg (by omega)]
    · rw [if_neg c2, within32 s hs.1 hs.2]
      simp only [Option.bind_some]
      by_cases c3 : 0 ≤ s ∧ s < 4294967296
      · rw [if_pos (by simpa using c3), within30 g hg.1 hg.2]
        simp only [Option.bind_some]
        by_cases c4 : 0 ≤ g ∧ g < 1073741824
        · rw [if_pos (by simpa using c4), if_pos (by omega)]
          rw [wrap_u k (by omega) (by omega), wrap_u g (by omega) (by omega), wrap_u s (by omega) (by omega), wrap_u _ (by omega) (by omega), wrap_u _ (by omega) (by omega)]
          rw [or_join (k * 4611686018427387904) (g * 4294967296) 62 (by omega) (by omega) (by omega) (by omega) (by omega) (by omega)]
          rw [or_join _ s 32 (by omega) (by omega) (by omega) (by omega) (by omega) (by omega)]
        · rw [if_neg (by simpa using c4), if_neg (by omega)]
      · rw [if_neg (by simpa using c3), if_neg (by omega)]

theorem refpack_is (k s g : Int) (hk : -9223372036854775808 ≤ k ∧ k ≤ 9223372036854775807) (hs : -9223372036854775808 ≤ s ∧ s ≤ 9223372036854775807) (hg : -9223372036854775808 ≤ g ∧ g ≤ 9223372036854775807) :
    steadingref12_Pack.f k s g = some (pk k s g) := by
  unfold steadingref12_Pack.f pk
  by_cases c : 1 ≤ k ∧ k ≤ 3 ∧ 0 ≤ s ∧ s < 4294967296 ∧ 0 ≤ g ∧ g < 1073741824
  · rw [if_neg (by omega), if_neg (by omega), if_neg (by omega), if_neg (by omega), if_neg (by omega), if_neg (by omega), if_pos c]
    rw [wrap_u k (by omega) (by omega), wrap_u g (by omega) (by omega), wrap_u s (by omega) (by omega)]
    rw [wrap_u (k * 4611686018427387904) (by omega) (by omega), wrap_u (g * 4294967296) (by omega) (by omega), wrap_u (k * 4611686018427387904 + g * 4294967296) (by omega) (by omega), wrap_u (k * 4611686018427387904 + g * 4294967296 + s) (by omega) (by omega)]
  · rw [if_neg c]
    by_cases c1 : k < 1
    · rw [if_pos c1]
    rw [if_neg c1]
    by_cases c2 : k > 3
    · rw [if_pos c2]
    rw [if_neg c2]
    by_cases c3 : s < 0
    · rw [if_pos c3]
    rw [if_neg c3]
    by_cases c4 : s > 4294967295
    · rw [if_pos c4]
    rw [if_neg c4]
    by_cases c5 : g < 0
    · rw [if_pos c5]
    rw [if_neg c5, if_pos (by omega)]

/-- The generation behind another one. -/
def nx (g : Int) : Int := if 0 ≤ g ∧ g < 1073741823 then g + 1 else 0

theorem next_is (g : Int) (hg : -9223372036854775808 ≤ g ∧ g ≤ 9223372036854775807) : handle_Next.f g = some (nx g) := by
  unfold handle_Next.f nx
  rw [within30 g hg.1 hg.2]
  simp only [Option.bind_some]
  by_cases c1 : 0 ≤ g ∧ g < 1073741824
  · rw [if_pos (by simpa using c1)]
    have e : wrap64 (g + 1) = g + 1 := by unfold wrap64; omega
    rw [e, within30 (g + 1) (by omega) (by omega)]
    simp only [Option.bind_some]
    by_cases c2 : g < 1073741823
    · rw [if_pos (by simp; omega), if_pos (by omega)]
    · rw [if_neg (by simp; omega), if_neg (by omega)]
  · rw [if_neg (by simpa using c1), if_neg (by omega)]

theorem refnext_is (g : Int) (hg : -9223372036854775808 ≤ g ∧ g ≤ 9223372036854775807) : steadingref12_Next.f g = some (nx g) := by
  unfold steadingref12_Next.f nx
  by_cases c1 : g < 0
  · rw [if_pos c1, if_neg (by omega)]
  rw [if_neg c1]
  by_cases c2 : g ≥ 1073741823
  · rw [if_pos c2, if_neg (by omega)]
  rw [if_neg c2, if_pos (by omega)]
  congr 1; unfold wrap64; omega
end Go.Proofs.Ytgcbfbdhibbpdaa.Tb
