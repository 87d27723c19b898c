/- The contract of handle.Unpack (its closure taken by a contract of its own), at every number below 2^64, in the form in which the print tells contracts. -/
import Derived.Test.YtgcbfbdhibbpdaaProg
import Derived.WalkKit
import Derived.WalkSpells
import Derived.WalkLawsBesides
import Derived.Deep.QuietTactic
import Derived.BigQuiet
import Derived.Laws.BitsAllLaws
namespace Go.Proofs.Ytgcbfbdhibbpdaa.Tb
open Go.RowKit
theorem bel_drewN {B : Nat} {a w : World} (h : Below B a w) (n : Nat) : Below B a (w.drewN n) := ⟨h.os, h.tape, h.output, h.size, h.block⟩
theorem ret_i64 {a b : Int} (h : a = b) : Ending.returned (.int .i64 a) = .returned (.int .i64 b) := by rw [h]
theorem and_mask (x : Int) (n m : Nat) (hm : m = 2 ^ n - 1) (hn : n ≤ 62) (h0 : 0 ≤ x) (h1 : x < 18446744073709551616) : bits .and .u64 x (m : Int) = x % ((2 ^ n : Nat) : Int) := by
  obtain ⟨x, rfl⟩ := Int.eq_ofNat_of_zero_le h0
  have hp : (2 : Nat) ^ n ≤ 2 ^ 62 := Nat.pow_le_pow_right (by decide) hn
  have hp1 : 0 < (2 : Nat) ^ n := Nat.pow_pos (by decide)
  have e62 : (2 : Nat) ^ 62 = 4611686018427387904 := by decide
  rw [u64_and_nat x m (by omega) (by omega), hm, Nat.and_two_pow_sub_one_eq_mod]
  omega
set_option maxHeartbeats 400000 in
theorem cut62 (h : Int) (b : Nat) (w : World) (h0 : 0 ≤ h) (h1 : h < 18446744073709551616) (hc : w.cell? ⟨b, 0, none⟩ = some (.int .u64 h)) :
    Calls Try.prog 38 #[.int .i64 62, .int .i64 2, .pointer (some ⟨b, 0, none⟩)] w fun e w' => e = .returned (.int .i64 (h / 4611686018427387904)) ∧ ∃ n, w' = w.drewN n := by
  go_enter Try.func38, Try.ntmps38
  go_wp2
  go_quiet (fail)
  go_wp2
  go_ret
  refine ⟨ret_i64 ?_, _, rfl⟩
  have := and_mask (h / 4611686018427387904) 2 3 rfl (by omega) (by omega) (by omega)
  show wrap64 (bits .and .u64 (h / 4611686018427387904) ((3 : Nat) : Int)) = _
  rw [this]; unfold wrap64; omega
set_option maxHeartbeats 400000 in
theorem cut32 (h : Int) (b : Nat) (w : World) (h0 : 0 ≤ h) (h1 : h < 18446744073709551616) (hc : w.cell? ⟨b, 0, none⟩ = some (.int .u64 h)) :
    Calls Try.prog 38 #[.int .i64 32, .int .i64 30, .pointer (some ⟨b, 0, none⟩)] w fun e w' => e = .returned (.int .i64 (h / 4294967296 % 1073741824)) ∧ ∃ n, w' = w.drewN n := by
  go_enter Try.func38, Try.ntmps38
  go_wp2
  go_quiet (fail)
  go_wp2
  go_ret
  refine ⟨ret_i64 ?_, _, rfl⟩
  have := and_mask (h / 4294967296) 30 1073741823 rfl (by omega) (by omega) (by omega)
  show wrap64 (bits .and .u64 (h / 4294967296) ((1073741823 : Nat) : Int)) = _
  rw [this]; unfold wrap64; omega
set_option maxHeartbeats 400000 in
theorem unpack_no (h : Int) (w : World) (h0 : 0 ≤ h) (h1 : h < 4611686018427387904) :
    Calls Try.prog 12 #[.int .u64 h] w fun e w' => e = .returned (.tuple #[.int .i64 0, .int .i64 0, .int .i64 0, .bool false]) ∧ Below w.heap.size w w' := by
  have hz : (h / 4611686018427387904 == 0) = true := by simp; omega
  go_enter Try.func12, Try.ntmps12
  go_wp2_with (go_at_call 38; refine (cut62 h _ _ h0 (by omega) (by simp)).mono ?_; rintro e w' ⟨rfl, ⟨n, rfl⟩⟩)
  exact bodyPost_ret (v := .tuple #[.int .i64 0, .int .i64 0, .int .i64 0, .bool false]) (by simp [results, Try.results12, go_sem]) rfl ⟨rfl, bel_drewN ((Below.refl _ _).alloc (Nat.le_refl _) _) _⟩
theorem after_cut {w w1 : World} {h : Int} {t : TypeId} (hd : ∃ n, w1 = (w.alloc (.cells #[.int .u64 h] t)).drewN n) :
    Below w.heap.size w w1 ∧ w1.cell? ⟨w.heap.size, 0, none⟩ = some (.int .u64 h) := by
  obtain ⟨n, rfl⟩ := hd
  exact ⟨bel_drewN ((Below.refl _ _).alloc (Nat.le_refl _) _) _, by simp⟩
set_option maxHeartbeats 400000 in
theorem unpack_yes (h : Int) (w : World) (h0 : 4611686018427387904 ≤ h) (h1 : h < 18446744073709551616) :
    Calls Try.prog 12 #[.int .u64 h] w fun e w' => e = .returned (.tuple #[.int .i64 (h / 4611686018427387904), .int .i64 (h % 4294967296), .int .i64 (h / 4294967296 % 1073741824), .bool true]) ∧ Below w.heap.size w w' := by
  have hz : (h / 4611686018427387904 == 0) = false := by simp; omega
  go_enter Try.func12, Try.ntmps12
  go_wp2_with (go_at_call 38; refine (cut62 h _ _ (by omega) h1 (by simp)).mono ?_; rintro e w1 ⟨rfl, hd⟩; obtain ⟨hb1, hc1⟩ := after_cut hd; clear hd)
  go_quiet ((go_at_call 38; exact Calls.quiet_of (cut32 h _ _ (by omega) h1 (by simpa using hc1))))
  go_wp2
  refine bodyPost_ret (v := .tuple #[.int .i64 (h / 4611686018427387904), .int .i64 (h % 4294967296), .int .i64 (h / 4294967296 % 1073741824), .bool true]) ?_ rfl ⟨rfl, bel_drewN hb1 _⟩
  simp [results, Try.results12, go_sem]
/-- handle.Unpack, as the print would tell it: a number of 64 bits. -/
def handle_Unpack.f (a0 : Int) : Option (Int × Int × Int × Bool) :=
  if 0 ≤ a0 then (if a0 < 4611686018427387904 then some (0, 0, 0, false) else (if a0 < 18446744073709551616 then some (a0 / 4611686018427387904, a0 % 4294967296, a0 / 4294967296 % 1073741824, true) else none)) else none
theorem handle_Unpack.calls (a0 : Int) (r1 : Int) (r2 : Int) (r3 : Int) (r4 : Bool) (w : World) (h : handle_Unpack.f a0 = some (r1, r2, r3, r4)) :
    Calls Try.prog 12 #[.int .u64 a0] w fun e w' => e = .returned (.tuple #[.int .i64 r1, .int .i64 r2, .int .i64 r3, .bool r4]) ∧ Below w.heap.size w w' := by
  unfold handle_Unpack.f at h
  by_cases c0 : 0 ≤ a0
  · rw [if_pos c0] at h
    by_cases c1 : a0 < 4611686018427387904
    · rw [if_pos c1] at h
      simp only [Option.some.injEq, Prod.mk.injEq] at h
      obtain ⟨rfl, rfl, rfl, rfl⟩ := h
      exact unpack_no a0 w c0 c1
    · rw [if_neg c1] at h
      by_cases c2 : a0 < 18446744073709551616
      · rw [if_pos c2] at h
        simp only [Option.some.injEq, Prod.mk.injEq] at h
        obtain ⟨rfl, rfl, rfl, rfl⟩ := h
        exact unpack_yes a0 w (by omega) c2
      · rw [if_neg c2] at h; exact absurd h (by simp)
  · rw [if_neg c0] at h; exact absurd h (by simp)
end Go.Proofs.Ytgcbfbdhibbpdaa.Tb
