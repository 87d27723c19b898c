/- slices.DeleteFunc of one number of a row. -/
import Derived.Test.YtjnpbikalamchaaMTheory
import Derived.WalkSpells
set_option linter.unusedVariables false
set_option linter.unusedSimpArgs false
namespace Go.Proofs.Ytjnpbikalamchaa.Tr
open Go.RowKit Go.Maps Go.Proofs.YtjnpbikalamchaaW.PrintWords Go.Proofs.YtjnpbikalamchaaW.PrintLast Go.Proofs.YtjnpbikalamchaaW.PrintMore
attribute [local go_sem] max2_int min2_int
set_option maxHeartbeats 1000000 in
theorem drop1_calls {w : World} {Bx : Nat} {id : Int} (c : Int) (hb : w.cell? ⟨Bx, 0, none⟩ = some (.int .u64 id)) :
    Calls Try.prog 29 #[.int .u64 c, .pointer (some ⟨Bx, 0, none⟩)] w fun e w' => e = .returned (.bool (c == id)) ∧ w' = w := by
  go_enter Try.func29, Try.ntmps29
  go_wp2_with fail
  go_ret
  exact ⟨rfl, rfl⟩
set_option maxHeartbeats 2000000 in
theorem index_calls {w : World} {Bx : Nat} {id : Int} (hb : w.cell? ⟨Bx, 0, none⟩ = some (.int .u64 id)) {b cap i0 n : Nat} (f : Nat → Int) (hc : ∀ j, j < n → w.cell? ⟨b, j, none⟩ = some (.int .u64 (f j))) (hi : i0 < n) (hn : n ≤ 1000000) (hf : f i0 = id) (hne : ∀ j, j < i0 → f j ≠ id) :
    Calls Try.prog 33 #[.slice (some ⟨b, 0, none⟩) n cap, .func (.func 29) #[] #[.pointer (some ⟨Bx, 0, none⟩)]] w fun e w' => e = .returned (.int .i64 i0) ∧ w' = w := by
  go_enter Try.func33, Try.ntmps33
  go_wp2
  go_loopw [8] (fun i wr => ∃ k : Nat, k ≤ i0 ∧ i = .int .i64 k ∧ wr = w) (fun i _ => i0 - (intOf i).toNat)
  case atStart => exact ⟨0, Nat.zero_le _, rfl, rfl⟩
  case round =>
    obtain ⟨k, hk, rfl, rfl⟩ := hrel
    have hck := hc k (by omega)
    have h1 : 0 ≤ (k : Int) ∧ (k : Int) < (n : Int) := by omega
    have h2 : (k : Int) < (n : Int) := by omega
    by_cases hlt : k < i0
    · have he : (f k == id) = false := by simpa using hne k hlt
      go_wp2_with (go_at_call 29; refine (drop1_calls (f k) hb).mono ?_; rw [he]; rintro e w1 ⟨rfl, rfl⟩)
      go_roundw
      case rel => exact ⟨k + 1, by omega, by simp, trivial⟩
      case measure => simp [intOf]; omega
    · obtain rfl : k = i0 := by omega
      have he : (f k == id) = true := by simpa using hf
      clear hf
      go_wp2_with (go_at_call 29; refine (drop1_calls (f k) hb).mono ?_; rw [he]; rintro e w1 ⟨rfl, rfl⟩)
      go_ret
      exact ⟨rfl, rfl⟩
end Go.Proofs.Ytjnpbikalamchaa.Tr
