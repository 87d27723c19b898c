/- Which slot a handle tells: none. -/
import Derived.Test.YtgcbfbdhibbpdaaMTab
set_option linter.unusedVariables false
set_option linter.unusedSimpArgs false
namespace Go.Proofs.Ytgcbfbdhibbpdaa.Tb
open Go.RowKit Go.Proofs.YtgcbfbdhibbpdaaW.PrintWords Go.Proofs.YtgcbfbdhibbpdaaW.PrintLast Go.Proofs.YtgcbfbdhibbpdaaW.PrintMore
attribute [local go_sem] max2_int min2_int
set_option maxHeartbeats 4000000 in
theorem live_none_a {w : World} {g : Nat} {kd : Int} {vs vf : Value} (hd : Int) (h0 : 0 ≤ hd) (hu : hd < 4611686018427387904) (hb : w.heap[g]? = some (.cells #[.int .i64 kd, vs, vf] 74 (0, 0))) :
    Calls Try.prog 36 #[.pointer (some ⟨g, 0, none⟩), .int .u64 hd] w fun e w' => e = .returned (.pointer none) ∧ Below w.heap.size w w' := by
  go_enter Try.func36, Try.ntmps36
  go_wp2_with fail
  refine (unpack_no hd w h0 hu).mono ?_
  rintro e w1 ⟨rfl, hb1⟩
  have HB1 := Aside0.mk hb1
  clear hb1
  go_wp2
  go_quiet (fail)
  go_wp2
  go_ret
  exact ⟨rfl, pw_below_drewN HB1.out _⟩
set_option maxHeartbeats 4000000 in
theorem live_none_nil (hd : Int) (h0 : 0 ≤ hd) (hu : hd < 18446744073709551616) (w : World) :
    Calls Try.prog 36 #[.pointer none, .int .u64 hd] w fun e w' => e = .returned (.pointer none) ∧ Below w.heap.size w w' := by
  obtain ⟨a, b, c, d, hc⟩ : ∃ a b c d, handle_Unpack.f hd = some (a, b, c, d) := by
    unfold handle_Unpack.f
    rw [if_pos h0]
    by_cases h1 : hd < 4611686018427387904
    · rw [if_pos h1]; exact ⟨_, _, _, _, rfl⟩
    · rw [if_neg h1, if_pos hu]; exact ⟨_, _, _, _, rfl⟩
  go_enter Try.func36, Try.ntmps36
  go_wp2_with fail
  refine (handle_Unpack.calls hd a b c d w hc).mono ?_
  rintro e w1 ⟨rfl, hb1⟩
  have HB1 := Aside0.mk hb1
  clear hb1
  go_wp2
  go_quiet (fail)
  go_wp2
  go_ret
  exact ⟨rfl, pw_below_drewN HB1.out _⟩
set_option maxHeartbeats 4000000 in
theorem live_none_b {w : World} {g : Nat} {kd : Int} {sp : Option Addr} {n c : Nat} {vf : Value} (hd : Int) (h0 : 4611686018427387904 ≤ hd) (hu : hd < 18446744073709551616) (hb : w.heap[g]? = some (.cells #[.int .i64 kd, .slice sp n c, vf] 74 (0, 0))) (hlen : n ≤ 9223372036854775807) (hge : (n : Int) ≤ hd % 4294967296) :
    Calls Try.prog 36 #[.pointer (some ⟨g, 0, none⟩), .int .u64 hd] w fun e w' => e = .returned (.pointer none) ∧ Below w.heap.size w w' := by
  have g1 := blk3_1 hb
  have hdec : decide (hd % 4294967296 < (n : Int)) = false := by simp; omega
  have hdec2 : decide ((n : Int) ≤ hd % 4294967296) = true := by simp; omega
  clear hb
  obtain ⟨i, hi⟩ : ∃ i, i = hd % 4294967296 := ⟨_, rfl⟩
  rw [← hi] at hge hdec hdec2
  have HI := Aside0.mk hi
  clear hi
  obtain ⟨q, hq⟩ : ∃ q, q = hd / 4611686018427387904 := ⟨_, rfl⟩
  obtain ⟨r, hr⟩ : ∃ r, r = hd / 4294967296 % 1073741824 := ⟨_, rfl⟩
  have HQ := Aside0.mk hq
  have HR := Aside0.mk hr
  clear hq hr
  go_enter Try.func36, Try.ntmps36
  go_wp2_with fail
  refine (unpack_yes hd w h0 hu).mono ?_
  rw [← HI.out, ← HQ.out, ← HR.out]
  rintro e w1 ⟨rfl, hb1⟩
  have HB1 := Aside0.mk hb1
  replace g1 := pw_cell_below hb1 g1
  clear hb1
  go_wp2
  go_quiet (fail)
  go_wp2
  go_ret
  exact ⟨rfl, pw_below_drewN HB1.out _⟩
set_option maxHeartbeats 4000000 in
theorem live_none_c {w : World} {g : Nat} {kd : Int} {sb n c : Nat} {vf : Value} (hd : Int) (h0 : 4611686018427387904 ≤ hd) (hu : hd < 18446744073709551616) (hb : w.heap[g]? = some (.cells #[.int .i64 kd, .slice (some ⟨sb, 0, none⟩) n c, vf] 74 (0, 0))) (hlen : n ≤ 9223372036854775807) (i : Nat) (hi : hd % 4294967296 = i) (hlt : i < n)
    (c1 : w.cell? ⟨sb, i * 3 + 1, none⟩ = some (.bool false)) :
    Calls Try.prog 36 #[.pointer (some ⟨g, 0, none⟩), .int .u64 hd] w fun e w' => e = .returned (.pointer none) ∧ Below w.heap.size w w' := by
  have g1 := blk3_1 hb
  have hnle : ¬ n ≤ i := by omega
  have hdnle : decide (n ≤ i) = false := by simp; omega
  have hin1 : 0 ≤ (i : Int) ∧ (i : Int) < (n : Int) := by omega
  have hin2 : (i : Int) < (n : Int) := by omega
  clear hb
  have HI := Aside0.mk hi
  clear hi
  obtain ⟨q, hq⟩ : ∃ q, q = hd / 4611686018427387904 := ⟨_, rfl⟩
  obtain ⟨r, hr⟩ : ∃ r, r = hd / 4294967296 % 1073741824 := ⟨_, rfl⟩
  have HQ := Aside0.mk hq
  have HR := Aside0.mk hr
  clear hq hr
  go_enter Try.func36, Try.ntmps36
  go_wp2_with fail
  refine (unpack_yes hd w h0 hu).mono ?_
  rw [HI.out, ← HQ.out, ← HR.out]
  rintro e w1 ⟨rfl, hb1⟩
  have HB1 := Aside0.mk hb1
  replace g1 := pw_cell_below hb1 g1
  replace c1 := pw_cell_below hb1 c1
  clear hb1
  go_wp2
  go_quiet (fail)
  go_wp2
  go_ret
  exact ⟨rfl, pw_below_drewN HB1.out _⟩
set_option maxHeartbeats 4000000 in
theorem live_none_d {w : World} {g : Nat} {kd : Int} {sb n c : Nat} {vf : Value} (hd : Int) (h0 : 4611686018427387904 ≤ hd) (hu : hd < 18446744073709551616) (hb : w.heap[g]? = some (.cells #[.int .i64 kd, .slice (some ⟨sb, 0, none⟩) n c, vf] 74 (0, 0))) (hlen : n ≤ 9223372036854775807) (i : Nat) (hi : hd % 4294967296 = i) (hlt : i < n) (gn : Int)
    (c1 : w.cell? ⟨sb, i * 3 + 1, none⟩ = some (.bool true)) (c2 : w.cell? ⟨sb, i * 3 + 2, none⟩ = some (.int .i64 gn)) (hne : ¬ (hd / 4611686018427387904 = kd ∧ hd / 4294967296 % 1073741824 = gn)) :
    Calls Try.prog 36 #[.pointer (some ⟨g, 0, none⟩), .int .u64 hd] w fun e w' => e = .returned (.pointer none) ∧ Below w.heap.size w w' := by
  have g0 := blk3_0 hb
  have g1 := blk3_1 hb
  have hnle : ¬ n ≤ i := by omega
  have hdnle : decide (n ≤ i) = false := by simp; omega
  have hin1 : 0 ≤ (i : Int) ∧ (i : Int) < (n : Int) := by omega
  have hin2 : (i : Int) < (n : Int) := by omega
  have hnm := neq_yes hne
  clear hb hne
  have HI := Aside0.mk hi
  clear hi
  obtain ⟨q, hq⟩ : ∃ q, q = hd / 4611686018427387904 := ⟨_, rfl⟩
  obtain ⟨r, hr⟩ : ∃ r, r = hd / 4294967296 % 1073741824 := ⟨_, rfl⟩
  rw [← hq, ← hr] at hnm
  have HQ := Aside0.mk hq
  have HR := Aside0.mk hr
  clear hq hr
  go_enter Try.func36, Try.ntmps36
  go_wp2_with fail
  refine (unpack_yes hd w h0 hu).mono ?_
  rw [HI.out, ← HQ.out, ← HR.out]
  rintro e w1 ⟨rfl, hb1⟩
  have HB1 := Aside0.mk hb1
  replace g0 := pw_cell_below hb1 g0
  replace g1 := pw_cell_below hb1 g1
  replace c1 := pw_cell_below hb1 c1
  replace c2 := pw_cell_below hb1 c2
  clear hb1
  go_wp2
  go_quiet (fail)
  go_wp2
  go_ret
  exact ⟨rfl, pw_below_drewN HB1.out _⟩
end Go.Proofs.Ytgcbfbdhibbpdaa.Tb
