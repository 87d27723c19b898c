-- Written by wip/mprint.py (a program of this session's, over the kit's print). Lean checks it.
import Derived.Test.YtabmmdpioennfaaHdx0
namespace Go.Proofs.Ytabmmdpioennfaa.Hd
open Go.RowKit Go.Proofs.YtabmmdpioennfaaW.PrintWords Go.Proofs.YtabmmdpioennfaaW.PrintLast Go.Proofs.YtabmmdpioennfaaW.PrintMore
attribute [local go_sem] max2_int min2_int max_two min_two max_three min_three max_four min_four   -- for this text's walks alone
set_option linter.unusedVariables false
set_option linter.unusedSimpArgs false

/-! ### steadingref12_Unpack: function 19 -/
def steadingref12_Unpack.f (a0 : Int) : Option (Int × Int × Int × Bool) := if a0 < 4611686018427387904 then (some (0, 0, 0, false)) else (some (wrap64 (IntKind.u64.wrap (Int.tdiv a0 4611686018427387904)), wrap64 (Int.tmod a0 4294967296), wrap64 (Int.tmod (IntKind.u64.wrap (Int.tdiv a0 4294967296)) 1073741824), true))
set_option maxHeartbeats 8000000 in
set_option maxRecDepth 100000 in
theorem steadingref12_Unpack.calls (a0 : Int) (r1 : Int) (r2 : Int) (r3 : Int) (r4 : Bool) (w : World) (h : steadingref12_Unpack.f a0 = some (r1, r2, r3, r4)) :
    Calls Try.prog 19 #[.int .u64 a0] w fun e w' => e = .returned (.tuple #[.int .i64 r1, .int .i64 r2, .int .i64 r3, .bool r4]) ∧ Drawn0 w w' := by
  have H : (if a0 < 4611686018427387904 then (some (0, 0, 0, false)) else (some (wrap64 (IntKind.u64.wrap (Int.tdiv a0 4611686018427387904)), wrap64 (Int.tmod a0 4294967296), wrap64 (Int.tmod (IntKind.u64.wrap (Int.tdiv a0 4294967296)) 1073741824), true))) = some (r1, r2, r3, r4) := h
  clear h
  by_cases c2 : a0 < 4611686018427387904
  · rw [if_pos c2] at H
    have c2b0 : decide (a0 < 4611686018427387904) = true := decide_eq_true c2
    clear c2
    simp only [Option.some.injEq, Prod.mk.injEq] at H
    obtain ⟨rfl, rfl, rfl, rfl⟩ := H
    go_enter Try.func19, Try.ntmps19
    go_wp2
    refine bodyPost_ret (results_list (rs := [.tmp 2, .tmp 3, .tmp 4, .tmp 5]) rfl (by simp) (.tmp (.tmp (.tmp (.tmp .nil))))) rfl ?_
    exact ⟨by first | rfl | (simp; done) | (simp [*]; done), by repeat (first | exact Drawn0.refl _ | apply Drawn0.step)⟩
  · rw [if_neg c2] at H
    have c2b0 : decide (a0 < 4611686018427387904) = false := decide_eq_false c2
    clear c2
    simp only [Option.some.injEq, Prod.mk.injEq] at H
    obtain ⟨rfl, rfl, rfl, rfl⟩ := H
    go_enter Try.func19, Try.ntmps19
    go_wp2
    refine bodyPost_ret (results_list (rs := [.tmp 2, .tmp 3, .tmp 4, .tmp 5]) rfl (by simp) (.tmp (.tmp (.tmp (.tmp .nil))))) rfl ?_
    exact ⟨by first | rfl | (simp; done) | (simp [*]; done), by repeat (first | exact Drawn0.refl _ | apply Drawn0.step)⟩

end Go.Proofs.Ytabmmdpioennfaa.Hd
