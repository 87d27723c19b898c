-- Written by wip/mprint.py (a program of this session's, over the kit's print). Lean checks it.
import Derived.Test.YtgcbfbdhibbpdaaTbx0
import Derived.Test.YtgcbfbdhibbpdaaTbx1
namespace Go.Proofs.Ytgcbfbdhibbpdaa.Tb
open Go.RowKit Go.Proofs.YtgcbfbdhibbpdaaW.PrintWords Go.Proofs.YtgcbfbdhibbpdaaW.PrintLast Go.Proofs.YtgcbfbdhibbpdaaW.PrintMore
attribute [local go_sem] max2_int min2_int max_two min_two max_three min_three max_four min_four   -- for this text's walks alone
set_option linter.unusedVariables false
set_option linter.unusedSimpArgs false

/-! ### handle_Pack: function 20 -/
def handle_Pack.f (a0 : Int) (a1 : Int) (a2 : Int) : Option (Int) := if a0 < 1 then (some 0) else (if a0 > 3 then (some 0) else ((handle_within.f a1 32).bind fun t101 => (if t101 = true then ((handle_within.f a2 30).bind fun t102 => (if t102 = true then (some (Go.bits .or .u64 (Go.bits .or .u64 (IntKind.u64.wrap ((IntKind.u64.wrap (a0)) * 4611686018427387904)) (IntKind.u64.wrap ((IntKind.u64.wrap (a2)) * 4294967296))) (IntKind.u64.wrap (a1)))) else (some 0))) else (some 0))))
set_option maxHeartbeats 8000000 in
set_option maxRecDepth 100000 in
theorem handle_Pack.calls (a0 : Int) (a1 : Int) (a2 : Int) (r : Int) (w : World) (h : handle_Pack.f a0 a1 a2 = some r) :
    Calls Try.prog 20 #[.int .i64 a0, .int .i64 a1, .int .i64 a2] w fun e w' => e = .returned (.int .u64 r) ∧ Drawn0 w w' := by
  have H : (if a0 < 1 then (some 0) else (if a0 > 3 then (some 0) else ((handle_within.f a1 32).bind fun t101 => (if t101 = true then ((handle_within.f a2 30).bind fun t102 => (if t102 = true then (some (Go.bits .or .u64 (Go.bits .or .u64 (IntKind.u64.wrap ((IntKind.u64.wrap (a0)) * 4611686018427387904)) (IntKind.u64.wrap ((IntKind.u64.wrap (a2)) * 4294967296))) (IntKind.u64.wrap (a1)))) else (some 0))) else (some 0))))) = some r := h
  clear h
  by_cases c4 : a0 < 1
  · rw [if_pos c4] at H
    have c4b0 : decide (a0 < 1) = true := decide_eq_true c4
    clear c4
    obtain rfl := Option.some.inj H
    go_enter Try.func20, Try.ntmps20
    go_wp2
    go_ret
    exact ⟨by first | rfl | (simp; done) | (simp [*]; done), by repeat (first | exact Drawn0.refl _ | apply Drawn0.step)⟩
  · rw [if_neg c4] at H
    have c4b0 : decide (a0 < 1) = false := decide_eq_false c4
    clear c4
    by_cases c5 : a0 > 3
    · rw [if_pos c5] at H
      have c5b0 : decide (3 < a0) = true := decide_eq_true c5
      clear c5
      obtain rfl := Option.some.inj H
      go_enter Try.func20, Try.ntmps20
      go_wp2
      go_ret
      exact ⟨by first | rfl | (simp; done) | (simp [*]; done), by repeat (first | exact Drawn0.refl _ | apply Drawn0.step)⟩
    · rw [if_neg c5] at H
      have c5b0 : decide (3 < a0) = false := decide_eq_false c5
      clear c5
      replace H := Option.bind_eq_some_iff.mp H
      obtain ⟨t101, A60, H⟩ := H
      replace H : (if t101 = true then ((handle_within.f a2 30).bind fun t102 => (if t102 = true then (some (Go.bits .or .u64 (Go.bits .or .u64 (IntKind.u64.wrap ((IntKind.u64.wrap (a0)) * 4611686018427387904)) (IntKind.u64.wrap ((IntKind.u64.wrap (a2)) * 4294967296))) (IntKind.u64.wrap (a1)))) else (some 0))) else (some 0)) = some r := H
      have A6 := Aside0.mk A60
      clear A60
      by_cases c7 : t101 = true
      · subst c7
        have H1 : ((handle_within.f a2 30).bind fun t102 => (if t102 = true then (some (Go.bits .or .u64 (Go.bits .or .u64 (IntKind.u64.wrap ((IntKind.u64.wrap (a0)) * 4611686018427387904)) (IntKind.u64.wrap ((IntKind.u64.wrap (a2)) * 4294967296))) (IntKind.u64.wrap (a1)))) else (some 0))) = some r := by rw [if_pos rfl] at H; exact H
        clear H
        have H := H1
        clear H1
        replace H := Option.bind_eq_some_iff.mp H
        obtain ⟨t102, A80, H⟩ := H
        replace H : (if t102 = true then (some (Go.bits .or .u64 (Go.bits .or .u64 (IntKind.u64.wrap ((IntKind.u64.wrap (a0)) * 4611686018427387904)) (IntKind.u64.wrap ((IntKind.u64.wrap (a2)) * 4294967296))) (IntKind.u64.wrap (a1)))) else (some 0)) = some r := H
        have A8 := Aside0.mk A80
        clear A80
        by_cases c9 : t102 = true
        · subst c9
          have H1 : (some (Go.bits .or .u64 (Go.bits .or .u64 (IntKind.u64.wrap ((IntKind.u64.wrap (a0)) * 4611686018427387904)) (IntKind.u64.wrap ((IntKind.u64.wrap (a2)) * 4294967296))) (IntKind.u64.wrap (a1)))) = some r := by rw [if_pos rfl] at H; exact H
          clear H
          have H := H1
          clear H1
          obtain rfl := Option.some.inj H
          go_enter Try.func20, Try.ntmps20
          go_wp2_with (first | (go_at_call 41; (with_reducible refine (handle_within.calls a1 32 true _ A6.out).mono ?_); rintro e w' ⟨rfl, ⟨nd, rfl⟩⟩) | (go_at_call 41; (with_reducible refine (handle_within.calls a2 30 true _ A8.out).mono ?_); rintro e w' ⟨rfl, ⟨nd, rfl⟩⟩))
          go_ret
          exact ⟨by first | rfl | (simp; done) | (simp [*]; done), by repeat (first | exact Drawn0.refl _ | apply Drawn0.step)⟩
        · replace c9 := Bool.eq_false_iff.mpr c9
          subst c9
          have H1 : (some 0) = some r := by rw [if_neg (show ¬ (false = true) by decide)] at H; exact H
          clear H
          have H := H1
          clear H1
          obtain rfl := Option.some.inj H
          go_enter Try.func20, Try.ntmps20
          go_wp2_with (first | (go_at_call 41; (with_reducible refine (handle_within.calls a1 32 true _ A6.out).mono ?_); rintro e w' ⟨rfl, ⟨nd, rfl⟩⟩) | (go_at_call 41; (with_reducible refine (handle_within.calls a2 30 false _ A8.out).mono ?_); rintro e w' ⟨rfl, ⟨nd, rfl⟩⟩))
          go_ret
          exact ⟨by first | rfl | (simp; done) | (simp [*]; done), by repeat (first | exact Drawn0.refl _ | apply Drawn0.step)⟩
      · replace c7 := Bool.eq_false_iff.mpr c7
        subst c7
        have H1 : (some 0) = some r := by rw [if_neg (show ¬ (false = true) by decide)] at H; exact H
        clear H
        have H := H1
        clear H1
        obtain rfl := Option.some.inj H
        go_enter Try.func20, Try.ntmps20
        go_wp2_with (first | (go_at_call 41; (with_reducible refine (handle_within.calls a1 32 false _ A6.out).mono ?_); rintro e w' ⟨rfl, ⟨nd, rfl⟩⟩))
        go_ret
        exact ⟨by first | rfl | (simp; done) | (simp [*]; done), by repeat (first | exact Drawn0.refl _ | apply Drawn0.step)⟩

end Go.Proofs.Ytgcbfbdhibbpdaa.Tb
