-- Written by wip/mprint.py (a program of this session's, over the kit's print). Lean checks it.
import Derived.Test.YtccjcaomhijgdaaRnx0
import Derived.Test.YtccjcaomhijgdaaRnx13
namespace Go.Proofs.Ytccjcaomhijgdaa.Rn
open Go.RowKit Go.Proofs.YtccjcaomhijgdaaW.PrintWords Go.Proofs.YtccjcaomhijgdaaW.PrintLast Go.Proofs.YtccjcaomhijgdaaW.PrintMore
attribute [local go_sem] max2_int min2_int max_two min_two max_three min_three max_four min_four   -- for this text's walks alone
set_option linter.unusedVariables false
set_option linter.unusedSimpArgs false

/-! ### steadinglaw05_few: function 14 -/
def steadinglaw05_few.f (k : Nat) (l0 : List (S36)) : Option (Bool) := if (l0.length : Int) ≤ 60 then ((steadingref05_Right.f k l0 1073741824).bind fun t145 => (some t145)) else (some false)
theorem steadinglaw05_few.mono : ∀ a0 k, LeO (steadinglaw05_few.f k a0) (steadinglaw05_few.f (k + 1) a0) := by
  intro a0 k
  unfold steadinglaw05_few.f
  repeat' first
      | (with_reducible exact steadingref05_Right.mono _ _ _)
      | (with_reducible exact LeO.refl _)
      | (with_reducible exact LeO.none _)
      | (with_reducible refine LeO.ite ?_ ?_)
      | (with_reducible refine LeO.bind ?_ (fun _ => ?_))
      | exact steadingref05_Right.mono _ _ _
      | exact LeO.none _
      | refine LeO.ite ?_ ?_
      | refine LeO.bind ?_ (fun _ => ?_)
set_option maxHeartbeats 8000000 in
set_option maxRecDepth 100000 in
theorem steadinglaw05_few.calls (k : Nat) (A0 : Option Addr) (c0 : Nat) (l0 : List (S36)) (r : Bool) (w : World) (hr0 : Kd.C k36 w A0 l0.length l0) (hc0 : l0.length ≤ c0) (h : steadinglaw05_few.f k l0 = some r) :
    Calls Try.prog 14 #[.slice A0 l0.length c0] w fun e w' => e = .returned (.bool r) ∧ Below w.heap.size w w' := by
  have HR0 := Aside0.mk hr0
  have HC0 := Aside0.mk hc0
  clear hr0 hc0
  have HB := Aside0.mk (Below.refl w.heap.size w)
  have H : (if (l0.length : Int) ≤ 60 then ((steadingref05_Right.f k l0 1073741824).bind fun t145 => (some t145)) else (some false)) = some r := h
  clear h
  by_cases c2 : (l0.length : Int) ≤ 60
  · rw [if_pos c2] at H
    have c2b0 : decide ((l0.length : Int) ≤ 60) = true := decide_eq_true c2
    have c2b1 : decide (l0.length ≤ 60) = true := decide_eq_true (by omega)
    clear c2
    replace H := Option.bind_eq_some_iff.mp H
    obtain ⟨t145, A30, H⟩ := H
    replace H : (some t145) = some r := H
    have A3 := Aside0.mk A30
    clear A30
    obtain rfl := Option.some.inj H
    go_enter Try.func14, Try.ntmps14
    go_wp2_with (first | (go_at_call 13; (with_reducible refine (steadingref05_Right.calls k _ _ l0 1073741824 t145 _ ?side1 ?side2 A3.out).mono ?_); (case side1 => repeat (first | exact HR0.out | (with_reducible refine Kd.C_alloc ?_ _) | (with_reducible refine Kd.C_drewN ?_ _) | (with_reducible refine Kd.C_drew ?_))); (case side2 => exact HC0.out); rintro e w4 ⟨rfl, hb⟩; have n0_ := Aside0.mk (below_step (by repeat (first | (with_reducible first | exact HB.out | apply below_alloc | apply pw_below_drewN | apply below_drew1) | exact HB.out)) hb); clear HB; have HB := n0_; clear n0_; (try clear hb); (try clear hb2); (try clear hk); (try clear hi)))
    go_ret
    exact ⟨by first | rfl | (simp [errW_none, errW_some] <;> rfl) | (simp [*, errW_none, errW_some] <;> rfl), by repeat (first | (with_reducible first | exact HB.out | apply below_alloc | apply pw_below_drewN | apply below_drew1) | exact HB.out)⟩
  · rw [if_neg c2] at H
    have c2b0 : decide ((l0.length : Int) ≤ 60) = false := decide_eq_false c2
    have c2b1 : decide (l0.length ≤ 60) = false := decide_eq_false (by omega)
    clear c2
    obtain rfl := Option.some.inj H
    go_enter Try.func14, Try.ntmps14
    go_wp2
    go_ret
    exact ⟨by first | rfl | (simp [errW_none, errW_some] <;> rfl) | (simp [*, errW_none, errW_some] <;> rfl), by repeat (first | (with_reducible first | exact HB.out | apply below_alloc | apply pw_below_drewN | apply below_drew1) | exact HB.out)⟩

end Go.Proofs.Ytccjcaomhijgdaa.Rn
