/- HandleApart, walked by hand: every test is decided ahead of the walk, one case for each order of the kinds, generations and slots. -/
import Derived.Test.YtabmmdpioennfaaHdx5
import Derived.Test.YtabmmdpioennfaaHPlain
set_option linter.unusedVariables false
set_option linter.unusedSimpArgs false
namespace Go.Proofs.Ytabmmdpioennfaa.Hd
open Go.RowKit Go.Proofs.YtabmmdpioennfaaW.PrintWords Go.Proofs.YtabmmdpioennfaaW.PrintLast Go.Proofs.Ytabmmdpioennfaa.HPlain
/-- How two numbers stand to each other, as the walk asks it. -/
structure Ord3 (a b : Int) (lt eq : Bool) : Prop where
  l : decide (a < b) = lt
  e : (a == b) = eq
theorem Ord3.less {a b : Int} (h : a < b) : Ord3 a b true false := ⟨decide_eq_true h, beq_eq_false_iff_ne.2 (by omega)⟩
theorem Ord3.same {a b : Int} (h : a = b) : Ord3 a b false true := ⟨decide_eq_false (by omega), beq_iff_eq.2 h⟩
theorem Ord3.more {a b : Int} (h : b < a) : Ord3 a b false false := ⟨decide_eq_false (by omega), beq_eq_false_iff_ne.2 (by omega)⟩
theorem Ord3.cases (a b : Int) : ∃ lt eq, Ord3 a b lt eq ∧ (lt = true ∧ eq = false ∨ lt = false ∧ eq = true ∨ lt = false ∧ eq = false) := by
  rcases Int.lt_trichotomy a b with h | h | h
  · exact ⟨_, _, .less h, by simp⟩
  · exact ⟨_, _, .same h, by simp⟩
  · exact ⟨_, _, .more h, by simp⟩
def lessB (l1 e1 l2 e2 l3 : Bool) : Bool := l1 || (e1 && (l2 || (e2 && l3)))
set_option maxHeartbeats 4000000 in
theorem apart_walk (a0 a1 a2 a3 a4 a5 p q : Int) (l1 e1 l2 e2 l3 e3 : Bool) (w : World)
    (hp : Aside0 (handle_Pack.f (wrap64 ((wrap64 (Int.tmod a0 3)) + 1)) (wrap64 (a2)) (wrap64 (Int.tmod a4 1073741824)) = some p))
    (hq : Aside0 (handle_Pack.f (wrap64 ((wrap64 (Int.tmod a1 3)) + 1)) (wrap64 (a3)) (wrap64 (Int.tmod a5 1073741824)) = some q))
    (h1 : Ord3 (wrap64 ((wrap64 (Int.tmod a0 3)) + 1)) (wrap64 ((wrap64 (Int.tmod a1 3)) + 1)) l1 e1)
    (h2 : Ord3 (wrap64 (Int.tmod a4 1073741824)) (wrap64 (Int.tmod a5 1073741824)) l2 e2)
    (h3 : Ord3 a2 a3 l3 e3)
    (k1 : l1 = true ∧ e1 = false ∨ l1 = false ∧ e1 = true ∨ l1 = false ∧ e1 = false)
    (k2 : l2 = true ∧ e2 = false ∨ l2 = false ∧ e2 = true ∨ l2 = false ∧ e2 = false)
    (k3 : l3 = true ∧ e3 = false ∨ l3 = false ∧ e3 = true ∨ l3 = false ∧ e3 = false)
    (hpq : Ord3 p q (lessB l1 e1 l2 e2 l3) (e1 && (e3 && e2))) (hz : (p != 0) = true) :
    Calls Try.prog 7 #[.int .u8 a0, .int .u8 a1, .int .u32 a2, .int .u32 a3, .int .u32 a4, .int .u32 a5] w fun e w' => e = .returned (.bool true) ∧ Below w.heap.size w w' := by
  obtain ⟨f1, g1⟩ := h1
  obtain ⟨f2, g2⟩ := h2
  obtain ⟨f3, g3⟩ := h3
  obtain ⟨f4, g4⟩ := hpq
  have ha := Aside0.mk awake_is
  rcases k1 with ⟨rfl, rfl⟩ | ⟨rfl, rfl⟩ | ⟨rfl, rfl⟩
  all_goals rcases k2 with ⟨rfl, rfl⟩ | ⟨rfl, rfl⟩ | ⟨rfl, rfl⟩
  all_goals rcases k3 with ⟨rfl, rfl⟩ | ⟨rfl, rfl⟩ | ⟨rfl, rfl⟩
  all_goals (replace f4 := f4.trans (show lessB _ _ _ _ _ = _ from rfl); simp only [lessB, Bool.true_or, Bool.false_or, Bool.false_and, Bool.true_and, Bool.and_false, Bool.and_true] at f4 g4)
  all_goals (go_enter Try.func7, Try.ntmps7)
  all_goals go_wp2_with fail
  all_goals (refine (steadinglaw12_awake.calls true _ ha.out).mono ?_; rintro e w1 ⟨rfl, hb⟩)
  all_goals go_wp2_with fail
  all_goals (refine (handle_Pack.calls _ _ _ p _ hp.out).mono ?_; rintro e w2 ⟨rfl, ⟨n2, rfl⟩⟩)
  all_goals go_wp2_with fail
  all_goals (refine (handle_Pack.calls _ _ _ q _ hq.out).mono ?_; rintro e w2 ⟨rfl, ⟨n2, rfl⟩⟩)
  all_goals go_wp2_with fail
  all_goals go_ret
  all_goals exact ⟨rfl, pw_below_drewN hb _⟩
/-- HandleApart at every input. -/
theorem apart_said (a0 a1 a2 a3 a4 a5 : Int) (w : World) (w0 : (Lit.int .u8 a0).wf = true) (w1 : (Lit.int .u8 a1).wf = true) (w2 : (Lit.int .u32 a2).wf = true) (w3 : (Lit.int .u32 a3).wf = true) (w4 : (Lit.int .u32 a4).wf = true) (w5 : (Lit.int .u32 a5).wf = true) :
    Calls Try.prog 7 #[.int .u8 a0, .int .u8 a1, .int .u32 a2, .int .u32 a3, .int .u32 a4, .int .u32 a5] w fun e w' => e = .returned (.bool true) ∧ Below w.heap.size w w' := by
  have b0 := bounds_u8 w0
  have b1 := bounds_u8 w1
  have b2 := bounds_u32 w2
  have b3 := bounds_u32 w3
  have b4 := bounds_u32 w4
  have b5 := bounds_u32 w5
  obtain ⟨K, hK⟩ : ∃ K, K = wrap64 ((wrap64 (Int.tmod a0 3)) + 1) := ⟨_, rfl⟩
  obtain ⟨J, hJ⟩ : ∃ J, J = wrap64 ((wrap64 (Int.tmod a1 3)) + 1) := ⟨_, rfl⟩
  obtain ⟨X, hX⟩ : ∃ X, X = wrap64 (Int.tmod a4 1073741824) := ⟨_, rfl⟩
  obtain ⟨Y, hY⟩ : ∃ Y, Y = wrap64 (Int.tmod a5 1073741824) := ⟨_, rfl⟩
  have bK : 1 ≤ K ∧ K ≤ 3 := by rw [hK, Int.tmod_eq_emod_of_nonneg b0.1]; unfold wrap64; omega
  have bJ : 1 ≤ J ∧ J ≤ 3 := by rw [hJ, Int.tmod_eq_emod_of_nonneg b1.1]; unfold wrap64; omega
  have bX : 0 ≤ X ∧ X < 1073741824 := by rw [hX, Int.tmod_eq_emod_of_nonneg b4.1]; unfold wrap64; omega
  have bY : 0 ≤ Y ∧ Y < 1073741824 := by rw [hY, Int.tmod_eq_emod_of_nonneg b5.1]; unfold wrap64; omega
  have e2 : wrap64 a2 = a2 := by unfold wrap64; omega
  have e3 : wrap64 a3 = a3 := by unfold wrap64; omega
  have hp : handle_Pack.f K (wrap64 a2) X = some (pk K a2 X) := by rw [e2]; exact pack_is K a2 X (by omega) (by omega) (by omega)
  have hq : handle_Pack.f J (wrap64 a3) Y = some (pk J a3 Y) := by rw [e3]; exact pack_is J a3 Y (by omega) (by omega) (by omega)
  have ep : pk K a2 X = K * 4611686018427387904 + X * 4294967296 + a2 := by unfold pk; rw [if_pos (by omega)]
  have eq : pk J a3 Y = J * 4611686018427387904 + Y * 4294967296 + a3 := by unfold pk; rw [if_pos (by omega)]
  have hz : (pk K a2 X != 0) = true := bne_iff_ne.2 (by omega)
  obtain ⟨l1, e1, o1, k1⟩ := Ord3.cases K J
  obtain ⟨l2, e2', o2, k2⟩ := Ord3.cases X Y
  obtain ⟨l3, e3', o3, k3⟩ := Ord3.cases a2 a3
  have key : Ord3 (pk K a2 X) (pk J a3 Y) (lessB l1 e1 l2 e2' l3) (e1 && (e3' && e2')) := by
    obtain ⟨f1, g1⟩ := o1
    obtain ⟨f2, g2⟩ := o2
    obtain ⟨f3, g3⟩ := o3
    rcases k1 with ⟨rfl, rfl⟩ | ⟨rfl, rfl⟩ | ⟨rfl, rfl⟩ <;> rcases k2 with ⟨rfl, rfl⟩ | ⟨rfl, rfl⟩ | ⟨rfl, rfl⟩ <;> rcases k3 with ⟨rfl, rfl⟩ | ⟨rfl, rfl⟩ | ⟨rfl, rfl⟩ <;>
      simp only [decide_eq_true_eq, decide_eq_false_iff_not, beq_iff_eq, beq_eq_false_iff_ne] at f1 g1 f2 g2 f3 g3 <;>
      first
        | exact Ord3.less (by omega)
        | exact Ord3.same (by omega)
        | exact Ord3.more (by omega)
  subst hK hJ hX hY
  exact apart_walk a0 a1 a2 a3 a4 a5 _ _ l1 e1 l2 e2' l3 e3' w ⟨hp⟩ ⟨hq⟩ o1 o2 o3 k1 k2 k3 key hz
end Go.Proofs.Ytabmmdpioennfaa.Hd
