/- The plain law behind HandleNext: generations come one behind the other, and behind the last one the first. -/
import Derived.Test.YtabmmdpioennfaaHdx12
import Derived.Test.YtabmmdpioennfaaHPlain
namespace Go.Proofs.Ytabmmdpioennfaa.Pure
open Go.RowKit Go.Proofs.Ytabmmdpioennfaa.Hd Go.Proofs.Ytabmmdpioennfaa.HPlain Go.Proofs.YtabmmdpioennfaaW.PrintWords Go.Proofs.YtabmmdpioennfaaW.PrintLast

theorem HandleNext : steadinglaw12_HandleNext.Pure := by
  intro a wa
  have ha := bounds_u32 wa
  unfold steadinglaw12_HandleNext.f
  rw [awake_is]; simp only [Option.bind_some, if_true]
  obtain ⟨g, hg⟩ : ∃ g, g = a % 1073741824 := ⟨_, rfl⟩
  have e : wrap64 (Int.tmod a 1073741824) = g := by rw [Int.tmod_eq_emod_of_nonneg ha.1, hg]; unfold wrap64; omega
  have hb : 0 ≤ g ∧ g < 1073741824 := by omega
  rw [e, next_is g (by omega)]
  simp only [Option.bind_some]
  have hn : 0 ≤ nx g ∧ nx g < 1073741824 := by unfold nx; split <;> omega
  rw [pack_is 1 0 (nx g) (by omega) (by omega) (by omega)]
  simp only [Option.bind_some]
  have hp : pk 1 0 (nx g) ≠ 0 := by unfold pk; rw [if_pos (by omega)]; omega
  rw [if_neg hp]
  clear hp
  have e1 : wrap64 (g + 1) = g + 1 := by unfold wrap64; omega
  rw [e1]
  by_cases c : g < 1073741823
  · have en : nx g = g + 1 := by unfold nx; rw [if_pos (by omega)]
    have a0 : decide (g < 1073741823) = true := decide_eq_true c
    have a3 : ((g + 1) == (g + 1)) = true := beq_self_eq_true _
    rw [en, a3, a0]
    have a1 : (g + 1 == 0) = false := beq_eq_false_iff_ne.2 (by omega)
    have a2 : (g == 1073741823) = false := beq_eq_false_iff_ne.2 (by omega)
    rw [a1, a2]; rfl
  · have en : nx g = 0 := by unfold nx; rw [if_neg (by omega)]
    have a1 : ((0 : Int) == g + 1) = false := beq_eq_false_iff_ne.2 (by omega)
    have a2 : (g == 1073741823) = true := beq_iff_eq.2 (by omega)
    have a3 : decide (g < 1073741823) = false := decide_eq_false c
    rw [en, a1, a2, a3]; rfl

end Go.Proofs.Ytabmmdpioennfaa.Pure
