/- The plain law behind HandleUnpack: what any number of 64 bits tells as a handle is the document's. -/
import Derived.Test.YtabmmdpioennfaaHdx10
import Derived.Test.YtabmmdpioennfaaHPlain
namespace Go.Proofs.Ytabmmdpioennfaa.Pure
open Go.RowKit Go.Proofs.Ytabmmdpioennfaa.Hd Go.Proofs.Ytabmmdpioennfaa.HPlain Go.Proofs.YtabmmdpioennfaaW.PrintWords Go.Proofs.YtabmmdpioennfaaW.PrintLast

theorem HandleUnpack : steadinglaw12_HandleUnpack.Pure := by
  intro h wh
  have hh := bounds_u64 wh
  unfold steadinglaw12_HandleUnpack.f
  rw [awake_is]; simp only [Option.bind_some, if_true]
  by_cases c : h < 4611686018427387904
  · rw [unpack_no h hh.1 c]
    unfold steadingref12_Unpack.f
    rw [if_pos c]; simp
  · rw [unpack_yes h (by omega) (by omega)]
    unfold steadingref12_Unpack.f
    rw [if_neg c]
    have t1 : Int.tdiv h 4611686018427387904 = h / 4611686018427387904 := Int.tdiv_eq_ediv_of_nonneg hh.1
    have t2 : Int.tdiv h 4294967296 = h / 4294967296 := Int.tdiv_eq_ediv_of_nonneg hh.1
    have t3 : Int.tmod h 4294967296 = h % 4294967296 := Int.tmod_eq_emod_of_nonneg hh.1
    rw [t1, t2, t3, wrap_u _ (by omega) (by omega), wrap_u _ (by omega) (by omega), Int.tmod_eq_emod_of_nonneg (by omega)]
    have e1 : wrap64 (h / 4611686018427387904) = h / 4611686018427387904 := by unfold wrap64; omega
    have e2 : wrap64 (h % 4294967296) = h % 4294967296 := by unfold wrap64; omega
    have e3 : wrap64 (h / 4294967296 % 1073741824) = h / 4294967296 % 1073741824 := by unfold wrap64; omega
    rw [e1, e2, e3]; simp

end Go.Proofs.Ytabmmdpioennfaa.Pure
