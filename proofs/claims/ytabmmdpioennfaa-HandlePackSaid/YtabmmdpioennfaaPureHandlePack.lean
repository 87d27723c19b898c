/- The plain law behind HandlePack: the handle of any three numbers, and the generation behind any, are the document's. -/
import Derived.Test.YtabmmdpioennfaaHdx8
import Derived.Test.YtabmmdpioennfaaHPlain
namespace Go.Proofs.Ytabmmdpioennfaa.Pure
open Go.RowKit Go.Proofs.Ytabmmdpioennfaa.Hd Go.Proofs.Ytabmmdpioennfaa.HPlain Go.Proofs.YtabmmdpioennfaaW.PrintWords Go.Proofs.YtabmmdpioennfaaW.PrintLast

theorem HandlePack : steadinglaw12_HandlePack.Pure := by
  intro k s g wk ws wg
  have hk := bounds_i64 wk
  have hs := bounds_i64 ws
  have hg := bounds_i64 wg
  unfold steadinglaw12_HandlePack.f
  rw [awake_is]; simp only [Option.bind_some, if_true]
  rw [pack_is k s g hk hs hg, refpack_is k s g hk hs hg, next_is g hg, refnext_is g hg]
  simp

end Go.Proofs.Ytabmmdpioennfaa.Pure
