/-
  No cell of these rows narrows 'for every input' (looked for: loops, veiled, ifaces, maps, wideKeys, modest, calm, conditions, laid).
  DERIVED. THE GIVEN ROWS OF THIS SEAT. 10 by the template 'for every input the law returns true; each argument reads behind the call as it read before'; 0 by the template 'total and deterministic' (their statements: YtabmmdpioennfaaTotals.lean).
  GIVEN WITH THE SEED: the statements are not yours to turn. If you find one false, say at which input.
  Laid BY PROGRAM, IN A SANDBOX (cutbox-rows.mjs): the forced cells as the released guide's own fill.sh prints them over the translation fcbbaee7597c9cc6… (all of the seat's roots in one cut). By AI agents, Wed Nov 11 2026. No macro, syntax, notation, axiom, sorry.
-/
import Derived.Test.YtabmmdpioennfaaChecked
import GoSem.Claim
import GoSem.ClaimJoined
import GoSem.ClaimMapViews
import Derived.JoinedTies
import Derived.KernelRfl
namespace Go.Proofs.Ytabmmdpioennfaa
/- THE CELL 'sum', in the pinned program and in every row, IS THE sha256 OF THE DUMP (.gsa) THAT YtabmmdpioennfaaProg.lean LOADS. Nothing in Lean hashes anything: it is a label: what it is worth is what the hold of that sum in a sandbox is worth. -/
noncomputable def Try.pinned : Pinned := { name := "ytabmmdpioennfaa", sum := "fcbbaee7597c9cc652f92a74d7f92807a3bb46d7ff7989693f2659020507aa38", checked := Try.checked }
namespace Rows
def none {H : Type} : Left H := { results := [], args := [] }

/-- 'steadinglaw12.HandlePack': WHATEVER THE INPUT: true; the input reads as it did. -/
def handlePackSpec : ChangeSpec := { name := "handlePack", fn := fun _ => fun
  | [d1, d2, d3] => { results := [.lit (.bool true)], args := [d1, d2, d3] }
  | _ => none }
def handlePackRow : OpenClaim := { program := "ytabmmdpioennfaa", sum := "fcbbaee7597c9cc652f92a74d7f92807a3bb46d7ff7989693f2659020507aa38", func := "steading/steadinglaw12.HandlePack", spec := "handlePack", unfollowed := true, recurses := true, apart := false }
def HandlePackSaid : Prop := handlePackRow.holds Try.pinned (OpenSpec.ofChange handlePackSpec)

/-- ITS FALSE NEIGHBOUR: 'it returns false'. Refute it at one input. -/
def handlePackWrong : ChangeSpec := { name := "handlePack", fn := fun _ => fun
  | [d1, d2, d3] => { results := [.lit (.bool false)], args := [d1, d2, d3] }
  | _ => none }
def HandlePackWrongFalsely : Prop := handlePackRow.holds Try.pinned (OpenSpec.ofChange handlePackWrong)

/-- 'steadinglaw12.HandleUnpack': WHATEVER THE INPUT: true; the input reads as it did. -/
def handleUnpackSpec : ChangeSpec := { name := "handleUnpack", fn := fun _ => fun
  | [d] => { results := [.lit (.bool true)], args := [d] }
  | _ => none }
def handleUnpackRow : OpenClaim := { program := "ytabmmdpioennfaa", sum := "fcbbaee7597c9cc652f92a74d7f92807a3bb46d7ff7989693f2659020507aa38", func := "steading/steadinglaw12.HandleUnpack", spec := "handleUnpack", unfollowed := true, recurses := true, apart := false }
def HandleUnpackSaid : Prop := handleUnpackRow.holds Try.pinned (OpenSpec.ofChange handleUnpackSpec)

/-- ITS FALSE NEIGHBOUR: 'it returns false'. Refute it at one input. -/
def handleUnpackWrong : ChangeSpec := { name := "handleUnpack", fn := fun _ => fun
  | [d] => { results := [.lit (.bool false)], args := [d] }
  | _ => none }
def HandleUnpackWrongFalsely : Prop := handleUnpackRow.holds Try.pinned (OpenSpec.ofChange handleUnpackWrong)

/-- 'steadinglaw12.HandleBack': WHATEVER THE INPUT: true; the input reads as it did. -/
def handleBackSpec : ChangeSpec := { name := "handleBack", fn := fun _ => fun
  | [d1, d2, d3, d4] => { results := [.lit (.bool true)], args := [d1, d2, d3, d4] }
  | _ => none }
def handleBackRow : OpenClaim := { program := "ytabmmdpioennfaa", sum := "fcbbaee7597c9cc652f92a74d7f92807a3bb46d7ff7989693f2659020507aa38", func := "steading/steadinglaw12.HandleBack", spec := "handleBack", unfollowed := true, recurses := true, apart := false }
def HandleBackSaid : Prop := handleBackRow.holds Try.pinned (OpenSpec.ofChange handleBackSpec)

/-- ITS FALSE NEIGHBOUR: 'it returns false'. Refute it at one input. -/
def handleBackWrong : ChangeSpec := { name := "handleBack", fn := fun _ => fun
  | [d1, d2, d3, d4] => { results := [.lit (.bool false)], args := [d1, d2, d3, d4] }
  | _ => none }
def HandleBackWrongFalsely : Prop := handleBackRow.holds Try.pinned (OpenSpec.ofChange handleBackWrong)

/-- 'steadinglaw12.HandleNext': WHATEVER THE INPUT: true; the input reads as it did. -/
def handleNextSpec : ChangeSpec := { name := "handleNext", fn := fun _ => fun
  | [d] => { results := [.lit (.bool true)], args := [d] }
  | _ => none }
def handleNextRow : OpenClaim := { program := "ytabmmdpioennfaa", sum := "fcbbaee7597c9cc652f92a74d7f92807a3bb46d7ff7989693f2659020507aa38", func := "steading/steadinglaw12.HandleNext", spec := "handleNext", unfollowed := true, recurses := true, apart := false }
def HandleNextSaid : Prop := handleNextRow.holds Try.pinned (OpenSpec.ofChange handleNextSpec)

/-- ITS FALSE NEIGHBOUR: 'it returns false'. Refute it at one input. -/
def handleNextWrong : ChangeSpec := { name := "handleNext", fn := fun _ => fun
  | [d] => { results := [.lit (.bool false)], args := [d] }
  | _ => none }
def HandleNextWrongFalsely : Prop := handleNextRow.holds Try.pinned (OpenSpec.ofChange handleNextWrong)

/-- 'steadinglaw12.HandleApart': WHATEVER THE INPUT: true; the input reads as it did. -/
def handleApartSpec : ChangeSpec := { name := "handleApart", fn := fun _ => fun
  | [d1, d2, d3, d4, d5, d6] => { results := [.lit (.bool true)], args := [d1, d2, d3, d4, d5, d6] }
  | _ => none }
def handleApartRow : OpenClaim := { program := "ytabmmdpioennfaa", sum := "fcbbaee7597c9cc652f92a74d7f92807a3bb46d7ff7989693f2659020507aa38", func := "steading/steadinglaw12.HandleApart", spec := "handleApart", unfollowed := true, recurses := true, apart := false }
def HandleApartSaid : Prop := handleApartRow.holds Try.pinned (OpenSpec.ofChange handleApartSpec)

/-- ITS FALSE NEIGHBOUR: 'it returns false'. Refute it at one input. -/
def handleApartWrong : ChangeSpec := { name := "handleApart", fn := fun _ => fun
  | [d1, d2, d3, d4, d5, d6] => { results := [.lit (.bool false)], args := [d1, d2, d3, d4, d5, d6] }
  | _ => none }
def HandleApartWrongFalsely : Prop := handleApartRow.holds Try.pinned (OpenSpec.ofChange handleApartWrong)

/-- 'steadinglaw21.ResultPlain': WHATEVER THE INPUT: true; the input reads as it did. -/
def resultPlainSpec : ChangeSpec := { name := "resultPlain", fn := fun _ => fun
  | [d] => { results := [.lit (.bool true)], args := [d] }
  | _ => none }
def resultPlainRow : OpenClaim := { program := "ytabmmdpioennfaa", sum := "fcbbaee7597c9cc652f92a74d7f92807a3bb46d7ff7989693f2659020507aa38", func := "steading/steadinglaw21.ResultPlain", spec := "resultPlain", unfollowed := true, recurses := true, apart := false }
def ResultPlainSaid : Prop := resultPlainRow.holds Try.pinned (OpenSpec.ofChange resultPlainSpec)

/-- ITS FALSE NEIGHBOUR: 'it returns false'. Refute it at one input. -/
def resultPlainWrong : ChangeSpec := { name := "resultPlain", fn := fun _ => fun
  | [d] => { results := [.lit (.bool false)], args := [d] }
  | _ => none }
def ResultPlainWrongFalsely : Prop := resultPlainRow.holds Try.pinned (OpenSpec.ofChange resultPlainWrong)

/-- 'steadinglaw21.ResultSame': WHATEVER THE INPUT: true; the input reads as it did. -/
def resultSameSpec : ChangeSpec := { name := "resultSame", fn := fun _ => fun
  | [d1, d2] => { results := [.lit (.bool true)], args := [d1, d2] }
  | _ => none }
def resultSameRow : OpenClaim := { program := "ytabmmdpioennfaa", sum := "fcbbaee7597c9cc652f92a74d7f92807a3bb46d7ff7989693f2659020507aa38", func := "steading/steadinglaw21.ResultSame", spec := "resultSame", unfollowed := true, recurses := true, apart := false }
def ResultSameSaid : Prop := resultSameRow.holds Try.pinned (OpenSpec.ofChange resultSameSpec)

/-- ITS FALSE NEIGHBOUR: 'it returns false'. Refute it at one input. -/
def resultSameWrong : ChangeSpec := { name := "resultSame", fn := fun _ => fun
  | [d1, d2] => { results := [.lit (.bool false)], args := [d1, d2] }
  | _ => none }
def ResultSameWrongFalsely : Prop := resultSameRow.holds Try.pinned (OpenSpec.ofChange resultSameWrong)

/-- 'steadinglaw21.ResultTurned': WHATEVER THE INPUT: true; the input reads as it did. -/
def resultTurnedSpec : ChangeSpec := { name := "resultTurned", fn := fun _ => fun
  | [d1, d2, d3] => { results := [.lit (.bool true)], args := [d1, d2, d3] }
  | _ => none }
def resultTurnedRow : OpenClaim := { program := "ytabmmdpioennfaa", sum := "fcbbaee7597c9cc652f92a74d7f92807a3bb46d7ff7989693f2659020507aa38", func := "steading/steadinglaw21.ResultTurned", spec := "resultTurned", unfollowed := true, recurses := true, apart := false }
def ResultTurnedSaid : Prop := resultTurnedRow.holds Try.pinned (OpenSpec.ofChange resultTurnedSpec)

/-- ITS FALSE NEIGHBOUR: 'it returns false'. Refute it at one input. -/
def resultTurnedWrong : ChangeSpec := { name := "resultTurned", fn := fun _ => fun
  | [d1, d2, d3] => { results := [.lit (.bool false)], args := [d1, d2, d3] }
  | _ => none }
def ResultTurnedWrongFalsely : Prop := resultTurnedRow.holds Try.pinned (OpenSpec.ofChange resultTurnedWrong)

/-- 'steadinglaw21.ResultParts': WHATEVER THE INPUT: true; the input reads as it did. -/
def resultPartsSpec : ChangeSpec := { name := "resultParts", fn := fun _ => fun
  | [d1, d2] => { results := [.lit (.bool true)], args := [d1, d2] }
  | _ => none }
def resultPartsRow : OpenClaim := { program := "ytabmmdpioennfaa", sum := "fcbbaee7597c9cc652f92a74d7f92807a3bb46d7ff7989693f2659020507aa38", func := "steading/steadinglaw21.ResultParts", spec := "resultParts", unfollowed := true, recurses := true, apart := false }
def ResultPartsSaid : Prop := resultPartsRow.holds Try.pinned (OpenSpec.ofChange resultPartsSpec)

/-- ITS FALSE NEIGHBOUR: 'it returns false'. Refute it at one input. -/
def resultPartsWrong : ChangeSpec := { name := "resultParts", fn := fun _ => fun
  | [d1, d2] => { results := [.lit (.bool false)], args := [d1, d2] }
  | _ => none }
def ResultPartsWrongFalsely : Prop := resultPartsRow.holds Try.pinned (OpenSpec.ofChange resultPartsWrong)

/-- 'steadinglaw21.ResultChain': WHATEVER THE INPUT: true; the input reads as it did. -/
def resultChainSpec : ChangeSpec := { name := "resultChain", fn := fun _ => fun
  | [d1, d2, d3] => { results := [.lit (.bool true)], args := [d1, d2, d3] }
  | _ => none }
def resultChainRow : OpenClaim := { program := "ytabmmdpioennfaa", sum := "fcbbaee7597c9cc652f92a74d7f92807a3bb46d7ff7989693f2659020507aa38", func := "steading/steadinglaw21.ResultChain", spec := "resultChain", unfollowed := true, recurses := true, apart := false }
def ResultChainSaid : Prop := resultChainRow.holds Try.pinned (OpenSpec.ofChange resultChainSpec)

/-- ITS FALSE NEIGHBOUR: 'it returns false'. Refute it at one input. -/
def resultChainWrong : ChangeSpec := { name := "resultChain", fn := fun _ => fun
  | [d1, d2, d3] => { results := [.lit (.bool false)], args := [d1, d2, d3] }
  | _ => none }
def ResultChainWrongFalsely : Prop := resultChainRow.holds Try.pinned (OpenSpec.ofChange resultChainWrong)

/- THE SECOND FORM. 'bulk': how many values and letters a reading holds, each counted each time it is reached (what is shared counts as often as it is met; a slice's spare places count too). A statement '..UptoSaid' is the law's where the arguments, and the package variables that the reading takes, are together of bulk at most 1048576: NARROWER than '..Said'. Prove '..Said' where nothing that the law and all that it calls make is longer than what came in: it says more and counts as full. Else prove '..UptoSaid'. A law counts once. -/
mutual
def uptoBulk {H : Type} : DataW H → Nat
  | .lit (.string bytes) => bytes.length + 1
  | .lit _ => 1
  | .nil => 1
  | .ptr d => uptoBulk d + 1
  | .slice elems spare => uptoBulkAll elems + uptoBulkAll spare + 1
  | .agg parts => uptoBulkAll parts + 1
  | .iface _ d => uptoBulk d + 1
  | .map entries => uptoBulkEntries entries + 1
  | .held _ => 1
def uptoBulkAll {H : Type} : List (DataW H) → Nat
  | [] => 0
  | d :: r => uptoBulk d + uptoBulkAll r
def uptoBulkEntries {H : Type} : List (Lit × DataW H) → Nat
  | [] => 0
  | x :: r => uptoBulkEntry x + uptoBulkEntries r
def uptoBulkEntry {H : Type} : Lit × DataW H → Nat
  | (.string bytes, d) => bytes.length + uptoBulk d + 1
  | (_, d) => uptoBulk d + 1
 end
def uptoSmall : (H : Type) → List (DataW H) → Bool := fun _ ds => decide (uptoBulkAll ds ≤ 1048576)
def OpenSpec.upto (s : _root_.Go.ChangeSpec) : _root_.Go.OpenSpec := { _root_.Go.OpenSpec.ofChange s with cond := some uptoSmall }

/-- 'steadinglaw12.HandlePack', WHERE WHAT IT READS IS OF BULK AT MOST 1048576: true; the input reads as it did. -/
def handlePackUptoRow : OpenClaim := { program := "ytabmmdpioennfaa", sum := "fcbbaee7597c9cc652f92a74d7f92807a3bb46d7ff7989693f2659020507aa38", func := "steading/steadinglaw12.HandlePack", spec := "handlePack", unfollowed := true, recurses := true, apart := false, narrowed := true }
def HandlePackUptoSaid : Prop := handlePackUptoRow.holds Try.pinned (OpenSpec.upto handlePackSpec)

/-- 'steadinglaw12.HandleUnpack', WHERE WHAT IT READS IS OF BULK AT MOST 1048576: true; the input reads as it did. -/
def handleUnpackUptoRow : OpenClaim := { program := "ytabmmdpioennfaa", sum := "fcbbaee7597c9cc652f92a74d7f92807a3bb46d7ff7989693f2659020507aa38", func := "steading/steadinglaw12.HandleUnpack", spec := "handleUnpack", unfollowed := true, recurses := true, apart := false, narrowed := true }
def HandleUnpackUptoSaid : Prop := handleUnpackUptoRow.holds Try.pinned (OpenSpec.upto handleUnpackSpec)

/-- 'steadinglaw12.HandleBack', WHERE WHAT IT READS IS OF BULK AT MOST 1048576: true; the input reads as it did. -/
def handleBackUptoRow : OpenClaim := { program := "ytabmmdpioennfaa", sum := "fcbbaee7597c9cc652f92a74d7f92807a3bb46d7ff7989693f2659020507aa38", func := "steading/steadinglaw12.HandleBack", spec := "handleBack", unfollowed := true, recurses := true, apart := false, narrowed := true }
def HandleBackUptoSaid : Prop := handleBackUptoRow.holds Try.pinned (OpenSpec.upto handleBackSpec)

/-- 'steadinglaw12.HandleNext', WHERE WHAT IT READS IS OF BULK AT MOST 1048576: true; the input reads as it did. -/
def handleNextUptoRow : OpenClaim := { program := "ytabmmdpioennfaa", sum := "fcbbaee7597c9cc652f92a74d7f92807a3bb46d7ff7989693f2659020507aa38", func := "steading/steadinglaw12.HandleNext", spec := "handleNext", unfollowed := true, recurses := true, apart := false, narrowed := true }
def HandleNextUptoSaid : Prop := handleNextUptoRow.holds Try.pinned (OpenSpec.upto handleNextSpec)

/-- 'steadinglaw12.HandleApart', WHERE WHAT IT READS IS OF BULK AT MOST 1048576: true; the input reads as it did. -/
def handleApartUptoRow : OpenClaim := { program := "ytabmmdpioennfaa", sum := "fcbbaee7597c9cc652f92a74d7f92807a3bb46d7ff7989693f2659020507aa38", func := "steading/steadinglaw12.HandleApart", spec := "handleApart", unfollowed := true, recurses := true, apart := false, narrowed := true }
def HandleApartUptoSaid : Prop := handleApartUptoRow.holds Try.pinned (OpenSpec.upto handleApartSpec)

/-- 'steadinglaw21.ResultPlain', WHERE WHAT IT READS IS OF BULK AT MOST 1048576: true; the input reads as it did. -/
def resultPlainUptoRow : OpenClaim := { program := "ytabmmdpioennfaa", sum := "fcbbaee7597c9cc652f92a74d7f92807a3bb46d7ff7989693f2659020507aa38", func := "steading/steadinglaw21.ResultPlain", spec := "resultPlain", unfollowed := true, recurses := true, apart := false, narrowed := true }
def ResultPlainUptoSaid : Prop := resultPlainUptoRow.holds Try.pinned (OpenSpec.upto resultPlainSpec)

/-- 'steadinglaw21.ResultSame', WHERE WHAT IT READS IS OF BULK AT MOST 1048576: true; the input reads as it did. -/
def resultSameUptoRow : OpenClaim := { program := "ytabmmdpioennfaa", sum := "fcbbaee7597c9cc652f92a74d7f92807a3bb46d7ff7989693f2659020507aa38", func := "steading/steadinglaw21.ResultSame", spec := "resultSame", unfollowed := true, recurses := true, apart := false, narrowed := true }
def ResultSameUptoSaid : Prop := resultSameUptoRow.holds Try.pinned (OpenSpec.upto resultSameSpec)

/-- 'steadinglaw21.ResultTurned', WHERE WHAT IT READS IS OF BULK AT MOST 1048576: true; the input reads as it did. -/
def resultTurnedUptoRow : OpenClaim := { program := "ytabmmdpioennfaa", sum := "fcbbaee7597c9cc652f92a74d7f92807a3bb46d7ff7989693f2659020507aa38", func := "steading/steadinglaw21.ResultTurned", spec := "resultTurned", unfollowed := true, recurses := true, apart := false, narrowed := true }
def ResultTurnedUptoSaid : Prop := resultTurnedUptoRow.holds Try.pinned (OpenSpec.upto resultTurnedSpec)

/-- 'steadinglaw21.ResultParts', WHERE WHAT IT READS IS OF BULK AT MOST 1048576: true; the input reads as it did. -/
def resultPartsUptoRow : OpenClaim := { program := "ytabmmdpioennfaa", sum := "fcbbaee7597c9cc652f92a74d7f92807a3bb46d7ff7989693f2659020507aa38", func := "steading/steadinglaw21.ResultParts", spec := "resultParts", unfollowed := true, recurses := true, apart := false, narrowed := true }
def ResultPartsUptoSaid : Prop := resultPartsUptoRow.holds Try.pinned (OpenSpec.upto resultPartsSpec)

/-- 'steadinglaw21.ResultChain', WHERE WHAT IT READS IS OF BULK AT MOST 1048576: true; the input reads as it did. -/
def resultChainUptoRow : OpenClaim := { program := "ytabmmdpioennfaa", sum := "fcbbaee7597c9cc652f92a74d7f92807a3bb46d7ff7989693f2659020507aa38", func := "steading/steadinglaw21.ResultChain", spec := "resultChain", unfollowed := true, recurses := true, apart := false, narrowed := true }
def ResultChainUptoSaid : Prop := resultChainUptoRow.holds Try.pinned (OpenSpec.upto resultChainSpec)

end Rows
end Go.Proofs.Ytabmmdpioennfaa
