/-
  No cell of these rows narrows 'for every input' (looked for: loops, veiled, ifaces, maps, wideKeys, modest, calm, conditions, laid).
  DERIVED. THE GIVEN ROWS OF THIS SEAT. 8 by the template 'for every input the law returns true; each argument reads behind the call as it read before'; 0 by the template 'total and deterministic' (their statements: YtccjcaomhijgdaaTotals.lean).
  GIVEN WITH THE SEED: the statements are not yours to turn. If you find one false, say at which input.
  Laid BY PROGRAM, IN A SANDBOX (cutbox-rows.mjs): the forced cells as the released guide's own fill.sh prints them over the translation 09a1c2535dbee37e… (all of the seat's roots in one cut). By AI agents, Wed Nov 11 2026. No macro, syntax, notation, axiom, sorry.
-/
import Derived.Test.YtccjcaomhijgdaaChecked
import GoSem.Claim
import GoSem.ClaimJoined
import GoSem.ClaimMapViews
import Derived.JoinedTies
import Derived.KernelRfl
namespace Go.Proofs.Ytccjcaomhijgdaa
/- THE CELL 'sum', in the pinned program and in every row, IS THE sha256 OF THE DUMP (.gsa) THAT YtccjcaomhijgdaaProg.lean LOADS. Nothing in Lean hashes anything: it is a label: what it is worth is what the hold of that sum in a sandbox is worth. -/
noncomputable def Try.pinned : Pinned := { name := "ytccjcaomhijgdaa", sum := "09a1c2535dbee37e168abf6121ba980f715a75d076947e45e5582ceb87b5863f", checked := Try.checked }
namespace Rows
def none {H : Type} : Left H := { results := [], args := [] }

/-- 'steadinglaw05.RunsRight': WHATEVER THE INPUT: true; the input reads as it did. -/
def runsRightSpec : ChangeSpec := { name := "runsRight", fn := fun _ => fun
  | [d1, d2] => { results := [.lit (.bool true)], args := [d1, d2] }
  | _ => none }
def runsRightRow : OpenClaim := { program := "ytccjcaomhijgdaa", sum := "09a1c2535dbee37e168abf6121ba980f715a75d076947e45e5582ceb87b5863f", func := "steading/steadinglaw05.RunsRight", spec := "runsRight", unfollowed := true, recurses := true, apart := false }
def RunsRightSaid : Prop := runsRightRow.holds Try.pinned (OpenSpec.ofChange runsRightSpec)

/-- ITS FALSE NEIGHBOUR: 'it returns false'. Refute it at one input. -/
def runsRightWrong : ChangeSpec := { name := "runsRight", fn := fun _ => fun
  | [d1, d2] => { results := [.lit (.bool false)], args := [d1, d2] }
  | _ => none }
def RunsRightWrongFalsely : Prop := runsRightRow.holds Try.pinned (OpenSpec.ofChange runsRightWrong)

/-- 'steadinglaw05.RunsTake': WHATEVER THE INPUT: true; the input reads as it did. -/
def runsTakeSpec : ChangeSpec := { name := "runsTake", fn := fun _ => fun
  | [d1, d2] => { results := [.lit (.bool true)], args := [d1, d2] }
  | _ => none }
def runsTakeRow : OpenClaim := { program := "ytccjcaomhijgdaa", sum := "09a1c2535dbee37e168abf6121ba980f715a75d076947e45e5582ceb87b5863f", func := "steading/steadinglaw05.RunsTake", spec := "runsTake", unfollowed := true, recurses := true, apart := false }
def RunsTakeSaid : Prop := runsTakeRow.holds Try.pinned (OpenSpec.ofChange runsTakeSpec)

/-- ITS FALSE NEIGHBOUR: 'it returns false'. Refute it at one input. -/
def runsTakeWrong : ChangeSpec := { name := "runsTake", fn := fun _ => fun
  | [d1, d2] => { results := [.lit (.bool false)], args := [d1, d2] }
  | _ => none }
def RunsTakeWrongFalsely : Prop := runsTakeRow.holds Try.pinned (OpenSpec.ofChange runsTakeWrong)

/-- 'steadinglaw05.RunsGive': WHATEVER THE INPUT: true; the input reads as it did. -/
def runsGiveSpec : ChangeSpec := { name := "runsGive", fn := fun _ => fun
  | [d1, d2, d3, d4] => { results := [.lit (.bool true)], args := [d1, d2, d3, d4] }
  | _ => none }
def runsGiveRow : OpenClaim := { program := "ytccjcaomhijgdaa", sum := "09a1c2535dbee37e168abf6121ba980f715a75d076947e45e5582ceb87b5863f", func := "steading/steadinglaw05.RunsGive", spec := "runsGive", unfollowed := true, recurses := true, apart := false }
def RunsGiveSaid : Prop := runsGiveRow.holds Try.pinned (OpenSpec.ofChange runsGiveSpec)

/-- ITS FALSE NEIGHBOUR: 'it returns false'. Refute it at one input. -/
def runsGiveWrong : ChangeSpec := { name := "runsGive", fn := fun _ => fun
  | [d1, d2, d3, d4] => { results := [.lit (.bool false)], args := [d1, d2, d3, d4] }
  | _ => none }
def RunsGiveWrongFalsely : Prop := runsGiveRow.holds Try.pinned (OpenSpec.ofChange runsGiveWrong)

/-- 'steadinglaw05.RunsBack': WHATEVER THE INPUT: true; the input reads as it did. -/
def runsBackSpec : ChangeSpec := { name := "runsBack", fn := fun _ => fun
  | [d1, d2] => { results := [.lit (.bool true)], args := [d1, d2] }
  | _ => none }
def runsBackRow : OpenClaim := { program := "ytccjcaomhijgdaa", sum := "09a1c2535dbee37e168abf6121ba980f715a75d076947e45e5582ceb87b5863f", func := "steading/steadinglaw05.RunsBack", spec := "runsBack", unfollowed := true, recurses := true, apart := false }
def RunsBackSaid : Prop := runsBackRow.holds Try.pinned (OpenSpec.ofChange runsBackSpec)

/-- ITS FALSE NEIGHBOUR: 'it returns false'. Refute it at one input. -/
def runsBackWrong : ChangeSpec := { name := "runsBack", fn := fun _ => fun
  | [d1, d2] => { results := [.lit (.bool false)], args := [d1, d2] }
  | _ => none }
def RunsBackWrongFalsely : Prop := runsBackRow.holds Try.pinned (OpenSpec.ofChange runsBackWrong)

/-- 'steadinglaw05.RunsOrder': WHATEVER THE INPUT: true; the input reads as it did. -/
def runsOrderSpec : ChangeSpec := { name := "runsOrder", fn := fun _ => fun
  | [d1, d2] => { results := [.lit (.bool true)], args := [d1, d2] }
  | _ => none }
def runsOrderRow : OpenClaim := { program := "ytccjcaomhijgdaa", sum := "09a1c2535dbee37e168abf6121ba980f715a75d076947e45e5582ceb87b5863f", func := "steading/steadinglaw05.RunsOrder", spec := "runsOrder", unfollowed := true, recurses := true, apart := false }
def RunsOrderSaid : Prop := runsOrderRow.holds Try.pinned (OpenSpec.ofChange runsOrderSpec)

/-- ITS FALSE NEIGHBOUR: 'it returns false'. Refute it at one input. -/
def runsOrderWrong : ChangeSpec := { name := "runsOrder", fn := fun _ => fun
  | [d1, d2] => { results := [.lit (.bool false)], args := [d1, d2] }
  | _ => none }
def RunsOrderWrongFalsely : Prop := runsOrderRow.holds Try.pinned (OpenSpec.ofChange runsOrderWrong)

/-- 'steadinglaw05.RunsLeast': WHATEVER THE INPUT: true; the input reads as it did. -/
def runsLeastSpec : ChangeSpec := { name := "runsLeast", fn := fun _ => fun
  | [d1, d2] => { results := [.lit (.bool true)], args := [d1, d2] }
  | _ => none }
def runsLeastRow : OpenClaim := { program := "ytccjcaomhijgdaa", sum := "09a1c2535dbee37e168abf6121ba980f715a75d076947e45e5582ceb87b5863f", func := "steading/steadinglaw05.RunsLeast", spec := "runsLeast", unfollowed := true, recurses := true, apart := false }
def RunsLeastSaid : Prop := runsLeastRow.holds Try.pinned (OpenSpec.ofChange runsLeastSpec)

/-- ITS FALSE NEIGHBOUR: 'it returns false'. Refute it at one input. -/
def runsLeastWrong : ChangeSpec := { name := "runsLeast", fn := fun _ => fun
  | [d1, d2] => { results := [.lit (.bool false)], args := [d1, d2] }
  | _ => none }
def RunsLeastWrongFalsely : Prop := runsLeastRow.holds Try.pinned (OpenSpec.ofChange runsLeastWrong)

/-- 'steadinglaw05.RunsTwo': WHATEVER THE INPUT: true; the input reads as it did. -/
def runsTwoSpec : ChangeSpec := { name := "runsTwo", fn := fun _ => fun
  | [d1, d2, d3, d4] => { results := [.lit (.bool true)], args := [d1, d2, d3, d4] }
  | _ => none }
def runsTwoRow : OpenClaim := { program := "ytccjcaomhijgdaa", sum := "09a1c2535dbee37e168abf6121ba980f715a75d076947e45e5582ceb87b5863f", func := "steading/steadinglaw05.RunsTwo", spec := "runsTwo", unfollowed := true, recurses := true, apart := false }
def RunsTwoSaid : Prop := runsTwoRow.holds Try.pinned (OpenSpec.ofChange runsTwoSpec)

/-- ITS FALSE NEIGHBOUR: 'it returns false'. Refute it at one input. -/
def runsTwoWrong : ChangeSpec := { name := "runsTwo", fn := fun _ => fun
  | [d1, d2, d3, d4] => { results := [.lit (.bool false)], args := [d1, d2, d3, d4] }
  | _ => none }
def RunsTwoWrongFalsely : Prop := runsTwoRow.holds Try.pinned (OpenSpec.ofChange runsTwoWrong)

/-- 'steadinglaw05.RunsDrain': WHATEVER THE INPUT: true; the input reads as it did. -/
def runsDrainSpec : ChangeSpec := { name := "runsDrain", fn := fun _ => fun
  | [d] => { results := [.lit (.bool true)], args := [d] }
  | _ => none }
def runsDrainRow : OpenClaim := { program := "ytccjcaomhijgdaa", sum := "09a1c2535dbee37e168abf6121ba980f715a75d076947e45e5582ceb87b5863f", func := "steading/steadinglaw05.RunsDrain", spec := "runsDrain", unfollowed := true, recurses := true, apart := false }
def RunsDrainSaid : Prop := runsDrainRow.holds Try.pinned (OpenSpec.ofChange runsDrainSpec)

/-- ITS FALSE NEIGHBOUR: 'it returns false'. Refute it at one input. -/
def runsDrainWrong : ChangeSpec := { name := "runsDrain", fn := fun _ => fun
  | [d] => { results := [.lit (.bool false)], args := [d] }
  | _ => none }
def RunsDrainWrongFalsely : Prop := runsDrainRow.holds Try.pinned (OpenSpec.ofChange runsDrainWrong)

/- THE SECOND FORM. 'bulk': how many values and letters a reading holds, each counted each time it is reached (what is shared counts as often as it is met; a slice's spare places count too). A statement '..UptoSaid' is the law's where the arguments, and the package variables that the reading takes, are together of bulk at most 1048576: NARROWER than '..Said'. Prove '..Said' where nothing that the law and all that it calls make is longer than what came in: it says more and counts as full. Else prove '..UptoSaid'. A law counts once. -/
mutual
def uptoBulk {H : Type} : DataW H → Nat
  | .lit (.string bytes) => bytes.length + 1
  | .lit _ => 1
  | .nil => 1
  | .ptr d => uptoBulk d + 1
  | .slice elems spare => uptoBulkAll elems + uptoBulkAll spare + 1
  | .agg parts => uptoBulkAll parts + 1
  | .iface _ d => uptoBulk d + 1
  | .map entries => uptoBulkEntries entries + 1
  | .held _ => 1
def uptoBulkAll {H : Type} : List (DataW H) → Nat
  | [] => 0
  | d :: r => uptoBulk d + uptoBulkAll r
def uptoBulkEntries {H : Type} : List (Lit × DataW H) → Nat
  | [] => 0
  | x :: r => uptoBulkEntry x + uptoBulkEntries r
def uptoBulkEntry {H : Type} : Lit × DataW H → Nat
  | (.string bytes, d) => bytes.length + uptoBulk d + 1
  | (_, d) => uptoBulk d + 1
 end
def uptoSmall : (H : Type) → List (DataW H) → Bool := fun _ ds => decide (uptoBulkAll ds ≤ 1048576)
def OpenSpec.upto (s : _root_.Go.ChangeSpec) : _root_.Go.OpenSpec := { _root_.Go.OpenSpec.ofChange s with cond := some uptoSmall }

/-- 'steadinglaw05.RunsRight', WHERE WHAT IT READS IS OF BULK AT MOST 1048576: true; the input reads as it did. -/
def runsRightUptoRow : OpenClaim := { program := "ytccjcaomhijgdaa", sum := "09a1c2535dbee37e168abf6121ba980f715a75d076947e45e5582ceb87b5863f", func := "steading/steadinglaw05.RunsRight", spec := "runsRight", unfollowed := true, recurses := true, apart := false, narrowed := true }
def RunsRightUptoSaid : Prop := runsRightUptoRow.holds Try.pinned (OpenSpec.upto runsRightSpec)

/-- 'steadinglaw05.RunsTake', WHERE WHAT IT READS IS OF BULK AT MOST 1048576: true; the input reads as it did. -/
def runsTakeUptoRow : OpenClaim := { program := "ytccjcaomhijgdaa", sum := "09a1c2535dbee37e168abf6121ba980f715a75d076947e45e5582ceb87b5863f", func := "steading/steadinglaw05.RunsTake", spec := "runsTake", unfollowed := true, recurses := true, apart := false, narrowed := true }
def RunsTakeUptoSaid : Prop := runsTakeUptoRow.holds Try.pinned (OpenSpec.upto runsTakeSpec)

/-- 'steadinglaw05.RunsGive', WHERE WHAT IT READS IS OF BULK AT MOST 1048576: true; the input reads as it did. -/
def runsGiveUptoRow : OpenClaim := { program := "ytccjcaomhijgdaa", sum := "09a1c2535dbee37e168abf6121ba980f715a75d076947e45e5582ceb87b5863f", func := "steading/steadinglaw05.RunsGive", spec := "runsGive", unfollowed := true, recurses := true, apart := false, narrowed := true }
def RunsGiveUptoSaid : Prop := runsGiveUptoRow.holds Try.pinned (OpenSpec.upto runsGiveSpec)

/-- 'steadinglaw05.RunsBack', WHERE WHAT IT READS IS OF BULK AT MOST 1048576: true; the input reads as it did. -/
def runsBackUptoRow : OpenClaim := { program := "ytccjcaomhijgdaa", sum := "09a1c2535dbee37e168abf6121ba980f715a75d076947e45e5582ceb87b5863f", func := "steading/steadinglaw05.RunsBack", spec := "runsBack", unfollowed := true, recurses := true, apart := false, narrowed := true }
def RunsBackUptoSaid : Prop := runsBackUptoRow.holds Try.pinned (OpenSpec.upto runsBackSpec)

/-- 'steadinglaw05.RunsOrder', WHERE WHAT IT READS IS OF BULK AT MOST 1048576: true; the input reads as it did. -/
def runsOrderUptoRow : OpenClaim := { program := "ytccjcaomhijgdaa", sum := "09a1c2535dbee37e168abf6121ba980f715a75d076947e45e5582ceb87b5863f", func := "steading/steadinglaw05.RunsOrder", spec := "runsOrder", unfollowed := true, recurses := true, apart := false, narrowed := true }
def RunsOrderUptoSaid : Prop := runsOrderUptoRow.holds Try.pinned (OpenSpec.upto runsOrderSpec)

/-- 'steadinglaw05.RunsLeast', WHERE WHAT IT READS IS OF BULK AT MOST 1048576: true; the input reads as it did. -/
def runsLeastUptoRow : OpenClaim := { program := "ytccjcaomhijgdaa", sum := "09a1c2535dbee37e168abf6121ba980f715a75d076947e45e5582ceb87b5863f", func := "steading/steadinglaw05.RunsLeast", spec := "runsLeast", unfollowed := true, recurses := true, apart := false, narrowed := true }
def RunsLeastUptoSaid : Prop := runsLeastUptoRow.holds Try.pinned (OpenSpec.upto runsLeastSpec)

/-- 'steadinglaw05.RunsTwo', WHERE WHAT IT READS IS OF BULK AT MOST 1048576: true; the input reads as it did. -/
def runsTwoUptoRow : OpenClaim := { program := "ytccjcaomhijgdaa", sum := "09a1c2535dbee37e168abf6121ba980f715a75d076947e45e5582ceb87b5863f", func := "steading/steadinglaw05.RunsTwo", spec := "runsTwo", unfollowed := true, recurses := true, apart := false, narrowed := true }
def RunsTwoUptoSaid : Prop := runsTwoUptoRow.holds Try.pinned (OpenSpec.upto runsTwoSpec)

/-- 'steadinglaw05.RunsDrain', WHERE WHAT IT READS IS OF BULK AT MOST 1048576: true; the input reads as it did. -/
def runsDrainUptoRow : OpenClaim := { program := "ytccjcaomhijgdaa", sum := "09a1c2535dbee37e168abf6121ba980f715a75d076947e45e5582ceb87b5863f", func := "steading/steadinglaw05.RunsDrain", spec := "runsDrain", unfollowed := true, recurses := true, apart := false, narrowed := true }
def RunsDrainUptoSaid : Prop := runsDrainUptoRow.holds Try.pinned (OpenSpec.upto runsDrainSpec)

end Rows
end Go.Proofs.Ytccjcaomhijgdaa
