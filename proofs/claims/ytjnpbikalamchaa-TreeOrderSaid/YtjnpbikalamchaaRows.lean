/-
  No cell of these rows narrows 'for every input' (looked for: loops, veiled, ifaces, maps, wideKeys, modest, calm, conditions, laid).
  DERIVED. THE GIVEN ROWS OF THIS SEAT. 5 by the template 'for every input the law returns true; each argument reads behind the call as it read before'; 0 by the template 'total and deterministic' (their statements: YtjnpbikalamchaaTotals.lean).
  GIVEN WITH THE SEED: the statements are not yours to turn. If you find one false, say at which input.
  Laid BY PROGRAM, IN A SANDBOX (cutbox-rows.mjs): the forced cells as the released guide's own fill.sh prints them over the translation 2379e4b8d0b7e009… (all of the seat's roots in one cut). By AI agents, Wed Nov 11 2026. No macro, syntax, notation, axiom, sorry.
-/
import Derived.Test.YtjnpbikalamchaaChecked
import GoSem.Claim
import GoSem.ClaimJoined
import GoSem.ClaimMapViews
import Derived.JoinedTies
import Derived.KernelRfl
namespace Go.Proofs.Ytjnpbikalamchaa
/- THE CELL 'sum', in the pinned program and in every row, IS THE sha256 OF THE DUMP (.gsa) THAT YtjnpbikalamchaaProg.lean LOADS. Nothing in Lean hashes anything: it is a label: what it is worth is what the hold of that sum in a sandbox is worth. -/
noncomputable def Try.pinned : Pinned := { name := "ytjnpbikalamchaa", sum := "2379e4b8d0b7e0092c7ba8e80ecda54b188423aeaf6b12fef150f5c0a6f1dac1", checked := Try.checked }
namespace Rows
def none {H : Type} : Left H := { results := [], args := [] }

/-- 'steadinglaw16.TreePlays': WHATEVER THE INPUT: true; the input reads as it did. -/
def treePlaysSpec : ChangeSpec := { name := "treePlays", fn := fun _ => fun
  | [d] => { results := [.lit (.bool true)], args := [d] }
  | _ => none }
def treePlaysRow : OpenClaim := { program := "ytjnpbikalamchaa", sum := "2379e4b8d0b7e0092c7ba8e80ecda54b188423aeaf6b12fef150f5c0a6f1dac1", func := "steading/steadinglaw16.TreePlays", spec := "treePlays", unfollowed := true, recurses := true, apart := false }
def TreePlaysSaid : Prop := treePlaysRow.holds Try.pinned (OpenSpec.ofChange treePlaysSpec)

/-- ITS FALSE NEIGHBOUR: 'it returns false'. Refute it at one input. -/
def treePlaysWrong : ChangeSpec := { name := "treePlays", fn := fun _ => fun
  | [d] => { results := [.lit (.bool false)], args := [d] }
  | _ => none }
def TreePlaysWrongFalsely : Prop := treePlaysRow.holds Try.pinned (OpenSpec.ofChange treePlaysWrong)

/-- 'steadinglaw16.TreeOrder': WHATEVER THE INPUT: true; the input reads as it did. -/
def treeOrderSpec : ChangeSpec := { name := "treeOrder", fn := fun _ => fun
  | [d1, d2] => { results := [.lit (.bool true)], args := [d1, d2] }
  | _ => none }
def treeOrderRow : OpenClaim := { program := "ytjnpbikalamchaa", sum := "2379e4b8d0b7e0092c7ba8e80ecda54b188423aeaf6b12fef150f5c0a6f1dac1", func := "steading/steadinglaw16.TreeOrder", spec := "treeOrder", unfollowed := true, recurses := true, apart := false }
def TreeOrderSaid : Prop := treeOrderRow.holds Try.pinned (OpenSpec.ofChange treeOrderSpec)

/-- ITS FALSE NEIGHBOUR: 'it returns false'. Refute it at one input. -/
def treeOrderWrong : ChangeSpec := { name := "treeOrder", fn := fun _ => fun
  | [d1, d2] => { results := [.lit (.bool false)], args := [d1, d2] }
  | _ => none }
def TreeOrderWrongFalsely : Prop := treeOrderRow.holds Try.pinned (OpenSpec.ofChange treeOrderWrong)

/-- 'steadinglaw16.TreeGone': WHATEVER THE INPUT: true; the input reads as it did. -/
def treeGoneSpec : ChangeSpec := { name := "treeGone", fn := fun _ => fun
  | [d1, d2] => { results := [.lit (.bool true)], args := [d1, d2] }
  | _ => none }
def treeGoneRow : OpenClaim := { program := "ytjnpbikalamchaa", sum := "2379e4b8d0b7e0092c7ba8e80ecda54b188423aeaf6b12fef150f5c0a6f1dac1", func := "steading/steadinglaw16.TreeGone", spec := "treeGone", unfollowed := true, recurses := true, apart := false }
def TreeGoneSaid : Prop := treeGoneRow.holds Try.pinned (OpenSpec.ofChange treeGoneSpec)

/-- ITS FALSE NEIGHBOUR: 'it returns false'. Refute it at one input. -/
def treeGoneWrong : ChangeSpec := { name := "treeGone", fn := fun _ => fun
  | [d1, d2] => { results := [.lit (.bool false)], args := [d1, d2] }
  | _ => none }
def TreeGoneWrongFalsely : Prop := treeGoneRow.holds Try.pinned (OpenSpec.ofChange treeGoneWrong)

/-- 'steadinglaw16.TreeCut': WHATEVER THE INPUT: true; the input reads as it did. -/
def treeCutSpec : ChangeSpec := { name := "treeCut", fn := fun _ => fun
  | [d1, d2, d3] => { results := [.lit (.bool true)], args := [d1, d2, d3] }
  | _ => none }
def treeCutRow : OpenClaim := { program := "ytjnpbikalamchaa", sum := "2379e4b8d0b7e0092c7ba8e80ecda54b188423aeaf6b12fef150f5c0a6f1dac1", func := "steading/steadinglaw16.TreeCut", spec := "treeCut", unfollowed := true, recurses := true, apart := false }
def TreeCutSaid : Prop := treeCutRow.holds Try.pinned (OpenSpec.ofChange treeCutSpec)

/-- ITS FALSE NEIGHBOUR: 'it returns false'. Refute it at one input. -/
def treeCutWrong : ChangeSpec := { name := "treeCut", fn := fun _ => fun
  | [d1, d2, d3] => { results := [.lit (.bool false)], args := [d1, d2, d3] }
  | _ => none }
def TreeCutWrongFalsely : Prop := treeCutRow.holds Try.pinned (OpenSpec.ofChange treeCutWrong)

/-- 'steadinglaw16.TreeUp': WHATEVER THE INPUT: true; the input reads as it did. -/
def treeUpSpec : ChangeSpec := { name := "treeUp", fn := fun _ => fun
  | [d] => { results := [.lit (.bool true)], args := [d] }
  | _ => none }
def treeUpRow : OpenClaim := { program := "ytjnpbikalamchaa", sum := "2379e4b8d0b7e0092c7ba8e80ecda54b188423aeaf6b12fef150f5c0a6f1dac1", func := "steading/steadinglaw16.TreeUp", spec := "treeUp", unfollowed := true, recurses := true, apart := false }
def TreeUpSaid : Prop := treeUpRow.holds Try.pinned (OpenSpec.ofChange treeUpSpec)

/-- ITS FALSE NEIGHBOUR: 'it returns false'. Refute it at one input. -/
def treeUpWrong : ChangeSpec := { name := "treeUp", fn := fun _ => fun
  | [d] => { results := [.lit (.bool false)], args := [d] }
  | _ => none }
def TreeUpWrongFalsely : Prop := treeUpRow.holds Try.pinned (OpenSpec.ofChange treeUpWrong)

/- THE SECOND FORM. 'bulk': how many values and letters a reading holds, each counted each time it is reached (what is shared counts as often as it is met; a slice's spare places count too). A statement '..UptoSaid' is the law's where the arguments, and the package variables that the reading takes, are together of bulk at most 1048576: NARROWER than '..Said'. Prove '..Said' where nothing that the law and all that it calls make is longer than what came in: it says more and counts as full. Else prove '..UptoSaid'. A law counts once. -/
mutual
def uptoBulk {H : Type} : DataW H → Nat
  | .lit (.string bytes) => bytes.length + 1
  | .lit _ => 1
  | .nil => 1
  | .ptr d => uptoBulk d + 1
  | .slice elems spare => uptoBulkAll elems + uptoBulkAll spare + 1
  | .agg parts => uptoBulkAll parts + 1
  | .iface _ d => uptoBulk d + 1
  | .map entries => uptoBulkEntries entries + 1
  | .held _ => 1
def uptoBulkAll {H : Type} : List (DataW H) → Nat
  | [] => 0
  | d :: r => uptoBulk d + uptoBulkAll r
def uptoBulkEntries {H : Type} : List (Lit × DataW H) → Nat
  | [] => 0
  | x :: r => uptoBulkEntry x + uptoBulkEntries r
def uptoBulkEntry {H : Type} : Lit × DataW H → Nat
  | (.string bytes, d) => bytes.length + uptoBulk d + 1
  | (_, d) => uptoBulk d + 1
 end
def uptoSmall : (H : Type) → List (DataW H) → Bool := fun _ ds => decide (uptoBulkAll ds ≤ 1048576)
def OpenSpec.upto (s : _root_.Go.ChangeSpec) : _root_.Go.OpenSpec := { _root_.Go.OpenSpec.ofChange s with cond := some uptoSmall }

/-- 'steadinglaw16.TreePlays', WHERE WHAT IT READS IS OF BULK AT MOST 1048576: true; the input reads as it did. -/
def treePlaysUptoRow : OpenClaim := { program := "ytjnpbikalamchaa", sum := "2379e4b8d0b7e0092c7ba8e80ecda54b188423aeaf6b12fef150f5c0a6f1dac1", func := "steading/steadinglaw16.TreePlays", spec := "treePlays", unfollowed := true, recurses := true, apart := false, narrowed := true }
def TreePlaysUptoSaid : Prop := treePlaysUptoRow.holds Try.pinned (OpenSpec.upto treePlaysSpec)

/-- 'steadinglaw16.TreeOrder', WHERE WHAT IT READS IS OF BULK AT MOST 1048576: true; the input reads as it did. -/
def treeOrderUptoRow : OpenClaim := { program := "ytjnpbikalamchaa", sum := "2379e4b8d0b7e0092c7ba8e80ecda54b188423aeaf6b12fef150f5c0a6f1dac1", func := "steading/steadinglaw16.TreeOrder", spec := "treeOrder", unfollowed := true, recurses := true, apart := false, narrowed := true }
def TreeOrderUptoSaid : Prop := treeOrderUptoRow.holds Try.pinned (OpenSpec.upto treeOrderSpec)

/-- 'steadinglaw16.TreeGone', WHERE WHAT IT READS IS OF BULK AT MOST 1048576: true; the input reads as it did. -/
def treeGoneUptoRow : OpenClaim := { program := "ytjnpbikalamchaa", sum := "2379e4b8d0b7e0092c7ba8e80ecda54b188423aeaf6b12fef150f5c0a6f1dac1", func := "steading/steadinglaw16.TreeGone", spec := "treeGone", unfollowed := true, recurses := true, apart := false, narrowed := true }
def TreeGoneUptoSaid : Prop := treeGoneUptoRow.holds Try.pinned (OpenSpec.upto treeGoneSpec)

/-- 'steadinglaw16.TreeCut', WHERE WHAT IT READS IS OF BULK AT MOST 1048576: true; the input reads as it did. -/
def treeCutUptoRow : OpenClaim := { program := "ytjnpbikalamchaa", sum := "2379e4b8d0b7e0092c7ba8e80ecda54b188423aeaf6b12fef150f5c0a6f1dac1", func := "steading/steadinglaw16.TreeCut", spec := "treeCut", unfollowed := true, recurses := true, apart := false, narrowed := true }
def TreeCutUptoSaid : Prop := treeCutUptoRow.holds Try.pinned (OpenSpec.upto treeCutSpec)

/-- 'steadinglaw16.TreeUp', WHERE WHAT IT READS IS OF BULK AT MOST 1048576: true; the input reads as it did. -/
def treeUpUptoRow : OpenClaim := { program := "ytjnpbikalamchaa", sum := "2379e4b8d0b7e0092c7ba8e80ecda54b188423aeaf6b12fef150f5c0a6f1dac1", func := "steading/steadinglaw16.TreeUp", spec := "treeUp", unfollowed := true, recurses := true, apart := false, narrowed := true }
def TreeUpUptoSaid : Prop := treeUpUptoRow.holds Try.pinned (OpenSpec.upto treeUpSpec)

end Rows
end Go.Proofs.Ytjnpbikalamchaa
