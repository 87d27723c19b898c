/-
  No cell of these rows narrows 'for every input' (looked for: loops, veiled, ifaces, maps, wideKeys, modest, calm, conditions, laid).
  DERIVED. THE GIVEN ROWS OF THIS SEAT. 5 by the template 'for every input the law returns true; each argument reads behind the call as it read before'; 0 by the template 'total and deterministic' (their statements: YtdkedgdieoojgaaTotals.lean).
  GIVEN WITH THE SEED: the statements are not yours to turn. If you find one false, say at which input.
  Laid BY PROGRAM, IN A SANDBOX (cutbox-rows.mjs): the forced cells as the released guide's own fill.sh prints them over the translation 1af5d48a0bfc5541… (all of the seat's roots in one cut). By AI agents, Wed Nov 11 2026. No macro, syntax, notation, axiom, sorry.
-/
import Derived.Test.YtdkedgdieoojgaaChecked
import GoSem.Claim
import GoSem.ClaimJoined
import GoSem.ClaimMapViews
import Derived.JoinedTies
import Derived.KernelRfl
namespace Go.Proofs.Ytdkedgdieoojgaa
/- THE CELL 'sum', in the pinned program and in every row, IS THE sha256 OF THE DUMP (.gsa) THAT YtdkedgdieoojgaaProg.lean LOADS. Nothing in Lean hashes anything: it is a label: what it is worth is what the hold of that sum in a sandbox is worth. -/
noncomputable def Try.pinned : Pinned := { name := "ytdkedgdieoojgaa", sum := "1af5d48a0bfc5541bcf2daae1e88667a00a4ef05bfcb02fe6a175d008462d3e8", checked := Try.checked }
namespace Rows
def none {H : Type} : Left H := { results := [], args := [] }

/-- 'steadinglaw06.PagerunFull': WHATEVER THE INPUT: true; the input reads as it did. -/
def pagerunFullSpec : ChangeSpec := { name := "pagerunFull", fn := fun _ => fun
  | [d1, d2, d3] => { results := [.lit (.bool true)], args := [d1, d2, d3] }
  | _ => none }
def pagerunFullRow : OpenClaim := { program := "ytdkedgdieoojgaa", sum := "1af5d48a0bfc5541bcf2daae1e88667a00a4ef05bfcb02fe6a175d008462d3e8", func := "steading/steadinglaw06.PagerunFull", spec := "pagerunFull", unfollowed := true, recurses := true, apart := false }
def PagerunFullSaid : Prop := pagerunFullRow.holds Try.pinned (OpenSpec.ofChange pagerunFullSpec)

/-- ITS FALSE NEIGHBOUR: 'it returns false'. Refute it at one input. -/
def pagerunFullWrong : ChangeSpec := { name := "pagerunFull", fn := fun _ => fun
  | [d1, d2, d3] => { results := [.lit (.bool false)], args := [d1, d2, d3] }
  | _ => none }
def PagerunFullWrongFalsely : Prop := pagerunFullRow.holds Try.pinned (OpenSpec.ofChange pagerunFullWrong)

/-- 'steadinglaw06.PagerunBack': WHATEVER THE INPUT: true; the input reads as it did. -/
def pagerunBackSpec : ChangeSpec := { name := "pagerunBack", fn := fun _ => fun
  | [d1, d2, d3, d4] => { results := [.lit (.bool true)], args := [d1, d2, d3, d4] }
  | _ => none }
def pagerunBackRow : OpenClaim := { program := "ytdkedgdieoojgaa", sum := "1af5d48a0bfc5541bcf2daae1e88667a00a4ef05bfcb02fe6a175d008462d3e8", func := "steading/steadinglaw06.PagerunBack", spec := "pagerunBack", unfollowed := true, recurses := true, apart := false }
def PagerunBackSaid : Prop := pagerunBackRow.holds Try.pinned (OpenSpec.ofChange pagerunBackSpec)

/-- ITS FALSE NEIGHBOUR: 'it returns false'. Refute it at one input. -/
def pagerunBackWrong : ChangeSpec := { name := "pagerunBack", fn := fun _ => fun
  | [d1, d2, d3, d4] => { results := [.lit (.bool false)], args := [d1, d2, d3, d4] }
  | _ => none }
def PagerunBackWrongFalsely : Prop := pagerunBackRow.holds Try.pinned (OpenSpec.ofChange pagerunBackWrong)

/-- 'steadinglaw06.PagerunPlays': WHATEVER THE INPUT: true; the input reads as it did. -/
def pagerunPlaysSpec : ChangeSpec := { name := "pagerunPlays", fn := fun _ => fun
  | [d1, d2] => { results := [.lit (.bool true)], args := [d1, d2] }
  | _ => none }
def pagerunPlaysRow : OpenClaim := { program := "ytdkedgdieoojgaa", sum := "1af5d48a0bfc5541bcf2daae1e88667a00a4ef05bfcb02fe6a175d008462d3e8", func := "steading/steadinglaw06.PagerunPlays", spec := "pagerunPlays", unfollowed := true, recurses := true, apart := false }
def PagerunPlaysSaid : Prop := pagerunPlaysRow.holds Try.pinned (OpenSpec.ofChange pagerunPlaysSpec)

/-- ITS FALSE NEIGHBOUR: 'it returns false'. Refute it at one input. -/
def pagerunPlaysWrong : ChangeSpec := { name := "pagerunPlays", fn := fun _ => fun
  | [d1, d2] => { results := [.lit (.bool false)], args := [d1, d2] }
  | _ => none }
def PagerunPlaysWrongFalsely : Prop := pagerunPlaysRow.holds Try.pinned (OpenSpec.ofChange pagerunPlaysWrong)

/-- 'steadinglaw06.PagerunAll': WHATEVER THE INPUT: true; the input reads as it did. -/
def pagerunAllSpec : ChangeSpec := { name := "pagerunAll", fn := fun _ => fun
  | [d1, d2, d3] => { results := [.lit (.bool true)], args := [d1, d2, d3] }
  | _ => none }
def pagerunAllRow : OpenClaim := { program := "ytdkedgdieoojgaa", sum := "1af5d48a0bfc5541bcf2daae1e88667a00a4ef05bfcb02fe6a175d008462d3e8", func := "steading/steadinglaw06.PagerunAll", spec := "pagerunAll", unfollowed := true, recurses := true, apart := false }
def PagerunAllSaid : Prop := pagerunAllRow.holds Try.pinned (OpenSpec.ofChange pagerunAllSpec)

/-- ITS FALSE NEIGHBOUR: 'it returns false'. Refute it at one input. -/
def pagerunAllWrong : ChangeSpec := { name := "pagerunAll", fn := fun _ => fun
  | [d1, d2, d3] => { results := [.lit (.bool false)], args := [d1, d2, d3] }
  | _ => none }
def PagerunAllWrongFalsely : Prop := pagerunAllRow.holds Try.pinned (OpenSpec.ofChange pagerunAllWrong)

/-- 'steadinglaw06.PagerunOnce': WHATEVER THE INPUT: true; the input reads as it did. -/
def pagerunOnceSpec : ChangeSpec := { name := "pagerunOnce", fn := fun _ => fun
  | [d1, d2] => { results := [.lit (.bool true)], args := [d1, d2] }
  | _ => none }
def pagerunOnceRow : OpenClaim := { program := "ytdkedgdieoojgaa", sum := "1af5d48a0bfc5541bcf2daae1e88667a00a4ef05bfcb02fe6a175d008462d3e8", func := "steading/steadinglaw06.PagerunOnce", spec := "pagerunOnce", unfollowed := true, recurses := true, apart := false }
def PagerunOnceSaid : Prop := pagerunOnceRow.holds Try.pinned (OpenSpec.ofChange pagerunOnceSpec)

/-- ITS FALSE NEIGHBOUR: 'it returns false'. Refute it at one input. -/
def pagerunOnceWrong : ChangeSpec := { name := "pagerunOnce", fn := fun _ => fun
  | [d1, d2] => { results := [.lit (.bool false)], args := [d1, d2] }
  | _ => none }
def PagerunOnceWrongFalsely : Prop := pagerunOnceRow.holds Try.pinned (OpenSpec.ofChange pagerunOnceWrong)

/- THE SECOND FORM. 'bulk': how many values and letters a reading holds, each counted each time it is reached (what is shared counts as often as it is met; a slice's spare places count too). A statement '..UptoSaid' is the law's where the arguments, and the package variables that the reading takes, are together of bulk at most 1048576: NARROWER than '..Said'. Prove '..Said' where nothing that the law and all that it calls make is longer than what came in: it says more and counts as full. Else prove '..UptoSaid'. A law counts once. -/
mutual
def uptoBulk {H : Type} : DataW H → Nat
  | .lit (.string bytes) => bytes.length + 1
  | .lit _ => 1
  | .nil => 1
  | .ptr d => uptoBulk d + 1
  | .slice elems spare => uptoBulkAll elems + uptoBulkAll spare + 1
  | .agg parts => uptoBulkAll parts + 1
  | .iface _ d => uptoBulk d + 1
  | .map entries => uptoBulkEntries entries + 1
  | .held _ => 1
def uptoBulkAll {H : Type} : List (DataW H) → Nat
  | [] => 0
  | d :: r => uptoBulk d + uptoBulkAll r
def uptoBulkEntries {H : Type} : List (Lit × DataW H) → Nat
  | [] => 0
  | x :: r => uptoBulkEntry x + uptoBulkEntries r
def uptoBulkEntry {H : Type} : Lit × DataW H → Nat
  | (.string bytes, d) => bytes.length + uptoBulk d + 1
  | (_, d) => uptoBulk d + 1
 end
def uptoSmall : (H : Type) → List (DataW H) → Bool := fun _ ds => decide (uptoBulkAll ds ≤ 1048576)
def OpenSpec.upto (s : _root_.Go.ChangeSpec) : _root_.Go.OpenSpec := { _root_.Go.OpenSpec.ofChange s with cond := some uptoSmall }

/-- 'steadinglaw06.PagerunFull', WHERE WHAT IT READS IS OF BULK AT MOST 1048576: true; the input reads as it did. -/
def pagerunFullUptoRow : OpenClaim := { program := "ytdkedgdieoojgaa", sum := "1af5d48a0bfc5541bcf2daae1e88667a00a4ef05bfcb02fe6a175d008462d3e8", func := "steading/steadinglaw06.PagerunFull", spec := "pagerunFull", unfollowed := true, recurses := true, apart := false, narrowed := true }
def PagerunFullUptoSaid : Prop := pagerunFullUptoRow.holds Try.pinned (OpenSpec.upto pagerunFullSpec)

/-- 'steadinglaw06.PagerunBack', WHERE WHAT IT READS IS OF BULK AT MOST 1048576: true; the input reads as it did. -/
def pagerunBackUptoRow : OpenClaim := { program := "ytdkedgdieoojgaa", sum := "1af5d48a0bfc5541bcf2daae1e88667a00a4ef05bfcb02fe6a175d008462d3e8", func := "steading/steadinglaw06.PagerunBack", spec := "pagerunBack", unfollowed := true, recurses := true, apart := false, narrowed := true }
def PagerunBackUptoSaid : Prop := pagerunBackUptoRow.holds Try.pinned (OpenSpec.upto pagerunBackSpec)

/-- 'steadinglaw06.PagerunPlays', WHERE WHAT IT READS IS OF BULK AT MOST 1048576: true; the input reads as it did. -/
def pagerunPlaysUptoRow : OpenClaim := { program := "ytdkedgdieoojgaa", sum := "1af5d48a0bfc5541bcf2daae1e88667a00a4ef05bfcb02fe6a175d008462d3e8", func := "steading/steadinglaw06.PagerunPlays", spec := "pagerunPlays", unfollowed := true, recurses := true, apart := false, narrowed := true }
def PagerunPlaysUptoSaid : Prop := pagerunPlaysUptoRow.holds Try.pinned (OpenSpec.upto pagerunPlaysSpec)

/-- 'steadinglaw06.PagerunAll', WHERE WHAT IT READS IS OF BULK AT MOST 1048576: true; the input reads as it did. -/
def pagerunAllUptoRow : OpenClaim := { program := "ytdkedgdieoojgaa", sum := "1af5d48a0bfc5541bcf2daae1e88667a00a4ef05bfcb02fe6a175d008462d3e8", func := "steading/steadinglaw06.PagerunAll", spec := "pagerunAll", unfollowed := true, recurses := true, apart := false, narrowed := true }
def PagerunAllUptoSaid : Prop := pagerunAllUptoRow.holds Try.pinned (OpenSpec.upto pagerunAllSpec)

/-- 'steadinglaw06.PagerunOnce', WHERE WHAT IT READS IS OF BULK AT MOST 1048576: true; the input reads as it did. -/
def pagerunOnceUptoRow : OpenClaim := { program := "ytdkedgdieoojgaa", sum := "1af5d48a0bfc5541bcf2daae1e88667a00a4ef05bfcb02fe6a175d008462d3e8", func := "steading/steadinglaw06.PagerunOnce", spec := "pagerunOnce", unfollowed := true, recurses := true, apart := false, narrowed := true }
def PagerunOnceUptoSaid : Prop := pagerunOnceUptoRow.holds Try.pinned (OpenSpec.upto pagerunOnceSpec)

end Rows
end Go.Proofs.Ytdkedgdieoojgaa
