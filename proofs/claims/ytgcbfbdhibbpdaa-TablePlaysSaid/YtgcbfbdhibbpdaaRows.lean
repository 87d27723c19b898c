/-
  No cell of these rows narrows 'for every input' (looked for: loops, veiled, ifaces, maps, wideKeys, modest, calm, conditions, laid).
  DERIVED. THE GIVEN ROWS OF THIS SEAT. 5 by the template 'for every input the law returns true; each argument reads behind the call as it read before'; 0 by the template 'total and deterministic' (their statements: YtgcbfbdhibbpdaaTotals.lean).
  GIVEN WITH THE SEED: the statements are not yours to turn. If you find one false, say at which input.
  Laid BY PROGRAM, IN A SANDBOX (cutbox-rows.mjs): the forced cells as the released guide's own fill.sh prints them over the translation 8619add6f046d717… (all of the seat's roots in one cut). By AI agents, Wed Nov 11 2026. No macro, syntax, notation, axiom, sorry.
-/
import Derived.Test.YtgcbfbdhibbpdaaChecked
import GoSem.Claim
import GoSem.ClaimJoined
import GoSem.ClaimMapViews
import Derived.JoinedTies
import Derived.KernelRfl
namespace Go.Proofs.Ytgcbfbdhibbpdaa
/- THE CELL 'sum', in the pinned program and in every row, IS THE sha256 OF THE DUMP (.gsa) THAT YtgcbfbdhibbpdaaProg.lean LOADS. Nothing in Lean hashes anything: it is a label: what it is worth is what the hold of that sum in a sandbox is worth. -/
noncomputable def Try.pinned : Pinned := { name := "ytgcbfbdhibbpdaa", sum := "8619add6f046d717264edd68835e5a12e3f53ed5ae1f59a75e4fe0225322e6f5", checked := Try.checked }
namespace Rows
def none {H : Type} : Left H := { results := [], args := [] }

/-- 'steadinglaw13.TableReuse': WHATEVER THE INPUT: true; the input reads as it did. -/
def tableReuseSpec : ChangeSpec := { name := "tableReuse", fn := fun _ => fun
  | [d1, d2] => { results := [.lit (.bool true)], args := [d1, d2] }
  | _ => none }
def tableReuseRow : OpenClaim := { program := "ytgcbfbdhibbpdaa", sum := "8619add6f046d717264edd68835e5a12e3f53ed5ae1f59a75e4fe0225322e6f5", func := "steading/steadinglaw13.TableReuse", spec := "tableReuse", unfollowed := true, recurses := true, apart := false }
def TableReuseSaid : Prop := tableReuseRow.holds Try.pinned (OpenSpec.ofChange tableReuseSpec)

/-- ITS FALSE NEIGHBOUR: 'it returns false'. Refute it at one input. -/
def tableReuseWrong : ChangeSpec := { name := "tableReuse", fn := fun _ => fun
  | [d1, d2] => { results := [.lit (.bool false)], args := [d1, d2] }
  | _ => none }
def TableReuseWrongFalsely : Prop := tableReuseRow.holds Try.pinned (OpenSpec.ofChange tableReuseWrong)

/-- 'steadinglaw13.TableStale': WHATEVER THE INPUT: true; the input reads as it did. -/
def tableStaleSpec : ChangeSpec := { name := "tableStale", fn := fun _ => fun
  | [d] => { results := [.lit (.bool true)], args := [d] }
  | _ => none }
def tableStaleRow : OpenClaim := { program := "ytgcbfbdhibbpdaa", sum := "8619add6f046d717264edd68835e5a12e3f53ed5ae1f59a75e4fe0225322e6f5", func := "steading/steadinglaw13.TableStale", spec := "tableStale", unfollowed := true, recurses := true, apart := false }
def TableStaleSaid : Prop := tableStaleRow.holds Try.pinned (OpenSpec.ofChange tableStaleSpec)

/-- ITS FALSE NEIGHBOUR: 'it returns false'. Refute it at one input. -/
def tableStaleWrong : ChangeSpec := { name := "tableStale", fn := fun _ => fun
  | [d] => { results := [.lit (.bool false)], args := [d] }
  | _ => none }
def TableStaleWrongFalsely : Prop := tableStaleRow.holds Try.pinned (OpenSpec.ofChange tableStaleWrong)

/-- 'steadinglaw13.TableKinds': WHATEVER THE INPUT: true; the input reads as it did. -/
def tableKindsSpec : ChangeSpec := { name := "tableKinds", fn := fun _ => fun
  | [d1, d2, d3, d4] => { results := [.lit (.bool true)], args := [d1, d2, d3, d4] }
  | _ => none }
def tableKindsRow : OpenClaim := { program := "ytgcbfbdhibbpdaa", sum := "8619add6f046d717264edd68835e5a12e3f53ed5ae1f59a75e4fe0225322e6f5", func := "steading/steadinglaw13.TableKinds", spec := "tableKinds", unfollowed := true, recurses := true, apart := false }
def TableKindsSaid : Prop := tableKindsRow.holds Try.pinned (OpenSpec.ofChange tableKindsSpec)

/-- ITS FALSE NEIGHBOUR: 'it returns false'. Refute it at one input. -/
def tableKindsWrong : ChangeSpec := { name := "tableKinds", fn := fun _ => fun
  | [d1, d2, d3, d4] => { results := [.lit (.bool false)], args := [d1, d2, d3, d4] }
  | _ => none }
def TableKindsWrongFalsely : Prop := tableKindsRow.holds Try.pinned (OpenSpec.ofChange tableKindsWrong)

/-- 'steadinglaw13.TablePlays': WHATEVER THE INPUT: true; the input reads as it did. -/
def tablePlaysSpec : ChangeSpec := { name := "tablePlays", fn := fun _ => fun
  | [d1, d2] => { results := [.lit (.bool true)], args := [d1, d2] }
  | _ => none }
def tablePlaysRow : OpenClaim := { program := "ytgcbfbdhibbpdaa", sum := "8619add6f046d717264edd68835e5a12e3f53ed5ae1f59a75e4fe0225322e6f5", func := "steading/steadinglaw13.TablePlays", spec := "tablePlays", unfollowed := true, recurses := true, apart := false }
def TablePlaysSaid : Prop := tablePlaysRow.holds Try.pinned (OpenSpec.ofChange tablePlaysSpec)

/-- ITS FALSE NEIGHBOUR: 'it returns false'. Refute it at one input. -/
def tablePlaysWrong : ChangeSpec := { name := "tablePlays", fn := fun _ => fun
  | [d1, d2] => { results := [.lit (.bool false)], args := [d1, d2] }
  | _ => none }
def TablePlaysWrongFalsely : Prop := tablePlaysRow.holds Try.pinned (OpenSpec.ofChange tablePlaysWrong)

/-- 'steadinglaw13.TableHolds': WHATEVER THE INPUT: true; the input reads as it did. -/
def tableHoldsSpec : ChangeSpec := { name := "tableHolds", fn := fun _ => fun
  | [d] => { results := [.lit (.bool true)], args := [d] }
  | _ => none }
def tableHoldsRow : OpenClaim := { program := "ytgcbfbdhibbpdaa", sum := "8619add6f046d717264edd68835e5a12e3f53ed5ae1f59a75e4fe0225322e6f5", func := "steading/steadinglaw13.TableHolds", spec := "tableHolds", unfollowed := true, recurses := true, apart := false }
def TableHoldsSaid : Prop := tableHoldsRow.holds Try.pinned (OpenSpec.ofChange tableHoldsSpec)

/-- ITS FALSE NEIGHBOUR: 'it returns false'. Refute it at one input. -/
def tableHoldsWrong : ChangeSpec := { name := "tableHolds", fn := fun _ => fun
  | [d] => { results := [.lit (.bool false)], args := [d] }
  | _ => none }
def TableHoldsWrongFalsely : Prop := tableHoldsRow.holds Try.pinned (OpenSpec.ofChange tableHoldsWrong)

/- THE SECOND FORM. 'bulk': how many values and letters a reading holds, each counted each time it is reached (what is shared counts as often as it is met; a slice's spare places count too). A statement '..UptoSaid' is the law's where the arguments, and the package variables that the reading takes, are together of bulk at most 1048576: NARROWER than '..Said'. Prove '..Said' where nothing that the law and all that it calls make is longer than what came in: it says more and counts as full. Else prove '..UptoSaid'. A law counts once. -/
mutual
def uptoBulk {H : Type} : DataW H → Nat
  | .lit (.string bytes) => bytes.length + 1
  | .lit _ => 1
  | .nil => 1
  | .ptr d => uptoBulk d + 1
  | .slice elems spare => uptoBulkAll elems + uptoBulkAll spare + 1
  | .agg parts => uptoBulkAll parts + 1
  | .iface _ d => uptoBulk d + 1
  | .map entries => uptoBulkEntries entries + 1
  | .held _ => 1
def uptoBulkAll {H : Type} : List (DataW H) → Nat
  | [] => 0
  | d :: r => uptoBulk d + uptoBulkAll r
def uptoBulkEntries {H : Type} : List (Lit × DataW H) → Nat
  | [] => 0
  | x :: r => uptoBulkEntry x + uptoBulkEntries r
def uptoBulkEntry {H : Type} : Lit × DataW H → Nat
  | (.string bytes, d) => bytes.length + uptoBulk d + 1
  | (_, d) => uptoBulk d + 1
 end
def uptoSmall : (H : Type) → List (DataW H) → Bool := fun _ ds => decide (uptoBulkAll ds ≤ 1048576)
def OpenSpec.upto (s : _root_.Go.ChangeSpec) : _root_.Go.OpenSpec := { _root_.Go.OpenSpec.ofChange s with cond := some uptoSmall }

/-- 'steadinglaw13.TableReuse', WHERE WHAT IT READS IS OF BULK AT MOST 1048576: true; the input reads as it did. -/
def tableReuseUptoRow : OpenClaim := { program := "ytgcbfbdhibbpdaa", sum := "8619add6f046d717264edd68835e5a12e3f53ed5ae1f59a75e4fe0225322e6f5", func := "steading/steadinglaw13.TableReuse", spec := "tableReuse", unfollowed := true, recurses := true, apart := false, narrowed := true }
def TableReuseUptoSaid : Prop := tableReuseUptoRow.holds Try.pinned (OpenSpec.upto tableReuseSpec)

/-- 'steadinglaw13.TableStale', WHERE WHAT IT READS IS OF BULK AT MOST 1048576: true; the input reads as it did. -/
def tableStaleUptoRow : OpenClaim := { program := "ytgcbfbdhibbpdaa", sum := "8619add6f046d717264edd68835e5a12e3f53ed5ae1f59a75e4fe0225322e6f5", func := "steading/steadinglaw13.TableStale", spec := "tableStale", unfollowed := true, recurses := true, apart := false, narrowed := true }
def TableStaleUptoSaid : Prop := tableStaleUptoRow.holds Try.pinned (OpenSpec.upto tableStaleSpec)

/-- 'steadinglaw13.TableKinds', WHERE WHAT IT READS IS OF BULK AT MOST 1048576: true; the input reads as it did. -/
def tableKindsUptoRow : OpenClaim := { program := "ytgcbfbdhibbpdaa", sum := "8619add6f046d717264edd68835e5a12e3f53ed5ae1f59a75e4fe0225322e6f5", func := "steading/steadinglaw13.TableKinds", spec := "tableKinds", unfollowed := true, recurses := true, apart := false, narrowed := true }
def TableKindsUptoSaid : Prop := tableKindsUptoRow.holds Try.pinned (OpenSpec.upto tableKindsSpec)

/-- 'steadinglaw13.TablePlays', WHERE WHAT IT READS IS OF BULK AT MOST 1048576: true; the input reads as it did. -/
def tablePlaysUptoRow : OpenClaim := { program := "ytgcbfbdhibbpdaa", sum := "8619add6f046d717264edd68835e5a12e3f53ed5ae1f59a75e4fe0225322e6f5", func := "steading/steadinglaw13.TablePlays", spec := "tablePlays", unfollowed := true, recurses := true, apart := false, narrowed := true }
def TablePlaysUptoSaid : Prop := tablePlaysUptoRow.holds Try.pinned (OpenSpec.upto tablePlaysSpec)

/-- 'steadinglaw13.TableHolds', WHERE WHAT IT READS IS OF BULK AT MOST 1048576: true; the input reads as it did. -/
def tableHoldsUptoRow : OpenClaim := { program := "ytgcbfbdhibbpdaa", sum := "8619add6f046d717264edd68835e5a12e3f53ed5ae1f59a75e4fe0225322e6f5", func := "steading/steadinglaw13.TableHolds", spec := "tableHolds", unfollowed := true, recurses := true, apart := false, narrowed := true }
def TableHoldsUptoSaid : Prop := tableHoldsUptoRow.holds Try.pinned (OpenSpec.upto tableHoldsSpec)

end Rows
end Go.Proofs.Ytgcbfbdhibbpdaa
