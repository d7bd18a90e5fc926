/-
  No cell of these rows narrows 'for every input' (looked for: loops, veiled, ifaces, maps, wideKeys, modest, calm, conditions, laid).
  DERIVED. THE GIVEN ROWS OF THIS SEAT. 5 by the template 'for every input the law returns true; each argument reads behind the call as it read before'; 0 by the template 'total and deterministic' (their statements: YtcnmhmbdbadbmaaTotals.lean).
  GIVEN WITH THE SEED: the statements are not yours to turn. If you find one false, say at which input.
  Laid BY PROGRAM, IN A SANDBOX (cutbox-rows.mjs): the forced cells as the released guide's own fill.sh prints them over the translation 000c7c71e21b2856… (all of the seat's roots in one cut). By AI agents, Wed Nov 11 2026. No macro, syntax, notation, axiom, sorry.
-/
import Derived.Test.YtcnmhmbdbadbmaaChecked
import GoSem.Claim
import GoSem.ClaimJoined
import GoSem.ClaimMapViews
import Derived.JoinedTies
import Derived.KernelRfl
namespace Go.Proofs.Ytcnmhmbdbadbmaa
/- THE CELL 'sum', in the pinned program and in every row, IS THE sha256 OF THE DUMP (.gsa) THAT YtcnmhmbdbadbmaaProg.lean LOADS. Nothing in Lean hashes anything: it is a label: what it is worth is what the hold of that sum in a sandbox is worth. -/
noncomputable def Try.pinned : Pinned := { name := "ytcnmhmbdbadbmaa", sum := "000c7c71e21b2856741ea77ceb68b1e812dbde491f581e9ae70fd843311bd7c0", checked := Try.checked }
namespace Rows
def none {H : Type} : Left H := { results := [], args := [] }

/-- 'demesnelaw15.CallReads': WHATEVER THE INPUT: true; the input reads as it did. -/
def callReadsSpec : ChangeSpec := { name := "callReads", fn := fun _ => fun
  | [d] => { results := [.lit (.bool true)], args := [d] }
  | _ => none }
def callReadsRow : OpenClaim := { program := "ytcnmhmbdbadbmaa", sum := "000c7c71e21b2856741ea77ceb68b1e812dbde491f581e9ae70fd843311bd7c0", func := "demesne/demesnelaw15.CallReads", spec := "callReads", unfollowed := true, recurses := true, apart := false }
def CallReadsSaid : Prop := callReadsRow.holds Try.pinned (OpenSpec.ofChange callReadsSpec)

/-- ITS FALSE NEIGHBOUR: 'it returns false'. Refute it at one input. -/
def callReadsWrong : ChangeSpec := { name := "callReads", fn := fun _ => fun
  | [d] => { results := [.lit (.bool false)], args := [d] }
  | _ => none }
def CallReadsWrongFalsely : Prop := callReadsRow.holds Try.pinned (OpenSpec.ofChange callReadsWrong)

/-- 'demesnelaw15.CallZeros': WHATEVER THE INPUT: true; the input reads as it did. -/
def callZerosSpec : ChangeSpec := { name := "callZeros", fn := fun _ => fun
  | [d1, d2, d3] => { results := [.lit (.bool true)], args := [d1, d2, d3] }
  | _ => none }
def callZerosRow : OpenClaim := { program := "ytcnmhmbdbadbmaa", sum := "000c7c71e21b2856741ea77ceb68b1e812dbde491f581e9ae70fd843311bd7c0", func := "demesne/demesnelaw15.CallZeros", spec := "callZeros", unfollowed := true, recurses := true, apart := false }
def CallZerosSaid : Prop := callZerosRow.holds Try.pinned (OpenSpec.ofChange callZerosSpec)

/-- ITS FALSE NEIGHBOUR: 'it returns false'. Refute it at one input. -/
def callZerosWrong : ChangeSpec := { name := "callZeros", fn := fun _ => fun
  | [d1, d2, d3] => { results := [.lit (.bool false)], args := [d1, d2, d3] }
  | _ => none }
def CallZerosWrongFalsely : Prop := callZerosRow.holds Try.pinned (OpenSpec.ofChange callZerosWrong)

/-- 'demesnelaw15.CallBits': WHATEVER THE INPUT: true; the input reads as it did. -/
def callBitsSpec : ChangeSpec := { name := "callBits", fn := fun _ => fun
  | [d1, d2, d3] => { results := [.lit (.bool true)], args := [d1, d2, d3] }
  | _ => none }
def callBitsRow : OpenClaim := { program := "ytcnmhmbdbadbmaa", sum := "000c7c71e21b2856741ea77ceb68b1e812dbde491f581e9ae70fd843311bd7c0", func := "demesne/demesnelaw15.CallBits", spec := "callBits", unfollowed := true, recurses := true, apart := false }
def CallBitsSaid : Prop := callBitsRow.holds Try.pinned (OpenSpec.ofChange callBitsSpec)

/-- ITS FALSE NEIGHBOUR: 'it returns false'. Refute it at one input. -/
def callBitsWrong : ChangeSpec := { name := "callBits", fn := fun _ => fun
  | [d1, d2, d3] => { results := [.lit (.bool false)], args := [d1, d2, d3] }
  | _ => none }
def CallBitsWrongFalsely : Prop := callBitsRow.holds Try.pinned (OpenSpec.ofChange callBitsWrong)

/-- 'demesnelaw15.CallOps': WHATEVER THE INPUT: true; the input reads as it did. -/
def callOpsSpec : ChangeSpec := { name := "callOps", fn := fun _ => fun
  | [d1, d2] => { results := [.lit (.bool true)], args := [d1, d2] }
  | _ => none }
def callOpsRow : OpenClaim := { program := "ytcnmhmbdbadbmaa", sum := "000c7c71e21b2856741ea77ceb68b1e812dbde491f581e9ae70fd843311bd7c0", func := "demesne/demesnelaw15.CallOps", spec := "callOps", unfollowed := true, recurses := true, apart := false }
def CallOpsSaid : Prop := callOpsRow.holds Try.pinned (OpenSpec.ofChange callOpsSpec)

/-- ITS FALSE NEIGHBOUR: 'it returns false'. Refute it at one input. -/
def callOpsWrong : ChangeSpec := { name := "callOps", fn := fun _ => fun
  | [d1, d2] => { results := [.lit (.bool false)], args := [d1, d2] }
  | _ => none }
def CallOpsWrongFalsely : Prop := callOpsRow.holds Try.pinned (OpenSpec.ofChange callOpsWrong)

/-- 'demesnelaw15.CallWrites': WHATEVER THE INPUT: true; the input reads as it did. -/
def callWritesSpec : ChangeSpec := { name := "callWrites", fn := fun _ => fun
  | [d1, d2] => { results := [.lit (.bool true)], args := [d1, d2] }
  | _ => none }
def callWritesRow : OpenClaim := { program := "ytcnmhmbdbadbmaa", sum := "000c7c71e21b2856741ea77ceb68b1e812dbde491f581e9ae70fd843311bd7c0", func := "demesne/demesnelaw15.CallWrites", spec := "callWrites", unfollowed := true, recurses := true, apart := false }
def CallWritesSaid : Prop := callWritesRow.holds Try.pinned (OpenSpec.ofChange callWritesSpec)

/-- ITS FALSE NEIGHBOUR: 'it returns false'. Refute it at one input. -/
def callWritesWrong : ChangeSpec := { name := "callWrites", fn := fun _ => fun
  | [d1, d2] => { results := [.lit (.bool false)], args := [d1, d2] }
  | _ => none }
def CallWritesWrongFalsely : Prop := callWritesRow.holds Try.pinned (OpenSpec.ofChange callWritesWrong)

/- THE SECOND FORM. 'bulk': how many values and letters a reading holds, each counted each time it is reached (what is shared counts as often as it is met; a slice's spare places count too). A statement '..UptoSaid' is the law's where the arguments, and the package variables that the reading takes, are together of bulk at most 1048576: NARROWER than '..Said'. Prove '..Said' where nothing that the law and all that it calls make is longer than what came in: it says more and counts as full. Else prove '..UptoSaid'. A law counts once. -/
mutual
def uptoBulk {H : Type} : DataW H → Nat
  | .lit (.string bytes) => bytes.length + 1
  | .lit _ => 1
  | .nil => 1
  | .ptr d => uptoBulk d + 1
  | .slice elems spare => uptoBulkAll elems + uptoBulkAll spare + 1
  | .agg parts => uptoBulkAll parts + 1
  | .iface _ d => uptoBulk d + 1
  | .map entries => uptoBulkEntries entries + 1
  | .held _ => 1
def uptoBulkAll {H : Type} : List (DataW H) → Nat
  | [] => 0
  | d :: r => uptoBulk d + uptoBulkAll r
def uptoBulkEntries {H : Type} : List (Lit × DataW H) → Nat
  | [] => 0
  | x :: r => uptoBulkEntry x + uptoBulkEntries r
def uptoBulkEntry {H : Type} : Lit × DataW H → Nat
  | (.string bytes, d) => bytes.length + uptoBulk d + 1
  | (_, d) => uptoBulk d + 1
 end
def uptoSmall : (H : Type) → List (DataW H) → Bool := fun _ ds => decide (uptoBulkAll ds ≤ 1048576)
def OpenSpec.upto (s : _root_.Go.ChangeSpec) : _root_.Go.OpenSpec := { _root_.Go.OpenSpec.ofChange s with cond := some uptoSmall }

/-- 'demesnelaw15.CallReads', WHERE WHAT IT READS IS OF BULK AT MOST 1048576: true; the input reads as it did. -/
def callReadsUptoRow : OpenClaim := { program := "ytcnmhmbdbadbmaa", sum := "000c7c71e21b2856741ea77ceb68b1e812dbde491f581e9ae70fd843311bd7c0", func := "demesne/demesnelaw15.CallReads", spec := "callReads", unfollowed := true, recurses := true, apart := false, narrowed := true }
def CallReadsUptoSaid : Prop := callReadsUptoRow.holds Try.pinned (OpenSpec.upto callReadsSpec)

/-- 'demesnelaw15.CallZeros', WHERE WHAT IT READS IS OF BULK AT MOST 1048576: true; the input reads as it did. -/
def callZerosUptoRow : OpenClaim := { program := "ytcnmhmbdbadbmaa", sum := "000c7c71e21b2856741ea77ceb68b1e812dbde491f581e9ae70fd843311bd7c0", func := "demesne/demesnelaw15.CallZeros", spec := "callZeros", unfollowed := true, recurses := true, apart := false, narrowed := true }
def CallZerosUptoSaid : Prop := callZerosUptoRow.holds Try.pinned (OpenSpec.upto callZerosSpec)

/-- 'demesnelaw15.CallBits', WHERE WHAT IT READS IS OF BULK AT MOST 1048576: true; the input reads as it did. -/
def callBitsUptoRow : OpenClaim := { program := "ytcnmhmbdbadbmaa", sum := "000c7c71e21b2856741ea77ceb68b1e812dbde491f581e9ae70fd843311bd7c0", func := "demesne/demesnelaw15.CallBits", spec := "callBits", unfollowed := true, recurses := true, apart := false, narrowed := true }
def CallBitsUptoSaid : Prop := callBitsUptoRow.holds Try.pinned (OpenSpec.upto callBitsSpec)

/-- 'demesnelaw15.CallOps', WHERE WHAT IT READS IS OF BULK AT MOST 1048576: true; the input reads as it did. -/
def callOpsUptoRow : OpenClaim := { program := "ytcnmhmbdbadbmaa", sum := "000c7c71e21b2856741ea77ceb68b1e812dbde491f581e9ae70fd843311bd7c0", func := "demesne/demesnelaw15.CallOps", spec := "callOps", unfollowed := true, recurses := true, apart := false, narrowed := true }
def CallOpsUptoSaid : Prop := callOpsUptoRow.holds Try.pinned (OpenSpec.upto callOpsSpec)

/-- 'demesnelaw15.CallWrites', WHERE WHAT IT READS IS OF BULK AT MOST 1048576: true; the input reads as it did. -/
def callWritesUptoRow : OpenClaim := { program := "ytcnmhmbdbadbmaa", sum := "000c7c71e21b2856741ea77ceb68b1e812dbde491f581e9ae70fd843311bd7c0", func := "demesne/demesnelaw15.CallWrites", spec := "callWrites", unfollowed := true, recurses := true, apart := false, narrowed := true }
def CallWritesUptoSaid : Prop := callWritesUptoRow.holds Try.pinned (OpenSpec.upto callWritesSpec)

end Rows
end Go.Proofs.Ytcnmhmbdbadbmaa
