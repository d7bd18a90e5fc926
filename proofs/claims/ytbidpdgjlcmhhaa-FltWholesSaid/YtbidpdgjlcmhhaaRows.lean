/-
  No cell of these rows narrows 'for every input' (looked for: loops, veiled, ifaces, maps, wideKeys, modest, calm, conditions, laid).
  DERIVED. THE GIVEN ROWS OF THIS SEAT. 8 by the template 'for every input the law returns true; each argument reads behind the call as it read before'; 0 by the template 'total and deterministic' (their statements: YtbidpdgjlcmhhaaTotals.lean).
  GIVEN WITH THE SEED: the statements are not yours to turn. If you find one false, say at which input.
  Laid BY PROGRAM, IN A SANDBOX (cutbox-rows.mjs): the forced cells as the released guide's own fill.sh prints them over the translation ea71f075acf7283f… (all of the seat's roots in one cut). By AI agents, Wed Nov 11 2026. No macro, syntax, notation, axiom, sorry.
-/
import Derived.Test.YtbidpdgjlcmhhaaChecked
import GoSem.Claim
import GoSem.ClaimJoined
import GoSem.ClaimMapViews
import Derived.JoinedTies
import Derived.KernelRfl
namespace Go.Proofs.Ytbidpdgjlcmhhaa
/- THE CELL 'sum', in the pinned program and in every row, IS THE sha256 OF THE DUMP (.gsa) THAT YtbidpdgjlcmhhaaProg.lean LOADS. Nothing in Lean hashes anything: it is a label: what it is worth is what the hold of that sum in a sandbox is worth. -/
noncomputable def Try.pinned : Pinned := { name := "ytbidpdgjlcmhhaa", sum := "ea71f075acf7283fc4feb95471309636eb4ea9f3cc4a777299bc4b11734e7873", checked := Try.checked }
namespace Rows
def none {H : Type} : Left H := { results := [], args := [] }

/-- 'demesnelaw02.FltOrders': WHATEVER THE INPUT: true; the input reads as it did. -/
def fltOrdersSpec : ChangeSpec := { name := "fltOrders", fn := fun _ => fun
  | [d1, d2] => { results := [.lit (.bool true)], args := [d1, d2] }
  | _ => none }
def fltOrdersRow : OpenClaim := { program := "ytbidpdgjlcmhhaa", sum := "ea71f075acf7283fc4feb95471309636eb4ea9f3cc4a777299bc4b11734e7873", func := "demesne/demesnelaw02.FltOrders", spec := "fltOrders", inPlace := ["math.Float64bits", "math.Float64frombits"], apart := false }
def FltOrdersSaid : Prop := fltOrdersRow.holds Try.pinned (OpenSpec.ofChange fltOrdersSpec)

/-- ITS FALSE NEIGHBOUR: 'it returns false'. Refute it at one input. -/
def fltOrdersWrong : ChangeSpec := { name := "fltOrders", fn := fun _ => fun
  | [d1, d2] => { results := [.lit (.bool false)], args := [d1, d2] }
  | _ => none }
def FltOrdersWrongFalsely : Prop := fltOrdersRow.holds Try.pinned (OpenSpec.ofChange fltOrdersWrong)

/-- 'demesnelaw02.FltDoes': WHATEVER THE INPUT: true; the input reads as it did. -/
def fltDoesSpec : ChangeSpec := { name := "fltDoes", fn := fun _ => fun
  | [d1, d2, d3] => { results := [.lit (.bool true)], args := [d1, d2, d3] }
  | _ => none }
def fltDoesRow : OpenClaim := { program := "ytbidpdgjlcmhhaa", sum := "ea71f075acf7283fc4feb95471309636eb4ea9f3cc4a777299bc4b11734e7873", func := "demesne/demesnelaw02.FltDoes", spec := "fltDoes", inPlace := ["math.Float64frombits", "math.Float64bits"], apart := false }
def FltDoesSaid : Prop := fltDoesRow.holds Try.pinned (OpenSpec.ofChange fltDoesSpec)

/-- ITS FALSE NEIGHBOUR: 'it returns false'. Refute it at one input. -/
def fltDoesWrong : ChangeSpec := { name := "fltDoes", fn := fun _ => fun
  | [d1, d2, d3] => { results := [.lit (.bool false)], args := [d1, d2, d3] }
  | _ => none }
def FltDoesWrongFalsely : Prop := fltDoesRow.holds Try.pinned (OpenSpec.ofChange fltDoesWrong)

/-- 'demesnelaw02.FltSides': WHATEVER THE INPUT: true; the input reads as it did. -/
def fltSidesSpec : ChangeSpec := { name := "fltSides", fn := fun _ => fun
  | [d1, d2, d3] => { results := [.lit (.bool true)], args := [d1, d2, d3] }
  | _ => none }
def fltSidesRow : OpenClaim := { program := "ytbidpdgjlcmhhaa", sum := "ea71f075acf7283fc4feb95471309636eb4ea9f3cc4a777299bc4b11734e7873", func := "demesne/demesnelaw02.FltSides", spec := "fltSides", inPlace := ["math.Float64frombits", "math.Float64bits"], apart := false }
def FltSidesSaid : Prop := fltSidesRow.holds Try.pinned (OpenSpec.ofChange fltSidesSpec)

/-- ITS FALSE NEIGHBOUR: 'it returns false'. Refute it at one input. -/
def fltSidesWrong : ChangeSpec := { name := "fltSides", fn := fun _ => fun
  | [d1, d2, d3] => { results := [.lit (.bool false)], args := [d1, d2, d3] }
  | _ => none }
def FltSidesWrongFalsely : Prop := fltSidesRow.holds Try.pinned (OpenSpec.ofChange fltSidesWrong)

/-- 'demesnelaw02.FltRanks': WHATEVER THE INPUT: true; the input reads as it did. -/
def fltRanksSpec : ChangeSpec := { name := "fltRanks", fn := fun _ => fun
  | [d1, d2, d3] => { results := [.lit (.bool true)], args := [d1, d2, d3] }
  | _ => none }
def fltRanksRow : OpenClaim := { program := "ytbidpdgjlcmhhaa", sum := "ea71f075acf7283fc4feb95471309636eb4ea9f3cc4a777299bc4b11734e7873", func := "demesne/demesnelaw02.FltRanks", spec := "fltRanks", inPlace := ["math.Float64frombits", "math.Float64bits"], apart := false }
def FltRanksSaid : Prop := fltRanksRow.holds Try.pinned (OpenSpec.ofChange fltRanksSpec)

/-- ITS FALSE NEIGHBOUR: 'it returns false'. Refute it at one input. -/
def fltRanksWrong : ChangeSpec := { name := "fltRanks", fn := fun _ => fun
  | [d1, d2, d3] => { results := [.lit (.bool false)], args := [d1, d2, d3] }
  | _ => none }
def FltRanksWrongFalsely : Prop := fltRanksRow.holds Try.pinned (OpenSpec.ofChange fltRanksWrong)

/-- 'demesnelaw02.FltOnes': WHATEVER THE INPUT: true; the input reads as it did. -/
def fltOnesSpec : ChangeSpec := { name := "fltOnes", fn := fun _ => fun
  | [d] => { results := [.lit (.bool true)], args := [d] }
  | _ => none }
def fltOnesRow : OpenClaim := { program := "ytbidpdgjlcmhhaa", sum := "ea71f075acf7283fc4feb95471309636eb4ea9f3cc4a777299bc4b11734e7873", func := "demesne/demesnelaw02.FltOnes", spec := "fltOnes", inPlace := ["math.Float64frombits", "math.Float64bits"], apart := false }
def FltOnesSaid : Prop := fltOnesRow.holds Try.pinned (OpenSpec.ofChange fltOnesSpec)

/-- ITS FALSE NEIGHBOUR: 'it returns false'. Refute it at one input. -/
def fltOnesWrong : ChangeSpec := { name := "fltOnes", fn := fun _ => fun
  | [d] => { results := [.lit (.bool false)], args := [d] }
  | _ => none }
def FltOnesWrongFalsely : Prop := fltOnesRow.holds Try.pinned (OpenSpec.ofChange fltOnesWrong)

/-- 'demesnelaw02.FltInts': WHATEVER THE INPUT: true; the input reads as it did. -/
def fltIntsSpec : ChangeSpec := { name := "fltInts", fn := fun _ => fun
  | [d1, d2] => { results := [.lit (.bool true)], args := [d1, d2] }
  | _ => none }
def fltIntsRow : OpenClaim := { program := "ytbidpdgjlcmhhaa", sum := "ea71f075acf7283fc4feb95471309636eb4ea9f3cc4a777299bc4b11734e7873", func := "demesne/demesnelaw02.FltInts", spec := "fltInts", inPlace := ["math.Float64frombits", "math.Float64bits"], apart := false }
def FltIntsSaid : Prop := fltIntsRow.holds Try.pinned (OpenSpec.ofChange fltIntsSpec)

/-- ITS FALSE NEIGHBOUR: 'it returns false'. Refute it at one input. -/
def fltIntsWrong : ChangeSpec := { name := "fltInts", fn := fun _ => fun
  | [d1, d2] => { results := [.lit (.bool false)], args := [d1, d2] }
  | _ => none }
def FltIntsWrongFalsely : Prop := fltIntsRow.holds Try.pinned (OpenSpec.ofChange fltIntsWrong)

/-- 'demesnelaw02.FltWhole': WHATEVER THE INPUT: true; the input reads as it did. -/
def fltWholeSpec : ChangeSpec := { name := "fltWhole", fn := fun _ => fun
  | [d1, d2] => { results := [.lit (.bool true)], args := [d1, d2] }
  | _ => none }
def fltWholeRow : OpenClaim := { program := "ytbidpdgjlcmhhaa", sum := "ea71f075acf7283fc4feb95471309636eb4ea9f3cc4a777299bc4b11734e7873", func := "demesne/demesnelaw02.FltWhole", spec := "fltWhole", inPlace := ["math.Float64bits", "math.Float64frombits"], apart := false }
def FltWholeSaid : Prop := fltWholeRow.holds Try.pinned (OpenSpec.ofChange fltWholeSpec)

/-- ITS FALSE NEIGHBOUR: 'it returns false'. Refute it at one input. -/
def fltWholeWrong : ChangeSpec := { name := "fltWhole", fn := fun _ => fun
  | [d1, d2] => { results := [.lit (.bool false)], args := [d1, d2] }
  | _ => none }
def FltWholeWrongFalsely : Prop := fltWholeRow.holds Try.pinned (OpenSpec.ofChange fltWholeWrong)

/-- 'demesnelaw02.FltWholes': WHATEVER THE INPUT: true; the input reads as it did. -/
def fltWholesSpec : ChangeSpec := { name := "fltWholes", fn := fun _ => fun
  | [d] => { results := [.lit (.bool true)], args := [d] }
  | _ => none }
def fltWholesRow : OpenClaim := { program := "ytbidpdgjlcmhhaa", sum := "ea71f075acf7283fc4feb95471309636eb4ea9f3cc4a777299bc4b11734e7873", func := "demesne/demesnelaw02.FltWholes", spec := "fltWholes", inPlace := ["math.Float64frombits", "math.Float64bits"], apart := false }
def FltWholesSaid : Prop := fltWholesRow.holds Try.pinned (OpenSpec.ofChange fltWholesSpec)

/-- ITS FALSE NEIGHBOUR: 'it returns false'. Refute it at one input. -/
def fltWholesWrong : ChangeSpec := { name := "fltWholes", fn := fun _ => fun
  | [d] => { results := [.lit (.bool false)], args := [d] }
  | _ => none }
def FltWholesWrongFalsely : Prop := fltWholesRow.holds Try.pinned (OpenSpec.ofChange fltWholesWrong)

/- THE SECOND FORM. 'bulk': how many values and letters a reading holds, each counted each time it is reached (what is shared counts as often as it is met; a slice's spare places count too). A statement '..UptoSaid' is the law's where the arguments, and the package variables that the reading takes, are together of bulk at most 1048576: NARROWER than '..Said'. Prove '..Said' where nothing that the law and all that it calls make is longer than what came in: it says more and counts as full. Else prove '..UptoSaid'. A law counts once. -/
mutual
def uptoBulk {H : Type} : DataW H → Nat
  | .lit (.string bytes) => bytes.length + 1
  | .lit _ => 1
  | .nil => 1
  | .ptr d => uptoBulk d + 1
  | .slice elems spare => uptoBulkAll elems + uptoBulkAll spare + 1
  | .agg parts => uptoBulkAll parts + 1
  | .iface _ d => uptoBulk d + 1
  | .map entries => uptoBulkEntries entries + 1
  | .held _ => 1
def uptoBulkAll {H : Type} : List (DataW H) → Nat
  | [] => 0
  | d :: r => uptoBulk d + uptoBulkAll r
def uptoBulkEntries {H : Type} : List (Lit × DataW H) → Nat
  | [] => 0
  | x :: r => uptoBulkEntry x + uptoBulkEntries r
def uptoBulkEntry {H : Type} : Lit × DataW H → Nat
  | (.string bytes, d) => bytes.length + uptoBulk d + 1
  | (_, d) => uptoBulk d + 1
 end
def uptoSmall : (H : Type) → List (DataW H) → Bool := fun _ ds => decide (uptoBulkAll ds ≤ 1048576)
def OpenSpec.upto (s : _root_.Go.ChangeSpec) : _root_.Go.OpenSpec := { _root_.Go.OpenSpec.ofChange s with cond := some uptoSmall }

/-- 'demesnelaw02.FltOrders', WHERE WHAT IT READS IS OF BULK AT MOST 1048576: true; the input reads as it did. -/
def fltOrdersUptoRow : OpenClaim := { program := "ytbidpdgjlcmhhaa", sum := "ea71f075acf7283fc4feb95471309636eb4ea9f3cc4a777299bc4b11734e7873", func := "demesne/demesnelaw02.FltOrders", spec := "fltOrders", inPlace := ["math.Float64bits", "math.Float64frombits"], apart := false, narrowed := true }
def FltOrdersUptoSaid : Prop := fltOrdersUptoRow.holds Try.pinned (OpenSpec.upto fltOrdersSpec)

/-- 'demesnelaw02.FltDoes', WHERE WHAT IT READS IS OF BULK AT MOST 1048576: true; the input reads as it did. -/
def fltDoesUptoRow : OpenClaim := { program := "ytbidpdgjlcmhhaa", sum := "ea71f075acf7283fc4feb95471309636eb4ea9f3cc4a777299bc4b11734e7873", func := "demesne/demesnelaw02.FltDoes", spec := "fltDoes", inPlace := ["math.Float64frombits", "math.Float64bits"], apart := false, narrowed := true }
def FltDoesUptoSaid : Prop := fltDoesUptoRow.holds Try.pinned (OpenSpec.upto fltDoesSpec)

/-- 'demesnelaw02.FltSides', WHERE WHAT IT READS IS OF BULK AT MOST 1048576: true; the input reads as it did. -/
def fltSidesUptoRow : OpenClaim := { program := "ytbidpdgjlcmhhaa", sum := "ea71f075acf7283fc4feb95471309636eb4ea9f3cc4a777299bc4b11734e7873", func := "demesne/demesnelaw02.FltSides", spec := "fltSides", inPlace := ["math.Float64frombits", "math.Float64bits"], apart := false, narrowed := true }
def FltSidesUptoSaid : Prop := fltSidesUptoRow.holds Try.pinned (OpenSpec.upto fltSidesSpec)

/-- 'demesnelaw02.FltRanks', WHERE WHAT IT READS IS OF BULK AT MOST 1048576: true; the input reads as it did. -/
def fltRanksUptoRow : OpenClaim := { program := "ytbidpdgjlcmhhaa", sum := "ea71f075acf7283fc4feb95471309636eb4ea9f3cc4a777299bc4b11734e7873", func := "demesne/demesnelaw02.FltRanks", spec := "fltRanks", inPlace := ["math.Float64frombits", "math.Float64bits"], apart := false, narrowed := true }
def FltRanksUptoSaid : Prop := fltRanksUptoRow.holds Try.pinned (OpenSpec.upto fltRanksSpec)

/-- 'demesnelaw02.FltOnes', WHERE WHAT IT READS IS OF BULK AT MOST 1048576: true; the input reads as it did. -/
def fltOnesUptoRow : OpenClaim := { program := "ytbidpdgjlcmhhaa", sum := "ea71f075acf7283fc4feb95471309636eb4ea9f3cc4a777299bc4b11734e7873", func := "demesne/demesnelaw02.FltOnes", spec := "fltOnes", inPlace := ["math.Float64frombits", "math.Float64bits"], apart := false, narrowed := true }
def FltOnesUptoSaid : Prop := fltOnesUptoRow.holds Try.pinned (OpenSpec.upto fltOnesSpec)

/-- 'demesnelaw02.FltInts', WHERE WHAT IT READS IS OF BULK AT MOST 1048576: true; the input reads as it did. -/
def fltIntsUptoRow : OpenClaim := { program := "ytbidpdgjlcmhhaa", sum := "ea71f075acf7283fc4feb95471309636eb4ea9f3cc4a777299bc4b11734e7873", func := "demesne/demesnelaw02.FltInts", spec := "fltInts", inPlace := ["math.Float64frombits", "math.Float64bits"], apart := false, narrowed := true }
def FltIntsUptoSaid : Prop := fltIntsUptoRow.holds Try.pinned (OpenSpec.upto fltIntsSpec)

/-- 'demesnelaw02.FltWhole', WHERE WHAT IT READS IS OF BULK AT MOST 1048576: true; the input reads as it did. -/
def fltWholeUptoRow : OpenClaim := { program := "ytbidpdgjlcmhhaa", sum := "ea71f075acf7283fc4feb95471309636eb4ea9f3cc4a777299bc4b11734e7873", func := "demesne/demesnelaw02.FltWhole", spec := "fltWhole", inPlace := ["math.Float64bits", "math.Float64frombits"], apart := false, narrowed := true }
def FltWholeUptoSaid : Prop := fltWholeUptoRow.holds Try.pinned (OpenSpec.upto fltWholeSpec)

/-- 'demesnelaw02.FltWholes', WHERE WHAT IT READS IS OF BULK AT MOST 1048576: true; the input reads as it did. -/
def fltWholesUptoRow : OpenClaim := { program := "ytbidpdgjlcmhhaa", sum := "ea71f075acf7283fc4feb95471309636eb4ea9f3cc4a777299bc4b11734e7873", func := "demesne/demesnelaw02.FltWholes", spec := "fltWholes", inPlace := ["math.Float64frombits", "math.Float64bits"], apart := false, narrowed := true }
def FltWholesUptoSaid : Prop := fltWholesUptoRow.holds Try.pinned (OpenSpec.upto fltWholesSpec)

end Rows
end Go.Proofs.Ytbidpdgjlcmhhaa
