/-
  No cell of these rows narrows 'for every input' (looked for: loops, veiled, ifaces, maps, wideKeys, modest, calm, conditions, laid).
  DERIVED. THE GIVEN ROWS OF THIS SEAT. 5 by the template 'for every input the law returns true; each argument reads behind the call as it read before'; 0 by the template 'total and deterministic' (their statements: YtilibeajejhpbaaTotals.lean).
  GIVEN WITH THE SEED: the statements are not yours to turn. If you find one false, say at which input.
  Laid BY PROGRAM, IN A SANDBOX (cutbox-rows.mjs): the forced cells as the released guide's own fill.sh prints them over the translation 4c0f58d968510b88… (all of the seat's roots in one cut). By AI agents, Wed Nov 11 2026. No macro, syntax, notation, axiom, sorry.
-/
import Derived.Test.YtilibeajejhpbaaChecked
import GoSem.Claim
import GoSem.ClaimJoined
import GoSem.ClaimMapViews
import Derived.JoinedTies
import Derived.KernelRfl
namespace Go.Proofs.Ytilibeajejhpbaa
/- THE CELL 'sum', in the pinned program and in every row, IS THE sha256 OF THE DUMP (.gsa) THAT YtilibeajejhpbaaProg.lean LOADS. Nothing in Lean hashes anything: it is a label: what it is worth is what the hold of that sum in a sandbox is worth. -/
noncomputable def Try.pinned : Pinned := { name := "ytilibeajejhpbaa", sum := "4c0f58d968510b88094b3b9d053678d994938a09fda73d85a10acedaadf328c6", checked := Try.checked }
namespace Rows
def none {H : Type} : Left H := { results := [], args := [] }

/-- 'demesnelaw16.SchedYields': WHATEVER THE INPUT: true; the input reads as it did. -/
def schedYieldsSpec : ChangeSpec := { name := "schedYields", fn := fun _ => fun
  | [d1, d2, d3] => { results := [.lit (.bool true)], args := [d1, d2, d3] }
  | _ => none }
def schedYieldsRow : OpenClaim := { program := "ytilibeajejhpbaa", sum := "4c0f58d968510b88094b3b9d053678d994938a09fda73d85a10acedaadf328c6", func := "demesne/demesnelaw16.SchedYields", spec := "schedYields", apart := false }
def SchedYieldsSaid : Prop := schedYieldsRow.holds Try.pinned (OpenSpec.ofChange schedYieldsSpec)

/-- ITS FALSE NEIGHBOUR: 'it returns false'. Refute it at one input. -/
def schedYieldsWrong : ChangeSpec := { name := "schedYields", fn := fun _ => fun
  | [d1, d2, d3] => { results := [.lit (.bool false)], args := [d1, d2, d3] }
  | _ => none }
def SchedYieldsWrongFalsely : Prop := schedYieldsRow.holds Try.pinned (OpenSpec.ofChange schedYieldsWrong)

/-- 'demesnelaw16.SchedFair': WHATEVER THE INPUT: true; the input reads as it did. -/
def schedFairSpec : ChangeSpec := { name := "schedFair", fn := fun _ => fun
  | [d1, d2] => { results := [.lit (.bool true)], args := [d1, d2] }
  | _ => none }
def schedFairRow : OpenClaim := { program := "ytilibeajejhpbaa", sum := "4c0f58d968510b88094b3b9d053678d994938a09fda73d85a10acedaadf328c6", func := "demesne/demesnelaw16.SchedFair", spec := "schedFair", apart := false }
def SchedFairSaid : Prop := schedFairRow.holds Try.pinned (OpenSpec.ofChange schedFairSpec)

/-- ITS FALSE NEIGHBOUR: 'it returns false'. Refute it at one input. -/
def schedFairWrong : ChangeSpec := { name := "schedFair", fn := fun _ => fun
  | [d1, d2] => { results := [.lit (.bool false)], args := [d1, d2] }
  | _ => none }
def SchedFairWrongFalsely : Prop := schedFairRow.holds Try.pinned (OpenSpec.ofChange schedFairWrong)

/-- 'demesnelaw16.SchedGone': WHATEVER THE INPUT: true; the input reads as it did. -/
def schedGoneSpec : ChangeSpec := { name := "schedGone", fn := fun _ => fun
  | [d1, d2, d3] => { results := [.lit (.bool true)], args := [d1, d2, d3] }
  | _ => none }
def schedGoneRow : OpenClaim := { program := "ytilibeajejhpbaa", sum := "4c0f58d968510b88094b3b9d053678d994938a09fda73d85a10acedaadf328c6", func := "demesne/demesnelaw16.SchedGone", spec := "schedGone", apart := false }
def SchedGoneSaid : Prop := schedGoneRow.holds Try.pinned (OpenSpec.ofChange schedGoneSpec)

/-- ITS FALSE NEIGHBOUR: 'it returns false'. Refute it at one input. -/
def schedGoneWrong : ChangeSpec := { name := "schedGone", fn := fun _ => fun
  | [d1, d2, d3] => { results := [.lit (.bool false)], args := [d1, d2, d3] }
  | _ => none }
def SchedGoneWrongFalsely : Prop := schedGoneRow.holds Try.pinned (OpenSpec.ofChange schedGoneWrong)

/-- 'demesnelaw16.SchedPlays': WHATEVER THE INPUT: true; the input reads as it did. -/
def schedPlaysSpec : ChangeSpec := { name := "schedPlays", fn := fun _ => fun
  | [d1, d2] => { results := [.lit (.bool true)], args := [d1, d2] }
  | _ => none }
def schedPlaysRow : OpenClaim := { program := "ytilibeajejhpbaa", sum := "4c0f58d968510b88094b3b9d053678d994938a09fda73d85a10acedaadf328c6", func := "demesne/demesnelaw16.SchedPlays", spec := "schedPlays", apart := false }
def SchedPlaysSaid : Prop := schedPlaysRow.holds Try.pinned (OpenSpec.ofChange schedPlaysSpec)

/-- ITS FALSE NEIGHBOUR: 'it returns false'. Refute it at one input. -/
def schedPlaysWrong : ChangeSpec := { name := "schedPlays", fn := fun _ => fun
  | [d1, d2] => { results := [.lit (.bool false)], args := [d1, d2] }
  | _ => none }
def SchedPlaysWrongFalsely : Prop := schedPlaysRow.holds Try.pinned (OpenSpec.ofChange schedPlaysWrong)

/-- 'demesnelaw16.SchedRound': WHATEVER THE INPUT: true; the input reads as it did. -/
def schedRoundSpec : ChangeSpec := { name := "schedRound", fn := fun _ => fun
  | [d1, d2] => { results := [.lit (.bool true)], args := [d1, d2] }
  | _ => none }
def schedRoundRow : OpenClaim := { program := "ytilibeajejhpbaa", sum := "4c0f58d968510b88094b3b9d053678d994938a09fda73d85a10acedaadf328c6", func := "demesne/demesnelaw16.SchedRound", spec := "schedRound", apart := false }
def SchedRoundSaid : Prop := schedRoundRow.holds Try.pinned (OpenSpec.ofChange schedRoundSpec)

/-- ITS FALSE NEIGHBOUR: 'it returns false'. Refute it at one input. -/
def schedRoundWrong : ChangeSpec := { name := "schedRound", fn := fun _ => fun
  | [d1, d2] => { results := [.lit (.bool false)], args := [d1, d2] }
  | _ => none }
def SchedRoundWrongFalsely : Prop := schedRoundRow.holds Try.pinned (OpenSpec.ofChange schedRoundWrong)

/- THE SECOND FORM. 'bulk': how many values and letters a reading holds, each counted each time it is reached (what is shared counts as often as it is met; a slice's spare places count too). A statement '..UptoSaid' is the law's where the arguments, and the package variables that the reading takes, are together of bulk at most 1048576: NARROWER than '..Said'. Prove '..Said' where nothing that the law and all that it calls make is longer than what came in: it says more and counts as full. Else prove '..UptoSaid'. A law counts once. -/
mutual
def uptoBulk {H : Type} : DataW H → Nat
  | .lit (.string bytes) => bytes.length + 1
  | .lit _ => 1
  | .nil => 1
  | .ptr d => uptoBulk d + 1
  | .slice elems spare => uptoBulkAll elems + uptoBulkAll spare + 1
  | .agg parts => uptoBulkAll parts + 1
  | .iface _ d => uptoBulk d + 1
  | .map entries => uptoBulkEntries entries + 1
  | .held _ => 1
def uptoBulkAll {H : Type} : List (DataW H) → Nat
  | [] => 0
  | d :: r => uptoBulk d + uptoBulkAll r
def uptoBulkEntries {H : Type} : List (Lit × DataW H) → Nat
  | [] => 0
  | x :: r => uptoBulkEntry x + uptoBulkEntries r
def uptoBulkEntry {H : Type} : Lit × DataW H → Nat
  | (.string bytes, d) => bytes.length + uptoBulk d + 1
  | (_, d) => uptoBulk d + 1
 end
def uptoSmall : (H : Type) → List (DataW H) → Bool := fun _ ds => decide (uptoBulkAll ds ≤ 1048576)
def OpenSpec.upto (s : _root_.Go.ChangeSpec) : _root_.Go.OpenSpec := { _root_.Go.OpenSpec.ofChange s with cond := some uptoSmall }

/-- 'demesnelaw16.SchedYields', WHERE WHAT IT READS IS OF BULK AT MOST 1048576: true; the input reads as it did. -/
def schedYieldsUptoRow : OpenClaim := { program := "ytilibeajejhpbaa", sum := "4c0f58d968510b88094b3b9d053678d994938a09fda73d85a10acedaadf328c6", func := "demesne/demesnelaw16.SchedYields", spec := "schedYields", apart := false, narrowed := true }
def SchedYieldsUptoSaid : Prop := schedYieldsUptoRow.holds Try.pinned (OpenSpec.upto schedYieldsSpec)

/-- 'demesnelaw16.SchedFair', WHERE WHAT IT READS IS OF BULK AT MOST 1048576: true; the input reads as it did. -/
def schedFairUptoRow : OpenClaim := { program := "ytilibeajejhpbaa", sum := "4c0f58d968510b88094b3b9d053678d994938a09fda73d85a10acedaadf328c6", func := "demesne/demesnelaw16.SchedFair", spec := "schedFair", apart := false, narrowed := true }
def SchedFairUptoSaid : Prop := schedFairUptoRow.holds Try.pinned (OpenSpec.upto schedFairSpec)

/-- 'demesnelaw16.SchedGone', WHERE WHAT IT READS IS OF BULK AT MOST 1048576: true; the input reads as it did. -/
def schedGoneUptoRow : OpenClaim := { program := "ytilibeajejhpbaa", sum := "4c0f58d968510b88094b3b9d053678d994938a09fda73d85a10acedaadf328c6", func := "demesne/demesnelaw16.SchedGone", spec := "schedGone", apart := false, narrowed := true }
def SchedGoneUptoSaid : Prop := schedGoneUptoRow.holds Try.pinned (OpenSpec.upto schedGoneSpec)

/-- 'demesnelaw16.SchedPlays', WHERE WHAT IT READS IS OF BULK AT MOST 1048576: true; the input reads as it did. -/
def schedPlaysUptoRow : OpenClaim := { program := "ytilibeajejhpbaa", sum := "4c0f58d968510b88094b3b9d053678d994938a09fda73d85a10acedaadf328c6", func := "demesne/demesnelaw16.SchedPlays", spec := "schedPlays", apart := false, narrowed := true }
def SchedPlaysUptoSaid : Prop := schedPlaysUptoRow.holds Try.pinned (OpenSpec.upto schedPlaysSpec)

/-- 'demesnelaw16.SchedRound', WHERE WHAT IT READS IS OF BULK AT MOST 1048576: true; the input reads as it did. -/
def schedRoundUptoRow : OpenClaim := { program := "ytilibeajejhpbaa", sum := "4c0f58d968510b88094b3b9d053678d994938a09fda73d85a10acedaadf328c6", func := "demesne/demesnelaw16.SchedRound", spec := "schedRound", apart := false, narrowed := true }
def SchedRoundUptoSaid : Prop := schedRoundUptoRow.holds Try.pinned (OpenSpec.upto schedRoundSpec)

end Rows
end Go.Proofs.Ytilibeajejhpbaa
