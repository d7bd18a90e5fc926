/-
  No cell of these rows narrows 'for every input' (looked for: loops, veiled, ifaces, maps, wideKeys, modest, calm, conditions, laid).
  DERIVED. THE GIVEN ROWS OF THIS SEAT. 5 by the template 'for every input the law returns true; each argument reads behind the call as it read before'; 0 by the template 'total and deterministic' (their statements: YthkhpkfigejbdaaTotals.lean).
  GIVEN WITH THE SEED: the statements are not yours to turn. If you find one false, say at which input.
  Laid BY PROGRAM, IN A SANDBOX (cutbox-rows.mjs): the forced cells as the released guide's own fill.sh prints them over the translation 4de90814b00e9d22… (all of the seat's roots in one cut). By AI agents, Wed Nov 11 2026. No macro, syntax, notation, axiom, sorry.
-/
import Derived.Test.YthkhpkfigejbdaaChecked
import GoSem.Claim
import GoSem.ClaimJoined
import GoSem.ClaimMapViews
import Derived.JoinedTies
import Derived.KernelRfl
namespace Go.Proofs.Ythkhpkfigejbdaa
/- THE CELL 'sum', in the pinned program and in every row, IS THE sha256 OF THE DUMP (.gsa) THAT YthkhpkfigejbdaaProg.lean LOADS. Nothing in Lean hashes anything: it is a label: what it is worth is what the hold of that sum in a sandbox is worth. -/
noncomputable def Try.pinned : Pinned := { name := "ythkhpkfigejbdaa", sum := "4de90814b00e9d22842242b3ab88b8953b877a8fe7699a74aa36f94f64b0c0c7", checked := Try.checked }
namespace Rows
def none {H : Type} : Left H := { results := [], args := [] }

/-- 'demesnelaw11.PcidRound': WHATEVER THE INPUT: true; the input reads as it did. -/
def pcidRoundSpec : ChangeSpec := { name := "pcidRound", fn := fun _ => fun
  | [d1, d2] => { results := [.lit (.bool true)], args := [d1, d2] }
  | _ => none }
def pcidRoundRow : OpenClaim := { program := "ythkhpkfigejbdaa", sum := "4de90814b00e9d22842242b3ab88b8953b877a8fe7699a74aa36f94f64b0c0c7", func := "demesne/demesnelaw11.PcidRound", spec := "pcidRound", apart := false }
def PcidRoundSaid : Prop := pcidRoundRow.holds Try.pinned (OpenSpec.ofChange pcidRoundSpec)

/-- ITS FALSE NEIGHBOUR: 'it returns false'. Refute it at one input. -/
def pcidRoundWrong : ChangeSpec := { name := "pcidRound", fn := fun _ => fun
  | [d1, d2] => { results := [.lit (.bool false)], args := [d1, d2] }
  | _ => none }
def PcidRoundWrongFalsely : Prop := pcidRoundRow.holds Try.pinned (OpenSpec.ofChange pcidRoundWrong)

/-- 'demesnelaw11.PcidKeeps': WHATEVER THE INPUT: true; the input reads as it did. -/
def pcidKeepsSpec : ChangeSpec := { name := "pcidKeeps", fn := fun _ => fun
  | [d1, d2] => { results := [.lit (.bool true)], args := [d1, d2] }
  | _ => none }
def pcidKeepsRow : OpenClaim := { program := "ythkhpkfigejbdaa", sum := "4de90814b00e9d22842242b3ab88b8953b877a8fe7699a74aa36f94f64b0c0c7", func := "demesne/demesnelaw11.PcidKeeps", spec := "pcidKeeps", apart := false }
def PcidKeepsSaid : Prop := pcidKeepsRow.holds Try.pinned (OpenSpec.ofChange pcidKeepsSpec)

/-- ITS FALSE NEIGHBOUR: 'it returns false'. Refute it at one input. -/
def pcidKeepsWrong : ChangeSpec := { name := "pcidKeeps", fn := fun _ => fun
  | [d1, d2] => { results := [.lit (.bool false)], args := [d1, d2] }
  | _ => none }
def PcidKeepsWrongFalsely : Prop := pcidKeepsRow.holds Try.pinned (OpenSpec.ofChange pcidKeepsWrong)

/-- 'demesnelaw11.PcidOnce': WHATEVER THE INPUT: true; the input reads as it did. -/
def pcidOnceSpec : ChangeSpec := { name := "pcidOnce", fn := fun _ => fun
  | [d1, d2] => { results := [.lit (.bool true)], args := [d1, d2] }
  | _ => none }
def pcidOnceRow : OpenClaim := { program := "ythkhpkfigejbdaa", sum := "4de90814b00e9d22842242b3ab88b8953b877a8fe7699a74aa36f94f64b0c0c7", func := "demesne/demesnelaw11.PcidOnce", spec := "pcidOnce", apart := false }
def PcidOnceSaid : Prop := pcidOnceRow.holds Try.pinned (OpenSpec.ofChange pcidOnceSpec)

/-- ITS FALSE NEIGHBOUR: 'it returns false'. Refute it at one input. -/
def pcidOnceWrong : ChangeSpec := { name := "pcidOnce", fn := fun _ => fun
  | [d1, d2] => { results := [.lit (.bool false)], args := [d1, d2] }
  | _ => none }
def PcidOnceWrongFalsely : Prop := pcidOnceRow.holds Try.pinned (OpenSpec.ofChange pcidOnceWrong)

/-- 'demesnelaw11.PcidDrops': WHATEVER THE INPUT: true; the input reads as it did. -/
def pcidDropsSpec : ChangeSpec := { name := "pcidDrops", fn := fun _ => fun
  | [d1, d2, d3, d4] => { results := [.lit (.bool true)], args := [d1, d2, d3, d4] }
  | _ => none }
def pcidDropsRow : OpenClaim := { program := "ythkhpkfigejbdaa", sum := "4de90814b00e9d22842242b3ab88b8953b877a8fe7699a74aa36f94f64b0c0c7", func := "demesne/demesnelaw11.PcidDrops", spec := "pcidDrops", apart := false }
def PcidDropsSaid : Prop := pcidDropsRow.holds Try.pinned (OpenSpec.ofChange pcidDropsSpec)

/-- ITS FALSE NEIGHBOUR: 'it returns false'. Refute it at one input. -/
def pcidDropsWrong : ChangeSpec := { name := "pcidDrops", fn := fun _ => fun
  | [d1, d2, d3, d4] => { results := [.lit (.bool false)], args := [d1, d2, d3, d4] }
  | _ => none }
def PcidDropsWrongFalsely : Prop := pcidDropsRow.holds Try.pinned (OpenSpec.ofChange pcidDropsWrong)

/-- 'demesnelaw11.PcidPlays': WHATEVER THE INPUT: true; the input reads as it did. -/
def pcidPlaysSpec : ChangeSpec := { name := "pcidPlays", fn := fun _ => fun
  | [d1, d2, d3] => { results := [.lit (.bool true)], args := [d1, d2, d3] }
  | _ => none }
def pcidPlaysRow : OpenClaim := { program := "ythkhpkfigejbdaa", sum := "4de90814b00e9d22842242b3ab88b8953b877a8fe7699a74aa36f94f64b0c0c7", func := "demesne/demesnelaw11.PcidPlays", spec := "pcidPlays", apart := false }
def PcidPlaysSaid : Prop := pcidPlaysRow.holds Try.pinned (OpenSpec.ofChange pcidPlaysSpec)

/-- ITS FALSE NEIGHBOUR: 'it returns false'. Refute it at one input. -/
def pcidPlaysWrong : ChangeSpec := { name := "pcidPlays", fn := fun _ => fun
  | [d1, d2, d3] => { results := [.lit (.bool false)], args := [d1, d2, d3] }
  | _ => none }
def PcidPlaysWrongFalsely : Prop := pcidPlaysRow.holds Try.pinned (OpenSpec.ofChange pcidPlaysWrong)

/- THE SECOND FORM. 'bulk': how many values and letters a reading holds, each counted each time it is reached (what is shared counts as often as it is met; a slice's spare places count too). A statement '..UptoSaid' is the law's where the arguments, and the package variables that the reading takes, are together of bulk at most 1048576: NARROWER than '..Said'. Prove '..Said' where nothing that the law and all that it calls make is longer than what came in: it says more and counts as full. Else prove '..UptoSaid'. A law counts once. -/
mutual
def uptoBulk {H : Type} : DataW H → Nat
  | .lit (.string bytes) => bytes.length + 1
  | .lit _ => 1
  | .nil => 1
  | .ptr d => uptoBulk d + 1
  | .slice elems spare => uptoBulkAll elems + uptoBulkAll spare + 1
  | .agg parts => uptoBulkAll parts + 1
  | .iface _ d => uptoBulk d + 1
  | .map entries => uptoBulkEntries entries + 1
  | .held _ => 1
def uptoBulkAll {H : Type} : List (DataW H) → Nat
  | [] => 0
  | d :: r => uptoBulk d + uptoBulkAll r
def uptoBulkEntries {H : Type} : List (Lit × DataW H) → Nat
  | [] => 0
  | x :: r => uptoBulkEntry x + uptoBulkEntries r
def uptoBulkEntry {H : Type} : Lit × DataW H → Nat
  | (.string bytes, d) => bytes.length + uptoBulk d + 1
  | (_, d) => uptoBulk d + 1
 end
def uptoSmall : (H : Type) → List (DataW H) → Bool := fun _ ds => decide (uptoBulkAll ds ≤ 1048576)
def OpenSpec.upto (s : _root_.Go.ChangeSpec) : _root_.Go.OpenSpec := { _root_.Go.OpenSpec.ofChange s with cond := some uptoSmall }

/-- 'demesnelaw11.PcidRound', WHERE WHAT IT READS IS OF BULK AT MOST 1048576: true; the input reads as it did. -/
def pcidRoundUptoRow : OpenClaim := { program := "ythkhpkfigejbdaa", sum := "4de90814b00e9d22842242b3ab88b8953b877a8fe7699a74aa36f94f64b0c0c7", func := "demesne/demesnelaw11.PcidRound", spec := "pcidRound", apart := false, narrowed := true }
def PcidRoundUptoSaid : Prop := pcidRoundUptoRow.holds Try.pinned (OpenSpec.upto pcidRoundSpec)

/-- 'demesnelaw11.PcidKeeps', WHERE WHAT IT READS IS OF BULK AT MOST 1048576: true; the input reads as it did. -/
def pcidKeepsUptoRow : OpenClaim := { program := "ythkhpkfigejbdaa", sum := "4de90814b00e9d22842242b3ab88b8953b877a8fe7699a74aa36f94f64b0c0c7", func := "demesne/demesnelaw11.PcidKeeps", spec := "pcidKeeps", apart := false, narrowed := true }
def PcidKeepsUptoSaid : Prop := pcidKeepsUptoRow.holds Try.pinned (OpenSpec.upto pcidKeepsSpec)

/-- 'demesnelaw11.PcidOnce', WHERE WHAT IT READS IS OF BULK AT MOST 1048576: true; the input reads as it did. -/
def pcidOnceUptoRow : OpenClaim := { program := "ythkhpkfigejbdaa", sum := "4de90814b00e9d22842242b3ab88b8953b877a8fe7699a74aa36f94f64b0c0c7", func := "demesne/demesnelaw11.PcidOnce", spec := "pcidOnce", apart := false, narrowed := true }
def PcidOnceUptoSaid : Prop := pcidOnceUptoRow.holds Try.pinned (OpenSpec.upto pcidOnceSpec)

/-- 'demesnelaw11.PcidDrops', WHERE WHAT IT READS IS OF BULK AT MOST 1048576: true; the input reads as it did. -/
def pcidDropsUptoRow : OpenClaim := { program := "ythkhpkfigejbdaa", sum := "4de90814b00e9d22842242b3ab88b8953b877a8fe7699a74aa36f94f64b0c0c7", func := "demesne/demesnelaw11.PcidDrops", spec := "pcidDrops", apart := false, narrowed := true }
def PcidDropsUptoSaid : Prop := pcidDropsUptoRow.holds Try.pinned (OpenSpec.upto pcidDropsSpec)

/-- 'demesnelaw11.PcidPlays', WHERE WHAT IT READS IS OF BULK AT MOST 1048576: true; the input reads as it did. -/
def pcidPlaysUptoRow : OpenClaim := { program := "ythkhpkfigejbdaa", sum := "4de90814b00e9d22842242b3ab88b8953b877a8fe7699a74aa36f94f64b0c0c7", func := "demesne/demesnelaw11.PcidPlays", spec := "pcidPlays", apart := false, narrowed := true }
def PcidPlaysUptoSaid : Prop := pcidPlaysUptoRow.holds Try.pinned (OpenSpec.upto pcidPlaysSpec)

end Rows
end Go.Proofs.Ythkhpkfigejbdaa
