/-
  No cell of these rows narrows 'for every input' (looked for: loops, veiled, ifaces, maps, wideKeys, modest, calm, conditions, laid).
  DERIVED. THE GIVEN ROWS OF THIS SEAT. 4 by the template 'for every input the law returns true; each argument reads behind the call as it read before'; 0 by the template 'total and deterministic' (their statements: YtokmcjjdoiaeaaaTotals.lean).
  GIVEN WITH THE SEED: the statements are not yours to turn. If you find one false, say at which input.
  Laid BY PROGRAM, IN A SANDBOX (cutbox-rows.mjs): the forced cells as the released guide's own fill.sh prints them over the translation 085771baa65ac7a2… (all of the seat's roots in one cut). By AI agents, Wed Nov 11 2026. No macro, syntax, notation, axiom, sorry.
-/
import Derived.Test.YtokmcjjdoiaeaaaChecked
import GoSem.Claim
import GoSem.ClaimJoined
import GoSem.ClaimMapViews
import Derived.JoinedTies
import Derived.KernelRfl
namespace Go.Proofs.Ytokmcjjdoiaeaaa
/- THE CELL 'sum', in the pinned program and in every row, IS THE sha256 OF THE DUMP (.gsa) THAT YtokmcjjdoiaeaaaProg.lean LOADS. Nothing in Lean hashes anything: it is a label: what it is worth is what the hold of that sum in a sandbox is worth. -/
noncomputable def Try.pinned : Pinned := { name := "ytokmcjjdoiaeaaa", sum := "085771baa65ac7a2e3f29ad875cbf3fc18a597921b52cef94b3fe966d84f3e71", checked := Try.checked }
namespace Rows
def none {H : Type} : Left H := { results := [], args := [] }

/-- 'demesnelaw17.TrapOnce': WHATEVER THE INPUT: true; the input reads as it did. -/
def trapOnceSpec : ChangeSpec := { name := "trapOnce", fn := fun _ => fun
  | [d1, d2, d3, d4] => { results := [.lit (.bool true)], args := [d1, d2, d3, d4] }
  | _ => none }
def trapOnceRow : OpenClaim := { program := "ytokmcjjdoiaeaaa", sum := "085771baa65ac7a2e3f29ad875cbf3fc18a597921b52cef94b3fe966d84f3e71", func := "demesne/demesnelaw17.TrapOnce", spec := "trapOnce", apart := false }
def TrapOnceSaid : Prop := trapOnceRow.holds Try.pinned (OpenSpec.ofChange trapOnceSpec)

/-- ITS FALSE NEIGHBOUR: 'it returns false'. Refute it at one input. -/
def trapOnceWrong : ChangeSpec := { name := "trapOnce", fn := fun _ => fun
  | [d1, d2, d3, d4] => { results := [.lit (.bool false)], args := [d1, d2, d3, d4] }
  | _ => none }
def TrapOnceWrongFalsely : Prop := trapOnceRow.holds Try.pinned (OpenSpec.ofChange trapOnceWrong)

/-- 'demesnelaw17.TrapPlays': WHATEVER THE INPUT: true; the input reads as it did. -/
def trapPlaysSpec : ChangeSpec := { name := "trapPlays", fn := fun _ => fun
  | [d1, d2] => { results := [.lit (.bool true)], args := [d1, d2] }
  | _ => none }
def trapPlaysRow : OpenClaim := { program := "ytokmcjjdoiaeaaa", sum := "085771baa65ac7a2e3f29ad875cbf3fc18a597921b52cef94b3fe966d84f3e71", func := "demesne/demesnelaw17.TrapPlays", spec := "trapPlays", inPlace := ["math.Float64frombits", "math.Float64bits"], apart := false }
def TrapPlaysSaid : Prop := trapPlaysRow.holds Try.pinned (OpenSpec.ofChange trapPlaysSpec)

/-- ITS FALSE NEIGHBOUR: 'it returns false'. Refute it at one input. -/
def trapPlaysWrong : ChangeSpec := { name := "trapPlays", fn := fun _ => fun
  | [d1, d2] => { results := [.lit (.bool false)], args := [d1, d2] }
  | _ => none }
def TrapPlaysWrongFalsely : Prop := trapPlaysRow.holds Try.pinned (OpenSpec.ofChange trapPlaysWrong)

/-- 'demesnelaw17.TrapBack': WHATEVER THE INPUT: true; the input reads as it did. -/
def trapBackSpec : ChangeSpec := { name := "trapBack", fn := fun _ => fun
  | [d1, d2, d3] => { results := [.lit (.bool true)], args := [d1, d2, d3] }
  | _ => none }
def trapBackRow : OpenClaim := { program := "ytokmcjjdoiaeaaa", sum := "085771baa65ac7a2e3f29ad875cbf3fc18a597921b52cef94b3fe966d84f3e71", func := "demesne/demesnelaw17.TrapBack", spec := "trapBack", inPlace := ["math.Float64frombits", "math.Float64bits"], apart := false }
def TrapBackSaid : Prop := trapBackRow.holds Try.pinned (OpenSpec.ofChange trapBackSpec)

/-- ITS FALSE NEIGHBOUR: 'it returns false'. Refute it at one input. -/
def trapBackWrong : ChangeSpec := { name := "trapBack", fn := fun _ => fun
  | [d1, d2, d3] => { results := [.lit (.bool false)], args := [d1, d2, d3] }
  | _ => none }
def TrapBackWrongFalsely : Prop := trapBackRow.holds Try.pinned (OpenSpec.ofChange trapBackWrong)

/-- 'demesnelaw17.TrapReckons': WHATEVER THE INPUT: true; the input reads as it did. -/
def trapReckonsSpec : ChangeSpec := { name := "trapReckons", fn := fun _ => fun
  | [d1, d2, d3, d4, d5] => { results := [.lit (.bool true)], args := [d1, d2, d3, d4, d5] }
  | _ => none }
def trapReckonsRow : OpenClaim := { program := "ytokmcjjdoiaeaaa", sum := "085771baa65ac7a2e3f29ad875cbf3fc18a597921b52cef94b3fe966d84f3e71", func := "demesne/demesnelaw17.TrapReckons", spec := "trapReckons", inPlace := ["math.Float64frombits", "math.Float64bits"], apart := false }
def TrapReckonsSaid : Prop := trapReckonsRow.holds Try.pinned (OpenSpec.ofChange trapReckonsSpec)

/-- ITS FALSE NEIGHBOUR: 'it returns false'. Refute it at one input. -/
def trapReckonsWrong : ChangeSpec := { name := "trapReckons", fn := fun _ => fun
  | [d1, d2, d3, d4, d5] => { results := [.lit (.bool false)], args := [d1, d2, d3, d4, d5] }
  | _ => none }
def TrapReckonsWrongFalsely : Prop := trapReckonsRow.holds Try.pinned (OpenSpec.ofChange trapReckonsWrong)

/- THE SECOND FORM. 'bulk': how many values and letters a reading holds, each counted each time it is reached (what is shared counts as often as it is met; a slice's spare places count too). A statement '..UptoSaid' is the law's where the arguments, and the package variables that the reading takes, are together of bulk at most 1048576: NARROWER than '..Said'. Prove '..Said' where nothing that the law and all that it calls make is longer than what came in: it says more and counts as full. Else prove '..UptoSaid'. A law counts once. -/
mutual
def uptoBulk {H : Type} : DataW H → Nat
  | .lit (.string bytes) => bytes.length + 1
  | .lit _ => 1
  | .nil => 1
  | .ptr d => uptoBulk d + 1
  | .slice elems spare => uptoBulkAll elems + uptoBulkAll spare + 1
  | .agg parts => uptoBulkAll parts + 1
  | .iface _ d => uptoBulk d + 1
  | .map entries => uptoBulkEntries entries + 1
  | .held _ => 1
def uptoBulkAll {H : Type} : List (DataW H) → Nat
  | [] => 0
  | d :: r => uptoBulk d + uptoBulkAll r
def uptoBulkEntries {H : Type} : List (Lit × DataW H) → Nat
  | [] => 0
  | x :: r => uptoBulkEntry x + uptoBulkEntries r
def uptoBulkEntry {H : Type} : Lit × DataW H → Nat
  | (.string bytes, d) => bytes.length + uptoBulk d + 1
  | (_, d) => uptoBulk d + 1
 end
def uptoSmall : (H : Type) → List (DataW H) → Bool := fun _ ds => decide (uptoBulkAll ds ≤ 1048576)
def OpenSpec.upto (s : _root_.Go.ChangeSpec) : _root_.Go.OpenSpec := { _root_.Go.OpenSpec.ofChange s with cond := some uptoSmall }

/-- 'demesnelaw17.TrapOnce', WHERE WHAT IT READS IS OF BULK AT MOST 1048576: true; the input reads as it did. -/
def trapOnceUptoRow : OpenClaim := { program := "ytokmcjjdoiaeaaa", sum := "085771baa65ac7a2e3f29ad875cbf3fc18a597921b52cef94b3fe966d84f3e71", func := "demesne/demesnelaw17.TrapOnce", spec := "trapOnce", apart := false, narrowed := true }
def TrapOnceUptoSaid : Prop := trapOnceUptoRow.holds Try.pinned (OpenSpec.upto trapOnceSpec)

/-- 'demesnelaw17.TrapPlays', WHERE WHAT IT READS IS OF BULK AT MOST 1048576: true; the input reads as it did. -/
def trapPlaysUptoRow : OpenClaim := { program := "ytokmcjjdoiaeaaa", sum := "085771baa65ac7a2e3f29ad875cbf3fc18a597921b52cef94b3fe966d84f3e71", func := "demesne/demesnelaw17.TrapPlays", spec := "trapPlays", inPlace := ["math.Float64frombits", "math.Float64bits"], apart := false, narrowed := true }
def TrapPlaysUptoSaid : Prop := trapPlaysUptoRow.holds Try.pinned (OpenSpec.upto trapPlaysSpec)

/-- 'demesnelaw17.TrapBack', WHERE WHAT IT READS IS OF BULK AT MOST 1048576: true; the input reads as it did. -/
def trapBackUptoRow : OpenClaim := { program := "ytokmcjjdoiaeaaa", sum := "085771baa65ac7a2e3f29ad875cbf3fc18a597921b52cef94b3fe966d84f3e71", func := "demesne/demesnelaw17.TrapBack", spec := "trapBack", inPlace := ["math.Float64frombits", "math.Float64bits"], apart := false, narrowed := true }
def TrapBackUptoSaid : Prop := trapBackUptoRow.holds Try.pinned (OpenSpec.upto trapBackSpec)

/-- 'demesnelaw17.TrapReckons', WHERE WHAT IT READS IS OF BULK AT MOST 1048576: true; the input reads as it did. -/
def trapReckonsUptoRow : OpenClaim := { program := "ytokmcjjdoiaeaaa", sum := "085771baa65ac7a2e3f29ad875cbf3fc18a597921b52cef94b3fe966d84f3e71", func := "demesne/demesnelaw17.TrapReckons", spec := "trapReckons", inPlace := ["math.Float64frombits", "math.Float64bits"], apart := false, narrowed := true }
def TrapReckonsUptoSaid : Prop := trapReckonsUptoRow.holds Try.pinned (OpenSpec.upto trapReckonsSpec)

end Rows
end Go.Proofs.Ytokmcjjdoiaeaaa
