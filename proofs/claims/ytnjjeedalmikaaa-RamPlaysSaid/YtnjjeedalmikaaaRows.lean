/-
  No cell of these rows narrows 'for every input' (looked for: loops, veiled, ifaces, maps, wideKeys, modest, calm, conditions, laid).
  DERIVED. THE GIVEN ROWS OF THIS SEAT. 6 by the template 'for every input the law returns true; each argument reads behind the call as it read before'; 0 by the template 'total and deterministic' (their statements: YtnjjeedalmikaaaTotals.lean).
  GIVEN WITH THE SEED: the statements are not yours to turn. If you find one false, say at which input.
  Laid BY PROGRAM, IN A SANDBOX (cutbox-rows.mjs): the forced cells as the released guide's own fill.sh prints them over the translation 73ec604bba6982b8… (all of the seat's roots in one cut). By AI agents, Wed Nov 11 2026. No macro, syntax, notation, axiom, sorry.
-/
import Derived.Test.YtnjjeedalmikaaaChecked
import GoSem.Claim
import GoSem.ClaimJoined
import GoSem.ClaimMapViews
import Derived.JoinedTies
import Derived.KernelRfl
namespace Go.Proofs.Ytnjjeedalmikaaa
/- THE CELL 'sum', in the pinned program and in every row, IS THE sha256 OF THE DUMP (.gsa) THAT YtnjjeedalmikaaaProg.lean LOADS. Nothing in Lean hashes anything: it is a label: what it is worth is what the hold of that sum in a sandbox is worth. -/
noncomputable def Try.pinned : Pinned := { name := "ytnjjeedalmikaaa", sum := "73ec604bba6982b81dde21e79819b37fcf9c67a058c4e9dc9ff4e73000a0cf53", checked := Try.checked }
namespace Rows
def none {H : Type} : Left H := { results := [], args := [] }

/-- 'demesnelaw01.RamBack': WHATEVER THE INPUT: true; the input reads as it did. -/
def ramBackSpec : ChangeSpec := { name := "ramBack", fn := fun _ => fun
  | [d1, d2, d3, d4] => { results := [.lit (.bool true)], args := [d1, d2, d3, d4] }
  | _ => none }
def ramBackRow : OpenClaim := { program := "ytnjjeedalmikaaa", sum := "73ec604bba6982b81dde21e79819b37fcf9c67a058c4e9dc9ff4e73000a0cf53", func := "demesne/demesnelaw01.RamBack", spec := "ramBack", apart := false }
def RamBackSaid : Prop := ramBackRow.holds Try.pinned (OpenSpec.ofChange ramBackSpec)

/-- ITS FALSE NEIGHBOUR: 'it returns false'. Refute it at one input. -/
def ramBackWrong : ChangeSpec := { name := "ramBack", fn := fun _ => fun
  | [d1, d2, d3, d4] => { results := [.lit (.bool false)], args := [d1, d2, d3, d4] }
  | _ => none }
def RamBackWrongFalsely : Prop := ramBackRow.holds Try.pinned (OpenSpec.ofChange ramBackWrong)

/-- 'demesnelaw01.RamHoles': WHATEVER THE INPUT: true; the input reads as it did. -/
def ramHolesSpec : ChangeSpec := { name := "ramHoles", fn := fun _ => fun
  | [d1, d2, d3, d4, d5] => { results := [.lit (.bool true)], args := [d1, d2, d3, d4, d5] }
  | _ => none }
def ramHolesRow : OpenClaim := { program := "ytnjjeedalmikaaa", sum := "73ec604bba6982b81dde21e79819b37fcf9c67a058c4e9dc9ff4e73000a0cf53", func := "demesne/demesnelaw01.RamHoles", spec := "ramHoles", apart := false }
def RamHolesSaid : Prop := ramHolesRow.holds Try.pinned (OpenSpec.ofChange ramHolesSpec)

/-- ITS FALSE NEIGHBOUR: 'it returns false'. Refute it at one input. -/
def ramHolesWrong : ChangeSpec := { name := "ramHoles", fn := fun _ => fun
  | [d1, d2, d3, d4, d5] => { results := [.lit (.bool false)], args := [d1, d2, d3, d4, d5] }
  | _ => none }
def RamHolesWrongFalsely : Prop := ramHolesRow.holds Try.pinned (OpenSpec.ofChange ramHolesWrong)

/-- 'demesnelaw01.RamNews': WHATEVER THE INPUT: true; the input reads as it did. -/
def ramNewsSpec : ChangeSpec := { name := "ramNews", fn := fun _ => fun
  | [d1, d2, d3] => { results := [.lit (.bool true)], args := [d1, d2, d3] }
  | _ => none }
def ramNewsRow : OpenClaim := { program := "ytnjjeedalmikaaa", sum := "73ec604bba6982b81dde21e79819b37fcf9c67a058c4e9dc9ff4e73000a0cf53", func := "demesne/demesnelaw01.RamNews", spec := "ramNews", apart := false }
def RamNewsSaid : Prop := ramNewsRow.holds Try.pinned (OpenSpec.ofChange ramNewsSpec)

/-- ITS FALSE NEIGHBOUR: 'it returns false'. Refute it at one input. -/
def ramNewsWrong : ChangeSpec := { name := "ramNews", fn := fun _ => fun
  | [d1, d2, d3] => { results := [.lit (.bool false)], args := [d1, d2, d3] }
  | _ => none }
def RamNewsWrongFalsely : Prop := ramNewsRow.holds Try.pinned (OpenSpec.ofChange ramNewsWrong)

/-- 'demesnelaw01.RamPlays': WHATEVER THE INPUT: true; the input reads as it did. -/
def ramPlaysSpec : ChangeSpec := { name := "ramPlays", fn := fun _ => fun
  | [d1, d2, d3] => { results := [.lit (.bool true)], args := [d1, d2, d3] }
  | _ => none }
def ramPlaysRow : OpenClaim := { program := "ytnjjeedalmikaaa", sum := "73ec604bba6982b81dde21e79819b37fcf9c67a058c4e9dc9ff4e73000a0cf53", func := "demesne/demesnelaw01.RamPlays", spec := "ramPlays", apart := false }
def RamPlaysSaid : Prop := ramPlaysRow.holds Try.pinned (OpenSpec.ofChange ramPlaysSpec)

/-- ITS FALSE NEIGHBOUR: 'it returns false'. Refute it at one input. -/
def ramPlaysWrong : ChangeSpec := { name := "ramPlays", fn := fun _ => fun
  | [d1, d2, d3] => { results := [.lit (.bool false)], args := [d1, d2, d3] }
  | _ => none }
def RamPlaysWrongFalsely : Prop := ramPlaysRow.holds Try.pinned (OpenSpec.ofChange ramPlaysWrong)

/-- 'demesnelaw01.RamWhole': WHATEVER THE INPUT: true; the input reads as it did. -/
def ramWholeSpec : ChangeSpec := { name := "ramWhole", fn := fun _ => fun
  | [d1, d2, d3, d4] => { results := [.lit (.bool true)], args := [d1, d2, d3, d4] }
  | _ => none }
def ramWholeRow : OpenClaim := { program := "ytnjjeedalmikaaa", sum := "73ec604bba6982b81dde21e79819b37fcf9c67a058c4e9dc9ff4e73000a0cf53", func := "demesne/demesnelaw01.RamWhole", spec := "ramWhole", apart := false }
def RamWholeSaid : Prop := ramWholeRow.holds Try.pinned (OpenSpec.ofChange ramWholeSpec)

/-- ITS FALSE NEIGHBOUR: 'it returns false'. Refute it at one input. -/
def ramWholeWrong : ChangeSpec := { name := "ramWhole", fn := fun _ => fun
  | [d1, d2, d3, d4] => { results := [.lit (.bool false)], args := [d1, d2, d3, d4] }
  | _ => none }
def RamWholeWrongFalsely : Prop := ramWholeRow.holds Try.pinned (OpenSpec.ofChange ramWholeWrong)

/-- 'demesnelaw01.RamFrames': WHATEVER THE INPUT: true; the input reads as it did. -/
def ramFramesSpec : ChangeSpec := { name := "ramFrames", fn := fun _ => fun
  | [d1, d2, d3, d4] => { results := [.lit (.bool true)], args := [d1, d2, d3, d4] }
  | _ => none }
def ramFramesRow : OpenClaim := { program := "ytnjjeedalmikaaa", sum := "73ec604bba6982b81dde21e79819b37fcf9c67a058c4e9dc9ff4e73000a0cf53", func := "demesne/demesnelaw01.RamFrames", spec := "ramFrames", apart := false }
def RamFramesSaid : Prop := ramFramesRow.holds Try.pinned (OpenSpec.ofChange ramFramesSpec)

/-- ITS FALSE NEIGHBOUR: 'it returns false'. Refute it at one input. -/
def ramFramesWrong : ChangeSpec := { name := "ramFrames", fn := fun _ => fun
  | [d1, d2, d3, d4] => { results := [.lit (.bool false)], args := [d1, d2, d3, d4] }
  | _ => none }
def RamFramesWrongFalsely : Prop := ramFramesRow.holds Try.pinned (OpenSpec.ofChange ramFramesWrong)

/- THE SECOND FORM. 'bulk': how many values and letters a reading holds, each counted each time it is reached (what is shared counts as often as it is met; a slice's spare places count too). A statement '..UptoSaid' is the law's where the arguments, and the package variables that the reading takes, are together of bulk at most 1048576: NARROWER than '..Said'. Prove '..Said' where nothing that the law and all that it calls make is longer than what came in: it says more and counts as full. Else prove '..UptoSaid'. A law counts once. -/
mutual
def uptoBulk {H : Type} : DataW H → Nat
  | .lit (.string bytes) => bytes.length + 1
  | .lit _ => 1
  | .nil => 1
  | .ptr d => uptoBulk d + 1
  | .slice elems spare => uptoBulkAll elems + uptoBulkAll spare + 1
  | .agg parts => uptoBulkAll parts + 1
  | .iface _ d => uptoBulk d + 1
  | .map entries => uptoBulkEntries entries + 1
  | .held _ => 1
def uptoBulkAll {H : Type} : List (DataW H) → Nat
  | [] => 0
  | d :: r => uptoBulk d + uptoBulkAll r
def uptoBulkEntries {H : Type} : List (Lit × DataW H) → Nat
  | [] => 0
  | x :: r => uptoBulkEntry x + uptoBulkEntries r
def uptoBulkEntry {H : Type} : Lit × DataW H → Nat
  | (.string bytes, d) => bytes.length + uptoBulk d + 1
  | (_, d) => uptoBulk d + 1
 end
def uptoSmall : (H : Type) → List (DataW H) → Bool := fun _ ds => decide (uptoBulkAll ds ≤ 1048576)
def OpenSpec.upto (s : _root_.Go.ChangeSpec) : _root_.Go.OpenSpec := { _root_.Go.OpenSpec.ofChange s with cond := some uptoSmall }

/-- 'demesnelaw01.RamBack', WHERE WHAT IT READS IS OF BULK AT MOST 1048576: true; the input reads as it did. -/
def ramBackUptoRow : OpenClaim := { program := "ytnjjeedalmikaaa", sum := "73ec604bba6982b81dde21e79819b37fcf9c67a058c4e9dc9ff4e73000a0cf53", func := "demesne/demesnelaw01.RamBack", spec := "ramBack", apart := false, narrowed := true }
def RamBackUptoSaid : Prop := ramBackUptoRow.holds Try.pinned (OpenSpec.upto ramBackSpec)

/-- 'demesnelaw01.RamHoles', WHERE WHAT IT READS IS OF BULK AT MOST 1048576: true; the input reads as it did. -/
def ramHolesUptoRow : OpenClaim := { program := "ytnjjeedalmikaaa", sum := "73ec604bba6982b81dde21e79819b37fcf9c67a058c4e9dc9ff4e73000a0cf53", func := "demesne/demesnelaw01.RamHoles", spec := "ramHoles", apart := false, narrowed := true }
def RamHolesUptoSaid : Prop := ramHolesUptoRow.holds Try.pinned (OpenSpec.upto ramHolesSpec)

/-- 'demesnelaw01.RamNews', WHERE WHAT IT READS IS OF BULK AT MOST 1048576: true; the input reads as it did. -/
def ramNewsUptoRow : OpenClaim := { program := "ytnjjeedalmikaaa", sum := "73ec604bba6982b81dde21e79819b37fcf9c67a058c4e9dc9ff4e73000a0cf53", func := "demesne/demesnelaw01.RamNews", spec := "ramNews", apart := false, narrowed := true }
def RamNewsUptoSaid : Prop := ramNewsUptoRow.holds Try.pinned (OpenSpec.upto ramNewsSpec)

/-- 'demesnelaw01.RamPlays', WHERE WHAT IT READS IS OF BULK AT MOST 1048576: true; the input reads as it did. -/
def ramPlaysUptoRow : OpenClaim := { program := "ytnjjeedalmikaaa", sum := "73ec604bba6982b81dde21e79819b37fcf9c67a058c4e9dc9ff4e73000a0cf53", func := "demesne/demesnelaw01.RamPlays", spec := "ramPlays", apart := false, narrowed := true }
def RamPlaysUptoSaid : Prop := ramPlaysUptoRow.holds Try.pinned (OpenSpec.upto ramPlaysSpec)

/-- 'demesnelaw01.RamWhole', WHERE WHAT IT READS IS OF BULK AT MOST 1048576: true; the input reads as it did. -/
def ramWholeUptoRow : OpenClaim := { program := "ytnjjeedalmikaaa", sum := "73ec604bba6982b81dde21e79819b37fcf9c67a058c4e9dc9ff4e73000a0cf53", func := "demesne/demesnelaw01.RamWhole", spec := "ramWhole", apart := false, narrowed := true }
def RamWholeUptoSaid : Prop := ramWholeUptoRow.holds Try.pinned (OpenSpec.upto ramWholeSpec)

/-- 'demesnelaw01.RamFrames', WHERE WHAT IT READS IS OF BULK AT MOST 1048576: true; the input reads as it did. -/
def ramFramesUptoRow : OpenClaim := { program := "ytnjjeedalmikaaa", sum := "73ec604bba6982b81dde21e79819b37fcf9c67a058c4e9dc9ff4e73000a0cf53", func := "demesne/demesnelaw01.RamFrames", spec := "ramFrames", apart := false, narrowed := true }
def RamFramesUptoSaid : Prop := ramFramesUptoRow.holds Try.pinned (OpenSpec.upto ramFramesSpec)

end Rows
end Go.Proofs.Ytnjjeedalmikaaa
