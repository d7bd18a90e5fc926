/-
  No cell of these rows narrows 'for every input' (looked for: loops, veiled, ifaces, maps, wideKeys, modest, calm, conditions, laid).
  DERIVED. THE GIVEN ROWS OF THIS SEAT. 9 by the template 'for every input the law returns true; each argument reads behind the call as it read before'; 0 by the template 'total and deterministic' (their statements: YtmmfojpbhkklpaaTotals.lean).
  GIVEN WITH THE SEED: the statements are not yours to turn. If you find one false, say at which input.
  Laid BY PROGRAM, IN A SANDBOX (cutbox-rows.mjs): the forced cells as the released guide's own fill.sh prints them over the translation 716d834e3445366b… (all of the seat's roots in one cut). By AI agents, Wed Nov 11 2026. No macro, syntax, notation, axiom, sorry.
-/
import Derived.Test.YtmmfojpbhkklpaaChecked
import GoSem.Claim
import GoSem.ClaimJoined
import GoSem.ClaimMapViews
import Derived.JoinedTies
import Derived.KernelRfl
namespace Go.Proofs.Ytmmfojpbhkklpaa
/- THE CELL 'sum', in the pinned program and in every row, IS THE sha256 OF THE DUMP (.gsa) THAT YtmmfojpbhkklpaaProg.lean LOADS. Nothing in Lean hashes anything: it is a label: what it is worth is what the hold of that sum in a sandbox is worth. -/
noncomputable def Try.pinned : Pinned := { name := "ytmmfojpbhkklpaa", sum := "716d834e3445366b94abab699cf08e7d2a864a74009c46f3a7adf37fbbf0c667", checked := Try.checked }
namespace Rows
def none {H : Type} : Left H := { results := [], args := [] }

/-- 'demesnelaw03.PteNext': WHATEVER THE INPUT: true; the input reads as it did. -/
def pteNextSpec : ChangeSpec := { name := "pteNext", fn := fun _ => fun
  | [d] => { results := [.lit (.bool true)], args := [d] }
  | _ => none }
def pteNextRow : OpenClaim := { program := "ytmmfojpbhkklpaa", sum := "716d834e3445366b94abab699cf08e7d2a864a74009c46f3a7adf37fbbf0c667", func := "demesne/demesnelaw03.PteNext", spec := "pteNext", apart := false }
def PteNextSaid : Prop := pteNextRow.holds Try.pinned (OpenSpec.ofChange pteNextSpec)

/-- ITS FALSE NEIGHBOUR: 'it returns false'. Refute it at one input. -/
def pteNextWrong : ChangeSpec := { name := "pteNext", fn := fun _ => fun
  | [d] => { results := [.lit (.bool false)], args := [d] }
  | _ => none }
def PteNextWrongFalsely : Prop := pteNextRow.holds Try.pinned (OpenSpec.ofChange pteNextWrong)

/-- 'demesnelaw03.PteBits': WHATEVER THE INPUT: true; the input reads as it did. -/
def pteBitsSpec : ChangeSpec := { name := "pteBits", fn := fun _ => fun
  | [d1, d2] => { results := [.lit (.bool true)], args := [d1, d2] }
  | _ => none }
def pteBitsRow : OpenClaim := { program := "ytmmfojpbhkklpaa", sum := "716d834e3445366b94abab699cf08e7d2a864a74009c46f3a7adf37fbbf0c667", func := "demesne/demesnelaw03.PteBits", spec := "pteBits", apart := false }
def PteBitsSaid : Prop := pteBitsRow.holds Try.pinned (OpenSpec.ofChange pteBitsSpec)

/-- ITS FALSE NEIGHBOUR: 'it returns false'. Refute it at one input. -/
def pteBitsWrong : ChangeSpec := { name := "pteBits", fn := fun _ => fun
  | [d1, d2] => { results := [.lit (.bool false)], args := [d1, d2] }
  | _ => none }
def PteBitsWrongFalsely : Prop := pteBitsRow.holds Try.pinned (OpenSpec.ofChange pteBitsWrong)

/-- 'demesnelaw03.PteFrames': WHATEVER THE INPUT: true; the input reads as it did. -/
def pteFramesSpec : ChangeSpec := { name := "pteFrames", fn := fun _ => fun
  | [d1, d2] => { results := [.lit (.bool true)], args := [d1, d2] }
  | _ => none }
def pteFramesRow : OpenClaim := { program := "ytmmfojpbhkklpaa", sum := "716d834e3445366b94abab699cf08e7d2a864a74009c46f3a7adf37fbbf0c667", func := "demesne/demesnelaw03.PteFrames", spec := "pteFrames", apart := false }
def PteFramesSaid : Prop := pteFramesRow.holds Try.pinned (OpenSpec.ofChange pteFramesSpec)

/-- ITS FALSE NEIGHBOUR: 'it returns false'. Refute it at one input. -/
def pteFramesWrong : ChangeSpec := { name := "pteFrames", fn := fun _ => fun
  | [d1, d2] => { results := [.lit (.bool false)], args := [d1, d2] }
  | _ => none }
def PteFramesWrongFalsely : Prop := pteFramesRow.holds Try.pinned (OpenSpec.ofChange pteFramesWrong)

/-- 'demesnelaw03.PtePacks': WHATEVER THE INPUT: true; the input reads as it did. -/
def ptePacksSpec : ChangeSpec := { name := "ptePacks", fn := fun _ => fun
  | [d1, d2] => { results := [.lit (.bool true)], args := [d1, d2] }
  | _ => none }
def ptePacksRow : OpenClaim := { program := "ytmmfojpbhkklpaa", sum := "716d834e3445366b94abab699cf08e7d2a864a74009c46f3a7adf37fbbf0c667", func := "demesne/demesnelaw03.PtePacks", spec := "ptePacks", apart := false }
def PtePacksSaid : Prop := ptePacksRow.holds Try.pinned (OpenSpec.ofChange ptePacksSpec)

/-- ITS FALSE NEIGHBOUR: 'it returns false'. Refute it at one input. -/
def ptePacksWrong : ChangeSpec := { name := "ptePacks", fn := fun _ => fun
  | [d1, d2] => { results := [.lit (.bool false)], args := [d1, d2] }
  | _ => none }
def PtePacksWrongFalsely : Prop := ptePacksRow.holds Try.pinned (OpenSpec.ofChange ptePacksWrong)

/-- 'demesnelaw03.PteBack': WHATEVER THE INPUT: true; the input reads as it did. -/
def pteBackSpec : ChangeSpec := { name := "pteBack", fn := fun _ => fun
  | [d1, d2] => { results := [.lit (.bool true)], args := [d1, d2] }
  | _ => none }
def pteBackRow : OpenClaim := { program := "ytmmfojpbhkklpaa", sum := "716d834e3445366b94abab699cf08e7d2a864a74009c46f3a7adf37fbbf0c667", func := "demesne/demesnelaw03.PteBack", spec := "pteBack", apart := false }
def PteBackSaid : Prop := pteBackRow.holds Try.pinned (OpenSpec.ofChange pteBackSpec)

/-- ITS FALSE NEIGHBOUR: 'it returns false'. Refute it at one input. -/
def pteBackWrong : ChangeSpec := { name := "pteBack", fn := fun _ => fun
  | [d1, d2] => { results := [.lit (.bool false)], args := [d1, d2] }
  | _ => none }
def PteBackWrongFalsely : Prop := pteBackRow.holds Try.pinned (OpenSpec.ofChange pteBackWrong)

/-- 'demesnelaw03.PteReserved': WHATEVER THE INPUT: true; the input reads as it did. -/
def pteReservedSpec : ChangeSpec := { name := "pteReserved", fn := fun _ => fun
  | [d1, d2] => { results := [.lit (.bool true)], args := [d1, d2] }
  | _ => none }
def pteReservedRow : OpenClaim := { program := "ytmmfojpbhkklpaa", sum := "716d834e3445366b94abab699cf08e7d2a864a74009c46f3a7adf37fbbf0c667", func := "demesne/demesnelaw03.PteReserved", spec := "pteReserved", apart := false }
def PteReservedSaid : Prop := pteReservedRow.holds Try.pinned (OpenSpec.ofChange pteReservedSpec)

/-- ITS FALSE NEIGHBOUR: 'it returns false'. Refute it at one input. -/
def pteReservedWrong : ChangeSpec := { name := "pteReserved", fn := fun _ => fun
  | [d1, d2] => { results := [.lit (.bool false)], args := [d1, d2] }
  | _ => none }
def PteReservedWrongFalsely : Prop := pteReservedRow.holds Try.pinned (OpenSpec.ofChange pteReservedWrong)

/-- 'demesnelaw03.PteFree': WHATEVER THE INPUT: true; the input reads as it did. -/
def pteFreeSpec : ChangeSpec := { name := "pteFree", fn := fun _ => fun
  | [d1, d2, d3] => { results := [.lit (.bool true)], args := [d1, d2, d3] }
  | _ => none }
def pteFreeRow : OpenClaim := { program := "ytmmfojpbhkklpaa", sum := "716d834e3445366b94abab699cf08e7d2a864a74009c46f3a7adf37fbbf0c667", func := "demesne/demesnelaw03.PteFree", spec := "pteFree", apart := false }
def PteFreeSaid : Prop := pteFreeRow.holds Try.pinned (OpenSpec.ofChange pteFreeSpec)

/-- ITS FALSE NEIGHBOUR: 'it returns false'. Refute it at one input. -/
def pteFreeWrong : ChangeSpec := { name := "pteFree", fn := fun _ => fun
  | [d1, d2, d3] => { results := [.lit (.bool false)], args := [d1, d2, d3] }
  | _ => none }
def PteFreeWrongFalsely : Prop := pteFreeRow.holds Try.pinned (OpenSpec.ofChange pteFreeWrong)

/-- 'demesnelaw03.PteAddresses': WHATEVER THE INPUT: true; the input reads as it did. -/
def pteAddressesSpec : ChangeSpec := { name := "pteAddresses", fn := fun _ => fun
  | [d1, d2, d3, d4, d5, d6] => { results := [.lit (.bool true)], args := [d1, d2, d3, d4, d5, d6] }
  | _ => none }
def pteAddressesRow : OpenClaim := { program := "ytmmfojpbhkklpaa", sum := "716d834e3445366b94abab699cf08e7d2a864a74009c46f3a7adf37fbbf0c667", func := "demesne/demesnelaw03.PteAddresses", spec := "pteAddresses", apart := false }
def PteAddressesSaid : Prop := pteAddressesRow.holds Try.pinned (OpenSpec.ofChange pteAddressesSpec)

/-- ITS FALSE NEIGHBOUR: 'it returns false'. Refute it at one input. -/
def pteAddressesWrong : ChangeSpec := { name := "pteAddresses", fn := fun _ => fun
  | [d1, d2, d3, d4, d5, d6] => { results := [.lit (.bool false)], args := [d1, d2, d3, d4, d5, d6] }
  | _ => none }
def PteAddressesWrongFalsely : Prop := pteAddressesRow.holds Try.pinned (OpenSpec.ofChange pteAddressesWrong)

/-- 'demesnelaw03.PteThere': WHATEVER THE INPUT: true; the input reads as it did. -/
def pteThereSpec : ChangeSpec := { name := "pteThere", fn := fun _ => fun
  | [d1, d2, d3] => { results := [.lit (.bool true)], args := [d1, d2, d3] }
  | _ => none }
def pteThereRow : OpenClaim := { program := "ytmmfojpbhkklpaa", sum := "716d834e3445366b94abab699cf08e7d2a864a74009c46f3a7adf37fbbf0c667", func := "demesne/demesnelaw03.PteThere", spec := "pteThere", apart := false }
def PteThereSaid : Prop := pteThereRow.holds Try.pinned (OpenSpec.ofChange pteThereSpec)

/-- ITS FALSE NEIGHBOUR: 'it returns false'. Refute it at one input. -/
def pteThereWrong : ChangeSpec := { name := "pteThere", fn := fun _ => fun
  | [d1, d2, d3] => { results := [.lit (.bool false)], args := [d1, d2, d3] }
  | _ => none }
def PteThereWrongFalsely : Prop := pteThereRow.holds Try.pinned (OpenSpec.ofChange pteThereWrong)

/- THE SECOND FORM. 'bulk': how many values and letters a reading holds, each counted each time it is reached (what is shared counts as often as it is met; a slice's spare places count too). A statement '..UptoSaid' is the law's where the arguments, and the package variables that the reading takes, are together of bulk at most 1048576: NARROWER than '..Said'. Prove '..Said' where nothing that the law and all that it calls make is longer than what came in: it says more and counts as full. Else prove '..UptoSaid'. A law counts once. -/
mutual
def uptoBulk {H : Type} : DataW H → Nat
  | .lit (.string bytes) => bytes.length + 1
  | .lit _ => 1
  | .nil => 1
  | .ptr d => uptoBulk d + 1
  | .slice elems spare => uptoBulkAll elems + uptoBulkAll spare + 1
  | .agg parts => uptoBulkAll parts + 1
  | .iface _ d => uptoBulk d + 1
  | .map entries => uptoBulkEntries entries + 1
  | .held _ => 1
def uptoBulkAll {H : Type} : List (DataW H) → Nat
  | [] => 0
  | d :: r => uptoBulk d + uptoBulkAll r
def uptoBulkEntries {H : Type} : List (Lit × DataW H) → Nat
  | [] => 0
  | x :: r => uptoBulkEntry x + uptoBulkEntries r
def uptoBulkEntry {H : Type} : Lit × DataW H → Nat
  | (.string bytes, d) => bytes.length + uptoBulk d + 1
  | (_, d) => uptoBulk d + 1
 end
def uptoSmall : (H : Type) → List (DataW H) → Bool := fun _ ds => decide (uptoBulkAll ds ≤ 1048576)
def OpenSpec.upto (s : _root_.Go.ChangeSpec) : _root_.Go.OpenSpec := { _root_.Go.OpenSpec.ofChange s with cond := some uptoSmall }

/-- 'demesnelaw03.PteNext', WHERE WHAT IT READS IS OF BULK AT MOST 1048576: true; the input reads as it did. -/
def pteNextUptoRow : OpenClaim := { program := "ytmmfojpbhkklpaa", sum := "716d834e3445366b94abab699cf08e7d2a864a74009c46f3a7adf37fbbf0c667", func := "demesne/demesnelaw03.PteNext", spec := "pteNext", apart := false, narrowed := true }
def PteNextUptoSaid : Prop := pteNextUptoRow.holds Try.pinned (OpenSpec.upto pteNextSpec)

/-- 'demesnelaw03.PteBits', WHERE WHAT IT READS IS OF BULK AT MOST 1048576: true; the input reads as it did. -/
def pteBitsUptoRow : OpenClaim := { program := "ytmmfojpbhkklpaa", sum := "716d834e3445366b94abab699cf08e7d2a864a74009c46f3a7adf37fbbf0c667", func := "demesne/demesnelaw03.PteBits", spec := "pteBits", apart := false, narrowed := true }
def PteBitsUptoSaid : Prop := pteBitsUptoRow.holds Try.pinned (OpenSpec.upto pteBitsSpec)

/-- 'demesnelaw03.PteFrames', WHERE WHAT IT READS IS OF BULK AT MOST 1048576: true; the input reads as it did. -/
def pteFramesUptoRow : OpenClaim := { program := "ytmmfojpbhkklpaa", sum := "716d834e3445366b94abab699cf08e7d2a864a74009c46f3a7adf37fbbf0c667", func := "demesne/demesnelaw03.PteFrames", spec := "pteFrames", apart := false, narrowed := true }
def PteFramesUptoSaid : Prop := pteFramesUptoRow.holds Try.pinned (OpenSpec.upto pteFramesSpec)

/-- 'demesnelaw03.PtePacks', WHERE WHAT IT READS IS OF BULK AT MOST 1048576: true; the input reads as it did. -/
def ptePacksUptoRow : OpenClaim := { program := "ytmmfojpbhkklpaa", sum := "716d834e3445366b94abab699cf08e7d2a864a74009c46f3a7adf37fbbf0c667", func := "demesne/demesnelaw03.PtePacks", spec := "ptePacks", apart := false, narrowed := true }
def PtePacksUptoSaid : Prop := ptePacksUptoRow.holds Try.pinned (OpenSpec.upto ptePacksSpec)

/-- 'demesnelaw03.PteBack', WHERE WHAT IT READS IS OF BULK AT MOST 1048576: true; the input reads as it did. -/
def pteBackUptoRow : OpenClaim := { program := "ytmmfojpbhkklpaa", sum := "716d834e3445366b94abab699cf08e7d2a864a74009c46f3a7adf37fbbf0c667", func := "demesne/demesnelaw03.PteBack", spec := "pteBack", apart := false, narrowed := true }
def PteBackUptoSaid : Prop := pteBackUptoRow.holds Try.pinned (OpenSpec.upto pteBackSpec)

/-- 'demesnelaw03.PteReserved', WHERE WHAT IT READS IS OF BULK AT MOST 1048576: true; the input reads as it did. -/
def pteReservedUptoRow : OpenClaim := { program := "ytmmfojpbhkklpaa", sum := "716d834e3445366b94abab699cf08e7d2a864a74009c46f3a7adf37fbbf0c667", func := "demesne/demesnelaw03.PteReserved", spec := "pteReserved", apart := false, narrowed := true }
def PteReservedUptoSaid : Prop := pteReservedUptoRow.holds Try.pinned (OpenSpec.upto pteReservedSpec)

/-- 'demesnelaw03.PteFree', WHERE WHAT IT READS IS OF BULK AT MOST 1048576: true; the input reads as it did. -/
def pteFreeUptoRow : OpenClaim := { program := "ytmmfojpbhkklpaa", sum := "716d834e3445366b94abab699cf08e7d2a864a74009c46f3a7adf37fbbf0c667", func := "demesne/demesnelaw03.PteFree", spec := "pteFree", apart := false, narrowed := true }
def PteFreeUptoSaid : Prop := pteFreeUptoRow.holds Try.pinned (OpenSpec.upto pteFreeSpec)

/-- 'demesnelaw03.PteAddresses', WHERE WHAT IT READS IS OF BULK AT MOST 1048576: true; the input reads as it did. -/
def pteAddressesUptoRow : OpenClaim := { program := "ytmmfojpbhkklpaa", sum := "716d834e3445366b94abab699cf08e7d2a864a74009c46f3a7adf37fbbf0c667", func := "demesne/demesnelaw03.PteAddresses", spec := "pteAddresses", apart := false, narrowed := true }
def PteAddressesUptoSaid : Prop := pteAddressesUptoRow.holds Try.pinned (OpenSpec.upto pteAddressesSpec)

/-- 'demesnelaw03.PteThere', WHERE WHAT IT READS IS OF BULK AT MOST 1048576: true; the input reads as it did. -/
def pteThereUptoRow : OpenClaim := { program := "ytmmfojpbhkklpaa", sum := "716d834e3445366b94abab699cf08e7d2a864a74009c46f3a7adf37fbbf0c667", func := "demesne/demesnelaw03.PteThere", spec := "pteThere", apart := false, narrowed := true }
def PteThereUptoSaid : Prop := pteThereUptoRow.holds Try.pinned (OpenSpec.upto pteThereSpec)

end Rows
end Go.Proofs.Ytmmfojpbhkklpaa
