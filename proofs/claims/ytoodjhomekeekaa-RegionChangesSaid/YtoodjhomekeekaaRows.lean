/-
  No cell of these rows narrows 'for every input' (looked for: loops, veiled, ifaces, maps, wideKeys, modest, calm, conditions, laid).
  DERIVED. THE GIVEN ROWS OF THIS SEAT. 5 by the template 'for every input the law returns true; each argument reads behind the call as it read before'; 0 by the template 'total and deterministic' (their statements: YtoodjhomekeekaaTotals.lean).
  GIVEN WITH THE SEED: the statements are not yours to turn. If you find one false, say at which input.
  Laid BY PROGRAM, IN A SANDBOX (cutbox-rows.mjs): the forced cells as the released guide's own fill.sh prints them over the translation e85c2fd5c491116a… (all of the seat's roots in one cut). By AI agents, Wed Nov 11 2026. No macro, syntax, notation, axiom, sorry.
-/
import Derived.Test.YtoodjhomekeekaaChecked
import GoSem.Claim
import GoSem.ClaimJoined
import GoSem.ClaimMapViews
import Derived.JoinedTies
import Derived.KernelRfl
namespace Go.Proofs.Ytoodjhomekeekaa
/- THE CELL 'sum', in the pinned program and in every row, IS THE sha256 OF THE DUMP (.gsa) THAT YtoodjhomekeekaaProg.lean LOADS. Nothing in Lean hashes anything: it is a label: what it is worth is what the hold of that sum in a sandbox is worth. -/
noncomputable def Try.pinned : Pinned := { name := "ytoodjhomekeekaa", sum := "e85c2fd5c491116aff70a375291457b32923099dd1e47784813f5020e9579eb2", checked := Try.checked }
namespace Rows
def none {H : Type} : Left H := { results := [], args := [] }

/-- 'demesnelaw10.RegionLooks': WHATEVER THE INPUT: true; the input reads as it did. -/
def regionLooksSpec : ChangeSpec := { name := "regionLooks", fn := fun _ => fun
  | [d1, d2, d3, d4] => { results := [.lit (.bool true)], args := [d1, d2, d3, d4] }
  | _ => none }
def regionLooksRow : OpenClaim := { program := "ytoodjhomekeekaa", sum := "e85c2fd5c491116aff70a375291457b32923099dd1e47784813f5020e9579eb2", func := "demesne/demesnelaw10.RegionLooks", spec := "regionLooks", inPlace := ["slices.overlaps[demesne/region.Region]"], unfollowed := true, recurses := true, apart := false }
def RegionLooksSaid : Prop := regionLooksRow.holds Try.pinned (OpenSpec.ofChange regionLooksSpec)

/-- ITS FALSE NEIGHBOUR: 'it returns false'. Refute it at one input. -/
def regionLooksWrong : ChangeSpec := { name := "regionLooks", fn := fun _ => fun
  | [d1, d2, d3, d4] => { results := [.lit (.bool false)], args := [d1, d2, d3, d4] }
  | _ => none }
def RegionLooksWrongFalsely : Prop := regionLooksRow.holds Try.pinned (OpenSpec.ofChange regionLooksWrong)

/-- 'demesnelaw10.RegionChanges': WHATEVER THE INPUT: true; the input reads as it did. -/
def regionChangesSpec : ChangeSpec := { name := "regionChanges", fn := fun _ => fun
  | [d1, d2, d3, d4, d5, d6] => { results := [.lit (.bool true)], args := [d1, d2, d3, d4, d5, d6] }
  | _ => none }
def regionChangesRow : OpenClaim := { program := "ytoodjhomekeekaa", sum := "e85c2fd5c491116aff70a375291457b32923099dd1e47784813f5020e9579eb2", func := "demesne/demesnelaw10.RegionChanges", spec := "regionChanges", inPlace := ["slices.overlaps[demesne/region.Region]"], unfollowed := true, recurses := true, apart := false }
def RegionChangesSaid : Prop := regionChangesRow.holds Try.pinned (OpenSpec.ofChange regionChangesSpec)

/-- ITS FALSE NEIGHBOUR: 'it returns false'. Refute it at one input. -/
def regionChangesWrong : ChangeSpec := { name := "regionChanges", fn := fun _ => fun
  | [d1, d2, d3, d4, d5, d6] => { results := [.lit (.bool false)], args := [d1, d2, d3, d4, d5, d6] }
  | _ => none }
def RegionChangesWrongFalsely : Prop := regionChangesRow.holds Try.pinned (OpenSpec.ofChange regionChangesWrong)

/-- 'demesnelaw10.RegionBack': WHATEVER THE INPUT: true; the input reads as it did. -/
def regionBackSpec : ChangeSpec := { name := "regionBack", fn := fun _ => fun
  | [d1, d2] => { results := [.lit (.bool true)], args := [d1, d2] }
  | _ => none }
def regionBackRow : OpenClaim := { program := "ytoodjhomekeekaa", sum := "e85c2fd5c491116aff70a375291457b32923099dd1e47784813f5020e9579eb2", func := "demesne/demesnelaw10.RegionBack", spec := "regionBack", inPlace := ["slices.overlaps[demesne/region.Region]"], unfollowed := true, recurses := true, apart := false }
def RegionBackSaid : Prop := regionBackRow.holds Try.pinned (OpenSpec.ofChange regionBackSpec)

/-- ITS FALSE NEIGHBOUR: 'it returns false'. Refute it at one input. -/
def regionBackWrong : ChangeSpec := { name := "regionBack", fn := fun _ => fun
  | [d1, d2] => { results := [.lit (.bool false)], args := [d1, d2] }
  | _ => none }
def RegionBackWrongFalsely : Prop := regionBackRow.holds Try.pinned (OpenSpec.ofChange regionBackWrong)

/-- 'demesnelaw10.RegionOrder': WHATEVER THE INPUT: true; the input reads as it did. -/
def regionOrderSpec : ChangeSpec := { name := "regionOrder", fn := fun _ => fun
  | [d1, d2, d3] => { results := [.lit (.bool true)], args := [d1, d2, d3] }
  | _ => none }
def regionOrderRow : OpenClaim := { program := "ytoodjhomekeekaa", sum := "e85c2fd5c491116aff70a375291457b32923099dd1e47784813f5020e9579eb2", func := "demesne/demesnelaw10.RegionOrder", spec := "regionOrder", inPlace := ["slices.overlaps[demesne/region.Region]"], unfollowed := true, recurses := true, apart := false }
def RegionOrderSaid : Prop := regionOrderRow.holds Try.pinned (OpenSpec.ofChange regionOrderSpec)

/-- ITS FALSE NEIGHBOUR: 'it returns false'. Refute it at one input. -/
def regionOrderWrong : ChangeSpec := { name := "regionOrder", fn := fun _ => fun
  | [d1, d2, d3] => { results := [.lit (.bool false)], args := [d1, d2, d3] }
  | _ => none }
def RegionOrderWrongFalsely : Prop := regionOrderRow.holds Try.pinned (OpenSpec.ofChange regionOrderWrong)

/-- 'demesnelaw10.RegionTwice': WHATEVER THE INPUT: true; the input reads as it did. -/
def regionTwiceSpec : ChangeSpec := { name := "regionTwice", fn := fun _ => fun
  | [d1, d2, d3] => { results := [.lit (.bool true)], args := [d1, d2, d3] }
  | _ => none }
def regionTwiceRow : OpenClaim := { program := "ytoodjhomekeekaa", sum := "e85c2fd5c491116aff70a375291457b32923099dd1e47784813f5020e9579eb2", func := "demesne/demesnelaw10.RegionTwice", spec := "regionTwice", inPlace := ["slices.overlaps[demesne/region.Region]"], unfollowed := true, recurses := true, apart := false }
def RegionTwiceSaid : Prop := regionTwiceRow.holds Try.pinned (OpenSpec.ofChange regionTwiceSpec)

/-- ITS FALSE NEIGHBOUR: 'it returns false'. Refute it at one input. -/
def regionTwiceWrong : ChangeSpec := { name := "regionTwice", fn := fun _ => fun
  | [d1, d2, d3] => { results := [.lit (.bool false)], args := [d1, d2, d3] }
  | _ => none }
def RegionTwiceWrongFalsely : Prop := regionTwiceRow.holds Try.pinned (OpenSpec.ofChange regionTwiceWrong)

/- THE SECOND FORM. 'bulk': how many values and letters a reading holds, each counted each time it is reached (what is shared counts as often as it is met; a slice's spare places count too). A statement '..UptoSaid' is the law's where the arguments, and the package variables that the reading takes, are together of bulk at most 1048576: NARROWER than '..Said'. Prove '..Said' where nothing that the law and all that it calls make is longer than what came in: it says more and counts as full. Else prove '..UptoSaid'. A law counts once. -/
mutual
def uptoBulk {H : Type} : DataW H → Nat
  | .lit (.string bytes) => bytes.length + 1
  | .lit _ => 1
  | .nil => 1
  | .ptr d => uptoBulk d + 1
  | .slice elems spare => uptoBulkAll elems + uptoBulkAll spare + 1
  | .agg parts => uptoBulkAll parts + 1
  | .iface _ d => uptoBulk d + 1
  | .map entries => uptoBulkEntries entries + 1
  | .held _ => 1
def uptoBulkAll {H : Type} : List (DataW H) → Nat
  | [] => 0
  | d :: r => uptoBulk d + uptoBulkAll r
def uptoBulkEntries {H : Type} : List (Lit × DataW H) → Nat
  | [] => 0
  | x :: r => uptoBulkEntry x + uptoBulkEntries r
def uptoBulkEntry {H : Type} : Lit × DataW H → Nat
  | (.string bytes, d) => bytes.length + uptoBulk d + 1
  | (_, d) => uptoBulk d + 1
 end
def uptoSmall : (H : Type) → List (DataW H) → Bool := fun _ ds => decide (uptoBulkAll ds ≤ 1048576)
def OpenSpec.upto (s : _root_.Go.ChangeSpec) : _root_.Go.OpenSpec := { _root_.Go.OpenSpec.ofChange s with cond := some uptoSmall }

/-- 'demesnelaw10.RegionLooks', WHERE WHAT IT READS IS OF BULK AT MOST 1048576: true; the input reads as it did. -/
def regionLooksUptoRow : OpenClaim := { program := "ytoodjhomekeekaa", sum := "e85c2fd5c491116aff70a375291457b32923099dd1e47784813f5020e9579eb2", func := "demesne/demesnelaw10.RegionLooks", spec := "regionLooks", inPlace := ["slices.overlaps[demesne/region.Region]"], unfollowed := true, recurses := true, apart := false, narrowed := true }
def RegionLooksUptoSaid : Prop := regionLooksUptoRow.holds Try.pinned (OpenSpec.upto regionLooksSpec)

/-- 'demesnelaw10.RegionChanges', WHERE WHAT IT READS IS OF BULK AT MOST 1048576: true; the input reads as it did. -/
def regionChangesUptoRow : OpenClaim := { program := "ytoodjhomekeekaa", sum := "e85c2fd5c491116aff70a375291457b32923099dd1e47784813f5020e9579eb2", func := "demesne/demesnelaw10.RegionChanges", spec := "regionChanges", inPlace := ["slices.overlaps[demesne/region.Region]"], unfollowed := true, recurses := true, apart := false, narrowed := true }
def RegionChangesUptoSaid : Prop := regionChangesUptoRow.holds Try.pinned (OpenSpec.upto regionChangesSpec)

/-- 'demesnelaw10.RegionBack', WHERE WHAT IT READS IS OF BULK AT MOST 1048576: true; the input reads as it did. -/
def regionBackUptoRow : OpenClaim := { program := "ytoodjhomekeekaa", sum := "e85c2fd5c491116aff70a375291457b32923099dd1e47784813f5020e9579eb2", func := "demesne/demesnelaw10.RegionBack", spec := "regionBack", inPlace := ["slices.overlaps[demesne/region.Region]"], unfollowed := true, recurses := true, apart := false, narrowed := true }
def RegionBackUptoSaid : Prop := regionBackUptoRow.holds Try.pinned (OpenSpec.upto regionBackSpec)

/-- 'demesnelaw10.RegionOrder', WHERE WHAT IT READS IS OF BULK AT MOST 1048576: true; the input reads as it did. -/
def regionOrderUptoRow : OpenClaim := { program := "ytoodjhomekeekaa", sum := "e85c2fd5c491116aff70a375291457b32923099dd1e47784813f5020e9579eb2", func := "demesne/demesnelaw10.RegionOrder", spec := "regionOrder", inPlace := ["slices.overlaps[demesne/region.Region]"], unfollowed := true, recurses := true, apart := false, narrowed := true }
def RegionOrderUptoSaid : Prop := regionOrderUptoRow.holds Try.pinned (OpenSpec.upto regionOrderSpec)

/-- 'demesnelaw10.RegionTwice', WHERE WHAT IT READS IS OF BULK AT MOST 1048576: true; the input reads as it did. -/
def regionTwiceUptoRow : OpenClaim := { program := "ytoodjhomekeekaa", sum := "e85c2fd5c491116aff70a375291457b32923099dd1e47784813f5020e9579eb2", func := "demesne/demesnelaw10.RegionTwice", spec := "regionTwice", inPlace := ["slices.overlaps[demesne/region.Region]"], unfollowed := true, recurses := true, apart := false, narrowed := true }
def RegionTwiceUptoSaid : Prop := regionTwiceUptoRow.holds Try.pinned (OpenSpec.upto regionTwiceSpec)

end Rows
end Go.Proofs.Ytoodjhomekeekaa
