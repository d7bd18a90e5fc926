/-
  No cell of these rows narrows 'for every input' (looked for: loops, veiled, ifaces, maps, wideKeys, modest, calm, conditions, laid).
  DERIVED. THE GIVEN ROWS OF THIS SEAT. 6 by the template 'for every input the law returns true; each argument reads behind the call as it read before'; 0 by the template 'total and deterministic' (their statements: YthnojhldpbjkoaaTotals.lean).
  GIVEN WITH THE SEED: the statements are not yours to turn. If you find one false, say at which input.
  Laid BY PROGRAM, IN A SANDBOX (cutbox-rows.mjs): the forced cells as the released guide's own fill.sh prints them over the translation 3c0aa5c36fe77e5e… (all of the seat's roots in one cut). By AI agents, Wed Nov 11 2026. No macro, syntax, notation, axiom, sorry.
-/
import Derived.Test.YthnojhldpbjkoaaChecked
import GoSem.Claim
import GoSem.ClaimJoined
import GoSem.ClaimMapViews
import Derived.JoinedTies
import Derived.KernelRfl
namespace Go.Proofs.Ythnojhldpbjkoaa
/- THE CELL 'sum', in the pinned program and in every row, IS THE sha256 OF THE DUMP (.gsa) THAT YthnojhldpbjkoaaProg.lean LOADS. Nothing in Lean hashes anything: it is a label: what it is worth is what the hold of that sum in a sandbox is worth. -/
noncomputable def Try.pinned : Pinned := { name := "ythnojhldpbjkoaa", sum := "3c0aa5c36fe77e5e1a0f341c7256ab81e6d32d2205ef7d1a1b97f9262ab334c3", checked := Try.checked }
namespace Rows
def none {H : Type} : Left H := { results := [], args := [] }

/-- 'demesnelaw05.TlbPlaces': WHATEVER THE INPUT: true; the input reads as it did. -/
def tlbPlacesSpec : ChangeSpec := { name := "tlbPlaces", fn := fun _ => fun
  | [d1, d2, d3, d4] => { results := [.lit (.bool true)], args := [d1, d2, d3, d4] }
  | _ => none }
def tlbPlacesRow : OpenClaim := { program := "ythnojhldpbjkoaa", sum := "3c0aa5c36fe77e5e1a0f341c7256ab81e6d32d2205ef7d1a1b97f9262ab334c3", func := "demesne/demesnelaw05.TlbPlaces", spec := "tlbPlaces", unfollowed := true, recurses := true, apart := false }
def TlbPlacesSaid : Prop := tlbPlacesRow.holds Try.pinned (OpenSpec.ofChange tlbPlacesSpec)

/-- ITS FALSE NEIGHBOUR: 'it returns false'. Refute it at one input. -/
def tlbPlacesWrong : ChangeSpec := { name := "tlbPlaces", fn := fun _ => fun
  | [d1, d2, d3, d4] => { results := [.lit (.bool false)], args := [d1, d2, d3, d4] }
  | _ => none }
def TlbPlacesWrongFalsely : Prop := tlbPlacesRow.holds Try.pinned (OpenSpec.ofChange tlbPlacesWrong)

/-- 'demesnelaw05.TlbFull': WHATEVER THE INPUT: true; the input reads as it did. -/
def tlbFullSpec : ChangeSpec := { name := "tlbFull", fn := fun _ => fun
  | [d1, d2, d3] => { results := [.lit (.bool true)], args := [d1, d2, d3] }
  | _ => none }
def tlbFullRow : OpenClaim := { program := "ythnojhldpbjkoaa", sum := "3c0aa5c36fe77e5e1a0f341c7256ab81e6d32d2205ef7d1a1b97f9262ab334c3", func := "demesne/demesnelaw05.TlbFull", spec := "tlbFull", unfollowed := true, recurses := true, apart := false }
def TlbFullSaid : Prop := tlbFullRow.holds Try.pinned (OpenSpec.ofChange tlbFullSpec)

/-- ITS FALSE NEIGHBOUR: 'it returns false'. Refute it at one input. -/
def tlbFullWrong : ChangeSpec := { name := "tlbFull", fn := fun _ => fun
  | [d1, d2, d3] => { results := [.lit (.bool false)], args := [d1, d2, d3] }
  | _ => none }
def TlbFullWrongFalsely : Prop := tlbFullRow.holds Try.pinned (OpenSpec.ofChange tlbFullWrong)

/-- 'demesnelaw05.TlbGlobals': WHATEVER THE INPUT: true; the input reads as it did. -/
def tlbGlobalsSpec : ChangeSpec := { name := "tlbGlobals", fn := fun _ => fun
  | [d1, d2, d3] => { results := [.lit (.bool true)], args := [d1, d2, d3] }
  | _ => none }
def tlbGlobalsRow : OpenClaim := { program := "ythnojhldpbjkoaa", sum := "3c0aa5c36fe77e5e1a0f341c7256ab81e6d32d2205ef7d1a1b97f9262ab334c3", func := "demesne/demesnelaw05.TlbGlobals", spec := "tlbGlobals", unfollowed := true, recurses := true, apart := false }
def TlbGlobalsSaid : Prop := tlbGlobalsRow.holds Try.pinned (OpenSpec.ofChange tlbGlobalsSpec)

/-- ITS FALSE NEIGHBOUR: 'it returns false'. Refute it at one input. -/
def tlbGlobalsWrong : ChangeSpec := { name := "tlbGlobals", fn := fun _ => fun
  | [d1, d2, d3] => { results := [.lit (.bool false)], args := [d1, d2, d3] }
  | _ => none }
def TlbGlobalsWrongFalsely : Prop := tlbGlobalsRow.holds Try.pinned (OpenSpec.ofChange tlbGlobalsWrong)

/-- 'demesnelaw05.TlbPlays': WHATEVER THE INPUT: true; the input reads as it did. -/
def tlbPlaysSpec : ChangeSpec := { name := "tlbPlays", fn := fun _ => fun
  | [d1, d2, d3] => { results := [.lit (.bool true)], args := [d1, d2, d3] }
  | _ => none }
def tlbPlaysRow : OpenClaim := { program := "ythnojhldpbjkoaa", sum := "3c0aa5c36fe77e5e1a0f341c7256ab81e6d32d2205ef7d1a1b97f9262ab334c3", func := "demesne/demesnelaw05.TlbPlays", spec := "tlbPlays", unfollowed := true, recurses := true, apart := false }
def TlbPlaysSaid : Prop := tlbPlaysRow.holds Try.pinned (OpenSpec.ofChange tlbPlaysSpec)

/-- ITS FALSE NEIGHBOUR: 'it returns false'. Refute it at one input. -/
def tlbPlaysWrong : ChangeSpec := { name := "tlbPlays", fn := fun _ => fun
  | [d1, d2, d3] => { results := [.lit (.bool false)], args := [d1, d2, d3] }
  | _ => none }
def TlbPlaysWrongFalsely : Prop := tlbPlaysRow.holds Try.pinned (OpenSpec.ofChange tlbPlaysWrong)

/-- 'demesnelaw05.TlbOne': WHATEVER THE INPUT: true; the input reads as it did. -/
def tlbOneSpec : ChangeSpec := { name := "tlbOne", fn := fun _ => fun
  | [d1, d2, d3] => { results := [.lit (.bool true)], args := [d1, d2, d3] }
  | _ => none }
def tlbOneRow : OpenClaim := { program := "ythnojhldpbjkoaa", sum := "3c0aa5c36fe77e5e1a0f341c7256ab81e6d32d2205ef7d1a1b97f9262ab334c3", func := "demesne/demesnelaw05.TlbOne", spec := "tlbOne", unfollowed := true, recurses := true, apart := false }
def TlbOneSaid : Prop := tlbOneRow.holds Try.pinned (OpenSpec.ofChange tlbOneSpec)

/-- ITS FALSE NEIGHBOUR: 'it returns false'. Refute it at one input. -/
def tlbOneWrong : ChangeSpec := { name := "tlbOne", fn := fun _ => fun
  | [d1, d2, d3] => { results := [.lit (.bool false)], args := [d1, d2, d3] }
  | _ => none }
def TlbOneWrongFalsely : Prop := tlbOneRow.holds Try.pinned (OpenSpec.ofChange tlbOneWrong)

/-- 'demesnelaw05.TlbGone': WHATEVER THE INPUT: true; the input reads as it did. -/
def tlbGoneSpec : ChangeSpec := { name := "tlbGone", fn := fun _ => fun
  | [d1, d2, d3, d4] => { results := [.lit (.bool true)], args := [d1, d2, d3, d4] }
  | _ => none }
def tlbGoneRow : OpenClaim := { program := "ythnojhldpbjkoaa", sum := "3c0aa5c36fe77e5e1a0f341c7256ab81e6d32d2205ef7d1a1b97f9262ab334c3", func := "demesne/demesnelaw05.TlbGone", spec := "tlbGone", unfollowed := true, recurses := true, apart := false }
def TlbGoneSaid : Prop := tlbGoneRow.holds Try.pinned (OpenSpec.ofChange tlbGoneSpec)

/-- ITS FALSE NEIGHBOUR: 'it returns false'. Refute it at one input. -/
def tlbGoneWrong : ChangeSpec := { name := "tlbGone", fn := fun _ => fun
  | [d1, d2, d3, d4] => { results := [.lit (.bool false)], args := [d1, d2, d3, d4] }
  | _ => none }
def TlbGoneWrongFalsely : Prop := tlbGoneRow.holds Try.pinned (OpenSpec.ofChange tlbGoneWrong)

/- THE SECOND FORM. 'bulk': how many values and letters a reading holds, each counted each time it is reached (what is shared counts as often as it is met; a slice's spare places count too). A statement '..UptoSaid' is the law's where the arguments, and the package variables that the reading takes, are together of bulk at most 1048576: NARROWER than '..Said'. Prove '..Said' where nothing that the law and all that it calls make is longer than what came in: it says more and counts as full. Else prove '..UptoSaid'. A law counts once. -/
mutual
def uptoBulk {H : Type} : DataW H → Nat
  | .lit (.string bytes) => bytes.length + 1
  | .lit _ => 1
  | .nil => 1
  | .ptr d => uptoBulk d + 1
  | .slice elems spare => uptoBulkAll elems + uptoBulkAll spare + 1
  | .agg parts => uptoBulkAll parts + 1
  | .iface _ d => uptoBulk d + 1
  | .map entries => uptoBulkEntries entries + 1
  | .held _ => 1
def uptoBulkAll {H : Type} : List (DataW H) → Nat
  | [] => 0
  | d :: r => uptoBulk d + uptoBulkAll r
def uptoBulkEntries {H : Type} : List (Lit × DataW H) → Nat
  | [] => 0
  | x :: r => uptoBulkEntry x + uptoBulkEntries r
def uptoBulkEntry {H : Type} : Lit × DataW H → Nat
  | (.string bytes, d) => bytes.length + uptoBulk d + 1
  | (_, d) => uptoBulk d + 1
 end
def uptoSmall : (H : Type) → List (DataW H) → Bool := fun _ ds => decide (uptoBulkAll ds ≤ 1048576)
def OpenSpec.upto (s : _root_.Go.ChangeSpec) : _root_.Go.OpenSpec := { _root_.Go.OpenSpec.ofChange s with cond := some uptoSmall }

/-- 'demesnelaw05.TlbPlaces', WHERE WHAT IT READS IS OF BULK AT MOST 1048576: true; the input reads as it did. -/
def tlbPlacesUptoRow : OpenClaim := { program := "ythnojhldpbjkoaa", sum := "3c0aa5c36fe77e5e1a0f341c7256ab81e6d32d2205ef7d1a1b97f9262ab334c3", func := "demesne/demesnelaw05.TlbPlaces", spec := "tlbPlaces", unfollowed := true, recurses := true, apart := false, narrowed := true }
def TlbPlacesUptoSaid : Prop := tlbPlacesUptoRow.holds Try.pinned (OpenSpec.upto tlbPlacesSpec)

/-- 'demesnelaw05.TlbFull', WHERE WHAT IT READS IS OF BULK AT MOST 1048576: true; the input reads as it did. -/
def tlbFullUptoRow : OpenClaim := { program := "ythnojhldpbjkoaa", sum := "3c0aa5c36fe77e5e1a0f341c7256ab81e6d32d2205ef7d1a1b97f9262ab334c3", func := "demesne/demesnelaw05.TlbFull", spec := "tlbFull", unfollowed := true, recurses := true, apart := false, narrowed := true }
def TlbFullUptoSaid : Prop := tlbFullUptoRow.holds Try.pinned (OpenSpec.upto tlbFullSpec)

/-- 'demesnelaw05.TlbGlobals', WHERE WHAT IT READS IS OF BULK AT MOST 1048576: true; the input reads as it did. -/
def tlbGlobalsUptoRow : OpenClaim := { program := "ythnojhldpbjkoaa", sum := "3c0aa5c36fe77e5e1a0f341c7256ab81e6d32d2205ef7d1a1b97f9262ab334c3", func := "demesne/demesnelaw05.TlbGlobals", spec := "tlbGlobals", unfollowed := true, recurses := true, apart := false, narrowed := true }
def TlbGlobalsUptoSaid : Prop := tlbGlobalsUptoRow.holds Try.pinned (OpenSpec.upto tlbGlobalsSpec)

/-- 'demesnelaw05.TlbPlays', WHERE WHAT IT READS IS OF BULK AT MOST 1048576: true; the input reads as it did. -/
def tlbPlaysUptoRow : OpenClaim := { program := "ythnojhldpbjkoaa", sum := "3c0aa5c36fe77e5e1a0f341c7256ab81e6d32d2205ef7d1a1b97f9262ab334c3", func := "demesne/demesnelaw05.TlbPlays", spec := "tlbPlays", unfollowed := true, recurses := true, apart := false, narrowed := true }
def TlbPlaysUptoSaid : Prop := tlbPlaysUptoRow.holds Try.pinned (OpenSpec.upto tlbPlaysSpec)

/-- 'demesnelaw05.TlbOne', WHERE WHAT IT READS IS OF BULK AT MOST 1048576: true; the input reads as it did. -/
def tlbOneUptoRow : OpenClaim := { program := "ythnojhldpbjkoaa", sum := "3c0aa5c36fe77e5e1a0f341c7256ab81e6d32d2205ef7d1a1b97f9262ab334c3", func := "demesne/demesnelaw05.TlbOne", spec := "tlbOne", unfollowed := true, recurses := true, apart := false, narrowed := true }
def TlbOneUptoSaid : Prop := tlbOneUptoRow.holds Try.pinned (OpenSpec.upto tlbOneSpec)

/-- 'demesnelaw05.TlbGone', WHERE WHAT IT READS IS OF BULK AT MOST 1048576: true; the input reads as it did. -/
def tlbGoneUptoRow : OpenClaim := { program := "ythnojhldpbjkoaa", sum := "3c0aa5c36fe77e5e1a0f341c7256ab81e6d32d2205ef7d1a1b97f9262ab334c3", func := "demesne/demesnelaw05.TlbGone", spec := "tlbGone", unfollowed := true, recurses := true, apart := false, narrowed := true }
def TlbGoneUptoSaid : Prop := tlbGoneUptoRow.holds Try.pinned (OpenSpec.upto tlbGoneSpec)

end Rows
end Go.Proofs.Ythnojhldpbjkoaa
