/-
  No cell of these rows narrows 'for every input' (looked for: loops, veiled, ifaces, maps, wideKeys, modest, calm, conditions, laid).
  DERIVED. THE GIVEN ROWS OF THIS SEAT. 5 by the template 'for every input the law returns true; each argument reads behind the call as it read before'; 0 by the template 'total and deterministic' (their statements: YtgnkgfejnnkkaaaTotals.lean).
  GIVEN WITH THE SEED: the statements are not yours to turn. If you find one false, say at which input.
  Laid BY PROGRAM, IN A SANDBOX (cutbox-rows.mjs): the forced cells as the released guide's own fill.sh prints them over the translation 1a45c265cffcb21b… (all of the seat's roots in one cut). By AI agents, Wed Nov 11 2026. No macro, syntax, notation, axiom, sorry.
-/
import Derived.Test.YtgnkgfejnnkkaaaChecked
import GoSem.Claim
import GoSem.ClaimJoined
import GoSem.ClaimMapViews
import Derived.JoinedTies
import Derived.KernelRfl
namespace Go.Proofs.Ytgnkgfejnnkkaaa
/- THE CELL 'sum', in the pinned program and in every row, IS THE sha256 OF THE DUMP (.gsa) THAT YtgnkgfejnnkkaaaProg.lean LOADS. Nothing in Lean hashes anything: it is a label: what it is worth is what the hold of that sum in a sandbox is worth. -/
noncomputable def Try.pinned : Pinned := { name := "ytgnkgfejnnkkaaa", sum := "1a45c265cffcb21b0703594c93a7af2c67d360347381bbffe68754a9e0ee7f8f", checked := Try.checked }
namespace Rows
def none {H : Type} : Left H := { results := [], args := [] }

/-- 'demesnelaw08.QuotaChain': WHATEVER THE INPUT: true; the input reads as it did. -/
def quotaChainSpec : ChangeSpec := { name := "quotaChain", fn := fun _ => fun
  | [d1, d2, d3, d4] => { results := [.lit (.bool true)], args := [d1, d2, d3, d4] }
  | _ => none }
def quotaChainRow : OpenClaim := { program := "ytgnkgfejnnkkaaa", sum := "1a45c265cffcb21b0703594c93a7af2c67d360347381bbffe68754a9e0ee7f8f", func := "demesne/demesnelaw08.QuotaChain", spec := "quotaChain", unfollowed := true, recurses := true, apart := false }
def QuotaChainSaid : Prop := quotaChainRow.holds Try.pinned (OpenSpec.ofChange quotaChainSpec)

/-- ITS FALSE NEIGHBOUR: 'it returns false'. Refute it at one input. -/
def quotaChainWrong : ChangeSpec := { name := "quotaChain", fn := fun _ => fun
  | [d1, d2, d3, d4] => { results := [.lit (.bool false)], args := [d1, d2, d3, d4] }
  | _ => none }
def QuotaChainWrongFalsely : Prop := quotaChainRow.holds Try.pinned (OpenSpec.ofChange quotaChainWrong)

/-- 'demesnelaw08.QuotaNeutral': WHATEVER THE INPUT: true; the input reads as it did. -/
def quotaNeutralSpec : ChangeSpec := { name := "quotaNeutral", fn := fun _ => fun
  | [d1, d2, d3, d4] => { results := [.lit (.bool true)], args := [d1, d2, d3, d4] }
  | _ => none }
def quotaNeutralRow : OpenClaim := { program := "ytgnkgfejnnkkaaa", sum := "1a45c265cffcb21b0703594c93a7af2c67d360347381bbffe68754a9e0ee7f8f", func := "demesne/demesnelaw08.QuotaNeutral", spec := "quotaNeutral", unfollowed := true, recurses := true, apart := false }
def QuotaNeutralSaid : Prop := quotaNeutralRow.holds Try.pinned (OpenSpec.ofChange quotaNeutralSpec)

/-- ITS FALSE NEIGHBOUR: 'it returns false'. Refute it at one input. -/
def quotaNeutralWrong : ChangeSpec := { name := "quotaNeutral", fn := fun _ => fun
  | [d1, d2, d3, d4] => { results := [.lit (.bool false)], args := [d1, d2, d3, d4] }
  | _ => none }
def QuotaNeutralWrongFalsely : Prop := quotaNeutralRow.holds Try.pinned (OpenSpec.ofChange quotaNeutralWrong)

/-- 'demesnelaw08.QuotaPlays': WHATEVER THE INPUT: true; the input reads as it did. -/
def quotaPlaysSpec : ChangeSpec := { name := "quotaPlays", fn := fun _ => fun
  | [d1, d2] => { results := [.lit (.bool true)], args := [d1, d2] }
  | _ => none }
def quotaPlaysRow : OpenClaim := { program := "ytgnkgfejnnkkaaa", sum := "1a45c265cffcb21b0703594c93a7af2c67d360347381bbffe68754a9e0ee7f8f", func := "demesne/demesnelaw08.QuotaPlays", spec := "quotaPlays", unfollowed := true, recurses := true, apart := false }
def QuotaPlaysSaid : Prop := quotaPlaysRow.holds Try.pinned (OpenSpec.ofChange quotaPlaysSpec)

/-- ITS FALSE NEIGHBOUR: 'it returns false'. Refute it at one input. -/
def quotaPlaysWrong : ChangeSpec := { name := "quotaPlays", fn := fun _ => fun
  | [d1, d2] => { results := [.lit (.bool false)], args := [d1, d2] }
  | _ => none }
def QuotaPlaysWrongFalsely : Prop := quotaPlaysRow.holds Try.pinned (OpenSpec.ofChange quotaPlaysWrong)

/-- 'demesnelaw08.QuotaHolds': WHATEVER THE INPUT: true; the input reads as it did. -/
def quotaHoldsSpec : ChangeSpec := { name := "quotaHolds", fn := fun _ => fun
  | [d1, d2] => { results := [.lit (.bool true)], args := [d1, d2] }
  | _ => none }
def quotaHoldsRow : OpenClaim := { program := "ytgnkgfejnnkkaaa", sum := "1a45c265cffcb21b0703594c93a7af2c67d360347381bbffe68754a9e0ee7f8f", func := "demesne/demesnelaw08.QuotaHolds", spec := "quotaHolds", unfollowed := true, recurses := true, apart := false }
def QuotaHoldsSaid : Prop := quotaHoldsRow.holds Try.pinned (OpenSpec.ofChange quotaHoldsSpec)

/-- ITS FALSE NEIGHBOUR: 'it returns false'. Refute it at one input. -/
def quotaHoldsWrong : ChangeSpec := { name := "quotaHolds", fn := fun _ => fun
  | [d1, d2] => { results := [.lit (.bool false)], args := [d1, d2] }
  | _ => none }
def QuotaHoldsWrongFalsely : Prop := quotaHoldsRow.holds Try.pinned (OpenSpec.ofChange quotaHoldsWrong)

/-- 'demesnelaw08.QuotaEnds': WHATEVER THE INPUT: true; the input reads as it did. -/
def quotaEndsSpec : ChangeSpec := { name := "quotaEnds", fn := fun _ => fun
  | [d1, d2] => { results := [.lit (.bool true)], args := [d1, d2] }
  | _ => none }
def quotaEndsRow : OpenClaim := { program := "ytgnkgfejnnkkaaa", sum := "1a45c265cffcb21b0703594c93a7af2c67d360347381bbffe68754a9e0ee7f8f", func := "demesne/demesnelaw08.QuotaEnds", spec := "quotaEnds", unfollowed := true, recurses := true, apart := false }
def QuotaEndsSaid : Prop := quotaEndsRow.holds Try.pinned (OpenSpec.ofChange quotaEndsSpec)

/-- ITS FALSE NEIGHBOUR: 'it returns false'. Refute it at one input. -/
def quotaEndsWrong : ChangeSpec := { name := "quotaEnds", fn := fun _ => fun
  | [d1, d2] => { results := [.lit (.bool false)], args := [d1, d2] }
  | _ => none }
def QuotaEndsWrongFalsely : Prop := quotaEndsRow.holds Try.pinned (OpenSpec.ofChange quotaEndsWrong)

/- THE SECOND FORM. 'bulk': how many values and letters a reading holds, each counted each time it is reached (what is shared counts as often as it is met; a slice's spare places count too). A statement '..UptoSaid' is the law's where the arguments, and the package variables that the reading takes, are together of bulk at most 1048576: NARROWER than '..Said'. Prove '..Said' where nothing that the law and all that it calls make is longer than what came in: it says more and counts as full. Else prove '..UptoSaid'. A law counts once. -/
mutual
def uptoBulk {H : Type} : DataW H → Nat
  | .lit (.string bytes) => bytes.length + 1
  | .lit _ => 1
  | .nil => 1
  | .ptr d => uptoBulk d + 1
  | .slice elems spare => uptoBulkAll elems + uptoBulkAll spare + 1
  | .agg parts => uptoBulkAll parts + 1
  | .iface _ d => uptoBulk d + 1
  | .map entries => uptoBulkEntries entries + 1
  | .held _ => 1
def uptoBulkAll {H : Type} : List (DataW H) → Nat
  | [] => 0
  | d :: r => uptoBulk d + uptoBulkAll r
def uptoBulkEntries {H : Type} : List (Lit × DataW H) → Nat
  | [] => 0
  | x :: r => uptoBulkEntry x + uptoBulkEntries r
def uptoBulkEntry {H : Type} : Lit × DataW H → Nat
  | (.string bytes, d) => bytes.length + uptoBulk d + 1
  | (_, d) => uptoBulk d + 1
 end
def uptoSmall : (H : Type) → List (DataW H) → Bool := fun _ ds => decide (uptoBulkAll ds ≤ 1048576)
def OpenSpec.upto (s : _root_.Go.ChangeSpec) : _root_.Go.OpenSpec := { _root_.Go.OpenSpec.ofChange s with cond := some uptoSmall }

/-- 'demesnelaw08.QuotaChain', WHERE WHAT IT READS IS OF BULK AT MOST 1048576: true; the input reads as it did. -/
def quotaChainUptoRow : OpenClaim := { program := "ytgnkgfejnnkkaaa", sum := "1a45c265cffcb21b0703594c93a7af2c67d360347381bbffe68754a9e0ee7f8f", func := "demesne/demesnelaw08.QuotaChain", spec := "quotaChain", unfollowed := true, recurses := true, apart := false, narrowed := true }
def QuotaChainUptoSaid : Prop := quotaChainUptoRow.holds Try.pinned (OpenSpec.upto quotaChainSpec)

/-- 'demesnelaw08.QuotaNeutral', WHERE WHAT IT READS IS OF BULK AT MOST 1048576: true; the input reads as it did. -/
def quotaNeutralUptoRow : OpenClaim := { program := "ytgnkgfejnnkkaaa", sum := "1a45c265cffcb21b0703594c93a7af2c67d360347381bbffe68754a9e0ee7f8f", func := "demesne/demesnelaw08.QuotaNeutral", spec := "quotaNeutral", unfollowed := true, recurses := true, apart := false, narrowed := true }
def QuotaNeutralUptoSaid : Prop := quotaNeutralUptoRow.holds Try.pinned (OpenSpec.upto quotaNeutralSpec)

/-- 'demesnelaw08.QuotaPlays', WHERE WHAT IT READS IS OF BULK AT MOST 1048576: true; the input reads as it did. -/
def quotaPlaysUptoRow : OpenClaim := { program := "ytgnkgfejnnkkaaa", sum := "1a45c265cffcb21b0703594c93a7af2c67d360347381bbffe68754a9e0ee7f8f", func := "demesne/demesnelaw08.QuotaPlays", spec := "quotaPlays", unfollowed := true, recurses := true, apart := false, narrowed := true }
def QuotaPlaysUptoSaid : Prop := quotaPlaysUptoRow.holds Try.pinned (OpenSpec.upto quotaPlaysSpec)

/-- 'demesnelaw08.QuotaHolds', WHERE WHAT IT READS IS OF BULK AT MOST 1048576: true; the input reads as it did. -/
def quotaHoldsUptoRow : OpenClaim := { program := "ytgnkgfejnnkkaaa", sum := "1a45c265cffcb21b0703594c93a7af2c67d360347381bbffe68754a9e0ee7f8f", func := "demesne/demesnelaw08.QuotaHolds", spec := "quotaHolds", unfollowed := true, recurses := true, apart := false, narrowed := true }
def QuotaHoldsUptoSaid : Prop := quotaHoldsUptoRow.holds Try.pinned (OpenSpec.upto quotaHoldsSpec)

/-- 'demesnelaw08.QuotaEnds', WHERE WHAT IT READS IS OF BULK AT MOST 1048576: true; the input reads as it did. -/
def quotaEndsUptoRow : OpenClaim := { program := "ytgnkgfejnnkkaaa", sum := "1a45c265cffcb21b0703594c93a7af2c67d360347381bbffe68754a9e0ee7f8f", func := "demesne/demesnelaw08.QuotaEnds", spec := "quotaEnds", unfollowed := true, recurses := true, apart := false, narrowed := true }
def QuotaEndsUptoSaid : Prop := quotaEndsUptoRow.holds Try.pinned (OpenSpec.upto quotaEndsSpec)

end Rows
end Go.Proofs.Ytgnkgfejnnkkaaa
