/- The reference of layer 1: Check and Has; few. No condition but bounds on lengths. -/
import Derived.Test.YtnjjeedalmikaaaRamL
namespace Go.Proofs.Ytnjjeedalmikaaa
open Go.ChangeShapes Go.WideShapes Go.ChangeAt Go.RowKit
set_option linter.unusedVariables false
set_option linter.unusedSimpArgs false
section
variable {H : Type} {P : Program} {w : World} {spare : Nat → Bool} {held : Bool} {enc : TypeId × Value → H} {base : Nat}
theorem open_rowsC {r : Reach} {b0 : Nat} {t e : TypeId} {v : Value} {d : DataW H} {ps : List MemPlace} (f : Nat) {l : List K} (hl : 0 < l.length) (hu : P.underlying t = some (.slice e)) (hfl : flat P f e = some l) (hc : P.cellsOf e = l.length)
    (hval : Value.okWide P w r b0 t v) (hd : DataW.Trod enc P w base spare held t v d ps) : ∃ A len cap, v = .slice A len cap ∧ Rows_ w l A len ∧ len ≤ cap := by
  obtain ⟨A, len, cap, rfl, hr⟩ := open_rows f hl hu hfl hc hval hd
  refine ⟨A, len, cap, rfl, hr, ?_⟩
  obtain ⟨fuel, hf⟩ := hd
  rcases Go.Deep.open_slice hu hf with ⟨hcs, _⟩ | ⟨a, len', cap', m, n, D, Pl, hcs, _, hlc, _⟩
  · simp [Value.cells] at hcs; omega
  · simp [Value.cells] at hcs; omega
end
end Go.Proofs.Ytnjjeedalmikaaa
