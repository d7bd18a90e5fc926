/- One element more on a row of the call's own: which blocks stay. No condition but the bounds. -/
import Derived.Test.YtbbohjmkippigaaApp1
namespace Go.Proofs.Ytbbohjmkippigaa
open Go.ChangeShapes Go.WideShapes Go.ChangeAt Go.RowKit
set_option linter.unusedVariables false
set_option linter.unusedSimpArgs false
section
variable {P : Program}
theorem app_one2 (B : Nat) (w0 : World) (hle : B ≤ w0.heap.size) (t ty e : TypeId) {i : TypeInfo} {z : Value} {size bytes : Nat} (ht : P.underlying t = some (.slice e)) (hi : P.info? e = some i) (hz : i.zero = some z)
    (hsize : i.size = size) (hby : i.bytes = bytes) (hzs : z.cells.size = size) (hsz : 0 < size) {W : World}
    {v : Value} {n : Nat} {xs : List Value} (hown : W.ownsRow B e size v n xs) (hB : Below B w0 W) (cs : Array Value) (hcs : cs.size = size) (h1 : ∀ u ∈ cs.toList, u.oneCell' = true)
    (h63 : n + 1 ≤ maxLen) (hbytes : (n + 1) * bytes ≤ 140737488355328) :
    ∃ A c w', (Builtin.append_ #[t, t] ty #[v, .slice (some ⟨W.heap.size, 0, none⟩) 1 1]).run P (W.alloc (.cells cs e)) = .ok (.slice A (n + 1) c) w' ∧ w'.ownsRow B e size (.slice A (n + 1) c) (n + 1) (xs ++ cs.toList) ∧ Below B w0 w' ∧
      W.heap.size < w'.heap.size ∧ ∀ b, b < W.heap.size → some b ≠ v.ownBlock → w'.heap[b]? = W.heap[b]? := by
  have hlt := hown.lt
  have hWs := hB.size
  obtain ⟨v2, w3, a2, o2, g2⟩ := run_app (P := P) B t ty e ht hi hz hsize hby hzs hsz (hown.alloc _) (Rd.lit W size cs e 1 1 (by rw [hcs, Nat.one_mul])) h1 h63 hbytes (by rw [World.size_alloc]; omega)
  obtain ⟨A2, c2, rfl⟩ := row_form o2
  refine ⟨A2, c2, w3, a2, o2, Below.grown (hB.alloc (by omega) (.cells cs e)) g2 (by rw [World.size_alloc]; omega) (fun k e => (hlt k e).1), by have := g2.size; rw [World.size_alloc] at this; omega, fun b hb hne => ?_⟩
  rw [g2.block b (by rw [World.size_alloc]; omega) hne, Below.heap_alloc W _ b hb]
theorem own_ne {w : World} {base : Nat} {e : TypeId} {size : Nat} {v : Value} {n : Nat} {xs : List Value} (h : w.ownsRow base e size v n xs) {b : Nat} (hb : b < base ∨ w.heap.size ≤ b) : some b ≠ v.ownBlock := by
  intro e
  have := h.lt b e.symm
  omega
end
end Go.Proofs.Ytbbohjmkippigaa
