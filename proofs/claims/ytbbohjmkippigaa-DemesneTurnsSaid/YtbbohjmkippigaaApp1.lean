/- One element more on a row of the call's own. No condition but the bounds. -/
import Derived.Test.YtbbohjmkippigaaApp
namespace Go.Proofs.Ytbbohjmkippigaa
open Go.ChangeShapes Go.WideShapes Go.ChangeAt Go.RowKit
set_option linter.unusedVariables false
set_option linter.unusedSimpArgs false
section
variable {P : Program}
theorem row_form {w : World} {base : Nat} {e : TypeId} {size : Nat} {v : Value} {n : Nat} {xs : List Value} (h : w.ownsRow base e size v n xs) : ∃ A cap, v = .slice A n cap := by
  rcases h.2 with ⟨h1, h0⟩ | ⟨b, cap, cur, rfl, _⟩
  · rw [h0]; exact ⟨none, 0, h1⟩
  · exact ⟨_, _, rfl⟩
theorem row_below {w w' : World} {base : Nat} {e : TypeId} {size : Nat} {v : Value} {n : Nat} {xs : List Value} (h : w.ownsRow base e size v n xs) (hb : Below w.heap.size w w') : w'.ownsRow base e size v n xs := by
  refine ⟨h.1, ?_⟩
  rcases h.2 with h1 | ⟨b, cap, cur, rfl, h2, hg, h3⟩
  · exact .inl h1
  · exact .inr ⟨b, cap, cur, rfl, h2, (hb.block b (heap_lt hg)).trans hg, h3⟩
theorem row_mono {w : World} {base base' : Nat} {e : TypeId} {size : Nat} {v : Value} {n : Nat} {xs : List Value} (h : w.ownsRow base e size v n xs) (hb : base' ≤ base) : w.ownsRow base' e size v n xs := by
  refine ⟨h.1, ?_⟩
  rcases h.2 with h1 | ⟨g, cap, cur, h1, h2, h3⟩
  · exact .inl h1
  · exact .inr ⟨g, cap, cur, h1, Nat.le_trans hb h2, h3⟩
/-- A row's cells, where there is an element. -/
theorem row_cells {w : World} {base : Nat} {e : TypeId} {size : Nat} {v : Value} {n : Nat} {xs : List Value} (h : w.ownsRow base e size v n xs) (hn : 0 < n) :
    ∃ b cap, v = .slice (some ⟨b, 0, none⟩) n cap ∧ base ≤ b ∧ b < w.heap.size ∧ ∀ j, j < xs.length → w.cell? ⟨b, j, none⟩ = xs[j]? := by
  have h' := h
  rcases h.2 with ⟨_, h0⟩ | ⟨b, cap, cur, rfl, hb, hg, _⟩
  · omega
  · exact ⟨b, cap, rfl, hb, heap_lt hg, fun j hj => World.ownsRow.cellAt h' j (by rw [← h.1]; exact hj)⟩
theorem app_one (w0 : World) (t ty e : TypeId) {i : TypeInfo} {z : Value} {size bytes : Nat} (ht : P.underlying t = some (.slice e)) (hi : P.info? e = some i) (hz : i.zero = some z)
    (hsize : i.size = size) (hby : i.bytes = bytes) (hzs : z.cells.size = size) (hsz : 0 < size) {W : World}
    {v : Value} {n : Nat} {xs : List Value} (hown : W.ownsRow w0.heap.size e size v n xs) (hB : Below w0.heap.size w0 W) (cs : Array Value) (hcs : cs.size = size) (h1 : ∀ u ∈ cs.toList, u.oneCell' = true)
    (h63 : n + 1 ≤ maxLen) (hbytes : (n + 1) * bytes ≤ 140737488355328) :
    ∃ A c w', (Builtin.append_ #[t, t] ty #[v, .slice (some ⟨W.heap.size, 0, none⟩) 1 1]).run P (W.alloc (.cells cs e)) = .ok (.slice A (n + 1) c) w' ∧ w'.ownsRow w0.heap.size e size (.slice A (n + 1) c) (n + 1) (xs ++ cs.toList) ∧ Below w0.heap.size w0 w' := by
  have hlt := hown.lt
  obtain ⟨v2, w3, a2, o2, g2⟩ := run_app (P := P) w0.heap.size t ty e ht hi hz hsize hby hzs hsz (hown.alloc _) (Rd.lit W size cs e 1 1 (by rw [hcs, Nat.one_mul])) h1 h63 hbytes (by have := hB.size; rw [World.size_alloc]; omega)
  obtain ⟨A2, c2, rfl⟩ := row_form o2
  exact ⟨A2, c2, w3, a2, o2, Below.grown (hB.alloc hB.size (.cells cs e)) g2 (by have := hB.size; rw [World.size_alloc]; omega) (fun k e => (hlt k e).1)⟩
end
end Go.Proofs.Ytbbohjmkippigaa
