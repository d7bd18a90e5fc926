/- The field Lent, and a whole node, stored. No condition. -/
import Derived.Test.YtgnkgfejnnkkaaaQuoE
namespace Go.Proofs.Ytgnkgfejnnkkaaa
open Go.ChangeShapes Go.WideShapes Go.ChangeAt Go.RowKit
set_option linter.unusedVariables false
set_option linter.unusedSimpArgs false
theorem ncells_set3 : ∀ (L : List ND) (k : Nat) (d : ND) (u : Int), L[k]? = some d → (ncells L).set (k * 5 + 3) (.int .i64 u) = ncells (L.set k { d with lent := u })
  | [], k, d, u, h => by simp at h
  | x :: r, 0, d, u, h => by simp at h; subst h; rfl
  | x :: r, k + 1, d, u, h => by
    have := ncells_set3 r k d u (by simpa using h)
    rw [show (k + 1) * 5 + 3 = k * 5 + 3 + 1 + 1 + 1 + 1 + 1 by omega]
    simp only [ncells, List.set_cons_succ]
    rw [this]
theorem TreeAt.setLent {w : World} {base t b cap : Nat} {L : List ND} (h : TreeAt w base t (.slice (some ⟨b, 0, none⟩) L.length cap) L) {k : Nat} {d : ND} (hk : L[k]? = some d) (u : Int) :
    TreeAt (w.setCell ⟨b, k * 5 + 3, none⟩ (.int .i64 u)) base t (.slice (some ⟨b, 0, none⟩) (L.set k { d with lent := u }).length cap) (L.set k { d with lent := u }) := by
  have hlt : k < L.length := (List.getElem?_eq_some_iff.1 hk).1
  refine ⟨?_, ?_, h.b, by rw [List.length_set]; exact h.len⟩
  · rw [heap_setCell_other _ _ _ _ h.ne, List.length_set]; exact h.h
  · unfold NL
    rw [List.length_set, ← ncells_set3 L k d u hk]
    exact owns_set h.l (by omega) _
theorem ncells_node : ∀ (L : List ND) (k : Nat) (d : ND), k < L.length → (((((ncells L).set (k * 5) (.int .i64 d.parent)).set (k * 5 + 1) (.int .i64 d.quota)).set (k * 5 + 2) (.int .i64 d.used)).set (k * 5 + 3) (.int .i64 d.lent)).set (k * 5 + 4) (.bool d.live) = ncells (L.set k d)
  | [], k, d, h => by simp at h
  | x :: r, 0, d, h => rfl
  | x :: r, k + 1, d, h => by
    have := ncells_node r k d (by simpa using h)
    rw [show (k + 1) * 5 = k * 5 + 1 + 1 + 1 + 1 + 1 by omega]
    rw [show k * 5 + 1 + 1 + 1 + 1 + 1 + 1 = k * 5 + 1 + 1 + 1 + 1 + 1 + 1 from rfl]
    simp only [ncells, List.set_cons_succ, show k * 5 + 1 + 1 + 1 + 1 + 1 + 2 = k * 5 + 2 + 1 + 1 + 1 + 1 + 1 by omega, show k * 5 + 1 + 1 + 1 + 1 + 1 + 3 = k * 5 + 3 + 1 + 1 + 1 + 1 + 1 by omega, show k * 5 + 1 + 1 + 1 + 1 + 1 + 4 = k * 5 + 4 + 1 + 1 + 1 + 1 + 1 by omega]
    rw [this]
end Go.Proofs.Ytgnkgfejnnkkaaa
