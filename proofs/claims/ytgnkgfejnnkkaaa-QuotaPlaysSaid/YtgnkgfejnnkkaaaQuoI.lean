/- Which blocks a step of the tree may have changed; a node stored whole. No condition. -/
import Derived.Test.YtgnkgfejnnkkaaaQuoH
import Derived.Test.YtgnkgfejnnkkaaaIntB
namespace Go.Proofs.Ytgnkgfejnnkkaaa
open Go.ChangeShapes Go.WideShapes Go.ChangeAt Go.RowKit
set_option linter.unusedVariables false
set_option linter.unusedSimpArgs false
/-- Blocks that may be the tree's. -/
def TT (base : Nat) (w : World) (j : Nat) : Prop := base ≤ j ∧ ∃ cs fr T, w.heap[j]? = some (.cells cs T fr) ∧ (T = 39 ∨ T = 52)
def Upd (base : Nat) (w w' : World) : Prop := Touch (TT base w) w w'
theorem Upd.refl (base : Nat) (w : World) : Upd base w w := Touch.refl _ w
theorem Upd.of_below {base : Nat} {w w' : World} (h : Below w.heap.size w w') : Upd base w w' := Touch.of_below h _
theorem Upd.trans {base : Nat} {w w1 w2 : World} (h : Upd base w w1) (h2 : Upd base w1 w2) : Upd base w w2 := by
  refine Touch.trans h h2 (fun k hk => ?_)
  by_cases h3 : k < w.heap.size
  · by_cases h4 : TT base w k
    · exact .inl h4
    · have h5 := h.block k h3 h4
      obtain ⟨hb, cs, fr, T, h6, h7⟩ := hk
      exact absurd ⟨hb, cs, fr, T, h5 ▸ h6, h7⟩ h4
  · exact .inr (by omega)
theorem Upd.then_below {base : Nat} {w w1 w2 : World} (h : Upd base w w1) (h2 : Below w1.heap.size w1 w2) : Upd base w w2 := h.trans (Upd.of_below h2)
theorem Upd.below {base : Nat} {w0 w w' : World} (h : Upd base w w') (hB : Below base w0 w) (hb : base ≤ w0.heap.size) : Below base w0 w' :=
  Below.touch hB h hb (fun k hk => hk.1)
theorem Upd.old {base : Nat} {w w' : World} (h : Upd base w w') {b : Nat} (hb : b < base) (hw : b < w.heap.size) : w'.heap[b]? = w.heap[b]? :=
  h.block b hw (fun hk => by have := hk.1; omega)
theorem Upd.row {base base' : Nat} {w w' : World} (h : Upd base w w') {e : TypeId} {size n : Nat} {v : Value} {xs : List Value} (hr : w.ownsRow base' e size v n xs) (h1 : e ≠ 39) (h2 : e ≠ 52) : w'.ownsRow base' e size v n xs := by
  refine ⟨hr.1, ?_⟩
  rcases hr.2 with h3 | ⟨b, cap, cur, rfl, h4, hg, h5⟩
  · exact .inl h3
  · refine .inr ⟨b, cap, cur, rfl, h4, ?_, h5⟩
    rw [h.block b (heap_lt hg) (fun hk => ?_)]
    · exact hg
    · obtain ⟨_, cs, fr, T, h6, h7⟩ := hk
      rw [hg] at h6
      simp only [Option.some.injEq, Obj.cells.injEq] at h6
      rcases h7 with rfl | rfl
      · exact h1 h6.2.1
      · exact h2 h6.2.1
theorem Upd.irow {base base' : Nat} {w w' : World} (h : Upd base w w') {v : Value} {l : List Int} (hr : IRow w base' v l) : IRow w' base' v l :=
  h.row hr (by decide) (by decide)
theorem TreeAt.ttb {w : World} {base t b cap n : Nat} {L : List ND} (h : TreeAt w base t (.slice (some ⟨b, 0, none⟩) n cap) L) : TT base w b := by
  rcases h.l.2 with ⟨h1, _⟩ | ⟨g, cap', cur, hv, h2, hg, _⟩
  · cases h1
  · obtain rfl : b = g := by injection hv with h1 h2 h3; simpa using h1
    exact ⟨h2, _, _, _, hg, .inl rfl⟩
theorem TreeAt.ttt {w : World} {base t : Nat} {v : Value} {L : List ND} (h : TreeAt w base t v L) : TT base w t := ⟨h.b, _, _, _, h.h, .inr rfl⟩
theorem Touch.upd {base b : Nat} {w w' : World} (h : Touch (fun j => j = b) w w') (hb : TT base w b) : Upd base w w' := Touch.mono h (fun k hk => by subst hk; exact hb)
/-- A node is stored whole. -/
theorem TreeAt.setNode {w : World} {base t b cap : Nat} {L : List ND} (h : TreeAt w base t (.slice (some ⟨b, 0, none⟩) L.length cap) L) {k : Nat} (hlt : k < L.length) (d : ND) :
    TreeAt (((((w.setCell ⟨b, k * 5, none⟩ (.int .i64 d.parent)).setCell ⟨b, k * 5 + 1, none⟩ (.int .i64 d.quota)).setCell ⟨b, k * 5 + 2, none⟩ (.int .i64 d.used)).setCell ⟨b, k * 5 + 3, none⟩ (.int .i64 d.lent)).setCell ⟨b, k * 5 + 4, none⟩ (.bool d.live)) base t (.slice (some ⟨b, 0, none⟩) (L.set k d).length cap) (L.set k d) := by
  refine ⟨?_, ?_, h.b, by rw [List.length_set]; exact h.len⟩
  · rw [heap_setCell_other _ _ _ _ h.ne, heap_setCell_other _ _ _ _ h.ne, heap_setCell_other _ _ _ _ h.ne, heap_setCell_other _ _ _ _ h.ne, heap_setCell_other _ _ _ _ h.ne, List.length_set]; exact h.h
  · unfold NL
    rw [List.length_set, ← ncells_node L k d hlt]
    exact owns_set (owns_set (owns_set (owns_set (owns_set h.l (by omega) _) (by omega) _) (by omega) _) (by omega) _) (by omega) _
theorem upd_node {base : Nat} {w : World} {b k : Nat} (hb : TT base w b) (v0 v1 v2 v3 v4 : Value) :
    Upd base w (((((w.setCell ⟨b, k * 5, none⟩ v0).setCell ⟨b, k * 5 + 1, none⟩ v1).setCell ⟨b, k * 5 + 2, none⟩ v2).setCell ⟨b, k * 5 + 3, none⟩ v3).setCell ⟨b, k * 5 + 4, none⟩ v4) :=
  Touch.setCell (Touch.setCell (Touch.setCell (Touch.setCell (Touch.setCell (Touch.refl _ w) (.inl hb) _) (.inl hb) _) (.inl hb) _) (.inl hb) _) (.inl hb) _
end Go.Proofs.Ytgnkgfejnnkkaaa
