/- The document's lists: where an append lies, what it leaves; a store to the last region's end. No condition but bounds. Printed by gen/rgrf.py. -/
import Derived.Test.YtoodjhomekeekaaRgY
namespace Go.Proofs.Ytoodjhomekeekaa
open Go.ChangeShapes Go.WideShapes Go.ChangeAt Go.RowKit
set_option linter.unusedVariables false
set_option linter.unusedSimpArgs false
/-- Where the row of an append lies: where it lay, or above all. -/
theorem rf_app_where {W w' : World} {B : Nat} {v : Value} {L : List RG} (hown : rfL W B v L) (d : RG) (hl : L.length ≤ 1000000) {A : Option Addr} {n c : Nat}
    (h : (Builtin.append_ #[24, 24] 24 #[v, .slice (some ⟨W.heap.size, 0, none⟩) 1 1]).run Try.prog (W.alloc (.cells #[.int .i64 d.a, .int .i64 d.b, .bool d.w, .bool d.u, .bool d.x, .int .i64 d.k] 36)) = .ok (.slice A n c) w') :
    (Value.slice A n c).ownBlock = v.ownBlock ∨ (Value.slice A n c).ownBlock = some (W.heap.size + 1) := by
  obtain ⟨i0, hi, hz0, hz1, hz2⟩ := info_parts info_rf
  have hnw : ∀ j u, [Value.int .i64 d.a, .int .i64 d.b, .bool d.w, .bool d.u, .bool d.x, .int .i64 d.k][j]? = some u → (W.alloc (.cells #[.int .i64 d.a, .int .i64 d.b, .bool d.w, .bool d.u, .bool d.x, .int .i64 d.k] 36)).cell? ((⟨W.heap.size, 0, none⟩ : Addr).add j) = some u := fun j u hj => by
    have e : (⟨W.heap.size, 0, none⟩ : Addr).add j = ⟨W.heap.size, j, none⟩ := by unfold Addr.add; split <;> simp_all
    rw [e]
    have := cell_heap (heap_new W (.cells #[.int .i64 d.a, .int .i64 d.b, .bool d.w, .bool d.u, .bool d.x, .int .i64 d.k] 36)) j
    rw [this, ← hj]; simp
  have h1c : ∀ u ∈ [Value.int .i64 d.a, .int .i64 d.b, .bool d.w, .bool d.u, .bool d.x, .int .i64 d.k], u.oneCell' = true := by
    intro u hu
    simp only [List.mem_cons] at hu
    rcases hu with rfl | rfl | rfl | rfl | rfl | rfl | hu
    all_goals first | rfl | cases hu
  rcases hown.2 with ⟨rfl, h0⟩ | ⟨g, cap, cur, rfl, hb, hg, hnc, hcm, hcs, hct⟩
  · have hr := Go.run_append_nil (P := Try.prog) (W.alloc (.cells #[.int .i64 d.a, .int .i64 d.b, .bool d.w, .bool d.u, .bool d.x, .int .i64 d.k] 36)) 24 24 36 i0 _ under_rf hi hz0 ⟨W.heap.size, 0, none⟩ 1 1 _ (by rw [hz1]; rfl) hnw (by omega) (by omega) (by rw [hz2]; omega)
    rw [hr] at h
    injection h with h1 h2
    injection h1 with h3 h4 h5
    right
    rw [← h3]
    simp [Value.ownBlock]
  · have hlt : g < W.heap.size := heap_lt hg
    have hg2 := heap_old W (.cells #[.int .i64 d.a, .int .i64 d.b, .bool d.w, .bool d.u, .bool d.x, .int .i64 d.k] 36) _ hg
    by_cases hroom : L.length + 1 ≤ cap
    · have hr := run_append_room (P := Try.prog) (W.alloc (.cells #[.int .i64 d.a, .int .i64 d.b, .bool d.w, .bool d.u, .bool d.x, .int .i64 d.k] 36)) 24 24 36 i0 under_rf hi g L.length cap cur hg2 ⟨W.heap.size, 0, none⟩ 1 1 _ (by rw [hz1]; rfl) hnw h1c hroom (by rw [hz1, hcs]; simp; omega)
      rw [hr] at h
      injection h with h1 h2
      injection h1 with h3 h4 h5
      left
      rw [← h3]
      simp [Value.ownBlock]
    · have hr := Go.run_append_grow (P := Try.prog) (W.alloc (.cells #[.int .i64 d.a, .int .i64 d.b, .bool d.w, .bool d.u, .bool d.x, .int .i64 d.k] 36)) 24 24 36 i0 _ under_rf hi hz0 ⟨g, 0, none⟩ L.length cap (rfcells L) (by rw [hz1]; exact rfcells_length L) (fun j u hj => by
        have e : (⟨g, 0, none⟩ : Addr).add j = ⟨g, j, none⟩ := by unfold Addr.add; split <;> simp_all
        rw [e]
        have := cell_heap hg2 j
        rw [this]
        rw [← hct, List.getElem?_take] at hj
        split at hj
        · rw [← hj]; simp
        · cases hj) ⟨W.heap.size, 0, none⟩ 1 1 _ (by rw [hz1]; rfl) hnw (by omega) (by omega) (by rw [hz2]; exact growslice_fits (by omega) (by omega))
      rw [hr] at h
      injection h with h1 h2
      injection h1 with h3 h4 h5
      right
      rw [← h3]
      simp [Value.ownBlock]
theorem rf_app_apart {B : Nat} {w0 V W : World} {lo : Nat} {v : Value} {L : List RG} (hle : B ≤ w0.heap.size) (hap : Apart lo V W v) (hown : rfL W B v L) (hB : Below B w0 W) (d : RG) (hl : L.length ≤ 1000000) :
    ∃ A c w', (Builtin.append_ #[24, 24] 24 #[v, .slice (some ⟨W.heap.size, 0, none⟩) 1 1]).run Try.prog (W.alloc (.cells #[.int .i64 d.a, .int .i64 d.b, .bool d.w, .bool d.u, .bool d.x, .int .i64 d.k] 36)) = .ok (.slice A (L.length + 1) c) w' ∧ rfL w' B (.slice A (L.length + 1) c) (L ++ [d]) ∧ Below B w0 w' ∧ Apart lo V w' (.slice A (L.length + 1) c) := by
  obtain ⟨A, c, w', h1, h2, h3, h4, h5⟩ := rfapp B w0 hle hown hB d hl
  refine ⟨A, c, w', h1, h2, h3, by have := hap.1; omega, fun b hb hb2 => ?_⟩
  have hq := hap.2 b hb hb2
  have hs := hap.1
  refine ⟨(h5 b (by omega) hq.2).trans hq.1, ?_⟩
  rcases rf_app_where hown d hl h1 with e | e
  · rw [e]; exact hq.2
  · rw [e]; intro e2; injection e2; omega
theorem rf_setb {w : World} {base g cap : Nat} {O : List RG} {a : RG} (h : rfL w base (.slice (some ⟨g, 0, none⟩) (O.length + 1) cap) (O ++ [a])) (y : Int) :
    rfL (w.setCell ⟨g, O.length * 6 + 1, none⟩ (.int .i64 y)) base (.slice (some ⟨g, 0, none⟩) (O.length + 1) cap) (O ++ [⟨a.a, y, a.w, a.u, a.x, a.k⟩]) := by
  obtain ⟨h1, h2⟩ := h
  refine ⟨rfcells_length _, ?_⟩
  rcases h2 with ⟨e, _⟩ | ⟨g2, c2, cur, e, hb, hg, hn, hm, hs, ht⟩
  · cases e
  · injection e with e1 e2 e3
    subst e3
    obtain rfl : g = g2 := by simpa using e1
    have hg2 := heap_set hg (O.length * 6 + 1) (.int .i64 y)
    refine .inr ⟨g, cap, _, by simp, hb, hg2, by simpa using hn, hm, by simpa using hs, ?_⟩
    have hl : (O ++ [a]).length = O.length + 1 := by simp
    have hl2 : (O ++ [(⟨a.a, y, a.w, a.u, a.x, a.k⟩ : RG)]).length = O.length + 1 := by simp
    rw [hl] at ht
    rw [hl2, Array.toList_setIfInBounds, List.take_set, ht, rfcells_append, rfcells_append, List.set_append_right _ _ (by rw [rfcells_length]; omega), rfcells_length]
    simp [rfcells]
end Go.Proofs.Ytoodjhomekeekaa
