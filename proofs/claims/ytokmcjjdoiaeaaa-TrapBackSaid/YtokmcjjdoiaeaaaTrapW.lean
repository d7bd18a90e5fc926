/- The laws of layer 17: rows of calls; the worlds of a round. No condition. -/
import Derived.Test.YtokmcjjdoiaeaaaTrapG
namespace Go.Proofs.Ytokmcjjdoiaeaaa
open Go.ChangeShapes Go.WideShapes Go.ChangeAt Go.RowKit
set_option linter.unusedVariables false
set_option linter.unusedSimpArgs false
theorem touch_row {S : Nat → Prop} {w w1 : World} (h : Touch S w w1) {g : Nat} (hg : S g ∨ w.heap.size ≤ g) (cs : Array Value) : Touch S w (w1.setRow g cs) :=
  ⟨h.os, h.tape, h.output, by have := h.size; simpa using this, fun k hk hn => (setRow_other w1 g k cs (fun e => by subst e; rcases hg with h1 | h1; exact hn h1; omega)).trans (h.block k hk hn)⟩
theorem act_row {w : World} {A : Option Addr} {len : Nat} (r : Rows_ w [.i .i64, .i .i64, .i .i64, .i .i64, .i .i64, .i .u64, .i .u64, .i .i64] A len) {k : Nat} (h : k < len) :
    ∃ (bl off : Nat), A = some ⟨bl, off, none⟩ ∧ bl < w.heap.size ∧ ∃ (kd op a b c x fa fc : Int), u64R x ∧ u64R fa ∧ w.cell? ⟨bl, off + k * 8, none⟩ = some (.int .i64 kd) ∧ w.cell? ⟨bl, off + k * 8 + 1, none⟩ = some (.int .i64 op) ∧ w.cell? ⟨bl, off + k * 8 + 2, none⟩ = some (.int .i64 a) ∧ w.cell? ⟨bl, off + k * 8 + 3, none⟩ = some (.int .i64 b) ∧ w.cell? ⟨bl, off + k * 8 + 4, none⟩ = some (.int .i64 c) ∧ w.cell? ⟨bl, off + k * 8 + 5, none⟩ = some (.int .u64 x) ∧ w.cell? ⟨bl, off + k * 8 + 6, none⟩ = some (.int .u64 fa) ∧ w.cell? ⟨bl, off + k * 8 + 7, none⟩ = some (.int .i64 fc) := by
  obtain ⟨_, h2⟩ := r
  obtain ⟨b, off, R, hA, hb, hR⟩ := h2 (by omega)
  obtain ⟨ok, hc⟩ := hR k h
  obtain ⟨_, r1, e, ⟨v0, rfl, _⟩, ok⟩ := ok
  obtain ⟨_, r2, rfl, ⟨v1, rfl, w1⟩, ok⟩ := ok
  obtain ⟨_, r3, rfl, ⟨v2, rfl, w2⟩, ok⟩ := ok
  obtain ⟨_, r4, rfl, ⟨v3, rfl, w3⟩, ok⟩ := ok
  obtain ⟨_, r5, rfl, ⟨v4, rfl, w4⟩, ok⟩ := ok
  obtain ⟨_, r6, rfl, ⟨v5, rfl, w5⟩, ok⟩ := ok
  obtain ⟨_, r7, rfl, ⟨v6, rfl, w6⟩, ok⟩ := ok
  obtain ⟨_, r8, rfl, ⟨v7, rfl, w7⟩, ok⟩ := ok
  rw [e] at hc
  exact ⟨b, off, hA, hb, v0, v1, v2, v3, v4, v5, v6, v7, u64_bd w5, u64_bd w6, hc 0 (by simp), hc 1 (by simp), hc 2 (by simp), hc 3 (by simp), hc 4 (by simp), hc 5 (by simp), hc 6 (by simp), hc 7 (by simp)⟩
theorem one_cell (s : St) : (s.cs : Array Value).all (·.oneCell') = true := by simp [Value.oneCell']
/-- The worlds of a round: two new blocks, filled, read and laid over the two states. -/
theorem plays_worlds {w : World} {b p : Nat} {S C : Array Value} (h2 : w.heap[b]? = some (.cells S 28 (0, 0))) (h5 : w.heap[p]? = some (.cells S 38 (0, 0))) (hne : b ≠ p) :
    let W0 := (w.alloc (.cells #[.int .u64 0, .int .u64 0, .int .u64 0, .int .u64 0, .int .i64 0, .int .u64 0, .bool false, .int .u64 0, .int .i64 0, .int .u64 0, .int .u64 0, .int .u64 0, .int .u64 0] 28)).alloc (.cells #[.int .u64 0, .int .u64 0, .int .u64 0, .int .u64 0, .int .i64 0, .int .u64 0, .bool false, .int .u64 0, .int .i64 0, .int .u64 0, .int .u64 0, .int .u64 0, .int .u64 0] 38)
    let W1 := W0.setRow w.heap.size C
    let W2 := W1.setRow (w.heap.size + 1) C
    let W3 := W2.setRow b C
    W0.heap[w.heap.size]? = some (.cells #[.int .u64 0, .int .u64 0, .int .u64 0, .int .u64 0, .int .i64 0, .int .u64 0, .bool false, .int .u64 0, .int .i64 0, .int .u64 0, .int .u64 0, .int .u64 0, .int .u64 0] 28 (0, 0)) ∧ W1.heap[w.heap.size + 1]? = some (.cells #[.int .u64 0, .int .u64 0, .int .u64 0, .int .u64 0, .int .i64 0, .int .u64 0, .bool false, .int .u64 0, .int .i64 0, .int .u64 0, .int .u64 0, .int .u64 0, .int .u64 0] 38 (0, 0)) ∧ W2.heap[w.heap.size]? = some (.cells C 28 (0, 0)) ∧ W2.heap[b]? = some (.cells S 28 (0, 0)) ∧
      W3.heap[w.heap.size + 1]? = some (.cells C 38 (0, 0)) ∧ W3.heap[p]? = some (.cells S 38 (0, 0)) ∧ W3.heap[b]? = some (.cells C 28 (0, 0)) ∧ Touch (fun k => k = b ∨ k = p) w (W3.setRow p C) ∧ (W3.setRow p C).heap[p]? = some (.cells C 38 (0, 0)) ∧ (W3.setRow p C).heap[b]? = some (.cells C 28 (0, 0)) := by
  intro W0 W1 W2 W3
  have l2 := heap_lt h2
  have l5 := heap_lt h5
  have e1 := heap_new (w.alloc (.cells #[.int .u64 0, .int .u64 0, .int .u64 0, .int .u64 0, .int .i64 0, .int .u64 0, .bool false, .int .u64 0, .int .i64 0, .int .u64 0, .int .u64 0, .int .u64 0, .int .u64 0] 28)) (.cells #[.int .u64 0, .int .u64 0, .int .u64 0, .int .u64 0, .int .i64 0, .int .u64 0, .bool false, .int .u64 0, .int .i64 0, .int .u64 0, .int .u64 0, .int .u64 0, .int .u64 0] 38)
  rw [World.size_alloc] at e1
  have a7 : W0.heap[w.heap.size]? = some (.cells #[.int .u64 0, .int .u64 0, .int .u64 0, .int .u64 0, .int .i64 0, .int .u64 0, .bool false, .int .u64 0, .int .i64 0, .int .u64 0, .int .u64 0, .int .u64 0, .int .u64 0] 28 (0, 0)) := heap_old _ _ _ (heap_new _ _)
  have a2 : W0.heap[b]? = some (.cells S 28 (0, 0)) := heap_old _ _ _ (heap_old _ _ _ h2)
  have a5 : W0.heap[p]? = some (.cells S 38 (0, 0)) := heap_old _ _ _ (heap_old _ _ _ h5)
  have b7 : W1.heap[w.heap.size]? = some (.cells C 28 (0, 0)) := setRow_heap _ _ _ _ _ _ a7
  have b8 : W1.heap[w.heap.size + 1]? = some (.cells #[.int .u64 0, .int .u64 0, .int .u64 0, .int .u64 0, .int .i64 0, .int .u64 0, .bool false, .int .u64 0, .int .i64 0, .int .u64 0, .int .u64 0, .int .u64 0, .int .u64 0] 38 (0, 0)) := row_far e1 (by omega)
  have b2 : W1.heap[b]? = some (.cells S 28 (0, 0)) := row_far a2 (by omega)
  have b5 : W1.heap[p]? = some (.cells S 38 (0, 0)) := row_far a5 (by omega)
  have c7 : W2.heap[w.heap.size]? = some (.cells C 28 (0, 0)) := row_far b7 (by omega)
  have c8 : W2.heap[w.heap.size + 1]? = some (.cells C 38 (0, 0)) := setRow_heap _ _ _ _ _ _ b8
  have c2 : W2.heap[b]? = some (.cells S 28 (0, 0)) := row_far b2 (by omega)
  have c5 : W2.heap[p]? = some (.cells S 38 (0, 0)) := row_far b5 (by omega)
  have d2 : W3.heap[b]? = some (.cells C 28 (0, 0)) := setRow_heap _ _ _ _ _ _ c2
  have d8 : W3.heap[w.heap.size + 1]? = some (.cells C 38 (0, 0)) := row_far c8 (by omega)
  have d5 : W3.heap[p]? = some (.cells S 38 (0, 0)) := row_far c5 (fun e => hne e.symm)
  refine ⟨a7, b8, c7, c2, d8, d5, d2, ?_, setRow_heap _ _ _ _ _ _ d5, row_far d2 hne⟩
  refine touch_row (touch_row (touch_row (touch_row (((Touch.refl (fun k => k = b ∨ k = p) w).alloc _).alloc _) (.inr (Nat.le_refl _)) _) (.inr (by omega)) _) (.inl (.inl rfl)) _) (.inl (.inr rfl)) _
end Go.Proofs.Ytokmcjjdoiaeaaa
