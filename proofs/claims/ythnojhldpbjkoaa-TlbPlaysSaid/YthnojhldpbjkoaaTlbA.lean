/- awake of layer 5; a walk's helpers. No condition. -/
import Derived.Test.YthnojhldpbjkoaaTlbP
namespace Go.Proofs.Ythnojhldpbjkoaa
open Go.ChangeShapes Go.WideShapes Go.ChangeAt Go.RowKit
set_option linter.unusedVariables false
set_option linter.unusedSimpArgs false

theorem tcell {p : Nat} {W w1 : World} (ht : Touch (fun k => k = p) W w1) : (∀ b o, b < W.heap.size → b ≠ p → w1.cell? ⟨b, o, none⟩ = W.cell? ⟨b, o, none⟩) ∧ (∀ b o, b < W.heap.size → b ≠ p → w1.frozen? ⟨b, o, none⟩ = W.frozen? ⟨b, o, none⟩) := by
  refine ⟨fun b o h hn => World.cell?_of_block (ht.block b h hn), fun b o h hn => ?_⟩
  have := ht.block b h hn
  simp [World.frozen?, this]
theorem tlb_zero (w : World) : (zeroValue 29).run Try.prog w = .ok (.agg (lcells zeroL).toArray) w := by kernel_rfl
theorem tlb_new (w : World) : TlbAt (w.alloc (.cells (lcells zeroL).toArray 29)) w.heap.size zeroL := ⟨heap_new _ _, zeroL_len⟩
set_option maxRecDepth 100000 in
set_option maxHeartbeats 2000000 in
theorem awake_true (w : World) : Calls Try.prog 10 #[] w fun e w' => e = .returned (.bool true) ∧ Below w.heap.size w w' := by
  go_enter Try.func10, Try.ntmps10
  have hz := tlb_zero
  go_wp2_with fail
  have hN := tlb_new w
  generalize hW0 : w.alloc (.cells (lcells zeroL).toArray 29) = w0 at hN ⊢
  have hB0 : Below w.heap.size w w0 := by rw [← hW0]; go_grown
  have hS0 : w0.heap.size = w.heap.size + 1 := by rw [← hW0]; simp
  have HW0 := Lib.hid hW0
  clear hW0
  refine (fill_ok hN 0 ⟨true, 1, 9, 5, false, false, false, false, false⟩ (by unfold OkFill; simp)).mono ?_
  rintro e w1 ⟨rfl, ht1, h1⟩
  have hB1 := Below.touch hB0 ht1 (Nat.le_refl _) (fun k e => by omega)
  obtain ⟨L1, hL1⟩ : ∃ L, L = fillT zeroL 0 ⟨true, 1, 9, 5, false, false, false, false, false⟩ := ⟨_, rfl⟩
  have f1 : findT L1 1 9 = (⟨true, 1, 9, 5, false, false, false, false, false⟩, true) := by rw [hL1]; kernel_rfl
  have f2 : findT L1 2 9 = (zln, false) := by rw [hL1]; kernel_rfl
  have f3 : (linesT L1).length = 1 := by rw [hL1]; kernel_rfl
  rw [← hL1] at h1
  have F1 := Lib.hid f1
  have F2 := Lib.hid f2
  have F3 := Lib.hid f3
  clear f1 f2 f3 hL1 ht1 hN hB0
  go_wp2_with fail
  refine (find_any h1 1 9).mono ?_
  rw [F1.out]
  rintro e w2 ⟨rfl, hb2⟩
  have hB2 := b_then hB1 hb2
  have h2 := h1.below hb2
  clear hb2 h1 hB1
  go_wp2_with fail
  refine (find_any (h2.below ((Below.refl _ _).alloc (Nat.le_refl _) _)) 2 9).mono ?_
  rw [F2.out]
  rintro e w3 ⟨rfl, hb3⟩
  obtain ⟨hc3, _⟩ := bcell hb3
  have hB3 := b_then (hB2.alloc hB2.size _) hb3
  have h3 := h2.below (b_then (by go_grown) hb3)
  have z3 := hb3.size
  rw [World.size_alloc] at z3
  have z2 : w2.heap.size < w3.heap.size := by omega
  clear hb3 h2 hB2
  go_wp2_with fail
  refine (lines_any (h3.below ((Below.refl _ _).alloc (Nat.le_refl _) _))).mono ?_
  rintro e w4 ⟨v, rfl, hb4, hr4⟩
  obtain ⟨A, c, rfl⟩ := row_form hr4
  rw [F3.out]
  have hB4 := b_then (hB3.alloc hB3.size _) hb4
  go_wp2
  go_returns
  exact ⟨rfl, hB4⟩
end Go.Proofs.Ythnojhldpbjkoaa
