/- The package call (layer 15): the reader: pages, spot: what each hands back and when it ends by its panic. No condition but where the words lie. -/
import Derived.Test.YtbbohjmkippigaaCall
import Derived.Deep.QuietTactic
import Derived.BigQuiet
import Derived.Deep.RegionHeld3
import Derived.RegionDies
namespace Go.Proofs.Ytbbohjmkippigaa
open Go.ChangeShapes Go.WideShapes Go.ChangeAt Go.RowKit
set_option linter.unusedVariables false
set_option linter.unusedSimpArgs false

theorem tfrozen {S : Nat → Prop} {w w' : World} (h : Touch S w w') : ∀ b o, b < w.heap.size → ¬ S b → w'.frozen? ⟨b, o, none⟩ = w.frozen? ⟨b, o, none⟩ := fun b o hb hn => World.frozen?_of_block (h.block b hb hn)
theorem cell_off {w : World} {b o o' : Nat} {u v : Value} (h : w.cell? ⟨b, o, none⟩ = some v) (hne : o ≠ o') : (w.setCell ⟨b, o', none⟩ u).cell? ⟨b, o, none⟩ = some v := by
  rw [World.cell?_setCell_other _ _ _ _ (fun e => by injection e with _ e2; omega)]; exact h
section
variable {w : World} {r ab : Nat} {ws : List Int} {k : Nat} {x y : Int}
set_option maxHeartbeats 2000000 in
theorem pages_ok (h : RAt w r ab ws k) (hx : ws[k]? = some x) (hy : ws[k + 1]? = some y) (h0 : 0 ≤ x) (h1 : 1 ≤ y) (h2 : y ≤ 65536) (h3 : x + y ≤ 34359738368) :
    Calls Try.prog 18 #[.pointer (some ⟨r, 0, none⟩)] w fun e w' => e = .returned (.agg #[.int .i64 x, .int .i64 (x + y)]) ∧ Touch (fun b => b = r) w w' ∧ RAt w' r ab ws (k + 2) := by
  have hb := h.below (w' := w.alloc (.cells #[.int .i64 0, .int .i64 0] 24)) (by go_grown)
  have hz := heap_lt h.rd
  have hza := heap_lt h.arr
  have HC := Lib.hid (number_ok hb hx h0 34359738368 (by omega) (by omega) (by omega))
  have HY := Lib.hid hy
  have hw1 : IntKind.i64.wrap (x + 1) = x + 1 := IntWalk.i64_in _ (by omega)
  have hw2 : IntKind.i64.wrap (x + 1 + y) = x + 1 + y := IntWalk.i64_in _ (by omega)
  have hw3 : IntKind.i64.wrap (x + 1 + y - 1) = x + y := by rw [IntWalk.i64_in _ (by omega)]; omega
  clear h hx hb hy
  go_enter Try.func18, Try.ntmps18
  go_wp2_with fail
  refine HC.out.mono ?_
  rintro e w1 ⟨rfl, ht, hr⟩
  have hp := ht.heap (heap_new w (.cells #[.int .i64 0, .int .i64 0] 24)) (fun e => by omega)
  have hpl := heap_lt hp
  have hT := (((Touch.refl (fun b => b = r) w).alloc (.cells #[.int .i64 0, .int .i64 0] 24)).trans ht (fun k h => .inl h))
  have hr1 := heap_lt hr.rd
  have hr2 := heap_lt hr.arr
  have HR := Lib.hid hr
  have HCN : Hid (∀ W, Below w1.heap.size w1 W → Calls Try.prog 17 #[.pointer (some ⟨r, 0, none⟩), .int .i64 65537] W fun e w' => e = .returned (.int .i64 y) ∧ Touch (fun b => b = r) W w' ∧ RAt w' r ab ws (k + 2)) := Lib.hid (fun W hB => number_ok (HR.out.below hB) HY.out (by omega) 65537 (by omega) (by omega) (by omega))
  clear hr ht HC
  go_wp2_with fail
  go_region_held3 (fun W => W.cell? ⟨w1.heap.size, 0, none⟩ = some (.int .i64 x) ∧ W.frozen? ⟨w1.heap.size, 1, none⟩ = false)
    (first | (go_keep; done) | (refine ⟨?_, ?_⟩; (exact cell_off (by assumption) (by decide)); (simp [*]; done)))
    ((go_at_call 17; refine (HCN.out _ ?_).mono ?_; (go_grown); rintro e w2 ⟨rfl, ht2, hr2⟩; have hp2 := ht2.heap (b := w1.heap.size) (o := .cells #[.int .i64 x, .int .i64 0] 24 (0, 0)) (by first | exact heap_new _ _ | (simp only [World.heap_drew]; exact heap_new _ _)) (fun e => by omega); have k0 : w2.cell? ⟨w1.heap.size, 0, none⟩ = some (.int .i64 x) := cell_heap hp2 0; have k1 : w2.cell? ⟨w1.heap.size, 1, none⟩ = some (.int .i64 0) := cell_heap hp2 1; have k2 := frozen_heap hp2 1; have k3 := heap_lt hp2; have hs2 := ht2.size))
  have hp0 := (ht2.trans (Touch.refl (fun b => b = r) w2) (fun k h => .inl h)).heap (b := w.heap.size) (o := .cells #[.int .i64 0, .int .i64 0] 24 (0, 0)) (by first | exact heap_old _ _ _ hp | (simp only [World.heap_drew]; exact heap_old _ _ _ hp)) (fun e => by omega)
  have hT2 : Touch (fun b => b = r) w w2 := (hT.alloc (.cells #[.int .i64 x, .int .i64 0] 24)).drew.trans ht2 (fun k h => .inl h)
  have hT3 : Touch (fun b => b = r) w (w2.setCell ⟨w1.heap.size, 1, none⟩ (.int .i64 (x + y))) := hT2.setCell (a := ⟨w1.heap.size, 1, none⟩) (.inr (by simp at hpl ⊢; omega)) _
  have hp3 := heap_set hp2 1 (.int .i64 (x + y))
  have hp4 := heap_far hp0 (a := ⟨w1.heap.size, 1, none⟩) (by simp at hpl ⊢; omega) (.int .i64 (x + y))
  have HR2 := Lib.hid hr2
  have hsz3 : (w2.setCell ⟨w1.heap.size, 1, none⟩ (.int .i64 (x + y))).heap.size = w2.heap.size := by simp
  have e1 : ((x + y) == x) = false := by simp; omega
  have e2 : decide (34359738368 < x + y) = false := decide_eq_false (by omega)
  have f0 : w2.frozen? ⟨w.heap.size, 0, none⟩ = false := frozen_heap hp0 0
  have f1 : w2.frozen? ⟨w.heap.size, 1, none⟩ = false := frozen_heap hp0 1
  have g0 : w2.cell? ⟨w.heap.size, 0, none⟩ = some (.int .i64 0) := cell_heap hp0 0
  have g1 : w2.cell? ⟨w.heap.size, 1, none⟩ = some (.int .i64 0) := cell_heap hp0 1
  have hne : ¬ w.heap.size = w1.heap.size := by omega
  have hne2 : ¬ w1.heap.size = w.heap.size := by omega
  have hww : w.heap.size < w1.heap.size := by omega
  clear HCN hT hT2 hp0 hp2 hp hr2 ht2 hsz3 hw1 hw2 hw3
  go_wp2
  refine bodyPost_ret (v := .agg #[.int .i64 x, .int .i64 (x + y)]) (by simp [results, Try.results18, go_sem, g0, g1, f0, f1, hne, hne2]) rfl ⟨rfl, ?_, ?_⟩
  · exact ((hT3.setCell (a := ⟨w.heap.size, 0, none⟩) (.inr (Nat.le_refl _)) _).setCell (a := ⟨w.heap.size, 1, none⟩) (.inr (Nat.le_refl _)) _)
  · exact HR2.out.touch (((Touch.refl (fun b => w.heap.size ≤ b) w2).setCell (a := ⟨w1.heap.size, 1, none⟩) (.inl (by simp; omega)) _).setCell (a := ⟨w.heap.size, 0, none⟩) (.inl (Nat.le_refl _)) _ |>.setCell (a := ⟨w.heap.size, 1, none⟩) (.inl (Nat.le_refl _)) _) (fun e => by omega) (fun e => by omega)
theorem pages_badA (h : RAt w r ab ws k) (hx : ws[k]? = some x) (h1 : 34359738368 ≤ x) :
    Calls Try.prog 18 #[.pointer (some ⟨r, 0, none⟩)] w fun e w' => e = .panicked badP ∧ Touch (fun b => b = r) w w' := by
  have hb := h.below (w' := w.alloc (.cells #[.int .i64 0, .int .i64 0] 24)) (by go_grown)
  have hz := heap_lt h.rd
  have hza := heap_lt h.arr
  have HC := Lib.hid (number_bad hb hx 34359738368 (by omega) (by omega) h1)
  clear h hx hb
  go_enter Try.func18, Try.ntmps18
  go_wp2_with fail
  refine HC.out.mono ?_
  rintro e w1 ⟨rfl, ht⟩
  go_wp2
  exact ⟨rfl, rfl, ((Touch.refl _ w).alloc _).trans ht (fun k h => .inl h)⟩
set_option maxHeartbeats 2000000 in
theorem pages_badB (h : RAt w r ab ws k) (hx : ws[k]? = some x) (hy : ws[k + 1]? = some y) (h0 : 0 ≤ x) (h1 : x < 34359738368) (h2 : 65536 < y) :
    Calls Try.prog 18 #[.pointer (some ⟨r, 0, none⟩)] w fun e w' => e = .panicked badP ∧ Touch (fun b => b = r) w w' := by
  have hb := h.below (w' := w.alloc (.cells #[.int .i64 0, .int .i64 0] 24)) (by go_grown)
  have hz := heap_lt h.rd
  have hza := heap_lt h.arr
  have HC := Lib.hid (number_ok hb hx h0 34359738368 (by omega) (by omega) (by omega))
  have HY := Lib.hid hy
  have hw1 : IntKind.i64.wrap (x + 1) = x + 1 := IntWalk.i64_in _ (by omega)
  clear h hx hb hy
  go_enter Try.func18, Try.ntmps18
  go_wp2_with fail
  refine HC.out.mono ?_
  rintro e w1 ⟨rfl, ht, hr⟩
  have hp := ht.heap (heap_new w (.cells #[.int .i64 0, .int .i64 0] 24)) (fun e => by omega)
  have hpl := heap_lt hp
  have hT := (((Touch.refl (fun b => b = r) w).alloc (.cells #[.int .i64 0, .int .i64 0] 24)).trans ht (fun k h => .inl h))
  have hr1 := heap_lt hr.rd
  have hr2 := heap_lt hr.arr
  have HR := Lib.hid hr
  have HCN : Hid (∀ W, Below w1.heap.size w1 W → Calls Try.prog 17 #[.pointer (some ⟨r, 0, none⟩), .int .i64 65537] W fun e w' => e = .panicked badP ∧ Touch (fun b => b = r) W w') := Lib.hid (fun W hB => number_bad (HR.out.below hB) HY.out 65537 (by omega) (by omega) (by omega))
  clear hr ht HC
  go_wp2_with fail
  have g0 : ∀ W, Below (w1.heap.size + 1) (w1.alloc (.cells #[.int .i64 x, .int .i64 0] 24)) W → W.cell? ⟨w1.heap.size, 0, none⟩ = some (.int .i64 x) := fun W hB => (hB.cell (p := ⟨w1.heap.size, 0, none⟩) (by simp)).trans (by go_simp)
  go_region_dies
  all_goals
    go_at_call 17
    refine (HCN.out _ ?_).mono ?_
    · go_grown
    · rintro e w2 ⟨rfl, ht2⟩
      exact ⟨rfl, rfl, (hT.trans (Touch.of_below (w := w1) (by go_grown) (fun b => b = r)) (fun k h => .inl h)).trans ht2 (fun k h => .inl h)⟩
set_option maxHeartbeats 2000000 in
theorem pages_badC (h : RAt w r ab ws k) (hx : ws[k]? = some x) (hy : ws[k + 1]? = some y) (h0 : 0 ≤ x) (h1 : x < 34359738368) (h2 : 0 ≤ y) (h3 : y ≤ 65536) (h4 : y < 1 ∨ 34359738368 < x + y) :
    Calls Try.prog 18 #[.pointer (some ⟨r, 0, none⟩)] w fun e w' => e = .panicked badP ∧ Touch (fun b => b = r) w w' := by
  have hb := h.below (w' := w.alloc (.cells #[.int .i64 0, .int .i64 0] 24)) (by go_grown)
  have hz := heap_lt h.rd
  have hza := heap_lt h.arr
  have HC := Lib.hid (number_ok hb hx h0 34359738368 (by omega) (by omega) (by omega))
  have HY := Lib.hid hy
  have hw1 : IntKind.i64.wrap (x + 1) = x + 1 := IntWalk.i64_in _ (by omega)
  have hw2 : IntKind.i64.wrap (x + 1 + y) = x + 1 + y := IntWalk.i64_in _ (by omega)
  have hw3 : IntKind.i64.wrap (x + 1 + y - 1) = x + y := by rw [IntWalk.i64_in _ (by omega)]; omega
  have H4 := Lib.hid h4
  clear h hx hb hy h4
  go_enter Try.func18, Try.ntmps18
  go_wp2_with fail
  refine HC.out.mono ?_
  rintro e w1 ⟨rfl, ht, hr⟩
  have hp := ht.heap (heap_new w (.cells #[.int .i64 0, .int .i64 0] 24)) (fun e => by omega)
  have hpl := heap_lt hp
  have hT := (((Touch.refl (fun b => b = r) w).alloc (.cells #[.int .i64 0, .int .i64 0] 24)).trans ht (fun k h => .inl h))
  have hr1 := heap_lt hr.rd
  have hr2 := heap_lt hr.arr
  have HR := Lib.hid hr
  have HCN : Hid (∀ W, Below w1.heap.size w1 W → Calls Try.prog 17 #[.pointer (some ⟨r, 0, none⟩), .int .i64 65537] W fun e w' => e = .returned (.int .i64 y) ∧ Touch (fun b => b = r) W w' ∧ RAt w' r ab ws (k + 2)) := Lib.hid (fun W hB => number_ok (HR.out.below hB) HY.out h2 65537 (by omega) (by omega) (by omega))
  clear hr ht HC
  go_wp2_with fail
  go_region_held3 (fun W => W.cell? ⟨w1.heap.size, 0, none⟩ = some (.int .i64 x) ∧ W.frozen? ⟨w1.heap.size, 1, none⟩ = false)
    (first | (go_keep; done) | (refine ⟨?_, ?_⟩; (exact cell_off (by assumption) (by decide)); (simp [*]; done)))
    ((go_at_call 17; refine (HCN.out _ ?_).mono ?_; (go_grown); rintro e w2 ⟨rfl, ht2, hr2⟩; have hp2 := ht2.heap (b := w1.heap.size) (o := .cells #[.int .i64 x, .int .i64 0] 24 (0, 0)) (by first | exact heap_new _ _ | (simp only [World.heap_drew]; exact heap_new _ _)) (fun e => by omega); have k0 : w2.cell? ⟨w1.heap.size, 0, none⟩ = some (.int .i64 x) := cell_heap hp2 0; have k1 : w2.cell? ⟨w1.heap.size, 1, none⟩ = some (.int .i64 0) := cell_heap hp2 1; have k2 := frozen_heap hp2 1; have k3 := heap_lt hp2; have hs2 := ht2.size))
  have hp0 := (ht2.trans (Touch.refl (fun b => b = r) w2) (fun k h => .inl h)).heap (b := w.heap.size) (o := .cells #[.int .i64 0, .int .i64 0] 24 (0, 0)) (by first | exact heap_old _ _ _ hp | (simp only [World.heap_drew]; exact heap_old _ _ _ hp)) (fun e => by omega)
  have hT2 : Touch (fun b => b = r) w w2 := (hT.alloc (.cells #[.int .i64 x, .int .i64 0] 24)).drew.trans ht2 (fun k h => .inl h)
  have hT3 : Touch (fun b => b = r) w (w2.setCell ⟨w1.heap.size, 1, none⟩ (.int .i64 (x + y))) := hT2.setCell (a := ⟨w1.heap.size, 1, none⟩) (.inr (by simp at hpl ⊢; omega)) _
  have hp3 := heap_set hp2 1 (.int .i64 (x + y))
  have hp4 := heap_far hp0 (a := ⟨w1.heap.size, 1, none⟩) (by simp at hpl ⊢; omega) (.int .i64 (x + y))
  have HR2 := Lib.hid hr2
  have hsz3 : (w2.setCell ⟨w1.heap.size, 1, none⟩ (.int .i64 (x + y))).heap.size = w2.heap.size := by simp
  clear HCN hT hT2 hp0 hp2 hp hr2 ht2 hsz3 hw1 hw2 hw3
  by_cases h5 : y < 1
  · obtain rfl : y = 0 := by omega
    have e1 : ((x + 0) == x) = true := by simp
    rw [Int.add_zero] at hT3
    go_wp2
    exact ⟨rfl, rfl, hT3⟩
  · have e1 : ((x + y) == x) = false := by simp; omega
    have e2 : decide (34359738368 < x + y) = true := decide_eq_true (by have := H4.out; omega)
    clear H4 h5
    go_wp2
    exact ⟨rfl, rfl, hT3⟩
end
end Go.Proofs.Ytbbohjmkippigaa
