/- The package call (layer 15): read, the calls number 4, 6, 7. PRINTED by gen/callr.py. No condition but where the words lie. -/
import Derived.Test.YtbbohjmkippigaaCallR
namespace Go.Proofs.Ytbbohjmkippigaa
open Go.ChangeShapes Go.WideShapes Go.ChangeAt Go.RowKit
set_option linter.unusedVariables false
set_option linter.unusedSimpArgs false

section
variable {w : World} {r ab : Nat} {x1 x2 x3 x4 x5 : Int}
set_option maxRecDepth 100000 in
set_option maxHeartbeats 16000000 in
theorem read_4_bad0a (h : RAt w r ab [4, x1, x2, x3, x4, x5] 0) (hpos : Hid (∀ x ∈ [4, x1, x2, x3, x4, x5], 0 ≤ x)) (h1 : 0 ≤ x1) (h2 : 0 ≤ x2) (h3 : 0 ≤ x3) (h4 : 0 ≤ x4) (h5 : 0 ≤ x5) (u1 : x1 < 18446744073709551616) (u2 : x2 < 18446744073709551616) (u3 : x3 < 18446744073709551616) (u4 : x4 < 18446744073709551616) (u5 : x5 < 18446744073709551616) (b0 : 140737488355328 ≤ x1) :
    Calls Try.prog 13 #[.pointer (some ⟨r, 0, none⟩)] w fun e w' => e = .panicked badP ∧ Touch (fun b => b = r) w w' := by
  have hz := heap_lt h.rd
  have hza := heap_lt h.arr
  have HC0 := Lib.hid (number_ok (h.below (w' := w.alloc (.cells #[.int .i64 0, .int .i64 0, .int .i64 0, .bool false, .bool false, .bool false, .int .u64 0, .int .i64 0, .int .u64 0, .int .i64 0, .int .i64 0, .int .i64 0, .int .i64 0] 29)) (by go_grown)) (x := 4) rfl (by omega) 17 (by omega) (by omega) (by omega))
  clear h
  go_enter Try.func13, Try.ntmps13
  go_wp2_with fail
  refine HC0.out.mono ?_
  rintro e w1 ⟨rfl, ht1, hr1⟩
  have hp1 := ht1.heap (heap_new w (.cells #[.int .i64 0, .int .i64 0, .int .i64 0, .bool false, .bool false, .bool false, .int .u64 0, .int .i64 0, .int .u64 0, .int .i64 0, .int .i64 0, .int .i64 0, .int .i64 0] 29)) (fun e => by omega)
  have hs1 : w.heap.size < w1.heap.size := heap_lt hp1
  have HT1 : Hid (Touch (fun b => b = r) w (w1.alloc (.cells #[.int .i64 4, .int .i64 0, .int .i64 0, .bool false, .bool false, .bool false, .int .u64 0, .int .i64 0, .int .u64 0, .int .i64 0, .int .i64 0, .int .i64 0, .int .i64 0] 29))) := Lib.hid ((((Touch.refl (fun b => b = r) w).alloc (.cells #[.int .i64 0, .int .i64 0, .int .i64 0, .bool false, .bool false, .bool false, .int .u64 0, .int .i64 0, .int .u64 0, .int .i64 0, .int .i64 0, .int .i64 0, .int .i64 0] 29)).trans ht1 (fun k h => .inl h)).alloc _)
  have HR1 : Hid (RAt (w1.alloc (.cells #[.int .i64 4, .int .i64 0, .int .i64 0, .bool false, .bool false, .bool false, .int .u64 0, .int .i64 0, .int .u64 0, .int .i64 0, .int .i64 0, .int .i64 0, .int .i64 0] 29)) r ab [4, x1, x2, x3, x4, x5] 1) := Lib.hid (hr1.below (by go_grown))
  have HC1 := Lib.hid (heap_new w1 (.cells #[.int .i64 4, .int .i64 0, .int .i64 0, .bool false, .bool false, .bool false, .int .u64 0, .int .i64 0, .int .u64 0, .int .i64 0, .int .i64 0, .int .i64 0, .int .i64 0] 29))
  have HP1 := Lib.hid (heap_old w1 (.cells #[.int .i64 4, .int .i64 0, .int .i64 0, .bool false, .bool false, .bool false, .int .u64 0, .int .i64 0, .int .u64 0, .int .i64 0, .int .i64 0, .int .i64 0, .int .i64 0] 29) _ hp1)
  have hne1 : ¬ w1.heap.size = r := by omega
  have hne2 : ¬ r = w1.heap.size := by omega
  have hne3 : ¬ w.heap.size = w1.heap.size := by omega
  have hne4 : ¬ w1.heap.size = w.heap.size := by omega
  have hne5 : ¬ w.heap.size = r := by omega
  have hne6 : ¬ r = w.heap.size := by omega
  have hp1c : (w1.alloc (.cells #[.int .i64 4, .int .i64 0, .int .i64 0, .bool false, .bool false, .bool false, .int .u64 0, .int .i64 0, .int .u64 0, .int .i64 0, .int .i64 0, .int .i64 0, .int .i64 0] 29)).cell? ⟨r, 0, none⟩ = some (.slice (some ⟨ab, 1, none⟩) 5 5) := cell_heap HR1.out.rd 0
  have hz1 := heap_lt hr1.rd
  have hp1d : w1.cell? ⟨r, 0, none⟩ = some (.slice (some ⟨ab, 1, none⟩) 5 5) := cell_heap hr1.rd 0
  clear hp1 ht1 hr1 HC0 hp1c
  go_wp2_with fail
  refine (spot_badA (cb := w1.heap.size) HR1.out (x := x1) rfl b0).mono ?_
  rintro e w2 ⟨rfl, ht2⟩
  go_wp2
  exact ⟨rfl, rfl, HT1.out.trans ht2 (fun k h => by rcases h with h | h; exact .inl h; exact .inr (by omega))⟩
set_option maxRecDepth 100000 in
set_option maxHeartbeats 16000000 in
theorem read_4_bad0b (h : RAt w r ab [4, x1, x2, x3, x4, x5] 0) (hpos : Hid (∀ x ∈ [4, x1, x2, x3, x4, x5], 0 ≤ x)) (h1 : 0 ≤ x1) (h2 : 0 ≤ x2) (h3 : 0 ≤ x3) (h4 : 0 ≤ x4) (h5 : 0 ≤ x5) (u1 : x1 < 18446744073709551616) (u2 : x2 < 18446744073709551616) (u3 : x3 < 18446744073709551616) (u4 : x4 < 18446744073709551616) (u5 : x5 < 18446744073709551616) (b0 : x1 < 140737488355328) (b1 : 8 < x2) :
    Calls Try.prog 13 #[.pointer (some ⟨r, 0, none⟩)] w fun e w' => e = .panicked badP ∧ Touch (fun b => b = r) w w' := by
  have hz := heap_lt h.rd
  have hza := heap_lt h.arr
  have HC0 := Lib.hid (number_ok (h.below (w' := w.alloc (.cells #[.int .i64 0, .int .i64 0, .int .i64 0, .bool false, .bool false, .bool false, .int .u64 0, .int .i64 0, .int .u64 0, .int .i64 0, .int .i64 0, .int .i64 0, .int .i64 0] 29)) (by go_grown)) (x := 4) rfl (by omega) 17 (by omega) (by omega) (by omega))
  clear h
  go_enter Try.func13, Try.ntmps13
  go_wp2_with fail
  refine HC0.out.mono ?_
  rintro e w1 ⟨rfl, ht1, hr1⟩
  have hp1 := ht1.heap (heap_new w (.cells #[.int .i64 0, .int .i64 0, .int .i64 0, .bool false, .bool false, .bool false, .int .u64 0, .int .i64 0, .int .u64 0, .int .i64 0, .int .i64 0, .int .i64 0, .int .i64 0] 29)) (fun e => by omega)
  have hs1 : w.heap.size < w1.heap.size := heap_lt hp1
  have HT1 : Hid (Touch (fun b => b = r) w (w1.alloc (.cells #[.int .i64 4, .int .i64 0, .int .i64 0, .bool false, .bool false, .bool false, .int .u64 0, .int .i64 0, .int .u64 0, .int .i64 0, .int .i64 0, .int .i64 0, .int .i64 0] 29))) := Lib.hid ((((Touch.refl (fun b => b = r) w).alloc (.cells #[.int .i64 0, .int .i64 0, .int .i64 0, .bool false, .bool false, .bool false, .int .u64 0, .int .i64 0, .int .u64 0, .int .i64 0, .int .i64 0, .int .i64 0, .int .i64 0] 29)).trans ht1 (fun k h => .inl h)).alloc _)
  have HR1 : Hid (RAt (w1.alloc (.cells #[.int .i64 4, .int .i64 0, .int .i64 0, .bool false, .bool false, .bool false, .int .u64 0, .int .i64 0, .int .u64 0, .int .i64 0, .int .i64 0, .int .i64 0, .int .i64 0] 29)) r ab [4, x1, x2, x3, x4, x5] 1) := Lib.hid (hr1.below (by go_grown))
  have HC1 := Lib.hid (heap_new w1 (.cells #[.int .i64 4, .int .i64 0, .int .i64 0, .bool false, .bool false, .bool false, .int .u64 0, .int .i64 0, .int .u64 0, .int .i64 0, .int .i64 0, .int .i64 0, .int .i64 0] 29))
  have HP1 := Lib.hid (heap_old w1 (.cells #[.int .i64 4, .int .i64 0, .int .i64 0, .bool false, .bool false, .bool false, .int .u64 0, .int .i64 0, .int .u64 0, .int .i64 0, .int .i64 0, .int .i64 0, .int .i64 0] 29) _ hp1)
  have hne1 : ¬ w1.heap.size = r := by omega
  have hne2 : ¬ r = w1.heap.size := by omega
  have hne3 : ¬ w.heap.size = w1.heap.size := by omega
  have hne4 : ¬ w1.heap.size = w.heap.size := by omega
  have hne5 : ¬ w.heap.size = r := by omega
  have hne6 : ¬ r = w.heap.size := by omega
  have hp1c : (w1.alloc (.cells #[.int .i64 4, .int .i64 0, .int .i64 0, .bool false, .bool false, .bool false, .int .u64 0, .int .i64 0, .int .u64 0, .int .i64 0, .int .i64 0, .int .i64 0, .int .i64 0] 29)).cell? ⟨r, 0, none⟩ = some (.slice (some ⟨ab, 1, none⟩) 5 5) := cell_heap HR1.out.rd 0
  have hz1 := heap_lt hr1.rd
  have hp1d : w1.cell? ⟨r, 0, none⟩ = some (.slice (some ⟨ab, 1, none⟩) 5 5) := cell_heap hr1.rd 0
  clear hp1 ht1 hr1 HC0 hp1c
  go_wp2_with fail
  refine (spot_badB HR1.out (x := x1) (y := x2) rfl rfl HC1.out (fun e => by omega) (fun e => by omega) h1 b0 b1).mono ?_
  rintro e w2 ⟨rfl, ht2⟩
  go_wp2
  exact ⟨rfl, rfl, HT1.out.trans ht2 (fun k h => by rcases h with h | h; exact .inl h; exact .inr (by omega))⟩
set_option maxRecDepth 100000 in
set_option maxHeartbeats 16000000 in
theorem read_4_bad0c (h : RAt w r ab [4, x1, x2, x3, x4, x5] 0) (hpos : Hid (∀ x ∈ [4, x1, x2, x3, x4, x5], 0 ≤ x)) (h1 : 0 ≤ x1) (h2 : 0 ≤ x2) (h3 : 0 ≤ x3) (h4 : 0 ≤ x4) (h5 : 0 ≤ x5) (u1 : x1 < 18446744073709551616) (u2 : x2 < 18446744073709551616) (u3 : x3 < 18446744073709551616) (u4 : x4 < 18446744073709551616) (u5 : x5 < 18446744073709551616) (b0 : x1 < 140737488355328) (b1 : x2 = 0 ∨ x2 = 3 ∨ x2 = 5 ∨ x2 = 6 ∨ x2 = 7) :
    Calls Try.prog 13 #[.pointer (some ⟨r, 0, none⟩)] w fun e w' => e = .panicked badP ∧ Touch (fun b => b = r) w w' := by
  have hz := heap_lt h.rd
  have hza := heap_lt h.arr
  have HC0 := Lib.hid (number_ok (h.below (w' := w.alloc (.cells #[.int .i64 0, .int .i64 0, .int .i64 0, .bool false, .bool false, .bool false, .int .u64 0, .int .i64 0, .int .u64 0, .int .i64 0, .int .i64 0, .int .i64 0, .int .i64 0] 29)) (by go_grown)) (x := 4) rfl (by omega) 17 (by omega) (by omega) (by omega))
  clear h
  go_enter Try.func13, Try.ntmps13
  go_wp2_with fail
  refine HC0.out.mono ?_
  rintro e w1 ⟨rfl, ht1, hr1⟩
  have hp1 := ht1.heap (heap_new w (.cells #[.int .i64 0, .int .i64 0, .int .i64 0, .bool false, .bool false, .bool false, .int .u64 0, .int .i64 0, .int .u64 0, .int .i64 0, .int .i64 0, .int .i64 0, .int .i64 0] 29)) (fun e => by omega)
  have hs1 : w.heap.size < w1.heap.size := heap_lt hp1
  have HT1 : Hid (Touch (fun b => b = r) w (w1.alloc (.cells #[.int .i64 4, .int .i64 0, .int .i64 0, .bool false, .bool false, .bool false, .int .u64 0, .int .i64 0, .int .u64 0, .int .i64 0, .int .i64 0, .int .i64 0, .int .i64 0] 29))) := Lib.hid ((((Touch.refl (fun b => b = r) w).alloc (.cells #[.int .i64 0, .int .i64 0, .int .i64 0, .bool false, .bool false, .bool false, .int .u64 0, .int .i64 0, .int .u64 0, .int .i64 0, .int .i64 0, .int .i64 0, .int .i64 0] 29)).trans ht1 (fun k h => .inl h)).alloc _)
  have HR1 : Hid (RAt (w1.alloc (.cells #[.int .i64 4, .int .i64 0, .int .i64 0, .bool false, .bool false, .bool false, .int .u64 0, .int .i64 0, .int .u64 0, .int .i64 0, .int .i64 0, .int .i64 0, .int .i64 0] 29)) r ab [4, x1, x2, x3, x4, x5] 1) := Lib.hid (hr1.below (by go_grown))
  have HC1 := Lib.hid (heap_new w1 (.cells #[.int .i64 4, .int .i64 0, .int .i64 0, .bool false, .bool false, .bool false, .int .u64 0, .int .i64 0, .int .u64 0, .int .i64 0, .int .i64 0, .int .i64 0, .int .i64 0] 29))
  have HP1 := Lib.hid (heap_old w1 (.cells #[.int .i64 4, .int .i64 0, .int .i64 0, .bool false, .bool false, .bool false, .int .u64 0, .int .i64 0, .int .u64 0, .int .i64 0, .int .i64 0, .int .i64 0, .int .i64 0] 29) _ hp1)
  have hne1 : ¬ w1.heap.size = r := by omega
  have hne2 : ¬ r = w1.heap.size := by omega
  have hne3 : ¬ w.heap.size = w1.heap.size := by omega
  have hne4 : ¬ w1.heap.size = w.heap.size := by omega
  have hne5 : ¬ w.heap.size = r := by omega
  have hne6 : ¬ r = w.heap.size := by omega
  have hp1c : (w1.alloc (.cells #[.int .i64 4, .int .i64 0, .int .i64 0, .bool false, .bool false, .bool false, .int .u64 0, .int .i64 0, .int .u64 0, .int .i64 0, .int .i64 0, .int .i64 0, .int .i64 0] 29)).cell? ⟨r, 0, none⟩ = some (.slice (some ⟨ab, 1, none⟩) 5 5) := cell_heap HR1.out.rd 0
  have hz1 := heap_lt hr1.rd
  have hp1d : w1.cell? ⟨r, 0, none⟩ = some (.slice (some ⟨ab, 1, none⟩) 5 5) := cell_heap hr1.rd 0
  clear hp1 ht1 hr1 HC0 hp1c
  go_wp2_with fail
  refine (spot_badC HR1.out (x := x1) (y := x2) rfl rfl HC1.out (fun e => by omega) (fun e => by omega) h1 b0 b1).mono ?_
  rintro e w2 ⟨rfl, ht2⟩
  go_wp2
  exact ⟨rfl, rfl, HT1.out.trans ht2 (fun k h => by rcases h with h | h; exact .inl h; exact .inr (by omega))⟩
set_option maxRecDepth 100000 in
set_option maxHeartbeats 16000000 in
theorem read_4_bad0d (h : RAt w r ab [4, x1, x2, x3, x4, x5] 0) (hpos : Hid (∀ x ∈ [4, x1, x2, x3, x4, x5], 0 ≤ x)) (h1 : 0 ≤ x1) (h2 : 0 ≤ x2) (h3 : 0 ≤ x3) (h4 : 0 ≤ x4) (h5 : 0 ≤ x5) (u1 : x1 < 18446744073709551616) (u2 : x2 < 18446744073709551616) (u3 : x3 < 18446744073709551616) (u4 : x4 < 18446744073709551616) (u5 : x5 < 18446744073709551616) (b0 : x1 < 140737488355328) (b1 : x2 = 1 ∨ x2 = 2 ∨ x2 = 4 ∨ x2 = 8) (b2 : x1 % x2 ≠ 0) :
    Calls Try.prog 13 #[.pointer (some ⟨r, 0, none⟩)] w fun e w' => e = .panicked badP ∧ Touch (fun b => b = r) w w' := by
  have hz := heap_lt h.rd
  have hza := heap_lt h.arr
  have HC0 := Lib.hid (number_ok (h.below (w' := w.alloc (.cells #[.int .i64 0, .int .i64 0, .int .i64 0, .bool false, .bool false, .bool false, .int .u64 0, .int .i64 0, .int .u64 0, .int .i64 0, .int .i64 0, .int .i64 0, .int .i64 0] 29)) (by go_grown)) (x := 4) rfl (by omega) 17 (by omega) (by omega) (by omega))
  clear h
  go_enter Try.func13, Try.ntmps13
  go_wp2_with fail
  refine HC0.out.mono ?_
  rintro e w1 ⟨rfl, ht1, hr1⟩
  have hp1 := ht1.heap (heap_new w (.cells #[.int .i64 0, .int .i64 0, .int .i64 0, .bool false, .bool false, .bool false, .int .u64 0, .int .i64 0, .int .u64 0, .int .i64 0, .int .i64 0, .int .i64 0, .int .i64 0] 29)) (fun e => by omega)
  have hs1 : w.heap.size < w1.heap.size := heap_lt hp1
  have HT1 : Hid (Touch (fun b => b = r) w (w1.alloc (.cells #[.int .i64 4, .int .i64 0, .int .i64 0, .bool false, .bool false, .bool false, .int .u64 0, .int .i64 0, .int .u64 0, .int .i64 0, .int .i64 0, .int .i64 0, .int .i64 0] 29))) := Lib.hid ((((Touch.refl (fun b => b = r) w).alloc (.cells #[.int .i64 0, .int .i64 0, .int .i64 0, .bool false, .bool false, .bool false, .int .u64 0, .int .i64 0, .int .u64 0, .int .i64 0, .int .i64 0, .int .i64 0, .int .i64 0] 29)).trans ht1 (fun k h => .inl h)).alloc _)
  have HR1 : Hid (RAt (w1.alloc (.cells #[.int .i64 4, .int .i64 0, .int .i64 0, .bool false, .bool false, .bool false, .int .u64 0, .int .i64 0, .int .u64 0, .int .i64 0, .int .i64 0, .int .i64 0, .int .i64 0] 29)) r ab [4, x1, x2, x3, x4, x5] 1) := Lib.hid (hr1.below (by go_grown))
  have HC1 := Lib.hid (heap_new w1 (.cells #[.int .i64 4, .int .i64 0, .int .i64 0, .bool false, .bool false, .bool false, .int .u64 0, .int .i64 0, .int .u64 0, .int .i64 0, .int .i64 0, .int .i64 0, .int .i64 0] 29))
  have HP1 := Lib.hid (heap_old w1 (.cells #[.int .i64 4, .int .i64 0, .int .i64 0, .bool false, .bool false, .bool false, .int .u64 0, .int .i64 0, .int .u64 0, .int .i64 0, .int .i64 0, .int .i64 0, .int .i64 0] 29) _ hp1)
  have hne1 : ¬ w1.heap.size = r := by omega
  have hne2 : ¬ r = w1.heap.size := by omega
  have hne3 : ¬ w.heap.size = w1.heap.size := by omega
  have hne4 : ¬ w1.heap.size = w.heap.size := by omega
  have hne5 : ¬ w.heap.size = r := by omega
  have hne6 : ¬ r = w.heap.size := by omega
  have hp1c : (w1.alloc (.cells #[.int .i64 4, .int .i64 0, .int .i64 0, .bool false, .bool false, .bool false, .int .u64 0, .int .i64 0, .int .u64 0, .int .i64 0, .int .i64 0, .int .i64 0, .int .i64 0] 29)).cell? ⟨r, 0, none⟩ = some (.slice (some ⟨ab, 1, none⟩) 5 5) := cell_heap HR1.out.rd 0
  have hz1 := heap_lt hr1.rd
  have hp1d : w1.cell? ⟨r, 0, none⟩ = some (.slice (some ⟨ab, 1, none⟩) 5 5) := cell_heap hr1.rd 0
  clear hp1 ht1 hr1 HC0 hp1c
  go_wp2_with fail
  refine (spot_badD HR1.out (x := x1) (y := x2) rfl rfl HC1.out (fun e => by omega) (fun e => by omega) h1 b0 b1 b2).mono ?_
  rintro e w2 ⟨rfl, ht2⟩
  go_wp2
  exact ⟨rfl, rfl, HT1.out.trans ht2 (fun k h => by rcases h with h | h; exact .inl h; exact .inr (by omega))⟩
set_option maxRecDepth 100000 in
set_option maxHeartbeats 16000000 in
theorem read_4_ok (h : RAt w r ab [4, x1, x2, x3, x4, x5] 0) (hpos : Hid (∀ x ∈ [4, x1, x2, x3, x4, x5], 0 ≤ x)) (h1 : 0 ≤ x1) (h2 : 0 ≤ x2) (h3 : 0 ≤ x3) (h4 : 0 ≤ x4) (h5 : 0 ≤ x5) (u1 : x1 < 18446744073709551616) (u2 : x2 < 18446744073709551616) (u3 : x3 < 18446744073709551616) (u4 : x4 < 18446744073709551616) (u5 : x5 < 18446744073709551616) (b0 : x1 < 140737488355328) (b1 : x2 = 1 ∨ x2 = 2 ∨ x2 = 4 ∨ x2 = 8) (b2 : x1 % x2 = 0) :
    Calls Try.prog 13 #[.pointer (some ⟨r, 0, none⟩)] w fun e w' => ROut (Tail [4, x1, x2, x3, x4, x5] 3) (.agg #[.int .i64 4, .int .i64 0, .int .i64 0, .bool false, .bool false, .bool false, .int .u64 x1, .int .i64 x2, .int .u64 0, .int .i64 0, .int .i64 0, .int .i64 0, .int .i64 0]) e ∧ Touch (fun b => b = r) w w' := by
  have hz := heap_lt h.rd
  have hza := heap_lt h.arr
  have HC0 := Lib.hid (number_ok (h.below (w' := w.alloc (.cells #[.int .i64 0, .int .i64 0, .int .i64 0, .bool false, .bool false, .bool false, .int .u64 0, .int .i64 0, .int .u64 0, .int .i64 0, .int .i64 0, .int .i64 0, .int .i64 0] 29)) (by go_grown)) (x := 4) rfl (by omega) 17 (by omega) (by omega) (by omega))
  clear h
  go_enter Try.func13, Try.ntmps13
  go_wp2_with fail
  refine HC0.out.mono ?_
  rintro e w1 ⟨rfl, ht1, hr1⟩
  have hp1 := ht1.heap (heap_new w (.cells #[.int .i64 0, .int .i64 0, .int .i64 0, .bool false, .bool false, .bool false, .int .u64 0, .int .i64 0, .int .u64 0, .int .i64 0, .int .i64 0, .int .i64 0, .int .i64 0] 29)) (fun e => by omega)
  have hs1 : w.heap.size < w1.heap.size := heap_lt hp1
  have HT1 : Hid (Touch (fun b => b = r) w (w1.alloc (.cells #[.int .i64 4, .int .i64 0, .int .i64 0, .bool false, .bool false, .bool false, .int .u64 0, .int .i64 0, .int .u64 0, .int .i64 0, .int .i64 0, .int .i64 0, .int .i64 0] 29))) := Lib.hid ((((Touch.refl (fun b => b = r) w).alloc (.cells #[.int .i64 0, .int .i64 0, .int .i64 0, .bool false, .bool false, .bool false, .int .u64 0, .int .i64 0, .int .u64 0, .int .i64 0, .int .i64 0, .int .i64 0, .int .i64 0] 29)).trans ht1 (fun k h => .inl h)).alloc _)
  have HR1 : Hid (RAt (w1.alloc (.cells #[.int .i64 4, .int .i64 0, .int .i64 0, .bool false, .bool false, .bool false, .int .u64 0, .int .i64 0, .int .u64 0, .int .i64 0, .int .i64 0, .int .i64 0, .int .i64 0] 29)) r ab [4, x1, x2, x3, x4, x5] 1) := Lib.hid (hr1.below (by go_grown))
  have HC1 := Lib.hid (heap_new w1 (.cells #[.int .i64 4, .int .i64 0, .int .i64 0, .bool false, .bool false, .bool false, .int .u64 0, .int .i64 0, .int .u64 0, .int .i64 0, .int .i64 0, .int .i64 0, .int .i64 0] 29))
  have HP1 := Lib.hid (heap_old w1 (.cells #[.int .i64 4, .int .i64 0, .int .i64 0, .bool false, .bool false, .bool false, .int .u64 0, .int .i64 0, .int .u64 0, .int .i64 0, .int .i64 0, .int .i64 0, .int .i64 0] 29) _ hp1)
  have hne1 : ¬ w1.heap.size = r := by omega
  have hne2 : ¬ r = w1.heap.size := by omega
  have hne3 : ¬ w.heap.size = w1.heap.size := by omega
  have hne4 : ¬ w1.heap.size = w.heap.size := by omega
  have hne5 : ¬ w.heap.size = r := by omega
  have hne6 : ¬ r = w.heap.size := by omega
  have hp1c : (w1.alloc (.cells #[.int .i64 4, .int .i64 0, .int .i64 0, .bool false, .bool false, .bool false, .int .u64 0, .int .i64 0, .int .u64 0, .int .i64 0, .int .i64 0, .int .i64 0, .int .i64 0] 29)).cell? ⟨r, 0, none⟩ = some (.slice (some ⟨ab, 1, none⟩) 5 5) := cell_heap HR1.out.rd 0
  have hz1 := heap_lt hr1.rd
  have hp1d : w1.cell? ⟨r, 0, none⟩ = some (.slice (some ⟨ab, 1, none⟩) 5 5) := cell_heap hr1.rd 0
  clear hp1 ht1 hr1 HC0 hp1c
  go_wp2_with fail
  refine (spot_ok HR1.out (x := x1) (y := x2) rfl rfl HC1.out (fun e => by omega) (fun e => by omega) h1 b0 b1 b2).mono ?_
  rintro e w2 ⟨rfl, ht2, hr2, hc2⟩
  have HR2 : Hid (RAt w2 r ab [4, x1, x2, x3, x4, x5] 3) := Lib.hid hr2
  have HC2 : Hid (w2.heap[w1.heap.size]? = some (.cells #[.int .i64 4, .int .i64 0, .int .i64 0, .bool false, .bool false, .bool false, .int .u64 x1, .int .i64 x2, .int .u64 0, .int .i64 0, .int .i64 0, .int .i64 0, .int .i64 0] 29 (0, 0))) := Lib.hid hc2
  have HP2 := Lib.hid (ht2.heap HP1.out (fun e => by rcases e with e | e <;> omega))
  have HT2 := Lib.hid (HT1.out.trans ht2 (fun k h => by rcases h with h | h; exact .inl h; exact .inr (by omega)))
  have hl2 : w1.heap.size < w2.heap.size := heap_lt HC2.out
  have hq2 : w2.cell? ⟨r, 0, none⟩ = some (.slice (some ⟨ab, 3, none⟩) 3 3) := cell_heap HR2.out.rd 0
  clear ht2 hr2 hc2
  go_wp2_with fail
--LOOP
  go_loopw [119] (fun i wr => ∃ j : Nat, i = .int .i64 j ∧ j ≤ 3 ∧ Hid (RAt wr r ab [4, x1, x2, x3, x4, x5] (3 + j)) ∧ Hid (wr.heap[w1.heap.size]? = some (.cells #[.int .i64 4, .int .i64 0, .int .i64 0, .bool false, .bool false, .bool false, .int .u64 x1, .int .i64 x2, .int .u64 0, .int .i64 0, .int .i64 0, .int .i64 0, .int .i64 0] 29 (0, 0))) ∧ Hid (wr.heap[w.heap.size]? = some (.cells #[.int .i64 0, .int .i64 0, .int .i64 0, .bool false, .bool false, .bool false, .int .u64 0, .int .i64 0, .int .u64 0, .int .i64 0, .int .i64 0, .int .i64 0, .int .i64 0] 29 (0, 0))) ∧ Hid (Touch (fun b => b = r) w wr) ∧ Hid (∀ m, m < j → [4, x1, x2, x3, x4, x5][3 + m]? = some 0)) (fun i _ => 3 - (intOf i).toNat)
  case atStart => exact ⟨0, rfl, by omega, HR2, HC2, HP2, HT2, Lib.hid (fun m hm => by omega)⟩
  case round =>
    clear HR1 HC1 HP1 HT1 HR2 HC2 HP2 HT2
    obtain ⟨j, rfl, hj, HR, HC, HP, HT, HZ⟩ := hrel
    by_cases hlt : j < 3
    · have f0 : decide ((j : Int) < 3) = true := decide_eq_true (by omega)
      obtain ⟨x, hx⟩ := all_get HR.out.len (k := 3 + j) (by omega)
      have hx0 : 0 ≤ x := hpos.out x (List.mem_of_getElem? hx)
      by_cases x0 : x = 0
      · subst x0
        have HW := Lib.hid (word_ok HR.out hx 0 (by omega))
        have HX := Lib.hid hx
        have hg := heap_lt HC.out
        clear hx
        go_wp2_with fail
        refine HW.out.mono ?_
        rintro e v2 ⟨rfl, ht, hr⟩
        have HRn := Lib.hid hr
        have HCn := Lib.hid (ht.heap HC.out (fun e => by omega))
        have HPn := Lib.hid (ht.heap HP.out (fun e => by omega))
        have HTn := Lib.hid (HT.out.trans ht (fun k h => .inl h))
        clear ht hr HW HC HP HT HR
        go_wp2_with fail
        go_roundw
        case rel => exact ⟨j + 1, by go_num, by omega, by rw [← Nat.add_assoc]; exact HRn, HCn, HPn, HTn, Lib.hid (fun m hm => by rcases Nat.lt_or_ge m j with h | h; exact HZ.out m h; (obtain rfl : m = j := (by omega)); exact HX.out)⟩
        case measure => simp [intOf]; omega
      · have HW := Lib.hid (word_bad HR.out hx 0 (by omega))
        have HX := Lib.hid hx
        have HXN := Lib.hid x0
        clear hx x0
        go_wp2_with fail
        refine HW.out.mono ?_
        rintro e v2 ⟨rfl, ht⟩
        go_wp2
        exact ⟨rfl, .inr ⟨fun hk => HXN.out (by have := hk (3 + j) (by omega) (by omega); rw [HX.out] at this; exact Option.some.inj this), rfl⟩, HT.out.trans ht (fun k h => .inl h)⟩
    · have f0 : decide ((j : Int) < 3) = false := decide_eq_false (by omega)
      obtain rfl : j = 3 := by omega
      have g0 : wr.cell? ⟨w1.heap.size, 0, none⟩ = some (.int .i64 4) := cell_heap HC.out 0
      have q0 : wr.cell? ⟨w.heap.size, 0, none⟩ = some (.int .i64 0) := cell_heap HP.out 0
      have f00 : wr.frozen? ⟨w.heap.size, 0, none⟩ = false := frozen_heap HP.out 0
      have g1 : wr.cell? ⟨w1.heap.size, 1, none⟩ = some (.int .i64 0) := cell_heap HC.out 1
      have q1 : wr.cell? ⟨w.heap.size, 1, none⟩ = some (.int .i64 0) := cell_heap HP.out 1
      have f1 : wr.frozen? ⟨w.heap.size, 1, none⟩ = false := frozen_heap HP.out 1
      have g2 : wr.cell? ⟨w1.heap.size, 2, none⟩ = some (.int .i64 0) := cell_heap HC.out 2
      have q2 : wr.cell? ⟨w.heap.size, 2, none⟩ = some (.int .i64 0) := cell_heap HP.out 2
      have f2 : wr.frozen? ⟨w.heap.size, 2, none⟩ = false := frozen_heap HP.out 2
      have g3 : wr.cell? ⟨w1.heap.size, 3, none⟩ = some (.bool false) := cell_heap HC.out 3
      have q3 : wr.cell? ⟨w.heap.size, 3, none⟩ = some (.bool false) := cell_heap HP.out 3
      have f3 : wr.frozen? ⟨w.heap.size, 3, none⟩ = false := frozen_heap HP.out 3
      have g4 : wr.cell? ⟨w1.heap.size, 4, none⟩ = some (.bool false) := cell_heap HC.out 4
      have q4 : wr.cell? ⟨w.heap.size, 4, none⟩ = some (.bool false) := cell_heap HP.out 4
      have f4 : wr.frozen? ⟨w.heap.size, 4, none⟩ = false := frozen_heap HP.out 4
      have g5 : wr.cell? ⟨w1.heap.size, 5, none⟩ = some (.bool false) := cell_heap HC.out 5
      have q5 : wr.cell? ⟨w.heap.size, 5, none⟩ = some (.bool false) := cell_heap HP.out 5
      have f5 : wr.frozen? ⟨w.heap.size, 5, none⟩ = false := frozen_heap HP.out 5
      have g6 : wr.cell? ⟨w1.heap.size, 6, none⟩ = some (.int .u64 x1) := cell_heap HC.out 6
      have q6 : wr.cell? ⟨w.heap.size, 6, none⟩ = some (.int .u64 0) := cell_heap HP.out 6
      have f6 : wr.frozen? ⟨w.heap.size, 6, none⟩ = false := frozen_heap HP.out 6
      have g7 : wr.cell? ⟨w1.heap.size, 7, none⟩ = some (.int .i64 x2) := cell_heap HC.out 7
      have q7 : wr.cell? ⟨w.heap.size, 7, none⟩ = some (.int .i64 0) := cell_heap HP.out 7
      have f7 : wr.frozen? ⟨w.heap.size, 7, none⟩ = false := frozen_heap HP.out 7
      have g8 : wr.cell? ⟨w1.heap.size, 8, none⟩ = some (.int .u64 0) := cell_heap HC.out 8
      have q8 : wr.cell? ⟨w.heap.size, 8, none⟩ = some (.int .u64 0) := cell_heap HP.out 8
      have f8 : wr.frozen? ⟨w.heap.size, 8, none⟩ = false := frozen_heap HP.out 8
      have g9 : wr.cell? ⟨w1.heap.size, 9, none⟩ = some (.int .i64 0) := cell_heap HC.out 9
      have q9 : wr.cell? ⟨w.heap.size, 9, none⟩ = some (.int .i64 0) := cell_heap HP.out 9
      have f9 : wr.frozen? ⟨w.heap.size, 9, none⟩ = false := frozen_heap HP.out 9
      have g10 : wr.cell? ⟨w1.heap.size, 10, none⟩ = some (.int .i64 0) := cell_heap HC.out 10
      have q10 : wr.cell? ⟨w.heap.size, 10, none⟩ = some (.int .i64 0) := cell_heap HP.out 10
      have f10 : wr.frozen? ⟨w.heap.size, 10, none⟩ = false := frozen_heap HP.out 10
      have g11 : wr.cell? ⟨w1.heap.size, 11, none⟩ = some (.int .i64 0) := cell_heap HC.out 11
      have q11 : wr.cell? ⟨w.heap.size, 11, none⟩ = some (.int .i64 0) := cell_heap HP.out 11
      have f11 : wr.frozen? ⟨w.heap.size, 11, none⟩ = false := frozen_heap HP.out 11
      have g12 : wr.cell? ⟨w1.heap.size, 12, none⟩ = some (.int .i64 0) := cell_heap HC.out 12
      have q12 : wr.cell? ⟨w.heap.size, 12, none⟩ = some (.int .i64 0) := cell_heap HP.out 12
      have f12 : wr.frozen? ⟨w.heap.size, 12, none⟩ = false := frozen_heap HP.out 12
      have hg := heap_lt HC.out
      have hTl : Tail [4, x1, x2, x3, x4, x5] 3 := fun k hk1 hk2 => by have := HZ.out (k - 3) (by omega); rwa [show 3 + (k - 3) = k by omega] at this
      have HTL := Lib.hid hTl
      clear hTl HZ
      go_wp2
      refine bodyPost_ret (v := .agg #[.int .i64 4, .int .i64 0, .int .i64 0, .bool false, .bool false, .bool false, .int .u64 x1, .int .i64 x2, .int .u64 0, .int .i64 0, .int .i64 0, .int .i64 0, .int .i64 0]) (by simp [results, Try.results13, go_sem, q0, q1, q2, q3, q4, q5, q6, q7, q8, q9, q10, q11, q12, f00, f1, f2, f3, f4, f5, f6, f7, f8, f9, f10, f11, f12]) rfl ⟨.inl ⟨HTL.out, rfl⟩, ?_⟩
      exact (((((((((((((HT.out.setCell (a := ⟨w.heap.size, 0, none⟩) (.inr (Nat.le_refl _)) _).setCell (a := ⟨w.heap.size, 1, none⟩) (.inr (Nat.le_refl _)) _).setCell (a := ⟨w.heap.size, 2, none⟩) (.inr (Nat.le_refl _)) _).setCell (a := ⟨w.heap.size, 3, none⟩) (.inr (Nat.le_refl _)) _).setCell (a := ⟨w.heap.size, 4, none⟩) (.inr (Nat.le_refl _)) _).setCell (a := ⟨w.heap.size, 5, none⟩) (.inr (Nat.le_refl _)) _).setCell (a := ⟨w.heap.size, 6, none⟩) (.inr (Nat.le_refl _)) _).setCell (a := ⟨w.heap.size, 7, none⟩) (.inr (Nat.le_refl _)) _).setCell (a := ⟨w.heap.size, 8, none⟩) (.inr (Nat.le_refl _)) _).setCell (a := ⟨w.heap.size, 9, none⟩) (.inr (Nat.le_refl _)) _).setCell (a := ⟨w.heap.size, 10, none⟩) (.inr (Nat.le_refl _)) _).setCell (a := ⟨w.heap.size, 11, none⟩) (.inr (Nat.le_refl _)) _).setCell (a := ⟨w.heap.size, 12, none⟩) (.inr (Nat.le_refl _)) _)
set_option maxRecDepth 100000 in
set_option maxHeartbeats 16000000 in
theorem read_6_bad0a (h : RAt w r ab [6, x1, x2, x3, x4, x5] 0) (hpos : Hid (∀ x ∈ [6, x1, x2, x3, x4, x5], 0 ≤ x)) (h1 : 0 ≤ x1) (h2 : 0 ≤ x2) (h3 : 0 ≤ x3) (h4 : 0 ≤ x4) (h5 : 0 ≤ x5) (u1 : x1 < 18446744073709551616) (u2 : x2 < 18446744073709551616) (u3 : x3 < 18446744073709551616) (u4 : x4 < 18446744073709551616) (u5 : x5 < 18446744073709551616) (b0 : 34359738368 ≤ x1) :
    Calls Try.prog 13 #[.pointer (some ⟨r, 0, none⟩)] w fun e w' => e = .panicked badP ∧ Touch (fun b => b = r) w w' := by
  have hz := heap_lt h.rd
  have hza := heap_lt h.arr
  have HC0 := Lib.hid (number_ok (h.below (w' := w.alloc (.cells #[.int .i64 0, .int .i64 0, .int .i64 0, .bool false, .bool false, .bool false, .int .u64 0, .int .i64 0, .int .u64 0, .int .i64 0, .int .i64 0, .int .i64 0, .int .i64 0] 29)) (by go_grown)) (x := 6) rfl (by omega) 17 (by omega) (by omega) (by omega))
  clear h
  go_enter Try.func13, Try.ntmps13
  go_wp2_with fail
  refine HC0.out.mono ?_
  rintro e w1 ⟨rfl, ht1, hr1⟩
  have hp1 := ht1.heap (heap_new w (.cells #[.int .i64 0, .int .i64 0, .int .i64 0, .bool false, .bool false, .bool false, .int .u64 0, .int .i64 0, .int .u64 0, .int .i64 0, .int .i64 0, .int .i64 0, .int .i64 0] 29)) (fun e => by omega)
  have hs1 : w.heap.size < w1.heap.size := heap_lt hp1
  have HT1 : Hid (Touch (fun b => b = r) w (w1.alloc (.cells #[.int .i64 6, .int .i64 0, .int .i64 0, .bool false, .bool false, .bool false, .int .u64 0, .int .i64 0, .int .u64 0, .int .i64 0, .int .i64 0, .int .i64 0, .int .i64 0] 29))) := Lib.hid ((((Touch.refl (fun b => b = r) w).alloc (.cells #[.int .i64 0, .int .i64 0, .int .i64 0, .bool false, .bool false, .bool false, .int .u64 0, .int .i64 0, .int .u64 0, .int .i64 0, .int .i64 0, .int .i64 0, .int .i64 0] 29)).trans ht1 (fun k h => .inl h)).alloc _)
  have HR1 : Hid (RAt (w1.alloc (.cells #[.int .i64 6, .int .i64 0, .int .i64 0, .bool false, .bool false, .bool false, .int .u64 0, .int .i64 0, .int .u64 0, .int .i64 0, .int .i64 0, .int .i64 0, .int .i64 0] 29)) r ab [6, x1, x2, x3, x4, x5] 1) := Lib.hid (hr1.below (by go_grown))
  have HC1 := Lib.hid (heap_new w1 (.cells #[.int .i64 6, .int .i64 0, .int .i64 0, .bool false, .bool false, .bool false, .int .u64 0, .int .i64 0, .int .u64 0, .int .i64 0, .int .i64 0, .int .i64 0, .int .i64 0] 29))
  have HP1 := Lib.hid (heap_old w1 (.cells #[.int .i64 6, .int .i64 0, .int .i64 0, .bool false, .bool false, .bool false, .int .u64 0, .int .i64 0, .int .u64 0, .int .i64 0, .int .i64 0, .int .i64 0, .int .i64 0] 29) _ hp1)
  have hne1 : ¬ w1.heap.size = r := by omega
  have hne2 : ¬ r = w1.heap.size := by omega
  have hne3 : ¬ w.heap.size = w1.heap.size := by omega
  have hne4 : ¬ w1.heap.size = w.heap.size := by omega
  have hne5 : ¬ w.heap.size = r := by omega
  have hne6 : ¬ r = w.heap.size := by omega
  have hp1c : (w1.alloc (.cells #[.int .i64 6, .int .i64 0, .int .i64 0, .bool false, .bool false, .bool false, .int .u64 0, .int .i64 0, .int .u64 0, .int .i64 0, .int .i64 0, .int .i64 0, .int .i64 0] 29)).cell? ⟨r, 0, none⟩ = some (.slice (some ⟨ab, 1, none⟩) 5 5) := cell_heap HR1.out.rd 0
  have hz1 := heap_lt hr1.rd
  have hp1d : w1.cell? ⟨r, 0, none⟩ = some (.slice (some ⟨ab, 1, none⟩) 5 5) := cell_heap hr1.rd 0
  clear hp1 ht1 hr1 HC0 hp1c
  go_wp2_with fail
  refine (one_bad HR1.out (x := x1) rfl b0).mono ?_
  rintro e w2 ⟨rfl, ht2⟩
  go_wp2
  exact ⟨rfl, rfl, HT1.out.trans ht2 (fun k h => .inl h)⟩
set_option maxRecDepth 100000 in
set_option maxHeartbeats 16000000 in
theorem read_6_bad1a (h : RAt w r ab [6, x1, x2, x3, x4, x5] 0) (hpos : Hid (∀ x ∈ [6, x1, x2, x3, x4, x5], 0 ≤ x)) (h1 : 0 ≤ x1) (h2 : 0 ≤ x2) (h3 : 0 ≤ x3) (h4 : 0 ≤ x4) (h5 : 0 ≤ x5) (u1 : x1 < 18446744073709551616) (u2 : x2 < 18446744073709551616) (u3 : x3 < 18446744073709551616) (u4 : x4 < 18446744073709551616) (u5 : x5 < 18446744073709551616) (b0 : x1 < 34359738368) (b1 : 16 ≤ x2) :
    Calls Try.prog 13 #[.pointer (some ⟨r, 0, none⟩)] w fun e w' => e = .panicked badP ∧ Touch (fun b => b = r) w w' := by
  have hz := heap_lt h.rd
  have hza := heap_lt h.arr
  have HC0 := Lib.hid (number_ok (h.below (w' := w.alloc (.cells #[.int .i64 0, .int .i64 0, .int .i64 0, .bool false, .bool false, .bool false, .int .u64 0, .int .i64 0, .int .u64 0, .int .i64 0, .int .i64 0, .int .i64 0, .int .i64 0] 29)) (by go_grown)) (x := 6) rfl (by omega) 17 (by omega) (by omega) (by omega))
  clear h
  go_enter Try.func13, Try.ntmps13
  go_wp2_with fail
  refine HC0.out.mono ?_
  rintro e w1 ⟨rfl, ht1, hr1⟩
  have hp1 := ht1.heap (heap_new w (.cells #[.int .i64 0, .int .i64 0, .int .i64 0, .bool false, .bool false, .bool false, .int .u64 0, .int .i64 0, .int .u64 0, .int .i64 0, .int .i64 0, .int .i64 0, .int .i64 0] 29)) (fun e => by omega)
  have hs1 : w.heap.size < w1.heap.size := heap_lt hp1
  have HT1 : Hid (Touch (fun b => b = r) w (w1.alloc (.cells #[.int .i64 6, .int .i64 0, .int .i64 0, .bool false, .bool false, .bool false, .int .u64 0, .int .i64 0, .int .u64 0, .int .i64 0, .int .i64 0, .int .i64 0, .int .i64 0] 29))) := Lib.hid ((((Touch.refl (fun b => b = r) w).alloc (.cells #[.int .i64 0, .int .i64 0, .int .i64 0, .bool false, .bool false, .bool false, .int .u64 0, .int .i64 0, .int .u64 0, .int .i64 0, .int .i64 0, .int .i64 0, .int .i64 0] 29)).trans ht1 (fun k h => .inl h)).alloc _)
  have HR1 : Hid (RAt (w1.alloc (.cells #[.int .i64 6, .int .i64 0, .int .i64 0, .bool false, .bool false, .bool false, .int .u64 0, .int .i64 0, .int .u64 0, .int .i64 0, .int .i64 0, .int .i64 0, .int .i64 0] 29)) r ab [6, x1, x2, x3, x4, x5] 1) := Lib.hid (hr1.below (by go_grown))
  have HC1 := Lib.hid (heap_new w1 (.cells #[.int .i64 6, .int .i64 0, .int .i64 0, .bool false, .bool false, .bool false, .int .u64 0, .int .i64 0, .int .u64 0, .int .i64 0, .int .i64 0, .int .i64 0, .int .i64 0] 29))
  have HP1 := Lib.hid (heap_old w1 (.cells #[.int .i64 6, .int .i64 0, .int .i64 0, .bool false, .bool false, .bool false, .int .u64 0, .int .i64 0, .int .u64 0, .int .i64 0, .int .i64 0, .int .i64 0, .int .i64 0] 29) _ hp1)
  have hne1 : ¬ w1.heap.size = r := by omega
  have hne2 : ¬ r = w1.heap.size := by omega
  have hne3 : ¬ w.heap.size = w1.heap.size := by omega
  have hne4 : ¬ w1.heap.size = w.heap.size := by omega
  have hne5 : ¬ w.heap.size = r := by omega
  have hne6 : ¬ r = w.heap.size := by omega
  have hp1c : (w1.alloc (.cells #[.int .i64 6, .int .i64 0, .int .i64 0, .bool false, .bool false, .bool false, .int .u64 0, .int .i64 0, .int .u64 0, .int .i64 0, .int .i64 0, .int .i64 0, .int .i64 0] 29)).cell? ⟨r, 0, none⟩ = some (.slice (some ⟨ab, 1, none⟩) 5 5) := cell_heap HR1.out.rd 0
  have hz1 := heap_lt hr1.rd
  have hp1d : w1.cell? ⟨r, 0, none⟩ = some (.slice (some ⟨ab, 1, none⟩) 5 5) := cell_heap hr1.rd 0
  clear hp1 ht1 hr1 HC0 hp1c
  go_wp2_with fail
  refine (one_ok HR1.out (x := x1) rfl h1 b0).mono ?_
  rintro e w2 ⟨rfl, ht2, hr2⟩
  have HR2 : Hid (RAt w2 r ab [6, x1, x2, x3, x4, x5] 2) := Lib.hid hr2
  have HC2 := Lib.hid (ht2.heap HC1.out (fun e => by omega))
  have HP2 := Lib.hid (ht2.heap HP1.out (fun e => by omega))
  have HT2 := Lib.hid (HT1.out.trans ht2 (fun k h => .inl h))
  have hl2 : w1.heap.size < w2.heap.size := heap_lt HC2.out
  have hq2 : w2.cell? ⟨r, 0, none⟩ = some (.slice (some ⟨ab, 2, none⟩) 4 4) := cell_heap HR2.out.rd 0
  clear ht2 hr2
  go_wp2_with fail
  refine (number_bad HR2.out (x := x2) rfl 16 (by omega) (by omega) b1).mono ?_
  rintro e w3 ⟨rfl, ht3⟩
  go_wp2
  exact ⟨rfl, rfl, HT2.out.trans ht3 (fun k h => .inl h)⟩
set_option maxRecDepth 100000 in
set_option maxHeartbeats 16000000 in
theorem read_6_bad2a (h : RAt w r ab [6, x1, x2, x3, x4, x5] 0) (hpos : Hid (∀ x ∈ [6, x1, x2, x3, x4, x5], 0 ≤ x)) (h1 : 0 ≤ x1) (h2 : 0 ≤ x2) (h3 : 0 ≤ x3) (h4 : 0 ≤ x4) (h5 : 0 ≤ x5) (u1 : x1 < 18446744073709551616) (u2 : x2 < 18446744073709551616) (u3 : x3 < 18446744073709551616) (u4 : x4 < 18446744073709551616) (u5 : x5 < 18446744073709551616) (b0 : x1 < 34359738368) (b1 : x2 < 16) (b2 : 1 < x3) :
    Calls Try.prog 13 #[.pointer (some ⟨r, 0, none⟩)] w fun e w' => e = .panicked badP ∧ Touch (fun b => b = r) w w' := by
  have hz := heap_lt h.rd
  have hza := heap_lt h.arr
  have HC0 := Lib.hid (number_ok (h.below (w' := w.alloc (.cells #[.int .i64 0, .int .i64 0, .int .i64 0, .bool false, .bool false, .bool false, .int .u64 0, .int .i64 0, .int .u64 0, .int .i64 0, .int .i64 0, .int .i64 0, .int .i64 0] 29)) (by go_grown)) (x := 6) rfl (by omega) 17 (by omega) (by omega) (by omega))
  clear h
  go_enter Try.func13, Try.ntmps13
  go_wp2_with fail
  refine HC0.out.mono ?_
  rintro e w1 ⟨rfl, ht1, hr1⟩
  have hp1 := ht1.heap (heap_new w (.cells #[.int .i64 0, .int .i64 0, .int .i64 0, .bool false, .bool false, .bool false, .int .u64 0, .int .i64 0, .int .u64 0, .int .i64 0, .int .i64 0, .int .i64 0, .int .i64 0] 29)) (fun e => by omega)
  have hs1 : w.heap.size < w1.heap.size := heap_lt hp1
  have HT1 : Hid (Touch (fun b => b = r) w (w1.alloc (.cells #[.int .i64 6, .int .i64 0, .int .i64 0, .bool false, .bool false, .bool false, .int .u64 0, .int .i64 0, .int .u64 0, .int .i64 0, .int .i64 0, .int .i64 0, .int .i64 0] 29))) := Lib.hid ((((Touch.refl (fun b => b = r) w).alloc (.cells #[.int .i64 0, .int .i64 0, .int .i64 0, .bool false, .bool false, .bool false, .int .u64 0, .int .i64 0, .int .u64 0, .int .i64 0, .int .i64 0, .int .i64 0, .int .i64 0] 29)).trans ht1 (fun k h => .inl h)).alloc _)
  have HR1 : Hid (RAt (w1.alloc (.cells #[.int .i64 6, .int .i64 0, .int .i64 0, .bool false, .bool false, .bool false, .int .u64 0, .int .i64 0, .int .u64 0, .int .i64 0, .int .i64 0, .int .i64 0, .int .i64 0] 29)) r ab [6, x1, x2, x3, x4, x5] 1) := Lib.hid (hr1.below (by go_grown))
  have HC1 := Lib.hid (heap_new w1 (.cells #[.int .i64 6, .int .i64 0, .int .i64 0, .bool false, .bool false, .bool false, .int .u64 0, .int .i64 0, .int .u64 0, .int .i64 0, .int .i64 0, .int .i64 0, .int .i64 0] 29))
  have HP1 := Lib.hid (heap_old w1 (.cells #[.int .i64 6, .int .i64 0, .int .i64 0, .bool false, .bool false, .bool false, .int .u64 0, .int .i64 0, .int .u64 0, .int .i64 0, .int .i64 0, .int .i64 0, .int .i64 0] 29) _ hp1)
  have hne1 : ¬ w1.heap.size = r := by omega
  have hne2 : ¬ r = w1.heap.size := by omega
  have hne3 : ¬ w.heap.size = w1.heap.size := by omega
  have hne4 : ¬ w1.heap.size = w.heap.size := by omega
  have hne5 : ¬ w.heap.size = r := by omega
  have hne6 : ¬ r = w.heap.size := by omega
  have hp1c : (w1.alloc (.cells #[.int .i64 6, .int .i64 0, .int .i64 0, .bool false, .bool false, .bool false, .int .u64 0, .int .i64 0, .int .u64 0, .int .i64 0, .int .i64 0, .int .i64 0, .int .i64 0] 29)).cell? ⟨r, 0, none⟩ = some (.slice (some ⟨ab, 1, none⟩) 5 5) := cell_heap HR1.out.rd 0
  have hz1 := heap_lt hr1.rd
  have hp1d : w1.cell? ⟨r, 0, none⟩ = some (.slice (some ⟨ab, 1, none⟩) 5 5) := cell_heap hr1.rd 0
  clear hp1 ht1 hr1 HC0 hp1c
  go_wp2_with fail
  refine (one_ok HR1.out (x := x1) rfl h1 b0).mono ?_
  rintro e w2 ⟨rfl, ht2, hr2⟩
  have HR2 : Hid (RAt w2 r ab [6, x1, x2, x3, x4, x5] 2) := Lib.hid hr2
  have HC2 := Lib.hid (ht2.heap HC1.out (fun e => by omega))
  have HP2 := Lib.hid (ht2.heap HP1.out (fun e => by omega))
  have HT2 := Lib.hid (HT1.out.trans ht2 (fun k h => .inl h))
  have hl2 : w1.heap.size < w2.heap.size := heap_lt HC2.out
  have hq2 : w2.cell? ⟨r, 0, none⟩ = some (.slice (some ⟨ab, 2, none⟩) 4 4) := cell_heap HR2.out.rd 0
  clear ht2 hr2
  go_wp2_with fail
  refine (number_ok HR2.out (x := x2) rfl h2 16 (by omega) (by omega) b1).mono ?_
  rintro e w3 ⟨rfl, ht3, hr3⟩
  have HR3 : Hid (RAt w3 r ab [6, x1, x2, x3, x4, x5] 3) := Lib.hid hr3
  have HC3 := Lib.hid (ht3.heap HC2.out (fun e => by omega))
  have HP3 := Lib.hid (ht3.heap HP2.out (fun e => by omega))
  have HT3 := Lib.hid (HT2.out.trans ht3 (fun k h => .inl h))
  have hl3 : w1.heap.size < w3.heap.size := heap_lt HC3.out
  have hq3 : w3.cell? ⟨r, 0, none⟩ = some (.slice (some ⟨ab, 3, none⟩) 3 3) := cell_heap HR3.out.rd 0
  clear ht3 hr3
  have g3_1 : w3.cell? ⟨w1.heap.size, 1, none⟩ = some (.int .i64 0) := cell_heap HC3.out 1
  have f3_1 : w3.frozen? ⟨w1.heap.size, 1, none⟩ = false := frozen_heap HC3.out 1
  have g3_2 : w3.cell? ⟨w1.heap.size, 2, none⟩ = some (.int .i64 0) := cell_heap HC3.out 2
  have f3_2 : w3.frozen? ⟨w1.heap.size, 2, none⟩ = false := frozen_heap HC3.out 2
  have g3_9 : w3.cell? ⟨w1.heap.size, 9, none⟩ = some (.int .i64 0) := cell_heap HC3.out 9
  have f3_9 : w3.frozen? ⟨w1.heap.size, 9, none⟩ = false := frozen_heap HC3.out 9
  go_wp2_with fail
  have htS3 : Touch (fun b => b = w1.heap.size) w3 (((w3.setCell ⟨w1.heap.size, 1, none⟩ (.int .i64 x1)).setCell ⟨w1.heap.size, 2, none⟩ (.int .i64 (x1 + 1))).setCell ⟨w1.heap.size, 9, none⟩ (.int .i64 x2)) := ((((Touch.refl (fun b => b = w1.heap.size) w3).setCell (a := ⟨w1.heap.size, 1, none⟩) (.inl rfl) (.int .i64 x1)).setCell (a := ⟨w1.heap.size, 2, none⟩) (.inl rfl) (.int .i64 (x1 + 1))).setCell (a := ⟨w1.heap.size, 9, none⟩) (.inl rfl) (.int .i64 x2))
  have HC4 : Hid ((((w3.setCell ⟨w1.heap.size, 1, none⟩ (.int .i64 x1)).setCell ⟨w1.heap.size, 2, none⟩ (.int .i64 (x1 + 1))).setCell ⟨w1.heap.size, 9, none⟩ (.int .i64 x2)).heap[w1.heap.size]? = some (.cells #[.int .i64 6, .int .i64 x1, .int .i64 (x1 + 1), .bool false, .bool false, .bool false, .int .u64 0, .int .i64 0, .int .u64 0, .int .i64 x2, .int .i64 0, .int .i64 0, .int .i64 0] 29 (0, 0))) := Lib.hid (heap_set (heap_set (heap_set HC3.out 1 (.int .i64 x1)) 2 (.int .i64 (x1 + 1))) 9 (.int .i64 x2))
  have HR4 := Lib.hid (HR3.out.touch htS3 (fun e => by omega) (fun e => by omega))
  have HP4 := Lib.hid (htS3.heap HP3.out (fun e => by omega))
  have HT4 := Lib.hid (HT3.out.trans htS3 (fun k e => .inr (by omega)))
  clear htS3
  clear g3_1 f3_1 g3_2 f3_2 g3_9 f3_9
  refine (word_bad HR4.out (x := x3) rfl 1 b2).mono ?_
  rintro e w5 ⟨rfl, ht5⟩
  go_wp2
  exact ⟨rfl, rfl, HT4.out.trans ht5 (fun k h => .inl h)⟩
set_option maxRecDepth 100000 in
set_option maxHeartbeats 16000000 in
theorem read_6_ok (h : RAt w r ab [6, x1, x2, x3, x4, x5] 0) (hpos : Hid (∀ x ∈ [6, x1, x2, x3, x4, x5], 0 ≤ x)) (h1 : 0 ≤ x1) (h2 : 0 ≤ x2) (h3 : 0 ≤ x3) (h4 : 0 ≤ x4) (h5 : 0 ≤ x5) (u1 : x1 < 18446744073709551616) (u2 : x2 < 18446744073709551616) (u3 : x3 < 18446744073709551616) (u4 : x4 < 18446744073709551616) (u5 : x5 < 18446744073709551616) (b0 : x1 < 34359738368) (b1 : x2 < 16) (b2 : x3 ≤ 1) :
    Calls Try.prog 13 #[.pointer (some ⟨r, 0, none⟩)] w fun e w' => ROut (Tail [6, x1, x2, x3, x4, x5] 4) (.agg #[.int .i64 6, .int .i64 x1, .int .i64 (x1 + 1), .bool (x3 == 1), .bool false, .bool false, .int .u64 0, .int .i64 0, .int .u64 0, .int .i64 x2, .int .i64 0, .int .i64 0, .int .i64 0]) e ∧ Touch (fun b => b = r) w w' := by
  have hz := heap_lt h.rd
  have hza := heap_lt h.arr
  have HC0 := Lib.hid (number_ok (h.below (w' := w.alloc (.cells #[.int .i64 0, .int .i64 0, .int .i64 0, .bool false, .bool false, .bool false, .int .u64 0, .int .i64 0, .int .u64 0, .int .i64 0, .int .i64 0, .int .i64 0, .int .i64 0] 29)) (by go_grown)) (x := 6) rfl (by omega) 17 (by omega) (by omega) (by omega))
  clear h
  go_enter Try.func13, Try.ntmps13
  go_wp2_with fail
  refine HC0.out.mono ?_
  rintro e w1 ⟨rfl, ht1, hr1⟩
  have hp1 := ht1.heap (heap_new w (.cells #[.int .i64 0, .int .i64 0, .int .i64 0, .bool false, .bool false, .bool false, .int .u64 0, .int .i64 0, .int .u64 0, .int .i64 0, .int .i64 0, .int .i64 0, .int .i64 0] 29)) (fun e => by omega)
  have hs1 : w.heap.size < w1.heap.size := heap_lt hp1
  have HT1 : Hid (Touch (fun b => b = r) w (w1.alloc (.cells #[.int .i64 6, .int .i64 0, .int .i64 0, .bool false, .bool false, .bool false, .int .u64 0, .int .i64 0, .int .u64 0, .int .i64 0, .int .i64 0, .int .i64 0, .int .i64 0] 29))) := Lib.hid ((((Touch.refl (fun b => b = r) w).alloc (.cells #[.int .i64 0, .int .i64 0, .int .i64 0, .bool false, .bool false, .bool false, .int .u64 0, .int .i64 0, .int .u64 0, .int .i64 0, .int .i64 0, .int .i64 0, .int .i64 0] 29)).trans ht1 (fun k h => .inl h)).alloc _)
  have HR1 : Hid (RAt (w1.alloc (.cells #[.int .i64 6, .int .i64 0, .int .i64 0, .bool false, .bool false, .bool false, .int .u64 0, .int .i64 0, .int .u64 0, .int .i64 0, .int .i64 0, .int .i64 0, .int .i64 0] 29)) r ab [6, x1, x2, x3, x4, x5] 1) := Lib.hid (hr1.below (by go_grown))
  have HC1 := Lib.hid (heap_new w1 (.cells #[.int .i64 6, .int .i64 0, .int .i64 0, .bool false, .bool false, .bool false, .int .u64 0, .int .i64 0, .int .u64 0, .int .i64 0, .int .i64 0, .int .i64 0, .int .i64 0] 29))
  have HP1 := Lib.hid (heap_old w1 (.cells #[.int .i64 6, .int .i64 0, .int .i64 0, .bool false, .bool false, .bool false, .int .u64 0, .int .i64 0, .int .u64 0, .int .i64 0, .int .i64 0, .int .i64 0, .int .i64 0] 29) _ hp1)
  have hne1 : ¬ w1.heap.size = r := by omega
  have hne2 : ¬ r = w1.heap.size := by omega
  have hne3 : ¬ w.heap.size = w1.heap.size := by omega
  have hne4 : ¬ w1.heap.size = w.heap.size := by omega
  have hne5 : ¬ w.heap.size = r := by omega
  have hne6 : ¬ r = w.heap.size := by omega
  have hp1c : (w1.alloc (.cells #[.int .i64 6, .int .i64 0, .int .i64 0, .bool false, .bool false, .bool false, .int .u64 0, .int .i64 0, .int .u64 0, .int .i64 0, .int .i64 0, .int .i64 0, .int .i64 0] 29)).cell? ⟨r, 0, none⟩ = some (.slice (some ⟨ab, 1, none⟩) 5 5) := cell_heap HR1.out.rd 0
  have hz1 := heap_lt hr1.rd
  have hp1d : w1.cell? ⟨r, 0, none⟩ = some (.slice (some ⟨ab, 1, none⟩) 5 5) := cell_heap hr1.rd 0
  clear hp1 ht1 hr1 HC0 hp1c
  go_wp2_with fail
  refine (one_ok HR1.out (x := x1) rfl h1 b0).mono ?_
  rintro e w2 ⟨rfl, ht2, hr2⟩
  have HR2 : Hid (RAt w2 r ab [6, x1, x2, x3, x4, x5] 2) := Lib.hid hr2
  have HC2 := Lib.hid (ht2.heap HC1.out (fun e => by omega))
  have HP2 := Lib.hid (ht2.heap HP1.out (fun e => by omega))
  have HT2 := Lib.hid (HT1.out.trans ht2 (fun k h => .inl h))
  have hl2 : w1.heap.size < w2.heap.size := heap_lt HC2.out
  have hq2 : w2.cell? ⟨r, 0, none⟩ = some (.slice (some ⟨ab, 2, none⟩) 4 4) := cell_heap HR2.out.rd 0
  clear ht2 hr2
  go_wp2_with fail
  refine (number_ok HR2.out (x := x2) rfl h2 16 (by omega) (by omega) b1).mono ?_
  rintro e w3 ⟨rfl, ht3, hr3⟩
  have HR3 : Hid (RAt w3 r ab [6, x1, x2, x3, x4, x5] 3) := Lib.hid hr3
  have HC3 := Lib.hid (ht3.heap HC2.out (fun e => by omega))
  have HP3 := Lib.hid (ht3.heap HP2.out (fun e => by omega))
  have HT3 := Lib.hid (HT2.out.trans ht3 (fun k h => .inl h))
  have hl3 : w1.heap.size < w3.heap.size := heap_lt HC3.out
  have hq3 : w3.cell? ⟨r, 0, none⟩ = some (.slice (some ⟨ab, 3, none⟩) 3 3) := cell_heap HR3.out.rd 0
  clear ht3 hr3
  have g3_1 : w3.cell? ⟨w1.heap.size, 1, none⟩ = some (.int .i64 0) := cell_heap HC3.out 1
  have f3_1 : w3.frozen? ⟨w1.heap.size, 1, none⟩ = false := frozen_heap HC3.out 1
  have g3_2 : w3.cell? ⟨w1.heap.size, 2, none⟩ = some (.int .i64 0) := cell_heap HC3.out 2
  have f3_2 : w3.frozen? ⟨w1.heap.size, 2, none⟩ = false := frozen_heap HC3.out 2
  have g3_9 : w3.cell? ⟨w1.heap.size, 9, none⟩ = some (.int .i64 0) := cell_heap HC3.out 9
  have f3_9 : w3.frozen? ⟨w1.heap.size, 9, none⟩ = false := frozen_heap HC3.out 9
  go_wp2_with fail
  have htS3 : Touch (fun b => b = w1.heap.size) w3 (((w3.setCell ⟨w1.heap.size, 1, none⟩ (.int .i64 x1)).setCell ⟨w1.heap.size, 2, none⟩ (.int .i64 (x1 + 1))).setCell ⟨w1.heap.size, 9, none⟩ (.int .i64 x2)) := ((((Touch.refl (fun b => b = w1.heap.size) w3).setCell (a := ⟨w1.heap.size, 1, none⟩) (.inl rfl) (.int .i64 x1)).setCell (a := ⟨w1.heap.size, 2, none⟩) (.inl rfl) (.int .i64 (x1 + 1))).setCell (a := ⟨w1.heap.size, 9, none⟩) (.inl rfl) (.int .i64 x2))
  have HC4 : Hid ((((w3.setCell ⟨w1.heap.size, 1, none⟩ (.int .i64 x1)).setCell ⟨w1.heap.size, 2, none⟩ (.int .i64 (x1 + 1))).setCell ⟨w1.heap.size, 9, none⟩ (.int .i64 x2)).heap[w1.heap.size]? = some (.cells #[.int .i64 6, .int .i64 x1, .int .i64 (x1 + 1), .bool false, .bool false, .bool false, .int .u64 0, .int .i64 0, .int .u64 0, .int .i64 x2, .int .i64 0, .int .i64 0, .int .i64 0] 29 (0, 0))) := Lib.hid (heap_set (heap_set (heap_set HC3.out 1 (.int .i64 x1)) 2 (.int .i64 (x1 + 1))) 9 (.int .i64 x2))
  have HR4 := Lib.hid (HR3.out.touch htS3 (fun e => by omega) (fun e => by omega))
  have HP4 := Lib.hid (htS3.heap HP3.out (fun e => by omega))
  have HT4 := Lib.hid (HT3.out.trans htS3 (fun k e => .inr (by omega)))
  clear htS3
  clear g3_1 f3_1 g3_2 f3_2 g3_9 f3_9
  refine (word_ok HR4.out (x := x3) rfl 1 b2).mono ?_
  rintro e w5 ⟨rfl, ht5, hr5⟩
  have HR5 : Hid (RAt w5 r ab [6, x1, x2, x3, x4, x5] 4) := Lib.hid hr5
  have HC5 := Lib.hid (ht5.heap HC4.out (fun e => by omega))
  have HP5 := Lib.hid (ht5.heap HP4.out (fun e => by omega))
  have HT5 := Lib.hid (HT4.out.trans ht5 (fun k h => .inl h))
  have hl5 : w1.heap.size < w5.heap.size := heap_lt HC5.out
  have hq5 : w5.cell? ⟨r, 0, none⟩ = some (.slice (some ⟨ab, 4, none⟩) 2 2) := cell_heap HR5.out.rd 0
  clear ht5 hr5
  have g5_3 : w5.cell? ⟨w1.heap.size, 3, none⟩ = some (.bool false) := cell_heap HC5.out 3
  have f5_3 : w5.frozen? ⟨w1.heap.size, 3, none⟩ = false := frozen_heap HC5.out 3
  go_wp2_with fail
  have htS5 : Touch (fun b => b = w1.heap.size) w5 (w5.setCell ⟨w1.heap.size, 3, none⟩ (.bool (x3 == 1))) := ((Touch.refl (fun b => b = w1.heap.size) w5).setCell (a := ⟨w1.heap.size, 3, none⟩) (.inl rfl) (.bool (x3 == 1)))
  have HC6 : Hid ((w5.setCell ⟨w1.heap.size, 3, none⟩ (.bool (x3 == 1))).heap[w1.heap.size]? = some (.cells #[.int .i64 6, .int .i64 x1, .int .i64 (x1 + 1), .bool (x3 == 1), .bool false, .bool false, .int .u64 0, .int .i64 0, .int .u64 0, .int .i64 x2, .int .i64 0, .int .i64 0, .int .i64 0] 29 (0, 0))) := Lib.hid (heap_set HC5.out 3 (.bool (x3 == 1)))
  have HR6 := Lib.hid (HR5.out.touch htS5 (fun e => by omega) (fun e => by omega))
  have HP6 := Lib.hid (htS5.heap HP5.out (fun e => by omega))
  have HT6 := Lib.hid (HT5.out.trans htS5 (fun k e => .inr (by omega)))
  clear htS5
  clear g5_3 f5_3
--LOOP
  go_loopw [119] (fun i wr => ∃ j : Nat, i = .int .i64 j ∧ j ≤ 2 ∧ Hid (RAt wr r ab [6, x1, x2, x3, x4, x5] (4 + j)) ∧ Hid (wr.heap[w1.heap.size]? = some (.cells #[.int .i64 6, .int .i64 x1, .int .i64 (x1 + 1), .bool (x3 == 1), .bool false, .bool false, .int .u64 0, .int .i64 0, .int .u64 0, .int .i64 x2, .int .i64 0, .int .i64 0, .int .i64 0] 29 (0, 0))) ∧ Hid (wr.heap[w.heap.size]? = some (.cells #[.int .i64 0, .int .i64 0, .int .i64 0, .bool false, .bool false, .bool false, .int .u64 0, .int .i64 0, .int .u64 0, .int .i64 0, .int .i64 0, .int .i64 0, .int .i64 0] 29 (0, 0))) ∧ Hid (Touch (fun b => b = r) w wr) ∧ Hid (∀ m, m < j → [6, x1, x2, x3, x4, x5][4 + m]? = some 0)) (fun i _ => 2 - (intOf i).toNat)
  case atStart => exact ⟨0, rfl, by omega, HR6, HC6, HP6, HT6, Lib.hid (fun m hm => by omega)⟩
  case round =>
    clear HR1 HC1 HP1 HT1 HR2 HC2 HP2 HT2 HR3 HC3 HP3 HT3 HR4 HC4 HP4 HT4 HR5 HC5 HP5 HT5 HR6 HC6 HP6 HT6
    obtain ⟨j, rfl, hj, HR, HC, HP, HT, HZ⟩ := hrel
    by_cases hlt : j < 2
    · have f0 : decide ((j : Int) < 2) = true := decide_eq_true (by omega)
      obtain ⟨x, hx⟩ := all_get HR.out.len (k := 4 + j) (by omega)
      have hx0 : 0 ≤ x := hpos.out x (List.mem_of_getElem? hx)
      by_cases x0 : x = 0
      · subst x0
        have HW := Lib.hid (word_ok HR.out hx 0 (by omega))
        have HX := Lib.hid hx
        have hg := heap_lt HC.out
        clear hx
        go_wp2_with fail
        refine HW.out.mono ?_
        rintro e v2 ⟨rfl, ht, hr⟩
        have HRn := Lib.hid hr
        have HCn := Lib.hid (ht.heap HC.out (fun e => by omega))
        have HPn := Lib.hid (ht.heap HP.out (fun e => by omega))
        have HTn := Lib.hid (HT.out.trans ht (fun k h => .inl h))
        clear ht hr HW HC HP HT HR
        go_wp2_with fail
        go_roundw
        case rel => exact ⟨j + 1, by go_num, by omega, by rw [← Nat.add_assoc]; exact HRn, HCn, HPn, HTn, Lib.hid (fun m hm => by rcases Nat.lt_or_ge m j with h | h; exact HZ.out m h; (obtain rfl : m = j := (by omega)); exact HX.out)⟩
        case measure => simp [intOf]; omega
      · have HW := Lib.hid (word_bad HR.out hx 0 (by omega))
        have HX := Lib.hid hx
        have HXN := Lib.hid x0
        clear hx x0
        go_wp2_with fail
        refine HW.out.mono ?_
        rintro e v2 ⟨rfl, ht⟩
        go_wp2
        exact ⟨rfl, .inr ⟨fun hk => HXN.out (by have := hk (4 + j) (by omega) (by omega); rw [HX.out] at this; exact Option.some.inj this), rfl⟩, HT.out.trans ht (fun k h => .inl h)⟩
    · have f0 : decide ((j : Int) < 2) = false := decide_eq_false (by omega)
      obtain rfl : j = 2 := by omega
      have g0 : wr.cell? ⟨w1.heap.size, 0, none⟩ = some (.int .i64 6) := cell_heap HC.out 0
      have q0 : wr.cell? ⟨w.heap.size, 0, none⟩ = some (.int .i64 0) := cell_heap HP.out 0
      have f00 : wr.frozen? ⟨w.heap.size, 0, none⟩ = false := frozen_heap HP.out 0
      have g1 : wr.cell? ⟨w1.heap.size, 1, none⟩ = some (.int .i64 x1) := cell_heap HC.out 1
      have q1 : wr.cell? ⟨w.heap.size, 1, none⟩ = some (.int .i64 0) := cell_heap HP.out 1
      have f1 : wr.frozen? ⟨w.heap.size, 1, none⟩ = false := frozen_heap HP.out 1
      have g2 : wr.cell? ⟨w1.heap.size, 2, none⟩ = some (.int .i64 (x1 + 1)) := cell_heap HC.out 2
      have q2 : wr.cell? ⟨w.heap.size, 2, none⟩ = some (.int .i64 0) := cell_heap HP.out 2
      have f2 : wr.frozen? ⟨w.heap.size, 2, none⟩ = false := frozen_heap HP.out 2
      have g3 : wr.cell? ⟨w1.heap.size, 3, none⟩ = some (.bool (x3 == 1)) := cell_heap HC.out 3
      have q3 : wr.cell? ⟨w.heap.size, 3, none⟩ = some (.bool false) := cell_heap HP.out 3
      have f3 : wr.frozen? ⟨w.heap.size, 3, none⟩ = false := frozen_heap HP.out 3
      have g4 : wr.cell? ⟨w1.heap.size, 4, none⟩ = some (.bool false) := cell_heap HC.out 4
      have q4 : wr.cell? ⟨w.heap.size, 4, none⟩ = some (.bool false) := cell_heap HP.out 4
      have f4 : wr.frozen? ⟨w.heap.size, 4, none⟩ = false := frozen_heap HP.out 4
      have g5 : wr.cell? ⟨w1.heap.size, 5, none⟩ = some (.bool false) := cell_heap HC.out 5
      have q5 : wr.cell? ⟨w.heap.size, 5, none⟩ = some (.bool false) := cell_heap HP.out 5
      have f5 : wr.frozen? ⟨w.heap.size, 5, none⟩ = false := frozen_heap HP.out 5
      have g6 : wr.cell? ⟨w1.heap.size, 6, none⟩ = some (.int .u64 0) := cell_heap HC.out 6
      have q6 : wr.cell? ⟨w.heap.size, 6, none⟩ = some (.int .u64 0) := cell_heap HP.out 6
      have f6 : wr.frozen? ⟨w.heap.size, 6, none⟩ = false := frozen_heap HP.out 6
      have g7 : wr.cell? ⟨w1.heap.size, 7, none⟩ = some (.int .i64 0) := cell_heap HC.out 7
      have q7 : wr.cell? ⟨w.heap.size, 7, none⟩ = some (.int .i64 0) := cell_heap HP.out 7
      have f7 : wr.frozen? ⟨w.heap.size, 7, none⟩ = false := frozen_heap HP.out 7
      have g8 : wr.cell? ⟨w1.heap.size, 8, none⟩ = some (.int .u64 0) := cell_heap HC.out 8
      have q8 : wr.cell? ⟨w.heap.size, 8, none⟩ = some (.int .u64 0) := cell_heap HP.out 8
      have f8 : wr.frozen? ⟨w.heap.size, 8, none⟩ = false := frozen_heap HP.out 8
      have g9 : wr.cell? ⟨w1.heap.size, 9, none⟩ = some (.int .i64 x2) := cell_heap HC.out 9
      have q9 : wr.cell? ⟨w.heap.size, 9, none⟩ = some (.int .i64 0) := cell_heap HP.out 9
      have f9 : wr.frozen? ⟨w.heap.size, 9, none⟩ = false := frozen_heap HP.out 9
      have g10 : wr.cell? ⟨w1.heap.size, 10, none⟩ = some (.int .i64 0) := cell_heap HC.out 10
      have q10 : wr.cell? ⟨w.heap.size, 10, none⟩ = some (.int .i64 0) := cell_heap HP.out 10
      have f10 : wr.frozen? ⟨w.heap.size, 10, none⟩ = false := frozen_heap HP.out 10
      have g11 : wr.cell? ⟨w1.heap.size, 11, none⟩ = some (.int .i64 0) := cell_heap HC.out 11
      have q11 : wr.cell? ⟨w.heap.size, 11, none⟩ = some (.int .i64 0) := cell_heap HP.out 11
      have f11 : wr.frozen? ⟨w.heap.size, 11, none⟩ = false := frozen_heap HP.out 11
      have g12 : wr.cell? ⟨w1.heap.size, 12, none⟩ = some (.int .i64 0) := cell_heap HC.out 12
      have q12 : wr.cell? ⟨w.heap.size, 12, none⟩ = some (.int .i64 0) := cell_heap HP.out 12
      have f12 : wr.frozen? ⟨w.heap.size, 12, none⟩ = false := frozen_heap HP.out 12
      have hg := heap_lt HC.out
      have hTl : Tail [6, x1, x2, x3, x4, x5] 4 := fun k hk1 hk2 => by have := HZ.out (k - 4) (by omega); rwa [show 4 + (k - 4) = k by omega] at this
      have HTL := Lib.hid hTl
      clear hTl HZ
      go_wp2
      refine bodyPost_ret (v := .agg #[.int .i64 6, .int .i64 x1, .int .i64 (x1 + 1), .bool (x3 == 1), .bool false, .bool false, .int .u64 0, .int .i64 0, .int .u64 0, .int .i64 x2, .int .i64 0, .int .i64 0, .int .i64 0]) (by simp [results, Try.results13, go_sem, q0, q1, q2, q3, q4, q5, q6, q7, q8, q9, q10, q11, q12, f00, f1, f2, f3, f4, f5, f6, f7, f8, f9, f10, f11, f12]) rfl ⟨.inl ⟨HTL.out, rfl⟩, ?_⟩
      exact (((((((((((((HT.out.setCell (a := ⟨w.heap.size, 0, none⟩) (.inr (Nat.le_refl _)) _).setCell (a := ⟨w.heap.size, 1, none⟩) (.inr (Nat.le_refl _)) _).setCell (a := ⟨w.heap.size, 2, none⟩) (.inr (Nat.le_refl _)) _).setCell (a := ⟨w.heap.size, 3, none⟩) (.inr (Nat.le_refl _)) _).setCell (a := ⟨w.heap.size, 4, none⟩) (.inr (Nat.le_refl _)) _).setCell (a := ⟨w.heap.size, 5, none⟩) (.inr (Nat.le_refl _)) _).setCell (a := ⟨w.heap.size, 6, none⟩) (.inr (Nat.le_refl _)) _).setCell (a := ⟨w.heap.size, 7, none⟩) (.inr (Nat.le_refl _)) _).setCell (a := ⟨w.heap.size, 8, none⟩) (.inr (Nat.le_refl _)) _).setCell (a := ⟨w.heap.size, 9, none⟩) (.inr (Nat.le_refl _)) _).setCell (a := ⟨w.heap.size, 10, none⟩) (.inr (Nat.le_refl _)) _).setCell (a := ⟨w.heap.size, 11, none⟩) (.inr (Nat.le_refl _)) _).setCell (a := ⟨w.heap.size, 12, none⟩) (.inr (Nat.le_refl _)) _)
set_option maxRecDepth 100000 in
set_option maxHeartbeats 16000000 in
theorem read_7_bad0a (h : RAt w r ab [7, x1, x2, x3, x4, x5] 0) (hpos : Hid (∀ x ∈ [7, x1, x2, x3, x4, x5], 0 ≤ x)) (h1 : 0 ≤ x1) (h2 : 0 ≤ x2) (h3 : 0 ≤ x3) (h4 : 0 ≤ x4) (h5 : 0 ≤ x5) (u1 : x1 < 18446744073709551616) (u2 : x2 < 18446744073709551616) (u3 : x3 < 18446744073709551616) (u4 : x4 < 18446744073709551616) (u5 : x5 < 18446744073709551616) (b0 : 256 ≤ x1) :
    Calls Try.prog 13 #[.pointer (some ⟨r, 0, none⟩)] w fun e w' => e = .panicked badP ∧ Touch (fun b => b = r) w w' := by
  have hz := heap_lt h.rd
  have hza := heap_lt h.arr
  have HC0 := Lib.hid (number_ok (h.below (w' := w.alloc (.cells #[.int .i64 0, .int .i64 0, .int .i64 0, .bool false, .bool false, .bool false, .int .u64 0, .int .i64 0, .int .u64 0, .int .i64 0, .int .i64 0, .int .i64 0, .int .i64 0] 29)) (by go_grown)) (x := 7) rfl (by omega) 17 (by omega) (by omega) (by omega))
  clear h
  go_enter Try.func13, Try.ntmps13
  go_wp2_with fail
  refine HC0.out.mono ?_
  rintro e w1 ⟨rfl, ht1, hr1⟩
  have hp1 := ht1.heap (heap_new w (.cells #[.int .i64 0, .int .i64 0, .int .i64 0, .bool false, .bool false, .bool false, .int .u64 0, .int .i64 0, .int .u64 0, .int .i64 0, .int .i64 0, .int .i64 0, .int .i64 0] 29)) (fun e => by omega)
  have hs1 : w.heap.size < w1.heap.size := heap_lt hp1
  have HT1 : Hid (Touch (fun b => b = r) w (w1.alloc (.cells #[.int .i64 7, .int .i64 0, .int .i64 0, .bool false, .bool false, .bool false, .int .u64 0, .int .i64 0, .int .u64 0, .int .i64 0, .int .i64 0, .int .i64 0, .int .i64 0] 29))) := Lib.hid ((((Touch.refl (fun b => b = r) w).alloc (.cells #[.int .i64 0, .int .i64 0, .int .i64 0, .bool false, .bool false, .bool false, .int .u64 0, .int .i64 0, .int .u64 0, .int .i64 0, .int .i64 0, .int .i64 0, .int .i64 0] 29)).trans ht1 (fun k h => .inl h)).alloc _)
  have HR1 : Hid (RAt (w1.alloc (.cells #[.int .i64 7, .int .i64 0, .int .i64 0, .bool false, .bool false, .bool false, .int .u64 0, .int .i64 0, .int .u64 0, .int .i64 0, .int .i64 0, .int .i64 0, .int .i64 0] 29)) r ab [7, x1, x2, x3, x4, x5] 1) := Lib.hid (hr1.below (by go_grown))
  have HC1 := Lib.hid (heap_new w1 (.cells #[.int .i64 7, .int .i64 0, .int .i64 0, .bool false, .bool false, .bool false, .int .u64 0, .int .i64 0, .int .u64 0, .int .i64 0, .int .i64 0, .int .i64 0, .int .i64 0] 29))
  have HP1 := Lib.hid (heap_old w1 (.cells #[.int .i64 7, .int .i64 0, .int .i64 0, .bool false, .bool false, .bool false, .int .u64 0, .int .i64 0, .int .u64 0, .int .i64 0, .int .i64 0, .int .i64 0, .int .i64 0] 29) _ hp1)
  have hne1 : ¬ w1.heap.size = r := by omega
  have hne2 : ¬ r = w1.heap.size := by omega
  have hne3 : ¬ w.heap.size = w1.heap.size := by omega
  have hne4 : ¬ w1.heap.size = w.heap.size := by omega
  have hne5 : ¬ w.heap.size = r := by omega
  have hne6 : ¬ r = w.heap.size := by omega
  have hp1c : (w1.alloc (.cells #[.int .i64 7, .int .i64 0, .int .i64 0, .bool false, .bool false, .bool false, .int .u64 0, .int .i64 0, .int .u64 0, .int .i64 0, .int .i64 0, .int .i64 0, .int .i64 0] 29)).cell? ⟨r, 0, none⟩ = some (.slice (some ⟨ab, 1, none⟩) 5 5) := cell_heap HR1.out.rd 0
  have hz1 := heap_lt hr1.rd
  have hp1d : w1.cell? ⟨r, 0, none⟩ = some (.slice (some ⟨ab, 1, none⟩) 5 5) := cell_heap hr1.rd 0
  clear hp1 ht1 hr1 HC0 hp1c
  go_wp2_with fail
  refine (number_bad HR1.out (x := x1) rfl 256 (by omega) (by omega) b0).mono ?_
  rintro e w2 ⟨rfl, ht2⟩
  go_wp2
  exact ⟨rfl, rfl, HT1.out.trans ht2 (fun k h => .inl h)⟩
set_option maxRecDepth 100000 in
set_option maxHeartbeats 16000000 in
theorem read_7_bad1a (h : RAt w r ab [7, x1, x2, x3, x4, x5] 0) (hpos : Hid (∀ x ∈ [7, x1, x2, x3, x4, x5], 0 ≤ x)) (h1 : 0 ≤ x1) (h2 : 0 ≤ x2) (h3 : 0 ≤ x3) (h4 : 0 ≤ x4) (h5 : 0 ≤ x5) (u1 : x1 < 18446744073709551616) (u2 : x2 < 18446744073709551616) (u3 : x3 < 18446744073709551616) (u4 : x4 < 18446744073709551616) (u5 : x5 < 18446744073709551616) (b0 : x1 < 256) (b1 : 34359738368 ≤ x2) :
    Calls Try.prog 13 #[.pointer (some ⟨r, 0, none⟩)] w fun e w' => e = .panicked badP ∧ Touch (fun b => b = r) w w' := by
  have hz := heap_lt h.rd
  have hza := heap_lt h.arr
  have HC0 := Lib.hid (number_ok (h.below (w' := w.alloc (.cells #[.int .i64 0, .int .i64 0, .int .i64 0, .bool false, .bool false, .bool false, .int .u64 0, .int .i64 0, .int .u64 0, .int .i64 0, .int .i64 0, .int .i64 0, .int .i64 0] 29)) (by go_grown)) (x := 7) rfl (by omega) 17 (by omega) (by omega) (by omega))
  clear h
  go_enter Try.func13, Try.ntmps13
  go_wp2_with fail
  refine HC0.out.mono ?_
  rintro e w1 ⟨rfl, ht1, hr1⟩
  have hp1 := ht1.heap (heap_new w (.cells #[.int .i64 0, .int .i64 0, .int .i64 0, .bool false, .bool false, .bool false, .int .u64 0, .int .i64 0, .int .u64 0, .int .i64 0, .int .i64 0, .int .i64 0, .int .i64 0] 29)) (fun e => by omega)
  have hs1 : w.heap.size < w1.heap.size := heap_lt hp1
  have HT1 : Hid (Touch (fun b => b = r) w (w1.alloc (.cells #[.int .i64 7, .int .i64 0, .int .i64 0, .bool false, .bool false, .bool false, .int .u64 0, .int .i64 0, .int .u64 0, .int .i64 0, .int .i64 0, .int .i64 0, .int .i64 0] 29))) := Lib.hid ((((Touch.refl (fun b => b = r) w).alloc (.cells #[.int .i64 0, .int .i64 0, .int .i64 0, .bool false, .bool false, .bool false, .int .u64 0, .int .i64 0, .int .u64 0, .int .i64 0, .int .i64 0, .int .i64 0, .int .i64 0] 29)).trans ht1 (fun k h => .inl h)).alloc _)
  have HR1 : Hid (RAt (w1.alloc (.cells #[.int .i64 7, .int .i64 0, .int .i64 0, .bool false, .bool false, .bool false, .int .u64 0, .int .i64 0, .int .u64 0, .int .i64 0, .int .i64 0, .int .i64 0, .int .i64 0] 29)) r ab [7, x1, x2, x3, x4, x5] 1) := Lib.hid (hr1.below (by go_grown))
  have HC1 := Lib.hid (heap_new w1 (.cells #[.int .i64 7, .int .i64 0, .int .i64 0, .bool false, .bool false, .bool false, .int .u64 0, .int .i64 0, .int .u64 0, .int .i64 0, .int .i64 0, .int .i64 0, .int .i64 0] 29))
  have HP1 := Lib.hid (heap_old w1 (.cells #[.int .i64 7, .int .i64 0, .int .i64 0, .bool false, .bool false, .bool false, .int .u64 0, .int .i64 0, .int .u64 0, .int .i64 0, .int .i64 0, .int .i64 0, .int .i64 0] 29) _ hp1)
  have hne1 : ¬ w1.heap.size = r := by omega
  have hne2 : ¬ r = w1.heap.size := by omega
  have hne3 : ¬ w.heap.size = w1.heap.size := by omega
  have hne4 : ¬ w1.heap.size = w.heap.size := by omega
  have hne5 : ¬ w.heap.size = r := by omega
  have hne6 : ¬ r = w.heap.size := by omega
  have hp1c : (w1.alloc (.cells #[.int .i64 7, .int .i64 0, .int .i64 0, .bool false, .bool false, .bool false, .int .u64 0, .int .i64 0, .int .u64 0, .int .i64 0, .int .i64 0, .int .i64 0, .int .i64 0] 29)).cell? ⟨r, 0, none⟩ = some (.slice (some ⟨ab, 1, none⟩) 5 5) := cell_heap HR1.out.rd 0
  have hz1 := heap_lt hr1.rd
  have hp1d : w1.cell? ⟨r, 0, none⟩ = some (.slice (some ⟨ab, 1, none⟩) 5 5) := cell_heap hr1.rd 0
  clear hp1 ht1 hr1 HC0 hp1c
  go_wp2_with fail
  refine (number_ok HR1.out (x := x1) rfl h1 256 (by omega) (by omega) b0).mono ?_
  rintro e w2 ⟨rfl, ht2, hr2⟩
  have HR2 : Hid (RAt w2 r ab [7, x1, x2, x3, x4, x5] 2) := Lib.hid hr2
  have HC2 := Lib.hid (ht2.heap HC1.out (fun e => by omega))
  have HP2 := Lib.hid (ht2.heap HP1.out (fun e => by omega))
  have HT2 := Lib.hid (HT1.out.trans ht2 (fun k h => .inl h))
  have hl2 : w1.heap.size < w2.heap.size := heap_lt HC2.out
  have hq2 : w2.cell? ⟨r, 0, none⟩ = some (.slice (some ⟨ab, 2, none⟩) 4 4) := cell_heap HR2.out.rd 0
  clear ht2 hr2
  go_wp2_with fail
  refine (one_bad HR2.out (x := x2) rfl b1).mono ?_
  rintro e w3 ⟨rfl, ht3⟩
  go_wp2
  exact ⟨rfl, rfl, HT2.out.trans ht3 (fun k h => .inl h)⟩
set_option maxRecDepth 100000 in
set_option maxHeartbeats 16000000 in
theorem read_7_ok (h : RAt w r ab [7, x1, x2, x3, x4, x5] 0) (hpos : Hid (∀ x ∈ [7, x1, x2, x3, x4, x5], 0 ≤ x)) (h1 : 0 ≤ x1) (h2 : 0 ≤ x2) (h3 : 0 ≤ x3) (h4 : 0 ≤ x4) (h5 : 0 ≤ x5) (u1 : x1 < 18446744073709551616) (u2 : x2 < 18446744073709551616) (u3 : x3 < 18446744073709551616) (u4 : x4 < 18446744073709551616) (u5 : x5 < 18446744073709551616) (b0 : x1 < 256) (b1 : x2 < 34359738368) :
    Calls Try.prog 13 #[.pointer (some ⟨r, 0, none⟩)] w fun e w' => ROut (Tail [7, x1, x2, x3, x4, x5] 3) (.agg #[.int .i64 7, .int .i64 x2, .int .i64 (x2 + 1), .bool false, .bool false, .bool false, .int .u64 0, .int .i64 0, .int .u64 0, .int .i64 x1, .int .i64 0, .int .i64 0, .int .i64 0]) e ∧ Touch (fun b => b = r) w w' := by
  have hz := heap_lt h.rd
  have hza := heap_lt h.arr
  have HC0 := Lib.hid (number_ok (h.below (w' := w.alloc (.cells #[.int .i64 0, .int .i64 0, .int .i64 0, .bool false, .bool false, .bool false, .int .u64 0, .int .i64 0, .int .u64 0, .int .i64 0, .int .i64 0, .int .i64 0, .int .i64 0] 29)) (by go_grown)) (x := 7) rfl (by omega) 17 (by omega) (by omega) (by omega))
  clear h
  go_enter Try.func13, Try.ntmps13
  go_wp2_with fail
  refine HC0.out.mono ?_
  rintro e w1 ⟨rfl, ht1, hr1⟩
  have hp1 := ht1.heap (heap_new w (.cells #[.int .i64 0, .int .i64 0, .int .i64 0, .bool false, .bool false, .bool false, .int .u64 0, .int .i64 0, .int .u64 0, .int .i64 0, .int .i64 0, .int .i64 0, .int .i64 0] 29)) (fun e => by omega)
  have hs1 : w.heap.size < w1.heap.size := heap_lt hp1
  have HT1 : Hid (Touch (fun b => b = r) w (w1.alloc (.cells #[.int .i64 7, .int .i64 0, .int .i64 0, .bool false, .bool false, .bool false, .int .u64 0, .int .i64 0, .int .u64 0, .int .i64 0, .int .i64 0, .int .i64 0, .int .i64 0] 29))) := Lib.hid ((((Touch.refl (fun b => b = r) w).alloc (.cells #[.int .i64 0, .int .i64 0, .int .i64 0, .bool false, .bool false, .bool false, .int .u64 0, .int .i64 0, .int .u64 0, .int .i64 0, .int .i64 0, .int .i64 0, .int .i64 0] 29)).trans ht1 (fun k h => .inl h)).alloc _)
  have HR1 : Hid (RAt (w1.alloc (.cells #[.int .i64 7, .int .i64 0, .int .i64 0, .bool false, .bool false, .bool false, .int .u64 0, .int .i64 0, .int .u64 0, .int .i64 0, .int .i64 0, .int .i64 0, .int .i64 0] 29)) r ab [7, x1, x2, x3, x4, x5] 1) := Lib.hid (hr1.below (by go_grown))
  have HC1 := Lib.hid (heap_new w1 (.cells #[.int .i64 7, .int .i64 0, .int .i64 0, .bool false, .bool false, .bool false, .int .u64 0, .int .i64 0, .int .u64 0, .int .i64 0, .int .i64 0, .int .i64 0, .int .i64 0] 29))
  have HP1 := Lib.hid (heap_old w1 (.cells #[.int .i64 7, .int .i64 0, .int .i64 0, .bool false, .bool false, .bool false, .int .u64 0, .int .i64 0, .int .u64 0, .int .i64 0, .int .i64 0, .int .i64 0, .int .i64 0] 29) _ hp1)
  have hne1 : ¬ w1.heap.size = r := by omega
  have hne2 : ¬ r = w1.heap.size := by omega
  have hne3 : ¬ w.heap.size = w1.heap.size := by omega
  have hne4 : ¬ w1.heap.size = w.heap.size := by omega
  have hne5 : ¬ w.heap.size = r := by omega
  have hne6 : ¬ r = w.heap.size := by omega
  have hp1c : (w1.alloc (.cells #[.int .i64 7, .int .i64 0, .int .i64 0, .bool false, .bool false, .bool false, .int .u64 0, .int .i64 0, .int .u64 0, .int .i64 0, .int .i64 0, .int .i64 0, .int .i64 0] 29)).cell? ⟨r, 0, none⟩ = some (.slice (some ⟨ab, 1, none⟩) 5 5) := cell_heap HR1.out.rd 0
  have hz1 := heap_lt hr1.rd
  have hp1d : w1.cell? ⟨r, 0, none⟩ = some (.slice (some ⟨ab, 1, none⟩) 5 5) := cell_heap hr1.rd 0
  clear hp1 ht1 hr1 HC0 hp1c
  go_wp2_with fail
  refine (number_ok HR1.out (x := x1) rfl h1 256 (by omega) (by omega) b0).mono ?_
  rintro e w2 ⟨rfl, ht2, hr2⟩
  have HR2 : Hid (RAt w2 r ab [7, x1, x2, x3, x4, x5] 2) := Lib.hid hr2
  have HC2 := Lib.hid (ht2.heap HC1.out (fun e => by omega))
  have HP2 := Lib.hid (ht2.heap HP1.out (fun e => by omega))
  have HT2 := Lib.hid (HT1.out.trans ht2 (fun k h => .inl h))
  have hl2 : w1.heap.size < w2.heap.size := heap_lt HC2.out
  have hq2 : w2.cell? ⟨r, 0, none⟩ = some (.slice (some ⟨ab, 2, none⟩) 4 4) := cell_heap HR2.out.rd 0
  clear ht2 hr2
  go_wp2_with fail
  refine (one_ok HR2.out (x := x2) rfl h2 b1).mono ?_
  rintro e w3 ⟨rfl, ht3, hr3⟩
  have HR3 : Hid (RAt w3 r ab [7, x1, x2, x3, x4, x5] 3) := Lib.hid hr3
  have HC3 := Lib.hid (ht3.heap HC2.out (fun e => by omega))
  have HP3 := Lib.hid (ht3.heap HP2.out (fun e => by omega))
  have HT3 := Lib.hid (HT2.out.trans ht3 (fun k h => .inl h))
  have hl3 : w1.heap.size < w3.heap.size := heap_lt HC3.out
  have hq3 : w3.cell? ⟨r, 0, none⟩ = some (.slice (some ⟨ab, 3, none⟩) 3 3) := cell_heap HR3.out.rd 0
  clear ht3 hr3
  have g3_9 : w3.cell? ⟨w1.heap.size, 9, none⟩ = some (.int .i64 0) := cell_heap HC3.out 9
  have f3_9 : w3.frozen? ⟨w1.heap.size, 9, none⟩ = false := frozen_heap HC3.out 9
  have g3_1 : w3.cell? ⟨w1.heap.size, 1, none⟩ = some (.int .i64 0) := cell_heap HC3.out 1
  have f3_1 : w3.frozen? ⟨w1.heap.size, 1, none⟩ = false := frozen_heap HC3.out 1
  have g3_2 : w3.cell? ⟨w1.heap.size, 2, none⟩ = some (.int .i64 0) := cell_heap HC3.out 2
  have f3_2 : w3.frozen? ⟨w1.heap.size, 2, none⟩ = false := frozen_heap HC3.out 2
  go_wp2_with fail
  have htS3 : Touch (fun b => b = w1.heap.size) w3 (((w3.setCell ⟨w1.heap.size, 9, none⟩ (.int .i64 x1)).setCell ⟨w1.heap.size, 1, none⟩ (.int .i64 x2)).setCell ⟨w1.heap.size, 2, none⟩ (.int .i64 (x2 + 1))) := ((((Touch.refl (fun b => b = w1.heap.size) w3).setCell (a := ⟨w1.heap.size, 9, none⟩) (.inl rfl) (.int .i64 x1)).setCell (a := ⟨w1.heap.size, 1, none⟩) (.inl rfl) (.int .i64 x2)).setCell (a := ⟨w1.heap.size, 2, none⟩) (.inl rfl) (.int .i64 (x2 + 1)))
  have HC4 : Hid ((((w3.setCell ⟨w1.heap.size, 9, none⟩ (.int .i64 x1)).setCell ⟨w1.heap.size, 1, none⟩ (.int .i64 x2)).setCell ⟨w1.heap.size, 2, none⟩ (.int .i64 (x2 + 1))).heap[w1.heap.size]? = some (.cells #[.int .i64 7, .int .i64 x2, .int .i64 (x2 + 1), .bool false, .bool false, .bool false, .int .u64 0, .int .i64 0, .int .u64 0, .int .i64 x1, .int .i64 0, .int .i64 0, .int .i64 0] 29 (0, 0))) := Lib.hid (heap_set (heap_set (heap_set HC3.out 9 (.int .i64 x1)) 1 (.int .i64 x2)) 2 (.int .i64 (x2 + 1)))
  have HR4 := Lib.hid (HR3.out.touch htS3 (fun e => by omega) (fun e => by omega))
  have HP4 := Lib.hid (htS3.heap HP3.out (fun e => by omega))
  have HT4 := Lib.hid (HT3.out.trans htS3 (fun k e => .inr (by omega)))
  clear htS3
  clear g3_9 f3_9 g3_1 f3_1 g3_2 f3_2
--LOOP
  go_loopw [119] (fun i wr => ∃ j : Nat, i = .int .i64 j ∧ j ≤ 3 ∧ Hid (RAt wr r ab [7, x1, x2, x3, x4, x5] (3 + j)) ∧ Hid (wr.heap[w1.heap.size]? = some (.cells #[.int .i64 7, .int .i64 x2, .int .i64 (x2 + 1), .bool false, .bool false, .bool false, .int .u64 0, .int .i64 0, .int .u64 0, .int .i64 x1, .int .i64 0, .int .i64 0, .int .i64 0] 29 (0, 0))) ∧ Hid (wr.heap[w.heap.size]? = some (.cells #[.int .i64 0, .int .i64 0, .int .i64 0, .bool false, .bool false, .bool false, .int .u64 0, .int .i64 0, .int .u64 0, .int .i64 0, .int .i64 0, .int .i64 0, .int .i64 0] 29 (0, 0))) ∧ Hid (Touch (fun b => b = r) w wr) ∧ Hid (∀ m, m < j → [7, x1, x2, x3, x4, x5][3 + m]? = some 0)) (fun i _ => 3 - (intOf i).toNat)
  case atStart => exact ⟨0, rfl, by omega, HR4, HC4, HP4, HT4, Lib.hid (fun m hm => by omega)⟩
  case round =>
    clear HR1 HC1 HP1 HT1 HR2 HC2 HP2 HT2 HR3 HC3 HP3 HT3 HR4 HC4 HP4 HT4
    obtain ⟨j, rfl, hj, HR, HC, HP, HT, HZ⟩ := hrel
    by_cases hlt : j < 3
    · have f0 : decide ((j : Int) < 3) = true := decide_eq_true (by omega)
      obtain ⟨x, hx⟩ := all_get HR.out.len (k := 3 + j) (by omega)
      have hx0 : 0 ≤ x := hpos.out x (List.mem_of_getElem? hx)
      by_cases x0 : x = 0
      · subst x0
        have HW := Lib.hid (word_ok HR.out hx 0 (by omega))
        have HX := Lib.hid hx
        have hg := heap_lt HC.out
        clear hx
        go_wp2_with fail
        refine HW.out.mono ?_
        rintro e v2 ⟨rfl, ht, hr⟩
        have HRn := Lib.hid hr
        have HCn := Lib.hid (ht.heap HC.out (fun e => by omega))
        have HPn := Lib.hid (ht.heap HP.out (fun e => by omega))
        have HTn := Lib.hid (HT.out.trans ht (fun k h => .inl h))
        clear ht hr HW HC HP HT HR
        go_wp2_with fail
        go_roundw
        case rel => exact ⟨j + 1, by go_num, by omega, by rw [← Nat.add_assoc]; exact HRn, HCn, HPn, HTn, Lib.hid (fun m hm => by rcases Nat.lt_or_ge m j with h | h; exact HZ.out m h; (obtain rfl : m = j := (by omega)); exact HX.out)⟩
        case measure => simp [intOf]; omega
      · have HW := Lib.hid (word_bad HR.out hx 0 (by omega))
        have HX := Lib.hid hx
        have HXN := Lib.hid x0
        clear hx x0
        go_wp2_with fail
        refine HW.out.mono ?_
        rintro e v2 ⟨rfl, ht⟩
        go_wp2
        exact ⟨rfl, .inr ⟨fun hk => HXN.out (by have := hk (3 + j) (by omega) (by omega); rw [HX.out] at this; exact Option.some.inj this), rfl⟩, HT.out.trans ht (fun k h => .inl h)⟩
    · have f0 : decide ((j : Int) < 3) = false := decide_eq_false (by omega)
      obtain rfl : j = 3 := by omega
      have g0 : wr.cell? ⟨w1.heap.size, 0, none⟩ = some (.int .i64 7) := cell_heap HC.out 0
      have q0 : wr.cell? ⟨w.heap.size, 0, none⟩ = some (.int .i64 0) := cell_heap HP.out 0
      have f00 : wr.frozen? ⟨w.heap.size, 0, none⟩ = false := frozen_heap HP.out 0
      have g1 : wr.cell? ⟨w1.heap.size, 1, none⟩ = some (.int .i64 x2) := cell_heap HC.out 1
      have q1 : wr.cell? ⟨w.heap.size, 1, none⟩ = some (.int .i64 0) := cell_heap HP.out 1
      have f1 : wr.frozen? ⟨w.heap.size, 1, none⟩ = false := frozen_heap HP.out 1
      have g2 : wr.cell? ⟨w1.heap.size, 2, none⟩ = some (.int .i64 (x2 + 1)) := cell_heap HC.out 2
      have q2 : wr.cell? ⟨w.heap.size, 2, none⟩ = some (.int .i64 0) := cell_heap HP.out 2
      have f2 : wr.frozen? ⟨w.heap.size, 2, none⟩ = false := frozen_heap HP.out 2
      have g3 : wr.cell? ⟨w1.heap.size, 3, none⟩ = some (.bool false) := cell_heap HC.out 3
      have q3 : wr.cell? ⟨w.heap.size, 3, none⟩ = some (.bool false) := cell_heap HP.out 3
      have f3 : wr.frozen? ⟨w.heap.size, 3, none⟩ = false := frozen_heap HP.out 3
      have g4 : wr.cell? ⟨w1.heap.size, 4, none⟩ = some (.bool false) := cell_heap HC.out 4
      have q4 : wr.cell? ⟨w.heap.size, 4, none⟩ = some (.bool false) := cell_heap HP.out 4
      have f4 : wr.frozen? ⟨w.heap.size, 4, none⟩ = false := frozen_heap HP.out 4
      have g5 : wr.cell? ⟨w1.heap.size, 5, none⟩ = some (.bool false) := cell_heap HC.out 5
      have q5 : wr.cell? ⟨w.heap.size, 5, none⟩ = some (.bool false) := cell_heap HP.out 5
      have f5 : wr.frozen? ⟨w.heap.size, 5, none⟩ = false := frozen_heap HP.out 5
      have g6 : wr.cell? ⟨w1.heap.size, 6, none⟩ = some (.int .u64 0) := cell_heap HC.out 6
      have q6 : wr.cell? ⟨w.heap.size, 6, none⟩ = some (.int .u64 0) := cell_heap HP.out 6
      have f6 : wr.frozen? ⟨w.heap.size, 6, none⟩ = false := frozen_heap HP.out 6
      have g7 : wr.cell? ⟨w1.heap.size, 7, none⟩ = some (.int .i64 0) := cell_heap HC.out 7
      have q7 : wr.cell? ⟨w.heap.size, 7, none⟩ = some (.int .i64 0) := cell_heap HP.out 7
      have f7 : wr.frozen? ⟨w.heap.size, 7, none⟩ = false := frozen_heap HP.out 7
      have g8 : wr.cell? ⟨w1.heap.size, 8, none⟩ = some (.int .u64 0) := cell_heap HC.out 8
      have q8 : wr.cell? ⟨w.heap.size, 8, none⟩ = some (.int .u64 0) := cell_heap HP.out 8
      have f8 : wr.frozen? ⟨w.heap.size, 8, none⟩ = false := frozen_heap HP.out 8
      have g9 : wr.cell? ⟨w1.heap.size, 9, none⟩ = some (.int .i64 x1) := cell_heap HC.out 9
      have q9 : wr.cell? ⟨w.heap.size, 9, none⟩ = some (.int .i64 0) := cell_heap HP.out 9
      have f9 : wr.frozen? ⟨w.heap.size, 9, none⟩ = false := frozen_heap HP.out 9
      have g10 : wr.cell? ⟨w1.heap.size, 10, none⟩ = some (.int .i64 0) := cell_heap HC.out 10
      have q10 : wr.cell? ⟨w.heap.size, 10, none⟩ = some (.int .i64 0) := cell_heap HP.out 10
      have f10 : wr.frozen? ⟨w.heap.size, 10, none⟩ = false := frozen_heap HP.out 10
      have g11 : wr.cell? ⟨w1.heap.size, 11, none⟩ = some (.int .i64 0) := cell_heap HC.out 11
      have q11 : wr.cell? ⟨w.heap.size, 11, none⟩ = some (.int .i64 0) := cell_heap HP.out 11
      have f11 : wr.frozen? ⟨w.heap.size, 11, none⟩ = false := frozen_heap HP.out 11
      have g12 : wr.cell? ⟨w1.heap.size, 12, none⟩ = some (.int .i64 0) := cell_heap HC.out 12
      have q12 : wr.cell? ⟨w.heap.size, 12, none⟩ = some (.int .i64 0) := cell_heap HP.out 12
      have f12 : wr.frozen? ⟨w.heap.size, 12, none⟩ = false := frozen_heap HP.out 12
      have hg := heap_lt HC.out
      have hTl : Tail [7, x1, x2, x3, x4, x5] 3 := fun k hk1 hk2 => by have := HZ.out (k - 3) (by omega); rwa [show 3 + (k - 3) = k by omega] at this
      have HTL := Lib.hid hTl
      clear hTl HZ
      go_wp2
      refine bodyPost_ret (v := .agg #[.int .i64 7, .int .i64 x2, .int .i64 (x2 + 1), .bool false, .bool false, .bool false, .int .u64 0, .int .i64 0, .int .u64 0, .int .i64 x1, .int .i64 0, .int .i64 0, .int .i64 0]) (by simp [results, Try.results13, go_sem, q0, q1, q2, q3, q4, q5, q6, q7, q8, q9, q10, q11, q12, f00, f1, f2, f3, f4, f5, f6, f7, f8, f9, f10, f11, f12]) rfl ⟨.inl ⟨HTL.out, rfl⟩, ?_⟩
      exact (((((((((((((HT.out.setCell (a := ⟨w.heap.size, 0, none⟩) (.inr (Nat.le_refl _)) _).setCell (a := ⟨w.heap.size, 1, none⟩) (.inr (Nat.le_refl _)) _).setCell (a := ⟨w.heap.size, 2, none⟩) (.inr (Nat.le_refl _)) _).setCell (a := ⟨w.heap.size, 3, none⟩) (.inr (Nat.le_refl _)) _).setCell (a := ⟨w.heap.size, 4, none⟩) (.inr (Nat.le_refl _)) _).setCell (a := ⟨w.heap.size, 5, none⟩) (.inr (Nat.le_refl _)) _).setCell (a := ⟨w.heap.size, 6, none⟩) (.inr (Nat.le_refl _)) _).setCell (a := ⟨w.heap.size, 7, none⟩) (.inr (Nat.le_refl _)) _).setCell (a := ⟨w.heap.size, 8, none⟩) (.inr (Nat.le_refl _)) _).setCell (a := ⟨w.heap.size, 9, none⟩) (.inr (Nat.le_refl _)) _).setCell (a := ⟨w.heap.size, 10, none⟩) (.inr (Nat.le_refl _)) _).setCell (a := ⟨w.heap.size, 11, none⟩) (.inr (Nat.le_refl _)) _).setCell (a := ⟨w.heap.size, 12, none⟩) (.inr (Nat.le_refl _)) _)
end
end Go.Proofs.Ytbbohjmkippigaa
