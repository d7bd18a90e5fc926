/- The document's Read (layer 15), the calls number 6, 7, 8. PRINTED by gen/callref.py. No condition but that the words are numbers of 64 bits. -/
import Derived.Test.YtcnmhmbdbadbmaaCallQ
import Derived.Deep.DeepCutAuto
import Derived.Laws.Rows
import Derived.Laws.Tables
namespace Go.Proofs.Ytcnmhmbdbadbmaa
open Go.ChangeShapes Go.WideShapes Go.ChangeAt Go.RowKit
set_option linter.unusedVariables false
set_option linter.unusedSimpArgs false
set_option maxRecDepth 100000 in
set_option maxHeartbeats 8000000 in
theorem ref_6_tail {x1 x2 x3 x4 x5 : Int} (h1 : 0 ≤ x1) (u1 : x1 < 18446744073709551616) (h2 : 0 ≤ x2) (u2 : x2 < 18446744073709551616) (h3 : 0 ≤ x3) (u3 : x3 < 18446744073709551616) (h4 : 0 ≤ x4) (u4 : x4 < 18446744073709551616) (h5 : 0 ≤ x5) (u5 : x5 < 18446744073709551616) (b0 : ¬ Tail [6, x1, x2, x3, x4, x5] 4) (w : World) :
    Calls Try.prog 9 #[.agg #[.int .u64 6, .int .u64 x1, .int .u64 x2, .int .u64 x3, .int .u64 x4, .int .u64 x5]] w fun e w' => e = .returned (.tuple #[.agg #[.int .i64 0, .int .i64 0, .int .i64 0, .bool false, .bool false, .bool false, .int .u64 0, .int .i64 0, .int .u64 0, .int .i64 0, .int .i64 0, .int .i64 0, .int .i64 0], .bool false]) ∧ Below w.heap.size w w' := by
  have HT := Lib.hid b0
  clear b0
  have HU : Hid (∀ W : World, Calls Try.prog 12 #[.int .u64 6] W fun e w' => e = .returned (.int .i64 3) ∧ Below W.heap.size W w') := Lib.hid (fun W => (used_any 6 (by omega) W).mono fun e w' ⟨a, b⟩ => ⟨a, b ▸ Below.refl _ _⟩)
  have hB0 : Below w.heap.size w ((w.alloc (.cells #[.int .u64 6, .int .u64 x1, .int .u64 x2, .int .u64 x3, .int .u64 x4, .int .u64 x5] 23)).alloc (.cells #[.int .i64 0, .int .i64 0, .int .i64 0, .bool false, .bool false, .bool false, .int .u64 0, .int .i64 0, .int .u64 0, .int .i64 0, .int .i64 0, .int .i64 0, .int .i64 0] 35)) := by go_grown
  have hw0 := heap_old (w.alloc (.cells #[.int .u64 6, .int .u64 x1, .int .u64 x2, .int .u64 x3, .int .u64 x4, .int .u64 x5] 23)) (.cells #[.int .i64 0, .int .i64 0, .int .i64 0, .bool false, .bool false, .bool false, .int .u64 0, .int .i64 0, .int .u64 0, .int .i64 0, .int .i64 0, .int .i64 0, .int .i64 0] 35) _ (heap_new w (.cells #[.int .u64 6, .int .u64 x1, .int .u64 x2, .int .u64 x3, .int .u64 x4, .int .u64 x5] 23))
  have hq0 := heap_new (w.alloc (.cells #[.int .u64 6, .int .u64 x1, .int .u64 x2, .int .u64 x3, .int .u64 x4, .int .u64 x5] 23)) (.cells #[.int .i64 0, .int .i64 0, .int .i64 0, .bool false, .bool false, .bool false, .int .u64 0, .int .i64 0, .int .u64 0, .int .i64 0, .int .i64 0, .int .i64 0, .int .i64 0] 35)
  rw [World.size_alloc] at hq0
  go_enter Try.func9, Try.ntmps9
  go_wp2_with fail
  refine (HU.out _).mono ?_
  rintro e v1 ⟨rfl, hb1⟩
  have hw1 := heap_below hb1 hw0
  have hq1 := heap_below hb1 hq0
  have hB1 := b_then hB0 hb1
  have hz1 := heap_lt hw1
  have hz2 := heap_lt hq1
  have c0 : v1.cell? ⟨w.heap.size, 0, none⟩ = some (.int .u64 6) := cell_heap hw1 0
  have c1 : v1.cell? ⟨w.heap.size, 1, none⟩ = some (.int .u64 x1) := cell_heap hw1 1
  have c2 : v1.cell? ⟨w.heap.size, 2, none⟩ = some (.int .u64 x2) := cell_heap hw1 2
  have c3 : v1.cell? ⟨w.heap.size, 3, none⟩ = some (.int .u64 x3) := cell_heap hw1 3
  have c4 : v1.cell? ⟨w.heap.size, 4, none⟩ = some (.int .u64 x4) := cell_heap hw1 4
  have c5 : v1.cell? ⟨w.heap.size, 5, none⟩ = some (.int .u64 x5) := cell_heap hw1 5
  have q0 : v1.cell? ⟨w.heap.size + 1, 0, none⟩ = some (.int .i64 0) := cell_heap hq1 0
  have f0 : v1.frozen? ⟨w.heap.size + 1, 0, none⟩ = false := frozen_heap hq1 0
  have q1 : v1.cell? ⟨w.heap.size + 1, 1, none⟩ = some (.int .i64 0) := cell_heap hq1 1
  have f1 : v1.frozen? ⟨w.heap.size + 1, 1, none⟩ = false := frozen_heap hq1 1
  have q2 : v1.cell? ⟨w.heap.size + 1, 2, none⟩ = some (.int .i64 0) := cell_heap hq1 2
  have f2 : v1.frozen? ⟨w.heap.size + 1, 2, none⟩ = false := frozen_heap hq1 2
  have q3 : v1.cell? ⟨w.heap.size + 1, 3, none⟩ = some (.bool false) := cell_heap hq1 3
  have f3 : v1.frozen? ⟨w.heap.size + 1, 3, none⟩ = false := frozen_heap hq1 3
  have q4 : v1.cell? ⟨w.heap.size + 1, 4, none⟩ = some (.bool false) := cell_heap hq1 4
  have f4 : v1.frozen? ⟨w.heap.size + 1, 4, none⟩ = false := frozen_heap hq1 4
  have q5 : v1.cell? ⟨w.heap.size + 1, 5, none⟩ = some (.bool false) := cell_heap hq1 5
  have f5 : v1.frozen? ⟨w.heap.size + 1, 5, none⟩ = false := frozen_heap hq1 5
  have q6 : v1.cell? ⟨w.heap.size + 1, 6, none⟩ = some (.int .u64 0) := cell_heap hq1 6
  have f6 : v1.frozen? ⟨w.heap.size + 1, 6, none⟩ = false := frozen_heap hq1 6
  have q7 : v1.cell? ⟨w.heap.size + 1, 7, none⟩ = some (.int .i64 0) := cell_heap hq1 7
  have f7 : v1.frozen? ⟨w.heap.size + 1, 7, none⟩ = false := frozen_heap hq1 7
  have q8 : v1.cell? ⟨w.heap.size + 1, 8, none⟩ = some (.int .u64 0) := cell_heap hq1 8
  have f8 : v1.frozen? ⟨w.heap.size + 1, 8, none⟩ = false := frozen_heap hq1 8
  have q9 : v1.cell? ⟨w.heap.size + 1, 9, none⟩ = some (.int .i64 0) := cell_heap hq1 9
  have f9 : v1.frozen? ⟨w.heap.size + 1, 9, none⟩ = false := frozen_heap hq1 9
  have q10 : v1.cell? ⟨w.heap.size + 1, 10, none⟩ = some (.int .i64 0) := cell_heap hq1 10
  have f10 : v1.frozen? ⟨w.heap.size + 1, 10, none⟩ = false := frozen_heap hq1 10
  have q11 : v1.cell? ⟨w.heap.size + 1, 11, none⟩ = some (.int .i64 0) := cell_heap hq1 11
  have f11 : v1.frozen? ⟨w.heap.size + 1, 11, none⟩ = false := frozen_heap hq1 11
  have q12 : v1.cell? ⟨w.heap.size + 1, 12, none⟩ = some (.int .i64 0) := cell_heap hq1 12
  have f12 : v1.frozen? ⟨w.heap.size + 1, 12, none⟩ = false := frozen_heap hq1 12
  have HW := Lib.hid hw1
  have HQ := Lib.hid hq1
  clear hw1 hw0 hq0 hb1 hB0 hq1 HU c0 c1 c2 c3 c4 c5
  go_wp2_with fail
  go_loop [5] (fun i => ∃ j : Nat, i = .int .i64 j ∧ 4 ≤ j ∧ j ≤ 6 ∧ Hid (∀ k, 4 ≤ k → k < j → [6, x1, x2, x3, x4, x5][k]? = some 0)) (fun i => (6 - intOf i).toNat)
  case atStart => exact ⟨4, rfl, by omega, by omega, Lib.hid (fun k h1 h2 => by omega)⟩
  case round =>
    obtain ⟨j, rfl, hj, hj6, HZ⟩ := hrel
    by_cases hlt : j < 6
    · have d0 : decide ((j : Int) < 6) = true := decide_eq_true (by omega)
      obtain ⟨x, hx⟩ := all_get (ws := [6, x1, x2, x3, x4, x5]) (n := 6) rfl hlt
      have hc : v1.cell? ⟨w.heap.size, j, none⟩ = some (.int .u64 x) := by
        have hj5 : j = 4 ∨ j = 5 := by omega
        rcases hj5 with rfl | rfl <;> (rw [cell_heap HW.out]; simp at hx; simp [hx])
      have HX := Lib.hid hx
      clear hx
      by_cases x0 : x = 0
      · subst x0
        go_wp2_with fail
        go_round
        case rel => exact ⟨j + 1, by go_num, by omega, by omega, Lib.hid (fun k h1 h2 => by rcases Nat.lt_or_ge k j with h | h; exact HZ.out k h1 h; (obtain rfl : k = j := (by omega)); exact HX.out)⟩
        case measure => simp [intOf]; omega
      · have e0 : (x == 0) = false := beq_false_of_ne x0
        have e1 : (x != 0) = true := by rw [bne, e0]; rfl
        clear x0 HX
        have HALL : Hid ((#[.int .i64 0, .int .i64 0, .int .i64 0, .bool false, .bool false, .bool false, .int .u64 0, .int .i64 0, .int .u64 0, .int .i64 0, .int .i64 0, .int .i64 0, .int .i64 0] : Array Value).all (·.oneCell') = true) := Lib.hid (by simp [Value.oneCell'])
        obtain ⟨fs, hfs⟩ := underR
        have HFS := Lib.hid hfs
        clear hfs
        go_wp2_with (first | (refine wpList_store_row rfl 35 (.tmp 2) (.tmp 24) rfl (w.heap.size + 1) #[.int .i64 0, .int .i64 0, .int .i64 0, .bool false, .bool false, .bool false, .int .u64 0, .int .i64 0, .int .u64 0, .int .i64 0, .int .i64 0, .int .i64 0, .int .i64 0] rfl rfl 35 #[.int .i64 0, .int .i64 0, .int .i64 0, .bool false, .bool false, .bool false, .int .u64 0, .int .i64 0, .int .u64 0, .int .i64 0, .int .i64 0, .int .i64 0, .int .i64 0] HQ.out infoR rfl HALL.out ?_))
        refine bodyPost_ret (results_cell_tmp (p := 2) (q := 3) rfl _ _ (w.heap.size + 1) 35 #[.int .i64 0, .int .i64 0, .int .i64 0, .bool false, .bool false, .bool false, .int .u64 0, .int .i64 0, .int .u64 0, .int .i64 0, .int .i64 0, .int .i64 0, .int .i64 0] (0, 0) fs (.bool false) rfl rfl (setRow_heap _ _ _ _ _ _ HQ.out) HFS.out infoR) rfl ⟨rfl, below_row hB1 (by omega) _⟩
    · exact absurd (fun k h1 h2 => HZ.out k h1 (by omega)) HT.out
set_option maxRecDepth 100000 in
set_option maxHeartbeats 8000000 in
theorem ref_6_bad0 {x1 x2 x3 : Int} (h1 : 0 ≤ x1) (u1 : x1 < 18446744073709551616) (h2 : 0 ≤ x2) (u2 : x2 < 18446744073709551616) (h3 : 0 ≤ x3) (u3 : x3 < 18446744073709551616) (b0 : ¬ (x1 < 34359738368)) (w : World) :
    Calls Try.prog 9 #[.agg #[.int .u64 6, .int .u64 x1, .int .u64 x2, .int .u64 x3, .int .u64 0, .int .u64 0]] w fun e w' => e = .returned (.tuple #[.agg #[.int .i64 0, .int .i64 0, .int .i64 0, .bool false, .bool false, .bool false, .int .u64 0, .int .i64 0, .int .u64 0, .int .i64 0, .int .i64 0, .int .i64 0, .int .i64 0], .bool false]) ∧ Below w.heap.size w w' := by
  have d0 : decide (x1 < 34359738368) = false := decide_eq_false b0
  clear b0
  have HU : Hid (∀ W : World, Calls Try.prog 12 #[.int .u64 6] W fun e w' => e = .returned (.int .i64 3) ∧ Below W.heap.size W w') := Lib.hid (fun W => (used_any 6 (by omega) W).mono fun e w' ⟨a, b⟩ => ⟨a, b ▸ Below.refl _ _⟩)
  have hB0 : Below w.heap.size w ((w.alloc (.cells #[.int .u64 6, .int .u64 x1, .int .u64 x2, .int .u64 x3, .int .u64 0, .int .u64 0] 23)).alloc (.cells #[.int .i64 0, .int .i64 0, .int .i64 0, .bool false, .bool false, .bool false, .int .u64 0, .int .i64 0, .int .u64 0, .int .i64 0, .int .i64 0, .int .i64 0, .int .i64 0] 35)) := by go_grown
  have hw0 := heap_old (w.alloc (.cells #[.int .u64 6, .int .u64 x1, .int .u64 x2, .int .u64 x3, .int .u64 0, .int .u64 0] 23)) (.cells #[.int .i64 0, .int .i64 0, .int .i64 0, .bool false, .bool false, .bool false, .int .u64 0, .int .i64 0, .int .u64 0, .int .i64 0, .int .i64 0, .int .i64 0, .int .i64 0] 35) _ (heap_new w (.cells #[.int .u64 6, .int .u64 x1, .int .u64 x2, .int .u64 x3, .int .u64 0, .int .u64 0] 23))
  have hq0 := heap_new (w.alloc (.cells #[.int .u64 6, .int .u64 x1, .int .u64 x2, .int .u64 x3, .int .u64 0, .int .u64 0] 23)) (.cells #[.int .i64 0, .int .i64 0, .int .i64 0, .bool false, .bool false, .bool false, .int .u64 0, .int .i64 0, .int .u64 0, .int .i64 0, .int .i64 0, .int .i64 0, .int .i64 0] 35)
  rw [World.size_alloc] at hq0
  go_enter Try.func9, Try.ntmps9
  go_wp2_with fail
  refine (HU.out _).mono ?_
  rintro e v1 ⟨rfl, hb1⟩
  have hw1 := heap_below hb1 hw0
  have hq1 := heap_below hb1 hq0
  have hB1 := b_then hB0 hb1
  have hz1 := heap_lt hw1
  have hz2 := heap_lt hq1
  have c0 : v1.cell? ⟨w.heap.size, 0, none⟩ = some (.int .u64 6) := cell_heap hw1 0
  have c1 : v1.cell? ⟨w.heap.size, 1, none⟩ = some (.int .u64 x1) := cell_heap hw1 1
  have c2 : v1.cell? ⟨w.heap.size, 2, none⟩ = some (.int .u64 x2) := cell_heap hw1 2
  have c3 : v1.cell? ⟨w.heap.size, 3, none⟩ = some (.int .u64 x3) := cell_heap hw1 3
  have c4 : v1.cell? ⟨w.heap.size, 4, none⟩ = some (.int .u64 0) := cell_heap hw1 4
  have c5 : v1.cell? ⟨w.heap.size, 5, none⟩ = some (.int .u64 0) := cell_heap hw1 5
  have q0 : v1.cell? ⟨w.heap.size + 1, 0, none⟩ = some (.int .i64 0) := cell_heap hq1 0
  have f0 : v1.frozen? ⟨w.heap.size + 1, 0, none⟩ = false := frozen_heap hq1 0
  have q1 : v1.cell? ⟨w.heap.size + 1, 1, none⟩ = some (.int .i64 0) := cell_heap hq1 1
  have f1 : v1.frozen? ⟨w.heap.size + 1, 1, none⟩ = false := frozen_heap hq1 1
  have q2 : v1.cell? ⟨w.heap.size + 1, 2, none⟩ = some (.int .i64 0) := cell_heap hq1 2
  have f2 : v1.frozen? ⟨w.heap.size + 1, 2, none⟩ = false := frozen_heap hq1 2
  have q3 : v1.cell? ⟨w.heap.size + 1, 3, none⟩ = some (.bool false) := cell_heap hq1 3
  have f3 : v1.frozen? ⟨w.heap.size + 1, 3, none⟩ = false := frozen_heap hq1 3
  have q4 : v1.cell? ⟨w.heap.size + 1, 4, none⟩ = some (.bool false) := cell_heap hq1 4
  have f4 : v1.frozen? ⟨w.heap.size + 1, 4, none⟩ = false := frozen_heap hq1 4
  have q5 : v1.cell? ⟨w.heap.size + 1, 5, none⟩ = some (.bool false) := cell_heap hq1 5
  have f5 : v1.frozen? ⟨w.heap.size + 1, 5, none⟩ = false := frozen_heap hq1 5
  have q6 : v1.cell? ⟨w.heap.size + 1, 6, none⟩ = some (.int .u64 0) := cell_heap hq1 6
  have f6 : v1.frozen? ⟨w.heap.size + 1, 6, none⟩ = false := frozen_heap hq1 6
  have q7 : v1.cell? ⟨w.heap.size + 1, 7, none⟩ = some (.int .i64 0) := cell_heap hq1 7
  have f7 : v1.frozen? ⟨w.heap.size + 1, 7, none⟩ = false := frozen_heap hq1 7
  have q8 : v1.cell? ⟨w.heap.size + 1, 8, none⟩ = some (.int .u64 0) := cell_heap hq1 8
  have f8 : v1.frozen? ⟨w.heap.size + 1, 8, none⟩ = false := frozen_heap hq1 8
  have q9 : v1.cell? ⟨w.heap.size + 1, 9, none⟩ = some (.int .i64 0) := cell_heap hq1 9
  have f9 : v1.frozen? ⟨w.heap.size + 1, 9, none⟩ = false := frozen_heap hq1 9
  have q10 : v1.cell? ⟨w.heap.size + 1, 10, none⟩ = some (.int .i64 0) := cell_heap hq1 10
  have f10 : v1.frozen? ⟨w.heap.size + 1, 10, none⟩ = false := frozen_heap hq1 10
  have q11 : v1.cell? ⟨w.heap.size + 1, 11, none⟩ = some (.int .i64 0) := cell_heap hq1 11
  have f11 : v1.frozen? ⟨w.heap.size + 1, 11, none⟩ = false := frozen_heap hq1 11
  have q12 : v1.cell? ⟨w.heap.size + 1, 12, none⟩ = some (.int .i64 0) := cell_heap hq1 12
  have f12 : v1.frozen? ⟨w.heap.size + 1, 12, none⟩ = false := frozen_heap hq1 12
  have HW := Lib.hid hw1
  have HQ := Lib.hid hq1
  clear hw1 hw0 hq0 hb1 hB0 hq1 HU
  go_wp2_with fail
  go_loop [5] (fun i => ∃ j : Nat, i = .int .i64 j ∧ 4 ≤ j ∧ j ≤ 6) (fun i => (6 - intOf i).toNat)
  case atStart => exact ⟨4, rfl, by omega, by omega⟩
  case round =>
    obtain ⟨j, rfl, hj, hj6⟩ := hrel
    by_cases hlt : j < 6
    · have d9 : decide ((j : Int) < 6) = true := decide_eq_true (by omega)
      have hc : v1.cell? ⟨w.heap.size, j, none⟩ = some (.int .u64 0) := by
        have hj5 : j = 4 ∨ j = 5 := by omega
        rcases hj5 with rfl | rfl <;> (rw [cell_heap HW.out]; rfl)
      clear c0 c1 c2 c3 c4 c5
      go_wp2_with fail
      go_round
      case rel => exact ⟨j + 1, by go_num, by omega, by omega⟩
      case measure => simp [intOf]; omega
    · have d9 : decide ((j : Int) < 6) = false := decide_eq_false (by omega)
      obtain rfl : j = 6 := by omega
      go_upto_region 58 with fail
      go_cut [233] (fun s7 wx => s7 = .bool true ∧ Below v1.heap.size v1 wx)
      case first => go_wp2_with fail; go_meet; exact ⟨rfl, by go_grown⟩
      case rest =>
        obtain ⟨rfl, hbc⟩ := hcut
        have HQC := Lib.hid (heap_below hbc HQ.out)
        have hzc := heap_lt HQC.out
        have hBc := b_then hB1 hbc
        clear hbc hz1 hz2 q0 f0 q1 f1 q2 f2 q3 f3 q4 f4 q5 f5 q6 f6 q7 f7 q8 f8 q9 f9 q10 f10 q11 f11 q12 f12 c0 c1 c2 c3 c4 c5
        have HALL : Hid ((#[.int .i64 0, .int .i64 0, .int .i64 0, .bool false, .bool false, .bool false, .int .u64 0, .int .i64 0, .int .u64 0, .int .i64 0, .int .i64 0, .int .i64 0, .int .i64 0] : Array Value).all (·.oneCell') = true) := Lib.hid (by simp [Value.oneCell'])
        obtain ⟨fs, hfs⟩ := underR
        have HFS := Lib.hid hfs
        clear hfs
        go_wp2_with (first | (refine wpList_store_row rfl 35 (.tmp 2) (.tmp 234) rfl (w.heap.size + 1) #[.int .i64 0, .int .i64 0, .int .i64 0, .bool false, .bool false, .bool false, .int .u64 0, .int .i64 0, .int .u64 0, .int .i64 0, .int .i64 0, .int .i64 0, .int .i64 0] rfl rfl 35 #[.int .i64 0, .int .i64 0, .int .i64 0, .bool false, .bool false, .bool false, .int .u64 0, .int .i64 0, .int .u64 0, .int .i64 0, .int .i64 0, .int .i64 0, .int .i64 0] HQC.out infoR rfl HALL.out ?_))
        refine bodyPost_ret (results_cell_tmp (p := 2) (q := 3) rfl _ _ (w.heap.size + 1) 35 #[.int .i64 0, .int .i64 0, .int .i64 0, .bool false, .bool false, .bool false, .int .u64 0, .int .i64 0, .int .u64 0, .int .i64 0, .int .i64 0, .int .i64 0, .int .i64 0] (0, 0) fs (.bool false) rfl rfl (setRow_heap _ _ _ _ _ _ HQC.out) HFS.out infoR) rfl ⟨rfl, below_row hBc (by omega) _⟩
set_option maxRecDepth 100000 in
set_option maxHeartbeats 8000000 in
theorem ref_6_bad1 {x1 x2 x3 : Int} (h1 : 0 ≤ x1) (u1 : x1 < 18446744073709551616) (h2 : 0 ≤ x2) (u2 : x2 < 18446744073709551616) (h3 : 0 ≤ x3) (u3 : x3 < 18446744073709551616) (b0 : x1 < 34359738368) (b1 : ¬ (x2 < 16)) (w : World) :
    Calls Try.prog 9 #[.agg #[.int .u64 6, .int .u64 x1, .int .u64 x2, .int .u64 x3, .int .u64 0, .int .u64 0]] w fun e w' => e = .returned (.tuple #[.agg #[.int .i64 0, .int .i64 0, .int .i64 0, .bool false, .bool false, .bool false, .int .u64 0, .int .i64 0, .int .u64 0, .int .i64 0, .int .i64 0, .int .i64 0, .int .i64 0], .bool false]) ∧ Below w.heap.size w w' := by
  have d0 : decide (x1 < 34359738368) = true := decide_eq_true b0
  have d1 : decide (x2 < 16) = false := decide_eq_false b1
  clear b1
  have HU : Hid (∀ W : World, Calls Try.prog 12 #[.int .u64 6] W fun e w' => e = .returned (.int .i64 3) ∧ Below W.heap.size W w') := Lib.hid (fun W => (used_any 6 (by omega) W).mono fun e w' ⟨a, b⟩ => ⟨a, b ▸ Below.refl _ _⟩)
  have hB0 : Below w.heap.size w ((w.alloc (.cells #[.int .u64 6, .int .u64 x1, .int .u64 x2, .int .u64 x3, .int .u64 0, .int .u64 0] 23)).alloc (.cells #[.int .i64 0, .int .i64 0, .int .i64 0, .bool false, .bool false, .bool false, .int .u64 0, .int .i64 0, .int .u64 0, .int .i64 0, .int .i64 0, .int .i64 0, .int .i64 0] 35)) := by go_grown
  have hw0 := heap_old (w.alloc (.cells #[.int .u64 6, .int .u64 x1, .int .u64 x2, .int .u64 x3, .int .u64 0, .int .u64 0] 23)) (.cells #[.int .i64 0, .int .i64 0, .int .i64 0, .bool false, .bool false, .bool false, .int .u64 0, .int .i64 0, .int .u64 0, .int .i64 0, .int .i64 0, .int .i64 0, .int .i64 0] 35) _ (heap_new w (.cells #[.int .u64 6, .int .u64 x1, .int .u64 x2, .int .u64 x3, .int .u64 0, .int .u64 0] 23))
  have hq0 := heap_new (w.alloc (.cells #[.int .u64 6, .int .u64 x1, .int .u64 x2, .int .u64 x3, .int .u64 0, .int .u64 0] 23)) (.cells #[.int .i64 0, .int .i64 0, .int .i64 0, .bool false, .bool false, .bool false, .int .u64 0, .int .i64 0, .int .u64 0, .int .i64 0, .int .i64 0, .int .i64 0, .int .i64 0] 35)
  rw [World.size_alloc] at hq0
  go_enter Try.func9, Try.ntmps9
  go_wp2_with fail
  refine (HU.out _).mono ?_
  rintro e v1 ⟨rfl, hb1⟩
  have hw1 := heap_below hb1 hw0
  have hq1 := heap_below hb1 hq0
  have hB1 := b_then hB0 hb1
  have hz1 := heap_lt hw1
  have hz2 := heap_lt hq1
  have c0 : v1.cell? ⟨w.heap.size, 0, none⟩ = some (.int .u64 6) := cell_heap hw1 0
  have c1 : v1.cell? ⟨w.heap.size, 1, none⟩ = some (.int .u64 x1) := cell_heap hw1 1
  have c2 : v1.cell? ⟨w.heap.size, 2, none⟩ = some (.int .u64 x2) := cell_heap hw1 2
  have c3 : v1.cell? ⟨w.heap.size, 3, none⟩ = some (.int .u64 x3) := cell_heap hw1 3
  have c4 : v1.cell? ⟨w.heap.size, 4, none⟩ = some (.int .u64 0) := cell_heap hw1 4
  have c5 : v1.cell? ⟨w.heap.size, 5, none⟩ = some (.int .u64 0) := cell_heap hw1 5
  have q0 : v1.cell? ⟨w.heap.size + 1, 0, none⟩ = some (.int .i64 0) := cell_heap hq1 0
  have f0 : v1.frozen? ⟨w.heap.size + 1, 0, none⟩ = false := frozen_heap hq1 0
  have q1 : v1.cell? ⟨w.heap.size + 1, 1, none⟩ = some (.int .i64 0) := cell_heap hq1 1
  have f1 : v1.frozen? ⟨w.heap.size + 1, 1, none⟩ = false := frozen_heap hq1 1
  have q2 : v1.cell? ⟨w.heap.size + 1, 2, none⟩ = some (.int .i64 0) := cell_heap hq1 2
  have f2 : v1.frozen? ⟨w.heap.size + 1, 2, none⟩ = false := frozen_heap hq1 2
  have q3 : v1.cell? ⟨w.heap.size + 1, 3, none⟩ = some (.bool false) := cell_heap hq1 3
  have f3 : v1.frozen? ⟨w.heap.size + 1, 3, none⟩ = false := frozen_heap hq1 3
  have q4 : v1.cell? ⟨w.heap.size + 1, 4, none⟩ = some (.bool false) := cell_heap hq1 4
  have f4 : v1.frozen? ⟨w.heap.size + 1, 4, none⟩ = false := frozen_heap hq1 4
  have q5 : v1.cell? ⟨w.heap.size + 1, 5, none⟩ = some (.bool false) := cell_heap hq1 5
  have f5 : v1.frozen? ⟨w.heap.size + 1, 5, none⟩ = false := frozen_heap hq1 5
  have q6 : v1.cell? ⟨w.heap.size + 1, 6, none⟩ = some (.int .u64 0) := cell_heap hq1 6
  have f6 : v1.frozen? ⟨w.heap.size + 1, 6, none⟩ = false := frozen_heap hq1 6
  have q7 : v1.cell? ⟨w.heap.size + 1, 7, none⟩ = some (.int .i64 0) := cell_heap hq1 7
  have f7 : v1.frozen? ⟨w.heap.size + 1, 7, none⟩ = false := frozen_heap hq1 7
  have q8 : v1.cell? ⟨w.heap.size + 1, 8, none⟩ = some (.int .u64 0) := cell_heap hq1 8
  have f8 : v1.frozen? ⟨w.heap.size + 1, 8, none⟩ = false := frozen_heap hq1 8
  have q9 : v1.cell? ⟨w.heap.size + 1, 9, none⟩ = some (.int .i64 0) := cell_heap hq1 9
  have f9 : v1.frozen? ⟨w.heap.size + 1, 9, none⟩ = false := frozen_heap hq1 9
  have q10 : v1.cell? ⟨w.heap.size + 1, 10, none⟩ = some (.int .i64 0) := cell_heap hq1 10
  have f10 : v1.frozen? ⟨w.heap.size + 1, 10, none⟩ = false := frozen_heap hq1 10
  have q11 : v1.cell? ⟨w.heap.size + 1, 11, none⟩ = some (.int .i64 0) := cell_heap hq1 11
  have f11 : v1.frozen? ⟨w.heap.size + 1, 11, none⟩ = false := frozen_heap hq1 11
  have q12 : v1.cell? ⟨w.heap.size + 1, 12, none⟩ = some (.int .i64 0) := cell_heap hq1 12
  have f12 : v1.frozen? ⟨w.heap.size + 1, 12, none⟩ = false := frozen_heap hq1 12
  have HW := Lib.hid hw1
  have HQ := Lib.hid hq1
  clear hw1 hw0 hq0 hb1 hB0 hq1 HU
  go_wp2_with fail
  go_loop [5] (fun i => ∃ j : Nat, i = .int .i64 j ∧ 4 ≤ j ∧ j ≤ 6) (fun i => (6 - intOf i).toNat)
  case atStart => exact ⟨4, rfl, by omega, by omega⟩
  case round =>
    obtain ⟨j, rfl, hj, hj6⟩ := hrel
    by_cases hlt : j < 6
    · have d9 : decide ((j : Int) < 6) = true := decide_eq_true (by omega)
      have hc : v1.cell? ⟨w.heap.size, j, none⟩ = some (.int .u64 0) := by
        have hj5 : j = 4 ∨ j = 5 := by omega
        rcases hj5 with rfl | rfl <;> (rw [cell_heap HW.out]; rfl)
      clear c0 c1 c2 c3 c4 c5
      go_wp2_with fail
      go_round
      case rel => exact ⟨j + 1, by go_num, by omega, by omega⟩
      case measure => simp [intOf]; omega
    · have d9 : decide ((j : Int) < 6) = false := decide_eq_false (by omega)
      obtain rfl : j = 6 := by omega
      go_upto_region 58 with fail
      go_cut [233] (fun s7 wx => s7 = .bool true ∧ Below v1.heap.size v1 wx)
      case first => go_wp2_with fail; go_meet; exact ⟨rfl, by go_grown⟩
      case rest =>
        obtain ⟨rfl, hbc⟩ := hcut
        have HQC := Lib.hid (heap_below hbc HQ.out)
        have hzc := heap_lt HQC.out
        have hBc := b_then hB1 hbc
        clear hbc hz1 hz2 q0 f0 q1 f1 q2 f2 q3 f3 q4 f4 q5 f5 q6 f6 q7 f7 q8 f8 q9 f9 q10 f10 q11 f11 q12 f12 c0 c1 c2 c3 c4 c5
        have HALL : Hid ((#[.int .i64 0, .int .i64 0, .int .i64 0, .bool false, .bool false, .bool false, .int .u64 0, .int .i64 0, .int .u64 0, .int .i64 0, .int .i64 0, .int .i64 0, .int .i64 0] : Array Value).all (·.oneCell') = true) := Lib.hid (by simp [Value.oneCell'])
        obtain ⟨fs, hfs⟩ := underR
        have HFS := Lib.hid hfs
        clear hfs
        go_wp2_with (first | (refine wpList_store_row rfl 35 (.tmp 2) (.tmp 234) rfl (w.heap.size + 1) #[.int .i64 0, .int .i64 0, .int .i64 0, .bool false, .bool false, .bool false, .int .u64 0, .int .i64 0, .int .u64 0, .int .i64 0, .int .i64 0, .int .i64 0, .int .i64 0] rfl rfl 35 #[.int .i64 0, .int .i64 0, .int .i64 0, .bool false, .bool false, .bool false, .int .u64 0, .int .i64 0, .int .u64 0, .int .i64 0, .int .i64 0, .int .i64 0, .int .i64 0] HQC.out infoR rfl HALL.out ?_))
        refine bodyPost_ret (results_cell_tmp (p := 2) (q := 3) rfl _ _ (w.heap.size + 1) 35 #[.int .i64 0, .int .i64 0, .int .i64 0, .bool false, .bool false, .bool false, .int .u64 0, .int .i64 0, .int .u64 0, .int .i64 0, .int .i64 0, .int .i64 0, .int .i64 0] (0, 0) fs (.bool false) rfl rfl (setRow_heap _ _ _ _ _ _ HQC.out) HFS.out infoR) rfl ⟨rfl, below_row hBc (by omega) _⟩
set_option maxRecDepth 100000 in
set_option maxHeartbeats 8000000 in
theorem ref_6_bad2 {x1 x2 x3 : Int} (h1 : 0 ≤ x1) (u1 : x1 < 18446744073709551616) (h2 : 0 ≤ x2) (u2 : x2 < 18446744073709551616) (h3 : 0 ≤ x3) (u3 : x3 < 18446744073709551616) (b0 : x1 < 34359738368) (b1 : x2 < 16) (b2 : ¬ (x3 < 2)) (w : World) :
    Calls Try.prog 9 #[.agg #[.int .u64 6, .int .u64 x1, .int .u64 x2, .int .u64 x3, .int .u64 0, .int .u64 0]] w fun e w' => e = .returned (.tuple #[.agg #[.int .i64 0, .int .i64 0, .int .i64 0, .bool false, .bool false, .bool false, .int .u64 0, .int .i64 0, .int .u64 0, .int .i64 0, .int .i64 0, .int .i64 0, .int .i64 0], .bool false]) ∧ Below w.heap.size w w' := by
  have d0 : decide (x1 < 34359738368) = true := decide_eq_true b0
  have d1 : decide (x2 < 16) = true := decide_eq_true b1
  have d2 : decide (x3 < 2) = false := decide_eq_false b2
  clear b2
  have HU : Hid (∀ W : World, Calls Try.prog 12 #[.int .u64 6] W fun e w' => e = .returned (.int .i64 3) ∧ Below W.heap.size W w') := Lib.hid (fun W => (used_any 6 (by omega) W).mono fun e w' ⟨a, b⟩ => ⟨a, b ▸ Below.refl _ _⟩)
  have hB0 : Below w.heap.size w ((w.alloc (.cells #[.int .u64 6, .int .u64 x1, .int .u64 x2, .int .u64 x3, .int .u64 0, .int .u64 0] 23)).alloc (.cells #[.int .i64 0, .int .i64 0, .int .i64 0, .bool false, .bool false, .bool false, .int .u64 0, .int .i64 0, .int .u64 0, .int .i64 0, .int .i64 0, .int .i64 0, .int .i64 0] 35)) := by go_grown
  have hw0 := heap_old (w.alloc (.cells #[.int .u64 6, .int .u64 x1, .int .u64 x2, .int .u64 x3, .int .u64 0, .int .u64 0] 23)) (.cells #[.int .i64 0, .int .i64 0, .int .i64 0, .bool false, .bool false, .bool false, .int .u64 0, .int .i64 0, .int .u64 0, .int .i64 0, .int .i64 0, .int .i64 0, .int .i64 0] 35) _ (heap_new w (.cells #[.int .u64 6, .int .u64 x1, .int .u64 x2, .int .u64 x3, .int .u64 0, .int .u64 0] 23))
  have hq0 := heap_new (w.alloc (.cells #[.int .u64 6, .int .u64 x1, .int .u64 x2, .int .u64 x3, .int .u64 0, .int .u64 0] 23)) (.cells #[.int .i64 0, .int .i64 0, .int .i64 0, .bool false, .bool false, .bool false, .int .u64 0, .int .i64 0, .int .u64 0, .int .i64 0, .int .i64 0, .int .i64 0, .int .i64 0] 35)
  rw [World.size_alloc] at hq0
  go_enter Try.func9, Try.ntmps9
  go_wp2_with fail
  refine (HU.out _).mono ?_
  rintro e v1 ⟨rfl, hb1⟩
  have hw1 := heap_below hb1 hw0
  have hq1 := heap_below hb1 hq0
  have hB1 := b_then hB0 hb1
  have hz1 := heap_lt hw1
  have hz2 := heap_lt hq1
  have c0 : v1.cell? ⟨w.heap.size, 0, none⟩ = some (.int .u64 6) := cell_heap hw1 0
  have c1 : v1.cell? ⟨w.heap.size, 1, none⟩ = some (.int .u64 x1) := cell_heap hw1 1
  have c2 : v1.cell? ⟨w.heap.size, 2, none⟩ = some (.int .u64 x2) := cell_heap hw1 2
  have c3 : v1.cell? ⟨w.heap.size, 3, none⟩ = some (.int .u64 x3) := cell_heap hw1 3
  have c4 : v1.cell? ⟨w.heap.size, 4, none⟩ = some (.int .u64 0) := cell_heap hw1 4
  have c5 : v1.cell? ⟨w.heap.size, 5, none⟩ = some (.int .u64 0) := cell_heap hw1 5
  have q0 : v1.cell? ⟨w.heap.size + 1, 0, none⟩ = some (.int .i64 0) := cell_heap hq1 0
  have f0 : v1.frozen? ⟨w.heap.size + 1, 0, none⟩ = false := frozen_heap hq1 0
  have q1 : v1.cell? ⟨w.heap.size + 1, 1, none⟩ = some (.int .i64 0) := cell_heap hq1 1
  have f1 : v1.frozen? ⟨w.heap.size + 1, 1, none⟩ = false := frozen_heap hq1 1
  have q2 : v1.cell? ⟨w.heap.size + 1, 2, none⟩ = some (.int .i64 0) := cell_heap hq1 2
  have f2 : v1.frozen? ⟨w.heap.size + 1, 2, none⟩ = false := frozen_heap hq1 2
  have q3 : v1.cell? ⟨w.heap.size + 1, 3, none⟩ = some (.bool false) := cell_heap hq1 3
  have f3 : v1.frozen? ⟨w.heap.size + 1, 3, none⟩ = false := frozen_heap hq1 3
  have q4 : v1.cell? ⟨w.heap.size + 1, 4, none⟩ = some (.bool false) := cell_heap hq1 4
  have f4 : v1.frozen? ⟨w.heap.size + 1, 4, none⟩ = false := frozen_heap hq1 4
  have q5 : v1.cell? ⟨w.heap.size + 1, 5, none⟩ = some (.bool false) := cell_heap hq1 5
  have f5 : v1.frozen? ⟨w.heap.size + 1, 5, none⟩ = false := frozen_heap hq1 5
  have q6 : v1.cell? ⟨w.heap.size + 1, 6, none⟩ = some (.int .u64 0) := cell_heap hq1 6
  have f6 : v1.frozen? ⟨w.heap.size + 1, 6, none⟩ = false := frozen_heap hq1 6
  have q7 : v1.cell? ⟨w.heap.size + 1, 7, none⟩ = some (.int .i64 0) := cell_heap hq1 7
  have f7 : v1.frozen? ⟨w.heap.size + 1, 7, none⟩ = false := frozen_heap hq1 7
  have q8 : v1.cell? ⟨w.heap.size + 1, 8, none⟩ = some (.int .u64 0) := cell_heap hq1 8
  have f8 : v1.frozen? ⟨w.heap.size + 1, 8, none⟩ = false := frozen_heap hq1 8
  have q9 : v1.cell? ⟨w.heap.size + 1, 9, none⟩ = some (.int .i64 0) := cell_heap hq1 9
  have f9 : v1.frozen? ⟨w.heap.size + 1, 9, none⟩ = false := frozen_heap hq1 9
  have q10 : v1.cell? ⟨w.heap.size + 1, 10, none⟩ = some (.int .i64 0) := cell_heap hq1 10
  have f10 : v1.frozen? ⟨w.heap.size + 1, 10, none⟩ = false := frozen_heap hq1 10
  have q11 : v1.cell? ⟨w.heap.size + 1, 11, none⟩ = some (.int .i64 0) := cell_heap hq1 11
  have f11 : v1.frozen? ⟨w.heap.size + 1, 11, none⟩ = false := frozen_heap hq1 11
  have q12 : v1.cell? ⟨w.heap.size + 1, 12, none⟩ = some (.int .i64 0) := cell_heap hq1 12
  have f12 : v1.frozen? ⟨w.heap.size + 1, 12, none⟩ = false := frozen_heap hq1 12
  have HW := Lib.hid hw1
  have HQ := Lib.hid hq1
  clear hw1 hw0 hq0 hb1 hB0 hq1 HU
  go_wp2_with fail
  go_loop [5] (fun i => ∃ j : Nat, i = .int .i64 j ∧ 4 ≤ j ∧ j ≤ 6) (fun i => (6 - intOf i).toNat)
  case atStart => exact ⟨4, rfl, by omega, by omega⟩
  case round =>
    obtain ⟨j, rfl, hj, hj6⟩ := hrel
    by_cases hlt : j < 6
    · have d9 : decide ((j : Int) < 6) = true := decide_eq_true (by omega)
      have hc : v1.cell? ⟨w.heap.size, j, none⟩ = some (.int .u64 0) := by
        have hj5 : j = 4 ∨ j = 5 := by omega
        rcases hj5 with rfl | rfl <;> (rw [cell_heap HW.out]; rfl)
      clear c0 c1 c2 c3 c4 c5
      go_wp2_with fail
      go_round
      case rel => exact ⟨j + 1, by go_num, by omega, by omega⟩
      case measure => simp [intOf]; omega
    · have d9 : decide ((j : Int) < 6) = false := decide_eq_false (by omega)
      obtain rfl : j = 6 := by omega
      go_upto_region 58 with fail
      go_cut [233] (fun s7 wx => s7 = .bool true ∧ Below v1.heap.size v1 wx)
      case first => go_wp2_with fail; go_meet; exact ⟨rfl, by go_grown⟩
      case rest =>
        obtain ⟨rfl, hbc⟩ := hcut
        have HQC := Lib.hid (heap_below hbc HQ.out)
        have hzc := heap_lt HQC.out
        have hBc := b_then hB1 hbc
        clear hbc hz1 hz2 q0 f0 q1 f1 q2 f2 q3 f3 q4 f4 q5 f5 q6 f6 q7 f7 q8 f8 q9 f9 q10 f10 q11 f11 q12 f12 c0 c1 c2 c3 c4 c5
        have HALL : Hid ((#[.int .i64 0, .int .i64 0, .int .i64 0, .bool false, .bool false, .bool false, .int .u64 0, .int .i64 0, .int .u64 0, .int .i64 0, .int .i64 0, .int .i64 0, .int .i64 0] : Array Value).all (·.oneCell') = true) := Lib.hid (by simp [Value.oneCell'])
        obtain ⟨fs, hfs⟩ := underR
        have HFS := Lib.hid hfs
        clear hfs
        go_wp2_with (first | (refine wpList_store_row rfl 35 (.tmp 2) (.tmp 234) rfl (w.heap.size + 1) #[.int .i64 0, .int .i64 0, .int .i64 0, .bool false, .bool false, .bool false, .int .u64 0, .int .i64 0, .int .u64 0, .int .i64 0, .int .i64 0, .int .i64 0, .int .i64 0] rfl rfl 35 #[.int .i64 0, .int .i64 0, .int .i64 0, .bool false, .bool false, .bool false, .int .u64 0, .int .i64 0, .int .u64 0, .int .i64 0, .int .i64 0, .int .i64 0, .int .i64 0] HQC.out infoR rfl HALL.out ?_))
        refine bodyPost_ret (results_cell_tmp (p := 2) (q := 3) rfl _ _ (w.heap.size + 1) 35 #[.int .i64 0, .int .i64 0, .int .i64 0, .bool false, .bool false, .bool false, .int .u64 0, .int .i64 0, .int .u64 0, .int .i64 0, .int .i64 0, .int .i64 0, .int .i64 0] (0, 0) fs (.bool false) rfl rfl (setRow_heap _ _ _ _ _ _ HQC.out) HFS.out infoR) rfl ⟨rfl, below_row hBc (by omega) _⟩
set_option maxRecDepth 100000 in
set_option maxHeartbeats 8000000 in
theorem ref_6_ok {x1 x2 x3 : Int} (h1 : 0 ≤ x1) (u1 : x1 < 18446744073709551616) (h2 : 0 ≤ x2) (u2 : x2 < 18446744073709551616) (h3 : 0 ≤ x3) (u3 : x3 < 18446744073709551616) (b0 : x1 < 34359738368) (b1 : x2 < 16) (b2 : x3 < 2) (w : World) :
    Calls Try.prog 9 #[.agg #[.int .u64 6, .int .u64 x1, .int .u64 x2, .int .u64 x3, .int .u64 0, .int .u64 0]] w fun e w' => e = .returned (.tuple #[.agg #[.int .i64 6, .int .i64 x1, .int .i64 (x1 + 1), .bool (x3 == 1), .bool false, .bool false, .int .u64 0, .int .i64 0, .int .u64 0, .int .i64 x2, .int .i64 0, .int .i64 0, .int .i64 0], .bool true]) ∧ Below w.heap.size w w' := by
  have d0 : decide (x1 < 34359738368) = true := decide_eq_true b0
  have d1 : decide (x2 < 16) = true := decide_eq_true b1
  have d2 : decide (x3 < 2) = true := decide_eq_true b2
  have HU : Hid (∀ W : World, Calls Try.prog 12 #[.int .u64 6] W fun e w' => e = .returned (.int .i64 3) ∧ Below W.heap.size W w') := Lib.hid (fun W => (used_any 6 (by omega) W).mono fun e w' ⟨a, b⟩ => ⟨a, b ▸ Below.refl _ _⟩)
  have hB0 : Below w.heap.size w ((w.alloc (.cells #[.int .u64 6, .int .u64 x1, .int .u64 x2, .int .u64 x3, .int .u64 0, .int .u64 0] 23)).alloc (.cells #[.int .i64 0, .int .i64 0, .int .i64 0, .bool false, .bool false, .bool false, .int .u64 0, .int .i64 0, .int .u64 0, .int .i64 0, .int .i64 0, .int .i64 0, .int .i64 0] 35)) := by go_grown
  have hw0 := heap_old (w.alloc (.cells #[.int .u64 6, .int .u64 x1, .int .u64 x2, .int .u64 x3, .int .u64 0, .int .u64 0] 23)) (.cells #[.int .i64 0, .int .i64 0, .int .i64 0, .bool false, .bool false, .bool false, .int .u64 0, .int .i64 0, .int .u64 0, .int .i64 0, .int .i64 0, .int .i64 0, .int .i64 0] 35) _ (heap_new w (.cells #[.int .u64 6, .int .u64 x1, .int .u64 x2, .int .u64 x3, .int .u64 0, .int .u64 0] 23))
  have hq0 := heap_new (w.alloc (.cells #[.int .u64 6, .int .u64 x1, .int .u64 x2, .int .u64 x3, .int .u64 0, .int .u64 0] 23)) (.cells #[.int .i64 0, .int .i64 0, .int .i64 0, .bool false, .bool false, .bool false, .int .u64 0, .int .i64 0, .int .u64 0, .int .i64 0, .int .i64 0, .int .i64 0, .int .i64 0] 35)
  rw [World.size_alloc] at hq0
  go_enter Try.func9, Try.ntmps9
  go_wp2_with fail
  refine (HU.out _).mono ?_
  rintro e v1 ⟨rfl, hb1⟩
  have hw1 := heap_below hb1 hw0
  have hq1 := heap_below hb1 hq0
  have hB1 := b_then hB0 hb1
  have hz1 := heap_lt hw1
  have hz2 := heap_lt hq1
  have c0 : v1.cell? ⟨w.heap.size, 0, none⟩ = some (.int .u64 6) := cell_heap hw1 0
  have c1 : v1.cell? ⟨w.heap.size, 1, none⟩ = some (.int .u64 x1) := cell_heap hw1 1
  have c2 : v1.cell? ⟨w.heap.size, 2, none⟩ = some (.int .u64 x2) := cell_heap hw1 2
  have c3 : v1.cell? ⟨w.heap.size, 3, none⟩ = some (.int .u64 x3) := cell_heap hw1 3
  have c4 : v1.cell? ⟨w.heap.size, 4, none⟩ = some (.int .u64 0) := cell_heap hw1 4
  have c5 : v1.cell? ⟨w.heap.size, 5, none⟩ = some (.int .u64 0) := cell_heap hw1 5
  have q0 : v1.cell? ⟨w.heap.size + 1, 0, none⟩ = some (.int .i64 0) := cell_heap hq1 0
  have f0 : v1.frozen? ⟨w.heap.size + 1, 0, none⟩ = false := frozen_heap hq1 0
  have q1 : v1.cell? ⟨w.heap.size + 1, 1, none⟩ = some (.int .i64 0) := cell_heap hq1 1
  have f1 : v1.frozen? ⟨w.heap.size + 1, 1, none⟩ = false := frozen_heap hq1 1
  have q2 : v1.cell? ⟨w.heap.size + 1, 2, none⟩ = some (.int .i64 0) := cell_heap hq1 2
  have f2 : v1.frozen? ⟨w.heap.size + 1, 2, none⟩ = false := frozen_heap hq1 2
  have q3 : v1.cell? ⟨w.heap.size + 1, 3, none⟩ = some (.bool false) := cell_heap hq1 3
  have f3 : v1.frozen? ⟨w.heap.size + 1, 3, none⟩ = false := frozen_heap hq1 3
  have q4 : v1.cell? ⟨w.heap.size + 1, 4, none⟩ = some (.bool false) := cell_heap hq1 4
  have f4 : v1.frozen? ⟨w.heap.size + 1, 4, none⟩ = false := frozen_heap hq1 4
  have q5 : v1.cell? ⟨w.heap.size + 1, 5, none⟩ = some (.bool false) := cell_heap hq1 5
  have f5 : v1.frozen? ⟨w.heap.size + 1, 5, none⟩ = false := frozen_heap hq1 5
  have q6 : v1.cell? ⟨w.heap.size + 1, 6, none⟩ = some (.int .u64 0) := cell_heap hq1 6
  have f6 : v1.frozen? ⟨w.heap.size + 1, 6, none⟩ = false := frozen_heap hq1 6
  have q7 : v1.cell? ⟨w.heap.size + 1, 7, none⟩ = some (.int .i64 0) := cell_heap hq1 7
  have f7 : v1.frozen? ⟨w.heap.size + 1, 7, none⟩ = false := frozen_heap hq1 7
  have q8 : v1.cell? ⟨w.heap.size + 1, 8, none⟩ = some (.int .u64 0) := cell_heap hq1 8
  have f8 : v1.frozen? ⟨w.heap.size + 1, 8, none⟩ = false := frozen_heap hq1 8
  have q9 : v1.cell? ⟨w.heap.size + 1, 9, none⟩ = some (.int .i64 0) := cell_heap hq1 9
  have f9 : v1.frozen? ⟨w.heap.size + 1, 9, none⟩ = false := frozen_heap hq1 9
  have q10 : v1.cell? ⟨w.heap.size + 1, 10, none⟩ = some (.int .i64 0) := cell_heap hq1 10
  have f10 : v1.frozen? ⟨w.heap.size + 1, 10, none⟩ = false := frozen_heap hq1 10
  have q11 : v1.cell? ⟨w.heap.size + 1, 11, none⟩ = some (.int .i64 0) := cell_heap hq1 11
  have f11 : v1.frozen? ⟨w.heap.size + 1, 11, none⟩ = false := frozen_heap hq1 11
  have q12 : v1.cell? ⟨w.heap.size + 1, 12, none⟩ = some (.int .i64 0) := cell_heap hq1 12
  have f12 : v1.frozen? ⟨w.heap.size + 1, 12, none⟩ = false := frozen_heap hq1 12
  have HW := Lib.hid hw1
  have HQ := Lib.hid hq1
  clear hw1 hw0 hq0 hb1 hB0 hq1 HU
  go_wp2_with fail
  go_loop [5] (fun i => ∃ j : Nat, i = .int .i64 j ∧ 4 ≤ j ∧ j ≤ 6) (fun i => (6 - intOf i).toNat)
  case atStart => exact ⟨4, rfl, by omega, by omega⟩
  case round =>
    obtain ⟨j, rfl, hj, hj6⟩ := hrel
    by_cases hlt : j < 6
    · have d9 : decide ((j : Int) < 6) = true := decide_eq_true (by omega)
      have hc : v1.cell? ⟨w.heap.size, j, none⟩ = some (.int .u64 0) := by
        have hj5 : j = 4 ∨ j = 5 := by omega
        rcases hj5 with rfl | rfl <;> (rw [cell_heap HW.out]; rfl)
      clear c0 c1 c2 c3 c4 c5
      go_wp2_with fail
      go_round
      case rel => exact ⟨j + 1, by go_num, by omega, by omega⟩
      case measure => simp [intOf]; omega
    · have d9 : decide ((j : Int) < 6) = false := decide_eq_false (by omega)
      obtain rfl : j = 6 := by omega
      go_upto_region 58 with fail
      go_cut [233] (fun s7 wx => s7 = .bool false ∧ Below v1.heap.size v1 wx ∧ wx.heap[v1.heap.size]? = some (.cells #[.int .i64 6, .int .i64 x1, .int .i64 (x1 + 1), .bool (x3 == 1), .bool false, .bool false, .int .u64 0, .int .i64 0, .int .u64 0, .int .i64 x2, .int .i64 0, .int .i64 0, .int .i64 0] 35 (0, 0)))
      case first => go_wp2_with fail; go_meet; exact ⟨rfl, by go_grown, heap_new _ _⟩
      case rest =>
        obtain ⟨rfl, hbc, hr⟩ := hcut
        have HQC := Lib.hid (heap_below hbc HQ.out)
        have hzc := heap_lt HQC.out
        have hBc := b_then hB1 hbc
        clear hbc hz1 hz2 q0 f0 q1 f1 q2 f2 q3 f3 q4 f4 q5 f5 q6 f6 q7 f7 q8 f8 q9 f9 q10 f10 q11 f11 q12 f12 c0 c1 c2 c3 c4 c5
        have HALL : Hid ((#[.int .i64 6, .int .i64 x1, .int .i64 (x1 + 1), .bool (x3 == 1), .bool false, .bool false, .int .u64 0, .int .i64 0, .int .u64 0, .int .i64 x2, .int .i64 0, .int .i64 0, .int .i64 0] : Array Value).all (·.oneCell') = true) := Lib.hid (by simp [Value.oneCell'])
        obtain ⟨fs, hfs⟩ := underR
        have HFS := Lib.hid hfs
        have HRR := Lib.hid hr
        clear hr
        clear hfs
        go_wp2_with (first | (refine wpList_load_row rfl 35 (.tmp 6) rfl v1.heap.size rfl 35 #[.int .i64 6, .int .i64 x1, .int .i64 (x1 + 1), .bool (x3 == 1), .bool false, .bool false, .int .u64 0, .int .i64 0, .int .u64 0, .int .i64 x2, .int .i64 0, .int .i64 0, .int .i64 0] (0, 0) (.struct fs) HRR.out HFS.out rfl infoR ?_) | (refine wpList_store_row rfl 35 (.tmp 2) (.tmp 235) rfl (w.heap.size + 1) #[.int .i64 6, .int .i64 x1, .int .i64 (x1 + 1), .bool (x3 == 1), .bool false, .bool false, .int .u64 0, .int .i64 0, .int .u64 0, .int .i64 x2, .int .i64 0, .int .i64 0, .int .i64 0] rfl rfl 35 #[.int .i64 0, .int .i64 0, .int .i64 0, .bool false, .bool false, .bool false, .int .u64 0, .int .i64 0, .int .u64 0, .int .i64 0, .int .i64 0, .int .i64 0, .int .i64 0] HQC.out infoR rfl HALL.out ?_))
        refine bodyPost_ret (results_cell_tmp (p := 2) (q := 3) rfl _ _ (w.heap.size + 1) 35 #[.int .i64 6, .int .i64 x1, .int .i64 (x1 + 1), .bool (x3 == 1), .bool false, .bool false, .int .u64 0, .int .i64 0, .int .u64 0, .int .i64 x2, .int .i64 0, .int .i64 0, .int .i64 0] (0, 0) fs (.bool true) rfl rfl (setRow_heap _ _ _ _ _ _ HQC.out) HFS.out infoR) rfl ⟨rfl, below_row hBc (by omega) _⟩
set_option maxRecDepth 100000 in
set_option maxHeartbeats 8000000 in
theorem ref_7_tail {x1 x2 x3 x4 x5 : Int} (h1 : 0 ≤ x1) (u1 : x1 < 18446744073709551616) (h2 : 0 ≤ x2) (u2 : x2 < 18446744073709551616) (h3 : 0 ≤ x3) (u3 : x3 < 18446744073709551616) (h4 : 0 ≤ x4) (u4 : x4 < 18446744073709551616) (h5 : 0 ≤ x5) (u5 : x5 < 18446744073709551616) (b0 : ¬ Tail [7, x1, x2, x3, x4, x5] 3) (w : World) :
    Calls Try.prog 9 #[.agg #[.int .u64 7, .int .u64 x1, .int .u64 x2, .int .u64 x3, .int .u64 x4, .int .u64 x5]] w fun e w' => e = .returned (.tuple #[.agg #[.int .i64 0, .int .i64 0, .int .i64 0, .bool false, .bool false, .bool false, .int .u64 0, .int .i64 0, .int .u64 0, .int .i64 0, .int .i64 0, .int .i64 0, .int .i64 0], .bool false]) ∧ Below w.heap.size w w' := by
  have HT := Lib.hid b0
  clear b0
  have HU : Hid (∀ W : World, Calls Try.prog 12 #[.int .u64 7] W fun e w' => e = .returned (.int .i64 2) ∧ Below W.heap.size W w') := Lib.hid (fun W => (used_any 7 (by omega) W).mono fun e w' ⟨a, b⟩ => ⟨a, b ▸ Below.refl _ _⟩)
  have hB0 : Below w.heap.size w ((w.alloc (.cells #[.int .u64 7, .int .u64 x1, .int .u64 x2, .int .u64 x3, .int .u64 x4, .int .u64 x5] 23)).alloc (.cells #[.int .i64 0, .int .i64 0, .int .i64 0, .bool false, .bool false, .bool false, .int .u64 0, .int .i64 0, .int .u64 0, .int .i64 0, .int .i64 0, .int .i64 0, .int .i64 0] 35)) := by go_grown
  have hw0 := heap_old (w.alloc (.cells #[.int .u64 7, .int .u64 x1, .int .u64 x2, .int .u64 x3, .int .u64 x4, .int .u64 x5] 23)) (.cells #[.int .i64 0, .int .i64 0, .int .i64 0, .bool false, .bool false, .bool false, .int .u64 0, .int .i64 0, .int .u64 0, .int .i64 0, .int .i64 0, .int .i64 0, .int .i64 0] 35) _ (heap_new w (.cells #[.int .u64 7, .int .u64 x1, .int .u64 x2, .int .u64 x3, .int .u64 x4, .int .u64 x5] 23))
  have hq0 := heap_new (w.alloc (.cells #[.int .u64 7, .int .u64 x1, .int .u64 x2, .int .u64 x3, .int .u64 x4, .int .u64 x5] 23)) (.cells #[.int .i64 0, .int .i64 0, .int .i64 0, .bool false, .bool false, .bool false, .int .u64 0, .int .i64 0, .int .u64 0, .int .i64 0, .int .i64 0, .int .i64 0, .int .i64 0] 35)
  rw [World.size_alloc] at hq0
  go_enter Try.func9, Try.ntmps9
  go_wp2_with fail
  refine (HU.out _).mono ?_
  rintro e v1 ⟨rfl, hb1⟩
  have hw1 := heap_below hb1 hw0
  have hq1 := heap_below hb1 hq0
  have hB1 := b_then hB0 hb1
  have hz1 := heap_lt hw1
  have hz2 := heap_lt hq1
  have c0 : v1.cell? ⟨w.heap.size, 0, none⟩ = some (.int .u64 7) := cell_heap hw1 0
  have c1 : v1.cell? ⟨w.heap.size, 1, none⟩ = some (.int .u64 x1) := cell_heap hw1 1
  have c2 : v1.cell? ⟨w.heap.size, 2, none⟩ = some (.int .u64 x2) := cell_heap hw1 2
  have c3 : v1.cell? ⟨w.heap.size, 3, none⟩ = some (.int .u64 x3) := cell_heap hw1 3
  have c4 : v1.cell? ⟨w.heap.size, 4, none⟩ = some (.int .u64 x4) := cell_heap hw1 4
  have c5 : v1.cell? ⟨w.heap.size, 5, none⟩ = some (.int .u64 x5) := cell_heap hw1 5
  have q0 : v1.cell? ⟨w.heap.size + 1, 0, none⟩ = some (.int .i64 0) := cell_heap hq1 0
  have f0 : v1.frozen? ⟨w.heap.size + 1, 0, none⟩ = false := frozen_heap hq1 0
  have q1 : v1.cell? ⟨w.heap.size + 1, 1, none⟩ = some (.int .i64 0) := cell_heap hq1 1
  have f1 : v1.frozen? ⟨w.heap.size + 1, 1, none⟩ = false := frozen_heap hq1 1
  have q2 : v1.cell? ⟨w.heap.size + 1, 2, none⟩ = some (.int .i64 0) := cell_heap hq1 2
  have f2 : v1.frozen? ⟨w.heap.size + 1, 2, none⟩ = false := frozen_heap hq1 2
  have q3 : v1.cell? ⟨w.heap.size + 1, 3, none⟩ = some (.bool false) := cell_heap hq1 3
  have f3 : v1.frozen? ⟨w.heap.size + 1, 3, none⟩ = false := frozen_heap hq1 3
  have q4 : v1.cell? ⟨w.heap.size + 1, 4, none⟩ = some (.bool false) := cell_heap hq1 4
  have f4 : v1.frozen? ⟨w.heap.size + 1, 4, none⟩ = false := frozen_heap hq1 4
  have q5 : v1.cell? ⟨w.heap.size + 1, 5, none⟩ = some (.bool false) := cell_heap hq1 5
  have f5 : v1.frozen? ⟨w.heap.size + 1, 5, none⟩ = false := frozen_heap hq1 5
  have q6 : v1.cell? ⟨w.heap.size + 1, 6, none⟩ = some (.int .u64 0) := cell_heap hq1 6
  have f6 : v1.frozen? ⟨w.heap.size + 1, 6, none⟩ = false := frozen_heap hq1 6
  have q7 : v1.cell? ⟨w.heap.size + 1, 7, none⟩ = some (.int .i64 0) := cell_heap hq1 7
  have f7 : v1.frozen? ⟨w.heap.size + 1, 7, none⟩ = false := frozen_heap hq1 7
  have q8 : v1.cell? ⟨w.heap.size + 1, 8, none⟩ = some (.int .u64 0) := cell_heap hq1 8
  have f8 : v1.frozen? ⟨w.heap.size + 1, 8, none⟩ = false := frozen_heap hq1 8
  have q9 : v1.cell? ⟨w.heap.size + 1, 9, none⟩ = some (.int .i64 0) := cell_heap hq1 9
  have f9 : v1.frozen? ⟨w.heap.size + 1, 9, none⟩ = false := frozen_heap hq1 9
  have q10 : v1.cell? ⟨w.heap.size + 1, 10, none⟩ = some (.int .i64 0) := cell_heap hq1 10
  have f10 : v1.frozen? ⟨w.heap.size + 1, 10, none⟩ = false := frozen_heap hq1 10
  have q11 : v1.cell? ⟨w.heap.size + 1, 11, none⟩ = some (.int .i64 0) := cell_heap hq1 11
  have f11 : v1.frozen? ⟨w.heap.size + 1, 11, none⟩ = false := frozen_heap hq1 11
  have q12 : v1.cell? ⟨w.heap.size + 1, 12, none⟩ = some (.int .i64 0) := cell_heap hq1 12
  have f12 : v1.frozen? ⟨w.heap.size + 1, 12, none⟩ = false := frozen_heap hq1 12
  have HW := Lib.hid hw1
  have HQ := Lib.hid hq1
  clear hw1 hw0 hq0 hb1 hB0 hq1 HU c0 c1 c2 c3 c4 c5
  go_wp2_with fail
  go_loop [5] (fun i => ∃ j : Nat, i = .int .i64 j ∧ 3 ≤ j ∧ j ≤ 6 ∧ Hid (∀ k, 3 ≤ k → k < j → [7, x1, x2, x3, x4, x5][k]? = some 0)) (fun i => (6 - intOf i).toNat)
  case atStart => exact ⟨3, rfl, by omega, by omega, Lib.hid (fun k h1 h2 => by omega)⟩
  case round =>
    obtain ⟨j, rfl, hj, hj6, HZ⟩ := hrel
    by_cases hlt : j < 6
    · have d0 : decide ((j : Int) < 6) = true := decide_eq_true (by omega)
      obtain ⟨x, hx⟩ := all_get (ws := [7, x1, x2, x3, x4, x5]) (n := 6) rfl hlt
      have hc : v1.cell? ⟨w.heap.size, j, none⟩ = some (.int .u64 x) := by
        have hj5 : j = 3 ∨ j = 4 ∨ j = 5 := by omega
        rcases hj5 with rfl | rfl | rfl <;> (rw [cell_heap HW.out]; simp at hx; simp [hx])
      have HX := Lib.hid hx
      clear hx
      by_cases x0 : x = 0
      · subst x0
        go_wp2_with fail
        go_round
        case rel => exact ⟨j + 1, by go_num, by omega, by omega, Lib.hid (fun k h1 h2 => by rcases Nat.lt_or_ge k j with h | h; exact HZ.out k h1 h; (obtain rfl : k = j := (by omega)); exact HX.out)⟩
        case measure => simp [intOf]; omega
      · have e0 : (x == 0) = false := beq_false_of_ne x0
        have e1 : (x != 0) = true := by rw [bne, e0]; rfl
        clear x0 HX
        have HALL : Hid ((#[.int .i64 0, .int .i64 0, .int .i64 0, .bool false, .bool false, .bool false, .int .u64 0, .int .i64 0, .int .u64 0, .int .i64 0, .int .i64 0, .int .i64 0, .int .i64 0] : Array Value).all (·.oneCell') = true) := Lib.hid (by simp [Value.oneCell'])
        obtain ⟨fs, hfs⟩ := underR
        have HFS := Lib.hid hfs
        clear hfs
        go_wp2_with (first | (refine wpList_store_row rfl 35 (.tmp 2) (.tmp 24) rfl (w.heap.size + 1) #[.int .i64 0, .int .i64 0, .int .i64 0, .bool false, .bool false, .bool false, .int .u64 0, .int .i64 0, .int .u64 0, .int .i64 0, .int .i64 0, .int .i64 0, .int .i64 0] rfl rfl 35 #[.int .i64 0, .int .i64 0, .int .i64 0, .bool false, .bool false, .bool false, .int .u64 0, .int .i64 0, .int .u64 0, .int .i64 0, .int .i64 0, .int .i64 0, .int .i64 0] HQ.out infoR rfl HALL.out ?_))
        refine bodyPost_ret (results_cell_tmp (p := 2) (q := 3) rfl _ _ (w.heap.size + 1) 35 #[.int .i64 0, .int .i64 0, .int .i64 0, .bool false, .bool false, .bool false, .int .u64 0, .int .i64 0, .int .u64 0, .int .i64 0, .int .i64 0, .int .i64 0, .int .i64 0] (0, 0) fs (.bool false) rfl rfl (setRow_heap _ _ _ _ _ _ HQ.out) HFS.out infoR) rfl ⟨rfl, below_row hB1 (by omega) _⟩
    · exact absurd (fun k h1 h2 => HZ.out k h1 (by omega)) HT.out
set_option maxRecDepth 100000 in
set_option maxHeartbeats 8000000 in
theorem ref_7_bad0 {x1 x2 : Int} (h1 : 0 ≤ x1) (u1 : x1 < 18446744073709551616) (h2 : 0 ≤ x2) (u2 : x2 < 18446744073709551616) (b0 : ¬ (x1 < 256)) (w : World) :
    Calls Try.prog 9 #[.agg #[.int .u64 7, .int .u64 x1, .int .u64 x2, .int .u64 0, .int .u64 0, .int .u64 0]] w fun e w' => e = .returned (.tuple #[.agg #[.int .i64 0, .int .i64 0, .int .i64 0, .bool false, .bool false, .bool false, .int .u64 0, .int .i64 0, .int .u64 0, .int .i64 0, .int .i64 0, .int .i64 0, .int .i64 0], .bool false]) ∧ Below w.heap.size w w' := by
  have d0 : decide (x1 < 256) = false := decide_eq_false b0
  clear b0
  have HU : Hid (∀ W : World, Calls Try.prog 12 #[.int .u64 7] W fun e w' => e = .returned (.int .i64 2) ∧ Below W.heap.size W w') := Lib.hid (fun W => (used_any 7 (by omega) W).mono fun e w' ⟨a, b⟩ => ⟨a, b ▸ Below.refl _ _⟩)
  have hB0 : Below w.heap.size w ((w.alloc (.cells #[.int .u64 7, .int .u64 x1, .int .u64 x2, .int .u64 0, .int .u64 0, .int .u64 0] 23)).alloc (.cells #[.int .i64 0, .int .i64 0, .int .i64 0, .bool false, .bool false, .bool false, .int .u64 0, .int .i64 0, .int .u64 0, .int .i64 0, .int .i64 0, .int .i64 0, .int .i64 0] 35)) := by go_grown
  have hw0 := heap_old (w.alloc (.cells #[.int .u64 7, .int .u64 x1, .int .u64 x2, .int .u64 0, .int .u64 0, .int .u64 0] 23)) (.cells #[.int .i64 0, .int .i64 0, .int .i64 0, .bool false, .bool false, .bool false, .int .u64 0, .int .i64 0, .int .u64 0, .int .i64 0, .int .i64 0, .int .i64 0, .int .i64 0] 35) _ (heap_new w (.cells #[.int .u64 7, .int .u64 x1, .int .u64 x2, .int .u64 0, .int .u64 0, .int .u64 0] 23))
  have hq0 := heap_new (w.alloc (.cells #[.int .u64 7, .int .u64 x1, .int .u64 x2, .int .u64 0, .int .u64 0, .int .u64 0] 23)) (.cells #[.int .i64 0, .int .i64 0, .int .i64 0, .bool false, .bool false, .bool false, .int .u64 0, .int .i64 0, .int .u64 0, .int .i64 0, .int .i64 0, .int .i64 0, .int .i64 0] 35)
  rw [World.size_alloc] at hq0
  go_enter Try.func9, Try.ntmps9
  go_wp2_with fail
  refine (HU.out _).mono ?_
  rintro e v1 ⟨rfl, hb1⟩
  have hw1 := heap_below hb1 hw0
  have hq1 := heap_below hb1 hq0
  have hB1 := b_then hB0 hb1
  have hz1 := heap_lt hw1
  have hz2 := heap_lt hq1
  have c0 : v1.cell? ⟨w.heap.size, 0, none⟩ = some (.int .u64 7) := cell_heap hw1 0
  have c1 : v1.cell? ⟨w.heap.size, 1, none⟩ = some (.int .u64 x1) := cell_heap hw1 1
  have c2 : v1.cell? ⟨w.heap.size, 2, none⟩ = some (.int .u64 x2) := cell_heap hw1 2
  have c3 : v1.cell? ⟨w.heap.size, 3, none⟩ = some (.int .u64 0) := cell_heap hw1 3
  have c4 : v1.cell? ⟨w.heap.size, 4, none⟩ = some (.int .u64 0) := cell_heap hw1 4
  have c5 : v1.cell? ⟨w.heap.size, 5, none⟩ = some (.int .u64 0) := cell_heap hw1 5
  have q0 : v1.cell? ⟨w.heap.size + 1, 0, none⟩ = some (.int .i64 0) := cell_heap hq1 0
  have f0 : v1.frozen? ⟨w.heap.size + 1, 0, none⟩ = false := frozen_heap hq1 0
  have q1 : v1.cell? ⟨w.heap.size + 1, 1, none⟩ = some (.int .i64 0) := cell_heap hq1 1
  have f1 : v1.frozen? ⟨w.heap.size + 1, 1, none⟩ = false := frozen_heap hq1 1
  have q2 : v1.cell? ⟨w.heap.size + 1, 2, none⟩ = some (.int .i64 0) := cell_heap hq1 2
  have f2 : v1.frozen? ⟨w.heap.size + 1, 2, none⟩ = false := frozen_heap hq1 2
  have q3 : v1.cell? ⟨w.heap.size + 1, 3, none⟩ = some (.bool false) := cell_heap hq1 3
  have f3 : v1.frozen? ⟨w.heap.size + 1, 3, none⟩ = false := frozen_heap hq1 3
  have q4 : v1.cell? ⟨w.heap.size + 1, 4, none⟩ = some (.bool false) := cell_heap hq1 4
  have f4 : v1.frozen? ⟨w.heap.size + 1, 4, none⟩ = false := frozen_heap hq1 4
  have q5 : v1.cell? ⟨w.heap.size + 1, 5, none⟩ = some (.bool false) := cell_heap hq1 5
  have f5 : v1.frozen? ⟨w.heap.size + 1, 5, none⟩ = false := frozen_heap hq1 5
  have q6 : v1.cell? ⟨w.heap.size + 1, 6, none⟩ = some (.int .u64 0) := cell_heap hq1 6
  have f6 : v1.frozen? ⟨w.heap.size + 1, 6, none⟩ = false := frozen_heap hq1 6
  have q7 : v1.cell? ⟨w.heap.size + 1, 7, none⟩ = some (.int .i64 0) := cell_heap hq1 7
  have f7 : v1.frozen? ⟨w.heap.size + 1, 7, none⟩ = false := frozen_heap hq1 7
  have q8 : v1.cell? ⟨w.heap.size + 1, 8, none⟩ = some (.int .u64 0) := cell_heap hq1 8
  have f8 : v1.frozen? ⟨w.heap.size + 1, 8, none⟩ = false := frozen_heap hq1 8
  have q9 : v1.cell? ⟨w.heap.size + 1, 9, none⟩ = some (.int .i64 0) := cell_heap hq1 9
  have f9 : v1.frozen? ⟨w.heap.size + 1, 9, none⟩ = false := frozen_heap hq1 9
  have q10 : v1.cell? ⟨w.heap.size + 1, 10, none⟩ = some (.int .i64 0) := cell_heap hq1 10
  have f10 : v1.frozen? ⟨w.heap.size + 1, 10, none⟩ = false := frozen_heap hq1 10
  have q11 : v1.cell? ⟨w.heap.size + 1, 11, none⟩ = some (.int .i64 0) := cell_heap hq1 11
  have f11 : v1.frozen? ⟨w.heap.size + 1, 11, none⟩ = false := frozen_heap hq1 11
  have q12 : v1.cell? ⟨w.heap.size + 1, 12, none⟩ = some (.int .i64 0) := cell_heap hq1 12
  have f12 : v1.frozen? ⟨w.heap.size + 1, 12, none⟩ = false := frozen_heap hq1 12
  have HW := Lib.hid hw1
  have HQ := Lib.hid hq1
  clear hw1 hw0 hq0 hb1 hB0 hq1 HU
  go_wp2_with fail
  go_loop [5] (fun i => ∃ j : Nat, i = .int .i64 j ∧ 3 ≤ j ∧ j ≤ 6) (fun i => (6 - intOf i).toNat)
  case atStart => exact ⟨3, rfl, by omega, by omega⟩
  case round =>
    obtain ⟨j, rfl, hj, hj6⟩ := hrel
    by_cases hlt : j < 6
    · have d9 : decide ((j : Int) < 6) = true := decide_eq_true (by omega)
      have hc : v1.cell? ⟨w.heap.size, j, none⟩ = some (.int .u64 0) := by
        have hj5 : j = 3 ∨ j = 4 ∨ j = 5 := by omega
        rcases hj5 with rfl | rfl | rfl <;> (rw [cell_heap HW.out]; rfl)
      clear c0 c1 c2 c3 c4 c5
      go_wp2_with fail
      go_round
      case rel => exact ⟨j + 1, by go_num, by omega, by omega⟩
      case measure => simp [intOf]; omega
    · have d9 : decide ((j : Int) < 6) = false := decide_eq_false (by omega)
      obtain rfl : j = 6 := by omega
      go_upto_region 58 with fail
      go_cut [233] (fun s7 wx => s7 = .bool true ∧ Below v1.heap.size v1 wx)
      case first => go_wp2_with fail; go_meet; exact ⟨rfl, by go_grown⟩
      case rest =>
        obtain ⟨rfl, hbc⟩ := hcut
        have HQC := Lib.hid (heap_below hbc HQ.out)
        have hzc := heap_lt HQC.out
        have hBc := b_then hB1 hbc
        clear hbc hz1 hz2 q0 f0 q1 f1 q2 f2 q3 f3 q4 f4 q5 f5 q6 f6 q7 f7 q8 f8 q9 f9 q10 f10 q11 f11 q12 f12 c0 c1 c2 c3 c4 c5
        have HALL : Hid ((#[.int .i64 0, .int .i64 0, .int .i64 0, .bool false, .bool false, .bool false, .int .u64 0, .int .i64 0, .int .u64 0, .int .i64 0, .int .i64 0, .int .i64 0, .int .i64 0] : Array Value).all (·.oneCell') = true) := Lib.hid (by simp [Value.oneCell'])
        obtain ⟨fs, hfs⟩ := underR
        have HFS := Lib.hid hfs
        clear hfs
        go_wp2_with (first | (refine wpList_store_row rfl 35 (.tmp 2) (.tmp 234) rfl (w.heap.size + 1) #[.int .i64 0, .int .i64 0, .int .i64 0, .bool false, .bool false, .bool false, .int .u64 0, .int .i64 0, .int .u64 0, .int .i64 0, .int .i64 0, .int .i64 0, .int .i64 0] rfl rfl 35 #[.int .i64 0, .int .i64 0, .int .i64 0, .bool false, .bool false, .bool false, .int .u64 0, .int .i64 0, .int .u64 0, .int .i64 0, .int .i64 0, .int .i64 0, .int .i64 0] HQC.out infoR rfl HALL.out ?_))
        refine bodyPost_ret (results_cell_tmp (p := 2) (q := 3) rfl _ _ (w.heap.size + 1) 35 #[.int .i64 0, .int .i64 0, .int .i64 0, .bool false, .bool false, .bool false, .int .u64 0, .int .i64 0, .int .u64 0, .int .i64 0, .int .i64 0, .int .i64 0, .int .i64 0] (0, 0) fs (.bool false) rfl rfl (setRow_heap _ _ _ _ _ _ HQC.out) HFS.out infoR) rfl ⟨rfl, below_row hBc (by omega) _⟩
set_option maxRecDepth 100000 in
set_option maxHeartbeats 8000000 in
theorem ref_7_bad1 {x1 x2 : Int} (h1 : 0 ≤ x1) (u1 : x1 < 18446744073709551616) (h2 : 0 ≤ x2) (u2 : x2 < 18446744073709551616) (b0 : x1 < 256) (b1 : ¬ (x2 < 34359738368)) (w : World) :
    Calls Try.prog 9 #[.agg #[.int .u64 7, .int .u64 x1, .int .u64 x2, .int .u64 0, .int .u64 0, .int .u64 0]] w fun e w' => e = .returned (.tuple #[.agg #[.int .i64 0, .int .i64 0, .int .i64 0, .bool false, .bool false, .bool false, .int .u64 0, .int .i64 0, .int .u64 0, .int .i64 0, .int .i64 0, .int .i64 0, .int .i64 0], .bool false]) ∧ Below w.heap.size w w' := by
  have d0 : decide (x1 < 256) = true := decide_eq_true b0
  have d1 : decide (x2 < 34359738368) = false := decide_eq_false b1
  clear b1
  have HU : Hid (∀ W : World, Calls Try.prog 12 #[.int .u64 7] W fun e w' => e = .returned (.int .i64 2) ∧ Below W.heap.size W w') := Lib.hid (fun W => (used_any 7 (by omega) W).mono fun e w' ⟨a, b⟩ => ⟨a, b ▸ Below.refl _ _⟩)
  have hB0 : Below w.heap.size w ((w.alloc (.cells #[.int .u64 7, .int .u64 x1, .int .u64 x2, .int .u64 0, .int .u64 0, .int .u64 0] 23)).alloc (.cells #[.int .i64 0, .int .i64 0, .int .i64 0, .bool false, .bool false, .bool false, .int .u64 0, .int .i64 0, .int .u64 0, .int .i64 0, .int .i64 0, .int .i64 0, .int .i64 0] 35)) := by go_grown
  have hw0 := heap_old (w.alloc (.cells #[.int .u64 7, .int .u64 x1, .int .u64 x2, .int .u64 0, .int .u64 0, .int .u64 0] 23)) (.cells #[.int .i64 0, .int .i64 0, .int .i64 0, .bool false, .bool false, .bool false, .int .u64 0, .int .i64 0, .int .u64 0, .int .i64 0, .int .i64 0, .int .i64 0, .int .i64 0] 35) _ (heap_new w (.cells #[.int .u64 7, .int .u64 x1, .int .u64 x2, .int .u64 0, .int .u64 0, .int .u64 0] 23))
  have hq0 := heap_new (w.alloc (.cells #[.int .u64 7, .int .u64 x1, .int .u64 x2, .int .u64 0, .int .u64 0, .int .u64 0] 23)) (.cells #[.int .i64 0, .int .i64 0, .int .i64 0, .bool false, .bool false, .bool false, .int .u64 0, .int .i64 0, .int .u64 0, .int .i64 0, .int .i64 0, .int .i64 0, .int .i64 0] 35)
  rw [World.size_alloc] at hq0
  go_enter Try.func9, Try.ntmps9
  go_wp2_with fail
  refine (HU.out _).mono ?_
  rintro e v1 ⟨rfl, hb1⟩
  have hw1 := heap_below hb1 hw0
  have hq1 := heap_below hb1 hq0
  have hB1 := b_then hB0 hb1
  have hz1 := heap_lt hw1
  have hz2 := heap_lt hq1
  have c0 : v1.cell? ⟨w.heap.size, 0, none⟩ = some (.int .u64 7) := cell_heap hw1 0
  have c1 : v1.cell? ⟨w.heap.size, 1, none⟩ = some (.int .u64 x1) := cell_heap hw1 1
  have c2 : v1.cell? ⟨w.heap.size, 2, none⟩ = some (.int .u64 x2) := cell_heap hw1 2
  have c3 : v1.cell? ⟨w.heap.size, 3, none⟩ = some (.int .u64 0) := cell_heap hw1 3
  have c4 : v1.cell? ⟨w.heap.size, 4, none⟩ = some (.int .u64 0) := cell_heap hw1 4
  have c5 : v1.cell? ⟨w.heap.size, 5, none⟩ = some (.int .u64 0) := cell_heap hw1 5
  have q0 : v1.cell? ⟨w.heap.size + 1, 0, none⟩ = some (.int .i64 0) := cell_heap hq1 0
  have f0 : v1.frozen? ⟨w.heap.size + 1, 0, none⟩ = false := frozen_heap hq1 0
  have q1 : v1.cell? ⟨w.heap.size + 1, 1, none⟩ = some (.int .i64 0) := cell_heap hq1 1
  have f1 : v1.frozen? ⟨w.heap.size + 1, 1, none⟩ = false := frozen_heap hq1 1
  have q2 : v1.cell? ⟨w.heap.size + 1, 2, none⟩ = some (.int .i64 0) := cell_heap hq1 2
  have f2 : v1.frozen? ⟨w.heap.size + 1, 2, none⟩ = false := frozen_heap hq1 2
  have q3 : v1.cell? ⟨w.heap.size + 1, 3, none⟩ = some (.bool false) := cell_heap hq1 3
  have f3 : v1.frozen? ⟨w.heap.size + 1, 3, none⟩ = false := frozen_heap hq1 3
  have q4 : v1.cell? ⟨w.heap.size + 1, 4, none⟩ = some (.bool false) := cell_heap hq1 4
  have f4 : v1.frozen? ⟨w.heap.size + 1, 4, none⟩ = false := frozen_heap hq1 4
  have q5 : v1.cell? ⟨w.heap.size + 1, 5, none⟩ = some (.bool false) := cell_heap hq1 5
  have f5 : v1.frozen? ⟨w.heap.size + 1, 5, none⟩ = false := frozen_heap hq1 5
  have q6 : v1.cell? ⟨w.heap.size + 1, 6, none⟩ = some (.int .u64 0) := cell_heap hq1 6
  have f6 : v1.frozen? ⟨w.heap.size + 1, 6, none⟩ = false := frozen_heap hq1 6
  have q7 : v1.cell? ⟨w.heap.size + 1, 7, none⟩ = some (.int .i64 0) := cell_heap hq1 7
  have f7 : v1.frozen? ⟨w.heap.size + 1, 7, none⟩ = false := frozen_heap hq1 7
  have q8 : v1.cell? ⟨w.heap.size + 1, 8, none⟩ = some (.int .u64 0) := cell_heap hq1 8
  have f8 : v1.frozen? ⟨w.heap.size + 1, 8, none⟩ = false := frozen_heap hq1 8
  have q9 : v1.cell? ⟨w.heap.size + 1, 9, none⟩ = some (.int .i64 0) := cell_heap hq1 9
  have f9 : v1.frozen? ⟨w.heap.size + 1, 9, none⟩ = false := frozen_heap hq1 9
  have q10 : v1.cell? ⟨w.heap.size + 1, 10, none⟩ = some (.int .i64 0) := cell_heap hq1 10
  have f10 : v1.frozen? ⟨w.heap.size + 1, 10, none⟩ = false := frozen_heap hq1 10
  have q11 : v1.cell? ⟨w.heap.size + 1, 11, none⟩ = some (.int .i64 0) := cell_heap hq1 11
  have f11 : v1.frozen? ⟨w.heap.size + 1, 11, none⟩ = false := frozen_heap hq1 11
  have q12 : v1.cell? ⟨w.heap.size + 1, 12, none⟩ = some (.int .i64 0) := cell_heap hq1 12
  have f12 : v1.frozen? ⟨w.heap.size + 1, 12, none⟩ = false := frozen_heap hq1 12
  have HW := Lib.hid hw1
  have HQ := Lib.hid hq1
  clear hw1 hw0 hq0 hb1 hB0 hq1 HU
  go_wp2_with fail
  go_loop [5] (fun i => ∃ j : Nat, i = .int .i64 j ∧ 3 ≤ j ∧ j ≤ 6) (fun i => (6 - intOf i).toNat)
  case atStart => exact ⟨3, rfl, by omega, by omega⟩
  case round =>
    obtain ⟨j, rfl, hj, hj6⟩ := hrel
    by_cases hlt : j < 6
    · have d9 : decide ((j : Int) < 6) = true := decide_eq_true (by omega)
      have hc : v1.cell? ⟨w.heap.size, j, none⟩ = some (.int .u64 0) := by
        have hj5 : j = 3 ∨ j = 4 ∨ j = 5 := by omega
        rcases hj5 with rfl | rfl | rfl <;> (rw [cell_heap HW.out]; rfl)
      clear c0 c1 c2 c3 c4 c5
      go_wp2_with fail
      go_round
      case rel => exact ⟨j + 1, by go_num, by omega, by omega⟩
      case measure => simp [intOf]; omega
    · have d9 : decide ((j : Int) < 6) = false := decide_eq_false (by omega)
      obtain rfl : j = 6 := by omega
      go_upto_region 58 with fail
      go_cut [233] (fun s7 wx => s7 = .bool true ∧ Below v1.heap.size v1 wx)
      case first => go_wp2_with fail; go_meet; exact ⟨rfl, by go_grown⟩
      case rest =>
        obtain ⟨rfl, hbc⟩ := hcut
        have HQC := Lib.hid (heap_below hbc HQ.out)
        have hzc := heap_lt HQC.out
        have hBc := b_then hB1 hbc
        clear hbc hz1 hz2 q0 f0 q1 f1 q2 f2 q3 f3 q4 f4 q5 f5 q6 f6 q7 f7 q8 f8 q9 f9 q10 f10 q11 f11 q12 f12 c0 c1 c2 c3 c4 c5
        have HALL : Hid ((#[.int .i64 0, .int .i64 0, .int .i64 0, .bool false, .bool false, .bool false, .int .u64 0, .int .i64 0, .int .u64 0, .int .i64 0, .int .i64 0, .int .i64 0, .int .i64 0] : Array Value).all (·.oneCell') = true) := Lib.hid (by simp [Value.oneCell'])
        obtain ⟨fs, hfs⟩ := underR
        have HFS := Lib.hid hfs
        clear hfs
        go_wp2_with (first | (refine wpList_store_row rfl 35 (.tmp 2) (.tmp 234) rfl (w.heap.size + 1) #[.int .i64 0, .int .i64 0, .int .i64 0, .bool false, .bool false, .bool false, .int .u64 0, .int .i64 0, .int .u64 0, .int .i64 0, .int .i64 0, .int .i64 0, .int .i64 0] rfl rfl 35 #[.int .i64 0, .int .i64 0, .int .i64 0, .bool false, .bool false, .bool false, .int .u64 0, .int .i64 0, .int .u64 0, .int .i64 0, .int .i64 0, .int .i64 0, .int .i64 0] HQC.out infoR rfl HALL.out ?_))
        refine bodyPost_ret (results_cell_tmp (p := 2) (q := 3) rfl _ _ (w.heap.size + 1) 35 #[.int .i64 0, .int .i64 0, .int .i64 0, .bool false, .bool false, .bool false, .int .u64 0, .int .i64 0, .int .u64 0, .int .i64 0, .int .i64 0, .int .i64 0, .int .i64 0] (0, 0) fs (.bool false) rfl rfl (setRow_heap _ _ _ _ _ _ HQC.out) HFS.out infoR) rfl ⟨rfl, below_row hBc (by omega) _⟩
set_option maxRecDepth 100000 in
set_option maxHeartbeats 8000000 in
theorem ref_7_ok {x1 x2 : Int} (h1 : 0 ≤ x1) (u1 : x1 < 18446744073709551616) (h2 : 0 ≤ x2) (u2 : x2 < 18446744073709551616) (b0 : x1 < 256) (b1 : x2 < 34359738368) (w : World) :
    Calls Try.prog 9 #[.agg #[.int .u64 7, .int .u64 x1, .int .u64 x2, .int .u64 0, .int .u64 0, .int .u64 0]] w fun e w' => e = .returned (.tuple #[.agg #[.int .i64 7, .int .i64 x2, .int .i64 (x2 + 1), .bool false, .bool false, .bool false, .int .u64 0, .int .i64 0, .int .u64 0, .int .i64 x1, .int .i64 0, .int .i64 0, .int .i64 0], .bool true]) ∧ Below w.heap.size w w' := by
  have d0 : decide (x1 < 256) = true := decide_eq_true b0
  have d1 : decide (x2 < 34359738368) = true := decide_eq_true b1
  have HU : Hid (∀ W : World, Calls Try.prog 12 #[.int .u64 7] W fun e w' => e = .returned (.int .i64 2) ∧ Below W.heap.size W w') := Lib.hid (fun W => (used_any 7 (by omega) W).mono fun e w' ⟨a, b⟩ => ⟨a, b ▸ Below.refl _ _⟩)
  have hB0 : Below w.heap.size w ((w.alloc (.cells #[.int .u64 7, .int .u64 x1, .int .u64 x2, .int .u64 0, .int .u64 0, .int .u64 0] 23)).alloc (.cells #[.int .i64 0, .int .i64 0, .int .i64 0, .bool false, .bool false, .bool false, .int .u64 0, .int .i64 0, .int .u64 0, .int .i64 0, .int .i64 0, .int .i64 0, .int .i64 0] 35)) := by go_grown
  have hw0 := heap_old (w.alloc (.cells #[.int .u64 7, .int .u64 x1, .int .u64 x2, .int .u64 0, .int .u64 0, .int .u64 0] 23)) (.cells #[.int .i64 0, .int .i64 0, .int .i64 0, .bool false, .bool false, .bool false, .int .u64 0, .int .i64 0, .int .u64 0, .int .i64 0, .int .i64 0, .int .i64 0, .int .i64 0] 35) _ (heap_new w (.cells #[.int .u64 7, .int .u64 x1, .int .u64 x2, .int .u64 0, .int .u64 0, .int .u64 0] 23))
  have hq0 := heap_new (w.alloc (.cells #[.int .u64 7, .int .u64 x1, .int .u64 x2, .int .u64 0, .int .u64 0, .int .u64 0] 23)) (.cells #[.int .i64 0, .int .i64 0, .int .i64 0, .bool false, .bool false, .bool false, .int .u64 0, .int .i64 0, .int .u64 0, .int .i64 0, .int .i64 0, .int .i64 0, .int .i64 0] 35)
  rw [World.size_alloc] at hq0
  go_enter Try.func9, Try.ntmps9
  go_wp2_with fail
  refine (HU.out _).mono ?_
  rintro e v1 ⟨rfl, hb1⟩
  have hw1 := heap_below hb1 hw0
  have hq1 := heap_below hb1 hq0
  have hB1 := b_then hB0 hb1
  have hz1 := heap_lt hw1
  have hz2 := heap_lt hq1
  have c0 : v1.cell? ⟨w.heap.size, 0, none⟩ = some (.int .u64 7) := cell_heap hw1 0
  have c1 : v1.cell? ⟨w.heap.size, 1, none⟩ = some (.int .u64 x1) := cell_heap hw1 1
  have c2 : v1.cell? ⟨w.heap.size, 2, none⟩ = some (.int .u64 x2) := cell_heap hw1 2
  have c3 : v1.cell? ⟨w.heap.size, 3, none⟩ = some (.int .u64 0) := cell_heap hw1 3
  have c4 : v1.cell? ⟨w.heap.size, 4, none⟩ = some (.int .u64 0) := cell_heap hw1 4
  have c5 : v1.cell? ⟨w.heap.size, 5, none⟩ = some (.int .u64 0) := cell_heap hw1 5
  have q0 : v1.cell? ⟨w.heap.size + 1, 0, none⟩ = some (.int .i64 0) := cell_heap hq1 0
  have f0 : v1.frozen? ⟨w.heap.size + 1, 0, none⟩ = false := frozen_heap hq1 0
  have q1 : v1.cell? ⟨w.heap.size + 1, 1, none⟩ = some (.int .i64 0) := cell_heap hq1 1
  have f1 : v1.frozen? ⟨w.heap.size + 1, 1, none⟩ = false := frozen_heap hq1 1
  have q2 : v1.cell? ⟨w.heap.size + 1, 2, none⟩ = some (.int .i64 0) := cell_heap hq1 2
  have f2 : v1.frozen? ⟨w.heap.size + 1, 2, none⟩ = false := frozen_heap hq1 2
  have q3 : v1.cell? ⟨w.heap.size + 1, 3, none⟩ = some (.bool false) := cell_heap hq1 3
  have f3 : v1.frozen? ⟨w.heap.size + 1, 3, none⟩ = false := frozen_heap hq1 3
  have q4 : v1.cell? ⟨w.heap.size + 1, 4, none⟩ = some (.bool false) := cell_heap hq1 4
  have f4 : v1.frozen? ⟨w.heap.size + 1, 4, none⟩ = false := frozen_heap hq1 4
  have q5 : v1.cell? ⟨w.heap.size + 1, 5, none⟩ = some (.bool false) := cell_heap hq1 5
  have f5 : v1.frozen? ⟨w.heap.size + 1, 5, none⟩ = false := frozen_heap hq1 5
  have q6 : v1.cell? ⟨w.heap.size + 1, 6, none⟩ = some (.int .u64 0) := cell_heap hq1 6
  have f6 : v1.frozen? ⟨w.heap.size + 1, 6, none⟩ = false := frozen_heap hq1 6
  have q7 : v1.cell? ⟨w.heap.size + 1, 7, none⟩ = some (.int .i64 0) := cell_heap hq1 7
  have f7 : v1.frozen? ⟨w.heap.size + 1, 7, none⟩ = false := frozen_heap hq1 7
  have q8 : v1.cell? ⟨w.heap.size + 1, 8, none⟩ = some (.int .u64 0) := cell_heap hq1 8
  have f8 : v1.frozen? ⟨w.heap.size + 1, 8, none⟩ = false := frozen_heap hq1 8
  have q9 : v1.cell? ⟨w.heap.size + 1, 9, none⟩ = some (.int .i64 0) := cell_heap hq1 9
  have f9 : v1.frozen? ⟨w.heap.size + 1, 9, none⟩ = false := frozen_heap hq1 9
  have q10 : v1.cell? ⟨w.heap.size + 1, 10, none⟩ = some (.int .i64 0) := cell_heap hq1 10
  have f10 : v1.frozen? ⟨w.heap.size + 1, 10, none⟩ = false := frozen_heap hq1 10
  have q11 : v1.cell? ⟨w.heap.size + 1, 11, none⟩ = some (.int .i64 0) := cell_heap hq1 11
  have f11 : v1.frozen? ⟨w.heap.size + 1, 11, none⟩ = false := frozen_heap hq1 11
  have q12 : v1.cell? ⟨w.heap.size + 1, 12, none⟩ = some (.int .i64 0) := cell_heap hq1 12
  have f12 : v1.frozen? ⟨w.heap.size + 1, 12, none⟩ = false := frozen_heap hq1 12
  have HW := Lib.hid hw1
  have HQ := Lib.hid hq1
  clear hw1 hw0 hq0 hb1 hB0 hq1 HU
  go_wp2_with fail
  go_loop [5] (fun i => ∃ j : Nat, i = .int .i64 j ∧ 3 ≤ j ∧ j ≤ 6) (fun i => (6 - intOf i).toNat)
  case atStart => exact ⟨3, rfl, by omega, by omega⟩
  case round =>
    obtain ⟨j, rfl, hj, hj6⟩ := hrel
    by_cases hlt : j < 6
    · have d9 : decide ((j : Int) < 6) = true := decide_eq_true (by omega)
      have hc : v1.cell? ⟨w.heap.size, j, none⟩ = some (.int .u64 0) := by
        have hj5 : j = 3 ∨ j = 4 ∨ j = 5 := by omega
        rcases hj5 with rfl | rfl | rfl <;> (rw [cell_heap HW.out]; rfl)
      clear c0 c1 c2 c3 c4 c5
      go_wp2_with fail
      go_round
      case rel => exact ⟨j + 1, by go_num, by omega, by omega⟩
      case measure => simp [intOf]; omega
    · have d9 : decide ((j : Int) < 6) = false := decide_eq_false (by omega)
      obtain rfl : j = 6 := by omega
      go_upto_region 58 with fail
      go_cut [233] (fun s7 wx => s7 = .bool false ∧ Below v1.heap.size v1 wx ∧ wx.heap[v1.heap.size]? = some (.cells #[.int .i64 7, .int .i64 x2, .int .i64 (x2 + 1), .bool false, .bool false, .bool false, .int .u64 0, .int .i64 0, .int .u64 0, .int .i64 x1, .int .i64 0, .int .i64 0, .int .i64 0] 35 (0, 0)))
      case first => go_wp2_with fail; go_meet; exact ⟨rfl, by go_grown, heap_new _ _⟩
      case rest =>
        obtain ⟨rfl, hbc, hr⟩ := hcut
        have HQC := Lib.hid (heap_below hbc HQ.out)
        have hzc := heap_lt HQC.out
        have hBc := b_then hB1 hbc
        clear hbc hz1 hz2 q0 f0 q1 f1 q2 f2 q3 f3 q4 f4 q5 f5 q6 f6 q7 f7 q8 f8 q9 f9 q10 f10 q11 f11 q12 f12 c0 c1 c2 c3 c4 c5
        have HALL : Hid ((#[.int .i64 7, .int .i64 x2, .int .i64 (x2 + 1), .bool false, .bool false, .bool false, .int .u64 0, .int .i64 0, .int .u64 0, .int .i64 x1, .int .i64 0, .int .i64 0, .int .i64 0] : Array Value).all (·.oneCell') = true) := Lib.hid (by simp [Value.oneCell'])
        obtain ⟨fs, hfs⟩ := underR
        have HFS := Lib.hid hfs
        have HRR := Lib.hid hr
        clear hr
        clear hfs
        go_wp2_with (first | (refine wpList_load_row rfl 35 (.tmp 6) rfl v1.heap.size rfl 35 #[.int .i64 7, .int .i64 x2, .int .i64 (x2 + 1), .bool false, .bool false, .bool false, .int .u64 0, .int .i64 0, .int .u64 0, .int .i64 x1, .int .i64 0, .int .i64 0, .int .i64 0] (0, 0) (.struct fs) HRR.out HFS.out rfl infoR ?_) | (refine wpList_store_row rfl 35 (.tmp 2) (.tmp 235) rfl (w.heap.size + 1) #[.int .i64 7, .int .i64 x2, .int .i64 (x2 + 1), .bool false, .bool false, .bool false, .int .u64 0, .int .i64 0, .int .u64 0, .int .i64 x1, .int .i64 0, .int .i64 0, .int .i64 0] rfl rfl 35 #[.int .i64 0, .int .i64 0, .int .i64 0, .bool false, .bool false, .bool false, .int .u64 0, .int .i64 0, .int .u64 0, .int .i64 0, .int .i64 0, .int .i64 0, .int .i64 0] HQC.out infoR rfl HALL.out ?_))
        refine bodyPost_ret (results_cell_tmp (p := 2) (q := 3) rfl _ _ (w.heap.size + 1) 35 #[.int .i64 7, .int .i64 x2, .int .i64 (x2 + 1), .bool false, .bool false, .bool false, .int .u64 0, .int .i64 0, .int .u64 0, .int .i64 x1, .int .i64 0, .int .i64 0, .int .i64 0] (0, 0) fs (.bool true) rfl rfl (setRow_heap _ _ _ _ _ _ HQC.out) HFS.out infoR) rfl ⟨rfl, below_row hBc (by omega) _⟩
set_option maxRecDepth 100000 in
set_option maxHeartbeats 8000000 in
theorem ref_8_tail {x1 x2 x3 x4 x5 : Int} (h1 : 0 ≤ x1) (u1 : x1 < 18446744073709551616) (h2 : 0 ≤ x2) (u2 : x2 < 18446744073709551616) (h3 : 0 ≤ x3) (u3 : x3 < 18446744073709551616) (h4 : 0 ≤ x4) (u4 : x4 < 18446744073709551616) (h5 : 0 ≤ x5) (u5 : x5 < 18446744073709551616) (b0 : ¬ Tail [8, x1, x2, x3, x4, x5] 2) (w : World) :
    Calls Try.prog 9 #[.agg #[.int .u64 8, .int .u64 x1, .int .u64 x2, .int .u64 x3, .int .u64 x4, .int .u64 x5]] w fun e w' => e = .returned (.tuple #[.agg #[.int .i64 0, .int .i64 0, .int .i64 0, .bool false, .bool false, .bool false, .int .u64 0, .int .i64 0, .int .u64 0, .int .i64 0, .int .i64 0, .int .i64 0, .int .i64 0], .bool false]) ∧ Below w.heap.size w w' := by
  have HT := Lib.hid b0
  clear b0
  have HU : Hid (∀ W : World, Calls Try.prog 12 #[.int .u64 8] W fun e w' => e = .returned (.int .i64 1) ∧ Below W.heap.size W w') := Lib.hid (fun W => (used_any 8 (by omega) W).mono fun e w' ⟨a, b⟩ => ⟨a, b ▸ Below.refl _ _⟩)
  have hB0 : Below w.heap.size w ((w.alloc (.cells #[.int .u64 8, .int .u64 x1, .int .u64 x2, .int .u64 x3, .int .u64 x4, .int .u64 x5] 23)).alloc (.cells #[.int .i64 0, .int .i64 0, .int .i64 0, .bool false, .bool false, .bool false, .int .u64 0, .int .i64 0, .int .u64 0, .int .i64 0, .int .i64 0, .int .i64 0, .int .i64 0] 35)) := by go_grown
  have hw0 := heap_old (w.alloc (.cells #[.int .u64 8, .int .u64 x1, .int .u64 x2, .int .u64 x3, .int .u64 x4, .int .u64 x5] 23)) (.cells #[.int .i64 0, .int .i64 0, .int .i64 0, .bool false, .bool false, .bool false, .int .u64 0, .int .i64 0, .int .u64 0, .int .i64 0, .int .i64 0, .int .i64 0, .int .i64 0] 35) _ (heap_new w (.cells #[.int .u64 8, .int .u64 x1, .int .u64 x2, .int .u64 x3, .int .u64 x4, .int .u64 x5] 23))
  have hq0 := heap_new (w.alloc (.cells #[.int .u64 8, .int .u64 x1, .int .u64 x2, .int .u64 x3, .int .u64 x4, .int .u64 x5] 23)) (.cells #[.int .i64 0, .int .i64 0, .int .i64 0, .bool false, .bool false, .bool false, .int .u64 0, .int .i64 0, .int .u64 0, .int .i64 0, .int .i64 0, .int .i64 0, .int .i64 0] 35)
  rw [World.size_alloc] at hq0
  go_enter Try.func9, Try.ntmps9
  go_wp2_with fail
  refine (HU.out _).mono ?_
  rintro e v1 ⟨rfl, hb1⟩
  have hw1 := heap_below hb1 hw0
  have hq1 := heap_below hb1 hq0
  have hB1 := b_then hB0 hb1
  have hz1 := heap_lt hw1
  have hz2 := heap_lt hq1
  have c0 : v1.cell? ⟨w.heap.size, 0, none⟩ = some (.int .u64 8) := cell_heap hw1 0
  have c1 : v1.cell? ⟨w.heap.size, 1, none⟩ = some (.int .u64 x1) := cell_heap hw1 1
  have c2 : v1.cell? ⟨w.heap.size, 2, none⟩ = some (.int .u64 x2) := cell_heap hw1 2
  have c3 : v1.cell? ⟨w.heap.size, 3, none⟩ = some (.int .u64 x3) := cell_heap hw1 3
  have c4 : v1.cell? ⟨w.heap.size, 4, none⟩ = some (.int .u64 x4) := cell_heap hw1 4
  have c5 : v1.cell? ⟨w.heap.size, 5, none⟩ = some (.int .u64 x5) := cell_heap hw1 5
  have q0 : v1.cell? ⟨w.heap.size + 1, 0, none⟩ = some (.int .i64 0) := cell_heap hq1 0
  have f0 : v1.frozen? ⟨w.heap.size + 1, 0, none⟩ = false := frozen_heap hq1 0
  have q1 : v1.cell? ⟨w.heap.size + 1, 1, none⟩ = some (.int .i64 0) := cell_heap hq1 1
  have f1 : v1.frozen? ⟨w.heap.size + 1, 1, none⟩ = false := frozen_heap hq1 1
  have q2 : v1.cell? ⟨w.heap.size + 1, 2, none⟩ = some (.int .i64 0) := cell_heap hq1 2
  have f2 : v1.frozen? ⟨w.heap.size + 1, 2, none⟩ = false := frozen_heap hq1 2
  have q3 : v1.cell? ⟨w.heap.size + 1, 3, none⟩ = some (.bool false) := cell_heap hq1 3
  have f3 : v1.frozen? ⟨w.heap.size + 1, 3, none⟩ = false := frozen_heap hq1 3
  have q4 : v1.cell? ⟨w.heap.size + 1, 4, none⟩ = some (.bool false) := cell_heap hq1 4
  have f4 : v1.frozen? ⟨w.heap.size + 1, 4, none⟩ = false := frozen_heap hq1 4
  have q5 : v1.cell? ⟨w.heap.size + 1, 5, none⟩ = some (.bool false) := cell_heap hq1 5
  have f5 : v1.frozen? ⟨w.heap.size + 1, 5, none⟩ = false := frozen_heap hq1 5
  have q6 : v1.cell? ⟨w.heap.size + 1, 6, none⟩ = some (.int .u64 0) := cell_heap hq1 6
  have f6 : v1.frozen? ⟨w.heap.size + 1, 6, none⟩ = false := frozen_heap hq1 6
  have q7 : v1.cell? ⟨w.heap.size + 1, 7, none⟩ = some (.int .i64 0) := cell_heap hq1 7
  have f7 : v1.frozen? ⟨w.heap.size + 1, 7, none⟩ = false := frozen_heap hq1 7
  have q8 : v1.cell? ⟨w.heap.size + 1, 8, none⟩ = some (.int .u64 0) := cell_heap hq1 8
  have f8 : v1.frozen? ⟨w.heap.size + 1, 8, none⟩ = false := frozen_heap hq1 8
  have q9 : v1.cell? ⟨w.heap.size + 1, 9, none⟩ = some (.int .i64 0) := cell_heap hq1 9
  have f9 : v1.frozen? ⟨w.heap.size + 1, 9, none⟩ = false := frozen_heap hq1 9
  have q10 : v1.cell? ⟨w.heap.size + 1, 10, none⟩ = some (.int .i64 0) := cell_heap hq1 10
  have f10 : v1.frozen? ⟨w.heap.size + 1, 10, none⟩ = false := frozen_heap hq1 10
  have q11 : v1.cell? ⟨w.heap.size + 1, 11, none⟩ = some (.int .i64 0) := cell_heap hq1 11
  have f11 : v1.frozen? ⟨w.heap.size + 1, 11, none⟩ = false := frozen_heap hq1 11
  have q12 : v1.cell? ⟨w.heap.size + 1, 12, none⟩ = some (.int .i64 0) := cell_heap hq1 12
  have f12 : v1.frozen? ⟨w.heap.size + 1, 12, none⟩ = false := frozen_heap hq1 12
  have HW := Lib.hid hw1
  have HQ := Lib.hid hq1
  clear hw1 hw0 hq0 hb1 hB0 hq1 HU c0 c1 c2 c3 c4 c5
  go_wp2_with fail
  go_loop [5] (fun i => ∃ j : Nat, i = .int .i64 j ∧ 2 ≤ j ∧ j ≤ 6 ∧ Hid (∀ k, 2 ≤ k → k < j → [8, x1, x2, x3, x4, x5][k]? = some 0)) (fun i => (6 - intOf i).toNat)
  case atStart => exact ⟨2, rfl, by omega, by omega, Lib.hid (fun k h1 h2 => by omega)⟩
  case round =>
    obtain ⟨j, rfl, hj, hj6, HZ⟩ := hrel
    by_cases hlt : j < 6
    · have d0 : decide ((j : Int) < 6) = true := decide_eq_true (by omega)
      obtain ⟨x, hx⟩ := all_get (ws := [8, x1, x2, x3, x4, x5]) (n := 6) rfl hlt
      have hc : v1.cell? ⟨w.heap.size, j, none⟩ = some (.int .u64 x) := by
        have hj5 : j = 2 ∨ j = 3 ∨ j = 4 ∨ j = 5 := by omega
        rcases hj5 with rfl | rfl | rfl | rfl <;> (rw [cell_heap HW.out]; simp at hx; simp [hx])
      have HX := Lib.hid hx
      clear hx
      by_cases x0 : x = 0
      · subst x0
        go_wp2_with fail
        go_round
        case rel => exact ⟨j + 1, by go_num, by omega, by omega, Lib.hid (fun k h1 h2 => by rcases Nat.lt_or_ge k j with h | h; exact HZ.out k h1 h; (obtain rfl : k = j := (by omega)); exact HX.out)⟩
        case measure => simp [intOf]; omega
      · have e0 : (x == 0) = false := beq_false_of_ne x0
        have e1 : (x != 0) = true := by rw [bne, e0]; rfl
        clear x0 HX
        have HALL : Hid ((#[.int .i64 0, .int .i64 0, .int .i64 0, .bool false, .bool false, .bool false, .int .u64 0, .int .i64 0, .int .u64 0, .int .i64 0, .int .i64 0, .int .i64 0, .int .i64 0] : Array Value).all (·.oneCell') = true) := Lib.hid (by simp [Value.oneCell'])
        obtain ⟨fs, hfs⟩ := underR
        have HFS := Lib.hid hfs
        clear hfs
        go_wp2_with (first | (refine wpList_store_row rfl 35 (.tmp 2) (.tmp 24) rfl (w.heap.size + 1) #[.int .i64 0, .int .i64 0, .int .i64 0, .bool false, .bool false, .bool false, .int .u64 0, .int .i64 0, .int .u64 0, .int .i64 0, .int .i64 0, .int .i64 0, .int .i64 0] rfl rfl 35 #[.int .i64 0, .int .i64 0, .int .i64 0, .bool false, .bool false, .bool false, .int .u64 0, .int .i64 0, .int .u64 0, .int .i64 0, .int .i64 0, .int .i64 0, .int .i64 0] HQ.out infoR rfl HALL.out ?_))
        refine bodyPost_ret (results_cell_tmp (p := 2) (q := 3) rfl _ _ (w.heap.size + 1) 35 #[.int .i64 0, .int .i64 0, .int .i64 0, .bool false, .bool false, .bool false, .int .u64 0, .int .i64 0, .int .u64 0, .int .i64 0, .int .i64 0, .int .i64 0, .int .i64 0] (0, 0) fs (.bool false) rfl rfl (setRow_heap _ _ _ _ _ _ HQ.out) HFS.out infoR) rfl ⟨rfl, below_row hB1 (by omega) _⟩
    · exact absurd (fun k h1 h2 => HZ.out k h1 (by omega)) HT.out
set_option maxRecDepth 100000 in
set_option maxHeartbeats 8000000 in
theorem ref_8_bad0 {x1 : Int} (h1 : 0 ≤ x1) (u1 : x1 < 18446744073709551616) (b0 : ¬ (x1 < 256)) (w : World) :
    Calls Try.prog 9 #[.agg #[.int .u64 8, .int .u64 x1, .int .u64 0, .int .u64 0, .int .u64 0, .int .u64 0]] w fun e w' => e = .returned (.tuple #[.agg #[.int .i64 0, .int .i64 0, .int .i64 0, .bool false, .bool false, .bool false, .int .u64 0, .int .i64 0, .int .u64 0, .int .i64 0, .int .i64 0, .int .i64 0, .int .i64 0], .bool false]) ∧ Below w.heap.size w w' := by
  have d0 : decide (x1 < 256) = false := decide_eq_false b0
  clear b0
  have HU : Hid (∀ W : World, Calls Try.prog 12 #[.int .u64 8] W fun e w' => e = .returned (.int .i64 1) ∧ Below W.heap.size W w') := Lib.hid (fun W => (used_any 8 (by omega) W).mono fun e w' ⟨a, b⟩ => ⟨a, b ▸ Below.refl _ _⟩)
  have hB0 : Below w.heap.size w ((w.alloc (.cells #[.int .u64 8, .int .u64 x1, .int .u64 0, .int .u64 0, .int .u64 0, .int .u64 0] 23)).alloc (.cells #[.int .i64 0, .int .i64 0, .int .i64 0, .bool false, .bool false, .bool false, .int .u64 0, .int .i64 0, .int .u64 0, .int .i64 0, .int .i64 0, .int .i64 0, .int .i64 0] 35)) := by go_grown
  have hw0 := heap_old (w.alloc (.cells #[.int .u64 8, .int .u64 x1, .int .u64 0, .int .u64 0, .int .u64 0, .int .u64 0] 23)) (.cells #[.int .i64 0, .int .i64 0, .int .i64 0, .bool false, .bool false, .bool false, .int .u64 0, .int .i64 0, .int .u64 0, .int .i64 0, .int .i64 0, .int .i64 0, .int .i64 0] 35) _ (heap_new w (.cells #[.int .u64 8, .int .u64 x1, .int .u64 0, .int .u64 0, .int .u64 0, .int .u64 0] 23))
  have hq0 := heap_new (w.alloc (.cells #[.int .u64 8, .int .u64 x1, .int .u64 0, .int .u64 0, .int .u64 0, .int .u64 0] 23)) (.cells #[.int .i64 0, .int .i64 0, .int .i64 0, .bool false, .bool false, .bool false, .int .u64 0, .int .i64 0, .int .u64 0, .int .i64 0, .int .i64 0, .int .i64 0, .int .i64 0] 35)
  rw [World.size_alloc] at hq0
  go_enter Try.func9, Try.ntmps9
  go_wp2_with fail
  refine (HU.out _).mono ?_
  rintro e v1 ⟨rfl, hb1⟩
  have hw1 := heap_below hb1 hw0
  have hq1 := heap_below hb1 hq0
  have hB1 := b_then hB0 hb1
  have hz1 := heap_lt hw1
  have hz2 := heap_lt hq1
  have c0 : v1.cell? ⟨w.heap.size, 0, none⟩ = some (.int .u64 8) := cell_heap hw1 0
  have c1 : v1.cell? ⟨w.heap.size, 1, none⟩ = some (.int .u64 x1) := cell_heap hw1 1
  have c2 : v1.cell? ⟨w.heap.size, 2, none⟩ = some (.int .u64 0) := cell_heap hw1 2
  have c3 : v1.cell? ⟨w.heap.size, 3, none⟩ = some (.int .u64 0) := cell_heap hw1 3
  have c4 : v1.cell? ⟨w.heap.size, 4, none⟩ = some (.int .u64 0) := cell_heap hw1 4
  have c5 : v1.cell? ⟨w.heap.size, 5, none⟩ = some (.int .u64 0) := cell_heap hw1 5
  have q0 : v1.cell? ⟨w.heap.size + 1, 0, none⟩ = some (.int .i64 0) := cell_heap hq1 0
  have f0 : v1.frozen? ⟨w.heap.size + 1, 0, none⟩ = false := frozen_heap hq1 0
  have q1 : v1.cell? ⟨w.heap.size + 1, 1, none⟩ = some (.int .i64 0) := cell_heap hq1 1
  have f1 : v1.frozen? ⟨w.heap.size + 1, 1, none⟩ = false := frozen_heap hq1 1
  have q2 : v1.cell? ⟨w.heap.size + 1, 2, none⟩ = some (.int .i64 0) := cell_heap hq1 2
  have f2 : v1.frozen? ⟨w.heap.size + 1, 2, none⟩ = false := frozen_heap hq1 2
  have q3 : v1.cell? ⟨w.heap.size + 1, 3, none⟩ = some (.bool false) := cell_heap hq1 3
  have f3 : v1.frozen? ⟨w.heap.size + 1, 3, none⟩ = false := frozen_heap hq1 3
  have q4 : v1.cell? ⟨w.heap.size + 1, 4, none⟩ = some (.bool false) := cell_heap hq1 4
  have f4 : v1.frozen? ⟨w.heap.size + 1, 4, none⟩ = false := frozen_heap hq1 4
  have q5 : v1.cell? ⟨w.heap.size + 1, 5, none⟩ = some (.bool false) := cell_heap hq1 5
  have f5 : v1.frozen? ⟨w.heap.size + 1, 5, none⟩ = false := frozen_heap hq1 5
  have q6 : v1.cell? ⟨w.heap.size + 1, 6, none⟩ = some (.int .u64 0) := cell_heap hq1 6
  have f6 : v1.frozen? ⟨w.heap.size + 1, 6, none⟩ = false := frozen_heap hq1 6
  have q7 : v1.cell? ⟨w.heap.size + 1, 7, none⟩ = some (.int .i64 0) := cell_heap hq1 7
  have f7 : v1.frozen? ⟨w.heap.size + 1, 7, none⟩ = false := frozen_heap hq1 7
  have q8 : v1.cell? ⟨w.heap.size + 1, 8, none⟩ = some (.int .u64 0) := cell_heap hq1 8
  have f8 : v1.frozen? ⟨w.heap.size + 1, 8, none⟩ = false := frozen_heap hq1 8
  have q9 : v1.cell? ⟨w.heap.size + 1, 9, none⟩ = some (.int .i64 0) := cell_heap hq1 9
  have f9 : v1.frozen? ⟨w.heap.size + 1, 9, none⟩ = false := frozen_heap hq1 9
  have q10 : v1.cell? ⟨w.heap.size + 1, 10, none⟩ = some (.int .i64 0) := cell_heap hq1 10
  have f10 : v1.frozen? ⟨w.heap.size + 1, 10, none⟩ = false := frozen_heap hq1 10
  have q11 : v1.cell? ⟨w.heap.size + 1, 11, none⟩ = some (.int .i64 0) := cell_heap hq1 11
  have f11 : v1.frozen? ⟨w.heap.size + 1, 11, none⟩ = false := frozen_heap hq1 11
  have q12 : v1.cell? ⟨w.heap.size + 1, 12, none⟩ = some (.int .i64 0) := cell_heap hq1 12
  have f12 : v1.frozen? ⟨w.heap.size + 1, 12, none⟩ = false := frozen_heap hq1 12
  have HW := Lib.hid hw1
  have HQ := Lib.hid hq1
  clear hw1 hw0 hq0 hb1 hB0 hq1 HU
  go_wp2_with fail
  go_loop [5] (fun i => ∃ j : Nat, i = .int .i64 j ∧ 2 ≤ j ∧ j ≤ 6) (fun i => (6 - intOf i).toNat)
  case atStart => exact ⟨2, rfl, by omega, by omega⟩
  case round =>
    obtain ⟨j, rfl, hj, hj6⟩ := hrel
    by_cases hlt : j < 6
    · have d9 : decide ((j : Int) < 6) = true := decide_eq_true (by omega)
      have hc : v1.cell? ⟨w.heap.size, j, none⟩ = some (.int .u64 0) := by
        have hj5 : j = 2 ∨ j = 3 ∨ j = 4 ∨ j = 5 := by omega
        rcases hj5 with rfl | rfl | rfl | rfl <;> (rw [cell_heap HW.out]; rfl)
      clear c0 c1 c2 c3 c4 c5
      go_wp2_with fail
      go_round
      case rel => exact ⟨j + 1, by go_num, by omega, by omega⟩
      case measure => simp [intOf]; omega
    · have d9 : decide ((j : Int) < 6) = false := decide_eq_false (by omega)
      obtain rfl : j = 6 := by omega
      go_upto_region 58 with fail
      go_cut [233] (fun s7 wx => s7 = .bool true ∧ Below v1.heap.size v1 wx)
      case first => go_wp2_with fail; go_meet; exact ⟨rfl, by go_grown⟩
      case rest =>
        obtain ⟨rfl, hbc⟩ := hcut
        have HQC := Lib.hid (heap_below hbc HQ.out)
        have hzc := heap_lt HQC.out
        have hBc := b_then hB1 hbc
        clear hbc hz1 hz2 q0 f0 q1 f1 q2 f2 q3 f3 q4 f4 q5 f5 q6 f6 q7 f7 q8 f8 q9 f9 q10 f10 q11 f11 q12 f12 c0 c1 c2 c3 c4 c5
        have HALL : Hid ((#[.int .i64 0, .int .i64 0, .int .i64 0, .bool false, .bool false, .bool false, .int .u64 0, .int .i64 0, .int .u64 0, .int .i64 0, .int .i64 0, .int .i64 0, .int .i64 0] : Array Value).all (·.oneCell') = true) := Lib.hid (by simp [Value.oneCell'])
        obtain ⟨fs, hfs⟩ := underR
        have HFS := Lib.hid hfs
        clear hfs
        go_wp2_with (first | (refine wpList_store_row rfl 35 (.tmp 2) (.tmp 234) rfl (w.heap.size + 1) #[.int .i64 0, .int .i64 0, .int .i64 0, .bool false, .bool false, .bool false, .int .u64 0, .int .i64 0, .int .u64 0, .int .i64 0, .int .i64 0, .int .i64 0, .int .i64 0] rfl rfl 35 #[.int .i64 0, .int .i64 0, .int .i64 0, .bool false, .bool false, .bool false, .int .u64 0, .int .i64 0, .int .u64 0, .int .i64 0, .int .i64 0, .int .i64 0, .int .i64 0] HQC.out infoR rfl HALL.out ?_))
        refine bodyPost_ret (results_cell_tmp (p := 2) (q := 3) rfl _ _ (w.heap.size + 1) 35 #[.int .i64 0, .int .i64 0, .int .i64 0, .bool false, .bool false, .bool false, .int .u64 0, .int .i64 0, .int .u64 0, .int .i64 0, .int .i64 0, .int .i64 0, .int .i64 0] (0, 0) fs (.bool false) rfl rfl (setRow_heap _ _ _ _ _ _ HQC.out) HFS.out infoR) rfl ⟨rfl, below_row hBc (by omega) _⟩
set_option maxRecDepth 100000 in
set_option maxHeartbeats 8000000 in
theorem ref_8_ok {x1 : Int} (h1 : 0 ≤ x1) (u1 : x1 < 18446744073709551616) (b0 : x1 < 256) (w : World) :
    Calls Try.prog 9 #[.agg #[.int .u64 8, .int .u64 x1, .int .u64 0, .int .u64 0, .int .u64 0, .int .u64 0]] w fun e w' => e = .returned (.tuple #[.agg #[.int .i64 8, .int .i64 0, .int .i64 0, .bool false, .bool false, .bool false, .int .u64 0, .int .i64 0, .int .u64 0, .int .i64 x1, .int .i64 0, .int .i64 0, .int .i64 0], .bool true]) ∧ Below w.heap.size w w' := by
  have d0 : decide (x1 < 256) = true := decide_eq_true b0
  have HU : Hid (∀ W : World, Calls Try.prog 12 #[.int .u64 8] W fun e w' => e = .returned (.int .i64 1) ∧ Below W.heap.size W w') := Lib.hid (fun W => (used_any 8 (by omega) W).mono fun e w' ⟨a, b⟩ => ⟨a, b ▸ Below.refl _ _⟩)
  have hB0 : Below w.heap.size w ((w.alloc (.cells #[.int .u64 8, .int .u64 x1, .int .u64 0, .int .u64 0, .int .u64 0, .int .u64 0] 23)).alloc (.cells #[.int .i64 0, .int .i64 0, .int .i64 0, .bool false, .bool false, .bool false, .int .u64 0, .int .i64 0, .int .u64 0, .int .i64 0, .int .i64 0, .int .i64 0, .int .i64 0] 35)) := by go_grown
  have hw0 := heap_old (w.alloc (.cells #[.int .u64 8, .int .u64 x1, .int .u64 0, .int .u64 0, .int .u64 0, .int .u64 0] 23)) (.cells #[.int .i64 0, .int .i64 0, .int .i64 0, .bool false, .bool false, .bool false, .int .u64 0, .int .i64 0, .int .u64 0, .int .i64 0, .int .i64 0, .int .i64 0, .int .i64 0] 35) _ (heap_new w (.cells #[.int .u64 8, .int .u64 x1, .int .u64 0, .int .u64 0, .int .u64 0, .int .u64 0] 23))
  have hq0 := heap_new (w.alloc (.cells #[.int .u64 8, .int .u64 x1, .int .u64 0, .int .u64 0, .int .u64 0, .int .u64 0] 23)) (.cells #[.int .i64 0, .int .i64 0, .int .i64 0, .bool false, .bool false, .bool false, .int .u64 0, .int .i64 0, .int .u64 0, .int .i64 0, .int .i64 0, .int .i64 0, .int .i64 0] 35)
  rw [World.size_alloc] at hq0
  go_enter Try.func9, Try.ntmps9
  go_wp2_with fail
  refine (HU.out _).mono ?_
  rintro e v1 ⟨rfl, hb1⟩
  have hw1 := heap_below hb1 hw0
  have hq1 := heap_below hb1 hq0
  have hB1 := b_then hB0 hb1
  have hz1 := heap_lt hw1
  have hz2 := heap_lt hq1
  have c0 : v1.cell? ⟨w.heap.size, 0, none⟩ = some (.int .u64 8) := cell_heap hw1 0
  have c1 : v1.cell? ⟨w.heap.size, 1, none⟩ = some (.int .u64 x1) := cell_heap hw1 1
  have c2 : v1.cell? ⟨w.heap.size, 2, none⟩ = some (.int .u64 0) := cell_heap hw1 2
  have c3 : v1.cell? ⟨w.heap.size, 3, none⟩ = some (.int .u64 0) := cell_heap hw1 3
  have c4 : v1.cell? ⟨w.heap.size, 4, none⟩ = some (.int .u64 0) := cell_heap hw1 4
  have c5 : v1.cell? ⟨w.heap.size, 5, none⟩ = some (.int .u64 0) := cell_heap hw1 5
  have q0 : v1.cell? ⟨w.heap.size + 1, 0, none⟩ = some (.int .i64 0) := cell_heap hq1 0
  have f0 : v1.frozen? ⟨w.heap.size + 1, 0, none⟩ = false := frozen_heap hq1 0
  have q1 : v1.cell? ⟨w.heap.size + 1, 1, none⟩ = some (.int .i64 0) := cell_heap hq1 1
  have f1 : v1.frozen? ⟨w.heap.size + 1, 1, none⟩ = false := frozen_heap hq1 1
  have q2 : v1.cell? ⟨w.heap.size + 1, 2, none⟩ = some (.int .i64 0) := cell_heap hq1 2
  have f2 : v1.frozen? ⟨w.heap.size + 1, 2, none⟩ = false := frozen_heap hq1 2
  have q3 : v1.cell? ⟨w.heap.size + 1, 3, none⟩ = some (.bool false) := cell_heap hq1 3
  have f3 : v1.frozen? ⟨w.heap.size + 1, 3, none⟩ = false := frozen_heap hq1 3
  have q4 : v1.cell? ⟨w.heap.size + 1, 4, none⟩ = some (.bool false) := cell_heap hq1 4
  have f4 : v1.frozen? ⟨w.heap.size + 1, 4, none⟩ = false := frozen_heap hq1 4
  have q5 : v1.cell? ⟨w.heap.size + 1, 5, none⟩ = some (.bool false) := cell_heap hq1 5
  have f5 : v1.frozen? ⟨w.heap.size + 1, 5, none⟩ = false := frozen_heap hq1 5
  have q6 : v1.cell? ⟨w.heap.size + 1, 6, none⟩ = some (.int .u64 0) := cell_heap hq1 6
  have f6 : v1.frozen? ⟨w.heap.size + 1, 6, none⟩ = false := frozen_heap hq1 6
  have q7 : v1.cell? ⟨w.heap.size + 1, 7, none⟩ = some (.int .i64 0) := cell_heap hq1 7
  have f7 : v1.frozen? ⟨w.heap.size + 1, 7, none⟩ = false := frozen_heap hq1 7
  have q8 : v1.cell? ⟨w.heap.size + 1, 8, none⟩ = some (.int .u64 0) := cell_heap hq1 8
  have f8 : v1.frozen? ⟨w.heap.size + 1, 8, none⟩ = false := frozen_heap hq1 8
  have q9 : v1.cell? ⟨w.heap.size + 1, 9, none⟩ = some (.int .i64 0) := cell_heap hq1 9
  have f9 : v1.frozen? ⟨w.heap.size + 1, 9, none⟩ = false := frozen_heap hq1 9
  have q10 : v1.cell? ⟨w.heap.size + 1, 10, none⟩ = some (.int .i64 0) := cell_heap hq1 10
  have f10 : v1.frozen? ⟨w.heap.size + 1, 10, none⟩ = false := frozen_heap hq1 10
  have q11 : v1.cell? ⟨w.heap.size + 1, 11, none⟩ = some (.int .i64 0) := cell_heap hq1 11
  have f11 : v1.frozen? ⟨w.heap.size + 1, 11, none⟩ = false := frozen_heap hq1 11
  have q12 : v1.cell? ⟨w.heap.size + 1, 12, none⟩ = some (.int .i64 0) := cell_heap hq1 12
  have f12 : v1.frozen? ⟨w.heap.size + 1, 12, none⟩ = false := frozen_heap hq1 12
  have HW := Lib.hid hw1
  have HQ := Lib.hid hq1
  clear hw1 hw0 hq0 hb1 hB0 hq1 HU
  go_wp2_with fail
  go_loop [5] (fun i => ∃ j : Nat, i = .int .i64 j ∧ 2 ≤ j ∧ j ≤ 6) (fun i => (6 - intOf i).toNat)
  case atStart => exact ⟨2, rfl, by omega, by omega⟩
  case round =>
    obtain ⟨j, rfl, hj, hj6⟩ := hrel
    by_cases hlt : j < 6
    · have d9 : decide ((j : Int) < 6) = true := decide_eq_true (by omega)
      have hc : v1.cell? ⟨w.heap.size, j, none⟩ = some (.int .u64 0) := by
        have hj5 : j = 2 ∨ j = 3 ∨ j = 4 ∨ j = 5 := by omega
        rcases hj5 with rfl | rfl | rfl | rfl <;> (rw [cell_heap HW.out]; rfl)
      clear c0 c1 c2 c3 c4 c5
      go_wp2_with fail
      go_round
      case rel => exact ⟨j + 1, by go_num, by omega, by omega⟩
      case measure => simp [intOf]; omega
    · have d9 : decide ((j : Int) < 6) = false := decide_eq_false (by omega)
      obtain rfl : j = 6 := by omega
      go_upto_region 58 with fail
      go_cut [233] (fun s7 wx => s7 = .bool false ∧ Below v1.heap.size v1 wx ∧ wx.heap[v1.heap.size]? = some (.cells #[.int .i64 8, .int .i64 0, .int .i64 0, .bool false, .bool false, .bool false, .int .u64 0, .int .i64 0, .int .u64 0, .int .i64 x1, .int .i64 0, .int .i64 0, .int .i64 0] 35 (0, 0)))
      case first => go_wp2_with fail; go_meet; exact ⟨rfl, by go_grown, heap_new _ _⟩
      case rest =>
        obtain ⟨rfl, hbc, hr⟩ := hcut
        have HQC := Lib.hid (heap_below hbc HQ.out)
        have hzc := heap_lt HQC.out
        have hBc := b_then hB1 hbc
        clear hbc hz1 hz2 q0 f0 q1 f1 q2 f2 q3 f3 q4 f4 q5 f5 q6 f6 q7 f7 q8 f8 q9 f9 q10 f10 q11 f11 q12 f12 c0 c1 c2 c3 c4 c5
        have HALL : Hid ((#[.int .i64 8, .int .i64 0, .int .i64 0, .bool false, .bool false, .bool false, .int .u64 0, .int .i64 0, .int .u64 0, .int .i64 x1, .int .i64 0, .int .i64 0, .int .i64 0] : Array Value).all (·.oneCell') = true) := Lib.hid (by simp [Value.oneCell'])
        obtain ⟨fs, hfs⟩ := underR
        have HFS := Lib.hid hfs
        have HRR := Lib.hid hr
        clear hr
        clear hfs
        go_wp2_with (first | (refine wpList_load_row rfl 35 (.tmp 6) rfl v1.heap.size rfl 35 #[.int .i64 8, .int .i64 0, .int .i64 0, .bool false, .bool false, .bool false, .int .u64 0, .int .i64 0, .int .u64 0, .int .i64 x1, .int .i64 0, .int .i64 0, .int .i64 0] (0, 0) (.struct fs) HRR.out HFS.out rfl infoR ?_) | (refine wpList_store_row rfl 35 (.tmp 2) (.tmp 235) rfl (w.heap.size + 1) #[.int .i64 8, .int .i64 0, .int .i64 0, .bool false, .bool false, .bool false, .int .u64 0, .int .i64 0, .int .u64 0, .int .i64 x1, .int .i64 0, .int .i64 0, .int .i64 0] rfl rfl 35 #[.int .i64 0, .int .i64 0, .int .i64 0, .bool false, .bool false, .bool false, .int .u64 0, .int .i64 0, .int .u64 0, .int .i64 0, .int .i64 0, .int .i64 0, .int .i64 0] HQC.out infoR rfl HALL.out ?_))
        refine bodyPost_ret (results_cell_tmp (p := 2) (q := 3) rfl _ _ (w.heap.size + 1) 35 #[.int .i64 8, .int .i64 0, .int .i64 0, .bool false, .bool false, .bool false, .int .u64 0, .int .i64 0, .int .u64 0, .int .i64 x1, .int .i64 0, .int .i64 0, .int .i64 0] (0, 0) fs (.bool true) rfl rfl (setRow_heap _ _ _ _ _ _ HQC.out) HFS.out infoR) rfl ⟨rfl, below_row hBc (by omega) _⟩
end Go.Proofs.Ytcnmhmbdbadbmaa
