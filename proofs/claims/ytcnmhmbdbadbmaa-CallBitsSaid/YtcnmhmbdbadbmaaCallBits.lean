/- CallBits: no bit of a call's words may be turned without another call coming of it. No condition. -/
import Derived.Test.YtcnmhmbdbadbmaaCallW
import Derived.RegionTactic
import Derived.BigRegion
import Derived.Laws.Shifts
namespace Go.Proofs.Ytcnmhmbdbadbmaa
open Go.ChangeShapes Go.WideShapes Go.ChangeAt Go.RowKit
set_option linter.unusedVariables false
set_option linter.unusedSimpArgs false


theorem xor_ne (x m : Int) (h0 : 0 ≤ x) (h1 : x < 18446744073709551616) (m0 : 0 < m) (m1 : m < 18446744073709551616) : bits .xor .u64 x m ≠ x ∧ 0 ≤ bits .xor .u64 x m ∧ bits .xor .u64 x m < 18446744073709551616 := by
  obtain ⟨a, rfl⟩ := Int.eq_ofNat_of_zero_le h0
  obtain ⟨b, rfl⟩ := Int.eq_ofNat_of_zero_le (Int.le_of_lt m0)
  rw [u64_xor_nat a b (by omega) (by omega)]
  have hlt : a ^^^ b < 2 ^ 64 := Nat.xor_lt_two_pow (by omega) (by omega)
  refine ⟨fun e => ?_, by omega, by omega⟩
  have e2 : a ^^^ b = a := by omega
  have e3 : a ^^^ (a ^^^ b) = a ^^^ a := by rw [e2]
  rw [← Nat.xor_assoc, Nat.xor_self, Nat.zero_xor] at e3
  omega
set_option maxRecDepth 100000 in
set_option maxHeartbeats 8000000 in
theorem bits_none (x0 x1 x2 x3 x4 x5 a1 a2 : Int) (l0 : 0 ≤ x0) (l1 : 0 ≤ x1) (l2 : 0 ≤ x2) (l3 : 0 ≤ x3) (l4 : 0 ≤ x4) (l5 : 0 ≤ x5) (u0 : x0 < 18446744073709551616) (u1 : x1 < 18446744073709551616) (u2 : x2 < 18446744073709551616) (u3 : x3 < 18446744073709551616) (u4 : x4 < 18446744073709551616) (u5 : x5 < 18446744073709551616) (hg : ¬ goodF x0 x1 x2 x3 x4 x5) (w : World) :
    Calls Try.prog 5 #[.agg #[.int .u64 x0, .int .u64 x1, .int .u64 x2, .int .u64 x3, .int .u64 x4, .int .u64 x5], .int .i64 a1, .int .i64 a2] w fun e w' => e = .returned (.bool true) ∧ Below w.heap.size w w' := by
  have H1 := Lib.hid (fun W => call_read x0 x1 x2 x3 x4 x5 l0 l1 l2 l3 l4 l5 u1 u2 u3 u4 u5 W)
  rw [readF_none hg] at H1
  have hw0 := heap_new w (.cells #[.int .u64 x0, .int .u64 x1, .int .u64 x2, .int .u64 x3, .int .u64 x4, .int .u64 x5] 24)
  have hbw : Below w.heap.size w (w.alloc (.cells #[.int .u64 x0, .int .u64 x1, .int .u64 x2, .int .u64 x3, .int .u64 x4, .int .u64 x5] 24)) := by go_grown
  clear hg
  go_enter Try.func5, Try.ntmps5
  go_wp2_with fail
  refine (H1.out _).mono ?_
  rintro e v1 ⟨rfl, hb1⟩
  simp only [rvF, reF, CV.val, CV.cells, ccells, Option.getD_none, CV.zero]
  have hw1 := heap_below hb1 hw0
  have hB1 := b_then hbw hb1
  have c0 : v1.cell? ⟨w.heap.size, 0, none⟩ = some (.int .u64 x0) := cell_heap hw1 0
  have f0 : v1.frozen? ⟨w.heap.size, 0, none⟩ = false := frozen_heap hw1 0
  have c1 : v1.cell? ⟨w.heap.size, 1, none⟩ = some (.int .u64 x1) := cell_heap hw1 1
  have f1 : v1.frozen? ⟨w.heap.size, 1, none⟩ = false := frozen_heap hw1 1
  have c2 : v1.cell? ⟨w.heap.size, 2, none⟩ = some (.int .u64 x2) := cell_heap hw1 2
  have f2 : v1.frozen? ⟨w.heap.size, 2, none⟩ = false := frozen_heap hw1 2
  have c3 : v1.cell? ⟨w.heap.size, 3, none⟩ = some (.int .u64 x3) := cell_heap hw1 3
  have f3 : v1.frozen? ⟨w.heap.size, 3, none⟩ = false := frozen_heap hw1 3
  have c4 : v1.cell? ⟨w.heap.size, 4, none⟩ = some (.int .u64 x4) := cell_heap hw1 4
  have f4 : v1.frozen? ⟨w.heap.size, 4, none⟩ = false := frozen_heap hw1 4
  have c5 : v1.cell? ⟨w.heap.size, 5, none⟩ = some (.int .u64 x5) := cell_heap hw1 5
  have f5 : v1.frozen? ⟨w.heap.size, 5, none⟩ = false := frozen_heap hw1 5
  have hz1 := heap_lt hw1
  clear hw1 hb1
  go_wp2_with fail
  refine (awake_true _).mono ?_
  rintro e v3 ⟨rfl, hb3⟩
  go_wp2
  go_returns
  exact ⟨rfl, b_then (b_then hB1 (by go_grown)) hb3⟩
set_option maxRecDepth 100000 in
set_option maxHeartbeats 8000000 in
theorem bits_out (x0 x1 x2 x3 x4 x5 a1 a2 : Int) (l0 : 0 ≤ x0) (l1 : 0 ≤ x1) (l2 : 0 ≤ x2) (l3 : 0 ≤ x3) (l4 : 0 ≤ x4) (l5 : 0 ≤ x5) (u0 : x0 < 18446744073709551616) (u1 : x1 < 18446744073709551616) (u2 : x2 < 18446744073709551616) (u3 : x3 < 18446744073709551616) (u4 : x4 < 18446744073709551616) (u5 : x5 < 18446744073709551616) (hg : goodF x0 x1 x2 x3 x4 x5) (ho : a1 < 0 ∨ 5 < a1 ∨ a2 < 0 ∨ 63 < a2) (w : World) :
    Calls Try.prog 5 #[.agg #[.int .u64 x0, .int .u64 x1, .int .u64 x2, .int .u64 x3, .int .u64 x4, .int .u64 x5], .int .i64 a1, .int .i64 a2] w fun e w' => e = .returned (.bool true) ∧ Below w.heap.size w w' := by
  have H1 := Lib.hid (fun W => call_read x0 x1 x2 x3 x4 x5 l0 l1 l2 l3 l4 l5 u1 u2 u3 u4 u5 W)
  rw [readF_some hg] at H1
  have hw0 := heap_new w (.cells #[.int .u64 x0, .int .u64 x1, .int .u64 x2, .int .u64 x3, .int .u64 x4, .int .u64 x5] 24)
  have hbw : Below w.heap.size w (w.alloc (.cells #[.int .u64 x0, .int .u64 x1, .int .u64 x2, .int .u64 x3, .int .u64 x4, .int .u64 x5] 24)) := by go_grown
  generalize valF x0 x1 x2 x3 x4 x5 = c at H1
  have HO := Lib.hid ho
  clear hg ho
  by_cases t0 : a1 < 0
  · have d0 : decide (a1 < 0) = true := decide_eq_true t0
    clear t0
    go_enter Try.func5, Try.ntmps5
    go_wp2_with fail
    refine (H1.out _).mono ?_
    rintro e v1 ⟨rfl, hb1⟩
    simp only [rvF, reF, CV.val, CV.cells, ccells, Option.getD_some]
    have hw1 := heap_below hb1 hw0
    have hB1 := b_then hbw hb1
    have c0 : v1.cell? ⟨w.heap.size, 0, none⟩ = some (.int .u64 x0) := cell_heap hw1 0
    have f0 : v1.frozen? ⟨w.heap.size, 0, none⟩ = false := frozen_heap hw1 0
    have c1 : v1.cell? ⟨w.heap.size, 1, none⟩ = some (.int .u64 x1) := cell_heap hw1 1
    have f1 : v1.frozen? ⟨w.heap.size, 1, none⟩ = false := frozen_heap hw1 1
    have c2 : v1.cell? ⟨w.heap.size, 2, none⟩ = some (.int .u64 x2) := cell_heap hw1 2
    have f2 : v1.frozen? ⟨w.heap.size, 2, none⟩ = false := frozen_heap hw1 2
    have c3 : v1.cell? ⟨w.heap.size, 3, none⟩ = some (.int .u64 x3) := cell_heap hw1 3
    have f3 : v1.frozen? ⟨w.heap.size, 3, none⟩ = false := frozen_heap hw1 3
    have c4 : v1.cell? ⟨w.heap.size, 4, none⟩ = some (.int .u64 x4) := cell_heap hw1 4
    have f4 : v1.frozen? ⟨w.heap.size, 4, none⟩ = false := frozen_heap hw1 4
    have c5 : v1.cell? ⟨w.heap.size, 5, none⟩ = some (.int .u64 x5) := cell_heap hw1 5
    have f5 : v1.frozen? ⟨w.heap.size, 5, none⟩ = false := frozen_heap hw1 5
    have hz1 := heap_lt hw1
    clear hw1 hb1
    go_wp2_with fail
    refine (awake_true _).mono ?_
    rintro e v3 ⟨rfl, hb3⟩
    go_wp2
    go_returns
    exact ⟨rfl, b_then (b_then hB1 (by go_grown)) hb3⟩
  have d0 : decide (a1 < 0) = false := decide_eq_false t0
  by_cases t1 : 5 < a1
  · have d1 : decide (5 < a1) = true := decide_eq_true t1
    clear t1
    go_enter Try.func5, Try.ntmps5
    go_wp2_with fail
    refine (H1.out _).mono ?_
    rintro e v1 ⟨rfl, hb1⟩
    simp only [rvF, reF, CV.val, CV.cells, ccells, Option.getD_some]
    have hw1 := heap_below hb1 hw0
    have hB1 := b_then hbw hb1
    have c0 : v1.cell? ⟨w.heap.size, 0, none⟩ = some (.int .u64 x0) := cell_heap hw1 0
    have f0 : v1.frozen? ⟨w.heap.size, 0, none⟩ = false := frozen_heap hw1 0
    have c1 : v1.cell? ⟨w.heap.size, 1, none⟩ = some (.int .u64 x1) := cell_heap hw1 1
    have f1 : v1.frozen? ⟨w.heap.size, 1, none⟩ = false := frozen_heap hw1 1
    have c2 : v1.cell? ⟨w.heap.size, 2, none⟩ = some (.int .u64 x2) := cell_heap hw1 2
    have f2 : v1.frozen? ⟨w.heap.size, 2, none⟩ = false := frozen_heap hw1 2
    have c3 : v1.cell? ⟨w.heap.size, 3, none⟩ = some (.int .u64 x3) := cell_heap hw1 3
    have f3 : v1.frozen? ⟨w.heap.size, 3, none⟩ = false := frozen_heap hw1 3
    have c4 : v1.cell? ⟨w.heap.size, 4, none⟩ = some (.int .u64 x4) := cell_heap hw1 4
    have f4 : v1.frozen? ⟨w.heap.size, 4, none⟩ = false := frozen_heap hw1 4
    have c5 : v1.cell? ⟨w.heap.size, 5, none⟩ = some (.int .u64 x5) := cell_heap hw1 5
    have f5 : v1.frozen? ⟨w.heap.size, 5, none⟩ = false := frozen_heap hw1 5
    have hz1 := heap_lt hw1
    clear hw1 hb1
    go_wp2_with fail
    refine (awake_true _).mono ?_
    rintro e v3 ⟨rfl, hb3⟩
    go_wp2
    go_returns
    exact ⟨rfl, b_then (b_then hB1 (by go_grown)) hb3⟩
  have d1 : decide (5 < a1) = false := decide_eq_false t1
  by_cases t2 : a2 < 0
  · have d2 : decide (a2 < 0) = true := decide_eq_true t2
    clear t2
    go_enter Try.func5, Try.ntmps5
    go_wp2_with fail
    refine (H1.out _).mono ?_
    rintro e v1 ⟨rfl, hb1⟩
    simp only [rvF, reF, CV.val, CV.cells, ccells, Option.getD_some]
    have hw1 := heap_below hb1 hw0
    have hB1 := b_then hbw hb1
    have c0 : v1.cell? ⟨w.heap.size, 0, none⟩ = some (.int .u64 x0) := cell_heap hw1 0
    have f0 : v1.frozen? ⟨w.heap.size, 0, none⟩ = false := frozen_heap hw1 0
    have c1 : v1.cell? ⟨w.heap.size, 1, none⟩ = some (.int .u64 x1) := cell_heap hw1 1
    have f1 : v1.frozen? ⟨w.heap.size, 1, none⟩ = false := frozen_heap hw1 1
    have c2 : v1.cell? ⟨w.heap.size, 2, none⟩ = some (.int .u64 x2) := cell_heap hw1 2
    have f2 : v1.frozen? ⟨w.heap.size, 2, none⟩ = false := frozen_heap hw1 2
    have c3 : v1.cell? ⟨w.heap.size, 3, none⟩ = some (.int .u64 x3) := cell_heap hw1 3
    have f3 : v1.frozen? ⟨w.heap.size, 3, none⟩ = false := frozen_heap hw1 3
    have c4 : v1.cell? ⟨w.heap.size, 4, none⟩ = some (.int .u64 x4) := cell_heap hw1 4
    have f4 : v1.frozen? ⟨w.heap.size, 4, none⟩ = false := frozen_heap hw1 4
    have c5 : v1.cell? ⟨w.heap.size, 5, none⟩ = some (.int .u64 x5) := cell_heap hw1 5
    have f5 : v1.frozen? ⟨w.heap.size, 5, none⟩ = false := frozen_heap hw1 5
    have hz1 := heap_lt hw1
    clear hw1 hb1
    go_wp2_with fail
    refine (awake_true _).mono ?_
    rintro e v3 ⟨rfl, hb3⟩
    go_wp2
    go_returns
    exact ⟨rfl, b_then (b_then hB1 (by go_grown)) hb3⟩
  have d2 : decide (a2 < 0) = false := decide_eq_false t2
  have d3 : decide (63 < a2) = true := decide_eq_true (by have := HO.out; omega)
  clear t0 t1 t2
  go_enter Try.func5, Try.ntmps5
  go_wp2_with fail
  refine (H1.out _).mono ?_
  rintro e v1 ⟨rfl, hb1⟩
  simp only [rvF, reF, CV.val, CV.cells, ccells, Option.getD_some]
  have hw1 := heap_below hb1 hw0
  have hB1 := b_then hbw hb1
  have c0 : v1.cell? ⟨w.heap.size, 0, none⟩ = some (.int .u64 x0) := cell_heap hw1 0
  have f0 : v1.frozen? ⟨w.heap.size, 0, none⟩ = false := frozen_heap hw1 0
  have c1 : v1.cell? ⟨w.heap.size, 1, none⟩ = some (.int .u64 x1) := cell_heap hw1 1
  have f1 : v1.frozen? ⟨w.heap.size, 1, none⟩ = false := frozen_heap hw1 1
  have c2 : v1.cell? ⟨w.heap.size, 2, none⟩ = some (.int .u64 x2) := cell_heap hw1 2
  have f2 : v1.frozen? ⟨w.heap.size, 2, none⟩ = false := frozen_heap hw1 2
  have c3 : v1.cell? ⟨w.heap.size, 3, none⟩ = some (.int .u64 x3) := cell_heap hw1 3
  have f3 : v1.frozen? ⟨w.heap.size, 3, none⟩ = false := frozen_heap hw1 3
  have c4 : v1.cell? ⟨w.heap.size, 4, none⟩ = some (.int .u64 x4) := cell_heap hw1 4
  have f4 : v1.frozen? ⟨w.heap.size, 4, none⟩ = false := frozen_heap hw1 4
  have c5 : v1.cell? ⟨w.heap.size, 5, none⟩ = some (.int .u64 x5) := cell_heap hw1 5
  have f5 : v1.frozen? ⟨w.heap.size, 5, none⟩ = false := frozen_heap hw1 5
  have hz1 := heap_lt hw1
  clear hw1 hb1
  go_wp2_with fail
  refine (awake_true _).mono ?_
  rintro e v3 ⟨rfl, hb3⟩
  go_wp2
  go_returns
  exact ⟨rfl, b_then (b_then hB1 (by go_grown)) hb3⟩
set_option maxRecDepth 100000 in
set_option maxHeartbeats 8000000 in
theorem bits_0 (x0 x1 x2 x3 x4 x5 : Int) (n : Nat) (l0 : 0 ≤ x0) (l1 : 0 ≤ x1) (l2 : 0 ≤ x2) (l3 : 0 ≤ x3) (l4 : 0 ≤ x4) (l5 : 0 ≤ x5) (u0 : x0 < 18446744073709551616) (u1 : x1 < 18446744073709551616) (u2 : x2 < 18446744073709551616) (u3 : x3 < 18446744073709551616) (u4 : x4 < 18446744073709551616) (u5 : x5 < 18446744073709551616) (hg : goodF x0 x1 x2 x3 x4 x5) (hn : n < 64) (w : World) :
    Calls Try.prog 5 #[.agg #[.int .u64 x0, .int .u64 x1, .int .u64 x2, .int .u64 x3, .int .u64 x4, .int .u64 x5], .int .i64 0, .int .i64 n] w fun e w' => e = .returned (.bool true) ∧ Below w.heap.size w w' := by
  obtain ⟨m, hm⟩ : ∃ m : Int, m = IntKind.u64.wrap (2 ^ n) := ⟨_, rfl⟩
  have hm0 : 0 < m ∧ m < 18446744073709551616 := by
    have e : ((2 : Int) ^ n) = ((2 ^ n : Nat) : Int) := by rw [Int.natCast_pow]; rfl
    have hp : 2 ^ n < 2 ^ 64 := Nat.pow_lt_pow_right (by omega) hn
    have hp0 := Nat.two_pow_pos n
    rw [hm, e, IntWalk.u64_in _ (by omega)]; omega
  obtain ⟨hy, y0, y1⟩ := xor_ne x0 m l0 u0 hm0.1 hm0.2
  obtain ⟨y, hyy⟩ : ∃ y : Int, bits .xor .u64 x0 m = y := ⟨_, rfl⟩
  rw [hyy] at hy y0 y1
  have H2 := Lib.hid (fun W => call_read y x1 x2 x3 x4 x5 y0 l1 l2 l3 l4 l5 u1 u2 u3 u4 u5 W)
  have hne : goodF y x1 x2 x3 x4 x5 → valF y x1 x2 x3 x4 x5 ≠ valF x0 x1 x2 x3 x4 x5 := fun hg2 e => by
    have e1 := words_back hg l1 l2 l3 l4 l5 u1 u2 u3 u4 u5
    have e2 := words_back hg2 l1 l2 l3 l4 l5 u1 u2 u3 u4 u5
    rw [e, e1] at e2; injection e2 with q0 q1 q2 q3 q4 q5; exact hy (by omega)
  have HNE := Lib.hid hne
  clear hne
  have H1 := Lib.hid (fun W => call_read x0 x1 x2 x3 x4 x5 l0 l1 l2 l3 l4 l5 u1 u2 u3 u4 u5 W)
  rw [readF_some hg] at H1
  have hw0 := heap_new w (.cells #[.int .u64 x0, .int .u64 x1, .int .u64 x2, .int .u64 x3, .int .u64 x4, .int .u64 x5] 24)
  have hbw : Below w.heap.size w (w.alloc (.cells #[.int .u64 x0, .int .u64 x1, .int .u64 x2, .int .u64 x3, .int .u64 x4, .int .u64 x5] 24)) := by go_grown
  generalize valF x0 x1 x2 x3 x4 x5 = c at H1 HNE
  have hm1 : IntKind.u64.wrap (2 ^ n) = m := hm.symm
  have hn0 : (n : Int) ≤ 63 := by omega
  have dn0 : decide ((n : Int) < 0) = false := decide_eq_false (by omega)
  have dn1 : decide (63 < (n : Int)) = false := decide_eq_false (by omega)
  clear hm hg
  go_enter Try.func5, Try.ntmps5
  go_wp2_with fail
  refine (H1.out _).mono ?_
  rintro e v1 ⟨rfl, hb1⟩
  simp only [rvF, reF, CV.val, CV.cells, ccells, Option.getD_some]
  have hw1 := heap_below hb1 hw0
  have hB1 := b_then hbw hb1
  have c0 : v1.cell? ⟨w.heap.size, 0, none⟩ = some (.int .u64 x0) := cell_heap hw1 0
  have f0 : v1.frozen? ⟨w.heap.size, 0, none⟩ = false := frozen_heap hw1 0
  have c1 : v1.cell? ⟨w.heap.size, 1, none⟩ = some (.int .u64 x1) := cell_heap hw1 1
  have f1 : v1.frozen? ⟨w.heap.size, 1, none⟩ = false := frozen_heap hw1 1
  have c2 : v1.cell? ⟨w.heap.size, 2, none⟩ = some (.int .u64 x2) := cell_heap hw1 2
  have f2 : v1.frozen? ⟨w.heap.size, 2, none⟩ = false := frozen_heap hw1 2
  have c3 : v1.cell? ⟨w.heap.size, 3, none⟩ = some (.int .u64 x3) := cell_heap hw1 3
  have f3 : v1.frozen? ⟨w.heap.size, 3, none⟩ = false := frozen_heap hw1 3
  have c4 : v1.cell? ⟨w.heap.size, 4, none⟩ = some (.int .u64 x4) := cell_heap hw1 4
  have f4 : v1.frozen? ⟨w.heap.size, 4, none⟩ = false := frozen_heap hw1 4
  have c5 : v1.cell? ⟨w.heap.size, 5, none⟩ = some (.int .u64 x5) := cell_heap hw1 5
  have f5 : v1.frozen? ⟨w.heap.size, 5, none⟩ = false := frozen_heap hw1 5
  have hz1 := heap_lt hw1
  clear hw1 hb1
  go_wp2_with fail
  go_region
  go_wp2_with fail
  refine (H2.out _).mono ?_
  rintro e v2 ⟨rfl, hb2⟩
  have hcv := heap_new (v1.setCell ⟨w.heap.size, 0, none⟩ (.int .u64 y)) (.cells #[.int .i64 c.op, .int .i64 c.f, .int .i64 c.t, .bool c.wr, .bool c.us, .bool c.ex, .int .u64 c.addr, .int .i64 c.size, .int .u64 c.x, .int .i64 c.id, .int .i64 c.a, .int .i64 c.b, .int .i64 c.d] 30)
  rw [World.size_setCell] at hcv
  have hc2 := heap_below hb2 hcv
  have hB2 : Hid (Below w.heap.size w v2) := Lib.hid (b_then (w := w) (by go_grown) hb2)
  clear hb2 hcv H1 H2
  by_cases hg2 : goodF y x1 x2 x3 x4 x5
  · rw [readF_some hg2]
    have hnd := HNE.out hg2
    generalize valF y x1 x2 x3 x4 x5 = d at hnd
    have HND := Lib.hid hnd
    clear hnd hg2
    simp only [rvF, reF, Option.getD_some, CV.val, CV.cells, ccells]
    go_wp2_with fail
    have hdv := heap_new v2 (.cells #[.int .i64 d.op, .int .i64 d.f, .int .i64 d.t, .bool d.wr, .bool d.us, .bool d.ex, .int .u64 d.addr, .int .i64 d.size, .int .u64 d.x, .int .i64 d.id, .int .i64 d.a, .int .i64 d.b, .int .i64 d.d] 30)
    have hc3 := heap_old v2 (.cells #[.int .i64 d.op, .int .i64 d.f, .int .i64 d.t, .bool d.wr, .bool d.us, .bool d.ex, .int .u64 d.addr, .int .i64 d.size, .int .u64 d.x, .int .i64 d.id, .int .i64 d.a, .int .i64 d.b, .int .i64 d.d] 30) _ hc2
    refine (awake_true _).mono ?_
    rintro e v4 ⟨rfl, hb4⟩
    have hd4 := heap_below hb4 hdv
    have hc4 := heap_below hb4 hc3
    have hz4 := heap_lt hc4
    have hz5 := heap_lt hd4
    have hB4 : Hid (Below w.heap.size w v4) := Lib.hid (b_then (b_then hB2.out (by go_grown)) hb4)
    have c0 : v4.cell? ⟨v1.heap.size, 0, none⟩ = some (.int .i64 c.op) := cell_heap hc4 0
    have d0 : v4.cell? ⟨v2.heap.size, 0, none⟩ = some (.int .i64 d.op) := cell_heap hd4 0
    have c1 : v4.cell? ⟨v1.heap.size, 1, none⟩ = some (.int .i64 c.f) := cell_heap hc4 1
    have d1 : v4.cell? ⟨v2.heap.size, 1, none⟩ = some (.int .i64 d.f) := cell_heap hd4 1
    have c2 : v4.cell? ⟨v1.heap.size, 2, none⟩ = some (.int .i64 c.t) := cell_heap hc4 2
    have d2 : v4.cell? ⟨v2.heap.size, 2, none⟩ = some (.int .i64 d.t) := cell_heap hd4 2
    have c3 : v4.cell? ⟨v1.heap.size, 3, none⟩ = some (.bool c.wr) := cell_heap hc4 3
    have d3 : v4.cell? ⟨v2.heap.size, 3, none⟩ = some (.bool d.wr) := cell_heap hd4 3
    have c4 : v4.cell? ⟨v1.heap.size, 4, none⟩ = some (.bool c.us) := cell_heap hc4 4
    have d4 : v4.cell? ⟨v2.heap.size, 4, none⟩ = some (.bool d.us) := cell_heap hd4 4
    have c5 : v4.cell? ⟨v1.heap.size, 5, none⟩ = some (.bool c.ex) := cell_heap hc4 5
    have d5 : v4.cell? ⟨v2.heap.size, 5, none⟩ = some (.bool d.ex) := cell_heap hd4 5
    have c6 : v4.cell? ⟨v1.heap.size, 6, none⟩ = some (.int .u64 c.addr) := cell_heap hc4 6
    have d6 : v4.cell? ⟨v2.heap.size, 6, none⟩ = some (.int .u64 d.addr) := cell_heap hd4 6
    have c7 : v4.cell? ⟨v1.heap.size, 7, none⟩ = some (.int .i64 c.size) := cell_heap hc4 7
    have d7 : v4.cell? ⟨v2.heap.size, 7, none⟩ = some (.int .i64 d.size) := cell_heap hd4 7
    have c8 : v4.cell? ⟨v1.heap.size, 8, none⟩ = some (.int .u64 c.x) := cell_heap hc4 8
    have d8 : v4.cell? ⟨v2.heap.size, 8, none⟩ = some (.int .u64 d.x) := cell_heap hd4 8
    have c9 : v4.cell? ⟨v1.heap.size, 9, none⟩ = some (.int .i64 c.id) := cell_heap hc4 9
    have d9 : v4.cell? ⟨v2.heap.size, 9, none⟩ = some (.int .i64 d.id) := cell_heap hd4 9
    have c10 : v4.cell? ⟨v1.heap.size, 10, none⟩ = some (.int .i64 c.a) := cell_heap hc4 10
    have d10 : v4.cell? ⟨v2.heap.size, 10, none⟩ = some (.int .i64 d.a) := cell_heap hd4 10
    have c11 : v4.cell? ⟨v1.heap.size, 11, none⟩ = some (.int .i64 c.b) := cell_heap hc4 11
    have d11 : v4.cell? ⟨v2.heap.size, 11, none⟩ = some (.int .i64 d.b) := cell_heap hd4 11
    have c12 : v4.cell? ⟨v1.heap.size, 12, none⟩ = some (.int .i64 c.d) := cell_heap hc4 12
    have d12 : v4.cell? ⟨v2.heap.size, 12, none⟩ = some (.int .i64 d.d) := cell_heap hd4 12
    clear hdv hc3 hd4 hc4 hb4
    have hnq := fun W => neq_call c d HND.out W
    go_wp2_with fail
    go_returns
    exact ⟨rfl, hB4.out⟩
  · rw [readF_none hg2]
    clear hg2
    simp only [rvF, reF, Option.getD_none, CV.val, CV.cells, ccells, CV.zero]
    go_wp2_with fail
    have hdv := heap_new v2 (.cells #[.int .i64 0, .int .i64 0, .int .i64 0, .bool false, .bool false, .bool false, .int .u64 0, .int .i64 0, .int .u64 0, .int .i64 0, .int .i64 0, .int .i64 0, .int .i64 0] 30)
    have hc3 := heap_old v2 (.cells #[.int .i64 0, .int .i64 0, .int .i64 0, .bool false, .bool false, .bool false, .int .u64 0, .int .i64 0, .int .u64 0, .int .i64 0, .int .i64 0, .int .i64 0, .int .i64 0] 30) _ hc2
    refine (awake_true _).mono ?_
    rintro e v4 ⟨rfl, hb4⟩
    have hd4 := heap_below hb4 hdv
    have hc4 := heap_below hb4 hc3
    have hz4 := heap_lt hc4
    have hz5 := heap_lt hd4
    have hB4 : Hid (Below w.heap.size w v4) := Lib.hid (b_then (b_then hB2.out (by go_grown)) hb4)
    have c0 : v4.cell? ⟨v1.heap.size, 0, none⟩ = some (.int .i64 c.op) := cell_heap hc4 0
    have d0 : v4.cell? ⟨v2.heap.size, 0, none⟩ = some (.int .i64 0) := cell_heap hd4 0
    have c1 : v4.cell? ⟨v1.heap.size, 1, none⟩ = some (.int .i64 c.f) := cell_heap hc4 1
    have d1 : v4.cell? ⟨v2.heap.size, 1, none⟩ = some (.int .i64 0) := cell_heap hd4 1
    have c2 : v4.cell? ⟨v1.heap.size, 2, none⟩ = some (.int .i64 c.t) := cell_heap hc4 2
    have d2 : v4.cell? ⟨v2.heap.size, 2, none⟩ = some (.int .i64 0) := cell_heap hd4 2
    have c3 : v4.cell? ⟨v1.heap.size, 3, none⟩ = some (.bool c.wr) := cell_heap hc4 3
    have d3 : v4.cell? ⟨v2.heap.size, 3, none⟩ = some (.bool false) := cell_heap hd4 3
    have c4 : v4.cell? ⟨v1.heap.size, 4, none⟩ = some (.bool c.us) := cell_heap hc4 4
    have d4 : v4.cell? ⟨v2.heap.size, 4, none⟩ = some (.bool false) := cell_heap hd4 4
    have c5 : v4.cell? ⟨v1.heap.size, 5, none⟩ = some (.bool c.ex) := cell_heap hc4 5
    have d5 : v4.cell? ⟨v2.heap.size, 5, none⟩ = some (.bool false) := cell_heap hd4 5
    have c6 : v4.cell? ⟨v1.heap.size, 6, none⟩ = some (.int .u64 c.addr) := cell_heap hc4 6
    have d6 : v4.cell? ⟨v2.heap.size, 6, none⟩ = some (.int .u64 0) := cell_heap hd4 6
    have c7 : v4.cell? ⟨v1.heap.size, 7, none⟩ = some (.int .i64 c.size) := cell_heap hc4 7
    have d7 : v4.cell? ⟨v2.heap.size, 7, none⟩ = some (.int .i64 0) := cell_heap hd4 7
    have c8 : v4.cell? ⟨v1.heap.size, 8, none⟩ = some (.int .u64 c.x) := cell_heap hc4 8
    have d8 : v4.cell? ⟨v2.heap.size, 8, none⟩ = some (.int .u64 0) := cell_heap hd4 8
    have c9 : v4.cell? ⟨v1.heap.size, 9, none⟩ = some (.int .i64 c.id) := cell_heap hc4 9
    have d9 : v4.cell? ⟨v2.heap.size, 9, none⟩ = some (.int .i64 0) := cell_heap hd4 9
    have c10 : v4.cell? ⟨v1.heap.size, 10, none⟩ = some (.int .i64 c.a) := cell_heap hc4 10
    have d10 : v4.cell? ⟨v2.heap.size, 10, none⟩ = some (.int .i64 0) := cell_heap hd4 10
    have c11 : v4.cell? ⟨v1.heap.size, 11, none⟩ = some (.int .i64 c.b) := cell_heap hc4 11
    have d11 : v4.cell? ⟨v2.heap.size, 11, none⟩ = some (.int .i64 0) := cell_heap hd4 11
    have c12 : v4.cell? ⟨v1.heap.size, 12, none⟩ = some (.int .i64 c.d) := cell_heap hc4 12
    have d12 : v4.cell? ⟨v2.heap.size, 12, none⟩ = some (.int .i64 0) := cell_heap hd4 12
    clear hdv hc3 hd4 hc4 hb4
    go_wp2_with fail
    go_returns
    exact ⟨rfl, hB4.out⟩
set_option maxRecDepth 100000 in
set_option maxHeartbeats 8000000 in
theorem bits_1 (x0 x1 x2 x3 x4 x5 : Int) (n : Nat) (l0 : 0 ≤ x0) (l1 : 0 ≤ x1) (l2 : 0 ≤ x2) (l3 : 0 ≤ x3) (l4 : 0 ≤ x4) (l5 : 0 ≤ x5) (u0 : x0 < 18446744073709551616) (u1 : x1 < 18446744073709551616) (u2 : x2 < 18446744073709551616) (u3 : x3 < 18446744073709551616) (u4 : x4 < 18446744073709551616) (u5 : x5 < 18446744073709551616) (hg : goodF x0 x1 x2 x3 x4 x5) (hn : n < 64) (w : World) :
    Calls Try.prog 5 #[.agg #[.int .u64 x0, .int .u64 x1, .int .u64 x2, .int .u64 x3, .int .u64 x4, .int .u64 x5], .int .i64 1, .int .i64 n] w fun e w' => e = .returned (.bool true) ∧ Below w.heap.size w w' := by
  obtain ⟨m, hm⟩ : ∃ m : Int, m = IntKind.u64.wrap (2 ^ n) := ⟨_, rfl⟩
  have hm0 : 0 < m ∧ m < 18446744073709551616 := by
    have e : ((2 : Int) ^ n) = ((2 ^ n : Nat) : Int) := by rw [Int.natCast_pow]; rfl
    have hp : 2 ^ n < 2 ^ 64 := Nat.pow_lt_pow_right (by omega) hn
    have hp0 := Nat.two_pow_pos n
    rw [hm, e, IntWalk.u64_in _ (by omega)]; omega
  obtain ⟨hy, y0, y1⟩ := xor_ne x1 m l1 u1 hm0.1 hm0.2
  obtain ⟨y, hyy⟩ : ∃ y : Int, bits .xor .u64 x1 m = y := ⟨_, rfl⟩
  rw [hyy] at hy y0 y1
  have H2 := Lib.hid (fun W => call_read x0 y x2 x3 x4 x5 l0 y0 l2 l3 l4 l5 y1 u2 u3 u4 u5 W)
  have hne : goodF x0 y x2 x3 x4 x5 → valF x0 y x2 x3 x4 x5 ≠ valF x0 x1 x2 x3 x4 x5 := fun hg2 e => by
    have e1 := words_back hg l1 l2 l3 l4 l5 u1 u2 u3 u4 u5
    have e2 := words_back hg2 y0 l2 l3 l4 l5 y1 u2 u3 u4 u5
    rw [e, e1] at e2; injection e2 with q0 q1 q2 q3 q4 q5; exact hy (by omega)
  have HNE := Lib.hid hne
  clear hne
  have H1 := Lib.hid (fun W => call_read x0 x1 x2 x3 x4 x5 l0 l1 l2 l3 l4 l5 u1 u2 u3 u4 u5 W)
  rw [readF_some hg] at H1
  have hw0 := heap_new w (.cells #[.int .u64 x0, .int .u64 x1, .int .u64 x2, .int .u64 x3, .int .u64 x4, .int .u64 x5] 24)
  have hbw : Below w.heap.size w (w.alloc (.cells #[.int .u64 x0, .int .u64 x1, .int .u64 x2, .int .u64 x3, .int .u64 x4, .int .u64 x5] 24)) := by go_grown
  generalize valF x0 x1 x2 x3 x4 x5 = c at H1 HNE
  have hm1 : IntKind.u64.wrap (2 ^ n) = m := hm.symm
  have hn0 : (n : Int) ≤ 63 := by omega
  have dn0 : decide ((n : Int) < 0) = false := decide_eq_false (by omega)
  have dn1 : decide (63 < (n : Int)) = false := decide_eq_false (by omega)
  clear hm hg
  go_enter Try.func5, Try.ntmps5
  go_wp2_with fail
  refine (H1.out _).mono ?_
  rintro e v1 ⟨rfl, hb1⟩
  simp only [rvF, reF, CV.val, CV.cells, ccells, Option.getD_some]
  have hw1 := heap_below hb1 hw0
  have hB1 := b_then hbw hb1
  have c0 : v1.cell? ⟨w.heap.size, 0, none⟩ = some (.int .u64 x0) := cell_heap hw1 0
  have f0 : v1.frozen? ⟨w.heap.size, 0, none⟩ = false := frozen_heap hw1 0
  have c1 : v1.cell? ⟨w.heap.size, 1, none⟩ = some (.int .u64 x1) := cell_heap hw1 1
  have f1 : v1.frozen? ⟨w.heap.size, 1, none⟩ = false := frozen_heap hw1 1
  have c2 : v1.cell? ⟨w.heap.size, 2, none⟩ = some (.int .u64 x2) := cell_heap hw1 2
  have f2 : v1.frozen? ⟨w.heap.size, 2, none⟩ = false := frozen_heap hw1 2
  have c3 : v1.cell? ⟨w.heap.size, 3, none⟩ = some (.int .u64 x3) := cell_heap hw1 3
  have f3 : v1.frozen? ⟨w.heap.size, 3, none⟩ = false := frozen_heap hw1 3
  have c4 : v1.cell? ⟨w.heap.size, 4, none⟩ = some (.int .u64 x4) := cell_heap hw1 4
  have f4 : v1.frozen? ⟨w.heap.size, 4, none⟩ = false := frozen_heap hw1 4
  have c5 : v1.cell? ⟨w.heap.size, 5, none⟩ = some (.int .u64 x5) := cell_heap hw1 5
  have f5 : v1.frozen? ⟨w.heap.size, 5, none⟩ = false := frozen_heap hw1 5
  have hz1 := heap_lt hw1
  clear hw1 hb1
  go_wp2_with fail
  go_region
  go_wp2_with fail
  refine (H2.out _).mono ?_
  rintro e v2 ⟨rfl, hb2⟩
  have hcv := heap_new (v1.setCell ⟨w.heap.size, 1, none⟩ (.int .u64 y)) (.cells #[.int .i64 c.op, .int .i64 c.f, .int .i64 c.t, .bool c.wr, .bool c.us, .bool c.ex, .int .u64 c.addr, .int .i64 c.size, .int .u64 c.x, .int .i64 c.id, .int .i64 c.a, .int .i64 c.b, .int .i64 c.d] 30)
  rw [World.size_setCell] at hcv
  have hc2 := heap_below hb2 hcv
  have hB2 : Hid (Below w.heap.size w v2) := Lib.hid (b_then (w := w) (by go_grown) hb2)
  clear hb2 hcv H1 H2
  by_cases hg2 : goodF x0 y x2 x3 x4 x5
  · rw [readF_some hg2]
    have hnd := HNE.out hg2
    generalize valF x0 y x2 x3 x4 x5 = d at hnd
    have HND := Lib.hid hnd
    clear hnd hg2
    simp only [rvF, reF, Option.getD_some, CV.val, CV.cells, ccells]
    go_wp2_with fail
    have hdv := heap_new v2 (.cells #[.int .i64 d.op, .int .i64 d.f, .int .i64 d.t, .bool d.wr, .bool d.us, .bool d.ex, .int .u64 d.addr, .int .i64 d.size, .int .u64 d.x, .int .i64 d.id, .int .i64 d.a, .int .i64 d.b, .int .i64 d.d] 30)
    have hc3 := heap_old v2 (.cells #[.int .i64 d.op, .int .i64 d.f, .int .i64 d.t, .bool d.wr, .bool d.us, .bool d.ex, .int .u64 d.addr, .int .i64 d.size, .int .u64 d.x, .int .i64 d.id, .int .i64 d.a, .int .i64 d.b, .int .i64 d.d] 30) _ hc2
    refine (awake_true _).mono ?_
    rintro e v4 ⟨rfl, hb4⟩
    have hd4 := heap_below hb4 hdv
    have hc4 := heap_below hb4 hc3
    have hz4 := heap_lt hc4
    have hz5 := heap_lt hd4
    have hB4 : Hid (Below w.heap.size w v4) := Lib.hid (b_then (b_then hB2.out (by go_grown)) hb4)
    have c0 : v4.cell? ⟨v1.heap.size, 0, none⟩ = some (.int .i64 c.op) := cell_heap hc4 0
    have d0 : v4.cell? ⟨v2.heap.size, 0, none⟩ = some (.int .i64 d.op) := cell_heap hd4 0
    have c1 : v4.cell? ⟨v1.heap.size, 1, none⟩ = some (.int .i64 c.f) := cell_heap hc4 1
    have d1 : v4.cell? ⟨v2.heap.size, 1, none⟩ = some (.int .i64 d.f) := cell_heap hd4 1
    have c2 : v4.cell? ⟨v1.heap.size, 2, none⟩ = some (.int .i64 c.t) := cell_heap hc4 2
    have d2 : v4.cell? ⟨v2.heap.size, 2, none⟩ = some (.int .i64 d.t) := cell_heap hd4 2
    have c3 : v4.cell? ⟨v1.heap.size, 3, none⟩ = some (.bool c.wr) := cell_heap hc4 3
    have d3 : v4.cell? ⟨v2.heap.size, 3, none⟩ = some (.bool d.wr) := cell_heap hd4 3
    have c4 : v4.cell? ⟨v1.heap.size, 4, none⟩ = some (.bool c.us) := cell_heap hc4 4
    have d4 : v4.cell? ⟨v2.heap.size, 4, none⟩ = some (.bool d.us) := cell_heap hd4 4
    have c5 : v4.cell? ⟨v1.heap.size, 5, none⟩ = some (.bool c.ex) := cell_heap hc4 5
    have d5 : v4.cell? ⟨v2.heap.size, 5, none⟩ = some (.bool d.ex) := cell_heap hd4 5
    have c6 : v4.cell? ⟨v1.heap.size, 6, none⟩ = some (.int .u64 c.addr) := cell_heap hc4 6
    have d6 : v4.cell? ⟨v2.heap.size, 6, none⟩ = some (.int .u64 d.addr) := cell_heap hd4 6
    have c7 : v4.cell? ⟨v1.heap.size, 7, none⟩ = some (.int .i64 c.size) := cell_heap hc4 7
    have d7 : v4.cell? ⟨v2.heap.size, 7, none⟩ = some (.int .i64 d.size) := cell_heap hd4 7
    have c8 : v4.cell? ⟨v1.heap.size, 8, none⟩ = some (.int .u64 c.x) := cell_heap hc4 8
    have d8 : v4.cell? ⟨v2.heap.size, 8, none⟩ = some (.int .u64 d.x) := cell_heap hd4 8
    have c9 : v4.cell? ⟨v1.heap.size, 9, none⟩ = some (.int .i64 c.id) := cell_heap hc4 9
    have d9 : v4.cell? ⟨v2.heap.size, 9, none⟩ = some (.int .i64 d.id) := cell_heap hd4 9
    have c10 : v4.cell? ⟨v1.heap.size, 10, none⟩ = some (.int .i64 c.a) := cell_heap hc4 10
    have d10 : v4.cell? ⟨v2.heap.size, 10, none⟩ = some (.int .i64 d.a) := cell_heap hd4 10
    have c11 : v4.cell? ⟨v1.heap.size, 11, none⟩ = some (.int .i64 c.b) := cell_heap hc4 11
    have d11 : v4.cell? ⟨v2.heap.size, 11, none⟩ = some (.int .i64 d.b) := cell_heap hd4 11
    have c12 : v4.cell? ⟨v1.heap.size, 12, none⟩ = some (.int .i64 c.d) := cell_heap hc4 12
    have d12 : v4.cell? ⟨v2.heap.size, 12, none⟩ = some (.int .i64 d.d) := cell_heap hd4 12
    clear hdv hc3 hd4 hc4 hb4
    have hnq := fun W => neq_call c d HND.out W
    go_wp2_with fail
    go_returns
    exact ⟨rfl, hB4.out⟩
  · rw [readF_none hg2]
    clear hg2
    simp only [rvF, reF, Option.getD_none, CV.val, CV.cells, ccells, CV.zero]
    go_wp2_with fail
    have hdv := heap_new v2 (.cells #[.int .i64 0, .int .i64 0, .int .i64 0, .bool false, .bool false, .bool false, .int .u64 0, .int .i64 0, .int .u64 0, .int .i64 0, .int .i64 0, .int .i64 0, .int .i64 0] 30)
    have hc3 := heap_old v2 (.cells #[.int .i64 0, .int .i64 0, .int .i64 0, .bool false, .bool false, .bool false, .int .u64 0, .int .i64 0, .int .u64 0, .int .i64 0, .int .i64 0, .int .i64 0, .int .i64 0] 30) _ hc2
    refine (awake_true _).mono ?_
    rintro e v4 ⟨rfl, hb4⟩
    have hd4 := heap_below hb4 hdv
    have hc4 := heap_below hb4 hc3
    have hz4 := heap_lt hc4
    have hz5 := heap_lt hd4
    have hB4 : Hid (Below w.heap.size w v4) := Lib.hid (b_then (b_then hB2.out (by go_grown)) hb4)
    have c0 : v4.cell? ⟨v1.heap.size, 0, none⟩ = some (.int .i64 c.op) := cell_heap hc4 0
    have d0 : v4.cell? ⟨v2.heap.size, 0, none⟩ = some (.int .i64 0) := cell_heap hd4 0
    have c1 : v4.cell? ⟨v1.heap.size, 1, none⟩ = some (.int .i64 c.f) := cell_heap hc4 1
    have d1 : v4.cell? ⟨v2.heap.size, 1, none⟩ = some (.int .i64 0) := cell_heap hd4 1
    have c2 : v4.cell? ⟨v1.heap.size, 2, none⟩ = some (.int .i64 c.t) := cell_heap hc4 2
    have d2 : v4.cell? ⟨v2.heap.size, 2, none⟩ = some (.int .i64 0) := cell_heap hd4 2
    have c3 : v4.cell? ⟨v1.heap.size, 3, none⟩ = some (.bool c.wr) := cell_heap hc4 3
    have d3 : v4.cell? ⟨v2.heap.size, 3, none⟩ = some (.bool false) := cell_heap hd4 3
    have c4 : v4.cell? ⟨v1.heap.size, 4, none⟩ = some (.bool c.us) := cell_heap hc4 4
    have d4 : v4.cell? ⟨v2.heap.size, 4, none⟩ = some (.bool false) := cell_heap hd4 4
    have c5 : v4.cell? ⟨v1.heap.size, 5, none⟩ = some (.bool c.ex) := cell_heap hc4 5
    have d5 : v4.cell? ⟨v2.heap.size, 5, none⟩ = some (.bool false) := cell_heap hd4 5
    have c6 : v4.cell? ⟨v1.heap.size, 6, none⟩ = some (.int .u64 c.addr) := cell_heap hc4 6
    have d6 : v4.cell? ⟨v2.heap.size, 6, none⟩ = some (.int .u64 0) := cell_heap hd4 6
    have c7 : v4.cell? ⟨v1.heap.size, 7, none⟩ = some (.int .i64 c.size) := cell_heap hc4 7
    have d7 : v4.cell? ⟨v2.heap.size, 7, none⟩ = some (.int .i64 0) := cell_heap hd4 7
    have c8 : v4.cell? ⟨v1.heap.size, 8, none⟩ = some (.int .u64 c.x) := cell_heap hc4 8
    have d8 : v4.cell? ⟨v2.heap.size, 8, none⟩ = some (.int .u64 0) := cell_heap hd4 8
    have c9 : v4.cell? ⟨v1.heap.size, 9, none⟩ = some (.int .i64 c.id) := cell_heap hc4 9
    have d9 : v4.cell? ⟨v2.heap.size, 9, none⟩ = some (.int .i64 0) := cell_heap hd4 9
    have c10 : v4.cell? ⟨v1.heap.size, 10, none⟩ = some (.int .i64 c.a) := cell_heap hc4 10
    have d10 : v4.cell? ⟨v2.heap.size, 10, none⟩ = some (.int .i64 0) := cell_heap hd4 10
    have c11 : v4.cell? ⟨v1.heap.size, 11, none⟩ = some (.int .i64 c.b) := cell_heap hc4 11
    have d11 : v4.cell? ⟨v2.heap.size, 11, none⟩ = some (.int .i64 0) := cell_heap hd4 11
    have c12 : v4.cell? ⟨v1.heap.size, 12, none⟩ = some (.int .i64 c.d) := cell_heap hc4 12
    have d12 : v4.cell? ⟨v2.heap.size, 12, none⟩ = some (.int .i64 0) := cell_heap hd4 12
    clear hdv hc3 hd4 hc4 hb4
    go_wp2_with fail
    go_returns
    exact ⟨rfl, hB4.out⟩
set_option maxRecDepth 100000 in
set_option maxHeartbeats 8000000 in
theorem bits_2 (x0 x1 x2 x3 x4 x5 : Int) (n : Nat) (l0 : 0 ≤ x0) (l1 : 0 ≤ x1) (l2 : 0 ≤ x2) (l3 : 0 ≤ x3) (l4 : 0 ≤ x4) (l5 : 0 ≤ x5) (u0 : x0 < 18446744073709551616) (u1 : x1 < 18446744073709551616) (u2 : x2 < 18446744073709551616) (u3 : x3 < 18446744073709551616) (u4 : x4 < 18446744073709551616) (u5 : x5 < 18446744073709551616) (hg : goodF x0 x1 x2 x3 x4 x5) (hn : n < 64) (w : World) :
    Calls Try.prog 5 #[.agg #[.int .u64 x0, .int .u64 x1, .int .u64 x2, .int .u64 x3, .int .u64 x4, .int .u64 x5], .int .i64 2, .int .i64 n] w fun e w' => e = .returned (.bool true) ∧ Below w.heap.size w w' := by
  obtain ⟨m, hm⟩ : ∃ m : Int, m = IntKind.u64.wrap (2 ^ n) := ⟨_, rfl⟩
  have hm0 : 0 < m ∧ m < 18446744073709551616 := by
    have e : ((2 : Int) ^ n) = ((2 ^ n : Nat) : Int) := by rw [Int.natCast_pow]; rfl
    have hp : 2 ^ n < 2 ^ 64 := Nat.pow_lt_pow_right (by omega) hn
    have hp0 := Nat.two_pow_pos n
    rw [hm, e, IntWalk.u64_in _ (by omega)]; omega
  obtain ⟨hy, y0, y1⟩ := xor_ne x2 m l2 u2 hm0.1 hm0.2
  obtain ⟨y, hyy⟩ : ∃ y : Int, bits .xor .u64 x2 m = y := ⟨_, rfl⟩
  rw [hyy] at hy y0 y1
  have H2 := Lib.hid (fun W => call_read x0 x1 y x3 x4 x5 l0 l1 y0 l3 l4 l5 u1 y1 u3 u4 u5 W)
  have hne : goodF x0 x1 y x3 x4 x5 → valF x0 x1 y x3 x4 x5 ≠ valF x0 x1 x2 x3 x4 x5 := fun hg2 e => by
    have e1 := words_back hg l1 l2 l3 l4 l5 u1 u2 u3 u4 u5
    have e2 := words_back hg2 l1 y0 l3 l4 l5 u1 y1 u3 u4 u5
    rw [e, e1] at e2; injection e2 with q0 q1 q2 q3 q4 q5; exact hy (by omega)
  have HNE := Lib.hid hne
  clear hne
  have H1 := Lib.hid (fun W => call_read x0 x1 x2 x3 x4 x5 l0 l1 l2 l3 l4 l5 u1 u2 u3 u4 u5 W)
  rw [readF_some hg] at H1
  have hw0 := heap_new w (.cells #[.int .u64 x0, .int .u64 x1, .int .u64 x2, .int .u64 x3, .int .u64 x4, .int .u64 x5] 24)
  have hbw : Below w.heap.size w (w.alloc (.cells #[.int .u64 x0, .int .u64 x1, .int .u64 x2, .int .u64 x3, .int .u64 x4, .int .u64 x5] 24)) := by go_grown
  generalize valF x0 x1 x2 x3 x4 x5 = c at H1 HNE
  have hm1 : IntKind.u64.wrap (2 ^ n) = m := hm.symm
  have hn0 : (n : Int) ≤ 63 := by omega
  have dn0 : decide ((n : Int) < 0) = false := decide_eq_false (by omega)
  have dn1 : decide (63 < (n : Int)) = false := decide_eq_false (by omega)
  clear hm hg
  go_enter Try.func5, Try.ntmps5
  go_wp2_with fail
  refine (H1.out _).mono ?_
  rintro e v1 ⟨rfl, hb1⟩
  simp only [rvF, reF, CV.val, CV.cells, ccells, Option.getD_some]
  have hw1 := heap_below hb1 hw0
  have hB1 := b_then hbw hb1
  have c0 : v1.cell? ⟨w.heap.size, 0, none⟩ = some (.int .u64 x0) := cell_heap hw1 0
  have f0 : v1.frozen? ⟨w.heap.size, 0, none⟩ = false := frozen_heap hw1 0
  have c1 : v1.cell? ⟨w.heap.size, 1, none⟩ = some (.int .u64 x1) := cell_heap hw1 1
  have f1 : v1.frozen? ⟨w.heap.size, 1, none⟩ = false := frozen_heap hw1 1
  have c2 : v1.cell? ⟨w.heap.size, 2, none⟩ = some (.int .u64 x2) := cell_heap hw1 2
  have f2 : v1.frozen? ⟨w.heap.size, 2, none⟩ = false := frozen_heap hw1 2
  have c3 : v1.cell? ⟨w.heap.size, 3, none⟩ = some (.int .u64 x3) := cell_heap hw1 3
  have f3 : v1.frozen? ⟨w.heap.size, 3, none⟩ = false := frozen_heap hw1 3
  have c4 : v1.cell? ⟨w.heap.size, 4, none⟩ = some (.int .u64 x4) := cell_heap hw1 4
  have f4 : v1.frozen? ⟨w.heap.size, 4, none⟩ = false := frozen_heap hw1 4
  have c5 : v1.cell? ⟨w.heap.size, 5, none⟩ = some (.int .u64 x5) := cell_heap hw1 5
  have f5 : v1.frozen? ⟨w.heap.size, 5, none⟩ = false := frozen_heap hw1 5
  have hz1 := heap_lt hw1
  clear hw1 hb1
  go_wp2_with fail
  go_region
  go_wp2_with fail
  refine (H2.out _).mono ?_
  rintro e v2 ⟨rfl, hb2⟩
  have hcv := heap_new (v1.setCell ⟨w.heap.size, 2, none⟩ (.int .u64 y)) (.cells #[.int .i64 c.op, .int .i64 c.f, .int .i64 c.t, .bool c.wr, .bool c.us, .bool c.ex, .int .u64 c.addr, .int .i64 c.size, .int .u64 c.x, .int .i64 c.id, .int .i64 c.a, .int .i64 c.b, .int .i64 c.d] 30)
  rw [World.size_setCell] at hcv
  have hc2 := heap_below hb2 hcv
  have hB2 : Hid (Below w.heap.size w v2) := Lib.hid (b_then (w := w) (by go_grown) hb2)
  clear hb2 hcv H1 H2
  by_cases hg2 : goodF x0 x1 y x3 x4 x5
  · rw [readF_some hg2]
    have hnd := HNE.out hg2
    generalize valF x0 x1 y x3 x4 x5 = d at hnd
    have HND := Lib.hid hnd
    clear hnd hg2
    simp only [rvF, reF, Option.getD_some, CV.val, CV.cells, ccells]
    go_wp2_with fail
    have hdv := heap_new v2 (.cells #[.int .i64 d.op, .int .i64 d.f, .int .i64 d.t, .bool d.wr, .bool d.us, .bool d.ex, .int .u64 d.addr, .int .i64 d.size, .int .u64 d.x, .int .i64 d.id, .int .i64 d.a, .int .i64 d.b, .int .i64 d.d] 30)
    have hc3 := heap_old v2 (.cells #[.int .i64 d.op, .int .i64 d.f, .int .i64 d.t, .bool d.wr, .bool d.us, .bool d.ex, .int .u64 d.addr, .int .i64 d.size, .int .u64 d.x, .int .i64 d.id, .int .i64 d.a, .int .i64 d.b, .int .i64 d.d] 30) _ hc2
    refine (awake_true _).mono ?_
    rintro e v4 ⟨rfl, hb4⟩
    have hd4 := heap_below hb4 hdv
    have hc4 := heap_below hb4 hc3
    have hz4 := heap_lt hc4
    have hz5 := heap_lt hd4
    have hB4 : Hid (Below w.heap.size w v4) := Lib.hid (b_then (b_then hB2.out (by go_grown)) hb4)
    have c0 : v4.cell? ⟨v1.heap.size, 0, none⟩ = some (.int .i64 c.op) := cell_heap hc4 0
    have d0 : v4.cell? ⟨v2.heap.size, 0, none⟩ = some (.int .i64 d.op) := cell_heap hd4 0
    have c1 : v4.cell? ⟨v1.heap.size, 1, none⟩ = some (.int .i64 c.f) := cell_heap hc4 1
    have d1 : v4.cell? ⟨v2.heap.size, 1, none⟩ = some (.int .i64 d.f) := cell_heap hd4 1
    have c2 : v4.cell? ⟨v1.heap.size, 2, none⟩ = some (.int .i64 c.t) := cell_heap hc4 2
    have d2 : v4.cell? ⟨v2.heap.size, 2, none⟩ = some (.int .i64 d.t) := cell_heap hd4 2
    have c3 : v4.cell? ⟨v1.heap.size, 3, none⟩ = some (.bool c.wr) := cell_heap hc4 3
    have d3 : v4.cell? ⟨v2.heap.size, 3, none⟩ = some (.bool d.wr) := cell_heap hd4 3
    have c4 : v4.cell? ⟨v1.heap.size, 4, none⟩ = some (.bool c.us) := cell_heap hc4 4
    have d4 : v4.cell? ⟨v2.heap.size, 4, none⟩ = some (.bool d.us) := cell_heap hd4 4
    have c5 : v4.cell? ⟨v1.heap.size, 5, none⟩ = some (.bool c.ex) := cell_heap hc4 5
    have d5 : v4.cell? ⟨v2.heap.size, 5, none⟩ = some (.bool d.ex) := cell_heap hd4 5
    have c6 : v4.cell? ⟨v1.heap.size, 6, none⟩ = some (.int .u64 c.addr) := cell_heap hc4 6
    have d6 : v4.cell? ⟨v2.heap.size, 6, none⟩ = some (.int .u64 d.addr) := cell_heap hd4 6
    have c7 : v4.cell? ⟨v1.heap.size, 7, none⟩ = some (.int .i64 c.size) := cell_heap hc4 7
    have d7 : v4.cell? ⟨v2.heap.size, 7, none⟩ = some (.int .i64 d.size) := cell_heap hd4 7
    have c8 : v4.cell? ⟨v1.heap.size, 8, none⟩ = some (.int .u64 c.x) := cell_heap hc4 8
    have d8 : v4.cell? ⟨v2.heap.size, 8, none⟩ = some (.int .u64 d.x) := cell_heap hd4 8
    have c9 : v4.cell? ⟨v1.heap.size, 9, none⟩ = some (.int .i64 c.id) := cell_heap hc4 9
    have d9 : v4.cell? ⟨v2.heap.size, 9, none⟩ = some (.int .i64 d.id) := cell_heap hd4 9
    have c10 : v4.cell? ⟨v1.heap.size, 10, none⟩ = some (.int .i64 c.a) := cell_heap hc4 10
    have d10 : v4.cell? ⟨v2.heap.size, 10, none⟩ = some (.int .i64 d.a) := cell_heap hd4 10
    have c11 : v4.cell? ⟨v1.heap.size, 11, none⟩ = some (.int .i64 c.b) := cell_heap hc4 11
    have d11 : v4.cell? ⟨v2.heap.size, 11, none⟩ = some (.int .i64 d.b) := cell_heap hd4 11
    have c12 : v4.cell? ⟨v1.heap.size, 12, none⟩ = some (.int .i64 c.d) := cell_heap hc4 12
    have d12 : v4.cell? ⟨v2.heap.size, 12, none⟩ = some (.int .i64 d.d) := cell_heap hd4 12
    clear hdv hc3 hd4 hc4 hb4
    have hnq := fun W => neq_call c d HND.out W
    go_wp2_with fail
    go_returns
    exact ⟨rfl, hB4.out⟩
  · rw [readF_none hg2]
    clear hg2
    simp only [rvF, reF, Option.getD_none, CV.val, CV.cells, ccells, CV.zero]
    go_wp2_with fail
    have hdv := heap_new v2 (.cells #[.int .i64 0, .int .i64 0, .int .i64 0, .bool false, .bool false, .bool false, .int .u64 0, .int .i64 0, .int .u64 0, .int .i64 0, .int .i64 0, .int .i64 0, .int .i64 0] 30)
    have hc3 := heap_old v2 (.cells #[.int .i64 0, .int .i64 0, .int .i64 0, .bool false, .bool false, .bool false, .int .u64 0, .int .i64 0, .int .u64 0, .int .i64 0, .int .i64 0, .int .i64 0, .int .i64 0] 30) _ hc2
    refine (awake_true _).mono ?_
    rintro e v4 ⟨rfl, hb4⟩
    have hd4 := heap_below hb4 hdv
    have hc4 := heap_below hb4 hc3
    have hz4 := heap_lt hc4
    have hz5 := heap_lt hd4
    have hB4 : Hid (Below w.heap.size w v4) := Lib.hid (b_then (b_then hB2.out (by go_grown)) hb4)
    have c0 : v4.cell? ⟨v1.heap.size, 0, none⟩ = some (.int .i64 c.op) := cell_heap hc4 0
    have d0 : v4.cell? ⟨v2.heap.size, 0, none⟩ = some (.int .i64 0) := cell_heap hd4 0
    have c1 : v4.cell? ⟨v1.heap.size, 1, none⟩ = some (.int .i64 c.f) := cell_heap hc4 1
    have d1 : v4.cell? ⟨v2.heap.size, 1, none⟩ = some (.int .i64 0) := cell_heap hd4 1
    have c2 : v4.cell? ⟨v1.heap.size, 2, none⟩ = some (.int .i64 c.t) := cell_heap hc4 2
    have d2 : v4.cell? ⟨v2.heap.size, 2, none⟩ = some (.int .i64 0) := cell_heap hd4 2
    have c3 : v4.cell? ⟨v1.heap.size, 3, none⟩ = some (.bool c.wr) := cell_heap hc4 3
    have d3 : v4.cell? ⟨v2.heap.size, 3, none⟩ = some (.bool false) := cell_heap hd4 3
    have c4 : v4.cell? ⟨v1.heap.size, 4, none⟩ = some (.bool c.us) := cell_heap hc4 4
    have d4 : v4.cell? ⟨v2.heap.size, 4, none⟩ = some (.bool false) := cell_heap hd4 4
    have c5 : v4.cell? ⟨v1.heap.size, 5, none⟩ = some (.bool c.ex) := cell_heap hc4 5
    have d5 : v4.cell? ⟨v2.heap.size, 5, none⟩ = some (.bool false) := cell_heap hd4 5
    have c6 : v4.cell? ⟨v1.heap.size, 6, none⟩ = some (.int .u64 c.addr) := cell_heap hc4 6
    have d6 : v4.cell? ⟨v2.heap.size, 6, none⟩ = some (.int .u64 0) := cell_heap hd4 6
    have c7 : v4.cell? ⟨v1.heap.size, 7, none⟩ = some (.int .i64 c.size) := cell_heap hc4 7
    have d7 : v4.cell? ⟨v2.heap.size, 7, none⟩ = some (.int .i64 0) := cell_heap hd4 7
    have c8 : v4.cell? ⟨v1.heap.size, 8, none⟩ = some (.int .u64 c.x) := cell_heap hc4 8
    have d8 : v4.cell? ⟨v2.heap.size, 8, none⟩ = some (.int .u64 0) := cell_heap hd4 8
    have c9 : v4.cell? ⟨v1.heap.size, 9, none⟩ = some (.int .i64 c.id) := cell_heap hc4 9
    have d9 : v4.cell? ⟨v2.heap.size, 9, none⟩ = some (.int .i64 0) := cell_heap hd4 9
    have c10 : v4.cell? ⟨v1.heap.size, 10, none⟩ = some (.int .i64 c.a) := cell_heap hc4 10
    have d10 : v4.cell? ⟨v2.heap.size, 10, none⟩ = some (.int .i64 0) := cell_heap hd4 10
    have c11 : v4.cell? ⟨v1.heap.size, 11, none⟩ = some (.int .i64 c.b) := cell_heap hc4 11
    have d11 : v4.cell? ⟨v2.heap.size, 11, none⟩ = some (.int .i64 0) := cell_heap hd4 11
    have c12 : v4.cell? ⟨v1.heap.size, 12, none⟩ = some (.int .i64 c.d) := cell_heap hc4 12
    have d12 : v4.cell? ⟨v2.heap.size, 12, none⟩ = some (.int .i64 0) := cell_heap hd4 12
    clear hdv hc3 hd4 hc4 hb4
    go_wp2_with fail
    go_returns
    exact ⟨rfl, hB4.out⟩
set_option maxRecDepth 100000 in
set_option maxHeartbeats 8000000 in
theorem bits_3 (x0 x1 x2 x3 x4 x5 : Int) (n : Nat) (l0 : 0 ≤ x0) (l1 : 0 ≤ x1) (l2 : 0 ≤ x2) (l3 : 0 ≤ x3) (l4 : 0 ≤ x4) (l5 : 0 ≤ x5) (u0 : x0 < 18446744073709551616) (u1 : x1 < 18446744073709551616) (u2 : x2 < 18446744073709551616) (u3 : x3 < 18446744073709551616) (u4 : x4 < 18446744073709551616) (u5 : x5 < 18446744073709551616) (hg : goodF x0 x1 x2 x3 x4 x5) (hn : n < 64) (w : World) :
    Calls Try.prog 5 #[.agg #[.int .u64 x0, .int .u64 x1, .int .u64 x2, .int .u64 x3, .int .u64 x4, .int .u64 x5], .int .i64 3, .int .i64 n] w fun e w' => e = .returned (.bool true) ∧ Below w.heap.size w w' := by
  obtain ⟨m, hm⟩ : ∃ m : Int, m = IntKind.u64.wrap (2 ^ n) := ⟨_, rfl⟩
  have hm0 : 0 < m ∧ m < 18446744073709551616 := by
    have e : ((2 : Int) ^ n) = ((2 ^ n : Nat) : Int) := by rw [Int.natCast_pow]; rfl
    have hp : 2 ^ n < 2 ^ 64 := Nat.pow_lt_pow_right (by omega) hn
    have hp0 := Nat.two_pow_pos n
    rw [hm, e, IntWalk.u64_in _ (by omega)]; omega
  obtain ⟨hy, y0, y1⟩ := xor_ne x3 m l3 u3 hm0.1 hm0.2
  obtain ⟨y, hyy⟩ : ∃ y : Int, bits .xor .u64 x3 m = y := ⟨_, rfl⟩
  rw [hyy] at hy y0 y1
  have H2 := Lib.hid (fun W => call_read x0 x1 x2 y x4 x5 l0 l1 l2 y0 l4 l5 u1 u2 y1 u4 u5 W)
  have hne : goodF x0 x1 x2 y x4 x5 → valF x0 x1 x2 y x4 x5 ≠ valF x0 x1 x2 x3 x4 x5 := fun hg2 e => by
    have e1 := words_back hg l1 l2 l3 l4 l5 u1 u2 u3 u4 u5
    have e2 := words_back hg2 l1 l2 y0 l4 l5 u1 u2 y1 u4 u5
    rw [e, e1] at e2; injection e2 with q0 q1 q2 q3 q4 q5; exact hy (by omega)
  have HNE := Lib.hid hne
  clear hne
  have H1 := Lib.hid (fun W => call_read x0 x1 x2 x3 x4 x5 l0 l1 l2 l3 l4 l5 u1 u2 u3 u4 u5 W)
  rw [readF_some hg] at H1
  have hw0 := heap_new w (.cells #[.int .u64 x0, .int .u64 x1, .int .u64 x2, .int .u64 x3, .int .u64 x4, .int .u64 x5] 24)
  have hbw : Below w.heap.size w (w.alloc (.cells #[.int .u64 x0, .int .u64 x1, .int .u64 x2, .int .u64 x3, .int .u64 x4, .int .u64 x5] 24)) := by go_grown
  generalize valF x0 x1 x2 x3 x4 x5 = c at H1 HNE
  have hm1 : IntKind.u64.wrap (2 ^ n) = m := hm.symm
  have hn0 : (n : Int) ≤ 63 := by omega
  have dn0 : decide ((n : Int) < 0) = false := decide_eq_false (by omega)
  have dn1 : decide (63 < (n : Int)) = false := decide_eq_false (by omega)
  clear hm hg
  go_enter Try.func5, Try.ntmps5
  go_wp2_with fail
  refine (H1.out _).mono ?_
  rintro e v1 ⟨rfl, hb1⟩
  simp only [rvF, reF, CV.val, CV.cells, ccells, Option.getD_some]
  have hw1 := heap_below hb1 hw0
  have hB1 := b_then hbw hb1
  have c0 : v1.cell? ⟨w.heap.size, 0, none⟩ = some (.int .u64 x0) := cell_heap hw1 0
  have f0 : v1.frozen? ⟨w.heap.size, 0, none⟩ = false := frozen_heap hw1 0
  have c1 : v1.cell? ⟨w.heap.size, 1, none⟩ = some (.int .u64 x1) := cell_heap hw1 1
  have f1 : v1.frozen? ⟨w.heap.size, 1, none⟩ = false := frozen_heap hw1 1
  have c2 : v1.cell? ⟨w.heap.size, 2, none⟩ = some (.int .u64 x2) := cell_heap hw1 2
  have f2 : v1.frozen? ⟨w.heap.size, 2, none⟩ = false := frozen_heap hw1 2
  have c3 : v1.cell? ⟨w.heap.size, 3, none⟩ = some (.int .u64 x3) := cell_heap hw1 3
  have f3 : v1.frozen? ⟨w.heap.size, 3, none⟩ = false := frozen_heap hw1 3
  have c4 : v1.cell? ⟨w.heap.size, 4, none⟩ = some (.int .u64 x4) := cell_heap hw1 4
  have f4 : v1.frozen? ⟨w.heap.size, 4, none⟩ = false := frozen_heap hw1 4
  have c5 : v1.cell? ⟨w.heap.size, 5, none⟩ = some (.int .u64 x5) := cell_heap hw1 5
  have f5 : v1.frozen? ⟨w.heap.size, 5, none⟩ = false := frozen_heap hw1 5
  have hz1 := heap_lt hw1
  clear hw1 hb1
  go_wp2_with fail
  go_region
  go_wp2_with fail
  refine (H2.out _).mono ?_
  rintro e v2 ⟨rfl, hb2⟩
  have hcv := heap_new (v1.setCell ⟨w.heap.size, 3, none⟩ (.int .u64 y)) (.cells #[.int .i64 c.op, .int .i64 c.f, .int .i64 c.t, .bool c.wr, .bool c.us, .bool c.ex, .int .u64 c.addr, .int .i64 c.size, .int .u64 c.x, .int .i64 c.id, .int .i64 c.a, .int .i64 c.b, .int .i64 c.d] 30)
  rw [World.size_setCell] at hcv
  have hc2 := heap_below hb2 hcv
  have hB2 : Hid (Below w.heap.size w v2) := Lib.hid (b_then (w := w) (by go_grown) hb2)
  clear hb2 hcv H1 H2
  by_cases hg2 : goodF x0 x1 x2 y x4 x5
  · rw [readF_some hg2]
    have hnd := HNE.out hg2
    generalize valF x0 x1 x2 y x4 x5 = d at hnd
    have HND := Lib.hid hnd
    clear hnd hg2
    simp only [rvF, reF, Option.getD_some, CV.val, CV.cells, ccells]
    go_wp2_with fail
    have hdv := heap_new v2 (.cells #[.int .i64 d.op, .int .i64 d.f, .int .i64 d.t, .bool d.wr, .bool d.us, .bool d.ex, .int .u64 d.addr, .int .i64 d.size, .int .u64 d.x, .int .i64 d.id, .int .i64 d.a, .int .i64 d.b, .int .i64 d.d] 30)
    have hc3 := heap_old v2 (.cells #[.int .i64 d.op, .int .i64 d.f, .int .i64 d.t, .bool d.wr, .bool d.us, .bool d.ex, .int .u64 d.addr, .int .i64 d.size, .int .u64 d.x, .int .i64 d.id, .int .i64 d.a, .int .i64 d.b, .int .i64 d.d] 30) _ hc2
    refine (awake_true _).mono ?_
    rintro e v4 ⟨rfl, hb4⟩
    have hd4 := heap_below hb4 hdv
    have hc4 := heap_below hb4 hc3
    have hz4 := heap_lt hc4
    have hz5 := heap_lt hd4
    have hB4 : Hid (Below w.heap.size w v4) := Lib.hid (b_then (b_then hB2.out (by go_grown)) hb4)
    have c0 : v4.cell? ⟨v1.heap.size, 0, none⟩ = some (.int .i64 c.op) := cell_heap hc4 0
    have d0 : v4.cell? ⟨v2.heap.size, 0, none⟩ = some (.int .i64 d.op) := cell_heap hd4 0
    have c1 : v4.cell? ⟨v1.heap.size, 1, none⟩ = some (.int .i64 c.f) := cell_heap hc4 1
    have d1 : v4.cell? ⟨v2.heap.size, 1, none⟩ = some (.int .i64 d.f) := cell_heap hd4 1
    have c2 : v4.cell? ⟨v1.heap.size, 2, none⟩ = some (.int .i64 c.t) := cell_heap hc4 2
    have d2 : v4.cell? ⟨v2.heap.size, 2, none⟩ = some (.int .i64 d.t) := cell_heap hd4 2
    have c3 : v4.cell? ⟨v1.heap.size, 3, none⟩ = some (.bool c.wr) := cell_heap hc4 3
    have d3 : v4.cell? ⟨v2.heap.size, 3, none⟩ = some (.bool d.wr) := cell_heap hd4 3
    have c4 : v4.cell? ⟨v1.heap.size, 4, none⟩ = some (.bool c.us) := cell_heap hc4 4
    have d4 : v4.cell? ⟨v2.heap.size, 4, none⟩ = some (.bool d.us) := cell_heap hd4 4
    have c5 : v4.cell? ⟨v1.heap.size, 5, none⟩ = some (.bool c.ex) := cell_heap hc4 5
    have d5 : v4.cell? ⟨v2.heap.size, 5, none⟩ = some (.bool d.ex) := cell_heap hd4 5
    have c6 : v4.cell? ⟨v1.heap.size, 6, none⟩ = some (.int .u64 c.addr) := cell_heap hc4 6
    have d6 : v4.cell? ⟨v2.heap.size, 6, none⟩ = some (.int .u64 d.addr) := cell_heap hd4 6
    have c7 : v4.cell? ⟨v1.heap.size, 7, none⟩ = some (.int .i64 c.size) := cell_heap hc4 7
    have d7 : v4.cell? ⟨v2.heap.size, 7, none⟩ = some (.int .i64 d.size) := cell_heap hd4 7
    have c8 : v4.cell? ⟨v1.heap.size, 8, none⟩ = some (.int .u64 c.x) := cell_heap hc4 8
    have d8 : v4.cell? ⟨v2.heap.size, 8, none⟩ = some (.int .u64 d.x) := cell_heap hd4 8
    have c9 : v4.cell? ⟨v1.heap.size, 9, none⟩ = some (.int .i64 c.id) := cell_heap hc4 9
    have d9 : v4.cell? ⟨v2.heap.size, 9, none⟩ = some (.int .i64 d.id) := cell_heap hd4 9
    have c10 : v4.cell? ⟨v1.heap.size, 10, none⟩ = some (.int .i64 c.a) := cell_heap hc4 10
    have d10 : v4.cell? ⟨v2.heap.size, 10, none⟩ = some (.int .i64 d.a) := cell_heap hd4 10
    have c11 : v4.cell? ⟨v1.heap.size, 11, none⟩ = some (.int .i64 c.b) := cell_heap hc4 11
    have d11 : v4.cell? ⟨v2.heap.size, 11, none⟩ = some (.int .i64 d.b) := cell_heap hd4 11
    have c12 : v4.cell? ⟨v1.heap.size, 12, none⟩ = some (.int .i64 c.d) := cell_heap hc4 12
    have d12 : v4.cell? ⟨v2.heap.size, 12, none⟩ = some (.int .i64 d.d) := cell_heap hd4 12
    clear hdv hc3 hd4 hc4 hb4
    have hnq := fun W => neq_call c d HND.out W
    go_wp2_with fail
    go_returns
    exact ⟨rfl, hB4.out⟩
  · rw [readF_none hg2]
    clear hg2
    simp only [rvF, reF, Option.getD_none, CV.val, CV.cells, ccells, CV.zero]
    go_wp2_with fail
    have hdv := heap_new v2 (.cells #[.int .i64 0, .int .i64 0, .int .i64 0, .bool false, .bool false, .bool false, .int .u64 0, .int .i64 0, .int .u64 0, .int .i64 0, .int .i64 0, .int .i64 0, .int .i64 0] 30)
    have hc3 := heap_old v2 (.cells #[.int .i64 0, .int .i64 0, .int .i64 0, .bool false, .bool false, .bool false, .int .u64 0, .int .i64 0, .int .u64 0, .int .i64 0, .int .i64 0, .int .i64 0, .int .i64 0] 30) _ hc2
    refine (awake_true _).mono ?_
    rintro e v4 ⟨rfl, hb4⟩
    have hd4 := heap_below hb4 hdv
    have hc4 := heap_below hb4 hc3
    have hz4 := heap_lt hc4
    have hz5 := heap_lt hd4
    have hB4 : Hid (Below w.heap.size w v4) := Lib.hid (b_then (b_then hB2.out (by go_grown)) hb4)
    have c0 : v4.cell? ⟨v1.heap.size, 0, none⟩ = some (.int .i64 c.op) := cell_heap hc4 0
    have d0 : v4.cell? ⟨v2.heap.size, 0, none⟩ = some (.int .i64 0) := cell_heap hd4 0
    have c1 : v4.cell? ⟨v1.heap.size, 1, none⟩ = some (.int .i64 c.f) := cell_heap hc4 1
    have d1 : v4.cell? ⟨v2.heap.size, 1, none⟩ = some (.int .i64 0) := cell_heap hd4 1
    have c2 : v4.cell? ⟨v1.heap.size, 2, none⟩ = some (.int .i64 c.t) := cell_heap hc4 2
    have d2 : v4.cell? ⟨v2.heap.size, 2, none⟩ = some (.int .i64 0) := cell_heap hd4 2
    have c3 : v4.cell? ⟨v1.heap.size, 3, none⟩ = some (.bool c.wr) := cell_heap hc4 3
    have d3 : v4.cell? ⟨v2.heap.size, 3, none⟩ = some (.bool false) := cell_heap hd4 3
    have c4 : v4.cell? ⟨v1.heap.size, 4, none⟩ = some (.bool c.us) := cell_heap hc4 4
    have d4 : v4.cell? ⟨v2.heap.size, 4, none⟩ = some (.bool false) := cell_heap hd4 4
    have c5 : v4.cell? ⟨v1.heap.size, 5, none⟩ = some (.bool c.ex) := cell_heap hc4 5
    have d5 : v4.cell? ⟨v2.heap.size, 5, none⟩ = some (.bool false) := cell_heap hd4 5
    have c6 : v4.cell? ⟨v1.heap.size, 6, none⟩ = some (.int .u64 c.addr) := cell_heap hc4 6
    have d6 : v4.cell? ⟨v2.heap.size, 6, none⟩ = some (.int .u64 0) := cell_heap hd4 6
    have c7 : v4.cell? ⟨v1.heap.size, 7, none⟩ = some (.int .i64 c.size) := cell_heap hc4 7
    have d7 : v4.cell? ⟨v2.heap.size, 7, none⟩ = some (.int .i64 0) := cell_heap hd4 7
    have c8 : v4.cell? ⟨v1.heap.size, 8, none⟩ = some (.int .u64 c.x) := cell_heap hc4 8
    have d8 : v4.cell? ⟨v2.heap.size, 8, none⟩ = some (.int .u64 0) := cell_heap hd4 8
    have c9 : v4.cell? ⟨v1.heap.size, 9, none⟩ = some (.int .i64 c.id) := cell_heap hc4 9
    have d9 : v4.cell? ⟨v2.heap.size, 9, none⟩ = some (.int .i64 0) := cell_heap hd4 9
    have c10 : v4.cell? ⟨v1.heap.size, 10, none⟩ = some (.int .i64 c.a) := cell_heap hc4 10
    have d10 : v4.cell? ⟨v2.heap.size, 10, none⟩ = some (.int .i64 0) := cell_heap hd4 10
    have c11 : v4.cell? ⟨v1.heap.size, 11, none⟩ = some (.int .i64 c.b) := cell_heap hc4 11
    have d11 : v4.cell? ⟨v2.heap.size, 11, none⟩ = some (.int .i64 0) := cell_heap hd4 11
    have c12 : v4.cell? ⟨v1.heap.size, 12, none⟩ = some (.int .i64 c.d) := cell_heap hc4 12
    have d12 : v4.cell? ⟨v2.heap.size, 12, none⟩ = some (.int .i64 0) := cell_heap hd4 12
    clear hdv hc3 hd4 hc4 hb4
    go_wp2_with fail
    go_returns
    exact ⟨rfl, hB4.out⟩
set_option maxRecDepth 100000 in
set_option maxHeartbeats 8000000 in
theorem bits_4 (x0 x1 x2 x3 x4 x5 : Int) (n : Nat) (l0 : 0 ≤ x0) (l1 : 0 ≤ x1) (l2 : 0 ≤ x2) (l3 : 0 ≤ x3) (l4 : 0 ≤ x4) (l5 : 0 ≤ x5) (u0 : x0 < 18446744073709551616) (u1 : x1 < 18446744073709551616) (u2 : x2 < 18446744073709551616) (u3 : x3 < 18446744073709551616) (u4 : x4 < 18446744073709551616) (u5 : x5 < 18446744073709551616) (hg : goodF x0 x1 x2 x3 x4 x5) (hn : n < 64) (w : World) :
    Calls Try.prog 5 #[.agg #[.int .u64 x0, .int .u64 x1, .int .u64 x2, .int .u64 x3, .int .u64 x4, .int .u64 x5], .int .i64 4, .int .i64 n] w fun e w' => e = .returned (.bool true) ∧ Below w.heap.size w w' := by
  obtain ⟨m, hm⟩ : ∃ m : Int, m = IntKind.u64.wrap (2 ^ n) := ⟨_, rfl⟩
  have hm0 : 0 < m ∧ m < 18446744073709551616 := by
    have e : ((2 : Int) ^ n) = ((2 ^ n : Nat) : Int) := by rw [Int.natCast_pow]; rfl
    have hp : 2 ^ n < 2 ^ 64 := Nat.pow_lt_pow_right (by omega) hn
    have hp0 := Nat.two_pow_pos n
    rw [hm, e, IntWalk.u64_in _ (by omega)]; omega
  obtain ⟨hy, y0, y1⟩ := xor_ne x4 m l4 u4 hm0.1 hm0.2
  obtain ⟨y, hyy⟩ : ∃ y : Int, bits .xor .u64 x4 m = y := ⟨_, rfl⟩
  rw [hyy] at hy y0 y1
  have H2 := Lib.hid (fun W => call_read x0 x1 x2 x3 y x5 l0 l1 l2 l3 y0 l5 u1 u2 u3 y1 u5 W)
  have hne : goodF x0 x1 x2 x3 y x5 → valF x0 x1 x2 x3 y x5 ≠ valF x0 x1 x2 x3 x4 x5 := fun hg2 e => by
    have e1 := words_back hg l1 l2 l3 l4 l5 u1 u2 u3 u4 u5
    have e2 := words_back hg2 l1 l2 l3 y0 l5 u1 u2 u3 y1 u5
    rw [e, e1] at e2; injection e2 with q0 q1 q2 q3 q4 q5; exact hy (by omega)
  have HNE := Lib.hid hne
  clear hne
  have H1 := Lib.hid (fun W => call_read x0 x1 x2 x3 x4 x5 l0 l1 l2 l3 l4 l5 u1 u2 u3 u4 u5 W)
  rw [readF_some hg] at H1
  have hw0 := heap_new w (.cells #[.int .u64 x0, .int .u64 x1, .int .u64 x2, .int .u64 x3, .int .u64 x4, .int .u64 x5] 24)
  have hbw : Below w.heap.size w (w.alloc (.cells #[.int .u64 x0, .int .u64 x1, .int .u64 x2, .int .u64 x3, .int .u64 x4, .int .u64 x5] 24)) := by go_grown
  generalize valF x0 x1 x2 x3 x4 x5 = c at H1 HNE
  have hm1 : IntKind.u64.wrap (2 ^ n) = m := hm.symm
  have hn0 : (n : Int) ≤ 63 := by omega
  have dn0 : decide ((n : Int) < 0) = false := decide_eq_false (by omega)
  have dn1 : decide (63 < (n : Int)) = false := decide_eq_false (by omega)
  clear hm hg
  go_enter Try.func5, Try.ntmps5
  go_wp2_with fail
  refine (H1.out _).mono ?_
  rintro e v1 ⟨rfl, hb1⟩
  simp only [rvF, reF, CV.val, CV.cells, ccells, Option.getD_some]
  have hw1 := heap_below hb1 hw0
  have hB1 := b_then hbw hb1
  have c0 : v1.cell? ⟨w.heap.size, 0, none⟩ = some (.int .u64 x0) := cell_heap hw1 0
  have f0 : v1.frozen? ⟨w.heap.size, 0, none⟩ = false := frozen_heap hw1 0
  have c1 : v1.cell? ⟨w.heap.size, 1, none⟩ = some (.int .u64 x1) := cell_heap hw1 1
  have f1 : v1.frozen? ⟨w.heap.size, 1, none⟩ = false := frozen_heap hw1 1
  have c2 : v1.cell? ⟨w.heap.size, 2, none⟩ = some (.int .u64 x2) := cell_heap hw1 2
  have f2 : v1.frozen? ⟨w.heap.size, 2, none⟩ = false := frozen_heap hw1 2
  have c3 : v1.cell? ⟨w.heap.size, 3, none⟩ = some (.int .u64 x3) := cell_heap hw1 3
  have f3 : v1.frozen? ⟨w.heap.size, 3, none⟩ = false := frozen_heap hw1 3
  have c4 : v1.cell? ⟨w.heap.size, 4, none⟩ = some (.int .u64 x4) := cell_heap hw1 4
  have f4 : v1.frozen? ⟨w.heap.size, 4, none⟩ = false := frozen_heap hw1 4
  have c5 : v1.cell? ⟨w.heap.size, 5, none⟩ = some (.int .u64 x5) := cell_heap hw1 5
  have f5 : v1.frozen? ⟨w.heap.size, 5, none⟩ = false := frozen_heap hw1 5
  have hz1 := heap_lt hw1
  clear hw1 hb1
  go_wp2_with fail
  go_region
  go_wp2_with fail
  refine (H2.out _).mono ?_
  rintro e v2 ⟨rfl, hb2⟩
  have hcv := heap_new (v1.setCell ⟨w.heap.size, 4, none⟩ (.int .u64 y)) (.cells #[.int .i64 c.op, .int .i64 c.f, .int .i64 c.t, .bool c.wr, .bool c.us, .bool c.ex, .int .u64 c.addr, .int .i64 c.size, .int .u64 c.x, .int .i64 c.id, .int .i64 c.a, .int .i64 c.b, .int .i64 c.d] 30)
  rw [World.size_setCell] at hcv
  have hc2 := heap_below hb2 hcv
  have hB2 : Hid (Below w.heap.size w v2) := Lib.hid (b_then (w := w) (by go_grown) hb2)
  clear hb2 hcv H1 H2
  by_cases hg2 : goodF x0 x1 x2 x3 y x5
  · rw [readF_some hg2]
    have hnd := HNE.out hg2
    generalize valF x0 x1 x2 x3 y x5 = d at hnd
    have HND := Lib.hid hnd
    clear hnd hg2
    simp only [rvF, reF, Option.getD_some, CV.val, CV.cells, ccells]
    go_wp2_with fail
    have hdv := heap_new v2 (.cells #[.int .i64 d.op, .int .i64 d.f, .int .i64 d.t, .bool d.wr, .bool d.us, .bool d.ex, .int .u64 d.addr, .int .i64 d.size, .int .u64 d.x, .int .i64 d.id, .int .i64 d.a, .int .i64 d.b, .int .i64 d.d] 30)
    have hc3 := heap_old v2 (.cells #[.int .i64 d.op, .int .i64 d.f, .int .i64 d.t, .bool d.wr, .bool d.us, .bool d.ex, .int .u64 d.addr, .int .i64 d.size, .int .u64 d.x, .int .i64 d.id, .int .i64 d.a, .int .i64 d.b, .int .i64 d.d] 30) _ hc2
    refine (awake_true _).mono ?_
    rintro e v4 ⟨rfl, hb4⟩
    have hd4 := heap_below hb4 hdv
    have hc4 := heap_below hb4 hc3
    have hz4 := heap_lt hc4
    have hz5 := heap_lt hd4
    have hB4 : Hid (Below w.heap.size w v4) := Lib.hid (b_then (b_then hB2.out (by go_grown)) hb4)
    have c0 : v4.cell? ⟨v1.heap.size, 0, none⟩ = some (.int .i64 c.op) := cell_heap hc4 0
    have d0 : v4.cell? ⟨v2.heap.size, 0, none⟩ = some (.int .i64 d.op) := cell_heap hd4 0
    have c1 : v4.cell? ⟨v1.heap.size, 1, none⟩ = some (.int .i64 c.f) := cell_heap hc4 1
    have d1 : v4.cell? ⟨v2.heap.size, 1, none⟩ = some (.int .i64 d.f) := cell_heap hd4 1
    have c2 : v4.cell? ⟨v1.heap.size, 2, none⟩ = some (.int .i64 c.t) := cell_heap hc4 2
    have d2 : v4.cell? ⟨v2.heap.size, 2, none⟩ = some (.int .i64 d.t) := cell_heap hd4 2
    have c3 : v4.cell? ⟨v1.heap.size, 3, none⟩ = some (.bool c.wr) := cell_heap hc4 3
    have d3 : v4.cell? ⟨v2.heap.size, 3, none⟩ = some (.bool d.wr) := cell_heap hd4 3
    have c4 : v4.cell? ⟨v1.heap.size, 4, none⟩ = some (.bool c.us) := cell_heap hc4 4
    have d4 : v4.cell? ⟨v2.heap.size, 4, none⟩ = some (.bool d.us) := cell_heap hd4 4
    have c5 : v4.cell? ⟨v1.heap.size, 5, none⟩ = some (.bool c.ex) := cell_heap hc4 5
    have d5 : v4.cell? ⟨v2.heap.size, 5, none⟩ = some (.bool d.ex) := cell_heap hd4 5
    have c6 : v4.cell? ⟨v1.heap.size, 6, none⟩ = some (.int .u64 c.addr) := cell_heap hc4 6
    have d6 : v4.cell? ⟨v2.heap.size, 6, none⟩ = some (.int .u64 d.addr) := cell_heap hd4 6
    have c7 : v4.cell? ⟨v1.heap.size, 7, none⟩ = some (.int .i64 c.size) := cell_heap hc4 7
    have d7 : v4.cell? ⟨v2.heap.size, 7, none⟩ = some (.int .i64 d.size) := cell_heap hd4 7
    have c8 : v4.cell? ⟨v1.heap.size, 8, none⟩ = some (.int .u64 c.x) := cell_heap hc4 8
    have d8 : v4.cell? ⟨v2.heap.size, 8, none⟩ = some (.int .u64 d.x) := cell_heap hd4 8
    have c9 : v4.cell? ⟨v1.heap.size, 9, none⟩ = some (.int .i64 c.id) := cell_heap hc4 9
    have d9 : v4.cell? ⟨v2.heap.size, 9, none⟩ = some (.int .i64 d.id) := cell_heap hd4 9
    have c10 : v4.cell? ⟨v1.heap.size, 10, none⟩ = some (.int .i64 c.a) := cell_heap hc4 10
    have d10 : v4.cell? ⟨v2.heap.size, 10, none⟩ = some (.int .i64 d.a) := cell_heap hd4 10
    have c11 : v4.cell? ⟨v1.heap.size, 11, none⟩ = some (.int .i64 c.b) := cell_heap hc4 11
    have d11 : v4.cell? ⟨v2.heap.size, 11, none⟩ = some (.int .i64 d.b) := cell_heap hd4 11
    have c12 : v4.cell? ⟨v1.heap.size, 12, none⟩ = some (.int .i64 c.d) := cell_heap hc4 12
    have d12 : v4.cell? ⟨v2.heap.size, 12, none⟩ = some (.int .i64 d.d) := cell_heap hd4 12
    clear hdv hc3 hd4 hc4 hb4
    have hnq := fun W => neq_call c d HND.out W
    go_wp2_with fail
    go_returns
    exact ⟨rfl, hB4.out⟩
  · rw [readF_none hg2]
    clear hg2
    simp only [rvF, reF, Option.getD_none, CV.val, CV.cells, ccells, CV.zero]
    go_wp2_with fail
    have hdv := heap_new v2 (.cells #[.int .i64 0, .int .i64 0, .int .i64 0, .bool false, .bool false, .bool false, .int .u64 0, .int .i64 0, .int .u64 0, .int .i64 0, .int .i64 0, .int .i64 0, .int .i64 0] 30)
    have hc3 := heap_old v2 (.cells #[.int .i64 0, .int .i64 0, .int .i64 0, .bool false, .bool false, .bool false, .int .u64 0, .int .i64 0, .int .u64 0, .int .i64 0, .int .i64 0, .int .i64 0, .int .i64 0] 30) _ hc2
    refine (awake_true _).mono ?_
    rintro e v4 ⟨rfl, hb4⟩
    have hd4 := heap_below hb4 hdv
    have hc4 := heap_below hb4 hc3
    have hz4 := heap_lt hc4
    have hz5 := heap_lt hd4
    have hB4 : Hid (Below w.heap.size w v4) := Lib.hid (b_then (b_then hB2.out (by go_grown)) hb4)
    have c0 : v4.cell? ⟨v1.heap.size, 0, none⟩ = some (.int .i64 c.op) := cell_heap hc4 0
    have d0 : v4.cell? ⟨v2.heap.size, 0, none⟩ = some (.int .i64 0) := cell_heap hd4 0
    have c1 : v4.cell? ⟨v1.heap.size, 1, none⟩ = some (.int .i64 c.f) := cell_heap hc4 1
    have d1 : v4.cell? ⟨v2.heap.size, 1, none⟩ = some (.int .i64 0) := cell_heap hd4 1
    have c2 : v4.cell? ⟨v1.heap.size, 2, none⟩ = some (.int .i64 c.t) := cell_heap hc4 2
    have d2 : v4.cell? ⟨v2.heap.size, 2, none⟩ = some (.int .i64 0) := cell_heap hd4 2
    have c3 : v4.cell? ⟨v1.heap.size, 3, none⟩ = some (.bool c.wr) := cell_heap hc4 3
    have d3 : v4.cell? ⟨v2.heap.size, 3, none⟩ = some (.bool false) := cell_heap hd4 3
    have c4 : v4.cell? ⟨v1.heap.size, 4, none⟩ = some (.bool c.us) := cell_heap hc4 4
    have d4 : v4.cell? ⟨v2.heap.size, 4, none⟩ = some (.bool false) := cell_heap hd4 4
    have c5 : v4.cell? ⟨v1.heap.size, 5, none⟩ = some (.bool c.ex) := cell_heap hc4 5
    have d5 : v4.cell? ⟨v2.heap.size, 5, none⟩ = some (.bool false) := cell_heap hd4 5
    have c6 : v4.cell? ⟨v1.heap.size, 6, none⟩ = some (.int .u64 c.addr) := cell_heap hc4 6
    have d6 : v4.cell? ⟨v2.heap.size, 6, none⟩ = some (.int .u64 0) := cell_heap hd4 6
    have c7 : v4.cell? ⟨v1.heap.size, 7, none⟩ = some (.int .i64 c.size) := cell_heap hc4 7
    have d7 : v4.cell? ⟨v2.heap.size, 7, none⟩ = some (.int .i64 0) := cell_heap hd4 7
    have c8 : v4.cell? ⟨v1.heap.size, 8, none⟩ = some (.int .u64 c.x) := cell_heap hc4 8
    have d8 : v4.cell? ⟨v2.heap.size, 8, none⟩ = some (.int .u64 0) := cell_heap hd4 8
    have c9 : v4.cell? ⟨v1.heap.size, 9, none⟩ = some (.int .i64 c.id) := cell_heap hc4 9
    have d9 : v4.cell? ⟨v2.heap.size, 9, none⟩ = some (.int .i64 0) := cell_heap hd4 9
    have c10 : v4.cell? ⟨v1.heap.size, 10, none⟩ = some (.int .i64 c.a) := cell_heap hc4 10
    have d10 : v4.cell? ⟨v2.heap.size, 10, none⟩ = some (.int .i64 0) := cell_heap hd4 10
    have c11 : v4.cell? ⟨v1.heap.size, 11, none⟩ = some (.int .i64 c.b) := cell_heap hc4 11
    have d11 : v4.cell? ⟨v2.heap.size, 11, none⟩ = some (.int .i64 0) := cell_heap hd4 11
    have c12 : v4.cell? ⟨v1.heap.size, 12, none⟩ = some (.int .i64 c.d) := cell_heap hc4 12
    have d12 : v4.cell? ⟨v2.heap.size, 12, none⟩ = some (.int .i64 0) := cell_heap hd4 12
    clear hdv hc3 hd4 hc4 hb4
    go_wp2_with fail
    go_returns
    exact ⟨rfl, hB4.out⟩
set_option maxRecDepth 100000 in
set_option maxHeartbeats 8000000 in
theorem bits_5 (x0 x1 x2 x3 x4 x5 : Int) (n : Nat) (l0 : 0 ≤ x0) (l1 : 0 ≤ x1) (l2 : 0 ≤ x2) (l3 : 0 ≤ x3) (l4 : 0 ≤ x4) (l5 : 0 ≤ x5) (u0 : x0 < 18446744073709551616) (u1 : x1 < 18446744073709551616) (u2 : x2 < 18446744073709551616) (u3 : x3 < 18446744073709551616) (u4 : x4 < 18446744073709551616) (u5 : x5 < 18446744073709551616) (hg : goodF x0 x1 x2 x3 x4 x5) (hn : n < 64) (w : World) :
    Calls Try.prog 5 #[.agg #[.int .u64 x0, .int .u64 x1, .int .u64 x2, .int .u64 x3, .int .u64 x4, .int .u64 x5], .int .i64 5, .int .i64 n] w fun e w' => e = .returned (.bool true) ∧ Below w.heap.size w w' := by
  obtain ⟨m, hm⟩ : ∃ m : Int, m = IntKind.u64.wrap (2 ^ n) := ⟨_, rfl⟩
  have hm0 : 0 < m ∧ m < 18446744073709551616 := by
    have e : ((2 : Int) ^ n) = ((2 ^ n : Nat) : Int) := by rw [Int.natCast_pow]; rfl
    have hp : 2 ^ n < 2 ^ 64 := Nat.pow_lt_pow_right (by omega) hn
    have hp0 := Nat.two_pow_pos n
    rw [hm, e, IntWalk.u64_in _ (by omega)]; omega
  obtain ⟨hy, y0, y1⟩ := xor_ne x5 m l5 u5 hm0.1 hm0.2
  obtain ⟨y, hyy⟩ : ∃ y : Int, bits .xor .u64 x5 m = y := ⟨_, rfl⟩
  rw [hyy] at hy y0 y1
  have H2 := Lib.hid (fun W => call_read x0 x1 x2 x3 x4 y l0 l1 l2 l3 l4 y0 u1 u2 u3 u4 y1 W)
  have hne : goodF x0 x1 x2 x3 x4 y → valF x0 x1 x2 x3 x4 y ≠ valF x0 x1 x2 x3 x4 x5 := fun hg2 e => by
    have e1 := words_back hg l1 l2 l3 l4 l5 u1 u2 u3 u4 u5
    have e2 := words_back hg2 l1 l2 l3 l4 y0 u1 u2 u3 u4 y1
    rw [e, e1] at e2; injection e2 with q0 q1 q2 q3 q4 q5; exact hy (by omega)
  have HNE := Lib.hid hne
  clear hne
  have H1 := Lib.hid (fun W => call_read x0 x1 x2 x3 x4 x5 l0 l1 l2 l3 l4 l5 u1 u2 u3 u4 u5 W)
  rw [readF_some hg] at H1
  have hw0 := heap_new w (.cells #[.int .u64 x0, .int .u64 x1, .int .u64 x2, .int .u64 x3, .int .u64 x4, .int .u64 x5] 24)
  have hbw : Below w.heap.size w (w.alloc (.cells #[.int .u64 x0, .int .u64 x1, .int .u64 x2, .int .u64 x3, .int .u64 x4, .int .u64 x5] 24)) := by go_grown
  generalize valF x0 x1 x2 x3 x4 x5 = c at H1 HNE
  have hm1 : IntKind.u64.wrap (2 ^ n) = m := hm.symm
  have hn0 : (n : Int) ≤ 63 := by omega
  have dn0 : decide ((n : Int) < 0) = false := decide_eq_false (by omega)
  have dn1 : decide (63 < (n : Int)) = false := decide_eq_false (by omega)
  clear hm hg
  go_enter Try.func5, Try.ntmps5
  go_wp2_with fail
  refine (H1.out _).mono ?_
  rintro e v1 ⟨rfl, hb1⟩
  simp only [rvF, reF, CV.val, CV.cells, ccells, Option.getD_some]
  have hw1 := heap_below hb1 hw0
  have hB1 := b_then hbw hb1
  have c0 : v1.cell? ⟨w.heap.size, 0, none⟩ = some (.int .u64 x0) := cell_heap hw1 0
  have f0 : v1.frozen? ⟨w.heap.size, 0, none⟩ = false := frozen_heap hw1 0
  have c1 : v1.cell? ⟨w.heap.size, 1, none⟩ = some (.int .u64 x1) := cell_heap hw1 1
  have f1 : v1.frozen? ⟨w.heap.size, 1, none⟩ = false := frozen_heap hw1 1
  have c2 : v1.cell? ⟨w.heap.size, 2, none⟩ = some (.int .u64 x2) := cell_heap hw1 2
  have f2 : v1.frozen? ⟨w.heap.size, 2, none⟩ = false := frozen_heap hw1 2
  have c3 : v1.cell? ⟨w.heap.size, 3, none⟩ = some (.int .u64 x3) := cell_heap hw1 3
  have f3 : v1.frozen? ⟨w.heap.size, 3, none⟩ = false := frozen_heap hw1 3
  have c4 : v1.cell? ⟨w.heap.size, 4, none⟩ = some (.int .u64 x4) := cell_heap hw1 4
  have f4 : v1.frozen? ⟨w.heap.size, 4, none⟩ = false := frozen_heap hw1 4
  have c5 : v1.cell? ⟨w.heap.size, 5, none⟩ = some (.int .u64 x5) := cell_heap hw1 5
  have f5 : v1.frozen? ⟨w.heap.size, 5, none⟩ = false := frozen_heap hw1 5
  have hz1 := heap_lt hw1
  clear hw1 hb1
  go_wp2_with fail
  go_region
  go_wp2_with fail
  refine (H2.out _).mono ?_
  rintro e v2 ⟨rfl, hb2⟩
  have hcv := heap_new (v1.setCell ⟨w.heap.size, 5, none⟩ (.int .u64 y)) (.cells #[.int .i64 c.op, .int .i64 c.f, .int .i64 c.t, .bool c.wr, .bool c.us, .bool c.ex, .int .u64 c.addr, .int .i64 c.size, .int .u64 c.x, .int .i64 c.id, .int .i64 c.a, .int .i64 c.b, .int .i64 c.d] 30)
  rw [World.size_setCell] at hcv
  have hc2 := heap_below hb2 hcv
  have hB2 : Hid (Below w.heap.size w v2) := Lib.hid (b_then (w := w) (by go_grown) hb2)
  clear hb2 hcv H1 H2
  by_cases hg2 : goodF x0 x1 x2 x3 x4 y
  · rw [readF_some hg2]
    have hnd := HNE.out hg2
    generalize valF x0 x1 x2 x3 x4 y = d at hnd
    have HND := Lib.hid hnd
    clear hnd hg2
    simp only [rvF, reF, Option.getD_some, CV.val, CV.cells, ccells]
    go_wp2_with fail
    have hdv := heap_new v2 (.cells #[.int .i64 d.op, .int .i64 d.f, .int .i64 d.t, .bool d.wr, .bool d.us, .bool d.ex, .int .u64 d.addr, .int .i64 d.size, .int .u64 d.x, .int .i64 d.id, .int .i64 d.a, .int .i64 d.b, .int .i64 d.d] 30)
    have hc3 := heap_old v2 (.cells #[.int .i64 d.op, .int .i64 d.f, .int .i64 d.t, .bool d.wr, .bool d.us, .bool d.ex, .int .u64 d.addr, .int .i64 d.size, .int .u64 d.x, .int .i64 d.id, .int .i64 d.a, .int .i64 d.b, .int .i64 d.d] 30) _ hc2
    refine (awake_true _).mono ?_
    rintro e v4 ⟨rfl, hb4⟩
    have hd4 := heap_below hb4 hdv
    have hc4 := heap_below hb4 hc3
    have hz4 := heap_lt hc4
    have hz5 := heap_lt hd4
    have hB4 : Hid (Below w.heap.size w v4) := Lib.hid (b_then (b_then hB2.out (by go_grown)) hb4)
    have c0 : v4.cell? ⟨v1.heap.size, 0, none⟩ = some (.int .i64 c.op) := cell_heap hc4 0
    have d0 : v4.cell? ⟨v2.heap.size, 0, none⟩ = some (.int .i64 d.op) := cell_heap hd4 0
    have c1 : v4.cell? ⟨v1.heap.size, 1, none⟩ = some (.int .i64 c.f) := cell_heap hc4 1
    have d1 : v4.cell? ⟨v2.heap.size, 1, none⟩ = some (.int .i64 d.f) := cell_heap hd4 1
    have c2 : v4.cell? ⟨v1.heap.size, 2, none⟩ = some (.int .i64 c.t) := cell_heap hc4 2
    have d2 : v4.cell? ⟨v2.heap.size, 2, none⟩ = some (.int .i64 d.t) := cell_heap hd4 2
    have c3 : v4.cell? ⟨v1.heap.size, 3, none⟩ = some (.bool c.wr) := cell_heap hc4 3
    have d3 : v4.cell? ⟨v2.heap.size, 3, none⟩ = some (.bool d.wr) := cell_heap hd4 3
    have c4 : v4.cell? ⟨v1.heap.size, 4, none⟩ = some (.bool c.us) := cell_heap hc4 4
    have d4 : v4.cell? ⟨v2.heap.size, 4, none⟩ = some (.bool d.us) := cell_heap hd4 4
    have c5 : v4.cell? ⟨v1.heap.size, 5, none⟩ = some (.bool c.ex) := cell_heap hc4 5
    have d5 : v4.cell? ⟨v2.heap.size, 5, none⟩ = some (.bool d.ex) := cell_heap hd4 5
    have c6 : v4.cell? ⟨v1.heap.size, 6, none⟩ = some (.int .u64 c.addr) := cell_heap hc4 6
    have d6 : v4.cell? ⟨v2.heap.size, 6, none⟩ = some (.int .u64 d.addr) := cell_heap hd4 6
    have c7 : v4.cell? ⟨v1.heap.size, 7, none⟩ = some (.int .i64 c.size) := cell_heap hc4 7
    have d7 : v4.cell? ⟨v2.heap.size, 7, none⟩ = some (.int .i64 d.size) := cell_heap hd4 7
    have c8 : v4.cell? ⟨v1.heap.size, 8, none⟩ = some (.int .u64 c.x) := cell_heap hc4 8
    have d8 : v4.cell? ⟨v2.heap.size, 8, none⟩ = some (.int .u64 d.x) := cell_heap hd4 8
    have c9 : v4.cell? ⟨v1.heap.size, 9, none⟩ = some (.int .i64 c.id) := cell_heap hc4 9
    have d9 : v4.cell? ⟨v2.heap.size, 9, none⟩ = some (.int .i64 d.id) := cell_heap hd4 9
    have c10 : v4.cell? ⟨v1.heap.size, 10, none⟩ = some (.int .i64 c.a) := cell_heap hc4 10
    have d10 : v4.cell? ⟨v2.heap.size, 10, none⟩ = some (.int .i64 d.a) := cell_heap hd4 10
    have c11 : v4.cell? ⟨v1.heap.size, 11, none⟩ = some (.int .i64 c.b) := cell_heap hc4 11
    have d11 : v4.cell? ⟨v2.heap.size, 11, none⟩ = some (.int .i64 d.b) := cell_heap hd4 11
    have c12 : v4.cell? ⟨v1.heap.size, 12, none⟩ = some (.int .i64 c.d) := cell_heap hc4 12
    have d12 : v4.cell? ⟨v2.heap.size, 12, none⟩ = some (.int .i64 d.d) := cell_heap hd4 12
    clear hdv hc3 hd4 hc4 hb4
    have hnq := fun W => neq_call c d HND.out W
    go_wp2_with fail
    go_returns
    exact ⟨rfl, hB4.out⟩
  · rw [readF_none hg2]
    clear hg2
    simp only [rvF, reF, Option.getD_none, CV.val, CV.cells, ccells, CV.zero]
    go_wp2_with fail
    have hdv := heap_new v2 (.cells #[.int .i64 0, .int .i64 0, .int .i64 0, .bool false, .bool false, .bool false, .int .u64 0, .int .i64 0, .int .u64 0, .int .i64 0, .int .i64 0, .int .i64 0, .int .i64 0] 30)
    have hc3 := heap_old v2 (.cells #[.int .i64 0, .int .i64 0, .int .i64 0, .bool false, .bool false, .bool false, .int .u64 0, .int .i64 0, .int .u64 0, .int .i64 0, .int .i64 0, .int .i64 0, .int .i64 0] 30) _ hc2
    refine (awake_true _).mono ?_
    rintro e v4 ⟨rfl, hb4⟩
    have hd4 := heap_below hb4 hdv
    have hc4 := heap_below hb4 hc3
    have hz4 := heap_lt hc4
    have hz5 := heap_lt hd4
    have hB4 : Hid (Below w.heap.size w v4) := Lib.hid (b_then (b_then hB2.out (by go_grown)) hb4)
    have c0 : v4.cell? ⟨v1.heap.size, 0, none⟩ = some (.int .i64 c.op) := cell_heap hc4 0
    have d0 : v4.cell? ⟨v2.heap.size, 0, none⟩ = some (.int .i64 0) := cell_heap hd4 0
    have c1 : v4.cell? ⟨v1.heap.size, 1, none⟩ = some (.int .i64 c.f) := cell_heap hc4 1
    have d1 : v4.cell? ⟨v2.heap.size, 1, none⟩ = some (.int .i64 0) := cell_heap hd4 1
    have c2 : v4.cell? ⟨v1.heap.size, 2, none⟩ = some (.int .i64 c.t) := cell_heap hc4 2
    have d2 : v4.cell? ⟨v2.heap.size, 2, none⟩ = some (.int .i64 0) := cell_heap hd4 2
    have c3 : v4.cell? ⟨v1.heap.size, 3, none⟩ = some (.bool c.wr) := cell_heap hc4 3
    have d3 : v4.cell? ⟨v2.heap.size, 3, none⟩ = some (.bool false) := cell_heap hd4 3
    have c4 : v4.cell? ⟨v1.heap.size, 4, none⟩ = some (.bool c.us) := cell_heap hc4 4
    have d4 : v4.cell? ⟨v2.heap.size, 4, none⟩ = some (.bool false) := cell_heap hd4 4
    have c5 : v4.cell? ⟨v1.heap.size, 5, none⟩ = some (.bool c.ex) := cell_heap hc4 5
    have d5 : v4.cell? ⟨v2.heap.size, 5, none⟩ = some (.bool false) := cell_heap hd4 5
    have c6 : v4.cell? ⟨v1.heap.size, 6, none⟩ = some (.int .u64 c.addr) := cell_heap hc4 6
    have d6 : v4.cell? ⟨v2.heap.size, 6, none⟩ = some (.int .u64 0) := cell_heap hd4 6
    have c7 : v4.cell? ⟨v1.heap.size, 7, none⟩ = some (.int .i64 c.size) := cell_heap hc4 7
    have d7 : v4.cell? ⟨v2.heap.size, 7, none⟩ = some (.int .i64 0) := cell_heap hd4 7
    have c8 : v4.cell? ⟨v1.heap.size, 8, none⟩ = some (.int .u64 c.x) := cell_heap hc4 8
    have d8 : v4.cell? ⟨v2.heap.size, 8, none⟩ = some (.int .u64 0) := cell_heap hd4 8
    have c9 : v4.cell? ⟨v1.heap.size, 9, none⟩ = some (.int .i64 c.id) := cell_heap hc4 9
    have d9 : v4.cell? ⟨v2.heap.size, 9, none⟩ = some (.int .i64 0) := cell_heap hd4 9
    have c10 : v4.cell? ⟨v1.heap.size, 10, none⟩ = some (.int .i64 c.a) := cell_heap hc4 10
    have d10 : v4.cell? ⟨v2.heap.size, 10, none⟩ = some (.int .i64 0) := cell_heap hd4 10
    have c11 : v4.cell? ⟨v1.heap.size, 11, none⟩ = some (.int .i64 c.b) := cell_heap hc4 11
    have d11 : v4.cell? ⟨v2.heap.size, 11, none⟩ = some (.int .i64 0) := cell_heap hd4 11
    have c12 : v4.cell? ⟨v1.heap.size, 12, none⟩ = some (.int .i64 c.d) := cell_heap hc4 12
    have d12 : v4.cell? ⟨v2.heap.size, 12, none⟩ = some (.int .i64 0) := cell_heap hd4 12
    clear hdv hc3 hd4 hc4 hb4
    go_wp2_with fail
    go_returns
    exact ⟨rfl, hB4.out⟩
end Go.Proofs.Ytcnmhmbdbadbmaa
