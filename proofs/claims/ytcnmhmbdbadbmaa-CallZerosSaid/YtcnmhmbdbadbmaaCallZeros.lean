/- CallZeros: words that a call doesn't use must be nought. No condition. -/
import Derived.Test.YtcnmhmbdbadbmaaCallT
namespace Go.Proofs.Ytcnmhmbdbadbmaa
open Go.ChangeShapes Go.WideShapes Go.ChangeAt Go.RowKit
set_option linter.unusedVariables false
set_option linter.unusedSimpArgs false


set_option maxRecDepth 100000 in
set_option maxHeartbeats 8000000 in
theorem walk_CallZeros (a0_0 : Int) (a0_1 : Int) (a0_2 : Int) (a0_3 : Int) (a0_4 : Int) (a0_5 : Int) (a1 : Int) (a2 : Int) (w : World) (w0_0 : (Lit.int .u64 a0_0).wf = true) (w0_1 : (Lit.int .u64 a0_1).wf = true) (w0_2 : (Lit.int .u64 a0_2).wf = true) (w0_3 : (Lit.int .u64 a0_3).wf = true) (w0_4 : (Lit.int .u64 a0_4).wf = true) (w0_5 : (Lit.int .u64 a0_5).wf = true) (w1 : (Lit.int .i64 a1).wf = true) (w2 : (Lit.int .u64 a2).wf = true) :
    Calls Try.prog 4 #[.agg #[.int .u64 a0_0, .int .u64 a0_1, .int .u64 a0_2, .int .u64 a0_3, .int .u64 a0_4, .int .u64 a0_5], .int .i64 a1, .int .u64 a2] w fun e w' => e = .returned (.bool true) ∧ Below w.heap.size w w' := by
  obtain ⟨l0, u0⟩ := u64_bd w0_0
  obtain ⟨l1, u1⟩ := u64_bd w0_1
  obtain ⟨l2, u2⟩ := u64_bd w0_2
  obtain ⟨l3, u3⟩ := u64_bd w0_3
  obtain ⟨l4, u4⟩ := u64_bd w0_4
  obtain ⟨l5, u5⟩ := u64_bd w0_5
  obtain ⟨l6, u6⟩ := u64_bd w2
  clear w0_0 w0_1 w0_2 w0_3 w0_4 w0_5 w1 w2
  have H1 := Lib.hid (fun W => call_read a0_0 a0_1 a0_2 a0_3 a0_4 a0_5 l0 l1 l2 l3 l4 l5 u1 u2 u3 u4 u5 W)
  have HU := Lib.hid (fun W => used_any a0_0 l0 W)
  have hw0 := heap_new w (.cells #[.int .u64 a0_0, .int .u64 a0_1, .int .u64 a0_2, .int .u64 a0_3, .int .u64 a0_4, .int .u64 a0_5] 24)
  have hbw : Below w.heap.size w (w.alloc (.cells #[.int .u64 a0_0, .int .u64 a0_1, .int .u64 a0_2, .int .u64 a0_3, .int .u64 a0_4, .int .u64 a0_5] 24)) := by go_grown
  by_cases hg : goodF a0_0 a0_1 a0_2 a0_3 a0_4 a0_5
  · have hus := used_good hg
    have HN : Hid (∀ k x, usedF a0_0 < k → x ≠ 0 → (k = 1 → ¬ goodF a0_0 x a0_2 a0_3 a0_4 a0_5) ∧ (k = 2 → ¬ goodF a0_0 a0_1 x a0_3 a0_4 a0_5) ∧ (k = 3 → ¬ goodF a0_0 a0_1 a0_2 x a0_4 a0_5) ∧ (k = 4 → ¬ goodF a0_0 a0_1 a0_2 a0_3 x a0_5) ∧ (k = 5 → ¬ goodF a0_0 a0_1 a0_2 a0_3 a0_4 x)) := Lib.hid (fun k x h1 h2 => zeros hg h1 h2)
    rw [readF_some hg] at H1
    generalize usedF a0_0 = n at HU hus HN
    generalize valF a0_0 a0_1 a0_2 a0_3 a0_4 a0_5 = c at H1
    clear hg
    by_cases t1 : a1 ≤ n
    · have d1 : decide (a1 ≤ n) = true := decide_eq_true t1
      go_enter Try.func4, Try.ntmps4
      go_wp2_with fail
      refine (H1.out _).mono ?_
      rintro e v1 ⟨rfl, hb1⟩
      simp only [rvF, reF, CV.val, CV.cells, ccells, Option.getD_some]
      have hw1 := heap_below hb1 hw0
      have hB1 := b_then hbw hb1
      have c0 : v1.cell? ⟨w.heap.size, 0, none⟩ = some (.int .u64 a0_0) := cell_heap hw1 0
      have f0 : v1.frozen? ⟨w.heap.size, 0, none⟩ = false := frozen_heap hw1 0
      have c1 : v1.cell? ⟨w.heap.size, 1, none⟩ = some (.int .u64 a0_1) := cell_heap hw1 1
      have f1 : v1.frozen? ⟨w.heap.size, 1, none⟩ = false := frozen_heap hw1 1
      have c2 : v1.cell? ⟨w.heap.size, 2, none⟩ = some (.int .u64 a0_2) := cell_heap hw1 2
      have f2 : v1.frozen? ⟨w.heap.size, 2, none⟩ = false := frozen_heap hw1 2
      have c3 : v1.cell? ⟨w.heap.size, 3, none⟩ = some (.int .u64 a0_3) := cell_heap hw1 3
      have f3 : v1.frozen? ⟨w.heap.size, 3, none⟩ = false := frozen_heap hw1 3
      have c4 : v1.cell? ⟨w.heap.size, 4, none⟩ = some (.int .u64 a0_4) := cell_heap hw1 4
      have f4 : v1.frozen? ⟨w.heap.size, 4, none⟩ = false := frozen_heap hw1 4
      have c5 : v1.cell? ⟨w.heap.size, 5, none⟩ = some (.int .u64 a0_5) := cell_heap hw1 5
      have f5 : v1.frozen? ⟨w.heap.size, 5, none⟩ = false := frozen_heap hw1 5
      have hz1 := heap_lt hw1
      have HW1 := Lib.hid hw1
      clear hw1 hb1
      go_wp2_with fail
      refine (HU.out _).mono ?_
      rintro e v2 ⟨rfl, hw⟩
      obtain rfl := hw.symm
      go_wp2_with fail
      refine (awake_true _).mono ?_
      rintro e v3 ⟨rfl, hb3⟩
      go_wp2
      go_returns
      exact ⟨rfl, b_then (b_then hB1 (by go_grown)) hb3⟩
    have d1 : decide (a1 ≤ n) = false := decide_eq_false t1
    by_cases t2 : 5 < a1
    · have d2 : decide (5 < a1) = true := decide_eq_true t2
      go_enter Try.func4, Try.ntmps4
      go_wp2_with fail
      refine (H1.out _).mono ?_
      rintro e v1 ⟨rfl, hb1⟩
      simp only [rvF, reF, CV.val, CV.cells, ccells, Option.getD_some]
      have hw1 := heap_below hb1 hw0
      have hB1 := b_then hbw hb1
      have c0 : v1.cell? ⟨w.heap.size, 0, none⟩ = some (.int .u64 a0_0) := cell_heap hw1 0
      have f0 : v1.frozen? ⟨w.heap.size, 0, none⟩ = false := frozen_heap hw1 0
      have c1 : v1.cell? ⟨w.heap.size, 1, none⟩ = some (.int .u64 a0_1) := cell_heap hw1 1
      have f1 : v1.frozen? ⟨w.heap.size, 1, none⟩ = false := frozen_heap hw1 1
      have c2 : v1.cell? ⟨w.heap.size, 2, none⟩ = some (.int .u64 a0_2) := cell_heap hw1 2
      have f2 : v1.frozen? ⟨w.heap.size, 2, none⟩ = false := frozen_heap hw1 2
      have c3 : v1.cell? ⟨w.heap.size, 3, none⟩ = some (.int .u64 a0_3) := cell_heap hw1 3
      have f3 : v1.frozen? ⟨w.heap.size, 3, none⟩ = false := frozen_heap hw1 3
      have c4 : v1.cell? ⟨w.heap.size, 4, none⟩ = some (.int .u64 a0_4) := cell_heap hw1 4
      have f4 : v1.frozen? ⟨w.heap.size, 4, none⟩ = false := frozen_heap hw1 4
      have c5 : v1.cell? ⟨w.heap.size, 5, none⟩ = some (.int .u64 a0_5) := cell_heap hw1 5
      have f5 : v1.frozen? ⟨w.heap.size, 5, none⟩ = false := frozen_heap hw1 5
      have hz1 := heap_lt hw1
      have HW1 := Lib.hid hw1
      clear hw1 hb1
      go_wp2_with fail
      refine (HU.out _).mono ?_
      rintro e v2 ⟨rfl, hw⟩
      obtain rfl := hw.symm
      go_wp2_with fail
      refine (awake_true _).mono ?_
      rintro e v3 ⟨rfl, hb3⟩
      go_wp2
      go_returns
      exact ⟨rfl, b_then (b_then hB1 (by go_grown)) hb3⟩
    have d2 : decide (5 < a1) = false := decide_eq_false t2
    by_cases t3 : a2 = 0
    · subst t3
      go_enter Try.func4, Try.ntmps4
      go_wp2_with fail
      refine (H1.out _).mono ?_
      rintro e v1 ⟨rfl, hb1⟩
      simp only [rvF, reF, CV.val, CV.cells, ccells, Option.getD_some]
      have hw1 := heap_below hb1 hw0
      have hB1 := b_then hbw hb1
      have c0 : v1.cell? ⟨w.heap.size, 0, none⟩ = some (.int .u64 a0_0) := cell_heap hw1 0
      have f0 : v1.frozen? ⟨w.heap.size, 0, none⟩ = false := frozen_heap hw1 0
      have c1 : v1.cell? ⟨w.heap.size, 1, none⟩ = some (.int .u64 a0_1) := cell_heap hw1 1
      have f1 : v1.frozen? ⟨w.heap.size, 1, none⟩ = false := frozen_heap hw1 1
      have c2 : v1.cell? ⟨w.heap.size, 2, none⟩ = some (.int .u64 a0_2) := cell_heap hw1 2
      have f2 : v1.frozen? ⟨w.heap.size, 2, none⟩ = false := frozen_heap hw1 2
      have c3 : v1.cell? ⟨w.heap.size, 3, none⟩ = some (.int .u64 a0_3) := cell_heap hw1 3
      have f3 : v1.frozen? ⟨w.heap.size, 3, none⟩ = false := frozen_heap hw1 3
      have c4 : v1.cell? ⟨w.heap.size, 4, none⟩ = some (.int .u64 a0_4) := cell_heap hw1 4
      have f4 : v1.frozen? ⟨w.heap.size, 4, none⟩ = false := frozen_heap hw1 4
      have c5 : v1.cell? ⟨w.heap.size, 5, none⟩ = some (.int .u64 a0_5) := cell_heap hw1 5
      have f5 : v1.frozen? ⟨w.heap.size, 5, none⟩ = false := frozen_heap hw1 5
      have hz1 := heap_lt hw1
      have HW1 := Lib.hid hw1
      clear hw1 hb1
      go_wp2_with fail
      refine (HU.out _).mono ?_
      rintro e v2 ⟨rfl, hw⟩
      obtain rfl := hw.symm
      go_wp2_with fail
      refine (awake_true _).mono ?_
      rintro e v3 ⟨rfl, hb3⟩
      go_wp2
      go_returns
      exact ⟨rfl, b_then (b_then hB1 (by go_grown)) hb3⟩
    have d3 : (a2 == 0) = false := beq_false_of_ne t3
    have T3 := Lib.hid t3
    have T1 := Lib.hid t1
    have ht : a1 = 1 ∨ a1 = 2 ∨ a1 = 3 ∨ a1 = 4 ∨ a1 = 5 := by omega
    clear t1 t2 t3
    rcases ht with rfl | rfl | rfl | rfl | rfl
    · have H2 := Lib.hid (fun W => call_read a0_0 a2 a0_2 a0_3 a0_4 a0_5 l0 l6 l2 l3 l4 l5 u6 u2 u3 u4 u5 W)
      rw [readF_none ((HN.out 1 a2 (by have := T1.out; omega) T3.out).1 rfl)] at H2
      go_enter Try.func4, Try.ntmps4
      go_wp2_with fail
      refine (H1.out _).mono ?_
      rintro e v1 ⟨rfl, hb1⟩
      simp only [rvF, reF, CV.val, CV.cells, ccells, Option.getD_some]
      have hw1 := heap_below hb1 hw0
      have hB1 := b_then hbw hb1
      have c0 : v1.cell? ⟨w.heap.size, 0, none⟩ = some (.int .u64 a0_0) := cell_heap hw1 0
      have f0 : v1.frozen? ⟨w.heap.size, 0, none⟩ = false := frozen_heap hw1 0
      have c1 : v1.cell? ⟨w.heap.size, 1, none⟩ = some (.int .u64 a0_1) := cell_heap hw1 1
      have f1 : v1.frozen? ⟨w.heap.size, 1, none⟩ = false := frozen_heap hw1 1
      have c2 : v1.cell? ⟨w.heap.size, 2, none⟩ = some (.int .u64 a0_2) := cell_heap hw1 2
      have f2 : v1.frozen? ⟨w.heap.size, 2, none⟩ = false := frozen_heap hw1 2
      have c3 : v1.cell? ⟨w.heap.size, 3, none⟩ = some (.int .u64 a0_3) := cell_heap hw1 3
      have f3 : v1.frozen? ⟨w.heap.size, 3, none⟩ = false := frozen_heap hw1 3
      have c4 : v1.cell? ⟨w.heap.size, 4, none⟩ = some (.int .u64 a0_4) := cell_heap hw1 4
      have f4 : v1.frozen? ⟨w.heap.size, 4, none⟩ = false := frozen_heap hw1 4
      have c5 : v1.cell? ⟨w.heap.size, 5, none⟩ = some (.int .u64 a0_5) := cell_heap hw1 5
      have f5 : v1.frozen? ⟨w.heap.size, 5, none⟩ = false := frozen_heap hw1 5
      have hz1 := heap_lt hw1
      have HW1 := Lib.hid hw1
      clear hw1 hb1
      go_wp2_with fail
      refine (HU.out _).mono ?_
      rintro e v2 ⟨rfl, hw⟩
      obtain rfl := hw.symm
      go_wp2_with fail
      refine (H2.out _).mono ?_
      rintro e v3 ⟨rfl, hb3⟩
      have hB3 := Lib.hid (b_then (w := w) (by go_grown) hb3)
      simp only [rvF, reF, CV.val, CV.cells, ccells, Option.getD_none, CV.zero]
      go_wp2_with fail
      refine (awake_true _).mono ?_
      rintro e v4 ⟨rfl, hb4⟩
      go_wp2
      go_returns
      exact ⟨rfl, b_then (b_then hB3.out (by go_grown)) hb4⟩
    · have H2 := Lib.hid (fun W => call_read a0_0 a0_1 a2 a0_3 a0_4 a0_5 l0 l1 l6 l3 l4 l5 u1 u6 u3 u4 u5 W)
      rw [readF_none ((HN.out 2 a2 (by have := T1.out; omega) T3.out).2.1 rfl)] at H2
      go_enter Try.func4, Try.ntmps4
      go_wp2_with fail
      refine (H1.out _).mono ?_
      rintro e v1 ⟨rfl, hb1⟩
      simp only [rvF, reF, CV.val, CV.cells, ccells, Option.getD_some]
      have hw1 := heap_below hb1 hw0
      have hB1 := b_then hbw hb1
      have c0 : v1.cell? ⟨w.heap.size, 0, none⟩ = some (.int .u64 a0_0) := cell_heap hw1 0
      have f0 : v1.frozen? ⟨w.heap.size, 0, none⟩ = false := frozen_heap hw1 0
      have c1 : v1.cell? ⟨w.heap.size, 1, none⟩ = some (.int .u64 a0_1) := cell_heap hw1 1
      have f1 : v1.frozen? ⟨w.heap.size, 1, none⟩ = false := frozen_heap hw1 1
      have c2 : v1.cell? ⟨w.heap.size, 2, none⟩ = some (.int .u64 a0_2) := cell_heap hw1 2
      have f2 : v1.frozen? ⟨w.heap.size, 2, none⟩ = false := frozen_heap hw1 2
      have c3 : v1.cell? ⟨w.heap.size, 3, none⟩ = some (.int .u64 a0_3) := cell_heap hw1 3
      have f3 : v1.frozen? ⟨w.heap.size, 3, none⟩ = false := frozen_heap hw1 3
      have c4 : v1.cell? ⟨w.heap.size, 4, none⟩ = some (.int .u64 a0_4) := cell_heap hw1 4
      have f4 : v1.frozen? ⟨w.heap.size, 4, none⟩ = false := frozen_heap hw1 4
      have c5 : v1.cell? ⟨w.heap.size, 5, none⟩ = some (.int .u64 a0_5) := cell_heap hw1 5
      have f5 : v1.frozen? ⟨w.heap.size, 5, none⟩ = false := frozen_heap hw1 5
      have hz1 := heap_lt hw1
      have HW1 := Lib.hid hw1
      clear hw1 hb1
      go_wp2_with fail
      refine (HU.out _).mono ?_
      rintro e v2 ⟨rfl, hw⟩
      obtain rfl := hw.symm
      go_wp2_with fail
      refine (H2.out _).mono ?_
      rintro e v3 ⟨rfl, hb3⟩
      have hB3 := Lib.hid (b_then (w := w) (by go_grown) hb3)
      simp only [rvF, reF, CV.val, CV.cells, ccells, Option.getD_none, CV.zero]
      go_wp2_with fail
      refine (awake_true _).mono ?_
      rintro e v4 ⟨rfl, hb4⟩
      go_wp2
      go_returns
      exact ⟨rfl, b_then (b_then hB3.out (by go_grown)) hb4⟩
    · have H2 := Lib.hid (fun W => call_read a0_0 a0_1 a0_2 a2 a0_4 a0_5 l0 l1 l2 l6 l4 l5 u1 u2 u6 u4 u5 W)
      rw [readF_none ((HN.out 3 a2 (by have := T1.out; omega) T3.out).2.2.1 rfl)] at H2
      go_enter Try.func4, Try.ntmps4
      go_wp2_with fail
      refine (H1.out _).mono ?_
      rintro e v1 ⟨rfl, hb1⟩
      simp only [rvF, reF, CV.val, CV.cells, ccells, Option.getD_some]
      have hw1 := heap_below hb1 hw0
      have hB1 := b_then hbw hb1
      have c0 : v1.cell? ⟨w.heap.size, 0, none⟩ = some (.int .u64 a0_0) := cell_heap hw1 0
      have f0 : v1.frozen? ⟨w.heap.size, 0, none⟩ = false := frozen_heap hw1 0
      have c1 : v1.cell? ⟨w.heap.size, 1, none⟩ = some (.int .u64 a0_1) := cell_heap hw1 1
      have f1 : v1.frozen? ⟨w.heap.size, 1, none⟩ = false := frozen_heap hw1 1
      have c2 : v1.cell? ⟨w.heap.size, 2, none⟩ = some (.int .u64 a0_2) := cell_heap hw1 2
      have f2 : v1.frozen? ⟨w.heap.size, 2, none⟩ = false := frozen_heap hw1 2
      have c3 : v1.cell? ⟨w.heap.size, 3, none⟩ = some (.int .u64 a0_3) := cell_heap hw1 3
      have f3 : v1.frozen? ⟨w.heap.size, 3, none⟩ = false := frozen_heap hw1 3
      have c4 : v1.cell? ⟨w.heap.size, 4, none⟩ = some (.int .u64 a0_4) := cell_heap hw1 4
      have f4 : v1.frozen? ⟨w.heap.size, 4, none⟩ = false := frozen_heap hw1 4
      have c5 : v1.cell? ⟨w.heap.size, 5, none⟩ = some (.int .u64 a0_5) := cell_heap hw1 5
      have f5 : v1.frozen? ⟨w.heap.size, 5, none⟩ = false := frozen_heap hw1 5
      have hz1 := heap_lt hw1
      have HW1 := Lib.hid hw1
      clear hw1 hb1
      go_wp2_with fail
      refine (HU.out _).mono ?_
      rintro e v2 ⟨rfl, hw⟩
      obtain rfl := hw.symm
      go_wp2_with fail
      refine (H2.out _).mono ?_
      rintro e v3 ⟨rfl, hb3⟩
      have hB3 := Lib.hid (b_then (w := w) (by go_grown) hb3)
      simp only [rvF, reF, CV.val, CV.cells, ccells, Option.getD_none, CV.zero]
      go_wp2_with fail
      refine (awake_true _).mono ?_
      rintro e v4 ⟨rfl, hb4⟩
      go_wp2
      go_returns
      exact ⟨rfl, b_then (b_then hB3.out (by go_grown)) hb4⟩
    · have H2 := Lib.hid (fun W => call_read a0_0 a0_1 a0_2 a0_3 a2 a0_5 l0 l1 l2 l3 l6 l5 u1 u2 u3 u6 u5 W)
      rw [readF_none ((HN.out 4 a2 (by have := T1.out; omega) T3.out).2.2.2.1 rfl)] at H2
      go_enter Try.func4, Try.ntmps4
      go_wp2_with fail
      refine (H1.out _).mono ?_
      rintro e v1 ⟨rfl, hb1⟩
      simp only [rvF, reF, CV.val, CV.cells, ccells, Option.getD_some]
      have hw1 := heap_below hb1 hw0
      have hB1 := b_then hbw hb1
      have c0 : v1.cell? ⟨w.heap.size, 0, none⟩ = some (.int .u64 a0_0) := cell_heap hw1 0
      have f0 : v1.frozen? ⟨w.heap.size, 0, none⟩ = false := frozen_heap hw1 0
      have c1 : v1.cell? ⟨w.heap.size, 1, none⟩ = some (.int .u64 a0_1) := cell_heap hw1 1
      have f1 : v1.frozen? ⟨w.heap.size, 1, none⟩ = false := frozen_heap hw1 1
      have c2 : v1.cell? ⟨w.heap.size, 2, none⟩ = some (.int .u64 a0_2) := cell_heap hw1 2
      have f2 : v1.frozen? ⟨w.heap.size, 2, none⟩ = false := frozen_heap hw1 2
      have c3 : v1.cell? ⟨w.heap.size, 3, none⟩ = some (.int .u64 a0_3) := cell_heap hw1 3
      have f3 : v1.frozen? ⟨w.heap.size, 3, none⟩ = false := frozen_heap hw1 3
      have c4 : v1.cell? ⟨w.heap.size, 4, none⟩ = some (.int .u64 a0_4) := cell_heap hw1 4
      have f4 : v1.frozen? ⟨w.heap.size, 4, none⟩ = false := frozen_heap hw1 4
      have c5 : v1.cell? ⟨w.heap.size, 5, none⟩ = some (.int .u64 a0_5) := cell_heap hw1 5
      have f5 : v1.frozen? ⟨w.heap.size, 5, none⟩ = false := frozen_heap hw1 5
      have hz1 := heap_lt hw1
      have HW1 := Lib.hid hw1
      clear hw1 hb1
      go_wp2_with fail
      refine (HU.out _).mono ?_
      rintro e v2 ⟨rfl, hw⟩
      obtain rfl := hw.symm
      go_wp2_with fail
      refine (H2.out _).mono ?_
      rintro e v3 ⟨rfl, hb3⟩
      have hB3 := Lib.hid (b_then (w := w) (by go_grown) hb3)
      simp only [rvF, reF, CV.val, CV.cells, ccells, Option.getD_none, CV.zero]
      go_wp2_with fail
      refine (awake_true _).mono ?_
      rintro e v4 ⟨rfl, hb4⟩
      go_wp2
      go_returns
      exact ⟨rfl, b_then (b_then hB3.out (by go_grown)) hb4⟩
    · have H2 := Lib.hid (fun W => call_read a0_0 a0_1 a0_2 a0_3 a0_4 a2 l0 l1 l2 l3 l4 l6 u1 u2 u3 u4 u6 W)
      rw [readF_none ((HN.out 5 a2 (by have := T1.out; omega) T3.out).2.2.2.2 rfl)] at H2
      go_enter Try.func4, Try.ntmps4
      go_wp2_with fail
      refine (H1.out _).mono ?_
      rintro e v1 ⟨rfl, hb1⟩
      simp only [rvF, reF, CV.val, CV.cells, ccells, Option.getD_some]
      have hw1 := heap_below hb1 hw0
      have hB1 := b_then hbw hb1
      have c0 : v1.cell? ⟨w.heap.size, 0, none⟩ = some (.int .u64 a0_0) := cell_heap hw1 0
      have f0 : v1.frozen? ⟨w.heap.size, 0, none⟩ = false := frozen_heap hw1 0
      have c1 : v1.cell? ⟨w.heap.size, 1, none⟩ = some (.int .u64 a0_1) := cell_heap hw1 1
      have f1 : v1.frozen? ⟨w.heap.size, 1, none⟩ = false := frozen_heap hw1 1
      have c2 : v1.cell? ⟨w.heap.size, 2, none⟩ = some (.int .u64 a0_2) := cell_heap hw1 2
      have f2 : v1.frozen? ⟨w.heap.size, 2, none⟩ = false := frozen_heap hw1 2
      have c3 : v1.cell? ⟨w.heap.size, 3, none⟩ = some (.int .u64 a0_3) := cell_heap hw1 3
      have f3 : v1.frozen? ⟨w.heap.size, 3, none⟩ = false := frozen_heap hw1 3
      have c4 : v1.cell? ⟨w.heap.size, 4, none⟩ = some (.int .u64 a0_4) := cell_heap hw1 4
      have f4 : v1.frozen? ⟨w.heap.size, 4, none⟩ = false := frozen_heap hw1 4
      have c5 : v1.cell? ⟨w.heap.size, 5, none⟩ = some (.int .u64 a0_5) := cell_heap hw1 5
      have f5 : v1.frozen? ⟨w.heap.size, 5, none⟩ = false := frozen_heap hw1 5
      have hz1 := heap_lt hw1
      have HW1 := Lib.hid hw1
      clear hw1 hb1
      go_wp2_with fail
      refine (HU.out _).mono ?_
      rintro e v2 ⟨rfl, hw⟩
      obtain rfl := hw.symm
      go_wp2_with fail
      refine (H2.out _).mono ?_
      rintro e v3 ⟨rfl, hb3⟩
      have hB3 := Lib.hid (b_then (w := w) (by go_grown) hb3)
      simp only [rvF, reF, CV.val, CV.cells, ccells, Option.getD_none, CV.zero]
      go_wp2_with fail
      refine (awake_true _).mono ?_
      rintro e v4 ⟨rfl, hb4⟩
      go_wp2
      go_returns
      exact ⟨rfl, b_then (b_then hB3.out (by go_grown)) hb4⟩
  · rw [readF_none hg] at H1
    clear hg
    generalize usedF a0_0 = n at HU
    go_enter Try.func4, Try.ntmps4
    go_wp2_with fail
    refine (H1.out _).mono ?_
    rintro e v1 ⟨rfl, hb1⟩
    simp only [rvF, reF, CV.val, CV.cells, ccells, Option.getD_none, CV.zero]
    have hw1 := heap_below hb1 hw0
    have hB1 := b_then hbw hb1
    have c0 : v1.cell? ⟨w.heap.size, 0, none⟩ = some (.int .u64 a0_0) := cell_heap hw1 0
    have f0 : v1.frozen? ⟨w.heap.size, 0, none⟩ = false := frozen_heap hw1 0
    have c1 : v1.cell? ⟨w.heap.size, 1, none⟩ = some (.int .u64 a0_1) := cell_heap hw1 1
    have f1 : v1.frozen? ⟨w.heap.size, 1, none⟩ = false := frozen_heap hw1 1
    have c2 : v1.cell? ⟨w.heap.size, 2, none⟩ = some (.int .u64 a0_2) := cell_heap hw1 2
    have f2 : v1.frozen? ⟨w.heap.size, 2, none⟩ = false := frozen_heap hw1 2
    have c3 : v1.cell? ⟨w.heap.size, 3, none⟩ = some (.int .u64 a0_3) := cell_heap hw1 3
    have f3 : v1.frozen? ⟨w.heap.size, 3, none⟩ = false := frozen_heap hw1 3
    have c4 : v1.cell? ⟨w.heap.size, 4, none⟩ = some (.int .u64 a0_4) := cell_heap hw1 4
    have f4 : v1.frozen? ⟨w.heap.size, 4, none⟩ = false := frozen_heap hw1 4
    have c5 : v1.cell? ⟨w.heap.size, 5, none⟩ = some (.int .u64 a0_5) := cell_heap hw1 5
    have f5 : v1.frozen? ⟨w.heap.size, 5, none⟩ = false := frozen_heap hw1 5
    have hz1 := heap_lt hw1
    have HW1 := Lib.hid hw1
    clear hw1 hb1
    go_wp2_with fail
    refine (HU.out _).mono ?_
    rintro e v2 ⟨rfl, hw⟩
    obtain rfl := hw.symm
    go_wp2_with fail
    refine (awake_true _).mono ?_
    rintro e v3 ⟨rfl, hb3⟩
    go_wp2
    go_returns
    exact ⟨rfl, b_then (b_then hB1 (by go_grown)) hb3⟩
end Go.Proofs.Ytcnmhmbdbadbmaa
