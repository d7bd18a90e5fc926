/- The law's awake and the document's Used (layer 15). No condition. -/
import Derived.Test.YtcnmhmbdbadbmaaCallX
namespace Go.Proofs.Ytcnmhmbdbadbmaa
open Go.ChangeShapes Go.WideShapes Go.ChangeAt Go.RowKit
set_option linter.unusedVariables false
set_option linter.unusedSimpArgs false


theorem u64_bd {x : Int} (h : (Lit.int .u64 x).wf = true) : 0 ≤ x ∧ x < 18446744073709551616 := by
  simp [Lit.wf, IntKind.min, IntKind.max, IntKind.signed, IntKind.bits] at h; omega
theorem read_one : readF 1 5 2 3 0 0 = some ⟨1, 5, 7, true, true, true, 0, 0, 0, 0, 0, 0, 0⟩ := by kernel_rfl
theorem read_two : readF 4 4 8 0 0 0 = none := by kernel_rfl
set_option maxRecDepth 100000 in
set_option maxHeartbeats 2000000 in
theorem awake_true (w : World) : Calls Try.prog 10 #[] w fun e w' => e = .returned (.bool true) ∧ Below w.heap.size w w' := by
  have H1 := Lib.hid (fun W => call_read 1 5 2 3 0 0 (by omega) (by omega) (by omega) (by omega) (by omega) (by omega) (by omega) (by omega) (by omega) (by omega) (by omega) W)
  have H2 := Lib.hid (fun W => call_read 4 4 8 0 0 0 (by omega) (by omega) (by omega) (by omega) (by omega) (by omega) (by omega) (by omega) (by omega) (by omega) (by omega) W)
  rw [read_one] at H1
  rw [read_two] at H2
  go_enter Try.func10, Try.ntmps10
  go_wp2_with fail
  refine (H1.out _).mono ?_
  rintro e w1 ⟨rfl, hb1⟩
  simp only [rvF, reF, Option.getD_some, CV.val, CV.cells, ccells]
  go_wp2_with fail
  refine (H2.out _).mono ?_
  rintro e w2 ⟨rfl, hb2⟩
  simp only [rvF, reF, Option.getD_none, CV.val, CV.cells, ccells, CV.zero]
  have hc := heap_below hb2 (heap_new w1 (.cells #[.int .i64 1, .int .i64 5, .int .i64 7, .bool true, .bool true, .bool true, .int .u64 0, .int .i64 0, .int .u64 0, .int .i64 0, .int .i64 0, .int .i64 0, .int .i64 0] 30))
  have c0 : w2.cell? ⟨w1.heap.size, 0, none⟩ = some (.int .i64 1) := cell_heap hc 0
  have c1 : w2.cell? ⟨w1.heap.size, 1, none⟩ = some (.int .i64 5) := cell_heap hc 1
  have c2 : w2.cell? ⟨w1.heap.size, 2, none⟩ = some (.int .i64 7) := cell_heap hc 2
  have c3 : w2.cell? ⟨w1.heap.size, 3, none⟩ = some (.bool true) := cell_heap hc 3
  have c4 : w2.cell? ⟨w1.heap.size, 4, none⟩ = some (.bool true) := cell_heap hc 4
  have c5 : w2.cell? ⟨w1.heap.size, 5, none⟩ = some (.bool true) := cell_heap hc 5
  have c6 : w2.cell? ⟨w1.heap.size, 6, none⟩ = some (.int .u64 0) := cell_heap hc 6
  have c7 : w2.cell? ⟨w1.heap.size, 7, none⟩ = some (.int .i64 0) := cell_heap hc 7
  have c8 : w2.cell? ⟨w1.heap.size, 8, none⟩ = some (.int .u64 0) := cell_heap hc 8
  have c9 : w2.cell? ⟨w1.heap.size, 9, none⟩ = some (.int .i64 0) := cell_heap hc 9
  have c10 : w2.cell? ⟨w1.heap.size, 10, none⟩ = some (.int .i64 0) := cell_heap hc 10
  have c11 : w2.cell? ⟨w1.heap.size, 11, none⟩ = some (.int .i64 0) := cell_heap hc 11
  have c12 : w2.cell? ⟨w1.heap.size, 12, none⟩ = some (.int .i64 0) := cell_heap hc 12
  have hz := heap_lt hc
  have hB := b_then hb1 (b_then (w := w1) (by go_grown) hb2)
  clear hc hb2
  go_wp2
  go_returns
  exact ⟨rfl, hB.alloc hB.size _⟩
def usedF (o : Int) : Int := if o = 1 ∨ o = 3 ∨ o = 5 ∨ o = 6 then 3 else if o = 2 ∨ o = 4 ∨ o = 7 ∨ o = 16 then 2 else if o = 8 ∨ o = 9 ∨ o = 10 ∨ o = 12 then 1 else if o = 15 then 4 else if o = 11 ∨ o = 13 ∨ o = 14 then 0 else -1
theorem op_cases (o : Int) (h : 0 ≤ o) : o = 0 ∨ o = 1 ∨ o = 2 ∨ o = 3 ∨ o = 4 ∨ o = 5 ∨ o = 6 ∨ o = 7 ∨ o = 8 ∨ o = 9 ∨ o = 10 ∨ o = 11 ∨ o = 12 ∨ o = 13 ∨ o = 14 ∨ o = 15 ∨ o = 16 ∨ 17 ≤ o := by omega
set_option maxRecDepth 100000 in
theorem used_any (o : Int) (h : 0 ≤ o) (w : World) : Calls Try.prog 12 #[.int .u64 o] w fun e w' => e = .returned (.int .i64 (usedF o)) ∧ w' = w := by
  rcases op_cases o h with rfl | rfl | rfl | rfl | rfl | rfl | rfl | rfl | rfl | rfl | rfl | rfl | rfl | rfl | rfl | rfl | rfl | ho
  all_goals try
    (go_enter Try.func12, Try.ntmps12
     go_wp2
     go_returns
     exact ⟨rfl, rfl⟩)
  have e1 : (o == 1) = false := beq_false_of_ne (by omega)
  have e2 : (o == 2) = false := beq_false_of_ne (by omega)
  have e3 : (o == 3) = false := beq_false_of_ne (by omega)
  have e4 : (o == 4) = false := beq_false_of_ne (by omega)
  have e5 : (o == 5) = false := beq_false_of_ne (by omega)
  have e6 : (o == 6) = false := beq_false_of_ne (by omega)
  have e7 : (o == 7) = false := beq_false_of_ne (by omega)
  have e8 : (o == 8) = false := beq_false_of_ne (by omega)
  have e9 : (o == 9) = false := beq_false_of_ne (by omega)
  have e10 : (o == 10) = false := beq_false_of_ne (by omega)
  have e11 : (o == 11) = false := beq_false_of_ne (by omega)
  have e12 : (o == 12) = false := beq_false_of_ne (by omega)
  have e13 : (o == 13) = false := beq_false_of_ne (by omega)
  have e14 : (o == 14) = false := beq_false_of_ne (by omega)
  have e15 : (o == 15) = false := beq_false_of_ne (by omega)
  have e16 : (o == 16) = false := beq_false_of_ne (by omega)
  have hu : usedF o = -1 := by unfold usedF; rw [if_neg (by omega), if_neg (by omega), if_neg (by omega), if_neg (by omega), if_neg (by omega)]
  rw [hu]
  clear hu ho
  go_enter Try.func12, Try.ntmps12
  go_wp2
  go_returns
  exact ⟨rfl, rfl⟩
theorem good_op {o x1 x2 x3 x4 x5 : Int} (h : goodF o x1 x2 x3 x4 x5) : o = 1 ∨ o = 2 ∨ o = 3 ∨ o = 4 ∨ o = 5 ∨ o = 6 ∨ o = 7 ∨ o = 8 ∨ o = 9 ∨ o = 10 ∨ o = 11 ∨ o = 12 ∨ o = 13 ∨ o = 14 ∨ o = 15 ∨ o = 16 := by
  by_cases hb : o < 1 ∨ 16 < o
  · exact absurd h (goodF_big _ _ _ _ _ _ hb)
  · omega
theorem readF_some {o x1 x2 x3 x4 x5 : Int} (h : goodF o x1 x2 x3 x4 x5) : readF o x1 x2 x3 x4 x5 = some (valF o x1 x2 x3 x4 x5) := if_pos h
theorem readF_none {o x1 x2 x3 x4 x5 : Int} (h : ¬ goodF o x1 x2 x3 x4 x5) : readF o x1 x2 x3 x4 x5 = none := if_neg h
/-- A word that a call doesn't use must be nought. -/
theorem zeros {o x1 x2 x3 x4 x5 x : Int} {k : Int} (h : goodF o x1 x2 x3 x4 x5) (hk : usedF o < k) (hx : x ≠ 0) :
    (k = 1 → ¬ goodF o x x2 x3 x4 x5) ∧ (k = 2 → ¬ goodF o x1 x x3 x4 x5) ∧ (k = 3 → ¬ goodF o x1 x2 x x4 x5) ∧ (k = 4 → ¬ goodF o x1 x2 x3 x x5) ∧ (k = 5 → ¬ goodF o x1 x2 x3 x4 x) := by
  have ho := good_op h
  clear h
  rcases ho with rfl | rfl | rfl | rfl | rfl | rfl | rfl | rfl | rfl | rfl | rfl | rfl | rfl | rfl | rfl | rfl
  all_goals
    simp [usedF] at hk
    refine ⟨?_, ?_, ?_, ?_, ?_⟩
    all_goals
      intro e
      subst e
      first
        | (exfalso; omega)
        | (simp only [goodF_1, goodF_2, goodF_3, goodF_4, goodF_5, goodF_6, goodF_7, goodF_8, goodF_9, goodF_10, goodF_11, goodF_12, goodF_13, goodF_14, goodF_15, goodF_16]; omega)
theorem used_good {o x1 x2 x3 x4 x5 : Int} (h : goodF o x1 x2 x3 x4 x5) : 0 ≤ usedF o := by
  have ho := good_op h
  rcases ho with rfl | rfl | rfl | rfl | rfl | rfl | rfl | rfl | rfl | rfl | rfl | rfl | rfl | rfl | rfl | rfl
  all_goals simp [usedF]
end Go.Proofs.Ytcnmhmbdbadbmaa
