/- FltSides: sums, products, the lesser and the greater one are the same from either side; a number less another one is that with its sign turned; twice turned a sign is itself. No condition. -/
import Derived.Test.YtbidpdgjlcmhhaaFltG
namespace Go.Proofs.Ytbidpdgjlcmhhaa
open Go.ChangeShapes Go.WideShapes Go.ChangeAt Go.RowKit
set_option linter.unusedVariables false
set_option linter.unusedSimpArgs false

set_option maxRecDepth 100000 in
set_option maxHeartbeats 4000000 in
theorem sides_four (op x y z r1 f1 r2 f2 : Int) (ho : op = 1 ∨ op = 3 ∨ op = 5 ∨ op = 6) (h1 : ∀ W, Calls Try.prog 16 #[.int .i64 op, .int .u64 x, .int .u64 y] W fun e w' => e = .returned (.tuple #[.int .u64 r1, .int .i64 f1, .int .i64 0]) ∧ Below W.heap.size W w')
    (h2 : ∀ W, Calls Try.prog 16 #[.int .i64 op, .int .u64 y, .int .u64 x] W fun e w' => e = .returned (.tuple #[.int .u64 r1, .int .i64 f1, .int .i64 0]) ∧ Below W.heap.size W w')
    (hn : ∀ W, Calls Try.prog 16 #[.int .i64 7, .int .u64 y, .int .u64 0] W fun e w' => e = .returned (.tuple #[.int .u64 z, .int .i64 0, .int .i64 0]) ∧ Below W.heap.size W w')
    (hs : ∀ W, Calls Try.prog 16 #[.int .i64 2, .int .u64 x, .int .u64 y] W fun e w' => e = .returned (.tuple #[.int .u64 r2, .int .i64 f2, .int .i64 0]) ∧ Below W.heap.size W w')
    (ha : ∀ W, Calls Try.prog 16 #[.int .i64 1, .int .u64 x, .int .u64 z] W fun e w' => e = .returned (.tuple #[.int .u64 r2, .int .i64 f2, .int .i64 0]) ∧ Below W.heap.size W w')
    (hnn : ∀ W, Calls Try.prog 16 #[.int .i64 7, .int .u64 z, .int .u64 0] W fun e w' => e = .returned (.tuple #[.int .u64 y, .int .i64 0, .int .i64 0]) ∧ Below W.heap.size W w') (w : World) :
    Calls Try.prog 5 #[.int .i64 op, .int .u64 x, .int .u64 y] w fun e w' => e = .returned (.bool true) ∧ Below w.heap.size w w' := by
  have H1 := Lib.hid h1
  have H2 := Lib.hid h2
  have HN := Lib.hid hn
  have HS := Lib.hid hs
  have HA := Lib.hid ha
  have HNN := Lib.hid hnn
  clear h1 h2 hn hs ha hnn
  rcases ho with rfl | rfl | rfl | rfl
  all_goals
    go_enter Try.func5, Try.ntmps5
    go_wp2_with fail
    refine (H1.out _).mono ?_
    rintro e v1 ⟨rfl, hb1⟩
    go_wp2_with fail
    refine (H2.out _).mono ?_
    rintro e v2 ⟨rfl, hb2⟩
    go_wp2_with fail
    refine (HN.out _).mono ?_
    rintro e s0 ⟨rfl, hs0⟩
    go_wp2_with fail
    refine (HS.out _).mono ?_
    rintro e s1 ⟨rfl, hs1⟩
    go_wp2_with fail
    refine (HA.out _).mono ?_
    rintro e s2 ⟨rfl, hs2⟩
    go_wp2_with fail
    refine (HNN.out _).mono ?_
    rintro e s3 ⟨rfl, hs3⟩
    go_wp2_with fail
    refine (awake_true _).mono ?_
    rintro e s9 ⟨rfl, hs9⟩
    go_wp2_with fail
    go_returns
    exact ⟨rfl, b_then (b_then (b_then (b_then (b_then (b_then hb1 hb2) hs0) hs1) hs2) hs3) hs9⟩
set_option maxRecDepth 100000 in
set_option maxHeartbeats 4000000 in
theorem sides_other (op x y z r2 f2 : Int) (ho : ¬ (op = 1 ∨ op = 3 ∨ op = 5 ∨ op = 6)) (hn : ∀ W, Calls Try.prog 16 #[.int .i64 7, .int .u64 y, .int .u64 0] W fun e w' => e = .returned (.tuple #[.int .u64 z, .int .i64 0, .int .i64 0]) ∧ Below W.heap.size W w')
    (hs : ∀ W, Calls Try.prog 16 #[.int .i64 2, .int .u64 x, .int .u64 y] W fun e w' => e = .returned (.tuple #[.int .u64 r2, .int .i64 f2, .int .i64 0]) ∧ Below W.heap.size W w')
    (ha : ∀ W, Calls Try.prog 16 #[.int .i64 1, .int .u64 x, .int .u64 z] W fun e w' => e = .returned (.tuple #[.int .u64 r2, .int .i64 f2, .int .i64 0]) ∧ Below W.heap.size W w')
    (hnn : ∀ W, Calls Try.prog 16 #[.int .i64 7, .int .u64 z, .int .u64 0] W fun e w' => e = .returned (.tuple #[.int .u64 y, .int .i64 0, .int .i64 0]) ∧ Below W.heap.size W w') (w : World) :
    Calls Try.prog 5 #[.int .i64 op, .int .u64 x, .int .u64 y] w fun e w' => e = .returned (.bool true) ∧ Below w.heap.size w w' := by
  have HN := Lib.hid hn
  have HS := Lib.hid hs
  have HA := Lib.hid ha
  have HNN := Lib.hid hnn
  have o1 : (op == 1) = false := beq_false_of_ne (by omega)
  have o3 : (op == 3) = false := beq_false_of_ne (by omega)
  have o5 : (op == 5) = false := beq_false_of_ne (by omega)
  have o6 : (op == 6) = false := beq_false_of_ne (by omega)
  clear hn hs ha hnn ho
  go_enter Try.func5, Try.ntmps5
  go_wp2_with fail
  refine (HN.out _).mono ?_
  rintro e s0 ⟨rfl, hs0⟩
  go_wp2_with fail
  refine (HS.out _).mono ?_
  rintro e s1 ⟨rfl, hs1⟩
  go_wp2_with fail
  refine (HA.out _).mono ?_
  rintro e s2 ⟨rfl, hs2⟩
  go_wp2_with fail
  refine (HNN.out _).mono ?_
  rintro e s3 ⟨rfl, hs3⟩
  go_wp2_with fail
  refine (awake_true _).mono ?_
  rintro e s9 ⟨rfl, hs9⟩
  go_wp2_with fail
  go_returns
  exact ⟨rfl, b_then (b_then (b_then (b_then (b_then (Below.refl _ _) hs0) hs1) hs2) hs3) hs9⟩
theorem u64_nat {x : Int} (h : (Lit.int .u64 x).wf = true) : ∃ n : Nat, x = n ∧ n < 18446744073709551616 := by
  simp [Lit.wf, IntKind.min, IntKind.max, IntKind.signed, IntKind.bits] at h
  exact ⟨x.toNat, by omega, by omega⟩
theorem walk_FltSides (a0 : Int) (a1 : Int) (a2 : Int) (w : World) (_w0 : (Lit.int .i64 a0).wf = true) (w1 : (Lit.int .u64 a1).wf = true) (w2 : (Lit.int .u64 a2).wf = true) :
    Calls Try.prog 5 #[.int .i64 a0, .int .u64 a1, .int .u64 a2] w fun e w' => e = .returned (.bool true) ∧ Below w.heap.size w w' := by
  obtain ⟨x, rfl, hx⟩ := u64_nat w1
  obtain ⟨y, rfl, hy⟩ := u64_nat w2
  have hn := do_neg y 0 hy
  have hs := do_arith 2 (by omega) x y hx hy
  have ha := do_arith 1 (by omega) x (negN y) hx (negN_lt y)
  rw [do_sub x y hy] at ha
  have hnn := do_neg (negN y) 0 (negN_lt y)
  rw [neg_neg_ y hy] at hnn
  by_cases ho : a0 = 1 ∨ a0 = 3 ∨ a0 = 5 ∨ a0 = 6
  · have h1 := do_arith a0 (by omega) x y hx hy
    have h2 := do_arith a0 (by omega) y x hy hx
    rw [do_comm a0 ho x y hx hy] at h2
    exact sides_four _ _ _ _ _ _ _ _ ho h1 h2 hn hs ha hnn w
  · exact sides_other _ _ _ _ _ _ ho hn hs ha hnn w
end Go.Proofs.Ytbidpdgjlcmhhaa
