/- TrapOnce: the law returns true at every state, faults and entry. No condition. -/
import Derived.Test.YtokmcjjdoiaeaaaTrap
import Derived.Lib.Hide
namespace Go.Proofs.Ytokmcjjdoiaeaaa
open Go.ChangeShapes Go.WideShapes Go.ChangeAt Go.RowKit
set_option linter.unusedVariables false
set_option linter.unusedSimpArgs false
theorem infoU : ∃ i, Try.prog.info? 22 = some i := Option.isSome_iff_exists.1 (by kernel_rfl)
theorem eqRegs (d : Nat) (w : World) (a b c e a' b' c' e' : Int) : (Op.equalIn (d + 2) 24 (.agg #[.int .u64 a, .int .u64 b, .int .u64 c, .int .u64 e]) (.agg #[.int .u64 a', .int .u64 b', .int .u64 c', .int .u64 e'])).run Try.prog w
    = .ok (a == a' && (b == b' && (c == c' && e == e'))) w := by
  obtain ⟨i, hi⟩ := infoU
  have hc : Try.prog.cellsOf 22 = 1 := by kernel_rfl
  rw [run_equalIn_array (i := i) w (d + 1) _ _ Try.underlying24 hi]
  rw [show List.range 4 = [0, 1, 2, 3] from rfl, hc]
  simp only [Op.eqItems]
  go_simp
  by_cases h1 : a = a' <;> by_cases h2 : b = b' <;> by_cases h3 : c = c' <;> by_cases h4 : e = e' <;> simp [h1, h2, h3, h4]
attribute [local go_sem] eqRegs
set_option maxHeartbeats 1000000 in
theorem awake_any (w : World) : Calls Try.prog 8 #[] w fun e w' => e = .returned (.bool true) ∧ Below w.heap.size w w' := by
  go_enter Try.func8, Try.ntmps8
  go_wp2_with fail
  refine (handle_ok 0 0 0 0 0 0 false 0 0 0 0 0 0 4096 _).mono ?_; rintro e w1 ⟨rfl, hb1⟩
  obtain ⟨hc1, _⟩ := bcell hb1
  have hB1 : Below w.heap.size w w1 := b_then (by go_grown) hb1
  have hz1 := hb1.size; try simp only [World.size_alloc, World.size_setCell, World.size_drew] at hz1
  clear hb1
  go_wp2_with fail
  refine (raise_ok 0 0 0 0 0 4096 false 0 0 0 0 0 0 9 6 (by decide) _).mono ?_; rintro e w2 ⟨rfl, hb2⟩
  obtain ⟨hc2, _⟩ := bcell hb2
  have hB2 : Below w.heap.size w w2 := b_then (by first | exact hB1 | (go_grown)) hb2
  have hz2 := hb2.size; try simp only [World.size_alloc, World.size_setCell, World.size_drew] at hz2
  have z2_0 : w1.heap.size < w2.heap.size := by omega
  clear hb2
  go_wp2_with fail
  refine (return_ok 9 6 0 0 0 4096 true 9 6 0 0 0 0 _).mono ?_; rintro e w3 ⟨rfl, hb3⟩
  obtain ⟨hc3, _⟩ := bcell hb3
  have hB3 : Below w.heap.size w w3 := b_then (by first | exact hB2 | (go_grown)) hb3
  have hz3 := hb3.size; try simp only [World.size_alloc, World.size_setCell, World.size_drew] at hz3
  have z3_0 : w1.heap.size < w3.heap.size := by omega
  have z3_1 : w2.heap.size < w3.heap.size := by omega
  clear hb3
  go_wp2
  go_returns
  exact ⟨rfl, by go_grown⟩
set_option maxHeartbeats 2000000 in
theorem once_none (r0 r1 r2 r3 t : Int) (i : Bool) (fa fc s0 s1 s2 s3 : Int) (ga gc ha hc : Int) (x : Int)  (w : World) :
    Calls Try.prog 3 #[.agg #[.int .u64 r0, .int .u64 r1, .int .u64 r2, .int .u64 r3, .int .i64 t, .int .u64 0, .bool i, .int .u64 fa, .int .i64 fc, .int .u64 s0, .int .u64 s1, .int .u64 s2, .int .u64 s3], .agg #[.int .u64 ga, .int .i64 gc], .agg #[.int .u64 ha, .int .i64 hc], .int .u64 x] w fun e w' => e = .returned (.bool true) ∧ Below w.heap.size w w' := by
  go_enter Try.func3, Try.ntmps3
  go_wp2_with fail
  refine (raise_none _ _ _ _ _ i _ _ _ _ _ _ _ _ _).mono ?_; rintro e w1 ⟨rfl, hb1⟩
  obtain ⟨hc1, _⟩ := bcell hb1
  have hB1 : Below w.heap.size w w1 := b_then (by go_grown) hb1
  have hz1 := hb1.size; try simp only [World.size_alloc, World.size_setCell, World.size_drew] at hz1
  have z1_0 : w.heap.size < w1.heap.size := by omega
  have z1_1 : w.heap.size + 1 < w1.heap.size := by omega
  have z1_2 : w.heap.size + 2 < w1.heap.size := by omega
  clear hb1
  go_wp2_with fail
  refine (awake_any _).mono ?_; rintro e w2 ⟨rfl, hb2⟩
  obtain ⟨hc2, _⟩ := bcell hb2
  have hB2 : Below w.heap.size w w2 := b_then (by first | exact hB1 | (go_grown)) hb2
  have hz2 := hb2.size; try simp only [World.size_alloc, World.size_setCell, World.size_drew] at hz2
  have z2_0 : w.heap.size < w2.heap.size := by omega
  have z2_1 : w.heap.size + 1 < w2.heap.size := by omega
  have z2_2 : w.heap.size + 2 < w2.heap.size := by omega
  have z2_3 : w1.heap.size < w2.heap.size := by omega
  clear hb2
  go_wp2
  go_returns
  exact ⟨ret_v (by simp), by go_grown⟩
set_option maxHeartbeats 2000000 in
theorem once_busy (r0 r1 r2 r3 t en : Int) (i : Bool) (fa fc s0 s1 s2 s3 : Int) (ga gc ha hc : Int) (x : Int) (he : en ≠ 0) (w : World) :
    Calls Try.prog 3 #[.agg #[.int .u64 r0, .int .u64 r1, .int .u64 r2, .int .u64 r3, .int .i64 t, .int .u64 en, .bool true, .int .u64 fa, .int .i64 fc, .int .u64 s0, .int .u64 s1, .int .u64 s2, .int .u64 s3], .agg #[.int .u64 ga, .int .i64 gc], .agg #[.int .u64 ha, .int .i64 hc], .int .u64 x] w fun e w' => e = .returned (.bool true) ∧ Below w.heap.size w w' := by
  go_enter Try.func3, Try.ntmps3
  have he' : (en == 0) = false := by simp [he]
  go_wp2_with fail
  refine (raise_busy _ _ _ _ _ _ true _ _ _ _ _ _ _ _ he _).mono ?_; rintro e w1 ⟨rfl, hb1⟩
  obtain ⟨hc1, _⟩ := bcell hb1
  have hB1 : Below w.heap.size w w1 := b_then (by go_grown) hb1
  have hz1 := hb1.size; try simp only [World.size_alloc, World.size_setCell, World.size_drew] at hz1
  have z1_0 : w.heap.size < w1.heap.size := by omega
  have z1_1 : w.heap.size + 1 < w1.heap.size := by omega
  have z1_2 : w.heap.size + 2 < w1.heap.size := by omega
  clear hb1
  go_wp2_with fail
  refine (awake_any _).mono ?_; rintro e w2 ⟨rfl, hb2⟩
  obtain ⟨hc2, _⟩ := bcell hb2
  have hB2 : Below w.heap.size w w2 := b_then (by first | exact hB1 | (go_grown)) hb2
  have hz2 := hb2.size; try simp only [World.size_alloc, World.size_setCell, World.size_drew] at hz2
  have z2_0 : w.heap.size < w2.heap.size := by omega
  have z2_1 : w.heap.size + 1 < w2.heap.size := by omega
  have z2_2 : w.heap.size + 2 < w2.heap.size := by omega
  have z2_3 : w1.heap.size < w2.heap.size := by omega
  clear hb2
  go_wp2
  go_returns
  exact ⟨ret_v (by simp), by go_grown⟩
set_option maxHeartbeats 2000000 in
theorem once_ok0 (r0 r1 r2 r3 t en : Int) (i : Bool) (fa fc s0 s1 s2 s3 : Int) (ga gc ha hc : Int) (he : en ≠ 0) (w : World) :
    Calls Try.prog 3 #[.agg #[.int .u64 r0, .int .u64 r1, .int .u64 r2, .int .u64 r3, .int .i64 t, .int .u64 en, .bool false, .int .u64 fa, .int .i64 fc, .int .u64 s0, .int .u64 s1, .int .u64 s2, .int .u64 s3], .agg #[.int .u64 ga, .int .i64 gc], .agg #[.int .u64 ha, .int .i64 hc], .int .u64 0] w fun e w' => e = .returned (.bool true) ∧ Below w.heap.size w w' := by
  go_enter Try.func3, Try.ntmps3
  have HE := Lib.hid he; clear he
  go_wp2_with fail
  refine (raise_ok _ _ _ _ _ _ false _ _ _ _ _ _ _ _ HE.out _).mono ?_; rintro e w1 ⟨rfl, hb1⟩
  obtain ⟨hc1, _⟩ := bcell hb1
  have hB1 : Below w.heap.size w w1 := b_then (by go_grown) hb1
  have hz1 := hb1.size; try simp only [World.size_alloc, World.size_setCell, World.size_drew] at hz1
  have z1_0 : w.heap.size < w1.heap.size := by omega
  have z1_1 : w.heap.size + 1 < w1.heap.size := by omega
  have z1_2 : w.heap.size + 2 < w1.heap.size := by omega
  clear hb1
  go_wp2_with fail
  refine (raise_busy _ _ _ _ _ _ true _ _ _ _ _ _ _ _ HE.out _).mono ?_; rintro e w2 ⟨rfl, hb2⟩
  obtain ⟨hc2, _⟩ := bcell hb2
  have hB2 : Below w.heap.size w w2 := b_then (by first | exact hB1 | (go_grown)) hb2
  have hz2 := hb2.size; try simp only [World.size_alloc, World.size_setCell, World.size_drew] at hz2
  have z2_0 : w.heap.size < w2.heap.size := by omega
  have z2_1 : w.heap.size + 1 < w2.heap.size := by omega
  have z2_2 : w.heap.size + 2 < w2.heap.size := by omega
  have z2_3 : w1.heap.size < w2.heap.size := by omega
  clear hb2
  go_wp2_with fail
  refine (handle_busy _ _ _ _ _ _ true _ _ _ _ _ _ _ _).mono ?_; rintro e w3 ⟨rfl, hb3⟩
  obtain ⟨hc3, _⟩ := bcell hb3
  have hB3 : Below w.heap.size w w3 := b_then (by first | exact hB2 | (go_grown)) hb3
  have hz3 := hb3.size; try simp only [World.size_alloc, World.size_setCell, World.size_drew] at hz3
  have z3_0 : w.heap.size < w3.heap.size := by omega
  have z3_1 : w.heap.size + 1 < w3.heap.size := by omega
  have z3_2 : w.heap.size + 2 < w3.heap.size := by omega
  have z3_3 : w1.heap.size < w3.heap.size := by omega
  have z3_4 : w2.heap.size < w3.heap.size := by omega
  clear hb3
  go_wp2_with fail
  refine (return_ok _ _ _ _ _ _ true _ _ _ _ _ _ _).mono ?_; rintro e w4 ⟨rfl, hb4⟩
  obtain ⟨hc4, _⟩ := bcell hb4
  have hB4 : Below w.heap.size w w4 := b_then (by first | exact hB3 | (go_grown)) hb4
  have hz4 := hb4.size; try simp only [World.size_alloc, World.size_setCell, World.size_drew] at hz4
  have z4_0 : w.heap.size < w4.heap.size := by omega
  have z4_1 : w.heap.size + 1 < w4.heap.size := by omega
  have z4_2 : w.heap.size + 2 < w4.heap.size := by omega
  have z4_3 : w1.heap.size < w4.heap.size := by omega
  have z4_4 : w2.heap.size < w4.heap.size := by omega
  have z4_5 : w3.heap.size < w4.heap.size := by omega
  clear hb4
  go_wp2_with fail
  refine (handle_ok _ _ _ _ _ _ false _ _ _ _ _ _ _ _).mono ?_; rintro e w5 ⟨rfl, hb5⟩
  obtain ⟨hc5, _⟩ := bcell hb5
  have hB5 : Below w.heap.size w w5 := b_then (by first | exact hB4 | (go_grown)) hb5
  have hz5 := hb5.size; try simp only [World.size_alloc, World.size_setCell, World.size_drew] at hz5
  have z5_0 : w.heap.size < w5.heap.size := by omega
  have z5_1 : w.heap.size + 1 < w5.heap.size := by omega
  have z5_2 : w.heap.size + 2 < w5.heap.size := by omega
  have z5_3 : w1.heap.size < w5.heap.size := by omega
  have z5_4 : w2.heap.size < w5.heap.size := by omega
  have z5_5 : w3.heap.size < w5.heap.size := by omega
  have z5_6 : w4.heap.size < w5.heap.size := by omega
  clear hb5
  go_wp2_with fail
  refine (raise_none _ _ _ _ _ false _ _ _ _ _ _ _ _ _).mono ?_; rintro e w6 ⟨rfl, hb6⟩
  obtain ⟨hc6, _⟩ := bcell hb6
  have hB6 : Below w.heap.size w w6 := b_then (by first | exact hB5 | (go_grown)) hb6
  have hz6 := hb6.size; try simp only [World.size_alloc, World.size_setCell, World.size_drew] at hz6
  have z6_0 : w.heap.size < w6.heap.size := by omega
  have z6_1 : w.heap.size + 1 < w6.heap.size := by omega
  have z6_2 : w.heap.size + 2 < w6.heap.size := by omega
  have z6_3 : w1.heap.size < w6.heap.size := by omega
  have z6_4 : w2.heap.size < w6.heap.size := by omega
  have z6_5 : w3.heap.size < w6.heap.size := by omega
  have z6_6 : w4.heap.size < w6.heap.size := by omega
  have z6_7 : w5.heap.size < w6.heap.size := by omega
  clear hb6
  go_wp2_with fail
  refine (awake_any _).mono ?_; rintro e w7 ⟨rfl, hb7⟩
  obtain ⟨hc7, _⟩ := bcell hb7
  have hB7 : Below w.heap.size w w7 := b_then (by first | exact hB6 | (go_grown)) hb7
  have hz7 := hb7.size; try simp only [World.size_alloc, World.size_setCell, World.size_drew] at hz7
  have z7_0 : w.heap.size < w7.heap.size := by omega
  have z7_1 : w.heap.size + 1 < w7.heap.size := by omega
  have z7_2 : w.heap.size + 2 < w7.heap.size := by omega
  have z7_3 : w1.heap.size < w7.heap.size := by omega
  have z7_4 : w2.heap.size < w7.heap.size := by omega
  have z7_5 : w3.heap.size < w7.heap.size := by omega
  have z7_6 : w4.heap.size < w7.heap.size := by omega
  have z7_7 : w5.heap.size < w7.heap.size := by omega
  have z7_8 : w6.heap.size < w7.heap.size := by omega
  clear hb7
  go_wp2
  go_returns
  exact ⟨ret_v (by simp), by go_grown⟩
set_option maxHeartbeats 2000000 in
theorem once_ok (r0 r1 r2 r3 t en : Int) (i : Bool) (fa fc s0 s1 s2 s3 : Int) (ga gc ha hc : Int) (x : Int) (he : en ≠ 0) (hx : x ≠ 0) (w : World) :
    Calls Try.prog 3 #[.agg #[.int .u64 r0, .int .u64 r1, .int .u64 r2, .int .u64 r3, .int .i64 t, .int .u64 en, .bool false, .int .u64 fa, .int .i64 fc, .int .u64 s0, .int .u64 s1, .int .u64 s2, .int .u64 s3], .agg #[.int .u64 ga, .int .i64 gc], .agg #[.int .u64 ha, .int .i64 hc], .int .u64 x] w fun e w' => e = .returned (.bool true) ∧ Below w.heap.size w w' := by
  go_enter Try.func3, Try.ntmps3
  have hx' : (x == 0) = false := by simp [hx]
  have HX := Lib.hid hx; clear hx
  have HE := Lib.hid he; clear he
  go_wp2_with fail
  refine (raise_ok _ _ _ _ _ _ false _ _ _ _ _ _ _ _ HE.out _).mono ?_; rintro e w1 ⟨rfl, hb1⟩
  obtain ⟨hc1, _⟩ := bcell hb1
  have hB1 : Below w.heap.size w w1 := b_then (by go_grown) hb1
  have hz1 := hb1.size; try simp only [World.size_alloc, World.size_setCell, World.size_drew] at hz1
  have z1_0 : w.heap.size < w1.heap.size := by omega
  have z1_1 : w.heap.size + 1 < w1.heap.size := by omega
  have z1_2 : w.heap.size + 2 < w1.heap.size := by omega
  clear hb1
  go_wp2_with fail
  refine (raise_busy _ _ _ _ _ _ true _ _ _ _ _ _ _ _ HE.out _).mono ?_; rintro e w2 ⟨rfl, hb2⟩
  obtain ⟨hc2, _⟩ := bcell hb2
  have hB2 : Below w.heap.size w w2 := b_then (by first | exact hB1 | (go_grown)) hb2
  have hz2 := hb2.size; try simp only [World.size_alloc, World.size_setCell, World.size_drew] at hz2
  have z2_0 : w.heap.size < w2.heap.size := by omega
  have z2_1 : w.heap.size + 1 < w2.heap.size := by omega
  have z2_2 : w.heap.size + 2 < w2.heap.size := by omega
  have z2_3 : w1.heap.size < w2.heap.size := by omega
  clear hb2
  go_wp2_with fail
  refine (handle_busy _ _ _ _ _ _ true _ _ _ _ _ _ _ _).mono ?_; rintro e w3 ⟨rfl, hb3⟩
  obtain ⟨hc3, _⟩ := bcell hb3
  have hB3 : Below w.heap.size w w3 := b_then (by first | exact hB2 | (go_grown)) hb3
  have hz3 := hb3.size; try simp only [World.size_alloc, World.size_setCell, World.size_drew] at hz3
  have z3_0 : w.heap.size < w3.heap.size := by omega
  have z3_1 : w.heap.size + 1 < w3.heap.size := by omega
  have z3_2 : w.heap.size + 2 < w3.heap.size := by omega
  have z3_3 : w1.heap.size < w3.heap.size := by omega
  have z3_4 : w2.heap.size < w3.heap.size := by omega
  clear hb3
  go_wp2_with fail
  refine (return_ok _ _ _ _ _ _ true _ _ _ _ _ _ _).mono ?_; rintro e w4 ⟨rfl, hb4⟩
  obtain ⟨hc4, _⟩ := bcell hb4
  have hB4 : Below w.heap.size w w4 := b_then (by first | exact hB3 | (go_grown)) hb4
  have hz4 := hb4.size; try simp only [World.size_alloc, World.size_setCell, World.size_drew] at hz4
  have z4_0 : w.heap.size < w4.heap.size := by omega
  have z4_1 : w.heap.size + 1 < w4.heap.size := by omega
  have z4_2 : w.heap.size + 2 < w4.heap.size := by omega
  have z4_3 : w1.heap.size < w4.heap.size := by omega
  have z4_4 : w2.heap.size < w4.heap.size := by omega
  have z4_5 : w3.heap.size < w4.heap.size := by omega
  clear hb4
  go_wp2_with fail
  refine (handle_ok _ _ _ _ _ _ false _ _ _ _ _ _ _ _).mono ?_; rintro e w5 ⟨rfl, hb5⟩
  obtain ⟨hc5, _⟩ := bcell hb5
  have hB5 : Below w.heap.size w w5 := b_then (by first | exact hB4 | (go_grown)) hb5
  have hz5 := hb5.size; try simp only [World.size_alloc, World.size_setCell, World.size_drew] at hz5
  have z5_0 : w.heap.size < w5.heap.size := by omega
  have z5_1 : w.heap.size + 1 < w5.heap.size := by omega
  have z5_2 : w.heap.size + 2 < w5.heap.size := by omega
  have z5_3 : w1.heap.size < w5.heap.size := by omega
  have z5_4 : w2.heap.size < w5.heap.size := by omega
  have z5_5 : w3.heap.size < w5.heap.size := by omega
  have z5_6 : w4.heap.size < w5.heap.size := by omega
  clear hb5
  go_wp2_with fail
  refine (raise_ok _ _ _ _ _ _ false _ _ _ _ _ _ _ _ HX.out _).mono ?_; rintro e w6 ⟨rfl, hb6⟩
  obtain ⟨hc6, _⟩ := bcell hb6
  have hB6 : Below w.heap.size w w6 := b_then (by first | exact hB5 | (go_grown)) hb6
  have hz6 := hb6.size; try simp only [World.size_alloc, World.size_setCell, World.size_drew] at hz6
  have z6_0 : w.heap.size < w6.heap.size := by omega
  have z6_1 : w.heap.size + 1 < w6.heap.size := by omega
  have z6_2 : w.heap.size + 2 < w6.heap.size := by omega
  have z6_3 : w1.heap.size < w6.heap.size := by omega
  have z6_4 : w2.heap.size < w6.heap.size := by omega
  have z6_5 : w3.heap.size < w6.heap.size := by omega
  have z6_6 : w4.heap.size < w6.heap.size := by omega
  have z6_7 : w5.heap.size < w6.heap.size := by omega
  clear hb6
  go_wp2_with fail
  refine (awake_any _).mono ?_; rintro e w7 ⟨rfl, hb7⟩
  obtain ⟨hc7, _⟩ := bcell hb7
  have hB7 : Below w.heap.size w w7 := b_then (by first | exact hB6 | (go_grown)) hb7
  have hz7 := hb7.size; try simp only [World.size_alloc, World.size_setCell, World.size_drew] at hz7
  have z7_0 : w.heap.size < w7.heap.size := by omega
  have z7_1 : w.heap.size + 1 < w7.heap.size := by omega
  have z7_2 : w.heap.size + 2 < w7.heap.size := by omega
  have z7_3 : w1.heap.size < w7.heap.size := by omega
  have z7_4 : w2.heap.size < w7.heap.size := by omega
  have z7_5 : w3.heap.size < w7.heap.size := by omega
  have z7_6 : w4.heap.size < w7.heap.size := by omega
  have z7_7 : w5.heap.size < w7.heap.size := by omega
  have z7_8 : w6.heap.size < w7.heap.size := by omega
  clear hb7
  go_wp2
  go_returns
  exact ⟨ret_v (by simp [HX.out]), by go_grown⟩
theorem walk_TrapOnce (a0_0 : Int) (a0_1 : Int) (a0_2 : Int) (a0_3 : Int) (a0_4 : Int) (a0_5 : Int) (a0_6 : Bool) (a0_7 : Int) (a0_8 : Int) (a0_9 : Int) (a0_10 : Int) (a0_11 : Int) (a0_12 : Int) (a1_0 : Int) (a1_1 : Int) (a2_0 : Int) (a2_1 : Int) (a3 : Int) (w : World) (w0_0 : (Lit.int .u64 a0_0).wf = true) (w0_1 : (Lit.int .u64 a0_1).wf = true) (w0_2 : (Lit.int .u64 a0_2).wf = true) (w0_3 : (Lit.int .u64 a0_3).wf = true) (w0_4 : (Lit.int .i64 a0_4).wf = true) (w0_5 : (Lit.int .u64 a0_5).wf = true) (w0_7 : (Lit.int .u64 a0_7).wf = true) (w0_8 : (Lit.int .i64 a0_8).wf = true) (w0_9 : (Lit.int .u64 a0_9).wf = true) (w0_10 : (Lit.int .u64 a0_10).wf = true) (w0_11 : (Lit.int .u64 a0_11).wf = true) (w0_12 : (Lit.int .u64 a0_12).wf = true) (w1_0 : (Lit.int .u64 a1_0).wf = true) (w1_1 : (Lit.int .i64 a1_1).wf = true) (w2_0 : (Lit.int .u64 a2_0).wf = true) (w2_1 : (Lit.int .i64 a2_1).wf = true) (w3 : (Lit.int .u64 a3).wf = true) :
    Calls Try.prog 3 #[.agg #[.int .u64 a0_0, .int .u64 a0_1, .int .u64 a0_2, .int .u64 a0_3, .int .i64 a0_4, .int .u64 a0_5, .bool a0_6, .int .u64 a0_7, .int .i64 a0_8, .int .u64 a0_9, .int .u64 a0_10, .int .u64 a0_11, .int .u64 a0_12], .agg #[.int .u64 a1_0, .int .i64 a1_1], .agg #[.int .u64 a2_0, .int .i64 a2_1], .int .u64 a3] w fun e w' => e = .returned (.bool true) ∧ Below w.heap.size w w' := by
  by_cases h0 : a0_5 = 0
  · subst h0; exact once_none _ _ _ _ _ _ _ _ _ _ _ _ _ _ _ _ _ _
  cases a0_6
  · by_cases h1 : a3 = 0
    · subst h1; exact once_ok0 _ _ _ _ _ _ false _ _ _ _ _ _ _ _ _ _ h0 _
    · exact once_ok _ _ _ _ _ _ false _ _ _ _ _ _ _ _ _ _ _ h0 h1 _
  · exact once_busy _ _ _ _ _ _ true _ _ _ _ _ _ _ _ _ _ _ h0 _
end Go.Proofs.Ytokmcjjdoiaeaaa
