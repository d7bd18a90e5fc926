/- The document's Raise, Handle, Return, Move (layer 17), for every state. No condition but the branch's. -/
import Derived.Test.YtokmcjjdoiaeaaaTrapM
namespace Go.Proofs.Ytokmcjjdoiaeaaa
open Go.ChangeShapes Go.WideShapes Go.ChangeAt Go.RowKit
set_option linter.unusedVariables false
set_option linter.unusedSimpArgs false
set_option maxHeartbeats 1000000 in
theorem refraise_none (r0 r1 r2 r3 t : Int) (i : Bool) (fa fc s0 s1 s2 s3 : Int) (ga gc : Int)  (w : World) :
    Calls Try.prog 16 #[.agg #[.int .u64 r0, .int .u64 r1, .int .u64 r2, .int .u64 r3, .int .i64 t, .int .u64 0, .bool i, .int .u64 fa, .int .i64 fc, .int .u64 s0, .int .u64 s1, .int .u64 s2, .int .u64 s3], .agg #[.int .u64 ga, .int .i64 gc]] w fun e w' => e = .returned (.tuple #[.agg #[.int .u64 r0, .int .u64 r1, .int .u64 r2, .int .u64 r3, .int .i64 t, .int .u64 0, .bool i, .int .u64 fa, .int .i64 fc, .int .u64 s0, .int .u64 s1, .int .u64 s2, .int .u64 s3], .int .i64 5]) ∧ Below w.heap.size w w' := by
  go_enter Try.func16, Try.ntmps16
  go_wp2
  go_returns
  exact ⟨rfl, by go_grown⟩
set_option maxHeartbeats 1000000 in
theorem refraise_busy (r0 r1 r2 r3 t en : Int) (i : Bool) (fa fc s0 s1 s2 s3 : Int) (ga gc : Int) (he : en ≠ 0) (w : World) :
    Calls Try.prog 16 #[.agg #[.int .u64 r0, .int .u64 r1, .int .u64 r2, .int .u64 r3, .int .i64 t, .int .u64 en, .bool true, .int .u64 fa, .int .i64 fc, .int .u64 s0, .int .u64 s1, .int .u64 s2, .int .u64 s3], .agg #[.int .u64 ga, .int .i64 gc]] w fun e w' => e = .returned (.tuple #[.agg #[.int .u64 r0, .int .u64 r1, .int .u64 r2, .int .u64 r3, .int .i64 t, .int .u64 en, .bool true, .int .u64 fa, .int .i64 fc, .int .u64 s0, .int .u64 s1, .int .u64 s2, .int .u64 s3], .int .i64 11]) ∧ Below w.heap.size w w' := by
  have he' : (en == 0) = false := by simp [he]
  clear he
  go_enter Try.func16, Try.ntmps16
  go_wp2
  go_returns
  exact ⟨rfl, by go_grown⟩
set_option maxHeartbeats 1000000 in
theorem refraise_ok (r0 r1 r2 r3 t en : Int) (i : Bool) (fa fc s0 s1 s2 s3 : Int) (ga gc : Int) (he : en ≠ 0) (w : World) :
    Calls Try.prog 16 #[.agg #[.int .u64 r0, .int .u64 r1, .int .u64 r2, .int .u64 r3, .int .i64 t, .int .u64 en, .bool false, .int .u64 fa, .int .i64 fc, .int .u64 s0, .int .u64 s1, .int .u64 s2, .int .u64 s3], .agg #[.int .u64 ga, .int .i64 gc]] w fun e w' => e = .returned (.tuple #[.agg #[.int .u64 ga, .int .u64 (IntKind.u64.wrap gc), .int .u64 0, .int .u64 0, .int .i64 t, .int .u64 en, .bool true, .int .u64 ga, .int .i64 gc, .int .u64 r0, .int .u64 r1, .int .u64 r2, .int .u64 r3], .int .i64 0]) ∧ Below w.heap.size w w' := by
  have he' : (en == 0) = false := by simp [he]
  clear he
  go_enter Try.func16, Try.ntmps16
  go_wp2
  go_returns
  exact ⟨rfl, by go_grown⟩
set_option maxHeartbeats 1000000 in
theorem refhandle_busy (r0 r1 r2 r3 t en : Int) (i : Bool) (fa fc s0 s1 s2 s3 : Int) (x : Int)  (w : World) :
    Calls Try.prog 18 #[.agg #[.int .u64 r0, .int .u64 r1, .int .u64 r2, .int .u64 r3, .int .i64 t, .int .u64 en, .bool true, .int .u64 fa, .int .i64 fc, .int .u64 s0, .int .u64 s1, .int .u64 s2, .int .u64 s3], .int .u64 x] w fun e w' => e = .returned (.tuple #[.agg #[.int .u64 r0, .int .u64 r1, .int .u64 r2, .int .u64 r3, .int .i64 t, .int .u64 en, .bool true, .int .u64 fa, .int .i64 fc, .int .u64 s0, .int .u64 s1, .int .u64 s2, .int .u64 s3], .int .i64 11]) ∧ Below w.heap.size w w' := by
  go_enter Try.func18, Try.ntmps18
  go_wp2
  go_returns
  exact ⟨rfl, by go_grown⟩
set_option maxHeartbeats 1000000 in
theorem refhandle_ok (r0 r1 r2 r3 t en : Int) (i : Bool) (fa fc s0 s1 s2 s3 : Int) (x : Int)  (w : World) :
    Calls Try.prog 18 #[.agg #[.int .u64 r0, .int .u64 r1, .int .u64 r2, .int .u64 r3, .int .i64 t, .int .u64 en, .bool false, .int .u64 fa, .int .i64 fc, .int .u64 s0, .int .u64 s1, .int .u64 s2, .int .u64 s3], .int .u64 x] w fun e w' => e = .returned (.tuple #[.agg #[.int .u64 r0, .int .u64 r1, .int .u64 r2, .int .u64 r3, .int .i64 t, .int .u64 x, .bool false, .int .u64 fa, .int .i64 fc, .int .u64 s0, .int .u64 s1, .int .u64 s2, .int .u64 s3], .int .i64 0]) ∧ Below w.heap.size w w' := by
  go_enter Try.func18, Try.ntmps18
  go_wp2
  go_returns
  exact ⟨rfl, by go_grown⟩
set_option maxHeartbeats 1000000 in
theorem refreturn_none (r0 r1 r2 r3 t en : Int) (i : Bool) (fa fc s0 s1 s2 s3 : Int)  (w : World) :
    Calls Try.prog 17 #[.agg #[.int .u64 r0, .int .u64 r1, .int .u64 r2, .int .u64 r3, .int .i64 t, .int .u64 en, .bool false, .int .u64 fa, .int .i64 fc, .int .u64 s0, .int .u64 s1, .int .u64 s2, .int .u64 s3]] w fun e w' => e = .returned (.tuple #[.agg #[.int .u64 r0, .int .u64 r1, .int .u64 r2, .int .u64 r3, .int .i64 t, .int .u64 en, .bool false, .int .u64 fa, .int .i64 fc, .int .u64 s0, .int .u64 s1, .int .u64 s2, .int .u64 s3], .int .i64 5]) ∧ Below w.heap.size w w' := by
  go_enter Try.func17, Try.ntmps17
  go_wp2
  go_returns
  exact ⟨rfl, by go_grown⟩
set_option maxHeartbeats 1000000 in
theorem refreturn_ok (r0 r1 r2 r3 t en : Int) (i : Bool) (fa fc s0 s1 s2 s3 : Int)  (w : World) :
    Calls Try.prog 17 #[.agg #[.int .u64 r0, .int .u64 r1, .int .u64 r2, .int .u64 r3, .int .i64 t, .int .u64 en, .bool true, .int .u64 fa, .int .i64 fc, .int .u64 s0, .int .u64 s1, .int .u64 s2, .int .u64 s3]] w fun e w' => e = .returned (.tuple #[.agg #[.int .u64 s0, .int .u64 s1, .int .u64 s2, .int .u64 s3, .int .i64 t, .int .u64 en, .bool false, .int .u64 0, .int .i64 0, .int .u64 0, .int .u64 0, .int .u64 0, .int .u64 0], .int .i64 0]) ∧ Below w.heap.size w w' := by
  go_enter Try.func17, Try.ntmps17
  go_wp2
  go_returns
  exact ⟨rfl, by go_grown⟩
theorem refreg_out (a : Int) (ha : a < 0 ∨ 3 < a) (w : World) : Calls Try.prog 25 #[.int .i64 a] w fun e w' => e = .returned (.bool false) ∧ w' = w := by
  have H := Lib.hid ha
  clear ha
  go_enter Try.func25, Try.ntmps25
  rcases H.out with h | h
  · have d : decide (0 ≤ a) = false := decide_eq_false (by omega)
    clear H h
    go_wp2_with fail
    all_goals (go_returns; exact ⟨rfl, rfl⟩)
  · have d : decide (0 ≤ a) = true := decide_eq_true (by omega)
    have d2 : decide (a < 4) = false := decide_eq_false (by omega)
    clear H h
    go_wp2_with fail
    all_goals (go_returns; exact ⟨rfl, rfl⟩)
theorem refreg_in (a : Int) (h0 : 0 ≤ a) (h3 : a ≤ 3) (w : World) : Calls Try.prog 25 #[.int .i64 a] w fun e w' => e = .returned (.bool true) ∧ w' = w := by
  have d : decide (0 ≤ a) = true := decide_eq_true (by omega)
  have d2 : decide (a < 4) = true := decide_eq_true (by omega)
  clear h0 h3
  go_enter Try.func25, Try.ntmps25
  go_wp2_with fail
  all_goals (go_returns; exact ⟨rfl, rfl⟩)
section
variable (r0 r1 r2 r3 t en : Int) (i : Bool) (fa fc s0 s1 s2 s3 : Int)
theorem refmove_out (a x : Int) (ha : a < 0 ∨ 3 < a) (w : World) : Calls Try.prog 19 #[stV r0 r1 r2 r3 t en i fa fc s0 s1 s2 s3, .int .i64 a, .int .u64 x] w fun e w' =>
    e = .returned (.tuple #[stV r0 r1 r2 r3 t en i fa fc s0 s1 s2 s3, .int .i64 1]) ∧ Below w.heap.size w w' := by
  have H := Lib.hid ha
  clear ha
  go_enter Try.func19, Try.ntmps19
  go_wp2_with fail
  refine (refreg_out a H.out _).mono ?_
  rintro e w1 ⟨rfl, hw⟩
  obtain rfl := hw.symm
  clear hw
  go_wp2_with fail
  go_returns
  exact ⟨rfl, by go_grown⟩
set_option maxHeartbeats 1000000 in
theorem refmove_in (a x : Int) (h0 : 0 ≤ a) (h3 : a ≤ 3) (w : World) : Calls Try.prog 19 #[stV r0 r1 r2 r3 t en i fa fc s0 s1 s2 s3, .int .i64 a, .int .u64 x] w fun e w' =>
    e = .returned (.tuple #[stV (putR a 0 x r0) (putR a 1 x r1) (putR a 2 x r2) (putR a 3 x r3) t en i fa fc s0 s1 s2 s3, .int .i64 0]) ∧ Below w.heap.size w w' := by
  have h : a = 0 ∨ a = 1 ∨ a = 2 ∨ a = 3 := by omega
  have H0 := Lib.hid h0
  have H3 := Lib.hid h3
  have H := Lib.hid h
  clear h h0 h3
  go_enter Try.func19, Try.ntmps19
  go_wp2_with fail
  refine (refreg_in a H0.out H3.out _).mono ?_
  rintro e w1 ⟨rfl, hw⟩
  obtain rfl := hw.symm
  clear hw H0 H3
  rcases H.out with rfl | rfl | rfl | rfl
  all_goals
    clear H
    go_wp2_with fail
    go_returns
    exact ⟨ret_v (by simp [putR]), by go_grown⟩
end
end Go.Proofs.Ytokmcjjdoiaeaaa
