/- The package trap (layer 17): reg, Move, Reckon, and Do of layer 2 at every operation, for every state. No condition but the branch's. -/
import Derived.Test.YtokmcjjdoiaeaaaTrap
import Derived.Test.YtokmcjjdoiaeaaaFltC
import Derived.Test.YtokmcjjdoiaeaaaTch
import Derived.Lib.Hide
namespace Go.Proofs.Ytokmcjjdoiaeaaa
open Go.ChangeShapes Go.WideShapes Go.ChangeAt Go.RowKit
set_option linter.unusedVariables false
set_option linter.unusedSimpArgs false
abbrev stV (r0 r1 r2 r3 t en : Int) (i : Bool) (fa fc s0 s1 s2 s3 : Int) : Value := .agg #[.int .u64 r0, .int .u64 r1, .int .u64 r2, .int .u64 r3, .int .i64 t, .int .u64 en, .bool i, .int .u64 fa, .int .i64 fc, .int .u64 s0, .int .u64 s1, .int .u64 s2, .int .u64 s3]
/-- Register k of four. -/
def getR (k r0 r1 r2 r3 : Int) : Int := if k = 0 then r0 else if k = 1 then r1 else if k = 2 then r2 else r3
/-- Register j when k has x. -/
def putR (k j x r : Int) : Int := if k = j then x else r
theorem reg1_out (a : Int) (ha : a < 0 ∨ 3 < a) (b : Nat) (w : World) (hc : w.cell? ⟨b, 0, none⟩ = some (.int .i64 a)) :
    Calls Try.prog 21 #[.slice (some ⟨b, 0, none⟩) 1 1] w fun e w' => e = .returned (.bool false) ∧ w' = w := by
  have H := Lib.hid ha
  clear ha
  go_enter Try.func21, Try.ntmps21
  go_wp2_with fail
  go_rounds 2
  all_goals first | (go_returns; exact ⟨rfl, rfl⟩) | (exfalso; have := H.out; omega)
theorem reg1_in (a : Int) (h0 : 0 ≤ a) (h3 : a ≤ 3) (b : Nat) (w : World) (hc : w.cell? ⟨b, 0, none⟩ = some (.int .i64 a)) :
    Calls Try.prog 21 #[.slice (some ⟨b, 0, none⟩) 1 1] w fun e w' => e = .returned (.bool true) ∧ w' = w := by
  go_enter Try.func21, Try.ntmps21
  go_wp2_with fail
  go_rounds 2
  all_goals (go_returns; exact ⟨rfl, rfl⟩)
theorem reg3_out (a1 a2 a3 : Int) (ha : (a1 < 0 ∨ 3 < a1) ∨ (a2 < 0 ∨ 3 < a2) ∨ (a3 < 0 ∨ 3 < a3)) (b : Nat) (w : World) (hc : w.cell? ⟨b, 0, none⟩ = some (.int .i64 a1)) (hc1 : w.cell? ⟨b, 1, none⟩ = some (.int .i64 a2)) (hc2 : w.cell? ⟨b, 2, none⟩ = some (.int .i64 a3)) :
    Calls Try.prog 21 #[.slice (some ⟨b, 0, none⟩) 3 3] w fun e w' => e = .returned (.bool false) ∧ w' = w := by
  have H := Lib.hid ha
  clear ha
  go_enter Try.func21, Try.ntmps21
  go_wp2_with fail
  go_rounds 4
  all_goals first | (go_returns; exact ⟨rfl, rfl⟩) | (exfalso; have := H.out; omega)
theorem reg3_in (a1 a2 a3 : Int) (h0 : 0 ≤ a1) (h1 : a1 ≤ 3) (h2 : 0 ≤ a2) (h3 : a2 ≤ 3) (h4 : 0 ≤ a3) (h5 : a3 ≤ 3) (b : Nat) (w : World) (hc : w.cell? ⟨b, 0, none⟩ = some (.int .i64 a1)) (hc1 : w.cell? ⟨b, 1, none⟩ = some (.int .i64 a2)) (hc2 : w.cell? ⟨b, 2, none⟩ = some (.int .i64 a3)) :
    Calls Try.prog 21 #[.slice (some ⟨b, 0, none⟩) 3 3] w fun e w' => e = .returned (.bool true) ∧ w' = w := by
  go_enter Try.func21, Try.ntmps21
  go_wp2_with fail
  go_rounds 4
  all_goals (go_returns; exact ⟨rfl, rfl⟩)
section
variable (r0 r1 r2 r3 t en : Int) (i : Bool) (fa fc s0 s1 s2 s3 : Int)
theorem move_out (a x : Int) (ha : a < 0 ∨ 3 < a) (w : World) : Calls Try.prog 15 #[stV r0 r1 r2 r3 t en i fa fc s0 s1 s2 s3, .int .i64 a, .int .u64 x] w fun e w' =>
    e = .returned (.tuple #[stV r0 r1 r2 r3 t en i fa fc s0 s1 s2 s3, .int .i64 1]) ∧ Below w.heap.size w w' := by
  have H := Lib.hid ha
  clear ha
  go_enter Try.func15, Try.ntmps15
  go_wp2_with fail
  refine (reg1_out a H.out _ _ (by go_simp)).mono ?_
  rintro e w1 ⟨rfl, hw⟩
  obtain rfl := hw.symm
  clear hw
  go_wp2_with fail
  go_returns
  exact ⟨rfl, by go_grown⟩
set_option maxHeartbeats 1000000 in
theorem move_in (a x : Int) (h0 : 0 ≤ a) (h3 : a ≤ 3) (w : World) : Calls Try.prog 15 #[stV r0 r1 r2 r3 t en i fa fc s0 s1 s2 s3, .int .i64 a, .int .u64 x] w fun e w' =>
    e = .returned (.tuple #[stV (putR a 0 x r0) (putR a 1 x r1) (putR a 2 x r2) (putR a 3 x r3) t en i fa fc s0 s1 s2 s3, .int .i64 0]) ∧ Below w.heap.size w w' := by
  have h : a = 0 ∨ a = 1 ∨ a = 2 ∨ a = 3 := by omega
  have H0 := Lib.hid h0
  have H3 := Lib.hid h3
  have H := Lib.hid h
  clear h h0 h3
  go_enter Try.func15, Try.ntmps15
  go_wp2_with fail
  refine (reg1_in a H0.out H3.out _ _ (by go_simp)).mono ?_
  rintro e w1 ⟨rfl, hw⟩
  obtain rfl := hw.symm
  clear hw H0 H3
  rcases H.out with rfl | rfl | rfl | rfl
  all_goals
    clear H
    go_wp2_with fail
    go_returns
    exact ⟨ret_v (by simp [putR]), by go_grown⟩
end
/-! ### Do at every operation -/
def dX (op x y : Int) : Int := if 1 ≤ op ∧ op ≤ 6 then outF (rawF op x.toNat y.toNat) else if op = 7 then negN x.toNat else if op = 8 then rg x.toNat else 0
def dF (op x y : Int) : Int := if 1 ≤ op ∧ op ≤ 6 then flagF op (fcls x.toNat) (fcls y.toNat) (clsO (rawF op x.toNat y.toNat)) (sigB x.toNat) (sigB y.toNat) else 0
def dE (op : Int) : Int := if 1 ≤ op ∧ op ≤ 8 then 0 else 1
theorem dE_cases (op : Int) : dE op = 0 ∨ dE op = 1 := by unfold dE; split <;> simp
theorem dF_cases (op x y : Int) : dF op x y = 0 ∨ dF op x y = 1 ∨ dF op x y = 2 ∨ dF op x y = 4 := by
  unfold dF flagF
  (repeat' split) <;> simp
end Go.Proofs.Ytokmcjjdoiaeaaa
