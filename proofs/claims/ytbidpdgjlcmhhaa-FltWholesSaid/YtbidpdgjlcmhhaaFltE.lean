/- The package flt (layer 2): reckon, Do, told by the bits. No condition but that the words have 64 bits. -/
import Derived.Test.YtbidpdgjlcmhhaaFltD
namespace Go.Proofs.Ytbidpdgjlcmhhaa
open Go.ChangeShapes Go.WideShapes Go.ChangeAt Go.RowKit
set_option linter.unusedVariables false
set_option linter.unusedSimpArgs false

section
variable (x y : Nat)
theorem reckon_1 (hx : x < 18446744073709551616) (hy : y < 18446744073709551616) (w : World) : Calls Try.prog 26 #[.int .i64 1, .int .u64 x, .int .u64 y] w fun e w' => (∃ b : Nat, RawOk (rawF 1 x y) b ∧ b < 18446744073709551616 ∧ e = .returned (.int .u64 b)) ∧ Below w.heap.size w w' := by
  have hf := from_bits
  have ht := to_bits
  have e1 : rawF 1 x y = Ieee.double.add x y := by simp [rawF]
  rw [e1]
  clear e1
  cases hr : Ieee.double.add x y with
  | none =>
    have ha := run_nan .add 43 x y (by simp) hr
    have HN := Lib.hid (tapeNaN_ok x y w)
    clear hr hx hy
    go_enter Try.func26, Try.ntmps26
    go_wp2_with fail
    go_returns
    exact ⟨⟨_, .inr ⟨rfl, HN.out.1⟩, HN.out.2, rfl⟩, (Below.refl _ _).drew⟩
  | some r =>
    have ha := fun W => run_float_arith (P := Try.prog) W .add 43 .f64 x y r hr
    have HL := Lib.hid (Ieee.Format.add_lt _ hr)
    clear hr hx hy
    go_enter Try.func26, Try.ntmps26
    go_wp2_with fail
    go_returns
    exact ⟨⟨r, .inl ⟨r, rfl, rfl⟩, HL.out, rfl⟩, Below.refl _ _⟩
theorem reckon_2 (hx : x < 18446744073709551616) (hy : y < 18446744073709551616) (w : World) : Calls Try.prog 26 #[.int .i64 2, .int .u64 x, .int .u64 y] w fun e w' => (∃ b : Nat, RawOk (rawF 2 x y) b ∧ b < 18446744073709551616 ∧ e = .returned (.int .u64 b)) ∧ Below w.heap.size w w' := by
  have hf := from_bits
  have ht := to_bits
  have e1 : rawF 2 x y = Ieee.double.sub x y := by simp [rawF]
  rw [e1]
  clear e1
  cases hr : Ieee.double.sub x y with
  | none =>
    have ha := run_nan .sub 43 x y (by simp) hr
    have HN := Lib.hid (tapeNaN_ok x y w)
    clear hr hx hy
    go_enter Try.func26, Try.ntmps26
    go_wp2_with fail
    go_returns
    exact ⟨⟨_, .inr ⟨rfl, HN.out.1⟩, HN.out.2, rfl⟩, (Below.refl _ _).drew⟩
  | some r =>
    have ha := fun W => run_float_arith (P := Try.prog) W .sub 43 .f64 x y r hr
    have HL := Lib.hid (Ieee.Format.sub_lt _ hr)
    clear hr hx hy
    go_enter Try.func26, Try.ntmps26
    go_wp2_with fail
    go_returns
    exact ⟨⟨r, .inl ⟨r, rfl, rfl⟩, HL.out, rfl⟩, Below.refl _ _⟩
theorem reckon_3 (hx : x < 18446744073709551616) (hy : y < 18446744073709551616) (w : World) : Calls Try.prog 26 #[.int .i64 3, .int .u64 x, .int .u64 y] w fun e w' => (∃ b : Nat, RawOk (rawF 3 x y) b ∧ b < 18446744073709551616 ∧ e = .returned (.int .u64 b)) ∧ Below w.heap.size w w' := by
  have hf := from_bits
  have ht := to_bits
  have e1 : rawF 3 x y = Ieee.double.mul x y := by simp [rawF]
  rw [e1]
  clear e1
  cases hr : Ieee.double.mul x y with
  | none =>
    have ha := run_nan .mul 43 x y (by simp) hr
    have HN := Lib.hid (tapeNaN_ok x y w)
    clear hr hx hy
    go_enter Try.func26, Try.ntmps26
    go_wp2_with fail
    go_returns
    exact ⟨⟨_, .inr ⟨rfl, HN.out.1⟩, HN.out.2, rfl⟩, (Below.refl _ _).drew⟩
  | some r =>
    have ha := fun W => run_float_arith (P := Try.prog) W .mul 43 .f64 x y r hr
    have HL := Lib.hid (Ieee.Format.mul_lt _ hr)
    clear hr hx hy
    go_enter Try.func26, Try.ntmps26
    go_wp2_with fail
    go_returns
    exact ⟨⟨r, .inl ⟨r, rfl, rfl⟩, HL.out, rfl⟩, Below.refl _ _⟩
theorem reckon_4 (hx : x < 18446744073709551616) (hy : y < 18446744073709551616) (w : World) : Calls Try.prog 26 #[.int .i64 4, .int .u64 x, .int .u64 y] w fun e w' => (∃ b : Nat, RawOk (rawF 4 x y) b ∧ b < 18446744073709551616 ∧ e = .returned (.int .u64 b)) ∧ Below w.heap.size w w' := by
  have hf := from_bits
  have ht := to_bits
  have e1 : rawF 4 x y = Ieee.double.div x y := by simp [rawF]
  rw [e1]
  clear e1
  cases hr : Ieee.double.div x y with
  | none =>
    have ha := run_nan .quo 43 x y (by simp) hr
    have HN := Lib.hid (tapeNaN_ok x y w)
    clear hr hx hy
    go_enter Try.func26, Try.ntmps26
    go_wp2_with fail
    go_returns
    exact ⟨⟨_, .inr ⟨rfl, HN.out.1⟩, HN.out.2, rfl⟩, (Below.refl _ _).drew⟩
  | some r =>
    have ha := fun W => run_float_arith (P := Try.prog) W .quo 43 .f64 x y r hr
    have HL := Lib.hid (Ieee.Format.div_lt _ hr)
    clear hr hx hy
    go_enter Try.func26, Try.ntmps26
    go_wp2_with fail
    go_returns
    exact ⟨⟨r, .inl ⟨r, rfl, rfl⟩, HL.out, rfl⟩, Below.refl _ _⟩
theorem reckon_5 (hx : x < 18446744073709551616) (hy : y < 18446744073709551616) (w : World) : Calls Try.prog 26 #[.int .i64 5, .int .u64 x, .int .u64 y] w fun e w' => (∃ b : Nat, RawOk (rawF 5 x y) b ∧ b < 18446744073709551616 ∧ e = .returned (.int .u64 b)) ∧ Below w.heap.size w w' := by
  have hf := from_bits
  have ht := to_bits
  have n1 := nan_eq x
  have n2 := nan_eq y
  have e1 : rawF 5 x y = if nanN x || nanN y then none else some (lessF x y) := by simp [rawF]
  rw [e1]
  clear e1
  by_cases c1 : nanN x = true
  · rw [c1] at n1
    rw [c1, Bool.true_or, if_pos rfl]
    clear c1 n2 hx hy
    go_enter Try.func26, Try.ntmps26
    go_wp2_with fail
    go_returns
    exact ⟨⟨9221120237041090560, .inr ⟨rfl, by decide⟩, by omega, rfl⟩, Below.refl _ _⟩
  have c1 : nanN x = false := by simpa using c1
  rw [c1] at n1
  by_cases c2 : nanN y = true
  · rw [c2] at n2
    rw [c2, Bool.or_true, if_pos rfl]
    clear c1 c2 hx hy
    go_enter Try.func26, Try.ntmps26
    go_wp2_with fail
    go_returns
    exact ⟨⟨9221120237041090560, .inr ⟨rfl, by decide⟩, by omega, rfl⟩, Below.refl _ _⟩
  have c2 : nanN y = false := by simpa using c2
  rw [c2] at n2
  rw [c1, c2, Bool.or_false, if_neg (by simp)]
  have HL := Lib.hid (lesser_any x y hx)
  have HB := Lib.hid (lessF_lt x y hx hy)
  clear c1 c2 hx hy
  go_enter Try.func26, Try.ntmps26
  go_wp2_with fail
  refine (HL.out _).mono ?_
  rintro e w1 ⟨rfl, hw⟩
  obtain rfl := hw.symm
  clear hw
  go_wp2_with fail
  go_returns
  exact ⟨⟨_, .inl ⟨_, rfl, rfl⟩, HB.out, rfl⟩, Below.refl _ _⟩
theorem reckon_6 (hx : x < 18446744073709551616) (hy : y < 18446744073709551616) (w : World) : Calls Try.prog 26 #[.int .i64 6, .int .u64 x, .int .u64 y] w fun e w' => (∃ b : Nat, RawOk (rawF 6 x y) b ∧ b < 18446744073709551616 ∧ e = .returned (.int .u64 b)) ∧ Below w.heap.size w w' := by
  have hf := from_bits
  have ht := to_bits
  have n1 := nan_eq x
  have n2 := nan_eq y
  have e1 : rawF 6 x y = if nanN x || nanN y then none else some (negN (lessF (negN x) (negN y))) := by simp [rawF]
  rw [e1]
  clear e1
  by_cases c1 : nanN x = true
  · rw [c1] at n1
    rw [c1, Bool.true_or, if_pos rfl]
    clear c1 n2 hx hy
    go_enter Try.func26, Try.ntmps26
    go_wp2_with fail
    go_returns
    exact ⟨⟨9221120237041090560, .inr ⟨rfl, by decide⟩, by omega, rfl⟩, Below.refl _ _⟩
  have c1 : nanN x = false := by simpa using c1
  rw [c1] at n1
  by_cases c2 : nanN y = true
  · rw [c2] at n2
    rw [c2, Bool.or_true, if_pos rfl]
    clear c1 c2 hx hy
    go_enter Try.func26, Try.ntmps26
    go_wp2_with fail
    go_returns
    exact ⟨⟨9221120237041090560, .inr ⟨rfl, by decide⟩, by omega, rfl⟩, Below.refl _ _⟩
  have c2 : nanN y = false := by simpa using c2
  rw [c2] at n2
  rw [c1, c2, Bool.or_false, if_neg (by simp)]
  have s1 := xor_sign x hx
  have s2 := xor_sign y hy
  have HL := Lib.hid (lesser_any (negN x) (negN y) (negN_lt x))
  have hbl := lessF_lt (negN x) (negN y) (negN_lt x) (negN_lt y)
  have s3 := xor_sign (lessF (negN x) (negN y)) hbl
  clear c1 c2 hx hy hbl
  go_enter Try.func26, Try.ntmps26
  go_wp2_with fail
  refine (HL.out _).mono ?_
  rintro e w1 ⟨rfl, hw⟩
  obtain rfl := hw.symm
  clear hw
  go_wp2_with fail
  go_returns
  exact ⟨⟨_, .inl ⟨_, rfl, rfl⟩, negN_lt _, rfl⟩, Below.refl _ _⟩
/-- What is told. -/
def flagF (op : Int) (cx cy cb : Int) (sx sy : Bool) : Int :=
  if sx then 1 else if sy then 1 else if cb == 4 && !(cx == 4 || cy == 4) then 1
  else if op == 4 && cy == 0 && cb == 3 && cx != 3 then 2
  else if cb == 3 && cx != 3 && cy != 3 then 4 else 0
/-- The class of the result. -/
def clsO (o : Option Nat) : Int := match o with | some r => fcls r | none => 4
/-- The result's bits, one NaN. -/
def outF (o : Option Nat) : Nat := match o with | some r => if fcls r = 4 then 9221120237041090560 else r | none => 9221120237041090560
set_option maxHeartbeats 8000000 in
theorem do_core (op : Int) (ho : 1 ≤ op ∧ op ≤ 6) (hx : x < 18446744073709551616) (hy : y < 18446744073709551616) (hr : ∀ W, Calls Try.prog 26 #[.int .i64 op, .int .u64 x, .int .u64 y] W fun e w' => (∃ b : Nat, RawOk (rawF op x y) b ∧ b < 18446744073709551616 ∧ e = .returned (.int .u64 b)) ∧ Below W.heap.size W w') (w : World) :
    Calls Try.prog 16 #[.int .i64 op, .int .u64 x, .int .u64 y] w fun e w' => e = .returned (.tuple #[.int .u64 (outF (rawF op x y)), .int .i64 (flagF op (fcls x) (fcls y) (clsO (rawF op x y)) (sigB x) (sigB y)), .int .i64 0]) ∧ Below w.heap.size w w' := by
  have HR := Lib.hid hr
  have o7 : (op == 7) = false := beq_false_of_ne (by omega)
  have o8 : (op == 8) = false := beq_false_of_ne (by omega)
  have o1 : decide (op < 1) = false := decide_eq_false (by omega)
  have o6 : decide (6 < op) = false := decide_eq_false (by omega)
  generalize rawF op x y = R at HR ⊢
  have HCX := Lib.hid (class_any x hx)
  have HCY := Lib.hid (class_any y hy)
  have HSX := Lib.hid (signals_any x hx)
  have HSY := Lib.hid (signals_any y hy)
  clear hr ho
  go_enter Try.func16, Try.ntmps16
  go_wp2_with fail
  refine (HR.out _).mono ?_
  rintro e w1 ⟨⟨b, hb, hbl, rfl⟩, hB⟩
  have hco : fcls b = clsO R ∧ (fcls b ≠ 4 → outF R = b) ∧ (fcls b = 4 → outF R = 9221120237041090560) := by
    rcases hb with ⟨r, rfl, rfl⟩ | ⟨rfl, hn⟩
    · exact ⟨rfl, fun h => if_neg h, fun h => if_pos h⟩
    · have h4 := (cls_nan b).1 hn
      exact ⟨h4, fun h => absurd h4 h, fun _ => rfl⟩
  obtain ⟨h1, h2, h3⟩ := hco
  have HCB := Lib.hid (class_any b hbl)
  have H2 := Lib.hid h2
  have H3 := Lib.hid h3
  have H1 := Lib.hid h1
  clear HR h1 h2 h3 hb hbl hx hy
  go_wp2_with (first
    | (go_at_call 12; ((with_reducible refine (HCX.out _).mono ?_); rintro e w9 ⟨rfl, hw⟩; obtain rfl := hw.symm; clear hw))
    | (go_at_call 12; ((with_reducible refine (HCY.out _).mono ?_); rintro e w9 ⟨rfl, hw⟩; obtain rfl := hw.symm; clear hw))
    | (go_at_call 12; ((with_reducible refine (HCB.out _).mono ?_); rintro e w9 ⟨rfl, hw⟩; obtain rfl := hw.symm; clear hw))
    | (go_at_call 27; ((with_reducible refine (HSX.out _).mono ?_); rintro e w9 ⟨rfl, hw⟩; obtain rfl := hw.symm; clear hw))
    | (go_at_call 27; ((with_reducible refine (HSY.out _).mono ?_); rintro e w9 ⟨rfl, hw⟩; obtain rfl := hw.symm; clear hw)))
  all_goals
    go_returns
    refine ⟨ret_v ?_, hB⟩
    rw [← H1.out]
    first
      | rw [H3.out (by assumption)]
      | rw [H3.out (eq_of_beq (by assumption))]
      | rw [H2.out (ne_of_beq_false (by assumption))]
      | rw [H2.out (by assumption)]
      | rw [H2.out (by omega)]
      | rw [H3.out (by omega)]
    clear HCX HCY HCB HSX HSY H1 H2 H3 hB o7 o8 o1 o6
    simp_all [flagF]
end
end Go.Proofs.Ytbidpdgjlcmhhaa
