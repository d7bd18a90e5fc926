/- The package flt (layer 2): Class, Compare, told by the bits. No condition but that the words have 64 bits. -/
import Derived.Test.YtbidpdgjlcmhhaaOrd
import Derived.Laws.Externs
import Derived.Lib.Hide
namespace Go.Proofs.Ytbidpdgjlcmhhaa
open Go.ChangeShapes Go.WideShapes Go.ChangeAt Go.RowKit
set_option linter.unusedVariables false
set_option linter.unusedSimpArgs false

theorem from_bits (x : Int) (w : World) : (callFunc 22 #[.int .u64 x]).run Try.prog w = .ok (.value (.float .f64 x.toNat)) w := by
  rw [run_callFunc_extern (e := Extern.MathFloatBits.float64frombits) Try.func22 (by kernel_rfl) (by kernel_rfl) (by kernel_rfl) (by kernel_rfl)]
  rfl
theorem to_bits (b : Nat) (w : World) : (callFunc 28 #[.float .f64 b]).run Try.prog w = .ok (.value (.int .u64 b)) w := by
  rw [run_callFunc_extern (e := Extern.MathFloatBits.float64bits) Try.func28 (by kernel_rfl) (by kernel_rfl) (by kernel_rfl) (by kernel_rfl)]
  rfl
theorem fmt64 : FloatKind.f64.format = Ieee.double := rfl
theorem order64 (x y : Nat) : FloatKind.f64.format.order x y = if nanN x || nanN y then none else some (compare (keyN x) (keyN y)) := order_any x y
theorem cmp_self (a : Int) : compare a a = .eq := by simp [compare, compareOfLessAndEq]
theorem nan_eq (x : Nat) : (FloatKind.f64.format.order x x != some Ordering.eq) = nanN x := by
  rw [order64, cmp_self]
  cases nanN x <;> rfl
theorem rg_rg (x : Nat) : rg (rg x) = rg x := by unfold rg; omega
theorem sg_rg (x : Nat) : sg (rg x) = false := by
  have h : rg x / 9223372036854775808 % 2 = 0 := by unfold rg; omega
  unfold sg; rw [h]; rfl
theorem rg_lt (x : Nat) : rg x < 9223372036854775808 := by unfold rg; omega
theorem cmp_gt (a b : Int) : (some (compare a b) == some Ordering.gt) = decide (b < a) := by
  simp only [compare, compareOfLessAndEq]
  by_cases h1 : a < b
  · rw [if_pos h1, decide_eq_false (by omega)]; rfl
  · rw [if_neg h1]
    by_cases h2 : a = b
    · rw [if_pos h2, decide_eq_false (by omega)]; rfl
    · rw [if_neg h2, decide_eq_true (by omega)]; rfl
theorem cmp_lt (a b : Int) : (some (compare a b) == some Ordering.lt) = decide (a < b) := by
  simp only [compare, compareOfLessAndEq]
  by_cases h1 : a < b
  · rw [if_pos h1, decide_eq_true h1]; rfl
  · rw [if_neg h1, decide_eq_false h1]
    by_cases h2 : a = b
    · rw [if_pos h2]; rfl
    · rw [if_neg h2]; rfl
theorem cmp_eq (a b : Int) : (some (compare a b) == some Ordering.eq) = decide (a = b) := by
  simp only [compare, compareOfLessAndEq]
  by_cases h1 : a < b
  · rw [if_pos h1, decide_eq_false (by omega)]; rfl
  · rw [if_neg h1]
    by_cases h2 : a = b
    · rw [if_pos h2, decide_eq_true h2]; rfl
    · rw [if_neg h2, decide_eq_false h2]; rfl
theorem inf_eq (x : Nat) : (FloatKind.f64.format.order (rg x) 9218868437227405311 == some Ordering.gt) = decide (rg x = infR) := by
  rw [order64]
  have h1 : nanN 9218868437227405311 = false := by decide
  have h2 : keyN 9218868437227405311 = 9218868437227405311 := by decide
  have h3 : keyN (rg x) = rg x := by unfold keyN skey; rw [sg_rg, rg_rg]; rfl
  have h4 : nanN (rg x) = decide (infR < rg x) := by unfold nanN; rw [rg_rg]
  rw [h1, h2, h3, h4]
  unfold infR
  by_cases h : 9218868437227405312 < rg x
  · rw [decide_eq_true h, decide_eq_false (by omega)]; rfl
  · rw [decide_eq_false h]
    simp only [Bool.or_self, Bool.false_eq_true, if_false]
    rw [cmp_gt]
    by_cases h5 : rg x = 9218868437227405312
    · rw [decide_eq_true h5, decide_eq_true (by omega)]
    · rw [decide_eq_false h5, decide_eq_false (by omega)]
theorem key_zero (x : Nat) : keyN x = 0 ↔ rg x = 0 := by
  unfold keyN skey
  split <;> omega
theorem zero_eq (x : Nat) : (FloatKind.f64.format.order x 0 == some Ordering.eq) = decide (rg x = 0) := by
  rw [order64]
  have h1 : nanN 0 = false := by decide
  have h2 : keyN 0 = 0 := by decide
  rw [h1, h2]
  by_cases h : nanN x = true
  · rw [h]
    have : infR < rg x := by simpa [nanN] using h
    rw [decide_eq_false (by unfold infR at this; omega)]; rfl
  · rw [show nanN x = false by simpa using h]
    simp only [Bool.or_self, Bool.false_eq_true, if_false]
    rw [cmp_eq]
    simp only [key_zero]
theorem exp_bits (x : Nat) (hx : x < 18446744073709551616) : bits .and .u64 ((x : Int) / 4503599627370496) 2047 = (((x / 4503599627370496 % 2048 : Nat)) : Int) := by
  have h := and_mask 11 (by omega) ((x : Int) / 4503599627370496) (by omega) (by omega)
  rw [show ((2 ^ 11 - 1 : Nat) : Int) = 2047 from rfl] at h
  rw [h]; omega
/-- A number's class. -/
def fcls (x : Nat) : Int := clsR (rg x)
section
variable (x y : Nat)
theorem isnan_any (w : World) : Calls Try.prog 23 #[.float .f64 x] w fun e w' => e = .returned (.bool (nanN x)) ∧ w' = w := by
  have h := nan_eq x
  go_enter Try.func23, Try.ntmps23
  go_wp2
  go_returns
  exact ⟨rfl, rfl⟩
theorem abs_any (hx : x < 18446744073709551616) (w : World) : Calls Try.prog 30 #[.float .f64 x] w fun e w' => e = .returned (.float .f64 (rg x)) ∧ w' = w := by
  have h1 := to_bits
  have h2 := from_bits
  have h3 : bits .andNot .u64 (x : Int) 9223372036854775808 = (rg x : Int) := by
    have h := u64_andNot_nat x 9223372036854775808 hx (by omega)
    rw [show ((9223372036854775808 : Nat) : Int) = 9223372036854775808 from rfl] at h
    rw [h, show 18446744073709551615 - 9223372036854775808 = 2 ^ 63 - 1 from rfl, Nat.and_two_pow_sub_one_eq_mod]
    rfl
  go_enter Try.func30, Try.ntmps30
  go_wp2
  go_returns
  exact ⟨rfl, rfl⟩
theorem isinf_any (hx : x < 18446744073709551616) (w : World) : Calls Try.prog 24 #[.float .f64 x, .int .i64 0] w fun e w' => e = .returned (.bool (decide (rg x = infR))) ∧ w' = w := by
  have h := inf_eq x
  have HA := Lib.hid (abs_any x hx)
  go_enter Try.func24, Try.ntmps24
  go_wp2_with fail
  refine (HA.out _).mono ?_
  rintro e w1 ⟨rfl, hw⟩
  obtain rfl := hw.symm
  clear hw
  go_wp2_with fail
  go_returns
  exact ⟨rfl, rfl⟩
theorem class_any (hx : x < 18446744073709551616) (w : World) : Calls Try.prog 12 #[.int .u64 x] w fun e w' => e = .returned (.int .i64 (fcls x)) ∧ w' = w := by
  have hf := from_bits
  have HN := Lib.hid (isnan_any x)
  have HI := Lib.hid (isinf_any x hx)
  have hz := zero_eq x
  have he := exp_bits x hx
  have hsub : (x / 4503599627370496 % 2048 = 0) ↔ rg x < 4503599627370496 := by unfold rg; omega
  have hl := rg_lt x
  by_cases c4 : infR < rg x
  · have e4 : fcls x = 4 := by unfold fcls clsR; unfold infR at *; rw [if_neg (by omega), if_neg (by omega), if_neg (by omega), if_neg (by omega)]
    rw [e4]
    rw [show nanN x = true from decide_eq_true c4] at HN
    clear hz he hsub hl c4 e4 hx
    go_enter Try.func12, Try.ntmps12
    go_wp2_with fail
    refine (HN.out _).mono ?_
    rintro e w1 ⟨rfl, hw⟩
    obtain rfl := hw.symm
    clear hw
    go_wp2_with fail
    go_returns
    exact ⟨rfl, rfl⟩
  rw [show nanN x = false from decide_eq_false c4] at HN
  by_cases c3 : rg x = infR
  · have e4 : fcls x = 3 := by unfold fcls clsR; unfold infR at *; rw [if_neg (by omega), if_neg (by omega), if_neg (by omega), if_pos c3]
    rw [e4]
    rw [decide_eq_true c3] at HI
    clear hz he hsub hl c4 e4 hx c3
    go_enter Try.func12, Try.ntmps12
    go_wp2_with fail
    refine (HN.out _).mono ?_
    rintro e w1 ⟨rfl, hw⟩
    obtain rfl := hw.symm
    clear hw
    go_wp2_with fail
    refine (HI.out _).mono ?_
    rintro e w1 ⟨rfl, hw⟩
    obtain rfl := hw.symm
    clear hw
    go_wp2_with fail
    go_returns
    exact ⟨rfl, rfl⟩
  rw [decide_eq_false c3] at HI
  by_cases c0 : rg x = 0
  · have e4 : fcls x = 0 := by unfold fcls clsR; rw [if_pos c0]
    rw [e4]
    rw [decide_eq_true c0] at hz
    clear he hsub hl c4 e4 hx c3 c0
    go_enter Try.func12, Try.ntmps12
    go_wp2_with fail
    refine (HN.out _).mono ?_
    rintro e w1 ⟨rfl, hw⟩
    obtain rfl := hw.symm
    clear hw
    go_wp2_with fail
    refine (HI.out _).mono ?_
    rintro e w1 ⟨rfl, hw⟩
    obtain rfl := hw.symm
    clear hw
    go_wp2_with fail
    go_returns
    exact ⟨rfl, rfl⟩
  rw [decide_eq_false c0] at hz
  by_cases c1 : rg x < 4503599627370496
  · have e4 : fcls x = 1 := by unfold fcls clsR; rw [if_neg c0, if_pos c1]
    rw [e4]
    rw [hsub.2 c1] at he
    clear hsub hl c4 e4 c3 c0 c1
    go_enter Try.func12, Try.ntmps12
    go_wp2_with fail
    refine (HN.out _).mono ?_
    rintro e w1 ⟨rfl, hw⟩
    obtain rfl := hw.symm
    clear hw
    go_wp2_with fail
    refine (HI.out _).mono ?_
    rintro e w1 ⟨rfl, hw⟩
    obtain rfl := hw.symm
    clear hw
    go_wp2_with fail
    go_returns
    exact ⟨rfl, rfl⟩
  · have e4 : fcls x = 2 := by unfold fcls clsR; rw [if_neg c0, if_neg c1, if_pos (by omega)]
    rw [e4]
    have he2 : (((x / 4503599627370496 % 2048 : Nat) : Int) == 0) = false := beq_false_of_ne (fun e => c1 (hsub.1 (by omega)))
    generalize x / 4503599627370496 % 2048 = n at he he2
    clear hsub hl c4 e4 c3 c0 c1
    go_enter Try.func12, Try.ntmps12
    go_wp2_with fail
    refine (HN.out _).mono ?_
    rintro e w1 ⟨rfl, hw⟩
    obtain rfl := hw.symm
    clear hw
    go_wp2_with fail
    refine (HI.out _).mono ?_
    rintro e w1 ⟨rfl, hw⟩
    obtain rfl := hw.symm
    clear hw
    go_wp2_with fail
    go_returns
    exact ⟨rfl, rfl⟩
/-- How two numbers stand: 2 where one is none. -/
def fcmp (x y : Nat) : Int := if nanN x || nanN y then 2 else if keyN x < keyN y then -1 else if keyN y < keyN x then 1 else 0
theorem compare_any (w : World) : Calls Try.prog 14 #[.int .u64 x, .int .u64 y] w fun e w' => e = .returned (.int .i64 (fcmp x y)) ∧ w' = w := by
  have hf := from_bits
  by_cases hn : (nanN x || nanN y) = true
  · have ho : FloatKind.f64.format.order x y = none := by rw [order64, if_pos hn]
    have e4 : fcmp x y = 2 := by unfold fcmp; rw [if_pos hn]
    rw [e4]
    clear hn e4
    go_enter Try.func14, Try.ntmps14
    go_wp2_with fail
    go_returns
    exact ⟨rfl, rfl⟩
  · have ho : FloatKind.f64.format.order x y = some (compare (keyN x) (keyN y)) := by rw [order64, if_neg hn]
    have hlt := cmp_lt (keyN x) (keyN y)
    have hgt := cmp_gt (keyN x) (keyN y)
    have heq := cmp_eq (keyN x) (keyN y)
    unfold fcmp
    rw [if_neg hn]
    clear hn
    rw [← ho] at hlt hgt heq
    clear ho
    by_cases c1 : keyN x < keyN y
    · rw [if_pos c1]
      rw [decide_eq_true c1] at hlt
      clear c1 hgt heq
      go_enter Try.func14, Try.ntmps14
      go_wp2_with fail
      go_returns
      exact ⟨rfl, rfl⟩
    · rw [if_neg c1]
      rw [decide_eq_false c1] at hlt
      by_cases c2 : keyN y < keyN x
      · rw [if_pos c2]
        rw [decide_eq_true c2] at hgt
        clear c1 c2 heq
        go_enter Try.func14, Try.ntmps14
        go_wp2_with fail
        go_returns
        exact ⟨rfl, rfl⟩
      · rw [if_neg c2]
        rw [decide_eq_false c2] at hgt
        rw [decide_eq_true (by omega)] at heq
        clear c1 c2
        go_enter Try.func14, Try.ntmps14
        go_wp2_with fail
        go_returns
        exact ⟨rfl, rfl⟩
end
end Go.Proofs.Ytbidpdgjlcmhhaa
