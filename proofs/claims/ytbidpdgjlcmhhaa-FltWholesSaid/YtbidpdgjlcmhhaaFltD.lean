/- The package flt (layer 2): signals, lesser, reckon, Do, told by the bits. No condition but that the words have 64 bits. -/
import Derived.Test.YtbidpdgjlcmhhaaFlt
import Derived.Laws.FloatArith
namespace Go.Proofs.Ytbidpdgjlcmhhaa
open Go.ChangeShapes Go.WideShapes Go.ChangeAt Go.RowKit
set_option linter.unusedVariables false
set_option linter.unusedSimpArgs false

/-- A number with its sign turned. -/
def negN (x : Nat) : Nat := (x + 9223372036854775808) % 18446744073709551616
theorem negN_lt (x : Nat) : negN x < 18446744073709551616 := by unfold negN; omega
theorem xor_sign (x : Nat) (hx : x < 18446744073709551616) : bits .xor .u64 (x : Int) 9223372036854775808 = (negN x : Int) := by
  have h := u64_xor_nat x 9223372036854775808 hx (by omega)
  rw [show ((9223372036854775808 : Nat) : Int) = 9223372036854775808 from rfl] at h
  rw [h]
  refine congrArg (Nat.cast : Nat → Int) ?_
  have h1 : (x ^^^ 9223372036854775808) % 9223372036854775808 = (x % 9223372036854775808) ^^^ (9223372036854775808 % 9223372036854775808) := Nat.xor_mod_two_pow (n := 63)
  have h2 : (x ^^^ 9223372036854775808) / 9223372036854775808 = (x / 9223372036854775808) ^^^ (9223372036854775808 / 9223372036854775808) := Nat.xor_div_two_pow (n := 63)
  rw [show 9223372036854775808 % 9223372036854775808 = 0 from rfl, Nat.xor_zero] at h1
  rw [show 9223372036854775808 / 9223372036854775808 = 1 from rfl] at h2
  have hq : x / 9223372036854775808 = 0 ∨ x / 9223372036854775808 = 1 := by omega
  unfold negN
  rcases hq with hq | hq
  · rw [hq, show (0 : Nat) ^^^ 1 = 1 from rfl] at h2; omega
  · rw [hq, show (1 : Nat) ^^^ 1 = 0 from rfl] at h2; omega
theorem cls_nan (x : Nat) : nanN x = true ↔ fcls x = 4 := by
  unfold nanN fcls clsR infR
  constructor
  · intro h
    have h' := of_decide_eq_true h
    rw [if_neg (by omega), if_neg (by omega), if_neg (by omega), if_neg (by omega)]
  · intro h
    apply decide_eq_true
    by_cases h1 : rg x = 0
    · rw [if_pos h1] at h; omega
    by_cases h2 : rg x < 4503599627370496
    · rw [if_neg h1, if_pos h2] at h; omega
    by_cases h3 : rg x < 9218868437227405312
    · rw [if_neg h1, if_neg h2, if_pos h3] at h; omega
    by_cases h4 : rg x = 9218868437227405312
    · rw [if_neg h1, if_neg h2, if_neg h3, if_pos h4] at h; omega
    omega
/-- Is it a NaN that tells of itself? -/
def sigB (x : Nat) : Bool := fcls x == 4 && x / 2251799813685248 % 2 == 0
section
variable (x y : Nat)
theorem signals_any (hx : x < 18446744073709551616) (w : World) : Calls Try.prog 27 #[.int .u64 x] w fun e w' => e = .returned (.bool (sigB x)) ∧ w' = w := by
  have HC := Lib.hid (class_any x hx)
  have hb : bits .and .u64 ((x : Int) / 2251799813685248) 1 = (((x / 2251799813685248 % 2 : Nat)) : Int) := by
    rw [and1 _ (by omega) (by omega)]; omega
  have hs : sigB x = (fcls x == 4 && x / 2251799813685248 % 2 == 0) := rfl
  rw [hs]
  by_cases c : fcls x = 4
  · have c4 : (fcls x == 4) = true := by simp [c]
    have hk : x / 2251799813685248 % 2 = 0 ∨ x / 2251799813685248 % 2 = 1 := by omega
    clear hs
    rcases hk with hk | hk
    all_goals
      rw [hk] at hb
      rw [c4, hk]
      rw [c] at HC
      clear c c4 hk
      go_enter Try.func27, Try.ntmps27
      go_wp2_with fail
      refine (HC.out _).mono ?_
      rintro e w1 ⟨rfl, hw⟩
      obtain rfl := hw.symm
      clear hw
      go_wp2_with fail
      go_returns
      exact ⟨rfl, rfl⟩
  · have c4 : (fcls x == 4) = false := beq_false_of_ne c
    rw [c4]
    clear hs c
    go_enter Try.func27, Try.ntmps27
    go_wp2_with fail
    refine (HC.out _).mono ?_
    rintro e w1 ⟨rfl, hw⟩
    obtain rfl := hw.symm
    clear hw
    go_wp2_with fail
    go_returns
    exact ⟨rfl, rfl⟩
/-- The lesser one; -0 is below 0. -/
def lessF (x y : Nat) : Nat := if fcmp x y < 0 then x else if fcmp x y = 0 then (if x / 9223372036854775808 = 1 then x else y) else y
theorem lessF_lt (hx : x < 18446744073709551616) (hy : y < 18446744073709551616) : lessF x y < 18446744073709551616 := by unfold lessF; (repeat' split) <;> assumption
theorem lesser_any (hx : x < 18446744073709551616) (w : World) : Calls Try.prog 31 #[.int .u64 x, .int .u64 y] w fun e w' => e = .returned (.int .u64 (lessF x y)) ∧ w' = w := by
  have HC := Lib.hid (compare_any x y)
  unfold lessF
  have hx2 : (x : Int) / 9223372036854775808 = ((x / 9223372036854775808 : Nat) : Int) := by omega
  by_cases c1 : fcmp x y < 0
  · rw [if_pos c1]
    have d1 : decide (fcmp x y < 0) = true := decide_eq_true c1
    clear c1
    go_enter Try.func31, Try.ntmps31
    go_wp2_with fail
    refine (HC.out _).mono ?_
    rintro e w1 ⟨rfl, hw⟩
    obtain rfl := hw.symm
    clear hw
    go_wp2_with fail
    go_returns
    exact ⟨rfl, rfl⟩
  · rw [if_neg c1]
    have d1 : decide (fcmp x y < 0) = false := decide_eq_false c1
    by_cases c2 : fcmp x y = 0
    · rw [if_pos c2]
      by_cases c3 : x / 9223372036854775808 = 1
      · rw [if_pos c3]
        have d3 : (x : Int) / 9223372036854775808 = 1 := by omega
        rw [c2] at HC
        clear c1 c2 c3 d1 hx2
        go_enter Try.func31, Try.ntmps31
        go_wp2_with fail
        refine (HC.out _).mono ?_
        rintro e w1 ⟨rfl, hw⟩
        obtain rfl := hw.symm
        clear hw
        go_wp2_with fail
        go_returns
        exact ⟨rfl, rfl⟩
      · rw [if_neg c3]
        have d3 : (x : Int) / 9223372036854775808 = 0 := by omega
        rw [c2] at HC
        clear c1 c2 c3 d1 hx2
        go_enter Try.func31, Try.ntmps31
        go_wp2_with fail
        refine (HC.out _).mono ?_
        rintro e w1 ⟨rfl, hw⟩
        obtain rfl := hw.symm
        clear hw
        go_wp2_with fail
        go_returns
        exact ⟨rfl, rfl⟩
    · rw [if_neg c2]
      have d2 : (fcmp x y == 0) = false := beq_false_of_ne c2
      clear c1 c2
      go_enter Try.func31, Try.ntmps31
      go_wp2_with fail
      refine (HC.out _).mono ?_
      rintro e w1 ⟨rfl, hw⟩
      obtain rfl := hw.symm
      clear hw
      go_wp2_with fail
      go_returns
      exact ⟨rfl, rfl⟩
end
/-- The result of two numbers; none: a NaN. -/
def rawF (op : Int) (x y : Nat) : Option Nat :=
  if op = 1 then Ieee.double.add x y else if op = 2 then Ieee.double.sub x y else if op = 3 then Ieee.double.mul x y else if op = 4 then Ieee.double.div x y else
  if nanN x || nanN y then none else if op = 5 then some (lessF x y) else some (negN (lessF (negN x) (negN y)))
def RawOk (o : Option Nat) (b : Nat) : Prop := (∃ r, o = some r ∧ b = r) ∨ (o = none ∧ nanN b = true)
/-- The bits of a NaN that the tape gives. -/
def tapeNaN (x y : Nat) (w : World) : Nat := (Question.nanBits .f64 x y).cut (w.tape w.drawn (.nanBits .f64 x y))
theorem tapeNaN_ok (x y : Nat) (w : World) : nanN (tapeNaN x y w) = true ∧ tapeNaN x y w < 18446744073709551616 := by
  unfold tapeNaN Question.cut nanN rg infR
  generalize w.tape w.drawn (.nanBits .f64 x y) = t
  have h1 : t % 2 < 2 := Nat.mod_lt _ (by omega)
  have h2 : t / 2 % 4503599627370495 < 4503599627370495 := Nat.mod_lt _ (by omega)
  simp only [show (2 : Nat) ^ 52 - 1 = 4503599627370495 from rfl, show (2 : Nat) ^ 63 = 9223372036854775808 from rfl]
  have hu : t % 2 = 0 ∨ t % 2 = 1 := by omega
  constructor
  · apply decide_eq_true
    rcases hu with hu | hu <;> rw [hu] <;> omega
  · omega
theorem run_nan (op : BinOp) (t : TypeId) (x y : Nat) (hop : op = .add ∨ op = .sub ∨ op = .mul ∨ op = .quo) (h : floatBits op .f64 x y = none) (w : World) :
    (binOp op t (.float .f64 x) (.float .f64 y)).run Try.prog w = .ok (.float .f64 (tapeNaN x y w)) w.drew := by
  rcases hop with rfl | rfl | rfl | rfl
  all_goals
    unfold floatBits at h
    simp only at h
    simp [binOp, Op.floatArith, h, Question.forced]
    rfl
end Go.Proofs.Ytbidpdgjlcmhhaa
