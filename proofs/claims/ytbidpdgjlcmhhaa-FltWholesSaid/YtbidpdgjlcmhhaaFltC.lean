/- The package flt (layer 2): Do at the six operations and at Neg; sums, products and the like from either side; plain laws. No condition but that the words have 64 bits. -/
import Derived.Test.YtbidpdgjlcmhhaaFltE
namespace Go.Proofs.Ytbidpdgjlcmhhaa
open Go.ChangeShapes Go.WideShapes Go.ChangeAt Go.RowKit
set_option linter.unusedVariables false
set_option linter.unusedSimpArgs false

abbrev doV (op : Int) (x y : Nat) : Value := .tuple #[.int .u64 (outF (rawF op x y)), .int .i64 (flagF op (fcls x) (fcls y) (clsO (rawF op x y)) (sigB x) (sigB y)), .int .i64 0]
theorem do_arith (op : Int) (ho : 1 ≤ op ∧ op ≤ 6) (x y : Nat) (hx : x < 18446744073709551616) (hy : y < 18446744073709551616) (w : World) :
    Calls Try.prog 16 #[.int .i64 op, .int .u64 x, .int .u64 y] w fun e w' => e = .returned (doV op x y) ∧ Below w.heap.size w w' := by
  refine do_core x y op ho hx hy ?_ w
  have h : op = 1 ∨ op = 2 ∨ op = 3 ∨ op = 4 ∨ op = 5 ∨ op = 6 := by omega
  rcases h with rfl | rfl | rfl | rfl | rfl | rfl
  · exact reckon_1 x y hx hy
  · exact reckon_2 x y hx hy
  · exact reckon_3 x y hx hy
  · exact reckon_4 x y hx hy
  · exact reckon_5 x y hx hy
  · exact reckon_6 x y hx hy
theorem do_neg (x : Nat) (y : Int) (hx : x < 18446744073709551616) (w : World) :
    Calls Try.prog 16 #[.int .i64 7, .int .u64 x, .int .u64 y] w fun e w' => e = .returned (.tuple #[.int .u64 (negN x), .int .i64 0, .int .i64 0]) ∧ Below w.heap.size w w' := by
  have hs := xor_sign x hx
  go_enter Try.func16, Try.ntmps16
  go_wp2_with fail
  go_returns
  exact ⟨rfl, Below.refl _ _⟩
theorem do_out (op x y : Int) (ho : op < 1 ∨ 8 < op) (w : World) : Calls Try.prog 16 #[.int .i64 op, .int .u64 x, .int .u64 y] w fun e w' => e = .returned (.tuple #[.int .u64 0, .int .i64 0, .int .i64 1]) ∧ Below w.heap.size w w' := by
  have h7 : (op == 7) = false := beq_false_of_ne (by omega)
  have h8 : (op == 8) = false := beq_false_of_ne (by omega)
  rcases ho with ho | ho
  · have h1 : decide (op < 1) = true := decide_eq_true ho
    clear ho
    go_enter Try.func16, Try.ntmps16
    go_wp2_with fail
    go_returns
    exact ⟨rfl, Below.refl _ _⟩
  · have h1 : decide (op < 1) = false := decide_eq_false (by omega)
    have h2 : decide (6 < op) = true := decide_eq_true (by omega)
    clear ho
    go_enter Try.func16, Try.ntmps16
    go_wp2_with fail
    go_returns
    exact ⟨rfl, Below.refl _ _⟩
theorem do_abs (x : Nat) (y : Int) (hx : x < 18446744073709551616) (w : World) : Calls Try.prog 16 #[.int .i64 8, .int .u64 x, .int .u64 y] w fun e w' => e = .returned (.tuple #[.int .u64 (rg x), .int .i64 0, .int .i64 0]) ∧ Below w.heap.size w w' := by
  have h3 : bits .andNot .u64 (x : Int) 9223372036854775808 = (rg x : Int) := by
    have h := u64_andNot_nat x 9223372036854775808 hx (by omega)
    rw [show ((9223372036854775808 : Nat) : Int) = 9223372036854775808 from rfl] at h
    rw [h, show 18446744073709551615 - 9223372036854775808 = 2 ^ 63 - 1 from rfl, Nat.and_two_pow_sub_one_eq_mod]
    rfl
  go_enter Try.func16, Try.ntmps16
  go_wp2_with fail
  go_returns
  exact ⟨rfl, Below.refl _ _⟩
/-! ### plain -/
theorem sum_comm (a b : Ieee.Datum) : a.sum b = b.sum a := by
  cases a with
  | number s m i =>
    cases b with
    | number t n j =>
      simp only [Ieee.Datum.sum]
      rw [Int.min_comm j i, Int.add_comm (Ieee.signed t n _), Bool.and_comm t s]
    | infinity t => rfl
    | nan t f => rfl
  | infinity s =>
    cases b with
    | number t n j => rfl
    | infinity t =>
      simp only [Ieee.Datum.sum]
      by_cases h : s = t
      · subst h; rfl
      · rw [if_neg h, if_neg (fun e => h e.symm)]
    | nan t f => rfl
  | nan s f => cases b <;> rfl
theorem product_comm (a b : Ieee.Datum) : a.product b = b.product a := by
  cases a with
  | number s m i =>
    cases b with
    | number t n j =>
      simp only [Ieee.Datum.product]
      rw [Bool.xor_comm t s, Nat.mul_comm n m, Int.add_comm j i]
    | infinity t => rfl
    | nan t f => rfl
  | infinity s =>
    cases b with
    | number t n j => rfl
    | infinity t => simp only [Ieee.Datum.product]; rw [Bool.xor_comm t s]
    | nan t f => rfl
  | nan s f => cases b <;> rfl
theorem word_eq {x y : Nat} (hx : x < 18446744073709551616) (hy : y < 18446744073709551616) (h : keyN x = keyN y) (hs : x / 9223372036854775808 = y / 9223372036854775808) : x = y := by
  have e1 : sg x = sg y := by unfold sg; rw [hs]
  unfold keyN skey at h
  rw [e1] at h
  have : rg x = rg y := by split at h <;> omega
  unfold rg at this; omega
theorem lessF_comm {x y : Nat} (hx : x < 18446744073709551616) (hy : y < 18446744073709551616) (h1 : nanN x = false) (h2 : nanN y = false) : lessF x y = lessF y x := by
  unfold lessF fcmp
  rw [h1, h2]
  simp only [Bool.or_self, Bool.false_eq_true, if_false]
  by_cases c1 : keyN x < keyN y
  · rw [if_pos c1, if_neg (show ¬ keyN y < keyN x by omega), if_pos c1]; simp
  · by_cases c2 : keyN y < keyN x
    · rw [if_neg c1, if_pos c2, if_pos c2]; simp
    · rw [if_neg c1, if_neg c2]
      simp only [if_neg c2, if_neg c1, Int.lt_irrefl, if_false, if_true]
      have hk : keyN x = keyN y := by omega
      by_cases c3 : x / 9223372036854775808 = 1
      · by_cases c4 : y / 9223372036854775808 = 1
        · rw [if_pos c3, if_pos c4]; exact word_eq hx hy hk (by omega)
        · rw [if_pos c3, if_neg c4]
      · by_cases c4 : y / 9223372036854775808 = 1
        · rw [if_neg c3, if_pos c4]
        · rw [if_neg c3, if_neg c4]; exact (word_eq hx hy hk (by omega)).symm
theorem rg_neg (x : Nat) : rg (negN x) = rg x := by unfold rg negN; omega
theorem sg_neg (x : Nat) (hx : x < 18446744073709551616) : sg (negN x) = !sg x := by
  have h : x / 9223372036854775808 % 2 = 0 ∧ negN x / 9223372036854775808 % 2 = 1 ∨ x / 9223372036854775808 % 2 = 1 ∧ negN x / 9223372036854775808 % 2 = 0 := by unfold negN; omega
  unfold sg
  rcases h with ⟨h1, h2⟩ | ⟨h1, h2⟩ <;> rw [h1, h2] <;> rfl
theorem nan_neg (x : Nat) : nanN (negN x) = nanN x := by unfold nanN; rw [rg_neg]
theorem cls_neg (x : Nat) : fcls (negN x) = fcls x := by unfold fcls; rw [rg_neg]
theorem sig_neg (x : Nat) (hx : x < 18446744073709551616) : sigB (negN x) = sigB x := by
  have h : negN x / 2251799813685248 % 2 = x / 2251799813685248 % 2 := by unfold negN; omega
  unfold sigB; rw [cls_neg, h]
theorem neg_neg_ (x : Nat) (hx : x < 18446744073709551616) : negN (negN x) = x := by unfold negN; omega
theorem read_neg (x : Nat) (hx : x < 18446744073709551616) : Ieee.double.read (negN x) = (Ieee.double.read x).opposite := by
  rw [read_any, read_any, rg_neg, sg_neg x hx]
  by_cases h1 : rg x < infR
  · rw [if_pos h1, if_pos h1]; rfl
  · rw [if_neg h1, if_neg h1]
    by_cases h2 : rg x = infR
    · rw [if_pos h2, if_pos h2]; rfl
    · rw [if_neg h2, if_neg h2]; rfl
theorem raw_sub (x y : Nat) (hy : y < 18446744073709551616) : rawF 2 x y = rawF 1 x (negN y) := by
  show Ieee.double.sub x y = Ieee.double.add x (negN y)
  unfold Ieee.Format.sub Ieee.Format.add
  rw [read_neg y hy]
theorem raw_comm (op : Int) (ho : op = 1 ∨ op = 3 ∨ op = 5 ∨ op = 6) (x y : Nat) (hx : x < 18446744073709551616) (hy : y < 18446744073709551616) : rawF op x y = rawF op y x := by
  have hn : (nanN y || nanN x) = (nanN x || nanN y) := Bool.or_comm _ _
  rcases ho with rfl | rfl | rfl | rfl
  · show (Ieee.Datum.sum _ _).map _ = _
    rw [sum_comm]; rfl
  · show (Ieee.Datum.product _ _).map _ = _
    rw [product_comm]; rfl
  · show (if nanN x || nanN y then none else some (lessF x y)) = (if nanN y || nanN x then none else some (lessF y x))
    rw [hn]
    by_cases h : (nanN x || nanN y) = true
    · rw [if_pos h, if_pos h]
    · have h' : nanN x = false ∧ nanN y = false := by simpa using h
      rw [if_neg h, if_neg h, lessF_comm hx hy h'.1 h'.2]
  · show (if nanN x || nanN y then none else some (negN (lessF (negN x) (negN y)))) = (if nanN y || nanN x then none else some (negN (lessF (negN y) (negN x))))
    rw [hn]
    by_cases h : (nanN x || nanN y) = true
    · rw [if_pos h, if_pos h]
    · have h' : nanN x = false ∧ nanN y = false := by simpa using h
      rw [if_neg h, if_neg h, lessF_comm (negN_lt x) (negN_lt y) (by rw [nan_neg]; exact h'.1) (by rw [nan_neg]; exact h'.2)]
theorem flag_comm (op cx cy cb : Int) (sx sy : Bool) (ho : op ≠ 4) : flagF op cx cy cb sx sy = flagF op cy cx cb sy sx := by
  have h4 : (op == 4) = false := beq_false_of_ne ho
  unfold flagF
  rw [h4]
  cases sx <;> cases sy <;> simp [Bool.or_comm]
  by_cases hb : cb = 3 <;> by_cases h1 : cx = 3 <;> by_cases h2 : cy = 3 <;> simp [hb, h1, h2]
theorem flag_12 (cx cy cb : Int) (sx sy : Bool) : flagF 2 cx cy cb sx sy = flagF 1 cx cy cb sx sy := rfl
theorem do_comm (op : Int) (ho : op = 1 ∨ op = 3 ∨ op = 5 ∨ op = 6) (x y : Nat) (hx : x < 18446744073709551616) (hy : y < 18446744073709551616) : doV op y x = doV op x y := by
  unfold doV
  rw [raw_comm op ho y x hy hx, flag_comm op (fcls y) (fcls x) _ (sigB y) (sigB x) (by omega)]
theorem do_sub (x y : Nat) (hy : y < 18446744073709551616) : doV 1 x (negN y) = doV 2 x y := by
  unfold doV
  rw [raw_sub x y hy, cls_neg, sig_neg y hy, flag_12]
end Go.Proofs.Ytbidpdgjlcmhhaa
