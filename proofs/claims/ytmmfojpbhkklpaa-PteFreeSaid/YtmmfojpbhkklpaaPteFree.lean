/- PteFree: the law returns true at every number, entry and level. No condition. -/
import Derived.Test.YtmmfojpbhkklpaaPteC

namespace Go.Proofs.Ytmmfojpbhkklpaa
open Go.ChangeShapes Go.WideShapes Go.ChangeAt Go.RowKit
set_option linter.unusedVariables false
set_option linter.unusedSimpArgs false

theorem andNot1 (x : Int) (h0 : 0 ≤ x) (h1 : x < 18446744073709551616) : bits .andNot .u64 x 1 = x - x % 2 := by
  obtain ⟨y, rfl⟩ := Int.eq_ofNat_of_zero_le h0
  rw [u64_andNot _ _ h0 h1 (by omega) (by omega), Int.toNat_natCast, show 18446744073709551615 - (1 : Int).toNat = 18446744073709551614 from rfl]
  have a1 : (y &&& 18446744073709551614) % 2 = (y % 2) &&& 0 := Nat.and_mod_two_pow (n := 1)
  have a2 : (y &&& 18446744073709551614) / 2 = (y / 2) &&& 9223372036854775807 := Nat.and_div_two_pow (n := 1)
  have a3 : (y / 2) &&& 9223372036854775807 = y / 2 % 2 ^ 63 := Nat.and_two_pow_sub_one_eq_mod (y / 2) 63
  rw [Nat.and_zero] at a1
  rw [a3, Nat.mod_eq_of_lt (by omega)] at a2
  generalize y &&& 18446744073709551614 = z at *
  omega
theorem resv_even (x l : Int) (h : x % 2 = 0) : resv x l = false := by simp [resv, h]
theorem resv_pk (p q u a d g n : Bool) (fr l : Int) (h0 : 0 ≤ fr) (h1 : fr < 1048576) : resv (pk p q u a d false g n fr 8) l = false := by
  have := bi_bd p; have := bi_bd q; have := bi_bd u; have := bi_bd a; have := bi_bd d; have := bi_bd g; have := bi_bd n
  have e1 : pk p q u a d false g n fr 8 / 4294967296 % 1048576 = 0 := by simp only [pk, bi_false]; omega
  have e2 : pk p q u a d false g n fr 8 / 128 % 2 = 0 := by simp only [pk, bi_false]; omega
  unfold resv
  rw [e1, e2]
  simp

set_option maxHeartbeats 1000000 in
theorem free_ok (x : Int) (p q u a d l g n : Bool) (fr i : Int) (f0 : 0 ≤ fr) (f1 : fr < 1048576) (h0 : 0 ≤ x) (h1 : x < 18446744073709551616) (w : World) :
    Calls Try.prog 9 #[.int .u64 x, .agg #[.bool p, .bool q, .bool u, .bool a, .bool d, .bool l, .bool g, .bool n, .int .i64 fr], .int .i64 i] w fun e w' => e = .returned (.bool true) ∧ Below w.heap.size w w' := by
  have e1 := andNot1 x h0 h1
  have b := pk_bd p q u a d false g n fr f0 f1
  obtain ⟨b0, b1⟩ := b
  go_enter Try.func9, Try.ntmps9
  go_wp2_with fail
  refine (pack_ok _ _ _ _ _ _ _ _ _ f0 f1 _).mono ?_; rintro e w1 ⟨rfl, hb1⟩
  have hB1 : Below w.heap.size w w1 := b_then (by go_grown) hb1
  clear hb1
  go_wp2_with fail
  refine (awake_any _).mono ?_; rintro e w2 ⟨rfl, hb2⟩
  have hB2 := b_then hB1 hb2
  go_wp2_with fail
  refine (reserved_any _ _ (by omega) (by omega) _).mono ?_; rintro e w' ⟨rfl, rfl⟩
  rw [resv_even _ _ (by omega)]
  go_wp2_with fail
  refine (reserved_any _ _ b0 b1 _).mono ?_; rintro e w' ⟨rfl, rfl⟩
  rw [resv_pk _ _ _ _ _ _ _ _ _ f0 f1]
  go_wp2
  go_returns
  exact ⟨ret_v (by simp), hB2⟩
set_option maxHeartbeats 1000000 in
theorem free_err (x : Int) (p q u a d l g n : Bool) (fr i : Int) (f0 : fr < 0 ∨ 1048576 ≤ fr) (h0 : 0 ≤ x) (h1 : x < 18446744073709551616) (w : World) :
    Calls Try.prog 9 #[.int .u64 x, .agg #[.bool p, .bool q, .bool u, .bool a, .bool d, .bool l, .bool g, .bool n, .int .i64 fr], .int .i64 i] w fun e w' => e = .returned (.bool true) ∧ Below w.heap.size w w' := by
  have e1 := andNot1 x h0 h1
  have F0 := Lib.hid f0; clear f0
  go_enter Try.func9, Try.ntmps9
  go_wp2_with fail
  refine (pack_err _ _ _ _ _ _ _ _ _ F0.out _).mono ?_; rintro e w1 ⟨rfl, hb1⟩
  have hB1 : Below w.heap.size w w1 := b_then (by go_grown) hb1
  clear hb1
  go_wp2_with fail
  refine (awake_any _).mono ?_; rintro e w2 ⟨rfl, hb2⟩
  have hB2 := b_then hB1 hb2
  go_wp2_with fail
  refine (reserved_any _ _ (by omega) (by omega) _).mono ?_; rintro e w' ⟨rfl, rfl⟩
  rw [resv_even _ _ (by omega)]
  go_wp2
  go_returns
  exact ⟨ret_v (by simp), hB2⟩
theorem walk_PteFree (a0 : Int) (a1_0 : Bool) (a1_1 : Bool) (a1_2 : Bool) (a1_3 : Bool) (a1_4 : Bool) (a1_5 : Bool) (a1_6 : Bool) (a1_7 : Bool) (a1_8 : Int) (a2 : Int) (w : World) (w0 : (Lit.int .u64 a0).wf = true) (w1_8 : (Lit.int .i64 a1_8).wf = true) (w2 : (Lit.int .i64 a2).wf = true) :
    Calls Try.prog 9 #[.int .u64 a0, .agg #[.bool a1_0, .bool a1_1, .bool a1_2, .bool a1_3, .bool a1_4, .bool a1_5, .bool a1_6, .bool a1_7, .int .i64 a1_8], .int .i64 a2] w fun e w' => e = .returned (.bool true) ∧ Below w.heap.size w w' := by
  obtain ⟨h0, h1⟩ := bounds_u64 w0
  by_cases c0 : a1_8 < 0 ∨ 1048576 ≤ a1_8
  · exact free_err _ _ _ _ _ _ _ _ _ _ _ c0 h0 (by omega) w
  exact free_ok _ _ _ _ _ _ _ _ _ _ _ (by omega) (by omega) h0 (by omega) w
end Go.Proofs.Ytmmfojpbhkklpaa
