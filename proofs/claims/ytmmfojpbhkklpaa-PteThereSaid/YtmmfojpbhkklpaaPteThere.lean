/- PteThere: the law returns true at every address, places and offset: canonical addresses are put together of their parts. No condition. -/
import Derived.Test.YtmmfojpbhkklpaaPteC

namespace Go.Proofs.Ytmmfojpbhkklpaa
open Go.ChangeShapes Go.WideShapes Go.ChangeAt Go.RowKit
set_option linter.unusedVariables false
set_option linter.unusedSimpArgs false
theorem eqArr4 (d : Nat) (w : World) (a b c e a' b' c' e' : Int) : (Op.equalIn (d + 2) 23 (.agg #[.int .i64 a, .int .i64 b, .int .i64 c, .int .i64 e]) (.agg #[.int .i64 a', .int .i64 b', .int .i64 c', .int .i64 e'])).run Try.prog w
    = .ok (a == a' && (b == b' && (c == c' && e == e'))) w := by
  obtain ⟨i, hi⟩ := infoI
  have hc : Try.prog.cellsOf 3 = 1 := by kernel_rfl
  rw [run_equalIn_array (i := i) w (d + 1) _ _ Try.underlying23 hi]
  rw [show List.range 4 = [0, 1, 2, 3] from rfl, hc]
  simp only [Op.eqItems]
  go_simp
  by_cases h1 : a = a' <;> by_cases h2 : b = b' <;> by_cases h3 : c = c' <;> by_cases h4 : e = e' <;> simp [h1, h2, h3, h4]
attribute [local go_sem] eqArr4
theorem joinB_parts (x : Int) (h0 : 0 ≤ x) (h1 : x < 18446744073709551616) : joinB (x / 549755813888 % 512) (x / 1073741824 % 512) (x / 2097152 % 512) (x / 4096 % 512) (x % 4096) = x % 281474976710656 := by
  have e1 : x / 2097152 = x / 4096 / 512 := by omega
  have e2 : x / 1073741824 = x / 2097152 / 512 := by omega
  have e3 : x / 549755813888 = x / 1073741824 / 512 := by omega
  have e4 : x % 281474976710656 = x % 4096 + 4096 * (x / 4096 % 68719476736) := by omega
  unfold joinB
  rw [e4, e3, e2, e1]
  generalize x / 4096 = p
  omega
theorem join_self (x : Int) (h0 : 0 ≤ x) (h1 : x < 18446744073709551616) : (joinV (x / 549755813888 % 512) (x / 1073741824 % 512) (x / 2097152 % 512) (x / 4096 % 512) (x % 4096) == x) = canon x ∧
    IntKind.u64.wrap (joinV (x / 549755813888 % 512) (x / 1073741824 % 512) (x / 2097152 % 512) (x / 4096 % 512) (x % 4096) * 65536) = IntKind.u64.wrap (x * 65536) := by
  unfold joinV
  rw [joinB_parts x h0 h1]
  have ha : x / 549755813888 % 512 = x % 281474976710656 / 549755813888 := by omega
  rw [ha]
  unfold canon
  constructor
  · rw [Bool.eq_iff_iff]
    simp only [beq_iff_eq, Bool.or_eq_true]
    split <;> omega
  · rw [IntKind.wrap_u64, IntKind.wrap_u64]
    split <;> omega
theorem joinV_bd (a b c d off : Int) (a0 : 0 ≤ a) (a1 : a ≤ 511) (b0 : 0 ≤ b) (b1 : b ≤ 511) (c0 : 0 ≤ c) (c1 : c ≤ 511) (d0 : 0 ≤ d) (d1 : d ≤ 511) (o0 : 0 ≤ off) (o1 : off ≤ 4095) : 0 ≤ joinV a b c d off ∧ joinV a b c d off < 18446744073709551616 := by
  unfold joinV joinB; split <;> omega
theorem split_join (a b c d off : Int) (a0 : 0 ≤ a) (a1 : a ≤ 511) (b0 : 0 ≤ b) (b1 : b ≤ 511) (c0 : 0 ≤ c) (c1 : c ≤ 511) (d0 : 0 ≤ d) (d1 : d ≤ 511) (o0 : 0 ≤ off) (o1 : off ≤ 4095) :
    joinV a b c d off / 549755813888 % 512 = a ∧ joinV a b c d off / 1073741824 % 512 = b ∧ joinV a b c d off / 2097152 % 512 = c ∧ joinV a b c d off / 4096 % 512 = d ∧ joinV a b c d off % 4096 = off := by
  unfold joinV joinB; split <;> (refine ⟨?_, ?_, ?_, ?_, ?_⟩ <;> omega)
theorem canon_join (a b c d off : Int) (a0 : 0 ≤ a) (a1 : a ≤ 511) (b0 : 0 ≤ b) (b1 : b ≤ 511) (c0 : 0 ≤ c) (c1 : c ≤ 511) (d0 : 0 ≤ d) (d1 : d ≤ 511) (o0 : 0 ≤ off) (o1 : off ≤ 4095) : canon (joinV a b c d off) = true := by
  unfold canon joinV joinB
  simp only [beq_iff_eq, Bool.or_eq_true]
  split <;> omega
theorem there_split (x : Int) (h0 : 0 ≤ x) (h1 : x < 18446744073709551616) (w : World) : Calls Try.prog 20 #[.agg #[.int .i64 (x / 549755813888 % 512), .int .i64 (x / 1073741824 % 512), .int .i64 (x / 2097152 % 512), .int .i64 (x / 4096 % 512)], .int .i64 (x % 4096)] w
      fun e w' => e = .returned (.tuple #[.int .u64 (joinV (x / 549755813888 % 512) (x / 1073741824 % 512) (x / 2097152 % 512) (x / 4096 % 512) (x % 4096)), .int .i64 0]) ∧ Below w.heap.size w w' :=
  join_ok _ _ _ _ _ (by omega) (by omega) (by omega) (by omega) (by omega) (by omega) (by omega) (by omega) (by omega) (by omega) w
set_option maxHeartbeats 2000000 in
theorem there_err (x a b c d o : Int) (h0 : 0 ≤ x) (h1 : x < 18446744073709551616) (h : o < 0 ∨ 4095 < o ∨ a < 0 ∨ 511 < a ∨ b < 0 ∨ 511 < b ∨ c < 0 ∨ 511 < c ∨ d < 0 ∨ 511 < d) (w : World) :
    Calls Try.prog 11 #[.int .u64 x, .agg #[.int .i64 a, .int .i64 b, .int .i64 c, .int .i64 d], .int .i64 o] w fun e w' => e = .returned (.bool true) ∧ Below w.heap.size w w' := by
  have H := Lib.hid h; clear h
  go_enter Try.func11, Try.ntmps11
  obtain ⟨j1, j2⟩ := join_self x h0 h1
  have J1 := Lib.hid j1; have J2 := Lib.hid j2; clear j1 j2
  go_wp2_with fail
  refine (split_any x h0 h1 _).mono ?_; rintro e w1 ⟨rfl, hb1⟩
  obtain ⟨hc1, _⟩ := bcell hb1
  have hB1 : Below w.heap.size w w1 := b_then (by go_grown) hb1
  have hz1 := hb1.size; try simp only [World.size_alloc, World.size_setCell, World.size_drew] at hz1
  have z1_0 : w.heap.size < w1.heap.size := by omega
  clear hb1
  go_wp2_with fail
  refine (there_split x h0 h1 _).mono ?_; rintro e w2 ⟨rfl, hb2⟩
  obtain ⟨hc2, _⟩ := bcell hb2
  have hB2 : Below w.heap.size w w2 := b_then (by first | exact hB1 | (go_grown)) hb2
  have hz2 := hb2.size; try simp only [World.size_alloc, World.size_setCell, World.size_drew] at hz2
  have z2_0 : w.heap.size < w2.heap.size := by omega
  have z2_1 : w1.heap.size < w2.heap.size := by omega
  clear hb2
  have j1 := J1.out; have j2 := J2.out
  generalize joinV (x / 549755813888 % 512) (x / 1073741824 % 512) (x / 2097152 % 512) (x / 4096 % 512) (x % 4096) = J at *
  go_wp2_with fail
  refine (canonical_any x h0 h1 _).mono ?_; rintro e w' ⟨rfl, rfl⟩
  go_wp2_with fail
  refine (join_err a b c d o _ H.out).mono ?_; rintro e w4 ⟨rfl, hb4⟩
  obtain ⟨hc4, _⟩ := bcell hb4
  have hB4 : Below w.heap.size w w4 := b_then (by first | exact hB2 | (go_grown)) hb4
  have hz4 := hb4.size; try simp only [World.size_alloc, World.size_setCell, World.size_drew] at hz4
  have z4_0 : w.heap.size < w4.heap.size := by omega
  have z4_1 : w1.heap.size < w4.heap.size := by omega
  clear hb4
  clear j1 j2
  go_wp2_with fail
  refine (awake_any _).mono ?_; rintro e w5 ⟨rfl, hb5⟩
  obtain ⟨hc5, _⟩ := bcell hb5
  have hB5 : Below w.heap.size w w5 := b_then (by first | exact hB4 | (go_grown)) hb5
  have hz5 := hb5.size; try simp only [World.size_alloc, World.size_setCell, World.size_drew] at hz5
  have z5_0 : w.heap.size < w5.heap.size := by omega
  have z5_1 : w1.heap.size < w5.heap.size := by omega
  clear hb5
  go_wp2
  go_returns
  exact ⟨ret_v (by simp), by go_grown⟩
set_option maxHeartbeats 2000000 in
theorem there_ok (x a b c d o : Int) (h0 : 0 ≤ x) (h1 : x < 18446744073709551616) (a0 : 0 ≤ a) (a1 : a ≤ 511) (b0 : 0 ≤ b) (b1 : b ≤ 511) (c0 : 0 ≤ c) (c1 : c ≤ 511) (d0 : 0 ≤ d) (d1 : d ≤ 511) (o0 : 0 ≤ o) (o1 : o ≤ 4095) (w : World) :
    Calls Try.prog 11 #[.int .u64 x, .agg #[.int .i64 a, .int .i64 b, .int .i64 c, .int .i64 d], .int .i64 o] w fun e w' => e = .returned (.bool true) ∧ Below w.heap.size w w' := by
  go_enter Try.func11, Try.ntmps11
  obtain ⟨j1, j2⟩ := join_self x h0 h1
  have J1 := Lib.hid j1; have J2 := Lib.hid j2; clear j1 j2
  go_wp2_with fail
  refine (split_any x h0 h1 _).mono ?_; rintro e w1 ⟨rfl, hb1⟩
  obtain ⟨hc1, _⟩ := bcell hb1
  have hB1 : Below w.heap.size w w1 := b_then (by go_grown) hb1
  have hz1 := hb1.size; try simp only [World.size_alloc, World.size_setCell, World.size_drew] at hz1
  have z1_0 : w.heap.size < w1.heap.size := by omega
  clear hb1
  go_wp2_with fail
  refine (there_split x h0 h1 _).mono ?_; rintro e w2 ⟨rfl, hb2⟩
  obtain ⟨hc2, _⟩ := bcell hb2
  have hB2 : Below w.heap.size w w2 := b_then (by first | exact hB1 | (go_grown)) hb2
  have hz2 := hb2.size; try simp only [World.size_alloc, World.size_setCell, World.size_drew] at hz2
  have z2_0 : w.heap.size < w2.heap.size := by omega
  have z2_1 : w1.heap.size < w2.heap.size := by omega
  clear hb2
  have j1 := J1.out; have j2 := J2.out
  generalize joinV (x / 549755813888 % 512) (x / 1073741824 % 512) (x / 2097152 % 512) (x / 4096 % 512) (x % 4096) = J at *
  go_wp2_with fail
  refine (canonical_any x h0 h1 _).mono ?_; rintro e w' ⟨rfl, rfl⟩
  go_wp2_with fail
  refine (join_ok a b c d o a0 a1 b0 b1 c0 c1 d0 d1 o0 o1 _).mono ?_; rintro e w4 ⟨rfl, hb4⟩
  obtain ⟨hc4, _⟩ := bcell hb4
  have hB4 : Below w.heap.size w w4 := b_then (by first | exact hB2 | (go_grown)) hb4
  have hz4 := hb4.size; try simp only [World.size_alloc, World.size_setCell, World.size_drew] at hz4
  have z4_0 : w.heap.size < w4.heap.size := by omega
  have z4_1 : w1.heap.size < w4.heap.size := by omega
  clear hb4
  clear j1 j2
  obtain ⟨s1, s2, s3, s4, s5⟩ := split_join a b c d o a0 a1 b0 b1 c0 c1 d0 d1 o0 o1
  have cj := canon_join a b c d o a0 a1 b0 b1 c0 c1 d0 d1 o0 o1
  obtain ⟨v0, v1⟩ := joinV_bd a b c d o a0 a1 b0 b1 c0 c1 d0 d1 o0 o1
  generalize joinV a b c d o = Y at *
  have cs := split_any Y v0 v1; rw [s1, s2, s3, s4, s5] at cs; have CS := Lib.hid cs; clear cs s1 s2 s3 s4 s5
  have cc := canonical_any Y v0 v1; rw [cj] at cc; have CC := Lib.hid cc; clear cc cj
  go_wp2_with fail
  refine (CS.out _).mono ?_; rintro e w5 ⟨rfl, hb5⟩
  obtain ⟨hc5, _⟩ := bcell hb5
  have hB5 : Below w.heap.size w w5 := b_then (by first | exact hB4 | (go_grown)) hb5
  have hz5 := hb5.size; try simp only [World.size_alloc, World.size_setCell, World.size_drew] at hz5
  have z5_0 : w.heap.size < w5.heap.size := by omega
  have z5_1 : w1.heap.size < w5.heap.size := by omega
  clear hb5
  go_wp2_with fail
  refine (awake_any _).mono ?_; rintro e w6 ⟨rfl, hb6⟩
  obtain ⟨hc6, _⟩ := bcell hb6
  have hB6 : Below w.heap.size w w6 := b_then (by first | exact hB5 | (go_grown)) hb6
  have hz6 := hb6.size; try simp only [World.size_alloc, World.size_setCell, World.size_drew] at hz6
  have z6_0 : w.heap.size < w6.heap.size := by omega
  have z6_1 : w1.heap.size < w6.heap.size := by omega
  have z6_2 : w5.heap.size < w6.heap.size := by omega
  clear hb6
  go_wp2_with fail
  refine (CC.out _).mono ?_; rintro e w' ⟨rfl, rfl⟩
  go_wp2
  go_returns
  exact ⟨ret_v (by simp), by go_grown⟩
theorem walk_PteThere (a0 : Int) (a1_0 : Int) (a1_1 : Int) (a1_2 : Int) (a1_3 : Int) (a2 : Int) (w : World) (w0 : (Lit.int .u64 a0).wf = true) (w1_0 : (Lit.int .i64 a1_0).wf = true) (w1_1 : (Lit.int .i64 a1_1).wf = true) (w1_2 : (Lit.int .i64 a1_2).wf = true) (w1_3 : (Lit.int .i64 a1_3).wf = true) (w2 : (Lit.int .i64 a2).wf = true) :
    Calls Try.prog 11 #[.int .u64 a0, .agg #[.int .i64 a1_0, .int .i64 a1_1, .int .i64 a1_2, .int .i64 a1_3], .int .i64 a2] w fun e w' => e = .returned (.bool true) ∧ Below w.heap.size w w' := by
  obtain ⟨h0, h1⟩ := bounds_u64 w0
  by_cases h : a2 < 0 ∨ 4095 < a2 ∨ a1_0 < 0 ∨ 511 < a1_0 ∨ a1_1 < 0 ∨ 511 < a1_1 ∨ a1_2 < 0 ∨ 511 < a1_2 ∨ a1_3 < 0 ∨ 511 < a1_3
  · exact there_err _ _ _ _ _ _ h0 (by omega) h w
  · exact there_ok _ _ _ _ _ _ h0 (by omega) (by omega) (by omega) (by omega) (by omega) (by omega) (by omega) (by omega) (by omega) (by omega) (by omega) w
end Go.Proofs.Ytmmfojpbhkklpaa
