/- PteFrames: the law returns true at every entry and frame: unlike frames make unlike numbers, and touch no flag. No condition. -/
import Derived.Test.YtmmfojpbhkklpaaPteC

namespace Go.Proofs.Ytmmfojpbhkklpaa
open Go.ChangeShapes Go.WideShapes Go.ChangeAt Go.RowKit
set_option linter.unusedVariables false
set_option linter.unusedSimpArgs false
theorem xor_self (x : Int) (h0 : 0 ≤ x) (h1 : x < 18446744073709551616) : bits .xor .u64 x x = 0 := by
  rw [u64_xor x x h0 h1 h0 h1, Nat.xor_self]; rfl
theorem nat_xor_frames (X Y : Nat) (h1 : X % 4096 = Y % 4096) (h2 : X / 4294967296 = Y / 4294967296) : (X ^^^ Y) &&& 18446744069414588415 = 0 := by
  have a1 : (X ^^^ Y) % 4096 = (X % 4096) ^^^ (Y % 4096) := Nat.xor_mod_two_pow (n := 12)
  have a2 : (X ^^^ Y) / 4294967296 = (X / 4294967296) ^^^ (Y / 4294967296) := Nat.xor_div_two_pow (n := 32)
  rw [h1, Nat.xor_self] at a1
  rw [h2, Nat.xor_self] at a2
  generalize X ^^^ Y = z at *
  have b1 : (z &&& 18446744069414588415) % 4096 = (z % 4096) &&& 4095 := Nat.and_mod_two_pow (n := 12)
  have b2 : (z &&& 18446744069414588415) / 4096 = (z / 4096) &&& 4503599626321920 := Nat.and_div_two_pow (n := 12)
  have c1 : ((z / 4096) &&& 4503599626321920) % 1048576 = (z / 4096 % 1048576) &&& 0 := Nat.and_mod_two_pow (n := 20)
  have c2 : ((z / 4096) &&& 4503599626321920) / 1048576 = (z / 4096 / 1048576) &&& 4294967295 := Nat.and_div_two_pow (n := 20)
  have e : z / 4096 / 1048576 = 0 := by omega
  rw [a1, Nat.zero_and] at b1
  rw [Nat.and_zero] at c1
  rw [e, Nat.zero_and] at c2
  omega
theorem xor_frames (p q u a d l g n : Bool) (fr k : Int) (f0 : 0 ≤ fr) (f1 : fr < 1048576) (k0 : 0 ≤ k) (k1 : k < 1048576) :
    bits .andNot .u64 (bits .xor .u64 (pk p q u a d l g n fr 8) (pk p q u a d l g n k 8)) 4294963200 = 0 := by
  have x0 := pk_bd p q u a d l g n fr f0 f1
  have y0 := pk_bd p q u a d l g n k k0 k1
  have hm : pk p q u a d l g n fr 8 % 4096 = pk p q u a d l g n k 8 % 4096 ∧ pk p q u a d l g n fr 8 / 4294967296 = pk p q u a d l g n k 8 / 4294967296 := by
    have := bi_bd p; have := bi_bd q; have := bi_bd u; have := bi_bd a; have := bi_bd d; have := bi_bd l; have := bi_bd g; have := bi_bd n
    simp only [pk]; constructor <;> omega
  generalize pk p q u a d l g n fr 8 = X at *
  generalize pk p q u a d l g n k 8 = Y at *
  obtain ⟨x, rfl⟩ := Int.eq_ofNat_of_zero_le x0.1
  obtain ⟨y, rfl⟩ := Int.eq_ofNat_of_zero_le y0.1
  have hx : x ^^^ y < 2 ^ 64 := Nat.xor_lt_two_pow (by omega) (by omega)
  rw [u64_xor _ _ x0.1 x0.2 y0.1 y0.2, Int.toNat_natCast, Int.toNat_natCast, u64_andNot _ _ (by omega) (by omega) (by omega) (by omega), Int.toNat_natCast]
  have h := nat_xor_frames x y (by omega) (by omega)
  rw [show 18446744073709551615 - (4294963200 : Int).toNat = 18446744069414588415 from rfl, h]
  rfl
theorem pk_ne (p q u a d l g n : Bool) (fr k : Int) (h : fr ≠ k) : (pk p q u a d l g n fr 8 == pk p q u a d l g n k 8) = false := by
  simp only [pk, beq_eq_false_iff_ne]; omega
set_option maxHeartbeats 1000000 in
theorem frames_eq (p q u a d l g n : Bool) (fr k : Int) (f0 : 0 ≤ fr) (f1 : fr < 1048576) (hk : k = fr) (w : World) :
    Calls Try.prog 5 #[.agg #[.bool p, .bool q, .bool u, .bool a, .bool d, .bool l, .bool g, .bool n, .int .i64 fr], .int .i64 k] w fun e w' => e = .returned (.bool true) ∧ Below w.heap.size w w' := by
  subst hk
  have e1 := xor_frames p q u a d l g n k k f0 f1 f0 f1
  go_enter Try.func5, Try.ntmps5
  go_wp2_with fail
  refine (pack_ok _ _ _ _ _ _ _ _ _ f0 f1 _).mono ?_; rintro e w1 ⟨rfl, hb1⟩
  obtain ⟨hc1, hf1⟩ := bcell hb1
  have hB1 : Below w.heap.size w w1 := b_then (by go_grown) hb1
  have z1 : w.heap.size < w1.heap.size := by have := hb1.size; simp only [World.size_alloc] at this; omega
  clear hb1
  go_wp2_with fail
  refine (pack_ok _ _ _ _ _ _ _ _ _ f0 f1 _).mono ?_; rintro e w2 ⟨rfl, hb2⟩
  have hB2 : Below w.heap.size w w2 := b_then (hB1.setCell (by simp) _) hb2
  go_wp2_with fail
  refine (awake_any _).mono ?_; rintro e w3 ⟨rfl, hb3⟩
  go_wp2
  go_returns
  exact ⟨ret_v (by first | (simp; done) | (simp; omega)), b_then hB2 hb3⟩
set_option maxHeartbeats 1000000 in
theorem frames_ne (p q u a d l g n : Bool) (fr k : Int) (f0 : 0 ≤ fr) (f1 : fr < 1048576) (k0 : 0 ≤ k) (k1 : k < 1048576) (hk : fr ≠ k) (w : World) :
    Calls Try.prog 5 #[.agg #[.bool p, .bool q, .bool u, .bool a, .bool d, .bool l, .bool g, .bool n, .int .i64 fr], .int .i64 k] w fun e w' => e = .returned (.bool true) ∧ Below w.heap.size w w' := by
  have e1 := xor_frames p q u a d l g n fr k f0 f1 k0 k1
  have e2 := pk_ne p q u a d l g n fr k hk
  have e3 : (k == fr) = false := by simp only [beq_eq_false_iff_ne]; omega
  clear hk
  go_enter Try.func5, Try.ntmps5
  go_wp2_with fail
  refine (pack_ok _ _ _ _ _ _ _ _ _ f0 f1 _).mono ?_; rintro e w1 ⟨rfl, hb1⟩
  obtain ⟨hc1, hf1⟩ := bcell hb1
  have hB1 : Below w.heap.size w w1 := b_then (by go_grown) hb1
  have z1 : w.heap.size < w1.heap.size := by have := hb1.size; simp only [World.size_alloc] at this; omega
  clear hb1
  go_wp2_with fail
  refine (pack_ok _ _ _ _ _ _ _ _ _ k0 k1 _).mono ?_; rintro e w2 ⟨rfl, hb2⟩
  have hB2 : Below w.heap.size w w2 := b_then (hB1.setCell (by simp) _) hb2
  go_wp2_with fail
  refine (awake_any _).mono ?_; rintro e w3 ⟨rfl, hb3⟩
  go_wp2
  go_returns
  exact ⟨ret_v (by first | (simp; done) | (simp; omega)), b_then hB2 hb3⟩
set_option maxHeartbeats 1000000 in
theorem frames_oklo (p q u a d l g n : Bool) (fr k : Int) (f0 : 0 ≤ fr) (f1 : fr < 1048576) (k0 : k < 0) (w : World) :
    Calls Try.prog 5 #[.agg #[.bool p, .bool q, .bool u, .bool a, .bool d, .bool l, .bool g, .bool n, .int .i64 fr], .int .i64 k] w fun e w' => e = .returned (.bool true) ∧ Below w.heap.size w w' := by
  go_enter Try.func5, Try.ntmps5
  go_wp2_with fail
  refine (pack_ok _ _ _ _ _ _ _ _ _ f0 f1 _).mono ?_; rintro e w1 ⟨rfl, hb1⟩
  obtain ⟨hc1, hf1⟩ := bcell hb1
  have hB1 : Below w.heap.size w w1 := b_then (by go_grown) hb1
  have z1 : w.heap.size < w1.heap.size := by have := hb1.size; simp only [World.size_alloc] at this; omega
  clear hb1
  go_wp2_with fail
  refine (pack_err _ _ _ _ _ _ _ _ _ (by omega) _).mono ?_; rintro e w2 ⟨rfl, hb2⟩
  have hB2 : Below w.heap.size w w2 := b_then (hB1.setCell (by simp) _) hb2
  go_wp2_with fail
  refine (awake_any _).mono ?_; rintro e w3 ⟨rfl, hb3⟩
  go_wp2
  go_returns
  exact ⟨ret_v (by first | (simp; done) | (simp; omega)), b_then hB2 hb3⟩
set_option maxHeartbeats 1000000 in
theorem frames_erlo (p q u a d l g n : Bool) (fr k : Int) (f0 : fr < 0 ∨ 1048576 ≤ fr) (k0 : k < 0) (w : World) :
    Calls Try.prog 5 #[.agg #[.bool p, .bool q, .bool u, .bool a, .bool d, .bool l, .bool g, .bool n, .int .i64 fr], .int .i64 k] w fun e w' => e = .returned (.bool true) ∧ Below w.heap.size w w' := by
  have F0 := Lib.hid f0; clear f0
  go_enter Try.func5, Try.ntmps5
  go_wp2_with fail
  refine (pack_err _ _ _ _ _ _ _ _ _ F0.out _).mono ?_; rintro e w1 ⟨rfl, hb1⟩
  obtain ⟨hc1, hf1⟩ := bcell hb1
  have hB1 : Below w.heap.size w w1 := b_then (by go_grown) hb1
  have z1 : w.heap.size < w1.heap.size := by have := hb1.size; simp only [World.size_alloc] at this; omega
  clear hb1
  go_wp2_with fail
  refine (pack_err _ _ _ _ _ _ _ _ _ (by omega) _).mono ?_; rintro e w2 ⟨rfl, hb2⟩
  have hB2 : Below w.heap.size w w2 := b_then (hB1.setCell (by simp) _) hb2
  go_wp2_with fail
  refine (awake_any _).mono ?_; rintro e w3 ⟨rfl, hb3⟩
  go_wp2
  go_returns
  exact ⟨ret_v (by first | (simp; done) | (simp; omega)), b_then hB2 hb3⟩
set_option maxHeartbeats 1000000 in
theorem frames_okhi (p q u a d l g n : Bool) (fr k : Int) (f0 : 0 ≤ fr) (f1 : fr < 1048576) (k0 : 1048576 ≤ k) (w : World) :
    Calls Try.prog 5 #[.agg #[.bool p, .bool q, .bool u, .bool a, .bool d, .bool l, .bool g, .bool n, .int .i64 fr], .int .i64 k] w fun e w' => e = .returned (.bool true) ∧ Below w.heap.size w w' := by
  go_enter Try.func5, Try.ntmps5
  go_wp2_with fail
  refine (pack_ok _ _ _ _ _ _ _ _ _ f0 f1 _).mono ?_; rintro e w1 ⟨rfl, hb1⟩
  obtain ⟨hc1, hf1⟩ := bcell hb1
  have hB1 : Below w.heap.size w w1 := b_then (by go_grown) hb1
  have z1 : w.heap.size < w1.heap.size := by have := hb1.size; simp only [World.size_alloc] at this; omega
  clear hb1
  go_wp2_with fail
  refine (pack_err _ _ _ _ _ _ _ _ _ (by omega) _).mono ?_; rintro e w2 ⟨rfl, hb2⟩
  have hB2 : Below w.heap.size w w2 := b_then (hB1.setCell (by simp) _) hb2
  go_wp2_with fail
  refine (awake_any _).mono ?_; rintro e w3 ⟨rfl, hb3⟩
  go_wp2
  go_returns
  exact ⟨ret_v (by first | (simp; done) | (simp; omega)), b_then hB2 hb3⟩
set_option maxHeartbeats 1000000 in
theorem frames_erhi (p q u a d l g n : Bool) (fr k : Int) (f0 : fr < 0 ∨ 1048576 ≤ fr) (k0 : 1048576 ≤ k) (w : World) :
    Calls Try.prog 5 #[.agg #[.bool p, .bool q, .bool u, .bool a, .bool d, .bool l, .bool g, .bool n, .int .i64 fr], .int .i64 k] w fun e w' => e = .returned (.bool true) ∧ Below w.heap.size w w' := by
  have F0 := Lib.hid f0; clear f0
  go_enter Try.func5, Try.ntmps5
  go_wp2_with fail
  refine (pack_err _ _ _ _ _ _ _ _ _ F0.out _).mono ?_; rintro e w1 ⟨rfl, hb1⟩
  obtain ⟨hc1, hf1⟩ := bcell hb1
  have hB1 : Below w.heap.size w w1 := b_then (by go_grown) hb1
  have z1 : w.heap.size < w1.heap.size := by have := hb1.size; simp only [World.size_alloc] at this; omega
  clear hb1
  go_wp2_with fail
  refine (pack_err _ _ _ _ _ _ _ _ _ (by omega) _).mono ?_; rintro e w2 ⟨rfl, hb2⟩
  have hB2 : Below w.heap.size w w2 := b_then (hB1.setCell (by simp) _) hb2
  go_wp2_with fail
  refine (awake_any _).mono ?_; rintro e w3 ⟨rfl, hb3⟩
  go_wp2
  go_returns
  exact ⟨ret_v (by first | (simp; done) | (simp; omega)), b_then hB2 hb3⟩
set_option maxHeartbeats 1000000 in
theorem frames_erok (p q u a d l g n : Bool) (fr k : Int) (f0 : fr < 0 ∨ 1048576 ≤ fr) (k0 : 0 ≤ k) (k1 : k < 1048576) (w : World) :
    Calls Try.prog 5 #[.agg #[.bool p, .bool q, .bool u, .bool a, .bool d, .bool l, .bool g, .bool n, .int .i64 fr], .int .i64 k] w fun e w' => e = .returned (.bool true) ∧ Below w.heap.size w w' := by
  have F0 := Lib.hid f0; clear f0
  go_enter Try.func5, Try.ntmps5
  go_wp2_with fail
  refine (pack_err _ _ _ _ _ _ _ _ _ F0.out _).mono ?_; rintro e w1 ⟨rfl, hb1⟩
  obtain ⟨hc1, hf1⟩ := bcell hb1
  have hB1 : Below w.heap.size w w1 := b_then (by go_grown) hb1
  have z1 : w.heap.size < w1.heap.size := by have := hb1.size; simp only [World.size_alloc] at this; omega
  clear hb1
  go_wp2_with fail
  refine (pack_ok _ _ _ _ _ _ _ _ _ k0 k1 _).mono ?_; rintro e w2 ⟨rfl, hb2⟩
  have hB2 : Below w.heap.size w w2 := b_then (hB1.setCell (by simp) _) hb2
  go_wp2_with fail
  refine (awake_any _).mono ?_; rintro e w3 ⟨rfl, hb3⟩
  go_wp2
  go_returns
  exact ⟨ret_v (by first | (simp; done) | (simp; omega)), b_then hB2 hb3⟩
theorem walk_PteFrames (a0_0 : Bool) (a0_1 : Bool) (a0_2 : Bool) (a0_3 : Bool) (a0_4 : Bool) (a0_5 : Bool) (a0_6 : Bool) (a0_7 : Bool) (a0_8 : Int) (a1 : Int) (w : World) (w0_8 : (Lit.int .i64 a0_8).wf = true) (w1 : (Lit.int .i64 a1).wf = true) :
    Calls Try.prog 5 #[.agg #[.bool a0_0, .bool a0_1, .bool a0_2, .bool a0_3, .bool a0_4, .bool a0_5, .bool a0_6, .bool a0_7, .int .i64 a0_8], .int .i64 a1] w fun e w' => e = .returned (.bool true) ∧ Below w.heap.size w w' := by
  by_cases c0 : a0_8 < 0 ∨ 1048576 ≤ a0_8
  · by_cases c1 : a1 < 0
    · exact frames_erlo _ _ _ _ _ _ _ _ _ _ c0 c1 w
    by_cases c2 : 1048576 ≤ a1
    · exact frames_erhi _ _ _ _ _ _ _ _ _ _ c0 c2 w
    exact frames_erok _ _ _ _ _ _ _ _ _ _ c0 (by omega) (by omega) w
  · by_cases c1 : a1 < 0
    · exact frames_oklo _ _ _ _ _ _ _ _ _ _ (by omega) (by omega) c1 w
    by_cases c2 : 1048576 ≤ a1
    · exact frames_okhi _ _ _ _ _ _ _ _ _ _ (by omega) (by omega) c2 w
    by_cases c3 : a1 = a0_8
    · exact frames_eq _ _ _ _ _ _ _ _ _ _ (by omega) (by omega) c3 w
    · exact frames_ne _ _ _ _ _ _ _ _ _ _ (by omega) (by omega) (by omega) (by omega) (fun h => c3 h.symm) w
end Go.Proofs.Ytmmfojpbhkklpaa
