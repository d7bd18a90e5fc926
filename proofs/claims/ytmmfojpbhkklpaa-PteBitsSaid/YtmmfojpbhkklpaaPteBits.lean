/- PteBits: the law returns true at every entry and every number: a flag more sets just one bit. No condition. -/
import Derived.Test.YtmmfojpbhkklpaaPteA
namespace Go.Proofs.Ytmmfojpbhkklpaa
open Go.ChangeShapes Go.WideShapes Go.ChangeAt Go.RowKit
set_option linter.unusedVariables false
set_option linter.unusedSimpArgs false

theorem pk_bit0 (p q u a d l g n : Bool) (fr : Int) (h0 : 0 ≤ fr) (h1 : fr < 1048576) : bits .or .u64 (pk false q u a d l g n fr 8) 1 = pk true q u a d l g n fr 8 ∧ bits .and .u64 (pk false q u a d l g n fr 8) 1 = 0 := by
  have := bi_bd q
  have := bi_bd u
  have := bi_bd a
  have := bi_bd d
  have := bi_bd l
  have := bi_bd g
  have := bi_bd n
  have r0 : 0 ≤ pk false q u a d l g n fr 8 := by simp only [pk, bi_false]; omega
  have r1 : pk false q u a d l g n fr 8 < 18446744073709551616 := by simp only [pk, bi_false]; omega
  have r2 : pk false q u a d l g n fr 8 / (2 ^ 0 : Nat) % 2 = 0 := by simp only [pk, bi_false]; omega
  refine ⟨(or_bit 0 _ r0 r1 (by omega) r2).trans ?_, and_bit0 0 _ r0 r1 (by omega) r2⟩
  simp only [pk, bi_true, bi_false]; omega
theorem pk_bit1 (p q u a d l g n : Bool) (fr : Int) (h0 : 0 ≤ fr) (h1 : fr < 1048576) : bits .or .u64 (pk p false u a d l g n fr 8) 2 = pk p true u a d l g n fr 8 ∧ bits .and .u64 (pk p false u a d l g n fr 8) 2 = 0 := by
  have := bi_bd p
  have := bi_bd u
  have := bi_bd a
  have := bi_bd d
  have := bi_bd l
  have := bi_bd g
  have := bi_bd n
  have r0 : 0 ≤ pk p false u a d l g n fr 8 := by simp only [pk, bi_false]; omega
  have r1 : pk p false u a d l g n fr 8 < 18446744073709551616 := by simp only [pk, bi_false]; omega
  have r2 : pk p false u a d l g n fr 8 / (2 ^ 1 : Nat) % 2 = 0 := by simp only [pk, bi_false]; omega
  refine ⟨(or_bit 1 _ r0 r1 (by omega) r2).trans ?_, and_bit0 1 _ r0 r1 (by omega) r2⟩
  simp only [pk, bi_true, bi_false]; omega
theorem pk_bit2 (p q u a d l g n : Bool) (fr : Int) (h0 : 0 ≤ fr) (h1 : fr < 1048576) : bits .or .u64 (pk p q false a d l g n fr 8) 4 = pk p q true a d l g n fr 8 ∧ bits .and .u64 (pk p q false a d l g n fr 8) 4 = 0 := by
  have := bi_bd p
  have := bi_bd q
  have := bi_bd a
  have := bi_bd d
  have := bi_bd l
  have := bi_bd g
  have := bi_bd n
  have r0 : 0 ≤ pk p q false a d l g n fr 8 := by simp only [pk, bi_false]; omega
  have r1 : pk p q false a d l g n fr 8 < 18446744073709551616 := by simp only [pk, bi_false]; omega
  have r2 : pk p q false a d l g n fr 8 / (2 ^ 2 : Nat) % 2 = 0 := by simp only [pk, bi_false]; omega
  refine ⟨(or_bit 2 _ r0 r1 (by omega) r2).trans ?_, and_bit0 2 _ r0 r1 (by omega) r2⟩
  simp only [pk, bi_true, bi_false]; omega
theorem pk_bit3 (p q u a d l g n : Bool) (fr : Int) (h0 : 0 ≤ fr) (h1 : fr < 1048576) : bits .or .u64 (pk p q u false d l g n fr 8) 32 = pk p q u true d l g n fr 8 ∧ bits .and .u64 (pk p q u false d l g n fr 8) 32 = 0 := by
  have := bi_bd p
  have := bi_bd q
  have := bi_bd u
  have := bi_bd d
  have := bi_bd l
  have := bi_bd g
  have := bi_bd n
  have r0 : 0 ≤ pk p q u false d l g n fr 8 := by simp only [pk, bi_false]; omega
  have r1 : pk p q u false d l g n fr 8 < 18446744073709551616 := by simp only [pk, bi_false]; omega
  have r2 : pk p q u false d l g n fr 8 / (2 ^ 5 : Nat) % 2 = 0 := by simp only [pk, bi_false]; omega
  refine ⟨(or_bit 5 _ r0 r1 (by omega) r2).trans ?_, and_bit0 5 _ r0 r1 (by omega) r2⟩
  simp only [pk, bi_true, bi_false]; omega
theorem pk_bit4 (p q u a d l g n : Bool) (fr : Int) (h0 : 0 ≤ fr) (h1 : fr < 1048576) : bits .or .u64 (pk p q u a false l g n fr 8) 64 = pk p q u a true l g n fr 8 ∧ bits .and .u64 (pk p q u a false l g n fr 8) 64 = 0 := by
  have := bi_bd p
  have := bi_bd q
  have := bi_bd u
  have := bi_bd a
  have := bi_bd l
  have := bi_bd g
  have := bi_bd n
  have r0 : 0 ≤ pk p q u a false l g n fr 8 := by simp only [pk, bi_false]; omega
  have r1 : pk p q u a false l g n fr 8 < 18446744073709551616 := by simp only [pk, bi_false]; omega
  have r2 : pk p q u a false l g n fr 8 / (2 ^ 6 : Nat) % 2 = 0 := by simp only [pk, bi_false]; omega
  refine ⟨(or_bit 6 _ r0 r1 (by omega) r2).trans ?_, and_bit0 6 _ r0 r1 (by omega) r2⟩
  simp only [pk, bi_true, bi_false]; omega
theorem pk_bit5 (p q u a d l g n : Bool) (fr : Int) (h0 : 0 ≤ fr) (h1 : fr < 1048576) : bits .or .u64 (pk p q u a d false g n fr 8) 128 = pk p q u a d true g n fr 8 ∧ bits .and .u64 (pk p q u a d false g n fr 8) 128 = 0 := by
  have := bi_bd p
  have := bi_bd q
  have := bi_bd u
  have := bi_bd a
  have := bi_bd d
  have := bi_bd g
  have := bi_bd n
  have r0 : 0 ≤ pk p q u a d false g n fr 8 := by simp only [pk, bi_false]; omega
  have r1 : pk p q u a d false g n fr 8 < 18446744073709551616 := by simp only [pk, bi_false]; omega
  have r2 : pk p q u a d false g n fr 8 / (2 ^ 7 : Nat) % 2 = 0 := by simp only [pk, bi_false]; omega
  refine ⟨(or_bit 7 _ r0 r1 (by omega) r2).trans ?_, and_bit0 7 _ r0 r1 (by omega) r2⟩
  simp only [pk, bi_true, bi_false]; omega
theorem pk_bit6 (p q u a d l g n : Bool) (fr : Int) (h0 : 0 ≤ fr) (h1 : fr < 1048576) : bits .or .u64 (pk p q u a d l false n fr 8) 256 = pk p q u a d l true n fr 8 ∧ bits .and .u64 (pk p q u a d l false n fr 8) 256 = 0 := by
  have := bi_bd p
  have := bi_bd q
  have := bi_bd u
  have := bi_bd a
  have := bi_bd d
  have := bi_bd l
  have := bi_bd n
  have r0 : 0 ≤ pk p q u a d l false n fr 8 := by simp only [pk, bi_false]; omega
  have r1 : pk p q u a d l false n fr 8 < 18446744073709551616 := by simp only [pk, bi_false]; omega
  have r2 : pk p q u a d l false n fr 8 / (2 ^ 8 : Nat) % 2 = 0 := by simp only [pk, bi_false]; omega
  refine ⟨(or_bit 8 _ r0 r1 (by omega) r2).trans ?_, and_bit0 8 _ r0 r1 (by omega) r2⟩
  simp only [pk, bi_true, bi_false]; omega
theorem pk_bit7 (p q u a d l g n : Bool) (fr : Int) (h0 : 0 ≤ fr) (h1 : fr < 1048576) : bits .or .u64 (pk p q u a d l g false fr 8) 9223372036854775808 = pk p q u a d l g true fr 8 ∧ bits .and .u64 (pk p q u a d l g false fr 8) 9223372036854775808 = 0 := by
  have := bi_bd p
  have := bi_bd q
  have := bi_bd u
  have := bi_bd a
  have := bi_bd d
  have := bi_bd l
  have := bi_bd g
  have r0 : 0 ≤ pk p q u a d l g false fr 8 := by simp only [pk, bi_false]; omega
  have r1 : pk p q u a d l g false fr 8 < 18446744073709551616 := by simp only [pk, bi_false]; omega
  have r2 : pk p q u a d l g false fr 8 / (2 ^ 63 : Nat) % 2 = 0 := by simp only [pk, bi_false]; omega
  refine ⟨(or_bit 63 _ r0 r1 (by omega) r2).trans ?_, and_bit0 63 _ r0 r1 (by omega) r2⟩
  simp only [pk, bi_true, bi_false]; omega
set_option maxHeartbeats 1000000 in
theorem bits_0 (p q u a d l g n : Bool) (fr : Int) (h0 : 0 ≤ fr) (h1 : fr < 1048576) (w : World) :
    Calls Try.prog 4 #[.agg #[.bool p, .bool q, .bool u, .bool a, .bool d, .bool l, .bool g, .bool n, .int .i64 fr], .int .i64 0] w fun e w' => e = .returned (.bool true) ∧ Below w.heap.size w w' := by
  obtain ⟨e1, e2⟩ := pk_bit0 p q u a d l g n fr h0 h1
  go_enter Try.func4, Try.ntmps4
  go_wp2_with fail
  refine (pack_ok _ _ _ _ _ _ _ _ _ h0 h1 _).mono ?_
  rintro e w1 ⟨rfl, hb1⟩
  obtain ⟨hc1, _⟩ := bcell hb1
  have hB : Below w.heap.size w w1 := b_then (by go_grown) hb1
  have z1 : w.heap.size + 1 < w1.heap.size := by have := hb1.size; simp only [World.size_alloc, World.size_setCell] at this; omega
  clear hb1
  go_wp2_with fail
  refine (pack_ok _ _ _ _ _ _ _ _ _ h0 h1 _).mono ?_
  rintro e w2 ⟨rfl, hb2⟩
  go_wp2_with fail
  refine (awake_any _).mono ?_
  rintro e w3 ⟨rfl, hb3⟩
  go_wp2
  go_returns
  exact ⟨rfl, b_then3 hB hb2 hb3⟩
set_option maxHeartbeats 1000000 in
theorem bits_1 (p q u a d l g n : Bool) (fr : Int) (h0 : 0 ≤ fr) (h1 : fr < 1048576) (w : World) :
    Calls Try.prog 4 #[.agg #[.bool p, .bool q, .bool u, .bool a, .bool d, .bool l, .bool g, .bool n, .int .i64 fr], .int .i64 1] w fun e w' => e = .returned (.bool true) ∧ Below w.heap.size w w' := by
  obtain ⟨e1, e2⟩ := pk_bit1 p q u a d l g n fr h0 h1
  go_enter Try.func4, Try.ntmps4
  go_wp2_with fail
  refine (pack_ok _ _ _ _ _ _ _ _ _ h0 h1 _).mono ?_
  rintro e w1 ⟨rfl, hb1⟩
  obtain ⟨hc1, _⟩ := bcell hb1
  have hB : Below w.heap.size w w1 := b_then (by go_grown) hb1
  have z1 : w.heap.size + 1 < w1.heap.size := by have := hb1.size; simp only [World.size_alloc, World.size_setCell] at this; omega
  clear hb1
  go_wp2_with fail
  refine (pack_ok _ _ _ _ _ _ _ _ _ h0 h1 _).mono ?_
  rintro e w2 ⟨rfl, hb2⟩
  go_wp2_with fail
  refine (awake_any _).mono ?_
  rintro e w3 ⟨rfl, hb3⟩
  go_wp2
  go_returns
  exact ⟨rfl, b_then3 hB hb2 hb3⟩
set_option maxHeartbeats 1000000 in
theorem bits_2 (p q u a d l g n : Bool) (fr : Int) (h0 : 0 ≤ fr) (h1 : fr < 1048576) (w : World) :
    Calls Try.prog 4 #[.agg #[.bool p, .bool q, .bool u, .bool a, .bool d, .bool l, .bool g, .bool n, .int .i64 fr], .int .i64 2] w fun e w' => e = .returned (.bool true) ∧ Below w.heap.size w w' := by
  obtain ⟨e1, e2⟩ := pk_bit2 p q u a d l g n fr h0 h1
  go_enter Try.func4, Try.ntmps4
  go_wp2_with fail
  refine (pack_ok _ _ _ _ _ _ _ _ _ h0 h1 _).mono ?_
  rintro e w1 ⟨rfl, hb1⟩
  obtain ⟨hc1, _⟩ := bcell hb1
  have hB : Below w.heap.size w w1 := b_then (by go_grown) hb1
  have z1 : w.heap.size + 1 < w1.heap.size := by have := hb1.size; simp only [World.size_alloc, World.size_setCell] at this; omega
  clear hb1
  go_wp2_with fail
  refine (pack_ok _ _ _ _ _ _ _ _ _ h0 h1 _).mono ?_
  rintro e w2 ⟨rfl, hb2⟩
  go_wp2_with fail
  refine (awake_any _).mono ?_
  rintro e w3 ⟨rfl, hb3⟩
  go_wp2
  go_returns
  exact ⟨rfl, b_then3 hB hb2 hb3⟩
set_option maxHeartbeats 1000000 in
theorem bits_3 (p q u a d l g n : Bool) (fr : Int) (h0 : 0 ≤ fr) (h1 : fr < 1048576) (w : World) :
    Calls Try.prog 4 #[.agg #[.bool p, .bool q, .bool u, .bool a, .bool d, .bool l, .bool g, .bool n, .int .i64 fr], .int .i64 3] w fun e w' => e = .returned (.bool true) ∧ Below w.heap.size w w' := by
  obtain ⟨e1, e2⟩ := pk_bit3 p q u a d l g n fr h0 h1
  go_enter Try.func4, Try.ntmps4
  go_wp2_with fail
  refine (pack_ok _ _ _ _ _ _ _ _ _ h0 h1 _).mono ?_
  rintro e w1 ⟨rfl, hb1⟩
  obtain ⟨hc1, _⟩ := bcell hb1
  have hB : Below w.heap.size w w1 := b_then (by go_grown) hb1
  have z1 : w.heap.size + 1 < w1.heap.size := by have := hb1.size; simp only [World.size_alloc, World.size_setCell] at this; omega
  clear hb1
  go_wp2_with fail
  refine (pack_ok _ _ _ _ _ _ _ _ _ h0 h1 _).mono ?_
  rintro e w2 ⟨rfl, hb2⟩
  go_wp2_with fail
  refine (awake_any _).mono ?_
  rintro e w3 ⟨rfl, hb3⟩
  go_wp2
  go_returns
  exact ⟨rfl, b_then3 hB hb2 hb3⟩
set_option maxHeartbeats 1000000 in
theorem bits_4 (p q u a d l g n : Bool) (fr : Int) (h0 : 0 ≤ fr) (h1 : fr < 1048576) (w : World) :
    Calls Try.prog 4 #[.agg #[.bool p, .bool q, .bool u, .bool a, .bool d, .bool l, .bool g, .bool n, .int .i64 fr], .int .i64 4] w fun e w' => e = .returned (.bool true) ∧ Below w.heap.size w w' := by
  obtain ⟨e1, e2⟩ := pk_bit4 p q u a d l g n fr h0 h1
  go_enter Try.func4, Try.ntmps4
  go_wp2_with fail
  refine (pack_ok _ _ _ _ _ _ _ _ _ h0 h1 _).mono ?_
  rintro e w1 ⟨rfl, hb1⟩
  obtain ⟨hc1, _⟩ := bcell hb1
  have hB : Below w.heap.size w w1 := b_then (by go_grown) hb1
  have z1 : w.heap.size + 1 < w1.heap.size := by have := hb1.size; simp only [World.size_alloc, World.size_setCell] at this; omega
  clear hb1
  go_wp2_with fail
  refine (pack_ok _ _ _ _ _ _ _ _ _ h0 h1 _).mono ?_
  rintro e w2 ⟨rfl, hb2⟩
  go_wp2_with fail
  refine (awake_any _).mono ?_
  rintro e w3 ⟨rfl, hb3⟩
  go_wp2
  go_returns
  exact ⟨rfl, b_then3 hB hb2 hb3⟩
set_option maxHeartbeats 1000000 in
theorem bits_5 (p q u a d l g n : Bool) (fr : Int) (h0 : 0 ≤ fr) (h1 : fr < 1048576) (w : World) :
    Calls Try.prog 4 #[.agg #[.bool p, .bool q, .bool u, .bool a, .bool d, .bool l, .bool g, .bool n, .int .i64 fr], .int .i64 5] w fun e w' => e = .returned (.bool true) ∧ Below w.heap.size w w' := by
  obtain ⟨e1, e2⟩ := pk_bit5 p q u a d l g n fr h0 h1
  go_enter Try.func4, Try.ntmps4
  go_wp2_with fail
  refine (pack_ok _ _ _ _ _ _ _ _ _ h0 h1 _).mono ?_
  rintro e w1 ⟨rfl, hb1⟩
  obtain ⟨hc1, _⟩ := bcell hb1
  have hB : Below w.heap.size w w1 := b_then (by go_grown) hb1
  have z1 : w.heap.size + 1 < w1.heap.size := by have := hb1.size; simp only [World.size_alloc, World.size_setCell] at this; omega
  clear hb1
  go_wp2_with fail
  refine (pack_ok _ _ _ _ _ _ _ _ _ h0 h1 _).mono ?_
  rintro e w2 ⟨rfl, hb2⟩
  go_wp2_with fail
  refine (awake_any _).mono ?_
  rintro e w3 ⟨rfl, hb3⟩
  go_wp2
  go_returns
  exact ⟨rfl, b_then3 hB hb2 hb3⟩
set_option maxHeartbeats 1000000 in
theorem bits_6 (p q u a d l g n : Bool) (fr : Int) (h0 : 0 ≤ fr) (h1 : fr < 1048576) (w : World) :
    Calls Try.prog 4 #[.agg #[.bool p, .bool q, .bool u, .bool a, .bool d, .bool l, .bool g, .bool n, .int .i64 fr], .int .i64 6] w fun e w' => e = .returned (.bool true) ∧ Below w.heap.size w w' := by
  obtain ⟨e1, e2⟩ := pk_bit6 p q u a d l g n fr h0 h1
  go_enter Try.func4, Try.ntmps4
  go_wp2_with fail
  refine (pack_ok _ _ _ _ _ _ _ _ _ h0 h1 _).mono ?_
  rintro e w1 ⟨rfl, hb1⟩
  obtain ⟨hc1, _⟩ := bcell hb1
  have hB : Below w.heap.size w w1 := b_then (by go_grown) hb1
  have z1 : w.heap.size + 1 < w1.heap.size := by have := hb1.size; simp only [World.size_alloc, World.size_setCell] at this; omega
  clear hb1
  go_wp2_with fail
  refine (pack_ok _ _ _ _ _ _ _ _ _ h0 h1 _).mono ?_
  rintro e w2 ⟨rfl, hb2⟩
  go_wp2_with fail
  refine (awake_any _).mono ?_
  rintro e w3 ⟨rfl, hb3⟩
  go_wp2
  go_returns
  exact ⟨rfl, b_then3 hB hb2 hb3⟩
set_option maxHeartbeats 1000000 in
theorem bits_7 (p q u a d l g n : Bool) (fr : Int) (h0 : 0 ≤ fr) (h1 : fr < 1048576) (w : World) :
    Calls Try.prog 4 #[.agg #[.bool p, .bool q, .bool u, .bool a, .bool d, .bool l, .bool g, .bool n, .int .i64 fr], .int .i64 7] w fun e w' => e = .returned (.bool true) ∧ Below w.heap.size w w' := by
  obtain ⟨e1, e2⟩ := pk_bit7 p q u a d l g n fr h0 h1
  go_enter Try.func4, Try.ntmps4
  go_wp2_with fail
  refine (pack_ok _ _ _ _ _ _ _ _ _ h0 h1 _).mono ?_
  rintro e w1 ⟨rfl, hb1⟩
  obtain ⟨hc1, _⟩ := bcell hb1
  have hB : Below w.heap.size w w1 := b_then (by go_grown) hb1
  have z1 : w.heap.size + 1 < w1.heap.size := by have := hb1.size; simp only [World.size_alloc, World.size_setCell] at this; omega
  clear hb1
  go_wp2_with fail
  refine (pack_ok _ _ _ _ _ _ _ _ _ h0 h1 _).mono ?_
  rintro e w2 ⟨rfl, hb2⟩
  go_wp2_with fail
  refine (awake_any _).mono ?_
  rintro e w3 ⟨rfl, hb3⟩
  go_wp2
  go_returns
  exact ⟨rfl, b_then3 hB hb2 hb3⟩
set_option maxHeartbeats 1000000 in
theorem bits_lo (p q u a d l g n : Bool) (fr i : Int) (h0 : fr < 0) (w : World) :
    Calls Try.prog 4 #[.agg #[.bool p, .bool q, .bool u, .bool a, .bool d, .bool l, .bool g, .bool n, .int .i64 fr], .int .i64 i] w fun e w' => e = .returned (.bool true) ∧ Below w.heap.size w w' := by
  go_enter Try.func4, Try.ntmps4
  go_wp2_with fail
  refine (awake_any _).mono ?_
  rintro e w3 ⟨rfl, hb3⟩
  go_wp2
  go_returns
  exact ⟨rfl, b_then (by go_grown) hb3⟩
set_option maxHeartbeats 1000000 in
theorem bits_hi (p q u a d l g n : Bool) (fr i : Int) (h0 : 1048576 ≤ fr) (w : World) :
    Calls Try.prog 4 #[.agg #[.bool p, .bool q, .bool u, .bool a, .bool d, .bool l, .bool g, .bool n, .int .i64 fr], .int .i64 i] w fun e w' => e = .returned (.bool true) ∧ Below w.heap.size w w' := by
  go_enter Try.func4, Try.ntmps4
  go_wp2_with fail
  refine (awake_any _).mono ?_
  rintro e w3 ⟨rfl, hb3⟩
  go_wp2
  go_returns
  exact ⟨rfl, b_then (by go_grown) hb3⟩
set_option maxHeartbeats 1000000 in
theorem bits_wlo (p q u a d l g n : Bool) (fr i : Int) (h0 : 0 ≤ fr) (h1 : fr < 1048576) (h2 : i < 0) (w : World) :
    Calls Try.prog 4 #[.agg #[.bool p, .bool q, .bool u, .bool a, .bool d, .bool l, .bool g, .bool n, .int .i64 fr], .int .i64 i] w fun e w' => e = .returned (.bool true) ∧ Below w.heap.size w w' := by
  go_enter Try.func4, Try.ntmps4
  go_wp2_with fail
  refine (awake_any _).mono ?_
  rintro e w3 ⟨rfl, hb3⟩
  go_wp2
  go_returns
  exact ⟨rfl, b_then (by go_grown) hb3⟩
set_option maxHeartbeats 1000000 in
theorem bits_whi (p q u a d l g n : Bool) (fr i : Int) (h0 : 0 ≤ fr) (h1 : fr < 1048576) (h2 : 7 < i) (w : World) :
    Calls Try.prog 4 #[.agg #[.bool p, .bool q, .bool u, .bool a, .bool d, .bool l, .bool g, .bool n, .int .i64 fr], .int .i64 i] w fun e w' => e = .returned (.bool true) ∧ Below w.heap.size w w' := by
  go_enter Try.func4, Try.ntmps4
  go_wp2_with fail
  refine (awake_any _).mono ?_
  rintro e w3 ⟨rfl, hb3⟩
  go_wp2
  go_returns
  exact ⟨rfl, b_then (by go_grown) hb3⟩
theorem walk_PteBits (a0_0 : Bool) (a0_1 : Bool) (a0_2 : Bool) (a0_3 : Bool) (a0_4 : Bool) (a0_5 : Bool) (a0_6 : Bool) (a0_7 : Bool) (a0_8 : Int) (a1 : Int) (w : World) (w0_8 : (Lit.int .i64 a0_8).wf = true) (w1 : (Lit.int .i64 a1).wf = true) :
    Calls Try.prog 4 #[.agg #[.bool a0_0, .bool a0_1, .bool a0_2, .bool a0_3, .bool a0_4, .bool a0_5, .bool a0_6, .bool a0_7, .int .i64 a0_8], .int .i64 a1] w fun e w' => e = .returned (.bool true) ∧ Below w.heap.size w w' := by
  by_cases h0 : a0_8 < 0
  · exact bits_lo _ _ _ _ _ _ _ _ _ _ h0 w
  by_cases h1 : 1048576 ≤ a0_8
  · exact bits_hi _ _ _ _ _ _ _ _ _ _ h1 w
  by_cases h2 : a1 < 0
  · exact bits_wlo _ _ _ _ _ _ _ _ _ _ (by omega) (by omega) h2 w
  by_cases h3 : 7 < a1
  · exact bits_whi _ _ _ _ _ _ _ _ _ _ (by omega) (by omega) h3 w
  obtain rfl | rfl | rfl | rfl | rfl | rfl | rfl | rfl : a1 = 0 ∨ a1 = 1 ∨ a1 = 2 ∨ a1 = 3 ∨ a1 = 4 ∨ a1 = 5 ∨ a1 = 6 ∨ a1 = 7 := by omega
  · exact bits_0 _ _ _ _ _ _ _ _ _ (by omega) (by omega) w
  · exact bits_1 _ _ _ _ _ _ _ _ _ (by omega) (by omega) w
  · exact bits_2 _ _ _ _ _ _ _ _ _ (by omega) (by omega) w
  · exact bits_3 _ _ _ _ _ _ _ _ _ (by omega) (by omega) w
  · exact bits_4 _ _ _ _ _ _ _ _ _ (by omega) (by omega) w
  · exact bits_5 _ _ _ _ _ _ _ _ _ (by omega) (by omega) w
  · exact bits_6 _ _ _ _ _ _ _ _ _ (by omega) (by omega) w
  · exact bits_7 _ _ _ _ _ _ _ _ _ (by omega) (by omega) w
end Go.Proofs.Ytmmfojpbhkklpaa
