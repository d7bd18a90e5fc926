/- PtePacks: the law returns true at every entry and number. No condition. -/
import Derived.Test.YtmmfojpbhkklpaaPteC

namespace Go.Proofs.Ytmmfojpbhkklpaa
open Go.ChangeShapes Go.WideShapes Go.ChangeAt Go.RowKit
set_option linter.unusedVariables false
set_option linter.unusedSimpArgs false

set_option maxHeartbeats 1000000 in
theorem packs_ok (p q u a d l g n : Bool) (fr x : Int) (f0 : 0 ≤ fr) (f1 : fr < 1048576) (h0 : 0 ≤ x) (h1 : x < 18446744073709551616) (w : World) :
    Calls Try.prog 6 #[.agg #[.bool p, .bool q, .bool u, .bool a, .bool d, .bool l, .bool g, .bool n, .int .i64 fr], .int .u64 x] w fun e w' => e = .returned (.bool true) ∧ Below w.heap.size w w' := by
  go_enter Try.func6, Try.ntmps6
  go_wp2_with fail
  refine (pack_ok _ _ _ _ _ _ _ _ _ f0 f1 _).mono ?_; rintro e w1 ⟨rfl, hb1⟩
  obtain ⟨hc1, _⟩ := bcell hb1
  have hB1 : Below w.heap.size w w1 := b_then (by go_grown) hb1
  have z1 : w.heap.size < w1.heap.size := by have := hb1.size; simp only [World.size_alloc] at this; omega
  clear hb1
  go_wp2_with fail
  refine (awake_any _).mono ?_; rintro e w2 ⟨rfl, hb2⟩
  obtain ⟨hc2, _⟩ := bcell hb2
  have hB2 := b_then hB1 hb2
  have z2 : w.heap.size < w2.heap.size := by have := hb2.size; omega
  clear hb2
  go_wp2_with fail
  refine (unpack_ex x h0 h1 _).mono ?_; rintro e w3 ⟨rfl, hb3⟩
  obtain ⟨hc3, _⟩ := bcell hb3
  have hB3 := b_then hB2 hb3
  have z3 : w.heap.size < w3.heap.size := by have := hb3.size; omega
  clear hb3
  go_wp2_with fail
  refine (rUnpack_ex x h0 h1 _).mono ?_; rintro e w4 ⟨rfl, hb4⟩
  obtain ⟨hc4, _⟩ := bcell hb4
  have hB4 := b_then hB3 hb4
  have z4 : w.heap.size < w4.heap.size := by have := hb4.size; omega
  clear hb4
  go_wp2_with fail
  refine (rPack_ok _ _ _ _ _ _ _ _ _ f0 f1 _).mono ?_; rintro e w5 ⟨rfl, hb5⟩
  go_wp2
  go_returns
  exact ⟨ret_v (by simp), b_then hB4 hb5⟩
set_option maxHeartbeats 1000000 in
theorem packs_lo (p q u a d l g n : Bool) (fr x : Int) (f0 : fr < 0) (h0 : 0 ≤ x) (h1 : x < 18446744073709551616) (w : World) :
    Calls Try.prog 6 #[.agg #[.bool p, .bool q, .bool u, .bool a, .bool d, .bool l, .bool g, .bool n, .int .i64 fr], .int .u64 x] w fun e w' => e = .returned (.bool true) ∧ Below w.heap.size w w' := by
  go_enter Try.func6, Try.ntmps6
  go_wp2_with fail
  refine (pack_err _ _ _ _ _ _ _ _ _ (by omega) _).mono ?_; rintro e w1 ⟨rfl, hb1⟩
  obtain ⟨hc1, _⟩ := bcell hb1
  have hB1 : Below w.heap.size w w1 := b_then (by go_grown) hb1
  have z1 : w.heap.size < w1.heap.size := by have := hb1.size; simp only [World.size_alloc] at this; omega
  clear hb1
  go_wp2_with fail
  refine (awake_any _).mono ?_; rintro e w2 ⟨rfl, hb2⟩
  obtain ⟨hc2, _⟩ := bcell hb2
  have hB2 := b_then hB1 hb2
  have z2 : w.heap.size < w2.heap.size := by have := hb2.size; omega
  clear hb2
  go_wp2_with fail
  refine (unpack_ex x h0 h1 _).mono ?_; rintro e w3 ⟨rfl, hb3⟩
  obtain ⟨hc3, _⟩ := bcell hb3
  have hB3 := b_then hB2 hb3
  have z3 : w.heap.size < w3.heap.size := by have := hb3.size; omega
  clear hb3
  go_wp2_with fail
  refine (rUnpack_ex x h0 h1 _).mono ?_; rintro e w4 ⟨rfl, hb4⟩
  obtain ⟨hc4, _⟩ := bcell hb4
  have hB4 := b_then hB3 hb4
  have z4 : w.heap.size < w4.heap.size := by have := hb4.size; omega
  clear hb4
  go_wp2
  go_returns
  exact ⟨ret_v (by simp), hB4⟩
set_option maxHeartbeats 1000000 in
theorem packs_hi (p q u a d l g n : Bool) (fr x : Int) (f0 : 1048576 ≤ fr) (h0 : 0 ≤ x) (h1 : x < 18446744073709551616) (w : World) :
    Calls Try.prog 6 #[.agg #[.bool p, .bool q, .bool u, .bool a, .bool d, .bool l, .bool g, .bool n, .int .i64 fr], .int .u64 x] w fun e w' => e = .returned (.bool true) ∧ Below w.heap.size w w' := by
  go_enter Try.func6, Try.ntmps6
  go_wp2_with fail
  refine (pack_err _ _ _ _ _ _ _ _ _ (by omega) _).mono ?_; rintro e w1 ⟨rfl, hb1⟩
  obtain ⟨hc1, _⟩ := bcell hb1
  have hB1 : Below w.heap.size w w1 := b_then (by go_grown) hb1
  have z1 : w.heap.size < w1.heap.size := by have := hb1.size; simp only [World.size_alloc] at this; omega
  clear hb1
  go_wp2_with fail
  refine (awake_any _).mono ?_; rintro e w2 ⟨rfl, hb2⟩
  obtain ⟨hc2, _⟩ := bcell hb2
  have hB2 := b_then hB1 hb2
  have z2 : w.heap.size < w2.heap.size := by have := hb2.size; omega
  clear hb2
  go_wp2_with fail
  refine (unpack_ex x h0 h1 _).mono ?_; rintro e w3 ⟨rfl, hb3⟩
  obtain ⟨hc3, _⟩ := bcell hb3
  have hB3 := b_then hB2 hb3
  have z3 : w.heap.size < w3.heap.size := by have := hb3.size; omega
  clear hb3
  go_wp2_with fail
  refine (rUnpack_ex x h0 h1 _).mono ?_; rintro e w4 ⟨rfl, hb4⟩
  obtain ⟨hc4, _⟩ := bcell hb4
  have hB4 := b_then hB3 hb4
  have z4 : w.heap.size < w4.heap.size := by have := hb4.size; omega
  clear hb4
  go_wp2
  go_returns
  exact ⟨ret_v (by simp), hB4⟩
theorem walk_PtePacks (a0_0 : Bool) (a0_1 : Bool) (a0_2 : Bool) (a0_3 : Bool) (a0_4 : Bool) (a0_5 : Bool) (a0_6 : Bool) (a0_7 : Bool) (a0_8 : Int) (a1 : Int) (w : World) (w0_8 : (Lit.int .i64 a0_8).wf = true) (w1 : (Lit.int .u64 a1).wf = true) :
    Calls Try.prog 6 #[.agg #[.bool a0_0, .bool a0_1, .bool a0_2, .bool a0_3, .bool a0_4, .bool a0_5, .bool a0_6, .bool a0_7, .int .i64 a0_8], .int .u64 a1] w fun e w' => e = .returned (.bool true) ∧ Below w.heap.size w w' := by
  obtain ⟨h0, h1⟩ := bounds_u64 w1
  by_cases c0 : a0_8 < 0
  · exact packs_lo _ _ _ _ _ _ _ _ _ _ c0 h0 (by omega) w
  by_cases c1 : 1048576 ≤ a0_8
  · exact packs_hi _ _ _ _ _ _ _ _ _ _ c1 h0 (by omega) w
  exact packs_ok _ _ _ _ _ _ _ _ _ _ (by omega) (by omega) h0 (by omega) w
end Go.Proofs.Ytmmfojpbhkklpaa
