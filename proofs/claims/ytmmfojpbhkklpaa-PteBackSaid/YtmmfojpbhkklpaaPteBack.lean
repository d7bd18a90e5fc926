/- PteBack: the law returns true at every entry and number: entries go and come back. No condition. -/
import Derived.Test.YtmmfojpbhkklpaaPteC
import Derived.Deep.RegionHeld3
import Derived.Deep.DrawnRows
import Derived.RegionTactic
namespace Go.Proofs.Ytmmfojpbhkklpaa
open Go.ChangeShapes Go.WideShapes Go.ChangeAt Go.RowKit
set_option linter.unusedVariables false
set_option linter.unusedSimpArgs false

attribute [local go_sem ↓] Go.wp_at_zero Go.wp_at_succ
theorem pk_frame (x : Int) (h0 : 0 ≤ x) : 0 ≤ x / 4096 % 1048576 ∧ x / 4096 % 1048576 < 1048576 := by omega
set_option maxHeartbeats 2000000 in
theorem back_ok (p q u a d l g n : Bool) (fr x : Int) (f0 : 0 ≤ fr) (f1 : fr < 1048576) (h0 : 0 ≤ x) (h1 : x < 18446744073709551616) (w : World) :
    Calls Try.prog 7 #[.agg #[.bool p, .bool q, .bool u, .bool a, .bool d, .bool l, .bool g, .bool n, .int .i64 fr], .int .u64 x] w fun e w' => e = .returned (.bool true) ∧ Below w.heap.size w w' := by
  have m := pk_mask x h0 h1
  have M := Lib.hid m; clear m
  go_enter Try.func7, Try.ntmps7
  go_wp2_with fail
  refine (pack_ok _ _ _ _ _ _ _ _ _ f0 f1 _).mono ?_; rintro e w1 ⟨rfl, hb1⟩
  obtain ⟨hc1, _⟩ := bcell hb1
  have hB1 : Below w.heap.size w w1 := b_then (by go_grown) hb1
  have z1 : w.heap.size < w1.heap.size := by have := hb1.size; simp only [World.size_alloc] at this; omega
  clear hb1
  go_wp2_with fail
  go_region_held3 (fun W => W.cell? ⟨w.heap.size, 0, none⟩ = some (.bool p) ∧ W.cell? ⟨w.heap.size, 1, none⟩ = some (.bool q) ∧ W.cell? ⟨w.heap.size, 2, none⟩ = some (.bool u) ∧ W.cell? ⟨w.heap.size, 3, none⟩ = some (.bool a) ∧ W.cell? ⟨w.heap.size, 4, none⟩ = some (.bool d) ∧
      W.cell? ⟨w.heap.size, 5, none⟩ = some (.bool l) ∧ W.cell? ⟨w.heap.size, 6, none⟩ = some (.bool g) ∧ W.cell? ⟨w.heap.size, 7, none⟩ = some (.bool n) ∧ W.cell? ⟨w.heap.size, 8, none⟩ = some (.int .i64 fr)) (first | go_keep | (go_split_ands; refine ⟨?_, ?_, ?_, ?_, ?_, ?_, ?_, ?_, ?_⟩ <;> (apply hk; assumption)))
    ((go_at_call 15; refine (unpack_pk _ _ _ _ _ _ _ _ _ f0 f1 _).mono ?_; rintro e w2 ⟨rfl, hb2⟩; have hk := bkeep hb2; have hB := b_then (by first | exact hB1 | exact hB1.drew) hb2))
  go_wp2_with fail
  refine (unpack_ex x h0 h1 _).mono ?_; rintro e w3 ⟨rfl, hb3⟩
  have hB3 := b_then hB hb3
  clear hb3
  go_wp2_with fail
  obtain ⟨g0, g1⟩ := pk_frame x h0
  refine (pack_ok _ _ _ _ _ _ _ _ _ g0 g1 _).mono ?_; rintro e w4 ⟨rfl, hb4⟩
  have hB4 := b_then hB3 hb4
  clear hb4
  rw [M.out]
  go_wp2_with fail
  refine (awake_any _).mono ?_; rintro e w5 ⟨rfl, hb5⟩
  go_wp2
  go_returns
  exact ⟨ret_v (by simp), b_then hB4 hb5⟩
set_option maxHeartbeats 1000000 in
theorem back_err (p q u a d l g n : Bool) (fr x : Int) (f0 : fr < 0 ∨ 1048576 ≤ fr) (h0 : 0 ≤ x) (h1 : x < 18446744073709551616) (w : World) :
    Calls Try.prog 7 #[.agg #[.bool p, .bool q, .bool u, .bool a, .bool d, .bool l, .bool g, .bool n, .int .i64 fr], .int .u64 x] w fun e w' => e = .returned (.bool true) ∧ Below w.heap.size w w' := by
  have m := pk_mask x h0 h1
  have M := Lib.hid m; clear m
  have F0 := Lib.hid f0; clear f0
  go_enter Try.func7, Try.ntmps7
  go_wp2_with fail
  refine (pack_err _ _ _ _ _ _ _ _ _ F0.out _).mono ?_; rintro e w1 ⟨rfl, hb1⟩
  have hB1 : Below w.heap.size w w1 := b_then (by go_grown) hb1
  clear hb1
  go_wp2_with fail
  go_quiet (fail)
  go_wp2_with fail
  refine (unpack_ex x h0 h1 _).mono ?_; rintro e w3 ⟨rfl, hb3⟩
  have hB3 := b_then (below_drewN hB1 _) hb3
  clear hb3
  go_wp2_with fail
  obtain ⟨g0, g1⟩ := pk_frame x h0
  refine (pack_ok _ _ _ _ _ _ _ _ _ g0 g1 _).mono ?_; rintro e w4 ⟨rfl, hb4⟩
  have hB4 := b_then hB3 hb4
  clear hb4
  rw [M.out]
  go_wp2_with fail
  refine (awake_any _).mono ?_; rintro e w5 ⟨rfl, hb5⟩
  go_wp2
  go_returns
  exact ⟨ret_v (by simp), b_then hB4 hb5⟩
theorem walk_PteBack (a0_0 : Bool) (a0_1 : Bool) (a0_2 : Bool) (a0_3 : Bool) (a0_4 : Bool) (a0_5 : Bool) (a0_6 : Bool) (a0_7 : Bool) (a0_8 : Int) (a1 : Int) (w : World) (w0_8 : (Lit.int .i64 a0_8).wf = true) (w1 : (Lit.int .u64 a1).wf = true) :
    Calls Try.prog 7 #[.agg #[.bool a0_0, .bool a0_1, .bool a0_2, .bool a0_3, .bool a0_4, .bool a0_5, .bool a0_6, .bool a0_7, .int .i64 a0_8], .int .u64 a1] w fun e w' => e = .returned (.bool true) ∧ Below w.heap.size w w' := by
  obtain ⟨h0, h1⟩ := bounds_u64 w1
  by_cases c0 : a0_8 < 0 ∨ 1048576 ≤ a0_8
  · exact back_err _ _ _ _ _ _ _ _ _ _ c0 h0 (by omega) w
  exact back_ok _ _ _ _ _ _ _ _ _ _ (by omega) (by omega) h0 (by omega) w
end Go.Proofs.Ytmmfojpbhkklpaa
