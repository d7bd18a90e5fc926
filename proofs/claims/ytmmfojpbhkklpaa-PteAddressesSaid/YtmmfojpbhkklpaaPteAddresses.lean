/- PteAddresses: the law returns true at every address and places: addresses are taken apart and put together. No condition. -/
import Derived.Test.YtmmfojpbhkklpaaPteC
import Derived.Deep.RegionHeld3
import Derived.Deep.DrawnRows
namespace Go.Proofs.Ytmmfojpbhkklpaa
open Go.ChangeShapes Go.WideShapes Go.ChangeAt Go.RowKit
set_option linter.unusedVariables false
set_option linter.unusedSimpArgs false
attribute [local go_sem ↓] Go.wp_at_zero Go.wp_at_succ
theorem eqArr4 (d : Nat) (w : World) (a b c e a' b' c' e' : Int) : (Op.equalIn (d + 2) 23 (.agg #[.int .i64 a, .int .i64 b, .int .i64 c, .int .i64 e]) (.agg #[.int .i64 a', .int .i64 b', .int .i64 c', .int .i64 e'])).run Try.prog w
    = .ok (a == a' && (b == b' && (c == c' && e == e'))) w := by
  obtain ⟨i, hi⟩ := infoI
  have hc : Try.prog.cellsOf 3 = 1 := by kernel_rfl
  rw [run_equalIn_array (i := i) w (d + 1) _ _ Try.underlying23 hi]
  rw [show List.range 4 = [0, 1, 2, 3] from rfl, hc]
  simp only [Op.eqItems]
  go_simp
  by_cases h1 : a = a' <;> by_cases h2 : b = b' <;> by_cases h3 : c = c' <;> by_cases h4 : e = e' <;> simp [h1, h2, h3, h4]
attribute [local go_sem] eqArr4
set_option maxHeartbeats 4000000 in
theorem addr_ok (x a b c d o : Int) (h0 : 0 ≤ x) (h1 : x < 18446744073709551616) (a0 : 0 ≤ a) (a1 : a ≤ 511) (b0 : 0 ≤ b) (b1 : b ≤ 511) (c0 : 0 ≤ c) (c1 : c ≤ 511) (d0 : 0 ≤ d) (d1 : d ≤ 511) (o0 : 0 ≤ o) (o1 : o ≤ 4095) (w : World) :
    Calls Try.prog 10 #[.int .u64 x, .int .i64 a, .int .i64 b, .int .i64 c, .int .i64 d, .int .i64 o] w fun e w' => e = .returned (.bool true) ∧ Below w.heap.size w w' := by
  go_enter Try.func10, Try.ntmps10
  have p1 : pv x 39 9 = x / 549755813888 % 512 := rfl; have p2 : pv x 30 9 = x / 1073741824 % 512 := rfl; have p3 : pv x 21 9 = x / 2097152 % 512 := rfl; have p4 : pv x 12 9 = x / 4096 % 512 := rfl; have p5 : pv x 0 12 = x % 4096 := by simp [pv]
  go_wp2_with fail
  refine (split_any x h0 h1 _).mono ?_; rintro e w1 ⟨rfl, hb1⟩
  obtain ⟨hc1, _⟩ := bcell hb1
  have hB1 : Below w.heap.size w w1 := b_then (by go_grown) hb1
  have hz1 := hb1.size; try simp only [World.size_alloc, World.size_setCell, World.size_drew] at hz1
  clear hb1
  go_wp2_with fail
  refine (join_ok a b c d o a0 a1 b0 b1 c0 c1 d0 d1 o0 o1 _).mono ?_; rintro e w2 ⟨rfl, hb2⟩
  obtain ⟨hc2, _⟩ := bcell hb2
  have hB2 : Below w.heap.size w w2 := b_then (by first | exact hB1 | (go_grown)) hb2
  have hz2 := hb2.size; try simp only [World.size_alloc, World.size_setCell, World.size_drew] at hz2
  have z2_0 : w1.heap.size < w2.heap.size := by omega
  clear hb2
  go_wp2_with fail
  go_region_held3 (fun W => W.cell? ⟨w1.heap.size, 0, none⟩ = some (.int .i64 (x / 549755813888 % 512)) ∧ W.cell? ⟨w1.heap.size, 1, none⟩ = some (.int .i64 (x / 1073741824 % 512)) ∧ W.cell? ⟨w1.heap.size, 2, none⟩ = some (.int .i64 (x / 2097152 % 512)) ∧ W.cell? ⟨w1.heap.size, 3, none⟩ = some (.int .i64 (x / 4096 % 512)))
    (first | go_keep | (go_split_ands; refine ⟨?_, ?_, ?_, ?_⟩ <;> (apply hk; assumption)))
    (first | (go_at_call 13; refine (awake_any _).mono ?_; rintro e w3 ⟨rfl, hb3⟩; have hk := bkeep hb3; have hB3 := b_then (by first | exact hB2 | exact hB2.drew) hb3; clear hb3) | (go_at_call 21; refine (canonical_any x h0 h1 _).mono ?_; rintro e w' ⟨rfl, rfl⟩) | (go_at_call 22; refine (rCanonical_any x h0 h1 _).mono ?_; rintro e w' ⟨rfl, rfl⟩) | (go_at_call 23; refine (part_any x _ _ h0 h1 (by omega) (by omega) (by omega) (by omega) _).mono ?_; rintro e w' ⟨rfl, rfl⟩))
  go_wp2
  go_rounds 5
  all_goals
    go_returns
    exact ⟨ret_v (congrArg Value.bool (beq_iff_eq.2 (by simp only [joinV, joinB]; split <;> omega))), by have := hB3.size; go_grown⟩
set_option maxHeartbeats 4000000 in
theorem addr_err (x a b c d o : Int) (h0 : 0 ≤ x) (h1 : x < 18446744073709551616) (h : o < 0 ∨ 4095 < o ∨ a < 0 ∨ 511 < a ∨ b < 0 ∨ 511 < b ∨ c < 0 ∨ 511 < c ∨ d < 0 ∨ 511 < d) (w : World) :
    Calls Try.prog 10 #[.int .u64 x, .int .i64 a, .int .i64 b, .int .i64 c, .int .i64 d, .int .i64 o] w fun e w' => e = .returned (.bool true) ∧ Below w.heap.size w w' := by
  have H := Lib.hid h; clear h
  go_enter Try.func10, Try.ntmps10
  have p1 : pv x 39 9 = x / 549755813888 % 512 := rfl; have p2 : pv x 30 9 = x / 1073741824 % 512 := rfl; have p3 : pv x 21 9 = x / 2097152 % 512 := rfl; have p4 : pv x 12 9 = x / 4096 % 512 := rfl; have p5 : pv x 0 12 = x % 4096 := by simp [pv]
  go_wp2_with fail
  refine (split_any x h0 h1 _).mono ?_; rintro e w1 ⟨rfl, hb1⟩
  obtain ⟨hc1, _⟩ := bcell hb1
  have hB1 : Below w.heap.size w w1 := b_then (by go_grown) hb1
  have hz1 := hb1.size; try simp only [World.size_alloc, World.size_setCell, World.size_drew] at hz1
  clear hb1
  go_wp2_with fail
  refine (join_err a b c d o _ H.out).mono ?_; rintro e w2 ⟨rfl, hb2⟩
  obtain ⟨hc2, _⟩ := bcell hb2
  have hB2 : Below w.heap.size w w2 := b_then (by first | exact hB1 | (go_grown)) hb2
  have hz2 := hb2.size; try simp only [World.size_alloc, World.size_setCell, World.size_drew] at hz2
  have z2_0 : w1.heap.size < w2.heap.size := by omega
  clear hb2
  go_wp2_with fail
  go_region_held3 (fun W => W.cell? ⟨w1.heap.size, 0, none⟩ = some (.int .i64 (x / 549755813888 % 512)) ∧ W.cell? ⟨w1.heap.size, 1, none⟩ = some (.int .i64 (x / 1073741824 % 512)) ∧ W.cell? ⟨w1.heap.size, 2, none⟩ = some (.int .i64 (x / 2097152 % 512)) ∧ W.cell? ⟨w1.heap.size, 3, none⟩ = some (.int .i64 (x / 4096 % 512)))
    (first | go_keep | (go_split_ands; refine ⟨?_, ?_, ?_, ?_⟩ <;> (apply hk; assumption)))
    (first | (go_at_call 13; refine (awake_any _).mono ?_; rintro e w3 ⟨rfl, hb3⟩; have hk := bkeep hb3; have hB3 := b_then (by first | exact hB2 | exact hB2.drew) hb3; clear hb3) | (go_at_call 21; refine (canonical_any x h0 h1 _).mono ?_; rintro e w' ⟨rfl, rfl⟩) | (go_at_call 22; refine (rCanonical_any x h0 h1 _).mono ?_; rintro e w' ⟨rfl, rfl⟩) | (go_at_call 23; refine (part_any x _ _ h0 h1 (by omega) (by omega) (by omega) (by omega) _).mono ?_; rintro e w' ⟨rfl, rfl⟩))
  go_wp2
  go_rounds 5
  all_goals first | (exfalso; have := H.out; omega) | (go_returns; exact ⟨ret_v (by simp), by have := hB3.size; go_grown⟩)
theorem walk_PteAddresses (a0 : Int) (a1 : Int) (a2 : Int) (a3 : Int) (a4 : Int) (a5 : Int) (w : World) (w0 : (Lit.int .u64 a0).wf = true) (w1 : (Lit.int .i64 a1).wf = true) (w2 : (Lit.int .i64 a2).wf = true) (w3 : (Lit.int .i64 a3).wf = true) (w4 : (Lit.int .i64 a4).wf = true) (w5 : (Lit.int .i64 a5).wf = true) :
    Calls Try.prog 10 #[.int .u64 a0, .int .i64 a1, .int .i64 a2, .int .i64 a3, .int .i64 a4, .int .i64 a5] w fun e w' => e = .returned (.bool true) ∧ Below w.heap.size w w' := by
  obtain ⟨h0, h1⟩ := bounds_u64 w0
  by_cases h : a5 < 0 ∨ 4095 < a5 ∨ a1 < 0 ∨ 511 < a1 ∨ a2 < 0 ∨ 511 < a2 ∨ a3 < 0 ∨ 511 < a3 ∨ a4 < 0 ∨ 511 < a4
  · exact addr_err _ _ _ _ _ _ h0 (by omega) h w
  · exact addr_ok _ _ _ _ _ _ h0 (by omega) (by omega) (by omega) (by omega) (by omega) (by omega) (by omega) (by omega) (by omega) (by omega) (by omega) w
end Go.Proofs.Ytmmfojpbhkklpaa
