/- What the laws of layer 17 ask first (awake); rows of four registers compared. No condition. -/
import Derived.Test.YtokmcjjdoiaeaaaTrap
import Derived.Lib.Hide
namespace Go.Proofs.Ytokmcjjdoiaeaaa
open Go.ChangeShapes Go.WideShapes Go.ChangeAt Go.RowKit
set_option linter.unusedVariables false
set_option linter.unusedSimpArgs false
theorem infoU : ∃ i, Try.prog.info? 22 = some i := Option.isSome_iff_exists.1 (by kernel_rfl)
theorem eqRegs (d : Nat) (w : World) (a b c e a' b' c' e' : Int) : (Op.equalIn (d + 2) 24 (.agg #[.int .u64 a, .int .u64 b, .int .u64 c, .int .u64 e]) (.agg #[.int .u64 a', .int .u64 b', .int .u64 c', .int .u64 e'])).run Try.prog w
    = .ok (a == a' && (b == b' && (c == c' && e == e'))) w := by
  obtain ⟨i, hi⟩ := infoU
  have hc : Try.prog.cellsOf 22 = 1 := by kernel_rfl
  rw [run_equalIn_array (i := i) w (d + 1) _ _ Try.underlying24 hi]
  rw [show List.range 4 = [0, 1, 2, 3] from rfl, hc]
  simp only [Op.eqItems]
  go_simp
  by_cases h1 : a = a' <;> by_cases h2 : b = b' <;> by_cases h3 : c = c' <;> by_cases h4 : e = e' <;> simp [h1, h2, h3, h4]
section
attribute [local go_sem] eqRegs
set_option maxHeartbeats 1000000 in
theorem awake_any (w : World) : Calls Try.prog 8 #[] w fun e w' => e = .returned (.bool true) ∧ Below w.heap.size w w' := by
  go_enter Try.func8, Try.ntmps8
  go_wp2_with fail
  refine (handle_ok 0 0 0 0 0 0 false 0 0 0 0 0 0 4096 _).mono ?_; rintro e w1 ⟨rfl, hb1⟩
  obtain ⟨hc1, _⟩ := bcell hb1
  have hB1 : Below w.heap.size w w1 := b_then (by go_grown) hb1
  have hz1 := hb1.size; try simp only [World.size_alloc, World.size_setCell, World.size_drew] at hz1
  clear hb1
  go_wp2_with fail
  refine (raise_ok 0 0 0 0 0 4096 false 0 0 0 0 0 0 9 6 (by decide) _).mono ?_; rintro e w2 ⟨rfl, hb2⟩
  obtain ⟨hc2, _⟩ := bcell hb2
  have hB2 : Below w.heap.size w w2 := b_then (by first | exact hB1 | (go_grown)) hb2
  have hz2 := hb2.size; try simp only [World.size_alloc, World.size_setCell, World.size_drew] at hz2
  have z2_0 : w1.heap.size < w2.heap.size := by omega
  clear hb2
  go_wp2_with fail
  refine (return_ok 9 6 0 0 0 4096 true 9 6 0 0 0 0 _).mono ?_; rintro e w3 ⟨rfl, hb3⟩
  obtain ⟨hc3, _⟩ := bcell hb3
  have hB3 : Below w.heap.size w w3 := b_then (by first | exact hB2 | (go_grown)) hb3
  have hz3 := hb3.size; try simp only [World.size_alloc, World.size_setCell, World.size_drew] at hz3
  have z3_0 : w1.heap.size < w3.heap.size := by omega
  have z3_1 : w2.heap.size < w3.heap.size := by omega
  clear hb3
  go_wp2
  go_returns
  exact ⟨rfl, by go_grown⟩
end
end Go.Proofs.Ytokmcjjdoiaeaaa
