/- New, Charge, Credit of the tree. No condition but bounds. -/
import Derived.Test.YtgnkgfejnnkkaaaQuo
namespace Go.Proofs.Ytgnkgfejnnkkaaa
open Go.ChangeShapes Go.WideShapes Go.ChangeAt Go.RowKit
set_option linter.unusedVariables false
set_option linter.unusedSimpArgs false
theorem new_bad {w : World} (q : Int) (h : q < 0 ∨ 1048576 < q) : Calls Try.prog 9 #[.int .i64 q] w fun e w' => e = .returned (.tuple #[.pointer none, .int .i64 1]) ∧ w' = w := by
  by_cases h0 : q < 0
  · have d1 : decide (q < 0) = true := decide_eq_true h0
    clear h h0
    go_enter Try.func9, Try.ntmps9
    go_wp2
    go_returns
    exact ⟨rfl, rfl⟩
  · have d1 : decide (q < 0) = false := decide_eq_false h0
    have d2 : decide (1048576 < q) = true := decide_eq_true (by omega)
    clear h h0
    go_enter Try.func9, Try.ntmps9
    go_wp2
    go_returns
    exact ⟨rfl, rfl⟩
theorem new_good {w : World} (q : Int) (h0 : 0 ≤ q) (h1 : q ≤ 1048576) : Calls Try.prog 9 #[.int .i64 q] w fun e w' => ∃ t v, e = .returned (.tuple #[.pointer (some ⟨t, 0, none⟩), .int .i64 0]) ∧ TreeAt w' w.heap.size t v [⟨-1, q, 0, 0, true⟩] ∧ Below w.heap.size w w' := by
  have d1 : decide (q < 0) = false := decide_eq_false (by omega)
  have d2 : decide (1048576 < q) = false := decide_eq_false (by omega)
  have hT : TreeAt ((w.alloc (.cells #[.int .i64 (-1), .int .i64 q, .int .i64 0, .int .i64 0, .bool true] 39)).alloc (.cells #[.slice (some ⟨w.heap.size, 0, none⟩) 1 1] 52)) w.heap.size (w.heap.size + 1) (.slice (some ⟨w.heap.size, 0, none⟩) 1 1) [⟨-1, q, 0, 0, true⟩] := by
    have o0 := World.ownsRow_lit (base := w.heap.size) (e := 39) (size := 5) w #[.int .i64 (-1), .int .i64 q, .int .i64 0, .int .i64 0, .bool true] 1 (Nat.le_refl _) (by simp [maxLen]) (by simp)
    refine ⟨?_, o0.alloc _, by omega, by simp⟩
    have := heap_new (w.alloc (.cells #[.int .i64 (-1), .int .i64 q, .int .i64 0, .int .i64 0, .bool true] 39)) (.cells #[.slice (some ⟨w.heap.size, 0, none⟩) 1 1] 52)
    rwa [World.size_alloc] at this
  have HT := Lib.hid hT
  clear h0 h1 hT
  go_enter Try.func9, Try.ntmps9
  go_wp2
  go_returns
  exact ⟨_, _, rfl, HT.out, by go_grown⟩
end Go.Proofs.Ytgnkgfejnnkkaaa
