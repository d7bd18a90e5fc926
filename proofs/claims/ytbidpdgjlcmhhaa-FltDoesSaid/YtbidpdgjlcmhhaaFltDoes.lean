/- FltDoes: each operation has the result that the document gives, and tells what it must. No condition. -/
import Derived.Test.YtbidpdgjlcmhhaaFltY
import Derived.Test.YtbidpdgjlcmhhaaFltG
namespace Go.Proofs.Ytbidpdgjlcmhhaa
open Go.ChangeShapes Go.WideShapes Go.ChangeAt Go.RowKit
set_option linter.unusedVariables false
set_option linter.unusedSimpArgs false
theorem does_law (op x y X F E : Int) (h1 : ∀ W, Calls Try.prog 16 #[.int .i64 op, .int .u64 x, .int .u64 y] W fun e w' => e = .returned (.tuple #[.int .u64 X, .int .i64 F, .int .i64 E]) ∧ Below W.heap.size W w')
    (h2 : ∀ W, Calls Try.prog 17 #[.int .i64 op, .int .u64 x, .int .u64 y] W fun e w' => e = .returned (.tuple #[.int .u64 X, .int .i64 F, .int .i64 E]) ∧ Below W.heap.size W w') (w : World) :
    Calls Try.prog 4 #[.int .i64 op, .int .u64 x, .int .u64 y] w fun e w' => e = .returned (.bool true) ∧ Below w.heap.size w w' := by
  have H1 := Lib.hid h1
  have H2 := Lib.hid h2
  clear h1 h2
  go_enter Try.func4, Try.ntmps4
  go_wp2_with fail
  refine (H1.out _).mono ?_
  rintro e w1 ⟨rfl, hb1⟩
  go_wp2_with fail
  refine (H2.out _).mono ?_
  rintro e w2 ⟨rfl, hb2⟩
  go_wp2_with fail
  refine (awake_true _).mono ?_
  rintro e w3 ⟨rfl, hb3⟩
  go_wp2
  go_returns
  exact ⟨rfl, b_then3 hb1 hb2 hb3⟩
theorem same_below {f : FuncId} {args : Array Value} {v : Value} {w : World} (h : Calls Try.prog f args w fun e w' => e = .returned v ∧ w' = w) : Calls Try.prog f args w fun e w' => e = .returned v ∧ Below w.heap.size w w' :=
  h.mono fun _ _ ⟨he, hw⟩ => ⟨he, by rw [hw]; exact Below.refl _ _⟩
theorem u64_natD {x : Int} (h : (Lit.int .u64 x).wf = true) : ∃ n : Nat, x = n ∧ n < 18446744073709551616 := by
  simp [Lit.wf, IntKind.min, IntKind.max, IntKind.signed, IntKind.bits] at h
  exact ⟨x.toNat, by omega, by omega⟩
theorem walk_FltDoes (a0 : Int) (a1 : Int) (a2 : Int) (w : World) (w0 : (Lit.int .i64 a0).wf = true) (w1 : (Lit.int .u64 a1).wf = true) (w2 : (Lit.int .u64 a2).wf = true) :
    Calls Try.prog 4 #[.int .i64 a0, .int .u64 a1, .int .u64 a2] w fun e w' => e = .returned (.bool true) ∧ Below w.heap.size w w' := by
  obtain ⟨x, rfl, hx⟩ := u64_natD w1
  obtain ⟨y, rfl, hy⟩ := u64_natD w2
  by_cases h : 1 ≤ a0 ∧ a0 ≤ 6
  · exact does_law a0 x y _ _ _ (do_arith a0 h x y hx hy) (refdo_arith a0 x y h hx hy) w
  by_cases h7 : a0 = 7
  · subst h7; exact does_law 7 x y _ _ _ (do_neg x y hx) (fun W => same_below (refdo_neg x y hx W)) w
  by_cases h8 : a0 = 8
  · subst h8; exact does_law 8 x y _ _ _ (do_abs x y hx) (fun W => same_below (refdo_abs x y hx W)) w
  exact does_law a0 x y _ _ _ (do_out a0 x y (by omega)) (fun W => same_below (refdo_out a0 x y (by omega) W)) w
end Go.Proofs.Ytbidpdgjlcmhhaa
