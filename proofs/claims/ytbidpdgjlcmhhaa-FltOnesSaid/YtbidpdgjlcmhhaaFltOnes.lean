/- FltOnes: a number and nought, and times one, is itself. No condition. -/
import Derived.Test.YtbidpdgjlcmhhaaFltP
namespace Go.Proofs.Ytbidpdgjlcmhhaa
open Go.ChangeShapes Go.WideShapes Go.ChangeAt Go.RowKit
set_option linter.unusedVariables false
set_option linter.unusedSimpArgs false

theorem fromint_two (w : World) : Calls Try.prog 18 #[.int .i64 2] w fun e w' => e = .returned (.int .u64 4611686018427387904) ∧ w' = w := by
  have hc : ∀ w, (convert 2 43 (.int .i64 2)).run Try.prog w = .ok (.float .f64 4611686018427387904) w := fun _ => by kernel_rfl
  have ht := to_bits
  go_enter Try.func18, Try.ntmps18
  go_wp2_with fail
  go_returns
  exact ⟨rfl, rfl⟩
set_option maxHeartbeats 4000000 in
theorem ones_none (a c : Int) (hc : c = 4) (ca : ∀ W, Calls Try.prog 12 #[.int .u64 a] W fun e w' => e = .returned (.int .i64 c) ∧ w' = W) (w : World) :
    Calls Try.prog 7 #[.int .u64 a] w fun e w' => e = .returned (.bool true) ∧ Below w.heap.size w w' := by
  subst hc
  have CA := Lib.hid ca
  clear ca
  go_enter Try.func7, Try.ntmps7
  go_wp2_with ((go_at_call 12; ((with_reducible refine (CA.out _).mono ?_); rintro e w9 ⟨rfl, hw⟩; obtain rfl := hw.symm; clear hw)))
  refine (awake_true _).mono ?_
  rintro e v1 ⟨rfl, hb⟩
  go_wp2_with fail
  go_returns
  exact ⟨rfl, hb⟩
set_option maxRecDepth 100000 in
set_option maxHeartbeats 4000000 in
theorem ones_low (a c f1 f2 f3 : Int) (t : (c == 4) = false) (ca : ∀ W, Calls Try.prog 12 #[.int .u64 a] W fun e w' => e = .returned (.int .i64 c) ∧ w' = W)
    (d1 : ∀ W, Calls Try.prog 16 #[.int .i64 1, .int .u64 a, .int .u64 9223372036854775808] W fun e w' => e = .returned (.tuple #[.int .u64 a, .int .i64 f1, .int .i64 0]) ∧ Below W.heap.size W w')
    (d2 : ∀ W, Calls Try.prog 16 #[.int .i64 2, .int .u64 a, .int .u64 0] W fun e w' => e = .returned (.tuple #[.int .u64 a, .int .i64 f2, .int .i64 0]) ∧ Below W.heap.size W w')
    (d3 : ∀ W, Calls Try.prog 16 #[.int .i64 3, .int .u64 a, .int .u64 4607182418800017408] W fun e w' => e = .returned (.tuple #[.int .u64 a, .int .i64 f3, .int .i64 0]) ∧ Below W.heap.size W w')
    (d4 : ∀ W, Calls Try.prog 16 #[.int .i64 4, .int .u64 a, .int .u64 4607182418800017408] W fun e w' => e = .returned (.tuple #[.int .u64 a, .int .i64 0, .int .i64 0]) ∧ Below W.heap.size W w')
    (g : decide (IntKind.u64.wrap (a * 2) / 9007199254740992 < 2) = true) (w : World) :
    Calls Try.prog 7 #[.int .u64 a] w fun e w' => e = .returned (.bool true) ∧ Below w.heap.size w w' := by
  have CA := Lib.hid ca
  have F1 := Lib.hid fromint_one
  have F2 := Lib.hid fromint_two
  have D1 := Lib.hid d1
  have D2 := Lib.hid d2
  have D3 := Lib.hid d3
  have D4 := Lib.hid d4
  clear ca d1 d2 d3 d4
  go_enter Try.func7, Try.ntmps7
  go_wp2_with (first | (go_at_call 12; ((with_reducible refine (CA.out _).mono ?_); rintro e w9 ⟨rfl, hw⟩; obtain rfl := hw.symm; clear hw)) | (go_at_call 18; ((with_reducible refine (F1.out _).mono ?_); rintro e w9 ⟨rfl, hw⟩; obtain rfl := hw.symm; clear hw)) | (go_at_call 18; ((with_reducible refine (F2.out _).mono ?_); rintro e w9 ⟨rfl, hw⟩; obtain rfl := hw.symm; clear hw)))
  refine (D1.out _).mono ?_
  rintro e s1 ⟨rfl, hs1⟩
  go_wp2_with fail
  refine (D2.out _).mono ?_
  rintro e s2 ⟨rfl, hs2⟩
  go_wp2_with fail
  refine (D3.out _).mono ?_
  rintro e s3 ⟨rfl, hs3⟩
  go_wp2_with fail
  refine (D4.out _).mono ?_
  rintro e s4 ⟨rfl, hs4⟩
  go_wp2_with fail
  refine (awake_true _).mono ?_
  rintro e s9 ⟨rfl, hs9⟩
  go_wp2_with fail
  go_returns
  exact ⟨rfl, b_then (b_then (b_then (b_then hs1 hs2) hs3) hs4) hs9⟩
set_option maxRecDepth 100000 in
set_option maxHeartbeats 4000000 in
theorem ones_high (a c f1 f2 f3 h f5 f6 : Int) (t : (c == 4) = false) (ca : ∀ W, Calls Try.prog 12 #[.int .u64 a] W fun e w' => e = .returned (.int .i64 c) ∧ w' = W)
    (d1 : ∀ W, Calls Try.prog 16 #[.int .i64 1, .int .u64 a, .int .u64 9223372036854775808] W fun e w' => e = .returned (.tuple #[.int .u64 a, .int .i64 f1, .int .i64 0]) ∧ Below W.heap.size W w')
    (d2 : ∀ W, Calls Try.prog 16 #[.int .i64 2, .int .u64 a, .int .u64 0] W fun e w' => e = .returned (.tuple #[.int .u64 a, .int .i64 f2, .int .i64 0]) ∧ Below W.heap.size W w')
    (d3 : ∀ W, Calls Try.prog 16 #[.int .i64 3, .int .u64 a, .int .u64 4607182418800017408] W fun e w' => e = .returned (.tuple #[.int .u64 a, .int .i64 f3, .int .i64 0]) ∧ Below W.heap.size W w')
    (d4 : ∀ W, Calls Try.prog 16 #[.int .i64 4, .int .u64 a, .int .u64 4607182418800017408] W fun e w' => e = .returned (.tuple #[.int .u64 a, .int .i64 0, .int .i64 0]) ∧ Below W.heap.size W w')
    (d5 : ∀ W, Calls Try.prog 16 #[.int .i64 4, .int .u64 a, .int .u64 4611686018427387904] W fun e w' => e = .returned (.tuple #[.int .u64 h, .int .i64 f5, .int .i64 0]) ∧ Below W.heap.size W w')
    (d6 : ∀ W, Calls Try.prog 16 #[.int .i64 1, .int .u64 h, .int .u64 h] W fun e w' => e = .returned (.tuple #[.int .u64 a, .int .i64 f6, .int .i64 0]) ∧ Below W.heap.size W w')
    (g : decide (IntKind.u64.wrap (a * 2) / 9007199254740992 < 2) = false) (w : World) :
    Calls Try.prog 7 #[.int .u64 a] w fun e w' => e = .returned (.bool true) ∧ Below w.heap.size w w' := by
  have CA := Lib.hid ca
  have F1 := Lib.hid fromint_one
  have F2 := Lib.hid fromint_two
  have D1 := Lib.hid d1
  have D2 := Lib.hid d2
  have D3 := Lib.hid d3
  have D4 := Lib.hid d4
  have D5 := Lib.hid d5
  have D6 := Lib.hid d6
  clear ca d1 d2 d3 d4 d5 d6
  go_enter Try.func7, Try.ntmps7
  go_wp2_with (first | (go_at_call 12; ((with_reducible refine (CA.out _).mono ?_); rintro e w9 ⟨rfl, hw⟩; obtain rfl := hw.symm; clear hw)) | (go_at_call 18; ((with_reducible refine (F1.out _).mono ?_); rintro e w9 ⟨rfl, hw⟩; obtain rfl := hw.symm; clear hw)) | (go_at_call 18; ((with_reducible refine (F2.out _).mono ?_); rintro e w9 ⟨rfl, hw⟩; obtain rfl := hw.symm; clear hw)))
  refine (D1.out _).mono ?_
  rintro e s1 ⟨rfl, hs1⟩
  go_wp2_with fail
  refine (D2.out _).mono ?_
  rintro e s2 ⟨rfl, hs2⟩
  go_wp2_with fail
  refine (D3.out _).mono ?_
  rintro e s3 ⟨rfl, hs3⟩
  go_wp2_with fail
  refine (D4.out _).mono ?_
  rintro e s4 ⟨rfl, hs4⟩
  go_wp2_with fail
  refine (D5.out _).mono ?_
  rintro e s5 ⟨rfl, hs5⟩
  go_wp2_with fail
  refine (D6.out _).mono ?_
  rintro e s6 ⟨rfl, hs6⟩
  go_wp2_with fail
  refine (awake_true _).mono ?_
  rintro e s9 ⟨rfl, hs9⟩
  go_wp2_with fail
  go_returns
  exact ⟨rfl, b_then (b_then (b_then (b_then (b_then (b_then hs1 hs2) hs3) hs4) hs5) hs6) hs9⟩
theorem do_num (op : Int) (x y r : Nat) (ho : 1 ≤ op ∧ op ≤ 6) (hx : x < 18446744073709551616) (hy : y < 18446744073709551616) (hr : rawF op x y = some r) (hn : nanN r = false) :
    ∃ f : Int, (f = flagF op (fcls x) (fcls y) (fcls r) (sigB x) (sigB y)) ∧ ∀ W, Calls Try.prog 16 #[.int .i64 op, .int .u64 x, .int .u64 y] W fun e w' => e = .returned (.tuple #[.int .u64 r, .int .i64 f, .int .i64 0]) ∧ Below W.heap.size W w' := by
  refine ⟨_, rfl, ?_⟩
  have h := do_arith op ho x y hx hy
  have h4 : fcls r ≠ 4 := fun e => by rw [(cls_nan r).2 e] at hn; cases hn
  unfold doV at h
  rw [hr, show outF (some r) = r from if_neg h4] at h
  exact h
theorem flag_one {x : Nat} (hn : nanN x = false) : flagF 4 (fcls x) (fcls 4607182418800017408) (fcls x) (sigB x) (sigB 4607182418800017408) = 0 := by
  have h4 : fcls x ≠ 4 := fun e => by rw [(cls_nan x).2 e] at hn; cases hn
  have hs : sigB x = false := by unfold sigB; rw [show (fcls x == 4) = false from beq_false_of_ne h4]; rfl
  have h1 : sigB 4607182418800017408 = false := by decide
  have hc : fcls 4607182418800017408 = 2 := by decide
  unfold flagF
  rw [hs, h1, hc, show (fcls x == 4) = false from beq_false_of_ne h4]
  by_cases h3 : fcls x = 3 <;> simp [h3]
theorem u64_natO {x : Int} (h : (Lit.int .u64 x).wf = true) : ∃ n : Nat, x = n ∧ n < 18446744073709551616 := by
  simp [Lit.wf, IntKind.min, IntKind.max, IntKind.signed, IntKind.bits] at h
  exact ⟨x.toNat, by omega, by omega⟩
theorem walk_FltOnes (a0 : Int) (w : World) (w0 : (Lit.int .u64 a0).wf = true) :
    Calls Try.prog 7 #[.int .u64 a0] w fun e w' => e = .returned (.bool true) ∧ Below w.heap.size w w' := by
  obtain ⟨x, rfl, hx⟩ := u64_natO w0
  by_cases hc : fcls x = 4
  · exact ones_none _ _ hc (class_any x hx) w
  have t : (fcls x == 4) = false := beq_false_of_ne hc
  have hn : nanN x = false := by cases h : nanN x; rfl; exact absurd ((cls_nan x).1 h) hc
  obtain ⟨f1, _, d1⟩ := do_num 1 x 9223372036854775808 x (by omega) hx (by omega) (show Ieee.double.add x _ = _ by unfold Ieee.Format.add; rw [read_mzero]; exact add_mzero x hx hn) hn
  obtain ⟨f2, _, d2⟩ := do_num 2 x 0 x (by omega) hx (by omega) (show Ieee.double.sub x _ = _ from add_mzero x hx hn) hn
  obtain ⟨f3, _, d3⟩ := do_num 3 x 4607182418800017408 x (by omega) hx (by omega) (mul_one_ x hx hn) hn
  obtain ⟨f4, e4, d4⟩ := do_num 4 x 4607182418800017408 x (by omega) hx (by omega) (div_one_ x hx hn) hn
  rw [flag_one hn] at e4
  subst e4
  by_cases g : IntKind.u64.wrap ((x : Int) * 2) / 9007199254740992 < 2
  · exact ones_low _ _ _ _ _ t (class_any x hx) d1 d2 d3 d4 (decide_eq_true g) w
  · have h2 : 2 * 4503599627370496 ≤ rg x := by rw [IntKind.wrap_u64] at g; unfold rg; omega
    obtain ⟨f5, _, d5⟩ := do_num 4 x 4611686018427387904 (halfF x) (by omega) hx (by omega) (div_two_ x hx hn h2) (half_num hn h2)
    obtain ⟨f6, _, d6⟩ := do_num 1 (halfF x) (halfF x) x (by omega) (half_lt hx) (half_lt hx) (half_twice x hx hn h2) hn
    exact ones_high _ _ _ _ _ _ _ _ t (class_any x hx) d1 d2 d3 d4 d5 d6 (decide_eq_false g) w
end Go.Proofs.Ytbidpdgjlcmhhaa
