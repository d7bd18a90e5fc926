/- FltWhole: whole numbers of up to 26 bits go and come back, and are added and multiplied exactly. No condition. -/
import Derived.Test.YtbidpdgjlcmhhaaFltG
import Derived.Test.YtbidpdgjlcmhhaaFltQ
namespace Go.Proofs.Ytbidpdgjlcmhhaa
open Go.ChangeShapes Go.WideShapes Go.ChangeAt Go.RowKit
set_option linter.unusedVariables false
set_option linter.unusedSimpArgs false

theorem fromint_val (n : Int) (hn : n.natAbs < 9007199254740992) (w : World) : Calls Try.prog 18 #[.int .i64 n] w fun e w' => e = .returned (.int .u64 (fiN n)) ∧ w' = w := by
  have e : floatOfInt .f64 n = fiN n := by
    show Ieee.double.nearest (decide (n < 0)) n.natAbs 0 = _
    have := nearest_int (decide (n < 0)) n.natAbs 0 hn
    rw [Nat.pow_zero, Nat.mul_one] at this
    exact this
  have hc : ∀ w, (convert 2 43 (.int .i64 n)).run Try.prog w = .ok (.float .f64 (fiN n)) w := fun w => (run_convert_int_float w _ _ _ _ n (by rfl) (by rfl)).trans (by rw [e])
  clear e hn
  generalize fiN n = f at *
  have ht := to_bits
  go_enter Try.func18, Try.ntmps18
  go_wp2_with fail
  go_returns
  exact ⟨rfl, rfl⟩
theorem toint_val (x : Nat) (v : Int) (h1 : (FloatKind.f64.format.order x 14114281232179134465 == some Ordering.gt) = true) (h2 : (FloatKind.f64.format.order x 4890909195324358656 == some Ordering.lt) = true) (hv : floatToIntVal .f64 x .i64 = some v) (w : World) :
    Calls Try.prog 19 #[.int .u64 x] w fun e w' => e = .returned (.tuple #[.int .i64 v, .int .i64 0]) ∧ w' = w := by
  have hc : ∀ w, (convert 43 2 (.float .f64 x)).run Try.prog w = .ok (.int .i64 v) w := fun w => run_convert_float_int w _ _ _ _ x v (by rfl) (by rfl) hv
  have hf := from_bits
  clear hv
  go_enter Try.func19, Try.ntmps19
  go_wp2_with fail
  go_returns
  exact ⟨rfl, rfl⟩
theorem toint_num (s : Bool) (m : Nat) (h : m < 9007199254740992) (v : Int) (hv : Ieee.signed s m 0 = v) (w : World) :
    Calls Try.prog 19 #[.int .u64 (Ieee.double.word s (frR m) : Nat)] w fun e w' => e = .returned (.tuple #[.int .i64 v, .int .i64 0]) ∧ w' = w := by
  have hf := frR_lt h
  have hp := word_parts s (frR m) (by omega)
  have hk : keyN (Ieee.double.word s (frR m)) = skey s (frR m) := by unfold keyN; rw [hp.1, hp.2.1]
  have hn : nanN (Ieee.double.word s (frR m)) = false := by unfold nanN; rw [hp.1]; exact decide_eq_false (by unfold infR; omega)
  refine toint_val _ v ?_ ?_ ?_ w
  · rw [order64, hn, show nanN 14114281232179134465 = false by decide, show keyN 14114281232179134465 = -4890909195324358657 by decide, if_neg (by decide), cmp_gt, hk]
    exact decide_eq_true (by unfold skey; split <;> omega)
  · rw [order64, hn, show nanN 4890909195324358656 = false by decide, show keyN 4890909195324358656 = 4890909195324358656 by decide, if_neg (by decide), cmp_lt, hk]
    exact decide_eq_true (by unfold skey; split <;> omega)
  · unfold floatToIntVal
    show (match (Ieee.double.read _).toInt .zero with | some n => if IntKind.i64.min ≤ n ∧ n ≤ IntKind.i64.max then some n else none | none => none) = _
    rw [toint_word s m h, hv]
    have hb : v.natAbs < 9007199254740992 := by rw [← hv, signed_abs]; omega
    exact if_pos ⟨show -9223372036854775808 ≤ v by omega, show v ≤ 9223372036854775807 by omega⟩
set_option maxRecDepth 100000 in
set_option maxHeartbeats 4000000 in
theorem whole_any (a0 b0 A B x y S P : Int) (ea : Int.tmod a0 67108864 = A) (eb : Int.tmod b0 67108864 = B) (wa : wrap64 A = A) (wb : wrap64 B = B) (ws : wrap64 (A + B) = A + B) (wm : wrap64 (A * B) = A * B)
    (f1 : ∀ W, Calls Try.prog 18 #[.int .i64 A] W fun e w' => e = .returned (.int .u64 x) ∧ w' = W)
    (f2 : ∀ W, Calls Try.prog 18 #[.int .i64 B] W fun e w' => e = .returned (.int .u64 y) ∧ w' = W)
    (tx : ∀ W, Calls Try.prog 19 #[.int .u64 x] W fun e w' => e = .returned (.tuple #[.int .i64 A, .int .i64 0]) ∧ w' = W)
    (d1 : ∀ W, Calls Try.prog 16 #[.int .i64 1, .int .u64 x, .int .u64 y] W fun e w' => e = .returned (.tuple #[.int .u64 S, .int .i64 0, .int .i64 0]) ∧ Below W.heap.size W w')
    (d3 : ∀ W, Calls Try.prog 16 #[.int .i64 3, .int .u64 x, .int .u64 y] W fun e w' => e = .returned (.tuple #[.int .u64 P, .int .i64 0, .int .i64 0]) ∧ Below W.heap.size W w')
    (ts : ∀ W, Calls Try.prog 19 #[.int .u64 S] W fun e w' => e = .returned (.tuple #[.int .i64 (A + B), .int .i64 0]) ∧ w' = W)
    (tp : ∀ W, Calls Try.prog 19 #[.int .u64 P] W fun e w' => e = .returned (.tuple #[.int .i64 (A * B), .int .i64 0]) ∧ w' = W) (w : World) :
    Calls Try.prog 9 #[.int .i64 a0, .int .i64 b0] w fun e w' => e = .returned (.bool true) ∧ Below w.heap.size w w' := by
  have F1 := Lib.hid f1
  have F2 := Lib.hid f2
  have TX := Lib.hid tx
  have D1 := Lib.hid d1
  have D3 := Lib.hid d3
  have TS := Lib.hid ts
  have TP := Lib.hid tp
  clear f1 f2 tx d1 d3 ts tp
  go_enter Try.func9, Try.ntmps9
  go_wp2_with fail
  refine (F1.out _).mono ?_
  rintro e s1 ⟨rfl, hw⟩
  obtain rfl := hw.symm
  clear hw
  go_wp2_with fail
  refine (F2.out _).mono ?_
  rintro e s2 ⟨rfl, hw⟩
  obtain rfl := hw.symm
  clear hw
  go_wp2_with fail
  refine (TX.out _).mono ?_
  rintro e s3 ⟨rfl, hw⟩
  obtain rfl := hw.symm
  clear hw
  go_wp2_with fail
  refine (D1.out _).mono ?_
  rintro e s4 ⟨rfl, hs4⟩
  go_wp2_with fail
  refine (D3.out _).mono ?_
  rintro e s5 ⟨rfl, hs5⟩
  go_wp2_with fail
  refine (TS.out _).mono ?_
  rintro e s6 ⟨rfl, hw⟩
  obtain rfl := hw.symm
  clear hw
  go_wp2_with fail
  refine (TP.out _).mono ?_
  rintro e s7 ⟨rfl, hw⟩
  obtain rfl := hw.symm
  clear hw
  go_wp2_with fail
  refine (awake_true _).mono ?_
  rintro e s9 ⟨rfl, hs9⟩
  go_wp2_with fail
  go_returns
  exact ⟨rfl, b_then (b_then hs4 hs5) hs9⟩
theorem fi_small (s : Bool) (m : Nat) (h : m < 9007199254740992) : Ieee.double.word s (frR m) < 18446744073709551616 ∧ nanN (Ieee.double.word s (frR m)) = false ∧ (fcls (Ieee.double.word s (frR m)) == 3) = false ∧ (fcls (Ieee.double.word s (frR m)) == 4) = false ∧ sigB (Ieee.double.word s (frR m)) = false := by
  have hf := frR_lt h
  have hp := word_parts s (frR m) (by omega)
  have hc : fcls (Ieee.double.word s (frR m)) = clsR (frR m) := by unfold fcls; rw [hp.1]
  have hi : frR m < infR := by unfold infR; omega
  have h3 : (clsR (frR m) == 3) = false ∧ (clsR (frR m) == 4) = false := by
    unfold clsR
    by_cases c1 : frR m = 0
    · rw [if_pos c1]; decide
    · rw [if_neg c1]
      by_cases c2 : frR m < 4503599627370496
      · rw [if_pos c2]; decide
      · rw [if_neg c2, if_pos hi]; decide
  refine ⟨hp.2.2, ?_, ?_, ?_, ?_⟩
  · unfold nanN; rw [hp.1]; exact decide_eq_false (by omega)
  · rw [hc]; exact h3.1
  · rw [hc]; exact h3.2
  · unfold sigB; rw [hc, h3.2]; rfl
theorem do_whole (op : Int) (ho : op = 1 ∨ op = 3) (s t u : Bool) (m n k : Nat) (hm : m < 9007199254740992) (hn : n < 9007199254740992) (hk : k < 9007199254740992) (hr : rawF op (Ieee.double.word s (frR m)) (Ieee.double.word t (frR n)) = some (Ieee.double.word u (frR k))) :
    ∀ W, Calls Try.prog 16 #[.int .i64 op, .int .u64 (Ieee.double.word s (frR m) : Nat), .int .u64 (Ieee.double.word t (frR n) : Nat)] W fun e w' => e = .returned (.tuple #[.int .u64 (Ieee.double.word u (frR k) : Nat), .int .i64 0, .int .i64 0]) ∧ Below W.heap.size W w' := by
  have x1 := fi_small s m hm
  have x2 := fi_small t n hn
  have x3 := fi_small u k hk
  have h := do_arith op (by omega) _ _ x1.1 x2.1
  unfold doV at h
  rw [hr] at h
  have ho4 : outF (some (Ieee.double.word u (frR k))) = Ieee.double.word u (frR k) := if_neg (ne_of_beq_false x3.2.2.2.1)
  have hf : flagF op (fcls (Ieee.double.word s (frR m))) (fcls (Ieee.double.word t (frR n))) (clsO (some (Ieee.double.word u (frR k)))) (sigB (Ieee.double.word s (frR m))) (sigB (Ieee.double.word t (frR n))) = 0 := by
    unfold flagF clsO
    simp only [x1.2.2.2.2, x2.2.2.2.2, x3.2.2.1, x3.2.2.2.1]
    simp
  rw [ho4, hf] at h
  exact h
theorem mul_small {a b : Int} (ha : a.natAbs < 67108864) (hb : b.natAbs < 67108864) : (a * b).natAbs < 9007199254740992 := by
  rw [Int.natAbs_mul]
  have : a.natAbs * b.natAbs ≤ 67108864 * 67108864 := Nat.mul_le_mul (by omega) (by omega)
  omega
theorem mul_sign (a b : Int) : Ieee.signed (decide (a < 0) ^^ decide (b < 0)) (a * b).natAbs 0 = a * b := by
  have e : a * b = Ieee.signed (decide (a < 0)) a.natAbs 0 * Ieee.signed (decide (b < 0)) b.natAbs 0 := by rw [signed_self, signed_self]
  rw [Int.natAbs_mul]
  conv => rhs; rw [e]
  unfold Ieee.signed
  simp only [Nat.shiftLeft_eq, Nat.pow_zero, Nat.mul_one]
  by_cases h1 : a < 0 <;> by_cases h2 : b < 0 <;> simp [h1, h2, Int.neg_mul, Int.mul_neg]
theorem walk_FltWhole (a0 : Int) (a1 : Int) (w : World) (w0 : (Lit.int .i64 a0).wf = true) (w1 : (Lit.int .i64 a1).wf = true) :
    Calls Try.prog 9 #[.int .i64 a0, .int .i64 a1] w fun e w' => e = .returned (.bool true) ∧ Below w.heap.size w w' := by
  obtain ⟨A, ea⟩ : ∃ A, Int.tmod a0 67108864 = A := ⟨_, rfl⟩
  obtain ⟨B, eb⟩ : ∃ B, Int.tmod a1 67108864 = B := ⟨_, rfl⟩
  have hA : A.natAbs < 67108864 := by rw [← ea, Int.natAbs_tmod]; exact Nat.mod_lt _ (by decide)
  have hB : B.natAbs < 67108864 := by rw [← eb, Int.natAbs_tmod]; exact Nat.mod_lt _ (by decide)
  have hM := mul_small hA hB
  have hA' : A.natAbs < 9007199254740992 := by omega
  have hB' : B.natAbs < 9007199254740992 := by omega
  have hS : (A + B).natAbs < 9007199254740992 := by omega
  have ww : ∀ n : Int, n.natAbs < 9007199254740992 → wrap64 n = n := fun n h => by unfold wrap64; omega
  exact whole_any a0 a1 A B _ _ _ _ ea eb (ww A hA') (ww B hB') (ww _ hS) (ww _ hM) (fromint_val A hA') (fromint_val B hB') (toint_num _ _ hA' A (signed_self A))
    (do_whole 1 (.inl rfl) _ _ _ _ _ _ hA' hB' hS (add_int A B hA' hB' hS)) (do_whole 3 (.inr rfl) _ _ _ _ _ _ hA' hB' hM (mul_int A B hA' hB' hM)) (toint_num _ _ hS _ (signed_self _)) (toint_num _ _ hM _ (mul_sign A B)) w
end Go.Proofs.Ytbidpdgjlcmhhaa
