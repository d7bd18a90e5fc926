/- FltWholes. No condition. -/
import Derived.Test.YtbidpdgjlcmhhaaFltG
import Derived.Test.YtbidpdgjlcmhhaaFltM
import Derived.Test.YtbidpdgjlcmhhaaFltInts
namespace Go.Proofs.Ytbidpdgjlcmhhaa
open Go.ChangeShapes Go.WideShapes Go.ChangeAt Go.RowKit
set_option linter.unusedVariables false
set_option linter.unusedSimpArgs false
set_option maxHeartbeats 4000000 in
theorem wholes_any (x n y d rd O rx ry c : Int) (hc : decide (c ≤ 0) = true)
    (tx : ∀ W, Calls Try.prog 19 #[.int .u64 x] W fun e w' => e = .returned (.tuple #[.int .i64 n, .int .i64 0]) ∧ w' = W)
    (f1 : ∀ W, Calls Try.prog 18 #[.int .i64 n] W fun e w' => e = .returned (.int .u64 y) ∧ w' = W)
    (d1 : ∀ W, Calls Try.prog 16 #[.int .i64 2, .int .u64 x, .int .u64 y] W fun e w' => e = .returned (.tuple #[.int .u64 d, .int .i64 0, .int .i64 0]) ∧ Below W.heap.size W w')
    (f2 : ∀ W, Calls Try.prog 18 #[.int .i64 1] W fun e w' => e = .returned (.int .u64 O) ∧ w' = W)
    (a1 : ∀ W, Calls Try.prog 16 #[.int .i64 8, .int .u64 d, .int .u64 0] W fun e w' => e = .returned (.tuple #[.int .u64 rd, .int .i64 0, .int .i64 0]) ∧ Below W.heap.size W w')
    (c1 : ∀ W, Calls Try.prog 14 #[.int .u64 rd, .int .u64 O] W fun e w' => e = .returned (.int .i64 (-1)) ∧ w' = W)
    (a2 : ∀ W, Calls Try.prog 16 #[.int .i64 8, .int .u64 x, .int .u64 0] W fun e w' => e = .returned (.tuple #[.int .u64 rx, .int .i64 0, .int .i64 0]) ∧ Below W.heap.size W w')
    (a3 : ∀ W, Calls Try.prog 16 #[.int .i64 8, .int .u64 y, .int .u64 0] W fun e w' => e = .returned (.tuple #[.int .u64 ry, .int .i64 0, .int .i64 0]) ∧ Below W.heap.size W w')
    (c2 : ∀ W, Calls Try.prog 14 #[.int .u64 ry, .int .u64 rx] W fun e w' => e = .returned (.int .i64 c) ∧ w' = W) (w : World) :
    Calls Try.prog 10 #[.int .u64 x] w fun e w' => e = .returned (.bool true) ∧ Below w.heap.size w w' := by
  have TX := Lib.hid tx
  have F1 := Lib.hid f1
  have D1 := Lib.hid d1
  have F2 := Lib.hid f2
  have A1 := Lib.hid a1
  have C1 := Lib.hid c1
  have A2 := Lib.hid a2
  have A3 := Lib.hid a3
  have C2 := Lib.hid c2
  clear tx f1 d1 f2 a1 c1 a2 a3 c2
  go_enter Try.func10, Try.ntmps10
  go_wp2_with fail
  refine (TX.out _).mono ?_
  rintro e s1 ⟨rfl, hw⟩
  obtain rfl := hw.symm
  clear hw
  go_wp2_with fail
  refine (F1.out _).mono ?_
  rintro e s1 ⟨rfl, hw⟩
  obtain rfl := hw.symm
  clear hw
  go_wp2_with fail
  refine (D1.out _).mono ?_
  rintro e s2 ⟨rfl, hs2⟩
  go_wp2_with fail
  refine (F2.out _).mono ?_
  rintro e s3 ⟨rfl, hw⟩
  obtain rfl := hw.symm
  clear hw
  go_wp2_with fail
  refine (A1.out _).mono ?_
  rintro e s4 ⟨rfl, hs4⟩
  go_wp2_with fail
  refine (C1.out _).mono ?_
  rintro e s5 ⟨rfl, hw⟩
  obtain rfl := hw.symm
  clear hw
  go_wp2_with fail
  refine (A2.out _).mono ?_
  rintro e s6 ⟨rfl, hs6⟩
  go_wp2_with fail
  refine (A3.out _).mono ?_
  rintro e s7 ⟨rfl, hs7⟩
  go_wp2_with fail
  refine (awake_true _).mono ?_
  rintro e s8 ⟨rfl, hs8⟩
  go_wp2_with fail
  refine (C2.out _).mono ?_
  rintro e s9 ⟨rfl, hw⟩
  obtain rfl := hw.symm
  clear hw
  go_wp2_with fail
  go_returns
  exact ⟨rfl, b_then (b_then (b_then (b_then hs2 hs4) hs6) hs7) hs8⟩
set_option maxHeartbeats 4000000 in
theorem wholes_no (x : Int)
    (tx : ∀ W, Calls Try.prog 19 #[.int .u64 x] W fun e w' => e = .returned (.tuple #[.int .i64 0, .int .i64 1]) ∧ w' = W) (w : World) :
    Calls Try.prog 10 #[.int .u64 x] w fun e w' => e = .returned (.bool true) ∧ Below w.heap.size w w' := by
  have TX := Lib.hid tx
  clear tx
  go_enter Try.func10, Try.ntmps10
  go_wp2_with fail
  refine (TX.out _).mono ?_
  rintro e s1 ⟨rfl, hw⟩
  obtain rfl := hw.symm
  clear hw
  go_wp2_with fail
  refine (awake_true _).mono ?_
  rintro e s8 ⟨rfl, hs8⟩
  go_wp2_with fail
  go_returns
  exact ⟨rfl, hs8⟩
theorem num_cls {x : Nat} (h : rg x < infR) : nanN x = false ∧ (fcls x == 3) = false ∧ (fcls x == 4) = false ∧ sigB x = false := by
  have h3 : (clsR (rg x) == 3) = false ∧ (clsR (rg x) == 4) = false := by
    unfold clsR
    by_cases c1 : rg x = 0
    · rw [if_pos c1]; decide
    · rw [if_neg c1]
      by_cases c2 : rg x < 4503599627370496
      · rw [if_pos c2]; decide
      · rw [if_neg c2, if_pos h]; decide
  have hc : fcls x = clsR (rg x) := rfl
  refine ⟨?_, by rw [hc]; exact h3.1, by rw [hc]; exact h3.2, ?_⟩
  · unfold nanN; exact decide_eq_false (by omega)
  · unfold sigB; rw [hc, h3.2]; rfl
theorem do_sub_num (x y d : Nat) (hx : x < 18446744073709551616) (hy : y < 18446744073709551616) (hrx : rg x < infR) (hry : rg y < infR) (hrd : rg d < infR) (hr : Ieee.double.sub x y = some d) :
    ∀ W, Calls Try.prog 16 #[.int .i64 2, .int .u64 x, .int .u64 y] W fun e w' => e = .returned (.tuple #[.int .u64 d, .int .i64 0, .int .i64 0]) ∧ Below W.heap.size W w' := by
  have x1 := num_cls hrx
  have x2 := num_cls hry
  have x3 := num_cls hrd
  have h := do_arith 2 (by omega) _ _ hx hy
  unfold doV at h
  rw [show rawF 2 x y = some d from hr] at h
  have ho4 : outF (some d) = d := if_neg (ne_of_beq_false x3.2.2.1)
  have hf : flagF 2 (fcls x) (fcls y) (clsO (some d)) (sigB x) (sigB y) = 0 := by
    unfold flagF clsO
    simp only [x1.2.2.2, x2.2.2.2, x3.2.1, x3.2.2.1]
    simp
  rw [ho4, hf] at h
  exact h
theorem fcmp_lt {a b : Nat} (ha : a < infR) (hb : b < infR) (h : a < b) : fcmp a b = -1 := by
  have e1 : rg a = a := by unfold rg; unfold infR at ha; omega
  have e2 : rg b = b := by unfold rg; unfold infR at hb; omega
  have s1 : sg a = false := by unfold sg; unfold infR at ha; rw [show a / 9223372036854775808 % 2 = 0 by omega]; rfl
  have s2 : sg b = false := by unfold sg; unfold infR at hb; rw [show b / 9223372036854775808 % 2 = 0 by omega]; rfl
  have k1 : keyN a = a := by unfold keyN skey; rw [e1, s1]; rfl
  have k2 : keyN b = b := by unfold keyN skey; rw [e2, s2]; rfl
  have n1 : nanN a = false := by unfold nanN; rw [e1]; exact decide_eq_false (by omega)
  have n2 : nanN b = false := by unfold nanN; rw [e2]; exact decide_eq_false (by omega)
  unfold fcmp
  rw [n1, n2, k1, k2, if_neg (by decide), if_pos (by omega)]
theorem fcmp_le {a b : Nat} (ha : a < infR) (hb : b < infR) (h : a ≤ b) : decide (fcmp a b ≤ 0) = true := by
  rcases Nat.lt_or_eq_of_le h with h | h
  · rw [fcmp_lt ha hb h]; decide
  · subst h
    have e1 : rg a = a := by unfold rg; unfold infR at ha; omega
    have n1 : nanN a = false := by unfold nanN; rw [e1]; exact decide_eq_false (by omega)
    unfold fcmp
    rw [n1, if_neg (by decide), if_neg (by omega), if_neg (by omega)]
    decide
theorem walk_FltWholes (a0 : Int) (w : World) (w0 : (Lit.int .u64 a0).wf = true) :
    Calls Try.prog 10 #[.int .u64 a0] w fun e w' => e = .returned (.bool true) ∧ Below w.heap.size w w' := by
  obtain ⟨x, rfl, hx⟩ := u64_natI w0
  rcases hok : tiOk x with _ | _
  · exact wholes_no x (toint_no x hok) w
  have hr : rg x ≤ 4890909195324358656 := by
    have h := hok
    unfold tiOk at h
    rw [Bool.and_eq_true] at h
    have := h.2
    split at this
    · exact of_decide_eq_true this
    · exact Nat.le_of_lt (of_decide_eq_true this)
  have hri : rg x < infR := by unfold infR; omega
  have hone : fiG 1 = 4607182418800017408 := by decide
  have KEY : ∃ (y d : Nat), (∀ W, Calls Try.prog 18 #[.int .i64 (tiV x)] W fun e w' => e = .returned (.int .u64 y) ∧ w' = W) ∧ y < 18446744073709551616 ∧ rg y < infR ∧ rg y ≤ rg x ∧ d < 18446744073709551616 ∧ rg d < 4607182418800017408 ∧ Ieee.double.sub x y = some d := by
    by_cases hu : 1074 ≤ upR (rg x)
    · have hs := whole_self x hx hr hu
      have hb : (tiV x).natAbs < 18446744073709551616 := by
        unfold tiV
        rw [signed_abs, Nat.pow_zero, Nat.mul_one]
        by_cases he : rg x = 4890909195324358656
        · rw [he, tiN_top]; omega
        · have := tiN_lt (r := rg x) (by omega); omega
      refine ⟨x, 0, fun W => ?_, hx, hri, Nat.le_refl _, by omega, by decide, sub_self_ x hri⟩
      have := fromint_all (tiV x) hb W
      rw [hs] at this
      exact this
    · obtain ⟨h53, hle, hi, hlt, t, ρ, hρ, hsub⟩ := sub_part x hri (by omega)
      have hp := word_parts t ρ (by omega)
      exact ⟨_, _, fromint_val (tiV x) h53, hlt, hi, hle, hp.2.2, by rw [hp.1]; exact hρ, hsub⟩
  obtain ⟨y, d, F1, hy, hyi, hyx, hd, hd1, hsub⟩ := KEY
  have F2 : ∀ W, Calls Try.prog 18 #[.int .i64 1] W fun e w' => e = .returned (.int .u64 (fiG 1 : Nat)) ∧ w' = W := fun W => fromint_all 1 (by decide) W
  rw [hone] at F2
  have hO : (4607182418800017408 : Nat) < infR := by decide
  have hdi : rg d < infR := by unfold infR; omega
  have C1 : ∀ W, Calls Try.prog 14 #[.int .u64 (rg d : Nat), .int .u64 ((4607182418800017408 : Nat) : Int)] W fun e w' => e = .returned (.int .i64 (-1)) ∧ w' = W := fun W => by
    have := compare_any (rg d) 4607182418800017408 W
    rw [fcmp_lt hdi hO hd1] at this
    exact this
  exact wholes_any x (tiV x) y d (rg d) _ (rg x) (rg y) _ (fcmp_le hyi hri hyx) (fun W => toint_ok x hok W) F1 (do_sub_num x y d hx hy hri hyi hdi hsub) F2 (fun W => do_abs d 0 hd W) C1 (fun W => do_abs x 0 hx W) (fun W => do_abs y 0 hy W) (fun W => compare_any _ _ W) w
end Go.Proofs.Ytbidpdgjlcmhhaa
