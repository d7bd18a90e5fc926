/- TrapReckons: a register has just what layer 2 says, and all others stay; what was told stays told. No condition. -/
import Derived.Test.YtokmcjjdoiaeaaaTrapA
import Derived.Test.YtokmcjjdoiaeaaaTrapK
import Derived.Test.YtokmcjjdoiaeaaaBitI
namespace Go.Proofs.Ytokmcjjdoiaeaaa
open Go.ChangeShapes Go.WideShapes Go.ChangeAt Go.RowKit
set_option linter.unusedVariables false
set_option linter.unusedSimpArgs false
attribute [local go_sem] eqRegs
section
variable (r0 r1 r2 r3 t en : Int) (i : Bool) (fa fc s0 s1 s2 s3 : Int)
set_option maxHeartbeats 4000000 in
theorem reckons_out (op a b c : Int) (ha : (a < 0 ∨ 3 < a) ∨ (b < 0 ∨ 3 < b) ∨ (c < 0 ∨ 3 < c)) (w : World) : Calls Try.prog 6 #[stV r0 r1 r2 r3 t en i fa fc s0 s1 s2 s3, .int .i64 op, .int .i64 a, .int .i64 b, .int .i64 c] w fun e w' => e = .returned (.bool true) ∧ Below w.heap.size w w' := by
  have H := Lib.hid ha
  clear ha
  go_enter Try.func6, Try.ntmps6
  go_wp2_with fail
  all_goals first
    | (refine (reckon_reg r0 r1 r2 r3 t en i fa fc s0 s1 s2 s3 op a b c H.out _).mono ?_
       rintro e w1 ⟨rfl, hb1⟩
       obtain ⟨hc1, _⟩ := bcell hb1
       have hB1 : Below w.heap.size w w1 := b_then (by go_grown) hb1
       have hz1 := hb1.size; try simp only [World.size_alloc, World.size_setCell, World.size_drew] at hz1
       have z1 : w.heap.size < w1.heap.size := by omega
       clear hb1
       go_wp2_with fail
       refine (awake_any _).mono ?_
       rintro e w2 ⟨rfl, hb2⟩
       obtain ⟨hc2, _⟩ := bcell hb2
       have hB2 : Below w.heap.size w w2 := b_then (by first | exact hB1 | (go_grown)) hb2
       have hz2 := hb2.size; try simp only [World.size_alloc, World.size_setCell, World.size_drew] at hz2
       have z2 : w.heap.size < w2.heap.size := by omega
       have z3 : w1.heap.size < w2.heap.size := by omega
       clear hb2
       go_wp2
       go_returns
       exact ⟨ret_v (by simp), by go_grown⟩)
    | (exfalso; have := H.out; omega)
set_option maxRecDepth 100000 in
set_option maxHeartbeats 8000000 in
theorem reckons_in (op a b c : Int) (ha0 : 0 ≤ a) (ha : a ≤ 3) (hb0 : 0 ≤ b) (hb : b ≤ 3) (hc0 : 0 ≤ c) (hc : c ≤ 3) (ht0 : -9223372036854775808 ≤ t) (ht1 : t ≤ 9223372036854775807)
    (h0 : 0 ≤ r0 ∧ r0 < 18446744073709551616) (h1 : 0 ≤ r1 ∧ r1 < 18446744073709551616) (h2 : 0 ≤ r2 ∧ r2 < 18446744073709551616) (h3 : 0 ≤ r3 ∧ r3 < 18446744073709551616)
    (x y : Int) (hX : x = getR a r0 r1 r2 r3) (hY : y = getR b r0 r1 r2 r3) (w : World) : Calls Try.prog 6 #[stV r0 r1 r2 r3 t en i fa fc s0 s1 s2 s3, .int .i64 op, .int .i64 a, .int .i64 b, .int .i64 c] w fun e w' => e = .returned (.bool true) ∧ Below w.heap.size w w' := by
  have HA : Hid (a = 0 ∨ a = 1 ∨ a = 2 ∨ a = 3) := Lib.hid (by omega)
  have HB : Hid (b = 0 ∨ b = 1 ∨ b = 2 ∨ b = 3) := Lib.hid (by omega)
  have HXY := Lib.hid (And.intro hX hY)
  have HD : Hid (∀ x y, (x = r0 ∨ x = r1 ∨ x = r2 ∨ x = r3) → (y = r0 ∨ y = r1 ∨ y = r2 ∨ y = r3) → ∀ W, Calls Try.prog 14 #[.int .i64 op, .int .u64 x, .int .u64 y] W fun e w' => e = .returned (.tuple #[.int .u64 (dX op x y), .int .i64 (dF op x y), .int .i64 (dE op)]) ∧ Below W.heap.size W w') :=
    Lib.hid fun x y hx hy W => do_any op x y (by omega) (by omega) (by omega) (by omega) W
  have HR := Lib.hid (fun W => reckon_any r0 r1 r2 r3 t en i fa fc s0 s1 s2 s3 op a b c ha0 ha hb0 hb hc0 hc h0 h1 h2 h3 x y hX hY W)
  have HM := Lib.hid (fun X W => move_in r0 r1 r2 r3 t en i fa fc s0 s1 s2 s3 c X hc0 hc W)
  have HT := Lib.hid (fun F => or_and_l t F ht0 ht1)
  clear h0 h1 h2 h3 hX hY ht0 ht1
  go_enter Try.func6, Try.ntmps6
  go_wp2_with fail
  clear ha0 ha hb0 hb hc0 hc
  obtain ⟨w1, hw⟩ : ∃ w1, w1 = w.alloc (.cells #[.int .u64 r0, .int .u64 r1, .int .u64 r2, .int .u64 r3, .int .i64 t, .int .u64 en, .bool i, .int .u64 fa, .int .i64 fc, .int .u64 s0, .int .u64 s1, .int .u64 s2, .int .u64 s3] 28) := ⟨_, rfl⟩
  rw [← hw]
  have hB : Below w.heap.size w w1 := by rw [hw]; go_grown
  have k0 : w1.heap[w.heap.size]? = some (.cells #[.int .u64 r0, .int .u64 r1, .int .u64 r2, .int .u64 r3, .int .i64 t, .int .u64 en, .bool i, .int .u64 fa, .int .i64 fc, .int .u64 s0, .int .u64 s1, .int .u64 s2, .int .u64 s3] 28 (0, 0)) := by rw [hw]; exact heap_new _ _
  clear hw
  go_upto_region 4 with fail
  go_cut [13, 14, 15] (fun u v z wx => u = .int .u64 (dX op x y) ∧ v = .int .i64 (dF op x y) ∧ z = .int .i64 (dE op) ∧ Below w1.heap.size w1 wx)
  case first =>
    have K0 := cell_heap k0 0
    have K1 := cell_heap k0 1
    have K2 := cell_heap k0 2
    have K3 := cell_heap k0 3
    have hs := heap_lt k0
    have hab := @Abv.cell w1
    clear k0 hB HR HM HT
    rcases HA.out with rfl | rfl | rfl | rfl
    all_goals
      rcases HB.out with rfl | rfl | rfl | rfl
    all_goals
      clear HA HB
      have hx := HXY.out.1
      have hy := HXY.out.2
      simp only [getR, if_true, if_false, show ((1 : Int) = 0) = False by simp, show ((2 : Int) = 0) = False by simp, show ((2 : Int) = 1) = False by simp, show ((3 : Int) = 0) = False by simp, show ((3 : Int) = 1) = False by simp, show ((3 : Int) = 2) = False by simp] at hx hy
      subst hx hy
      clear HXY
      refine wp_region_abv (by kernel_rfl) (by kernel_rfl) ?_
      repeat (first | go_big_quiet_skip | (go_big_quiet_want; go_big_quiet_op; first | go_big_quiet_on | go_big_quiet_call ((go_at_call 14; exact abv_call (HD.out _ _ (by simp) (by simp) _)))))
      refine wpQuiet_nil ?_
      rintro w2 ⟨⟨_, hb2⟩, rfl⟩
      go_wp2_with fail
      go_meet
      exact ⟨rfl, rfl, rfl, hb2⟩
  case rest =>
    obtain ⟨rfl, rfl, rfl, hbc⟩ := hcut
    have hB2 := b_then hB hbc
    have k2 := heap_below hbc k0
    have c0 : wc.cell? ⟨w.heap.size, 0, none⟩ = some (.int .u64 r0) := cell_heap k2 0
    have c1 : wc.cell? ⟨w.heap.size, 1, none⟩ = some (.int .u64 r1) := cell_heap k2 1
    have c2 : wc.cell? ⟨w.heap.size, 2, none⟩ = some (.int .u64 r2) := cell_heap k2 2
    have c3 : wc.cell? ⟨w.heap.size, 3, none⟩ = some (.int .u64 r3) := cell_heap k2 3
    have c4 : wc.cell? ⟨w.heap.size, 4, none⟩ = some (.int .i64 t) := cell_heap k2 4
    have c5 : wc.cell? ⟨w.heap.size, 5, none⟩ = some (.int .u64 en) := cell_heap k2 5
    have c6 : wc.cell? ⟨w.heap.size, 6, none⟩ = some (.bool i) := cell_heap k2 6
    have c7 : wc.cell? ⟨w.heap.size, 7, none⟩ = some (.int .u64 fa) := cell_heap k2 7
    have c8 : wc.cell? ⟨w.heap.size, 8, none⟩ = some (.int .i64 fc) := cell_heap k2 8
    have c9 : wc.cell? ⟨w.heap.size, 9, none⟩ = some (.int .u64 s0) := cell_heap k2 9
    have c10 : wc.cell? ⟨w.heap.size, 10, none⟩ = some (.int .u64 s1) := cell_heap k2 10
    have c11 : wc.cell? ⟨w.heap.size, 11, none⟩ = some (.int .u64 s2) := cell_heap k2 11
    have c12 : wc.cell? ⟨w.heap.size, 12, none⟩ = some (.int .u64 s3) := cell_heap k2 12
    have hs := heap_lt k2
    clear hB hbc k0 k2 HXY HD HA HB
    have HFc := Lib.hid (dF_cases op x y)
    obtain ⟨X, hX⟩ : ∃ X, X = dX op x y := ⟨_, rfl⟩
    obtain ⟨F, hF⟩ : ∃ F, F = dF op x y := ⟨_, rfl⟩
    have hr := HR.out
    rw [← hX, ← hF] at hr ⊢
    rw [← hF] at HFc
    rcases dE_cases op with h | h
    · rw [h] at hr ⊢
      have hr' : ∀ W, Calls Try.prog 13 #[stV r0 r1 r2 r3 t en i fa fc s0 s1 s2 s3, .int .i64 op, .int .i64 a, .int .i64 b, .int .i64 c] W fun e w' => e = .returned (.tuple #[stV (putR c 0 X r0) (putR c 1 X r1) (putR c 2 X r2) (putR c 3 X r3) (bits .or .i64 t F) en i fa fc s0 s1 s2 s3, .int .i64 0]) ∧ Below W.heap.size W w' := hr
      have HK := Lib.hid hr'
      have hF2 : -9223372036854775808 ≤ F ∧ F ≤ 9223372036854775807 := by rcases HFc.out with e | e | e | e <;> omega
      have e1 := HT.out F
      have e2 := or_and_r t F hF2.1 hF2.2
      have e3 := andNot_self (bits .or .i64 t F)
      obtain ⟨T, hT⟩ : ∃ T, bits .or .i64 t F = T := ⟨_, rfl⟩
      rw [hT] at HK e1 e2 e3
      have hm := HM.out X
      have hk := HK.out
      obtain ⟨q0, hq0⟩ : ∃ q, putR c 0 X r0 = q := ⟨_, rfl⟩
      obtain ⟨q1, hq1⟩ : ∃ q, putR c 1 X r1 = q := ⟨_, rfl⟩
      obtain ⟨q2, hq2⟩ : ∃ q, putR c 2 X r2 = q := ⟨_, rfl⟩
      obtain ⟨q3, hq3⟩ : ∃ q, putR c 3 X r3 = q := ⟨_, rfl⟩
      rw [hq0, hq1, hq2, hq3] at hm hk
      have HK2 := Lib.hid hk
      have HM2 := Lib.hid hm
      clear hr hr' h hX hF HR HT HFc hF2 hm hk HM HK hq0 hq1 hq2 hq3
      go_wp2_with fail
      refine (HK2.out _).mono ?_
      rintro e w2 ⟨rfl, hb2⟩
      obtain ⟨hc2, _⟩ := bcell hb2
      have hB3 := b_then hB2 hb2
      have hz2 := hb2.size
      have z2 : w.heap.size < w2.heap.size := by omega
      clear hb2 hB2 HK2
      go_wp2_with fail
      refine (HM2.out _).mono ?_
      rintro e w3 ⟨rfl, hb3⟩
      obtain ⟨hc3, _⟩ := bcell hb3
      have hB4 : Below w.heap.size w w3 := b_then (by go_grown) hb3
      have hz3 := hb3.size; try simp only [World.size_alloc, World.size_setCell, World.size_drew] at hz3
      have z3 : w.heap.size < w3.heap.size := by omega
      have z4 : w2.heap.size < w3.heap.size := by omega
      clear hb3 hB3 HM2
      go_wp2_with fail
      refine (awake_any _).mono ?_
      rintro e w4 ⟨rfl, hb4⟩
      obtain ⟨hc4, _⟩ := bcell hb4
      have hB5 : Below w.heap.size w w4 := b_then (by go_grown) hb4
      have hz4 := hb4.size; try simp only [World.size_alloc, World.size_setCell, World.size_drew] at hz4
      have z5 : w.heap.size < w4.heap.size := by omega
      have z6 : w2.heap.size < w4.heap.size := by omega
      have z7 : w3.heap.size < w4.heap.size := by omega
      clear hb4 hB4
      go_wp2
      go_returns
      exact ⟨ret_v (by simp), by go_grown⟩
    · rw [h] at hr ⊢
      have hr' : ∀ W, Calls Try.prog 13 #[stV r0 r1 r2 r3 t en i fa fc s0 s1 s2 s3, .int .i64 op, .int .i64 a, .int .i64 b, .int .i64 c] W fun e w' => e = .returned (.tuple #[stV r0 r1 r2 r3 t en i fa fc s0 s1 s2 s3, .int .i64 1]) ∧ Below W.heap.size W w' := hr
      have HK := Lib.hid hr'
      clear hr hr' h hX hF HR HT HM HFc
      go_wp2_with fail
      refine (HK.out _).mono ?_
      rintro e w2 ⟨rfl, hb2⟩
      obtain ⟨hc2, _⟩ := bcell hb2
      have hB3 := b_then hB2 hb2
      have hz2 := hb2.size
      have z2 : w.heap.size < w2.heap.size := by omega
      clear hb2 hB2
      go_wp2_with fail
      refine (awake_any _).mono ?_
      rintro e w3 ⟨rfl, hb3⟩
      obtain ⟨hc3, _⟩ := bcell hb3
      have hB4 : Below w.heap.size w w3 := b_then (by go_grown) hb3
      have hz3 := hb3.size; try simp only [World.size_alloc, World.size_setCell, World.size_drew] at hz3
      have z3 : w.heap.size < w3.heap.size := by omega
      have z4 : w2.heap.size < w3.heap.size := by omega
      clear hb3 hB3
      go_wp2
      go_returns
      exact ⟨ret_v (by simp), by go_grown⟩
end
theorem walk_TrapReckons (a0_0 : Int) (a0_1 : Int) (a0_2 : Int) (a0_3 : Int) (a0_4 : Int) (a0_5 : Int) (a0_6 : Bool) (a0_7 : Int) (a0_8 : Int) (a0_9 : Int) (a0_10 : Int) (a0_11 : Int) (a0_12 : Int) (a1 a2 a3 a4 : Int) (w : World) (w0_0 : (Lit.int .u64 a0_0).wf = true) (w0_1 : (Lit.int .u64 a0_1).wf = true) (w0_2 : (Lit.int .u64 a0_2).wf = true) (w0_3 : (Lit.int .u64 a0_3).wf = true) (w0_4 : (Lit.int .i64 a0_4).wf = true) (w0_5 : (Lit.int .u64 a0_5).wf = true) (w0_7 : (Lit.int .u64 a0_7).wf = true) (w0_8 : (Lit.int .i64 a0_8).wf = true) (w0_9 : (Lit.int .u64 a0_9).wf = true) (w0_10 : (Lit.int .u64 a0_10).wf = true) (w0_11 : (Lit.int .u64 a0_11).wf = true) (w0_12 : (Lit.int .u64 a0_12).wf = true) (w1 : (Lit.int .i64 a1).wf = true) (w2 : (Lit.int .i64 a2).wf = true) (w3 : (Lit.int .i64 a3).wf = true) (w4 : (Lit.int .i64 a4).wf = true) :
    Calls Try.prog 6 #[stV a0_0 a0_1 a0_2 a0_3 a0_4 a0_5 a0_6 a0_7 a0_8 a0_9 a0_10 a0_11 a0_12, .int .i64 a1, .int .i64 a2, .int .i64 a3, .int .i64 a4] w fun e w' => e = .returned (.bool true) ∧ Below w.heap.size w w' := by
  by_cases h : (a2 < 0 ∨ 3 < a2) ∨ (a3 < 0 ∨ 3 < a3) ∨ (a4 < 0 ∨ 3 < a4)
  · exact reckons_out a0_0 a0_1 a0_2 a0_3 a0_4 a0_5 a0_6 a0_7 a0_8 a0_9 a0_10 a0_11 a0_12 a1 a2 a3 a4 h w
  · exact reckons_in a0_0 a0_1 a0_2 a0_3 a0_4 a0_5 a0_6 a0_7 a0_8 a0_9 a0_10 a0_11 a0_12 a1 a2 a3 a4 (by omega) (by omega) (by omega) (by omega) (by omega) (by omega) (i64_bd w0_4).1 (i64_bd w0_4).2 (u64_bd w0_0) (u64_bd w0_1) (u64_bd w0_2) (u64_bd w0_3) _ _ rfl rfl w
end Go.Proofs.Ytokmcjjdoiaeaaa
