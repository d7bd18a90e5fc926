/- The document's Reckon (layer 17), for every state. No condition but that registers have 64 bits. -/
import Derived.Test.YtokmcjjdoiaeaaaTrapE
import Derived.Test.YtokmcjjdoiaeaaaTrapK
import Derived.Test.YtokmcjjdoiaeaaaBitJ
import Derived.Test.YtokmcjjdoiaeaaaFltY
import Derived.Test.YtokmcjjdoiaeaaaTrapD
namespace Go.Proofs.Ytokmcjjdoiaeaaa
open Go.ChangeShapes Go.WideShapes Go.ChangeAt Go.RowKit
set_option linter.unusedVariables false
set_option linter.unusedSimpArgs false
theorem refdo_any (op x y : Int) (hx0 : 0 ≤ x) (hx : x < 18446744073709551616) (hy0 : 0 ≤ y) (hy : y < 18446744073709551616) (w : World) :
    Calls Try.prog 26 #[.int .i64 op, .int .u64 x, .int .u64 y] w fun e w' => e = .returned (.tuple #[.int .u64 (dX op x y), .int .i64 (dF op x y), .int .i64 (dE op)]) ∧ Below w.heap.size w w' := by
  obtain ⟨x, rfl⟩ := Int.eq_ofNat_of_zero_le hx0
  obtain ⟨y, rfl⟩ := Int.eq_ofNat_of_zero_le hy0
  have hx' : x < 18446744073709551616 := by omega
  have hy' : y < 18446744073709551616 := by omega
  have ex : ((x : Nat) : Int).toNat = x := rfl
  have ey : ((y : Nat) : Int).toNat = y := rfl
  unfold dX dF dE
  rw [ex, ey]
  by_cases h : 1 ≤ op ∧ op ≤ 6
  · rw [if_pos h, if_pos h, if_pos (by omega)]
    exact refdo_arith op x y h hx' hy' w
  rw [if_neg h, if_neg h]
  by_cases h7 : op = 7
  · subst h7; exact (refdo_neg x y hx' w).mono fun e w' ⟨he, hw⟩ => ⟨he, by rw [hw]; exact Below.refl _ _⟩
  rw [if_neg h7]
  by_cases h8 : op = 8
  · subst h8; exact (refdo_abs x y hx' w).mono fun e w' ⟨he, hw⟩ => ⟨he, by rw [hw]; exact Below.refl _ _⟩
  rw [if_neg h8, if_neg (by omega)]
  exact (refdo_out op x y (by omega) w).mono fun e w' ⟨he, hw⟩ => ⟨he, by rw [hw]; exact Below.refl _ _⟩
theorem results_cell_tmp {fn : Func} {p q : Tmp} {ty : TypeId} (h : fn.results = #[.cell p ty, .tmp q]) (tmps : Array Value) (w : World) (g : Nat) (t : TypeId) (cs : Array Value) (fr : Nat × Nat) (fs : Array Field) (v : Value)
    (hp : tmps.getD p undef = .pointer (some ⟨g, 0, none⟩)) (hq : tmps.getD q undef = v) (hg : w.heap[g]? = some (.cells cs t fr))
    (hu : Try.prog.underlying ty = some (.struct fs)) (hi : (Try.prog.info? ty).map (·.size) = some cs.size) :
    (results fn tmps).run Try.prog w = .ok (.tuple #[.agg cs, v]) w := by
  have hp' : tmps[p]?.getD undef = .pointer (some ⟨g, 0, none⟩) := by simpa using hp
  have hq' : tmps[q]?.getD undef = v := by simpa using hq
  simp [results, h, hp', hq', asAddr, run_loadVar_row w g t ty cs fr (.struct fs) hg hu rfl hi]
theorem one_one {w w1 : World} {c0 c1 : Array Value} {t0 t1 : TypeId} (hw : w1 = (w.alloc (.cells c0 t0)).alloc (.cells c1 t1)) :
    Below w.heap.size w w1 ∧ w1.heap[w.heap.size]? = some (.cells c0 t0 (0, 0)) ∧ w1.heap[w.heap.size + 1]? = some (.cells c1 t1 (0, 0)) := by
  subst hw
  have h1 := heap_new (w.alloc (.cells c0 t0)) (.cells c1 t1)
  rw [World.size_alloc] at h1
  exact ⟨by go_grown, heap_old _ _ _ (heap_new _ _), h1⟩
section
variable (r0 r1 r2 r3 t en : Int) (i : Bool) (fa fc s0 s1 s2 s3 : Int)
set_option maxHeartbeats 2000000 in
theorem refreckon_reg (op a b c : Int) (ha : (a < 0 ∨ 3 < a) ∨ (b < 0 ∨ 3 < b) ∨ (c < 0 ∨ 3 < c)) (w : World) : Calls Try.prog 20 #[stV r0 r1 r2 r3 t en i fa fc s0 s1 s2 s3, .int .i64 op, .int .i64 a, .int .i64 b, .int .i64 c] w fun e w' =>
    e = .returned (.tuple #[stV r0 r1 r2 r3 t en i fa fc s0 s1 s2 s3, .int .i64 1]) ∧ Below w.heap.size w w' := by
  have H := Lib.hid ha
  have HR : Hid (∀ x : Int, ∃ B : Bool, (B = true ↔ 0 ≤ x ∧ x ≤ 3) ∧ ∀ W, Calls Try.prog 25 #[.int .i64 x] W fun e w' => e = .returned (.bool B) ∧ w' = W) := Lib.hid fun x => by
    by_cases h : 0 ≤ x ∧ x ≤ 3
    · exact ⟨true, by simp [h], fun W => refreg_in x h.1 h.2 W⟩
    · exact ⟨false, by simp; omega, fun W => refreg_out x (by omega) W⟩
  obtain ⟨ba, ia, ca⟩ := HR.out a
  obtain ⟨bb, ib, cb⟩ := HR.out b
  obtain ⟨bc, ic, cc⟩ := HR.out c
  have hno : ¬ (ba = true ∧ bb = true ∧ bc = true) := fun h => by have := ia.1 h.1; have := ib.1 h.2.1; have := ic.1 h.2.2; omega
  have HN := Lib.hid hno
  have CA := Lib.hid ca
  have CB := Lib.hid cb
  have CC := Lib.hid cc
  clear ha HR ia ib ic ca cb cc hno H
  cases ba
  · go_enter Try.func20, Try.ntmps20
    go_wp2_with fail
    refine (CA.out _).mono ?_
    rintro e w1 ⟨rfl, hw⟩
    obtain rfl := hw.symm
    clear hw
    go_wp2_with fail
    go_returns
    exact ⟨rfl, by go_grown⟩
  cases bb
  · go_enter Try.func20, Try.ntmps20
    go_wp2_with fail
    refine (CA.out _).mono ?_
    rintro e w1 ⟨rfl, hw⟩
    obtain rfl := hw.symm
    clear hw
    go_wp2_with fail
    refine (CB.out _).mono ?_
    rintro e w1 ⟨rfl, hw⟩
    obtain rfl := hw.symm
    clear hw
    go_wp2_with fail
    go_returns
    exact ⟨rfl, by go_grown⟩
  cases bc
  · go_enter Try.func20, Try.ntmps20
    go_wp2_with fail
    refine (CA.out _).mono ?_
    rintro e w1 ⟨rfl, hw⟩
    obtain rfl := hw.symm
    clear hw
    go_wp2_with fail
    refine (CB.out _).mono ?_
    rintro e w1 ⟨rfl, hw⟩
    obtain rfl := hw.symm
    clear hw
    go_wp2_with fail
    refine (CC.out _).mono ?_
    rintro e w1 ⟨rfl, hw⟩
    obtain rfl := hw.symm
    clear hw
    go_wp2_with fail
    go_returns
    exact ⟨rfl, by go_grown⟩
  · exact absurd ⟨rfl, rfl, rfl⟩ HN.out
set_option maxRecDepth 100000 in
set_option maxHeartbeats 32000000 in
theorem refreckon_any (op a b c : Int) (ha0 : 0 ≤ a) (ha : a ≤ 3) (hb0 : 0 ≤ b) (hb : b ≤ 3) (hc0 : 0 ≤ c) (hc : c ≤ 3) (ht0 : -9223372036854775808 ≤ t) (ht1 : t ≤ 9223372036854775807)
    (h0 : 0 ≤ r0 ∧ r0 < 18446744073709551616) (h1 : 0 ≤ r1 ∧ r1 < 18446744073709551616) (h2 : 0 ≤ r2 ∧ r2 < 18446744073709551616) (h3 : 0 ≤ r3 ∧ r3 < 18446744073709551616)
    (x y : Int) (hX : x = getR a r0 r1 r2 r3) (hY : y = getR b r0 r1 r2 r3) (w : World) : Calls Try.prog 20 #[stV r0 r1 r2 r3 t en i fa fc s0 s1 s2 s3, .int .i64 op, .int .i64 a, .int .i64 b, .int .i64 c] w fun e w' =>
    e = .returned (.tuple #[recV r0 r1 r2 r3 t en i fa fc s0 s1 s2 s3 (dE op) (dX op x y) (dF op x y) c, .int .i64 (dE op)]) ∧ Below w.heap.size w w' := by
  have HA : Hid (a = 0 ∨ a = 1 ∨ a = 2 ∨ a = 3) := Lib.hid (by omega)
  have HB : Hid (b = 0 ∨ b = 1 ∨ b = 2 ∨ b = 3) := Lib.hid (by omega)
  have HC : Hid (c = 0 ∨ c = 1 ∨ c = 2 ∨ c = 3) := Lib.hid (by omega)
  have HXY := Lib.hid (And.intro hX hY)
  have HD : Hid (∀ x y, (x = r0 ∨ x = r1 ∨ x = r2 ∨ x = r3) → (y = r0 ∨ y = r1 ∨ y = r2 ∨ y = r3) → ∀ W, Calls Try.prog 26 #[.int .i64 op, .int .u64 x, .int .u64 y] W fun e w' => e = .returned (.tuple #[.int .u64 (dX op x y), .int .i64 (dF op x y), .int .i64 (dE op)]) ∧ Below W.heap.size W w') :=
    Lib.hid fun x y hx hy W => refdo_any op x y (by omega) (by omega) (by omega) (by omega) W
  have CA := Lib.hid (refreg_in a ha0 ha)
  have CB := Lib.hid (refreg_in b hb0 hb)
  have CC := Lib.hid (refreg_in c hc0 hc)
  have HT := Lib.hid (And.intro (bit1 t ht0 ht1) (And.intro (bit2 t ht0 ht1) (And.intro (bit4 t ht0 ht1) (or_zero_i t ht0 ht1))))
  clear ha0 ha hb0 hb hc0 hc h0 h1 h2 h3 hX hY ht1
  go_enter Try.func20, Try.ntmps20
  go_wp2_with fail
  refine (CA.out _).mono ?_
  rintro e w1 ⟨rfl, hw⟩
  obtain rfl := hw.symm
  clear hw
  go_wp2_with fail
  refine (CB.out _).mono ?_
  rintro e w1 ⟨rfl, hw⟩
  obtain rfl := hw.symm
  clear hw
  go_wp2_with fail
  refine (CC.out _).mono ?_
  rintro e w1 ⟨rfl, hw⟩
  obtain ⟨hB, k0, k1⟩ := one_one hw
  clear hw CA CB CC
  go_wp2_with fail
  go_upto_region 3 with fail
  go_cut [12, 13, 14] (fun u v z wx => u = .int .u64 (dX op x y) ∧ v = .int .i64 (dF op x y) ∧ z = .int .i64 (dE op) ∧ Below w1.heap.size w1 wx)
  case first =>
    have K0 := cell_heap k0 0
    have K1 := cell_heap k0 1
    have K2 := cell_heap k0 2
    have K3 := cell_heap k0 3
    have hs := heap_lt k0
    have hab := @Abv.cell w1
    clear k0 k1 hB HC HT
    rcases HA.out with rfl | rfl | rfl | rfl
    all_goals
      rcases HB.out with rfl | rfl | rfl | rfl
    all_goals
      clear HA HB
      have hx := HXY.out.1
      have hy := HXY.out.2
      simp only [getR, if_true, if_false, show ((1 : Int) = 0) = False by simp, show ((2 : Int) = 0) = False by simp, show ((2 : Int) = 1) = False by simp, show ((3 : Int) = 0) = False by simp, show ((3 : Int) = 1) = False by simp, show ((3 : Int) = 2) = False by simp] at hx hy
      subst hx hy
      clear HXY
      refine wp_region_abv (by kernel_rfl) (by kernel_rfl) ?_
      repeat (first | go_big_quiet_skip | (go_big_quiet_want; go_big_quiet_op; first | go_big_quiet_on | go_big_quiet_call ((go_at_call 26; exact abv_call (HD.out _ _ (by simp) (by simp) _)))))
      refine wpQuiet_nil ?_
      rintro w2 ⟨⟨_, hb2⟩, rfl⟩
      go_wp2_with fail
      go_meet
      exact ⟨rfl, rfl, rfl, hb2⟩
  case rest =>
    obtain ⟨rfl, rfl, rfl, hbc⟩ := hcut
    have hB2 := b_then hB hbc
    have k2 := heap_below hbc k0
    have k3 := heap_below hbc k1
    have hs := heap_lt k3
    clear hB hbc k0 k1 HXY HD HA HB
    have c0 : wc.cell? ⟨w.heap.size, 0, none⟩ = some (.int .u64 r0) := cell_heap k2 0
    have c1 : wc.cell? ⟨w.heap.size, 1, none⟩ = some (.int .u64 r1) := cell_heap k2 1
    have c2 : wc.cell? ⟨w.heap.size, 2, none⟩ = some (.int .u64 r2) := cell_heap k2 2
    have c3 : wc.cell? ⟨w.heap.size, 3, none⟩ = some (.int .u64 r3) := cell_heap k2 3
    have c4 : wc.cell? ⟨w.heap.size, 4, none⟩ = some (.int .i64 t) := cell_heap k2 4
    have c5 : wc.cell? ⟨w.heap.size, 5, none⟩ = some (.int .u64 en) := cell_heap k2 5
    have c6 : wc.cell? ⟨w.heap.size, 6, none⟩ = some (.bool i) := cell_heap k2 6
    have c7 : wc.cell? ⟨w.heap.size, 7, none⟩ = some (.int .u64 fa) := cell_heap k2 7
    have c8 : wc.cell? ⟨w.heap.size, 8, none⟩ = some (.int .i64 fc) := cell_heap k2 8
    have c9 : wc.cell? ⟨w.heap.size, 9, none⟩ = some (.int .u64 s0) := cell_heap k2 9
    have c10 : wc.cell? ⟨w.heap.size, 10, none⟩ = some (.int .u64 s1) := cell_heap k2 10
    have c11 : wc.cell? ⟨w.heap.size, 11, none⟩ = some (.int .u64 s2) := cell_heap k2 11
    have c12 : wc.cell? ⟨w.heap.size, 12, none⟩ = some (.int .u64 s3) := cell_heap k2 12
    have d0 : wc.cell? ⟨w.heap.size + 1, 0, none⟩ = some (.int .u64 0) := cell_heap k3 0
    have d1 : wc.cell? ⟨w.heap.size + 1, 1, none⟩ = some (.int .u64 0) := cell_heap k3 1
    have d2 : wc.cell? ⟨w.heap.size + 1, 2, none⟩ = some (.int .u64 0) := cell_heap k3 2
    have d3 : wc.cell? ⟨w.heap.size + 1, 3, none⟩ = some (.int .u64 0) := cell_heap k3 3
    have d4 : wc.cell? ⟨w.heap.size + 1, 4, none⟩ = some (.int .i64 0) := cell_heap k3 4
    have d5 : wc.cell? ⟨w.heap.size + 1, 5, none⟩ = some (.int .u64 0) := cell_heap k3 5
    have d6 : wc.cell? ⟨w.heap.size + 1, 6, none⟩ = some (.bool false) := cell_heap k3 6
    have d7 : wc.cell? ⟨w.heap.size + 1, 7, none⟩ = some (.int .u64 0) := cell_heap k3 7
    have d8 : wc.cell? ⟨w.heap.size + 1, 8, none⟩ = some (.int .i64 0) := cell_heap k3 8
    have d9 : wc.cell? ⟨w.heap.size + 1, 9, none⟩ = some (.int .u64 0) := cell_heap k3 9
    have d10 : wc.cell? ⟨w.heap.size + 1, 10, none⟩ = some (.int .u64 0) := cell_heap k3 10
    have d11 : wc.cell? ⟨w.heap.size + 1, 11, none⟩ = some (.int .u64 0) := cell_heap k3 11
    have d12 : wc.cell? ⟨w.heap.size + 1, 12, none⟩ = some (.int .u64 0) := cell_heap k3 12
    have f0 := frozen_heap k2
    have f1 := frozen_heap k3
    have hs0 := heap_lt k2
    have HF := Lib.hid (dF_cases op x y)
    rcases dE_cases op with h | h
    · rw [h]
      have HE := Lib.hid h
      clear h
      obtain ⟨F, hF⟩ : ∃ F, F = dF op x y := ⟨_, rfl⟩
      obtain ⟨X, hX⟩ : ∃ X, X = dX op x y := ⟨_, rfl⟩
      rw [← hF, ← hX]
      rw [← hF] at HF
      have HFX := Lib.hid (And.intro hF hX)
      clear hF hX
      go_upto_region 6 with fail
      go_cut [12] (fun u wx => Below w.heap.size w wx ∧ wx.heap[w.heap.size]? = some (.cells #[.int .u64 (putR c 0 X r0), .int .u64 (putR c 1 X r1), .int .u64 (putR c 2 X r2), .int .u64 (putR c 3 X r3), .int .i64 t, .int .u64 en, .bool i, .int .u64 fa, .int .i64 fc, .int .u64 s0, .int .u64 s1, .int .u64 s2, .int .u64 s3] 38 (0, 0)) ∧ wx.heap[w.heap.size + 1]? = some (.cells #[.int .u64 0, .int .u64 0, .int .u64 0, .int .u64 0, .int .i64 0, .int .u64 0, .bool false, .int .u64 0, .int .i64 0, .int .u64 0, .int .u64 0, .int .u64 0, .int .u64 0] 38 (0, 0)))
      case first =>
        have K2 := Lib.hid k2
        have K3 := Lib.hid k3
        clear k2 k3 HT HF HFX
        rcases HC.out with rfl | rfl | rfl | rfl
        all_goals
          clear HC
          go_wp2_with fail
          go_meet
          refine ⟨by go_grown, ?_, ?_⟩
          · have := heap_set K2.out
            simp [putR, this]
          · exact heap_far K3.out (by simp) _
      case rest =>
        obtain ⟨hB3, k4, k5⟩ := hcut
        obtain ⟨q0, hq0⟩ : ∃ q, q = putR c 0 X r0 := ⟨_, rfl⟩
        obtain ⟨q1, hq1⟩ : ∃ q, q = putR c 1 X r1 := ⟨_, rfl⟩
        obtain ⟨q2, hq2⟩ : ∃ q, q = putR c 2 X r2 := ⟨_, rfl⟩
        obtain ⟨q3, hq3⟩ : ∃ q, q = putR c 3 X r3 := ⟨_, rfl⟩
        rw [← hq0, ← hq1, ← hq2, ← hq3] at k4
        have HQ := Lib.hid (And.intro hq0 (And.intro hq1 (And.intro hq2 hq3)))
        clear hq0 hq1 hq2 hq3 c0 c1 c2 c3 c4 c5 c6 c7 c8 c9 c10 c11 c12 d0 d1 d2 d3 d4 d5 d6 d7 d8 d9 d10 d11 d12 f0 f1 hs0 hs k2 k3 hB2 HC
        have c4 : wc.cell? ⟨w.heap.size, 4, none⟩ = some (.int .i64 t) := cell_heap k4 4
        have f0 := frozen_heap k4
        have hs0 := heap_lt k4
        have hs := heap_lt k5
        obtain ⟨fs, hfs⟩ := underR
        have HFS := Lib.hid hfs
        have HK := Lib.hid (And.intro k4 k5)
        clear k4 k5 hfs
        rcases HF.out with rfl | rfl | rfl | rfl
        · have m1 : bits .and .i64 0 1 = 0 := by decide
          have m2 : bits .and .i64 0 2 = 0 := by decide
          have m4 : bits .and .i64 0 4 = 0 := by decide
          have HO := Lib.hid HT.out.2.2.2
          clear HT HF
          have G4 := heap_old wc (.cells #[.int .i64 1, .int .i64 2, .int .i64 4] 3) _ HK.out.1
          have G5 := heap_old wc (.cells #[.int .i64 1, .int .i64 2, .int .i64 4] 3) _ HK.out.2
          have HG := Lib.hid (And.intro G4 G5)
          clear G4 G5 HK
          have HALL : Hid ((#[.int .u64 q0, .int .u64 q1, .int .u64 q2, .int .u64 q3, .int .i64 t, .int .u64 en, .bool i, .int .u64 fa, .int .i64 fc, .int .u64 s0, .int .u64 s1, .int .u64 s2, .int .u64 s3] : Array Value).all (·.oneCell') = true) := Lib.hid (by simp [Value.oneCell'])
          go_wp2_with fail
          refine wp_loop_rounds 4 ?_
          repeat any_goals (rw [rounds_succ]; go_wp2_with (first | (refine wpList_load_row rfl 38 (.tmp 5) rfl w.heap.size rfl 38 #[.int .u64 q0, .int .u64 q1, .int .u64 q2, .int .u64 q3, .int .i64 t, .int .u64 en, .bool i, .int .u64 fa, .int .i64 fc, .int .u64 s0, .int .u64 s1, .int .u64 s2, .int .u64 s3] (0, 0) (.struct fs) HG.out.1 HFS.out rfl infoR ?_) | (refine wpList_store_row rfl 38 (.tmp 10) (.tmp 76) rfl (w.heap.size + 1) #[.int .u64 q0, .int .u64 q1, .int .u64 q2, .int .u64 q3, .int .i64 t, .int .u64 en, .bool i, .int .u64 fa, .int .i64 fc, .int .u64 s0, .int .u64 s1, .int .u64 s2, .int .u64 s3] rfl rfl 38 #[.int .u64 0, .int .u64 0, .int .u64 0, .int .u64 0, .int .i64 0, .int .u64 0, .bool false, .int .u64 0, .int .i64 0, .int .u64 0, .int .u64 0, .int .u64 0, .int .u64 0] HG.out.2 infoR rfl HALL.out ?_)))
          refine bodyPost_ret (results_cell_tmp (p := 10) (q := 11) rfl _ _ (w.heap.size + 1) 38 #[.int .u64 q0, .int .u64 q1, .int .u64 q2, .int .u64 q3, .int .i64 t, .int .u64 en, .bool i, .int .u64 fa, .int .i64 fc, .int .u64 s0, .int .u64 s1, .int .u64 s2, .int .u64 s3] (0, 0) fs (.int .i64 0) rfl rfl (setRow_heap _ _ _ _ _ _ HG.out.2) HFS.out infoR) rfl ?_
          exact ⟨ret_v (by rw [← HFX.out.1, ← HFX.out.2, HE.out]; simp only [recV, if_true, ← HQ.out.1, ← HQ.out.2.1, ← HQ.out.2.2.1, ← HQ.out.2.2.2, HO.out]), below_row (by go_grown) (by omega) _⟩
        · have m1 : bits .and .i64 1 1 = 1 := by decide
          have m2 : bits .and .i64 1 2 = 0 := by decide
          have m4 : bits .and .i64 1 4 = 0 := by decide
          rcases HT.out.1 with ⟨e1, e2, e3⟩ | ⟨e1, e2⟩
          · have HO := Lib.hid e2
            have hw1 : wrap64 (t + 1) = t + 1 := by unfold wrap64; omega
            have hw2 : IntKind.i64.wrap (t + 1) = t + 1 := by rw [IntKind.wrap_i64]; omega
            clear HT HF e2
            have G4 : ((wc.setCell ⟨w.heap.size, 4, none⟩ (Value.int .i64 ((t + 1)))).alloc (.cells #[.int .i64 1, .int .i64 2, .int .i64 4] 3)).heap[w.heap.size]? = some (.cells #[.int .u64 q0, .int .u64 q1, .int .u64 q2, .int .u64 q3, .int .i64 (t + 1), .int .u64 en, .bool i, .int .u64 fa, .int .i64 fc, .int .u64 s0, .int .u64 s1, .int .u64 s2, .int .u64 s3] 38 (0, 0)) := heap_old _ _ _ (heap_set HK.out.1 4 _)
            have G5 : ((wc.setCell ⟨w.heap.size, 4, none⟩ (Value.int .i64 ((t + 1)))).alloc (.cells #[.int .i64 1, .int .i64 2, .int .i64 4] 3)).heap[w.heap.size + 1]? = some (.cells #[.int .u64 0, .int .u64 0, .int .u64 0, .int .u64 0, .int .i64 0, .int .u64 0, .bool false, .int .u64 0, .int .i64 0, .int .u64 0, .int .u64 0, .int .u64 0, .int .u64 0] 38 (0, 0)) := heap_old _ _ _ (heap_far (a := ⟨w.heap.size, 4, none⟩) HK.out.2 (by simp) _)
            have HG := Lib.hid (And.intro G4 G5)
            clear G4 G5 HK
            have HALL : Hid ((#[.int .u64 q0, .int .u64 q1, .int .u64 q2, .int .u64 q3, .int .i64 (t + 1), .int .u64 en, .bool i, .int .u64 fa, .int .i64 fc, .int .u64 s0, .int .u64 s1, .int .u64 s2, .int .u64 s3] : Array Value).all (·.oneCell') = true) := Lib.hid (by simp [Value.oneCell'])
            go_wp2_with fail
            refine wp_loop_rounds 4 ?_
            repeat any_goals (rw [rounds_succ]; go_wp2_with (first | (refine wpList_load_row rfl 38 (.tmp 5) rfl w.heap.size rfl 38 #[.int .u64 q0, .int .u64 q1, .int .u64 q2, .int .u64 q3, .int .i64 (t + 1), .int .u64 en, .bool i, .int .u64 fa, .int .i64 fc, .int .u64 s0, .int .u64 s1, .int .u64 s2, .int .u64 s3] (0, 0) (.struct fs) HG.out.1 HFS.out rfl infoR ?_) | (refine wpList_store_row rfl 38 (.tmp 10) (.tmp 76) rfl (w.heap.size + 1) #[.int .u64 q0, .int .u64 q1, .int .u64 q2, .int .u64 q3, .int .i64 (t + 1), .int .u64 en, .bool i, .int .u64 fa, .int .i64 fc, .int .u64 s0, .int .u64 s1, .int .u64 s2, .int .u64 s3] rfl rfl 38 #[.int .u64 0, .int .u64 0, .int .u64 0, .int .u64 0, .int .i64 0, .int .u64 0, .bool false, .int .u64 0, .int .i64 0, .int .u64 0, .int .u64 0, .int .u64 0, .int .u64 0] HG.out.2 infoR rfl HALL.out ?_)))
            refine bodyPost_ret (results_cell_tmp (p := 10) (q := 11) rfl _ _ (w.heap.size + 1) 38 #[.int .u64 q0, .int .u64 q1, .int .u64 q2, .int .u64 q3, .int .i64 (t + 1), .int .u64 en, .bool i, .int .u64 fa, .int .i64 fc, .int .u64 s0, .int .u64 s1, .int .u64 s2, .int .u64 s3] (0, 0) fs (.int .i64 0) rfl rfl (setRow_heap _ _ _ _ _ _ HG.out.2) HFS.out infoR) rfl ?_
            exact ⟨ret_v (by rw [← HFX.out.1, ← HFX.out.2, HE.out]; simp only [recV, if_true, ← HQ.out.1, ← HQ.out.2.1, ← HQ.out.2.2.1, ← HQ.out.2.2.2, HO.out]), below_row (by go_grown) (by omega) _⟩
          · have HO := Lib.hid e2
            clear HT HF e2
            have G4 := heap_old wc (.cells #[.int .i64 1, .int .i64 2, .int .i64 4] 3) _ HK.out.1
            have G5 := heap_old wc (.cells #[.int .i64 1, .int .i64 2, .int .i64 4] 3) _ HK.out.2
            have HG := Lib.hid (And.intro G4 G5)
            clear G4 G5 HK
            have HALL : Hid ((#[.int .u64 q0, .int .u64 q1, .int .u64 q2, .int .u64 q3, .int .i64 t, .int .u64 en, .bool i, .int .u64 fa, .int .i64 fc, .int .u64 s0, .int .u64 s1, .int .u64 s2, .int .u64 s3] : Array Value).all (·.oneCell') = true) := Lib.hid (by simp [Value.oneCell'])
            go_wp2_with fail
            refine wp_loop_rounds 4 ?_
            repeat any_goals (rw [rounds_succ]; go_wp2_with (first | (refine wpList_load_row rfl 38 (.tmp 5) rfl w.heap.size rfl 38 #[.int .u64 q0, .int .u64 q1, .int .u64 q2, .int .u64 q3, .int .i64 t, .int .u64 en, .bool i, .int .u64 fa, .int .i64 fc, .int .u64 s0, .int .u64 s1, .int .u64 s2, .int .u64 s3] (0, 0) (.struct fs) HG.out.1 HFS.out rfl infoR ?_) | (refine wpList_store_row rfl 38 (.tmp 10) (.tmp 76) rfl (w.heap.size + 1) #[.int .u64 q0, .int .u64 q1, .int .u64 q2, .int .u64 q3, .int .i64 t, .int .u64 en, .bool i, .int .u64 fa, .int .i64 fc, .int .u64 s0, .int .u64 s1, .int .u64 s2, .int .u64 s3] rfl rfl 38 #[.int .u64 0, .int .u64 0, .int .u64 0, .int .u64 0, .int .i64 0, .int .u64 0, .bool false, .int .u64 0, .int .i64 0, .int .u64 0, .int .u64 0, .int .u64 0, .int .u64 0] HG.out.2 infoR rfl HALL.out ?_)))
            refine bodyPost_ret (results_cell_tmp (p := 10) (q := 11) rfl _ _ (w.heap.size + 1) 38 #[.int .u64 q0, .int .u64 q1, .int .u64 q2, .int .u64 q3, .int .i64 t, .int .u64 en, .bool i, .int .u64 fa, .int .i64 fc, .int .u64 s0, .int .u64 s1, .int .u64 s2, .int .u64 s3] (0, 0) fs (.int .i64 0) rfl rfl (setRow_heap _ _ _ _ _ _ HG.out.2) HFS.out infoR) rfl ?_
            exact ⟨ret_v (by rw [← HFX.out.1, ← HFX.out.2, HE.out]; simp only [recV, if_true, ← HQ.out.1, ← HQ.out.2.1, ← HQ.out.2.2.1, ← HQ.out.2.2.2, HO.out]), below_row (by go_grown) (by omega) _⟩
        · have m1 : bits .and .i64 2 1 = 0 := by decide
          have m2 : bits .and .i64 2 2 = 2 := by decide
          have m4 : bits .and .i64 2 4 = 0 := by decide
          rcases HT.out.2.1 with ⟨e1, e2, e3⟩ | ⟨e1, e2⟩
          · have HO := Lib.hid e2
            have hw1 : wrap64 (t + 2) = t + 2 := by unfold wrap64; omega
            have hw2 : IntKind.i64.wrap (t + 2) = t + 2 := by rw [IntKind.wrap_i64]; omega
            clear HT HF e2
            have G4 : ((wc.setCell ⟨w.heap.size, 4, none⟩ (Value.int .i64 ((t + 2)))).alloc (.cells #[.int .i64 1, .int .i64 2, .int .i64 4] 3)).heap[w.heap.size]? = some (.cells #[.int .u64 q0, .int .u64 q1, .int .u64 q2, .int .u64 q3, .int .i64 (t + 2), .int .u64 en, .bool i, .int .u64 fa, .int .i64 fc, .int .u64 s0, .int .u64 s1, .int .u64 s2, .int .u64 s3] 38 (0, 0)) := heap_old _ _ _ (heap_set HK.out.1 4 _)
            have G5 : ((wc.setCell ⟨w.heap.size, 4, none⟩ (Value.int .i64 ((t + 2)))).alloc (.cells #[.int .i64 1, .int .i64 2, .int .i64 4] 3)).heap[w.heap.size + 1]? = some (.cells #[.int .u64 0, .int .u64 0, .int .u64 0, .int .u64 0, .int .i64 0, .int .u64 0, .bool false, .int .u64 0, .int .i64 0, .int .u64 0, .int .u64 0, .int .u64 0, .int .u64 0] 38 (0, 0)) := heap_old _ _ _ (heap_far (a := ⟨w.heap.size, 4, none⟩) HK.out.2 (by simp) _)
            have HG := Lib.hid (And.intro G4 G5)
            clear G4 G5 HK
            have HALL : Hid ((#[.int .u64 q0, .int .u64 q1, .int .u64 q2, .int .u64 q3, .int .i64 (t + 2), .int .u64 en, .bool i, .int .u64 fa, .int .i64 fc, .int .u64 s0, .int .u64 s1, .int .u64 s2, .int .u64 s3] : Array Value).all (·.oneCell') = true) := Lib.hid (by simp [Value.oneCell'])
            go_wp2_with fail
            refine wp_loop_rounds 4 ?_
            repeat any_goals (rw [rounds_succ]; go_wp2_with (first | (refine wpList_load_row rfl 38 (.tmp 5) rfl w.heap.size rfl 38 #[.int .u64 q0, .int .u64 q1, .int .u64 q2, .int .u64 q3, .int .i64 (t + 2), .int .u64 en, .bool i, .int .u64 fa, .int .i64 fc, .int .u64 s0, .int .u64 s1, .int .u64 s2, .int .u64 s3] (0, 0) (.struct fs) HG.out.1 HFS.out rfl infoR ?_) | (refine wpList_store_row rfl 38 (.tmp 10) (.tmp 76) rfl (w.heap.size + 1) #[.int .u64 q0, .int .u64 q1, .int .u64 q2, .int .u64 q3, .int .i64 (t + 2), .int .u64 en, .bool i, .int .u64 fa, .int .i64 fc, .int .u64 s0, .int .u64 s1, .int .u64 s2, .int .u64 s3] rfl rfl 38 #[.int .u64 0, .int .u64 0, .int .u64 0, .int .u64 0, .int .i64 0, .int .u64 0, .bool false, .int .u64 0, .int .i64 0, .int .u64 0, .int .u64 0, .int .u64 0, .int .u64 0] HG.out.2 infoR rfl HALL.out ?_)))
            refine bodyPost_ret (results_cell_tmp (p := 10) (q := 11) rfl _ _ (w.heap.size + 1) 38 #[.int .u64 q0, .int .u64 q1, .int .u64 q2, .int .u64 q3, .int .i64 (t + 2), .int .u64 en, .bool i, .int .u64 fa, .int .i64 fc, .int .u64 s0, .int .u64 s1, .int .u64 s2, .int .u64 s3] (0, 0) fs (.int .i64 0) rfl rfl (setRow_heap _ _ _ _ _ _ HG.out.2) HFS.out infoR) rfl ?_
            exact ⟨ret_v (by rw [← HFX.out.1, ← HFX.out.2, HE.out]; simp only [recV, if_true, ← HQ.out.1, ← HQ.out.2.1, ← HQ.out.2.2.1, ← HQ.out.2.2.2, HO.out]), below_row (by go_grown) (by omega) _⟩
          · have HO := Lib.hid e2
            clear HT HF e2
            have G4 := heap_old wc (.cells #[.int .i64 1, .int .i64 2, .int .i64 4] 3) _ HK.out.1
            have G5 := heap_old wc (.cells #[.int .i64 1, .int .i64 2, .int .i64 4] 3) _ HK.out.2
            have HG := Lib.hid (And.intro G4 G5)
            clear G4 G5 HK
            have HALL : Hid ((#[.int .u64 q0, .int .u64 q1, .int .u64 q2, .int .u64 q3, .int .i64 t, .int .u64 en, .bool i, .int .u64 fa, .int .i64 fc, .int .u64 s0, .int .u64 s1, .int .u64 s2, .int .u64 s3] : Array Value).all (·.oneCell') = true) := Lib.hid (by simp [Value.oneCell'])
            go_wp2_with fail
            refine wp_loop_rounds 4 ?_
            repeat any_goals (rw [rounds_succ]; go_wp2_with (first | (refine wpList_load_row rfl 38 (.tmp 5) rfl w.heap.size rfl 38 #[.int .u64 q0, .int .u64 q1, .int .u64 q2, .int .u64 q3, .int .i64 t, .int .u64 en, .bool i, .int .u64 fa, .int .i64 fc, .int .u64 s0, .int .u64 s1, .int .u64 s2, .int .u64 s3] (0, 0) (.struct fs) HG.out.1 HFS.out rfl infoR ?_) | (refine wpList_store_row rfl 38 (.tmp 10) (.tmp 76) rfl (w.heap.size + 1) #[.int .u64 q0, .int .u64 q1, .int .u64 q2, .int .u64 q3, .int .i64 t, .int .u64 en, .bool i, .int .u64 fa, .int .i64 fc, .int .u64 s0, .int .u64 s1, .int .u64 s2, .int .u64 s3] rfl rfl 38 #[.int .u64 0, .int .u64 0, .int .u64 0, .int .u64 0, .int .i64 0, .int .u64 0, .bool false, .int .u64 0, .int .i64 0, .int .u64 0, .int .u64 0, .int .u64 0, .int .u64 0] HG.out.2 infoR rfl HALL.out ?_)))
            refine bodyPost_ret (results_cell_tmp (p := 10) (q := 11) rfl _ _ (w.heap.size + 1) 38 #[.int .u64 q0, .int .u64 q1, .int .u64 q2, .int .u64 q3, .int .i64 t, .int .u64 en, .bool i, .int .u64 fa, .int .i64 fc, .int .u64 s0, .int .u64 s1, .int .u64 s2, .int .u64 s3] (0, 0) fs (.int .i64 0) rfl rfl (setRow_heap _ _ _ _ _ _ HG.out.2) HFS.out infoR) rfl ?_
            exact ⟨ret_v (by rw [← HFX.out.1, ← HFX.out.2, HE.out]; simp only [recV, if_true, ← HQ.out.1, ← HQ.out.2.1, ← HQ.out.2.2.1, ← HQ.out.2.2.2, HO.out]), below_row (by go_grown) (by omega) _⟩
        · have m1 : bits .and .i64 4 1 = 0 := by decide
          have m2 : bits .and .i64 4 2 = 0 := by decide
          have m4 : bits .and .i64 4 4 = 4 := by decide
          rcases HT.out.2.2.1 with ⟨e1, e2, e3⟩ | ⟨e1, e2⟩
          · have HO := Lib.hid e2
            have hw1 : wrap64 (t + 4) = t + 4 := by unfold wrap64; omega
            have hw2 : IntKind.i64.wrap (t + 4) = t + 4 := by rw [IntKind.wrap_i64]; omega
            clear HT HF e2
            have G4 : ((wc.setCell ⟨w.heap.size, 4, none⟩ (Value.int .i64 ((t + 4)))).alloc (.cells #[.int .i64 1, .int .i64 2, .int .i64 4] 3)).heap[w.heap.size]? = some (.cells #[.int .u64 q0, .int .u64 q1, .int .u64 q2, .int .u64 q3, .int .i64 (t + 4), .int .u64 en, .bool i, .int .u64 fa, .int .i64 fc, .int .u64 s0, .int .u64 s1, .int .u64 s2, .int .u64 s3] 38 (0, 0)) := heap_old _ _ _ (heap_set HK.out.1 4 _)
            have G5 : ((wc.setCell ⟨w.heap.size, 4, none⟩ (Value.int .i64 ((t + 4)))).alloc (.cells #[.int .i64 1, .int .i64 2, .int .i64 4] 3)).heap[w.heap.size + 1]? = some (.cells #[.int .u64 0, .int .u64 0, .int .u64 0, .int .u64 0, .int .i64 0, .int .u64 0, .bool false, .int .u64 0, .int .i64 0, .int .u64 0, .int .u64 0, .int .u64 0, .int .u64 0] 38 (0, 0)) := heap_old _ _ _ (heap_far (a := ⟨w.heap.size, 4, none⟩) HK.out.2 (by simp) _)
            have HG := Lib.hid (And.intro G4 G5)
            clear G4 G5 HK
            have HALL : Hid ((#[.int .u64 q0, .int .u64 q1, .int .u64 q2, .int .u64 q3, .int .i64 (t + 4), .int .u64 en, .bool i, .int .u64 fa, .int .i64 fc, .int .u64 s0, .int .u64 s1, .int .u64 s2, .int .u64 s3] : Array Value).all (·.oneCell') = true) := Lib.hid (by simp [Value.oneCell'])
            go_wp2_with fail
            refine wp_loop_rounds 4 ?_
            repeat any_goals (rw [rounds_succ]; go_wp2_with (first | (refine wpList_load_row rfl 38 (.tmp 5) rfl w.heap.size rfl 38 #[.int .u64 q0, .int .u64 q1, .int .u64 q2, .int .u64 q3, .int .i64 (t + 4), .int .u64 en, .bool i, .int .u64 fa, .int .i64 fc, .int .u64 s0, .int .u64 s1, .int .u64 s2, .int .u64 s3] (0, 0) (.struct fs) HG.out.1 HFS.out rfl infoR ?_) | (refine wpList_store_row rfl 38 (.tmp 10) (.tmp 76) rfl (w.heap.size + 1) #[.int .u64 q0, .int .u64 q1, .int .u64 q2, .int .u64 q3, .int .i64 (t + 4), .int .u64 en, .bool i, .int .u64 fa, .int .i64 fc, .int .u64 s0, .int .u64 s1, .int .u64 s2, .int .u64 s3] rfl rfl 38 #[.int .u64 0, .int .u64 0, .int .u64 0, .int .u64 0, .int .i64 0, .int .u64 0, .bool false, .int .u64 0, .int .i64 0, .int .u64 0, .int .u64 0, .int .u64 0, .int .u64 0] HG.out.2 infoR rfl HALL.out ?_)))
            refine bodyPost_ret (results_cell_tmp (p := 10) (q := 11) rfl _ _ (w.heap.size + 1) 38 #[.int .u64 q0, .int .u64 q1, .int .u64 q2, .int .u64 q3, .int .i64 (t + 4), .int .u64 en, .bool i, .int .u64 fa, .int .i64 fc, .int .u64 s0, .int .u64 s1, .int .u64 s2, .int .u64 s3] (0, 0) fs (.int .i64 0) rfl rfl (setRow_heap _ _ _ _ _ _ HG.out.2) HFS.out infoR) rfl ?_
            exact ⟨ret_v (by rw [← HFX.out.1, ← HFX.out.2, HE.out]; simp only [recV, if_true, ← HQ.out.1, ← HQ.out.2.1, ← HQ.out.2.2.1, ← HQ.out.2.2.2, HO.out]), below_row (by go_grown) (by omega) _⟩
          · have HO := Lib.hid e2
            clear HT HF e2
            have G4 := heap_old wc (.cells #[.int .i64 1, .int .i64 2, .int .i64 4] 3) _ HK.out.1
            have G5 := heap_old wc (.cells #[.int .i64 1, .int .i64 2, .int .i64 4] 3) _ HK.out.2
            have HG := Lib.hid (And.intro G4 G5)
            clear G4 G5 HK
            have HALL : Hid ((#[.int .u64 q0, .int .u64 q1, .int .u64 q2, .int .u64 q3, .int .i64 t, .int .u64 en, .bool i, .int .u64 fa, .int .i64 fc, .int .u64 s0, .int .u64 s1, .int .u64 s2, .int .u64 s3] : Array Value).all (·.oneCell') = true) := Lib.hid (by simp [Value.oneCell'])
            go_wp2_with fail
            refine wp_loop_rounds 4 ?_
            repeat any_goals (rw [rounds_succ]; go_wp2_with (first | (refine wpList_load_row rfl 38 (.tmp 5) rfl w.heap.size rfl 38 #[.int .u64 q0, .int .u64 q1, .int .u64 q2, .int .u64 q3, .int .i64 t, .int .u64 en, .bool i, .int .u64 fa, .int .i64 fc, .int .u64 s0, .int .u64 s1, .int .u64 s2, .int .u64 s3] (0, 0) (.struct fs) HG.out.1 HFS.out rfl infoR ?_) | (refine wpList_store_row rfl 38 (.tmp 10) (.tmp 76) rfl (w.heap.size + 1) #[.int .u64 q0, .int .u64 q1, .int .u64 q2, .int .u64 q3, .int .i64 t, .int .u64 en, .bool i, .int .u64 fa, .int .i64 fc, .int .u64 s0, .int .u64 s1, .int .u64 s2, .int .u64 s3] rfl rfl 38 #[.int .u64 0, .int .u64 0, .int .u64 0, .int .u64 0, .int .i64 0, .int .u64 0, .bool false, .int .u64 0, .int .i64 0, .int .u64 0, .int .u64 0, .int .u64 0, .int .u64 0] HG.out.2 infoR rfl HALL.out ?_)))
            refine bodyPost_ret (results_cell_tmp (p := 10) (q := 11) rfl _ _ (w.heap.size + 1) 38 #[.int .u64 q0, .int .u64 q1, .int .u64 q2, .int .u64 q3, .int .i64 t, .int .u64 en, .bool i, .int .u64 fa, .int .i64 fc, .int .u64 s0, .int .u64 s1, .int .u64 s2, .int .u64 s3] (0, 0) fs (.int .i64 0) rfl rfl (setRow_heap _ _ _ _ _ _ HG.out.2) HFS.out infoR) rfl ?_
            exact ⟨ret_v (by rw [← HFX.out.1, ← HFX.out.2, HE.out]; simp only [recV, if_true, ← HQ.out.1, ← HQ.out.2.1, ← HQ.out.2.2.1, ← HQ.out.2.2.2, HO.out]), below_row (by go_grown) (by omega) _⟩
    · rw [h]
      have HE := Lib.hid h
      clear h HC HF HT k2 k3
      go_wp2_with fail
      (try simp only [Exit.inBlock, Exit.then])
      refine bodyPost_ret (by simp [results, Try.results20, go_sem, c0, c1, c2, c3, c4, c5, c6, c7, c8, c9, c10, c11, c12, d0, d1, d2, d3, d4, d5, d6, d7, d8, d9, d10, d11, d12, hs0, hs]; try rfl) rfl ?_
      exact ⟨ret_v (by simp [recV, HE.out]), by go_grown⟩
end
end Go.Proofs.Ytokmcjjdoiaeaaa
