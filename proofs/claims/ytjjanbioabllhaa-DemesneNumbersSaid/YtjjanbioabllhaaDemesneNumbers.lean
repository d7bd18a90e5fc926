/- DemesneNumbers: numbers in memory are reckoned with as elsewhere. No condition. -/
import Derived.Test.YtjjanbioabllhaaRamLb
import Derived.Test.YtjjanbioabllhaaFltDo
namespace Go.Proofs.Ytjjanbioabllhaa
open Go.ChangeShapes Go.WideShapes Go.ChangeAt Go.RowKit
set_option linter.unusedVariables false
set_option linter.unusedSimpArgs false
theorem do_inf (w : World) : Calls Try.prog 4 #[.int .i64 4, .int .u64 4607182418800017408, .int .u64 0] w fun e w' => e = .returned (.tuple #[.int .u64 9218868437227405312, .int .i64 2, .int .i64 0]) ∧ Below w.heap.size w w' := by
  have h := do_arith 4 (by omega) 4607182418800017408 0 (by decide) (by decide) w
  rw [one_zero] at h
  exact h
set_option maxRecDepth 10000 in
set_option maxHeartbeats 1000000 in
theorem numbers_e1 (a op x y : Int) (d1 : decide (a < 0) = true) (w : World) :
    Calls Try.prog 3 #[.int .i64 a, .int .i64 op, .int .u64 x, .int .u64 y] w fun e w' => e = .returned (.bool true) ∧ Below w.heap.size w w' := by
  go_enter Try.func3, Try.ntmps3
  go_wp2_with fail
  refine (fromint_one _).mono ?_
  rintro e w0 ⟨rfl, hw⟩
  obtain rfl := hw.symm
  clear hw
  go_wp2_with fail
  refine (do_inf _).mono ?_
  rintro e w1 ⟨rfl, hb1⟩
  go_wp2
  go_returns
  exact ⟨rfl, hb1⟩
set_option maxRecDepth 10000 in
set_option maxHeartbeats 1000000 in
theorem numbers_e2 (a op x y : Int) (d1 : decide (a < 0) = false) (d2 : decide (1000 < a) = true) (w : World) :
    Calls Try.prog 3 #[.int .i64 a, .int .i64 op, .int .u64 x, .int .u64 y] w fun e w' => e = .returned (.bool true) ∧ Below w.heap.size w w' := by
  go_enter Try.func3, Try.ntmps3
  go_wp2_with fail
  refine (fromint_one _).mono ?_
  rintro e w0 ⟨rfl, hw⟩
  obtain rfl := hw.symm
  clear hw
  go_wp2_with fail
  refine (do_inf _).mono ?_
  rintro e w1 ⟨rfl, hb1⟩
  go_wp2
  go_returns
  exact ⟨rfl, hb1⟩
theorem RT.below' {B base m : Nat} {W0 W W' : World} (h0 : Below B W0 W) (hB : B ≤ W0.heap.size) (hb : B ≤ base) (h : RT base m W W') : Below B W0 W' := Below.touch h0 h.t hB fun k hk => Nat.le_trans hb hk.1
theorem fcmp_self {z : Nat} (h : nanN z = false) : fcmp z z = 0 := by
  unfold fcmp
  rw [h]
  simp
set_option maxRecDepth 10000 in
set_option maxHeartbeats 4000000 in
theorem numbers_ok (an x y : Nat) (op : Int) (han : an ≤ 1000) (hx : x < 18446744073709551616) (hy : y < 18446744073709551616) (w : World) :
    Calls Try.prog 3 #[.int .i64 an, .int .i64 op, .int .u64 x, .int .u64 y] w fun e w' => e = .returned (.bool true) ∧ Below w.heap.size w w' := by
  have HN := Lib.hid (fun W : World => new_good (HL.nil W 0) (by decide) 2 (by decide))
  have d1 : decide ((an : Int) < 0) = false := decide_eq_false (by omega)
  have d2 : decide (1000 < (an : Int)) = false := decide_eq_false (by omega)
  have d2b : decide (1000 < an) = false := decide_eq_false (by omega)
  obtain ⟨p, hp⟩ : ∃ p, p = 8 * an := ⟨_, rfl⟩
  have k1 : IntKind.i64.wrap (8 * (an : Int)) = (p : Int) := by rw [IntKind.wrap_i64]; omega
  have k1b : 8 * (an : Int) = (p : Int) := by omega
  have k2 : IntKind.u64.wrap (p : Int) = p := by rw [IntKind.wrap_u64]; omega
  have k5 : wrap64 (p : Int) = p := by unfold wrap64; omega
  have k6 : IntKind.i64.wrap (p : Int) = p := by rw [IntKind.wrap_i64]; omega
  obtain ⟨p1, hp1⟩ : ∃ q, q = p + 8 := ⟨_, rfl⟩
  obtain ⟨p2, hp2⟩ : ∃ q, q = p + 16 := ⟨_, rfl⟩
  have k3 : IntKind.u64.wrap ((p : Int) + 8) = (p1 : Int) := by rw [IntKind.wrap_u64]; omega
  have k4 : IntKind.u64.wrap ((p : Int) + 16) = (p2 : Int) := by rw [IntKind.wrap_u64]; omega
  have k7 : (p : Int) + 8 = (p1 : Int) := by omega
  have k8 : (p : Int) + 16 = (p2 : Int) := by omega
  have k9 : IntKind.u64.wrap (p1 : Int) = p1 := by rw [IntKind.wrap_u64]; omega
  have k10 : IntKind.u64.wrap (p2 : Int) = p2 := by rw [IntKind.wrap_u64]; omega
  have HP : Hid (p ≤ 8000) := Lib.hid (by omega)
  have HP1 := Lib.hid hp1
  have HP2 := Lib.hid hp2
  have HXB := Lib.hid hx
  have HYB := Lib.hid hy
  obtain ⟨z, hz⟩ : ∃ z : Nat, dX op x y = z := ⟨(dX op x y).toNat, by have := dX_bd op x y (by omega) (by omega) (by omega) (by omega); omega⟩
  have hzb : z < 18446744073709551616 := by have := dX_bd op x y (by omega) (by omega) (by omega) (by omega); omega
  obtain ⟨fl, hfl⟩ : ∃ f, dF op x y = f := ⟨_, rfl⟩
  obtain ⟨de, hde⟩ : ∃ f, dE op = f := ⟨_, rfl⟩
  have HD_ := fun W : World => do_any op x y (by omega) (by omega) (by omega) (by omega) W
  rw [hz, hfl, hde] at HD_
  have HD := Lib.hid HD_
  have HZB := Lib.hid hzb
  clear hp hp1 hp2 hx hy han hz hfl hde HD_ hzb
  go_enter Try.func3, Try.ntmps3
  go_wp2_with fail
  refine (fromint_one _).mono ?_
  rintro e w0 ⟨rfl, hw⟩
  obtain rfl := hw.symm
  clear hw
  go_wp2_with fail
  refine (do_inf _).mono ?_
  rintro e w1 ⟨rfl, hb1⟩
  go_wp2_with fail
  refine (HN.out _).mono ?_
  rintro e wn ⟨b, m, rfl, hR, hb2⟩
  have hB1 : Hid (Below w.heap.size w wn) := Lib.hid (b_then hb1 hb2)
  have HBS : Hid (w.heap.size ≤ w1.heap.size) := Lib.hid hb1.size
  obtain ⟨base, hbase⟩ : ∃ B, B = w1.heap.size := ⟨_, rfl⟩
  rw [← hbase] at hR HBS
  have HR1 := Lib.hid hR
  clear hb1 hb2 hR hbase HN
  have H1_ := store8 HR1.out p x (by have := HP.out; have := HP1.out; have := HP2.out; omega) HXB.out
  have H1 := Lib.hid H1_
  clear H1_
  go_wp2_with fail
  refine H1.out.mono ?_
  rintro e w2 ⟨rfl, hT, hR⟩
  have hB2 := Lib.hid (RT.below' hB1.out (Nat.le_refl _) HBS.out hT)
  have HR2 := Lib.hid hR
  clear hT hR H1 hB1 HR1
  have H2_ := store8 HR2.out p1 y (by have := HP.out; have := HP1.out; have := HP2.out; omega) HYB.out
  have H2 := Lib.hid H2_
  clear H2_
  obtain ⟨M1, hM1⟩ : ∃ M, M = storeF (storeF (fun _ => 0) p 8 x) p1 8 y := ⟨_, rfl⟩
  rw [← hM1] at H2
  have v1 : loadF M1 p 8 = x := by
    have := HP1.out
    rw [hM1, load_far _ _ _ _ _ _ (by omega), load_same, Nat.mod_eq_of_lt HXB.out]
  have v2 : loadF M1 p1 8 = y := by rw [hM1, load_same, Nat.mod_eq_of_lt HYB.out]
  have V1 := Lib.hid v1
  have V2 := Lib.hid v2
  clear v1 v2 hM1
  go_wp2_with fail
  refine H2.out.mono ?_
  rintro e w3 ⟨rfl, hT, hR⟩
  have hB3 := Lib.hid (RT.below' hB2.out (Nat.le_refl _) HBS.out hT)
  have HR3 := Lib.hid hR
  clear hT hR H2 hB2 HR2
  have H3_ := load8 HR3.out p (by have := HP.out; have := HP1.out; have := HP2.out; omega)
  rw [V1.out] at H3_
  have H3 := Lib.hid H3_
  clear H3_
  go_wp2_with fail
  refine H3.out.mono ?_
  rintro e w4 ⟨rfl, hb⟩
  have hB4 := Lib.hid (b_then hB3.out hb)
  have HR4 := Lib.hid (HR3.out.below hb)
  clear hb H3 hB3 HR3
  have H4_ := load8 HR4.out p1 (by have := HP.out; have := HP1.out; have := HP2.out; omega)
  rw [V2.out] at H4_
  have H4 := Lib.hid H4_
  clear H4_
  go_wp2_with fail
  refine H4.out.mono ?_
  rintro e w5 ⟨rfl, hb⟩
  have hB5 := Lib.hid (b_then hB4.out hb)
  have HR5 := Lib.hid (HR4.out.below hb)
  clear hb H4 hB4 HR4
  go_wp2_with fail
  refine (HD.out _).mono ?_
  rintro e w6 ⟨rfl, hb⟩
  have hB6 := Lib.hid (b_then hB5.out hb)
  have HR6 := Lib.hid (HR5.out.below hb)
  clear hb hB5 HR5
  go_wp2_with fail
  refine (HD.out _).mono ?_
  rintro e w7 ⟨rfl, hb⟩
  have hB7 := Lib.hid (b_then hB6.out hb)
  have HR7 := Lib.hid (HR6.out.below hb)
  clear hb hB6 HR6
  have H5_ := store8 HR7.out p2 z (by have := HP.out; have := HP1.out; have := HP2.out; omega) HZB.out
  have H5 := Lib.hid H5_
  clear H5_
  go_wp2_with fail
  refine H5.out.mono ?_
  rintro e w8 ⟨rfl, hT, hR⟩
  have hB8 := Lib.hid (RT.below' hB7.out (Nat.le_refl _) HBS.out hT)
  have HR8 := Lib.hid hR
  clear hT hR H5 hB7 HR7
  have H6_ := load8 HR8.out p2 (by have := HP.out; have := HP1.out; have := HP2.out; omega)
  rw [load_same, Nat.mod_eq_of_lt HZB.out] at H6_
  have H6 := Lib.hid H6_
  clear H6_
  go_wp2_with fail
  refine H6.out.mono ?_
  rintro e w9 ⟨rfl, hb⟩
  have hB9 := Lib.hid (b_then hB8.out hb)
  have HR9 := Lib.hid (HR8.out.below hb)
  clear hb H6 hB8 HR8
  go_wp2_with fail
  refine (compare_any z z _).mono ?_
  rintro e wc ⟨rfl, hw⟩
  obtain rfl := hw.symm
  clear hw
  cases hn : nanN z
  · rw [fcmp_self hn]
    clear hn
    go_wp2
    go_returns
    exact ⟨rfl, hB9.out⟩
  · have e2 : fcmp z z = 2 := by unfold fcmp; rw [hn]; rfl
    have e4 : fcls z = 4 := (cls_nan z).1 hn
    rw [e2]
    have HC := Lib.hid (class_any z HZB.out)
    rw [e4] at HC
    clear hn e2 e4
    go_wp2_with fail
    refine (HC.out _).mono ?_
    rintro e wd ⟨rfl, hw⟩
    obtain rfl := hw.symm
    clear hw
    go_wp2
    go_returns
    exact ⟨rfl, hB9.out⟩
theorem walk_DemesneNumbers (a0 : Int) (a1 : Int) (a2 : Int) (a3 : Int) (w : World) (w0 : (Lit.int .i64 a0).wf = true) (w1 : (Lit.int .i64 a1).wf = true) (w2 : (Lit.int .u64 a2).wf = true) (w3 : (Lit.int .u64 a3).wf = true) :
    Calls Try.prog 3 #[.int .i64 a0, .int .i64 a1, .int .u64 a2, .int .u64 a3] w fun e w' => e = .returned (.bool true) ∧ Below w.heap.size w w' := by
  by_cases h1 : a0 < 0
  · exact numbers_e1 a0 a1 a2 a3 (decide_eq_true h1) w
  by_cases h2 : 1000 < a0
  · exact numbers_e2 a0 a1 a2 a3 (decide_eq_false h1) (decide_eq_true h2) w
  have b2 := u64_bd w2
  have b3 := u64_bd w3
  obtain ⟨an, rfl⟩ : ∃ n : Nat, a0 = n := ⟨a0.toNat, by omega⟩
  obtain ⟨x, rfl⟩ : ∃ n : Nat, a2 = n := ⟨a2.toNat, by have := b2.1; omega⟩
  obtain ⟨y, rfl⟩ : ∃ n : Nat, a3 = n := ⟨a3.toNat, by have := b3.1; omega⟩
  exact numbers_ok an x y a1 (by omega) (by have := b2.2; omega) (by have := b3.2; omega) w
end Go.Proofs.Ytjjanbioabllhaa
