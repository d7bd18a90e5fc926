/- RamWhole: a store that doesn't fit changes nothing, and a copy stays when its frame changes. No condition. -/
import Derived.Test.YtnjjeedalmikaaaRamHoles
namespace Go.Proofs.Ytnjjeedalmikaaa
open Go.ChangeShapes Go.WideShapes Go.ChangeAt Go.RowKit
set_option linter.unusedVariables false
set_option linter.unusedSimpArgs false
abbrev WH : Hs := [(1, 2)]
theorem wh_in {a s : Nat} (hs : s = 1 ∨ s = 2 ∨ s = 4 ∨ s = 8) (h : a + s ≤ 4096) : errF 4 WH (a : Int) s = 0 := by
  have e1 : hasF 4 WH ((a : Int) / 4096) = true := by rw [hasF_one _ _ _ _ (by omega)]; simp; omega
  have e2 : hasF 4 WH (((a : Int) + s - 1) / 4096) = true := by rw [hasF_one _ _ _ _ (by omega)]; simp; omega
  unfold errF
  rw [if_pos (by omega), if_pos ⟨by omega, by omega, e1, e2⟩]
theorem wh_in2 {a s : Nat} (hs : s = 1 ∨ s = 2 ∨ s = 4 ∨ s = 8) (h : a + s ≤ 4096) : errF 4 WH ((8192 + a : Nat) : Int) s = 0 := by
  have e1 : hasF 4 WH (((8192 + a : Nat) : Int) / 4096) = true := by rw [hasF_one _ _ _ _ (by omega)]; simp; omega
  have e2 : hasF 4 WH ((((8192 + a : Nat) : Int) + s - 1) / 4096) = true := by rw [hasF_one _ _ _ _ (by omega)]; simp; omega
  unfold errF
  rw [if_pos (by omega), if_pos ⟨by omega, by omega, e1, e2⟩]
theorem wh_out {a : Nat} {s : Int} (ha : a ≤ 4096) (h : errF 4 WH (a : Int) s = 0) : ∃ k : Nat, s = k ∧ (k = 1 ∨ k = 2 ∨ k = 4 ∨ k = 8) ∧ a + k ≤ 4096 := by
  obtain ⟨h1, h2, h3, h4, h5⟩ := errF_good h
  refine ⟨s.toNat, by omega, by omega, ?_⟩
  rw [hasF_one _ _ _ _ (by omega)] at h4 h5
  simp at h4 h5
  omega
theorem zero_two {v x : Nat} (h : x = 0 → v = 0) : v = 0 ∨ ((v == 0) = false ∧ (x == 0) = false ∧ ((v : Int) == 0) = false ∧ ((x : Int) == 0) = false) := by
  by_cases hv : v = 0
  · exact .inl hv
  · have hx : ¬ x = 0 := fun e => hv (h e)
    exact .inr ⟨beq_false_of_ne hv, beq_false_of_ne hx, beq_false_of_ne (by omega), beq_false_of_ne (by omega)⟩
set_option maxRecDepth 10000 in
set_option maxHeartbeats 2000000 in
theorem whole_err (a x y : Nat) (size : Int) (ha : a ≤ 4096) (hx : x < 18446744073709551616) (hy : y < 18446744073709551616) (he : errF 4 WH (a : Int) size ≠ 0) (w : World) :
    Calls Try.prog 7 #[.int .i64 a, .int .i64 size, .int .u64 x, .int .u64 y] w fun e w' => e = .returned (.bool true) ∧ Below w.heap.size w w' := by
  have d1 : decide ((a : Int) < 0) = false := decide_eq_false (by omega)
  have d2 : decide (4096 < (a : Int)) = false := decide_eq_false (by omega)
  have d2b : decide (4096 < a) = false := decide_eq_false (by omega)
  have q1 : IntKind.u64.wrap (a : Int) = a := by rw [IntKind.wrap_u64]; omega
  obtain ⟨a2, ha2⟩ : ∃ a2, a2 = 8192 + a := ⟨_, rfl⟩
  have q2 : IntKind.u64.wrap (8192 + (a : Int)) = (a2 : Int) := by rw [IntKind.wrap_u64]; omega
  have q3 : 8192 + (a : Int) = (a2 : Int) := by omega
  have q4 : IntKind.u64.wrap (a2 : Int) = (a2 : Int) := by rw [IntKind.wrap_u64]; omega
  obtain ⟨er, her⟩ : ∃ er, er = errF 4 WH (a : Int) size := ⟨_, rfl⟩
  have k1 : (er != 0) = true := by rw [her]; simpa using he
  have k2 : (er == 0) = false := by rw [her]; simpa using he
  have HE := Lib.hid he
  have HER := Lib.hid her
  have HA : Hid (a < 18446744073709551616) := Lib.hid (by omega)
  have HA2 : Hid (a2 < 18446744073709551616) := Lib.hid (by omega)
  have HXB := Lib.hid hx
  have HYB := Lib.hid hy
  clear he her ha2 ha hx hy
  have HN1_ := new_good (HL.one w 1 2) (by decide) 4 (by decide)
  have HN1 := Lib.hid HN1_
  clear HN1_
  go_enter Try.func7, Try.ntmps7
  go_wp2_with fail
  refine HN1.out.mono ?_
  rintro e w1 ⟨b, m, rfl, hR, hb1⟩
  have hB1 : Hid (Below w.heap.size w w1) := Lib.hid (b_then (by go_grown) hb1)
  have HBS : Hid (w.heap.size ≤ (w.alloc (.cells #[.int .i64 1, .int .i64 2] 33)).heap.size) := Lib.hid (by rw [World.size_alloc]; omega)
  obtain ⟨base, hbase⟩ : ∃ B, B = (w.alloc (.cells #[.int .i64 1, .int .i64 2] 33)).heap.size := ⟨_, rfl⟩
  rw [← hbase] at hR HBS
  have HR1 := Lib.hid hR
  clear hb1 hR hbase HN1
  have HS_ := store_any HR1.out a x size HA.out HXB.out
  rw [if_neg HE.out, ← HER.out] at HS_
  have HS := Lib.hid HS_
  clear HS_
  go_wp2_with fail
  refine HS.out.mono ?_
  rintro e w2 ⟨rfl, hT, hR⟩
  have hB2 := Lib.hid (RT.below' hB1.out (Nat.le_refl _) HBS.out hT)
  have HR2 := Lib.hid hR
  clear hT hR HS hB1 HR1
  have HC_ := clear_any HR2.out 0 (by decide)
  rw [show clearF (fun _ => 0) 0 = true from (clear_iff _ _).2 fun _ _ => rfl] at HC_
  have HC := Lib.hid HC_
  clear HC_
  go_wp2_with fail
  refine HC.out.mono ?_
  rintro e w3 ⟨rfl, hb⟩
  have hB3 := Lib.hid (b_then hB2.out hb)
  have HR3 := Lib.hid (HR2.out.below hb)
  clear hb HC hB2 HR2
  have H1_ := copy_any HR3.out 2 0
  rw [show (hasF 4 [(1, 2)] 2 && hasF 4 [(1, 2)] 0) = true by decide, if_pos rfl, if_pos rfl] at H1_
  have H1 := Lib.hid H1_
  clear H1_
  obtain ⟨M1, hM1⟩ : ∃ M, M = copyF (fun _ => 0) (2 : Int).toNat (0 : Int).toNat := ⟨_, rfl⟩
  rw [← hM1] at H1
  clear hM1
  go_wp2_with fail
  refine H1.out.mono ?_
  rintro e w4 ⟨rfl, hT, hR⟩
  have hB4 := Lib.hid (RT.below' hB3.out (Nat.le_refl _) HBS.out hT)
  have HR4 := Lib.hid hR
  clear hT hR H1 hB3 HR3
  have H2_ := copy_any HR4.out 1 0
  rw [show (hasF 4 [(1, 2)] 1 && hasF 4 [(1, 2)] 0) = false by decide, if_neg (by decide), if_neg (by decide)] at H2_
  have H2 := Lib.hid H2_
  clear H2_
  go_wp2_with fail
  refine H2.out.mono ?_
  rintro e w5 ⟨rfl, hT, hR⟩
  have hB5 := Lib.hid (RT.below' hB4.out (Nat.le_refl _) HBS.out hT)
  have HR5 := Lib.hid hR
  clear hT hR H2 hB4 HR4
  have H3_ := copy_any HR5.out 0 1
  rw [show (hasF 4 [(1, 2)] 0 && hasF 4 [(1, 2)] 1) = false by decide, if_neg (by decide), if_neg (by decide)] at H3_
  have H3 := Lib.hid H3_
  clear H3_
  go_wp2_with fail
  refine H3.out.mono ?_
  rintro e w6 ⟨rfl, hT, hR⟩
  have hB6 := Lib.hid (RT.below' hB5.out (Nat.le_refl _) HBS.out hT)
  have HR6 := Lib.hid hR
  clear hT hR H3 hB5 HR5
  obtain ⟨lv, hlv⟩ : ∃ v, v = loadR 4 [(1, 2)] M1 a2 size := ⟨_, rfl⟩
  obtain ⟨er2, her2⟩ : ∃ v, v = errF 4 [(1, 2)] (a2 : Int) size := ⟨_, rfl⟩
  have H4_ := load_any HR6.out a2 size HA2.out
  rw [← hlv, ← her2] at H4_
  have H4 := Lib.hid H4_
  clear H4_
  have HLV := Lib.hid hlv
  have HE2 := Lib.hid her2
  clear hlv her2
  go_wp2_with fail
  refine H4.out.mono ?_
  rintro e w7 ⟨rfl, hb⟩
  have hB7 := Lib.hid (b_then hB6.out hb)
  have HR7 := Lib.hid (HR6.out.below hb)
  clear hb H4 hB6 HR6
  have H5_ := store_any HR7.out 0 y 8 (by decide) HYB.out
  rw [show errF 4 [(1, 2)] ((0 : Nat) : Int) 8 = 0 by decide, if_pos rfl] at H5_
  have H5 := Lib.hid H5_
  clear H5_
  go_wp2_with fail
  refine H5.out.mono ?_
  rintro e w8 ⟨rfl, hT, hR⟩
  have hB8 := Lib.hid (RT.below' hB7.out (Nat.le_refl _) HBS.out hT)
  have HR8 := Lib.hid hR
  clear hT hR H5 hB7 HR7
  have H6_ := zero_any HR8.out 0 (by decide)
  rw [show hasF 4 [(1, 2)] 0 = true by decide, if_pos rfl, if_pos rfl] at H6_
  have H6 := Lib.hid H6_
  clear H6_
  obtain ⟨M2, hM2⟩ : ∃ M, M = zeroF (storeF M1 0 (8 : Int).toNat y) (0 : Int).toNat := ⟨_, rfl⟩
  rw [← hM2] at H6
  have hc2 : clearF M2 0 = true := by rw [hM2]; exact clear_zeroF _ _
  have HC2 := Lib.hid hc2
  clear hM2 hc2
  go_wp2_with fail
  refine H6.out.mono ?_
  rintro e w9 ⟨rfl, hT, hR⟩
  have hB9 := Lib.hid (RT.below' hB8.out (Nat.le_refl _) HBS.out hT)
  have HR9 := Lib.hid hR
  clear hT hR H6 hB8 HR8
  obtain ⟨lw, hlw⟩ : ∃ v, v = loadR 4 [(1, 2)] M2 a2 size := ⟨_, rfl⟩
  have H7_ := load_any HR9.out a2 size HA2.out
  rw [← hlw, ← HE2.out] at H7_
  have H7 := Lib.hid H7_
  clear H7_
  clear hlw
  go_wp2_with fail
  refine H7.out.mono ?_
  rintro e w10 ⟨rfl, hb⟩
  have hB10 := Lib.hid (b_then hB9.out hb)
  have HR10 := Lib.hid (HR9.out.below hb)
  clear hb H7 hB9 HR9
  go_wp2_with fail
  refine (awake_any _).mono ?_
  rintro e w11 ⟨rfl, hb⟩
  have hB11 := Lib.hid (b_then hB10.out hb)
  have HR11 := Lib.hid (HR10.out.below hb)
  clear hb hB10 HR10
  have H9_ := clear_any HR11.out 0 (by decide)
  rw [HC2.out] at H9_
  have H9 := Lib.hid H9_
  clear H9_
  go_wp2_with fail
  refine H9.out.mono ?_
  rintro e w12 ⟨rfl, hb⟩
  have hB12 := Lib.hid (b_then hB11.out hb)
  have HR12 := Lib.hid (HR11.out.below hb)
  clear hb H9 hB11 HR11
  go_wp2
  go_returns
  exact ⟨ret_v (by simp), hB12.out⟩
set_option maxRecDepth 10000 in
set_option maxHeartbeats 4000000 in
theorem whole_ok1 (a x y : Nat) (hin : a + 1 ≤ 4096) (hx : x < 18446744073709551616) (hy : y < 18446744073709551616) (w : World) :
    Calls Try.prog 7 #[.int .i64 a, .int .i64 1, .int .u64 x, .int .u64 y] w fun e w' => e = .returned (.bool true) ∧ Below w.heap.size w w' := by
  have d1 : decide ((a : Int) < 0) = false := decide_eq_false (by omega)
  have d2 : decide (4096 < (a : Int)) = false := decide_eq_false (by omega)
  have d2b : decide (4096 < a) = false := decide_eq_false (by omega)
  have q1 : IntKind.u64.wrap (a : Int) = a := by rw [IntKind.wrap_u64]; omega
  obtain ⟨a2, ha2⟩ : ∃ a2, a2 = 8192 + a := ⟨_, rfl⟩
  have q2 : IntKind.u64.wrap (8192 + (a : Int)) = (a2 : Int) := by rw [IntKind.wrap_u64]; omega
  have q3 : 8192 + (a : Int) = (a2 : Int) := by omega
  have q4 : IntKind.u64.wrap (a2 : Int) = (a2 : Int) := by rw [IntKind.wrap_u64]; omega
  obtain ⟨v, hv⟩ : ∃ v, v = x % 256 ^ 1 := ⟨_, rfl⟩
  have r1 : (x : Int) % 256 = (v : Int) := by rw [hv]; rfl
  have r2 : v = 0 ∨ ((v == 0) = false ∧ (x == 0) = false ∧ ((v : Int) == 0) = false ∧ ((x : Int) == 0) = false) := zero_two (fun h => by rw [hv, h, Nat.zero_mod])
  have HZZ := Lib.hid r2
  have HV := Lib.hid hv.symm
  clear r2 hv
  have HIN := Lib.hid hin
  have HA2 := Lib.hid ha2
  have HXB := Lib.hid hx
  have HYB := Lib.hid hy
  have HE1 : Hid (errF 4 [(1, 2)] (a : Int) 1 = 0) := Lib.hid (wh_in (s := 1) (by omega) hin)
  have HE2 : Hid (errF 4 [(1, 2)] (a2 : Int) 1 = 0) := Lib.hid (by rw [ha2]; exact wh_in2 (s := 1) (by omega) hin)
  clear ha2 hin hx hy
  have HN1_ := new_good (HL.one w 1 2) (by decide) 4 (by decide)
  have HN1 := Lib.hid HN1_
  clear HN1_
  go_enter Try.func7, Try.ntmps7
  go_wp2_with fail
  refine HN1.out.mono ?_
  rintro e w1 ⟨b, m, rfl, hR, hb1⟩
  have hB1 : Hid (Below w.heap.size w w1) := Lib.hid (b_then (by go_grown) hb1)
  have HBS : Hid (w.heap.size ≤ (w.alloc (.cells #[.int .i64 1, .int .i64 2] 33)).heap.size) := Lib.hid (by rw [World.size_alloc]; omega)
  obtain ⟨base, hbase⟩ : ∃ B, B = (w.alloc (.cells #[.int .i64 1, .int .i64 2] 33)).heap.size := ⟨_, rfl⟩
  rw [← hbase] at hR HBS
  have HR1 := Lib.hid hR
  clear hb1 hR hbase HN1
  obtain ⟨M0, hM0⟩ : ∃ M, M = storeF (fun _ => 0) a (1 : Int).toNat x := ⟨_, rfl⟩
  have HS_ := store_any HR1.out a x 1 (by have := HIN.out; omega) HXB.out
  rw [HE1.out, if_pos rfl, ← hM0] at HS_
  have HS := Lib.hid HS_
  clear HS_
  have HM0 := Lib.hid hM0
  clear hM0
  go_wp2_with fail
  refine HS.out.mono ?_
  rintro e w2 ⟨rfl, hT, hR⟩
  have hB2 := Lib.hid (RT.below' hB1.out (Nat.le_refl _) HBS.out hT)
  have HR2 := Lib.hid hR
  clear hT hR HS hB1 HR1
  have hc0 : clearF M0 0 = (v == 0) := by
    rw [HM0.out]
    refine (clear_one _ 0 a 1 x HIN.out fun i hi => ?_).trans (by rw [HV.out])
    unfold storeF
    rw [show (1 : Int).toNat = 1 from rfl, Nat.zero_mul, Nat.zero_add]
  have HC_ := clear_any HR2.out 0 (by decide)
  rw [hc0] at HC_
  have HC := Lib.hid HC_
  clear HC_
  clear hc0
  go_wp2_with fail
  refine HC.out.mono ?_
  rintro e w3 ⟨rfl, hb⟩
  have hB3 := Lib.hid (b_then hB2.out hb)
  have HR3 := Lib.hid (HR2.out.below hb)
  clear hb HC hB2 HR2
  have H1_ := copy_any HR3.out 2 0
  rw [show (hasF 4 [(1, 2)] 2 && hasF 4 [(1, 2)] 0) = true by decide, if_pos rfl, if_pos rfl] at H1_
  have H1 := Lib.hid H1_
  clear H1_
  obtain ⟨M1, hM1⟩ : ∃ M, M = copyF M0 (2 : Int).toNat (0 : Int).toNat := ⟨_, rfl⟩
  rw [← hM1] at H1
  have HM1 := Lib.hid hM1
  clear hM1
  rcases HZZ.out with hz | ⟨hz1, hz2, hz3, hz4⟩
  · have z1 : (v == 0) = true := by rw [hz]; rfl
    have z2 : ((v : Int) == 0) = true := by rw [hz]; rfl
    clear hz
    go_wp2_with fail
    refine H1.out.mono ?_
    rintro e w4 ⟨rfl, hT, hR⟩
    have hB4 := Lib.hid (RT.below' hB3.out (Nat.le_refl _) HBS.out hT)
    have HR4 := Lib.hid hR
    clear hT hR H1 hB3 HR3
    have H2_ := copy_any HR4.out 1 0
    rw [show (hasF 4 [(1, 2)] 1 && hasF 4 [(1, 2)] 0) = false by decide, if_neg (by decide), if_neg (by decide)] at H2_
    have H2 := Lib.hid H2_
    clear H2_
    go_wp2_with fail
    refine H2.out.mono ?_
    rintro e w5 ⟨rfl, hT, hR⟩
    have hB5 := Lib.hid (RT.below' hB4.out (Nat.le_refl _) HBS.out hT)
    have HR5 := Lib.hid hR
    clear hT hR H2 hB4 HR4
    have H3_ := copy_any HR5.out 0 1
    rw [show (hasF 4 [(1, 2)] 0 && hasF 4 [(1, 2)] 1) = false by decide, if_neg (by decide), if_neg (by decide)] at H3_
    have H3 := Lib.hid H3_
    clear H3_
    go_wp2_with fail
    refine H3.out.mono ?_
    rintro e w6 ⟨rfl, hT, hR⟩
    have hB6 := Lib.hid (RT.below' hB5.out (Nat.le_refl _) HBS.out hT)
    have HR6 := Lib.hid hR
    clear hT hR H3 hB5 HR5
    have hl1 : loadR 4 [(1, 2)] M1 a2 1 = (v : Int) := by
      unfold loadR
      have := HIN.out
      rw [if_pos HE2.out, HM1.out, HA2.out]
      simp only [Int.reduceToNat]
      rw [show 8192 + a = 2 * 4096 + a by omega, load_copyF _ _ _ _ _ this, Nat.zero_mul, Nat.zero_add, HM0.out]
      simp only [Int.reduceToNat]
      rw [load_same, HV.out]
    have H4_ := load_any HR6.out a2 1 (by have := HIN.out; have := HA2.out; omega)
    rw [hl1, HE2.out] at H4_
    have H4 := Lib.hid H4_
    clear H4_
    have HL1 := Lib.hid hl1
    clear hl1
    go_wp2_with fail
    refine H4.out.mono ?_
    rintro e w7 ⟨rfl, hb⟩
    have hB7 := Lib.hid (b_then hB6.out hb)
    have HR7 := Lib.hid (HR6.out.below hb)
    clear hb H4 hB6 HR6
    have H5_ := store_any HR7.out 0 y 8 (by decide) HYB.out
    rw [show errF 4 [(1, 2)] ((0 : Nat) : Int) 8 = 0 by decide, if_pos rfl] at H5_
    have H5 := Lib.hid H5_
    clear H5_
    go_wp2_with fail
    refine H5.out.mono ?_
    rintro e w8 ⟨rfl, hT, hR⟩
    have hB8 := Lib.hid (RT.below' hB7.out (Nat.le_refl _) HBS.out hT)
    have HR8 := Lib.hid hR
    clear hT hR H5 hB7 HR7
    have H6_ := zero_any HR8.out 0 (by decide)
    rw [show hasF 4 [(1, 2)] 0 = true by decide, if_pos rfl, if_pos rfl] at H6_
    have H6 := Lib.hid H6_
    clear H6_
    obtain ⟨M2, hM2⟩ : ∃ M, M = zeroF (storeF M1 0 (8 : Int).toNat y) (0 : Int).toNat := ⟨_, rfl⟩
    rw [← hM2] at H6
    have hc2 : clearF M2 0 = true := by rw [hM2]; exact clear_zeroF _ _
    have HC2 := Lib.hid hc2
    have hl2 : loadR 4 [(1, 2)] M2 a2 1 = (v : Int) := by
      have e := HL1.out
      unfold loadR at e ⊢
      have := HIN.out
      rw [if_pos HE2.out] at e ⊢
      rw [hM2, load_zeroF_far _ _ _ _ (by have := HA2.out; omega), load_far _ _ _ _ _ _ (by have := HA2.out; omega)]
      exact e
    have HL2 := Lib.hid hl2
    clear hM2 hc2 hl2
    go_wp2_with fail
    refine H6.out.mono ?_
    rintro e w9 ⟨rfl, hT, hR⟩
    have hB9 := Lib.hid (RT.below' hB8.out (Nat.le_refl _) HBS.out hT)
    have HR9 := Lib.hid hR
    clear hT hR H6 hB8 HR8
    have H7_ := load_any HR9.out a2 1 (by have := HIN.out; have := HA2.out; omega)
    rw [HL2.out, HE2.out] at H7_
    have H7 := Lib.hid H7_
    clear H7_
    go_wp2_with fail
    refine H7.out.mono ?_
    rintro e w10 ⟨rfl, hb⟩
    have hB10 := Lib.hid (b_then hB9.out hb)
    have HR10 := Lib.hid (HR9.out.below hb)
    clear hb H7 hB9 HR9
    go_wp2_with fail
    refine (awake_any _).mono ?_
    rintro e w11 ⟨rfl, hb⟩
    have hB11 := Lib.hid (b_then hB10.out hb)
    have HR11 := Lib.hid (HR10.out.below hb)
    clear hb hB10 HR10
    have H9_ := clear_any HR11.out 0 (by decide)
    rw [HC2.out] at H9_
    have H9 := Lib.hid H9_
    clear H9_
    go_wp2_with fail
    refine H9.out.mono ?_
    rintro e w12 ⟨rfl, hb⟩
    have hB12 := Lib.hid (b_then hB11.out hb)
    have HR12 := Lib.hid (HR11.out.below hb)
    clear hb H9 hB11 HR11
    go_wp2
    go_returns
    exact ⟨ret_v (by simp), hB12.out⟩
  · skip
    go_wp2_with fail
    refine H1.out.mono ?_
    rintro e w4 ⟨rfl, hT, hR⟩
    have hB4 := Lib.hid (RT.below' hB3.out (Nat.le_refl _) HBS.out hT)
    have HR4 := Lib.hid hR
    clear hT hR H1 hB3 HR3
    have H2_ := copy_any HR4.out 1 0
    rw [show (hasF 4 [(1, 2)] 1 && hasF 4 [(1, 2)] 0) = false by decide, if_neg (by decide), if_neg (by decide)] at H2_
    have H2 := Lib.hid H2_
    clear H2_
    go_wp2_with fail
    refine H2.out.mono ?_
    rintro e w5 ⟨rfl, hT, hR⟩
    have hB5 := Lib.hid (RT.below' hB4.out (Nat.le_refl _) HBS.out hT)
    have HR5 := Lib.hid hR
    clear hT hR H2 hB4 HR4
    have H3_ := copy_any HR5.out 0 1
    rw [show (hasF 4 [(1, 2)] 0 && hasF 4 [(1, 2)] 1) = false by decide, if_neg (by decide), if_neg (by decide)] at H3_
    have H3 := Lib.hid H3_
    clear H3_
    go_wp2_with fail
    refine H3.out.mono ?_
    rintro e w6 ⟨rfl, hT, hR⟩
    have hB6 := Lib.hid (RT.below' hB5.out (Nat.le_refl _) HBS.out hT)
    have HR6 := Lib.hid hR
    clear hT hR H3 hB5 HR5
    have hl1 : loadR 4 [(1, 2)] M1 a2 1 = (v : Int) := by
      unfold loadR
      have := HIN.out
      rw [if_pos HE2.out, HM1.out, HA2.out]
      simp only [Int.reduceToNat]
      rw [show 8192 + a = 2 * 4096 + a by omega, load_copyF _ _ _ _ _ this, Nat.zero_mul, Nat.zero_add, HM0.out]
      simp only [Int.reduceToNat]
      rw [load_same, HV.out]
    have H4_ := load_any HR6.out a2 1 (by have := HIN.out; have := HA2.out; omega)
    rw [hl1, HE2.out] at H4_
    have H4 := Lib.hid H4_
    clear H4_
    have HL1 := Lib.hid hl1
    clear hl1
    go_wp2_with fail
    refine H4.out.mono ?_
    rintro e w7 ⟨rfl, hb⟩
    have hB7 := Lib.hid (b_then hB6.out hb)
    have HR7 := Lib.hid (HR6.out.below hb)
    clear hb H4 hB6 HR6
    have H5_ := store_any HR7.out 0 y 8 (by decide) HYB.out
    rw [show errF 4 [(1, 2)] ((0 : Nat) : Int) 8 = 0 by decide, if_pos rfl] at H5_
    have H5 := Lib.hid H5_
    clear H5_
    go_wp2_with fail
    refine H5.out.mono ?_
    rintro e w8 ⟨rfl, hT, hR⟩
    have hB8 := Lib.hid (RT.below' hB7.out (Nat.le_refl _) HBS.out hT)
    have HR8 := Lib.hid hR
    clear hT hR H5 hB7 HR7
    have H6_ := zero_any HR8.out 0 (by decide)
    rw [show hasF 4 [(1, 2)] 0 = true by decide, if_pos rfl, if_pos rfl] at H6_
    have H6 := Lib.hid H6_
    clear H6_
    obtain ⟨M2, hM2⟩ : ∃ M, M = zeroF (storeF M1 0 (8 : Int).toNat y) (0 : Int).toNat := ⟨_, rfl⟩
    rw [← hM2] at H6
    have hc2 : clearF M2 0 = true := by rw [hM2]; exact clear_zeroF _ _
    have HC2 := Lib.hid hc2
    have hl2 : loadR 4 [(1, 2)] M2 a2 1 = (v : Int) := by
      have e := HL1.out
      unfold loadR at e ⊢
      have := HIN.out
      rw [if_pos HE2.out] at e ⊢
      rw [hM2, load_zeroF_far _ _ _ _ (by have := HA2.out; omega), load_far _ _ _ _ _ _ (by have := HA2.out; omega)]
      exact e
    have HL2 := Lib.hid hl2
    clear hM2 hc2 hl2
    go_wp2_with fail
    refine H6.out.mono ?_
    rintro e w9 ⟨rfl, hT, hR⟩
    have hB9 := Lib.hid (RT.below' hB8.out (Nat.le_refl _) HBS.out hT)
    have HR9 := Lib.hid hR
    clear hT hR H6 hB8 HR8
    have H7_ := load_any HR9.out a2 1 (by have := HIN.out; have := HA2.out; omega)
    rw [HL2.out, HE2.out] at H7_
    have H7 := Lib.hid H7_
    clear H7_
    go_wp2_with fail
    refine H7.out.mono ?_
    rintro e w10 ⟨rfl, hb⟩
    have hB10 := Lib.hid (b_then hB9.out hb)
    have HR10 := Lib.hid (HR9.out.below hb)
    clear hb H7 hB9 HR9
    go_wp2_with fail
    refine (awake_any _).mono ?_
    rintro e w11 ⟨rfl, hb⟩
    have hB11 := Lib.hid (b_then hB10.out hb)
    have HR11 := Lib.hid (HR10.out.below hb)
    clear hb hB10 HR10
    have H9_ := clear_any HR11.out 0 (by decide)
    rw [HC2.out] at H9_
    have H9 := Lib.hid H9_
    clear H9_
    go_wp2_with fail
    refine H9.out.mono ?_
    rintro e w12 ⟨rfl, hb⟩
    have hB12 := Lib.hid (b_then hB11.out hb)
    have HR12 := Lib.hid (HR11.out.below hb)
    clear hb H9 hB11 HR11
    go_wp2
    go_returns
    exact ⟨ret_v (by simp), hB12.out⟩
set_option maxRecDepth 10000 in
set_option maxHeartbeats 4000000 in
theorem whole_ok2 (a x y : Nat) (hin : a + 2 ≤ 4096) (hx : x < 18446744073709551616) (hy : y < 18446744073709551616) (w : World) :
    Calls Try.prog 7 #[.int .i64 a, .int .i64 2, .int .u64 x, .int .u64 y] w fun e w' => e = .returned (.bool true) ∧ Below w.heap.size w w' := by
  have d1 : decide ((a : Int) < 0) = false := decide_eq_false (by omega)
  have d2 : decide (4096 < (a : Int)) = false := decide_eq_false (by omega)
  have d2b : decide (4096 < a) = false := decide_eq_false (by omega)
  have q1 : IntKind.u64.wrap (a : Int) = a := by rw [IntKind.wrap_u64]; omega
  obtain ⟨a2, ha2⟩ : ∃ a2, a2 = 8192 + a := ⟨_, rfl⟩
  have q2 : IntKind.u64.wrap (8192 + (a : Int)) = (a2 : Int) := by rw [IntKind.wrap_u64]; omega
  have q3 : 8192 + (a : Int) = (a2 : Int) := by omega
  have q4 : IntKind.u64.wrap (a2 : Int) = (a2 : Int) := by rw [IntKind.wrap_u64]; omega
  obtain ⟨v, hv⟩ : ∃ v, v = x % 256 ^ 2 := ⟨_, rfl⟩
  have r1 : (x : Int) % 65536 = (v : Int) := by rw [hv]; rfl
  have r2 : v = 0 ∨ ((v == 0) = false ∧ (x == 0) = false ∧ ((v : Int) == 0) = false ∧ ((x : Int) == 0) = false) := zero_two (fun h => by rw [hv, h, Nat.zero_mod])
  have HZZ := Lib.hid r2
  have HV := Lib.hid hv.symm
  clear r2 hv
  have HIN := Lib.hid hin
  have HA2 := Lib.hid ha2
  have HXB := Lib.hid hx
  have HYB := Lib.hid hy
  have HE1 : Hid (errF 4 [(1, 2)] (a : Int) 2 = 0) := Lib.hid (wh_in (s := 2) (by omega) hin)
  have HE2 : Hid (errF 4 [(1, 2)] (a2 : Int) 2 = 0) := Lib.hid (by rw [ha2]; exact wh_in2 (s := 2) (by omega) hin)
  clear ha2 hin hx hy
  have HN1_ := new_good (HL.one w 1 2) (by decide) 4 (by decide)
  have HN1 := Lib.hid HN1_
  clear HN1_
  go_enter Try.func7, Try.ntmps7
  go_wp2_with fail
  refine HN1.out.mono ?_
  rintro e w1 ⟨b, m, rfl, hR, hb1⟩
  have hB1 : Hid (Below w.heap.size w w1) := Lib.hid (b_then (by go_grown) hb1)
  have HBS : Hid (w.heap.size ≤ (w.alloc (.cells #[.int .i64 1, .int .i64 2] 33)).heap.size) := Lib.hid (by rw [World.size_alloc]; omega)
  obtain ⟨base, hbase⟩ : ∃ B, B = (w.alloc (.cells #[.int .i64 1, .int .i64 2] 33)).heap.size := ⟨_, rfl⟩
  rw [← hbase] at hR HBS
  have HR1 := Lib.hid hR
  clear hb1 hR hbase HN1
  obtain ⟨M0, hM0⟩ : ∃ M, M = storeF (fun _ => 0) a (2 : Int).toNat x := ⟨_, rfl⟩
  have HS_ := store_any HR1.out a x 2 (by have := HIN.out; omega) HXB.out
  rw [HE1.out, if_pos rfl, ← hM0] at HS_
  have HS := Lib.hid HS_
  clear HS_
  have HM0 := Lib.hid hM0
  clear hM0
  go_wp2_with fail
  refine HS.out.mono ?_
  rintro e w2 ⟨rfl, hT, hR⟩
  have hB2 := Lib.hid (RT.below' hB1.out (Nat.le_refl _) HBS.out hT)
  have HR2 := Lib.hid hR
  clear hT hR HS hB1 HR1
  have hc0 : clearF M0 0 = (v == 0) := by
    rw [HM0.out]
    refine (clear_one _ 0 a 2 x HIN.out fun i hi => ?_).trans (by rw [HV.out])
    unfold storeF
    rw [show (2 : Int).toNat = 2 from rfl, Nat.zero_mul, Nat.zero_add]
  have HC_ := clear_any HR2.out 0 (by decide)
  rw [hc0] at HC_
  have HC := Lib.hid HC_
  clear HC_
  clear hc0
  go_wp2_with fail
  refine HC.out.mono ?_
  rintro e w3 ⟨rfl, hb⟩
  have hB3 := Lib.hid (b_then hB2.out hb)
  have HR3 := Lib.hid (HR2.out.below hb)
  clear hb HC hB2 HR2
  have H1_ := copy_any HR3.out 2 0
  rw [show (hasF 4 [(1, 2)] 2 && hasF 4 [(1, 2)] 0) = true by decide, if_pos rfl, if_pos rfl] at H1_
  have H1 := Lib.hid H1_
  clear H1_
  obtain ⟨M1, hM1⟩ : ∃ M, M = copyF M0 (2 : Int).toNat (0 : Int).toNat := ⟨_, rfl⟩
  rw [← hM1] at H1
  have HM1 := Lib.hid hM1
  clear hM1
  rcases HZZ.out with hz | ⟨hz1, hz2, hz3, hz4⟩
  · have z1 : (v == 0) = true := by rw [hz]; rfl
    have z2 : ((v : Int) == 0) = true := by rw [hz]; rfl
    clear hz
    go_wp2_with fail
    refine H1.out.mono ?_
    rintro e w4 ⟨rfl, hT, hR⟩
    have hB4 := Lib.hid (RT.below' hB3.out (Nat.le_refl _) HBS.out hT)
    have HR4 := Lib.hid hR
    clear hT hR H1 hB3 HR3
    have H2_ := copy_any HR4.out 1 0
    rw [show (hasF 4 [(1, 2)] 1 && hasF 4 [(1, 2)] 0) = false by decide, if_neg (by decide), if_neg (by decide)] at H2_
    have H2 := Lib.hid H2_
    clear H2_
    go_wp2_with fail
    refine H2.out.mono ?_
    rintro e w5 ⟨rfl, hT, hR⟩
    have hB5 := Lib.hid (RT.below' hB4.out (Nat.le_refl _) HBS.out hT)
    have HR5 := Lib.hid hR
    clear hT hR H2 hB4 HR4
    have H3_ := copy_any HR5.out 0 1
    rw [show (hasF 4 [(1, 2)] 0 && hasF 4 [(1, 2)] 1) = false by decide, if_neg (by decide), if_neg (by decide)] at H3_
    have H3 := Lib.hid H3_
    clear H3_
    go_wp2_with fail
    refine H3.out.mono ?_
    rintro e w6 ⟨rfl, hT, hR⟩
    have hB6 := Lib.hid (RT.below' hB5.out (Nat.le_refl _) HBS.out hT)
    have HR6 := Lib.hid hR
    clear hT hR H3 hB5 HR5
    have hl1 : loadR 4 [(1, 2)] M1 a2 2 = (v : Int) := by
      unfold loadR
      have := HIN.out
      rw [if_pos HE2.out, HM1.out, HA2.out]
      simp only [Int.reduceToNat]
      rw [show 8192 + a = 2 * 4096 + a by omega, load_copyF _ _ _ _ _ this, Nat.zero_mul, Nat.zero_add, HM0.out]
      simp only [Int.reduceToNat]
      rw [load_same, HV.out]
    have H4_ := load_any HR6.out a2 2 (by have := HIN.out; have := HA2.out; omega)
    rw [hl1, HE2.out] at H4_
    have H4 := Lib.hid H4_
    clear H4_
    have HL1 := Lib.hid hl1
    clear hl1
    go_wp2_with fail
    refine H4.out.mono ?_
    rintro e w7 ⟨rfl, hb⟩
    have hB7 := Lib.hid (b_then hB6.out hb)
    have HR7 := Lib.hid (HR6.out.below hb)
    clear hb H4 hB6 HR6
    have H5_ := store_any HR7.out 0 y 8 (by decide) HYB.out
    rw [show errF 4 [(1, 2)] ((0 : Nat) : Int) 8 = 0 by decide, if_pos rfl] at H5_
    have H5 := Lib.hid H5_
    clear H5_
    go_wp2_with fail
    refine H5.out.mono ?_
    rintro e w8 ⟨rfl, hT, hR⟩
    have hB8 := Lib.hid (RT.below' hB7.out (Nat.le_refl _) HBS.out hT)
    have HR8 := Lib.hid hR
    clear hT hR H5 hB7 HR7
    have H6_ := zero_any HR8.out 0 (by decide)
    rw [show hasF 4 [(1, 2)] 0 = true by decide, if_pos rfl, if_pos rfl] at H6_
    have H6 := Lib.hid H6_
    clear H6_
    obtain ⟨M2, hM2⟩ : ∃ M, M = zeroF (storeF M1 0 (8 : Int).toNat y) (0 : Int).toNat := ⟨_, rfl⟩
    rw [← hM2] at H6
    have hc2 : clearF M2 0 = true := by rw [hM2]; exact clear_zeroF _ _
    have HC2 := Lib.hid hc2
    have hl2 : loadR 4 [(1, 2)] M2 a2 2 = (v : Int) := by
      have e := HL1.out
      unfold loadR at e ⊢
      have := HIN.out
      rw [if_pos HE2.out] at e ⊢
      rw [hM2, load_zeroF_far _ _ _ _ (by have := HA2.out; omega), load_far _ _ _ _ _ _ (by have := HA2.out; omega)]
      exact e
    have HL2 := Lib.hid hl2
    clear hM2 hc2 hl2
    go_wp2_with fail
    refine H6.out.mono ?_
    rintro e w9 ⟨rfl, hT, hR⟩
    have hB9 := Lib.hid (RT.below' hB8.out (Nat.le_refl _) HBS.out hT)
    have HR9 := Lib.hid hR
    clear hT hR H6 hB8 HR8
    have H7_ := load_any HR9.out a2 2 (by have := HIN.out; have := HA2.out; omega)
    rw [HL2.out, HE2.out] at H7_
    have H7 := Lib.hid H7_
    clear H7_
    go_wp2_with fail
    refine H7.out.mono ?_
    rintro e w10 ⟨rfl, hb⟩
    have hB10 := Lib.hid (b_then hB9.out hb)
    have HR10 := Lib.hid (HR9.out.below hb)
    clear hb H7 hB9 HR9
    go_wp2_with fail
    refine (awake_any _).mono ?_
    rintro e w11 ⟨rfl, hb⟩
    have hB11 := Lib.hid (b_then hB10.out hb)
    have HR11 := Lib.hid (HR10.out.below hb)
    clear hb hB10 HR10
    have H9_ := clear_any HR11.out 0 (by decide)
    rw [HC2.out] at H9_
    have H9 := Lib.hid H9_
    clear H9_
    go_wp2_with fail
    refine H9.out.mono ?_
    rintro e w12 ⟨rfl, hb⟩
    have hB12 := Lib.hid (b_then hB11.out hb)
    have HR12 := Lib.hid (HR11.out.below hb)
    clear hb H9 hB11 HR11
    go_wp2
    go_returns
    exact ⟨ret_v (by simp), hB12.out⟩
  · skip
    go_wp2_with fail
    refine H1.out.mono ?_
    rintro e w4 ⟨rfl, hT, hR⟩
    have hB4 := Lib.hid (RT.below' hB3.out (Nat.le_refl _) HBS.out hT)
    have HR4 := Lib.hid hR
    clear hT hR H1 hB3 HR3
    have H2_ := copy_any HR4.out 1 0
    rw [show (hasF 4 [(1, 2)] 1 && hasF 4 [(1, 2)] 0) = false by decide, if_neg (by decide), if_neg (by decide)] at H2_
    have H2 := Lib.hid H2_
    clear H2_
    go_wp2_with fail
    refine H2.out.mono ?_
    rintro e w5 ⟨rfl, hT, hR⟩
    have hB5 := Lib.hid (RT.below' hB4.out (Nat.le_refl _) HBS.out hT)
    have HR5 := Lib.hid hR
    clear hT hR H2 hB4 HR4
    have H3_ := copy_any HR5.out 0 1
    rw [show (hasF 4 [(1, 2)] 0 && hasF 4 [(1, 2)] 1) = false by decide, if_neg (by decide), if_neg (by decide)] at H3_
    have H3 := Lib.hid H3_
    clear H3_
    go_wp2_with fail
    refine H3.out.mono ?_
    rintro e w6 ⟨rfl, hT, hR⟩
    have hB6 := Lib.hid (RT.below' hB5.out (Nat.le_refl _) HBS.out hT)
    have HR6 := Lib.hid hR
    clear hT hR H3 hB5 HR5
    have hl1 : loadR 4 [(1, 2)] M1 a2 2 = (v : Int) := by
      unfold loadR
      have := HIN.out
      rw [if_pos HE2.out, HM1.out, HA2.out]
      simp only [Int.reduceToNat]
      rw [show 8192 + a = 2 * 4096 + a by omega, load_copyF _ _ _ _ _ this, Nat.zero_mul, Nat.zero_add, HM0.out]
      simp only [Int.reduceToNat]
      rw [load_same, HV.out]
    have H4_ := load_any HR6.out a2 2 (by have := HIN.out; have := HA2.out; omega)
    rw [hl1, HE2.out] at H4_
    have H4 := Lib.hid H4_
    clear H4_
    have HL1 := Lib.hid hl1
    clear hl1
    go_wp2_with fail
    refine H4.out.mono ?_
    rintro e w7 ⟨rfl, hb⟩
    have hB7 := Lib.hid (b_then hB6.out hb)
    have HR7 := Lib.hid (HR6.out.below hb)
    clear hb H4 hB6 HR6
    have H5_ := store_any HR7.out 0 y 8 (by decide) HYB.out
    rw [show errF 4 [(1, 2)] ((0 : Nat) : Int) 8 = 0 by decide, if_pos rfl] at H5_
    have H5 := Lib.hid H5_
    clear H5_
    go_wp2_with fail
    refine H5.out.mono ?_
    rintro e w8 ⟨rfl, hT, hR⟩
    have hB8 := Lib.hid (RT.below' hB7.out (Nat.le_refl _) HBS.out hT)
    have HR8 := Lib.hid hR
    clear hT hR H5 hB7 HR7
    have H6_ := zero_any HR8.out 0 (by decide)
    rw [show hasF 4 [(1, 2)] 0 = true by decide, if_pos rfl, if_pos rfl] at H6_
    have H6 := Lib.hid H6_
    clear H6_
    obtain ⟨M2, hM2⟩ : ∃ M, M = zeroF (storeF M1 0 (8 : Int).toNat y) (0 : Int).toNat := ⟨_, rfl⟩
    rw [← hM2] at H6
    have hc2 : clearF M2 0 = true := by rw [hM2]; exact clear_zeroF _ _
    have HC2 := Lib.hid hc2
    have hl2 : loadR 4 [(1, 2)] M2 a2 2 = (v : Int) := by
      have e := HL1.out
      unfold loadR at e ⊢
      have := HIN.out
      rw [if_pos HE2.out] at e ⊢
      rw [hM2, load_zeroF_far _ _ _ _ (by have := HA2.out; omega), load_far _ _ _ _ _ _ (by have := HA2.out; omega)]
      exact e
    have HL2 := Lib.hid hl2
    clear hM2 hc2 hl2
    go_wp2_with fail
    refine H6.out.mono ?_
    rintro e w9 ⟨rfl, hT, hR⟩
    have hB9 := Lib.hid (RT.below' hB8.out (Nat.le_refl _) HBS.out hT)
    have HR9 := Lib.hid hR
    clear hT hR H6 hB8 HR8
    have H7_ := load_any HR9.out a2 2 (by have := HIN.out; have := HA2.out; omega)
    rw [HL2.out, HE2.out] at H7_
    have H7 := Lib.hid H7_
    clear H7_
    go_wp2_with fail
    refine H7.out.mono ?_
    rintro e w10 ⟨rfl, hb⟩
    have hB10 := Lib.hid (b_then hB9.out hb)
    have HR10 := Lib.hid (HR9.out.below hb)
    clear hb H7 hB9 HR9
    go_wp2_with fail
    refine (awake_any _).mono ?_
    rintro e w11 ⟨rfl, hb⟩
    have hB11 := Lib.hid (b_then hB10.out hb)
    have HR11 := Lib.hid (HR10.out.below hb)
    clear hb hB10 HR10
    have H9_ := clear_any HR11.out 0 (by decide)
    rw [HC2.out] at H9_
    have H9 := Lib.hid H9_
    clear H9_
    go_wp2_with fail
    refine H9.out.mono ?_
    rintro e w12 ⟨rfl, hb⟩
    have hB12 := Lib.hid (b_then hB11.out hb)
    have HR12 := Lib.hid (HR11.out.below hb)
    clear hb H9 hB11 HR11
    go_wp2
    go_returns
    exact ⟨ret_v (by simp), hB12.out⟩
set_option maxRecDepth 10000 in
set_option maxHeartbeats 4000000 in
theorem whole_ok4 (a x y : Nat) (hin : a + 4 ≤ 4096) (hx : x < 18446744073709551616) (hy : y < 18446744073709551616) (w : World) :
    Calls Try.prog 7 #[.int .i64 a, .int .i64 4, .int .u64 x, .int .u64 y] w fun e w' => e = .returned (.bool true) ∧ Below w.heap.size w w' := by
  have d1 : decide ((a : Int) < 0) = false := decide_eq_false (by omega)
  have d2 : decide (4096 < (a : Int)) = false := decide_eq_false (by omega)
  have d2b : decide (4096 < a) = false := decide_eq_false (by omega)
  have q1 : IntKind.u64.wrap (a : Int) = a := by rw [IntKind.wrap_u64]; omega
  obtain ⟨a2, ha2⟩ : ∃ a2, a2 = 8192 + a := ⟨_, rfl⟩
  have q2 : IntKind.u64.wrap (8192 + (a : Int)) = (a2 : Int) := by rw [IntKind.wrap_u64]; omega
  have q3 : 8192 + (a : Int) = (a2 : Int) := by omega
  have q4 : IntKind.u64.wrap (a2 : Int) = (a2 : Int) := by rw [IntKind.wrap_u64]; omega
  obtain ⟨v, hv⟩ : ∃ v, v = x % 256 ^ 4 := ⟨_, rfl⟩
  have r1 : (x : Int) % 4294967296 = (v : Int) := by rw [hv]; rfl
  have r2 : v = 0 ∨ ((v == 0) = false ∧ (x == 0) = false ∧ ((v : Int) == 0) = false ∧ ((x : Int) == 0) = false) := zero_two (fun h => by rw [hv, h, Nat.zero_mod])
  have HZZ := Lib.hid r2
  have HV := Lib.hid hv.symm
  clear r2 hv
  have HIN := Lib.hid hin
  have HA2 := Lib.hid ha2
  have HXB := Lib.hid hx
  have HYB := Lib.hid hy
  have HE1 : Hid (errF 4 [(1, 2)] (a : Int) 4 = 0) := Lib.hid (wh_in (s := 4) (by omega) hin)
  have HE2 : Hid (errF 4 [(1, 2)] (a2 : Int) 4 = 0) := Lib.hid (by rw [ha2]; exact wh_in2 (s := 4) (by omega) hin)
  clear ha2 hin hx hy
  have HN1_ := new_good (HL.one w 1 2) (by decide) 4 (by decide)
  have HN1 := Lib.hid HN1_
  clear HN1_
  go_enter Try.func7, Try.ntmps7
  go_wp2_with fail
  refine HN1.out.mono ?_
  rintro e w1 ⟨b, m, rfl, hR, hb1⟩
  have hB1 : Hid (Below w.heap.size w w1) := Lib.hid (b_then (by go_grown) hb1)
  have HBS : Hid (w.heap.size ≤ (w.alloc (.cells #[.int .i64 1, .int .i64 2] 33)).heap.size) := Lib.hid (by rw [World.size_alloc]; omega)
  obtain ⟨base, hbase⟩ : ∃ B, B = (w.alloc (.cells #[.int .i64 1, .int .i64 2] 33)).heap.size := ⟨_, rfl⟩
  rw [← hbase] at hR HBS
  have HR1 := Lib.hid hR
  clear hb1 hR hbase HN1
  obtain ⟨M0, hM0⟩ : ∃ M, M = storeF (fun _ => 0) a (4 : Int).toNat x := ⟨_, rfl⟩
  have HS_ := store_any HR1.out a x 4 (by have := HIN.out; omega) HXB.out
  rw [HE1.out, if_pos rfl, ← hM0] at HS_
  have HS := Lib.hid HS_
  clear HS_
  have HM0 := Lib.hid hM0
  clear hM0
  go_wp2_with fail
  refine HS.out.mono ?_
  rintro e w2 ⟨rfl, hT, hR⟩
  have hB2 := Lib.hid (RT.below' hB1.out (Nat.le_refl _) HBS.out hT)
  have HR2 := Lib.hid hR
  clear hT hR HS hB1 HR1
  have hc0 : clearF M0 0 = (v == 0) := by
    rw [HM0.out]
    refine (clear_one _ 0 a 4 x HIN.out fun i hi => ?_).trans (by rw [HV.out])
    unfold storeF
    rw [show (4 : Int).toNat = 4 from rfl, Nat.zero_mul, Nat.zero_add]
  have HC_ := clear_any HR2.out 0 (by decide)
  rw [hc0] at HC_
  have HC := Lib.hid HC_
  clear HC_
  clear hc0
  go_wp2_with fail
  refine HC.out.mono ?_
  rintro e w3 ⟨rfl, hb⟩
  have hB3 := Lib.hid (b_then hB2.out hb)
  have HR3 := Lib.hid (HR2.out.below hb)
  clear hb HC hB2 HR2
  have H1_ := copy_any HR3.out 2 0
  rw [show (hasF 4 [(1, 2)] 2 && hasF 4 [(1, 2)] 0) = true by decide, if_pos rfl, if_pos rfl] at H1_
  have H1 := Lib.hid H1_
  clear H1_
  obtain ⟨M1, hM1⟩ : ∃ M, M = copyF M0 (2 : Int).toNat (0 : Int).toNat := ⟨_, rfl⟩
  rw [← hM1] at H1
  have HM1 := Lib.hid hM1
  clear hM1
  rcases HZZ.out with hz | ⟨hz1, hz2, hz3, hz4⟩
  · have z1 : (v == 0) = true := by rw [hz]; rfl
    have z2 : ((v : Int) == 0) = true := by rw [hz]; rfl
    clear hz
    go_wp2_with fail
    refine H1.out.mono ?_
    rintro e w4 ⟨rfl, hT, hR⟩
    have hB4 := Lib.hid (RT.below' hB3.out (Nat.le_refl _) HBS.out hT)
    have HR4 := Lib.hid hR
    clear hT hR H1 hB3 HR3
    have H2_ := copy_any HR4.out 1 0
    rw [show (hasF 4 [(1, 2)] 1 && hasF 4 [(1, 2)] 0) = false by decide, if_neg (by decide), if_neg (by decide)] at H2_
    have H2 := Lib.hid H2_
    clear H2_
    go_wp2_with fail
    refine H2.out.mono ?_
    rintro e w5 ⟨rfl, hT, hR⟩
    have hB5 := Lib.hid (RT.below' hB4.out (Nat.le_refl _) HBS.out hT)
    have HR5 := Lib.hid hR
    clear hT hR H2 hB4 HR4
    have H3_ := copy_any HR5.out 0 1
    rw [show (hasF 4 [(1, 2)] 0 && hasF 4 [(1, 2)] 1) = false by decide, if_neg (by decide), if_neg (by decide)] at H3_
    have H3 := Lib.hid H3_
    clear H3_
    go_wp2_with fail
    refine H3.out.mono ?_
    rintro e w6 ⟨rfl, hT, hR⟩
    have hB6 := Lib.hid (RT.below' hB5.out (Nat.le_refl _) HBS.out hT)
    have HR6 := Lib.hid hR
    clear hT hR H3 hB5 HR5
    have hl1 : loadR 4 [(1, 2)] M1 a2 4 = (v : Int) := by
      unfold loadR
      have := HIN.out
      rw [if_pos HE2.out, HM1.out, HA2.out]
      simp only [Int.reduceToNat]
      rw [show 8192 + a = 2 * 4096 + a by omega, load_copyF _ _ _ _ _ this, Nat.zero_mul, Nat.zero_add, HM0.out]
      simp only [Int.reduceToNat]
      rw [load_same, HV.out]
    have H4_ := load_any HR6.out a2 4 (by have := HIN.out; have := HA2.out; omega)
    rw [hl1, HE2.out] at H4_
    have H4 := Lib.hid H4_
    clear H4_
    have HL1 := Lib.hid hl1
    clear hl1
    go_wp2_with fail
    refine H4.out.mono ?_
    rintro e w7 ⟨rfl, hb⟩
    have hB7 := Lib.hid (b_then hB6.out hb)
    have HR7 := Lib.hid (HR6.out.below hb)
    clear hb H4 hB6 HR6
    have H5_ := store_any HR7.out 0 y 8 (by decide) HYB.out
    rw [show errF 4 [(1, 2)] ((0 : Nat) : Int) 8 = 0 by decide, if_pos rfl] at H5_
    have H5 := Lib.hid H5_
    clear H5_
    go_wp2_with fail
    refine H5.out.mono ?_
    rintro e w8 ⟨rfl, hT, hR⟩
    have hB8 := Lib.hid (RT.below' hB7.out (Nat.le_refl _) HBS.out hT)
    have HR8 := Lib.hid hR
    clear hT hR H5 hB7 HR7
    have H6_ := zero_any HR8.out 0 (by decide)
    rw [show hasF 4 [(1, 2)] 0 = true by decide, if_pos rfl, if_pos rfl] at H6_
    have H6 := Lib.hid H6_
    clear H6_
    obtain ⟨M2, hM2⟩ : ∃ M, M = zeroF (storeF M1 0 (8 : Int).toNat y) (0 : Int).toNat := ⟨_, rfl⟩
    rw [← hM2] at H6
    have hc2 : clearF M2 0 = true := by rw [hM2]; exact clear_zeroF _ _
    have HC2 := Lib.hid hc2
    have hl2 : loadR 4 [(1, 2)] M2 a2 4 = (v : Int) := by
      have e := HL1.out
      unfold loadR at e ⊢
      have := HIN.out
      rw [if_pos HE2.out] at e ⊢
      rw [hM2, load_zeroF_far _ _ _ _ (by have := HA2.out; omega), load_far _ _ _ _ _ _ (by have := HA2.out; omega)]
      exact e
    have HL2 := Lib.hid hl2
    clear hM2 hc2 hl2
    go_wp2_with fail
    refine H6.out.mono ?_
    rintro e w9 ⟨rfl, hT, hR⟩
    have hB9 := Lib.hid (RT.below' hB8.out (Nat.le_refl _) HBS.out hT)
    have HR9 := Lib.hid hR
    clear hT hR H6 hB8 HR8
    have H7_ := load_any HR9.out a2 4 (by have := HIN.out; have := HA2.out; omega)
    rw [HL2.out, HE2.out] at H7_
    have H7 := Lib.hid H7_
    clear H7_
    go_wp2_with fail
    refine H7.out.mono ?_
    rintro e w10 ⟨rfl, hb⟩
    have hB10 := Lib.hid (b_then hB9.out hb)
    have HR10 := Lib.hid (HR9.out.below hb)
    clear hb H7 hB9 HR9
    go_wp2_with fail
    refine (awake_any _).mono ?_
    rintro e w11 ⟨rfl, hb⟩
    have hB11 := Lib.hid (b_then hB10.out hb)
    have HR11 := Lib.hid (HR10.out.below hb)
    clear hb hB10 HR10
    have H9_ := clear_any HR11.out 0 (by decide)
    rw [HC2.out] at H9_
    have H9 := Lib.hid H9_
    clear H9_
    go_wp2_with fail
    refine H9.out.mono ?_
    rintro e w12 ⟨rfl, hb⟩
    have hB12 := Lib.hid (b_then hB11.out hb)
    have HR12 := Lib.hid (HR11.out.below hb)
    clear hb H9 hB11 HR11
    go_wp2
    go_returns
    exact ⟨ret_v (by simp), hB12.out⟩
  · skip
    go_wp2_with fail
    refine H1.out.mono ?_
    rintro e w4 ⟨rfl, hT, hR⟩
    have hB4 := Lib.hid (RT.below' hB3.out (Nat.le_refl _) HBS.out hT)
    have HR4 := Lib.hid hR
    clear hT hR H1 hB3 HR3
    have H2_ := copy_any HR4.out 1 0
    rw [show (hasF 4 [(1, 2)] 1 && hasF 4 [(1, 2)] 0) = false by decide, if_neg (by decide), if_neg (by decide)] at H2_
    have H2 := Lib.hid H2_
    clear H2_
    go_wp2_with fail
    refine H2.out.mono ?_
    rintro e w5 ⟨rfl, hT, hR⟩
    have hB5 := Lib.hid (RT.below' hB4.out (Nat.le_refl _) HBS.out hT)
    have HR5 := Lib.hid hR
    clear hT hR H2 hB4 HR4
    have H3_ := copy_any HR5.out 0 1
    rw [show (hasF 4 [(1, 2)] 0 && hasF 4 [(1, 2)] 1) = false by decide, if_neg (by decide), if_neg (by decide)] at H3_
    have H3 := Lib.hid H3_
    clear H3_
    go_wp2_with fail
    refine H3.out.mono ?_
    rintro e w6 ⟨rfl, hT, hR⟩
    have hB6 := Lib.hid (RT.below' hB5.out (Nat.le_refl _) HBS.out hT)
    have HR6 := Lib.hid hR
    clear hT hR H3 hB5 HR5
    have hl1 : loadR 4 [(1, 2)] M1 a2 4 = (v : Int) := by
      unfold loadR
      have := HIN.out
      rw [if_pos HE2.out, HM1.out, HA2.out]
      simp only [Int.reduceToNat]
      rw [show 8192 + a = 2 * 4096 + a by omega, load_copyF _ _ _ _ _ this, Nat.zero_mul, Nat.zero_add, HM0.out]
      simp only [Int.reduceToNat]
      rw [load_same, HV.out]
    have H4_ := load_any HR6.out a2 4 (by have := HIN.out; have := HA2.out; omega)
    rw [hl1, HE2.out] at H4_
    have H4 := Lib.hid H4_
    clear H4_
    have HL1 := Lib.hid hl1
    clear hl1
    go_wp2_with fail
    refine H4.out.mono ?_
    rintro e w7 ⟨rfl, hb⟩
    have hB7 := Lib.hid (b_then hB6.out hb)
    have HR7 := Lib.hid (HR6.out.below hb)
    clear hb H4 hB6 HR6
    have H5_ := store_any HR7.out 0 y 8 (by decide) HYB.out
    rw [show errF 4 [(1, 2)] ((0 : Nat) : Int) 8 = 0 by decide, if_pos rfl] at H5_
    have H5 := Lib.hid H5_
    clear H5_
    go_wp2_with fail
    refine H5.out.mono ?_
    rintro e w8 ⟨rfl, hT, hR⟩
    have hB8 := Lib.hid (RT.below' hB7.out (Nat.le_refl _) HBS.out hT)
    have HR8 := Lib.hid hR
    clear hT hR H5 hB7 HR7
    have H6_ := zero_any HR8.out 0 (by decide)
    rw [show hasF 4 [(1, 2)] 0 = true by decide, if_pos rfl, if_pos rfl] at H6_
    have H6 := Lib.hid H6_
    clear H6_
    obtain ⟨M2, hM2⟩ : ∃ M, M = zeroF (storeF M1 0 (8 : Int).toNat y) (0 : Int).toNat := ⟨_, rfl⟩
    rw [← hM2] at H6
    have hc2 : clearF M2 0 = true := by rw [hM2]; exact clear_zeroF _ _
    have HC2 := Lib.hid hc2
    have hl2 : loadR 4 [(1, 2)] M2 a2 4 = (v : Int) := by
      have e := HL1.out
      unfold loadR at e ⊢
      have := HIN.out
      rw [if_pos HE2.out] at e ⊢
      rw [hM2, load_zeroF_far _ _ _ _ (by have := HA2.out; omega), load_far _ _ _ _ _ _ (by have := HA2.out; omega)]
      exact e
    have HL2 := Lib.hid hl2
    clear hM2 hc2 hl2
    go_wp2_with fail
    refine H6.out.mono ?_
    rintro e w9 ⟨rfl, hT, hR⟩
    have hB9 := Lib.hid (RT.below' hB8.out (Nat.le_refl _) HBS.out hT)
    have HR9 := Lib.hid hR
    clear hT hR H6 hB8 HR8
    have H7_ := load_any HR9.out a2 4 (by have := HIN.out; have := HA2.out; omega)
    rw [HL2.out, HE2.out] at H7_
    have H7 := Lib.hid H7_
    clear H7_
    go_wp2_with fail
    refine H7.out.mono ?_
    rintro e w10 ⟨rfl, hb⟩
    have hB10 := Lib.hid (b_then hB9.out hb)
    have HR10 := Lib.hid (HR9.out.below hb)
    clear hb H7 hB9 HR9
    go_wp2_with fail
    refine (awake_any _).mono ?_
    rintro e w11 ⟨rfl, hb⟩
    have hB11 := Lib.hid (b_then hB10.out hb)
    have HR11 := Lib.hid (HR10.out.below hb)
    clear hb hB10 HR10
    have H9_ := clear_any HR11.out 0 (by decide)
    rw [HC2.out] at H9_
    have H9 := Lib.hid H9_
    clear H9_
    go_wp2_with fail
    refine H9.out.mono ?_
    rintro e w12 ⟨rfl, hb⟩
    have hB12 := Lib.hid (b_then hB11.out hb)
    have HR12 := Lib.hid (HR11.out.below hb)
    clear hb H9 hB11 HR11
    go_wp2
    go_returns
    exact ⟨ret_v (by simp), hB12.out⟩
set_option maxRecDepth 10000 in
set_option maxHeartbeats 4000000 in
theorem whole_ok8 (a x y : Nat) (hin : a + 8 ≤ 4096) (hx : x < 18446744073709551616) (hy : y < 18446744073709551616) (w : World) :
    Calls Try.prog 7 #[.int .i64 a, .int .i64 8, .int .u64 x, .int .u64 y] w fun e w' => e = .returned (.bool true) ∧ Below w.heap.size w w' := by
  have d1 : decide ((a : Int) < 0) = false := decide_eq_false (by omega)
  have d2 : decide (4096 < (a : Int)) = false := decide_eq_false (by omega)
  have d2b : decide (4096 < a) = false := decide_eq_false (by omega)
  have q1 : IntKind.u64.wrap (a : Int) = a := by rw [IntKind.wrap_u64]; omega
  obtain ⟨a2, ha2⟩ : ∃ a2, a2 = 8192 + a := ⟨_, rfl⟩
  have q2 : IntKind.u64.wrap (8192 + (a : Int)) = (a2 : Int) := by rw [IntKind.wrap_u64]; omega
  have q3 : 8192 + (a : Int) = (a2 : Int) := by omega
  have q4 : IntKind.u64.wrap (a2 : Int) = (a2 : Int) := by rw [IntKind.wrap_u64]; omega
  have HV : Hid (x % 256 ^ 8 = x) := Lib.hid (Nat.mod_eq_of_lt hx)
  have HZZ : Hid (x = 0 ∨ ((x == 0) = false ∧ ((x : Int) == 0) = false)) := Lib.hid (by by_cases h : x = 0; exact .inl h; exact .inr ⟨beq_false_of_ne h, beq_false_of_ne (by omega)⟩)
  have HIN := Lib.hid hin
  have HA2 := Lib.hid ha2
  have HXB := Lib.hid hx
  have HYB := Lib.hid hy
  have HE1 : Hid (errF 4 [(1, 2)] (a : Int) 8 = 0) := Lib.hid (wh_in (s := 8) (by omega) hin)
  have HE2 : Hid (errF 4 [(1, 2)] (a2 : Int) 8 = 0) := Lib.hid (by rw [ha2]; exact wh_in2 (s := 8) (by omega) hin)
  clear ha2 hin hx hy
  have HN1_ := new_good (HL.one w 1 2) (by decide) 4 (by decide)
  have HN1 := Lib.hid HN1_
  clear HN1_
  go_enter Try.func7, Try.ntmps7
  go_wp2_with fail
  refine HN1.out.mono ?_
  rintro e w1 ⟨b, m, rfl, hR, hb1⟩
  have hB1 : Hid (Below w.heap.size w w1) := Lib.hid (b_then (by go_grown) hb1)
  have HBS : Hid (w.heap.size ≤ (w.alloc (.cells #[.int .i64 1, .int .i64 2] 33)).heap.size) := Lib.hid (by rw [World.size_alloc]; omega)
  obtain ⟨base, hbase⟩ : ∃ B, B = (w.alloc (.cells #[.int .i64 1, .int .i64 2] 33)).heap.size := ⟨_, rfl⟩
  rw [← hbase] at hR HBS
  have HR1 := Lib.hid hR
  clear hb1 hR hbase HN1
  obtain ⟨M0, hM0⟩ : ∃ M, M = storeF (fun _ => 0) a (8 : Int).toNat x := ⟨_, rfl⟩
  have HS_ := store_any HR1.out a x 8 (by have := HIN.out; omega) HXB.out
  rw [HE1.out, if_pos rfl, ← hM0] at HS_
  have HS := Lib.hid HS_
  clear HS_
  have HM0 := Lib.hid hM0
  clear hM0
  go_wp2_with fail
  refine HS.out.mono ?_
  rintro e w2 ⟨rfl, hT, hR⟩
  have hB2 := Lib.hid (RT.below' hB1.out (Nat.le_refl _) HBS.out hT)
  have HR2 := Lib.hid hR
  clear hT hR HS hB1 HR1
  have hc0 : clearF M0 0 = (x == 0) := by
    rw [HM0.out]
    refine (clear_one _ 0 a 8 x HIN.out fun i hi => ?_).trans (by rw [HV.out])
    unfold storeF
    rw [show (8 : Int).toNat = 8 from rfl, Nat.zero_mul, Nat.zero_add]
  have HC_ := clear_any HR2.out 0 (by decide)
  rw [hc0] at HC_
  have HC := Lib.hid HC_
  clear HC_
  clear hc0
  go_wp2_with fail
  refine HC.out.mono ?_
  rintro e w3 ⟨rfl, hb⟩
  have hB3 := Lib.hid (b_then hB2.out hb)
  have HR3 := Lib.hid (HR2.out.below hb)
  clear hb HC hB2 HR2
  have H1_ := copy_any HR3.out 2 0
  rw [show (hasF 4 [(1, 2)] 2 && hasF 4 [(1, 2)] 0) = true by decide, if_pos rfl, if_pos rfl] at H1_
  have H1 := Lib.hid H1_
  clear H1_
  obtain ⟨M1, hM1⟩ : ∃ M, M = copyF M0 (2 : Int).toNat (0 : Int).toNat := ⟨_, rfl⟩
  rw [← hM1] at H1
  have HM1 := Lib.hid hM1
  clear hM1
  rcases HZZ.out with hz | ⟨hz1, hz2⟩
  · have z1 : (x == 0) = true := by rw [hz]; rfl
    have z2 : ((x : Int) == 0) = true := by rw [hz]; rfl
    clear hz
    rcases Bool.eq_false_or_eq_true ((x : Int) != (x : Int) % 72057594037927936) with hm | hm
    · skip
      go_wp2_with fail
      refine H1.out.mono ?_
      rintro e w4 ⟨rfl, hT, hR⟩
      have hB4 := Lib.hid (RT.below' hB3.out (Nat.le_refl _) HBS.out hT)
      have HR4 := Lib.hid hR
      clear hT hR H1 hB3 HR3
      have H2_ := copy_any HR4.out 1 0
      rw [show (hasF 4 [(1, 2)] 1 && hasF 4 [(1, 2)] 0) = false by decide, if_neg (by decide), if_neg (by decide)] at H2_
      have H2 := Lib.hid H2_
      clear H2_
      go_wp2_with fail
      refine H2.out.mono ?_
      rintro e w5 ⟨rfl, hT, hR⟩
      have hB5 := Lib.hid (RT.below' hB4.out (Nat.le_refl _) HBS.out hT)
      have HR5 := Lib.hid hR
      clear hT hR H2 hB4 HR4
      have H3_ := copy_any HR5.out 0 1
      rw [show (hasF 4 [(1, 2)] 0 && hasF 4 [(1, 2)] 1) = false by decide, if_neg (by decide), if_neg (by decide)] at H3_
      have H3 := Lib.hid H3_
      clear H3_
      go_wp2_with fail
      refine H3.out.mono ?_
      rintro e w6 ⟨rfl, hT, hR⟩
      have hB6 := Lib.hid (RT.below' hB5.out (Nat.le_refl _) HBS.out hT)
      have HR6 := Lib.hid hR
      clear hT hR H3 hB5 HR5
      have hl1 : loadR 4 [(1, 2)] M1 a2 8 = (x : Int) := by
        unfold loadR
        have := HIN.out
        rw [if_pos HE2.out, HM1.out, HA2.out]
        simp only [Int.reduceToNat]
        rw [show 8192 + a = 2 * 4096 + a by omega, load_copyF _ _ _ _ _ this, Nat.zero_mul, Nat.zero_add, HM0.out]
        simp only [Int.reduceToNat]
        rw [load_same, HV.out]
      have H4_ := load_any HR6.out a2 8 (by have := HIN.out; have := HA2.out; omega)
      rw [hl1, HE2.out] at H4_
      have H4 := Lib.hid H4_
      clear H4_
      have HL1 := Lib.hid hl1
      clear hl1
      go_wp2_with fail
      refine H4.out.mono ?_
      rintro e w7 ⟨rfl, hb⟩
      have hB7 := Lib.hid (b_then hB6.out hb)
      have HR7 := Lib.hid (HR6.out.below hb)
      clear hb H4 hB6 HR6
      have H5_ := store_any HR7.out 0 y 8 (by decide) HYB.out
      rw [show errF 4 [(1, 2)] ((0 : Nat) : Int) 8 = 0 by decide, if_pos rfl] at H5_
      have H5 := Lib.hid H5_
      clear H5_
      go_wp2_with fail
      refine H5.out.mono ?_
      rintro e w8 ⟨rfl, hT, hR⟩
      have hB8 := Lib.hid (RT.below' hB7.out (Nat.le_refl _) HBS.out hT)
      have HR8 := Lib.hid hR
      clear hT hR H5 hB7 HR7
      have H6_ := zero_any HR8.out 0 (by decide)
      rw [show hasF 4 [(1, 2)] 0 = true by decide, if_pos rfl, if_pos rfl] at H6_
      have H6 := Lib.hid H6_
      clear H6_
      obtain ⟨M2, hM2⟩ : ∃ M, M = zeroF (storeF M1 0 (8 : Int).toNat y) (0 : Int).toNat := ⟨_, rfl⟩
      rw [← hM2] at H6
      have hc2 : clearF M2 0 = true := by rw [hM2]; exact clear_zeroF _ _
      have HC2 := Lib.hid hc2
      have hl2 : loadR 4 [(1, 2)] M2 a2 8 = (x : Int) := by
        have e := HL1.out
        unfold loadR at e ⊢
        have := HIN.out
        rw [if_pos HE2.out] at e ⊢
        rw [hM2, load_zeroF_far _ _ _ _ (by have := HA2.out; omega), load_far _ _ _ _ _ _ (by have := HA2.out; omega)]
        exact e
      have HL2 := Lib.hid hl2
      clear hM2 hc2 hl2
      go_wp2_with fail
      refine H6.out.mono ?_
      rintro e w9 ⟨rfl, hT, hR⟩
      have hB9 := Lib.hid (RT.below' hB8.out (Nat.le_refl _) HBS.out hT)
      have HR9 := Lib.hid hR
      clear hT hR H6 hB8 HR8
      have H7_ := load_any HR9.out a2 8 (by have := HIN.out; have := HA2.out; omega)
      rw [HL2.out, HE2.out] at H7_
      have H7 := Lib.hid H7_
      clear H7_
      go_wp2_with fail
      refine H7.out.mono ?_
      rintro e w10 ⟨rfl, hb⟩
      have hB10 := Lib.hid (b_then hB9.out hb)
      have HR10 := Lib.hid (HR9.out.below hb)
      clear hb H7 hB9 HR9
      go_wp2_with fail
      refine (awake_any _).mono ?_
      rintro e w11 ⟨rfl, hb⟩
      have hB11 := Lib.hid (b_then hB10.out hb)
      have HR11 := Lib.hid (HR10.out.below hb)
      clear hb hB10 HR10
      have H9_ := clear_any HR11.out 0 (by decide)
      rw [HC2.out] at H9_
      have H9 := Lib.hid H9_
      clear H9_
      go_wp2_with fail
      refine H9.out.mono ?_
      rintro e w12 ⟨rfl, hb⟩
      have hB12 := Lib.hid (b_then hB11.out hb)
      have HR12 := Lib.hid (HR11.out.below hb)
      clear hb H9 hB11 HR11
      go_wp2
      go_returns
      exact ⟨ret_v (by simp), hB12.out⟩
    · skip
      go_wp2_with fail
      refine H1.out.mono ?_
      rintro e w4 ⟨rfl, hT, hR⟩
      have hB4 := Lib.hid (RT.below' hB3.out (Nat.le_refl _) HBS.out hT)
      have HR4 := Lib.hid hR
      clear hT hR H1 hB3 HR3
      have H2_ := copy_any HR4.out 1 0
      rw [show (hasF 4 [(1, 2)] 1 && hasF 4 [(1, 2)] 0) = false by decide, if_neg (by decide), if_neg (by decide)] at H2_
      have H2 := Lib.hid H2_
      clear H2_
      go_wp2_with fail
      refine H2.out.mono ?_
      rintro e w5 ⟨rfl, hT, hR⟩
      have hB5 := Lib.hid (RT.below' hB4.out (Nat.le_refl _) HBS.out hT)
      have HR5 := Lib.hid hR
      clear hT hR H2 hB4 HR4
      have H3_ := copy_any HR5.out 0 1
      rw [show (hasF 4 [(1, 2)] 0 && hasF 4 [(1, 2)] 1) = false by decide, if_neg (by decide), if_neg (by decide)] at H3_
      have H3 := Lib.hid H3_
      clear H3_
      go_wp2_with fail
      refine H3.out.mono ?_
      rintro e w6 ⟨rfl, hT, hR⟩
      have hB6 := Lib.hid (RT.below' hB5.out (Nat.le_refl _) HBS.out hT)
      have HR6 := Lib.hid hR
      clear hT hR H3 hB5 HR5
      have hl1 : loadR 4 [(1, 2)] M1 a2 8 = (x : Int) := by
        unfold loadR
        have := HIN.out
        rw [if_pos HE2.out, HM1.out, HA2.out]
        simp only [Int.reduceToNat]
        rw [show 8192 + a = 2 * 4096 + a by omega, load_copyF _ _ _ _ _ this, Nat.zero_mul, Nat.zero_add, HM0.out]
        simp only [Int.reduceToNat]
        rw [load_same, HV.out]
      have H4_ := load_any HR6.out a2 8 (by have := HIN.out; have := HA2.out; omega)
      rw [hl1, HE2.out] at H4_
      have H4 := Lib.hid H4_
      clear H4_
      have HL1 := Lib.hid hl1
      clear hl1
      go_wp2_with fail
      refine H4.out.mono ?_
      rintro e w7 ⟨rfl, hb⟩
      have hB7 := Lib.hid (b_then hB6.out hb)
      have HR7 := Lib.hid (HR6.out.below hb)
      clear hb H4 hB6 HR6
      have H5_ := store_any HR7.out 0 y 8 (by decide) HYB.out
      rw [show errF 4 [(1, 2)] ((0 : Nat) : Int) 8 = 0 by decide, if_pos rfl] at H5_
      have H5 := Lib.hid H5_
      clear H5_
      go_wp2_with fail
      refine H5.out.mono ?_
      rintro e w8 ⟨rfl, hT, hR⟩
      have hB8 := Lib.hid (RT.below' hB7.out (Nat.le_refl _) HBS.out hT)
      have HR8 := Lib.hid hR
      clear hT hR H5 hB7 HR7
      have H6_ := zero_any HR8.out 0 (by decide)
      rw [show hasF 4 [(1, 2)] 0 = true by decide, if_pos rfl, if_pos rfl] at H6_
      have H6 := Lib.hid H6_
      clear H6_
      obtain ⟨M2, hM2⟩ : ∃ M, M = zeroF (storeF M1 0 (8 : Int).toNat y) (0 : Int).toNat := ⟨_, rfl⟩
      rw [← hM2] at H6
      have hc2 : clearF M2 0 = true := by rw [hM2]; exact clear_zeroF _ _
      have HC2 := Lib.hid hc2
      have hl2 : loadR 4 [(1, 2)] M2 a2 8 = (x : Int) := by
        have e := HL1.out
        unfold loadR at e ⊢
        have := HIN.out
        rw [if_pos HE2.out] at e ⊢
        rw [hM2, load_zeroF_far _ _ _ _ (by have := HA2.out; omega), load_far _ _ _ _ _ _ (by have := HA2.out; omega)]
        exact e
      have HL2 := Lib.hid hl2
      clear hM2 hc2 hl2
      go_wp2_with fail
      refine H6.out.mono ?_
      rintro e w9 ⟨rfl, hT, hR⟩
      have hB9 := Lib.hid (RT.below' hB8.out (Nat.le_refl _) HBS.out hT)
      have HR9 := Lib.hid hR
      clear hT hR H6 hB8 HR8
      have H7_ := load_any HR9.out a2 8 (by have := HIN.out; have := HA2.out; omega)
      rw [HL2.out, HE2.out] at H7_
      have H7 := Lib.hid H7_
      clear H7_
      go_wp2_with fail
      refine H7.out.mono ?_
      rintro e w10 ⟨rfl, hb⟩
      have hB10 := Lib.hid (b_then hB9.out hb)
      have HR10 := Lib.hid (HR9.out.below hb)
      clear hb H7 hB9 HR9
      go_wp2_with fail
      refine (awake_any _).mono ?_
      rintro e w11 ⟨rfl, hb⟩
      have hB11 := Lib.hid (b_then hB10.out hb)
      have HR11 := Lib.hid (HR10.out.below hb)
      clear hb hB10 HR10
      have H9_ := clear_any HR11.out 0 (by decide)
      rw [HC2.out] at H9_
      have H9 := Lib.hid H9_
      clear H9_
      go_wp2_with fail
      refine H9.out.mono ?_
      rintro e w12 ⟨rfl, hb⟩
      have hB12 := Lib.hid (b_then hB11.out hb)
      have HR12 := Lib.hid (HR11.out.below hb)
      clear hb H9 hB11 HR11
      go_wp2
      go_returns
      exact ⟨ret_v (by simp), hB12.out⟩
  · rcases Bool.eq_false_or_eq_true ((x : Int) != (x : Int) % 72057594037927936) with hm | hm
    · skip
      go_wp2_with fail
      refine H1.out.mono ?_
      rintro e w4 ⟨rfl, hT, hR⟩
      have hB4 := Lib.hid (RT.below' hB3.out (Nat.le_refl _) HBS.out hT)
      have HR4 := Lib.hid hR
      clear hT hR H1 hB3 HR3
      have H2_ := copy_any HR4.out 1 0
      rw [show (hasF 4 [(1, 2)] 1 && hasF 4 [(1, 2)] 0) = false by decide, if_neg (by decide), if_neg (by decide)] at H2_
      have H2 := Lib.hid H2_
      clear H2_
      go_wp2_with fail
      refine H2.out.mono ?_
      rintro e w5 ⟨rfl, hT, hR⟩
      have hB5 := Lib.hid (RT.below' hB4.out (Nat.le_refl _) HBS.out hT)
      have HR5 := Lib.hid hR
      clear hT hR H2 hB4 HR4
      have H3_ := copy_any HR5.out 0 1
      rw [show (hasF 4 [(1, 2)] 0 && hasF 4 [(1, 2)] 1) = false by decide, if_neg (by decide), if_neg (by decide)] at H3_
      have H3 := Lib.hid H3_
      clear H3_
      go_wp2_with fail
      refine H3.out.mono ?_
      rintro e w6 ⟨rfl, hT, hR⟩
      have hB6 := Lib.hid (RT.below' hB5.out (Nat.le_refl _) HBS.out hT)
      have HR6 := Lib.hid hR
      clear hT hR H3 hB5 HR5
      have hl1 : loadR 4 [(1, 2)] M1 a2 8 = (x : Int) := by
        unfold loadR
        have := HIN.out
        rw [if_pos HE2.out, HM1.out, HA2.out]
        simp only [Int.reduceToNat]
        rw [show 8192 + a = 2 * 4096 + a by omega, load_copyF _ _ _ _ _ this, Nat.zero_mul, Nat.zero_add, HM0.out]
        simp only [Int.reduceToNat]
        rw [load_same, HV.out]
      have H4_ := load_any HR6.out a2 8 (by have := HIN.out; have := HA2.out; omega)
      rw [hl1, HE2.out] at H4_
      have H4 := Lib.hid H4_
      clear H4_
      have HL1 := Lib.hid hl1
      clear hl1
      go_wp2_with fail
      refine H4.out.mono ?_
      rintro e w7 ⟨rfl, hb⟩
      have hB7 := Lib.hid (b_then hB6.out hb)
      have HR7 := Lib.hid (HR6.out.below hb)
      clear hb H4 hB6 HR6
      have H5_ := store_any HR7.out 0 y 8 (by decide) HYB.out
      rw [show errF 4 [(1, 2)] ((0 : Nat) : Int) 8 = 0 by decide, if_pos rfl] at H5_
      have H5 := Lib.hid H5_
      clear H5_
      go_wp2_with fail
      refine H5.out.mono ?_
      rintro e w8 ⟨rfl, hT, hR⟩
      have hB8 := Lib.hid (RT.below' hB7.out (Nat.le_refl _) HBS.out hT)
      have HR8 := Lib.hid hR
      clear hT hR H5 hB7 HR7
      have H6_ := zero_any HR8.out 0 (by decide)
      rw [show hasF 4 [(1, 2)] 0 = true by decide, if_pos rfl, if_pos rfl] at H6_
      have H6 := Lib.hid H6_
      clear H6_
      obtain ⟨M2, hM2⟩ : ∃ M, M = zeroF (storeF M1 0 (8 : Int).toNat y) (0 : Int).toNat := ⟨_, rfl⟩
      rw [← hM2] at H6
      have hc2 : clearF M2 0 = true := by rw [hM2]; exact clear_zeroF _ _
      have HC2 := Lib.hid hc2
      have hl2 : loadR 4 [(1, 2)] M2 a2 8 = (x : Int) := by
        have e := HL1.out
        unfold loadR at e ⊢
        have := HIN.out
        rw [if_pos HE2.out] at e ⊢
        rw [hM2, load_zeroF_far _ _ _ _ (by have := HA2.out; omega), load_far _ _ _ _ _ _ (by have := HA2.out; omega)]
        exact e
      have HL2 := Lib.hid hl2
      clear hM2 hc2 hl2
      go_wp2_with fail
      refine H6.out.mono ?_
      rintro e w9 ⟨rfl, hT, hR⟩
      have hB9 := Lib.hid (RT.below' hB8.out (Nat.le_refl _) HBS.out hT)
      have HR9 := Lib.hid hR
      clear hT hR H6 hB8 HR8
      have H7_ := load_any HR9.out a2 8 (by have := HIN.out; have := HA2.out; omega)
      rw [HL2.out, HE2.out] at H7_
      have H7 := Lib.hid H7_
      clear H7_
      go_wp2_with fail
      refine H7.out.mono ?_
      rintro e w10 ⟨rfl, hb⟩
      have hB10 := Lib.hid (b_then hB9.out hb)
      have HR10 := Lib.hid (HR9.out.below hb)
      clear hb H7 hB9 HR9
      go_wp2_with fail
      refine (awake_any _).mono ?_
      rintro e w11 ⟨rfl, hb⟩
      have hB11 := Lib.hid (b_then hB10.out hb)
      have HR11 := Lib.hid (HR10.out.below hb)
      clear hb hB10 HR10
      have H9_ := clear_any HR11.out 0 (by decide)
      rw [HC2.out] at H9_
      have H9 := Lib.hid H9_
      clear H9_
      go_wp2_with fail
      refine H9.out.mono ?_
      rintro e w12 ⟨rfl, hb⟩
      have hB12 := Lib.hid (b_then hB11.out hb)
      have HR12 := Lib.hid (HR11.out.below hb)
      clear hb H9 hB11 HR11
      go_wp2
      go_returns
      exact ⟨ret_v (by simp), hB12.out⟩
    · skip
      go_wp2_with fail
      refine H1.out.mono ?_
      rintro e w4 ⟨rfl, hT, hR⟩
      have hB4 := Lib.hid (RT.below' hB3.out (Nat.le_refl _) HBS.out hT)
      have HR4 := Lib.hid hR
      clear hT hR H1 hB3 HR3
      have H2_ := copy_any HR4.out 1 0
      rw [show (hasF 4 [(1, 2)] 1 && hasF 4 [(1, 2)] 0) = false by decide, if_neg (by decide), if_neg (by decide)] at H2_
      have H2 := Lib.hid H2_
      clear H2_
      go_wp2_with fail
      refine H2.out.mono ?_
      rintro e w5 ⟨rfl, hT, hR⟩
      have hB5 := Lib.hid (RT.below' hB4.out (Nat.le_refl _) HBS.out hT)
      have HR5 := Lib.hid hR
      clear hT hR H2 hB4 HR4
      have H3_ := copy_any HR5.out 0 1
      rw [show (hasF 4 [(1, 2)] 0 && hasF 4 [(1, 2)] 1) = false by decide, if_neg (by decide), if_neg (by decide)] at H3_
      have H3 := Lib.hid H3_
      clear H3_
      go_wp2_with fail
      refine H3.out.mono ?_
      rintro e w6 ⟨rfl, hT, hR⟩
      have hB6 := Lib.hid (RT.below' hB5.out (Nat.le_refl _) HBS.out hT)
      have HR6 := Lib.hid hR
      clear hT hR H3 hB5 HR5
      have hl1 : loadR 4 [(1, 2)] M1 a2 8 = (x : Int) := by
        unfold loadR
        have := HIN.out
        rw [if_pos HE2.out, HM1.out, HA2.out]
        simp only [Int.reduceToNat]
        rw [show 8192 + a = 2 * 4096 + a by omega, load_copyF _ _ _ _ _ this, Nat.zero_mul, Nat.zero_add, HM0.out]
        simp only [Int.reduceToNat]
        rw [load_same, HV.out]
      have H4_ := load_any HR6.out a2 8 (by have := HIN.out; have := HA2.out; omega)
      rw [hl1, HE2.out] at H4_
      have H4 := Lib.hid H4_
      clear H4_
      have HL1 := Lib.hid hl1
      clear hl1
      go_wp2_with fail
      refine H4.out.mono ?_
      rintro e w7 ⟨rfl, hb⟩
      have hB7 := Lib.hid (b_then hB6.out hb)
      have HR7 := Lib.hid (HR6.out.below hb)
      clear hb H4 hB6 HR6
      have H5_ := store_any HR7.out 0 y 8 (by decide) HYB.out
      rw [show errF 4 [(1, 2)] ((0 : Nat) : Int) 8 = 0 by decide, if_pos rfl] at H5_
      have H5 := Lib.hid H5_
      clear H5_
      go_wp2_with fail
      refine H5.out.mono ?_
      rintro e w8 ⟨rfl, hT, hR⟩
      have hB8 := Lib.hid (RT.below' hB7.out (Nat.le_refl _) HBS.out hT)
      have HR8 := Lib.hid hR
      clear hT hR H5 hB7 HR7
      have H6_ := zero_any HR8.out 0 (by decide)
      rw [show hasF 4 [(1, 2)] 0 = true by decide, if_pos rfl, if_pos rfl] at H6_
      have H6 := Lib.hid H6_
      clear H6_
      obtain ⟨M2, hM2⟩ : ∃ M, M = zeroF (storeF M1 0 (8 : Int).toNat y) (0 : Int).toNat := ⟨_, rfl⟩
      rw [← hM2] at H6
      have hc2 : clearF M2 0 = true := by rw [hM2]; exact clear_zeroF _ _
      have HC2 := Lib.hid hc2
      have hl2 : loadR 4 [(1, 2)] M2 a2 8 = (x : Int) := by
        have e := HL1.out
        unfold loadR at e ⊢
        have := HIN.out
        rw [if_pos HE2.out] at e ⊢
        rw [hM2, load_zeroF_far _ _ _ _ (by have := HA2.out; omega), load_far _ _ _ _ _ _ (by have := HA2.out; omega)]
        exact e
      have HL2 := Lib.hid hl2
      clear hM2 hc2 hl2
      go_wp2_with fail
      refine H6.out.mono ?_
      rintro e w9 ⟨rfl, hT, hR⟩
      have hB9 := Lib.hid (RT.below' hB8.out (Nat.le_refl _) HBS.out hT)
      have HR9 := Lib.hid hR
      clear hT hR H6 hB8 HR8
      have H7_ := load_any HR9.out a2 8 (by have := HIN.out; have := HA2.out; omega)
      rw [HL2.out, HE2.out] at H7_
      have H7 := Lib.hid H7_
      clear H7_
      go_wp2_with fail
      refine H7.out.mono ?_
      rintro e w10 ⟨rfl, hb⟩
      have hB10 := Lib.hid (b_then hB9.out hb)
      have HR10 := Lib.hid (HR9.out.below hb)
      clear hb H7 hB9 HR9
      go_wp2_with fail
      refine (awake_any _).mono ?_
      rintro e w11 ⟨rfl, hb⟩
      have hB11 := Lib.hid (b_then hB10.out hb)
      have HR11 := Lib.hid (HR10.out.below hb)
      clear hb hB10 HR10
      have H9_ := clear_any HR11.out 0 (by decide)
      rw [HC2.out] at H9_
      have H9 := Lib.hid H9_
      clear H9_
      go_wp2_with fail
      refine H9.out.mono ?_
      rintro e w12 ⟨rfl, hb⟩
      have hB12 := Lib.hid (b_then hB11.out hb)
      have HR12 := Lib.hid (HR11.out.below hb)
      clear hb H9 hB11 HR11
      go_wp2
      go_returns
      exact ⟨ret_v (by simp), hB12.out⟩
theorem walk_RamWhole (a0 : Int) (a1 : Int) (a2 : Int) (a3 : Int) (w : World) (w0 : (Lit.int .i64 a0).wf = true) (w1 : (Lit.int .i64 a1).wf = true) (w2 : (Lit.int .u64 a2).wf = true) (w3 : (Lit.int .u64 a3).wf = true) :
    Calls Try.prog 7 #[.int .i64 a0, .int .i64 a1, .int .u64 a2, .int .u64 a3] w fun e w' => e = .returned (.bool true) ∧ Below w.heap.size w w' := by
  by_cases h1 : a0 < 0
  · have d1 : decide (a0 < 0) = true := decide_eq_true h1
    clear h1
    go_enter Try.func7, Try.ntmps7
    go_wp2_with fail
    refine (awake_any _).mono ?_
    rintro e wa ⟨rfl, hb⟩
    go_wp2
    go_returns
    exact ⟨rfl, hb⟩
  by_cases h2 : 4096 < a0
  · have d1 : decide (a0 < 0) = false := decide_eq_false h1
    have d2 : decide (4096 < a0) = true := decide_eq_true h2
    clear h1 h2
    go_enter Try.func7, Try.ntmps7
    go_wp2_with fail
    refine (awake_any _).mono ?_
    rintro e wa ⟨rfl, hb⟩
    go_wp2
    go_returns
    exact ⟨rfl, hb⟩
  have b2 := u64_bd w2
  have b3 := u64_bd w3
  obtain ⟨a, rfl⟩ : ∃ n : Nat, a0 = n := ⟨a0.toNat, by omega⟩
  obtain ⟨x, rfl⟩ : ∃ n : Nat, a2 = n := ⟨a2.toNat, by have := b2.1; omega⟩
  obtain ⟨y, rfl⟩ : ∃ n : Nat, a3 = n := ⟨a3.toNat, by have := b3.1; omega⟩
  have hx : x < 18446744073709551616 := by have := b2.2; omega
  have hy : y < 18446744073709551616 := by have := b3.2; omega
  by_cases he : errF 4 WH (a : Int) a1 = 0
  · obtain ⟨k, rfl, hk, hin⟩ := wh_out (by omega) he
    rcases hk with rfl | rfl | rfl | rfl
    · exact whole_ok1 a x y hin hx hy w
    · exact whole_ok2 a x y hin hx hy w
    · exact whole_ok4 a x y hin hx hy w
    · exact whole_ok8 a x y hin hx hy w
  · exact whole_err a x y a1 (by omega) hx hy he w
end Go.Proofs.Ytnjjeedalmikaaa
