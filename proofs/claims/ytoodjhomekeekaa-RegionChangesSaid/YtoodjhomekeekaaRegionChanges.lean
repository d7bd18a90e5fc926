/- RegionChanges: pages are added, cut and protected page by page, and regions merged. No condition. Printed by gen/rgchanges.py. -/
import Derived.Test.YtoodjhomekeekaaRgC3
import Derived.Deep.RegionWith
import Derived.Deep.AppendLies
import Derived.Deep.DeepCutAuto
import Derived.Deep.WholeRow
import Derived.Laws.Rows
import Derived.Laws.Tables
namespace Go.Proofs.Ytoodjhomekeekaa
open Go.ChangeShapes Go.WideShapes Go.ChangeAt Go.RowKit
set_option linter.unusedVariables false
set_option linter.unusedSimpArgs false
theorem addO_len {R : List RG} {d : RG} : (addO R d).length ≤ R.length + 1 := by
  unfold addO
  split
  · unfold addR
    refine Nat.le_trans (mergeL_len _) ?_
    have := atL_le d R 0 0 (Nat.le_refl _)
    simp only [List.length_append, List.length_cons, List.length_take, List.length_drop]
    omega
  · simp
theorem flat_len (ch : RG → RG × Bool) (f t : Int) : ∀ R : List RG, (R.flatMap (pieces ch f t)).length ≤ 3 * R.length
  | [] => by simp
  | d :: r => by
    have h1 := flat_len ch f t r
    have h2 := pieces_len ch f t d
    rw [List.flatMap_cons, List.length_append, List.length_cons]
    omega
theorem split_len (ch : RG → RG × Bool) (f t : Int) (R : List RG) : (splitL ch f t R).length ≤ 3 * R.length := Nat.le_trans (mergeL_len _) (flat_len ch f t R)
theorem cutO_len {R : List RG} {f t : Int} : (cutO R f t).length ≤ 3 * R.length := by
  unfold cutO
  split
  · exact split_len _ _ _ _
  · simp
theorem proO_len {R : List RG} {f t : Int} {mw mu mx : Bool} : (proO R f t mw mu mx).length ≤ 3 * R.length := by
  unfold proO
  split
  · exact split_len _ _ _ _
  · simp
set_option maxRecDepth 20000 in
set_option maxHeartbeats 16000000 in
theorem walk_RegionChanges (A0 : Option Addr) (len0 cap0 : Nat) (a1 : Int) (a2 : Int) (a3 : Int) (a4_0 : Bool) (a4_1 : Bool) (a4_2 : Bool) (a5 : Int) (w : World) (r0 : Rows_ w [.i .i64, .i .i64, .b, .b, .b, .i .i64] A0 len0) (w1 : (Lit.int .i64 a1).wf = true) (w2 : (Lit.int .i64 a2).wf = true) (w3 : (Lit.int .i64 a3).wf = true) (w5 : (Lit.int .i64 a5).wf = true) :
    Calls Try.prog 4 #[.slice A0 len0 cap0, .int .i64 a1, .int .i64 a2, .int .i64 a3, .agg #[.bool a4_0, .bool a4_1, .bool a4_2], .int .i64 a5] w fun e w' => e = .returned (.bool true) ∧ Below w.heap.size w w' := by
  have hr0 := Lib.hid r0
  clear w1 w2 w3 w5
  have k1 := tm40 a1
  have k2 := tm40 a2
  have s1 : IntKind.i64.wrap (a1.tmod 1099511627776) = (a1.tmod 1099511627776) := by rw [IntKind.wrap_i64]; omega
  have s2 : IntKind.i64.wrap (a2.tmod 1099511627776) = (a2.tmod 1099511627776) := by rw [IntKind.wrap_i64]; omega
  have m1 := sml_tmod a1
  have m2 := sml_tmod a2
  have HSF := Lib.hid m1
  have HST := Lib.hid m2
  clear k1 k2 m1 m2
  obtain ⟨gm, hgm⟩ : ∃ g, g = w.heap.size := ⟨_, rfl⟩
  obtain ⟨Wm, hWm⟩ : ∃ W, W = w.alloc (.cells #[.bool a4_0, .bool a4_1, .bool a4_2] 29) := ⟨_, rfl⟩
  have hm0 : Wm.heap[gm]? = some (.cells #[.bool a4_0, .bool a4_1, .bool a4_2] 29 (0, 0)) := by rw [hWm, hgm]; exact heap_new _ _
  have hBm : Below w.heap.size w Wm := by rw [hWm]; exact (Below.refl _ _).alloc (Nat.le_refl _) _
  have hrm : Rows_ Wm [.i .i64, .i .i64, .b, .b, .b, .i .i64] A0 len0 := by
    obtain ⟨h1, h2⟩ := r0
    refine ⟨h1, fun h3 => ?_⟩
    obtain ⟨b, off, R, e1, e2, e3⟩ := h2 h3
    exact ⟨b, off, R, e1, Nat.lt_of_lt_of_le e2 hBm.size, fun i hi => ⟨(e3 i hi).1, fun j hj => (hBm.cell (p := ⟨b, _, none⟩) e2).trans ((e3 i hi).2 j hj)⟩⟩
  have c0 := told_any (cap := cap0) hrm
  go_enter Try.func4, Try.ntmps4
  go_upto_region 1 with fail
  rw [← hWm, ← hgm]
  have HWM := Lib.hid hWm
  have HGM := Lib.hid hgm
  have HM0 := Lib.hid hm0
  have HBM := Lib.hid hBm
  clear r0 hWm hgm hm0 hBm hrm
  go_wp2_with fail
  refine c0.mono ?_
  rintro e w1 ⟨A1, cp1, R, rfl, hr1, hb1, hl1, hs1⟩
  have HRR := Lib.hid hr1
  have HSM := Lib.hid hs1
  have HL70 := Lib.hid hl1
  have HBW := Lib.hid (b_then HBM.out hb1)
  have hm1 := heap_below hb1 HM0.out
  obtain ⟨n, hn⟩ : ∃ n, n = R.length := ⟨_, rfl⟩
  rw [← hn] at HRR ⊢
  have HN := Lib.hid hn
  have mw0 : w1.cell? ⟨gm, 0, none⟩ = some (.bool a4_0) := by have := cell_heap hm1 0; simpa using this
  have mw1 : w1.cell? ⟨gm, 1, none⟩ = some (.bool a4_1) := by have := cell_heap hm1 1; simpa using this
  have mw2 : w1.cell? ⟨gm, 2, none⟩ = some (.bool a4_2) := by have := cell_heap hm1 2; simpa using this
  have hgmw : gm < w1.heap.size := heap_lt hm1
  have HM1 := Lib.hid hm1
  clear c0 hr1 hb1 hl1 hs1 hm1 hn
  go_upto_region 5 with fail
  try simp only [putNone]
  obtain ⟨gp, hgp⟩ : ∃ g, g = w1.heap.size := ⟨_, rfl⟩
  obtain ⟨gx, hgx⟩ : ∃ g, g = w1.heap.size + 1 := ⟨_, rfl⟩
  obtain ⟨V, hV⟩ : ∃ W, W = (w1.alloc (.cells #[.int .i64 (a1.tmod 1099511627776), .int .i64 (a2.tmod 1099511627776)] 27)).alloc (.cells #[.int .i64 (a1.tmod 1099511627776), .int .i64 (a2.tmod 1099511627776), .bool a4_0, .bool a4_1, .bool a4_2, .int .i64 a5] 36) := ⟨_, rfl⟩
  have hp0 : V.heap[gp]? = some (.cells #[.int .i64 (a1.tmod 1099511627776), .int .i64 (a2.tmod 1099511627776)] 27 (0, 0)) := by rw [hV, hgp]; exact heap_old _ _ _ (heap_new _ _)
  have hx0 : V.heap[gx]? = some (.cells #[.int .i64 (a1.tmod 1099511627776), .int .i64 (a2.tmod 1099511627776), .bool a4_0, .bool a4_1, .bool a4_2, .int .i64 a5] 36 (0, 0)) := by rw [hV, hgx]; exact heap_two _ _ _
  have hBV : Below w1.heap.size w1 V := by rw [hV]; exact ((Below.refl _ _).alloc (Nat.le_refl _) _).alloc (by rw [World.size_alloc]; omega) _
  have hm0 := heap_below hBV HM1.out
  rw [← hV, ← hgx, ← hgp]
  have hsh : ∀ W, Below V.heap.size V W → W.cell? ⟨gx, 0, none⟩ = some (.int .i64 (a1.tmod 1099511627776)) ∧ W.cell? ⟨gx, 1, none⟩ = some (.int .i64 (a2.tmod 1099511627776)) ∧ W.cell? ⟨gx, 2, none⟩ = some (.bool a4_0) ∧ W.cell? ⟨gx, 3, none⟩ = some (.bool a4_1) ∧ W.cell? ⟨gx, 4, none⟩ = some (.bool a4_2) ∧ W.cell? ⟨gx, 5, none⟩ = some (.int .i64 a5) ∧ W.cell? ⟨gp, 0, none⟩ = some (.int .i64 (a1.tmod 1099511627776)) ∧ W.cell? ⟨gp, 1, none⟩ = some (.int .i64 (a2.tmod 1099511627776)) ∧ W.cell? ⟨gm, 0, none⟩ = some (.bool a4_0) ∧ W.cell? ⟨gm, 1, none⟩ = some (.bool a4_1) ∧ W.cell? ⟨gm, 2, none⟩ = some (.bool a4_2) ∧ gx < W.heap.size ∧ gp < W.heap.size ∧ gm < W.heap.size := fun W hW => by
    have h1 := heap_below hW hx0
    have h2 := heap_below hW hp0
    have h3 := heap_below hW hm0
    refine ⟨by have := cell_heap h1 0; simpa using this, by have := cell_heap h1 1; simpa using this, by have := cell_heap h1 2; simpa using this, by have := cell_heap h1 3; simpa using this, by have := cell_heap h1 4; simpa using this, by have := cell_heap h1 5; simpa using this, by have := cell_heap h2 0; simpa using this, by have := cell_heap h2 1; simpa using this, by have := cell_heap h3 0; simpa using this, by have := cell_heap h3 1; simpa using this, by have := cell_heap h3 2; simpa using this, heap_lt h1, heap_lt h2, heap_lt h3⟩
  have HSH := Lib.hid hsh
  have HBV := Lib.hid hBV
  have HXV := Lib.hid hV
  have HXP := Lib.hid hgp
  have HXX := Lib.hid hgx
  obtain ⟨N1, hN1⟩ : ∃ N, N = addO R (⟨(a1.tmod 1099511627776), (a2.tmod 1099511627776), a4_0, a4_1, a4_2, a5⟩ : RG) := ⟨_, rfl⟩
  obtain ⟨er1, her1⟩ : ∃ e, e = addE R (⟨(a1.tmod 1099511627776), (a2.tmod 1099511627776), a4_0, a4_1, a4_2, a5⟩ : RG) := ⟨_, rfl⟩
  obtain ⟨N2, hN2⟩ : ∃ N, N = cutO R (a1.tmod 1099511627776) (a2.tmod 1099511627776) := ⟨_, rfl⟩
  obtain ⟨er2, her2⟩ : ∃ e, e = cutE R (a1.tmod 1099511627776) (a2.tmod 1099511627776) := ⟨_, rfl⟩
  obtain ⟨N3, hN3⟩ : ∃ N, N = proO R (a1.tmod 1099511627776) (a2.tmod 1099511627776) a4_0 a4_1 a4_2 := ⟨_, rfl⟩
  obtain ⟨er3, her3⟩ : ∃ e, e = proE R (a1.tmod 1099511627776) (a2.tmod 1099511627776) a4_0 a4_1 a4_2 := ⟨_, rfl⟩
  have hof : ∀ W, Below w1.heap.size w1 W → Calls Try.prog 10 #[.slice A1 n cp1] W fun e w' => ∃ A c, e = .returned (.slice A n c) ∧ rgL w' W.heap.size (.slice A n c) R ∧ Below W.heap.size W w' := fun W hW => by
    have := of_any (HRR.out.below hW) (by have := HL70.out; omega)
    rwa [← HN.out] at this
  have hon : ∀ W, Calls Try.prog 15 #[.agg #[.int .i64 (a1.tmod 1099511627776), .int .i64 (a2.tmod 1099511627776), .bool a4_0, .bool a4_1, .bool a4_2, .int .i64 a5]] W fun e w' => e = .returned (.agg #[.int .i64 (a1.tmod 1099511627776), .int .i64 (a2.tmod 1099511627776), .bool a4_0, .bool a4_1, .bool a4_2, .int .i64 a5]) ∧ Below W.heap.size W w' := fun W => one_any W (⟨(a1.tmod 1099511627776), (a2.tmod 1099511627776), a4_0, a4_1, a4_2, a5⟩ : RG)
  have had : ∀ W A c, (∃ B, V.heap.size ≤ B ∧ rgL W B (.slice A n c) R) → Calls Try.prog 18 #[.slice A n c, .agg #[.int .i64 (a1.tmod 1099511627776), .int .i64 (a2.tmod 1099511627776), .bool a4_0, .bool a4_1, .bool a4_2, .int .i64 a5]] W fun e w' => ∃ A' c', e = .returned (.tuple #[.slice A' N1.length c', .int .i64 er1]) ∧ rgL w' W.heap.size (.slice A' N1.length c') N1 ∧ Below W.heap.size W w' := fun W A c ⟨B, _, q⟩ => by
    have := add_any q (by have := HL70.out; omega) (⟨(a1.tmod 1099511627776), (a2.tmod 1099511627776), a4_0, a4_1, a4_2, a5⟩ : RG)
    rw [← hN1, ← her1] at this
    exact this
  have hcu : ∀ W A c, (∃ B, V.heap.size ≤ B ∧ rgL W B (.slice A n c) R) → Calls Try.prog 19 #[.slice A n c, .agg #[.int .i64 (a1.tmod 1099511627776), .int .i64 (a2.tmod 1099511627776)]] W fun e w' => ∃ A' c', e = .returned (.tuple #[.slice A' N2.length c', .int .i64 er2]) ∧ rgL w' W.heap.size (.slice A' N2.length c') N2 ∧ Below W.heap.size W w' := fun W A c ⟨B, _, q⟩ => by
    have := cut_any q (by have := HL70.out; omega) (a1.tmod 1099511627776) (a2.tmod 1099511627776)
    rw [← hN2, ← her2] at this
    exact this
  have hpr : ∀ W A c, (∃ B, V.heap.size ≤ B ∧ rgL W B (.slice A n c) R) → Calls Try.prog 20 #[.slice A n c, .agg #[.int .i64 (a1.tmod 1099511627776), .int .i64 (a2.tmod 1099511627776)], .agg #[.bool a4_0, .bool a4_1, .bool a4_2]] W fun e w' => ∃ A' c', e = .returned (.tuple #[.slice A' N3.length c', .int .i64 er3]) ∧ rgL w' W.heap.size (.slice A' N3.length c') N3 ∧ Below W.heap.size W w' := fun W A c ⟨B, _, q⟩ => by
    have := protect_any q (by have := HL70.out; omega) (a1.tmod 1099511627776) (a2.tmod 1099511627776) a4_0 a4_1 a4_2
    rw [← hN3, ← her3] at this
    exact this
  have HLEN1 : Hid (N1.length ≤ 300) := Lib.hid (by rw [hN1]; have := addO_len (R := R) (d := (⟨(a1.tmod 1099511627776), (a2.tmod 1099511627776), a4_0, a4_1, a4_2, a5⟩ : RG)); have := HL70.out; omega)
  have HLEN2 : Hid (N2.length ≤ 300) := Lib.hid (by rw [hN2]; have := cutO_len (R := R) (f := (a1.tmod 1099511627776)) (t := (a2.tmod 1099511627776)); have := HL70.out; omega)
  have HLEN3 : Hid (N3.length ≤ 300) := Lib.hid (by rw [hN3]; have := proO_len (R := R) (f := (a1.tmod 1099511627776)) (t := (a2.tmod 1099511627776)) (mw := a4_0) (mu := a4_1) (mx := a4_2); have := HL70.out; omega)
  have HNN1 := Lib.hid hN1
  have HNN2 := Lib.hid hN2
  have HNN3 := Lib.hid hN3
  have HER1 := Lib.hid her1
  have HER2 := Lib.hid her2
  have HER3 := Lib.hid her3
  have HOF := Lib.hid hof
  have HON := Lib.hid hon
  have HAD := Lib.hid had
  have HCU := Lib.hid hcu
  have HPR := Lib.hid hpr
  have mixed : Try.prog.follows .mixedOrders = true := by kernel_rfl
  clear hV hgp hgx hp0 hx0 hBV hm0 hsh hN1 her1 hN2 her2 hN3 her3 hof hon had hcu hpr mw0 mw1 mw2
  obtain ⟨m0, m1, m2, m3, m4, m5, m6, m7, m8, m9, m10, ma, mb, mc⟩ := HSH.out V (Below.refl _ _)
  go_upto_region 5 with fail
  go_cut [16, 17] (fun s16 s17 wx => ∃ (A' : Option Addr) (c' : Nat), s16 = .slice A' N1.length c' ∧ s17 = .int .i64 er1 ∧ Hid (rgL wx 0 (.slice A' N1.length c') N1) ∧ Hid (Below V.heap.size V wx))
  case first =>
    go_region_law (first
      | (go_simp; go_at_call 10; refine (HOF.out _ ?_).mono ?_; (exact b_then HBV.out (by go_grown)); rintro e w3 ⟨A5, c5, rfl, hr3, hb3⟩; have hB3 : Below V.heap.size V w3 := (b_then (by go_grown) hb3); obtain ⟨k0, k1, k2, k3, k4, k5, k6, k7, k8, k9, k10, ka, kb, kc⟩ := HSH.out _ hB3; have z3 := hB3.size)
      | (go_simp; go_at_call 15; refine (HON.out _).mono ?_; rintro e w4 ⟨rfl, hb4⟩; have hB4 : Below V.heap.size V w4 := (b_then (by go_grown) hb4); obtain ⟨l0, l1, l2, l3, l4, l5, l6, l7, l8, l9, l10, la, lb, lc⟩ := HSH.out _ hB4; have z4 := hB4.size)
      | (go_simp; go_at_call 18; refine (HAD.out _ _ _ ?_).mono ?_; (first | exact ⟨_, by first | exact Nat.le_refl _ | (simp; done) | (simp; omega) | omega, hr3⟩ | exact ⟨_, by first | exact Nat.le_refl _ | (simp; done) | (simp; omega) | omega, hr3.below hb4⟩); rintro e w6 ⟨A6, c6, rfl, hr6, hb6⟩; have hB6 : Below V.heap.size V w6 := (b_then (by first | exact hB3 | exact hB4) hb6)))
    all_goals
      have HR6 := Lib.hid (hr6.mono (Nat.zero_le _))
      have HB6 := Lib.hid hB6
      clear hr6 hB6
      go_wp2_with fail
      go_meet
      exact ⟨_, _, rfl, rfl, HR6, HB6⟩
  case rest =>
  obtain ⟨A6, c6, rfl, rfl, HR6, HB6⟩ := hcut
  clear m0 m1 m2 m3 m4 m5 m6 m7 m8 m9 m10 ma mb mc
  have hcs : a3 = 2 ∨ a3 = 3 ∨ ((a3 == 2) = false ∧ (a3 == 3) = false ∧ (a3 != 2) = true ∧ (a3 != 3) = true) := by
    by_cases h2 : a3 = 2
    · exact Or.inl h2
    by_cases h3 : a3 = 3
    · exact Or.inr (Or.inl h3)
    · exact Or.inr (Or.inr ⟨by simp [h2], by simp [h3], by simp [h2], by simp [h3]⟩)
  rcases hcs with rfl | rfl | ⟨d1, d2, d3, d4⟩
  · skip
    obtain ⟨Vx, hVx⟩ : ∃ W, W = wc := ⟨_, rfl⟩
    subst hVx
    obtain ⟨m0, m1, m2, m3, m4, m5, m6, m7, m8, m9, m10, ma, mb, mc⟩ := HSH.out Vx HB6.out
    have HBX := Lib.hid (b_then HBV.out HB6.out)
    have HSX := Lib.hid (fun W (hW : Below Vx.heap.size Vx W) => HSH.out W (b_then HB6.out hW))
    have HBO := Lib.hid HB6.out
    clear HR6 HB6
    go_upto_region 7 with fail
    go_cut [16, 17] (fun s16 s17 wx => ∃ (A' : Option Addr) (c' : Nat), s16 = .slice A' N2.length c' ∧ s17 = .int .i64 er2 ∧ Hid (rgL wx 0 (.slice A' N2.length c') N2) ∧ Hid (Below Vx.heap.size Vx wx))
    case first =>
      go_region_law (first
        | (go_simp; go_at_call 10; refine (HOF.out _ ?_).mono ?_; (exact b_then HBX.out (by go_grown)); rintro e w3 ⟨A5, c5, rfl, hr3, hb3⟩; have hB3 : Below Vx.heap.size Vx w3 := (b_then (by go_grown) hb3); obtain ⟨k0, k1, k2, k3, k4, k5, k6, k7, k8, k9, k10, ka, kb, kc⟩ := HSX.out _ hB3; have z3 := hB3.size)
        | (go_simp; go_at_call 19; refine (HCU.out _ _ _ ?_).mono ?_; (exact ⟨_, by have := HBO.out.size; first | omega | (simp; omega), hr3⟩); rintro e w6 ⟨A6, c6, rfl, hr6, hb6⟩; have hB6 : Below Vx.heap.size Vx w6 := (b_then (by first | exact hB3) hb6)))
      all_goals
        have HR6 := Lib.hid (hr6.mono (Nat.zero_le _))
        have HB6 := Lib.hid hB6
        clear hr6 hB6
        go_wp2_with fail
        go_meet
        exact ⟨_, _, rfl, rfl, HR6, HB6⟩
    case rest =>
    obtain ⟨A6, c6, rfl, rfl, HR6, HB6x⟩ := hcut
    have HB6 := Lib.hid (b_then HBO.out HB6x.out)
    clear m0 m1 m2 m3 m4 m5 m6 m7 m8 m9 m10 ma mb mc
    obtain ⟨Vf, hVf⟩ : ∃ W, W = wc := ⟨_, rfl⟩
    subst hVf
    have HBF := Lib.hid (b_then HBV.out HB6.out)
    obtain ⟨m0, m1, m2, m3, m4, m5, m6, m7, m8, m9, m10, ma, mb, mc⟩ := HSH.out Vf HB6.out
    obtain ⟨q1, q2, q3⟩ := err_act (R := R) (f := (a1.tmod 1099511627776)) (t := (a2.tmod 1099511627776)) (how := 2) (x := (⟨(a1.tmod 1099511627776), (a2.tmod 1099511627776), a4_0, a4_1, a4_2, a5⟩ : RG)) rfl rfl (by omega)
    have hee : ∀ W, Below w1.heap.size w1 W → Calls Try.prog 21 #[.slice A1 n cp1, .int .i64 (a1.tmod 1099511627776), .int .i64 (a2.tmod 1099511627776), .int .i64 2, .agg #[.int .i64 (a1.tmod 1099511627776), .int .i64 (a2.tmod 1099511627776), .bool a4_0, .bool a4_1, .bool a4_2, .int .i64 a5]] W fun e w' => e = .returned (.int .i64 er2) ∧ Below W.heap.size W w' := fun W hW => by
      have := err_any (HRR.out.below hW) (by have := HL70.out; omega) HSM.out (a1.tmod 1099511627776) (a2.tmod 1099511627776) 2 HSF.out HST.out (by omega) (⟨(a1.tmod 1099511627776), (a2.tmod 1099511627776), a4_0, a4_1, a4_2, a5⟩ : RG)
      rw [q1] at this
      rw [HER2.out]
      exact this
    have HEE := Lib.hid hee
    have hq2 : er2 = 0 → changeL R (a1.tmod 1099511627776) (a2.tmod 1099511627776) 2 (⟨(a1.tmod 1099511627776), (a2.tmod 1099511627776), a4_0, a4_1, a4_2, a5⟩ : RG) = N2 := fun e => by rw [HNN2.out]; exact q2 (by rw [HER2.out] at e; exact e)
    have hq3 : er2 ≠ 0 → N2 = [] := fun e => by rw [HNN2.out]; exact q3 (fun e2 => e (by rw [HER2.out]; exact e2))
    have HQ2 := Lib.hid hq2
    have HQ3 := Lib.hid hq3
    clear hee q1 q2 q3 hq2 hq3
    go_wp2_with fail
    refine (HEE.out Vf HBF.out).mono ?_
    rintro e v1 ⟨rfl, hv1⟩
    have HV1 := Lib.hid hv1
    clear hv1 m0 m1 m2 m3 m4 m5 m6 m7 m8 m9 m10 ma mb mc
    go_wp2_with fail
    refine (awake_any v1).mono ?_
    rintro e v2 ⟨rfl, hv2⟩
    have HV2 := Lib.hid (b_then HV1.out hv2)
    clear hv2
    rcases Bool.eq_false_or_eq_true (er2 != 0) with t1 | t1
    · have hn : N2 = [] := HQ3.out (by simpa using t1)
      rw [hn]
      clear hn
      simp only [List.length_nil]
      go_wp2_with fail
      go_returns
      exact ⟨rfl, b_then (b_then HBW.out HBF.out) HV2.out⟩
    · have he0 : er2 = 0 := by simpa using t1
      have hcc := HQ2.out he0
      have hch := change_any (HRR.out.below (b_then HBF.out HV2.out)) (by have := HL70.out; omega) (a1.tmod 1099511627776) (a2.tmod 1099511627776) 2 (by omega) (⟨(a1.tmod 1099511627776), (a2.tmod 1099511627776), a4_0, a4_1, a4_2, a5⟩ : RG)
      rw [hcc] at hch
      have HCH := Lib.hid hch
      obtain ⟨o0, o1, o2, o3, o4, o5, o6, o7, o8, o9, o10, oa, ob, oc⟩ := HSH.out v2 (b_then HB6.out HV2.out)
      clear hcc hch t1
      rw [he0]
      go_wp2_with fail
      refine HCH.out.mono ?_
      rintro e v3 ⟨A9, c9, rfl, hr9, hb9⟩
      have hsm := same_any (HR6.out.below (b_then HV2.out hb9)) hr9 (by have := HLEN2.out; omega)
      have HSA := Lib.hid hsm
      have HV3 := Lib.hid (b_then HV2.out hb9)
      clear hsm hr9 hb9 o0 o1 o2 o3 o4 o5 o6 o7 o8 o9 o10 oa ob oc
      go_wp2_with fail
      refine HSA.out.mono ?_
      rintro e v4 ⟨rfl, hv4⟩
      have HV4 := Lib.hid (b_then HV3.out hv4)
      clear hv4
      go_wp2_with fail
      go_returns
      exact ⟨rfl, b_then (b_then HBW.out HBF.out) HV4.out⟩
  · skip
    obtain ⟨Vx, hVx⟩ : ∃ W, W = wc := ⟨_, rfl⟩
    subst hVx
    obtain ⟨m0, m1, m2, m3, m4, m5, m6, m7, m8, m9, m10, ma, mb, mc⟩ := HSH.out Vx HB6.out
    have HBX := Lib.hid (b_then HBV.out HB6.out)
    have HSX := Lib.hid (fun W (hW : Below Vx.heap.size Vx W) => HSH.out W (b_then HB6.out hW))
    have HBO := Lib.hid HB6.out
    clear HR6 HB6
    go_upto_region 9 with fail
    go_cut [16, 17] (fun s16 s17 wx => ∃ (A' : Option Addr) (c' : Nat), s16 = .slice A' N3.length c' ∧ s17 = .int .i64 er3 ∧ Hid (rgL wx 0 (.slice A' N3.length c') N3) ∧ Hid (Below Vx.heap.size Vx wx))
    case first =>
      go_region_law (first
        | (go_simp; go_at_call 10; refine (HOF.out _ ?_).mono ?_; (exact b_then HBX.out (by go_grown)); rintro e w3 ⟨A5, c5, rfl, hr3, hb3⟩; have hB3 : Below Vx.heap.size Vx w3 := (b_then (by go_grown) hb3); obtain ⟨k0, k1, k2, k3, k4, k5, k6, k7, k8, k9, k10, ka, kb, kc⟩ := HSX.out _ hB3; have z3 := hB3.size)
        | (go_simp; go_at_call 20; refine (HPR.out _ _ _ ?_).mono ?_; (exact ⟨_, by have := HBO.out.size; first | omega | (simp; omega), hr3⟩); rintro e w6 ⟨A6, c6, rfl, hr6, hb6⟩; have hB6 : Below Vx.heap.size Vx w6 := (b_then (by first | exact hB3) hb6)))
      all_goals
        have HR6 := Lib.hid (hr6.mono (Nat.zero_le _))
        have HB6 := Lib.hid hB6
        clear hr6 hB6
        go_wp2_with fail
        go_meet
        exact ⟨_, _, rfl, rfl, HR6, HB6⟩
    case rest =>
    obtain ⟨A6, c6, rfl, rfl, HR6, HB6x⟩ := hcut
    have HB6 := Lib.hid (b_then HBO.out HB6x.out)
    clear m0 m1 m2 m3 m4 m5 m6 m7 m8 m9 m10 ma mb mc
    obtain ⟨Vf, hVf⟩ : ∃ W, W = wc := ⟨_, rfl⟩
    subst hVf
    have HBF := Lib.hid (b_then HBV.out HB6.out)
    obtain ⟨m0, m1, m2, m3, m4, m5, m6, m7, m8, m9, m10, ma, mb, mc⟩ := HSH.out Vf HB6.out
    obtain ⟨q1, q2, q3⟩ := err_act (R := R) (f := (a1.tmod 1099511627776)) (t := (a2.tmod 1099511627776)) (how := 3) (x := (⟨(a1.tmod 1099511627776), (a2.tmod 1099511627776), a4_0, a4_1, a4_2, a5⟩ : RG)) rfl rfl (by omega)
    have hee : ∀ W, Below w1.heap.size w1 W → Calls Try.prog 21 #[.slice A1 n cp1, .int .i64 (a1.tmod 1099511627776), .int .i64 (a2.tmod 1099511627776), .int .i64 3, .agg #[.int .i64 (a1.tmod 1099511627776), .int .i64 (a2.tmod 1099511627776), .bool a4_0, .bool a4_1, .bool a4_2, .int .i64 a5]] W fun e w' => e = .returned (.int .i64 er3) ∧ Below W.heap.size W w' := fun W hW => by
      have := err_any (HRR.out.below hW) (by have := HL70.out; omega) HSM.out (a1.tmod 1099511627776) (a2.tmod 1099511627776) 3 HSF.out HST.out (by omega) (⟨(a1.tmod 1099511627776), (a2.tmod 1099511627776), a4_0, a4_1, a4_2, a5⟩ : RG)
      rw [q1] at this
      rw [HER3.out]
      exact this
    have HEE := Lib.hid hee
    have hq2 : er3 = 0 → changeL R (a1.tmod 1099511627776) (a2.tmod 1099511627776) 3 (⟨(a1.tmod 1099511627776), (a2.tmod 1099511627776), a4_0, a4_1, a4_2, a5⟩ : RG) = N3 := fun e => by rw [HNN3.out]; exact q2 (by rw [HER3.out] at e; exact e)
    have hq3 : er3 ≠ 0 → N3 = [] := fun e => by rw [HNN3.out]; exact q3 (fun e2 => e (by rw [HER3.out]; exact e2))
    have HQ2 := Lib.hid hq2
    have HQ3 := Lib.hid hq3
    clear hee q1 q2 q3 hq2 hq3
    go_wp2_with fail
    refine (HEE.out Vf HBF.out).mono ?_
    rintro e v1 ⟨rfl, hv1⟩
    have HV1 := Lib.hid hv1
    clear hv1 m0 m1 m2 m3 m4 m5 m6 m7 m8 m9 m10 ma mb mc
    go_wp2_with fail
    refine (awake_any v1).mono ?_
    rintro e v2 ⟨rfl, hv2⟩
    have HV2 := Lib.hid (b_then HV1.out hv2)
    clear hv2
    rcases Bool.eq_false_or_eq_true (er3 != 0) with t1 | t1
    · have hn : N3 = [] := HQ3.out (by simpa using t1)
      rw [hn]
      clear hn
      simp only [List.length_nil]
      go_wp2_with fail
      go_returns
      exact ⟨rfl, b_then (b_then HBW.out HBF.out) HV2.out⟩
    · have he0 : er3 = 0 := by simpa using t1
      have hcc := HQ2.out he0
      have hch := change_any (HRR.out.below (b_then HBF.out HV2.out)) (by have := HL70.out; omega) (a1.tmod 1099511627776) (a2.tmod 1099511627776) 3 (by omega) (⟨(a1.tmod 1099511627776), (a2.tmod 1099511627776), a4_0, a4_1, a4_2, a5⟩ : RG)
      rw [hcc] at hch
      have HCH := Lib.hid hch
      obtain ⟨o0, o1, o2, o3, o4, o5, o6, o7, o8, o9, o10, oa, ob, oc⟩ := HSH.out v2 (b_then HB6.out HV2.out)
      clear hcc hch t1
      rw [he0]
      go_wp2_with fail
      refine HCH.out.mono ?_
      rintro e v3 ⟨A9, c9, rfl, hr9, hb9⟩
      have hsm := same_any (HR6.out.below (b_then HV2.out hb9)) hr9 (by have := HLEN3.out; omega)
      have HSA := Lib.hid hsm
      have HV3 := Lib.hid (b_then HV2.out hb9)
      clear hsm hr9 hb9 o0 o1 o2 o3 o4 o5 o6 o7 o8 o9 o10 oa ob oc
      go_wp2_with fail
      refine HSA.out.mono ?_
      rintro e v4 ⟨rfl, hv4⟩
      have HV4 := Lib.hid (b_then HV3.out hv4)
      clear hv4
      go_wp2_with fail
      go_returns
      exact ⟨rfl, b_then (b_then HBW.out HBF.out) HV4.out⟩
  · skip
    obtain ⟨Vf, hVf⟩ : ∃ W, W = wc := ⟨_, rfl⟩
    subst hVf
    have HBF := Lib.hid (b_then HBV.out HB6.out)
    obtain ⟨m0, m1, m2, m3, m4, m5, m6, m7, m8, m9, m10, ma, mb, mc⟩ := HSH.out Vf HB6.out
    obtain ⟨q1, q2, q3⟩ := err_act (R := R) (f := (a1.tmod 1099511627776)) (t := (a2.tmod 1099511627776)) (how := 1) (x := (⟨(a1.tmod 1099511627776), (a2.tmod 1099511627776), a4_0, a4_1, a4_2, a5⟩ : RG)) rfl rfl (by omega)
    have hee : ∀ W, Below w1.heap.size w1 W → Calls Try.prog 21 #[.slice A1 n cp1, .int .i64 (a1.tmod 1099511627776), .int .i64 (a2.tmod 1099511627776), .int .i64 1, .agg #[.int .i64 (a1.tmod 1099511627776), .int .i64 (a2.tmod 1099511627776), .bool a4_0, .bool a4_1, .bool a4_2, .int .i64 a5]] W fun e w' => e = .returned (.int .i64 er1) ∧ Below W.heap.size W w' := fun W hW => by
      have := err_any (HRR.out.below hW) (by have := HL70.out; omega) HSM.out (a1.tmod 1099511627776) (a2.tmod 1099511627776) 1 HSF.out HST.out (by omega) (⟨(a1.tmod 1099511627776), (a2.tmod 1099511627776), a4_0, a4_1, a4_2, a5⟩ : RG)
      rw [q1] at this
      rw [HER1.out]
      exact this
    have HEE := Lib.hid hee
    have hq2 : er1 = 0 → changeL R (a1.tmod 1099511627776) (a2.tmod 1099511627776) 1 (⟨(a1.tmod 1099511627776), (a2.tmod 1099511627776), a4_0, a4_1, a4_2, a5⟩ : RG) = N1 := fun e => by rw [HNN1.out]; exact q2 (by rw [HER1.out] at e; exact e)
    have hq3 : er1 ≠ 0 → N1 = [] := fun e => by rw [HNN1.out]; exact q3 (fun e2 => e (by rw [HER1.out]; exact e2))
    have HQ2 := Lib.hid hq2
    have HQ3 := Lib.hid hq3
    clear hee q1 q2 q3 hq2 hq3
    go_wp2_with fail
    refine (HEE.out Vf HBF.out).mono ?_
    rintro e v1 ⟨rfl, hv1⟩
    have HV1 := Lib.hid hv1
    clear hv1 m0 m1 m2 m3 m4 m5 m6 m7 m8 m9 m10 ma mb mc
    go_wp2_with fail
    refine (awake_any v1).mono ?_
    rintro e v2 ⟨rfl, hv2⟩
    have HV2 := Lib.hid (b_then HV1.out hv2)
    clear hv2
    rcases Bool.eq_false_or_eq_true (er1 != 0) with t1 | t1
    · have hn : N1 = [] := HQ3.out (by simpa using t1)
      rw [hn]
      clear hn
      simp only [List.length_nil]
      go_wp2_with fail
      go_returns
      exact ⟨rfl, b_then (b_then HBW.out HBF.out) HV2.out⟩
    · have he0 : er1 = 0 := by simpa using t1
      have hcc := HQ2.out he0
      have hch := change_any (HRR.out.below (b_then HBF.out HV2.out)) (by have := HL70.out; omega) (a1.tmod 1099511627776) (a2.tmod 1099511627776) 1 (by omega) (⟨(a1.tmod 1099511627776), (a2.tmod 1099511627776), a4_0, a4_1, a4_2, a5⟩ : RG)
      rw [hcc] at hch
      have HCH := Lib.hid hch
      obtain ⟨o0, o1, o2, o3, o4, o5, o6, o7, o8, o9, o10, oa, ob, oc⟩ := HSH.out v2 (b_then HB6.out HV2.out)
      clear hcc hch t1
      rw [he0]
      go_wp2_with fail
      refine HCH.out.mono ?_
      rintro e v3 ⟨A9, c9, rfl, hr9, hb9⟩
      have hsm := same_any (HR6.out.below (b_then HV2.out hb9)) hr9 (by have := HLEN1.out; omega)
      have HSA := Lib.hid hsm
      have HV3 := Lib.hid (b_then HV2.out hb9)
      clear hsm hr9 hb9 o0 o1 o2 o3 o4 o5 o6 o7 o8 o9 o10 oa ob oc
      go_wp2_with fail
      refine HSA.out.mono ?_
      rintro e v4 ⟨rfl, hv4⟩
      have HV4 := Lib.hid (b_then HV3.out hv4)
      clear hv4
      go_wp2_with fail
      go_returns
      exact ⟨rfl, b_then (b_then HBW.out HBF.out) HV4.out⟩
end Go.Proofs.Ytoodjhomekeekaa
