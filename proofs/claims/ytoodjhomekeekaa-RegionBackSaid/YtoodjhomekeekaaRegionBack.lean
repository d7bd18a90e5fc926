/- RegionBack: pages that are added and cut again leave the list as it was. No condition. Printed by gen/rgback.py. -/
import Derived.Test.YtoodjhomekeekaaRgX
import Derived.Deep.RegionHeld3
import Derived.Deep.DeepCutAuto
import Derived.Deep.WholeRow
import Derived.Laws.Rows
import Derived.Laws.Tables
namespace Go.Proofs.Ytoodjhomekeekaa
open Go.ChangeShapes Go.WideShapes Go.ChangeAt Go.RowKit
set_option linter.unusedVariables false
set_option linter.unusedSimpArgs false
set_option maxHeartbeats 16000000 in
theorem walk_RegionBack (A0 : Option Addr) (len0 cap0 : Nat) (a1_0 : Int) (a1_1 : Int) (a1_2 : Int) (a1_3 : Bool) (a1_4 : Bool) (a1_5 : Bool) (a1_6 : Int) (w : World) (r0 : Rows_ w [.i .i64, .i .i64, .i .i64, .b, .b, .b, .i .i64] A0 len0) (w1_0 : (Lit.int .i64 a1_0).wf = true) (w1_1 : (Lit.int .i64 a1_1).wf = true) (w1_2 : (Lit.int .i64 a1_2).wf = true) (w1_6 : (Lit.int .i64 a1_6).wf = true) :
    Calls Try.prog 5 #[.slice A0 len0 cap0, .agg #[.int .i64 a1_0, .int .i64 a1_1, .int .i64 a1_2, .bool a1_3, .bool a1_4, .bool a1_5, .int .i64 a1_6]] w fun e w' => e = .returned (.bool true) ∧ Below w.heap.size w w' := by
  have R0 := Lib.hid r0
  have hl63 := r0.1
  clear r0 w1_0 w1_1 w1_2 w1_6
  obtain ⟨g, hg⟩ : ∃ g, g = w.heap.size := ⟨_, rfl⟩
  obtain ⟨W0, hW0⟩ : ∃ W, W = w.alloc (.cells #[.int .i64 a1_0, .int .i64 a1_1, .int .i64 a1_2, .bool a1_3, .bool a1_4, .bool a1_5, .int .i64 a1_6] 57) := ⟨_, rfl⟩
  have hB0 : Below w.heap.size w W0 := by rw [hW0]; exact (Below.refl _ _).alloc (Nat.le_refl _) _
  have hh0 : W0.heap[g]? = some (.cells #[.int .i64 a1_0, .int .i64 a1_1, .int .i64 a1_2, .bool a1_3, .bool a1_4, .bool a1_5, .int .i64 a1_6] 57 (0, 0)) := by rw [hW0, hg]; exact heap_new _ _
  have HGA := Lib.hid hh0
  have HB0 := Lib.hid hB0
  have HGW : Hid (w.heap.size ≤ g) := Lib.hid (by omega)
  go_enter Try.func5, Try.ntmps5
  go_wp2_with fail
  rw [← hW0, ← hg]
  have HWW := Lib.hid hW0
  clear hW0 hg hB0 hh0
  have HBI := Lib.hid (Below.refl W0.heap.size W0)
  go_loopw [5, 6] (fun xl x wr => ∃ (k : Nat) (L : List RG) (A3 : Option Addr) (c3 : Nat), x = .int .i64 k ∧ xl = .slice A3 L.length c3 ∧ k ≤ len0 ∧ k ≤ 30 ∧ Hid (Below W0.heap.size W0 wr) ∧ Hid (rgL wr W0.heap.size (.slice A3 L.length c3) L) ∧ Hid (goodB L = true)) (fun _ x _ => len0 - (intOf x).toNat)
  case atStart => exact ⟨0, [], none, 0, rfl, rfl, by omega, by omega, HBI, Lib.hid (rgL.nil _ _), Lib.hid (by kernel_rfl)⟩
  case round =>
    clear HBI
    obtain ⟨k, L, A3, c3, rfl, rfl, hle, hN, HBW, HO, HG⟩ := hrel
    by_cases hlt : k < len0 ∧ k < 30
    · have f0 : decide (k < len0) = true := decide_eq_true hlt.1
      have f1 : decide ((k : Int) < 30) = true := decide_eq_true (by omega)
      have f3 : (k : Int) < (len0 : Int) := by omega
      have f4 : k < len0 := hlt.1
      have HL := Lib.hid hlt
      obtain ⟨b, off, rfl, hbw, how, d, e0, e1, e2, e3, e4, e5, e6⟩ := act_row7 R0.out hlt.1
      obtain ⟨hc1, hf1⟩ := bcell (b_then HB0.out HBW.out)
      have c0_ := (hc1 b _ hbw).trans e0
      have c1_ := (hc1 b _ hbw).trans e1
      have c2_ := (hc1 b _ hbw).trans e2
      have c3_ := (hc1 b _ hbw).trans e3
      have c4_ := (hc1 b _ hbw).trans e4
      have c5_ := (hc1 b _ hbw).trans e5
      have c6_ := (hc1 b _ hbw).trans e6
      have hbw3 : b < wr.heap.size := by have := (b_then HB0.out HBW.out).size; omega
      obtain ⟨L2, hL2⟩ : ∃ L2, L2 = actO L how d := ⟨_, rfl⟩
      obtain ⟨er, her⟩ : ∃ er, er = actE L how d := ⟨_, rfl⟩
      have hdo := does_any HO.out HBW.out.size (by have := goodB_len HG.out; omega) how d
      rw [← hL2, ← her] at hdo
      have HG2 : Hid (goodB L2 = true) := Lib.hid (by rw [hL2]; exact act_good HG.out how d)
      obtain ⟨ya, yb, yw, yu, yx, yk⟩ := d
      simp only at c0_ c1_ c2_ c3_ c4_ c5_ c6_ hdo
      have HDO := Lib.hid hdo
      clear hc1 hf1 e0 e1 e2 e3 e4 e5 e6 hdo her hL2 hlt
      go_wp2_with fail
      refine HDO.out.mono ?_
      rintro e w1 ⟨A4, cp4, rfl, hr1, hb1⟩
      have HR1 := Lib.hid hr1
      have HB1 := Lib.hid (b_then HBW.out hb1)
      clear hr1 hb1 c0_ c1_ c2_ c3_ c4_ c5_ c6_
      go_wp2_with fail
      go_roundw
      case rel => exact ⟨k + 1, L2, A4, cp4, by go_num, rfl, by omega, by have := HL.out; omega, HB1, HR1, HG2⟩
      case measure => simp [intOf]; omega
    · have hc : (decide (k < len0) = true ∧ decide ((k : Int) < 30) = false) ∨ decide (k < len0) = false := by
        by_cases h1 : k < len0
        · exact .inl ⟨decide_eq_true h1, decide_eq_false (by omega)⟩
        · exact .inr (decide_eq_false h1)
      clear hlt hle hN
      obtain ⟨n, hn⟩ : ∃ n, n = L.length := ⟨_, rfl⟩
      have hn64 : n ≤ 64 := by rw [hn]; exact goodB_len HG.out
      rw [← hn] at HO ⊢
      have HN := Lib.hid hn
      clear hn
      rcases hc with ⟨f0, f1⟩ | f0
      all_goals
        obtain ⟨A5, c5, w5, ha, hr5, hb5⟩ := rg_copy HO.out HN.out (by have := goodB_len HG.out; omega)
        have HA := Lib.hid ha
        have hg5 := heap_below (b_then HBW.out hb5) HGA.out
        have f0_ : w5.frozen? ⟨g, 0, none⟩ = false := by simp [World.frozen?, hg5]
        have q0_ : w5.cell? ⟨g, 0, none⟩ = some (.int .i64 a1_0) := by have := cell_heap hg5 0; simpa using this
        have hgw5 : g < w5.heap.size := heap_lt hg5
        have HG5 := Lib.hid hg5
        have HR5 := Lib.hid hr5
        have HB5 := Lib.hid (b_then HBW.out hb5)
        have HO5 := Lib.hid (HO.out.below hb5)
        clear ha hg5 hr5 hb5
        go_upto_region 9 with (at_builtin; refine wpList_app rfl (.tmp 35) (.tmp 36) 23 rfl rfl rfl HA.out ?_)
        try simp only [putNone]
        obtain ⟨W6, hW6⟩ : ∃ W, W = w5.setCell ⟨g, 0, none⟩ (.int .i64 1) := ⟨_, rfl⟩
        rw [← hW6]
        have hgw0 : g < W0.heap.size := heap_lt HGA.out
        have HG6 : Hid (W6.heap[g]? = some (.cells #[.int .i64 1, .int .i64 a1_1, .int .i64 a1_2, .bool a1_3, .bool a1_4, .bool a1_5, .int .i64 a1_6] 57 (0, 0))) := Lib.hid (by
          rw [hW6]
          have := heap_set HG5.out 0 (.int .i64 1)
          simpa using this)
        have HR5b := Lib.hid (show rgL W6 W0.heap.size (.slice A5 n c5) L by rw [hW6]; exact (HR5.out.mono HBW.out.size).far hgw0 0 _)
        have HO6 := Lib.hid (show rgL W6 W0.heap.size (.slice A3 n c3) L by rw [hW6]; exact HO5.out.far hgw0 0 _)
        have HB6 := Lib.hid (show Below w.heap.size w W6 by rw [hW6]; have := b_then HB0.out HB5.out; have := HGW.out; go_grown)
        have hs6 : W0.heap.size ≤ W6.heap.size := by have := HB5.out.size; rw [hW6, World.size_setCell]; exact this
        have hg6 := HG6.out
        have p0 : W6.cell? ⟨g, 0, none⟩ = some (.int .i64 1) := by have := cell_heap hg6 0; simpa using this
        have p1 : W6.cell? ⟨g, 1, none⟩ = some (.int .i64 a1_1) := by have := cell_heap hg6 1; simpa using this
        have p2 : W6.cell? ⟨g, 2, none⟩ = some (.int .i64 a1_2) := by have := cell_heap hg6 2; simpa using this
        have p3 : W6.cell? ⟨g, 3, none⟩ = some (.bool a1_3) := by have := cell_heap hg6 3; simpa using this
        have p4 : W6.cell? ⟨g, 4, none⟩ = some (.bool a1_4) := by have := cell_heap hg6 4; simpa using this
        have p5 : W6.cell? ⟨g, 5, none⟩ = some (.bool a1_5) := by have := cell_heap hg6 5; simpa using this
        have p6 : W6.cell? ⟨g, 6, none⟩ = some (.int .i64 a1_6) := by have := cell_heap hg6 6; simpa using this
        have hgw6 : g < W6.heap.size := heap_lt hg6
        obtain ⟨er, her⟩ : ∃ er, er = addE L (⟨a1_1, a1_2, a1_3, a1_4, a1_5, a1_6⟩ : RG) := ⟨_, rfl⟩
        obtain ⟨M, hM⟩ : ∃ M, M = actO L 1 (⟨a1_1, a1_2, a1_3, a1_4, a1_5, a1_6⟩ : RG) := ⟨_, rfl⟩
        have hdo := does_any HO6.out hs6 (by have := goodB_len HG.out; omega) 1 (⟨a1_1, a1_2, a1_3, a1_4, a1_5, a1_6⟩ : RG)
        rw [act_1, ← her, ← hM] at hdo
        simp only at hdo
        have HER := Lib.hid her
        have HM := Lib.hid hM
        have HDO := Lib.hid hdo
        clear her hM hdo hg6 hW6 f0_ q0_
        go_wp2_with fail
        refine HDO.out.mono ?_
        rintro e w7 ⟨A6, c6, rfl, hr6, hb6⟩
        have HR6 := Lib.hid hr6
        have HB67 := Lib.hid hb6
        have hg7 := heap_below hb6 HG6.out
        clear hr6 hb6 p0 p1 p2 p3 p4 p5 p6
        have p0 : w7.cell? ⟨g, 0, none⟩ = some (.int .i64 1) := by have := cell_heap hg7 0; simpa using this
        have p1 : w7.cell? ⟨g, 1, none⟩ = some (.int .i64 a1_1) := by have := cell_heap hg7 1; simpa using this
        have p2 : w7.cell? ⟨g, 2, none⟩ = some (.int .i64 a1_2) := by have := cell_heap hg7 2; simpa using this
        have p3 : w7.cell? ⟨g, 3, none⟩ = some (.bool a1_3) := by have := cell_heap hg7 3; simpa using this
        have p4 : w7.cell? ⟨g, 4, none⟩ = some (.bool a1_4) := by have := cell_heap hg7 4; simpa using this
        have p5 : w7.cell? ⟨g, 5, none⟩ = some (.bool a1_5) := by have := cell_heap hg7 5; simpa using this
        have p6 : w7.cell? ⟨g, 6, none⟩ = some (.int .i64 a1_6) := by have := cell_heap hg7 6; simpa using this
        have hgw7 : g < w7.heap.size := heap_lt hg7
        have HG71 := Lib.hid hg7
        clear hg7
        rcases Bool.eq_false_or_eq_true (er != 0) with t1 | t1
        · clear p0 p1 p2 p3 p4 p5 p6
          go_wp2_with fail
          refine (awake_any _).mono ?_
          rintro e w8 ⟨rfl, hb8⟩
          have HB8 := Lib.hid (b_then HB6.out (b_then HB67.out hb8))
          clear hb8
          go_wp2_with fail
          go_returns
          exact ⟨rfl, HB8.out⟩
        have he0 : addE L (⟨a1_1, a1_2, a1_3, a1_4, a1_5, a1_6⟩ : RG) = 0 := by rw [← HER.out]; simpa using t1
        have hMa : M = addR L (⟨a1_1, a1_2, a1_3, a1_4, a1_5, a1_6⟩ : RG) := by rw [HM.out]; exact actO_1 he0
        obtain ⟨l1, l2, l3, l4⟩ := back_law HG.out he0
        rw [← hMa] at l1 l2 l3 l4
        simp only at l2 l3 l4
        have hrt := (addE_zero he0).1
        have HSML := Lib.hid (right_sml hrt)
        have HSUB : Hid (IntKind.i64.wrap (a1_2 - a1_1) = a1_2 - a1_1) := Lib.hid (by have := right_lt hrt; simp only at this; rw [IntKind.wrap_i64]; omega)
        have HGM := Lib.hid l1
        have HCQ := Lib.hid l4
        have hcu := cut_any HR6.out (by have := goodB_len l1; omega) a1_1 a1_2
        rw [l2, l3] at hcu
        rw [← HN.out] at hcu
        have HCU := Lib.hid hcu
        clear he0 hMa l1 l2 l3 l4 hrt hcu
        go_wp2_with fail
        refine HCU.out.mono ?_
        rintro e w8 ⟨A7, c7, rfl, hr7, hb7⟩
        have HR7 := Lib.hid (rgL.mono hr7 (Nat.zero_le _))
        have HB7 := Lib.hid hb7
        have HR5c := Lib.hid ((HR5b.out.below HB67.out).below hb7)
        have HO7 := Lib.hid ((HO6.out.below HB67.out).below hb7)
        have HG7 := Lib.hid (heap_below hb7 HG71.out)
        have HB8 := Lib.hid (b_then HB6.out (b_then HB67.out hb7))
        clear hr7 hb7 p0 p1 p2 p3 p4 p5 p6
        obtain ⟨X, hX⟩ : ∃ X, X = L := ⟨_, rfl⟩
        have HNX : Hid (n = X.length) := Lib.hid (by rw [hX]; exact HN.out)
        have HRA : Hid (rgL w8 0 (.slice A7 n c7) X) := Lib.hid (by rw [hX]; exact HR7.out)
        have HRB : Hid (rgL w8 W0.heap.size (.slice A5 n c5) X) := Lib.hid (by rw [hX]; exact HR5c.out)
        have HRC : Hid (rgL w8 W0.heap.size (.slice A3 n c3) X) := Lib.hid (by rw [hX]; exact HO7.out)
        clear hX
        obtain ⟨V, hV⟩ : ∃ W, W = w8 := ⟨_, rfl⟩
        subst hV
        go_wp2_with fail
        go_loopw [76] (fun x wr => ∃ (k : Nat), x = .int .i64 k ∧ k ≤ n ∧ Hid (Below V.heap.size V wr)) (fun x _ => n - (intOf x).toNat)
        case atStart => exact ⟨0, rfl, by omega, Lib.hid (Below.refl _ _)⟩
        case round =>
          obtain ⟨k, rfl, hle, HBV⟩ := hrel
          by_cases hlt : k < n
          · have f0 : decide (k < n) = true := decide_eq_true hlt
            have f3 : (k : Int) < (n : Int) := by omega
            have hlt2 : k < X.length := by rw [← HNX.out]; exact hlt
            obtain ⟨b0, cq0, hv0, _, hbw0, e0, e1, e2, e3, e4, e5⟩ := (HRA.out.below HBV.out).cell (List.getElem?_eq_getElem hlt2)
            have x00 := e0
            have x01 := e1
            have x02 := e2
            have x03 := e3
            have x04 := e4
            have x05 := e5
            clear e0 e1 e2 e3 e4 e5
            obtain ⟨rfl, rfl⟩ : A7 = some ⟨b0, 0, none⟩ ∧ c7 = cq0 := by injection hv0 with i1 _ i3; exact ⟨i1, i3⟩
            clear hv0
            obtain ⟨b1, cq1, hv1, _, hbw1, e0, e1, e2, e3, e4, e5⟩ := (HRB.out.below HBV.out).cell (List.getElem?_eq_getElem hlt2)
            have x10 := e0
            have x11 := e1
            have x12 := e2
            have x13 := e3
            have x14 := e4
            have x15 := e5
            clear e0 e1 e2 e3 e4 e5
            obtain ⟨rfl, rfl⟩ : A5 = some ⟨b1, 0, none⟩ ∧ c5 = cq1 := by injection hv1 with i1 _ i3; exact ⟨i1, i3⟩
            clear hv1
            obtain ⟨b2, cq2, hv2, _, hbw2, e0, e1, e2, e3, e4, e5⟩ := (HRC.out.below HBV.out).cell (List.getElem?_eq_getElem hlt2)
            have x20 := e0
            have x21 := e1
            have x22 := e2
            have x23 := e3
            have x24 := e4
            have x25 := e5
            clear e0 e1 e2 e3 e4 e5
            obtain ⟨rfl, rfl⟩ : A3 = some ⟨b2, 0, none⟩ ∧ c3 = cq2 := by injection hv2 with i1 _ i3; exact ⟨i1, i3⟩
            clear hv2
            generalize X[k] = y at x00 x01 x02 x03 x04 x05 x10 x11 x12 x13 x14 x15 x20 x21 x22 x23 x24 x25
            obtain ⟨ya, yb, yw, yu, yx, yk⟩ := y
            simp only at x00 x01 x02 x03 x04 x05 x10 x11 x12 x13 x14 x15 x20 x21 x22 x23 x24 x25
            go_upto_region 18 with fail
            go_quiet (fail)
            go_wp2_with fail
            go_roundw
            case rel => exact ⟨k + 1, by go_num, by omega, Lib.hid (below_drewN HBV.out _)⟩
            case measure => simp [intOf]; omega
          · have f0 : decide (k < n) = false := decide_eq_false hlt
            go_wp2_with fail
            obtain ⟨cn, hcn⟩ : ∃ cn, cn = a1_2 - a1_1 := ⟨_, rfl⟩
            have s1 : IntKind.i64.wrap (a1_2 - a1_1) = cn := by rw [hcn]; exact HSUB.out
            have s2 : wrap64 (a1_2 - a1_1) = cn := by rw [← IntWalk.i64_left]; exact s1
            obtain ⟨V2, hV2⟩ : ∃ W, W = wr := ⟨_, rfl⟩
            subst hV2
            have hcnt : ∀ W, Below V2.heap.size V2 W → Calls Try.prog 16 #[.slice A6 M.length c6, .agg #[.int .i64 a1_1, .int .i64 a1_2]] W fun e w' => e = .returned (.int .i64 cn) ∧ Below W.heap.size W w' := fun W hW => by
              have := count_any ((HR6.out.below (b_then HB7.out HBV.out)).below hW) (by have := goodB_len HGM.out; omega) (goodB_sml HGM.out) a1_1 a1_2 HSML.out.1 HSML.out.2
              rw [HCQ.out, ← hcn] at this
              exact this
            obtain ⟨mm, hmm⟩ : ∃ mm, mm = M.length := ⟨_, rfl⟩
            rw [← hmm] at hcnt ⊢
            have HCNT := Lib.hid hcnt
            have hg9 := heap_below HBV.out HG7.out
            have s_0 : V2.cell? ⟨g, 0, none⟩ = some (.int .i64 1) := by have := cell_heap hg9 0; simpa using this
            have s_1 : V2.cell? ⟨g, 1, none⟩ = some (.int .i64 a1_1) := by have := cell_heap hg9 1; simpa using this
            have s_2 : V2.cell? ⟨g, 2, none⟩ = some (.int .i64 a1_2) := by have := cell_heap hg9 2; simpa using this
            have s_3 : V2.cell? ⟨g, 3, none⟩ = some (.bool a1_3) := by have := cell_heap hg9 3; simpa using this
            have s_4 : V2.cell? ⟨g, 4, none⟩ = some (.bool a1_4) := by have := cell_heap hg9 4; simpa using this
            have s_5 : V2.cell? ⟨g, 5, none⟩ = some (.bool a1_5) := by have := cell_heap hg9 5; simpa using this
            have s_6 : V2.cell? ⟨g, 6, none⟩ = some (.int .i64 a1_6) := by have := cell_heap hg9 6; simpa using this
            have hgw9 : g < V2.heap.size := heap_lt hg9
            have HB9 := Lib.hid (b_then HB8.out HBV.out)
            clear hcn hcnt hmm hg9
            go_upto_region 21 with fail
            have hab := @Abv.cell V2
            refine wp_region_abv (by kernel_rfl) (by kernel_rfl) ?_
            repeat (first | go_big_quiet_skip | (go_big_quiet_want; go_big_quiet_op; first | go_big_quiet_on | go_big_quiet_call ((first | (go_at_call 12; refine abv_call (awake_any _)) | (go_at_call 16; refine abv_call (HCNT.out _ (Abv.ok _)))))))
            refine wpQuiet_nil ?_
            rintro W9 ⟨⟨_, hB9⟩, rfl⟩
            go_wp2_with fail
            go_returns
            exact ⟨rfl, b_then HB9.out hB9⟩
end Go.Proofs.Ytoodjhomekeekaa
