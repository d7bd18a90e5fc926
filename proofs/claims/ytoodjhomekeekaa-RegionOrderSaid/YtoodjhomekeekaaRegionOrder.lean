/- RegionOrder: in whatever order pages are added the same list comes of it. No condition. Printed by gen/rgorder.py. -/
import Derived.Test.YtoodjhomekeekaaRgX
import Derived.Deep.RegionHeld3
import Derived.Deep.DeepCutAuto
import Derived.Deep.WholeRow
import Derived.Laws.Rows
import Derived.Laws.Tables
namespace Go.Proofs.Ytoodjhomekeekaa
open Go.ChangeShapes Go.WideShapes Go.ChangeAt Go.RowKit
set_option linter.unusedVariables false
set_option linter.unusedSimpArgs false
set_option maxHeartbeats 16000000 in
theorem walk_RegionOrder (A0 : Option Addr) (len0 cap0 : Nat) (a1_0 : Int) (a1_1 : Int) (a1_2 : Int) (a1_3 : Bool) (a1_4 : Bool) (a1_5 : Bool) (a1_6 : Int) (a2_0 : Int) (a2_1 : Int) (a2_2 : Int) (a2_3 : Bool) (a2_4 : Bool) (a2_5 : Bool) (a2_6 : Int) (w : World) (r0 : Rows_ w [.i .i64, .i .i64, .i .i64, .b, .b, .b, .i .i64] A0 len0) (w1_0 : (Lit.int .i64 a1_0).wf = true) (w1_1 : (Lit.int .i64 a1_1).wf = true) (w1_2 : (Lit.int .i64 a1_2).wf = true) (w1_6 : (Lit.int .i64 a1_6).wf = true) (w2_0 : (Lit.int .i64 a2_0).wf = true) (w2_1 : (Lit.int .i64 a2_1).wf = true) (w2_2 : (Lit.int .i64 a2_2).wf = true) (w2_6 : (Lit.int .i64 a2_6).wf = true) :
    Calls Try.prog 6 #[.slice A0 len0 cap0, .agg #[.int .i64 a1_0, .int .i64 a1_1, .int .i64 a1_2, .bool a1_3, .bool a1_4, .bool a1_5, .int .i64 a1_6], .agg #[.int .i64 a2_0, .int .i64 a2_1, .int .i64 a2_2, .bool a2_3, .bool a2_4, .bool a2_5, .int .i64 a2_6]] w fun e w' => e = .returned (.bool true) ∧ Below w.heap.size w w' := by
  have R0 := Lib.hid r0
  have hl63 := r0.1
  clear r0 w1_0 w1_1 w1_2 w1_6 w2_0 w2_1 w2_2 w2_6
  obtain ⟨ga, hg⟩ : ∃ g, g = w.heap.size := ⟨_, rfl⟩
  obtain ⟨gb, hg2⟩ : ∃ g, g = w.heap.size + 1 := ⟨_, rfl⟩
  obtain ⟨w0, hw0⟩ : ∃ W, W = w.alloc (.cells #[.int .i64 a1_0, .int .i64 a1_1, .int .i64 a1_2, .bool a1_3, .bool a1_4, .bool a1_5, .int .i64 a1_6] 57) := ⟨_, rfl⟩
  obtain ⟨W0, hW0⟩ : ∃ W, W = w0.alloc (.cells #[.int .i64 a2_0, .int .i64 a2_1, .int .i64 a2_2, .bool a2_3, .bool a2_4, .bool a2_5, .int .i64 a2_6] 57) := ⟨_, rfl⟩
  have hB0 : Below w.heap.size w W0 := by rw [hW0, hw0]; exact ((Below.refl _ _).alloc (Nat.le_refl _) _).alloc (by rw [World.size_alloc]; omega) _
  have hh0 : W0.heap[ga]? = some (.cells #[.int .i64 a1_0, .int .i64 a1_1, .int .i64 a1_2, .bool a1_3, .bool a1_4, .bool a1_5, .int .i64 a1_6] 57 (0, 0)) := by rw [hW0, hw0, hg]; exact heap_old _ _ _ (heap_new _ _)
  have hh1 : W0.heap[gb]? = some (.cells #[.int .i64 a2_0, .int .i64 a2_1, .int .i64 a2_2, .bool a2_3, .bool a2_4, .bool a2_5, .int .i64 a2_6] 57 (0, 0)) := by rw [hW0, hw0, hg2]; exact heap_two _ _ _
  have HGA := Lib.hid hh0
  have HGB := Lib.hid hh1
  have HB0 := Lib.hid hB0
  have HGW : Hid (w.heap.size ≤ ga ∧ w.heap.size ≤ gb) := Lib.hid (by omega)
  have HNE : Hid (ga ≠ gb) := Lib.hid (by omega)
  have HGL : Hid (ga < W0.heap.size ∧ gb < W0.heap.size) := Lib.hid ⟨heap_lt hh0, heap_lt hh1⟩
  go_enter Try.func6, Try.ntmps6
  go_upto_region 1 with fail
  rw [← hw0, ← hW0, ← hg2, ← hg]
  have HWW := Lib.hid hw0
  have HWX := Lib.hid hW0
  clear hw0 hW0 hg hg2 hB0 hh0 hh1
  go_wp2_with fail
  have HBI := Lib.hid (Below.refl W0.heap.size W0)
  go_loopw [7, 8] (fun xl x wr => ∃ (k : Nat) (L : List RG) (A3 : Option Addr) (c3 : Nat), x = .int .i64 k ∧ xl = .slice A3 L.length c3 ∧ k ≤ len0 ∧ k ≤ 20 ∧ Hid (Below W0.heap.size W0 wr) ∧ Hid (rgL wr W0.heap.size (.slice A3 L.length c3) L) ∧ Hid (goodB L = true)) (fun _ x _ => len0 - (intOf x).toNat)
  case atStart => exact ⟨0, [], none, 0, rfl, rfl, by omega, by omega, HBI, Lib.hid (rgL.nil _ _), Lib.hid (by kernel_rfl)⟩
  case round =>
    clear HBI
    obtain ⟨k, L, A3, c3, rfl, rfl, hle, hN, HBW, HO, HG⟩ := hrel
    by_cases hlt : k < len0 ∧ k < 20
    · have f0 : decide (k < len0) = true := decide_eq_true hlt.1
      have f1 : decide ((k : Int) < 20) = true := decide_eq_true (by omega)
      have f3 : (k : Int) < (len0 : Int) := by omega
      have f4 : k < len0 := hlt.1
      have HL := Lib.hid hlt
      obtain ⟨b, off, rfl, hbw, how, d, e0, e1, e2, e3, e4, e5, e6⟩ := act_row7 R0.out hlt.1
      obtain ⟨hc1, hf1⟩ := bcell (b_then HB0.out HBW.out)
      have c0_ := (hc1 b _ hbw).trans e0
      have c1_ := (hc1 b _ hbw).trans e1
      have c2_ := (hc1 b _ hbw).trans e2
      have c3_ := (hc1 b _ hbw).trans e3
      have c4_ := (hc1 b _ hbw).trans e4
      have c5_ := (hc1 b _ hbw).trans e5
      have c6_ := (hc1 b _ hbw).trans e6
      have hbw3 : b < wr.heap.size := by have := (b_then HB0.out HBW.out).size; omega
      obtain ⟨L2, hL2⟩ : ∃ L2, L2 = actO L how d := ⟨_, rfl⟩
      obtain ⟨er, her⟩ : ∃ er, er = actE L how d := ⟨_, rfl⟩
      have hdo := does_any HO.out HBW.out.size (by have := goodB_len HG.out; omega) how d
      rw [← hL2, ← her] at hdo
      have HG2 : Hid (goodB L2 = true) := Lib.hid (by rw [hL2]; exact act_good HG.out how d)
      obtain ⟨ya, yb, yw, yu, yx, yk⟩ := d
      simp only at c0_ c1_ c2_ c3_ c4_ c5_ c6_ hdo
      have HDO := Lib.hid hdo
      clear hc1 hf1 e0 e1 e2 e3 e4 e5 e6 hdo her hL2 hlt
      go_wp2_with fail
      refine HDO.out.mono ?_
      rintro e w1 ⟨A4, cp4, rfl, hr1, hb1⟩
      have HR1 := Lib.hid hr1
      have HB1 := Lib.hid (b_then HBW.out hb1)
      clear hr1 hb1 c0_ c1_ c2_ c3_ c4_ c5_ c6_
      go_wp2_with fail
      go_roundw
      case rel => exact ⟨k + 1, L2, A4, cp4, by go_num, rfl, by omega, by have := HL.out; omega, HB1, HR1, HG2⟩
      case measure => simp [intOf]; omega
    · have hc : (decide (k < len0) = true ∧ decide ((k : Int) < 20) = false) ∨ decide (k < len0) = false := by
        by_cases h1 : k < len0
        · exact .inl ⟨decide_eq_true h1, decide_eq_false (by omega)⟩
        · exact .inr (decide_eq_false h1)
      clear hlt hle hN
      obtain ⟨n, hn⟩ : ∃ n, n = L.length := ⟨_, rfl⟩
      have hn64 : n ≤ 64 := by rw [hn]; exact goodB_len HG.out
      rw [← hn] at HO ⊢
      have HN := Lib.hid hn
      clear hn
      rcases hc with ⟨f0, f1⟩ | f0
      all_goals
        have hg5 := heap_below HBW.out HGA.out
        have hg6 := heap_below HBW.out HGB.out
        have f0_ : wr.frozen? ⟨ga, 0, none⟩ = false := by simp [World.frozen?, hg5]
        have q0_ : wr.cell? ⟨ga, 0, none⟩ = some (.int .i64 a1_0) := by have := cell_heap hg5 0; simpa using this
        have f1_ : wr.frozen? ⟨gb, 0, none⟩ = false := by simp [World.frozen?, hg6]
        have q1_ : wr.cell? ⟨gb, 0, none⟩ = some (.int .i64 a2_0) := by have := cell_heap hg6 0; simpa using this
        have hga5 : ga < wr.heap.size := heap_lt hg5
        have hgb5 : gb < wr.heap.size := heap_lt hg6
        have hne : ¬ ga = gb := HNE.out
        have hne2 : ¬ gb = ga := fun e => HNE.out e.symm
        have HG5 := Lib.hid hg5
        have HG6 := Lib.hid hg6
        clear hg5 hg6
        go_upto_region 9 with fail
        try simp only [putNone]
        obtain ⟨W6, hW6⟩ : ∃ W, W = (wr.setCell ⟨ga, 0, none⟩ (.int .i64 1)).setCell ⟨gb, 0, none⟩ (.int .i64 1) := ⟨_, rfl⟩
        rw [← hW6]
        have HGa_1 : Hid (W6.heap[ga]? = some (.cells #[.int .i64 1, .int .i64 a1_1, .int .i64 a1_2, .bool a1_3, .bool a1_4, .bool a1_5, .int .i64 a1_6] 57 (0, 0))) := Lib.hid (by
          rw [hW6]
          have h1 := heap_set HG5.out 0 (.int .i64 1)
          have h2 := heap_far h1 (a := ⟨gb, 0, none⟩) HNE.out (.int .i64 1)
          simpa using h2)
        have HGb_1 : Hid (W6.heap[gb]? = some (.cells #[.int .i64 1, .int .i64 a2_1, .int .i64 a2_2, .bool a2_3, .bool a2_4, .bool a2_5, .int .i64 a2_6] 57 (0, 0))) := Lib.hid (by
          rw [hW6]
          have h1 := heap_far HG6.out (a := ⟨ga, 0, none⟩) (fun e => HNE.out e.symm) (.int .i64 1)
          have h2 := heap_set h1 0 (.int .i64 1)
          simpa using h2)
        have HR0 := Lib.hid (show rgL W6 W0.heap.size (.slice A3 n c3) L by rw [hW6]; exact (HO.out.far HGL.out.1 0 _).far HGL.out.2 0 _)
        have HBW0 : Hid (W0.heap.size ≤ W6.heap.size) := Lib.hid (by have := HBW.out.size; rw [hW6, World.size_setCell, World.size_setCell]; exact this)
        have HB00 : Hid (Below w.heap.size w W6) := Lib.hid (by rw [hW6]; have := b_then HB0.out HBW.out; have := HGW.out; go_grown)
        have HBA : Hid (Below W6.heap.size W6 W6) := Lib.hid (Below.refl _ _)
        clear hW6 f0_ q0_ f1_ q1_ hga5 hgb5 hne hne2 HG5 HG6 HB0
        have HB0 := HB00
        have HSZ : Hid (Below W6.heap.size W6 W6 ∧ W0.heap.size ≤ W6.heap.size) := Lib.hid ⟨Below.refl _ _, HBW0.out⟩
        clear HBW
        have HBW1 := HBA
        have hg_1 := HGa_1.out
        have p0 : W6.cell? ⟨ga, 0, none⟩ = some (.int .i64 1) := by have := cell_heap hg_1 0; simpa using this
        have p1 : W6.cell? ⟨ga, 1, none⟩ = some (.int .i64 a1_1) := by have := cell_heap hg_1 1; simpa using this
        have p2 : W6.cell? ⟨ga, 2, none⟩ = some (.int .i64 a1_2) := by have := cell_heap hg_1 2; simpa using this
        have p3 : W6.cell? ⟨ga, 3, none⟩ = some (.bool a1_3) := by have := cell_heap hg_1 3; simpa using this
        have p4 : W6.cell? ⟨ga, 4, none⟩ = some (.bool a1_4) := by have := cell_heap hg_1 4; simpa using this
        have p5 : W6.cell? ⟨ga, 5, none⟩ = some (.bool a1_5) := by have := cell_heap hg_1 5; simpa using this
        have p6 : W6.cell? ⟨ga, 6, none⟩ = some (.int .i64 a1_6) := by have := cell_heap hg_1 6; simpa using this
        have hgw_1 : ga < W6.heap.size := heap_lt hg_1
        obtain ⟨er1, her⟩ : ∃ er, er = addE L (⟨a1_1, a1_2, a1_3, a1_4, a1_5, a1_6⟩ : RG) := ⟨_, rfl⟩
        obtain ⟨M1, hM⟩ : ∃ M, M = actO L 1 (⟨a1_1, a1_2, a1_3, a1_4, a1_5, a1_6⟩ : RG) := ⟨_, rfl⟩
        have hGM : goodB M1 = true := by rw [hM]; exact act_good HG.out 1 _
        have hdo := does_any HR0.out (by have := HBW1.out.size; have := HBW0.out; omega) (by have := goodB_len HG.out; omega) 1 (⟨a1_1, a1_2, a1_3, a1_4, a1_5, a1_6⟩ : RG)
        rw [act_1, ← her, ← hM] at hdo
        simp only at hdo
        have HER1 := Lib.hid her
        have HM1 := Lib.hid hM
        have HDO := Lib.hid hdo
        have HGM1 := Lib.hid hGM
        clear her hM hdo hg_1 hGM
        go_wp2_with fail
        refine HDO.out.mono ?_
        rintro e w7 ⟨B1, k1, rfl, hr6, hb6⟩
        have HR1 := Lib.hid hr6
        have HB_1 := Lib.hid hb6
        have HBW2 := Lib.hid (b_then HBW1.out hb6)
        have HGa_2 := Lib.hid (heap_below hb6 HGa_1.out)
        have HGb_2 := Lib.hid (heap_below hb6 HGb_1.out)
        clear hr6 hb6 HDO p0 p1 p2 p3 p4 p5 p6
        have HR0b := Lib.hid (HR0.out.below HB_1.out)
        have hg_2 := HGb_2.out
        have p0 : w7.cell? ⟨gb, 0, none⟩ = some (.int .i64 1) := by have := cell_heap hg_2 0; simpa using this
        have p1 : w7.cell? ⟨gb, 1, none⟩ = some (.int .i64 a2_1) := by have := cell_heap hg_2 1; simpa using this
        have p2 : w7.cell? ⟨gb, 2, none⟩ = some (.int .i64 a2_2) := by have := cell_heap hg_2 2; simpa using this
        have p3 : w7.cell? ⟨gb, 3, none⟩ = some (.bool a2_3) := by have := cell_heap hg_2 3; simpa using this
        have p4 : w7.cell? ⟨gb, 4, none⟩ = some (.bool a2_4) := by have := cell_heap hg_2 4; simpa using this
        have p5 : w7.cell? ⟨gb, 5, none⟩ = some (.bool a2_5) := by have := cell_heap hg_2 5; simpa using this
        have p6 : w7.cell? ⟨gb, 6, none⟩ = some (.int .i64 a2_6) := by have := cell_heap hg_2 6; simpa using this
        have hgw_2 : gb < w7.heap.size := heap_lt hg_2
        obtain ⟨er2, her⟩ : ∃ er, er = addE M1 (⟨a2_1, a2_2, a2_3, a2_4, a2_5, a2_6⟩ : RG) := ⟨_, rfl⟩
        obtain ⟨M2, hM⟩ : ∃ M, M = actO M1 1 (⟨a2_1, a2_2, a2_3, a2_4, a2_5, a2_6⟩ : RG) := ⟨_, rfl⟩
        have hGM : goodB M2 = true := by rw [hM]; exact act_good HGM1.out 1 _
        have hdo := does_any HR1.out (by have := HBW2.out.size; have := HBW0.out; omega) (by have := goodB_len HGM1.out; omega) 1 (⟨a2_1, a2_2, a2_3, a2_4, a2_5, a2_6⟩ : RG)
        rw [act_1, ← her, ← hM] at hdo
        simp only at hdo
        have HER2 := Lib.hid her
        have HM2 := Lib.hid hM
        have HDO := Lib.hid hdo
        have HGM2 := Lib.hid hGM
        clear her hM hdo hg_2 hGM
        go_wp2_with fail
        refine HDO.out.mono ?_
        rintro e w8 ⟨B2, k2, rfl, hr6, hb6⟩
        have HR2 := Lib.hid hr6
        have HB_2 := Lib.hid hb6
        have HBW3 := Lib.hid (b_then HBW2.out hb6)
        have HGa_3 := Lib.hid (heap_below hb6 HGa_2.out)
        have HGb_3 := Lib.hid (heap_below hb6 HGb_2.out)
        clear hr6 hb6 HDO p0 p1 p2 p3 p4 p5 p6
        have HR0c := Lib.hid (HR0b.out.below HB_2.out)
        have hg_3 := HGb_3.out
        have p0 : w8.cell? ⟨gb, 0, none⟩ = some (.int .i64 1) := by have := cell_heap hg_3 0; simpa using this
        have p1 : w8.cell? ⟨gb, 1, none⟩ = some (.int .i64 a2_1) := by have := cell_heap hg_3 1; simpa using this
        have p2 : w8.cell? ⟨gb, 2, none⟩ = some (.int .i64 a2_2) := by have := cell_heap hg_3 2; simpa using this
        have p3 : w8.cell? ⟨gb, 3, none⟩ = some (.bool a2_3) := by have := cell_heap hg_3 3; simpa using this
        have p4 : w8.cell? ⟨gb, 4, none⟩ = some (.bool a2_4) := by have := cell_heap hg_3 4; simpa using this
        have p5 : w8.cell? ⟨gb, 5, none⟩ = some (.bool a2_5) := by have := cell_heap hg_3 5; simpa using this
        have p6 : w8.cell? ⟨gb, 6, none⟩ = some (.int .i64 a2_6) := by have := cell_heap hg_3 6; simpa using this
        have hgw_3 : gb < w8.heap.size := heap_lt hg_3
        obtain ⟨er3, her⟩ : ∃ er, er = addE L (⟨a2_1, a2_2, a2_3, a2_4, a2_5, a2_6⟩ : RG) := ⟨_, rfl⟩
        obtain ⟨M3, hM⟩ : ∃ M, M = actO L 1 (⟨a2_1, a2_2, a2_3, a2_4, a2_5, a2_6⟩ : RG) := ⟨_, rfl⟩
        have hGM : goodB M3 = true := by rw [hM]; exact act_good HG.out 1 _
        have hdo := does_any HR0c.out (by have := HBW3.out.size; have := HBW0.out; omega) (by have := goodB_len HG.out; omega) 1 (⟨a2_1, a2_2, a2_3, a2_4, a2_5, a2_6⟩ : RG)
        rw [act_1, ← her, ← hM] at hdo
        simp only at hdo
        have HER3 := Lib.hid her
        have HM3 := Lib.hid hM
        have HDO := Lib.hid hdo
        have HGM3 := Lib.hid hGM
        clear her hM hdo hg_3 hGM
        go_wp2_with fail
        refine HDO.out.mono ?_
        rintro e w9 ⟨B3, k3, rfl, hr6, hb6⟩
        have HR3 := Lib.hid hr6
        have HB_3 := Lib.hid hb6
        have HBW4 := Lib.hid (b_then HBW3.out hb6)
        have HGa_4 := Lib.hid (heap_below hb6 HGa_3.out)
        have HGb_4 := Lib.hid (heap_below hb6 HGb_3.out)
        clear hr6 hb6 HDO p0 p1 p2 p3 p4 p5 p6
        have HR2b := Lib.hid (HR2.out.below HB_3.out)
        have hg_4 := HGa_4.out
        have p0 : w9.cell? ⟨ga, 0, none⟩ = some (.int .i64 1) := by have := cell_heap hg_4 0; simpa using this
        have p1 : w9.cell? ⟨ga, 1, none⟩ = some (.int .i64 a1_1) := by have := cell_heap hg_4 1; simpa using this
        have p2 : w9.cell? ⟨ga, 2, none⟩ = some (.int .i64 a1_2) := by have := cell_heap hg_4 2; simpa using this
        have p3 : w9.cell? ⟨ga, 3, none⟩ = some (.bool a1_3) := by have := cell_heap hg_4 3; simpa using this
        have p4 : w9.cell? ⟨ga, 4, none⟩ = some (.bool a1_4) := by have := cell_heap hg_4 4; simpa using this
        have p5 : w9.cell? ⟨ga, 5, none⟩ = some (.bool a1_5) := by have := cell_heap hg_4 5; simpa using this
        have p6 : w9.cell? ⟨ga, 6, none⟩ = some (.int .i64 a1_6) := by have := cell_heap hg_4 6; simpa using this
        have hgw_4 : ga < w9.heap.size := heap_lt hg_4
        obtain ⟨er4, her⟩ : ∃ er, er = addE M3 (⟨a1_1, a1_2, a1_3, a1_4, a1_5, a1_6⟩ : RG) := ⟨_, rfl⟩
        obtain ⟨M4, hM⟩ : ∃ M, M = actO M3 1 (⟨a1_1, a1_2, a1_3, a1_4, a1_5, a1_6⟩ : RG) := ⟨_, rfl⟩
        have hGM : goodB M4 = true := by rw [hM]; exact act_good HGM3.out 1 _
        have hdo := does_any HR3.out (by have := HBW4.out.size; have := HBW0.out; omega) (by have := goodB_len HGM3.out; omega) 1 (⟨a1_1, a1_2, a1_3, a1_4, a1_5, a1_6⟩ : RG)
        rw [act_1, ← her, ← hM] at hdo
        simp only at hdo
        have HER4 := Lib.hid her
        have HM4 := Lib.hid hM
        have HDO := Lib.hid hdo
        have HGM4 := Lib.hid hGM
        clear her hM hdo hg_4 hGM
        go_wp2_with fail
        refine HDO.out.mono ?_
        rintro e w10 ⟨B4, k4, rfl, hr6, hb6⟩
        have HR4 := Lib.hid hr6
        have HB_4 := Lib.hid hb6
        have HBW5 := Lib.hid (b_then HBW4.out hb6)
        have HGa_5 := Lib.hid (heap_below hb6 HGa_4.out)
        have HGb_5 := Lib.hid (heap_below hb6 HGb_4.out)
        clear hr6 hb6 HDO p0 p1 p2 p3 p4 p5 p6
        have HR2c := Lib.hid (HR2b.out.below HB_4.out)
        rcases Bool.eq_false_or_eq_true (er1 != 0) with t1 | t1
        · go_wp2_with fail
          refine (awake_any _).mono ?_
          rintro e w8 ⟨rfl, hb8⟩
          have HBZ := Lib.hid (b_then HB0.out (b_then HBW5.out hb8))
          clear hb8
          go_wp2_with fail
          go_returns
          exact ⟨rfl, HBZ.out⟩
        rcases Bool.eq_false_or_eq_true (er2 != 0) with t2 | t2
        · go_wp2_with fail
          refine (awake_any _).mono ?_
          rintro e w8 ⟨rfl, hb8⟩
          have HBZ := Lib.hid (b_then HB0.out (b_then HBW5.out hb8))
          clear hb8
          go_wp2_with fail
          go_returns
          exact ⟨rfl, HBZ.out⟩
        rcases Bool.eq_false_or_eq_true (er3 != 0) with t3 | t3
        · go_wp2_with fail
          refine (awake_any _).mono ?_
          rintro e w8 ⟨rfl, hb8⟩
          have HBZ := Lib.hid (b_then HB0.out (b_then HBW5.out hb8))
          clear hb8
          go_wp2_with fail
          go_returns
          exact ⟨rfl, HBZ.out⟩
        rcases Bool.eq_false_or_eq_true (er4 != 0) with t4 | t4
        · go_wp2_with fail
          refine (awake_any _).mono ?_
          rintro e w8 ⟨rfl, hb8⟩
          have HBZ := Lib.hid (b_then HB0.out (b_then HBW5.out hb8))
          clear hb8
          go_wp2_with fail
          go_returns
          exact ⟨rfl, HBZ.out⟩
        have e1 : addE L (⟨a1_1, a1_2, a1_3, a1_4, a1_5, a1_6⟩ : RG) = 0 := by rw [← HER1.out]; simpa using t1
        have m1 : M1 = addR L (⟨a1_1, a1_2, a1_3, a1_4, a1_5, a1_6⟩ : RG) := by rw [HM1.out]; exact actO_1 e1
        have e2 : addE (addR L (⟨a1_1, a1_2, a1_3, a1_4, a1_5, a1_6⟩ : RG)) (⟨a2_1, a2_2, a2_3, a2_4, a2_5, a2_6⟩ : RG) = 0 := by rw [← m1, ← HER2.out]; simpa using t2
        have m2 : M2 = addR (addR L (⟨a1_1, a1_2, a1_3, a1_4, a1_5, a1_6⟩ : RG)) (⟨a2_1, a2_2, a2_3, a2_4, a2_5, a2_6⟩ : RG) := by rw [HM2.out, m1]; exact actO_1 e2
        have e3 : addE L (⟨a2_1, a2_2, a2_3, a2_4, a2_5, a2_6⟩ : RG) = 0 := by rw [← HER3.out]; simpa using t3
        have m3 : M3 = addR L (⟨a2_1, a2_2, a2_3, a2_4, a2_5, a2_6⟩ : RG) := by rw [HM3.out]; exact actO_1 e3
        have e4 : addE (addR L (⟨a2_1, a2_2, a2_3, a2_4, a2_5, a2_6⟩ : RG)) (⟨a1_1, a1_2, a1_3, a1_4, a1_5, a1_6⟩ : RG) = 0 := by rw [← m3, ← HER4.out]; simpa using t4
        have m4 : M4 = addR (addR L (⟨a2_1, a2_2, a2_3, a2_4, a2_5, a2_6⟩ : RG)) (⟨a1_1, a1_2, a1_3, a1_4, a1_5, a1_6⟩ : RG) := by rw [HM4.out, m3]; exact actO_1 e4
        obtain ⟨l1, l2, l3⟩ := order_law HG.out e1 e2 e3 e4
        rw [← m2] at l2 l3
        rw [← m2, ← m4] at l1
        have hln : M2.length ≤ n + 2 := by rw [HN.out]; exact l2
        have HR4b := HR4.out
        rw [← l1] at HR4b ⊢
        have HX4 := Lib.hid HR4b
        have HGX := Lib.hid l3
        clear e1 m1 e2 m2 e3 m3 e4 m4 l1 l2 l3 HR4b
        clear HR4
        obtain ⟨X, hX⟩ : ∃ X, X = M2 := ⟨_, rfl⟩
        have hx64 : M2.length ≤ 64 := goodB_len HGX.out
        obtain ⟨nx, hnx⟩ : ∃ nx, nx = M2.length := ⟨_, rfl⟩
        rw [← hnx] at hln hx64 ⊢
        have HRA : Hid (rgL w10 W0.heap.size (.slice B2 nx k2) X) := Lib.hid (by rw [hX, hnx]; exact HR2c.out)
        have HRB : Hid (rgL w10 W0.heap.size (.slice B4 nx k4) X) := Lib.hid (by rw [hX, hnx]; exact HX4.out)
        have HNX : Hid (nx = X.length) := Lib.hid (by rw [hX]; exact hnx)
        have HGXX : Hid (goodB X = true) := Lib.hid (by rw [hX]; exact HGX.out)
        clear HGX
        have HGX := HGXX
        have g1_ : IntKind.i64.wrap ((n : Int) + 2) = (n : Int) + 2 := by rw [IntKind.wrap_i64]; omega
        have g2_ : decide ((n : Int) + 2 < (nx : Int)) = false := decide_eq_false (by omega)
        clear hX hnx
        obtain ⟨V, hV⟩ : ∃ W, W = w10 := ⟨_, rfl⟩
        subst hV
        go_wp2_with fail
        go_loopw [94] (fun x wr => ∃ (k : Nat), x = .int .i64 k ∧ k ≤ nx ∧ Hid (Below V.heap.size V wr)) (fun x _ => nx - (intOf x).toNat)
        case atStart => exact ⟨0, rfl, by omega, Lib.hid (Below.refl _ _)⟩
        case round =>
          obtain ⟨k, rfl, hle, HBV⟩ := hrel
          by_cases hlt : k < nx
          · have f0 : decide (k < nx) = true := decide_eq_true hlt
            have f3 : (k : Int) < (nx : Int) := by omega
            have hlt2 : k < X.length := by rw [← HNX.out]; exact hlt
            obtain ⟨b0, cq0, hv0, _, hbw0, e0, e1, e2, e3, e4, e5⟩ := (HRA.out.below HBV.out).cell (List.getElem?_eq_getElem hlt2)
            have x00 := e0
            have x01 := e1
            have x02 := e2
            have x03 := e3
            have x04 := e4
            have x05 := e5
            clear e0 e1 e2 e3 e4 e5
            obtain ⟨rfl, rfl⟩ : B2 = some ⟨b0, 0, none⟩ ∧ k2 = cq0 := by injection hv0 with i1 _ i3; exact ⟨i1, i3⟩
            clear hv0
            obtain ⟨b1, cq1, hv1, _, hbw1, e0, e1, e2, e3, e4, e5⟩ := (HRB.out.below HBV.out).cell (List.getElem?_eq_getElem hlt2)
            have x10 := e0
            have x11 := e1
            have x12 := e2
            have x13 := e3
            have x14 := e4
            have x15 := e5
            clear e0 e1 e2 e3 e4 e5
            obtain ⟨rfl, rfl⟩ : B4 = some ⟨b1, 0, none⟩ ∧ k4 = cq1 := by injection hv1 with i1 _ i3; exact ⟨i1, i3⟩
            clear hv1
            generalize X[k] = y at x00 x01 x02 x03 x04 x05 x10 x11 x12 x13 x14 x15
            obtain ⟨ya, yb, yw, yu, yx, yk⟩ := y
            simp only at x00 x01 x02 x03 x04 x05 x10 x11 x12 x13 x14 x15
            go_upto_region 20 with fail
            go_quiet (fail)
            go_wp2_with fail
            go_roundw
            case rel => exact ⟨k + 1, by go_num, by omega, Lib.hid (below_drewN HBV.out _)⟩
            case measure => simp [intOf]; omega
          · have f0 : decide (k < nx) = false := decide_eq_false hlt
            go_wp2_with fail
            obtain ⟨V2, hV2⟩ : ∃ W, W = wr := ⟨_, rfl⟩
            subst hV2
            have hgo : ∀ W, Below V2.heap.size V2 W → Calls Try.prog 13 #[.slice B2 nx k2] W fun e w' => e = .returned (.bool true) ∧ Below W.heap.size W w' := fun W hW => by
              have := good_any ((HRA.out.below HBV.out).below hW) (by have := goodB_len HGX.out; omega)
              rwa [HGX.out] at this
            have HGO := Lib.hid hgo
            clear hgo
            go_wp2_with fail
            refine (awake_any _).mono ?_
            rintro e v1 ⟨rfl, hv1⟩
            have HV1 := Lib.hid hv1
            clear hv1
            go_wp2_with fail
            refine (HGO.out v1 HV1.out).mono ?_
            rintro e v2 ⟨rfl, hv2⟩
            have HV2 := Lib.hid (b_then HV1.out hv2)
            clear hv2
            go_wp2_with fail
            go_returns
            exact ⟨rfl, b_then (b_then HB0.out HBW5.out) (b_then HBV.out HV2.out)⟩
end Go.Proofs.Ytoodjhomekeekaa
