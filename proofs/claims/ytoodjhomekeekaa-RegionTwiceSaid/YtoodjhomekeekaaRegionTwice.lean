/- RegionTwice: pages that are protected twice may be used as was said last. No condition. Printed by gen/rgtwice.py. -/
import Derived.Test.YtoodjhomekeekaaRgX
import Derived.Deep.RegionHeld3
import Derived.Deep.DeepCutAuto
import Derived.Deep.WholeRow
import Derived.Laws.Rows
import Derived.Laws.Tables
namespace Go.Proofs.Ytoodjhomekeekaa
open Go.ChangeShapes Go.WideShapes Go.ChangeAt Go.RowKit
set_option linter.unusedVariables false
set_option linter.unusedSimpArgs false
set_option maxHeartbeats 16000000 in
theorem walk_RegionTwice (A0 : Option Addr) (len0 cap0 : Nat) (a1_0 : Int) (a1_1 : Int) (a1_2 : Int) (a1_3 : Bool) (a1_4 : Bool) (a1_5 : Bool) (a1_6 : Int) (a2_0 : Int) (a2_1 : Int) (a2_2 : Int) (a2_3 : Bool) (a2_4 : Bool) (a2_5 : Bool) (a2_6 : Int) (w : World) (r0 : Rows_ w [.i .i64, .i .i64, .i .i64, .b, .b, .b, .i .i64] A0 len0) (w1_0 : (Lit.int .i64 a1_0).wf = true) (w1_1 : (Lit.int .i64 a1_1).wf = true) (w1_2 : (Lit.int .i64 a1_2).wf = true) (w1_6 : (Lit.int .i64 a1_6).wf = true) (w2_0 : (Lit.int .i64 a2_0).wf = true) (w2_1 : (Lit.int .i64 a2_1).wf = true) (w2_2 : (Lit.int .i64 a2_2).wf = true) (w2_6 : (Lit.int .i64 a2_6).wf = true) :
    Calls Try.prog 7 #[.slice A0 len0 cap0, .agg #[.int .i64 a1_0, .int .i64 a1_1, .int .i64 a1_2, .bool a1_3, .bool a1_4, .bool a1_5, .int .i64 a1_6], .agg #[.int .i64 a2_0, .int .i64 a2_1, .int .i64 a2_2, .bool a2_3, .bool a2_4, .bool a2_5, .int .i64 a2_6]] w fun e w' => e = .returned (.bool true) ∧ Below w.heap.size w w' := by
  have R0 := Lib.hid r0
  have hl63 := r0.1
  clear r0 w1_0 w1_1 w1_2 w1_6 w2_0 w2_1 w2_2 w2_6
  obtain ⟨ga, hg⟩ : ∃ g, g = w.heap.size := ⟨_, rfl⟩
  obtain ⟨gb, hg2⟩ : ∃ g, g = w.heap.size + 1 := ⟨_, rfl⟩
  obtain ⟨w0, hw0⟩ : ∃ W, W = w.alloc (.cells #[.int .i64 a1_0, .int .i64 a1_1, .int .i64 a1_2, .bool a1_3, .bool a1_4, .bool a1_5, .int .i64 a1_6] 57) := ⟨_, rfl⟩
  obtain ⟨W0, hW0⟩ : ∃ W, W = w0.alloc (.cells #[.int .i64 a2_0, .int .i64 a2_1, .int .i64 a2_2, .bool a2_3, .bool a2_4, .bool a2_5, .int .i64 a2_6] 57) := ⟨_, rfl⟩
  have hB0 : Below w.heap.size w W0 := by rw [hW0, hw0]; exact ((Below.refl _ _).alloc (Nat.le_refl _) _).alloc (by rw [World.size_alloc]; omega) _
  have hh0 : W0.heap[ga]? = some (.cells #[.int .i64 a1_0, .int .i64 a1_1, .int .i64 a1_2, .bool a1_3, .bool a1_4, .bool a1_5, .int .i64 a1_6] 57 (0, 0)) := by rw [hW0, hw0, hg]; exact heap_old _ _ _ (heap_new _ _)
  have hh1 : W0.heap[gb]? = some (.cells #[.int .i64 a2_0, .int .i64 a2_1, .int .i64 a2_2, .bool a2_3, .bool a2_4, .bool a2_5, .int .i64 a2_6] 57 (0, 0)) := by rw [hW0, hw0, hg2]; exact heap_two _ _ _
  have HGA := Lib.hid hh0
  have HGB := Lib.hid hh1
  have HB0 := Lib.hid hB0
  go_enter Try.func7, Try.ntmps7
  go_upto_region 1 with fail
  rw [← hw0, ← hW0, ← hg2, ← hg]
  have HWW := Lib.hid hw0
  have HWX := Lib.hid hW0
  clear hw0 hW0 hg hg2 hB0 hh0 hh1
  go_wp2_with fail
  have HBI := Lib.hid (Below.refl W0.heap.size W0)
  go_loopw [7, 8] (fun xl x wr => ∃ (k : Nat) (L : List RG) (A3 : Option Addr) (c3 : Nat), x = .int .i64 k ∧ xl = .slice A3 L.length c3 ∧ k ≤ len0 ∧ k ≤ 30 ∧ Hid (Below W0.heap.size W0 wr) ∧ Hid (rgL wr W0.heap.size (.slice A3 L.length c3) L) ∧ Hid (goodB L = true)) (fun _ x _ => len0 - (intOf x).toNat)
  case atStart => exact ⟨0, [], none, 0, rfl, rfl, by omega, by omega, HBI, Lib.hid (rgL.nil _ _), Lib.hid (by kernel_rfl)⟩
  case round =>
    clear HBI
    obtain ⟨k, L, A3, c3, rfl, rfl, hle, hN, HBW, HO, HG⟩ := hrel
    by_cases hlt : k < len0 ∧ k < 30
    · have f0 : decide (k < len0) = true := decide_eq_true hlt.1
      have f1 : decide ((k : Int) < 30) = true := decide_eq_true (by omega)
      have f3 : (k : Int) < (len0 : Int) := by omega
      have f4 : k < len0 := hlt.1
      have HL := Lib.hid hlt
      obtain ⟨b, off, rfl, hbw, how, d, e0, e1, e2, e3, e4, e5, e6⟩ := act_row7 R0.out hlt.1
      obtain ⟨hc1, hf1⟩ := bcell (b_then HB0.out HBW.out)
      have c0_ := (hc1 b _ hbw).trans e0
      have c1_ := (hc1 b _ hbw).trans e1
      have c2_ := (hc1 b _ hbw).trans e2
      have c3_ := (hc1 b _ hbw).trans e3
      have c4_ := (hc1 b _ hbw).trans e4
      have c5_ := (hc1 b _ hbw).trans e5
      have c6_ := (hc1 b _ hbw).trans e6
      have hbw3 : b < wr.heap.size := by have := (b_then HB0.out HBW.out).size; omega
      obtain ⟨L2, hL2⟩ : ∃ L2, L2 = actO L how d := ⟨_, rfl⟩
      obtain ⟨er, her⟩ : ∃ er, er = actE L how d := ⟨_, rfl⟩
      have hdo := does_any HO.out HBW.out.size (by have := goodB_len HG.out; omega) how d
      rw [← hL2, ← her] at hdo
      have HG2 : Hid (goodB L2 = true) := Lib.hid (by rw [hL2]; exact act_good HG.out how d)
      obtain ⟨ya, yb, yw, yu, yx, yk⟩ := d
      simp only at c0_ c1_ c2_ c3_ c4_ c5_ c6_ hdo
      have HDO := Lib.hid hdo
      clear hc1 hf1 e0 e1 e2 e3 e4 e5 e6 hdo her hL2 hlt
      go_wp2_with fail
      refine HDO.out.mono ?_
      rintro e w1 ⟨A4, cp4, rfl, hr1, hb1⟩
      have HR1 := Lib.hid hr1
      have HB1 := Lib.hid (b_then HBW.out hb1)
      clear hr1 hb1 c0_ c1_ c2_ c3_ c4_ c5_ c6_
      go_wp2_with fail
      go_roundw
      case rel => exact ⟨k + 1, L2, A4, cp4, by go_num, rfl, by omega, by have := HL.out; omega, HB1, HR1, HG2⟩
      case measure => simp [intOf]; omega
    · have hc : (decide (k < len0) = true ∧ decide ((k : Int) < 30) = false) ∨ decide (k < len0) = false := by
        by_cases h1 : k < len0
        · exact .inl ⟨decide_eq_true h1, decide_eq_false (by omega)⟩
        · exact .inr (decide_eq_false h1)
      clear hlt hle hN
      obtain ⟨n, hn⟩ : ∃ n, n = L.length := ⟨_, rfl⟩
      have hn64 : n ≤ 64 := by rw [hn]; exact goodB_len HG.out
      rw [← hn] at HO ⊢
      have HN := Lib.hid hn
      clear hn
      rcases hc with ⟨f0, f1⟩ | f0
      all_goals
        have ha5 := heap_below HBW.out HGA.out
        have ga0 : wr.cell? ⟨ga, 1, none⟩ = some (.int .i64 a1_1) := by have := cell_heap ha5 1; simpa using this
        have ga1 : wr.cell? ⟨ga, 2, none⟩ = some (.int .i64 a1_2) := by have := cell_heap ha5 2; simpa using this
        have ga2 : ga < wr.heap.size := heap_lt ha5
        have gla : ga < wr.heap.size := ga2
        clear ha5
        go_upto_region 8 with fail
        obtain ⟨gp, hgp⟩ : ∃ g, g = wr.heap.size := ⟨_, rfl⟩
        obtain ⟨W6, hW6⟩ : ∃ W, W = wr.alloc (.cells #[.int .i64 a1_1, .int .i64 a1_2] 27) := ⟨_, rfl⟩
        have hp := heap_new wr (.cells #[.int .i64 a1_1, .int .i64 a1_2] 27)
        have hb1 : Below wr.heap.size wr W6 := by rw [hW6]; exact (Below.refl _ _).alloc (Nat.le_refl _) _
        rw [← hW6, ← hgp] at hp ⊢
        have HGp_1 := Lib.hid hp
        have HGa_1 := Lib.hid (heap_below (b_then HBW.out hb1) HGA.out)
        have HGb_1 := Lib.hid (heap_below (b_then HBW.out hb1) HGB.out)
        have HBW1 := Lib.hid (b_then HBW.out hb1)
        have HR0 := Lib.hid (HO.out.below hb1)
        clear hp hb1 hW6 hgp ga0 ga1 ga2 gla
        have ha_ := HGa_1.out
        have hb_ := HGb_1.out
        have hp_ := HGp_1.out
        have p3 : W6.cell? ⟨ga, 3, none⟩ = some (.bool a1_3) := by have := cell_heap ha_ 3; simpa using this
        have p4 : W6.cell? ⟨ga, 4, none⟩ = some (.bool a1_4) := by have := cell_heap ha_ 4; simpa using this
        have p5 : W6.cell? ⟨ga, 5, none⟩ = some (.bool a1_5) := by have := cell_heap ha_ 5; simpa using this
        have q3 : W6.cell? ⟨gb, 3, none⟩ = some (.bool a2_3) := by have := cell_heap hb_ 3; simpa using this
        have q4 : W6.cell? ⟨gb, 4, none⟩ = some (.bool a2_4) := by have := cell_heap hb_ 4; simpa using this
        have q5 : W6.cell? ⟨gb, 5, none⟩ = some (.bool a2_5) := by have := cell_heap hb_ 5; simpa using this
        have t0 : W6.cell? ⟨gp, 0, none⟩ = some (.int .i64 a1_1) := by have := cell_heap hp_ 0; simpa using this
        have t1_ : W6.cell? ⟨gp, 1, none⟩ = some (.int .i64 a1_2) := by have := cell_heap hp_ 1; simpa using this
        have l0 : ga < W6.heap.size := heap_lt ha_
        have l1_ : gb < W6.heap.size := heap_lt hb_
        have l2_ : gp < W6.heap.size := heap_lt hp_
        clear ha_ hb_ hp_
        obtain ⟨er1, her⟩ : ∃ er, er = proE L a1_1 a1_2 a1_3 a1_4 a1_5 := ⟨_, rfl⟩
        obtain ⟨M1, hM⟩ : ∃ M, M = proO L a1_1 a1_2 a1_3 a1_4 a1_5 := ⟨_, rfl⟩
        have hdo := protect_any HR0.out (by have := goodB_len HG.out; omega) a1_1 a1_2 a1_3 a1_4 a1_5
        rw [← her, ← hM] at hdo
        have HER1 := Lib.hid her
        have HM1 := Lib.hid hM
        have HDO := Lib.hid hdo
        clear her hM hdo
        go_wp2_with fail
        refine HDO.out.mono ?_
        rintro e w7 ⟨B1, k1, rfl, hr6, hb6⟩
        have HR1 := Lib.hid (rgL.mono hr6 (Nat.zero_le _))
        have HB_1 := Lib.hid hb6
        have HBW2 := Lib.hid (b_then HBW1.out hb6)
        have HGa_2 := Lib.hid (heap_below hb6 HGa_1.out)
        have HGb_2 := Lib.hid (heap_below hb6 HGb_1.out)
        have HGp_2 := Lib.hid (heap_below hb6 HGp_1.out)
        clear hr6 hb6 HDO
        clear p3 p4 p5 q3 q4 q5 t0 t1_
        rcases Bool.eq_false_or_eq_true (er1 != 0) with t1 | t1
        · have hM1 : M1 = [] := by rw [HM1.out]; exact proO_bad (by rw [← HER1.out]; simpa using t1)
          rw [hM1]
          go_wp2_with fail
          refine (awake_any _).mono ?_
          rintro e w8 ⟨rfl, hb8⟩
          have HBZ := Lib.hid (b_then HB0.out (b_then HBW2.out hb8))
          clear hb8
          simp only [List.length_nil]
          go_wp2_with fail
          go_returns
          exact ⟨rfl, HBZ.out⟩
        have e1 : proE L a1_1 a1_2 a1_3 a1_4 a1_5 = 0 := by rw [← HER1.out]; simpa using t1
        obtain ⟨l1, l2, l3, l4⟩ := twice_law (bw := a2_3) (bu := a2_4) (bx := a2_5) e1
        rw [← HM1.out] at l1 l2
        have hm64 : M1.length ≤ 64 := by
          obtain ⟨_, _, _, z4, z5⟩ := proE_zero e1
          rw [HM1.out, z5]; omega
        have HL1 := Lib.hid l1
        have HL2 := Lib.hid l2
        have HL3 := Lib.hid l3
        have HL4 := Lib.hid l4
        clear e1 l1 l2 l3 l4
        obtain ⟨m1, hm1⟩ : ∃ m, m = M1.length := ⟨_, rfl⟩
        rw [← hm1] at hm64 HR1 ⊢
        have HM1N := Lib.hid hm1
        clear hm1
        have HR0b := Lib.hid (HR0.out.below HB_1.out)
        have ha_ := HGa_2.out
        have hb_ := HGb_2.out
        have hp_ := HGp_2.out
        have p3 : w7.cell? ⟨ga, 3, none⟩ = some (.bool a1_3) := by have := cell_heap ha_ 3; simpa using this
        have p4 : w7.cell? ⟨ga, 4, none⟩ = some (.bool a1_4) := by have := cell_heap ha_ 4; simpa using this
        have p5 : w7.cell? ⟨ga, 5, none⟩ = some (.bool a1_5) := by have := cell_heap ha_ 5; simpa using this
        have q3 : w7.cell? ⟨gb, 3, none⟩ = some (.bool a2_3) := by have := cell_heap hb_ 3; simpa using this
        have q4 : w7.cell? ⟨gb, 4, none⟩ = some (.bool a2_4) := by have := cell_heap hb_ 4; simpa using this
        have q5 : w7.cell? ⟨gb, 5, none⟩ = some (.bool a2_5) := by have := cell_heap hb_ 5; simpa using this
        have t0 : w7.cell? ⟨gp, 0, none⟩ = some (.int .i64 a1_1) := by have := cell_heap hp_ 0; simpa using this
        have t1_ : w7.cell? ⟨gp, 1, none⟩ = some (.int .i64 a1_2) := by have := cell_heap hp_ 1; simpa using this
        have l0 : ga < w7.heap.size := heap_lt ha_
        have l1_ : gb < w7.heap.size := heap_lt hb_
        have l2_ : gp < w7.heap.size := heap_lt hp_
        clear ha_ hb_ hp_
        obtain ⟨er2, her⟩ : ∃ er, er = proE M1 a1_1 a1_2 a2_3 a2_4 a2_5 := ⟨_, rfl⟩
        obtain ⟨M2, hM⟩ : ∃ M, M = proO M1 a1_1 a1_2 a2_3 a2_4 a2_5 := ⟨_, rfl⟩
        have hdo := protect_any HR1.out (by rw [← HM1N.out]; omega) a1_1 a1_2 a2_3 a2_4 a2_5
        rw [← her, ← hM] at hdo
        have HER2 := Lib.hid her
        have HM2 := Lib.hid hM
        have HDO := Lib.hid hdo
        clear her hM hdo
        go_wp2_with fail
        refine HDO.out.mono ?_
        rintro e w8 ⟨B2, k2, rfl, hr6, hb6⟩
        have HR2 := Lib.hid (rgL.mono hr6 (Nat.zero_le _))
        have HB_2 := Lib.hid hb6
        have HBW3 := Lib.hid (b_then HBW2.out hb6)
        have HGa_3 := Lib.hid (heap_below hb6 HGa_2.out)
        have HGb_3 := Lib.hid (heap_below hb6 HGb_2.out)
        have HGp_3 := Lib.hid (heap_below hb6 HGp_2.out)
        clear hr6 hb6 HDO
        clear p3 p4 p5 q3 q4 q5 t0 t1_
        have HR0c := Lib.hid (HR0b.out.below HB_2.out)
        have ha_ := HGa_3.out
        have hb_ := HGb_3.out
        have hp_ := HGp_3.out
        have p3 : w8.cell? ⟨ga, 3, none⟩ = some (.bool a1_3) := by have := cell_heap ha_ 3; simpa using this
        have p4 : w8.cell? ⟨ga, 4, none⟩ = some (.bool a1_4) := by have := cell_heap ha_ 4; simpa using this
        have p5 : w8.cell? ⟨ga, 5, none⟩ = some (.bool a1_5) := by have := cell_heap ha_ 5; simpa using this
        have q3 : w8.cell? ⟨gb, 3, none⟩ = some (.bool a2_3) := by have := cell_heap hb_ 3; simpa using this
        have q4 : w8.cell? ⟨gb, 4, none⟩ = some (.bool a2_4) := by have := cell_heap hb_ 4; simpa using this
        have q5 : w8.cell? ⟨gb, 5, none⟩ = some (.bool a2_5) := by have := cell_heap hb_ 5; simpa using this
        have t0 : w8.cell? ⟨gp, 0, none⟩ = some (.int .i64 a1_1) := by have := cell_heap hp_ 0; simpa using this
        have t1_ : w8.cell? ⟨gp, 1, none⟩ = some (.int .i64 a1_2) := by have := cell_heap hp_ 1; simpa using this
        have l0 : ga < w8.heap.size := heap_lt ha_
        have l1_ : gb < w8.heap.size := heap_lt hb_
        have l2_ : gp < w8.heap.size := heap_lt hp_
        clear ha_ hb_ hp_
        obtain ⟨er3, her⟩ : ∃ er, er = proE L a1_1 a1_2 a2_3 a2_4 a2_5 := ⟨_, rfl⟩
        obtain ⟨M3, hM⟩ : ∃ M, M = proO L a1_1 a1_2 a2_3 a2_4 a2_5 := ⟨_, rfl⟩
        have hdo := protect_any HR0c.out (by have := goodB_len HG.out; omega) a1_1 a1_2 a2_3 a2_4 a2_5
        rw [← her, ← hM] at hdo
        have HER3 := Lib.hid her
        have HM3 := Lib.hid hM
        have HDO := Lib.hid hdo
        clear her hM hdo
        go_wp2_with fail
        refine HDO.out.mono ?_
        rintro e w9 ⟨B3, k3, rfl, hr6, hb6⟩
        have HR3 := Lib.hid (rgL.mono hr6 (Nat.zero_le _))
        have HB_3 := Lib.hid hb6
        have HBW4 := Lib.hid (b_then HBW3.out hb6)
        have HGa_4 := Lib.hid (heap_below hb6 HGa_3.out)
        have HGb_4 := Lib.hid (heap_below hb6 HGb_3.out)
        have HGp_4 := Lib.hid (heap_below hb6 HGp_3.out)
        clear hr6 hb6 HDO
        clear p3 p4 p5 q3 q4 q5 t0 t1_
        have HR2b := Lib.hid (HR2.out.below HB_3.out)
        have hz64 : M3.length ≤ 64 := by
          rw [HM3.out]
          rcases HL3.out with z | z
          · obtain ⟨_, _, _, z4, z5⟩ := proE_zero z
            rw [z5]; omega
          · rw [proO_bad (by rw [z]; decide)]; simp
        have hyz : M2 = M3 := by rw [HM2.out, HM3.out]; exact HL2.out
        have her23 : er2 = er3 := by rw [HER2.out, HER3.out]; exact HL1.out
        have hcs : er3 = 0 ∨ er3 = 4 := by rw [HER3.out]; exact HL3.out
        subst hyz
        clear HL1 HL2 HL3
        obtain ⟨nx, hnx⟩ : ∃ nx, nx = M2.length := ⟨_, rfl⟩
        rw [← hnx] at hz64 HR2b HR3 ⊢
        have HNX0 := Lib.hid hnx
        clear hnx
        have HE23 := Lib.hid her23
        have HCS := Lib.hid hcs
        clear her23 hcs
        have ha_ := HGa_4.out
        have hb_ := HGb_4.out
        have hp_ := HGp_4.out
        have p3 : w9.cell? ⟨ga, 3, none⟩ = some (.bool a1_3) := by have := cell_heap ha_ 3; simpa using this
        have p4 : w9.cell? ⟨ga, 4, none⟩ = some (.bool a1_4) := by have := cell_heap ha_ 4; simpa using this
        have p5 : w9.cell? ⟨ga, 5, none⟩ = some (.bool a1_5) := by have := cell_heap ha_ 5; simpa using this
        have q3 : w9.cell? ⟨gb, 3, none⟩ = some (.bool a2_3) := by have := cell_heap hb_ 3; simpa using this
        have q4 : w9.cell? ⟨gb, 4, none⟩ = some (.bool a2_4) := by have := cell_heap hb_ 4; simpa using this
        have q5 : w9.cell? ⟨gb, 5, none⟩ = some (.bool a2_5) := by have := cell_heap hb_ 5; simpa using this
        have t0 : w9.cell? ⟨gp, 0, none⟩ = some (.int .i64 a1_1) := by have := cell_heap hp_ 0; simpa using this
        have t1_ : w9.cell? ⟨gp, 1, none⟩ = some (.int .i64 a1_2) := by have := cell_heap hp_ 1; simpa using this
        have l0 : ga < w9.heap.size := heap_lt ha_
        have l1_ : gb < w9.heap.size := heap_lt hb_
        have l2_ : gp < w9.heap.size := heap_lt hp_
        clear ha_ hb_ hp_
        obtain ⟨er4, her⟩ : ∃ er, er = proE M2 a1_1 a1_2 a2_3 a2_4 a2_5 := ⟨_, rfl⟩
        obtain ⟨M4, hM⟩ : ∃ M, M = proO M2 a1_1 a1_2 a2_3 a2_4 a2_5 := ⟨_, rfl⟩
        have hdo := protect_any HR3.out (by rw [← HNX0.out]; omega) a1_1 a1_2 a2_3 a2_4 a2_5
        rw [← her, ← hM] at hdo
        have HER4 := Lib.hid her
        have HM4 := Lib.hid hM
        have HDO := Lib.hid hdo
        clear her hM hdo
        go_wp2_with fail
        refine HDO.out.mono ?_
        rintro e w10 ⟨B4, k4, rfl, hr6, hb6⟩
        have HR4 := Lib.hid (rgL.mono hr6 (Nat.zero_le _))
        have HB_4 := Lib.hid hb6
        have HBW5 := Lib.hid (b_then HBW4.out hb6)
        have HGa_5 := Lib.hid (heap_below hb6 HGa_4.out)
        have HGb_5 := Lib.hid (heap_below hb6 HGb_4.out)
        have HGp_5 := Lib.hid (heap_below hb6 HGp_4.out)
        clear hr6 hb6 HDO
        clear p3 p4 p5 q3 q4 q5 t0 t1_
        have HR2c := Lib.hid (HR2b.out.below HB_4.out)
        have HR3c := Lib.hid (HR3.out.below HB_4.out)
        rcases HCS.out with z | z
        · have hz : proE L a1_1 a1_2 a2_3 a2_4 a2_5 = 0 := by rw [← HER3.out]; exact z
          obtain ⟨y1, y2⟩ := HL4.out hz
          rw [← HM3.out] at y1 y2
          have h4 : er4 = 0 := by rw [HER4.out]; exact y1
          have hm4 : M4 = M2 := by rw [HM4.out]; exact y2
          have h2 : er2 = 0 := by rw [HE23.out]; exact z
          rw [hm4] at HR4 ⊢
          obtain ⟨X, hX⟩ : ∃ X, X = M2 := ⟨_, rfl⟩
          have HNX : Hid (nx = X.length) := Lib.hid (by rw [hX]; exact HNX0.out)
          rw [← hX, ← HNX.out] at HR4
          rw [← HNX0.out]
          rw [← hX] at HR2c HR3c
          have HRA := HR2c
          have HRB := HR3c
          have HRC := HR4
          rw [h4, z, h2]
          clear hz y1 y2 h4 hm4 h2 z HM2 HM3 HM4 HNX0 HR3 HR2b hX
          obtain ⟨V, hV⟩ : ∃ W, W = w10 := ⟨_, rfl⟩
          subst hV
          go_wp2_with fail
          go_loopw [122] (fun x wr => ∃ (k : Nat), x = .int .i64 k ∧ k ≤ nx ∧ Hid (Below V.heap.size V wr)) (fun x _ => nx - (intOf x).toNat)
          case atStart => exact ⟨0, rfl, by omega, Lib.hid (Below.refl _ _)⟩
          case round =>
            obtain ⟨k, rfl, hle, HBV⟩ := hrel
            by_cases hlt : k < nx
            · have f0 : decide (k < nx) = true := decide_eq_true hlt
              have f3 : (k : Int) < (nx : Int) := by omega
              have hlt2 : k < X.length := by rw [← HNX.out]; exact hlt
              obtain ⟨b0, cq0, hv0, _, hbw0, e0, e1, e2, e3, e4, e5⟩ := (HRA.out.below HBV.out).cell (List.getElem?_eq_getElem hlt2)
              have x00 := e0
              have x01 := e1
              have x02 := e2
              have x03 := e3
              have x04 := e4
              have x05 := e5
              clear e0 e1 e2 e3 e4 e5
              obtain ⟨rfl, rfl⟩ : B2 = some ⟨b0, 0, none⟩ ∧ k2 = cq0 := by injection hv0 with i1 _ i3; exact ⟨i1, i3⟩
              clear hv0
              obtain ⟨b1, cq1, hv1, _, hbw1, e0, e1, e2, e3, e4, e5⟩ := (HRC.out.below HBV.out).cell (List.getElem?_eq_getElem hlt2)
              have x10 := e0
              have x11 := e1
              have x12 := e2
              have x13 := e3
              have x14 := e4
              have x15 := e5
              clear e0 e1 e2 e3 e4 e5
              obtain ⟨rfl, rfl⟩ : B4 = some ⟨b1, 0, none⟩ ∧ k4 = cq1 := by injection hv1 with i1 _ i3; exact ⟨i1, i3⟩
              clear hv1
              obtain ⟨b2, cq2, hv2, _, hbw2, e0, e1, e2, e3, e4, e5⟩ := (HRB.out.below HBV.out).cell (List.getElem?_eq_getElem hlt2)
              have x20 := e0
              have x21 := e1
              have x22 := e2
              have x23 := e3
              have x24 := e4
              have x25 := e5
              clear e0 e1 e2 e3 e4 e5
              obtain ⟨rfl, rfl⟩ : B3 = some ⟨b2, 0, none⟩ ∧ k3 = cq2 := by injection hv2 with i1 _ i3; exact ⟨i1, i3⟩
              clear hv2
              generalize X[k] = y at x00 x01 x02 x03 x04 x05 x10 x11 x12 x13 x14 x15 x20 x21 x22 x23 x24 x25
              obtain ⟨ya, yb, yw, yu, yx, yk⟩ := y
              simp only at x00 x01 x02 x03 x04 x05 x10 x11 x12 x13 x14 x15 x20 x21 x22 x23 x24 x25
              go_upto_region 19 with fail
              go_quiet (fail)
              go_wp2_with fail
              go_roundw
              case rel => exact ⟨k + 1, by go_num, by omega, Lib.hid (below_drewN HBV.out _)⟩
              case measure => simp [intOf]; omega
            · have f0 : decide (k < nx) = false := decide_eq_false hlt
              go_wp2_with fail
              refine (awake_any _).mono ?_
              rintro e v1 ⟨rfl, hv1⟩
              have HV1 := Lib.hid hv1
              clear hv1
              go_wp2_with fail
              go_returns
              exact ⟨rfl, b_then (b_then HB0.out HBW5.out) (b_then HBV.out HV1.out)⟩
        · have h2 : er2 = 4 := by rw [HE23.out]; exact z
          rw [z, h2]
          clear z h2
          go_wp2_with fail
          refine (awake_any _).mono ?_
          rintro e w11 ⟨rfl, hb11⟩
          have HBZ := Lib.hid (b_then HB0.out (b_then HBW5.out hb11))
          clear hb11
          go_wp2_with fail
          go_returns
          exact ⟨rfl, HBZ.out⟩
end Go.Proofs.Ytoodjhomekeekaa
