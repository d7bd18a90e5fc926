/- Add: one region more. Condition: at most 900 regions. Printed by gen/rgadd.py. -/
import Derived.Test.YtoodjhomekeekaaRgK
import Derived.Test.YtoodjhomekeekaaRgM
import Derived.Test.YtoodjhomekeekaaRgS
import Derived.Deep.RegionWith
import Derived.Deep.AppendLies
import Derived.Deep.DeepCutAuto
import Derived.Deep.WholeRow
import Derived.Laws.Rows
import Derived.Laws.Tables
namespace Go.Proofs.Ytoodjhomekeekaa
open Go.ChangeShapes Go.WideShapes Go.ChangeAt Go.RowKit
set_option linter.unusedVariables false
set_option linter.unusedSimpArgs false
theorem insert_any {w : World} {base : Nat} {v : Value} {R : List RG} (h : rgL w base v R) (hl : R.length ≤ 1000) (hb : base ≤ w.heap.size) (i : Nat) (hi : i ≤ R.length) (d : RG) (vb : Nat) (hx : w.heap[vb]? = some (.cells d.cl 31 (0, 0))) (hne : some vb ≠ v.ownBlock) :
    Calls Try.prog 29 #[v, .int .i64 i, .slice (some ⟨vb, 0, none⟩) 1 1] w fun e w' => ∃ A c, e = .returned (.slice A (R.length + 1) c) ∧ rgL w' base (.slice A (R.length + 1) c) (R.take i ++ d :: R.drop i) ∧ Below base w w' := by
  by_cases he : i = R.length
  · subst he
    refine (insert_end h hl hb d vb hx).mono ?_
    rintro e w1 ⟨A, c, rfl, h1, h2⟩
    refine ⟨A, c, rfl, ?_, Below.grown (Below.refl _ _) h2 hb (fun k e => ?_)⟩
    · rw [List.take_length, List.drop_length]; exact h1
    · rcases h.2 with ⟨rfl, _⟩ | ⟨g, cap, cur, rfl, hg, _⟩
      · simp [Value.ownBlock] at e
      · simp [Value.ownBlock] at e; omega
  · have hlt : i < R.length := by omega
    have h' := h
    rcases h.2 with ⟨_, h0⟩ | ⟨g, cap, cur, rfl, hg, hgh, hnc, hcm, hcs, hct⟩
    · omega
    · have hne' : vb ≠ g := fun e => hne (by rw [e]; rfl)
      by_cases hroom : R.length + 1 ≤ cap
      · refine (insert_room hl hgh hcs hct hcm i hlt hroom d vb hx hne').mono ?_
        rintro e w1 ⟨rfl, c2, rfl, k1, k2⟩
        refine ⟨_, _, rfl, ?_, below_row (Below.refl base w).drew hg _⟩
        have hlen : (R.take i ++ d :: R.drop i).length = R.length + 1 := by
          rw [List.length_append, List.length_cons, List.length_take, List.length_drop]; omega
        unfold rgL
        rw [hlen]
        refine ⟨by rw [rgcells_length, hlen], .inr ⟨g, cap, c2.toArray, rfl, hg, ?_, hroom, hcm, by simpa using k1, k2⟩⟩
        exact setRow_heap w.drew g cur c2.toArray _ _ hgh
      · refine (insert_grow hl hgh hct hnc i hlt (by omega) d vb hx).mono ?_
        rintro e w1 ⟨A, c, rfl, h1, h2⟩
        exact ⟨A, c, rfl, h1.mono hb, ⟨h2.os, h2.tape, h2.output, h2.size, fun k hk => h2.block k (Nat.lt_of_lt_of_le hk hb)⟩⟩
def thereB (R : List RG) (d : RG) : Bool := R.any (fun x => !decide (x.b ≤ d.a) && decide (x.a < d.b))
def atL (d : RG) : List RG → Nat → Nat → Nat
  | [], _, a => a
  | x :: r, i, a => if x.b ≤ d.a then atL d r (i + 1) (i + 1) else atL d r (i + 1) a
def addR (R : List RG) (d : RG) : List RG := mergeL (R.take (atL d R 0 0) ++ d :: R.drop (atL d R 0 0))
def addE (R : List RG) (d : RG) : Int := if !rightB d.a d.b then 1 else if !goodB R then 3 else if thereB R d then 6 else if 64 < (addR R d).length then 4 else 0
def addO (R : List RG) (d : RG) : List RG := if addE R d = 0 then addR R d else []
theorem atL_le (d : RG) : ∀ (R : List RG) (i a : Nat), a ≤ i → atL d R i a ≤ i + R.length
  | [], i, a, h => by simpa [atL] using h
  | x :: r, i, a, h => by
    unfold atL
    split
    · have := atL_le d r (i + 1) (i + 1) (by omega); simp; omega
    · have := atL_le d r (i + 1) a (by omega); simp; omega
theorem mstep_len (O : List RG) (r : RG) : (mstep O r).length ≤ O.length + 1 := by
  rcases List.eq_nil_or_concat O with rfl | ⟨O1, a, rfl⟩
  · simp [mstep]
  · rw [List.concat_eq_append]
    cases h : joinB a r
    · rw [mstep_not h]; simp
    · rw [mstep_join h]; simp
theorem foldl_mstep_len : ∀ (R O : List RG), (R.foldl mstep O).length ≤ O.length + R.length
  | [], O => by simp
  | r :: R, O => by
    have h1 := foldl_mstep_len R (mstep O r)
    have h2 := mstep_len O r
    simp only [List.foldl_cons, List.length_cons]; omega
theorem mergeL_len (R : List RG) : (mergeL R).length ≤ R.length := by have := foldl_mstep_len R []; simpa [mergeL] using this
theorem addE_1 {R : List RG} {d : RG} (h : rightB d.a d.b = false) : addE R d = 1 ∧ addO R d = [] := by
  have : addE R d = 1 := by unfold addE; simp [h]
  exact ⟨this, by unfold addO; rw [this]; rfl⟩
theorem addE_3 {R : List RG} {d : RG} (h : rightB d.a d.b = true) (h2 : goodB R = false) : addE R d = 3 ∧ addO R d = [] := by
  have : addE R d = 3 := by unfold addE; simp [h, h2]
  exact ⟨this, by unfold addO; rw [this]; rfl⟩
theorem addE_6 {R : List RG} {d : RG} (h : rightB d.a d.b = true) (h2 : goodB R = true) (h3 : thereB R d = true) : addE R d = 6 ∧ addO R d = [] := by
  have : addE R d = 6 := by unfold addE; simp [h, h2, h3]
  exact ⟨this, by unfold addO; rw [this]; rfl⟩
theorem addE_4 {R : List RG} {d : RG} (h : rightB d.a d.b = true) (h2 : goodB R = true) (h3 : thereB R d = false) (h4 : 64 < (addR R d).length) : addE R d = 4 ∧ addO R d = [] := by
  have : addE R d = 4 := by unfold addE; simp [h, h2, h3, h4]
  exact ⟨this, by unfold addO; rw [this]; rfl⟩
theorem addE_0 {R : List RG} {d : RG} (h : rightB d.a d.b = true) (h2 : goodB R = true) (h3 : thereB R d = false) (h4 : ¬ 64 < (addR R d).length) : addE R d = 0 ∧ addO R d = addR R d := by
  have : addE R d = 0 := by unfold addE; simp [h, h2, h3, h4]
  exact ⟨this, by unfold addO; rw [if_pos this]⟩
set_option maxHeartbeats 8000000 in
theorem add_any {w : World} {base : Nat} {v : Value} {R : List RG} (h : rgL w base v R) (hl : R.length ≤ 900) (d : RG) :
    Calls Try.prog 18 #[v, d.val] w fun e w' => ∃ A c, e = .returned (.tuple #[.slice A (addO R d).length c, .int .i64 (addE R d)]) ∧ rgL w' w.heap.size (.slice A (addO R d).length c) (addO R d) ∧ Below w.heap.size w w' := by
  obtain ⟨A, cap, rfl⟩ := h.form
  have H := Lib.hid h
  obtain ⟨W0, hW0⟩ : ∃ W, W = w.alloc (.cells d.cl 31) := ⟨_, rfl⟩
  obtain ⟨g, hg⟩ : ∃ g, g = w.heap.size := ⟨_, rfl⟩
  have hB0 : Below w.heap.size w W0 := by rw [hW0]; exact (Below.refl _ _).alloc (Nat.le_refl _) _
  have hh0 : W0.heap[g]? = some (.cells d.cl 31 (0, 0)) := by rw [hW0, hg]; exact heap_new _ _
  have hG0 := h.below hB0
  have hright := fun W => right_all W d.a d.b
  have hgood : ∀ W, Below W0.heap.size W0 W → Calls Try.prog 13 #[.slice A R.length cap] W fun e w' => e = .returned (.bool (goodB R)) ∧ Below W.heap.size W w' := fun W hB => good_any (hG0.below hB) (by omega)
  obtain ⟨da, db, dw, du, dx, dk⟩ := d
  obtain ⟨rb, hrb⟩ : ∃ rb, rb = rightB da db := ⟨_, rfl⟩
  obtain ⟨gb, hgb⟩ : ∃ gb, gb = goodB R := ⟨_, rfl⟩
  obtain ⟨d, hd⟩ : ∃ d : RG, d = ⟨da, db, dw, du, dx, dk⟩ := ⟨_, rfl⟩
  simp only at hright
  have HW0 := Lib.hid hW0
  rw [← hrb] at hright
  rw [← hgb] at hgood
  have hh1 := hh0
  have hh2 : W0.heap[g]? = some (.cells #[.int .i64 da, .int .i64 db, .bool dw, .bool du, .bool dx, .int .i64 dk] 31 (0, 0)) := hh0
  rw [← hd] at hh1
  rw [← hd]
  have HH := Lib.hid hh2
  have HH1 := Lib.hid hh1
  have HR := Lib.hid hright
  have HGD := Lib.hid hgood
  have HB0 := Lib.hid hB0
  have HG0 := Lib.hid hG0
  have HG := Lib.hid hg
  have HDD := Lib.hid hd
  have HRB := Lib.hid hrb
  have HGB := Lib.hid hgb
  have hve : d.val = .agg #[.int .i64 da, .int .i64 db, .bool dw, .bool du, .bool dx, .int .i64 dk] := by rw [hd]; rfl
  rw [hve]
  clear hve h hW0 hB0 hh0 hh1 hh2 hG0 hright hgood hg hd hrb hgb
  go_enter Try.func18, Try.ntmps18
  go_upto_region 1 with fail
  have hW0' : w.alloc (.cells #[.int .i64 da, .int .i64 db, .bool dw, .bool du, .bool dx, .int .i64 dk] 31) = W0 := HW0.out.symm
  rw [hW0', ← HG.out]
  clear hW0'
  have y0 := cell_heap HH.out 0
  have y1 := cell_heap HH.out 1
  have y2 := cell_heap HH.out 2
  have y3 := cell_heap HH.out 3
  have y4 := cell_heap HH.out 4
  have y5 := cell_heap HH.out 5
  simp at y0 y1 y2 y3 y4 y5
  have hgw : g < W0.heap.size := heap_lt HH.out
  go_wp2_with fail
  refine (HR.out W0).mono ?_
  rintro e w1 ⟨rfl, hb1⟩
  cases rb
  · have HE := Lib.hid (addE_1 (R := R) (d := d) (by rw [HDD.out]; exact HRB.out.symm))
    have HB1 := Lib.hid (b_then HB0.out hb1)
    clear y0 y1 y2 y3 y4 y5 hb1
    go_wp2_with fail
    go_returns
    exact ⟨none, 0, ret_v (by rw [HE.out.1, HE.out.2]; rfl), by rw [HE.out.2]; exact rgL.nil _ _, HB1.out⟩
  have HRT : Hid (rightB d.a d.b = true) := Lib.hid (by rw [HDD.out]; exact HRB.out.symm)
  have HB1 := Lib.hid hb1
  clear y0 y1 y2 y3 y4 y5 hb1
  go_wp2_with fail
  refine (HGD.out w1 HB1.out).mono ?_
  rintro e w2 ⟨rfl, hb2⟩
  have HB2 := Lib.hid (b_then HB1.out hb2)
  clear hb2
  cases gb
  · have HE := Lib.hid (addE_3 (R := R) (d := d) HRT.out HGB.out.symm)
    have HB3 := Lib.hid (b_then HB0.out HB2.out)
    go_wp2_with fail
    go_returns
    exact ⟨none, 0, ret_v (by rw [HE.out.1, HE.out.2]; rfl), by rw [HE.out.2]; exact rgL.nil _ _, HB3.out⟩
  have HGT : Hid (goodB R = true) := Lib.hid HGB.out.symm
  go_wp2_with fail
  have hB2 := HB2.out
  go_loopw [6, 18] (fun x6 x wr => ∃ (k a : Nat), x = .int .i64 k ∧ x6 = .int .i64 a ∧ k ≤ R.length ∧ a ≤ k ∧ Below W0.heap.size W0 wr ∧ Hid (atL d R 0 0 = atL d (R.drop k) k a ∧ thereB R d = thereB (R.drop k) d)) (fun _ x _ => R.length - (intOf x).toNat)
  case atStart => exact ⟨0, 0, rfl, rfl, by omega, by omega, hB2, Lib.hid ⟨rfl, rfl⟩⟩
  case round =>
    clear hB2 HB2 HB1
    obtain ⟨k, a, rfl, rfl, hle, hak, hBW, HF⟩ := hrel
    have hB := b_then HB0.out hBW
    have hsz := hB.size
    have HB := Lib.hid hB
    have HBW := Lib.hid hBW
    have hgh := heap_below hBW HH.out
    have y0 := cell_heap hgh 0
    have y1 := cell_heap hgh 1
    have y2 := cell_heap hgh 2
    have y3 := cell_heap hgh 3
    have y4 := cell_heap hgh 4
    have y5 := cell_heap hgh 5
    simp at y0 y1 y2 y3 y4 y5
    have hgw2 : g < wr.heap.size := heap_lt hgh
    have HGH := Lib.hid hgh
    clear hgh
    by_cases hlt : k < R.length
    · have f0 : decide (k < R.length) = true := decide_eq_true hlt
      have f3 : (k : Int) < (R.length : Int) := by omega
      have hd1 : atL d (R.drop k) k a = if R[k].b ≤ d.a then atL d (R.drop (k + 1)) (k + 1) (k + 1) else atL d (R.drop (k + 1)) (k + 1) a := by
        rw [List.drop_eq_getElem_cons hlt]; rfl
      have hd2 : thereB (R.drop k) d = ((!decide (R[k].b ≤ d.a) && decide (R[k].a < d.b)) || thereB (R.drop (k + 1)) d) := by
        rw [List.drop_eq_getElem_cons hlt]; rfl
      obtain ⟨b, cap1, hv, hb, hbw, e0, e1, e2, e3, e4, e5⟩ := H.out.cell (List.getElem?_eq_getElem hlt)
      obtain ⟨hc1, hf1⟩ := bcell hB
      have c0 := (hc1 b _ hbw).trans e0
      have c1 := (hc1 b _ hbw).trans e1
      have c2 := (hc1 b _ hbw).trans e2
      have c3 := (hc1 b _ hbw).trans e3
      have c4 := (hc1 b _ hbw).trans e4
      have c5 := (hc1 b _ hbw).trans e5
      obtain ⟨rfl, _, rfl⟩ : A = some ⟨b, 0, none⟩ ∧ R.length = R.length ∧ cap = cap1 := by simpa using hv
      obtain ⟨n, hn⟩ : ∃ n, n = R.length := ⟨_, rfl⟩
      rw [← hn] at hlt hle hl f0 f3 ⊢
      generalize R[k] = y at c0 c1 c2 c3 c4 c5 hd1 hd2
      obtain ⟨ya, yb, yw, yu, yx, yk⟩ := y
      simp only at c0 c1 c2 c3 c4 c5 hd1 hd2
      have e1 : d.a = da := by rw [HDD.out]
      have e2 : d.b = db := by rw [HDD.out]
      rw [e1] at hd1 hd2
      rw [e2] at hd2
      have HD1 := Lib.hid hd1
      have HD2 := Lib.hid hd2
      have HN := Lib.hid hn
      have hbw3 : b < wr.heap.size := by omega
      clear hc1 hf1 e0 e1 e2 e3 e4 e5 hv hn hb hB hBW hd1 hd2
      have HQ2 := Lib.hid (heap_new wr (.cells #[.int .i64 0, .int .i64 0, .bool false, .bool false, .bool false, .int .i64 0] 31))
      have HAL : Hid ((#[.int .i64 ya, .int .i64 yb, .bool yw, .bool yu, .bool yx, .int .i64 yk] : Array Value).all (·.oneCell') = true) := Lib.hid (by simp [Value.oneCell'])
      rcases Bool.eq_false_or_eq_true (decide (yb ≤ da)) with t1 | t1
      · have HT := Lib.hid (of_decide_eq_true t1)
        have HT1 := Lib.hid t1
        go_wp2_with (first | ((refine wpList_store_row rfl 31 (.tmp 8) (.tmp 22) rfl wr.heap.size #[.int .i64 ya, .int .i64 yb, .bool yw, .bool yu, .bool yx, .int .i64 yk] rfl rfl 31 #[.int .i64 0, .int .i64 0, .bool false, .bool false, .bool false, .int .i64 0] HQ2.out sz_rg rfl HAL.out ?_); rw [World.setRow_alloc_new]))
        go_roundw
        case rel => exact ⟨k + 1, k + 1, by go_num, by go_num, by omega, by omega, HBW.out.alloc HBW.out.size _, Lib.hid ⟨by rw [HF.out.1, HD1.out, if_pos HT.out], by rw [HF.out.2, HD2.out, HT1.out]; rfl⟩⟩
        case measure => simp [intOf]; omega
      · have HT := Lib.hid (of_decide_eq_false t1)
        have HT1 := Lib.hid t1
        rcases Bool.eq_false_or_eq_true (decide (ya < db)) with t2 | t2
        · have HE := Lib.hid (addE_6 (R := R) (d := d) HRT.out HGT.out (by rw [HF.out.2, HD2.out, HT1.out, t2]; rfl))
          go_wp2_with (first | ((refine wpList_store_row rfl 31 (.tmp 8) (.tmp 22) rfl wr.heap.size #[.int .i64 ya, .int .i64 yb, .bool yw, .bool yu, .bool yx, .int .i64 yk] rfl rfl 31 #[.int .i64 0, .int .i64 0, .bool false, .bool false, .bool false, .int .i64 0] HQ2.out sz_rg rfl HAL.out ?_); rw [World.setRow_alloc_new]))
          go_returns
          exact ⟨none, 0, ret_v (by rw [HE.out.1, HE.out.2]; rfl), by rw [HE.out.2]; exact rgL.nil _ _, by have := HB.out; go_grown⟩
        · have HT2 := Lib.hid t2
          go_wp2_with (first | ((refine wpList_store_row rfl 31 (.tmp 8) (.tmp 22) rfl wr.heap.size #[.int .i64 ya, .int .i64 yb, .bool yw, .bool yu, .bool yx, .int .i64 yk] rfl rfl 31 #[.int .i64 0, .int .i64 0, .bool false, .bool false, .bool false, .int .i64 0] HQ2.out sz_rg rfl HAL.out ?_); rw [World.setRow_alloc_new]))
          go_roundw
          case rel => exact ⟨k + 1, a, by go_num, rfl, by omega, by omega, HBW.out.alloc HBW.out.size _, Lib.hid ⟨by rw [HF.out.1, HD1.out, if_neg HT.out], by rw [HF.out.2, HD2.out, HT1.out, HT2.out]; rfl⟩⟩
          case measure => simp [intOf]; omega
    · have f0 : decide (k < R.length) = false := decide_eq_false hlt
      have hdr : R.drop k = [] := List.drop_eq_nil_of_le (by omega)
      have h1 : atL d R 0 0 = a := by have := HF.out.1; rw [hdr] at this; exact this
      have h2 : thereB R d = false := by have := HF.out.2; rw [hdr] at this; exact this
      obtain ⟨L1, hL1⟩ : ∃ L1, L1 = R.take a ++ d :: R.drop a := ⟨_, rfl⟩
      have hM : addR R d = mergeL L1 := by unfold addR; rw [h1, hL1]
      have hl1 : L1.length = R.length + 1 := by rw [hL1, List.length_append, List.length_cons, List.length_take, List.length_drop]; omega
      obtain ⟨M, hMM⟩ : ∃ M, M = mergeL L1 := ⟨_, rfl⟩
      rw [← hMM] at hM
      obtain ⟨V, hV⟩ : ∃ V, V = wr := ⟨_, rfl⟩
      subst hV
      have hcl : ∀ W, Below V.heap.size V W → Calls Try.prog 30 #[.slice A R.length cap] W fun e w' => ∃ A5 c5, e = .returned (.slice A5 R.length c5) ∧ rgL w' W.heap.size (.slice A5 R.length c5) R ∧ Below W.heap.size W w' := fun W hW => clone_any (((H.out.below HB.out)).below hW) (by omega)
      have hin : ∀ W A5 c5 vb, rgL W V.heap.size (.slice A5 R.length c5) R → V.heap.size ≤ W.heap.size → W.heap[vb]? = some (.cells #[.int .i64 da, .int .i64 db, .bool dw, .bool du, .bool dx, .int .i64 dk] 31 (0, 0)) → some vb ≠ (Value.slice A5 R.length c5).ownBlock → Calls Try.prog 29 #[.slice A5 R.length c5, .int .i64 a, .slice (some ⟨vb, 0, none⟩) 1 1] W fun e w' => ∃ A6 c6, e = .returned (.slice A6 (R.length + 1) c6) ∧ rgL w' V.heap.size (.slice A6 (R.length + 1) c6) L1 ∧ Below V.heap.size W w' := fun W A5 c5 vb q1 q2 q3 q4 => by
        rw [hL1]
        exact insert_any q1 (by omega) q2 a (by omega) d vb (by rw [HDD.out]; exact q3) q4
      have hme : ∀ W A6 c6, rgL W V.heap.size (.slice A6 (R.length + 1) c6) L1 → Calls Try.prog 28 #[.slice A6 (R.length + 1) c6] W fun e w' => ∃ A7 c7, e = .returned (.slice A7 M.length c7) ∧ rgL w' W.heap.size (.slice A7 M.length c7) M ∧ Below W.heap.size W w' := fun W A6 c6 q1 => by
        rw [hMM]
        rw [← hl1] at q1 ⊢
        exact merged_any q1 (by omega)
      have hsh : ∀ W, Below V.heap.size V W → W.cell? ⟨g, 0, none⟩ = some (.int .i64 da) ∧ W.cell? ⟨g, 1, none⟩ = some (.int .i64 db) ∧ W.cell? ⟨g, 2, none⟩ = some (.bool dw) ∧ W.cell? ⟨g, 3, none⟩ = some (.bool du) ∧ W.cell? ⟨g, 4, none⟩ = some (.bool dx) ∧ W.cell? ⟨g, 5, none⟩ = some (.int .i64 dk) := fun W hW => by
        have h3 := heap_below hW HGH.out
        have y0 := cell_heap h3 0
        have y1 := cell_heap h3 1
        have y2 := cell_heap h3 2
        have y3 := cell_heap h3 3
        have y4 := cell_heap h3 4
        have y5 := cell_heap h3 5
        simp at y0 y1 y2 y3 y4 y5
        exact ⟨y0, y1, y2, y3, y4, y5⟩
      have HT := Lib.hid h2
      have HM := Lib.hid hM
      obtain ⟨n, hn⟩ : ∃ n, n = R.length := ⟨_, rfl⟩
      obtain ⟨n1, hn1⟩ : ∃ n1, n1 = R.length + 1 := ⟨_, rfl⟩
      obtain ⟨m, hm⟩ : ∃ m, m = M.length := ⟨_, rfl⟩
      rw [← hn1] at hin hme
      rw [← hn] at hlt hle hl f0 hcl hin ⊢
      rw [← hm] at hme
      have HCL := Lib.hid hcl
      have HIN := Lib.hid hin
      have HME := Lib.hid hme
      have HSH := Lib.hid hsh
      have HMN := Lib.hid hm
      clear hn hn1 hB hBW hdr h1 h2 hL1 hM hl1 hMM hcl hin hme hsh hm
      have mixed : Try.prog.follows .mixedOrders = true := by kernel_rfl
      go_upto_region 14 with fail
      by_cases h64 : 64 < m
      · have hfi : ∀ W A7 c7, Calls Try.prog 27 #[.slice A7 m c7] W fun e w' => e = .returned (.tuple #[.slice none 0 0, .int .i64 4]) ∧ W = w' := fun W A7 c7 => fits_big W A7 m c7 h64
        have HFI := Lib.hid hfi
        have HE := Lib.hid (addE_4 (R := R) (d := d) HRT.out HGT.out HT.out (by rw [HM.out, ← HMN.out]; exact h64))
        clear hfi
        go_region_law (first
            | (go_simp; go_at_call 30; refine (HCL.out _ ?_).mono ?_; (go_grown); rintro e w3 ⟨A5, c5, rfl, hr3, hb3⟩; have hB3 : Below V.heap.size V w3 := (b_then (by go_grown) hb3); obtain ⟨y0, y1, y2, y3, y4, y5⟩ := HSH.out _ hB3; have z3 := hB3.size; have z4 : g < w3.heap.size := (by omega))
            | (go_simp; go_at_call 29; refine (HIN.out _ _ _ _ ?_ ?_ ?_ ?_).mono ?_; (first | exact hr3.mono (by simp) | exact (hr3.below ((Below.refl _ _).alloc (Nat.le_refl _) _)).mono (by simp)); (first | omega | (simp; omega)); (first | exact heap_new w3 _ | exact heap_below hb3 (heap_new V _)); (first | exact own_ne hr3 (Or.inr (Nat.le_refl _)) | exact own_ne hr3 (Or.inl (by simp))); rintro e w4 ⟨A6, c6, rfl, hr4, hb4⟩; have hB4 : Below V.heap.size V w4 := (Below.trans (by first | exact hB3 | exact hB3.alloc hB3.size _) hb4))
            | (go_simp; go_at_call 28; refine (HME.out _ _ _ hr4).mono ?_; rintro e w5 ⟨A7, c7, rfl, hr5, hb5⟩; have hB5 : Below V.heap.size V w5 := b_then hB4 hb5)
            | (go_simp; go_at_call 27; refine (HFI.out _ _ _).mono ?_; rintro e w6 ⟨rfl, hw⟩; obtain rfl := hw.symm))
        all_goals
          go_wp2_with fail
          go_returns
          exact ⟨none, 0, ret_v (by rw [HE.out.1, HE.out.2]; rfl), by rw [HE.out.2]; exact rgL.nil _ _, b_then HB.out hB5⟩
      · have hfi : ∀ W A7 c7, Calls Try.prog 27 #[.slice A7 m c7] W fun e w' => e = .returned (.tuple #[.slice A7 m c7, .int .i64 0]) ∧ W = w' := fun W A7 c7 => fits_small W A7 m c7 (by omega)
        have HFI := Lib.hid hfi
        have HE := Lib.hid (addE_0 (R := R) (d := d) HRT.out HGT.out HT.out (by rw [HM.out, ← HMN.out]; exact h64))
        clear hfi
        go_region_law (first
            | (go_simp; go_at_call 30; refine (HCL.out _ ?_).mono ?_; (go_grown); rintro e w3 ⟨A5, c5, rfl, hr3, hb3⟩; have hB3 : Below V.heap.size V w3 := (b_then (by go_grown) hb3); obtain ⟨y0, y1, y2, y3, y4, y5⟩ := HSH.out _ hB3; have z3 := hB3.size; have z4 : g < w3.heap.size := (by omega))
            | (go_simp; go_at_call 29; refine (HIN.out _ _ _ _ ?_ ?_ ?_ ?_).mono ?_; (first | exact hr3.mono (by simp) | exact (hr3.below ((Below.refl _ _).alloc (Nat.le_refl _) _)).mono (by simp)); (first | omega | (simp; omega)); (first | exact heap_new w3 _ | exact heap_below hb3 (heap_new V _)); (first | exact own_ne hr3 (Or.inr (Nat.le_refl _)) | exact own_ne hr3 (Or.inl (by simp))); rintro e w4 ⟨A6, c6, rfl, hr4, hb4⟩; have hB4 : Below V.heap.size V w4 := (Below.trans (by first | exact hB3 | exact hB3.alloc hB3.size _) hb4))
            | (go_simp; go_at_call 28; refine (HME.out _ _ _ hr4).mono ?_; rintro e w5 ⟨A7, c7, rfl, hr5, hb5⟩; have hB5 : Below V.heap.size V w5 := b_then hB4 hb5)
            | (go_simp; go_at_call 27; refine (HFI.out _ _ _).mono ?_; rintro e w6 ⟨rfl, hw⟩; obtain rfl := hw.symm))
        all_goals
          go_wp2_with fail
          go_returns
          exact ⟨_, _, ret_v (by rw [HE.out.1, HE.out.2, HM.out, ← HMN.out]; rfl), by rw [HE.out.2, HM.out, ← HMN.out]; exact hr5.mono (Nat.le_trans HB.out.size hB4.size), b_then HB.out hB5⟩
end Go.Proofs.Ytoodjhomekeekaa
