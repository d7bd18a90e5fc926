/- merged: regions that make one as one. Condition: at most 1000 regions. Printed by gen/rgmerge.py. -/
import Derived.Test.YtoodjhomekeekaaRgF
import Derived.Deep.DeepCutAuto
import Derived.Deep.WholeRow
import Derived.Laws.Rows
import Derived.Laws.Tables
namespace Go.Proofs.Ytoodjhomekeekaa
open Go.ChangeShapes Go.WideShapes Go.ChangeAt Go.RowKit
set_option linter.unusedVariables false
set_option linter.unusedSimpArgs false
def mstep (O : List RG) (r : RG) : List RG :=
  match O.getLast? with
  | none => [r]
  | some a => if joinB a r then O.dropLast ++ [⟨a.a, r.b, a.w, a.u, a.x, a.k⟩] else O ++ [r]
def mergeL (R : List RG) : List RG := R.foldl mstep []
theorem mstep_nil (r : RG) : mstep [] r = [r] := rfl
theorem mstep_join {O : List RG} {a r : RG} (h : joinB a r = true) : mstep (O ++ [a]) r = O ++ [⟨a.a, r.b, a.w, a.u, a.x, a.k⟩] := by
  unfold mstep; simp [h]
theorem mstep_not {O : List RG} {a r : RG} (h : joinB a r = false) : mstep (O ++ [a]) r = (O ++ [a]) ++ [r] := by
  unfold mstep; simp [h]
theorem rg_setb {w : World} {base g cap : Nat} {O : List RG} {a : RG} (h : rgL w base (.slice (some ⟨g, 0, none⟩) (O.length + 1) cap) (O ++ [a])) (y : Int) :
    rgL (w.setCell ⟨g, O.length * 6 + 1, none⟩ (.int .i64 y)) base (.slice (some ⟨g, 0, none⟩) (O.length + 1) cap) (O ++ [⟨a.a, y, a.w, a.u, a.x, a.k⟩]) := by
  obtain ⟨h1, h2⟩ := h
  refine ⟨rgcells_length _, ?_⟩
  rcases h2 with ⟨e, _⟩ | ⟨g2, c2, cur, e, hb, hg, hn, hm, hs, ht⟩
  · cases e
  · injection e with e1 e2 e3
    subst e3
    obtain rfl : g = g2 := by simpa using e1
    have hg2 := heap_set hg (O.length * 6 + 1) (.int .i64 y)
    refine .inr ⟨g, cap, _, by simp, hb, hg2, by simpa using hn, hm, by simpa using hs, ?_⟩
    have hl : (O ++ [a]).length = O.length + 1 := by simp
    have hl2 : (O ++ [(⟨a.a, y, a.w, a.u, a.x, a.k⟩ : RG)]).length = O.length + 1 := by simp
    rw [hl] at ht
    rw [hl2, Array.toList_setIfInBounds, List.take_set, ht, rgcells_append, rgcells_append, List.set_append_right _ _ (by rw [rgcells_length]; omega), rgcells_length]
    simp [rgcells]
set_option maxHeartbeats 8000000 in
theorem merged_any {w : World} {base : Nat} {v : Value} {R : List RG} (h : rgL w base v R) (hl : R.length ≤ 1000) :
    Calls Try.prog 28 #[v] w fun e w' => ∃ A c, e = .returned (.slice A (mergeL R).length c) ∧ rgL w' w.heap.size (.slice A (mergeL R).length c) (mergeL R) ∧ Below w.heap.size w w' := by
  obtain ⟨A, cap, rfl⟩ := h.form
  have H := Lib.hid h
  clear h
  have HB0 : Below w.heap.size w w := Below.refl _ _
  go_enter Try.func28, Try.ntmps28
  go_wp2_with fail
  go_loopw [3, 9] (fun x3 x wr => ∃ (k : Nat) (O : List RG) (A3 : Option Addr) (c3 : Nat), x = .int .i64 k ∧ x3 = .slice A3 O.length c3 ∧ k ≤ R.length ∧ O.length ≤ k ∧ Below w.heap.size w wr ∧ Hid (rgL wr w.heap.size (.slice A3 O.length c3) O) ∧ Hid (mergeL R = (R.drop k).foldl mstep O)) (fun _ x _ => R.length - (intOf x).toNat)
  case atStart => exact ⟨0, [], none, 0, rfl, rfl, by omega, by simp, HB0, Lib.hid (rgL.nil _ _), Lib.hid rfl⟩
  case round =>
    clear HB0
    obtain ⟨k, O, A3, c3, rfl, rfl, hle, hok, hB, HO, HF⟩ := hrel
    have hsz := hB.size
    have HB := Lib.hid hB
    by_cases hlt : k < R.length
    · have f0 : decide (k < R.length) = true := decide_eq_true hlt
      have f3 : (k : Int) < (R.length : Int) := by omega
      have hd : (R.drop k).foldl mstep O = (R.drop (k + 1)).foldl mstep (mstep O R[k]) := by
        rw [List.drop_eq_getElem_cons hlt]; rfl
      obtain ⟨b, cap1, hv, hb, hbw, e0, e1, e2, e3, e4, e5⟩ := H.out.cell (List.getElem?_eq_getElem hlt)
      obtain ⟨hc1, hf1⟩ := bcell hB
      have c0 := (hc1 b _ hbw).trans e0
      have c1 := (hc1 b _ hbw).trans e1
      have c2 := (hc1 b _ hbw).trans e2
      have c3 := (hc1 b _ hbw).trans e3
      have c4 := (hc1 b _ hbw).trans e4
      have c5 := (hc1 b _ hbw).trans e5
      obtain ⟨rfl, _, rfl⟩ : A = some ⟨b, 0, none⟩ ∧ R.length = R.length ∧ cap = cap1 := by simpa using hv
      obtain ⟨n, hn⟩ : ∃ n, n = R.length := ⟨_, rfl⟩
      rw [← hn] at hlt hle hl f0 f3 ⊢
      generalize R[k] = y at c0 c1 c2 c3 c4 c5 hd
      obtain ⟨ya, yb, yw, yu, yx, yk⟩ := y
      simp only at c0 c1 c2 c3 c4 c5
      have HD := Lib.hid hd
      have HN := Lib.hid hn
      have hbw3 : b < wr.heap.size := by omega
      clear hc1 hf1 e0 e1 e2 e3 e4 e5 hv hn hb hB hd
      have HQ2 := Lib.hid (heap_new wr (.cells #[.int .i64 0, .int .i64 0, .bool false, .bool false, .bool false, .int .i64 0] 31))
      have HAL : Hid ((#[.int .i64 ya, .int .i64 yb, .bool yw, .bool yu, .bool yx, .int .i64 yk] : Array Value).all (·.oneCell') = true) := Lib.hid (by simp [Value.oneCell'])
      obtain ⟨mm, hmm⟩ : ∃ mm, mm = O.length := ⟨_, rfl⟩
      rw [← hmm] at HO hok ⊢
      have HMM := Lib.hid hmm
      clear hmm
      go_upto_region 6 with (first | ((refine wpList_store_row rfl 31 (.tmp 5) (.tmp 12) rfl wr.heap.size #[.int .i64 ya, .int .i64 yb, .bool yw, .bool yu, .bool yx, .int .i64 yk] rfl rfl 31 #[.int .i64 0, .int .i64 0, .bool false, .bool false, .bool false, .int .i64 0] HQ2.out sz_rg rfl HAL.out ?_); rw [World.setRow_alloc_new]))
      obtain ⟨q, hq⟩ : ∃ q, q = wr.heap.size := ⟨_, rfl⟩
      obtain ⟨W0, hW⟩ : ∃ W, W = wr.alloc (.cells #[.int .i64 ya, .int .i64 yb, .bool yw, .bool yu, .bool yx, .int .i64 yk] 31) := ⟨_, rfl⟩
      have HW := heap_new wr (.cells #[.int .i64 ya, .int .i64 yb, .bool yw, .bool yu, .bool yx, .int .i64 yk] 31)
      have hB2 : Below wr.heap.size wr W0 := by rw [hW]; exact (Below.refl _ _).alloc (Nat.le_refl _) _
      have hB3 : Below w.heap.size w W0 := by rw [hW]; have := HB.out; go_grown
      rw [← hW, ← hq] at HW ⊢
      have HO2 := Lib.hid (HO.out.below hB2)
      have z0 : W0.cell? ⟨q, 0, none⟩ = some (.int .i64 ya) := cell_heap HW 0
      have z1 : W0.cell? ⟨q, 1, none⟩ = some (.int .i64 yb) := cell_heap HW 1
      have z2 : W0.cell? ⟨q, 2, none⟩ = some (.bool yw) := cell_heap HW 2
      have z3 : W0.cell? ⟨q, 3, none⟩ = some (.bool yu) := cell_heap HW 3
      have z4 : W0.cell? ⟨q, 4, none⟩ = some (.bool yx) := cell_heap HW 4
      have z5 : W0.cell? ⟨q, 5, none⟩ = some (.int .i64 yk) := cell_heap HW 5
      have hqw : q < W0.heap.size := heap_lt HW
      have HWQ := Lib.hid HW
      have HB3 := Lib.hid hB3
      have hws := hB3.size
      clear hW hB2 hB3 HQ2 HW hsz HAL c0 c1 c2 c3 c4 c5 HO HB hq hbw3
      have hab := @Abv.cell W0
      rcases List.eq_nil_or_concat O with hO | ⟨O1, a, hO⟩
      · subst hO
        obtain rfl : mm = 0 := HMM.out
        refine wp_region_abv (by kernel_rfl) (by kernel_rfl) ?_
        repeat (first | go_big_quiet_skip | (go_big_quiet_want; go_big_quiet_op; first | go_big_quiet_on | go_big_quiet_call ((fail))))
        refine wpQuiet_nil ?_
        rintro W5 ⟨⟨_, hB5⟩, rfl⟩
        have HB5 := Lib.hid (b_then HB3.out hB5)
        obtain ⟨A4, c4, w4, ha, ho, hb4, hs4, _⟩ := rgapp w.heap.size w (Nat.le_refl _) (HO2.out.below hB5) HB5.out ⟨ya, yb, yw, yu, yx, yk⟩ (by simp)
        simp only [List.length_nil, Nat.zero_add] at ha ho
        have HA := Lib.hid ha
        have zz := cell_heap (heap_below hB5 HWQ.out)
        have y0 := zz 0
        have y1 := zz 1
        have y2 := zz 2
        have y3 := zz 3
        have y4 := zz 4
        have y5 := zz 5
        simp at y0 y1 y2 y3 y4 y5
        clear ha hB5 zz z0 z1 z2 z3 z4 z5 hab
        go_wp2_with (at_builtin; refine wpList_app rfl (.tmp 35) (.tmp 37) 23 rfl rfl rfl HA.out ?_)
        go_roundw
        case rel => exact ⟨k + 1, [⟨ya, yb, yw, yu, yx, yk⟩], _, _, by go_num, rfl, by omega, by simp, hb4, Lib.hid ho, Lib.hid (by rw [HF.out, HD.out]; rfl)⟩
        case measure => simp [intOf]; omega
      · rw [List.concat_eq_append] at hO
        obtain ⟨m, hm⟩ : ∃ m, m = O1.length := ⟨_, rfl⟩
        have hmm : mm = m + 1 := by rw [HMM.out, hO, hm]; simp
        have hml : O[m]? = some a := by rw [hO, hm]; simp
        obtain ⟨g, cg, hv, hg, hgw, x0, x1, x2, x3, x4, x5⟩ := HO2.out.cell hml
        have hrow := HO2.out
        obtain ⟨rfl, rfl⟩ : A3 = some ⟨g, 0, none⟩ ∧ c3 = cg := by injection hv with i1 _ i3; exact ⟨i1, i3⟩
        have hfz := hrow.frozen (m * 6 + 1)
        obtain ⟨aa, ab, aw, au, ax, ak⟩ := a
        simp only at x0 x1 x2 x3 x4 x5
        have g1 : decide (0 < mm) = true := decide_eq_true (by omega)
        have g2 : IntKind.i64.wrap ((mm : Int) - 1) = (m : Int) := by rw [IntKind.wrap_i64]; omega
        have g3 : (m : Int) < (mm : Int) := by omega
        have g4 : m < mm := by omega
        have g5 : decide (m < mm) = true := decide_eq_true g4
        have HO1 := Lib.hid hO
        have HM := Lib.hid hm
        have HMZ := Lib.hid hmm
        have hj : ∀ W, Calls Try.prog 25 #[.agg #[.int .i64 aa, .int .i64 ab, .bool aw, .bool au, .bool ax, .int .i64 ak], .agg #[.int .i64 ya, .int .i64 yb, .bool yw, .bool yu, .bool yx, .int .i64 yk]] W fun e w' => e = .returned (.bool (joinB ⟨aa, ab, aw, au, ax, ak⟩ ⟨ya, yb, yw, yu, yx, yk⟩)) ∧ Below W.heap.size W w' := fun W => joins_any W ⟨aa, ab, aw, au, ax, ak⟩ ⟨ya, yb, yw, yu, yx, yk⟩
        have HJ := Lib.hid hj
        obtain ⟨jb, hjb⟩ : ∃ jb, jb = joinB ⟨aa, ab, aw, au, ax, ak⟩ ⟨ya, yb, yw, yu, yx, yk⟩ := ⟨_, rfl⟩
        rw [← hjb] at HJ
        have HJB := Lib.hid hjb
        have HF1 := Lib.hid hfz
        have HX1 := Lib.hid x1
        clear hj hjb hO hm hmm hml hv hrow hfz
        refine wp_region_abv (by kernel_rfl) (by kernel_rfl) ?_
        repeat (first | go_big_quiet_skip | (go_big_quiet_want; go_big_quiet_op; first | go_big_quiet_on | go_big_quiet_call ((refine abv_call (HJ.out _)))))
        refine wpQuiet_nil ?_
        rintro W5 ⟨⟨_, hB5⟩, rfl⟩
        have HB5 := Lib.hid (b_then HB3.out hB5)
        have HO5 := Lib.hid (HO2.out.below hB5)
        have zz := cell_heap (heap_below hB5 HWQ.out)
        have y0 := zz 0
        have y1 := zz 1
        have y2 := zz 2
        have y3 := zz 3
        have y4 := zz 4
        have y5 := zz 5
        simp at y0 y1 y2 y3 y4 y5
        obtain ⟨hc2, hf2⟩ := bcell hB5
        have v1 := (hc2 g (m * 6 + 1) hgw).trans HX1.out
        have v2 := (hf2 g (m * 6 + 1) hgw).trans HF1.out
        have hg5 := hB5.size
        clear hc2 hf2 hB5 zz z0 z1 z2 z3 z4 z5 x0 x1 x2 x3 x4 x5 hab
        cases jb
        · obtain ⟨A4, c4, w4, ha, ho, hb4, hs4, _⟩ := rgapp w.heap.size w (Nat.le_refl _) (HMM.out ▸ HO5.out) HB5.out ⟨ya, yb, yw, yu, yx, yk⟩ (by rw [← HMM.out]; omega)
          rw [← HMM.out] at ha ho
          have HA := Lib.hid ha
          clear ha v1 v2
          go_wp2_with (at_builtin; refine wpList_app rfl (.tmp 35) (.tmp 37) 23 rfl rfl rfl HA.out ?_)
          go_roundw
          case rel => exact ⟨k + 1, O ++ [⟨ya, yb, yw, yu, yx, yk⟩], _, _, by go_num, by rw [List.length_append, ← HMM.out]; rfl, by omega, by rw [List.length_append, ← HMM.out]; simp; omega, hb4, Lib.hid (by rw [List.length_append, ← HMM.out]; exact ho), Lib.hid (by rw [HF.out, HD.out, HO1.out, mstep_not HJB.out.symm])⟩
          case measure => simp [intOf]; omega
        · go_wp2_with fail
          go_roundw
          case rel => exact ⟨k + 1, O1 ++ [⟨aa, yb, aw, au, ax, ak⟩], _, _, by go_num, by rw [List.length_append, ← HM.out, HMZ.out]; rfl, by omega, by rw [List.length_append, ← HM.out]; simp; omega, by have := HB5.out; go_grown, Lib.hid (by
            have h5 := HO5.out
            rw [HO1.out, HMZ.out, HM.out] at h5
            have h6 := rg_setb h5 yb
            rw [List.length_append, HM.out]
            exact h6), Lib.hid (by rw [HF.out, HD.out, HO1.out, mstep_join HJB.out.symm])⟩
          case measure => simp [intOf]; omega
    · have f0 : decide (k < R.length) = false := decide_eq_false hlt
      have HR : Hid (mergeL R = O) := Lib.hid (by rw [HF.out, List.drop_of_length_le (by omega)]; rfl)
      obtain ⟨n, hn⟩ : ∃ n, n = R.length := ⟨_, rfl⟩
      rw [← hn] at hlt hle hl f0 ⊢
      clear hn hB
      go_wp2_with fail
      go_returns
      exact ⟨A3, c3, ret_v (by rw [HR.out]; rfl), by rw [HR.out]; exact HO.out, by have := HB.out; go_grown⟩
end Go.Proofs.Ytoodjhomekeekaa
