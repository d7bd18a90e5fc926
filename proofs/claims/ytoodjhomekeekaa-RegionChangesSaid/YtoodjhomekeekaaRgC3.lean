/- The document's Error. Conditions: at most 100 regions, numbers of at most 2^41; the change is 1, 2 or 3. Printed by gen/rgerr.py. -/
import Derived.Test.YtoodjhomekeekaaRgC2
import Derived.Deep.DeepCutAuto
import Derived.Deep.WholeRow
import Derived.Laws.Rows
import Derived.Laws.Tables
namespace Go.Proofs.Ytoodjhomekeekaa
open Go.ChangeShapes Go.WideShapes Go.ChangeAt Go.RowKit
set_option linter.unusedVariables false
set_option linter.unusedSimpArgs false
set_option maxHeartbeats 8000000 in
theorem err_any {w : World} {base : Nat} {v : Value} {R : List RG} (h : rfL w base v R) (hl : R.length ≤ 100) (hs : smlL R) (f t how : Int) (hf : sml f) (ht : sml t) (hhow : how = 1 ∨ how = 2 ∨ how = 3) (x : RG) :
    Calls Try.prog 21 #[v, .int .i64 f, .int .i64 t, .int .i64 how, x.val] w fun e w' => e = .returned (.int .i64 (errL R f t how x)) ∧ Below w.heap.size w w' := by
  obtain ⟨A, cap, rfl⟩ := h.form
  have H := Lib.hid h
  obtain ⟨g, hg⟩ : ∃ g, g = w.heap.size := ⟨_, rfl⟩
  obtain ⟨W0, hW0⟩ : ∃ W, W = w.alloc (.cells x.cl 36) := ⟨_, rfl⟩
  have hx0 : W0.heap[g]? = some (.cells x.cl 36 (0, 0)) := by rw [hW0, hg]; exact heap_new _ _
  have hB0 : Below w.heap.size w W0 := by rw [hW0]; exact (Below.refl _ _).alloc (Nat.le_refl _) _
  have hrt := fun W => rRight_any W f t hf ht
  have hv0 := h.below hB0
  have hgd : ∀ W, Below W0.heap.size W0 W → Calls Try.prog 14 #[.slice A R.length cap] W fun e w' => e = .returned (.bool (goodB R)) ∧ Below W.heap.size W w' := fun W hW => rGood_any (hv0.below hW) (by omega)
  have hct : ∀ W, Below W0.heap.size W0 W → Calls Try.prog 17 #[.slice A R.length cap, .int .i64 f, .int .i64 t] W fun e w' => e = .returned (.int .i64 (cntL f t R)) ∧ Below W.heap.size W w' := fun W hW => rCount_any (hv0.below hW) (by omega) hs f t hf ht
  obtain ⟨rb, hrb⟩ : ∃ rb, rightB f t = rb := ⟨_, rfl⟩
  obtain ⟨gb, hgb⟩ : ∃ gb, goodB R = gb := ⟨_, rfl⟩
  obtain ⟨cn, hcn⟩ : ∃ cn, cntL f t R = cn := ⟨_, rfl⟩
  rw [hrb] at hrt
  rw [hgb] at hgd
  rw [hcn] at hct
  have hsub : IntKind.i64.wrap (t - f) = t - f := by unfold sml at hf ht; rw [IntKind.wrap_i64]; omega
  obtain ⟨df, hdf⟩ : ∃ df, df = t - f := ⟨_, rfl⟩
  have s1 : IntKind.i64.wrap (t - f) = df := by rw [hdf]; exact hsub
  have s2 : wrap64 (t - f) = df := by rw [← IntWalk.i64_left]; exact s1
  have HRT := Lib.hid hrt
  have HGD := Lib.hid hgd
  have HCT := Lib.hid hct
  have HRB := Lib.hid hrb
  have HGB := Lib.hid hgb
  have HCN := Lib.hid hcn
  have HDF := Lib.hid hdf
  have HB0 := Lib.hid hB0
  have HV0 := Lib.hid hv0
  have HLL := Lib.hid hl
  have HWW := Lib.hid hW0
  have HGG := Lib.hid hg
  obtain ⟨xa, xb, xw, xu, xx, xk⟩ := x
  have HX0 : Hid (W0.heap[g]? = some (.cells #[.int .i64 xa, .int .i64 xb, .bool xw, .bool xu, .bool xx, .int .i64 xk] 36 (0, 0))) := Lib.hid hx0
  have hxv2 : RG.val ⟨xa, xb, xw, xu, xx, xk⟩ = .agg #[.int .i64 xa, .int .i64 xb, .bool xw, .bool xu, .bool xx, .int .i64 xk] := rfl
  rw [hxv2]
  clear h hs hf ht hx0 hB0 hrt hv0 hgd hct hrb hgb hcn hsub hdf hW0 hg hxv2
  go_enter Try.func21, Try.ntmps21
  go_upto_region 1 with fail
  have hww2 : w.alloc (.cells #[.int .i64 xa, .int .i64 xb, .bool xw, .bool xu, .bool xx, .int .i64 xk] 36) = W0 := HWW.out.symm
  rw [hww2, ← HGG.out]
  clear hww2
  go_wp2_with fail
  refine (HRT.out W0).mono ?_
  rintro e w1 ⟨rfl, hw⟩
  subst hw
  cases rb
  · have HE : Hid (errL R f t how ⟨xa, xb, xw, xu, xx, xk⟩ = 1) := Lib.hid (by unfold errL; rw [HRB.out]; rfl)
    go_wp2_with fail
    go_returns
    exact ⟨ret_v (by rw [HE.out]; rfl), HB0.out⟩
  go_wp2_with fail
  refine (HGD.out W0 (Below.refl _ _)).mono ?_
  rintro e w2 ⟨rfl, hb2⟩
  have HB2 := Lib.hid hb2
  clear hb2
  cases gb
  · have HE : Hid (errL R f t how ⟨xa, xb, xw, xu, xx, xk⟩ = 3) := Lib.hid (by unfold errL; rw [HRB.out, HGB.out]; rfl)
    go_wp2_with fail
    go_returns
    exact ⟨ret_v (by rw [HE.out]; rfl), b_then HB0.out HB2.out⟩
  rcases hhow with rfl | rfl | rfl
  · go_wp2_with fail
    refine (HCT.out w2 HB2.out).mono ?_
    rintro e w3 ⟨rfl, hb3⟩
    have HB3 := Lib.hid (b_then HB2.out hb3)
    clear hb3
    rcases Bool.eq_false_or_eq_true (decide (0 < cn)) with t1 | t1
    · have hp := of_decide_eq_true t1
      have HE : Hid (errL R f t 1 ⟨xa, xb, xw, xu, xx, xk⟩ = 6) := Lib.hid (by unfold errL; rw [HRB.out, HGB.out, if_neg (by simp), if_neg (by simp), if_pos ⟨rfl, by rw [HCN.out]; exact hp⟩])
      clear hp
      go_wp2_with fail
      go_returns
      exact ⟨ret_v (by rw [HE.out]; rfl), b_then HB0.out HB3.out⟩
    · have hp : ¬ 0 < cn := of_decide_eq_false t1
      have HP := Lib.hid hp
      clear hp
      have hxh := heap_below HB3.out HX0.out
      have x_0 : w3.cell? ⟨g, 0, none⟩ = some (.int .i64 xa) := by have := cell_heap hxh 0; simpa using this
      have x_1 : w3.cell? ⟨g, 1, none⟩ = some (.int .i64 xb) := by have := cell_heap hxh 1; simpa using this
      have x_2 : w3.cell? ⟨g, 2, none⟩ = some (.bool xw) := by have := cell_heap hxh 2; simpa using this
      have x_3 : w3.cell? ⟨g, 3, none⟩ = some (.bool xu) := by have := cell_heap hxh 3; simpa using this
      have x_4 : w3.cell? ⟨g, 4, none⟩ = some (.bool xx) := by have := cell_heap hxh 4; simpa using this
      have x_5 : w3.cell? ⟨g, 5, none⟩ = some (.int .i64 xk) := by have := cell_heap hxh 5; simpa using this
      have hgw9 : g < w3.heap.size := heap_lt hxh
      have hch := change_any (HV0.out.below HB3.out) (by have := HLL.out; omega) f t 1 (by omega) ⟨xa, xb, xw, xu, xx, xk⟩
      obtain ⟨C, hC⟩ : ∃ C, C = changeL R f t 1 ⟨xa, xb, xw, xu, xx, xk⟩ := ⟨_, rfl⟩
      rw [← hC] at hch
      have HCH := Lib.hid hch
      have HC := Lib.hid hC
      clear hxh hch hC
      go_wp2_with fail
      refine HCH.out.mono ?_
      rintro e v9 ⟨A9, c9, rfl, hr9, hb9⟩
      have HB9 := Lib.hid (b_then HB3.out hb9)
      clear hr9 hb9 x_0 x_1 x_2 x_3 x_4 x_5
      obtain ⟨m, hm⟩ : ∃ m, m = C.length := ⟨_, rfl⟩
      rw [← hm]
      have HM := Lib.hid hm
      clear hm
      by_cases h64 : 64 < m
      · have d64 : decide (64 < (m : Int)) = true := decide_eq_true (by omega)
        have HE : Hid (errL R f t 1 ⟨xa, xb, xw, xu, xx, xk⟩ = 4) := Lib.hid (by unfold errL; rw [HRB.out, HGB.out, if_neg (by simp), if_neg (by simp), if_neg (fun e => absurd e.2 (by rw [HCN.out]; have := HP.out; omega)), if_neg (by simp), if_pos (by rw [← HC.out, ← HM.out]; exact h64)])
        go_wp2_with fail
        go_returns
        exact ⟨ret_v (by rw [HE.out]; rfl), b_then HB0.out HB9.out⟩
      · have d64 : decide (64 < (m : Int)) = false := decide_eq_false (by omega)
        have HE : Hid (errL R f t 1 ⟨xa, xb, xw, xu, xx, xk⟩ = 0) := Lib.hid (by unfold errL; rw [HRB.out, HGB.out, if_neg (by simp), if_neg (by simp), if_neg (fun e => absurd e.2 (by rw [HCN.out]; have := HP.out; omega)), if_neg (by simp), if_neg (by rw [← HC.out, ← HM.out]; exact h64)])
        go_wp2_with fail
        go_returns
        exact ⟨ret_v (by rw [HE.out]; rfl), b_then HB0.out HB9.out⟩
  · have hxh := heap_below HB2.out HX0.out
    have x_0 : w2.cell? ⟨g, 0, none⟩ = some (.int .i64 xa) := by have := cell_heap hxh 0; simpa using this
    have x_1 : w2.cell? ⟨g, 1, none⟩ = some (.int .i64 xb) := by have := cell_heap hxh 1; simpa using this
    have x_2 : w2.cell? ⟨g, 2, none⟩ = some (.bool xw) := by have := cell_heap hxh 2; simpa using this
    have x_3 : w2.cell? ⟨g, 3, none⟩ = some (.bool xu) := by have := cell_heap hxh 3; simpa using this
    have x_4 : w2.cell? ⟨g, 4, none⟩ = some (.bool xx) := by have := cell_heap hxh 4; simpa using this
    have x_5 : w2.cell? ⟨g, 5, none⟩ = some (.int .i64 xk) := by have := cell_heap hxh 5; simpa using this
    have hgw9 : g < w2.heap.size := heap_lt hxh
    have hch := change_any (HV0.out.below HB2.out) (by have := HLL.out; omega) f t 2 (by omega) ⟨xa, xb, xw, xu, xx, xk⟩
    obtain ⟨C, hC⟩ : ∃ C, C = changeL R f t 2 ⟨xa, xb, xw, xu, xx, xk⟩ := ⟨_, rfl⟩
    rw [← hC] at hch
    have HCH := Lib.hid hch
    have HC := Lib.hid hC
    clear hxh hch hC
    go_wp2_with fail
    refine HCH.out.mono ?_
    rintro e v9 ⟨A9, c9, rfl, hr9, hb9⟩
    have HB9 := Lib.hid (b_then HB2.out hb9)
    clear hr9 hb9 x_0 x_1 x_2 x_3 x_4 x_5
    obtain ⟨m, hm⟩ : ∃ m, m = C.length := ⟨_, rfl⟩
    rw [← hm]
    have HM := Lib.hid hm
    clear hm
    by_cases h64 : 64 < m
    · have d64 : decide (64 < (m : Int)) = true := decide_eq_true (by omega)
      have HE : Hid (errL R f t 2 ⟨xa, xb, xw, xu, xx, xk⟩ = 4) := Lib.hid (by unfold errL; rw [HRB.out, HGB.out, if_neg (by simp), if_neg (by simp), if_neg (by simp), if_neg (by simp), if_pos (by rw [← HC.out, ← HM.out]; exact h64)])
      go_wp2_with fail
      go_returns
      exact ⟨ret_v (by rw [HE.out]; rfl), b_then HB0.out HB9.out⟩
    · have d64 : decide (64 < (m : Int)) = false := decide_eq_false (by omega)
      have HE : Hid (errL R f t 2 ⟨xa, xb, xw, xu, xx, xk⟩ = 0) := Lib.hid (by unfold errL; rw [HRB.out, HGB.out, if_neg (by simp), if_neg (by simp), if_neg (by simp), if_neg (by simp), if_neg (by rw [← HC.out, ← HM.out]; exact h64)])
      go_wp2_with fail
      go_returns
      exact ⟨ret_v (by rw [HE.out]; rfl), b_then HB0.out HB9.out⟩
  · go_wp2_with fail
    refine (HCT.out w2 HB2.out).mono ?_
    rintro e w3 ⟨rfl, hb3⟩
    have HB3 := Lib.hid (b_then HB2.out hb3)
    clear hb3
    rcases Bool.eq_false_or_eq_true (cn != df) with t1 | t1
    · have hp : cn ≠ df := by simpa using t1
      have HE : Hid (errL R f t 3 ⟨xa, xb, xw, xu, xx, xk⟩ = 5) := Lib.hid (by unfold errL; rw [HRB.out, HGB.out, if_neg (by simp), if_neg (by simp), if_neg (by simp), if_pos ⟨rfl, by rw [HCN.out, ← HDF.out]; exact hp⟩])
      clear hp
      go_wp2_with fail
      go_returns
      exact ⟨ret_v (by rw [HE.out]; rfl), b_then HB0.out HB3.out⟩
    · have hp : cn = df := by simpa using t1
      have HP : Hid (cntL f t R = t - f) := Lib.hid (by rw [HCN.out, hp, HDF.out])
      clear hp
      have hxh := heap_below HB3.out HX0.out
      have x_0 : w3.cell? ⟨g, 0, none⟩ = some (.int .i64 xa) := by have := cell_heap hxh 0; simpa using this
      have x_1 : w3.cell? ⟨g, 1, none⟩ = some (.int .i64 xb) := by have := cell_heap hxh 1; simpa using this
      have x_2 : w3.cell? ⟨g, 2, none⟩ = some (.bool xw) := by have := cell_heap hxh 2; simpa using this
      have x_3 : w3.cell? ⟨g, 3, none⟩ = some (.bool xu) := by have := cell_heap hxh 3; simpa using this
      have x_4 : w3.cell? ⟨g, 4, none⟩ = some (.bool xx) := by have := cell_heap hxh 4; simpa using this
      have x_5 : w3.cell? ⟨g, 5, none⟩ = some (.int .i64 xk) := by have := cell_heap hxh 5; simpa using this
      have hgw9 : g < w3.heap.size := heap_lt hxh
      have hch := change_any (HV0.out.below HB3.out) (by have := HLL.out; omega) f t 3 (by omega) ⟨xa, xb, xw, xu, xx, xk⟩
      obtain ⟨C, hC⟩ : ∃ C, C = changeL R f t 3 ⟨xa, xb, xw, xu, xx, xk⟩ := ⟨_, rfl⟩
      rw [← hC] at hch
      have HCH := Lib.hid hch
      have HC := Lib.hid hC
      clear hxh hch hC
      go_wp2_with fail
      refine HCH.out.mono ?_
      rintro e v9 ⟨A9, c9, rfl, hr9, hb9⟩
      have HB9 := Lib.hid (b_then HB3.out hb9)
      clear hr9 hb9 x_0 x_1 x_2 x_3 x_4 x_5
      obtain ⟨m, hm⟩ : ∃ m, m = C.length := ⟨_, rfl⟩
      rw [← hm]
      have HM := Lib.hid hm
      clear hm
      by_cases h64 : 64 < m
      · have d64 : decide (64 < (m : Int)) = true := decide_eq_true (by omega)
        have HE : Hid (errL R f t 3 ⟨xa, xb, xw, xu, xx, xk⟩ = 4) := Lib.hid (by unfold errL; rw [HRB.out, HGB.out, if_neg (by simp), if_neg (by simp), if_neg (by simp), if_neg (fun e => e.2 HP.out), if_pos (by rw [← HC.out, ← HM.out]; exact h64)])
        go_wp2_with fail
        go_returns
        exact ⟨ret_v (by rw [HE.out]; rfl), b_then HB0.out HB9.out⟩
      · have d64 : decide (64 < (m : Int)) = false := decide_eq_false (by omega)
        have HE : Hid (errL R f t 3 ⟨xa, xb, xw, xu, xx, xk⟩ = 0) := Lib.hid (by unfold errL; rw [HRB.out, HGB.out, if_neg (by simp), if_neg (by simp), if_neg (by simp), if_neg (fun e => e.2 HP.out), if_neg (by rw [← HC.out, ← HM.out]; exact h64)])
        go_wp2_with fail
        go_returns
        exact ⟨ret_v (by rw [HE.out]; rfl), b_then HB0.out HB9.out⟩
end Go.Proofs.Ytoodjhomekeekaa
