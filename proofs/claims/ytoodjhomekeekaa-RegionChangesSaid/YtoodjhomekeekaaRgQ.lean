/- Cut and Protect. Condition: at most 900 regions. Printed by gen/rgcut.py. -/
import Derived.Test.YtoodjhomekeekaaRgP
import Derived.Test.YtoodjhomekeekaaRgS
import Derived.Deep.DeepCutAuto
import Derived.Deep.WholeRow
import Derived.Laws.Rows
import Derived.Laws.Tables
namespace Go.Proofs.Ytoodjhomekeekaa
open Go.ChangeShapes Go.WideShapes Go.ChangeAt Go.RowKit
set_option linter.unusedVariables false
set_option linter.unusedSimpArgs false
def cutC (d : RG) : RG × Bool := (d, false)
def proC (mw mu mx : Bool) (d : RG) : RG × Bool := (⟨d.a, d.b, mw, mu, mx, d.k⟩, true)
def cutE (R : List RG) (f t : Int) : Int := if !rightB f t then 1 else if !goodB R then 3 else if 64 < (splitL cutC f t R).length then 4 else 0
def cutO (R : List RG) (f t : Int) : List RG := if cutE R f t = 0 then splitL cutC f t R else []
theorem cutE_1 {R : List RG} {f t : Int} (h : rightB f t = false) : cutE R f t = 1 ∧ cutO R f t = [] := by
  have : cutE R f t = 1 := by unfold cutE; simp [h]
  exact ⟨this, by unfold cutO; rw [this]; rfl⟩
theorem cutE_3 {R : List RG} {f t : Int} (h : rightB f t = true) (h2 : goodB R = false) : cutE R f t = 3 ∧ cutO R f t = [] := by
  have : cutE R f t = 3 := by unfold cutE; simp [h, h2]
  exact ⟨this, by unfold cutO; rw [this]; rfl⟩
theorem cutE_4 {R : List RG} {f t : Int} (h : rightB f t = true) (h2 : goodB R = true) (h4 : 64 < (splitL cutC f t R).length) : cutE R f t = 4 ∧ cutO R f t = [] := by
  have : cutE R f t = 4 := by unfold cutE; simp [h, h2, h4]
  exact ⟨this, by unfold cutO; rw [this]; rfl⟩
theorem cutE_0 {R : List RG} {f t : Int} (h : rightB f t = true) (h2 : goodB R = true) (h4 : ¬ 64 < (splitL cutC f t R).length) : cutE R f t = 0 ∧ cutO R f t = splitL cutC f t R := by
  have : cutE R f t = 0 := by unfold cutE; simp [h, h2, h4]
  exact ⟨this, by unfold cutO; rw [if_pos this]⟩
def proE (R : List RG) (f t : Int) (mw mu mx : Bool) : Int := if !rightB f t then 1 else if !goodB R then 3 else if cntL f t R ≠ t - f then 5 else if 64 < (splitL (proC mw mu mx) f t R).length then 4 else 0
def proO (R : List RG) (f t : Int) (mw mu mx : Bool) : List RG := if proE R f t mw mu mx = 0 then splitL (proC mw mu mx) f t R else []
theorem proE_1 {R : List RG} {f t : Int} {mw mu mx : Bool} (h : rightB f t = false) : proE R f t mw mu mx = 1 ∧ proO R f t mw mu mx = [] := by
  have : proE R f t mw mu mx = 1 := by unfold proE; simp [h]
  exact ⟨this, by unfold proO; rw [this]; rfl⟩
theorem proE_3 {R : List RG} {f t : Int} {mw mu mx : Bool} (h : rightB f t = true) (h2 : goodB R = false) : proE R f t mw mu mx = 3 ∧ proO R f t mw mu mx = [] := by
  have : proE R f t mw mu mx = 3 := by unfold proE; simp [h, h2]
  exact ⟨this, by unfold proO; rw [this]; rfl⟩
theorem proE_5 {R : List RG} {f t : Int} {mw mu mx : Bool} (h : rightB f t = true) (h2 : goodB R = true) (h3 : cntL f t R ≠ t - f) : proE R f t mw mu mx = 5 ∧ proO R f t mw mu mx = [] := by
  have : proE R f t mw mu mx = 5 := by unfold proE; simp [h, h2, h3]
  exact ⟨this, by unfold proO; rw [this]; rfl⟩
theorem proE_4 {R : List RG} {f t : Int} {mw mu mx : Bool} (h : rightB f t = true) (h2 : goodB R = true) (h3 : cntL f t R = t - f) (h4 : 64 < (splitL (proC mw mu mx) f t R).length) : proE R f t mw mu mx = 4 ∧ proO R f t mw mu mx = [] := by
  have : proE R f t mw mu mx = 4 := by unfold proE; simp [h, h2, h3, h4]
  exact ⟨this, by unfold proO; rw [this]; rfl⟩
theorem proE_0 {R : List RG} {f t : Int} {mw mu mx : Bool} (h : rightB f t = true) (h2 : goodB R = true) (h3 : cntL f t R = t - f) (h4 : ¬ 64 < (splitL (proC mw mu mx) f t R).length) : proE R f t mw mu mx = 0 ∧ proO R f t mw mu mx = splitL (proC mw mu mx) f t R := by
  have : proE R f t mw mu mx = 0 := by unfold proE; simp [h, h2, h3, h4]
  exact ⟨this, by unfold proO; rw [if_pos this]⟩
theorem goodB_len {R : List RG} (h : goodB R = true) : R.length ≤ 64 := (of_decide_eq_true h).1
theorem goodB_ok {R : List RG} (h : goodB R = true) : ∀ d ∈ R, okB d = true := by
  intro d hd
  obtain ⟨j, hj, rfl⟩ := List.mem_iff_getElem.1 hd
  have := (of_decide_eq_true h).2 j hj
  cases j with
  | zero => rwa [goodAt_0 hj] at this
  | succ p => rw [goodAt_s hj] at this; exact (Bool.and_eq_true _ _ ▸ this).1
theorem goodB_sml {R : List RG} (h : goodB R = true) : smlL R := by
  intro d hd
  have := goodB_ok h d hd
  unfold okB at this
  simp only [Bool.and_eq_true, decide_eq_true_eq] at this
  unfold sml
  omega
set_option maxHeartbeats 1000000 in
theorem cut_tells (w : World) : TellsC w 32 #[] cutC := by
  refine ⟨enters_of Try.func32 (by kernel_rfl) rfl, ?_⟩
  intro W d hb
  obtain ⟨ya, yb, yw, yu, yx, yk⟩ := d
  clear hb
  unfold cutC RG.val
  simp only [Array.append_empty]
  go_enter Try.func32, Try.ntmps32
  go_wp2_with fail
  go_returns
  exact ⟨rfl, by go_grown⟩
set_option maxHeartbeats 1000000 in
theorem pro_tells (w : World) (gm : Nat) {mw mu mx : Bool} (hm : w.heap[gm]? = some (.cells #[.bool mw, .bool mu, .bool mx] 29 (0, 0))) : TellsC w 33 #[.pointer (some ⟨gm, 0, none⟩)] (proC mw mu mx) := by
  refine ⟨enters_of Try.func33 (by kernel_rfl) rfl, ?_⟩
  intro W d hb
  obtain ⟨ya, yb, yw, yu, yx, yk⟩ := d
  have hm2 := heap_below hb hm
  have m0 : W.cell? ⟨gm, 0, none⟩ = some (.bool mw) := by have := cell_heap hm2 0; simpa using this
  have m1 : W.cell? ⟨gm, 1, none⟩ = some (.bool mu) := by have := cell_heap hm2 1; simpa using this
  have m2 : W.cell? ⟨gm, 2, none⟩ = some (.bool mx) := by have := cell_heap hm2 2; simpa using this
  have hgm : gm < W.heap.size := heap_lt hm2
  clear hb hm hm2
  unfold proC RG.val
  simp only
  go_enter Try.func33, Try.ntmps33
  go_wp2_with fail
  go_returns
  exact ⟨rfl, by go_grown⟩
set_option maxHeartbeats 8000000 in
theorem cut_any {w : World} {base : Nat} {v : Value} {R : List RG} (h : rgL w base v R) (hl : R.length ≤ 900) (f t : Int) :
    Calls Try.prog 19 #[v, .agg #[.int .i64 f, .int .i64 t]] w fun e w' => ∃ A c, e = .returned (.tuple #[.slice A (cutO R f t).length c, .int .i64 (cutE R f t)]) ∧ rgL w' w.heap.size (.slice A (cutO R f t).length c) (cutO R f t) ∧ Below w.heap.size w w' := by
  obtain ⟨A, cap, rfl⟩ := h.form
  have H := Lib.hid h
  obtain ⟨W0, hW0⟩ : ∃ W, W = w.alloc (.cells #[.int .i64 f, .int .i64 t] 27) := ⟨_, rfl⟩
  obtain ⟨g, hg⟩ : ∃ g, g = w.heap.size := ⟨_, rfl⟩
  have hB0 : Below w.heap.size w W0 := by rw [hW0]; exact (Below.refl _ _).alloc (Nat.le_refl _) _
  have hh0 : W0.heap[g]? = some (.cells #[.int .i64 f, .int .i64 t] 27 (0, 0)) := by rw [hW0, hg]; exact heap_new _ _
  have hG0 := h.below hB0
  have hright := fun W => right_all W f t
  have hgood : ∀ W, Below W0.heap.size W0 W → Calls Try.prog 13 #[.slice A R.length cap] W fun e w' => e = .returned (.bool (goodB R)) ∧ Below W.heap.size W w' := fun W hB => good_any (hG0.below hB) (by omega)
  obtain ⟨rb, hrb⟩ : ∃ rb, rb = rightB f t := ⟨_, rfl⟩
  obtain ⟨gb, hgb⟩ : ∃ gb, gb = goodB R := ⟨_, rfl⟩
  rw [← hrb] at hright
  rw [← hgb] at hgood
  have HR := Lib.hid hright
  have HGD := Lib.hid hgood
  have HB0 := Lib.hid hB0
  have HG0 := Lib.hid hG0
  have HH := Lib.hid hh0
  have HRB := Lib.hid hrb
  have HGB := Lib.hid hgb
  have y0 : W0.cell? ⟨g, 0, none⟩ = some (.int .i64 f) := by have := cell_heap hh0 0; simpa using this
  have y1 : W0.cell? ⟨g, 1, none⟩ = some (.int .i64 t) := by have := cell_heap hh0 1; simpa using this
  have hgw : g < W0.heap.size := heap_lt hh0
  clear h hB0 hh0 hG0 hright hgood hrb hgb
  go_enter Try.func19, Try.ntmps19
  go_upto_region 1 with fail
  rw [← hW0, ← hg]
  have HW0 := Lib.hid hW0
  have HG := Lib.hid hg
  clear hW0 hg
  go_wp2_with fail
  refine (HR.out W0).mono ?_
  rintro e w1 ⟨rfl, hb1⟩
  have HB1 := Lib.hid hb1
  clear y0 y1 hb1
  cases rb
  · have HE := Lib.hid (cutE_1 (R := R) (f := f) (t := t) HRB.out.symm)
    go_wp2_with fail
    go_returns
    exact ⟨none, 0, ret_v (by rw [HE.out.1, HE.out.2]; rfl), by rw [HE.out.2]; exact rgL.nil _ _, b_then HB0.out HB1.out⟩
  go_wp2_with fail
  refine (HGD.out w1 HB1.out).mono ?_
  rintro e w2 ⟨rfl, hb2⟩
  have HB2 := Lib.hid (b_then HB1.out hb2)
  clear hb2
  cases gb
  · have HE := Lib.hid (cutE_3 (R := R) (f := f) (t := t) HRB.out.symm HGB.out.symm)
    go_wp2_with fail
    go_returns
    exact ⟨none, 0, ret_v (by rw [HE.out.1, HE.out.2]; rfl), by rw [HE.out.2]; exact rgL.nil _ _, b_then HB0.out HB2.out⟩
  have hl64 : R.length ≤ 64 := goodB_len HGB.out.symm
  have hh2 := heap_below HB2.out HH.out
  have y0 : w2.cell? ⟨g, 0, none⟩ = some (.int .i64 f) := by have := cell_heap hh2 0; simpa using this
  have y1 : w2.cell? ⟨g, 1, none⟩ = some (.int .i64 t) := by have := cell_heap hh2 1; simpa using this
  have hgw2 : g < w2.heap.size := heap_lt hh2
  clear hh2
  go_wp2_with fail
  have hsp := split_any (HG0.out.below HB2.out) (by omega) f t 32 #[] cutC (cut_tells w2)
  obtain ⟨M, hM⟩ : ∃ M, M = splitL cutC f t R := ⟨_, rfl⟩
  rw [← hM] at hsp
  refine hsp.mono ?_
  rintro e w6 ⟨A6, c6, rfl, hr6, hb6⟩
  have HR6 := Lib.hid hr6
  have HB6 := Lib.hid (b_then HB2.out hb6)
  have HMM := Lib.hid hM
  clear hsp hM hr6 hb6 y0 y1
  obtain ⟨m, hm⟩ : ∃ m, m = M.length := ⟨_, rfl⟩
  rw [← hm]
  have HMN := Lib.hid hm
  clear hm
  go_wp2_with fail
  by_cases h64 : 64 < m
  · have HE := Lib.hid (cutE_4 (R := R) (f := f) (t := t) HRB.out.symm HGB.out.symm (by rw [← HMM.out, ← HMN.out]; exact h64))
    refine (fits_big w6 A6 m c6 h64).mono ?_
    rintro e w7 ⟨rfl, hw⟩
    obtain rfl := hw.symm
    clear hw
    go_wp2_with fail
    go_returns
    exact ⟨none, 0, ret_v (by rw [HE.out.1, HE.out.2]; rfl), by rw [HE.out.2]; exact rgL.nil _ _, b_then HB0.out HB6.out⟩
  · have HE := Lib.hid (cutE_0 (R := R) (f := f) (t := t) HRB.out.symm HGB.out.symm (by rw [← HMM.out, ← HMN.out]; exact h64))
    refine (fits_small w6 A6 m c6 (by omega)).mono ?_
    rintro e w7 ⟨rfl, hw⟩
    obtain rfl := hw.symm
    clear hw
    go_wp2_with fail
    go_returns
    exact ⟨A6, c6, ret_v (by rw [HE.out.1, HE.out.2, ← HMM.out, ← HMN.out]; rfl), by rw [HE.out.2, ← HMM.out]; exact HR6.out.mono (by have := HB0.out.size; have := HB2.out.size; omega), b_then HB0.out HB6.out⟩
set_option maxHeartbeats 8000000 in
theorem protect_any {w : World} {base : Nat} {v : Value} {R : List RG} (h : rgL w base v R) (hl : R.length ≤ 900) (f t : Int) (mw mu mx : Bool) :
    Calls Try.prog 20 #[v, .agg #[.int .i64 f, .int .i64 t], .agg #[.bool mw, .bool mu, .bool mx]] w fun e w' => ∃ A c, e = .returned (.tuple #[.slice A (proO R f t mw mu mx).length c, .int .i64 (proE R f t mw mu mx)]) ∧ rgL w' w.heap.size (.slice A (proO R f t mw mu mx).length c) (proO R f t mw mu mx) ∧ Below w.heap.size w w' := by
  obtain ⟨A, cap, rfl⟩ := h.form
  have H := Lib.hid h
  obtain ⟨w0, hw0⟩ : ∃ W, W = w.alloc (.cells #[.int .i64 f, .int .i64 t] 27) := ⟨_, rfl⟩
  obtain ⟨W0, hW0⟩ : ∃ W, W = w0.alloc (.cells #[.bool mw, .bool mu, .bool mx] 29) := ⟨_, rfl⟩
  obtain ⟨g, hg⟩ : ∃ g, g = w.heap.size := ⟨_, rfl⟩
  obtain ⟨gm, hgm⟩ : ∃ g, g = w.heap.size + 1 := ⟨_, rfl⟩
  have hB0 : Below w.heap.size w W0 := by rw [hW0, hw0]; exact ((Below.refl _ _).alloc (Nat.le_refl _) _).alloc (by rw [World.size_alloc]; omega) _
  have hh0 : W0.heap[g]? = some (.cells #[.int .i64 f, .int .i64 t] 27 (0, 0)) := by rw [hW0, hw0, hg]; exact heap_old _ _ _ (heap_new _ _)
  have hm0 : W0.heap[gm]? = some (.cells #[.bool mw, .bool mu, .bool mx] 29 (0, 0)) := by rw [hW0, hw0, hgm]; exact heap_two _ _ _
  have hG0 := h.below hB0
  have hright := fun W => right_all W f t
  have hgood : ∀ W, Below W0.heap.size W0 W → Calls Try.prog 13 #[.slice A R.length cap] W fun e w' => e = .returned (.bool (goodB R)) ∧ Below W.heap.size W w' := fun W hB => good_any (hG0.below hB) (by omega)
  obtain ⟨rb, hrb⟩ : ∃ rb, rb = rightB f t := ⟨_, rfl⟩
  obtain ⟨gb, hgb⟩ : ∃ gb, gb = goodB R := ⟨_, rfl⟩
  rw [← hrb] at hright
  rw [← hgb] at hgood
  have HR := Lib.hid hright
  have HGD := Lib.hid hgood
  have HB0 := Lib.hid hB0
  have HG0 := Lib.hid hG0
  have HH := Lib.hid hh0
  have HRB := Lib.hid hrb
  have HGB := Lib.hid hgb
  have y0 : W0.cell? ⟨g, 0, none⟩ = some (.int .i64 f) := by have := cell_heap hh0 0; simpa using this
  have y1 : W0.cell? ⟨g, 1, none⟩ = some (.int .i64 t) := by have := cell_heap hh0 1; simpa using this
  have hgw : g < W0.heap.size := heap_lt hh0
  have HM0 := Lib.hid hm0
  have hgmw : gm < W0.heap.size := heap_lt hm0
  clear h hB0 hh0 hG0 hright hgood hrb hgb hm0
  go_enter Try.func20, Try.ntmps20
  go_upto_region 1 with fail
  rw [← hw0, ← hW0, ← hgm, ← hg]
  have HW0 := Lib.hid hW0
  have HG := Lib.hid hg
  clear hW0 hg hw0 hgm
  go_wp2_with fail
  refine (HR.out W0).mono ?_
  rintro e w1 ⟨rfl, hb1⟩
  have HB1 := Lib.hid hb1
  clear y0 y1 hb1
  cases rb
  · have HE := Lib.hid (proE_1 (R := R) (f := f) (t := t) (mw := mw) (mu := mu) (mx := mx) HRB.out.symm)
    go_wp2_with fail
    go_returns
    exact ⟨none, 0, ret_v (by rw [HE.out.1, HE.out.2]; rfl), by rw [HE.out.2]; exact rgL.nil _ _, b_then HB0.out HB1.out⟩
  go_wp2_with fail
  refine (HGD.out w1 HB1.out).mono ?_
  rintro e w2 ⟨rfl, hb2⟩
  have HB2 := Lib.hid (b_then HB1.out hb2)
  clear hb2
  cases gb
  · have HE := Lib.hid (proE_3 (R := R) (f := f) (t := t) (mw := mw) (mu := mu) (mx := mx) HRB.out.symm HGB.out.symm)
    go_wp2_with fail
    go_returns
    exact ⟨none, 0, ret_v (by rw [HE.out.1, HE.out.2]; rfl), by rw [HE.out.2]; exact rgL.nil _ _, b_then HB0.out HB2.out⟩
  have hl64 : R.length ≤ 64 := goodB_len HGB.out.symm
  have hh2 := heap_below HB2.out HH.out
  have y0 : w2.cell? ⟨g, 0, none⟩ = some (.int .i64 f) := by have := cell_heap hh2 0; simpa using this
  have y1 : w2.cell? ⟨g, 1, none⟩ = some (.int .i64 t) := by have := cell_heap hh2 1; simpa using this
  have hgw2 : g < w2.heap.size := heap_lt hh2
  have hsml : smlL R := goodB_sml HGB.out.symm
  have HSF := Lib.hid (right_sml HRB.out.symm).1
  have HST := Lib.hid (right_sml HRB.out.symm).2
  obtain ⟨n, hn⟩ : ∃ n, n = R.length := ⟨_, rfl⟩
  have hcn : ∀ W, Below w2.heap.size w2 W → Calls Try.prog 16 #[.slice A R.length cap, .agg #[.int .i64 f, .int .i64 t]] W fun e w' => e = .returned (.int .i64 (cntL f t R)) ∧ Below W.heap.size W w' := fun W hW => count_any ((HG0.out.below HB2.out).below hW) (by omega) hsml f t HSF.out HST.out
  obtain ⟨cn, hcc⟩ : ∃ cn, cn = cntL f t R := ⟨_, rfl⟩
  rw [← hcc] at hcn
  have s1 : IntKind.i64.wrap (t - f) = t - f := by have := HSF.out; have := HST.out; unfold sml at *; rw [IntKind.wrap_i64]; omega
  obtain ⟨df, hdf⟩ : ∃ df, df = t - f := ⟨_, rfl⟩
  have s2 : IntKind.i64.wrap (t - f) = df := by rw [hdf]; exact s1
  have s3 : wrap64 (t - f) = df := by rw [← IntWalk.i64_left]; exact s2
  have HCN := Lib.hid hcn
  have HCC := Lib.hid hcc
  have HDF := Lib.hid hdf
  have hb22 : Below w2.heap.size w2 w2 := Below.refl _ _
  clear hcn hcc hdf hsml hh2 hn hb22 s1
  go_upto_region 5 with fail
  have hab := @Abv.cell w2
  refine wp_region_abv (by kernel_rfl) (by kernel_rfl) ?_
  repeat (first | go_big_quiet_skip | (go_big_quiet_want; go_big_quiet_op; first | go_big_quiet_on | go_big_quiet_call ((refine abv_call (HCN.out _ (Abv.ok _))))))
  refine wpQuiet_nil ?_
  rintro W5 ⟨⟨_, hB5⟩, rfl⟩
  have HB5 := Lib.hid (b_then HB2.out hB5)
  have hh5 := heap_below HB5.out HH.out
  have u0 : W5.cell? ⟨g, 0, none⟩ = some (.int .i64 f) := by have := cell_heap hh5 0; simpa using this
  have u1 : W5.cell? ⟨g, 1, none⟩ = some (.int .i64 t) := by have := cell_heap hh5 1; simpa using this
  have hgw5 : g < W5.heap.size := heap_lt hh5
  have hgm5 : gm < W5.heap.size := by have := HB5.out.size; omega
  clear y0 y1 hh5 hab hB5
  rcases Bool.eq_false_or_eq_true (cn != df) with t1 | t1
  · have HE := Lib.hid (proE_5 (R := R) (f := f) (t := t) (mw := mw) (mu := mu) (mx := mx) HRB.out.symm HGB.out.symm (by rw [← HCC.out, ← HDF.out]; simpa using t1))
    go_wp2_with fail
    go_returns
    exact ⟨none, 0, ret_v (by rw [HE.out.1, HE.out.2]; rfl), by rw [HE.out.2]; exact rgL.nil _ _, b_then HB0.out HB5.out⟩
  have HCD : Hid (cntL f t R = t - f) := Lib.hid (by rw [← HCC.out, ← HDF.out]; simpa using t1)
  go_wp2_with fail
  have hsp := split_any (HG0.out.below HB5.out) (by omega) f t 33 #[.pointer (some ⟨gm, 0, none⟩)] (proC mw mu mx) (pro_tells W5 gm (heap_below HB5.out HM0.out))
  obtain ⟨M, hM⟩ : ∃ M, M = splitL (proC mw mu mx) f t R := ⟨_, rfl⟩
  rw [← hM] at hsp
  refine hsp.mono ?_
  rintro e w6 ⟨A6, c6, rfl, hr6, hb6⟩
  have HR6 := Lib.hid hr6
  have HB6 := Lib.hid (b_then HB5.out hb6)
  have HMM := Lib.hid hM
  clear hsp hM hr6 hb6 u0 u1
  obtain ⟨m, hm⟩ : ∃ m, m = M.length := ⟨_, rfl⟩
  rw [← hm]
  have HMN := Lib.hid hm
  clear hm
  go_wp2_with fail
  by_cases h64 : 64 < m
  · have HE := Lib.hid (proE_4 (R := R) (f := f) (t := t) (mw := mw) (mu := mu) (mx := mx) HRB.out.symm HGB.out.symm HCD.out (by rw [← HMM.out, ← HMN.out]; exact h64))
    refine (fits_big w6 A6 m c6 h64).mono ?_
    rintro e w7 ⟨rfl, hw⟩
    obtain rfl := hw.symm
    clear hw
    go_wp2_with fail
    go_returns
    exact ⟨none, 0, ret_v (by rw [HE.out.1, HE.out.2]; rfl), by rw [HE.out.2]; exact rgL.nil _ _, b_then HB0.out HB6.out⟩
  · have HE := Lib.hid (proE_0 (R := R) (f := f) (t := t) (mw := mw) (mu := mu) (mx := mx) HRB.out.symm HGB.out.symm HCD.out (by rw [← HMM.out, ← HMN.out]; exact h64))
    refine (fits_small w6 A6 m c6 (by omega)).mono ?_
    rintro e w7 ⟨rfl, hw⟩
    obtain rfl := hw.symm
    clear hw
    go_wp2_with fail
    go_returns
    exact ⟨A6, c6, ret_v (by rw [HE.out.1, HE.out.2, ← HMM.out, ← HMN.out]; rfl), by rw [HE.out.2, ← HMM.out]; exact HR6.out.mono (by have := HB0.out.size; have := HB5.out.size; omega), b_then HB0.out HB6.out⟩
end Go.Proofs.Ytoodjhomekeekaa
