/- does: a change, if it may be. Condition: at most 900 regions. Printed by gen/rgdoes.py. -/
import Derived.Test.YtoodjhomekeekaaRgR
import Derived.Deep.DeepCutAuto
import Derived.Deep.WholeRow
import Derived.Laws.Rows
import Derived.Laws.Tables
namespace Go.Proofs.Ytoodjhomekeekaa
open Go.ChangeShapes Go.WideShapes Go.ChangeAt Go.RowKit
set_option linter.unusedVariables false
set_option linter.unusedSimpArgs false
def actE (R : List RG) (how : Int) (d : RG) : Int := if how = 1 then addE R d else if how = 2 then cutE R d.a d.b else if how = 3 then proE R d.a d.b d.w d.u d.x else 1
def actN (R : List RG) (how : Int) (d : RG) : List RG := if how = 1 then addO R d else if how = 2 then cutO R d.a d.b else proO R d.a d.b d.w d.u d.x
def actO (R : List RG) (how : Int) (d : RG) : List RG := if actE R how d = 0 then actN R how d else R
set_option maxHeartbeats 8000000 in
theorem does_any {w : World} {base : Nat} {v : Value} {R : List RG} (h : rgL w base v R) (hb : base ≤ w.heap.size) (hl : R.length ≤ 900) (how : Int) (d : RG) :
    Calls Try.prog 24 #[v, .agg #[.int .i64 how, .int .i64 d.a, .int .i64 d.b, .bool d.w, .bool d.u, .bool d.x, .int .i64 d.k]] w fun e w' => ∃ A c, e = .returned (.tuple #[.slice A (actO R how d).length c, .int .i64 (actE R how d)]) ∧ rgL w' base (.slice A (actO R how d).length c) (actO R how d) ∧ Below w.heap.size w w' := by
  obtain ⟨A, cap, rfl⟩ := h.form
  obtain ⟨f, t, mw, mu, mx, kd⟩ := d
  simp only
  obtain ⟨w0, hw0⟩ : ∃ W, W = w.alloc (.cells #[.int .i64 how, .int .i64 f, .int .i64 t, .bool mw, .bool mu, .bool mx, .int .i64 kd] 57) := ⟨_, rfl⟩
  obtain ⟨W0, hW0⟩ : ∃ W, W = w0.alloc (.cells #[.int .i64 f, .int .i64 t] 27) := ⟨_, rfl⟩
  obtain ⟨g, hg⟩ : ∃ g, g = w.heap.size := ⟨_, rfl⟩
  obtain ⟨g2, hg2⟩ : ∃ g, g = w.heap.size + 1 := ⟨_, rfl⟩
  have hB0 : Below w.heap.size w W0 := by rw [hW0, hw0]; exact ((Below.refl _ _).alloc (Nat.le_refl _) _).alloc (by rw [World.size_alloc]; omega) _
  have hh0 : W0.heap[g]? = some (.cells #[.int .i64 how, .int .i64 f, .int .i64 t, .bool mw, .bool mu, .bool mx, .int .i64 kd] 57 (0, 0)) := by rw [hW0, hw0, hg]; exact heap_old _ _ _ (heap_new _ _)
  have hm0 : W0.heap[g2]? = some (.cells #[.int .i64 f, .int .i64 t] 27 (0, 0)) := by rw [hW0, hw0, hg2]; exact heap_two _ _ _
  have a0 : W0.cell? ⟨g, 0, none⟩ = some (.int .i64 how) := by have := cell_heap hh0 0; simpa using this
  have a3 : W0.cell? ⟨g, 3, none⟩ = some (.bool mw) := by have := cell_heap hh0 3; simpa using this
  have a4 : W0.cell? ⟨g, 4, none⟩ = some (.bool mu) := by have := cell_heap hh0 4; simpa using this
  have a5 : W0.cell? ⟨g, 5, none⟩ = some (.bool mx) := by have := cell_heap hh0 5; simpa using this
  have a6 : W0.cell? ⟨g, 6, none⟩ = some (.int .i64 kd) := by have := cell_heap hh0 6; simpa using this
  have b0 : W0.cell? ⟨g2, 0, none⟩ = some (.int .i64 f) := by have := cell_heap hm0 0; simpa using this
  have b1 : W0.cell? ⟨g2, 1, none⟩ = some (.int .i64 t) := by have := cell_heap hm0 1; simpa using this
  have hgw : g < W0.heap.size := heap_lt hh0
  have hgw2 : g2 < W0.heap.size := heap_lt hm0
  have HV0 := Lib.hid (h.below hB0)
  have HB0 := Lib.hid hB0
  have HBB := Lib.hid hb
  clear h hb hB0 hh0 hm0
  go_enter Try.func24, Try.ntmps24
  go_upto_region 2 with fail
  rw [← hw0, ← hW0, ← hg2, ← hg]
  have HX := Lib.hid hw0
  have HX2 := Lib.hid hW0
  have HX3 := Lib.hid hg
  have HX4 := Lib.hid hg2
  clear hw0 hW0 hg hg2
  have hcs : how = 1 ∨ how = 2 ∨ how = 3 ∨ ((how == 1) = false ∧ (how == 2) = false ∧ (how == 3) = false) := by
    by_cases h1 : how = 1
    · exact Or.inl h1
    by_cases h2 : how = 2
    · exact Or.inr (Or.inl h2)
    by_cases h3 : how = 3
    · exact Or.inr (Or.inr (Or.inl h3))
    · exact Or.inr (Or.inr (Or.inr ⟨by simp [h1], by simp [h2], by simp [h3]⟩))
  rcases hcs with rfl | rfl | rfl | ⟨h1, h2, h3⟩
  · have he : actE R 1 ⟨f, t, mw, mu, mx, kd⟩ = addE R ⟨f, t, mw, mu, mx, kd⟩ := rfl
    have ho : actN R 1 ⟨f, t, mw, mu, mx, kd⟩ = addO R ⟨f, t, mw, mu, mx, kd⟩ := rfl
    obtain ⟨er, her⟩ : ∃ er, er = addE R ⟨f, t, mw, mu, mx, kd⟩ := ⟨_, rfl⟩
    obtain ⟨M, hM⟩ : ∃ M, M = addO R ⟨f, t, mw, mu, mx, kd⟩ := ⟨_, rfl⟩
    have hc := add_any HV0.out (by omega) ⟨f, t, mw, mu, mx, kd⟩
    rw [← her, ← hM] at hc
    rw [← her] at he
    rw [← hM] at ho
    have HE := Lib.hid he
    have HO := Lib.hid ho
    clear he ho her hM
    go_wp2_with fail
    refine hc.mono ?_
    rintro e w1 ⟨A1, c1, rfl, hr1, hb1⟩
    have HR1 := Lib.hid hr1
    have HB1 := Lib.hid hb1
    clear hc hr1 hb1 a0 a3 a4 a5 a6 b0 b1
    rcases Bool.eq_false_or_eq_true (er != 0) with t1 | t1
    · have HZ : Hid (actO R 1 ⟨f, t, mw, mu, mx, kd⟩ = R) := Lib.hid (by unfold actO; rw [HE.out, if_neg (by simpa using t1)])
      go_wp2_with fail
      go_returns
      exact ⟨A, cap, ret_v (by rw [HE.out, HZ.out]; rfl), by rw [HZ.out]; exact HV0.out.below HB1.out, b_then HB0.out HB1.out⟩
    · have HZ : Hid (actO R 1 ⟨f, t, mw, mu, mx, kd⟩ = M) := Lib.hid (by unfold actO; rw [HE.out, if_pos (by simpa using t1), HO.out])
      go_wp2_with fail
      go_returns
      exact ⟨A1, c1, ret_v (by rw [HE.out, HZ.out]; rfl), by rw [HZ.out]; exact HR1.out.mono (by have := HBB.out; have := HB0.out.size; omega), b_then HB0.out HB1.out⟩
  · have he : actE R 2 ⟨f, t, mw, mu, mx, kd⟩ = cutE R f t := rfl
    have ho : actN R 2 ⟨f, t, mw, mu, mx, kd⟩ = cutO R f t := rfl
    obtain ⟨er, her⟩ : ∃ er, er = cutE R f t := ⟨_, rfl⟩
    obtain ⟨M, hM⟩ : ∃ M, M = cutO R f t := ⟨_, rfl⟩
    have hc := cut_any HV0.out (by omega) f t
    rw [← her, ← hM] at hc
    rw [← her] at he
    rw [← hM] at ho
    have HE := Lib.hid he
    have HO := Lib.hid ho
    clear he ho her hM
    go_wp2_with fail
    refine hc.mono ?_
    rintro e w1 ⟨A1, c1, rfl, hr1, hb1⟩
    have HR1 := Lib.hid hr1
    have HB1 := Lib.hid hb1
    clear hc hr1 hb1 a0 a3 a4 a5 a6 b0 b1
    rcases Bool.eq_false_or_eq_true (er != 0) with t1 | t1
    · have HZ : Hid (actO R 2 ⟨f, t, mw, mu, mx, kd⟩ = R) := Lib.hid (by unfold actO; rw [HE.out, if_neg (by simpa using t1)])
      go_wp2_with fail
      go_returns
      exact ⟨A, cap, ret_v (by rw [HE.out, HZ.out]; rfl), by rw [HZ.out]; exact HV0.out.below HB1.out, b_then HB0.out HB1.out⟩
    · have HZ : Hid (actO R 2 ⟨f, t, mw, mu, mx, kd⟩ = M) := Lib.hid (by unfold actO; rw [HE.out, if_pos (by simpa using t1), HO.out])
      go_wp2_with fail
      go_returns
      exact ⟨A1, c1, ret_v (by rw [HE.out, HZ.out]; rfl), by rw [HZ.out]; exact HR1.out.mono (by have := HBB.out; have := HB0.out.size; omega), b_then HB0.out HB1.out⟩
  · have he : actE R 3 ⟨f, t, mw, mu, mx, kd⟩ = proE R f t mw mu mx := rfl
    have ho : actN R 3 ⟨f, t, mw, mu, mx, kd⟩ = proO R f t mw mu mx := rfl
    obtain ⟨er, her⟩ : ∃ er, er = proE R f t mw mu mx := ⟨_, rfl⟩
    obtain ⟨M, hM⟩ : ∃ M, M = proO R f t mw mu mx := ⟨_, rfl⟩
    have hc := protect_any HV0.out (by omega) f t mw mu mx
    rw [← her, ← hM] at hc
    rw [← her] at he
    rw [← hM] at ho
    have HE := Lib.hid he
    have HO := Lib.hid ho
    clear he ho her hM
    go_wp2_with fail
    refine hc.mono ?_
    rintro e w1 ⟨A1, c1, rfl, hr1, hb1⟩
    have HR1 := Lib.hid hr1
    have HB1 := Lib.hid hb1
    clear hc hr1 hb1 a0 a3 a4 a5 a6 b0 b1
    rcases Bool.eq_false_or_eq_true (er != 0) with t1 | t1
    · have HZ : Hid (actO R 3 ⟨f, t, mw, mu, mx, kd⟩ = R) := Lib.hid (by unfold actO; rw [HE.out, if_neg (by simpa using t1)])
      go_wp2_with fail
      go_returns
      exact ⟨A, cap, ret_v (by rw [HE.out, HZ.out]; rfl), by rw [HZ.out]; exact HV0.out.below HB1.out, b_then HB0.out HB1.out⟩
    · have HZ : Hid (actO R 3 ⟨f, t, mw, mu, mx, kd⟩ = M) := Lib.hid (by unfold actO; rw [HE.out, if_pos (by simpa using t1), HO.out])
      go_wp2_with fail
      go_returns
      exact ⟨A1, c1, ret_v (by rw [HE.out, HZ.out]; rfl), by rw [HZ.out]; exact HR1.out.mono (by have := HBB.out; have := HB0.out.size; omega), b_then HB0.out HB1.out⟩
  · have he : actE R how ⟨f, t, mw, mu, mx, kd⟩ = 1 := by
      unfold actE
      rw [if_neg (by simpa using h1), if_neg (by simpa using h2), if_neg (by simpa using h3)]
    have HE := Lib.hid he
    have HZ : Hid (actO R how ⟨f, t, mw, mu, mx, kd⟩ = R) := Lib.hid (by unfold actO; rw [he]; rfl)
    clear he
    go_wp2_with fail
    go_returns
    exact ⟨A, cap, ret_v (by rw [HE.out, HZ.out]; rfl), by rw [HZ.out]; exact HV0.out, HB0.out⟩
end Go.Proofs.Ytoodjhomekeekaa
