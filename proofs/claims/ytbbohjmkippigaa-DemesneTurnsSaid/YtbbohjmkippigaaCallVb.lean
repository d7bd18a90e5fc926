/- The package call (layer 15): Write: the words of a call, if they are read as it. No condition but that the call's numbers are numbers of 64 bits. -/
import Derived.Test.YtbbohjmkippigaaCallWb
import Derived.Deep.DeepCutAuto
import Derived.Deep.CutBlock
import Derived.Deep.RegionHeld3
import Derived.Laws.Rows
import Derived.Laws.Tables
namespace Go.Proofs.Ytbbohjmkippigaa
open Go.ChangeShapes Go.WideShapes Go.ChangeAt Go.RowKit
set_option linter.unusedVariables false
set_option linter.unusedSimpArgs false

/-- A quiet call behind draws. -/
theorem quiet_again {P : Program} {f : FuncId} {args : Array Value} {w : World} {a n : Nat} {v : Value} (h : Calls P f args (w.drewN (a + n)) fun e w' => e = .returned v ∧ w' = w.drewN (a + n)) :
    Calls P f args (w.drewN (a + n)) fun e w'' => e = .returned v ∧ ∃ m, w'' = w.drewN (a + m) := h.mono fun _ _ ⟨he, hm⟩ => ⟨he, n, hm⟩
def pickI (p : Bool) (x : Int) : Int := if p then x else 0
theorem bit_any (p : Bool) (x : Int) (w : World) : Calls Try.prog 16 #[.bool p, .int .u64 x] w fun e w' => e = .returned (.int .u64 (pickI p x)) ∧ w' = w := by
  cases p
  all_goals
    go_enter Try.func16, Try.ntmps16
    go_wp2
    go_returns
    exact ⟨rfl, rfl⟩
theorem set_keep {w : World} {g b o o' : Nat} {u v : Value} (h : w.cell? ⟨b, o, none⟩ = some v) (hne : b ≠ g) : (w.setCell ⟨g, o', none⟩ u).cell? ⟨b, o, none⟩ = some v := by
  rw [World.cell?_setCell_other _ _ _ _ (fun e => by injection e with e1 _; omega)]; exact h
theorem set6_keep {w : World} {g b o : Nat} {v u0 u1 u2 u3 u4 u5 : Value} (h : w.cell? ⟨b, o, none⟩ = some v) (hne : b ≠ g) :
    ((((((w.setCell ⟨g, 0, none⟩ u0).setCell ⟨g, 1, none⟩ u1).setCell ⟨g, 2, none⟩ u2).setCell ⟨g, 3, none⟩ u3).setCell ⟨g, 4, none⟩ u4).setCell ⟨g, 5, none⟩ u5).cell? ⟨b, o, none⟩ = some v :=
  set_keep (set_keep (set_keep (set_keep (set_keep (set_keep h hne) hne) hne) hne) hne) hne
theorem set6_first {w : World} {g : Nat} {v u0 u1 u2 u3 u4 u5 : Value} (h : w.cell? ⟨g, 0, none⟩ = some v) :
    ((((((w.setCell ⟨g, 0, none⟩ u0).setCell ⟨g, 1, none⟩ u1).setCell ⟨g, 2, none⟩ u2).setCell ⟨g, 3, none⟩ u3).setCell ⟨g, 4, none⟩ u4).setCell ⟨g, 5, none⟩ u5).cell? ⟨g, 0, none⟩ = some u0 :=
  cell_off (cell_off (cell_off (cell_off (cell_off (World.cell?_setCell_same _ _ _ h) (by decide)) (by decide)) (by decide)) (by decide)) (by decide)
theorem set6_block {w : World} {g : Nat} {T : TypeId} {v0 v1 v2 v3 v4 v5 u0 u1 u2 u3 u4 u5 : Value} (h : w.heap[g]? = some (.cells #[v0, v1, v2, v3, v4, v5] T (0, 0))) :
    ((((((w.setCell ⟨g, 0, none⟩ u0).setCell ⟨g, 1, none⟩ u1).setCell ⟨g, 2, none⟩ u2).setCell ⟨g, 3, none⟩ u3).setCell ⟨g, 4, none⟩ u4).setCell ⟨g, 5, none⟩ u5).drew.heap[g]? = some (.cells #[u0, u1, u2, u3, u4, u5] T (0, 0)) := by
  have h0 := heap_set h 0 u0
  change _ = some (Obj.cells #[u0, v1, v2, v3, v4, v5] T (0, 0)) at h0
  have h1 := heap_set h0 1 u1
  change _ = some (Obj.cells #[u0, u1, v2, v3, v4, v5] T (0, 0)) at h1
  have h2 := heap_set h1 2 u2
  change _ = some (Obj.cells #[u0, u1, u2, v3, v4, v5] T (0, 0)) at h2
  have h3 := heap_set h2 3 u3
  change _ = some (Obj.cells #[u0, u1, u2, u3, v4, v5] T (0, 0)) at h3
  have h4 := heap_set h3 4 u4
  change _ = some (Obj.cells #[u0, u1, u2, u3, u4, v5] T (0, 0)) at h4
  have h5 := heap_set h4 5 u5
  change _ = some (Obj.cells #[u0, u1, u2, u3, u4, u5] T (0, 0)) at h5
  have e : ∀ Y : World, Y.drew.heap = Y.heap := fun _ => rfl
  rw [e]
  exact h5
theorem set6_far {w : World} {g b : Nat} {o : Obj} {u0 u1 u2 u3 u4 u5 : Value} (h : w.heap[b]? = some o) (hne : b ≠ g) :
    ((((((w.setCell ⟨g, 0, none⟩ u0).setCell ⟨g, 1, none⟩ u1).setCell ⟨g, 2, none⟩ u2).setCell ⟨g, 3, none⟩ u3).setCell ⟨g, 4, none⟩ u4).setCell ⟨g, 5, none⟩ u5).drew.heap[b]? = some o := by
  have h0 := heap_far h (a := ⟨g, 0, none⟩) hne u0
  have h1 := heap_far h0 (a := ⟨g, 1, none⟩) hne u1
  have h2 := heap_far h1 (a := ⟨g, 2, none⟩) hne u2
  have h3 := heap_far h2 (a := ⟨g, 3, none⟩) hne u3
  have h4 := heap_far h3 (a := ⟨g, 4, none⟩) hne u4
  have h5 := heap_far h4 (a := ⟨g, 5, none⟩) hne u5
  have e : ∀ Y : World, Y.drew.heap = Y.heap := fun _ => rfl
  rw [e]
  exact h5
theorem set6_below {w w' : World} {g B : Nat} {u0 u1 u2 u3 u4 u5 : Value} (h : Below B w w') (hB : B ≤ w.heap.size) (hg : B ≤ g) :
    Below B w ((((((w'.setCell ⟨g, 0, none⟩ u0).setCell ⟨g, 1, none⟩ u1).setCell ⟨g, 2, none⟩ u2).setCell ⟨g, 3, none⟩ u3).setCell ⟨g, 4, none⟩ u4).setCell ⟨g, 5, none⟩ u5).drew :=
  Below.touch h (((((((Touch.refl (fun b => b = g) w').setCell (a := ⟨g, 0, none⟩) (.inl rfl) u0).setCell (a := ⟨g, 1, none⟩) (.inl rfl) u1).setCell (a := ⟨g, 2, none⟩) (.inl rfl) u2).setCell (a := ⟨g, 3, none⟩) (.inl rfl) u3).setCell (a := ⟨g, 4, none⟩) (.inl rfl) u4).setCell (a := ⟨g, 5, none⟩) (.inl rfl) u5).drew hB (fun k e => by omega)
theorem underW : Try.prog.underlying 34 = some (.array 6 27) := by kernel_rfl
theorem infoW : (Try.prog.info? 34).map (·.size) = some 6 := by kernel_rfl
theorem results_row_tmp {fn : Func} {p q : Tmp} (h : fn.results = #[.cell p 34, .tmp q]) (tmps : Array Value) (w : World) (g : Nat) (t : TypeId) (cs : Array Value) (fr : Nat × Nat) (v : Value)
    (hp : tmps.getD p undef = .pointer (some ⟨g, 0, none⟩)) (hq : tmps.getD q undef = v) (hg : w.heap[g]? = some (.cells cs t fr)) (hs : cs.size = 6 := by rfl) :
    (results fn tmps).run Try.prog w = .ok (.tuple #[.agg cs, v]) w := by
  have hp' : tmps[p]?.getD undef = .pointer (some ⟨g, 0, none⟩) := by simpa using hp
  have hq' : tmps[q]?.getD undef = v := by simpa using hq
  simp [results, h, hp', hq', asAddr, run_loadVar_row w g t 34 cs fr (.array 6 27) hg underW rfl (by rw [hs]; exact infoW)]
theorem below_rowV {B : Nat} {w w1 : World} (h : Below B w w1) {g : Nat} (hg : B ≤ g) (cs : Array Value) : Below B w (w1.setRow g cs) :=
  ⟨h.os, h.tape, h.output, by have := h.size; simpa using this, fun k hk => (setRow_other w1 g k cs (by omega)).trans (h.block k hk)⟩
abbrev WV.cells (v : WV) : Array Value := #[.int .u64 v.w0, .int .u64 v.w1, .int .u64 v.w2, .int .u64 v.w3, .int .u64 v.w4, .int .u64 v.w5]
abbrev WV.val (v : WV) : Value := .agg v.cells
def WV.zero : WV := ⟨0, 0, 0, 0, 0, 0⟩
theorem three_blocks (w : World) (c0 c1 c2 : Array Value) (t0 t1 t2 : TypeId) (n : Nat) : Below w.heap.size w ((((w.alloc (.cells c0 t0)).alloc (.cells c1 t1)).drewN n).alloc (.cells c2 t2)) ∧
    ((((w.alloc (.cells c0 t0)).alloc (.cells c1 t1)).drewN n).alloc (.cells c2 t2)).heap[w.heap.size]? = some (.cells c0 t0 (0, 0)) ∧
    ((((w.alloc (.cells c0 t0)).alloc (.cells c1 t1)).drewN n).alloc (.cells c2 t2)).heap[w.heap.size + 1]? = some (.cells c1 t1 (0, 0)) ∧
    ((((w.alloc (.cells c0 t0)).alloc (.cells c1 t1)).drewN n).alloc (.cells c2 t2)).heap[w.heap.size + 1 + 1]? = some (.cells c2 t2 (0, 0)) := by
  have h0 := heap_old (w.alloc (.cells c0 t0)) (.cells c1 t1) _ (heap_new w (.cells c0 t0))
  have h1 := heap_new (w.alloc (.cells c0 t0)) (.cells c1 t1)
  rw [World.size_alloc] at h1
  have hN : (((w.alloc (.cells c0 t0)).alloc (.cells c1 t1)).drewN n).heap = ((w.alloc (.cells c0 t0)).alloc (.cells c1 t1)).heap := World.heap_drewN _ _
  have h2 := heap_new (((w.alloc (.cells c0 t0)).alloc (.cells c1 t1)).drewN n) (.cells c2 t2)
  rw [hN, World.size_alloc, World.size_alloc] at h2
  refine ⟨((below_drewN (((Below.refl _ _).alloc (Nat.le_refl _) _).alloc (by simp) _) n)).alloc (by rw [hN]; simp; omega) _, heap_old _ _ _ (by rw [hN]; exact h0), heap_old _ _ _ (by rw [hN]; exact h1), h2⟩
def ROutW (R : Option CV) (c : CV) (v : WV) (e : Ending) : Prop := (R = some c ∧ e = .returned (.tuple #[v.val, .int .i64 0])) ∨ (R ≠ some c ∧ e = .returned (.tuple #[WV.zero.val, .int .i64 13]))
set_option maxRecDepth 100000 in
set_option maxHeartbeats 16000000 in
theorem write_any (c : CV) (hr : ∀ W, Calls Try.prog 4 #[(wordsF c).val] W fun e w' => e = .returned (.tuple #[(rvF (readF (wordsF c).w0 (wordsF c).w1 (wordsF c).w2 (wordsF c).w3 (wordsF c).w4 (wordsF c).w5)).val, .int .i64 (reF (readF (wordsF c).w0 (wordsF c).w1 (wordsF c).w2 (wordsF c).w3 (wordsF c).w4 (wordsF c).w5))]) ∧ Below W.heap.size W w') (w : World) :
    Calls Try.prog 8 #[c.val] w fun e w' => ((readF (wordsF c).w0 (wordsF c).w1 (wordsF c).w2 (wordsF c).w3 (wordsF c).w4 (wordsF c).w5 = some c ∧ e = .returned (.tuple #[(wordsF c).val, .int .i64 0])) ∨ (readF (wordsF c).w0 (wordsF c).w1 (wordsF c).w2 (wordsF c).w3 (wordsF c).w4 (wordsF c).w5 ≠ some c ∧ e = .returned (.tuple #[WV.zero.val, .int .i64 13]))) ∧ Below w.heap.size w w' := by
  obtain ⟨v, hv⟩ : ∃ v, v = wordsF c := ⟨_, rfl⟩
  rw [← hv] at hr ⊢
  generalize hR : readF v.w0 v.w1 v.w2 v.w3 v.w4 v.w5 = R at hr
  have HV := Lib.hid hv
  have HR := Lib.hid hr
  clear hv hr hR
  obtain ⟨op, f, t, wr, us, ex, addr, size, x, id, a, b, d⟩ := c
  have HP : Hid (∀ e, ROutW R ⟨op, f, t, wr, us, ex, addr, size, x, id, a, b, d⟩ v e → ((R = some ⟨op, f, t, wr, us, ex, addr, size, x, id, a, b, d⟩ ∧ e = .returned (.tuple #[v.val, .int .i64 0])) ∨ (R ≠ some ⟨op, f, t, wr, us, ex, addr, size, x, id, a, b, d⟩ ∧ e = .returned (.tuple #[WV.zero.val, .int .i64 13])))) := Lib.hid (fun e h => h)
  simp only [CV.val, CV.cells, ccells]
  change Calls Try.prog _ _ w fun e w' => ROutW R ⟨op, f, t, wr, us, ex, addr, size, x, id, a, b, d⟩ v e ∧ Below w.heap.size w w'
  go_enter Try.func8, Try.ntmps8
  go_wp2_with fail
  go_quiet (fail)
  rename Nat => n1
  go_wp2_with fail
  go_quiet ((go_at_call 16; exact quiet_again (bit_any _ _ _)))
  go_upto_block 0 with fail
  go_cut [40] (fun s40 wx => wx.heap[w.heap.size]? = some (.cells #[.int .i64 op, .int .i64 f, .int .i64 t, .bool wr, .bool us, .bool ex, .int .u64 addr, .int .i64 size, .int .u64 x, .int .i64 id, .int .i64 a, .int .i64 b, .int .i64 d] 29 (0, 0)) ∧ wx.heap[w.heap.size + 1]? = some (.cells #[.int .u64 0, .int .u64 0, .int .u64 0, .int .u64 0, .int .u64 0, .int .u64 0] 34 (0, 0)) ∧ wx.heap[w.heap.size + 1 + 1]? = some (.cells v.cells 34 (0, 0)) ∧ Below w.heap.size w wx)
  case first =>
    clear HR HP
    by_cases o1 : op = 1
    · subst o1
      have hvv := HV.out
      simp [wordsF] at hvv
      subst hvv
      clear HV
      go_wp2_with fail
      go_meet
      exact ⟨(three_blocks w _ _ _ _ _ _ _).2.1, (three_blocks w _ _ _ _ _ _ _).2.2.1, (three_blocks w _ _ _ _ _ _ _).2.2.2, (three_blocks w _ _ _ _ _ _ _).1⟩
    by_cases o2 : op = 2
    · subst o2
      have hvv := HV.out
      simp [wordsF] at hvv
      subst hvv
      clear HV
      go_wp2_with fail
      go_meet
      exact ⟨(three_blocks w _ _ _ _ _ _ _).2.1, (three_blocks w _ _ _ _ _ _ _).2.2.1, (three_blocks w _ _ _ _ _ _ _).2.2.2, (three_blocks w _ _ _ _ _ _ _).1⟩
    by_cases o3 : op = 3
    · subst o3
      have hvv := HV.out
      simp [wordsF] at hvv
      subst hvv
      clear HV
      go_wp2_with fail
      go_meet
      exact ⟨(three_blocks w _ _ _ _ _ _ _).2.1, (three_blocks w _ _ _ _ _ _ _).2.2.1, (three_blocks w _ _ _ _ _ _ _).2.2.2, (three_blocks w _ _ _ _ _ _ _).1⟩
    by_cases o4 : op = 4
    · subst o4
      have hvv := HV.out
      simp [wordsF] at hvv
      subst hvv
      clear HV
      go_wp2_with fail
      go_meet
      exact ⟨(three_blocks w _ _ _ _ _ _ _).2.1, (three_blocks w _ _ _ _ _ _ _).2.2.1, (three_blocks w _ _ _ _ _ _ _).2.2.2, (three_blocks w _ _ _ _ _ _ _).1⟩
    by_cases o5 : op = 5
    · subst o5
      have hvv := HV.out
      simp [wordsF] at hvv
      subst hvv
      clear HV
      go_wp2_with fail
      go_meet
      exact ⟨(three_blocks w _ _ _ _ _ _ _).2.1, (three_blocks w _ _ _ _ _ _ _).2.2.1, (three_blocks w _ _ _ _ _ _ _).2.2.2, (three_blocks w _ _ _ _ _ _ _).1⟩
    by_cases o6 : op = 6
    · subst o6
      have hvv := HV.out
      simp [wordsF] at hvv
      subst hvv
      clear HV
      go_wp2_with fail
      have hb := three_blocks w #[.int .i64 6, .int .i64 f, .int .i64 t, .bool wr, .bool us, .bool ex, .int .u64 addr, .int .i64 size, .int .u64 x, .int .i64 id, .int .i64 a, .int .i64 b, .int .i64 d] #[.int .u64 0, .int .u64 0, .int .u64 0, .int .u64 0, .int .u64 0, .int .u64 0] #[.int .u64 6, .int .u64 0, .int .u64 0, .int .u64 0, .int .u64 0, .int .u64 0] 29 34 34 (n1 + nq)
      generalize hW : ((((w.alloc (.cells #[.int .i64 6, .int .i64 f, .int .i64 t, .bool wr, .bool us, .bool ex, .int .u64 addr, .int .i64 size, .int .u64 x, .int .i64 id, .int .i64 a, .int .i64 b, .int .i64 d] 29)).alloc (.cells #[.int .u64 0, .int .u64 0, .int .u64 0, .int .u64 0, .int .u64 0, .int .u64 0] 34)).drewN (n1 + nq)).alloc (.cells #[.int .u64 6, .int .u64 0, .int .u64 0, .int .u64 0, .int .u64 0, .int .u64 0] 34)) = W0 at hb ⊢
      clear hW
      obtain ⟨hb1, hb2, hb3, hb4⟩ := hb
      have g3 : W0.cell? ⟨w.heap.size, 3, none⟩ = some (.bool wr) := cell_heap hb2 3
      have g9 : W0.cell? ⟨w.heap.size, 9, none⟩ = some (.int .i64 id) := cell_heap hb2 9
      have k0 : W0.cell? ⟨w.heap.size + 1 + 1, 0, none⟩ = some (.int .u64 6) := cell_heap hb4 0
      have l0 : W0.frozen? ⟨w.heap.size + 1 + 1, 0, none⟩ = false := frozen_heap hb4 0
      have k1 : W0.cell? ⟨w.heap.size + 1 + 1, 1, none⟩ = some (.int .u64 0) := cell_heap hb4 1
      have l1 : W0.frozen? ⟨w.heap.size + 1 + 1, 1, none⟩ = false := frozen_heap hb4 1
      have k2 : W0.cell? ⟨w.heap.size + 1 + 1, 2, none⟩ = some (.int .u64 0) := cell_heap hb4 2
      have l2 : W0.frozen? ⟨w.heap.size + 1 + 1, 2, none⟩ = false := frozen_heap hb4 2
      have k3 : W0.cell? ⟨w.heap.size + 1 + 1, 3, none⟩ = some (.int .u64 0) := cell_heap hb4 3
      have l3 : W0.frozen? ⟨w.heap.size + 1 + 1, 3, none⟩ = false := frozen_heap hb4 3
      have k4 : W0.cell? ⟨w.heap.size + 1 + 1, 4, none⟩ = some (.int .u64 0) := cell_heap hb4 4
      have l4 : W0.frozen? ⟨w.heap.size + 1 + 1, 4, none⟩ = false := frozen_heap hb4 4
      have k5 : W0.cell? ⟨w.heap.size + 1 + 1, 5, none⟩ = some (.int .u64 0) := cell_heap hb4 5
      have l5 : W0.frozen? ⟨w.heap.size + 1 + 1, 5, none⟩ = false := frozen_heap hb4 5
      have hz0 := heap_lt hb2
      have hz4 := heap_lt hb4
      have HB1 := Lib.hid hb1
      have HB2 := Lib.hid hb2
      have HB3 := Lib.hid hb3
      have HB4 := Lib.hid hb4
      clear hb1 hb2 hb3 hb4
      go_region_held3 (fun W => W.cell? ⟨w.heap.size, 3, none⟩ = some (.bool wr) ∧ W.cell? ⟨w.heap.size, 9, none⟩ = some (.int .i64 id) ∧ W.cell? ⟨w.heap.size + 1 + 1, 0, none⟩ = some (.int .u64 6))
        (first | (go_keep; done) | (refine ⟨?_, ?_, ?_⟩; (rw [World.cell?_drew]; exact set6_keep (by assumption) (by omega)); (rw [World.cell?_drew]; exact set6_keep (by assumption) (by omega)); (rw [World.cell?_drew]; exact set6_first (by assumption))))
        ((go_at_call 16; refine (bit_any _ _ _).mono ?_; rintro e w2 ⟨rfl, rfl⟩))
      go_wp2_with fail
      go_meet
      exact ⟨set6_far HB2.out (by omega), set6_far HB3.out (by omega), set6_block HB4.out, set6_below HB1.out (Nat.le_refl _) (by omega)⟩
    by_cases o7 : op = 7
    · subst o7
      have hvv := HV.out
      simp [wordsF] at hvv
      subst hvv
      clear HV
      go_wp2_with fail
      go_meet
      exact ⟨(three_blocks w _ _ _ _ _ _ _).2.1, (three_blocks w _ _ _ _ _ _ _).2.2.1, (three_blocks w _ _ _ _ _ _ _).2.2.2, (three_blocks w _ _ _ _ _ _ _).1⟩
    by_cases o8 : op = 8
    · subst o8
      have hvv := HV.out
      simp [wordsF] at hvv
      subst hvv
      clear HV
      go_wp2_with fail
      go_meet
      exact ⟨(three_blocks w _ _ _ _ _ _ _).2.1, (three_blocks w _ _ _ _ _ _ _).2.2.1, (three_blocks w _ _ _ _ _ _ _).2.2.2, (three_blocks w _ _ _ _ _ _ _).1⟩
    by_cases o9 : op = 9
    · subst o9
      have hvv := HV.out
      simp [wordsF] at hvv
      subst hvv
      clear HV
      go_wp2_with fail
      go_meet
      exact ⟨(three_blocks w _ _ _ _ _ _ _).2.1, (three_blocks w _ _ _ _ _ _ _).2.2.1, (three_blocks w _ _ _ _ _ _ _).2.2.2, (three_blocks w _ _ _ _ _ _ _).1⟩
    by_cases o10 : op = 10
    · subst o10
      have hvv := HV.out
      simp [wordsF] at hvv
      subst hvv
      clear HV
      go_wp2_with fail
      go_meet
      exact ⟨(three_blocks w _ _ _ _ _ _ _).2.1, (three_blocks w _ _ _ _ _ _ _).2.2.1, (three_blocks w _ _ _ _ _ _ _).2.2.2, (three_blocks w _ _ _ _ _ _ _).1⟩
    by_cases o12 : op = 12
    · subst o12
      have hvv := HV.out
      simp [wordsF] at hvv
      subst hvv
      clear HV
      go_wp2_with fail
      go_meet
      exact ⟨(three_blocks w _ _ _ _ _ _ _).2.1, (three_blocks w _ _ _ _ _ _ _).2.2.1, (three_blocks w _ _ _ _ _ _ _).2.2.2, (three_blocks w _ _ _ _ _ _ _).1⟩
    by_cases o15 : op = 15
    · subst o15
      have hvv := HV.out
      simp [wordsF] at hvv
      subst hvv
      clear HV
      go_wp2_with fail
      go_meet
      exact ⟨(three_blocks w _ _ _ _ _ _ _).2.1, (three_blocks w _ _ _ _ _ _ _).2.2.1, (three_blocks w _ _ _ _ _ _ _).2.2.2, (three_blocks w _ _ _ _ _ _ _).1⟩
    by_cases o16 : op = 16
    · subst o16
      have hvv := HV.out
      simp [wordsF] at hvv
      subst hvv
      clear HV
      go_wp2_with fail
      go_meet
      exact ⟨(three_blocks w _ _ _ _ _ _ _).2.1, (three_blocks w _ _ _ _ _ _ _).2.2.1, (three_blocks w _ _ _ _ _ _ _).2.2.2, (three_blocks w _ _ _ _ _ _ _).1⟩
    have e1 : (op == 1) = false := beq_false_of_ne o1
    have e2 : (op == 2) = false := beq_false_of_ne o2
    have e3 : (op == 3) = false := beq_false_of_ne o3
    have e4 : (op == 4) = false := beq_false_of_ne o4
    have e5 : (op == 5) = false := beq_false_of_ne o5
    have e6 : (op == 6) = false := beq_false_of_ne o6
    have e7 : (op == 7) = false := beq_false_of_ne o7
    have e8 : (op == 8) = false := beq_false_of_ne o8
    have e9 : (op == 9) = false := beq_false_of_ne o9
    have e10 : (op == 10) = false := beq_false_of_ne o10
    have e12 : (op == 12) = false := beq_false_of_ne o12
    have e15 : (op == 15) = false := beq_false_of_ne o15
    have e16 : (op == 16) = false := beq_false_of_ne o16
    have hvv : v = ⟨uW op, 0, 0, 0, 0, 0⟩ := by rw [HV.out]; unfold wordsF; simp [o1, o2, o3, o4, o5, o6, o7, o8, o9, o10, o12, o15, o16]
    subst hvv
    clear HV o1 o2 o3 o4 o5 o6 o7 o8 o9 o10 o12 o15 o16
    go_wp2_with fail
    go_meet
    exact ⟨(three_blocks w _ _ _ _ _ _ _).2.1, (three_blocks w _ _ _ _ _ _ _).2.2.1, (three_blocks w _ _ _ _ _ _ _).2.2.2, (three_blocks w _ _ _ _ _ _ _).1⟩
  case rest =>
    obtain ⟨h0, h1, h2, hB⟩ := hcut
    have c0 : wc.cell? ⟨w.heap.size, 0, none⟩ = some (.int .i64 op) := cell_heap h0 0
    have c1 : wc.cell? ⟨w.heap.size, 1, none⟩ = some (.int .i64 f) := cell_heap h0 1
    have c2 : wc.cell? ⟨w.heap.size, 2, none⟩ = some (.int .i64 t) := cell_heap h0 2
    have c3 : wc.cell? ⟨w.heap.size, 3, none⟩ = some (.bool wr) := cell_heap h0 3
    have c4 : wc.cell? ⟨w.heap.size, 4, none⟩ = some (.bool us) := cell_heap h0 4
    have c5 : wc.cell? ⟨w.heap.size, 5, none⟩ = some (.bool ex) := cell_heap h0 5
    have c6 : wc.cell? ⟨w.heap.size, 6, none⟩ = some (.int .u64 addr) := cell_heap h0 6
    have c7 : wc.cell? ⟨w.heap.size, 7, none⟩ = some (.int .i64 size) := cell_heap h0 7
    have c8 : wc.cell? ⟨w.heap.size, 8, none⟩ = some (.int .u64 x) := cell_heap h0 8
    have c9 : wc.cell? ⟨w.heap.size, 9, none⟩ = some (.int .i64 id) := cell_heap h0 9
    have c10 : wc.cell? ⟨w.heap.size, 10, none⟩ = some (.int .i64 a) := cell_heap h0 10
    have c11 : wc.cell? ⟨w.heap.size, 11, none⟩ = some (.int .i64 b) := cell_heap h0 11
    have c12 : wc.cell? ⟨w.heap.size, 12, none⟩ = some (.int .i64 d) := cell_heap h0 12
    have k0 : wc.cell? ⟨w.heap.size + 1 + 1, 0, none⟩ = some (.int .u64 v.w0) := cell_heap h2 0
    have k1 : wc.cell? ⟨w.heap.size + 1 + 1, 1, none⟩ = some (.int .u64 v.w1) := cell_heap h2 1
    have k2 : wc.cell? ⟨w.heap.size + 1 + 1, 2, none⟩ = some (.int .u64 v.w2) := cell_heap h2 2
    have k3 : wc.cell? ⟨w.heap.size + 1 + 1, 3, none⟩ = some (.int .u64 v.w3) := cell_heap h2 3
    have k4 : wc.cell? ⟨w.heap.size + 1 + 1, 4, none⟩ = some (.int .u64 v.w4) := cell_heap h2 4
    have k5 : wc.cell? ⟨w.heap.size + 1 + 1, 5, none⟩ = some (.int .u64 v.w5) := cell_heap h2 5
    have H0 := Lib.hid h0
    have H1 := Lib.hid h1
    have H2 := Lib.hid h2
    have HB := Lib.hid hB
    clear h0 h1 h2 hB HV
    go_wp2_with fail
    refine (HR.out _).mono ?_
    rintro e w5 ⟨rfl, hb5⟩
    have h0 := heap_below hb5 H0.out
    have h1 := heap_below hb5 H1.out
    have h2 := heap_below hb5 H2.out
    have hz0 := heap_lt h0
    have hz1 := heap_lt h1
    have hz2 := heap_lt h2
    have HB5 := Lib.hid (b_then HB.out hb5)
    clear c0 c1 c2 c3 c4 c5 c6 c7 c8 c9 c10 c11 c12 k0 k1 k2 k3 k4 k5 hb5
    have c0 : w5.cell? ⟨w.heap.size, 0, none⟩ = some (.int .i64 op) := cell_heap h0 0
    have c1 : w5.cell? ⟨w.heap.size, 1, none⟩ = some (.int .i64 f) := cell_heap h0 1
    have c2 : w5.cell? ⟨w.heap.size, 2, none⟩ = some (.int .i64 t) := cell_heap h0 2
    have c3 : w5.cell? ⟨w.heap.size, 3, none⟩ = some (.bool wr) := cell_heap h0 3
    have c4 : w5.cell? ⟨w.heap.size, 4, none⟩ = some (.bool us) := cell_heap h0 4
    have c5 : w5.cell? ⟨w.heap.size, 5, none⟩ = some (.bool ex) := cell_heap h0 5
    have c6 : w5.cell? ⟨w.heap.size, 6, none⟩ = some (.int .u64 addr) := cell_heap h0 6
    have c7 : w5.cell? ⟨w.heap.size, 7, none⟩ = some (.int .i64 size) := cell_heap h0 7
    have c8 : w5.cell? ⟨w.heap.size, 8, none⟩ = some (.int .u64 x) := cell_heap h0 8
    have c9 : w5.cell? ⟨w.heap.size, 9, none⟩ = some (.int .i64 id) := cell_heap h0 9
    have c10 : w5.cell? ⟨w.heap.size, 10, none⟩ = some (.int .i64 a) := cell_heap h0 10
    have c11 : w5.cell? ⟨w.heap.size, 11, none⟩ = some (.int .i64 b) := cell_heap h0 11
    have c12 : w5.cell? ⟨w.heap.size, 12, none⟩ = some (.int .i64 d) := cell_heap h0 12
    have k0 : w5.cell? ⟨w.heap.size + 1 + 1, 0, none⟩ = some (.int .u64 v.w0) := cell_heap h2 0
    have k1 : w5.cell? ⟨w.heap.size + 1 + 1, 1, none⟩ = some (.int .u64 v.w1) := cell_heap h2 1
    have k2 : w5.cell? ⟨w.heap.size + 1 + 1, 2, none⟩ = some (.int .u64 v.w2) := cell_heap h2 2
    have k3 : w5.cell? ⟨w.heap.size + 1 + 1, 3, none⟩ = some (.int .u64 v.w3) := cell_heap h2 3
    have k4 : w5.cell? ⟨w.heap.size + 1 + 1, 4, none⟩ = some (.int .u64 v.w4) := cell_heap h2 4
    have k5 : w5.cell? ⟨w.heap.size + 1 + 1, 5, none⟩ = some (.int .u64 v.w5) := cell_heap h2 5
    have q0 : w5.cell? ⟨w.heap.size + 1, 0, none⟩ = some (.int .u64 0) := cell_heap h1 0
    have f0 : w5.frozen? ⟨w.heap.size + 1, 0, none⟩ = false := frozen_heap h1 0
    have q1 : w5.cell? ⟨w.heap.size + 1, 1, none⟩ = some (.int .u64 0) := cell_heap h1 1
    have f1 : w5.frozen? ⟨w.heap.size + 1, 1, none⟩ = false := frozen_heap h1 1
    have q2 : w5.cell? ⟨w.heap.size + 1, 2, none⟩ = some (.int .u64 0) := cell_heap h1 2
    have f2 : w5.frozen? ⟨w.heap.size + 1, 2, none⟩ = false := frozen_heap h1 2
    have q3 : w5.cell? ⟨w.heap.size + 1, 3, none⟩ = some (.int .u64 0) := cell_heap h1 3
    have f3 : w5.frozen? ⟨w.heap.size + 1, 3, none⟩ = false := frozen_heap h1 3
    have q4 : w5.cell? ⟨w.heap.size + 1, 4, none⟩ = some (.int .u64 0) := cell_heap h1 4
    have f4 : w5.frozen? ⟨w.heap.size + 1, 4, none⟩ = false := frozen_heap h1 4
    have q5 : w5.cell? ⟨w.heap.size + 1, 5, none⟩ = some (.int .u64 0) := cell_heap h1 5
    have f5 : w5.frozen? ⟨w.heap.size + 1, 5, none⟩ = false := frozen_heap h1 5
    have H1b := Lib.hid h1
    have H2b := Lib.hid h2
    clear h0 h1 h2
    cases R with
    | none =>
      simp only [rvF, reF, Option.getD_none, CV.val, CV.cells, ccells, CV.zero]
      go_upto_region 30 with fail
      go_cut [157] (fun s57 wx => s57 = .bool true ∧ Below w5.heap.size w5 wx)
      case first =>
        go_wp2_with fail
        go_meet
        exact ⟨rfl, by go_grown⟩
      case rest =>
        obtain ⟨rfl, hb6⟩ := hcut
        have H1c := Lib.hid (heap_below hb6 H1b.out)
        have H2c := Lib.hid (heap_below hb6 H2b.out)
        have HB6 := Lib.hid (b_then HB5.out hb6)
        have hzc := heap_lt H1c.out
        clear hb6 hz0 hz1 hz2 c0 c1 c2 c3 c4 c5 c6 c7 c8 c9 c10 c11 c12
        have HALL : Hid ((#[.int .u64 0, .int .u64 0, .int .u64 0, .int .u64 0, .int .u64 0, .int .u64 0] : Array Value).all (·.oneCell') = true) := Lib.hid (by simp [Value.oneCell'])
        go_wp2_with (first | (refine wpList_store_row rfl 34 (.tmp 2) (.tmp 158) rfl (w.heap.size + 1) #[.int .u64 0, .int .u64 0, .int .u64 0, .int .u64 0, .int .u64 0, .int .u64 0] rfl rfl 34 #[.int .u64 0, .int .u64 0, .int .u64 0, .int .u64 0, .int .u64 0, .int .u64 0] H1c.out infoW rfl HALL.out ?_))
        refine bodyPost_ret (results_row_tmp (p := 2) (q := 3) rfl _ _ (w.heap.size + 1) 34 #[.int .u64 0, .int .u64 0, .int .u64 0, .int .u64 0, .int .u64 0, .int .u64 0] (0, 0) (.int .i64 13) rfl rfl (setRow_heap _ _ _ _ _ _ H1c.out)) rfl ⟨.inr ⟨by simp, rfl⟩, below_rowV HB6.out (by omega) _⟩
    | some g =>
      simp only [rvF, reF, Option.getD_some, CV.val, CV.cells, ccells]
      by_cases hg : g = ⟨op, f, t, wr, us, ex, addr, size, x, id, a, b, d⟩
      · subst hg
        go_upto_region 30 with fail
        go_cut [157] (fun s57 wx => s57 = .bool false ∧ Below w5.heap.size w5 wx)
        case first =>
          go_wp2_with fail
          go_meet
          exact ⟨rfl, by go_grown⟩
        case rest =>
          obtain ⟨rfl, hb6⟩ := hcut
          have H1c := Lib.hid (heap_below hb6 H1b.out)
          have H2c := Lib.hid (heap_below hb6 H2b.out)
          have HB6 := Lib.hid (b_then HB5.out hb6)
          have hzc := heap_lt H1c.out
          clear hb6 hz0 hz1 hz2 c0 c1 c2 c3 c4 c5 c6 c7 c8 c9 c10 c11 c12
          have HALL : Hid ((#[.int .u64 v.w0, .int .u64 v.w1, .int .u64 v.w2, .int .u64 v.w3, .int .u64 v.w4, .int .u64 v.w5] : Array Value).all (·.oneCell') = true) := Lib.hid (by simp [Value.oneCell'])
          go_wp2_with (first | (refine wpList_load_row rfl 34 (.tmp 8) rfl (w.heap.size + 1 + 1) rfl 34 #[.int .u64 v.w0, .int .u64 v.w1, .int .u64 v.w2, .int .u64 v.w3, .int .u64 v.w4, .int .u64 v.w5] (0, 0) (.array 6 27) H2c.out underW rfl infoW ?_) | (refine wpList_store_row rfl 34 (.tmp 2) (.tmp 159) rfl (w.heap.size + 1) #[.int .u64 v.w0, .int .u64 v.w1, .int .u64 v.w2, .int .u64 v.w3, .int .u64 v.w4, .int .u64 v.w5] rfl rfl 34 #[.int .u64 0, .int .u64 0, .int .u64 0, .int .u64 0, .int .u64 0, .int .u64 0] H1c.out infoW rfl HALL.out ?_))
          refine bodyPost_ret (results_row_tmp (p := 2) (q := 3) rfl _ _ (w.heap.size + 1) 34 #[.int .u64 v.w0, .int .u64 v.w1, .int .u64 v.w2, .int .u64 v.w3, .int .u64 v.w4, .int .u64 v.w5] (0, 0) (.int .i64 0) rfl rfl (setRow_heap _ _ _ _ _ _ H1c.out)) rfl ⟨.inl ⟨rfl, rfl⟩, below_rowV HB6.out (by omega) _⟩
      · have hnq := fun W => neq_call ⟨op, f, t, wr, us, ex, addr, size, x, id, a, b, d⟩ g hg W
        have HG := Lib.hid hg
        clear hg
        go_upto_region 30 with fail
        go_cut [157] (fun s57 wx => s57 = .bool true ∧ Below w5.heap.size w5 wx)
        case first =>
          go_wp2_with fail
          go_meet
          exact ⟨rfl, by go_grown⟩
        case rest =>
          obtain ⟨rfl, hb6⟩ := hcut
          have H1c := Lib.hid (heap_below hb6 H1b.out)
          have H2c := Lib.hid (heap_below hb6 H2b.out)
          have HB6 := Lib.hid (b_then HB5.out hb6)
          have hzc := heap_lt H1c.out
          clear hb6 hz0 hz1 hz2 c0 c1 c2 c3 c4 c5 c6 c7 c8 c9 c10 c11 c12
          have HALL : Hid ((#[.int .u64 0, .int .u64 0, .int .u64 0, .int .u64 0, .int .u64 0, .int .u64 0] : Array Value).all (·.oneCell') = true) := Lib.hid (by simp [Value.oneCell'])
          go_wp2_with (first | (refine wpList_store_row rfl 34 (.tmp 2) (.tmp 158) rfl (w.heap.size + 1) #[.int .u64 0, .int .u64 0, .int .u64 0, .int .u64 0, .int .u64 0, .int .u64 0] rfl rfl 34 #[.int .u64 0, .int .u64 0, .int .u64 0, .int .u64 0, .int .u64 0, .int .u64 0] H1c.out infoW rfl HALL.out ?_))
          refine bodyPost_ret (results_row_tmp (p := 2) (q := 3) rfl _ _ (w.heap.size + 1) 34 #[.int .u64 0, .int .u64 0, .int .u64 0, .int .u64 0, .int .u64 0, .int .u64 0] (0, 0) (.int .i64 13) rfl rfl (setRow_heap _ _ _ _ _ _ H1c.out)) rfl ⟨.inr ⟨fun e => HG.out (Option.some.inj e), rfl⟩, below_rowV HB6.out (by omega) _⟩
end Go.Proofs.Ytbbohjmkippigaa
