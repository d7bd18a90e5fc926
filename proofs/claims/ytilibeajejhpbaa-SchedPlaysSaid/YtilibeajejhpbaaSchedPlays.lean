/- SchedPlays answers true: its walk. No condition. -/
import Derived.Test.YtilibeajejhpbaaSchV
import Derived.Test.YtilibeajejhpbaaSchedRound
namespace Go.Proofs.Ytilibeajejhpbaa
open Go.ChangeShapes Go.WideShapes Go.ChangeAt Go.RowKit
open List (setIfInBounds_toArray set_cons_zero set_cons_succ)
set_option linter.unusedVariables false
set_option linter.unusedSimpArgs false
attribute [local go_sem ↓] Go.wp_at_zero Go.wp_at_succ
/-- The document's queue lies in block g. -/
structure XAt (w : World) (g base : Nat) (qn tk : Int) (A : Option Addr) (c : Nat) (l : List Int) : Prop where
 cells : w.heap[g]? = some (.cells #[.int .i64 qn, .int .i64 tk, .slice A l.length c] 40 (0, 0))
 row : IRow w base (.slice A l.length c) l
theorem XAt.below {w w' : World} {g base : Nat} {qn tk : Int} {A : Option Addr} {c : Nat} {l : List Int} (h : XAt w g base qn tk A c l) (hb : Below w.heap.size w w') : XAt w' g base qn tk A c l := ⟨heap_below hb h.cells, row_below h.row hb⟩
theorem row_type {w : World} {base : Nat} {v : Value} {l : List Int} (h : IRow w base v l) {b : Nat} {cs : Array Value} {T : TypeId} {fr : Nat × Nat} (hb : w.heap[b]? = some (.cells cs T fr)) (hT : T ≠ 3) : v.ownBlock ≠ some b := by
 intro e
 rcases h.2 with ⟨h1, _⟩ | ⟨g, cp, cur, h1, _, hg, _⟩
 ·rw [h1] at e; cases e
 ·rw [h1] at e
  have : g = b := by simpa [Value.ownBlock] using e
  subst this
  rw [hb] at hg
  simp only [Option.some.injEq, Obj.cells.injEq] at hg
  exact hT hg.2.1
theorem row_keeps {w w' : World} {base : Nat} {v : Value} {l : List Int} (h : IRow w base v l) (hk : ∀ b, v.ownBlock = some b → w'.heap[b]? = w.heap[b]?) : IRow w' base v l := by
 refine ⟨h.1, ?_⟩
 rcases h.2 with h1 | ⟨b, cap, cur, rfl, h2, hg, h3⟩
 ·exact .inl h1
 ·exact .inr ⟨b, cap, cur, rfl, h2, (hk b rfl).trans hg, h3⟩
theorem XAt.touch {w w' : World} {g base p base2 : Nat} {qn tk tk2 : Int} {v : Value} {A : Option Addr} {c : Nat} {l l2 : List Int} (h : XAt w g base qn tk A c l) (hq : QAt w p base2 qn tk2 v l2) (ht : Touch (fun k => k = p) w w') : XAt w' g base qn tk A c l := by
 have hne : g ≠ p := by
  rintro rfl
  have h1 := h.cells
  rw [hq.cells] at h1
  simp only [Option.some.injEq, Obj.cells.injEq] at h1
  exact absurd h1.2.1 (by decide)
 refine ⟨ht.heap h.cells hne, row_keeps h.row (fun b hb => ?_)⟩
 have hb2 : b ≠ p := by
  rintro rfl
  exact row_type h.row hq.cells (by decide) hb
 exact ht.block b (h.row.lt b hb).2 hb2
/-- The document's queue is written anew. -/
theorem XAt.put {w : World} {g base : Nat} {qn tk tk2 : Int} {A A2 : Option Addr} {c c2 : Nat} {l l2 : List Int} (h : w.heap[g]? = some (.cells #[.int .i64 qn, .int .i64 tk, .slice A l.length c] 40 (0, 0))) (hr : IRow w base (.slice A2 l2.length c2) l2) :
  XAt (((w.setCell ⟨g, 0, none⟩ (.int .i64 qn)).setCell ⟨g, 1, none⟩ (.int .i64 tk2)).setCell ⟨g, 2, none⟩ (.slice A2 l2.length c2)) g base qn tk2 A2 c2 l2 := by
 refine ⟨?_, row_keeps hr (fun b hb => ?_)⟩
 ·have h1 := heap_set h 0 (.int .i64 qn)
  have h2 := heap_set h1 1 (.int .i64 tk2)
  have h3 := heap_set h2 2 (.slice A2 l2.length c2)
  simpa using h3
 ·have hne : b ≠ g := by
   rintro rfl
   exact row_type hr h (by decide) hb
  rw [Below.heap_setCell _ _ _ _ hne, Below.heap_setCell _ _ _ _ hne, Below.heap_setCell _ _ _ _ hne]
theorem QAt.put {w : World} {g p base : Nat} {qn tk : Int} {v : Value} {l : List Int} (h : QAt w p base qn tk v l) {cs : Array Value} (hg : w.heap[g]? = some (.cells cs 40 (0, 0))) (u0 u1 u2 : Value) :
  QAt (((w.setCell ⟨g, 0, none⟩ u0).setCell ⟨g, 1, none⟩ u1).setCell ⟨g, 2, none⟩ u2) p base qn tk v l := by
 have hne : p ≠ g := by
  rintro rfl
  have h1 := h.cells
  rw [hg] at h1
  simp only [Option.some.injEq, Obj.cells.injEq] at h1
  exact absurd h1.2.1 (by decide)
 refine ⟨?_, row_keeps h.row (fun b hb => ?_), by simpa using h.le⟩
 ·rw [Below.heap_setCell _ _ _ _ hne, Below.heap_setCell _ _ _ _ hne, Below.heap_setCell _ _ _ _ hne]
  exact h.cells
 ·have hn2 : b ≠ g := by
   rintro rfl
   exact row_type h.row hg (by decide) hb
  rw [Below.heap_setCell _ _ _ _ hn2, Below.heap_setCell _ _ _ _ hn2, Below.heap_setCell _ _ _ _ hn2]
theorem put_below {W w : World} {g : Nat} (h : Below W.heap.size W w) (hg : W.heap.size ≤ g) (u0 u1 u2 : Value) : Below W.heap.size W (((w.setCell ⟨g, 0, none⟩ u0).setCell ⟨g, 1, none⟩ u1).setCell ⟨g, 2, none⟩ u2) := by
 have q1 := h
 go_grown
theorem rRem_any {w : World} {base : Nat} {qn tk : Int} {v : Value} {l : List Int} (h : IRow w base v l) (hb : base ≤ w.heap.size) (hl : l.length ≤ 900) (hnd : l.Nodup) (x : Int) :
  Calls Try.prog 19 #[.agg #[.int .i64 qn, .int .i64 tk, v], .int .i64 x] w fun e w' => ∃ v', e = .returned (.tuple #[.agg #[.int .i64 qn, .int .i64 (remQ (tk, l) x).1, v'], .int .i64 (remE l x)]) ∧ Below w.heap.size w w' ∧ IRow w' base v' (remQ (tk, l) x).2 := by
 by_cases hx : x ∈ l
 ·have h1 : remE l x = 0 := by unfold remE; rw [if_pos hx]
  have h2 : (remQ (tk, l) x).2 = outL l x := by unfold remQ; simp only; rw [if_pos hx, outL_erase hnd]
  rw [h1, h2]
  exact rRem_some h hb hl x hx
 ·have h1 : remE l x = 5 := by unfold remE; rw [if_neg hx]
  have h2 : remQ (tk, l) x = (tk, l) := by unfold remQ; simp only; rw [if_neg hx]
  rw [h1, h2]
  exact (rRem_none h hl x hx).mono fun e w' ⟨a, b⟩ => ⟨v, a, b, row_below h b⟩
theorem remQ_nodup {s : Int × List Int} (h : s.2.Nodup) (x : Int) : (remQ s x).2.Nodup := by
 unfold remQ
 split
 ·exact h.erase x
 ·exact h
theorem line_form {w : World} {p base : Nat} {qn tk : Int} {v : Value} {l : List Int} (h : QAt w p base qn tk v l) (hl : l.length ≤ 1000000) : Calls Try.prog 12 #[.pointer (some ⟨p, 0, none⟩)] w fun e w' => ∃ A c, e = .returned (.slice A l.length c) ∧ Below w.heap.size w w' ∧ IRd w' A l :=
 (line_any h hl).mono fun e w' ⟨v', h1, h2, h3⟩ => by
  obtain ⟨A, c, rfl⟩ := row_form h3
  exact ⟨A, c, h1, h2, IRow.rd h3⟩
set_option maxRecDepth 20000 in
set_option maxHeartbeats 16000000 in
theorem walk_SchedPlays (a0 : Int) (A1 : Option Addr) (len1 cap1 : Nat) (w : World) (w0 : (Lit.int .i64 a0).wf = true) (r1 : Rows_ w [.i .i64, .i .i64] A1 len1) :
  Calls Try.prog 6 #[.int .i64 a0, .slice A1 len1 cap1] w fun e w' => e = .returned (.bool true) ∧ Below w.heap.size w w' := by
 clear w0
 have hl0 := r1.1
 by_cases hq : a0 < 1 ∨ 1000 < a0
 ·have hd : (decide (a0 < 1) = true) ∨ (decide (a0 < 1) = false ∧ decide (1000 < a0) = true) := by
   by_cases h : a0 < 1
   ·exact .inl (decide_eq_true h)
   ·exact .inr ⟨decide_eq_false h, decide_eq_true (by omega)⟩
  have HN := Lib.hid (new_bad a0 hq w)
  clear hq
  rcases hd with d1 | ⟨d1, d2⟩
  all_goals
   go_enter Try.func6, Try.ntmps6
   go_wp2_with fail
   refine HN.out.mono ?_
   rintro e w1 ⟨rfl, hw⟩
   obtain rfl := hw.symm
   clear hw
   go_wp2_with fail
   refine (awake_true _).mono ?_
   rintro e w2 ⟨rfl, hb2⟩
   go_wp2
   go_returns
   exact ⟨rfl, hb2⟩
 ·obtain ⟨q, rfl⟩ : ∃ q : Int, q = a0 := ⟨a0, rfl⟩
  have d1 : decide (q < 1) = false := decide_eq_false (by omega)
  have d2 : decide (1000 < q) = false := decide_eq_false (by omega)
  have d3 : decide (q ≤ 0) = false := decide_eq_false (by omega)
  have q1 : Hid (1 ≤ q ∧ q ≤ 1000) := Lib.hid (by omega)
  clear hq
  go_enter Try.func6, Try.ntmps6
  go_wp2_with fail
  refine (new_ok q (by have := q1.out; omega) (by have := q1.out; omega) w).mono ?_
  rintro e w1 ⟨rfl, hb1, hq1⟩
  have HB1 := Lib.hid hb1
  have HQ1 := Lib.hid hq1
  clear hb1 hq1
  go_wp2_with fail
  refine (awake_true _).mono ?_
  rintro e w2 ⟨rfl, hb2⟩
  have hBt := b_then HB1.out hb2
  have hQt := HQ1.out.below hb2
  obtain ⟨g, hg⟩ : ∃ g, g = w2.heap.size := ⟨_, rfl⟩
  obtain ⟨W0, hW0⟩ : ∃ W, W = w2.alloc (.cells #[.int .i64 q, .int .i64 0, .slice none 0 0] 40) := ⟨_, rfl⟩
  have hb0 : Below w2.heap.size w2 W0 := by rw [hW0]; exact (Below.refl _ _).alloc (Nat.le_refl _) _
  have HX0 : Hid (XAt W0 g w.heap.size q 0 none 0 []) := Lib.hid ⟨by rw [hW0, hg]; exact heap_new _ _, IRow.nil _ _⟩
  have HQ0 := Lib.hid (hQt.below hb0)
  have HB0 := Lib.hid (b_then hBt hb0)
  have HWE := Lib.hid hW0
  have HGE := Lib.hid hg
  have hgw : w.heap.size ≤ g := by rw [hg]; exact hBt.size
  clear hb2 hBt hQt hb0 hW0 hg
  go_wp2_with fail
  rw [← HGE.out, ← HWE.out]
  clear HB1 HQ1 HWE HGE
  go_loopw [8] (fun i wr => ∃ (k : Nat) (tk : Int) (v : Value) (l : List Int) (A : Option Addr) (c : Nat), i = .int .i64 k ∧ k ≤ len1 ∧ k ≤ 100 ∧ Hid (Below w.heap.size w wr) ∧ Hid (QAt wr w.heap.size w.heap.size q tk v l) ∧ Hid (XAt wr g w.heap.size q tk A c l) ∧ Hid (0 ≤ tk ∧ tk < q ∧ l.Nodup ∧ l.length ≤ k)) (fun i _ => 100 - (intOf i).toNat)
  case atStart => exact ⟨0, 0, _, [], none, 0, rfl, by omega, by omega, HB0, HQ0, HX0, Lib.hid ⟨by omega, by have := q1.out; omega, List.nodup_nil, by simp⟩⟩
  case round =>
   clear HB0 HQ0 HX0
   obtain ⟨k, tk, v, l, A, c, rfl, hle, hle2, HB, HQR, HXR0, HF⟩ := hrel
   by_cases hlt : k < len1 ∧ k < 100
   ·obtain ⟨hl1, hl2⟩ := hlt
    obtain ⟨b, off, hA0, hbs, kind, x, e0, e1⟩ := act_row r1 hl1
    have f0 : decide (k < len1) = true := decide_eq_true hl1
    have f1 : decide ((k : Int) < 100) = true := decide_eq_true (by omega)
    subst hA0
    have hl9 : l.length ≤ 900 := by have := HF.out; omega
    have c0 := (HB.out.cell (p := ⟨b, off + k * 2, none⟩) hbs).trans e0
    have c1 := (HB.out.cell (p := ⟨b, off + k * 2 + 1, none⟩) hbs).trans e1
    -- the act's block
    obtain ⟨W1, hW1⟩ : ∃ W, W = wr.alloc (.cells #[.int .i64 kind, .int .i64 x] 29) := ⟨_, rfl⟩
    obtain ⟨ga, hga⟩ : ∃ g, g = wr.heap.size := ⟨_, rfl⟩
    have hbW : Below wr.heap.size wr W1 := by rw [hW1]; exact (Below.refl _ _).alloc (Nat.le_refl _) _
    have hca : W1.heap[ga]? = some (.cells #[.int .i64 kind, .int .i64 x] 29 (0, 0)) := by rw [hW1, hga]; exact heap_new _ _
    have hQ1 := HQR.out.below hbW
    have hX1 := HXR0.out.below hbW
    have hB1 := b_then HB.out hbW
    have hnp : ga ≠ w.heap.size := by
     rintro rfl
     have h1 := hQ1.cells
     rw [hca] at h1
     simp only [Option.some.injEq, Obj.cells.injEq] at h1
     exact absurd h1.2.1 (by decide)
    have HQ1 := Lib.hid hQ1
    have HX1 := Lib.hid hX1
    have HB1 := Lib.hid hB1
    have HCA := Lib.hid hca
    have HWE := Lib.hid hW1
    have HGE := Lib.hid hga
    have HL9 := Lib.hid hl9
    have HXW := Lib.hid HXR0.out.cells
    have n1 : W1.cell? ⟨ga, 1, none⟩ = some (.int .i64 x) := cell_heap hca 1
    have zga := heap_lt hca
    clear hW1 hga hbW hca hQ1 hX1 hB1 e0 e1 HQR HXR0 HB hl9
    by_cases k1 : kind = 1
    ·as_aux_lemma =>
      subst k1
      have HC := Lib.hid (add_any HQ1.out HL9.out x)
      have HLA : Hid (0 ≤ tk ∧ tk < q ∧ (addQ l x).Nodup ∧ (addQ l x).length ≤ k + 1) := Lib.hid ⟨HF.out.1, HF.out.2.1, addQ_nodup HF.out.2.2.1 x, by have := addQ_len l x; have := HF.out.2.2.2; omega⟩
      go_wp2_with fail
      rw [← HGE.out, ← HWE.out]
      refine HC.out.mono ?_
      rintro e w3 ⟨rfl, ht3, v3, hq3⟩
      have hX3 := HX1.out.touch HQ1.out ht3
      have hB3 := Below.touch HB1.out ht3 (Nat.le_refl _) (fun k e => by omega)
      have hca3 := ht3.heap HCA.out hnp
      have HRA := Lib.hid (rAdd_any (qn := q) (tk := tk) hX3.row (Nat.le_trans hB3.size (Nat.le_refl _) |> fun h => h) HL9.out x)
      have n3 : w3.cell? ⟨ga, 1, none⟩ = some (.int .i64 x) := cell_heap hca3 1
      have x0 : w3.cell? ⟨g, 0, none⟩ = some (.int .i64 q) := cell_heap hX3.cells 0
      have x1 : w3.cell? ⟨g, 1, none⟩ = some (.int .i64 tk) := cell_heap hX3.cells 1
      have x2 : w3.cell? ⟨g, 2, none⟩ = some (.slice A l.length c) := cell_heap hX3.cells 2
      have HX3 := Lib.hid hX3
      have HB3 := Lib.hid hB3
      have HQ3 := Lib.hid hq3
      have HLA2 := HLA
      generalize addQ l x = l3 at HRA HLA2 HQ3
      generalize addE l x = ee at HRA
      clear ht3 hX3 hB3 hca3 hq3 HC HLA n1
      go_wp2_with fail
      refine HRA.out.mono ?_
      rintro e w4 ⟨v4, rfl, hb4, hr4⟩
      obtain ⟨A4, c4, rfl⟩ := row_form hr4
      have hgc4 := heap_below hb4 HX3.out.cells
      have hq4 := HQ3.out.below hb4
      have hB4 := b_then HB3.out hb4
      obtain ⟨wx, hwx⟩ : ∃ W, W = ((w4.setCell ⟨g, 0, none⟩ (.int .i64 q)).setCell ⟨g, 1, none⟩ (.int .i64 tk)).setCell ⟨g, 2, none⟩ (.slice A4 l3.length c4) := ⟨_, rfl⟩
      have hX : XAt wx g w.heap.size q tk A4 c4 l3 := by rw [hwx]; exact XAt.put hgc4 hr4
      have hQ : QAt wx w.heap.size w.heap.size q tk v3 l3 := by rw [hwx]; exact hq4.put hgc4 _ _ _
      have hBt : Below w.heap.size w wx := by rw [hwx]; exact put_below hB4 hgw _ _ _
      have y0 : w4.cell? ⟨g, 0, none⟩ = some (.int .i64 q) := cell_heap hgc4 0
      have y1 : w4.cell? ⟨g, 1, none⟩ = some (.int .i64 tk) := cell_heap hgc4 1
      have y2 : w4.cell? ⟨g, 2, none⟩ = some (.slice A l.length c) := cell_heap hgc4 2
      have z0 : w4.frozen? ⟨g, 0, none⟩ = false := frozen_heap hgc4 0
      have z1 : w4.frozen? ⟨g, 1, none⟩ = false := frozen_heap hgc4 1
      have z2 : w4.frozen? ⟨g, 2, none⟩ = false := frozen_heap hgc4 2
      have hLN := HLA2.out
      have HQ := Lib.hid hQ
      have HX := Lib.hid hX
      have HBt := Lib.hid hBt
      have HLN := Lib.hid hLN
      have HWX := Lib.hid hwx
      clear hQ hX hBt hLN hwx hgc4 hq4 hB4 hr4 hb4
      go_wp2_with fail
      rw [← HWX.out]
      clear HWX y0 y1 y2 z0 z1 z2
      cases l3 with
      | nil =>
       have HN := Lib.hid (now_nil HQ.out)
       refine HN.out.mono ?_
       rintro e wN ⟨rfl, hw⟩
       obtain rfl := hw.symm
       clear hw HN
       have kx1 : wx.cell? ⟨g, 1, none⟩ = some (.int .i64 tk) := cell_heap HX.out.cells 1
       have kx2 : wx.cell? ⟨g, 2, none⟩ = some (.slice A4 0 c4) := cell_heap HX.out.cells 2
       have hgx := heap_lt HX.out.cells
       have HS : Hid (∀ W : World, Below wx.heap.size wx W → W.cell? ⟨g, 1, none⟩ = some (.int .i64 tk) ∧ W.cell? ⟨g, 2, none⟩ = some (.slice A4 0 c4)) := Lib.hid (fun W hW => ⟨(hW.cell (p := ⟨g, 1, none⟩) hgx).trans kx1, (hW.cell (p := ⟨g, 2, none⟩) hgx).trans kx2⟩)
       have HLI : Hid (∀ W, Below wx.heap.size wx W → Calls Try.prog 12 #[.pointer (some ⟨w.heap.size, 0, none⟩)] W fun e w' => ∃ A c, e = .returned (.slice A 0 c) ∧ Below W.heap.size W w' ∧ IRd w' A []) := Lib.hid (fun W hW => line_form (HQ.out.below hW) (by simp))
       have HTI : Hid (∀ W, Below wx.heap.size wx W → Calls Try.prog 15 #[.pointer (some ⟨w.heap.size, 0, none⟩)] W fun e w' => e = .returned (.int .i64 tk) ∧ w' = W) := Lib.hid (fun W hW => ticks_any (HQ.out.below hW))
       have HXR : Hid (∀ W, Below wx.heap.size wx W → IRd W A4 []) := Lib.hid (fun W hW => (IRow.rd HX.out.row).below hW)
       have HSA : Hid (∀ W AA cc, IRd W AA [] → IRd W A4 [] → Calls Try.prog 17 #[.slice AA 0 cc, .slice A4 0 c4] W fun e w' => e = .returned (.bool true) ∧ Below W.heap.size W w') := Lib.hid (fun W AA cc h1 h2 => same_eq h1 h2 (by simp) cc c4)
       go_wp2_with fail
       refine wp_region_held_drew (S := fun W : World => W.cell? ⟨g, 1, none⟩ = some (.int .i64 tk) ∧ W.cell? ⟨g, 2, none⟩ = some (.slice A4 0 c4)) (by kernel_rfl) (by first | exact (HS.out _ ((Below.refl _ _).drew)) | (go_keep; done)) (fun hHeld => ?_)
       refine wpAnyH_take (i := 0) (oi := { dst := some 113, op := .move (.tmp 10), type := 24, pos := "law.go:70", after := #[], guard := none }) (v := ?_) rfl (by kernel_rfl) (by kernel_rfl) (by kernel_rfl) (fun _ _ _ h => h) (Or.inl ⟨by rfl, ?_⟩) (by assumption) ?_
       rotate_left
       ·intro w hSw; (try dsimp only at hSw); go_simp; try with_reducible rfl
       simp only [Act.put, setIfInBounds_toArray, set_cons_zero, set_cons_succ]
       refine wpAnyH_take (i := 1) (oi := { dst := some 114, op := .move (.tmp 11), type := 3, pos := "law.go:70", after := #[], guard := none }) (v := ?_) rfl (by kernel_rfl) (by kernel_rfl) (by kernel_rfl) (fun _ _ _ h => h) (Or.inl ⟨by rfl, ?_⟩) (by assumption) ?_
       rotate_left
       ·intro w hSw; (try dsimp only at hSw); go_simp; try with_reducible rfl
       simp only [Act.put, setIfInBounds_toArray, set_cons_zero, set_cons_succ]
       refine wpAnyH_take (i := 2) (oi := { dst := some 115, op := .binOp .neq 3 (.tmp 113) (.tmp 114) 3, type := 4, pos := "law.go:70", after := #[⟨0, .data⟩, ⟨1, .data⟩], guard := none }) (v := ?_) rfl (by kernel_rfl) (by kernel_rfl) (by kernel_rfl) (fun _ _ _ h => h) (Or.inl ⟨by rfl, ?_⟩) (by assumption) ?_
       rotate_left
       ·intro w hSw; (try dsimp only at hSw); go_simp; try with_reducible rfl
       simp only [Act.put, setIfInBounds_toArray, set_cons_zero, set_cons_succ]
       refine wpAnyH_take (i := 3) (oi := { dst := some 116, op := .move (.tmp 115), type := 4, pos := "law.go:70", after := #[⟨2, .data⟩], guard := none }) (v := ?_) rfl (by kernel_rfl) (by kernel_rfl) (by kernel_rfl) (fun _ _ _ h => h) (Or.inl ⟨by rfl, ?_⟩) (by assumption) ?_
       rotate_left
       ·intro w hSw; (try dsimp only at hSw); go_simp; try with_reducible rfl
       simp only [Act.put, setIfInBounds_toArray, set_cons_zero, set_cons_succ]
       refine wpAnyH_take (i := 4) (oi := { dst := some 117, op := .move (.tmp 5), type := 23, pos := "law.go:70", after := #[⟨3, .guard⟩], guard := some (3, false) }) (v := ?_) rfl (by kernel_rfl) (by kernel_rfl) (by kernel_rfl) (fun _ _ _ h => h) (Or.inl ⟨by rfl, ?_⟩) (by assumption) ?_
       rotate_left
       ·intro w hSw; (try dsimp only at hSw); go_simp; try with_reducible rfl
       simp only [Act.put, setIfInBounds_toArray, set_cons_zero, set_cons_succ]
       refine wpAnyH_take (i := 6) (oi := { dst := some 119, op := .fieldAddr 40 (.tmp 7) 2, type := 0, pos := "law.go:70", after := #[⟨3, .guard⟩], guard := some (3, false) }) (v := ?_) rfl (by kernel_rfl) (by kernel_rfl) (by kernel_rfl) (fun _ _ _ h => h) (Or.inl ⟨by rfl, ?_⟩) (by assumption) ?_
       rotate_left
       ·intro w hSw; (try dsimp only at hSw); go_simp; try with_reducible rfl
       simp only [Act.put, setIfInBounds_toArray, set_cons_zero, set_cons_succ]
       refine wpAnyH_take (i := 7) (oi := { dst := some 120, op := .load 31 (.tmp 119), type := 31, pos := "law.go:70", after := #[⟨6, .data⟩, ⟨3, .guard⟩], guard := some (3, false) }) (v := ?_) rfl (by kernel_rfl) (by kernel_rfl) (by kernel_rfl) (fun _ _ _ h => h) (Or.inl ⟨by rfl, ?_⟩) (by assumption) ?_
       rotate_left
       ·intro w hSw; (try dsimp only at hSw); go_simp; try with_reducible rfl
       simp only [Act.put, setIfInBounds_toArray, set_cons_zero, set_cons_succ]
       refine wpAnyH_ready (rs := [5]) (by kernel_rfl) (by simp) ?_
       refine AllReadyH.cons (o := { dst := some 118, op := .call { callee := .value (.func 12), args := #[.tmp 117], argTypes := #[23] }, type := 31, pos := "law.go:70", after := #[⟨4, .data⟩, ⟨3, .chain⟩, ⟨3, .guard⟩], guard := some (3, false) }) rfl (fun K hK => ?_) AllReadyH.nil
       go_simp
       refine (HLI.out _ (by go_grown)).mono ?_
       rintro e wL ⟨AL, cL, rfl, hbL, hrL⟩
       have hBL : Below wx.heap.size wx wL := (b_then (by go_grown) hbL)
       obtain ⟨u1, u2⟩ := HS.out wL hBL
       have hsL := hBL.size
       clear hHeld
       refine hK.out _ _ (by (try dsimp only); go_keep) (fun hHeld => ?_)
       clear hK K
       try simp only [Act.put, setIfInBounds_toArray, set_cons_zero, set_cons_succ]
       refine wpAnyH_ready (rs := [8]) (by kernel_rfl) (by simp) ?_
       refine AllReadyH.cons (o := { dst := some 121, op := .call { callee := .value (.func 17), args := #[.tmp 118, .tmp 120], argTypes := #[31, 31] }, type := 4, pos := "law.go:70", after := #[⟨5, .data⟩, ⟨7, .data⟩, ⟨5, .chain⟩, ⟨3, .guard⟩], guard := some (3, false) }) rfl (fun K hK => ?_) AllReadyH.nil
       go_simp
       refine (HSA.out _ _ _ (by first | exact hrL | exact hrL.below ((Below.refl _ _).drew)) (HXR.out _ (by first | exact hBL | exact hBL.drew))).mono ?_
       rintro e wM ⟨rfl, hbM⟩
       have hBM : Below wx.heap.size wx wM := (b_then (by first | exact hBL | exact hBL.drew) hbM)
       obtain ⟨m1, m2⟩ := HS.out wM hBM
       have hsM := hBM.size
       clear hHeld
       refine hK.out _ _ (by (try dsimp only); go_keep) (fun hHeld => ?_)
       clear hK K
       try simp only [Act.put, setIfInBounds_toArray, set_cons_zero, set_cons_succ]
       refine wpAnyH_take (i := 9) (oi := { dst := some 122, op := .unOp .not 4 (.tmp 121), type := 4, pos := "law.go:70", after := #[⟨8, .data⟩, ⟨3, .guard⟩], guard := some (3, false) }) (v := ?_) rfl (by kernel_rfl) (by kernel_rfl) (by kernel_rfl) (fun _ _ _ h => h) (Or.inl ⟨by rfl, ?_⟩) (by assumption) ?_
       rotate_left
       ·intro w hSw; (try dsimp only at hSw); go_simp; try with_reducible rfl
       simp only [Act.put, setIfInBounds_toArray, set_cons_zero, set_cons_succ]
       refine wpAnyH_take (i := 10) (oi := { dst := some 123, op := .pick (.tmp 116) (.const (.bool true)) (.tmp 122), type := 4, pos := "law.go:70", after := #[⟨3, .data⟩, ⟨9, .data⟩], guard := none }) (v := ?_) rfl (by kernel_rfl) (by kernel_rfl) (by kernel_rfl) (fun _ _ _ h => h) (Or.inl ⟨by rfl, ?_⟩) (by assumption) ?_
       rotate_left
       ·intro w hSw; (try dsimp only at hSw); go_simp; try with_reducible rfl
       simp only [Act.put, setIfInBounds_toArray, set_cons_zero, set_cons_succ]
       refine wpAnyH_take (i := 11) (oi := { dst := some 124, op := .move (.tmp 123), type := 4, pos := "law.go:70", after := #[⟨10, .data⟩, ⟨8, .chain⟩], guard := none }) (v := ?_) rfl (by kernel_rfl) (by kernel_rfl) (by kernel_rfl) (fun _ _ _ h => h) (Or.inl ⟨by rfl, ?_⟩) (by assumption) ?_
       rotate_left
       ·intro w hSw; (try dsimp only at hSw); go_simp; try with_reducible rfl
       simp only [Act.put, setIfInBounds_toArray, set_cons_zero, set_cons_succ]
       refine wpAnyH_take (i := 12) (oi := { dst := some 125, op := .move (.tmp 5), type := 23, pos := "law.go:70", after := #[⟨11, .guard⟩], guard := some (11, false) }) (v := ?_) rfl (by kernel_rfl) (by kernel_rfl) (by kernel_rfl) (fun _ _ _ h => h) (Or.inl ⟨by rfl, ?_⟩) (by assumption) ?_
       rotate_left
       ·intro w hSw; (try dsimp only at hSw); go_simp; try with_reducible rfl
       simp only [Act.put, setIfInBounds_toArray, set_cons_zero, set_cons_succ]
       refine wpAnyH_take (i := 14) (oi := { dst := some 127, op := .fieldAddr 40 (.tmp 7) 1, type := 0, pos := "law.go:70", after := #[⟨11, .guard⟩], guard := some (11, false) }) (v := ?_) rfl (by kernel_rfl) (by kernel_rfl) (by kernel_rfl) (fun _ _ _ h => h) (Or.inl ⟨by rfl, ?_⟩) (by assumption) ?_
       rotate_left
       ·intro w hSw; (try dsimp only at hSw); go_simp; try with_reducible rfl
       simp only [Act.put, setIfInBounds_toArray, set_cons_zero, set_cons_succ]
       refine wpAnyH_take (i := 15) (oi := { dst := some 128, op := .load 3 (.tmp 127), type := 3, pos := "law.go:70", after := #[⟨14, .data⟩, ⟨11, .guard⟩], guard := some (11, false) }) (v := ?_) rfl (by kernel_rfl) (by kernel_rfl) (by kernel_rfl) (fun _ _ _ h => h) (Or.inl ⟨by rfl, ?_⟩) (by assumption) ?_
       rotate_left
       ·intro w hSw; (try dsimp only at hSw); go_simp; try with_reducible rfl
       simp only [Act.put, setIfInBounds_toArray, set_cons_zero, set_cons_succ]
       refine wpAnyH_ready (rs := [13]) (by kernel_rfl) (by simp) ?_
       refine AllReadyH.cons (o := { dst := some 126, op := .call { callee := .value (.func 15), args := #[.tmp 125], argTypes := #[23] }, type := 3, pos := "law.go:70", after := #[⟨12, .data⟩, ⟨11, .chain⟩, ⟨11, .guard⟩], guard := some (11, false) }) rfl (fun K hK => ?_) AllReadyH.nil
       go_simp
       refine (HTI.out _ (by first | exact hBM | exact hBM.drew | go_grown)).mono ?_
       rintro e wZ ⟨rfl, hwZ⟩
       obtain rfl := hwZ.symm
       clear hwZ
       clear hHeld
       refine hK.out _ _ (by (try dsimp only); go_keep) (fun hHeld => ?_)
       clear hK K
       try simp only [Act.put, setIfInBounds_toArray, set_cons_zero, set_cons_succ]
       refine wpAnyH_take (i := 16) (oi := { dst := some 129, op := .binOp .neq 3 (.tmp 126) (.tmp 128) 3, type := 4, pos := "law.go:70", after := #[⟨13, .data⟩, ⟨15, .data⟩, ⟨11, .guard⟩], guard := some (11, false) }) (v := ?_) rfl (by kernel_rfl) (by kernel_rfl) (by kernel_rfl) (fun _ _ _ h => h) (Or.inl ⟨by rfl, ?_⟩) (by assumption) ?_
       rotate_left
       ·intro w hSw; (try dsimp only at hSw); go_simp; try with_reducible rfl
       simp only [Act.put, setIfInBounds_toArray, set_cons_zero, set_cons_succ]
       refine wpAnyH_take (i := 17) (oi := { dst := some 130, op := .pick (.tmp 124) (.const (.bool true)) (.tmp 129), type := 4, pos := "law.go:70", after := #[⟨11, .data⟩, ⟨16, .data⟩], guard := none }) (v := ?_) rfl (by kernel_rfl) (by kernel_rfl) (by kernel_rfl) (fun _ _ _ h => h) (Or.inl ⟨by rfl, ?_⟩) (by assumption) ?_
       rotate_left
       ·intro w hSw; (try dsimp only at hSw); go_simp; try with_reducible rfl
       simp only [Act.put, setIfInBounds_toArray, set_cons_zero, set_cons_succ]
       refine wpAnyH_take (i := 18) (oi := { dst := some 131, op := .move (.tmp 130), type := 4, pos := "law.go:70", after := #[⟨17, .data⟩, ⟨13, .chain⟩], guard := none }) (v := ?_) rfl (by kernel_rfl) (by kernel_rfl) (by kernel_rfl) (fun _ _ _ h => h) (Or.inl ⟨by rfl, ?_⟩) (by assumption) ?_
       rotate_left
       ·intro w hSw; (try dsimp only at hSw); go_simp; try with_reducible rfl
       simp only [Act.put, setIfInBounds_toArray, set_cons_zero, set_cons_succ]
       refine wpAnyH_take (i := 19) (oi := { dst := some 132, op := .move (.tmp 15), type := 4, pos := "law.go:70", after := #[⟨18, .guard⟩], guard := some (18, false) }) (v := ?_) rfl (by kernel_rfl) (by kernel_rfl) (by kernel_rfl) (fun _ _ _ h => h) (Or.inl ⟨by rfl, ?_⟩) (by assumption) ?_
       rotate_left
       ·intro w hSw; (try dsimp only at hSw); go_simp; try with_reducible rfl
       simp only [Act.put, setIfInBounds_toArray, set_cons_zero, set_cons_succ]
       refine wpAnyH_take (i := 20) (oi := { dst := some 133, op := .fieldAddr 40 (.tmp 7) 2, type := 0, pos := "law.go:70", after := #[⟨18, .guard⟩], guard := some (18, false) }) (v := ?_) rfl (by kernel_rfl) (by kernel_rfl) (by kernel_rfl) (fun _ _ _ h => h) (Or.inl ⟨by rfl, ?_⟩) (by assumption) ?_
       rotate_left
       ·intro w hSw; (try dsimp only at hSw); go_simp; try with_reducible rfl
       simp only [Act.put, setIfInBounds_toArray, set_cons_zero, set_cons_succ]
       refine wpAnyH_take (i := 21) (oi := { dst := some 134, op := .load 31 (.tmp 133), type := 31, pos := "law.go:70", after := #[⟨20, .data⟩, ⟨18, .guard⟩], guard := some (18, false) }) (v := ?_) rfl (by kernel_rfl) (by kernel_rfl) (by kernel_rfl) (fun _ _ _ h => h) (Or.inl ⟨by rfl, ?_⟩) (by assumption) ?_
       rotate_left
       ·intro w hSw; (try dsimp only at hSw); go_simp; try with_reducible rfl
       simp only [Act.put, setIfInBounds_toArray, set_cons_zero, set_cons_succ]
       refine wpAnyH_take (i := 22) (oi := { dst := some 135, op := .call { callee := .builtin .len, args := #[.tmp 134], argTypes := #[31] }, type := 3, pos := "law.go:70", after := #[⟨21, .data⟩, ⟨18, .guard⟩], guard := some (18, false) }) (v := ?_) rfl (by kernel_rfl) (by kernel_rfl) (by kernel_rfl) (fun _ _ _ h => h) (Or.inl ⟨by rfl, ?_⟩) (by assumption) ?_
       rotate_left
       ·intro w hSw; (try dsimp only at hSw); go_simp; try with_reducible rfl
       simp only [Act.put, setIfInBounds_toArray, set_cons_zero, set_cons_succ]
       refine wpAnyH_take (i := 23) (oi := { dst := some 136, op := .binOp .gtr 3 (.tmp 135) (.const (.int .i64 0)) 3, type := 4, pos := "law.go:70", after := #[⟨22, .data⟩, ⟨18, .guard⟩], guard := some (18, false) }) (v := ?_) rfl (by kernel_rfl) (by kernel_rfl) (by kernel_rfl) (fun _ _ _ h => h) (Or.inl ⟨by rfl, ?_⟩) (by assumption) ?_
       rotate_left
       ·intro w hSw; (try dsimp only at hSw); go_simp; try with_reducible rfl
       simp only [Act.put, setIfInBounds_toArray, set_cons_zero, set_cons_succ]
       refine wpAnyH_take (i := 24) (oi := { dst := some 137, op := .binOp .neq 4 (.tmp 132) (.tmp 136) 4, type := 4, pos := "law.go:70", after := #[⟨19, .data⟩, ⟨23, .data⟩, ⟨18, .guard⟩], guard := some (18, false) }) (v := ?_) rfl (by kernel_rfl) (by kernel_rfl) (by kernel_rfl) (fun _ _ _ h => h) (Or.inl ⟨by rfl, ?_⟩) (by assumption) ?_
       rotate_left
       ·intro w hSw; (try dsimp only at hSw); go_simp; try with_reducible rfl
       simp only [Act.put, setIfInBounds_toArray, set_cons_zero, set_cons_succ]
       refine wpAnyH_take (i := 25) (oi := { dst := some 138, op := .pick (.tmp 131) (.const (.bool true)) (.tmp 137), type := 4, pos := "law.go:70", after := #[⟨18, .data⟩, ⟨24, .data⟩], guard := none }) (v := ?_) rfl (by kernel_rfl) (by kernel_rfl) (by kernel_rfl) (fun _ _ _ h => h) (Or.inl ⟨by rfl, ?_⟩) (by assumption) ?_
       rotate_left
       ·intro w hSw; (try dsimp only at hSw); go_simp; try with_reducible rfl
       simp only [Act.put, setIfInBounds_toArray, set_cons_zero, set_cons_succ]
       refine wpAnyH_take (i := 26) (oi := { dst := some 139, op := .move (.tmp 138), type := 4, pos := "law.go:70", after := #[⟨25, .data⟩, ⟨18, .chain⟩], guard := none }) (v := ?_) rfl (by kernel_rfl) (by kernel_rfl) (by kernel_rfl) (fun _ _ _ h => h) (Or.inl ⟨by rfl, ?_⟩) (by assumption) ?_
       rotate_left
       ·intro w hSw; (try dsimp only at hSw); go_simp; try with_reducible rfl
       simp only [Act.put, setIfInBounds_toArray, set_cons_zero, set_cons_succ]
       refine wpAnyH_take (i := 27) (oi := { dst := some 140, op := .move (.tmp 15), type := 4, pos := "law.go:70", after := #[⟨26, .guard⟩], guard := some (26, false) }) (v := ?_) rfl (by kernel_rfl) (by kernel_rfl) (by kernel_rfl) (fun _ _ _ h => h) (Or.inl ⟨by rfl, ?_⟩) (by assumption) ?_
       rotate_left
       ·intro w hSw; (try dsimp only at hSw); go_simp; try with_reducible rfl
       simp only [Act.put, setIfInBounds_toArray, set_cons_zero, set_cons_succ]
       refine wpAnyH_take (i := 28) (oi := { dst := some 141, op := .move (.tmp 140), type := 4, pos := "law.go:70", after := #[⟨27, .data⟩, ⟨26, .chain⟩, ⟨26, .guard⟩], guard := some (26, false) }) (v := ?_) rfl (by kernel_rfl) (by kernel_rfl) (by kernel_rfl) (fun _ _ _ h => h) (Or.inl ⟨by rfl, ?_⟩) (by assumption) ?_
       rotate_left
       ·intro w hSw; (try dsimp only at hSw); go_simp; try with_reducible rfl
       simp only [Act.put, setIfInBounds_toArray, set_cons_zero, set_cons_succ]
       refine wpAnyH_take (i := 29) (oi := { dst := some 142, op := .move (.tmp 14), type := 3, pos := "law.go:70", after := #[⟨28, .guard⟩], guard := some (28, true) }) (v := undef) rfl (by kernel_rfl) (by kernel_rfl) (by kernel_rfl) (fun _ _ _ h => h) (Or.inr ⟨by rfl, rfl⟩) (by assumption) ?_
       simp only [Act.put, setIfInBounds_toArray, set_cons_zero, set_cons_succ]
       refine wpAnyH_take (i := 30) (oi := { dst := some 143, op := .fieldAddr 40 (.tmp 7) 2, type := 0, pos := "law.go:70", after := #[⟨28, .guard⟩], guard := some (28, true) }) (v := undef) rfl (by kernel_rfl) (by kernel_rfl) (by kernel_rfl) (fun _ _ _ h => h) (Or.inr ⟨by rfl, rfl⟩) (by assumption) ?_
       simp only [Act.put, setIfInBounds_toArray, set_cons_zero, set_cons_succ]
       refine wpAnyH_take (i := 31) (oi := { dst := some 144, op := .load 31 (.tmp 143), type := 31, pos := "law.go:70", after := #[⟨30, .data⟩, ⟨28, .guard⟩], guard := some (28, true) }) (v := undef) rfl (by kernel_rfl) (by kernel_rfl) (by kernel_rfl) (fun _ _ _ h => h) (Or.inr ⟨by rfl, rfl⟩) (by assumption) ?_
       simp only [Act.put, setIfInBounds_toArray, set_cons_zero, set_cons_succ]
       refine wpAnyH_take (i := 32) (oi := { dst := some 145, op := .indexAddr 31 (.tmp 144) (.const (.int .i64 0)), type := 0, pos := "law.go:70", after := #[⟨31, .data⟩, ⟨28, .guard⟩], guard := some (28, true) }) (v := undef) rfl (by kernel_rfl) (by kernel_rfl) (by kernel_rfl) (fun _ _ _ h => h) (Or.inr ⟨by rfl, rfl⟩) (by assumption) ?_
       simp only [Act.put, setIfInBounds_toArray, set_cons_zero, set_cons_succ]
       refine wpAnyH_take (i := 33) (oi := { dst := some 146, op := .load 3 (.tmp 145), type := 3, pos := "law.go:70", after := #[⟨32, .data⟩, ⟨28, .guard⟩], guard := some (28, true) }) (v := undef) rfl (by kernel_rfl) (by kernel_rfl) (by kernel_rfl) (fun _ _ _ h => h) (Or.inr ⟨by rfl, rfl⟩) (by assumption) ?_
       simp only [Act.put, setIfInBounds_toArray, set_cons_zero, set_cons_succ]
       refine wpAnyH_take (i := 34) (oi := { dst := some 147, op := .binOp .neq 3 (.tmp 142) (.tmp 146) 3, type := 4, pos := "law.go:70", after := #[⟨29, .data⟩, ⟨33, .data⟩, ⟨28, .guard⟩], guard := some (28, true) }) (v := undef) rfl (by kernel_rfl) (by kernel_rfl) (by kernel_rfl) (fun _ _ _ h => h) (Or.inr ⟨by rfl, rfl⟩) (by assumption) ?_
       simp only [Act.put, setIfInBounds_toArray, set_cons_zero, set_cons_succ]
       refine wpAnyH_take (i := 35) (oi := { dst := some 148, op := .pick (.tmp 141) (.tmp 147) (.const (.bool false)), type := 4, pos := "law.go:70", after := #[⟨28, .data⟩, ⟨34, .data⟩, ⟨26, .guard⟩], guard := some (26, false) }) (v := ?_) rfl (by kernel_rfl) (by kernel_rfl) (by kernel_rfl) (fun _ _ _ h => h) (Or.inl ⟨by rfl, ?_⟩) (by assumption) ?_
       rotate_left
       ·intro w hSw; (try dsimp only at hSw); go_simp; try with_reducible rfl
       simp only [Act.put, setIfInBounds_toArray, set_cons_zero, set_cons_succ]
       refine wpAnyH_take (i := 36) (oi := { dst := some 149, op := .pick (.tmp 139) (.const (.bool true)) (.tmp 148), type := 4, pos := "law.go:70", after := #[⟨26, .data⟩, ⟨35, .data⟩], guard := none }) (v := ?_) rfl (by kernel_rfl) (by kernel_rfl) (by kernel_rfl) (fun _ _ _ h => h) (Or.inl ⟨by rfl, ?_⟩) (by assumption) ?_
       rotate_left
       ·intro w hSw; (try dsimp only at hSw); go_simp; try with_reducible rfl
       simp only [Act.put, setIfInBounds_toArray, set_cons_zero, set_cons_succ]
       refine wpAnyH_take (i := 37) (oi := { dst := some 150, op := .move (.tmp 149), type := 4, pos := "law.go:70", after := #[⟨36, .data⟩, ⟨28, .chain⟩], guard := none }) (v := ?_) rfl (by kernel_rfl) (by kernel_rfl) (by kernel_rfl) (fun _ _ _ h => h) (Or.inl ⟨by rfl, ?_⟩) (by assumption) ?_
       rotate_left
       ·intro w hSw; (try dsimp only at hSw); go_simp; try with_reducible rfl
       simp only [Act.put, setIfInBounds_toArray, set_cons_zero, set_cons_succ]
       refine wpAnyH_take (i := 38) (oi := { dst := some 151, op := .move (.tmp 15), type := 4, pos := "law.go:70", after := #[⟨37, .guard⟩], guard := some (37, false) }) (v := ?_) rfl (by kernel_rfl) (by kernel_rfl) (by kernel_rfl) (fun _ _ _ h => h) (Or.inl ⟨by rfl, ?_⟩) (by assumption) ?_
       rotate_left
       ·intro w hSw; (try dsimp only at hSw); go_simp; try with_reducible rfl
       simp only [Act.put, setIfInBounds_toArray, set_cons_zero, set_cons_succ]
       refine wpAnyH_take (i := 39) (oi := { dst := some 152, op := .unOp .not 4 (.tmp 151), type := 4, pos := "law.go:70", after := #[⟨38, .data⟩, ⟨37, .guard⟩], guard := some (37, false) }) (v := ?_) rfl (by kernel_rfl) (by kernel_rfl) (by kernel_rfl) (fun _ _ _ h => h) (Or.inl ⟨by rfl, ?_⟩) (by assumption) ?_
       rotate_left
       ·intro w hSw; (try dsimp only at hSw); go_simp; try with_reducible rfl
       simp only [Act.put, setIfInBounds_toArray, set_cons_zero, set_cons_succ]
       refine wpAnyH_take (i := 40) (oi := { dst := some 153, op := .move (.tmp 152), type := 4, pos := "law.go:70", after := #[⟨39, .data⟩, ⟨37, .chain⟩, ⟨37, .guard⟩], guard := some (37, false) }) (v := ?_) rfl (by kernel_rfl) (by kernel_rfl) (by kernel_rfl) (fun _ _ _ h => h) (Or.inl ⟨by rfl, ?_⟩) (by assumption) ?_
       rotate_left
       ·intro w hSw; (try dsimp only at hSw); go_simp; try with_reducible rfl
       simp only [Act.put, setIfInBounds_toArray, set_cons_zero, set_cons_succ]
       refine wpAnyH_take (i := 41) (oi := { dst := some 154, op := .move (.tmp 14), type := 3, pos := "law.go:70", after := #[⟨40, .guard⟩], guard := some (40, true) }) (v := ?_) rfl (by kernel_rfl) (by kernel_rfl) (by kernel_rfl) (fun _ _ _ h => h) (Or.inl ⟨by rfl, ?_⟩) (by assumption) ?_
       rotate_left
       ·intro w hSw; (try dsimp only at hSw); go_simp; try with_reducible rfl
       simp only [Act.put, setIfInBounds_toArray, set_cons_zero, set_cons_succ]
       refine wpAnyH_take (i := 42) (oi := { dst := some 155, op := .binOp .neq 3 (.tmp 154) (.const (.int .i64 0)) 3, type := 4, pos := "law.go:70", after := #[⟨41, .data⟩, ⟨40, .guard⟩], guard := some (40, true) }) (v := ?_) rfl (by kernel_rfl) (by kernel_rfl) (by kernel_rfl) (fun _ _ _ h => h) (Or.inl ⟨by rfl, ?_⟩) (by assumption) ?_
       rotate_left
       ·intro w hSw; (try dsimp only at hSw); go_simp; try with_reducible rfl
       simp only [Act.put, setIfInBounds_toArray, set_cons_zero, set_cons_succ]
       refine wpAnyH_take (i := 43) (oi := { dst := some 156, op := .pick (.tmp 153) (.tmp 155) (.const (.bool false)), type := 4, pos := "law.go:70", after := #[⟨40, .data⟩, ⟨42, .data⟩, ⟨37, .guard⟩], guard := some (37, false) }) (v := ?_) rfl (by kernel_rfl) (by kernel_rfl) (by kernel_rfl) (fun _ _ _ h => h) (Or.inl ⟨by rfl, ?_⟩) (by assumption) ?_
       rotate_left
       ·intro w hSw; (try dsimp only at hSw); go_simp; try with_reducible rfl
       simp only [Act.put, setIfInBounds_toArray, set_cons_zero, set_cons_succ]
       refine wpAnyH_take (i := 44) (oi := { dst := some 157, op := .pick (.tmp 150) (.const (.bool true)) (.tmp 156), type := 4, pos := "law.go:70", after := #[⟨37, .data⟩, ⟨43, .data⟩], guard := none }) (v := ?_) rfl (by kernel_rfl) (by kernel_rfl) (by kernel_rfl) (fun _ _ _ h => h) (Or.inl ⟨by rfl, ?_⟩) (by assumption) ?_
       rotate_left
       ·intro w hSw; (try dsimp only at hSw); go_simp; try with_reducible rfl
       simp only [Act.put, setIfInBounds_toArray, set_cons_zero, set_cons_succ]
       refine wpAnyH_done (by kernel_rfl) ?_ _
       all_goals
        have HBF : Hid (Below w.heap.size w wM) := Lib.hid (b_then HBt.out hBM)
        have HQF : Hid (QAt wM w.heap.size w.heap.size q tk v3 []) := Lib.hid (HQ.out.below hBM)
        have HXF : Hid (XAt wM g w.heap.size q tk A4 c4 []) := Lib.hid (HX.out.below hBM)
        clear hbL hrL hBL hbM hBM u1 u2 m1 m2 hsL hsM
        go_wp2_with fail
        go_roundw
        case rel => exact ⟨k + 1, tk, v3, [], A4, c4, by go_num, by omega, by omega, HBF, HQF, HXF, HLN⟩
        case measure => simp [intOf]; omega
      | cons hd tl =>
       have HN := Lib.hid (now_cons HQ.out)
       obtain ⟨bx, cpx, hvx, hbbx, hbwx, hcx⟩ := HX.out.row.cell 0 (by simp)
       simp only [List.getElem_cons_zero] at hcx
       obtain ⟨rfl, _, rfl⟩ : A4 = some ⟨bx, 0, none⟩ ∧ (hd :: tl).length = (hd :: tl).length ∧ c4 = cpx := by simpa using hvx
       obtain ⟨n, hn⟩ : ∃ n, n = (hd :: tl).length := ⟨_, rfl⟩
       have kx1 : wx.cell? ⟨g, 1, none⟩ = some (.int .i64 tk) := cell_heap HX.out.cells 1
       have kx2 : wx.cell? ⟨g, 2, none⟩ = some (.slice (some ⟨bx, 0, none⟩) n c4) := by rw [hn]; exact cell_heap HX.out.cells 2
       have hgx := heap_lt HX.out.cells
       have HS : Hid (∀ W : World, Below wx.heap.size wx W → W.cell? ⟨g, 1, none⟩ = some (.int .i64 tk) ∧ W.cell? ⟨g, 2, none⟩ = some (.slice (some ⟨bx, 0, none⟩) n c4) ∧ W.cell? ⟨bx, 0, none⟩ = some (.int .i64 hd)) := Lib.hid (fun W hW => ⟨(hW.cell (p := ⟨g, 1, none⟩) hgx).trans kx1, (hW.cell (p := ⟨g, 2, none⟩) hgx).trans kx2, (hW.cell (p := ⟨bx, 0, none⟩) hbwx).trans hcx⟩)
       have hl9 : (hd :: tl).length ≤ 900 := by have := HLN.out; omega
       have HLI : Hid (∀ W, Below wx.heap.size wx W → Calls Try.prog 12 #[.pointer (some ⟨w.heap.size, 0, none⟩)] W fun e w' => ∃ A c, e = .returned (.slice A n c) ∧ Below W.heap.size W w' ∧ IRd w' A (hd :: tl)) := Lib.hid (fun W hW => by rw [hn]; exact line_form (HQ.out.below hW) (by omega))
       have HTI : Hid (∀ W, Below wx.heap.size wx W → Calls Try.prog 15 #[.pointer (some ⟨w.heap.size, 0, none⟩)] W fun e w' => e = .returned (.int .i64 tk) ∧ w' = W) := Lib.hid (fun W hW => ticks_any (HQ.out.below hW))
       have HXR : Hid (∀ W, Below wx.heap.size wx W → IRd W (some ⟨bx, 0, none⟩) (hd :: tl)) := Lib.hid (fun W hW => (IRow.rd HX.out.row).below hW)
       have HSA : Hid (∀ W AA cc, IRd W AA (hd :: tl) → IRd W (some ⟨bx, 0, none⟩) (hd :: tl) → Calls Try.prog 17 #[.slice AA n cc, .slice (some ⟨bx, 0, none⟩) n c4] W fun e w' => e = .returned (.bool true) ∧ Below W.heap.size W w') := Lib.hid (fun W AA cc h1 h2 => by rw [hn]; exact same_eq h1 h2 (by omega) cc c4)
       have hn1 : 0 < n := by rw [hn]; simp
       have hn2 : (0 : Int) < (n : Int) := by omega
       have hn3 : decide (0 < n) = true := decide_eq_true hn1
       have hn4 : decide ((0 : Int) < (n : Int)) = true := decide_eq_true hn2
       have HNN := Lib.hid hn
       clear hvx hbbx hn hl9
       refine HN.out.mono ?_
       rintro e wN ⟨rfl, hw⟩
       obtain rfl := hw.symm
       clear hw HN
       go_wp2_with fail
       refine wp_region_held_drew (S := fun W : World => W.cell? ⟨g, 1, none⟩ = some (.int .i64 tk) ∧ W.cell? ⟨g, 2, none⟩ = some (.slice (some ⟨bx, 0, none⟩) n c4) ∧ W.cell? ⟨bx, 0, none⟩ = some (.int .i64 hd)) (by kernel_rfl) (by first | exact (HS.out _ ((Below.refl _ _).drew)) | (go_keep; done)) (fun hHeld => ?_)
       refine wpAnyH_take (i := 0) (oi := { dst := some 113, op := .move (.tmp 10), type := 24, pos := "law.go:70", after := #[], guard := none }) (v := ?_) rfl (by kernel_rfl) (by kernel_rfl) (by kernel_rfl) (fun _ _ _ h => h) (Or.inl ⟨by rfl, ?_⟩) (by assumption) ?_
       rotate_left
       ·intro w hSw; (try dsimp only at hSw); go_simp; try with_reducible rfl
       simp only [Act.put, setIfInBounds_toArray, set_cons_zero, set_cons_succ]
       refine wpAnyH_take (i := 1) (oi := { dst := some 114, op := .move (.tmp 11), type := 3, pos := "law.go:70", after := #[], guard := none }) (v := ?_) rfl (by kernel_rfl) (by kernel_rfl) (by kernel_rfl) (fun _ _ _ h => h) (Or.inl ⟨by rfl, ?_⟩) (by assumption) ?_
       rotate_left
       ·intro w hSw; (try dsimp only at hSw); go_simp; try with_reducible rfl
       simp only [Act.put, setIfInBounds_toArray, set_cons_zero, set_cons_succ]
       refine wpAnyH_take (i := 2) (oi := { dst := some 115, op := .binOp .neq 3 (.tmp 113) (.tmp 114) 3, type := 4, pos := "law.go:70", after := #[⟨0, .data⟩, ⟨1, .data⟩], guard := none }) (v := ?_) rfl (by kernel_rfl) (by kernel_rfl) (by kernel_rfl) (fun _ _ _ h => h) (Or.inl ⟨by rfl, ?_⟩) (by assumption) ?_
       rotate_left
       ·intro w hSw; (try dsimp only at hSw); go_simp; try with_reducible rfl
       simp only [Act.put, setIfInBounds_toArray, set_cons_zero, set_cons_succ]
       refine wpAnyH_take (i := 3) (oi := { dst := some 116, op := .move (.tmp 115), type := 4, pos := "law.go:70", after := #[⟨2, .data⟩], guard := none }) (v := ?_) rfl (by kernel_rfl) (by kernel_rfl) (by kernel_rfl) (fun _ _ _ h => h) (Or.inl ⟨by rfl, ?_⟩) (by assumption) ?_
       rotate_left
       ·intro w hSw; (try dsimp only at hSw); go_simp; try with_reducible rfl
       simp only [Act.put, setIfInBounds_toArray, set_cons_zero, set_cons_succ]
       refine wpAnyH_take (i := 4) (oi := { dst := some 117, op := .move (.tmp 5), type := 23, pos := "law.go:70", after := #[⟨3, .guard⟩], guard := some (3, false) }) (v := ?_) rfl (by kernel_rfl) (by kernel_rfl) (by kernel_rfl) (fun _ _ _ h => h) (Or.inl ⟨by rfl, ?_⟩) (by assumption) ?_
       rotate_left
       ·intro w hSw; (try dsimp only at hSw); go_simp; try with_reducible rfl
       simp only [Act.put, setIfInBounds_toArray, set_cons_zero, set_cons_succ]
       refine wpAnyH_take (i := 6) (oi := { dst := some 119, op := .fieldAddr 40 (.tmp 7) 2, type := 0, pos := "law.go:70", after := #[⟨3, .guard⟩], guard := some (3, false) }) (v := ?_) rfl (by kernel_rfl) (by kernel_rfl) (by kernel_rfl) (fun _ _ _ h => h) (Or.inl ⟨by rfl, ?_⟩) (by assumption) ?_
       rotate_left
       ·intro w hSw; (try dsimp only at hSw); go_simp; try with_reducible rfl
       simp only [Act.put, setIfInBounds_toArray, set_cons_zero, set_cons_succ]
       refine wpAnyH_take (i := 7) (oi := { dst := some 120, op := .load 31 (.tmp 119), type := 31, pos := "law.go:70", after := #[⟨6, .data⟩, ⟨3, .guard⟩], guard := some (3, false) }) (v := ?_) rfl (by kernel_rfl) (by kernel_rfl) (by kernel_rfl) (fun _ _ _ h => h) (Or.inl ⟨by rfl, ?_⟩) (by assumption) ?_
       rotate_left
       ·intro w hSw; (try dsimp only at hSw); go_simp; try with_reducible rfl
       simp only [Act.put, setIfInBounds_toArray, set_cons_zero, set_cons_succ]
       refine wpAnyH_ready (rs := [5]) (by kernel_rfl) (by simp) ?_
       refine AllReadyH.cons (o := { dst := some 118, op := .call { callee := .value (.func 12), args := #[.tmp 117], argTypes := #[23] }, type := 31, pos := "law.go:70", after := #[⟨4, .data⟩, ⟨3, .chain⟩, ⟨3, .guard⟩], guard := some (3, false) }) rfl (fun K hK => ?_) AllReadyH.nil
       go_simp
       refine (HLI.out _ (by go_grown)).mono ?_
       rintro e wL ⟨AL, cL, rfl, hbL, hrL⟩
       have hBL : Below wx.heap.size wx wL := (b_then (by go_grown) hbL)
       obtain ⟨u1, u2, u3⟩ := HS.out wL hBL
       have hsL := hBL.size
       clear hHeld
       refine hK.out _ _ (by (try dsimp only); go_keep) (fun hHeld => ?_)
       clear hK K
       try simp only [Act.put, setIfInBounds_toArray, set_cons_zero, set_cons_succ]
       refine wpAnyH_ready (rs := [8]) (by kernel_rfl) (by simp) ?_
       refine AllReadyH.cons (o := { dst := some 121, op := .call { callee := .value (.func 17), args := #[.tmp 118, .tmp 120], argTypes := #[31, 31] }, type := 4, pos := "law.go:70", after := #[⟨5, .data⟩, ⟨7, .data⟩, ⟨5, .chain⟩, ⟨3, .guard⟩], guard := some (3, false) }) rfl (fun K hK => ?_) AllReadyH.nil
       go_simp
       refine (HSA.out _ _ _ (by first | exact hrL | exact hrL.below ((Below.refl _ _).drew)) (HXR.out _ (by first | exact hBL | exact hBL.drew))).mono ?_
       rintro e wM ⟨rfl, hbM⟩
       have hBM : Below wx.heap.size wx wM := (b_then (by first | exact hBL | exact hBL.drew) hbM)
       obtain ⟨m1, m2, m3⟩ := HS.out wM hBM
       have hsM := hBM.size
       clear hHeld
       refine hK.out _ _ (by (try dsimp only); go_keep) (fun hHeld => ?_)
       clear hK K
       try simp only [Act.put, setIfInBounds_toArray, set_cons_zero, set_cons_succ]
       refine wpAnyH_take (i := 9) (oi := { dst := some 122, op := .unOp .not 4 (.tmp 121), type := 4, pos := "law.go:70", after := #[⟨8, .data⟩, ⟨3, .guard⟩], guard := some (3, false) }) (v := ?_) rfl (by kernel_rfl) (by kernel_rfl) (by kernel_rfl) (fun _ _ _ h => h) (Or.inl ⟨by rfl, ?_⟩) (by assumption) ?_
       rotate_left
       ·intro w hSw; (try dsimp only at hSw); go_simp; try with_reducible rfl
       simp only [Act.put, setIfInBounds_toArray, set_cons_zero, set_cons_succ]
       refine wpAnyH_take (i := 10) (oi := { dst := some 123, op := .pick (.tmp 116) (.const (.bool true)) (.tmp 122), type := 4, pos := "law.go:70", after := #[⟨3, .data⟩, ⟨9, .data⟩], guard := none }) (v := ?_) rfl (by kernel_rfl) (by kernel_rfl) (by kernel_rfl) (fun _ _ _ h => h) (Or.inl ⟨by rfl, ?_⟩) (by assumption) ?_
       rotate_left
       ·intro w hSw; (try dsimp only at hSw); go_simp; try with_reducible rfl
       simp only [Act.put, setIfInBounds_toArray, set_cons_zero, set_cons_succ]
       refine wpAnyH_take (i := 11) (oi := { dst := some 124, op := .move (.tmp 123), type := 4, pos := "law.go:70", after := #[⟨10, .data⟩, ⟨8, .chain⟩], guard := none }) (v := ?_) rfl (by kernel_rfl) (by kernel_rfl) (by kernel_rfl) (fun _ _ _ h => h) (Or.inl ⟨by rfl, ?_⟩) (by assumption) ?_
       rotate_left
       ·intro w hSw; (try dsimp only at hSw); go_simp; try with_reducible rfl
       simp only [Act.put, setIfInBounds_toArray, set_cons_zero, set_cons_succ]
       refine wpAnyH_take (i := 12) (oi := { dst := some 125, op := .move (.tmp 5), type := 23, pos := "law.go:70", after := #[⟨11, .guard⟩], guard := some (11, false) }) (v := ?_) rfl (by kernel_rfl) (by kernel_rfl) (by kernel_rfl) (fun _ _ _ h => h) (Or.inl ⟨by rfl, ?_⟩) (by assumption) ?_
       rotate_left
       ·intro w hSw; (try dsimp only at hSw); go_simp; try with_reducible rfl
       simp only [Act.put, setIfInBounds_toArray, set_cons_zero, set_cons_succ]
       refine wpAnyH_take (i := 14) (oi := { dst := some 127, op := .fieldAddr 40 (.tmp 7) 1, type := 0, pos := "law.go:70", after := #[⟨11, .guard⟩], guard := some (11, false) }) (v := ?_) rfl (by kernel_rfl) (by kernel_rfl) (by kernel_rfl) (fun _ _ _ h => h) (Or.inl ⟨by rfl, ?_⟩) (by assumption) ?_
       rotate_left
       ·intro w hSw; (try dsimp only at hSw); go_simp; try with_reducible rfl
       simp only [Act.put, setIfInBounds_toArray, set_cons_zero, set_cons_succ]
       refine wpAnyH_take (i := 15) (oi := { dst := some 128, op := .load 3 (.tmp 127), type := 3, pos := "law.go:70", after := #[⟨14, .data⟩, ⟨11, .guard⟩], guard := some (11, false) }) (v := ?_) rfl (by kernel_rfl) (by kernel_rfl) (by kernel_rfl) (fun _ _ _ h => h) (Or.inl ⟨by rfl, ?_⟩) (by assumption) ?_
       rotate_left
       ·intro w hSw; (try dsimp only at hSw); go_simp; try with_reducible rfl
       simp only [Act.put, setIfInBounds_toArray, set_cons_zero, set_cons_succ]
       refine wpAnyH_ready (rs := [13]) (by kernel_rfl) (by simp) ?_
       refine AllReadyH.cons (o := { dst := some 126, op := .call { callee := .value (.func 15), args := #[.tmp 125], argTypes := #[23] }, type := 3, pos := "law.go:70", after := #[⟨12, .data⟩, ⟨11, .chain⟩, ⟨11, .guard⟩], guard := some (11, false) }) rfl (fun K hK => ?_) AllReadyH.nil
       go_simp
       refine (HTI.out _ (by first | exact hBM | exact hBM.drew | go_grown)).mono ?_
       rintro e wZ ⟨rfl, hwZ⟩
       obtain rfl := hwZ.symm
       clear hwZ
       clear hHeld
       refine hK.out _ _ (by (try dsimp only); go_keep) (fun hHeld => ?_)
       clear hK K
       try simp only [Act.put, setIfInBounds_toArray, set_cons_zero, set_cons_succ]
       refine wpAnyH_take (i := 16) (oi := { dst := some 129, op := .binOp .neq 3 (.tmp 126) (.tmp 128) 3, type := 4, pos := "law.go:70", after := #[⟨13, .data⟩, ⟨15, .data⟩, ⟨11, .guard⟩], guard := some (11, false) }) (v := ?_) rfl (by kernel_rfl) (by kernel_rfl) (by kernel_rfl) (fun _ _ _ h => h) (Or.inl ⟨by rfl, ?_⟩) (by assumption) ?_
       rotate_left
       ·intro w hSw; (try dsimp only at hSw); go_simp; try with_reducible rfl
       simp only [Act.put, setIfInBounds_toArray, set_cons_zero, set_cons_succ]
       refine wpAnyH_take (i := 17) (oi := { dst := some 130, op := .pick (.tmp 124) (.const (.bool true)) (.tmp 129), type := 4, pos := "law.go:70", after := #[⟨11, .data⟩, ⟨16, .data⟩], guard := none }) (v := ?_) rfl (by kernel_rfl) (by kernel_rfl) (by kernel_rfl) (fun _ _ _ h => h) (Or.inl ⟨by rfl, ?_⟩) (by assumption) ?_
       rotate_left
       ·intro w hSw; (try dsimp only at hSw); go_simp; try with_reducible rfl
       simp only [Act.put, setIfInBounds_toArray, set_cons_zero, set_cons_succ]
       refine wpAnyH_take (i := 18) (oi := { dst := some 131, op := .move (.tmp 130), type := 4, pos := "law.go:70", after := #[⟨17, .data⟩, ⟨13, .chain⟩], guard := none }) (v := ?_) rfl (by kernel_rfl) (by kernel_rfl) (by kernel_rfl) (fun _ _ _ h => h) (Or.inl ⟨by rfl, ?_⟩) (by assumption) ?_
       rotate_left
       ·intro w hSw; (try dsimp only at hSw); go_simp; try with_reducible rfl
       simp only [Act.put, setIfInBounds_toArray, set_cons_zero, set_cons_succ]
       refine wpAnyH_take (i := 19) (oi := { dst := some 132, op := .move (.tmp 15), type := 4, pos := "law.go:70", after := #[⟨18, .guard⟩], guard := some (18, false) }) (v := ?_) rfl (by kernel_rfl) (by kernel_rfl) (by kernel_rfl) (fun _ _ _ h => h) (Or.inl ⟨by rfl, ?_⟩) (by assumption) ?_
       rotate_left
       ·intro w hSw; (try dsimp only at hSw); go_simp; try with_reducible rfl
       simp only [Act.put, setIfInBounds_toArray, set_cons_zero, set_cons_succ]
       refine wpAnyH_take (i := 20) (oi := { dst := some 133, op := .fieldAddr 40 (.tmp 7) 2, type := 0, pos := "law.go:70", after := #[⟨18, .guard⟩], guard := some (18, false) }) (v := ?_) rfl (by kernel_rfl) (by kernel_rfl) (by kernel_rfl) (fun _ _ _ h => h) (Or.inl ⟨by rfl, ?_⟩) (by assumption) ?_
       rotate_left
       ·intro w hSw; (try dsimp only at hSw); go_simp; try with_reducible rfl
       simp only [Act.put, setIfInBounds_toArray, set_cons_zero, set_cons_succ]
       refine wpAnyH_take (i := 21) (oi := { dst := some 134, op := .load 31 (.tmp 133), type := 31, pos := "law.go:70", after := #[⟨20, .data⟩, ⟨18, .guard⟩], guard := some (18, false) }) (v := ?_) rfl (by kernel_rfl) (by kernel_rfl) (by kernel_rfl) (fun _ _ _ h => h) (Or.inl ⟨by rfl, ?_⟩) (by assumption) ?_
       rotate_left
       ·intro w hSw; (try dsimp only at hSw); go_simp; try with_reducible rfl
       simp only [Act.put, setIfInBounds_toArray, set_cons_zero, set_cons_succ]
       refine wpAnyH_take (i := 22) (oi := { dst := some 135, op := .call { callee := .builtin .len, args := #[.tmp 134], argTypes := #[31] }, type := 3, pos := "law.go:70", after := #[⟨21, .data⟩, ⟨18, .guard⟩], guard := some (18, false) }) (v := ?_) rfl (by kernel_rfl) (by kernel_rfl) (by kernel_rfl) (fun _ _ _ h => h) (Or.inl ⟨by rfl, ?_⟩) (by assumption) ?_
       rotate_left
       ·intro w hSw; (try dsimp only at hSw); go_simp; try with_reducible rfl
       simp only [Act.put, setIfInBounds_toArray, set_cons_zero, set_cons_succ]
       refine wpAnyH_take (i := 23) (oi := { dst := some 136, op := .binOp .gtr 3 (.tmp 135) (.const (.int .i64 0)) 3, type := 4, pos := "law.go:70", after := #[⟨22, .data⟩, ⟨18, .guard⟩], guard := some (18, false) }) (v := ?_) rfl (by kernel_rfl) (by kernel_rfl) (by kernel_rfl) (fun _ _ _ h => h) (Or.inl ⟨by rfl, ?_⟩) (by assumption) ?_
       rotate_left
       ·intro w hSw; (try dsimp only at hSw); go_simp; try with_reducible rfl
       simp only [Act.put, setIfInBounds_toArray, set_cons_zero, set_cons_succ]
       refine wpAnyH_take (i := 24) (oi := { dst := some 137, op := .binOp .neq 4 (.tmp 132) (.tmp 136) 4, type := 4, pos := "law.go:70", after := #[⟨19, .data⟩, ⟨23, .data⟩, ⟨18, .guard⟩], guard := some (18, false) }) (v := ?_) rfl (by kernel_rfl) (by kernel_rfl) (by kernel_rfl) (fun _ _ _ h => h) (Or.inl ⟨by rfl, ?_⟩) (by assumption) ?_
       rotate_left
       ·intro w hSw; (try dsimp only at hSw); go_simp; try with_reducible rfl
       simp only [Act.put, setIfInBounds_toArray, set_cons_zero, set_cons_succ]
       refine wpAnyH_take (i := 25) (oi := { dst := some 138, op := .pick (.tmp 131) (.const (.bool true)) (.tmp 137), type := 4, pos := "law.go:70", after := #[⟨18, .data⟩, ⟨24, .data⟩], guard := none }) (v := ?_) rfl (by kernel_rfl) (by kernel_rfl) (by kernel_rfl) (fun _ _ _ h => h) (Or.inl ⟨by rfl, ?_⟩) (by assumption) ?_
       rotate_left
       ·intro w hSw; (try dsimp only at hSw); go_simp; try with_reducible rfl
       simp only [Act.put, setIfInBounds_toArray, set_cons_zero, set_cons_succ]
       refine wpAnyH_take (i := 26) (oi := { dst := some 139, op := .move (.tmp 138), type := 4, pos := "law.go:70", after := #[⟨25, .data⟩, ⟨18, .chain⟩], guard := none }) (v := ?_) rfl (by kernel_rfl) (by kernel_rfl) (by kernel_rfl) (fun _ _ _ h => h) (Or.inl ⟨by rfl, ?_⟩) (by assumption) ?_
       rotate_left
       ·intro w hSw; (try dsimp only at hSw); go_simp; try with_reducible rfl
       simp only [Act.put, setIfInBounds_toArray, set_cons_zero, set_cons_succ]
       refine wpAnyH_take (i := 27) (oi := { dst := some 140, op := .move (.tmp 15), type := 4, pos := "law.go:70", after := #[⟨26, .guard⟩], guard := some (26, false) }) (v := ?_) rfl (by kernel_rfl) (by kernel_rfl) (by kernel_rfl) (fun _ _ _ h => h) (Or.inl ⟨by rfl, ?_⟩) (by assumption) ?_
       rotate_left
       ·intro w hSw; (try dsimp only at hSw); go_simp; try with_reducible rfl
       simp only [Act.put, setIfInBounds_toArray, set_cons_zero, set_cons_succ]
       refine wpAnyH_take (i := 28) (oi := { dst := some 141, op := .move (.tmp 140), type := 4, pos := "law.go:70", after := #[⟨27, .data⟩, ⟨26, .chain⟩, ⟨26, .guard⟩], guard := some (26, false) }) (v := ?_) rfl (by kernel_rfl) (by kernel_rfl) (by kernel_rfl) (fun _ _ _ h => h) (Or.inl ⟨by rfl, ?_⟩) (by assumption) ?_
       rotate_left
       ·intro w hSw; (try dsimp only at hSw); go_simp; try with_reducible rfl
       simp only [Act.put, setIfInBounds_toArray, set_cons_zero, set_cons_succ]
       refine wpAnyH_take (i := 29) (oi := { dst := some 142, op := .move (.tmp 14), type := 3, pos := "law.go:70", after := #[⟨28, .guard⟩], guard := some (28, true) }) (v := ?_) rfl (by kernel_rfl) (by kernel_rfl) (by kernel_rfl) (fun _ _ _ h => h) (Or.inl ⟨by rfl, ?_⟩) (by assumption) ?_
       rotate_left
       ·intro w hSw; (try dsimp only at hSw); go_simp; try with_reducible rfl
       simp only [Act.put, setIfInBounds_toArray, set_cons_zero, set_cons_succ]
       refine wpAnyH_take (i := 30) (oi := { dst := some 143, op := .fieldAddr 40 (.tmp 7) 2, type := 0, pos := "law.go:70", after := #[⟨28, .guard⟩], guard := some (28, true) }) (v := ?_) rfl (by kernel_rfl) (by kernel_rfl) (by kernel_rfl) (fun _ _ _ h => h) (Or.inl ⟨by rfl, ?_⟩) (by assumption) ?_
       rotate_left
       ·intro w hSw; (try dsimp only at hSw); go_simp; try with_reducible rfl
       simp only [Act.put, setIfInBounds_toArray, set_cons_zero, set_cons_succ]
       refine wpAnyH_take (i := 31) (oi := { dst := some 144, op := .load 31 (.tmp 143), type := 31, pos := "law.go:70", after := #[⟨30, .data⟩, ⟨28, .guard⟩], guard := some (28, true) }) (v := ?_) rfl (by kernel_rfl) (by kernel_rfl) (by kernel_rfl) (fun _ _ _ h => h) (Or.inl ⟨by rfl, ?_⟩) (by assumption) ?_
       rotate_left
       ·intro w hSw; (try dsimp only at hSw); go_simp; try with_reducible rfl
       simp only [Act.put, setIfInBounds_toArray, set_cons_zero, set_cons_succ]
       refine wpAnyH_take (i := 32) (oi := { dst := some 145, op := .indexAddr 31 (.tmp 144) (.const (.int .i64 0)), type := 0, pos := "law.go:70", after := #[⟨31, .data⟩, ⟨28, .guard⟩], guard := some (28, true) }) (v := ?_) rfl (by kernel_rfl) (by kernel_rfl) (by kernel_rfl) (fun _ _ _ h => h) (Or.inl ⟨by rfl, ?_⟩) (by assumption) ?_
       rotate_left
       ·intro w hSw; (try dsimp only at hSw); go_simp; try with_reducible rfl
       simp only [Act.put, setIfInBounds_toArray, set_cons_zero, set_cons_succ]
       refine wpAnyH_take (i := 33) (oi := { dst := some 146, op := .load 3 (.tmp 145), type := 3, pos := "law.go:70", after := #[⟨32, .data⟩, ⟨28, .guard⟩], guard := some (28, true) }) (v := ?_) rfl (by kernel_rfl) (by kernel_rfl) (by kernel_rfl) (fun _ _ _ h => h) (Or.inl ⟨by rfl, ?_⟩) (by assumption) ?_
       rotate_left
       ·intro w hSw; (try dsimp only at hSw); go_simp; try with_reducible rfl
       simp only [Act.put, setIfInBounds_toArray, set_cons_zero, set_cons_succ]
       refine wpAnyH_take (i := 34) (oi := { dst := some 147, op := .binOp .neq 3 (.tmp 142) (.tmp 146) 3, type := 4, pos := "law.go:70", after := #[⟨29, .data⟩, ⟨33, .data⟩, ⟨28, .guard⟩], guard := some (28, true) }) (v := ?_) rfl (by kernel_rfl) (by kernel_rfl) (by kernel_rfl) (fun _ _ _ h => h) (Or.inl ⟨by rfl, ?_⟩) (by assumption) ?_
       rotate_left
       ·intro w hSw; (try dsimp only at hSw); go_simp; try with_reducible rfl
       simp only [Act.put, setIfInBounds_toArray, set_cons_zero, set_cons_succ]
       refine wpAnyH_take (i := 35) (oi := { dst := some 148, op := .pick (.tmp 141) (.tmp 147) (.const (.bool false)), type := 4, pos := "law.go:70", after := #[⟨28, .data⟩, ⟨34, .data⟩, ⟨26, .guard⟩], guard := some (26, false) }) (v := ?_) rfl (by kernel_rfl) (by kernel_rfl) (by kernel_rfl) (fun _ _ _ h => h) (Or.inl ⟨by rfl, ?_⟩) (by assumption) ?_
       rotate_left
       ·intro w hSw; (try dsimp only at hSw); go_simp; try with_reducible rfl
       simp only [Act.put, setIfInBounds_toArray, set_cons_zero, set_cons_succ]
       refine wpAnyH_take (i := 36) (oi := { dst := some 149, op := .pick (.tmp 139) (.const (.bool true)) (.tmp 148), type := 4, pos := "law.go:70", after := #[⟨26, .data⟩, ⟨35, .data⟩], guard := none }) (v := ?_) rfl (by kernel_rfl) (by kernel_rfl) (by kernel_rfl) (fun _ _ _ h => h) (Or.inl ⟨by rfl, ?_⟩) (by assumption) ?_
       rotate_left
       ·intro w hSw; (try dsimp only at hSw); go_simp; try with_reducible rfl
       simp only [Act.put, setIfInBounds_toArray, set_cons_zero, set_cons_succ]
       refine wpAnyH_take (i := 37) (oi := { dst := some 150, op := .move (.tmp 149), type := 4, pos := "law.go:70", after := #[⟨36, .data⟩, ⟨28, .chain⟩], guard := none }) (v := ?_) rfl (by kernel_rfl) (by kernel_rfl) (by kernel_rfl) (fun _ _ _ h => h) (Or.inl ⟨by rfl, ?_⟩) (by assumption) ?_
       rotate_left
       ·intro w hSw; (try dsimp only at hSw); go_simp; try with_reducible rfl
       simp only [Act.put, setIfInBounds_toArray, set_cons_zero, set_cons_succ]
       refine wpAnyH_take (i := 38) (oi := { dst := some 151, op := .move (.tmp 15), type := 4, pos := "law.go:70", after := #[⟨37, .guard⟩], guard := some (37, false) }) (v := ?_) rfl (by kernel_rfl) (by kernel_rfl) (by kernel_rfl) (fun _ _ _ h => h) (Or.inl ⟨by rfl, ?_⟩) (by assumption) ?_
       rotate_left
       ·intro w hSw; (try dsimp only at hSw); go_simp; try with_reducible rfl
       simp only [Act.put, setIfInBounds_toArray, set_cons_zero, set_cons_succ]
       refine wpAnyH_take (i := 39) (oi := { dst := some 152, op := .unOp .not 4 (.tmp 151), type := 4, pos := "law.go:70", after := #[⟨38, .data⟩, ⟨37, .guard⟩], guard := some (37, false) }) (v := ?_) rfl (by kernel_rfl) (by kernel_rfl) (by kernel_rfl) (fun _ _ _ h => h) (Or.inl ⟨by rfl, ?_⟩) (by assumption) ?_
       rotate_left
       ·intro w hSw; (try dsimp only at hSw); go_simp; try with_reducible rfl
       simp only [Act.put, setIfInBounds_toArray, set_cons_zero, set_cons_succ]
       refine wpAnyH_take (i := 40) (oi := { dst := some 153, op := .move (.tmp 152), type := 4, pos := "law.go:70", after := #[⟨39, .data⟩, ⟨37, .chain⟩, ⟨37, .guard⟩], guard := some (37, false) }) (v := ?_) rfl (by kernel_rfl) (by kernel_rfl) (by kernel_rfl) (fun _ _ _ h => h) (Or.inl ⟨by rfl, ?_⟩) (by assumption) ?_
       rotate_left
       ·intro w hSw; (try dsimp only at hSw); go_simp; try with_reducible rfl
       simp only [Act.put, setIfInBounds_toArray, set_cons_zero, set_cons_succ]
       refine wpAnyH_take (i := 41) (oi := { dst := some 154, op := .move (.tmp 14), type := 3, pos := "law.go:70", after := #[⟨40, .guard⟩], guard := some (40, true) }) (v := undef) rfl (by kernel_rfl) (by kernel_rfl) (by kernel_rfl) (fun _ _ _ h => h) (Or.inr ⟨by rfl, rfl⟩) (by assumption) ?_
       simp only [Act.put, setIfInBounds_toArray, set_cons_zero, set_cons_succ]
       refine wpAnyH_take (i := 42) (oi := { dst := some 155, op := .binOp .neq 3 (.tmp 154) (.const (.int .i64 0)) 3, type := 4, pos := "law.go:70", after := #[⟨41, .data⟩, ⟨40, .guard⟩], guard := some (40, true) }) (v := undef) rfl (by kernel_rfl) (by kernel_rfl) (by kernel_rfl) (fun _ _ _ h => h) (Or.inr ⟨by rfl, rfl⟩) (by assumption) ?_
       simp only [Act.put, setIfInBounds_toArray, set_cons_zero, set_cons_succ]
       refine wpAnyH_take (i := 43) (oi := { dst := some 156, op := .pick (.tmp 153) (.tmp 155) (.const (.bool false)), type := 4, pos := "law.go:70", after := #[⟨40, .data⟩, ⟨42, .data⟩, ⟨37, .guard⟩], guard := some (37, false) }) (v := ?_) rfl (by kernel_rfl) (by kernel_rfl) (by kernel_rfl) (fun _ _ _ h => h) (Or.inl ⟨by rfl, ?_⟩) (by assumption) ?_
       rotate_left
       ·intro w hSw; (try dsimp only at hSw); go_simp; try with_reducible rfl
       simp only [Act.put, setIfInBounds_toArray, set_cons_zero, set_cons_succ]
       refine wpAnyH_take (i := 44) (oi := { dst := some 157, op := .pick (.tmp 150) (.const (.bool true)) (.tmp 156), type := 4, pos := "law.go:70", after := #[⟨37, .data⟩, ⟨43, .data⟩], guard := none }) (v := ?_) rfl (by kernel_rfl) (by kernel_rfl) (by kernel_rfl) (fun _ _ _ h => h) (Or.inl ⟨by rfl, ?_⟩) (by assumption) ?_
       rotate_left
       ·intro w hSw; (try dsimp only at hSw); go_simp; try with_reducible rfl
       simp only [Act.put, setIfInBounds_toArray, set_cons_zero, set_cons_succ]
       refine wpAnyH_done (by kernel_rfl) ?_ _
       all_goals
        have HBF : Hid (Below w.heap.size w wM) := Lib.hid (b_then HBt.out hBM)
        have HQF : Hid (QAt wM w.heap.size w.heap.size q tk v3 (hd :: tl)) := Lib.hid (HQ.out.below hBM)
        have HXF : Hid (XAt wM g w.heap.size q tk (some ⟨bx, 0, none⟩) c4 (hd :: tl)) := Lib.hid (HX.out.below hBM)
        clear hbL hrL hBL hbM hBM u1 u2 u3 m1 m2 m3 hsL hsM
        go_wp2_with fail
        go_roundw
        case rel => exact ⟨k + 1, tk, v3, hd :: tl, some ⟨bx, 0, none⟩, c4, by go_num, by omega, by omega, HBF, HQF, HXF, HLN⟩
        case measure => simp [intOf]; omega
    ·have kk1 : (kind == 1) = false := by simp [k1]
     clear k1
     by_cases k2 : kind = 2
     ·as_aux_lemma =>
       subst k2
       have HC := Lib.hid (remove_any HQ1.out HL9.out x)
       have HLA : Hid (0 ≤ (remQ (tk, l) x).1 ∧ (remQ (tk, l) x).1 < q ∧ (remQ (tk, l) x).2.Nodup ∧ (remQ (tk, l) x).2.length ≤ k + 1) := Lib.hid ⟨(remQ_tk (s := (tk, l)) x HF.out.1).1, by have h1 := (remQ_tk (s := (tk, l)) x HF.out.1).2; have h2 := HF.out.2.1; simp only at h1; omega, remQ_nodup (s := (tk, l)) HF.out.2.2.1 x, by have h1 := remQ_len (tk, l) x; have h2 := HF.out.2.2.2; simp only at h1; omega⟩
       go_wp2_with fail
       rw [← HGE.out, ← HWE.out]
       refine HC.out.mono ?_
       rintro e w3 ⟨rfl, ht3, v3, hq3⟩
       have hX3 := HX1.out.touch HQ1.out ht3
       have hB3 := Below.touch HB1.out ht3 (Nat.le_refl _) (fun k e => by omega)
       have hca3 := ht3.heap HCA.out hnp
       have HRA := Lib.hid (rRem_any (qn := q) (tk := tk) hX3.row hB3.size HL9.out HF.out.2.2.1 x)
       have n3 : w3.cell? ⟨ga, 1, none⟩ = some (.int .i64 x) := cell_heap hca3 1
       have x0 : w3.cell? ⟨g, 0, none⟩ = some (.int .i64 q) := cell_heap hX3.cells 0
       have x1 : w3.cell? ⟨g, 1, none⟩ = some (.int .i64 tk) := cell_heap hX3.cells 1
       have x2 : w3.cell? ⟨g, 2, none⟩ = some (.slice A l.length c) := cell_heap hX3.cells 2
       have HX3 := Lib.hid hX3
       have HB3 := Lib.hid hB3
       have HQ3 := Lib.hid hq3
       have HLA2 := HLA
       generalize (remQ (tk, l) x).2 = l3 at HRA HLA2 HQ3
       generalize (remQ (tk, l) x).1 = tk3 at HRA HLA2 HQ3
       generalize remE l x = ee at HRA
       clear ht3 hX3 hB3 hca3 hq3 HC HLA n1
       go_wp2_with fail
       refine HRA.out.mono ?_
       rintro e w4 ⟨v4, rfl, hb4, hr4⟩
       obtain ⟨A4, c4, rfl⟩ := row_form hr4
       have hgc4 := heap_below hb4 HX3.out.cells
       have hq4 := HQ3.out.below hb4
       have hB4 := b_then HB3.out hb4
       obtain ⟨wx, hwx⟩ : ∃ W, W = ((w4.setCell ⟨g, 0, none⟩ (.int .i64 q)).setCell ⟨g, 1, none⟩ (.int .i64 tk3)).setCell ⟨g, 2, none⟩ (.slice A4 l3.length c4) := ⟨_, rfl⟩
       have hX : XAt wx g w.heap.size q tk3 A4 c4 l3 := by rw [hwx]; exact XAt.put hgc4 hr4
       have hQ : QAt wx w.heap.size w.heap.size q tk3 v3 l3 := by rw [hwx]; exact hq4.put hgc4 _ _ _
       have hBt : Below w.heap.size w wx := by rw [hwx]; exact put_below hB4 hgw _ _ _
       have y0 : w4.cell? ⟨g, 0, none⟩ = some (.int .i64 q) := cell_heap hgc4 0
       have y1 : w4.cell? ⟨g, 1, none⟩ = some (.int .i64 tk) := cell_heap hgc4 1
       have y2 : w4.cell? ⟨g, 2, none⟩ = some (.slice A l.length c) := cell_heap hgc4 2
       have z0 : w4.frozen? ⟨g, 0, none⟩ = false := frozen_heap hgc4 0
       have z1 : w4.frozen? ⟨g, 1, none⟩ = false := frozen_heap hgc4 1
       have z2 : w4.frozen? ⟨g, 2, none⟩ = false := frozen_heap hgc4 2
       have hLN := HLA2.out
       have HQ := Lib.hid hQ
       have HX := Lib.hid hX
       have HBt := Lib.hid hBt
       have HLN := Lib.hid hLN
       have HWX := Lib.hid hwx
       clear hQ hX hBt hLN hwx hgc4 hq4 hB4 hr4 hb4
       go_wp2_with fail
       rw [← HWX.out]
       clear HWX y0 y1 y2 z0 z1 z2
       cases l3 with
       | nil =>
        have HN := Lib.hid (now_nil HQ.out)
        refine HN.out.mono ?_
        rintro e wN ⟨rfl, hw⟩
        obtain rfl := hw.symm
        clear hw HN
        have kx1 : wx.cell? ⟨g, 1, none⟩ = some (.int .i64 tk3) := cell_heap HX.out.cells 1
        have kx2 : wx.cell? ⟨g, 2, none⟩ = some (.slice A4 0 c4) := cell_heap HX.out.cells 2
        have hgx := heap_lt HX.out.cells
        have HS : Hid (∀ W : World, Below wx.heap.size wx W → W.cell? ⟨g, 1, none⟩ = some (.int .i64 tk3) ∧ W.cell? ⟨g, 2, none⟩ = some (.slice A4 0 c4)) := Lib.hid (fun W hW => ⟨(hW.cell (p := ⟨g, 1, none⟩) hgx).trans kx1, (hW.cell (p := ⟨g, 2, none⟩) hgx).trans kx2⟩)
        have HLI : Hid (∀ W, Below wx.heap.size wx W → Calls Try.prog 12 #[.pointer (some ⟨w.heap.size, 0, none⟩)] W fun e w' => ∃ A c, e = .returned (.slice A 0 c) ∧ Below W.heap.size W w' ∧ IRd w' A []) := Lib.hid (fun W hW => line_form (HQ.out.below hW) (by simp))
        have HTI : Hid (∀ W, Below wx.heap.size wx W → Calls Try.prog 15 #[.pointer (some ⟨w.heap.size, 0, none⟩)] W fun e w' => e = .returned (.int .i64 tk3) ∧ w' = W) := Lib.hid (fun W hW => ticks_any (HQ.out.below hW))
        have HXR : Hid (∀ W, Below wx.heap.size wx W → IRd W A4 []) := Lib.hid (fun W hW => (IRow.rd HX.out.row).below hW)
        have HSA : Hid (∀ W AA cc, IRd W AA [] → IRd W A4 [] → Calls Try.prog 17 #[.slice AA 0 cc, .slice A4 0 c4] W fun e w' => e = .returned (.bool true) ∧ Below W.heap.size W w') := Lib.hid (fun W AA cc h1 h2 => same_eq h1 h2 (by simp) cc c4)
        go_wp2_with fail
        refine wp_region_held_drew (S := fun W : World => W.cell? ⟨g, 1, none⟩ = some (.int .i64 tk3) ∧ W.cell? ⟨g, 2, none⟩ = some (.slice A4 0 c4)) (by kernel_rfl) (by first | exact (HS.out _ ((Below.refl _ _).drew)) | (go_keep; done)) (fun hHeld => ?_)
        refine wpAnyH_take (i := 0) (oi := { dst := some 113, op := .move (.tmp 10), type := 24, pos := "law.go:70", after := #[], guard := none }) (v := ?_) rfl (by kernel_rfl) (by kernel_rfl) (by kernel_rfl) (fun _ _ _ h => h) (Or.inl ⟨by rfl, ?_⟩) (by assumption) ?_
        rotate_left
        ·intro w hSw; (try dsimp only at hSw); go_simp; try with_reducible rfl
        simp only [Act.put, setIfInBounds_toArray, set_cons_zero, set_cons_succ]
        refine wpAnyH_take (i := 1) (oi := { dst := some 114, op := .move (.tmp 11), type := 3, pos := "law.go:70", after := #[], guard := none }) (v := ?_) rfl (by kernel_rfl) (by kernel_rfl) (by kernel_rfl) (fun _ _ _ h => h) (Or.inl ⟨by rfl, ?_⟩) (by assumption) ?_
        rotate_left
        ·intro w hSw; (try dsimp only at hSw); go_simp; try with_reducible rfl
        simp only [Act.put, setIfInBounds_toArray, set_cons_zero, set_cons_succ]
        refine wpAnyH_take (i := 2) (oi := { dst := some 115, op := .binOp .neq 3 (.tmp 113) (.tmp 114) 3, type := 4, pos := "law.go:70", after := #[⟨0, .data⟩, ⟨1, .data⟩], guard := none }) (v := ?_) rfl (by kernel_rfl) (by kernel_rfl) (by kernel_rfl) (fun _ _ _ h => h) (Or.inl ⟨by rfl, ?_⟩) (by assumption) ?_
        rotate_left
        ·intro w hSw; (try dsimp only at hSw); go_simp; try with_reducible rfl
        simp only [Act.put, setIfInBounds_toArray, set_cons_zero, set_cons_succ]
        refine wpAnyH_take (i := 3) (oi := { dst := some 116, op := .move (.tmp 115), type := 4, pos := "law.go:70", after := #[⟨2, .data⟩], guard := none }) (v := ?_) rfl (by kernel_rfl) (by kernel_rfl) (by kernel_rfl) (fun _ _ _ h => h) (Or.inl ⟨by rfl, ?_⟩) (by assumption) ?_
        rotate_left
        ·intro w hSw; (try dsimp only at hSw); go_simp; try with_reducible rfl
        simp only [Act.put, setIfInBounds_toArray, set_cons_zero, set_cons_succ]
        refine wpAnyH_take (i := 4) (oi := { dst := some 117, op := .move (.tmp 5), type := 23, pos := "law.go:70", after := #[⟨3, .guard⟩], guard := some (3, false) }) (v := ?_) rfl (by kernel_rfl) (by kernel_rfl) (by kernel_rfl) (fun _ _ _ h => h) (Or.inl ⟨by rfl, ?_⟩) (by assumption) ?_
        rotate_left
        ·intro w hSw; (try dsimp only at hSw); go_simp; try with_reducible rfl
        simp only [Act.put, setIfInBounds_toArray, set_cons_zero, set_cons_succ]
        refine wpAnyH_take (i := 6) (oi := { dst := some 119, op := .fieldAddr 40 (.tmp 7) 2, type := 0, pos := "law.go:70", after := #[⟨3, .guard⟩], guard := some (3, false) }) (v := ?_) rfl (by kernel_rfl) (by kernel_rfl) (by kernel_rfl) (fun _ _ _ h => h) (Or.inl ⟨by rfl, ?_⟩) (by assumption) ?_
        rotate_left
        ·intro w hSw; (try dsimp only at hSw); go_simp; try with_reducible rfl
        simp only [Act.put, setIfInBounds_toArray, set_cons_zero, set_cons_succ]
        refine wpAnyH_take (i := 7) (oi := { dst := some 120, op := .load 31 (.tmp 119), type := 31, pos := "law.go:70", after := #[⟨6, .data⟩, ⟨3, .guard⟩], guard := some (3, false) }) (v := ?_) rfl (by kernel_rfl) (by kernel_rfl) (by kernel_rfl) (fun _ _ _ h => h) (Or.inl ⟨by rfl, ?_⟩) (by assumption) ?_
        rotate_left
        ·intro w hSw; (try dsimp only at hSw); go_simp; try with_reducible rfl
        simp only [Act.put, setIfInBounds_toArray, set_cons_zero, set_cons_succ]
        refine wpAnyH_ready (rs := [5]) (by kernel_rfl) (by simp) ?_
        refine AllReadyH.cons (o := { dst := some 118, op := .call { callee := .value (.func 12), args := #[.tmp 117], argTypes := #[23] }, type := 31, pos := "law.go:70", after := #[⟨4, .data⟩, ⟨3, .chain⟩, ⟨3, .guard⟩], guard := some (3, false) }) rfl (fun K hK => ?_) AllReadyH.nil
        go_simp
        refine (HLI.out _ (by go_grown)).mono ?_
        rintro e wL ⟨AL, cL, rfl, hbL, hrL⟩
        have hBL : Below wx.heap.size wx wL := (b_then (by go_grown) hbL)
        obtain ⟨u1, u2⟩ := HS.out wL hBL
        have hsL := hBL.size
        clear hHeld
        refine hK.out _ _ (by (try dsimp only); go_keep) (fun hHeld => ?_)
        clear hK K
        try simp only [Act.put, setIfInBounds_toArray, set_cons_zero, set_cons_succ]
        refine wpAnyH_ready (rs := [8]) (by kernel_rfl) (by simp) ?_
        refine AllReadyH.cons (o := { dst := some 121, op := .call { callee := .value (.func 17), args := #[.tmp 118, .tmp 120], argTypes := #[31, 31] }, type := 4, pos := "law.go:70", after := #[⟨5, .data⟩, ⟨7, .data⟩, ⟨5, .chain⟩, ⟨3, .guard⟩], guard := some (3, false) }) rfl (fun K hK => ?_) AllReadyH.nil
        go_simp
        refine (HSA.out _ _ _ (by first | exact hrL | exact hrL.below ((Below.refl _ _).drew)) (HXR.out _ (by first | exact hBL | exact hBL.drew))).mono ?_
        rintro e wM ⟨rfl, hbM⟩
        have hBM : Below wx.heap.size wx wM := (b_then (by first | exact hBL | exact hBL.drew) hbM)
        obtain ⟨m1, m2⟩ := HS.out wM hBM
        have hsM := hBM.size
        clear hHeld
        refine hK.out _ _ (by (try dsimp only); go_keep) (fun hHeld => ?_)
        clear hK K
        try simp only [Act.put, setIfInBounds_toArray, set_cons_zero, set_cons_succ]
        refine wpAnyH_take (i := 9) (oi := { dst := some 122, op := .unOp .not 4 (.tmp 121), type := 4, pos := "law.go:70", after := #[⟨8, .data⟩, ⟨3, .guard⟩], guard := some (3, false) }) (v := ?_) rfl (by kernel_rfl) (by kernel_rfl) (by kernel_rfl) (fun _ _ _ h => h) (Or.inl ⟨by rfl, ?_⟩) (by assumption) ?_
        rotate_left
        ·intro w hSw; (try dsimp only at hSw); go_simp; try with_reducible rfl
        simp only [Act.put, setIfInBounds_toArray, set_cons_zero, set_cons_succ]
        refine wpAnyH_take (i := 10) (oi := { dst := some 123, op := .pick (.tmp 116) (.const (.bool true)) (.tmp 122), type := 4, pos := "law.go:70", after := #[⟨3, .data⟩, ⟨9, .data⟩], guard := none }) (v := ?_) rfl (by kernel_rfl) (by kernel_rfl) (by kernel_rfl) (fun _ _ _ h => h) (Or.inl ⟨by rfl, ?_⟩) (by assumption) ?_
        rotate_left
        ·intro w hSw; (try dsimp only at hSw); go_simp; try with_reducible rfl
        simp only [Act.put, setIfInBounds_toArray, set_cons_zero, set_cons_succ]
        refine wpAnyH_take (i := 11) (oi := { dst := some 124, op := .move (.tmp 123), type := 4, pos := "law.go:70", after := #[⟨10, .data⟩, ⟨8, .chain⟩], guard := none }) (v := ?_) rfl (by kernel_rfl) (by kernel_rfl) (by kernel_rfl) (fun _ _ _ h => h) (Or.inl ⟨by rfl, ?_⟩) (by assumption) ?_
        rotate_left
        ·intro w hSw; (try dsimp only at hSw); go_simp; try with_reducible rfl
        simp only [Act.put, setIfInBounds_toArray, set_cons_zero, set_cons_succ]
        refine wpAnyH_take (i := 12) (oi := { dst := some 125, op := .move (.tmp 5), type := 23, pos := "law.go:70", after := #[⟨11, .guard⟩], guard := some (11, false) }) (v := ?_) rfl (by kernel_rfl) (by kernel_rfl) (by kernel_rfl) (fun _ _ _ h => h) (Or.inl ⟨by rfl, ?_⟩) (by assumption) ?_
        rotate_left
        ·intro w hSw; (try dsimp only at hSw); go_simp; try with_reducible rfl
        simp only [Act.put, setIfInBounds_toArray, set_cons_zero, set_cons_succ]
        refine wpAnyH_take (i := 14) (oi := { dst := some 127, op := .fieldAddr 40 (.tmp 7) 1, type := 0, pos := "law.go:70", after := #[⟨11, .guard⟩], guard := some (11, false) }) (v := ?_) rfl (by kernel_rfl) (by kernel_rfl) (by kernel_rfl) (fun _ _ _ h => h) (Or.inl ⟨by rfl, ?_⟩) (by assumption) ?_
        rotate_left
        ·intro w hSw; (try dsimp only at hSw); go_simp; try with_reducible rfl
        simp only [Act.put, setIfInBounds_toArray, set_cons_zero, set_cons_succ]
        refine wpAnyH_take (i := 15) (oi := { dst := some 128, op := .load 3 (.tmp 127), type := 3, pos := "law.go:70", after := #[⟨14, .data⟩, ⟨11, .guard⟩], guard := some (11, false) }) (v := ?_) rfl (by kernel_rfl) (by kernel_rfl) (by kernel_rfl) (fun _ _ _ h => h) (Or.inl ⟨by rfl, ?_⟩) (by assumption) ?_
        rotate_left
        ·intro w hSw; (try dsimp only at hSw); go_simp; try with_reducible rfl
        simp only [Act.put, setIfInBounds_toArray, set_cons_zero, set_cons_succ]
        refine wpAnyH_ready (rs := [13]) (by kernel_rfl) (by simp) ?_
        refine AllReadyH.cons (o := { dst := some 126, op := .call { callee := .value (.func 15), args := #[.tmp 125], argTypes := #[23] }, type := 3, pos := "law.go:70", after := #[⟨12, .data⟩, ⟨11, .chain⟩, ⟨11, .guard⟩], guard := some (11, false) }) rfl (fun K hK => ?_) AllReadyH.nil
        go_simp
        refine (HTI.out _ (by first | exact hBM | exact hBM.drew | go_grown)).mono ?_
        rintro e wZ ⟨rfl, hwZ⟩
        obtain rfl := hwZ.symm
        clear hwZ
        clear hHeld
        refine hK.out _ _ (by (try dsimp only); go_keep) (fun hHeld => ?_)
        clear hK K
        try simp only [Act.put, setIfInBounds_toArray, set_cons_zero, set_cons_succ]
        refine wpAnyH_take (i := 16) (oi := { dst := some 129, op := .binOp .neq 3 (.tmp 126) (.tmp 128) 3, type := 4, pos := "law.go:70", after := #[⟨13, .data⟩, ⟨15, .data⟩, ⟨11, .guard⟩], guard := some (11, false) }) (v := ?_) rfl (by kernel_rfl) (by kernel_rfl) (by kernel_rfl) (fun _ _ _ h => h) (Or.inl ⟨by rfl, ?_⟩) (by assumption) ?_
        rotate_left
        ·intro w hSw; (try dsimp only at hSw); go_simp; try with_reducible rfl
        simp only [Act.put, setIfInBounds_toArray, set_cons_zero, set_cons_succ]
        refine wpAnyH_take (i := 17) (oi := { dst := some 130, op := .pick (.tmp 124) (.const (.bool true)) (.tmp 129), type := 4, pos := "law.go:70", after := #[⟨11, .data⟩, ⟨16, .data⟩], guard := none }) (v := ?_) rfl (by kernel_rfl) (by kernel_rfl) (by kernel_rfl) (fun _ _ _ h => h) (Or.inl ⟨by rfl, ?_⟩) (by assumption) ?_
        rotate_left
        ·intro w hSw; (try dsimp only at hSw); go_simp; try with_reducible rfl
        simp only [Act.put, setIfInBounds_toArray, set_cons_zero, set_cons_succ]
        refine wpAnyH_take (i := 18) (oi := { dst := some 131, op := .move (.tmp 130), type := 4, pos := "law.go:70", after := #[⟨17, .data⟩, ⟨13, .chain⟩], guard := none }) (v := ?_) rfl (by kernel_rfl) (by kernel_rfl) (by kernel_rfl) (fun _ _ _ h => h) (Or.inl ⟨by rfl, ?_⟩) (by assumption) ?_
        rotate_left
        ·intro w hSw; (try dsimp only at hSw); go_simp; try with_reducible rfl
        simp only [Act.put, setIfInBounds_toArray, set_cons_zero, set_cons_succ]
        refine wpAnyH_take (i := 19) (oi := { dst := some 132, op := .move (.tmp 15), type := 4, pos := "law.go:70", after := #[⟨18, .guard⟩], guard := some (18, false) }) (v := ?_) rfl (by kernel_rfl) (by kernel_rfl) (by kernel_rfl) (fun _ _ _ h => h) (Or.inl ⟨by rfl, ?_⟩) (by assumption) ?_
        rotate_left
        ·intro w hSw; (try dsimp only at hSw); go_simp; try with_reducible rfl
        simp only [Act.put, setIfInBounds_toArray, set_cons_zero, set_cons_succ]
        refine wpAnyH_take (i := 20) (oi := { dst := some 133, op := .fieldAddr 40 (.tmp 7) 2, type := 0, pos := "law.go:70", after := #[⟨18, .guard⟩], guard := some (18, false) }) (v := ?_) rfl (by kernel_rfl) (by kernel_rfl) (by kernel_rfl) (fun _ _ _ h => h) (Or.inl ⟨by rfl, ?_⟩) (by assumption) ?_
        rotate_left
        ·intro w hSw; (try dsimp only at hSw); go_simp; try with_reducible rfl
        simp only [Act.put, setIfInBounds_toArray, set_cons_zero, set_cons_succ]
        refine wpAnyH_take (i := 21) (oi := { dst := some 134, op := .load 31 (.tmp 133), type := 31, pos := "law.go:70", after := #[⟨20, .data⟩, ⟨18, .guard⟩], guard := some (18, false) }) (v := ?_) rfl (by kernel_rfl) (by kernel_rfl) (by kernel_rfl) (fun _ _ _ h => h) (Or.inl ⟨by rfl, ?_⟩) (by assumption) ?_
        rotate_left
        ·intro w hSw; (try dsimp only at hSw); go_simp; try with_reducible rfl
        simp only [Act.put, setIfInBounds_toArray, set_cons_zero, set_cons_succ]
        refine wpAnyH_take (i := 22) (oi := { dst := some 135, op := .call { callee := .builtin .len, args := #[.tmp 134], argTypes := #[31] }, type := 3, pos := "law.go:70", after := #[⟨21, .data⟩, ⟨18, .guard⟩], guard := some (18, false) }) (v := ?_) rfl (by kernel_rfl) (by kernel_rfl) (by kernel_rfl) (fun _ _ _ h => h) (Or.inl ⟨by rfl, ?_⟩) (by assumption) ?_
        rotate_left
        ·intro w hSw; (try dsimp only at hSw); go_simp; try with_reducible rfl
        simp only [Act.put, setIfInBounds_toArray, set_cons_zero, set_cons_succ]
        refine wpAnyH_take (i := 23) (oi := { dst := some 136, op := .binOp .gtr 3 (.tmp 135) (.const (.int .i64 0)) 3, type := 4, pos := "law.go:70", after := #[⟨22, .data⟩, ⟨18, .guard⟩], guard := some (18, false) }) (v := ?_) rfl (by kernel_rfl) (by kernel_rfl) (by kernel_rfl) (fun _ _ _ h => h) (Or.inl ⟨by rfl, ?_⟩) (by assumption) ?_
        rotate_left
        ·intro w hSw; (try dsimp only at hSw); go_simp; try with_reducible rfl
        simp only [Act.put, setIfInBounds_toArray, set_cons_zero, set_cons_succ]
        refine wpAnyH_take (i := 24) (oi := { dst := some 137, op := .binOp .neq 4 (.tmp 132) (.tmp 136) 4, type := 4, pos := "law.go:70", after := #[⟨19, .data⟩, ⟨23, .data⟩, ⟨18, .guard⟩], guard := some (18, false) }) (v := ?_) rfl (by kernel_rfl) (by kernel_rfl) (by kernel_rfl) (fun _ _ _ h => h) (Or.inl ⟨by rfl, ?_⟩) (by assumption) ?_
        rotate_left
        ·intro w hSw; (try dsimp only at hSw); go_simp; try with_reducible rfl
        simp only [Act.put, setIfInBounds_toArray, set_cons_zero, set_cons_succ]
        refine wpAnyH_take (i := 25) (oi := { dst := some 138, op := .pick (.tmp 131) (.const (.bool true)) (.tmp 137), type := 4, pos := "law.go:70", after := #[⟨18, .data⟩, ⟨24, .data⟩], guard := none }) (v := ?_) rfl (by kernel_rfl) (by kernel_rfl) (by kernel_rfl) (fun _ _ _ h => h) (Or.inl ⟨by rfl, ?_⟩) (by assumption) ?_
        rotate_left
        ·intro w hSw; (try dsimp only at hSw); go_simp; try with_reducible rfl
        simp only [Act.put, setIfInBounds_toArray, set_cons_zero, set_cons_succ]
        refine wpAnyH_take (i := 26) (oi := { dst := some 139, op := .move (.tmp 138), type := 4, pos := "law.go:70", after := #[⟨25, .data⟩, ⟨18, .chain⟩], guard := none }) (v := ?_) rfl (by kernel_rfl) (by kernel_rfl) (by kernel_rfl) (fun _ _ _ h => h) (Or.inl ⟨by rfl, ?_⟩) (by assumption) ?_
        rotate_left
        ·intro w hSw; (try dsimp only at hSw); go_simp; try with_reducible rfl
        simp only [Act.put, setIfInBounds_toArray, set_cons_zero, set_cons_succ]
        refine wpAnyH_take (i := 27) (oi := { dst := some 140, op := .move (.tmp 15), type := 4, pos := "law.go:70", after := #[⟨26, .guard⟩], guard := some (26, false) }) (v := ?_) rfl (by kernel_rfl) (by kernel_rfl) (by kernel_rfl) (fun _ _ _ h => h) (Or.inl ⟨by rfl, ?_⟩) (by assumption) ?_
        rotate_left
        ·intro w hSw; (try dsimp only at hSw); go_simp; try with_reducible rfl
        simp only [Act.put, setIfInBounds_toArray, set_cons_zero, set_cons_succ]
        refine wpAnyH_take (i := 28) (oi := { dst := some 141, op := .move (.tmp 140), type := 4, pos := "law.go:70", after := #[⟨27, .data⟩, ⟨26, .chain⟩, ⟨26, .guard⟩], guard := some (26, false) }) (v := ?_) rfl (by kernel_rfl) (by kernel_rfl) (by kernel_rfl) (fun _ _ _ h => h) (Or.inl ⟨by rfl, ?_⟩) (by assumption) ?_
        rotate_left
        ·intro w hSw; (try dsimp only at hSw); go_simp; try with_reducible rfl
        simp only [Act.put, setIfInBounds_toArray, set_cons_zero, set_cons_succ]
        refine wpAnyH_take (i := 29) (oi := { dst := some 142, op := .move (.tmp 14), type := 3, pos := "law.go:70", after := #[⟨28, .guard⟩], guard := some (28, true) }) (v := undef) rfl (by kernel_rfl) (by kernel_rfl) (by kernel_rfl) (fun _ _ _ h => h) (Or.inr ⟨by rfl, rfl⟩) (by assumption) ?_
        simp only [Act.put, setIfInBounds_toArray, set_cons_zero, set_cons_succ]
        refine wpAnyH_take (i := 30) (oi := { dst := some 143, op := .fieldAddr 40 (.tmp 7) 2, type := 0, pos := "law.go:70", after := #[⟨28, .guard⟩], guard := some (28, true) }) (v := undef) rfl (by kernel_rfl) (by kernel_rfl) (by kernel_rfl) (fun _ _ _ h => h) (Or.inr ⟨by rfl, rfl⟩) (by assumption) ?_
        simp only [Act.put, setIfInBounds_toArray, set_cons_zero, set_cons_succ]
        refine wpAnyH_take (i := 31) (oi := { dst := some 144, op := .load 31 (.tmp 143), type := 31, pos := "law.go:70", after := #[⟨30, .data⟩, ⟨28, .guard⟩], guard := some (28, true) }) (v := undef) rfl (by kernel_rfl) (by kernel_rfl) (by kernel_rfl) (fun _ _ _ h => h) (Or.inr ⟨by rfl, rfl⟩) (by assumption) ?_
        simp only [Act.put, setIfInBounds_toArray, set_cons_zero, set_cons_succ]
        refine wpAnyH_take (i := 32) (oi := { dst := some 145, op := .indexAddr 31 (.tmp 144) (.const (.int .i64 0)), type := 0, pos := "law.go:70", after := #[⟨31, .data⟩, ⟨28, .guard⟩], guard := some (28, true) }) (v := undef) rfl (by kernel_rfl) (by kernel_rfl) (by kernel_rfl) (fun _ _ _ h => h) (Or.inr ⟨by rfl, rfl⟩) (by assumption) ?_
        simp only [Act.put, setIfInBounds_toArray, set_cons_zero, set_cons_succ]
        refine wpAnyH_take (i := 33) (oi := { dst := some 146, op := .load 3 (.tmp 145), type := 3, pos := "law.go:70", after := #[⟨32, .data⟩, ⟨28, .guard⟩], guard := some (28, true) }) (v := undef) rfl (by kernel_rfl) (by kernel_rfl) (by kernel_rfl) (fun _ _ _ h => h) (Or.inr ⟨by rfl, rfl⟩) (by assumption) ?_
        simp only [Act.put, setIfInBounds_toArray, set_cons_zero, set_cons_succ]
        refine wpAnyH_take (i := 34) (oi := { dst := some 147, op := .binOp .neq 3 (.tmp 142) (.tmp 146) 3, type := 4, pos := "law.go:70", after := #[⟨29, .data⟩, ⟨33, .data⟩, ⟨28, .guard⟩], guard := some (28, true) }) (v := undef) rfl (by kernel_rfl) (by kernel_rfl) (by kernel_rfl) (fun _ _ _ h => h) (Or.inr ⟨by rfl, rfl⟩) (by assumption) ?_
        simp only [Act.put, setIfInBounds_toArray, set_cons_zero, set_cons_succ]
        refine wpAnyH_take (i := 35) (oi := { dst := some 148, op := .pick (.tmp 141) (.tmp 147) (.const (.bool false)), type := 4, pos := "law.go:70", after := #[⟨28, .data⟩, ⟨34, .data⟩, ⟨26, .guard⟩], guard := some (26, false) }) (v := ?_) rfl (by kernel_rfl) (by kernel_rfl) (by kernel_rfl) (fun _ _ _ h => h) (Or.inl ⟨by rfl, ?_⟩) (by assumption) ?_
        rotate_left
        ·intro w hSw; (try dsimp only at hSw); go_simp; try with_reducible rfl
        simp only [Act.put, setIfInBounds_toArray, set_cons_zero, set_cons_succ]
        refine wpAnyH_take (i := 36) (oi := { dst := some 149, op := .pick (.tmp 139) (.const (.bool true)) (.tmp 148), type := 4, pos := "law.go:70", after := #[⟨26, .data⟩, ⟨35, .data⟩], guard := none }) (v := ?_) rfl (by kernel_rfl) (by kernel_rfl) (by kernel_rfl) (fun _ _ _ h => h) (Or.inl ⟨by rfl, ?_⟩) (by assumption) ?_
        rotate_left
        ·intro w hSw; (try dsimp only at hSw); go_simp; try with_reducible rfl
        simp only [Act.put, setIfInBounds_toArray, set_cons_zero, set_cons_succ]
        refine wpAnyH_take (i := 37) (oi := { dst := some 150, op := .move (.tmp 149), type := 4, pos := "law.go:70", after := #[⟨36, .data⟩, ⟨28, .chain⟩], guard := none }) (v := ?_) rfl (by kernel_rfl) (by kernel_rfl) (by kernel_rfl) (fun _ _ _ h => h) (Or.inl ⟨by rfl, ?_⟩) (by assumption) ?_
        rotate_left
        ·intro w hSw; (try dsimp only at hSw); go_simp; try with_reducible rfl
        simp only [Act.put, setIfInBounds_toArray, set_cons_zero, set_cons_succ]
        refine wpAnyH_take (i := 38) (oi := { dst := some 151, op := .move (.tmp 15), type := 4, pos := "law.go:70", after := #[⟨37, .guard⟩], guard := some (37, false) }) (v := ?_) rfl (by kernel_rfl) (by kernel_rfl) (by kernel_rfl) (fun _ _ _ h => h) (Or.inl ⟨by rfl, ?_⟩) (by assumption) ?_
        rotate_left
        ·intro w hSw; (try dsimp only at hSw); go_simp; try with_reducible rfl
        simp only [Act.put, setIfInBounds_toArray, set_cons_zero, set_cons_succ]
        refine wpAnyH_take (i := 39) (oi := { dst := some 152, op := .unOp .not 4 (.tmp 151), type := 4, pos := "law.go:70", after := #[⟨38, .data⟩, ⟨37, .guard⟩], guard := some (37, false) }) (v := ?_) rfl (by kernel_rfl) (by kernel_rfl) (by kernel_rfl) (fun _ _ _ h => h) (Or.inl ⟨by rfl, ?_⟩) (by assumption) ?_
        rotate_left
        ·intro w hSw; (try dsimp only at hSw); go_simp; try with_reducible rfl
        simp only [Act.put, setIfInBounds_toArray, set_cons_zero, set_cons_succ]
        refine wpAnyH_take (i := 40) (oi := { dst := some 153, op := .move (.tmp 152), type := 4, pos := "law.go:70", after := #[⟨39, .data⟩, ⟨37, .chain⟩, ⟨37, .guard⟩], guard := some (37, false) }) (v := ?_) rfl (by kernel_rfl) (by kernel_rfl) (by kernel_rfl) (fun _ _ _ h => h) (Or.inl ⟨by rfl, ?_⟩) (by assumption) ?_
        rotate_left
        ·intro w hSw; (try dsimp only at hSw); go_simp; try with_reducible rfl
        simp only [Act.put, setIfInBounds_toArray, set_cons_zero, set_cons_succ]
        refine wpAnyH_take (i := 41) (oi := { dst := some 154, op := .move (.tmp 14), type := 3, pos := "law.go:70", after := #[⟨40, .guard⟩], guard := some (40, true) }) (v := ?_) rfl (by kernel_rfl) (by kernel_rfl) (by kernel_rfl) (fun _ _ _ h => h) (Or.inl ⟨by rfl, ?_⟩) (by assumption) ?_
        rotate_left
        ·intro w hSw; (try dsimp only at hSw); go_simp; try with_reducible rfl
        simp only [Act.put, setIfInBounds_toArray, set_cons_zero, set_cons_succ]
        refine wpAnyH_take (i := 42) (oi := { dst := some 155, op := .binOp .neq 3 (.tmp 154) (.const (.int .i64 0)) 3, type := 4, pos := "law.go:70", after := #[⟨41, .data⟩, ⟨40, .guard⟩], guard := some (40, true) }) (v := ?_) rfl (by kernel_rfl) (by kernel_rfl) (by kernel_rfl) (fun _ _ _ h => h) (Or.inl ⟨by rfl, ?_⟩) (by assumption) ?_
        rotate_left
        ·intro w hSw; (try dsimp only at hSw); go_simp; try with_reducible rfl
        simp only [Act.put, setIfInBounds_toArray, set_cons_zero, set_cons_succ]
        refine wpAnyH_take (i := 43) (oi := { dst := some 156, op := .pick (.tmp 153) (.tmp 155) (.const (.bool false)), type := 4, pos := "law.go:70", after := #[⟨40, .data⟩, ⟨42, .data⟩, ⟨37, .guard⟩], guard := some (37, false) }) (v := ?_) rfl (by kernel_rfl) (by kernel_rfl) (by kernel_rfl) (fun _ _ _ h => h) (Or.inl ⟨by rfl, ?_⟩) (by assumption) ?_
        rotate_left
        ·intro w hSw; (try dsimp only at hSw); go_simp; try with_reducible rfl
        simp only [Act.put, setIfInBounds_toArray, set_cons_zero, set_cons_succ]
        refine wpAnyH_take (i := 44) (oi := { dst := some 157, op := .pick (.tmp 150) (.const (.bool true)) (.tmp 156), type := 4, pos := "law.go:70", after := #[⟨37, .data⟩, ⟨43, .data⟩], guard := none }) (v := ?_) rfl (by kernel_rfl) (by kernel_rfl) (by kernel_rfl) (fun _ _ _ h => h) (Or.inl ⟨by rfl, ?_⟩) (by assumption) ?_
        rotate_left
        ·intro w hSw; (try dsimp only at hSw); go_simp; try with_reducible rfl
        simp only [Act.put, setIfInBounds_toArray, set_cons_zero, set_cons_succ]
        refine wpAnyH_done (by kernel_rfl) ?_ _
        all_goals
         have HBF : Hid (Below w.heap.size w wM) := Lib.hid (b_then HBt.out hBM)
         have HQF : Hid (QAt wM w.heap.size w.heap.size q tk3 v3 []) := Lib.hid (HQ.out.below hBM)
         have HXF : Hid (XAt wM g w.heap.size q tk3 A4 c4 []) := Lib.hid (HX.out.below hBM)
         clear hbL hrL hBL hbM hBM u1 u2 m1 m2 hsL hsM
         go_wp2_with fail
         go_roundw
         case rel => exact ⟨k + 1, tk3, v3, [], A4, c4, by go_num, by omega, by omega, HBF, HQF, HXF, HLN⟩
         case measure => simp [intOf]; omega
       | cons hd tl =>
        have HN := Lib.hid (now_cons HQ.out)
        obtain ⟨bx, cpx, hvx, hbbx, hbwx, hcx⟩ := HX.out.row.cell 0 (by simp)
        simp only [List.getElem_cons_zero] at hcx
        obtain ⟨rfl, _, rfl⟩ : A4 = some ⟨bx, 0, none⟩ ∧ (hd :: tl).length = (hd :: tl).length ∧ c4 = cpx := by simpa using hvx
        obtain ⟨n, hn⟩ : ∃ n, n = (hd :: tl).length := ⟨_, rfl⟩
        have kx1 : wx.cell? ⟨g, 1, none⟩ = some (.int .i64 tk3) := cell_heap HX.out.cells 1
        have kx2 : wx.cell? ⟨g, 2, none⟩ = some (.slice (some ⟨bx, 0, none⟩) n c4) := by rw [hn]; exact cell_heap HX.out.cells 2
        have hgx := heap_lt HX.out.cells
        have HS : Hid (∀ W : World, Below wx.heap.size wx W → W.cell? ⟨g, 1, none⟩ = some (.int .i64 tk3) ∧ W.cell? ⟨g, 2, none⟩ = some (.slice (some ⟨bx, 0, none⟩) n c4) ∧ W.cell? ⟨bx, 0, none⟩ = some (.int .i64 hd)) := Lib.hid (fun W hW => ⟨(hW.cell (p := ⟨g, 1, none⟩) hgx).trans kx1, (hW.cell (p := ⟨g, 2, none⟩) hgx).trans kx2, (hW.cell (p := ⟨bx, 0, none⟩) hbwx).trans hcx⟩)
        have hl9 : (hd :: tl).length ≤ 900 := by have := HLN.out; omega
        have HLI : Hid (∀ W, Below wx.heap.size wx W → Calls Try.prog 12 #[.pointer (some ⟨w.heap.size, 0, none⟩)] W fun e w' => ∃ A c, e = .returned (.slice A n c) ∧ Below W.heap.size W w' ∧ IRd w' A (hd :: tl)) := Lib.hid (fun W hW => by rw [hn]; exact line_form (HQ.out.below hW) (by omega))
        have HTI : Hid (∀ W, Below wx.heap.size wx W → Calls Try.prog 15 #[.pointer (some ⟨w.heap.size, 0, none⟩)] W fun e w' => e = .returned (.int .i64 tk3) ∧ w' = W) := Lib.hid (fun W hW => ticks_any (HQ.out.below hW))
        have HXR : Hid (∀ W, Below wx.heap.size wx W → IRd W (some ⟨bx, 0, none⟩) (hd :: tl)) := Lib.hid (fun W hW => (IRow.rd HX.out.row).below hW)
        have HSA : Hid (∀ W AA cc, IRd W AA (hd :: tl) → IRd W (some ⟨bx, 0, none⟩) (hd :: tl) → Calls Try.prog 17 #[.slice AA n cc, .slice (some ⟨bx, 0, none⟩) n c4] W fun e w' => e = .returned (.bool true) ∧ Below W.heap.size W w') := Lib.hid (fun W AA cc h1 h2 => by rw [hn]; exact same_eq h1 h2 (by omega) cc c4)
        have hn1 : 0 < n := by rw [hn]; simp
        have hn2 : (0 : Int) < (n : Int) := by omega
        have hn3 : decide (0 < n) = true := decide_eq_true hn1
        have hn4 : decide ((0 : Int) < (n : Int)) = true := decide_eq_true hn2
        have HNN := Lib.hid hn
        clear hvx hbbx hn hl9
        refine HN.out.mono ?_
        rintro e wN ⟨rfl, hw⟩
        obtain rfl := hw.symm
        clear hw HN
        go_wp2_with fail
        refine wp_region_held_drew (S := fun W : World => W.cell? ⟨g, 1, none⟩ = some (.int .i64 tk3) ∧ W.cell? ⟨g, 2, none⟩ = some (.slice (some ⟨bx, 0, none⟩) n c4) ∧ W.cell? ⟨bx, 0, none⟩ = some (.int .i64 hd)) (by kernel_rfl) (by first | exact (HS.out _ ((Below.refl _ _).drew)) | (go_keep; done)) (fun hHeld => ?_)
        refine wpAnyH_take (i := 0) (oi := { dst := some 113, op := .move (.tmp 10), type := 24, pos := "law.go:70", after := #[], guard := none }) (v := ?_) rfl (by kernel_rfl) (by kernel_rfl) (by kernel_rfl) (fun _ _ _ h => h) (Or.inl ⟨by rfl, ?_⟩) (by assumption) ?_
        rotate_left
        ·intro w hSw; (try dsimp only at hSw); go_simp; try with_reducible rfl
        simp only [Act.put, setIfInBounds_toArray, set_cons_zero, set_cons_succ]
        refine wpAnyH_take (i := 1) (oi := { dst := some 114, op := .move (.tmp 11), type := 3, pos := "law.go:70", after := #[], guard := none }) (v := ?_) rfl (by kernel_rfl) (by kernel_rfl) (by kernel_rfl) (fun _ _ _ h => h) (Or.inl ⟨by rfl, ?_⟩) (by assumption) ?_
        rotate_left
        ·intro w hSw; (try dsimp only at hSw); go_simp; try with_reducible rfl
        simp only [Act.put, setIfInBounds_toArray, set_cons_zero, set_cons_succ]
        refine wpAnyH_take (i := 2) (oi := { dst := some 115, op := .binOp .neq 3 (.tmp 113) (.tmp 114) 3, type := 4, pos := "law.go:70", after := #[⟨0, .data⟩, ⟨1, .data⟩], guard := none }) (v := ?_) rfl (by kernel_rfl) (by kernel_rfl) (by kernel_rfl) (fun _ _ _ h => h) (Or.inl ⟨by rfl, ?_⟩) (by assumption) ?_
        rotate_left
        ·intro w hSw; (try dsimp only at hSw); go_simp; try with_reducible rfl
        simp only [Act.put, setIfInBounds_toArray, set_cons_zero, set_cons_succ]
        refine wpAnyH_take (i := 3) (oi := { dst := some 116, op := .move (.tmp 115), type := 4, pos := "law.go:70", after := #[⟨2, .data⟩], guard := none }) (v := ?_) rfl (by kernel_rfl) (by kernel_rfl) (by kernel_rfl) (fun _ _ _ h => h) (Or.inl ⟨by rfl, ?_⟩) (by assumption) ?_
        rotate_left
        ·intro w hSw; (try dsimp only at hSw); go_simp; try with_reducible rfl
        simp only [Act.put, setIfInBounds_toArray, set_cons_zero, set_cons_succ]
        refine wpAnyH_take (i := 4) (oi := { dst := some 117, op := .move (.tmp 5), type := 23, pos := "law.go:70", after := #[⟨3, .guard⟩], guard := some (3, false) }) (v := ?_) rfl (by kernel_rfl) (by kernel_rfl) (by kernel_rfl) (fun _ _ _ h => h) (Or.inl ⟨by rfl, ?_⟩) (by assumption) ?_
        rotate_left
        ·intro w hSw; (try dsimp only at hSw); go_simp; try with_reducible rfl
        simp only [Act.put, setIfInBounds_toArray, set_cons_zero, set_cons_succ]
        refine wpAnyH_take (i := 6) (oi := { dst := some 119, op := .fieldAddr 40 (.tmp 7) 2, type := 0, pos := "law.go:70", after := #[⟨3, .guard⟩], guard := some (3, false) }) (v := ?_) rfl (by kernel_rfl) (by kernel_rfl) (by kernel_rfl) (fun _ _ _ h => h) (Or.inl ⟨by rfl, ?_⟩) (by assumption) ?_
        rotate_left
        ·intro w hSw; (try dsimp only at hSw); go_simp; try with_reducible rfl
        simp only [Act.put, setIfInBounds_toArray, set_cons_zero, set_cons_succ]
        refine wpAnyH_take (i := 7) (oi := { dst := some 120, op := .load 31 (.tmp 119), type := 31, pos := "law.go:70", after := #[⟨6, .data⟩, ⟨3, .guard⟩], guard := some (3, false) }) (v := ?_) rfl (by kernel_rfl) (by kernel_rfl) (by kernel_rfl) (fun _ _ _ h => h) (Or.inl ⟨by rfl, ?_⟩) (by assumption) ?_
        rotate_left
        ·intro w hSw; (try dsimp only at hSw); go_simp; try with_reducible rfl
        simp only [Act.put, setIfInBounds_toArray, set_cons_zero, set_cons_succ]
        refine wpAnyH_ready (rs := [5]) (by kernel_rfl) (by simp) ?_
        refine AllReadyH.cons (o := { dst := some 118, op := .call { callee := .value (.func 12), args := #[.tmp 117], argTypes := #[23] }, type := 31, pos := "law.go:70", after := #[⟨4, .data⟩, ⟨3, .chain⟩, ⟨3, .guard⟩], guard := some (3, false) }) rfl (fun K hK => ?_) AllReadyH.nil
        go_simp
        refine (HLI.out _ (by go_grown)).mono ?_
        rintro e wL ⟨AL, cL, rfl, hbL, hrL⟩
        have hBL : Below wx.heap.size wx wL := (b_then (by go_grown) hbL)
        obtain ⟨u1, u2, u3⟩ := HS.out wL hBL
        have hsL := hBL.size
        clear hHeld
        refine hK.out _ _ (by (try dsimp only); go_keep) (fun hHeld => ?_)
        clear hK K
        try simp only [Act.put, setIfInBounds_toArray, set_cons_zero, set_cons_succ]
        refine wpAnyH_ready (rs := [8]) (by kernel_rfl) (by simp) ?_
        refine AllReadyH.cons (o := { dst := some 121, op := .call { callee := .value (.func 17), args := #[.tmp 118, .tmp 120], argTypes := #[31, 31] }, type := 4, pos := "law.go:70", after := #[⟨5, .data⟩, ⟨7, .data⟩, ⟨5, .chain⟩, ⟨3, .guard⟩], guard := some (3, false) }) rfl (fun K hK => ?_) AllReadyH.nil
        go_simp
        refine (HSA.out _ _ _ (by first | exact hrL | exact hrL.below ((Below.refl _ _).drew)) (HXR.out _ (by first | exact hBL | exact hBL.drew))).mono ?_
        rintro e wM ⟨rfl, hbM⟩
        have hBM : Below wx.heap.size wx wM := (b_then (by first | exact hBL | exact hBL.drew) hbM)
        obtain ⟨m1, m2, m3⟩ := HS.out wM hBM
        have hsM := hBM.size
        clear hHeld
        refine hK.out _ _ (by (try dsimp only); go_keep) (fun hHeld => ?_)
        clear hK K
        try simp only [Act.put, setIfInBounds_toArray, set_cons_zero, set_cons_succ]
        refine wpAnyH_take (i := 9) (oi := { dst := some 122, op := .unOp .not 4 (.tmp 121), type := 4, pos := "law.go:70", after := #[⟨8, .data⟩, ⟨3, .guard⟩], guard := some (3, false) }) (v := ?_) rfl (by kernel_rfl) (by kernel_rfl) (by kernel_rfl) (fun _ _ _ h => h) (Or.inl ⟨by rfl, ?_⟩) (by assumption) ?_
        rotate_left
        ·intro w hSw; (try dsimp only at hSw); go_simp; try with_reducible rfl
        simp only [Act.put, setIfInBounds_toArray, set_cons_zero, set_cons_succ]
        refine wpAnyH_take (i := 10) (oi := { dst := some 123, op := .pick (.tmp 116) (.const (.bool true)) (.tmp 122), type := 4, pos := "law.go:70", after := #[⟨3, .data⟩, ⟨9, .data⟩], guard := none }) (v := ?_) rfl (by kernel_rfl) (by kernel_rfl) (by kernel_rfl) (fun _ _ _ h => h) (Or.inl ⟨by rfl, ?_⟩) (by assumption) ?_
        rotate_left
        ·intro w hSw; (try dsimp only at hSw); go_simp; try with_reducible rfl
        simp only [Act.put, setIfInBounds_toArray, set_cons_zero, set_cons_succ]
        refine wpAnyH_take (i := 11) (oi := { dst := some 124, op := .move (.tmp 123), type := 4, pos := "law.go:70", after := #[⟨10, .data⟩, ⟨8, .chain⟩], guard := none }) (v := ?_) rfl (by kernel_rfl) (by kernel_rfl) (by kernel_rfl) (fun _ _ _ h => h) (Or.inl ⟨by rfl, ?_⟩) (by assumption) ?_
        rotate_left
        ·intro w hSw; (try dsimp only at hSw); go_simp; try with_reducible rfl
        simp only [Act.put, setIfInBounds_toArray, set_cons_zero, set_cons_succ]
        refine wpAnyH_take (i := 12) (oi := { dst := some 125, op := .move (.tmp 5), type := 23, pos := "law.go:70", after := #[⟨11, .guard⟩], guard := some (11, false) }) (v := ?_) rfl (by kernel_rfl) (by kernel_rfl) (by kernel_rfl) (fun _ _ _ h => h) (Or.inl ⟨by rfl, ?_⟩) (by assumption) ?_
        rotate_left
        ·intro w hSw; (try dsimp only at hSw); go_simp; try with_reducible rfl
        simp only [Act.put, setIfInBounds_toArray, set_cons_zero, set_cons_succ]
        refine wpAnyH_take (i := 14) (oi := { dst := some 127, op := .fieldAddr 40 (.tmp 7) 1, type := 0, pos := "law.go:70", after := #[⟨11, .guard⟩], guard := some (11, false) }) (v := ?_) rfl (by kernel_rfl) (by kernel_rfl) (by kernel_rfl) (fun _ _ _ h => h) (Or.inl ⟨by rfl, ?_⟩) (by assumption) ?_
        rotate_left
        ·intro w hSw; (try dsimp only at hSw); go_simp; try with_reducible rfl
        simp only [Act.put, setIfInBounds_toArray, set_cons_zero, set_cons_succ]
        refine wpAnyH_take (i := 15) (oi := { dst := some 128, op := .load 3 (.tmp 127), type := 3, pos := "law.go:70", after := #[⟨14, .data⟩, ⟨11, .guard⟩], guard := some (11, false) }) (v := ?_) rfl (by kernel_rfl) (by kernel_rfl) (by kernel_rfl) (fun _ _ _ h => h) (Or.inl ⟨by rfl, ?_⟩) (by assumption) ?_
        rotate_left
        ·intro w hSw; (try dsimp only at hSw); go_simp; try with_reducible rfl
        simp only [Act.put, setIfInBounds_toArray, set_cons_zero, set_cons_succ]
        refine wpAnyH_ready (rs := [13]) (by kernel_rfl) (by simp) ?_
        refine AllReadyH.cons (o := { dst := some 126, op := .call { callee := .value (.func 15), args := #[.tmp 125], argTypes := #[23] }, type := 3, pos := "law.go:70", after := #[⟨12, .data⟩, ⟨11, .chain⟩, ⟨11, .guard⟩], guard := some (11, false) }) rfl (fun K hK => ?_) AllReadyH.nil
        go_simp
        refine (HTI.out _ (by first | exact hBM | exact hBM.drew | go_grown)).mono ?_
        rintro e wZ ⟨rfl, hwZ⟩
        obtain rfl := hwZ.symm
        clear hwZ
        clear hHeld
        refine hK.out _ _ (by (try dsimp only); go_keep) (fun hHeld => ?_)
        clear hK K
        try simp only [Act.put, setIfInBounds_toArray, set_cons_zero, set_cons_succ]
        refine wpAnyH_take (i := 16) (oi := { dst := some 129, op := .binOp .neq 3 (.tmp 126) (.tmp 128) 3, type := 4, pos := "law.go:70", after := #[⟨13, .data⟩, ⟨15, .data⟩, ⟨11, .guard⟩], guard := some (11, false) }) (v := ?_) rfl (by kernel_rfl) (by kernel_rfl) (by kernel_rfl) (fun _ _ _ h => h) (Or.inl ⟨by rfl, ?_⟩) (by assumption) ?_
        rotate_left
        ·intro w hSw; (try dsimp only at hSw); go_simp; try with_reducible rfl
        simp only [Act.put, setIfInBounds_toArray, set_cons_zero, set_cons_succ]
        refine wpAnyH_take (i := 17) (oi := { dst := some 130, op := .pick (.tmp 124) (.const (.bool true)) (.tmp 129), type := 4, pos := "law.go:70", after := #[⟨11, .data⟩, ⟨16, .data⟩], guard := none }) (v := ?_) rfl (by kernel_rfl) (by kernel_rfl) (by kernel_rfl) (fun _ _ _ h => h) (Or.inl ⟨by rfl, ?_⟩) (by assumption) ?_
        rotate_left
        ·intro w hSw; (try dsimp only at hSw); go_simp; try with_reducible rfl
        simp only [Act.put, setIfInBounds_toArray, set_cons_zero, set_cons_succ]
        refine wpAnyH_take (i := 18) (oi := { dst := some 131, op := .move (.tmp 130), type := 4, pos := "law.go:70", after := #[⟨17, .data⟩, ⟨13, .chain⟩], guard := none }) (v := ?_) rfl (by kernel_rfl) (by kernel_rfl) (by kernel_rfl) (fun _ _ _ h => h) (Or.inl ⟨by rfl, ?_⟩) (by assumption) ?_
        rotate_left
        ·intro w hSw; (try dsimp only at hSw); go_simp; try with_reducible rfl
        simp only [Act.put, setIfInBounds_toArray, set_cons_zero, set_cons_succ]
        refine wpAnyH_take (i := 19) (oi := { dst := some 132, op := .move (.tmp 15), type := 4, pos := "law.go:70", after := #[⟨18, .guard⟩], guard := some (18, false) }) (v := ?_) rfl (by kernel_rfl) (by kernel_rfl) (by kernel_rfl) (fun _ _ _ h => h) (Or.inl ⟨by rfl, ?_⟩) (by assumption) ?_
        rotate_left
        ·intro w hSw; (try dsimp only at hSw); go_simp; try with_reducible rfl
        simp only [Act.put, setIfInBounds_toArray, set_cons_zero, set_cons_succ]
        refine wpAnyH_take (i := 20) (oi := { dst := some 133, op := .fieldAddr 40 (.tmp 7) 2, type := 0, pos := "law.go:70", after := #[⟨18, .guard⟩], guard := some (18, false) }) (v := ?_) rfl (by kernel_rfl) (by kernel_rfl) (by kernel_rfl) (fun _ _ _ h => h) (Or.inl ⟨by rfl, ?_⟩) (by assumption) ?_
        rotate_left
        ·intro w hSw; (try dsimp only at hSw); go_simp; try with_reducible rfl
        simp only [Act.put, setIfInBounds_toArray, set_cons_zero, set_cons_succ]
        refine wpAnyH_take (i := 21) (oi := { dst := some 134, op := .load 31 (.tmp 133), type := 31, pos := "law.go:70", after := #[⟨20, .data⟩, ⟨18, .guard⟩], guard := some (18, false) }) (v := ?_) rfl (by kernel_rfl) (by kernel_rfl) (by kernel_rfl) (fun _ _ _ h => h) (Or.inl ⟨by rfl, ?_⟩) (by assumption) ?_
        rotate_left
        ·intro w hSw; (try dsimp only at hSw); go_simp; try with_reducible rfl
        simp only [Act.put, setIfInBounds_toArray, set_cons_zero, set_cons_succ]
        refine wpAnyH_take (i := 22) (oi := { dst := some 135, op := .call { callee := .builtin .len, args := #[.tmp 134], argTypes := #[31] }, type := 3, pos := "law.go:70", after := #[⟨21, .data⟩, ⟨18, .guard⟩], guard := some (18, false) }) (v := ?_) rfl (by kernel_rfl) (by kernel_rfl) (by kernel_rfl) (fun _ _ _ h => h) (Or.inl ⟨by rfl, ?_⟩) (by assumption) ?_
        rotate_left
        ·intro w hSw; (try dsimp only at hSw); go_simp; try with_reducible rfl
        simp only [Act.put, setIfInBounds_toArray, set_cons_zero, set_cons_succ]
        refine wpAnyH_take (i := 23) (oi := { dst := some 136, op := .binOp .gtr 3 (.tmp 135) (.const (.int .i64 0)) 3, type := 4, pos := "law.go:70", after := #[⟨22, .data⟩, ⟨18, .guard⟩], guard := some (18, false) }) (v := ?_) rfl (by kernel_rfl) (by kernel_rfl) (by kernel_rfl) (fun _ _ _ h => h) (Or.inl ⟨by rfl, ?_⟩) (by assumption) ?_
        rotate_left
        ·intro w hSw; (try dsimp only at hSw); go_simp; try with_reducible rfl
        simp only [Act.put, setIfInBounds_toArray, set_cons_zero, set_cons_succ]
        refine wpAnyH_take (i := 24) (oi := { dst := some 137, op := .binOp .neq 4 (.tmp 132) (.tmp 136) 4, type := 4, pos := "law.go:70", after := #[⟨19, .data⟩, ⟨23, .data⟩, ⟨18, .guard⟩], guard := some (18, false) }) (v := ?_) rfl (by kernel_rfl) (by kernel_rfl) (by kernel_rfl) (fun _ _ _ h => h) (Or.inl ⟨by rfl, ?_⟩) (by assumption) ?_
        rotate_left
        ·intro w hSw; (try dsimp only at hSw); go_simp; try with_reducible rfl
        simp only [Act.put, setIfInBounds_toArray, set_cons_zero, set_cons_succ]
        refine wpAnyH_take (i := 25) (oi := { dst := some 138, op := .pick (.tmp 131) (.const (.bool true)) (.tmp 137), type := 4, pos := "law.go:70", after := #[⟨18, .data⟩, ⟨24, .data⟩], guard := none }) (v := ?_) rfl (by kernel_rfl) (by kernel_rfl) (by kernel_rfl) (fun _ _ _ h => h) (Or.inl ⟨by rfl, ?_⟩) (by assumption) ?_
        rotate_left
        ·intro w hSw; (try dsimp only at hSw); go_simp; try with_reducible rfl
        simp only [Act.put, setIfInBounds_toArray, set_cons_zero, set_cons_succ]
        refine wpAnyH_take (i := 26) (oi := { dst := some 139, op := .move (.tmp 138), type := 4, pos := "law.go:70", after := #[⟨25, .data⟩, ⟨18, .chain⟩], guard := none }) (v := ?_) rfl (by kernel_rfl) (by kernel_rfl) (by kernel_rfl) (fun _ _ _ h => h) (Or.inl ⟨by rfl, ?_⟩) (by assumption) ?_
        rotate_left
        ·intro w hSw; (try dsimp only at hSw); go_simp; try with_reducible rfl
        simp only [Act.put, setIfInBounds_toArray, set_cons_zero, set_cons_succ]
        refine wpAnyH_take (i := 27) (oi := { dst := some 140, op := .move (.tmp 15), type := 4, pos := "law.go:70", after := #[⟨26, .guard⟩], guard := some (26, false) }) (v := ?_) rfl (by kernel_rfl) (by kernel_rfl) (by kernel_rfl) (fun _ _ _ h => h) (Or.inl ⟨by rfl, ?_⟩) (by assumption) ?_
        rotate_left
        ·intro w hSw; (try dsimp only at hSw); go_simp; try with_reducible rfl
        simp only [Act.put, setIfInBounds_toArray, set_cons_zero, set_cons_succ]
        refine wpAnyH_take (i := 28) (oi := { dst := some 141, op := .move (.tmp 140), type := 4, pos := "law.go:70", after := #[⟨27, .data⟩, ⟨26, .chain⟩, ⟨26, .guard⟩], guard := some (26, false) }) (v := ?_) rfl (by kernel_rfl) (by kernel_rfl) (by kernel_rfl) (fun _ _ _ h => h) (Or.inl ⟨by rfl, ?_⟩) (by assumption) ?_
        rotate_left
        ·intro w hSw; (try dsimp only at hSw); go_simp; try with_reducible rfl
        simp only [Act.put, setIfInBounds_toArray, set_cons_zero, set_cons_succ]
        refine wpAnyH_take (i := 29) (oi := { dst := some 142, op := .move (.tmp 14), type := 3, pos := "law.go:70", after := #[⟨28, .guard⟩], guard := some (28, true) }) (v := ?_) rfl (by kernel_rfl) (by kernel_rfl) (by kernel_rfl) (fun _ _ _ h => h) (Or.inl ⟨by rfl, ?_⟩) (by assumption) ?_
        rotate_left
        ·intro w hSw; (try dsimp only at hSw); go_simp; try with_reducible rfl
        simp only [Act.put, setIfInBounds_toArray, set_cons_zero, set_cons_succ]
        refine wpAnyH_take (i := 30) (oi := { dst := some 143, op := .fieldAddr 40 (.tmp 7) 2, type := 0, pos := "law.go:70", after := #[⟨28, .guard⟩], guard := some (28, true) }) (v := ?_) rfl (by kernel_rfl) (by kernel_rfl) (by kernel_rfl) (fun _ _ _ h => h) (Or.inl ⟨by rfl, ?_⟩) (by assumption) ?_
        rotate_left
        ·intro w hSw; (try dsimp only at hSw); go_simp; try with_reducible rfl
        simp only [Act.put, setIfInBounds_toArray, set_cons_zero, set_cons_succ]
        refine wpAnyH_take (i := 31) (oi := { dst := some 144, op := .load 31 (.tmp 143), type := 31, pos := "law.go:70", after := #[⟨30, .data⟩, ⟨28, .guard⟩], guard := some (28, true) }) (v := ?_) rfl (by kernel_rfl) (by kernel_rfl) (by kernel_rfl) (fun _ _ _ h => h) (Or.inl ⟨by rfl, ?_⟩) (by assumption) ?_
        rotate_left
        ·intro w hSw; (try dsimp only at hSw); go_simp; try with_reducible rfl
        simp only [Act.put, setIfInBounds_toArray, set_cons_zero, set_cons_succ]
        refine wpAnyH_take (i := 32) (oi := { dst := some 145, op := .indexAddr 31 (.tmp 144) (.const (.int .i64 0)), type := 0, pos := "law.go:70", after := #[⟨31, .data⟩, ⟨28, .guard⟩], guard := some (28, true) }) (v := ?_) rfl (by kernel_rfl) (by kernel_rfl) (by kernel_rfl) (fun _ _ _ h => h) (Or.inl ⟨by rfl, ?_⟩) (by assumption) ?_
        rotate_left
        ·intro w hSw; (try dsimp only at hSw); go_simp; try with_reducible rfl
        simp only [Act.put, setIfInBounds_toArray, set_cons_zero, set_cons_succ]
        refine wpAnyH_take (i := 33) (oi := { dst := some 146, op := .load 3 (.tmp 145), type := 3, pos := "law.go:70", after := #[⟨32, .data⟩, ⟨28, .guard⟩], guard := some (28, true) }) (v := ?_) rfl (by kernel_rfl) (by kernel_rfl) (by kernel_rfl) (fun _ _ _ h => h) (Or.inl ⟨by rfl, ?_⟩) (by assumption) ?_
        rotate_left
        ·intro w hSw; (try dsimp only at hSw); go_simp; try with_reducible rfl
        simp only [Act.put, setIfInBounds_toArray, set_cons_zero, set_cons_succ]
        refine wpAnyH_take (i := 34) (oi := { dst := some 147, op := .binOp .neq 3 (.tmp 142) (.tmp 146) 3, type := 4, pos := "law.go:70", after := #[⟨29, .data⟩, ⟨33, .data⟩, ⟨28, .guard⟩], guard := some (28, true) }) (v := ?_) rfl (by kernel_rfl) (by kernel_rfl) (by kernel_rfl) (fun _ _ _ h => h) (Or.inl ⟨by rfl, ?_⟩) (by assumption) ?_
        rotate_left
        ·intro w hSw; (try dsimp only at hSw); go_simp; try with_reducible rfl
        simp only [Act.put, setIfInBounds_toArray, set_cons_zero, set_cons_succ]
        refine wpAnyH_take (i := 35) (oi := { dst := some 148, op := .pick (.tmp 141) (.tmp 147) (.const (.bool false)), type := 4, pos := "law.go:70", after := #[⟨28, .data⟩, ⟨34, .data⟩, ⟨26, .guard⟩], guard := some (26, false) }) (v := ?_) rfl (by kernel_rfl) (by kernel_rfl) (by kernel_rfl) (fun _ _ _ h => h) (Or.inl ⟨by rfl, ?_⟩) (by assumption) ?_
        rotate_left
        ·intro w hSw; (try dsimp only at hSw); go_simp; try with_reducible rfl
        simp only [Act.put, setIfInBounds_toArray, set_cons_zero, set_cons_succ]
        refine wpAnyH_take (i := 36) (oi := { dst := some 149, op := .pick (.tmp 139) (.const (.bool true)) (.tmp 148), type := 4, pos := "law.go:70", after := #[⟨26, .data⟩, ⟨35, .data⟩], guard := none }) (v := ?_) rfl (by kernel_rfl) (by kernel_rfl) (by kernel_rfl) (fun _ _ _ h => h) (Or.inl ⟨by rfl, ?_⟩) (by assumption) ?_
        rotate_left
        ·intro w hSw; (try dsimp only at hSw); go_simp; try with_reducible rfl
        simp only [Act.put, setIfInBounds_toArray, set_cons_zero, set_cons_succ]
        refine wpAnyH_take (i := 37) (oi := { dst := some 150, op := .move (.tmp 149), type := 4, pos := "law.go:70", after := #[⟨36, .data⟩, ⟨28, .chain⟩], guard := none }) (v := ?_) rfl (by kernel_rfl) (by kernel_rfl) (by kernel_rfl) (fun _ _ _ h => h) (Or.inl ⟨by rfl, ?_⟩) (by assumption) ?_
        rotate_left
        ·intro w hSw; (try dsimp only at hSw); go_simp; try with_reducible rfl
        simp only [Act.put, setIfInBounds_toArray, set_cons_zero, set_cons_succ]
        refine wpAnyH_take (i := 38) (oi := { dst := some 151, op := .move (.tmp 15), type := 4, pos := "law.go:70", after := #[⟨37, .guard⟩], guard := some (37, false) }) (v := ?_) rfl (by kernel_rfl) (by kernel_rfl) (by kernel_rfl) (fun _ _ _ h => h) (Or.inl ⟨by rfl, ?_⟩) (by assumption) ?_
        rotate_left
        ·intro w hSw; (try dsimp only at hSw); go_simp; try with_reducible rfl
        simp only [Act.put, setIfInBounds_toArray, set_cons_zero, set_cons_succ]
        refine wpAnyH_take (i := 39) (oi := { dst := some 152, op := .unOp .not 4 (.tmp 151), type := 4, pos := "law.go:70", after := #[⟨38, .data⟩, ⟨37, .guard⟩], guard := some (37, false) }) (v := ?_) rfl (by kernel_rfl) (by kernel_rfl) (by kernel_rfl) (fun _ _ _ h => h) (Or.inl ⟨by rfl, ?_⟩) (by assumption) ?_
        rotate_left
        ·intro w hSw; (try dsimp only at hSw); go_simp; try with_reducible rfl
        simp only [Act.put, setIfInBounds_toArray, set_cons_zero, set_cons_succ]
        refine wpAnyH_take (i := 40) (oi := { dst := some 153, op := .move (.tmp 152), type := 4, pos := "law.go:70", after := #[⟨39, .data⟩, ⟨37, .chain⟩, ⟨37, .guard⟩], guard := some (37, false) }) (v := ?_) rfl (by kernel_rfl) (by kernel_rfl) (by kernel_rfl) (fun _ _ _ h => h) (Or.inl ⟨by rfl, ?_⟩) (by assumption) ?_
        rotate_left
        ·intro w hSw; (try dsimp only at hSw); go_simp; try with_reducible rfl
        simp only [Act.put, setIfInBounds_toArray, set_cons_zero, set_cons_succ]
        refine wpAnyH_take (i := 41) (oi := { dst := some 154, op := .move (.tmp 14), type := 3, pos := "law.go:70", after := #[⟨40, .guard⟩], guard := some (40, true) }) (v := undef) rfl (by kernel_rfl) (by kernel_rfl) (by kernel_rfl) (fun _ _ _ h => h) (Or.inr ⟨by rfl, rfl⟩) (by assumption) ?_
        simp only [Act.put, setIfInBounds_toArray, set_cons_zero, set_cons_succ]
        refine wpAnyH_take (i := 42) (oi := { dst := some 155, op := .binOp .neq 3 (.tmp 154) (.const (.int .i64 0)) 3, type := 4, pos := "law.go:70", after := #[⟨41, .data⟩, ⟨40, .guard⟩], guard := some (40, true) }) (v := undef) rfl (by kernel_rfl) (by kernel_rfl) (by kernel_rfl) (fun _ _ _ h => h) (Or.inr ⟨by rfl, rfl⟩) (by assumption) ?_
        simp only [Act.put, setIfInBounds_toArray, set_cons_zero, set_cons_succ]
        refine wpAnyH_take (i := 43) (oi := { dst := some 156, op := .pick (.tmp 153) (.tmp 155) (.const (.bool false)), type := 4, pos := "law.go:70", after := #[⟨40, .data⟩, ⟨42, .data⟩, ⟨37, .guard⟩], guard := some (37, false) }) (v := ?_) rfl (by kernel_rfl) (by kernel_rfl) (by kernel_rfl) (fun _ _ _ h => h) (Or.inl ⟨by rfl, ?_⟩) (by assumption) ?_
        rotate_left
        ·intro w hSw; (try dsimp only at hSw); go_simp; try with_reducible rfl
        simp only [Act.put, setIfInBounds_toArray, set_cons_zero, set_cons_succ]
        refine wpAnyH_take (i := 44) (oi := { dst := some 157, op := .pick (.tmp 150) (.const (.bool true)) (.tmp 156), type := 4, pos := "law.go:70", after := #[⟨37, .data⟩, ⟨43, .data⟩], guard := none }) (v := ?_) rfl (by kernel_rfl) (by kernel_rfl) (by kernel_rfl) (fun _ _ _ h => h) (Or.inl ⟨by rfl, ?_⟩) (by assumption) ?_
        rotate_left
        ·intro w hSw; (try dsimp only at hSw); go_simp; try with_reducible rfl
        simp only [Act.put, setIfInBounds_toArray, set_cons_zero, set_cons_succ]
        refine wpAnyH_done (by kernel_rfl) ?_ _
        all_goals
         have HBF : Hid (Below w.heap.size w wM) := Lib.hid (b_then HBt.out hBM)
         have HQF : Hid (QAt wM w.heap.size w.heap.size q tk3 v3 (hd :: tl)) := Lib.hid (HQ.out.below hBM)
         have HXF : Hid (XAt wM g w.heap.size q tk3 (some ⟨bx, 0, none⟩) c4 (hd :: tl)) := Lib.hid (HX.out.below hBM)
         clear hbL hrL hBL hbM hBM u1 u2 u3 m1 m2 m3 hsL hsM
         go_wp2_with fail
         go_roundw
         case rel => exact ⟨k + 1, tk3, v3, hd :: tl, some ⟨bx, 0, none⟩, c4, by go_num, by omega, by omega, HBF, HQF, HXF, HLN⟩
         case measure => simp [intOf]; omega
     ·have kk2 : (kind == 2) = false := by simp [k2]
      clear k2
      by_cases k3 : kind = 3
      ·as_aux_lemma =>
        subst k3
        have HC := Lib.hid (yield_any HQ1.out HL9.out)
        have HLA : Hid (0 ≤ (0 : Int) ∧ (0 : Int) < q ∧ (rotL l).Nodup ∧ (rotL l).length ≤ k + 1) := Lib.hid ⟨by omega, by have := q1.out; omega, (rotL_perm l).symm.nodup HF.out.2.2.1, by rw [rotL_len]; have := HF.out.2.2.2; omega⟩
        go_wp2_with fail
        rw [← HGE.out, ← HWE.out]
        refine HC.out.mono ?_
        rintro e w3 ⟨rfl, ht3, v3, hq3⟩
        have hX3 := HX1.out.touch HQ1.out ht3
        have hB3 := Below.touch HB1.out ht3 (Nat.le_refl _) (fun k e => by omega)
        have HRA := Lib.hid (rYield_any (qn := q) (tk := tk) hX3.row hB3.size HL9.out)
        have x0 : w3.cell? ⟨g, 0, none⟩ = some (.int .i64 q) := cell_heap hX3.cells 0
        have x1 : w3.cell? ⟨g, 1, none⟩ = some (.int .i64 tk) := cell_heap hX3.cells 1
        have x2 : w3.cell? ⟨g, 2, none⟩ = some (.slice A l.length c) := cell_heap hX3.cells 2
        have HX3 := Lib.hid hX3
        have HB3 := Lib.hid hB3
        have HQ3 := Lib.hid hq3
        have HLA2 := HLA
        generalize rotL l = l3 at HRA HLA2 HQ3
        clear ht3 hX3 hB3 hq3 HC HLA n1
        go_wp2_with fail
        refine HRA.out.mono ?_
        rintro e w4 ⟨v4, rfl, hb4, hr4⟩
        obtain ⟨A4, c4, rfl⟩ := row_form hr4
        have hgc4 := heap_below hb4 HX3.out.cells
        have hq4 := HQ3.out.below hb4
        have hB4 := b_then HB3.out hb4
        obtain ⟨wx, hwx⟩ : ∃ W, W = ((w4.setCell ⟨g, 0, none⟩ (.int .i64 q)).setCell ⟨g, 1, none⟩ (.int .i64 0)).setCell ⟨g, 2, none⟩ (.slice A4 l3.length c4) := ⟨_, rfl⟩
        have hX : XAt wx g w.heap.size q 0 A4 c4 l3 := by rw [hwx]; exact XAt.put hgc4 hr4
        have hQ : QAt wx w.heap.size w.heap.size q 0 v3 l3 := by rw [hwx]; exact hq4.put hgc4 _ _ _
        have hBt : Below w.heap.size w wx := by rw [hwx]; exact put_below hB4 hgw _ _ _
        have y0 : w4.cell? ⟨g, 0, none⟩ = some (.int .i64 q) := cell_heap hgc4 0
        have y1 : w4.cell? ⟨g, 1, none⟩ = some (.int .i64 tk) := cell_heap hgc4 1
        have y2 : w4.cell? ⟨g, 2, none⟩ = some (.slice A l.length c) := cell_heap hgc4 2
        have z0 : w4.frozen? ⟨g, 0, none⟩ = false := frozen_heap hgc4 0
        have z1 : w4.frozen? ⟨g, 1, none⟩ = false := frozen_heap hgc4 1
        have z2 : w4.frozen? ⟨g, 2, none⟩ = false := frozen_heap hgc4 2
        have hLN := HLA2.out
        have HQ := Lib.hid hQ
        have HX := Lib.hid hX
        have HBt := Lib.hid hBt
        have HLN := Lib.hid hLN
        have HWX := Lib.hid hwx
        clear hQ hX hBt hLN hwx hgc4 hq4 hB4 hr4 hb4
        go_wp2_with fail
        rw [← HWX.out]
        clear HWX y0 y1 y2 z0 z1 z2
        cases l3 with
        | nil =>
         have HN := Lib.hid (now_nil HQ.out)
         refine HN.out.mono ?_
         rintro e wN ⟨rfl, hw⟩
         obtain rfl := hw.symm
         clear hw HN
         have kx1 : wx.cell? ⟨g, 1, none⟩ = some (.int .i64 0) := cell_heap HX.out.cells 1
         have kx2 : wx.cell? ⟨g, 2, none⟩ = some (.slice A4 0 c4) := cell_heap HX.out.cells 2
         have hgx := heap_lt HX.out.cells
         have HS : Hid (∀ W : World, Below wx.heap.size wx W → W.cell? ⟨g, 1, none⟩ = some (.int .i64 0) ∧ W.cell? ⟨g, 2, none⟩ = some (.slice A4 0 c4)) := Lib.hid (fun W hW => ⟨(hW.cell (p := ⟨g, 1, none⟩) hgx).trans kx1, (hW.cell (p := ⟨g, 2, none⟩) hgx).trans kx2⟩)
         have HLI : Hid (∀ W, Below wx.heap.size wx W → Calls Try.prog 12 #[.pointer (some ⟨w.heap.size, 0, none⟩)] W fun e w' => ∃ A c, e = .returned (.slice A 0 c) ∧ Below W.heap.size W w' ∧ IRd w' A []) := Lib.hid (fun W hW => line_form (HQ.out.below hW) (by simp))
         have HTI : Hid (∀ W, Below wx.heap.size wx W → Calls Try.prog 15 #[.pointer (some ⟨w.heap.size, 0, none⟩)] W fun e w' => e = .returned (.int .i64 0) ∧ w' = W) := Lib.hid (fun W hW => ticks_any (HQ.out.below hW))
         have HXR : Hid (∀ W, Below wx.heap.size wx W → IRd W A4 []) := Lib.hid (fun W hW => (IRow.rd HX.out.row).below hW)
         have HSA : Hid (∀ W AA cc, IRd W AA [] → IRd W A4 [] → Calls Try.prog 17 #[.slice AA 0 cc, .slice A4 0 c4] W fun e w' => e = .returned (.bool true) ∧ Below W.heap.size W w') := Lib.hid (fun W AA cc h1 h2 => same_eq h1 h2 (by simp) cc c4)
         go_wp2_with fail
         refine wp_region_held_drew (S := fun W : World => W.cell? ⟨g, 1, none⟩ = some (.int .i64 0) ∧ W.cell? ⟨g, 2, none⟩ = some (.slice A4 0 c4)) (by kernel_rfl) (by first | exact (HS.out _ ((Below.refl _ _).drew)) | (go_keep; done)) (fun hHeld => ?_)
         refine wpAnyH_take (i := 0) (oi := { dst := some 113, op := .move (.tmp 10), type := 24, pos := "law.go:70", after := #[], guard := none }) (v := ?_) rfl (by kernel_rfl) (by kernel_rfl) (by kernel_rfl) (fun _ _ _ h => h) (Or.inl ⟨by rfl, ?_⟩) (by assumption) ?_
         rotate_left
         ·intro w hSw; (try dsimp only at hSw); go_simp; try with_reducible rfl
         simp only [Act.put, setIfInBounds_toArray, set_cons_zero, set_cons_succ]
         refine wpAnyH_take (i := 1) (oi := { dst := some 114, op := .move (.tmp 11), type := 3, pos := "law.go:70", after := #[], guard := none }) (v := ?_) rfl (by kernel_rfl) (by kernel_rfl) (by kernel_rfl) (fun _ _ _ h => h) (Or.inl ⟨by rfl, ?_⟩) (by assumption) ?_
         rotate_left
         ·intro w hSw; (try dsimp only at hSw); go_simp; try with_reducible rfl
         simp only [Act.put, setIfInBounds_toArray, set_cons_zero, set_cons_succ]
         refine wpAnyH_take (i := 2) (oi := { dst := some 115, op := .binOp .neq 3 (.tmp 113) (.tmp 114) 3, type := 4, pos := "law.go:70", after := #[⟨0, .data⟩, ⟨1, .data⟩], guard := none }) (v := ?_) rfl (by kernel_rfl) (by kernel_rfl) (by kernel_rfl) (fun _ _ _ h => h) (Or.inl ⟨by rfl, ?_⟩) (by assumption) ?_
         rotate_left
         ·intro w hSw; (try dsimp only at hSw); go_simp; try with_reducible rfl
         simp only [Act.put, setIfInBounds_toArray, set_cons_zero, set_cons_succ]
         refine wpAnyH_take (i := 3) (oi := { dst := some 116, op := .move (.tmp 115), type := 4, pos := "law.go:70", after := #[⟨2, .data⟩], guard := none }) (v := ?_) rfl (by kernel_rfl) (by kernel_rfl) (by kernel_rfl) (fun _ _ _ h => h) (Or.inl ⟨by rfl, ?_⟩) (by assumption) ?_
         rotate_left
         ·intro w hSw; (try dsimp only at hSw); go_simp; try with_reducible rfl
         simp only [Act.put, setIfInBounds_toArray, set_cons_zero, set_cons_succ]
         refine wpAnyH_take (i := 4) (oi := { dst := some 117, op := .move (.tmp 5), type := 23, pos := "law.go:70", after := #[⟨3, .guard⟩], guard := some (3, false) }) (v := ?_) rfl (by kernel_rfl) (by kernel_rfl) (by kernel_rfl) (fun _ _ _ h => h) (Or.inl ⟨by rfl, ?_⟩) (by assumption) ?_
         rotate_left
         ·intro w hSw; (try dsimp only at hSw); go_simp; try with_reducible rfl
         simp only [Act.put, setIfInBounds_toArray, set_cons_zero, set_cons_succ]
         refine wpAnyH_take (i := 6) (oi := { dst := some 119, op := .fieldAddr 40 (.tmp 7) 2, type := 0, pos := "law.go:70", after := #[⟨3, .guard⟩], guard := some (3, false) }) (v := ?_) rfl (by kernel_rfl) (by kernel_rfl) (by kernel_rfl) (fun _ _ _ h => h) (Or.inl ⟨by rfl, ?_⟩) (by assumption) ?_
         rotate_left
         ·intro w hSw; (try dsimp only at hSw); go_simp; try with_reducible rfl
         simp only [Act.put, setIfInBounds_toArray, set_cons_zero, set_cons_succ]
         refine wpAnyH_take (i := 7) (oi := { dst := some 120, op := .load 31 (.tmp 119), type := 31, pos := "law.go:70", after := #[⟨6, .data⟩, ⟨3, .guard⟩], guard := some (3, false) }) (v := ?_) rfl (by kernel_rfl) (by kernel_rfl) (by kernel_rfl) (fun _ _ _ h => h) (Or.inl ⟨by rfl, ?_⟩) (by assumption) ?_
         rotate_left
         ·intro w hSw; (try dsimp only at hSw); go_simp; try with_reducible rfl
         simp only [Act.put, setIfInBounds_toArray, set_cons_zero, set_cons_succ]
         refine wpAnyH_ready (rs := [5]) (by kernel_rfl) (by simp) ?_
         refine AllReadyH.cons (o := { dst := some 118, op := .call { callee := .value (.func 12), args := #[.tmp 117], argTypes := #[23] }, type := 31, pos := "law.go:70", after := #[⟨4, .data⟩, ⟨3, .chain⟩, ⟨3, .guard⟩], guard := some (3, false) }) rfl (fun K hK => ?_) AllReadyH.nil
         go_simp
         refine (HLI.out _ (by go_grown)).mono ?_
         rintro e wL ⟨AL, cL, rfl, hbL, hrL⟩
         have hBL : Below wx.heap.size wx wL := (b_then (by go_grown) hbL)
         obtain ⟨u1, u2⟩ := HS.out wL hBL
         have hsL := hBL.size
         clear hHeld
         refine hK.out _ _ (by (try dsimp only); go_keep) (fun hHeld => ?_)
         clear hK K
         try simp only [Act.put, setIfInBounds_toArray, set_cons_zero, set_cons_succ]
         refine wpAnyH_ready (rs := [8]) (by kernel_rfl) (by simp) ?_
         refine AllReadyH.cons (o := { dst := some 121, op := .call { callee := .value (.func 17), args := #[.tmp 118, .tmp 120], argTypes := #[31, 31] }, type := 4, pos := "law.go:70", after := #[⟨5, .data⟩, ⟨7, .data⟩, ⟨5, .chain⟩, ⟨3, .guard⟩], guard := some (3, false) }) rfl (fun K hK => ?_) AllReadyH.nil
         go_simp
         refine (HSA.out _ _ _ (by first | exact hrL | exact hrL.below ((Below.refl _ _).drew)) (HXR.out _ (by first | exact hBL | exact hBL.drew))).mono ?_
         rintro e wM ⟨rfl, hbM⟩
         have hBM : Below wx.heap.size wx wM := (b_then (by first | exact hBL | exact hBL.drew) hbM)
         obtain ⟨m1, m2⟩ := HS.out wM hBM
         have hsM := hBM.size
         clear hHeld
         refine hK.out _ _ (by (try dsimp only); go_keep) (fun hHeld => ?_)
         clear hK K
         try simp only [Act.put, setIfInBounds_toArray, set_cons_zero, set_cons_succ]
         refine wpAnyH_take (i := 9) (oi := { dst := some 122, op := .unOp .not 4 (.tmp 121), type := 4, pos := "law.go:70", after := #[⟨8, .data⟩, ⟨3, .guard⟩], guard := some (3, false) }) (v := ?_) rfl (by kernel_rfl) (by kernel_rfl) (by kernel_rfl) (fun _ _ _ h => h) (Or.inl ⟨by rfl, ?_⟩) (by assumption) ?_
         rotate_left
         ·intro w hSw; (try dsimp only at hSw); go_simp; try with_reducible rfl
         simp only [Act.put, setIfInBounds_toArray, set_cons_zero, set_cons_succ]
         refine wpAnyH_take (i := 10) (oi := { dst := some 123, op := .pick (.tmp 116) (.const (.bool true)) (.tmp 122), type := 4, pos := "law.go:70", after := #[⟨3, .data⟩, ⟨9, .data⟩], guard := none }) (v := ?_) rfl (by kernel_rfl) (by kernel_rfl) (by kernel_rfl) (fun _ _ _ h => h) (Or.inl ⟨by rfl, ?_⟩) (by assumption) ?_
         rotate_left
         ·intro w hSw; (try dsimp only at hSw); go_simp; try with_reducible rfl
         simp only [Act.put, setIfInBounds_toArray, set_cons_zero, set_cons_succ]
         refine wpAnyH_take (i := 11) (oi := { dst := some 124, op := .move (.tmp 123), type := 4, pos := "law.go:70", after := #[⟨10, .data⟩, ⟨8, .chain⟩], guard := none }) (v := ?_) rfl (by kernel_rfl) (by kernel_rfl) (by kernel_rfl) (fun _ _ _ h => h) (Or.inl ⟨by rfl, ?_⟩) (by assumption) ?_
         rotate_left
         ·intro w hSw; (try dsimp only at hSw); go_simp; try with_reducible rfl
         simp only [Act.put, setIfInBounds_toArray, set_cons_zero, set_cons_succ]
         refine wpAnyH_take (i := 12) (oi := { dst := some 125, op := .move (.tmp 5), type := 23, pos := "law.go:70", after := #[⟨11, .guard⟩], guard := some (11, false) }) (v := ?_) rfl (by kernel_rfl) (by kernel_rfl) (by kernel_rfl) (fun _ _ _ h => h) (Or.inl ⟨by rfl, ?_⟩) (by assumption) ?_
         rotate_left
         ·intro w hSw; (try dsimp only at hSw); go_simp; try with_reducible rfl
         simp only [Act.put, setIfInBounds_toArray, set_cons_zero, set_cons_succ]
         refine wpAnyH_take (i := 14) (oi := { dst := some 127, op := .fieldAddr 40 (.tmp 7) 1, type := 0, pos := "law.go:70", after := #[⟨11, .guard⟩], guard := some (11, false) }) (v := ?_) rfl (by kernel_rfl) (by kernel_rfl) (by kernel_rfl) (fun _ _ _ h => h) (Or.inl ⟨by rfl, ?_⟩) (by assumption) ?_
         rotate_left
         ·intro w hSw; (try dsimp only at hSw); go_simp; try with_reducible rfl
         simp only [Act.put, setIfInBounds_toArray, set_cons_zero, set_cons_succ]
         refine wpAnyH_take (i := 15) (oi := { dst := some 128, op := .load 3 (.tmp 127), type := 3, pos := "law.go:70", after := #[⟨14, .data⟩, ⟨11, .guard⟩], guard := some (11, false) }) (v := ?_) rfl (by kernel_rfl) (by kernel_rfl) (by kernel_rfl) (fun _ _ _ h => h) (Or.inl ⟨by rfl, ?_⟩) (by assumption) ?_
         rotate_left
         ·intro w hSw; (try dsimp only at hSw); go_simp; try with_reducible rfl
         simp only [Act.put, setIfInBounds_toArray, set_cons_zero, set_cons_succ]
         refine wpAnyH_ready (rs := [13]) (by kernel_rfl) (by simp) ?_
         refine AllReadyH.cons (o := { dst := some 126, op := .call { callee := .value (.func 15), args := #[.tmp 125], argTypes := #[23] }, type := 3, pos := "law.go:70", after := #[⟨12, .data⟩, ⟨11, .chain⟩, ⟨11, .guard⟩], guard := some (11, false) }) rfl (fun K hK => ?_) AllReadyH.nil
         go_simp
         refine (HTI.out _ (by first | exact hBM | exact hBM.drew | go_grown)).mono ?_
         rintro e wZ ⟨rfl, hwZ⟩
         obtain rfl := hwZ.symm
         clear hwZ
         clear hHeld
         refine hK.out _ _ (by (try dsimp only); go_keep) (fun hHeld => ?_)
         clear hK K
         try simp only [Act.put, setIfInBounds_toArray, set_cons_zero, set_cons_succ]
         refine wpAnyH_take (i := 16) (oi := { dst := some 129, op := .binOp .neq 3 (.tmp 126) (.tmp 128) 3, type := 4, pos := "law.go:70", after := #[⟨13, .data⟩, ⟨15, .data⟩, ⟨11, .guard⟩], guard := some (11, false) }) (v := ?_) rfl (by kernel_rfl) (by kernel_rfl) (by kernel_rfl) (fun _ _ _ h => h) (Or.inl ⟨by rfl, ?_⟩) (by assumption) ?_
         rotate_left
         ·intro w hSw; (try dsimp only at hSw); go_simp; try with_reducible rfl
         simp only [Act.put, setIfInBounds_toArray, set_cons_zero, set_cons_succ]
         refine wpAnyH_take (i := 17) (oi := { dst := some 130, op := .pick (.tmp 124) (.const (.bool true)) (.tmp 129), type := 4, pos := "law.go:70", after := #[⟨11, .data⟩, ⟨16, .data⟩], guard := none }) (v := ?_) rfl (by kernel_rfl) (by kernel_rfl) (by kernel_rfl) (fun _ _ _ h => h) (Or.inl ⟨by rfl, ?_⟩) (by assumption) ?_
         rotate_left
         ·intro w hSw; (try dsimp only at hSw); go_simp; try with_reducible rfl
         simp only [Act.put, setIfInBounds_toArray, set_cons_zero, set_cons_succ]
         refine wpAnyH_take (i := 18) (oi := { dst := some 131, op := .move (.tmp 130), type := 4, pos := "law.go:70", after := #[⟨17, .data⟩, ⟨13, .chain⟩], guard := none }) (v := ?_) rfl (by kernel_rfl) (by kernel_rfl) (by kernel_rfl) (fun _ _ _ h => h) (Or.inl ⟨by rfl, ?_⟩) (by assumption) ?_
         rotate_left
         ·intro w hSw; (try dsimp only at hSw); go_simp; try with_reducible rfl
         simp only [Act.put, setIfInBounds_toArray, set_cons_zero, set_cons_succ]
         refine wpAnyH_take (i := 19) (oi := { dst := some 132, op := .move (.tmp 15), type := 4, pos := "law.go:70", after := #[⟨18, .guard⟩], guard := some (18, false) }) (v := ?_) rfl (by kernel_rfl) (by kernel_rfl) (by kernel_rfl) (fun _ _ _ h => h) (Or.inl ⟨by rfl, ?_⟩) (by assumption) ?_
         rotate_left
         ·intro w hSw; (try dsimp only at hSw); go_simp; try with_reducible rfl
         simp only [Act.put, setIfInBounds_toArray, set_cons_zero, set_cons_succ]
         refine wpAnyH_take (i := 20) (oi := { dst := some 133, op := .fieldAddr 40 (.tmp 7) 2, type := 0, pos := "law.go:70", after := #[⟨18, .guard⟩], guard := some (18, false) }) (v := ?_) rfl (by kernel_rfl) (by kernel_rfl) (by kernel_rfl) (fun _ _ _ h => h) (Or.inl ⟨by rfl, ?_⟩) (by assumption) ?_
         rotate_left
         ·intro w hSw; (try dsimp only at hSw); go_simp; try with_reducible rfl
         simp only [Act.put, setIfInBounds_toArray, set_cons_zero, set_cons_succ]
         refine wpAnyH_take (i := 21) (oi := { dst := some 134, op := .load 31 (.tmp 133), type := 31, pos := "law.go:70", after := #[⟨20, .data⟩, ⟨18, .guard⟩], guard := some (18, false) }) (v := ?_) rfl (by kernel_rfl) (by kernel_rfl) (by kernel_rfl) (fun _ _ _ h => h) (Or.inl ⟨by rfl, ?_⟩) (by assumption) ?_
         rotate_left
         ·intro w hSw; (try dsimp only at hSw); go_simp; try with_reducible rfl
         simp only [Act.put, setIfInBounds_toArray, set_cons_zero, set_cons_succ]
         refine wpAnyH_take (i := 22) (oi := { dst := some 135, op := .call { callee := .builtin .len, args := #[.tmp 134], argTypes := #[31] }, type := 3, pos := "law.go:70", after := #[⟨21, .data⟩, ⟨18, .guard⟩], guard := some (18, false) }) (v := ?_) rfl (by kernel_rfl) (by kernel_rfl) (by kernel_rfl) (fun _ _ _ h => h) (Or.inl ⟨by rfl, ?_⟩) (by assumption) ?_
         rotate_left
         ·intro w hSw; (try dsimp only at hSw); go_simp; try with_reducible rfl
         simp only [Act.put, setIfInBounds_toArray, set_cons_zero, set_cons_succ]
         refine wpAnyH_take (i := 23) (oi := { dst := some 136, op := .binOp .gtr 3 (.tmp 135) (.const (.int .i64 0)) 3, type := 4, pos := "law.go:70", after := #[⟨22, .data⟩, ⟨18, .guard⟩], guard := some (18, false) }) (v := ?_) rfl (by kernel_rfl) (by kernel_rfl) (by kernel_rfl) (fun _ _ _ h => h) (Or.inl ⟨by rfl, ?_⟩) (by assumption) ?_
         rotate_left
         ·intro w hSw; (try dsimp only at hSw); go_simp; try with_reducible rfl
         simp only [Act.put, setIfInBounds_toArray, set_cons_zero, set_cons_succ]
         refine wpAnyH_take (i := 24) (oi := { dst := some 137, op := .binOp .neq 4 (.tmp 132) (.tmp 136) 4, type := 4, pos := "law.go:70", after := #[⟨19, .data⟩, ⟨23, .data⟩, ⟨18, .guard⟩], guard := some (18, false) }) (v := ?_) rfl (by kernel_rfl) (by kernel_rfl) (by kernel_rfl) (fun _ _ _ h => h) (Or.inl ⟨by rfl, ?_⟩) (by assumption) ?_
         rotate_left
         ·intro w hSw; (try dsimp only at hSw); go_simp; try with_reducible rfl
         simp only [Act.put, setIfInBounds_toArray, set_cons_zero, set_cons_succ]
         refine wpAnyH_take (i := 25) (oi := { dst := some 138, op := .pick (.tmp 131) (.const (.bool true)) (.tmp 137), type := 4, pos := "law.go:70", after := #[⟨18, .data⟩, ⟨24, .data⟩], guard := none }) (v := ?_) rfl (by kernel_rfl) (by kernel_rfl) (by kernel_rfl) (fun _ _ _ h => h) (Or.inl ⟨by rfl, ?_⟩) (by assumption) ?_
         rotate_left
         ·intro w hSw; (try dsimp only at hSw); go_simp; try with_reducible rfl
         simp only [Act.put, setIfInBounds_toArray, set_cons_zero, set_cons_succ]
         refine wpAnyH_take (i := 26) (oi := { dst := some 139, op := .move (.tmp 138), type := 4, pos := "law.go:70", after := #[⟨25, .data⟩, ⟨18, .chain⟩], guard := none }) (v := ?_) rfl (by kernel_rfl) (by kernel_rfl) (by kernel_rfl) (fun _ _ _ h => h) (Or.inl ⟨by rfl, ?_⟩) (by assumption) ?_
         rotate_left
         ·intro w hSw; (try dsimp only at hSw); go_simp; try with_reducible rfl
         simp only [Act.put, setIfInBounds_toArray, set_cons_zero, set_cons_succ]
         refine wpAnyH_take (i := 27) (oi := { dst := some 140, op := .move (.tmp 15), type := 4, pos := "law.go:70", after := #[⟨26, .guard⟩], guard := some (26, false) }) (v := ?_) rfl (by kernel_rfl) (by kernel_rfl) (by kernel_rfl) (fun _ _ _ h => h) (Or.inl ⟨by rfl, ?_⟩) (by assumption) ?_
         rotate_left
         ·intro w hSw; (try dsimp only at hSw); go_simp; try with_reducible rfl
         simp only [Act.put, setIfInBounds_toArray, set_cons_zero, set_cons_succ]
         refine wpAnyH_take (i := 28) (oi := { dst := some 141, op := .move (.tmp 140), type := 4, pos := "law.go:70", after := #[⟨27, .data⟩, ⟨26, .chain⟩, ⟨26, .guard⟩], guard := some (26, false) }) (v := ?_) rfl (by kernel_rfl) (by kernel_rfl) (by kernel_rfl) (fun _ _ _ h => h) (Or.inl ⟨by rfl, ?_⟩) (by assumption) ?_
         rotate_left
         ·intro w hSw; (try dsimp only at hSw); go_simp; try with_reducible rfl
         simp only [Act.put, setIfInBounds_toArray, set_cons_zero, set_cons_succ]
         refine wpAnyH_take (i := 29) (oi := { dst := some 142, op := .move (.tmp 14), type := 3, pos := "law.go:70", after := #[⟨28, .guard⟩], guard := some (28, true) }) (v := undef) rfl (by kernel_rfl) (by kernel_rfl) (by kernel_rfl) (fun _ _ _ h => h) (Or.inr ⟨by rfl, rfl⟩) (by assumption) ?_
         simp only [Act.put, setIfInBounds_toArray, set_cons_zero, set_cons_succ]
         refine wpAnyH_take (i := 30) (oi := { dst := some 143, op := .fieldAddr 40 (.tmp 7) 2, type := 0, pos := "law.go:70", after := #[⟨28, .guard⟩], guard := some (28, true) }) (v := undef) rfl (by kernel_rfl) (by kernel_rfl) (by kernel_rfl) (fun _ _ _ h => h) (Or.inr ⟨by rfl, rfl⟩) (by assumption) ?_
         simp only [Act.put, setIfInBounds_toArray, set_cons_zero, set_cons_succ]
         refine wpAnyH_take (i := 31) (oi := { dst := some 144, op := .load 31 (.tmp 143), type := 31, pos := "law.go:70", after := #[⟨30, .data⟩, ⟨28, .guard⟩], guard := some (28, true) }) (v := undef) rfl (by kernel_rfl) (by kernel_rfl) (by kernel_rfl) (fun _ _ _ h => h) (Or.inr ⟨by rfl, rfl⟩) (by assumption) ?_
         simp only [Act.put, setIfInBounds_toArray, set_cons_zero, set_cons_succ]
         refine wpAnyH_take (i := 32) (oi := { dst := some 145, op := .indexAddr 31 (.tmp 144) (.const (.int .i64 0)), type := 0, pos := "law.go:70", after := #[⟨31, .data⟩, ⟨28, .guard⟩], guard := some (28, true) }) (v := undef) rfl (by kernel_rfl) (by kernel_rfl) (by kernel_rfl) (fun _ _ _ h => h) (Or.inr ⟨by rfl, rfl⟩) (by assumption) ?_
         simp only [Act.put, setIfInBounds_toArray, set_cons_zero, set_cons_succ]
         refine wpAnyH_take (i := 33) (oi := { dst := some 146, op := .load 3 (.tmp 145), type := 3, pos := "law.go:70", after := #[⟨32, .data⟩, ⟨28, .guard⟩], guard := some (28, true) }) (v := undef) rfl (by kernel_rfl) (by kernel_rfl) (by kernel_rfl) (fun _ _ _ h => h) (Or.inr ⟨by rfl, rfl⟩) (by assumption) ?_
         simp only [Act.put, setIfInBounds_toArray, set_cons_zero, set_cons_succ]
         refine wpAnyH_take (i := 34) (oi := { dst := some 147, op := .binOp .neq 3 (.tmp 142) (.tmp 146) 3, type := 4, pos := "law.go:70", after := #[⟨29, .data⟩, ⟨33, .data⟩, ⟨28, .guard⟩], guard := some (28, true) }) (v := undef) rfl (by kernel_rfl) (by kernel_rfl) (by kernel_rfl) (fun _ _ _ h => h) (Or.inr ⟨by rfl, rfl⟩) (by assumption) ?_
         simp only [Act.put, setIfInBounds_toArray, set_cons_zero, set_cons_succ]
         refine wpAnyH_take (i := 35) (oi := { dst := some 148, op := .pick (.tmp 141) (.tmp 147) (.const (.bool false)), type := 4, pos := "law.go:70", after := #[⟨28, .data⟩, ⟨34, .data⟩, ⟨26, .guard⟩], guard := some (26, false) }) (v := ?_) rfl (by kernel_rfl) (by kernel_rfl) (by kernel_rfl) (fun _ _ _ h => h) (Or.inl ⟨by rfl, ?_⟩) (by assumption) ?_
         rotate_left
         ·intro w hSw; (try dsimp only at hSw); go_simp; try with_reducible rfl
         simp only [Act.put, setIfInBounds_toArray, set_cons_zero, set_cons_succ]
         refine wpAnyH_take (i := 36) (oi := { dst := some 149, op := .pick (.tmp 139) (.const (.bool true)) (.tmp 148), type := 4, pos := "law.go:70", after := #[⟨26, .data⟩, ⟨35, .data⟩], guard := none }) (v := ?_) rfl (by kernel_rfl) (by kernel_rfl) (by kernel_rfl) (fun _ _ _ h => h) (Or.inl ⟨by rfl, ?_⟩) (by assumption) ?_
         rotate_left
         ·intro w hSw; (try dsimp only at hSw); go_simp; try with_reducible rfl
         simp only [Act.put, setIfInBounds_toArray, set_cons_zero, set_cons_succ]
         refine wpAnyH_take (i := 37) (oi := { dst := some 150, op := .move (.tmp 149), type := 4, pos := "law.go:70", after := #[⟨36, .data⟩, ⟨28, .chain⟩], guard := none }) (v := ?_) rfl (by kernel_rfl) (by kernel_rfl) (by kernel_rfl) (fun _ _ _ h => h) (Or.inl ⟨by rfl, ?_⟩) (by assumption) ?_
         rotate_left
         ·intro w hSw; (try dsimp only at hSw); go_simp; try with_reducible rfl
         simp only [Act.put, setIfInBounds_toArray, set_cons_zero, set_cons_succ]
         refine wpAnyH_take (i := 38) (oi := { dst := some 151, op := .move (.tmp 15), type := 4, pos := "law.go:70", after := #[⟨37, .guard⟩], guard := some (37, false) }) (v := ?_) rfl (by kernel_rfl) (by kernel_rfl) (by kernel_rfl) (fun _ _ _ h => h) (Or.inl ⟨by rfl, ?_⟩) (by assumption) ?_
         rotate_left
         ·intro w hSw; (try dsimp only at hSw); go_simp; try with_reducible rfl
         simp only [Act.put, setIfInBounds_toArray, set_cons_zero, set_cons_succ]
         refine wpAnyH_take (i := 39) (oi := { dst := some 152, op := .unOp .not 4 (.tmp 151), type := 4, pos := "law.go:70", after := #[⟨38, .data⟩, ⟨37, .guard⟩], guard := some (37, false) }) (v := ?_) rfl (by kernel_rfl) (by kernel_rfl) (by kernel_rfl) (fun _ _ _ h => h) (Or.inl ⟨by rfl, ?_⟩) (by assumption) ?_
         rotate_left
         ·intro w hSw; (try dsimp only at hSw); go_simp; try with_reducible rfl
         simp only [Act.put, setIfInBounds_toArray, set_cons_zero, set_cons_succ]
         refine wpAnyH_take (i := 40) (oi := { dst := some 153, op := .move (.tmp 152), type := 4, pos := "law.go:70", after := #[⟨39, .data⟩, ⟨37, .chain⟩, ⟨37, .guard⟩], guard := some (37, false) }) (v := ?_) rfl (by kernel_rfl) (by kernel_rfl) (by kernel_rfl) (fun _ _ _ h => h) (Or.inl ⟨by rfl, ?_⟩) (by assumption) ?_
         rotate_left
         ·intro w hSw; (try dsimp only at hSw); go_simp; try with_reducible rfl
         simp only [Act.put, setIfInBounds_toArray, set_cons_zero, set_cons_succ]
         refine wpAnyH_take (i := 41) (oi := { dst := some 154, op := .move (.tmp 14), type := 3, pos := "law.go:70", after := #[⟨40, .guard⟩], guard := some (40, true) }) (v := ?_) rfl (by kernel_rfl) (by kernel_rfl) (by kernel_rfl) (fun _ _ _ h => h) (Or.inl ⟨by rfl, ?_⟩) (by assumption) ?_
         rotate_left
         ·intro w hSw; (try dsimp only at hSw); go_simp; try with_reducible rfl
         simp only [Act.put, setIfInBounds_toArray, set_cons_zero, set_cons_succ]
         refine wpAnyH_take (i := 42) (oi := { dst := some 155, op := .binOp .neq 3 (.tmp 154) (.const (.int .i64 0)) 3, type := 4, pos := "law.go:70", after := #[⟨41, .data⟩, ⟨40, .guard⟩], guard := some (40, true) }) (v := ?_) rfl (by kernel_rfl) (by kernel_rfl) (by kernel_rfl) (fun _ _ _ h => h) (Or.inl ⟨by rfl, ?_⟩) (by assumption) ?_
         rotate_left
         ·intro w hSw; (try dsimp only at hSw); go_simp; try with_reducible rfl
         simp only [Act.put, setIfInBounds_toArray, set_cons_zero, set_cons_succ]
         refine wpAnyH_take (i := 43) (oi := { dst := some 156, op := .pick (.tmp 153) (.tmp 155) (.const (.bool false)), type := 4, pos := "law.go:70", after := #[⟨40, .data⟩, ⟨42, .data⟩, ⟨37, .guard⟩], guard := some (37, false) }) (v := ?_) rfl (by kernel_rfl) (by kernel_rfl) (by kernel_rfl) (fun _ _ _ h => h) (Or.inl ⟨by rfl, ?_⟩) (by assumption) ?_
         rotate_left
         ·intro w hSw; (try dsimp only at hSw); go_simp; try with_reducible rfl
         simp only [Act.put, setIfInBounds_toArray, set_cons_zero, set_cons_succ]
         refine wpAnyH_take (i := 44) (oi := { dst := some 157, op := .pick (.tmp 150) (.const (.bool true)) (.tmp 156), type := 4, pos := "law.go:70", after := #[⟨37, .data⟩, ⟨43, .data⟩], guard := none }) (v := ?_) rfl (by kernel_rfl) (by kernel_rfl) (by kernel_rfl) (fun _ _ _ h => h) (Or.inl ⟨by rfl, ?_⟩) (by assumption) ?_
         rotate_left
         ·intro w hSw; (try dsimp only at hSw); go_simp; try with_reducible rfl
         simp only [Act.put, setIfInBounds_toArray, set_cons_zero, set_cons_succ]
         refine wpAnyH_done (by kernel_rfl) ?_ _
         all_goals
          have HBF : Hid (Below w.heap.size w wM) := Lib.hid (b_then HBt.out hBM)
          have HQF : Hid (QAt wM w.heap.size w.heap.size q 0 v3 []) := Lib.hid (HQ.out.below hBM)
          have HXF : Hid (XAt wM g w.heap.size q 0 A4 c4 []) := Lib.hid (HX.out.below hBM)
          clear hbL hrL hBL hbM hBM u1 u2 m1 m2 hsL hsM
          go_wp2_with fail
          go_roundw
          case rel => exact ⟨k + 1, 0, v3, [], A4, c4, by go_num, by omega, by omega, HBF, HQF, HXF, HLN⟩
          case measure => simp [intOf]; omega
        | cons hd tl =>
         have HN := Lib.hid (now_cons HQ.out)
         obtain ⟨bx, cpx, hvx, hbbx, hbwx, hcx⟩ := HX.out.row.cell 0 (by simp)
         simp only [List.getElem_cons_zero] at hcx
         obtain ⟨rfl, _, rfl⟩ : A4 = some ⟨bx, 0, none⟩ ∧ (hd :: tl).length = (hd :: tl).length ∧ c4 = cpx := by simpa using hvx
         obtain ⟨n, hn⟩ : ∃ n, n = (hd :: tl).length := ⟨_, rfl⟩
         have kx1 : wx.cell? ⟨g, 1, none⟩ = some (.int .i64 0) := cell_heap HX.out.cells 1
         have kx2 : wx.cell? ⟨g, 2, none⟩ = some (.slice (some ⟨bx, 0, none⟩) n c4) := by rw [hn]; exact cell_heap HX.out.cells 2
         have hgx := heap_lt HX.out.cells
         have HS : Hid (∀ W : World, Below wx.heap.size wx W → W.cell? ⟨g, 1, none⟩ = some (.int .i64 0) ∧ W.cell? ⟨g, 2, none⟩ = some (.slice (some ⟨bx, 0, none⟩) n c4) ∧ W.cell? ⟨bx, 0, none⟩ = some (.int .i64 hd)) := Lib.hid (fun W hW => ⟨(hW.cell (p := ⟨g, 1, none⟩) hgx).trans kx1, (hW.cell (p := ⟨g, 2, none⟩) hgx).trans kx2, (hW.cell (p := ⟨bx, 0, none⟩) hbwx).trans hcx⟩)
         have hl9 : (hd :: tl).length ≤ 900 := by have := HLN.out; omega
         have HLI : Hid (∀ W, Below wx.heap.size wx W → Calls Try.prog 12 #[.pointer (some ⟨w.heap.size, 0, none⟩)] W fun e w' => ∃ A c, e = .returned (.slice A n c) ∧ Below W.heap.size W w' ∧ IRd w' A (hd :: tl)) := Lib.hid (fun W hW => by rw [hn]; exact line_form (HQ.out.below hW) (by omega))
         have HTI : Hid (∀ W, Below wx.heap.size wx W → Calls Try.prog 15 #[.pointer (some ⟨w.heap.size, 0, none⟩)] W fun e w' => e = .returned (.int .i64 0) ∧ w' = W) := Lib.hid (fun W hW => ticks_any (HQ.out.below hW))
         have HXR : Hid (∀ W, Below wx.heap.size wx W → IRd W (some ⟨bx, 0, none⟩) (hd :: tl)) := Lib.hid (fun W hW => (IRow.rd HX.out.row).below hW)
         have HSA : Hid (∀ W AA cc, IRd W AA (hd :: tl) → IRd W (some ⟨bx, 0, none⟩) (hd :: tl) → Calls Try.prog 17 #[.slice AA n cc, .slice (some ⟨bx, 0, none⟩) n c4] W fun e w' => e = .returned (.bool true) ∧ Below W.heap.size W w') := Lib.hid (fun W AA cc h1 h2 => by rw [hn]; exact same_eq h1 h2 (by omega) cc c4)
         have hn1 : 0 < n := by rw [hn]; simp
         have hn2 : (0 : Int) < (n : Int) := by omega
         have hn3 : decide (0 < n) = true := decide_eq_true hn1
         have hn4 : decide ((0 : Int) < (n : Int)) = true := decide_eq_true hn2
         have HNN := Lib.hid hn
         clear hvx hbbx hn hl9
         refine HN.out.mono ?_
         rintro e wN ⟨rfl, hw⟩
         obtain rfl := hw.symm
         clear hw HN
         go_wp2_with fail
         refine wp_region_held_drew (S := fun W : World => W.cell? ⟨g, 1, none⟩ = some (.int .i64 0) ∧ W.cell? ⟨g, 2, none⟩ = some (.slice (some ⟨bx, 0, none⟩) n c4) ∧ W.cell? ⟨bx, 0, none⟩ = some (.int .i64 hd)) (by kernel_rfl) (by first | exact (HS.out _ ((Below.refl _ _).drew)) | (go_keep; done)) (fun hHeld => ?_)
         refine wpAnyH_take (i := 0) (oi := { dst := some 113, op := .move (.tmp 10), type := 24, pos := "law.go:70", after := #[], guard := none }) (v := ?_) rfl (by kernel_rfl) (by kernel_rfl) (by kernel_rfl) (fun _ _ _ h => h) (Or.inl ⟨by rfl, ?_⟩) (by assumption) ?_
         rotate_left
         ·intro w hSw; (try dsimp only at hSw); go_simp; try with_reducible rfl
         simp only [Act.put, setIfInBounds_toArray, set_cons_zero, set_cons_succ]
         refine wpAnyH_take (i := 1) (oi := { dst := some 114, op := .move (.tmp 11), type := 3, pos := "law.go:70", after := #[], guard := none }) (v := ?_) rfl (by kernel_rfl) (by kernel_rfl) (by kernel_rfl) (fun _ _ _ h => h) (Or.inl ⟨by rfl, ?_⟩) (by assumption) ?_
         rotate_left
         ·intro w hSw; (try dsimp only at hSw); go_simp; try with_reducible rfl
         simp only [Act.put, setIfInBounds_toArray, set_cons_zero, set_cons_succ]
         refine wpAnyH_take (i := 2) (oi := { dst := some 115, op := .binOp .neq 3 (.tmp 113) (.tmp 114) 3, type := 4, pos := "law.go:70", after := #[⟨0, .data⟩, ⟨1, .data⟩], guard := none }) (v := ?_) rfl (by kernel_rfl) (by kernel_rfl) (by kernel_rfl) (fun _ _ _ h => h) (Or.inl ⟨by rfl, ?_⟩) (by assumption) ?_
         rotate_left
         ·intro w hSw; (try dsimp only at hSw); go_simp; try with_reducible rfl
         simp only [Act.put, setIfInBounds_toArray, set_cons_zero, set_cons_succ]
         refine wpAnyH_take (i := 3) (oi := { dst := some 116, op := .move (.tmp 115), type := 4, pos := "law.go:70", after := #[⟨2, .data⟩], guard := none }) (v := ?_) rfl (by kernel_rfl) (by kernel_rfl) (by kernel_rfl) (fun _ _ _ h => h) (Or.inl ⟨by rfl, ?_⟩) (by assumption) ?_
         rotate_left
         ·intro w hSw; (try dsimp only at hSw); go_simp; try with_reducible rfl
         simp only [Act.put, setIfInBounds_toArray, set_cons_zero, set_cons_succ]
         refine wpAnyH_take (i := 4) (oi := { dst := some 117, op := .move (.tmp 5), type := 23, pos := "law.go:70", after := #[⟨3, .guard⟩], guard := some (3, false) }) (v := ?_) rfl (by kernel_rfl) (by kernel_rfl) (by kernel_rfl) (fun _ _ _ h => h) (Or.inl ⟨by rfl, ?_⟩) (by assumption) ?_
         rotate_left
         ·intro w hSw; (try dsimp only at hSw); go_simp; try with_reducible rfl
         simp only [Act.put, setIfInBounds_toArray, set_cons_zero, set_cons_succ]
         refine wpAnyH_take (i := 6) (oi := { dst := some 119, op := .fieldAddr 40 (.tmp 7) 2, type := 0, pos := "law.go:70", after := #[⟨3, .guard⟩], guard := some (3, false) }) (v := ?_) rfl (by kernel_rfl) (by kernel_rfl) (by kernel_rfl) (fun _ _ _ h => h) (Or.inl ⟨by rfl, ?_⟩) (by assumption) ?_
         rotate_left
         ·intro w hSw; (try dsimp only at hSw); go_simp; try with_reducible rfl
         simp only [Act.put, setIfInBounds_toArray, set_cons_zero, set_cons_succ]
         refine wpAnyH_take (i := 7) (oi := { dst := some 120, op := .load 31 (.tmp 119), type := 31, pos := "law.go:70", after := #[⟨6, .data⟩, ⟨3, .guard⟩], guard := some (3, false) }) (v := ?_) rfl (by kernel_rfl) (by kernel_rfl) (by kernel_rfl) (fun _ _ _ h => h) (Or.inl ⟨by rfl, ?_⟩) (by assumption) ?_
         rotate_left
         ·intro w hSw; (try dsimp only at hSw); go_simp; try with_reducible rfl
         simp only [Act.put, setIfInBounds_toArray, set_cons_zero, set_cons_succ]
         refine wpAnyH_ready (rs := [5]) (by kernel_rfl) (by simp) ?_
         refine AllReadyH.cons (o := { dst := some 118, op := .call { callee := .value (.func 12), args := #[.tmp 117], argTypes := #[23] }, type := 31, pos := "law.go:70", after := #[⟨4, .data⟩, ⟨3, .chain⟩, ⟨3, .guard⟩], guard := some (3, false) }) rfl (fun K hK => ?_) AllReadyH.nil
         go_simp
         refine (HLI.out _ (by go_grown)).mono ?_
         rintro e wL ⟨AL, cL, rfl, hbL, hrL⟩
         have hBL : Below wx.heap.size wx wL := (b_then (by go_grown) hbL)
         obtain ⟨u1, u2, u3⟩ := HS.out wL hBL
         have hsL := hBL.size
         clear hHeld
         refine hK.out _ _ (by (try dsimp only); go_keep) (fun hHeld => ?_)
         clear hK K
         try simp only [Act.put, setIfInBounds_toArray, set_cons_zero, set_cons_succ]
         refine wpAnyH_ready (rs := [8]) (by kernel_rfl) (by simp) ?_
         refine AllReadyH.cons (o := { dst := some 121, op := .call { callee := .value (.func 17), args := #[.tmp 118, .tmp 120], argTypes := #[31, 31] }, type := 4, pos := "law.go:70", after := #[⟨5, .data⟩, ⟨7, .data⟩, ⟨5, .chain⟩, ⟨3, .guard⟩], guard := some (3, false) }) rfl (fun K hK => ?_) AllReadyH.nil
         go_simp
         refine (HSA.out _ _ _ (by first | exact hrL | exact hrL.below ((Below.refl _ _).drew)) (HXR.out _ (by first | exact hBL | exact hBL.drew))).mono ?_
         rintro e wM ⟨rfl, hbM⟩
         have hBM : Below wx.heap.size wx wM := (b_then (by first | exact hBL | exact hBL.drew) hbM)
         obtain ⟨m1, m2, m3⟩ := HS.out wM hBM
         have hsM := hBM.size
         clear hHeld
         refine hK.out _ _ (by (try dsimp only); go_keep) (fun hHeld => ?_)
         clear hK K
         try simp only [Act.put, setIfInBounds_toArray, set_cons_zero, set_cons_succ]
         refine wpAnyH_take (i := 9) (oi := { dst := some 122, op := .unOp .not 4 (.tmp 121), type := 4, pos := "law.go:70", after := #[⟨8, .data⟩, ⟨3, .guard⟩], guard := some (3, false) }) (v := ?_) rfl (by kernel_rfl) (by kernel_rfl) (by kernel_rfl) (fun _ _ _ h => h) (Or.inl ⟨by rfl, ?_⟩) (by assumption) ?_
         rotate_left
         ·intro w hSw; (try dsimp only at hSw); go_simp; try with_reducible rfl
         simp only [Act.put, setIfInBounds_toArray, set_cons_zero, set_cons_succ]
         refine wpAnyH_take (i := 10) (oi := { dst := some 123, op := .pick (.tmp 116) (.const (.bool true)) (.tmp 122), type := 4, pos := "law.go:70", after := #[⟨3, .data⟩, ⟨9, .data⟩], guard := none }) (v := ?_) rfl (by kernel_rfl) (by kernel_rfl) (by kernel_rfl) (fun _ _ _ h => h) (Or.inl ⟨by rfl, ?_⟩) (by assumption) ?_
         rotate_left
         ·intro w hSw; (try dsimp only at hSw); go_simp; try with_reducible rfl
         simp only [Act.put, setIfInBounds_toArray, set_cons_zero, set_cons_succ]
         refine wpAnyH_take (i := 11) (oi := { dst := some 124, op := .move (.tmp 123), type := 4, pos := "law.go:70", after := #[⟨10, .data⟩, ⟨8, .chain⟩], guard := none }) (v := ?_) rfl (by kernel_rfl) (by kernel_rfl) (by kernel_rfl) (fun _ _ _ h => h) (Or.inl ⟨by rfl, ?_⟩) (by assumption) ?_
         rotate_left
         ·intro w hSw; (try dsimp only at hSw); go_simp; try with_reducible rfl
         simp only [Act.put, setIfInBounds_toArray, set_cons_zero, set_cons_succ]
         refine wpAnyH_take (i := 12) (oi := { dst := some 125, op := .move (.tmp 5), type := 23, pos := "law.go:70", after := #[⟨11, .guard⟩], guard := some (11, false) }) (v := ?_) rfl (by kernel_rfl) (by kernel_rfl) (by kernel_rfl) (fun _ _ _ h => h) (Or.inl ⟨by rfl, ?_⟩) (by assumption) ?_
         rotate_left
         ·intro w hSw; (try dsimp only at hSw); go_simp; try with_reducible rfl
         simp only [Act.put, setIfInBounds_toArray, set_cons_zero, set_cons_succ]
         refine wpAnyH_take (i := 14) (oi := { dst := some 127, op := .fieldAddr 40 (.tmp 7) 1, type := 0, pos := "law.go:70", after := #[⟨11, .guard⟩], guard := some (11, false) }) (v := ?_) rfl (by kernel_rfl) (by kernel_rfl) (by kernel_rfl) (fun _ _ _ h => h) (Or.inl ⟨by rfl, ?_⟩) (by assumption) ?_
         rotate_left
         ·intro w hSw; (try dsimp only at hSw); go_simp; try with_reducible rfl
         simp only [Act.put, setIfInBounds_toArray, set_cons_zero, set_cons_succ]
         refine wpAnyH_take (i := 15) (oi := { dst := some 128, op := .load 3 (.tmp 127), type := 3, pos := "law.go:70", after := #[⟨14, .data⟩, ⟨11, .guard⟩], guard := some (11, false) }) (v := ?_) rfl (by kernel_rfl) (by kernel_rfl) (by kernel_rfl) (fun _ _ _ h => h) (Or.inl ⟨by rfl, ?_⟩) (by assumption) ?_
         rotate_left
         ·intro w hSw; (try dsimp only at hSw); go_simp; try with_reducible rfl
         simp only [Act.put, setIfInBounds_toArray, set_cons_zero, set_cons_succ]
         refine wpAnyH_ready (rs := [13]) (by kernel_rfl) (by simp) ?_
         refine AllReadyH.cons (o := { dst := some 126, op := .call { callee := .value (.func 15), args := #[.tmp 125], argTypes := #[23] }, type := 3, pos := "law.go:70", after := #[⟨12, .data⟩, ⟨11, .chain⟩, ⟨11, .guard⟩], guard := some (11, false) }) rfl (fun K hK => ?_) AllReadyH.nil
         go_simp
         refine (HTI.out _ (by first | exact hBM | exact hBM.drew | go_grown)).mono ?_
         rintro e wZ ⟨rfl, hwZ⟩
         obtain rfl := hwZ.symm
         clear hwZ
         clear hHeld
         refine hK.out _ _ (by (try dsimp only); go_keep) (fun hHeld => ?_)
         clear hK K
         try simp only [Act.put, setIfInBounds_toArray, set_cons_zero, set_cons_succ]
         refine wpAnyH_take (i := 16) (oi := { dst := some 129, op := .binOp .neq 3 (.tmp 126) (.tmp 128) 3, type := 4, pos := "law.go:70", after := #[⟨13, .data⟩, ⟨15, .data⟩, ⟨11, .guard⟩], guard := some (11, false) }) (v := ?_) rfl (by kernel_rfl) (by kernel_rfl) (by kernel_rfl) (fun _ _ _ h => h) (Or.inl ⟨by rfl, ?_⟩) (by assumption) ?_
         rotate_left
         ·intro w hSw; (try dsimp only at hSw); go_simp; try with_reducible rfl
         simp only [Act.put, setIfInBounds_toArray, set_cons_zero, set_cons_succ]
         refine wpAnyH_take (i := 17) (oi := { dst := some 130, op := .pick (.tmp 124) (.const (.bool true)) (.tmp 129), type := 4, pos := "law.go:70", after := #[⟨11, .data⟩, ⟨16, .data⟩], guard := none }) (v := ?_) rfl (by kernel_rfl) (by kernel_rfl) (by kernel_rfl) (fun _ _ _ h => h) (Or.inl ⟨by rfl, ?_⟩) (by assumption) ?_
         rotate_left
         ·intro w hSw; (try dsimp only at hSw); go_simp; try with_reducible rfl
         simp only [Act.put, setIfInBounds_toArray, set_cons_zero, set_cons_succ]
         refine wpAnyH_take (i := 18) (oi := { dst := some 131, op := .move (.tmp 130), type := 4, pos := "law.go:70", after := #[⟨17, .data⟩, ⟨13, .chain⟩], guard := none }) (v := ?_) rfl (by kernel_rfl) (by kernel_rfl) (by kernel_rfl) (fun _ _ _ h => h) (Or.inl ⟨by rfl, ?_⟩) (by assumption) ?_
         rotate_left
         ·intro w hSw; (try dsimp only at hSw); go_simp; try with_reducible rfl
         simp only [Act.put, setIfInBounds_toArray, set_cons_zero, set_cons_succ]
         refine wpAnyH_take (i := 19) (oi := { dst := some 132, op := .move (.tmp 15), type := 4, pos := "law.go:70", after := #[⟨18, .guard⟩], guard := some (18, false) }) (v := ?_) rfl (by kernel_rfl) (by kernel_rfl) (by kernel_rfl) (fun _ _ _ h => h) (Or.inl ⟨by rfl, ?_⟩) (by assumption) ?_
         rotate_left
         ·intro w hSw; (try dsimp only at hSw); go_simp; try with_reducible rfl
         simp only [Act.put, setIfInBounds_toArray, set_cons_zero, set_cons_succ]
         refine wpAnyH_take (i := 20) (oi := { dst := some 133, op := .fieldAddr 40 (.tmp 7) 2, type := 0, pos := "law.go:70", after := #[⟨18, .guard⟩], guard := some (18, false) }) (v := ?_) rfl (by kernel_rfl) (by kernel_rfl) (by kernel_rfl) (fun _ _ _ h => h) (Or.inl ⟨by rfl, ?_⟩) (by assumption) ?_
         rotate_left
         ·intro w hSw; (try dsimp only at hSw); go_simp; try with_reducible rfl
         simp only [Act.put, setIfInBounds_toArray, set_cons_zero, set_cons_succ]
         refine wpAnyH_take (i := 21) (oi := { dst := some 134, op := .load 31 (.tmp 133), type := 31, pos := "law.go:70", after := #[⟨20, .data⟩, ⟨18, .guard⟩], guard := some (18, false) }) (v := ?_) rfl (by kernel_rfl) (by kernel_rfl) (by kernel_rfl) (fun _ _ _ h => h) (Or.inl ⟨by rfl, ?_⟩) (by assumption) ?_
         rotate_left
         ·intro w hSw; (try dsimp only at hSw); go_simp; try with_reducible rfl
         simp only [Act.put, setIfInBounds_toArray, set_cons_zero, set_cons_succ]
         refine wpAnyH_take (i := 22) (oi := { dst := some 135, op := .call { callee := .builtin .len, args := #[.tmp 134], argTypes := #[31] }, type := 3, pos := "law.go:70", after := #[⟨21, .data⟩, ⟨18, .guard⟩], guard := some (18, false) }) (v := ?_) rfl (by kernel_rfl) (by kernel_rfl) (by kernel_rfl) (fun _ _ _ h => h) (Or.inl ⟨by rfl, ?_⟩) (by assumption) ?_
         rotate_left
         ·intro w hSw; (try dsimp only at hSw); go_simp; try with_reducible rfl
         simp only [Act.put, setIfInBounds_toArray, set_cons_zero, set_cons_succ]
         refine wpAnyH_take (i := 23) (oi := { dst := some 136, op := .binOp .gtr 3 (.tmp 135) (.const (.int .i64 0)) 3, type := 4, pos := "law.go:70", after := #[⟨22, .data⟩, ⟨18, .guard⟩], guard := some (18, false) }) (v := ?_) rfl (by kernel_rfl) (by kernel_rfl) (by kernel_rfl) (fun _ _ _ h => h) (Or.inl ⟨by rfl, ?_⟩) (by assumption) ?_
         rotate_left
         ·intro w hSw; (try dsimp only at hSw); go_simp; try with_reducible rfl
         simp only [Act.put, setIfInBounds_toArray, set_cons_zero, set_cons_succ]
         refine wpAnyH_take (i := 24) (oi := { dst := some 137, op := .binOp .neq 4 (.tmp 132) (.tmp 136) 4, type := 4, pos := "law.go:70", after := #[⟨19, .data⟩, ⟨23, .data⟩, ⟨18, .guard⟩], guard := some (18, false) }) (v := ?_) rfl (by kernel_rfl) (by kernel_rfl) (by kernel_rfl) (fun _ _ _ h => h) (Or.inl ⟨by rfl, ?_⟩) (by assumption) ?_
         rotate_left
         ·intro w hSw; (try dsimp only at hSw); go_simp; try with_reducible rfl
         simp only [Act.put, setIfInBounds_toArray, set_cons_zero, set_cons_succ]
         refine wpAnyH_take (i := 25) (oi := { dst := some 138, op := .pick (.tmp 131) (.const (.bool true)) (.tmp 137), type := 4, pos := "law.go:70", after := #[⟨18, .data⟩, ⟨24, .data⟩], guard := none }) (v := ?_) rfl (by kernel_rfl) (by kernel_rfl) (by kernel_rfl) (fun _ _ _ h => h) (Or.inl ⟨by rfl, ?_⟩) (by assumption) ?_
         rotate_left
         ·intro w hSw; (try dsimp only at hSw); go_simp; try with_reducible rfl
         simp only [Act.put, setIfInBounds_toArray, set_cons_zero, set_cons_succ]
         refine wpAnyH_take (i := 26) (oi := { dst := some 139, op := .move (.tmp 138), type := 4, pos := "law.go:70", after := #[⟨25, .data⟩, ⟨18, .chain⟩], guard := none }) (v := ?_) rfl (by kernel_rfl) (by kernel_rfl) (by kernel_rfl) (fun _ _ _ h => h) (Or.inl ⟨by rfl, ?_⟩) (by assumption) ?_
         rotate_left
         ·intro w hSw; (try dsimp only at hSw); go_simp; try with_reducible rfl
         simp only [Act.put, setIfInBounds_toArray, set_cons_zero, set_cons_succ]
         refine wpAnyH_take (i := 27) (oi := { dst := some 140, op := .move (.tmp 15), type := 4, pos := "law.go:70", after := #[⟨26, .guard⟩], guard := some (26, false) }) (v := ?_) rfl (by kernel_rfl) (by kernel_rfl) (by kernel_rfl) (fun _ _ _ h => h) (Or.inl ⟨by rfl, ?_⟩) (by assumption) ?_
         rotate_left
         ·intro w hSw; (try dsimp only at hSw); go_simp; try with_reducible rfl
         simp only [Act.put, setIfInBounds_toArray, set_cons_zero, set_cons_succ]
         refine wpAnyH_take (i := 28) (oi := { dst := some 141, op := .move (.tmp 140), type := 4, pos := "law.go:70", after := #[⟨27, .data⟩, ⟨26, .chain⟩, ⟨26, .guard⟩], guard := some (26, false) }) (v := ?_) rfl (by kernel_rfl) (by kernel_rfl) (by kernel_rfl) (fun _ _ _ h => h) (Or.inl ⟨by rfl, ?_⟩) (by assumption) ?_
         rotate_left
         ·intro w hSw; (try dsimp only at hSw); go_simp; try with_reducible rfl
         simp only [Act.put, setIfInBounds_toArray, set_cons_zero, set_cons_succ]
         refine wpAnyH_take (i := 29) (oi := { dst := some 142, op := .move (.tmp 14), type := 3, pos := "law.go:70", after := #[⟨28, .guard⟩], guard := some (28, true) }) (v := ?_) rfl (by kernel_rfl) (by kernel_rfl) (by kernel_rfl) (fun _ _ _ h => h) (Or.inl ⟨by rfl, ?_⟩) (by assumption) ?_
         rotate_left
         ·intro w hSw; (try dsimp only at hSw); go_simp; try with_reducible rfl
         simp only [Act.put, setIfInBounds_toArray, set_cons_zero, set_cons_succ]
         refine wpAnyH_take (i := 30) (oi := { dst := some 143, op := .fieldAddr 40 (.tmp 7) 2, type := 0, pos := "law.go:70", after := #[⟨28, .guard⟩], guard := some (28, true) }) (v := ?_) rfl (by kernel_rfl) (by kernel_rfl) (by kernel_rfl) (fun _ _ _ h => h) (Or.inl ⟨by rfl, ?_⟩) (by assumption) ?_
         rotate_left
         ·intro w hSw; (try dsimp only at hSw); go_simp; try with_reducible rfl
         simp only [Act.put, setIfInBounds_toArray, set_cons_zero, set_cons_succ]
         refine wpAnyH_take (i := 31) (oi := { dst := some 144, op := .load 31 (.tmp 143), type := 31, pos := "law.go:70", after := #[⟨30, .data⟩, ⟨28, .guard⟩], guard := some (28, true) }) (v := ?_) rfl (by kernel_rfl) (by kernel_rfl) (by kernel_rfl) (fun _ _ _ h => h) (Or.inl ⟨by rfl, ?_⟩) (by assumption) ?_
         rotate_left
         ·intro w hSw; (try dsimp only at hSw); go_simp; try with_reducible rfl
         simp only [Act.put, setIfInBounds_toArray, set_cons_zero, set_cons_succ]
         refine wpAnyH_take (i := 32) (oi := { dst := some 145, op := .indexAddr 31 (.tmp 144) (.const (.int .i64 0)), type := 0, pos := "law.go:70", after := #[⟨31, .data⟩, ⟨28, .guard⟩], guard := some (28, true) }) (v := ?_) rfl (by kernel_rfl) (by kernel_rfl) (by kernel_rfl) (fun _ _ _ h => h) (Or.inl ⟨by rfl, ?_⟩) (by assumption) ?_
         rotate_left
         ·intro w hSw; (try dsimp only at hSw); go_simp; try with_reducible rfl
         simp only [Act.put, setIfInBounds_toArray, set_cons_zero, set_cons_succ]
         refine wpAnyH_take (i := 33) (oi := { dst := some 146, op := .load 3 (.tmp 145), type := 3, pos := "law.go:70", after := #[⟨32, .data⟩, ⟨28, .guard⟩], guard := some (28, true) }) (v := ?_) rfl (by kernel_rfl) (by kernel_rfl) (by kernel_rfl) (fun _ _ _ h => h) (Or.inl ⟨by rfl, ?_⟩) (by assumption) ?_
         rotate_left
         ·intro w hSw; (try dsimp only at hSw); go_simp; try with_reducible rfl
         simp only [Act.put, setIfInBounds_toArray, set_cons_zero, set_cons_succ]
         refine wpAnyH_take (i := 34) (oi := { dst := some 147, op := .binOp .neq 3 (.tmp 142) (.tmp 146) 3, type := 4, pos := "law.go:70", after := #[⟨29, .data⟩, ⟨33, .data⟩, ⟨28, .guard⟩], guard := some (28, true) }) (v := ?_) rfl (by kernel_rfl) (by kernel_rfl) (by kernel_rfl) (fun _ _ _ h => h) (Or.inl ⟨by rfl, ?_⟩) (by assumption) ?_
         rotate_left
         ·intro w hSw; (try dsimp only at hSw); go_simp; try with_reducible rfl
         simp only [Act.put, setIfInBounds_toArray, set_cons_zero, set_cons_succ]
         refine wpAnyH_take (i := 35) (oi := { dst := some 148, op := .pick (.tmp 141) (.tmp 147) (.const (.bool false)), type := 4, pos := "law.go:70", after := #[⟨28, .data⟩, ⟨34, .data⟩, ⟨26, .guard⟩], guard := some (26, false) }) (v := ?_) rfl (by kernel_rfl) (by kernel_rfl) (by kernel_rfl) (fun _ _ _ h => h) (Or.inl ⟨by rfl, ?_⟩) (by assumption) ?_
         rotate_left
         ·intro w hSw; (try dsimp only at hSw); go_simp; try with_reducible rfl
         simp only [Act.put, setIfInBounds_toArray, set_cons_zero, set_cons_succ]
         refine wpAnyH_take (i := 36) (oi := { dst := some 149, op := .pick (.tmp 139) (.const (.bool true)) (.tmp 148), type := 4, pos := "law.go:70", after := #[⟨26, .data⟩, ⟨35, .data⟩], guard := none }) (v := ?_) rfl (by kernel_rfl) (by kernel_rfl) (by kernel_rfl) (fun _ _ _ h => h) (Or.inl ⟨by rfl, ?_⟩) (by assumption) ?_
         rotate_left
         ·intro w hSw; (try dsimp only at hSw); go_simp; try with_reducible rfl
         simp only [Act.put, setIfInBounds_toArray, set_cons_zero, set_cons_succ]
         refine wpAnyH_take (i := 37) (oi := { dst := some 150, op := .move (.tmp 149), type := 4, pos := "law.go:70", after := #[⟨36, .data⟩, ⟨28, .chain⟩], guard := none }) (v := ?_) rfl (by kernel_rfl) (by kernel_rfl) (by kernel_rfl) (fun _ _ _ h => h) (Or.inl ⟨by rfl, ?_⟩) (by assumption) ?_
         rotate_left
         ·intro w hSw; (try dsimp only at hSw); go_simp; try with_reducible rfl
         simp only [Act.put, setIfInBounds_toArray, set_cons_zero, set_cons_succ]
         refine wpAnyH_take (i := 38) (oi := { dst := some 151, op := .move (.tmp 15), type := 4, pos := "law.go:70", after := #[⟨37, .guard⟩], guard := some (37, false) }) (v := ?_) rfl (by kernel_rfl) (by kernel_rfl) (by kernel_rfl) (fun _ _ _ h => h) (Or.inl ⟨by rfl, ?_⟩) (by assumption) ?_
         rotate_left
         ·intro w hSw; (try dsimp only at hSw); go_simp; try with_reducible rfl
         simp only [Act.put, setIfInBounds_toArray, set_cons_zero, set_cons_succ]
         refine wpAnyH_take (i := 39) (oi := { dst := some 152, op := .unOp .not 4 (.tmp 151), type := 4, pos := "law.go:70", after := #[⟨38, .data⟩, ⟨37, .guard⟩], guard := some (37, false) }) (v := ?_) rfl (by kernel_rfl) (by kernel_rfl) (by kernel_rfl) (fun _ _ _ h => h) (Or.inl ⟨by rfl, ?_⟩) (by assumption) ?_
         rotate_left
         ·intro w hSw; (try dsimp only at hSw); go_simp; try with_reducible rfl
         simp only [Act.put, setIfInBounds_toArray, set_cons_zero, set_cons_succ]
         refine wpAnyH_take (i := 40) (oi := { dst := some 153, op := .move (.tmp 152), type := 4, pos := "law.go:70", after := #[⟨39, .data⟩, ⟨37, .chain⟩, ⟨37, .guard⟩], guard := some (37, false) }) (v := ?_) rfl (by kernel_rfl) (by kernel_rfl) (by kernel_rfl) (fun _ _ _ h => h) (Or.inl ⟨by rfl, ?_⟩) (by assumption) ?_
         rotate_left
         ·intro w hSw; (try dsimp only at hSw); go_simp; try with_reducible rfl
         simp only [Act.put, setIfInBounds_toArray, set_cons_zero, set_cons_succ]
         refine wpAnyH_take (i := 41) (oi := { dst := some 154, op := .move (.tmp 14), type := 3, pos := "law.go:70", after := #[⟨40, .guard⟩], guard := some (40, true) }) (v := undef) rfl (by kernel_rfl) (by kernel_rfl) (by kernel_rfl) (fun _ _ _ h => h) (Or.inr ⟨by rfl, rfl⟩) (by assumption) ?_
         simp only [Act.put, setIfInBounds_toArray, set_cons_zero, set_cons_succ]
         refine wpAnyH_take (i := 42) (oi := { dst := some 155, op := .binOp .neq 3 (.tmp 154) (.const (.int .i64 0)) 3, type := 4, pos := "law.go:70", after := #[⟨41, .data⟩, ⟨40, .guard⟩], guard := some (40, true) }) (v := undef) rfl (by kernel_rfl) (by kernel_rfl) (by kernel_rfl) (fun _ _ _ h => h) (Or.inr ⟨by rfl, rfl⟩) (by assumption) ?_
         simp only [Act.put, setIfInBounds_toArray, set_cons_zero, set_cons_succ]
         refine wpAnyH_take (i := 43) (oi := { dst := some 156, op := .pick (.tmp 153) (.tmp 155) (.const (.bool false)), type := 4, pos := "law.go:70", after := #[⟨40, .data⟩, ⟨42, .data⟩, ⟨37, .guard⟩], guard := some (37, false) }) (v := ?_) rfl (by kernel_rfl) (by kernel_rfl) (by kernel_rfl) (fun _ _ _ h => h) (Or.inl ⟨by rfl, ?_⟩) (by assumption) ?_
         rotate_left
         ·intro w hSw; (try dsimp only at hSw); go_simp; try with_reducible rfl
         simp only [Act.put, setIfInBounds_toArray, set_cons_zero, set_cons_succ]
         refine wpAnyH_take (i := 44) (oi := { dst := some 157, op := .pick (.tmp 150) (.const (.bool true)) (.tmp 156), type := 4, pos := "law.go:70", after := #[⟨37, .data⟩, ⟨43, .data⟩], guard := none }) (v := ?_) rfl (by kernel_rfl) (by kernel_rfl) (by kernel_rfl) (fun _ _ _ h => h) (Or.inl ⟨by rfl, ?_⟩) (by assumption) ?_
         rotate_left
         ·intro w hSw; (try dsimp only at hSw); go_simp; try with_reducible rfl
         simp only [Act.put, setIfInBounds_toArray, set_cons_zero, set_cons_succ]
         refine wpAnyH_done (by kernel_rfl) ?_ _
         all_goals
          have HBF : Hid (Below w.heap.size w wM) := Lib.hid (b_then HBt.out hBM)
          have HQF : Hid (QAt wM w.heap.size w.heap.size q 0 v3 (hd :: tl)) := Lib.hid (HQ.out.below hBM)
          have HXF : Hid (XAt wM g w.heap.size q 0 (some ⟨bx, 0, none⟩) c4 (hd :: tl)) := Lib.hid (HX.out.below hBM)
          clear hbL hrL hBL hbM hBM u1 u2 u3 m1 m2 m3 hsL hsM
          go_wp2_with fail
          go_roundw
          case rel => exact ⟨k + 1, 0, v3, hd :: tl, some ⟨bx, 0, none⟩, c4, by go_num, by omega, by omega, HBF, HQF, HXF, HLN⟩
          case measure => simp [intOf]; omega
      ·have kk3 : (kind == 3) = false := by simp [k3]
       clear k3
       by_cases k4 : kind = 4
       ·as_aux_lemma =>
         subst k4
         have tk1000 : tk ≤ 1000 := by have := HF.out; have := q1.out; omega
         obtain ⟨t3, ht3⟩ : ∃ t, t = (tickQ q (tk, l)).1.1 := ⟨_, rfl⟩
         obtain ⟨l3, hl3⟩ : ∃ t, t = (tickQ q (tk, l)).1.2 := ⟨_, rfl⟩
         obtain ⟨ov, hov⟩ : ∃ t, t = (tickQ q (tk, l)).2 := ⟨_, rfl⟩
         have HC : Hid (∀ W v0, QAt W w.heap.size w.heap.size q tk v0 l → Calls Try.prog 11 #[.pointer (some ⟨w.heap.size, 0, none⟩)] W fun e w' => e = .returned (.bool ov) ∧ Touch (fun k => k = w.heap.size) W w' ∧ ∃ v', QAt w' w.heap.size w.heap.size q t3 v' l3) := Lib.hid (fun W v0 h => by rw [ht3, hl3, hov]; exact tick_any h HL9.out HF.out.1 tk1000)
         have HRA : Hid (∃ v', True) := Lib.hid ⟨0, trivial⟩
         have hra := rTick_any (qn := q) (tk := tk) HX1.out.row HB1.out.size HL9.out HF.out.1 tk1000
         rw [← ht3, ← hl3, ← hov] at hra
         have HRA := Lib.hid hra
         obtain ⟨p1, p2, p3⟩ := tickQ_facts q tk l HF.out.1
         have HLA2 : Hid (0 ≤ t3 ∧ t3 < q ∧ l3.Nodup ∧ l3.length ≤ k + 1) := Lib.hid ⟨by rw [ht3]; exact p1, by rw [ht3]; exact tickQ_lt l HF.out.1 HF.out.2.1, by rw [hl3]; exact p3.symm.nodup HF.out.2.2.1, by rw [hl3, p3.length_eq]; have := HF.out.2.2.2; omega⟩
         have x0 : wr.cell? ⟨g, 0, none⟩ = some (.int .i64 q) := cell_heap HXW.out 0
         have x1 : wr.cell? ⟨g, 1, none⟩ = some (.int .i64 tk) := cell_heap HXW.out 1
         have x2 : wr.cell? ⟨g, 2, none⟩ = some (.slice A l.length c) := cell_heap HXW.out 2
         have zg := heap_lt HXW.out
         have hne1 : ¬ g = ga := by
          rintro rfl
          have h1 := HX1.out.cells
          rw [HCA.out] at h1
          simp only [Option.some.injEq, Obj.cells.injEq] at h1
          exact absurd h1.2.1 (by decide)
         clear ht3 hl3 hov hra p1 p2 p3
         go_wp2_with fail
         rw [← HGE.out, ← HWE.out]
         refine HRA.out.mono ?_
         rintro e w4 ⟨v4, rfl, hb4, hr4⟩
         obtain ⟨A4, c4, rfl⟩ := row_form hr4
         -- the queue behind the tick, in a block of its own
         have hgc4 := heap_below hb4 HX1.out.cells
         have hq4 := HQ1.out.below hb4
         have hB4 := b_then HB1.out hb4
         have y0 : w4.cell? ⟨g, 0, none⟩ = some (.int .i64 q) := cell_heap hgc4 0
         have y1 : w4.cell? ⟨g, 1, none⟩ = some (.int .i64 tk) := cell_heap hgc4 1
         have y2 : w4.cell? ⟨g, 2, none⟩ = some (.slice A l.length c) := cell_heap hgc4 2
         have z0 : w4.frozen? ⟨g, 0, none⟩ = false := frozen_heap hgc4 0
         have z1 : w4.frozen? ⟨g, 1, none⟩ = false := frozen_heap hgc4 1
         have z2 : w4.frozen? ⟨g, 2, none⟩ = false := frozen_heap hgc4 2
         have zg4 := heap_lt hgc4
         obtain ⟨w5, hw5⟩ : ∃ W, W = ((w4.setCell ⟨g, 0, none⟩ (.int .i64 q)).setCell ⟨g, 1, none⟩ (.int .i64 t3)).setCell ⟨g, 2, none⟩ (.slice A4 l3.length c4) := ⟨_, rfl⟩
         obtain ⟨w6, hw6⟩ : ∃ W, W = w5.alloc (.cells #[.int .i64 q, .int .i64 t3, .slice A4 l3.length c4] 40) := ⟨_, rfl⟩
         have hb56 : Below w5.heap.size w5 w6 := by rw [hw6]; exact (Below.refl _ _).alloc (Nat.le_refl _) _
         have hX6 : XAt w6 g w.heap.size q t3 A4 c4 l3 := by
          have : XAt w5 g w.heap.size q t3 A4 c4 l3 := by rw [hw5]; exact XAt.put hgc4 hr4
          exact this.below hb56
         have hQ6 : QAt w6 w.heap.size w.heap.size q tk v l := by
          have : QAt w5 w.heap.size w.heap.size q tk v l := by rw [hw5]; exact hq4.put hgc4 _ _ _
          exact this.below hb56
         have hB6 : Below w.heap.size w w6 := by
          have : Below w.heap.size w w5 := by rw [hw5]; exact put_below hB4 hgw _ _ _
          exact b_then this hb56
         have HX6 := Lib.hid hX6
         have HQ6 := Lib.hid hQ6
         have HB6 := Lib.hid hB6
         have HW6 := Lib.hid hw6
         have HW5 := Lib.hid hw5
         clear hb4 hr4 hgc4 hq4 hB4 hw5 hw6 hb56 hX6 hQ6 hB6 x0 x1 x2 zg n1
         go_wp2_with fail
         rw [← HW5.out, ← HW6.out]
         clear y0 y1 y2 z0 z1 z2
         refine (HC.out _ _ HQ6.out).mono ?_
         rintro e w7 ⟨rfl, ht7, v7, hq7⟩
         obtain ⟨wx, hwx⟩ : ∃ W, W = w7 := ⟨_, rfl⟩
         have hX : XAt wx g w.heap.size q t3 A4 c4 l3 := by rw [hwx]; exact HX6.out.touch HQ6.out ht7
         have hQ : QAt wx w.heap.size w.heap.size q t3 v7 l3 := by rw [hwx]; exact hq7
         have hBt : Below w.heap.size w wx := by rw [hwx]; exact Below.touch HB6.out ht7 (Nat.le_refl _) (fun k e => by omega)
         have hLN := HLA2.out
         clear ht7 hq7
         have HQ := Lib.hid hQ
         have HX := Lib.hid hX
         have HBt := Lib.hid hBt
         have HLN := Lib.hid hLN
         have HWX := Lib.hid hwx
         clear hQ hX hBt hLN hwx
         go_wp2_with fail
         rw [← HWX.out]
         clear HWX
         cases l3 with
         | nil =>
          have HN := Lib.hid (now_nil HQ.out)
          refine HN.out.mono ?_
          rintro e wN ⟨rfl, hw⟩
          obtain rfl := hw.symm
          clear hw HN
          have kx1 : wx.cell? ⟨g, 1, none⟩ = some (.int .i64 t3) := cell_heap HX.out.cells 1
          have kx2 : wx.cell? ⟨g, 2, none⟩ = some (.slice A4 0 c4) := cell_heap HX.out.cells 2
          have hgx := heap_lt HX.out.cells
          have HS : Hid (∀ W : World, Below wx.heap.size wx W → W.cell? ⟨g, 1, none⟩ = some (.int .i64 t3) ∧ W.cell? ⟨g, 2, none⟩ = some (.slice A4 0 c4)) := Lib.hid (fun W hW => ⟨(hW.cell (p := ⟨g, 1, none⟩) hgx).trans kx1, (hW.cell (p := ⟨g, 2, none⟩) hgx).trans kx2⟩)
          have HLI : Hid (∀ W, Below wx.heap.size wx W → Calls Try.prog 12 #[.pointer (some ⟨w.heap.size, 0, none⟩)] W fun e w' => ∃ A c, e = .returned (.slice A 0 c) ∧ Below W.heap.size W w' ∧ IRd w' A []) := Lib.hid (fun W hW => line_form (HQ.out.below hW) (by simp))
          have HTI : Hid (∀ W, Below wx.heap.size wx W → Calls Try.prog 15 #[.pointer (some ⟨w.heap.size, 0, none⟩)] W fun e w' => e = .returned (.int .i64 t3) ∧ w' = W) := Lib.hid (fun W hW => ticks_any (HQ.out.below hW))
          have HXR : Hid (∀ W, Below wx.heap.size wx W → IRd W A4 []) := Lib.hid (fun W hW => (IRow.rd HX.out.row).below hW)
          have HSA : Hid (∀ W AA cc, IRd W AA [] → IRd W A4 [] → Calls Try.prog 17 #[.slice AA 0 cc, .slice A4 0 c4] W fun e w' => e = .returned (.bool true) ∧ Below W.heap.size W w') := Lib.hid (fun W AA cc h1 h2 => same_eq h1 h2 (by simp) cc c4)
          go_wp2_with fail
          refine wp_region_held_drew (S := fun W : World => W.cell? ⟨g, 1, none⟩ = some (.int .i64 t3) ∧ W.cell? ⟨g, 2, none⟩ = some (.slice A4 0 c4)) (by kernel_rfl) (by first | exact (HS.out _ ((Below.refl _ _).drew)) | (go_keep; done)) (fun hHeld => ?_)
          refine wpAnyH_take (i := 0) (oi := { dst := some 113, op := .move (.tmp 10), type := 24, pos := "law.go:70", after := #[], guard := none }) (v := ?_) rfl (by kernel_rfl) (by kernel_rfl) (by kernel_rfl) (fun _ _ _ h => h) (Or.inl ⟨by rfl, ?_⟩) (by assumption) ?_
          rotate_left
          ·intro w hSw; (try dsimp only at hSw); go_simp; try with_reducible rfl
          simp only [Act.put, setIfInBounds_toArray, set_cons_zero, set_cons_succ]
          refine wpAnyH_take (i := 1) (oi := { dst := some 114, op := .move (.tmp 11), type := 3, pos := "law.go:70", after := #[], guard := none }) (v := ?_) rfl (by kernel_rfl) (by kernel_rfl) (by kernel_rfl) (fun _ _ _ h => h) (Or.inl ⟨by rfl, ?_⟩) (by assumption) ?_
          rotate_left
          ·intro w hSw; (try dsimp only at hSw); go_simp; try with_reducible rfl
          simp only [Act.put, setIfInBounds_toArray, set_cons_zero, set_cons_succ]
          refine wpAnyH_take (i := 2) (oi := { dst := some 115, op := .binOp .neq 3 (.tmp 113) (.tmp 114) 3, type := 4, pos := "law.go:70", after := #[⟨0, .data⟩, ⟨1, .data⟩], guard := none }) (v := ?_) rfl (by kernel_rfl) (by kernel_rfl) (by kernel_rfl) (fun _ _ _ h => h) (Or.inl ⟨by rfl, ?_⟩) (by assumption) ?_
          rotate_left
          ·intro w hSw; (try dsimp only at hSw); go_simp; try with_reducible rfl
          simp only [Act.put, setIfInBounds_toArray, set_cons_zero, set_cons_succ]
          refine wpAnyH_take (i := 3) (oi := { dst := some 116, op := .move (.tmp 115), type := 4, pos := "law.go:70", after := #[⟨2, .data⟩], guard := none }) (v := ?_) rfl (by kernel_rfl) (by kernel_rfl) (by kernel_rfl) (fun _ _ _ h => h) (Or.inl ⟨by rfl, ?_⟩) (by assumption) ?_
          rotate_left
          ·intro w hSw; (try dsimp only at hSw); go_simp; try with_reducible rfl
          simp only [Act.put, setIfInBounds_toArray, set_cons_zero, set_cons_succ]
          refine wpAnyH_take (i := 4) (oi := { dst := some 117, op := .move (.tmp 5), type := 23, pos := "law.go:70", after := #[⟨3, .guard⟩], guard := some (3, false) }) (v := ?_) rfl (by kernel_rfl) (by kernel_rfl) (by kernel_rfl) (fun _ _ _ h => h) (Or.inl ⟨by rfl, ?_⟩) (by assumption) ?_
          rotate_left
          ·intro w hSw; (try dsimp only at hSw); go_simp; try with_reducible rfl
          simp only [Act.put, setIfInBounds_toArray, set_cons_zero, set_cons_succ]
          refine wpAnyH_take (i := 6) (oi := { dst := some 119, op := .fieldAddr 40 (.tmp 7) 2, type := 0, pos := "law.go:70", after := #[⟨3, .guard⟩], guard := some (3, false) }) (v := ?_) rfl (by kernel_rfl) (by kernel_rfl) (by kernel_rfl) (fun _ _ _ h => h) (Or.inl ⟨by rfl, ?_⟩) (by assumption) ?_
          rotate_left
          ·intro w hSw; (try dsimp only at hSw); go_simp; try with_reducible rfl
          simp only [Act.put, setIfInBounds_toArray, set_cons_zero, set_cons_succ]
          refine wpAnyH_take (i := 7) (oi := { dst := some 120, op := .load 31 (.tmp 119), type := 31, pos := "law.go:70", after := #[⟨6, .data⟩, ⟨3, .guard⟩], guard := some (3, false) }) (v := ?_) rfl (by kernel_rfl) (by kernel_rfl) (by kernel_rfl) (fun _ _ _ h => h) (Or.inl ⟨by rfl, ?_⟩) (by assumption) ?_
          rotate_left
          ·intro w hSw; (try dsimp only at hSw); go_simp; try with_reducible rfl
          simp only [Act.put, setIfInBounds_toArray, set_cons_zero, set_cons_succ]
          refine wpAnyH_ready (rs := [5]) (by kernel_rfl) (by simp) ?_
          refine AllReadyH.cons (o := { dst := some 118, op := .call { callee := .value (.func 12), args := #[.tmp 117], argTypes := #[23] }, type := 31, pos := "law.go:70", after := #[⟨4, .data⟩, ⟨3, .chain⟩, ⟨3, .guard⟩], guard := some (3, false) }) rfl (fun K hK => ?_) AllReadyH.nil
          go_simp
          refine (HLI.out _ (by go_grown)).mono ?_
          rintro e wL ⟨AL, cL, rfl, hbL, hrL⟩
          have hBL : Below wx.heap.size wx wL := (b_then (by go_grown) hbL)
          obtain ⟨u1, u2⟩ := HS.out wL hBL
          have hsL := hBL.size
          clear hHeld
          refine hK.out _ _ (by (try dsimp only); go_keep) (fun hHeld => ?_)
          clear hK K
          try simp only [Act.put, setIfInBounds_toArray, set_cons_zero, set_cons_succ]
          refine wpAnyH_ready (rs := [8]) (by kernel_rfl) (by simp) ?_
          refine AllReadyH.cons (o := { dst := some 121, op := .call { callee := .value (.func 17), args := #[.tmp 118, .tmp 120], argTypes := #[31, 31] }, type := 4, pos := "law.go:70", after := #[⟨5, .data⟩, ⟨7, .data⟩, ⟨5, .chain⟩, ⟨3, .guard⟩], guard := some (3, false) }) rfl (fun K hK => ?_) AllReadyH.nil
          go_simp
          refine (HSA.out _ _ _ (by first | exact hrL | exact hrL.below ((Below.refl _ _).drew)) (HXR.out _ (by first | exact hBL | exact hBL.drew))).mono ?_
          rintro e wM ⟨rfl, hbM⟩
          have hBM : Below wx.heap.size wx wM := (b_then (by first | exact hBL | exact hBL.drew) hbM)
          obtain ⟨m1, m2⟩ := HS.out wM hBM
          have hsM := hBM.size
          clear hHeld
          refine hK.out _ _ (by (try dsimp only); go_keep) (fun hHeld => ?_)
          clear hK K
          try simp only [Act.put, setIfInBounds_toArray, set_cons_zero, set_cons_succ]
          refine wpAnyH_take (i := 9) (oi := { dst := some 122, op := .unOp .not 4 (.tmp 121), type := 4, pos := "law.go:70", after := #[⟨8, .data⟩, ⟨3, .guard⟩], guard := some (3, false) }) (v := ?_) rfl (by kernel_rfl) (by kernel_rfl) (by kernel_rfl) (fun _ _ _ h => h) (Or.inl ⟨by rfl, ?_⟩) (by assumption) ?_
          rotate_left
          ·intro w hSw; (try dsimp only at hSw); go_simp; try with_reducible rfl
          simp only [Act.put, setIfInBounds_toArray, set_cons_zero, set_cons_succ]
          refine wpAnyH_take (i := 10) (oi := { dst := some 123, op := .pick (.tmp 116) (.const (.bool true)) (.tmp 122), type := 4, pos := "law.go:70", after := #[⟨3, .data⟩, ⟨9, .data⟩], guard := none }) (v := ?_) rfl (by kernel_rfl) (by kernel_rfl) (by kernel_rfl) (fun _ _ _ h => h) (Or.inl ⟨by rfl, ?_⟩) (by assumption) ?_
          rotate_left
          ·intro w hSw; (try dsimp only at hSw); go_simp; try with_reducible rfl
          simp only [Act.put, setIfInBounds_toArray, set_cons_zero, set_cons_succ]
          refine wpAnyH_take (i := 11) (oi := { dst := some 124, op := .move (.tmp 123), type := 4, pos := "law.go:70", after := #[⟨10, .data⟩, ⟨8, .chain⟩], guard := none }) (v := ?_) rfl (by kernel_rfl) (by kernel_rfl) (by kernel_rfl) (fun _ _ _ h => h) (Or.inl ⟨by rfl, ?_⟩) (by assumption) ?_
          rotate_left
          ·intro w hSw; (try dsimp only at hSw); go_simp; try with_reducible rfl
          simp only [Act.put, setIfInBounds_toArray, set_cons_zero, set_cons_succ]
          refine wpAnyH_take (i := 12) (oi := { dst := some 125, op := .move (.tmp 5), type := 23, pos := "law.go:70", after := #[⟨11, .guard⟩], guard := some (11, false) }) (v := ?_) rfl (by kernel_rfl) (by kernel_rfl) (by kernel_rfl) (fun _ _ _ h => h) (Or.inl ⟨by rfl, ?_⟩) (by assumption) ?_
          rotate_left
          ·intro w hSw; (try dsimp only at hSw); go_simp; try with_reducible rfl
          simp only [Act.put, setIfInBounds_toArray, set_cons_zero, set_cons_succ]
          refine wpAnyH_take (i := 14) (oi := { dst := some 127, op := .fieldAddr 40 (.tmp 7) 1, type := 0, pos := "law.go:70", after := #[⟨11, .guard⟩], guard := some (11, false) }) (v := ?_) rfl (by kernel_rfl) (by kernel_rfl) (by kernel_rfl) (fun _ _ _ h => h) (Or.inl ⟨by rfl, ?_⟩) (by assumption) ?_
          rotate_left
          ·intro w hSw; (try dsimp only at hSw); go_simp; try with_reducible rfl
          simp only [Act.put, setIfInBounds_toArray, set_cons_zero, set_cons_succ]
          refine wpAnyH_take (i := 15) (oi := { dst := some 128, op := .load 3 (.tmp 127), type := 3, pos := "law.go:70", after := #[⟨14, .data⟩, ⟨11, .guard⟩], guard := some (11, false) }) (v := ?_) rfl (by kernel_rfl) (by kernel_rfl) (by kernel_rfl) (fun _ _ _ h => h) (Or.inl ⟨by rfl, ?_⟩) (by assumption) ?_
          rotate_left
          ·intro w hSw; (try dsimp only at hSw); go_simp; try with_reducible rfl
          simp only [Act.put, setIfInBounds_toArray, set_cons_zero, set_cons_succ]
          refine wpAnyH_ready (rs := [13]) (by kernel_rfl) (by simp) ?_
          refine AllReadyH.cons (o := { dst := some 126, op := .call { callee := .value (.func 15), args := #[.tmp 125], argTypes := #[23] }, type := 3, pos := "law.go:70", after := #[⟨12, .data⟩, ⟨11, .chain⟩, ⟨11, .guard⟩], guard := some (11, false) }) rfl (fun K hK => ?_) AllReadyH.nil
          go_simp
          refine (HTI.out _ (by first | exact hBM | exact hBM.drew | go_grown)).mono ?_
          rintro e wZ ⟨rfl, hwZ⟩
          obtain rfl := hwZ.symm
          clear hwZ
          clear hHeld
          refine hK.out _ _ (by (try dsimp only); go_keep) (fun hHeld => ?_)
          clear hK K
          try simp only [Act.put, setIfInBounds_toArray, set_cons_zero, set_cons_succ]
          refine wpAnyH_take (i := 16) (oi := { dst := some 129, op := .binOp .neq 3 (.tmp 126) (.tmp 128) 3, type := 4, pos := "law.go:70", after := #[⟨13, .data⟩, ⟨15, .data⟩, ⟨11, .guard⟩], guard := some (11, false) }) (v := ?_) rfl (by kernel_rfl) (by kernel_rfl) (by kernel_rfl) (fun _ _ _ h => h) (Or.inl ⟨by rfl, ?_⟩) (by assumption) ?_
          rotate_left
          ·intro w hSw; (try dsimp only at hSw); go_simp; try with_reducible rfl
          simp only [Act.put, setIfInBounds_toArray, set_cons_zero, set_cons_succ]
          refine wpAnyH_take (i := 17) (oi := { dst := some 130, op := .pick (.tmp 124) (.const (.bool true)) (.tmp 129), type := 4, pos := "law.go:70", after := #[⟨11, .data⟩, ⟨16, .data⟩], guard := none }) (v := ?_) rfl (by kernel_rfl) (by kernel_rfl) (by kernel_rfl) (fun _ _ _ h => h) (Or.inl ⟨by rfl, ?_⟩) (by assumption) ?_
          rotate_left
          ·intro w hSw; (try dsimp only at hSw); go_simp; try with_reducible rfl
          simp only [Act.put, setIfInBounds_toArray, set_cons_zero, set_cons_succ]
          refine wpAnyH_take (i := 18) (oi := { dst := some 131, op := .move (.tmp 130), type := 4, pos := "law.go:70", after := #[⟨17, .data⟩, ⟨13, .chain⟩], guard := none }) (v := ?_) rfl (by kernel_rfl) (by kernel_rfl) (by kernel_rfl) (fun _ _ _ h => h) (Or.inl ⟨by rfl, ?_⟩) (by assumption) ?_
          rotate_left
          ·intro w hSw; (try dsimp only at hSw); go_simp; try with_reducible rfl
          simp only [Act.put, setIfInBounds_toArray, set_cons_zero, set_cons_succ]
          refine wpAnyH_take (i := 19) (oi := { dst := some 132, op := .move (.tmp 15), type := 4, pos := "law.go:70", after := #[⟨18, .guard⟩], guard := some (18, false) }) (v := ?_) rfl (by kernel_rfl) (by kernel_rfl) (by kernel_rfl) (fun _ _ _ h => h) (Or.inl ⟨by rfl, ?_⟩) (by assumption) ?_
          rotate_left
          ·intro w hSw; (try dsimp only at hSw); go_simp; try with_reducible rfl
          simp only [Act.put, setIfInBounds_toArray, set_cons_zero, set_cons_succ]
          refine wpAnyH_take (i := 20) (oi := { dst := some 133, op := .fieldAddr 40 (.tmp 7) 2, type := 0, pos := "law.go:70", after := #[⟨18, .guard⟩], guard := some (18, false) }) (v := ?_) rfl (by kernel_rfl) (by kernel_rfl) (by kernel_rfl) (fun _ _ _ h => h) (Or.inl ⟨by rfl, ?_⟩) (by assumption) ?_
          rotate_left
          ·intro w hSw; (try dsimp only at hSw); go_simp; try with_reducible rfl
          simp only [Act.put, setIfInBounds_toArray, set_cons_zero, set_cons_succ]
          refine wpAnyH_take (i := 21) (oi := { dst := some 134, op := .load 31 (.tmp 133), type := 31, pos := "law.go:70", after := #[⟨20, .data⟩, ⟨18, .guard⟩], guard := some (18, false) }) (v := ?_) rfl (by kernel_rfl) (by kernel_rfl) (by kernel_rfl) (fun _ _ _ h => h) (Or.inl ⟨by rfl, ?_⟩) (by assumption) ?_
          rotate_left
          ·intro w hSw; (try dsimp only at hSw); go_simp; try with_reducible rfl
          simp only [Act.put, setIfInBounds_toArray, set_cons_zero, set_cons_succ]
          refine wpAnyH_take (i := 22) (oi := { dst := some 135, op := .call { callee := .builtin .len, args := #[.tmp 134], argTypes := #[31] }, type := 3, pos := "law.go:70", after := #[⟨21, .data⟩, ⟨18, .guard⟩], guard := some (18, false) }) (v := ?_) rfl (by kernel_rfl) (by kernel_rfl) (by kernel_rfl) (fun _ _ _ h => h) (Or.inl ⟨by rfl, ?_⟩) (by assumption) ?_
          rotate_left
          ·intro w hSw; (try dsimp only at hSw); go_simp; try with_reducible rfl
          simp only [Act.put, setIfInBounds_toArray, set_cons_zero, set_cons_succ]
          refine wpAnyH_take (i := 23) (oi := { dst := some 136, op := .binOp .gtr 3 (.tmp 135) (.const (.int .i64 0)) 3, type := 4, pos := "law.go:70", after := #[⟨22, .data⟩, ⟨18, .guard⟩], guard := some (18, false) }) (v := ?_) rfl (by kernel_rfl) (by kernel_rfl) (by kernel_rfl) (fun _ _ _ h => h) (Or.inl ⟨by rfl, ?_⟩) (by assumption) ?_
          rotate_left
          ·intro w hSw; (try dsimp only at hSw); go_simp; try with_reducible rfl
          simp only [Act.put, setIfInBounds_toArray, set_cons_zero, set_cons_succ]
          refine wpAnyH_take (i := 24) (oi := { dst := some 137, op := .binOp .neq 4 (.tmp 132) (.tmp 136) 4, type := 4, pos := "law.go:70", after := #[⟨19, .data⟩, ⟨23, .data⟩, ⟨18, .guard⟩], guard := some (18, false) }) (v := ?_) rfl (by kernel_rfl) (by kernel_rfl) (by kernel_rfl) (fun _ _ _ h => h) (Or.inl ⟨by rfl, ?_⟩) (by assumption) ?_
          rotate_left
          ·intro w hSw; (try dsimp only at hSw); go_simp; try with_reducible rfl
          simp only [Act.put, setIfInBounds_toArray, set_cons_zero, set_cons_succ]
          refine wpAnyH_take (i := 25) (oi := { dst := some 138, op := .pick (.tmp 131) (.const (.bool true)) (.tmp 137), type := 4, pos := "law.go:70", after := #[⟨18, .data⟩, ⟨24, .data⟩], guard := none }) (v := ?_) rfl (by kernel_rfl) (by kernel_rfl) (by kernel_rfl) (fun _ _ _ h => h) (Or.inl ⟨by rfl, ?_⟩) (by assumption) ?_
          rotate_left
          ·intro w hSw; (try dsimp only at hSw); go_simp; try with_reducible rfl
          simp only [Act.put, setIfInBounds_toArray, set_cons_zero, set_cons_succ]
          refine wpAnyH_take (i := 26) (oi := { dst := some 139, op := .move (.tmp 138), type := 4, pos := "law.go:70", after := #[⟨25, .data⟩, ⟨18, .chain⟩], guard := none }) (v := ?_) rfl (by kernel_rfl) (by kernel_rfl) (by kernel_rfl) (fun _ _ _ h => h) (Or.inl ⟨by rfl, ?_⟩) (by assumption) ?_
          rotate_left
          ·intro w hSw; (try dsimp only at hSw); go_simp; try with_reducible rfl
          simp only [Act.put, setIfInBounds_toArray, set_cons_zero, set_cons_succ]
          refine wpAnyH_take (i := 27) (oi := { dst := some 140, op := .move (.tmp 15), type := 4, pos := "law.go:70", after := #[⟨26, .guard⟩], guard := some (26, false) }) (v := ?_) rfl (by kernel_rfl) (by kernel_rfl) (by kernel_rfl) (fun _ _ _ h => h) (Or.inl ⟨by rfl, ?_⟩) (by assumption) ?_
          rotate_left
          ·intro w hSw; (try dsimp only at hSw); go_simp; try with_reducible rfl
          simp only [Act.put, setIfInBounds_toArray, set_cons_zero, set_cons_succ]
          refine wpAnyH_take (i := 28) (oi := { dst := some 141, op := .move (.tmp 140), type := 4, pos := "law.go:70", after := #[⟨27, .data⟩, ⟨26, .chain⟩, ⟨26, .guard⟩], guard := some (26, false) }) (v := ?_) rfl (by kernel_rfl) (by kernel_rfl) (by kernel_rfl) (fun _ _ _ h => h) (Or.inl ⟨by rfl, ?_⟩) (by assumption) ?_
          rotate_left
          ·intro w hSw; (try dsimp only at hSw); go_simp; try with_reducible rfl
          simp only [Act.put, setIfInBounds_toArray, set_cons_zero, set_cons_succ]
          refine wpAnyH_take (i := 29) (oi := { dst := some 142, op := .move (.tmp 14), type := 3, pos := "law.go:70", after := #[⟨28, .guard⟩], guard := some (28, true) }) (v := undef) rfl (by kernel_rfl) (by kernel_rfl) (by kernel_rfl) (fun _ _ _ h => h) (Or.inr ⟨by rfl, rfl⟩) (by assumption) ?_
          simp only [Act.put, setIfInBounds_toArray, set_cons_zero, set_cons_succ]
          refine wpAnyH_take (i := 30) (oi := { dst := some 143, op := .fieldAddr 40 (.tmp 7) 2, type := 0, pos := "law.go:70", after := #[⟨28, .guard⟩], guard := some (28, true) }) (v := undef) rfl (by kernel_rfl) (by kernel_rfl) (by kernel_rfl) (fun _ _ _ h => h) (Or.inr ⟨by rfl, rfl⟩) (by assumption) ?_
          simp only [Act.put, setIfInBounds_toArray, set_cons_zero, set_cons_succ]
          refine wpAnyH_take (i := 31) (oi := { dst := some 144, op := .load 31 (.tmp 143), type := 31, pos := "law.go:70", after := #[⟨30, .data⟩, ⟨28, .guard⟩], guard := some (28, true) }) (v := undef) rfl (by kernel_rfl) (by kernel_rfl) (by kernel_rfl) (fun _ _ _ h => h) (Or.inr ⟨by rfl, rfl⟩) (by assumption) ?_
          simp only [Act.put, setIfInBounds_toArray, set_cons_zero, set_cons_succ]
          refine wpAnyH_take (i := 32) (oi := { dst := some 145, op := .indexAddr 31 (.tmp 144) (.const (.int .i64 0)), type := 0, pos := "law.go:70", after := #[⟨31, .data⟩, ⟨28, .guard⟩], guard := some (28, true) }) (v := undef) rfl (by kernel_rfl) (by kernel_rfl) (by kernel_rfl) (fun _ _ _ h => h) (Or.inr ⟨by rfl, rfl⟩) (by assumption) ?_
          simp only [Act.put, setIfInBounds_toArray, set_cons_zero, set_cons_succ]
          refine wpAnyH_take (i := 33) (oi := { dst := some 146, op := .load 3 (.tmp 145), type := 3, pos := "law.go:70", after := #[⟨32, .data⟩, ⟨28, .guard⟩], guard := some (28, true) }) (v := undef) rfl (by kernel_rfl) (by kernel_rfl) (by kernel_rfl) (fun _ _ _ h => h) (Or.inr ⟨by rfl, rfl⟩) (by assumption) ?_
          simp only [Act.put, setIfInBounds_toArray, set_cons_zero, set_cons_succ]
          refine wpAnyH_take (i := 34) (oi := { dst := some 147, op := .binOp .neq 3 (.tmp 142) (.tmp 146) 3, type := 4, pos := "law.go:70", after := #[⟨29, .data⟩, ⟨33, .data⟩, ⟨28, .guard⟩], guard := some (28, true) }) (v := undef) rfl (by kernel_rfl) (by kernel_rfl) (by kernel_rfl) (fun _ _ _ h => h) (Or.inr ⟨by rfl, rfl⟩) (by assumption) ?_
          simp only [Act.put, setIfInBounds_toArray, set_cons_zero, set_cons_succ]
          refine wpAnyH_take (i := 35) (oi := { dst := some 148, op := .pick (.tmp 141) (.tmp 147) (.const (.bool false)), type := 4, pos := "law.go:70", after := #[⟨28, .data⟩, ⟨34, .data⟩, ⟨26, .guard⟩], guard := some (26, false) }) (v := ?_) rfl (by kernel_rfl) (by kernel_rfl) (by kernel_rfl) (fun _ _ _ h => h) (Or.inl ⟨by rfl, ?_⟩) (by assumption) ?_
          rotate_left
          ·intro w hSw; (try dsimp only at hSw); go_simp; try with_reducible rfl
          simp only [Act.put, setIfInBounds_toArray, set_cons_zero, set_cons_succ]
          refine wpAnyH_take (i := 36) (oi := { dst := some 149, op := .pick (.tmp 139) (.const (.bool true)) (.tmp 148), type := 4, pos := "law.go:70", after := #[⟨26, .data⟩, ⟨35, .data⟩], guard := none }) (v := ?_) rfl (by kernel_rfl) (by kernel_rfl) (by kernel_rfl) (fun _ _ _ h => h) (Or.inl ⟨by rfl, ?_⟩) (by assumption) ?_
          rotate_left
          ·intro w hSw; (try dsimp only at hSw); go_simp; try with_reducible rfl
          simp only [Act.put, setIfInBounds_toArray, set_cons_zero, set_cons_succ]
          refine wpAnyH_take (i := 37) (oi := { dst := some 150, op := .move (.tmp 149), type := 4, pos := "law.go:70", after := #[⟨36, .data⟩, ⟨28, .chain⟩], guard := none }) (v := ?_) rfl (by kernel_rfl) (by kernel_rfl) (by kernel_rfl) (fun _ _ _ h => h) (Or.inl ⟨by rfl, ?_⟩) (by assumption) ?_
          rotate_left
          ·intro w hSw; (try dsimp only at hSw); go_simp; try with_reducible rfl
          simp only [Act.put, setIfInBounds_toArray, set_cons_zero, set_cons_succ]
          refine wpAnyH_take (i := 38) (oi := { dst := some 151, op := .move (.tmp 15), type := 4, pos := "law.go:70", after := #[⟨37, .guard⟩], guard := some (37, false) }) (v := ?_) rfl (by kernel_rfl) (by kernel_rfl) (by kernel_rfl) (fun _ _ _ h => h) (Or.inl ⟨by rfl, ?_⟩) (by assumption) ?_
          rotate_left
          ·intro w hSw; (try dsimp only at hSw); go_simp; try with_reducible rfl
          simp only [Act.put, setIfInBounds_toArray, set_cons_zero, set_cons_succ]
          refine wpAnyH_take (i := 39) (oi := { dst := some 152, op := .unOp .not 4 (.tmp 151), type := 4, pos := "law.go:70", after := #[⟨38, .data⟩, ⟨37, .guard⟩], guard := some (37, false) }) (v := ?_) rfl (by kernel_rfl) (by kernel_rfl) (by kernel_rfl) (fun _ _ _ h => h) (Or.inl ⟨by rfl, ?_⟩) (by assumption) ?_
          rotate_left
          ·intro w hSw; (try dsimp only at hSw); go_simp; try with_reducible rfl
          simp only [Act.put, setIfInBounds_toArray, set_cons_zero, set_cons_succ]
          refine wpAnyH_take (i := 40) (oi := { dst := some 153, op := .move (.tmp 152), type := 4, pos := "law.go:70", after := #[⟨39, .data⟩, ⟨37, .chain⟩, ⟨37, .guard⟩], guard := some (37, false) }) (v := ?_) rfl (by kernel_rfl) (by kernel_rfl) (by kernel_rfl) (fun _ _ _ h => h) (Or.inl ⟨by rfl, ?_⟩) (by assumption) ?_
          rotate_left
          ·intro w hSw; (try dsimp only at hSw); go_simp; try with_reducible rfl
          simp only [Act.put, setIfInBounds_toArray, set_cons_zero, set_cons_succ]
          refine wpAnyH_take (i := 41) (oi := { dst := some 154, op := .move (.tmp 14), type := 3, pos := "law.go:70", after := #[⟨40, .guard⟩], guard := some (40, true) }) (v := ?_) rfl (by kernel_rfl) (by kernel_rfl) (by kernel_rfl) (fun _ _ _ h => h) (Or.inl ⟨by rfl, ?_⟩) (by assumption) ?_
          rotate_left
          ·intro w hSw; (try dsimp only at hSw); go_simp; try with_reducible rfl
          simp only [Act.put, setIfInBounds_toArray, set_cons_zero, set_cons_succ]
          refine wpAnyH_take (i := 42) (oi := { dst := some 155, op := .binOp .neq 3 (.tmp 154) (.const (.int .i64 0)) 3, type := 4, pos := "law.go:70", after := #[⟨41, .data⟩, ⟨40, .guard⟩], guard := some (40, true) }) (v := ?_) rfl (by kernel_rfl) (by kernel_rfl) (by kernel_rfl) (fun _ _ _ h => h) (Or.inl ⟨by rfl, ?_⟩) (by assumption) ?_
          rotate_left
          ·intro w hSw; (try dsimp only at hSw); go_simp; try with_reducible rfl
          simp only [Act.put, setIfInBounds_toArray, set_cons_zero, set_cons_succ]
          refine wpAnyH_take (i := 43) (oi := { dst := some 156, op := .pick (.tmp 153) (.tmp 155) (.const (.bool false)), type := 4, pos := "law.go:70", after := #[⟨40, .data⟩, ⟨42, .data⟩, ⟨37, .guard⟩], guard := some (37, false) }) (v := ?_) rfl (by kernel_rfl) (by kernel_rfl) (by kernel_rfl) (fun _ _ _ h => h) (Or.inl ⟨by rfl, ?_⟩) (by assumption) ?_
          rotate_left
          ·intro w hSw; (try dsimp only at hSw); go_simp; try with_reducible rfl
          simp only [Act.put, setIfInBounds_toArray, set_cons_zero, set_cons_succ]
          refine wpAnyH_take (i := 44) (oi := { dst := some 157, op := .pick (.tmp 150) (.const (.bool true)) (.tmp 156), type := 4, pos := "law.go:70", after := #[⟨37, .data⟩, ⟨43, .data⟩], guard := none }) (v := ?_) rfl (by kernel_rfl) (by kernel_rfl) (by kernel_rfl) (fun _ _ _ h => h) (Or.inl ⟨by rfl, ?_⟩) (by assumption) ?_
          rotate_left
          ·intro w hSw; (try dsimp only at hSw); go_simp; try with_reducible rfl
          simp only [Act.put, setIfInBounds_toArray, set_cons_zero, set_cons_succ]
          refine wpAnyH_done (by kernel_rfl) ?_ _
          all_goals
           have HBF : Hid (Below w.heap.size w wM) := Lib.hid (b_then HBt.out hBM)
           have HQF : Hid (QAt wM w.heap.size w.heap.size q t3 v7 []) := Lib.hid (HQ.out.below hBM)
           have HXF : Hid (XAt wM g w.heap.size q t3 A4 c4 []) := Lib.hid (HX.out.below hBM)
           clear hbL hrL hBL hbM hBM u1 u2 m1 m2 hsL hsM
           go_wp2_with fail
           go_roundw
           case rel => exact ⟨k + 1, t3, v7, [], A4, c4, by go_num, by omega, by omega, HBF, HQF, HXF, HLN⟩
           case measure => simp [intOf]; omega
         | cons hd tl =>
          have HN := Lib.hid (now_cons HQ.out)
          obtain ⟨bx, cpx, hvx, hbbx, hbwx, hcx⟩ := HX.out.row.cell 0 (by simp)
          simp only [List.getElem_cons_zero] at hcx
          obtain ⟨rfl, _, rfl⟩ : A4 = some ⟨bx, 0, none⟩ ∧ (hd :: tl).length = (hd :: tl).length ∧ c4 = cpx := by simpa using hvx
          obtain ⟨n, hn⟩ : ∃ n, n = (hd :: tl).length := ⟨_, rfl⟩
          have kx1 : wx.cell? ⟨g, 1, none⟩ = some (.int .i64 t3) := cell_heap HX.out.cells 1
          have kx2 : wx.cell? ⟨g, 2, none⟩ = some (.slice (some ⟨bx, 0, none⟩) n c4) := by rw [hn]; exact cell_heap HX.out.cells 2
          have hgx := heap_lt HX.out.cells
          have HS : Hid (∀ W : World, Below wx.heap.size wx W → W.cell? ⟨g, 1, none⟩ = some (.int .i64 t3) ∧ W.cell? ⟨g, 2, none⟩ = some (.slice (some ⟨bx, 0, none⟩) n c4) ∧ W.cell? ⟨bx, 0, none⟩ = some (.int .i64 hd)) := Lib.hid (fun W hW => ⟨(hW.cell (p := ⟨g, 1, none⟩) hgx).trans kx1, (hW.cell (p := ⟨g, 2, none⟩) hgx).trans kx2, (hW.cell (p := ⟨bx, 0, none⟩) hbwx).trans hcx⟩)
          have hl9 : (hd :: tl).length ≤ 900 := by have := HLN.out; omega
          have HLI : Hid (∀ W, Below wx.heap.size wx W → Calls Try.prog 12 #[.pointer (some ⟨w.heap.size, 0, none⟩)] W fun e w' => ∃ A c, e = .returned (.slice A n c) ∧ Below W.heap.size W w' ∧ IRd w' A (hd :: tl)) := Lib.hid (fun W hW => by rw [hn]; exact line_form (HQ.out.below hW) (by omega))
          have HTI : Hid (∀ W, Below wx.heap.size wx W → Calls Try.prog 15 #[.pointer (some ⟨w.heap.size, 0, none⟩)] W fun e w' => e = .returned (.int .i64 t3) ∧ w' = W) := Lib.hid (fun W hW => ticks_any (HQ.out.below hW))
          have HXR : Hid (∀ W, Below wx.heap.size wx W → IRd W (some ⟨bx, 0, none⟩) (hd :: tl)) := Lib.hid (fun W hW => (IRow.rd HX.out.row).below hW)
          have HSA : Hid (∀ W AA cc, IRd W AA (hd :: tl) → IRd W (some ⟨bx, 0, none⟩) (hd :: tl) → Calls Try.prog 17 #[.slice AA n cc, .slice (some ⟨bx, 0, none⟩) n c4] W fun e w' => e = .returned (.bool true) ∧ Below W.heap.size W w') := Lib.hid (fun W AA cc h1 h2 => by rw [hn]; exact same_eq h1 h2 (by omega) cc c4)
          have hn1 : 0 < n := by rw [hn]; simp
          have hn2 : (0 : Int) < (n : Int) := by omega
          have hn3 : decide (0 < n) = true := decide_eq_true hn1
          have hn4 : decide ((0 : Int) < (n : Int)) = true := decide_eq_true hn2
          have HNN := Lib.hid hn
          clear hvx hbbx hn hl9
          refine HN.out.mono ?_
          rintro e wN ⟨rfl, hw⟩
          obtain rfl := hw.symm
          clear hw HN
          go_wp2_with fail
          refine wp_region_held_drew (S := fun W : World => W.cell? ⟨g, 1, none⟩ = some (.int .i64 t3) ∧ W.cell? ⟨g, 2, none⟩ = some (.slice (some ⟨bx, 0, none⟩) n c4) ∧ W.cell? ⟨bx, 0, none⟩ = some (.int .i64 hd)) (by kernel_rfl) (by first | exact (HS.out _ ((Below.refl _ _).drew)) | (go_keep; done)) (fun hHeld => ?_)
          refine wpAnyH_take (i := 0) (oi := { dst := some 113, op := .move (.tmp 10), type := 24, pos := "law.go:70", after := #[], guard := none }) (v := ?_) rfl (by kernel_rfl) (by kernel_rfl) (by kernel_rfl) (fun _ _ _ h => h) (Or.inl ⟨by rfl, ?_⟩) (by assumption) ?_
          rotate_left
          ·intro w hSw; (try dsimp only at hSw); go_simp; try with_reducible rfl
          simp only [Act.put, setIfInBounds_toArray, set_cons_zero, set_cons_succ]
          refine wpAnyH_take (i := 1) (oi := { dst := some 114, op := .move (.tmp 11), type := 3, pos := "law.go:70", after := #[], guard := none }) (v := ?_) rfl (by kernel_rfl) (by kernel_rfl) (by kernel_rfl) (fun _ _ _ h => h) (Or.inl ⟨by rfl, ?_⟩) (by assumption) ?_
          rotate_left
          ·intro w hSw; (try dsimp only at hSw); go_simp; try with_reducible rfl
          simp only [Act.put, setIfInBounds_toArray, set_cons_zero, set_cons_succ]
          refine wpAnyH_take (i := 2) (oi := { dst := some 115, op := .binOp .neq 3 (.tmp 113) (.tmp 114) 3, type := 4, pos := "law.go:70", after := #[⟨0, .data⟩, ⟨1, .data⟩], guard := none }) (v := ?_) rfl (by kernel_rfl) (by kernel_rfl) (by kernel_rfl) (fun _ _ _ h => h) (Or.inl ⟨by rfl, ?_⟩) (by assumption) ?_
          rotate_left
          ·intro w hSw; (try dsimp only at hSw); go_simp; try with_reducible rfl
          simp only [Act.put, setIfInBounds_toArray, set_cons_zero, set_cons_succ]
          refine wpAnyH_take (i := 3) (oi := { dst := some 116, op := .move (.tmp 115), type := 4, pos := "law.go:70", after := #[⟨2, .data⟩], guard := none }) (v := ?_) rfl (by kernel_rfl) (by kernel_rfl) (by kernel_rfl) (fun _ _ _ h => h) (Or.inl ⟨by rfl, ?_⟩) (by assumption) ?_
          rotate_left
          ·intro w hSw; (try dsimp only at hSw); go_simp; try with_reducible rfl
          simp only [Act.put, setIfInBounds_toArray, set_cons_zero, set_cons_succ]
          refine wpAnyH_take (i := 4) (oi := { dst := some 117, op := .move (.tmp 5), type := 23, pos := "law.go:70", after := #[⟨3, .guard⟩], guard := some (3, false) }) (v := ?_) rfl (by kernel_rfl) (by kernel_rfl) (by kernel_rfl) (fun _ _ _ h => h) (Or.inl ⟨by rfl, ?_⟩) (by assumption) ?_
          rotate_left
          ·intro w hSw; (try dsimp only at hSw); go_simp; try with_reducible rfl
          simp only [Act.put, setIfInBounds_toArray, set_cons_zero, set_cons_succ]
          refine wpAnyH_take (i := 6) (oi := { dst := some 119, op := .fieldAddr 40 (.tmp 7) 2, type := 0, pos := "law.go:70", after := #[⟨3, .guard⟩], guard := some (3, false) }) (v := ?_) rfl (by kernel_rfl) (by kernel_rfl) (by kernel_rfl) (fun _ _ _ h => h) (Or.inl ⟨by rfl, ?_⟩) (by assumption) ?_
          rotate_left
          ·intro w hSw; (try dsimp only at hSw); go_simp; try with_reducible rfl
          simp only [Act.put, setIfInBounds_toArray, set_cons_zero, set_cons_succ]
          refine wpAnyH_take (i := 7) (oi := { dst := some 120, op := .load 31 (.tmp 119), type := 31, pos := "law.go:70", after := #[⟨6, .data⟩, ⟨3, .guard⟩], guard := some (3, false) }) (v := ?_) rfl (by kernel_rfl) (by kernel_rfl) (by kernel_rfl) (fun _ _ _ h => h) (Or.inl ⟨by rfl, ?_⟩) (by assumption) ?_
          rotate_left
          ·intro w hSw; (try dsimp only at hSw); go_simp; try with_reducible rfl
          simp only [Act.put, setIfInBounds_toArray, set_cons_zero, set_cons_succ]
          refine wpAnyH_ready (rs := [5]) (by kernel_rfl) (by simp) ?_
          refine AllReadyH.cons (o := { dst := some 118, op := .call { callee := .value (.func 12), args := #[.tmp 117], argTypes := #[23] }, type := 31, pos := "law.go:70", after := #[⟨4, .data⟩, ⟨3, .chain⟩, ⟨3, .guard⟩], guard := some (3, false) }) rfl (fun K hK => ?_) AllReadyH.nil
          go_simp
          refine (HLI.out _ (by go_grown)).mono ?_
          rintro e wL ⟨AL, cL, rfl, hbL, hrL⟩
          have hBL : Below wx.heap.size wx wL := (b_then (by go_grown) hbL)
          obtain ⟨u1, u2, u3⟩ := HS.out wL hBL
          have hsL := hBL.size
          clear hHeld
          refine hK.out _ _ (by (try dsimp only); go_keep) (fun hHeld => ?_)
          clear hK K
          try simp only [Act.put, setIfInBounds_toArray, set_cons_zero, set_cons_succ]
          refine wpAnyH_ready (rs := [8]) (by kernel_rfl) (by simp) ?_
          refine AllReadyH.cons (o := { dst := some 121, op := .call { callee := .value (.func 17), args := #[.tmp 118, .tmp 120], argTypes := #[31, 31] }, type := 4, pos := "law.go:70", after := #[⟨5, .data⟩, ⟨7, .data⟩, ⟨5, .chain⟩, ⟨3, .guard⟩], guard := some (3, false) }) rfl (fun K hK => ?_) AllReadyH.nil
          go_simp
          refine (HSA.out _ _ _ (by first | exact hrL | exact hrL.below ((Below.refl _ _).drew)) (HXR.out _ (by first | exact hBL | exact hBL.drew))).mono ?_
          rintro e wM ⟨rfl, hbM⟩
          have hBM : Below wx.heap.size wx wM := (b_then (by first | exact hBL | exact hBL.drew) hbM)
          obtain ⟨m1, m2, m3⟩ := HS.out wM hBM
          have hsM := hBM.size
          clear hHeld
          refine hK.out _ _ (by (try dsimp only); go_keep) (fun hHeld => ?_)
          clear hK K
          try simp only [Act.put, setIfInBounds_toArray, set_cons_zero, set_cons_succ]
          refine wpAnyH_take (i := 9) (oi := { dst := some 122, op := .unOp .not 4 (.tmp 121), type := 4, pos := "law.go:70", after := #[⟨8, .data⟩, ⟨3, .guard⟩], guard := some (3, false) }) (v := ?_) rfl (by kernel_rfl) (by kernel_rfl) (by kernel_rfl) (fun _ _ _ h => h) (Or.inl ⟨by rfl, ?_⟩) (by assumption) ?_
          rotate_left
          ·intro w hSw; (try dsimp only at hSw); go_simp; try with_reducible rfl
          simp only [Act.put, setIfInBounds_toArray, set_cons_zero, set_cons_succ]
          refine wpAnyH_take (i := 10) (oi := { dst := some 123, op := .pick (.tmp 116) (.const (.bool true)) (.tmp 122), type := 4, pos := "law.go:70", after := #[⟨3, .data⟩, ⟨9, .data⟩], guard := none }) (v := ?_) rfl (by kernel_rfl) (by kernel_rfl) (by kernel_rfl) (fun _ _ _ h => h) (Or.inl ⟨by rfl, ?_⟩) (by assumption) ?_
          rotate_left
          ·intro w hSw; (try dsimp only at hSw); go_simp; try with_reducible rfl
          simp only [Act.put, setIfInBounds_toArray, set_cons_zero, set_cons_succ]
          refine wpAnyH_take (i := 11) (oi := { dst := some 124, op := .move (.tmp 123), type := 4, pos := "law.go:70", after := #[⟨10, .data⟩, ⟨8, .chain⟩], guard := none }) (v := ?_) rfl (by kernel_rfl) (by kernel_rfl) (by kernel_rfl) (fun _ _ _ h => h) (Or.inl ⟨by rfl, ?_⟩) (by assumption) ?_
          rotate_left
          ·intro w hSw; (try dsimp only at hSw); go_simp; try with_reducible rfl
          simp only [Act.put, setIfInBounds_toArray, set_cons_zero, set_cons_succ]
          refine wpAnyH_take (i := 12) (oi := { dst := some 125, op := .move (.tmp 5), type := 23, pos := "law.go:70", after := #[⟨11, .guard⟩], guard := some (11, false) }) (v := ?_) rfl (by kernel_rfl) (by kernel_rfl) (by kernel_rfl) (fun _ _ _ h => h) (Or.inl ⟨by rfl, ?_⟩) (by assumption) ?_
          rotate_left
          ·intro w hSw; (try dsimp only at hSw); go_simp; try with_reducible rfl
          simp only [Act.put, setIfInBounds_toArray, set_cons_zero, set_cons_succ]
          refine wpAnyH_take (i := 14) (oi := { dst := some 127, op := .fieldAddr 40 (.tmp 7) 1, type := 0, pos := "law.go:70", after := #[⟨11, .guard⟩], guard := some (11, false) }) (v := ?_) rfl (by kernel_rfl) (by kernel_rfl) (by kernel_rfl) (fun _ _ _ h => h) (Or.inl ⟨by rfl, ?_⟩) (by assumption) ?_
          rotate_left
          ·intro w hSw; (try dsimp only at hSw); go_simp; try with_reducible rfl
          simp only [Act.put, setIfInBounds_toArray, set_cons_zero, set_cons_succ]
          refine wpAnyH_take (i := 15) (oi := { dst := some 128, op := .load 3 (.tmp 127), type := 3, pos := "law.go:70", after := #[⟨14, .data⟩, ⟨11, .guard⟩], guard := some (11, false) }) (v := ?_) rfl (by kernel_rfl) (by kernel_rfl) (by kernel_rfl) (fun _ _ _ h => h) (Or.inl ⟨by rfl, ?_⟩) (by assumption) ?_
          rotate_left
          ·intro w hSw; (try dsimp only at hSw); go_simp; try with_reducible rfl
          simp only [Act.put, setIfInBounds_toArray, set_cons_zero, set_cons_succ]
          refine wpAnyH_ready (rs := [13]) (by kernel_rfl) (by simp) ?_
          refine AllReadyH.cons (o := { dst := some 126, op := .call { callee := .value (.func 15), args := #[.tmp 125], argTypes := #[23] }, type := 3, pos := "law.go:70", after := #[⟨12, .data⟩, ⟨11, .chain⟩, ⟨11, .guard⟩], guard := some (11, false) }) rfl (fun K hK => ?_) AllReadyH.nil
          go_simp
          refine (HTI.out _ (by first | exact hBM | exact hBM.drew | go_grown)).mono ?_
          rintro e wZ ⟨rfl, hwZ⟩
          obtain rfl := hwZ.symm
          clear hwZ
          clear hHeld
          refine hK.out _ _ (by (try dsimp only); go_keep) (fun hHeld => ?_)
          clear hK K
          try simp only [Act.put, setIfInBounds_toArray, set_cons_zero, set_cons_succ]
          refine wpAnyH_take (i := 16) (oi := { dst := some 129, op := .binOp .neq 3 (.tmp 126) (.tmp 128) 3, type := 4, pos := "law.go:70", after := #[⟨13, .data⟩, ⟨15, .data⟩, ⟨11, .guard⟩], guard := some (11, false) }) (v := ?_) rfl (by kernel_rfl) (by kernel_rfl) (by kernel_rfl) (fun _ _ _ h => h) (Or.inl ⟨by rfl, ?_⟩) (by assumption) ?_
          rotate_left
          ·intro w hSw; (try dsimp only at hSw); go_simp; try with_reducible rfl
          simp only [Act.put, setIfInBounds_toArray, set_cons_zero, set_cons_succ]
          refine wpAnyH_take (i := 17) (oi := { dst := some 130, op := .pick (.tmp 124) (.const (.bool true)) (.tmp 129), type := 4, pos := "law.go:70", after := #[⟨11, .data⟩, ⟨16, .data⟩], guard := none }) (v := ?_) rfl (by kernel_rfl) (by kernel_rfl) (by kernel_rfl) (fun _ _ _ h => h) (Or.inl ⟨by rfl, ?_⟩) (by assumption) ?_
          rotate_left
          ·intro w hSw; (try dsimp only at hSw); go_simp; try with_reducible rfl
          simp only [Act.put, setIfInBounds_toArray, set_cons_zero, set_cons_succ]
          refine wpAnyH_take (i := 18) (oi := { dst := some 131, op := .move (.tmp 130), type := 4, pos := "law.go:70", after := #[⟨17, .data⟩, ⟨13, .chain⟩], guard := none }) (v := ?_) rfl (by kernel_rfl) (by kernel_rfl) (by kernel_rfl) (fun _ _ _ h => h) (Or.inl ⟨by rfl, ?_⟩) (by assumption) ?_
          rotate_left
          ·intro w hSw; (try dsimp only at hSw); go_simp; try with_reducible rfl
          simp only [Act.put, setIfInBounds_toArray, set_cons_zero, set_cons_succ]
          refine wpAnyH_take (i := 19) (oi := { dst := some 132, op := .move (.tmp 15), type := 4, pos := "law.go:70", after := #[⟨18, .guard⟩], guard := some (18, false) }) (v := ?_) rfl (by kernel_rfl) (by kernel_rfl) (by kernel_rfl) (fun _ _ _ h => h) (Or.inl ⟨by rfl, ?_⟩) (by assumption) ?_
          rotate_left
          ·intro w hSw; (try dsimp only at hSw); go_simp; try with_reducible rfl
          simp only [Act.put, setIfInBounds_toArray, set_cons_zero, set_cons_succ]
          refine wpAnyH_take (i := 20) (oi := { dst := some 133, op := .fieldAddr 40 (.tmp 7) 2, type := 0, pos := "law.go:70", after := #[⟨18, .guard⟩], guard := some (18, false) }) (v := ?_) rfl (by kernel_rfl) (by kernel_rfl) (by kernel_rfl) (fun _ _ _ h => h) (Or.inl ⟨by rfl, ?_⟩) (by assumption) ?_
          rotate_left
          ·intro w hSw; (try dsimp only at hSw); go_simp; try with_reducible rfl
          simp only [Act.put, setIfInBounds_toArray, set_cons_zero, set_cons_succ]
          refine wpAnyH_take (i := 21) (oi := { dst := some 134, op := .load 31 (.tmp 133), type := 31, pos := "law.go:70", after := #[⟨20, .data⟩, ⟨18, .guard⟩], guard := some (18, false) }) (v := ?_) rfl (by kernel_rfl) (by kernel_rfl) (by kernel_rfl) (fun _ _ _ h => h) (Or.inl ⟨by rfl, ?_⟩) (by assumption) ?_
          rotate_left
          ·intro w hSw; (try dsimp only at hSw); go_simp; try with_reducible rfl
          simp only [Act.put, setIfInBounds_toArray, set_cons_zero, set_cons_succ]
          refine wpAnyH_take (i := 22) (oi := { dst := some 135, op := .call { callee := .builtin .len, args := #[.tmp 134], argTypes := #[31] }, type := 3, pos := "law.go:70", after := #[⟨21, .data⟩, ⟨18, .guard⟩], guard := some (18, false) }) (v := ?_) rfl (by kernel_rfl) (by kernel_rfl) (by kernel_rfl) (fun _ _ _ h => h) (Or.inl ⟨by rfl, ?_⟩) (by assumption) ?_
          rotate_left
          ·intro w hSw; (try dsimp only at hSw); go_simp; try with_reducible rfl
          simp only [Act.put, setIfInBounds_toArray, set_cons_zero, set_cons_succ]
          refine wpAnyH_take (i := 23) (oi := { dst := some 136, op := .binOp .gtr 3 (.tmp 135) (.const (.int .i64 0)) 3, type := 4, pos := "law.go:70", after := #[⟨22, .data⟩, ⟨18, .guard⟩], guard := some (18, false) }) (v := ?_) rfl (by kernel_rfl) (by kernel_rfl) (by kernel_rfl) (fun _ _ _ h => h) (Or.inl ⟨by rfl, ?_⟩) (by assumption) ?_
          rotate_left
          ·intro w hSw; (try dsimp only at hSw); go_simp; try with_reducible rfl
          simp only [Act.put, setIfInBounds_toArray, set_cons_zero, set_cons_succ]
          refine wpAnyH_take (i := 24) (oi := { dst := some 137, op := .binOp .neq 4 (.tmp 132) (.tmp 136) 4, type := 4, pos := "law.go:70", after := #[⟨19, .data⟩, ⟨23, .data⟩, ⟨18, .guard⟩], guard := some (18, false) }) (v := ?_) rfl (by kernel_rfl) (by kernel_rfl) (by kernel_rfl) (fun _ _ _ h => h) (Or.inl ⟨by rfl, ?_⟩) (by assumption) ?_
          rotate_left
          ·intro w hSw; (try dsimp only at hSw); go_simp; try with_reducible rfl
          simp only [Act.put, setIfInBounds_toArray, set_cons_zero, set_cons_succ]
          refine wpAnyH_take (i := 25) (oi := { dst := some 138, op := .pick (.tmp 131) (.const (.bool true)) (.tmp 137), type := 4, pos := "law.go:70", after := #[⟨18, .data⟩, ⟨24, .data⟩], guard := none }) (v := ?_) rfl (by kernel_rfl) (by kernel_rfl) (by kernel_rfl) (fun _ _ _ h => h) (Or.inl ⟨by rfl, ?_⟩) (by assumption) ?_
          rotate_left
          ·intro w hSw; (try dsimp only at hSw); go_simp; try with_reducible rfl
          simp only [Act.put, setIfInBounds_toArray, set_cons_zero, set_cons_succ]
          refine wpAnyH_take (i := 26) (oi := { dst := some 139, op := .move (.tmp 138), type := 4, pos := "law.go:70", after := #[⟨25, .data⟩, ⟨18, .chain⟩], guard := none }) (v := ?_) rfl (by kernel_rfl) (by kernel_rfl) (by kernel_rfl) (fun _ _ _ h => h) (Or.inl ⟨by rfl, ?_⟩) (by assumption) ?_
          rotate_left
          ·intro w hSw; (try dsimp only at hSw); go_simp; try with_reducible rfl
          simp only [Act.put, setIfInBounds_toArray, set_cons_zero, set_cons_succ]
          refine wpAnyH_take (i := 27) (oi := { dst := some 140, op := .move (.tmp 15), type := 4, pos := "law.go:70", after := #[⟨26, .guard⟩], guard := some (26, false) }) (v := ?_) rfl (by kernel_rfl) (by kernel_rfl) (by kernel_rfl) (fun _ _ _ h => h) (Or.inl ⟨by rfl, ?_⟩) (by assumption) ?_
          rotate_left
          ·intro w hSw; (try dsimp only at hSw); go_simp; try with_reducible rfl
          simp only [Act.put, setIfInBounds_toArray, set_cons_zero, set_cons_succ]
          refine wpAnyH_take (i := 28) (oi := { dst := some 141, op := .move (.tmp 140), type := 4, pos := "law.go:70", after := #[⟨27, .data⟩, ⟨26, .chain⟩, ⟨26, .guard⟩], guard := some (26, false) }) (v := ?_) rfl (by kernel_rfl) (by kernel_rfl) (by kernel_rfl) (fun _ _ _ h => h) (Or.inl ⟨by rfl, ?_⟩) (by assumption) ?_
          rotate_left
          ·intro w hSw; (try dsimp only at hSw); go_simp; try with_reducible rfl
          simp only [Act.put, setIfInBounds_toArray, set_cons_zero, set_cons_succ]
          refine wpAnyH_take (i := 29) (oi := { dst := some 142, op := .move (.tmp 14), type := 3, pos := "law.go:70", after := #[⟨28, .guard⟩], guard := some (28, true) }) (v := ?_) rfl (by kernel_rfl) (by kernel_rfl) (by kernel_rfl) (fun _ _ _ h => h) (Or.inl ⟨by rfl, ?_⟩) (by assumption) ?_
          rotate_left
          ·intro w hSw; (try dsimp only at hSw); go_simp; try with_reducible rfl
          simp only [Act.put, setIfInBounds_toArray, set_cons_zero, set_cons_succ]
          refine wpAnyH_take (i := 30) (oi := { dst := some 143, op := .fieldAddr 40 (.tmp 7) 2, type := 0, pos := "law.go:70", after := #[⟨28, .guard⟩], guard := some (28, true) }) (v := ?_) rfl (by kernel_rfl) (by kernel_rfl) (by kernel_rfl) (fun _ _ _ h => h) (Or.inl ⟨by rfl, ?_⟩) (by assumption) ?_
          rotate_left
          ·intro w hSw; (try dsimp only at hSw); go_simp; try with_reducible rfl
          simp only [Act.put, setIfInBounds_toArray, set_cons_zero, set_cons_succ]
          refine wpAnyH_take (i := 31) (oi := { dst := some 144, op := .load 31 (.tmp 143), type := 31, pos := "law.go:70", after := #[⟨30, .data⟩, ⟨28, .guard⟩], guard := some (28, true) }) (v := ?_) rfl (by kernel_rfl) (by kernel_rfl) (by kernel_rfl) (fun _ _ _ h => h) (Or.inl ⟨by rfl, ?_⟩) (by assumption) ?_
          rotate_left
          ·intro w hSw; (try dsimp only at hSw); go_simp; try with_reducible rfl
          simp only [Act.put, setIfInBounds_toArray, set_cons_zero, set_cons_succ]
          refine wpAnyH_take (i := 32) (oi := { dst := some 145, op := .indexAddr 31 (.tmp 144) (.const (.int .i64 0)), type := 0, pos := "law.go:70", after := #[⟨31, .data⟩, ⟨28, .guard⟩], guard := some (28, true) }) (v := ?_) rfl (by kernel_rfl) (by kernel_rfl) (by kernel_rfl) (fun _ _ _ h => h) (Or.inl ⟨by rfl, ?_⟩) (by assumption) ?_
          rotate_left
          ·intro w hSw; (try dsimp only at hSw); go_simp; try with_reducible rfl
          simp only [Act.put, setIfInBounds_toArray, set_cons_zero, set_cons_succ]
          refine wpAnyH_take (i := 33) (oi := { dst := some 146, op := .load 3 (.tmp 145), type := 3, pos := "law.go:70", after := #[⟨32, .data⟩, ⟨28, .guard⟩], guard := some (28, true) }) (v := ?_) rfl (by kernel_rfl) (by kernel_rfl) (by kernel_rfl) (fun _ _ _ h => h) (Or.inl ⟨by rfl, ?_⟩) (by assumption) ?_
          rotate_left
          ·intro w hSw; (try dsimp only at hSw); go_simp; try with_reducible rfl
          simp only [Act.put, setIfInBounds_toArray, set_cons_zero, set_cons_succ]
          refine wpAnyH_take (i := 34) (oi := { dst := some 147, op := .binOp .neq 3 (.tmp 142) (.tmp 146) 3, type := 4, pos := "law.go:70", after := #[⟨29, .data⟩, ⟨33, .data⟩, ⟨28, .guard⟩], guard := some (28, true) }) (v := ?_) rfl (by kernel_rfl) (by kernel_rfl) (by kernel_rfl) (fun _ _ _ h => h) (Or.inl ⟨by rfl, ?_⟩) (by assumption) ?_
          rotate_left
          ·intro w hSw; (try dsimp only at hSw); go_simp; try with_reducible rfl
          simp only [Act.put, setIfInBounds_toArray, set_cons_zero, set_cons_succ]
          refine wpAnyH_take (i := 35) (oi := { dst := some 148, op := .pick (.tmp 141) (.tmp 147) (.const (.bool false)), type := 4, pos := "law.go:70", after := #[⟨28, .data⟩, ⟨34, .data⟩, ⟨26, .guard⟩], guard := some (26, false) }) (v := ?_) rfl (by kernel_rfl) (by kernel_rfl) (by kernel_rfl) (fun _ _ _ h => h) (Or.inl ⟨by rfl, ?_⟩) (by assumption) ?_
          rotate_left
          ·intro w hSw; (try dsimp only at hSw); go_simp; try with_reducible rfl
          simp only [Act.put, setIfInBounds_toArray, set_cons_zero, set_cons_succ]
          refine wpAnyH_take (i := 36) (oi := { dst := some 149, op := .pick (.tmp 139) (.const (.bool true)) (.tmp 148), type := 4, pos := "law.go:70", after := #[⟨26, .data⟩, ⟨35, .data⟩], guard := none }) (v := ?_) rfl (by kernel_rfl) (by kernel_rfl) (by kernel_rfl) (fun _ _ _ h => h) (Or.inl ⟨by rfl, ?_⟩) (by assumption) ?_
          rotate_left
          ·intro w hSw; (try dsimp only at hSw); go_simp; try with_reducible rfl
          simp only [Act.put, setIfInBounds_toArray, set_cons_zero, set_cons_succ]
          refine wpAnyH_take (i := 37) (oi := { dst := some 150, op := .move (.tmp 149), type := 4, pos := "law.go:70", after := #[⟨36, .data⟩, ⟨28, .chain⟩], guard := none }) (v := ?_) rfl (by kernel_rfl) (by kernel_rfl) (by kernel_rfl) (fun _ _ _ h => h) (Or.inl ⟨by rfl, ?_⟩) (by assumption) ?_
          rotate_left
          ·intro w hSw; (try dsimp only at hSw); go_simp; try with_reducible rfl
          simp only [Act.put, setIfInBounds_toArray, set_cons_zero, set_cons_succ]
          refine wpAnyH_take (i := 38) (oi := { dst := some 151, op := .move (.tmp 15), type := 4, pos := "law.go:70", after := #[⟨37, .guard⟩], guard := some (37, false) }) (v := ?_) rfl (by kernel_rfl) (by kernel_rfl) (by kernel_rfl) (fun _ _ _ h => h) (Or.inl ⟨by rfl, ?_⟩) (by assumption) ?_
          rotate_left
          ·intro w hSw; (try dsimp only at hSw); go_simp; try with_reducible rfl
          simp only [Act.put, setIfInBounds_toArray, set_cons_zero, set_cons_succ]
          refine wpAnyH_take (i := 39) (oi := { dst := some 152, op := .unOp .not 4 (.tmp 151), type := 4, pos := "law.go:70", after := #[⟨38, .data⟩, ⟨37, .guard⟩], guard := some (37, false) }) (v := ?_) rfl (by kernel_rfl) (by kernel_rfl) (by kernel_rfl) (fun _ _ _ h => h) (Or.inl ⟨by rfl, ?_⟩) (by assumption) ?_
          rotate_left
          ·intro w hSw; (try dsimp only at hSw); go_simp; try with_reducible rfl
          simp only [Act.put, setIfInBounds_toArray, set_cons_zero, set_cons_succ]
          refine wpAnyH_take (i := 40) (oi := { dst := some 153, op := .move (.tmp 152), type := 4, pos := "law.go:70", after := #[⟨39, .data⟩, ⟨37, .chain⟩, ⟨37, .guard⟩], guard := some (37, false) }) (v := ?_) rfl (by kernel_rfl) (by kernel_rfl) (by kernel_rfl) (fun _ _ _ h => h) (Or.inl ⟨by rfl, ?_⟩) (by assumption) ?_
          rotate_left
          ·intro w hSw; (try dsimp only at hSw); go_simp; try with_reducible rfl
          simp only [Act.put, setIfInBounds_toArray, set_cons_zero, set_cons_succ]
          refine wpAnyH_take (i := 41) (oi := { dst := some 154, op := .move (.tmp 14), type := 3, pos := "law.go:70", after := #[⟨40, .guard⟩], guard := some (40, true) }) (v := undef) rfl (by kernel_rfl) (by kernel_rfl) (by kernel_rfl) (fun _ _ _ h => h) (Or.inr ⟨by rfl, rfl⟩) (by assumption) ?_
          simp only [Act.put, setIfInBounds_toArray, set_cons_zero, set_cons_succ]
          refine wpAnyH_take (i := 42) (oi := { dst := some 155, op := .binOp .neq 3 (.tmp 154) (.const (.int .i64 0)) 3, type := 4, pos := "law.go:70", after := #[⟨41, .data⟩, ⟨40, .guard⟩], guard := some (40, true) }) (v := undef) rfl (by kernel_rfl) (by kernel_rfl) (by kernel_rfl) (fun _ _ _ h => h) (Or.inr ⟨by rfl, rfl⟩) (by assumption) ?_
          simp only [Act.put, setIfInBounds_toArray, set_cons_zero, set_cons_succ]
          refine wpAnyH_take (i := 43) (oi := { dst := some 156, op := .pick (.tmp 153) (.tmp 155) (.const (.bool false)), type := 4, pos := "law.go:70", after := #[⟨40, .data⟩, ⟨42, .data⟩, ⟨37, .guard⟩], guard := some (37, false) }) (v := ?_) rfl (by kernel_rfl) (by kernel_rfl) (by kernel_rfl) (fun _ _ _ h => h) (Or.inl ⟨by rfl, ?_⟩) (by assumption) ?_
          rotate_left
          ·intro w hSw; (try dsimp only at hSw); go_simp; try with_reducible rfl
          simp only [Act.put, setIfInBounds_toArray, set_cons_zero, set_cons_succ]
          refine wpAnyH_take (i := 44) (oi := { dst := some 157, op := .pick (.tmp 150) (.const (.bool true)) (.tmp 156), type := 4, pos := "law.go:70", after := #[⟨37, .data⟩, ⟨43, .data⟩], guard := none }) (v := ?_) rfl (by kernel_rfl) (by kernel_rfl) (by kernel_rfl) (fun _ _ _ h => h) (Or.inl ⟨by rfl, ?_⟩) (by assumption) ?_
          rotate_left
          ·intro w hSw; (try dsimp only at hSw); go_simp; try with_reducible rfl
          simp only [Act.put, setIfInBounds_toArray, set_cons_zero, set_cons_succ]
          refine wpAnyH_done (by kernel_rfl) ?_ _
          all_goals
           have HBF : Hid (Below w.heap.size w wM) := Lib.hid (b_then HBt.out hBM)
           have HQF : Hid (QAt wM w.heap.size w.heap.size q t3 v7 (hd :: tl)) := Lib.hid (HQ.out.below hBM)
           have HXF : Hid (XAt wM g w.heap.size q t3 (some ⟨bx, 0, none⟩) c4 (hd :: tl)) := Lib.hid (HX.out.below hBM)
           clear hbL hrL hBL hbM hBM u1 u2 u3 m1 m2 m3 hsL hsM
           go_wp2_with fail
           go_roundw
           case rel => exact ⟨k + 1, t3, v7, hd :: tl, some ⟨bx, 0, none⟩, c4, by go_num, by omega, by omega, HBF, HQF, HXF, HLN⟩
           case measure => simp [intOf]; omega
       ·as_aux_lemma =>
         have kk4 : (kind == 4) = false := by simp [k4]
         clear k4
         obtain ⟨wx, hwx⟩ : ∃ W, W = W1 := ⟨_, rfl⟩
         have hX : XAt wx g w.heap.size q tk A c l := by rw [hwx]; exact HX1.out
         have hQ : QAt wx w.heap.size w.heap.size q tk v l := by rw [hwx]; exact HQ1.out
         have hBt : Below w.heap.size w wx := by rw [hwx]; exact HB1.out
         have hLN : 0 ≤ tk ∧ tk < q ∧ l.Nodup ∧ l.length ≤ k + 1 := ⟨HF.out.1, HF.out.2.1, HF.out.2.2.1, by have := HF.out.2.2.2; omega⟩
         have HQ := Lib.hid hQ
         have HX := Lib.hid hX
         have HBt := Lib.hid hBt
         have HLN := Lib.hid hLN
         have HWX := Lib.hid hwx
         clear hQ hX hBt hLN hwx n1
         go_wp2_with fail
         rw [← HGE.out, ← HWE.out, ← HWX.out]
         clear HX1 HQ1 HB1 HCA HWE HGE HL9 HF
         clear HWX
         cases l with
         | nil =>
          have HN := Lib.hid (now_nil HQ.out)
          refine HN.out.mono ?_
          rintro e wN ⟨rfl, hw⟩
          obtain rfl := hw.symm
          clear hw HN
          have kx1 : wx.cell? ⟨g, 1, none⟩ = some (.int .i64 tk) := cell_heap HX.out.cells 1
          have kx2 : wx.cell? ⟨g, 2, none⟩ = some (.slice A 0 c) := cell_heap HX.out.cells 2
          have hgx := heap_lt HX.out.cells
          have HS : Hid (∀ W : World, Below wx.heap.size wx W → W.cell? ⟨g, 1, none⟩ = some (.int .i64 tk) ∧ W.cell? ⟨g, 2, none⟩ = some (.slice A 0 c)) := Lib.hid (fun W hW => ⟨(hW.cell (p := ⟨g, 1, none⟩) hgx).trans kx1, (hW.cell (p := ⟨g, 2, none⟩) hgx).trans kx2⟩)
          have HLI : Hid (∀ W, Below wx.heap.size wx W → Calls Try.prog 12 #[.pointer (some ⟨w.heap.size, 0, none⟩)] W fun e w' => ∃ A c, e = .returned (.slice A 0 c) ∧ Below W.heap.size W w' ∧ IRd w' A []) := Lib.hid (fun W hW => line_form (HQ.out.below hW) (by simp))
          have HTI : Hid (∀ W, Below wx.heap.size wx W → Calls Try.prog 15 #[.pointer (some ⟨w.heap.size, 0, none⟩)] W fun e w' => e = .returned (.int .i64 tk) ∧ w' = W) := Lib.hid (fun W hW => ticks_any (HQ.out.below hW))
          have HXR : Hid (∀ W, Below wx.heap.size wx W → IRd W A []) := Lib.hid (fun W hW => (IRow.rd HX.out.row).below hW)
          have HSA : Hid (∀ W AA cc, IRd W AA [] → IRd W A [] → Calls Try.prog 17 #[.slice AA 0 cc, .slice A 0 c] W fun e w' => e = .returned (.bool true) ∧ Below W.heap.size W w') := Lib.hid (fun W AA cc h1 h2 => same_eq h1 h2 (by simp) cc c)
          go_wp2_with fail
          refine wp_region_held_drew (S := fun W : World => W.cell? ⟨g, 1, none⟩ = some (.int .i64 tk) ∧ W.cell? ⟨g, 2, none⟩ = some (.slice A 0 c)) (by kernel_rfl) (by first | exact (HS.out _ ((Below.refl _ _).drew)) | (go_keep; done)) (fun hHeld => ?_)
          refine wpAnyH_take (i := 0) (oi := { dst := some 113, op := .move (.tmp 10), type := 24, pos := "law.go:70", after := #[], guard := none }) (v := ?_) rfl (by kernel_rfl) (by kernel_rfl) (by kernel_rfl) (fun _ _ _ h => h) (Or.inl ⟨by rfl, ?_⟩) (by assumption) ?_
          rotate_left
          ·intro w hSw; (try dsimp only at hSw); go_simp; try with_reducible rfl
          simp only [Act.put, setIfInBounds_toArray, set_cons_zero, set_cons_succ]
          refine wpAnyH_take (i := 1) (oi := { dst := some 114, op := .move (.tmp 11), type := 3, pos := "law.go:70", after := #[], guard := none }) (v := ?_) rfl (by kernel_rfl) (by kernel_rfl) (by kernel_rfl) (fun _ _ _ h => h) (Or.inl ⟨by rfl, ?_⟩) (by assumption) ?_
          rotate_left
          ·intro w hSw; (try dsimp only at hSw); go_simp; try with_reducible rfl
          simp only [Act.put, setIfInBounds_toArray, set_cons_zero, set_cons_succ]
          refine wpAnyH_take (i := 2) (oi := { dst := some 115, op := .binOp .neq 3 (.tmp 113) (.tmp 114) 3, type := 4, pos := "law.go:70", after := #[⟨0, .data⟩, ⟨1, .data⟩], guard := none }) (v := ?_) rfl (by kernel_rfl) (by kernel_rfl) (by kernel_rfl) (fun _ _ _ h => h) (Or.inl ⟨by rfl, ?_⟩) (by assumption) ?_
          rotate_left
          ·intro w hSw; (try dsimp only at hSw); go_simp; try with_reducible rfl
          simp only [Act.put, setIfInBounds_toArray, set_cons_zero, set_cons_succ]
          refine wpAnyH_take (i := 3) (oi := { dst := some 116, op := .move (.tmp 115), type := 4, pos := "law.go:70", after := #[⟨2, .data⟩], guard := none }) (v := ?_) rfl (by kernel_rfl) (by kernel_rfl) (by kernel_rfl) (fun _ _ _ h => h) (Or.inl ⟨by rfl, ?_⟩) (by assumption) ?_
          rotate_left
          ·intro w hSw; (try dsimp only at hSw); go_simp; try with_reducible rfl
          simp only [Act.put, setIfInBounds_toArray, set_cons_zero, set_cons_succ]
          refine wpAnyH_take (i := 4) (oi := { dst := some 117, op := .move (.tmp 5), type := 23, pos := "law.go:70", after := #[⟨3, .guard⟩], guard := some (3, false) }) (v := ?_) rfl (by kernel_rfl) (by kernel_rfl) (by kernel_rfl) (fun _ _ _ h => h) (Or.inl ⟨by rfl, ?_⟩) (by assumption) ?_
          rotate_left
          ·intro w hSw; (try dsimp only at hSw); go_simp; try with_reducible rfl
          simp only [Act.put, setIfInBounds_toArray, set_cons_zero, set_cons_succ]
          refine wpAnyH_take (i := 6) (oi := { dst := some 119, op := .fieldAddr 40 (.tmp 7) 2, type := 0, pos := "law.go:70", after := #[⟨3, .guard⟩], guard := some (3, false) }) (v := ?_) rfl (by kernel_rfl) (by kernel_rfl) (by kernel_rfl) (fun _ _ _ h => h) (Or.inl ⟨by rfl, ?_⟩) (by assumption) ?_
          rotate_left
          ·intro w hSw; (try dsimp only at hSw); go_simp; try with_reducible rfl
          simp only [Act.put, setIfInBounds_toArray, set_cons_zero, set_cons_succ]
          refine wpAnyH_take (i := 7) (oi := { dst := some 120, op := .load 31 (.tmp 119), type := 31, pos := "law.go:70", after := #[⟨6, .data⟩, ⟨3, .guard⟩], guard := some (3, false) }) (v := ?_) rfl (by kernel_rfl) (by kernel_rfl) (by kernel_rfl) (fun _ _ _ h => h) (Or.inl ⟨by rfl, ?_⟩) (by assumption) ?_
          rotate_left
          ·intro w hSw; (try dsimp only at hSw); go_simp; try with_reducible rfl
          simp only [Act.put, setIfInBounds_toArray, set_cons_zero, set_cons_succ]
          refine wpAnyH_ready (rs := [5]) (by kernel_rfl) (by simp) ?_
          refine AllReadyH.cons (o := { dst := some 118, op := .call { callee := .value (.func 12), args := #[.tmp 117], argTypes := #[23] }, type := 31, pos := "law.go:70", after := #[⟨4, .data⟩, ⟨3, .chain⟩, ⟨3, .guard⟩], guard := some (3, false) }) rfl (fun K hK => ?_) AllReadyH.nil
          go_simp
          refine (HLI.out _ (by go_grown)).mono ?_
          rintro e wL ⟨AL, cL, rfl, hbL, hrL⟩
          have hBL : Below wx.heap.size wx wL := (b_then (by go_grown) hbL)
          obtain ⟨u1, u2⟩ := HS.out wL hBL
          have hsL := hBL.size
          clear hHeld
          refine hK.out _ _ (by (try dsimp only); go_keep) (fun hHeld => ?_)
          clear hK K
          try simp only [Act.put, setIfInBounds_toArray, set_cons_zero, set_cons_succ]
          refine wpAnyH_ready (rs := [8]) (by kernel_rfl) (by simp) ?_
          refine AllReadyH.cons (o := { dst := some 121, op := .call { callee := .value (.func 17), args := #[.tmp 118, .tmp 120], argTypes := #[31, 31] }, type := 4, pos := "law.go:70", after := #[⟨5, .data⟩, ⟨7, .data⟩, ⟨5, .chain⟩, ⟨3, .guard⟩], guard := some (3, false) }) rfl (fun K hK => ?_) AllReadyH.nil
          go_simp
          refine (HSA.out _ _ _ (by first | exact hrL | exact hrL.below ((Below.refl _ _).drew)) (HXR.out _ (by first | exact hBL | exact hBL.drew))).mono ?_
          rintro e wM ⟨rfl, hbM⟩
          have hBM : Below wx.heap.size wx wM := (b_then (by first | exact hBL | exact hBL.drew) hbM)
          obtain ⟨m1, m2⟩ := HS.out wM hBM
          have hsM := hBM.size
          clear hHeld
          refine hK.out _ _ (by (try dsimp only); go_keep) (fun hHeld => ?_)
          clear hK K
          try simp only [Act.put, setIfInBounds_toArray, set_cons_zero, set_cons_succ]
          refine wpAnyH_take (i := 9) (oi := { dst := some 122, op := .unOp .not 4 (.tmp 121), type := 4, pos := "law.go:70", after := #[⟨8, .data⟩, ⟨3, .guard⟩], guard := some (3, false) }) (v := ?_) rfl (by kernel_rfl) (by kernel_rfl) (by kernel_rfl) (fun _ _ _ h => h) (Or.inl ⟨by rfl, ?_⟩) (by assumption) ?_
          rotate_left
          ·intro w hSw; (try dsimp only at hSw); go_simp; try with_reducible rfl
          simp only [Act.put, setIfInBounds_toArray, set_cons_zero, set_cons_succ]
          refine wpAnyH_take (i := 10) (oi := { dst := some 123, op := .pick (.tmp 116) (.const (.bool true)) (.tmp 122), type := 4, pos := "law.go:70", after := #[⟨3, .data⟩, ⟨9, .data⟩], guard := none }) (v := ?_) rfl (by kernel_rfl) (by kernel_rfl) (by kernel_rfl) (fun _ _ _ h => h) (Or.inl ⟨by rfl, ?_⟩) (by assumption) ?_
          rotate_left
          ·intro w hSw; (try dsimp only at hSw); go_simp; try with_reducible rfl
          simp only [Act.put, setIfInBounds_toArray, set_cons_zero, set_cons_succ]
          refine wpAnyH_take (i := 11) (oi := { dst := some 124, op := .move (.tmp 123), type := 4, pos := "law.go:70", after := #[⟨10, .data⟩, ⟨8, .chain⟩], guard := none }) (v := ?_) rfl (by kernel_rfl) (by kernel_rfl) (by kernel_rfl) (fun _ _ _ h => h) (Or.inl ⟨by rfl, ?_⟩) (by assumption) ?_
          rotate_left
          ·intro w hSw; (try dsimp only at hSw); go_simp; try with_reducible rfl
          simp only [Act.put, setIfInBounds_toArray, set_cons_zero, set_cons_succ]
          refine wpAnyH_take (i := 12) (oi := { dst := some 125, op := .move (.tmp 5), type := 23, pos := "law.go:70", after := #[⟨11, .guard⟩], guard := some (11, false) }) (v := ?_) rfl (by kernel_rfl) (by kernel_rfl) (by kernel_rfl) (fun _ _ _ h => h) (Or.inl ⟨by rfl, ?_⟩) (by assumption) ?_
          rotate_left
          ·intro w hSw; (try dsimp only at hSw); go_simp; try with_reducible rfl
          simp only [Act.put, setIfInBounds_toArray, set_cons_zero, set_cons_succ]
          refine wpAnyH_take (i := 14) (oi := { dst := some 127, op := .fieldAddr 40 (.tmp 7) 1, type := 0, pos := "law.go:70", after := #[⟨11, .guard⟩], guard := some (11, false) }) (v := ?_) rfl (by kernel_rfl) (by kernel_rfl) (by kernel_rfl) (fun _ _ _ h => h) (Or.inl ⟨by rfl, ?_⟩) (by assumption) ?_
          rotate_left
          ·intro w hSw; (try dsimp only at hSw); go_simp; try with_reducible rfl
          simp only [Act.put, setIfInBounds_toArray, set_cons_zero, set_cons_succ]
          refine wpAnyH_take (i := 15) (oi := { dst := some 128, op := .load 3 (.tmp 127), type := 3, pos := "law.go:70", after := #[⟨14, .data⟩, ⟨11, .guard⟩], guard := some (11, false) }) (v := ?_) rfl (by kernel_rfl) (by kernel_rfl) (by kernel_rfl) (fun _ _ _ h => h) (Or.inl ⟨by rfl, ?_⟩) (by assumption) ?_
          rotate_left
          ·intro w hSw; (try dsimp only at hSw); go_simp; try with_reducible rfl
          simp only [Act.put, setIfInBounds_toArray, set_cons_zero, set_cons_succ]
          refine wpAnyH_ready (rs := [13]) (by kernel_rfl) (by simp) ?_
          refine AllReadyH.cons (o := { dst := some 126, op := .call { callee := .value (.func 15), args := #[.tmp 125], argTypes := #[23] }, type := 3, pos := "law.go:70", after := #[⟨12, .data⟩, ⟨11, .chain⟩, ⟨11, .guard⟩], guard := some (11, false) }) rfl (fun K hK => ?_) AllReadyH.nil
          go_simp
          refine (HTI.out _ (by first | exact hBM | exact hBM.drew | go_grown)).mono ?_
          rintro e wZ ⟨rfl, hwZ⟩
          obtain rfl := hwZ.symm
          clear hwZ
          clear hHeld
          refine hK.out _ _ (by (try dsimp only); go_keep) (fun hHeld => ?_)
          clear hK K
          try simp only [Act.put, setIfInBounds_toArray, set_cons_zero, set_cons_succ]
          refine wpAnyH_take (i := 16) (oi := { dst := some 129, op := .binOp .neq 3 (.tmp 126) (.tmp 128) 3, type := 4, pos := "law.go:70", after := #[⟨13, .data⟩, ⟨15, .data⟩, ⟨11, .guard⟩], guard := some (11, false) }) (v := ?_) rfl (by kernel_rfl) (by kernel_rfl) (by kernel_rfl) (fun _ _ _ h => h) (Or.inl ⟨by rfl, ?_⟩) (by assumption) ?_
          rotate_left
          ·intro w hSw; (try dsimp only at hSw); go_simp; try with_reducible rfl
          simp only [Act.put, setIfInBounds_toArray, set_cons_zero, set_cons_succ]
          refine wpAnyH_take (i := 17) (oi := { dst := some 130, op := .pick (.tmp 124) (.const (.bool true)) (.tmp 129), type := 4, pos := "law.go:70", after := #[⟨11, .data⟩, ⟨16, .data⟩], guard := none }) (v := ?_) rfl (by kernel_rfl) (by kernel_rfl) (by kernel_rfl) (fun _ _ _ h => h) (Or.inl ⟨by rfl, ?_⟩) (by assumption) ?_
          rotate_left
          ·intro w hSw; (try dsimp only at hSw); go_simp; try with_reducible rfl
          simp only [Act.put, setIfInBounds_toArray, set_cons_zero, set_cons_succ]
          refine wpAnyH_take (i := 18) (oi := { dst := some 131, op := .move (.tmp 130), type := 4, pos := "law.go:70", after := #[⟨17, .data⟩, ⟨13, .chain⟩], guard := none }) (v := ?_) rfl (by kernel_rfl) (by kernel_rfl) (by kernel_rfl) (fun _ _ _ h => h) (Or.inl ⟨by rfl, ?_⟩) (by assumption) ?_
          rotate_left
          ·intro w hSw; (try dsimp only at hSw); go_simp; try with_reducible rfl
          simp only [Act.put, setIfInBounds_toArray, set_cons_zero, set_cons_succ]
          refine wpAnyH_take (i := 19) (oi := { dst := some 132, op := .move (.tmp 15), type := 4, pos := "law.go:70", after := #[⟨18, .guard⟩], guard := some (18, false) }) (v := ?_) rfl (by kernel_rfl) (by kernel_rfl) (by kernel_rfl) (fun _ _ _ h => h) (Or.inl ⟨by rfl, ?_⟩) (by assumption) ?_
          rotate_left
          ·intro w hSw; (try dsimp only at hSw); go_simp; try with_reducible rfl
          simp only [Act.put, setIfInBounds_toArray, set_cons_zero, set_cons_succ]
          refine wpAnyH_take (i := 20) (oi := { dst := some 133, op := .fieldAddr 40 (.tmp 7) 2, type := 0, pos := "law.go:70", after := #[⟨18, .guard⟩], guard := some (18, false) }) (v := ?_) rfl (by kernel_rfl) (by kernel_rfl) (by kernel_rfl) (fun _ _ _ h => h) (Or.inl ⟨by rfl, ?_⟩) (by assumption) ?_
          rotate_left
          ·intro w hSw; (try dsimp only at hSw); go_simp; try with_reducible rfl
          simp only [Act.put, setIfInBounds_toArray, set_cons_zero, set_cons_succ]
          refine wpAnyH_take (i := 21) (oi := { dst := some 134, op := .load 31 (.tmp 133), type := 31, pos := "law.go:70", after := #[⟨20, .data⟩, ⟨18, .guard⟩], guard := some (18, false) }) (v := ?_) rfl (by kernel_rfl) (by kernel_rfl) (by kernel_rfl) (fun _ _ _ h => h) (Or.inl ⟨by rfl, ?_⟩) (by assumption) ?_
          rotate_left
          ·intro w hSw; (try dsimp only at hSw); go_simp; try with_reducible rfl
          simp only [Act.put, setIfInBounds_toArray, set_cons_zero, set_cons_succ]
          refine wpAnyH_take (i := 22) (oi := { dst := some 135, op := .call { callee := .builtin .len, args := #[.tmp 134], argTypes := #[31] }, type := 3, pos := "law.go:70", after := #[⟨21, .data⟩, ⟨18, .guard⟩], guard := some (18, false) }) (v := ?_) rfl (by kernel_rfl) (by kernel_rfl) (by kernel_rfl) (fun _ _ _ h => h) (Or.inl ⟨by rfl, ?_⟩) (by assumption) ?_
          rotate_left
          ·intro w hSw; (try dsimp only at hSw); go_simp; try with_reducible rfl
          simp only [Act.put, setIfInBounds_toArray, set_cons_zero, set_cons_succ]
          refine wpAnyH_take (i := 23) (oi := { dst := some 136, op := .binOp .gtr 3 (.tmp 135) (.const (.int .i64 0)) 3, type := 4, pos := "law.go:70", after := #[⟨22, .data⟩, ⟨18, .guard⟩], guard := some (18, false) }) (v := ?_) rfl (by kernel_rfl) (by kernel_rfl) (by kernel_rfl) (fun _ _ _ h => h) (Or.inl ⟨by rfl, ?_⟩) (by assumption) ?_
          rotate_left
          ·intro w hSw; (try dsimp only at hSw); go_simp; try with_reducible rfl
          simp only [Act.put, setIfInBounds_toArray, set_cons_zero, set_cons_succ]
          refine wpAnyH_take (i := 24) (oi := { dst := some 137, op := .binOp .neq 4 (.tmp 132) (.tmp 136) 4, type := 4, pos := "law.go:70", after := #[⟨19, .data⟩, ⟨23, .data⟩, ⟨18, .guard⟩], guard := some (18, false) }) (v := ?_) rfl (by kernel_rfl) (by kernel_rfl) (by kernel_rfl) (fun _ _ _ h => h) (Or.inl ⟨by rfl, ?_⟩) (by assumption) ?_
          rotate_left
          ·intro w hSw; (try dsimp only at hSw); go_simp; try with_reducible rfl
          simp only [Act.put, setIfInBounds_toArray, set_cons_zero, set_cons_succ]
          refine wpAnyH_take (i := 25) (oi := { dst := some 138, op := .pick (.tmp 131) (.const (.bool true)) (.tmp 137), type := 4, pos := "law.go:70", after := #[⟨18, .data⟩, ⟨24, .data⟩], guard := none }) (v := ?_) rfl (by kernel_rfl) (by kernel_rfl) (by kernel_rfl) (fun _ _ _ h => h) (Or.inl ⟨by rfl, ?_⟩) (by assumption) ?_
          rotate_left
          ·intro w hSw; (try dsimp only at hSw); go_simp; try with_reducible rfl
          simp only [Act.put, setIfInBounds_toArray, set_cons_zero, set_cons_succ]
          refine wpAnyH_take (i := 26) (oi := { dst := some 139, op := .move (.tmp 138), type := 4, pos := "law.go:70", after := #[⟨25, .data⟩, ⟨18, .chain⟩], guard := none }) (v := ?_) rfl (by kernel_rfl) (by kernel_rfl) (by kernel_rfl) (fun _ _ _ h => h) (Or.inl ⟨by rfl, ?_⟩) (by assumption) ?_
          rotate_left
          ·intro w hSw; (try dsimp only at hSw); go_simp; try with_reducible rfl
          simp only [Act.put, setIfInBounds_toArray, set_cons_zero, set_cons_succ]
          refine wpAnyH_take (i := 27) (oi := { dst := some 140, op := .move (.tmp 15), type := 4, pos := "law.go:70", after := #[⟨26, .guard⟩], guard := some (26, false) }) (v := ?_) rfl (by kernel_rfl) (by kernel_rfl) (by kernel_rfl) (fun _ _ _ h => h) (Or.inl ⟨by rfl, ?_⟩) (by assumption) ?_
          rotate_left
          ·intro w hSw; (try dsimp only at hSw); go_simp; try with_reducible rfl
          simp only [Act.put, setIfInBounds_toArray, set_cons_zero, set_cons_succ]
          refine wpAnyH_take (i := 28) (oi := { dst := some 141, op := .move (.tmp 140), type := 4, pos := "law.go:70", after := #[⟨27, .data⟩, ⟨26, .chain⟩, ⟨26, .guard⟩], guard := some (26, false) }) (v := ?_) rfl (by kernel_rfl) (by kernel_rfl) (by kernel_rfl) (fun _ _ _ h => h) (Or.inl ⟨by rfl, ?_⟩) (by assumption) ?_
          rotate_left
          ·intro w hSw; (try dsimp only at hSw); go_simp; try with_reducible rfl
          simp only [Act.put, setIfInBounds_toArray, set_cons_zero, set_cons_succ]
          refine wpAnyH_take (i := 29) (oi := { dst := some 142, op := .move (.tmp 14), type := 3, pos := "law.go:70", after := #[⟨28, .guard⟩], guard := some (28, true) }) (v := undef) rfl (by kernel_rfl) (by kernel_rfl) (by kernel_rfl) (fun _ _ _ h => h) (Or.inr ⟨by rfl, rfl⟩) (by assumption) ?_
          simp only [Act.put, setIfInBounds_toArray, set_cons_zero, set_cons_succ]
          refine wpAnyH_take (i := 30) (oi := { dst := some 143, op := .fieldAddr 40 (.tmp 7) 2, type := 0, pos := "law.go:70", after := #[⟨28, .guard⟩], guard := some (28, true) }) (v := undef) rfl (by kernel_rfl) (by kernel_rfl) (by kernel_rfl) (fun _ _ _ h => h) (Or.inr ⟨by rfl, rfl⟩) (by assumption) ?_
          simp only [Act.put, setIfInBounds_toArray, set_cons_zero, set_cons_succ]
          refine wpAnyH_take (i := 31) (oi := { dst := some 144, op := .load 31 (.tmp 143), type := 31, pos := "law.go:70", after := #[⟨30, .data⟩, ⟨28, .guard⟩], guard := some (28, true) }) (v := undef) rfl (by kernel_rfl) (by kernel_rfl) (by kernel_rfl) (fun _ _ _ h => h) (Or.inr ⟨by rfl, rfl⟩) (by assumption) ?_
          simp only [Act.put, setIfInBounds_toArray, set_cons_zero, set_cons_succ]
          refine wpAnyH_take (i := 32) (oi := { dst := some 145, op := .indexAddr 31 (.tmp 144) (.const (.int .i64 0)), type := 0, pos := "law.go:70", after := #[⟨31, .data⟩, ⟨28, .guard⟩], guard := some (28, true) }) (v := undef) rfl (by kernel_rfl) (by kernel_rfl) (by kernel_rfl) (fun _ _ _ h => h) (Or.inr ⟨by rfl, rfl⟩) (by assumption) ?_
          simp only [Act.put, setIfInBounds_toArray, set_cons_zero, set_cons_succ]
          refine wpAnyH_take (i := 33) (oi := { dst := some 146, op := .load 3 (.tmp 145), type := 3, pos := "law.go:70", after := #[⟨32, .data⟩, ⟨28, .guard⟩], guard := some (28, true) }) (v := undef) rfl (by kernel_rfl) (by kernel_rfl) (by kernel_rfl) (fun _ _ _ h => h) (Or.inr ⟨by rfl, rfl⟩) (by assumption) ?_
          simp only [Act.put, setIfInBounds_toArray, set_cons_zero, set_cons_succ]
          refine wpAnyH_take (i := 34) (oi := { dst := some 147, op := .binOp .neq 3 (.tmp 142) (.tmp 146) 3, type := 4, pos := "law.go:70", after := #[⟨29, .data⟩, ⟨33, .data⟩, ⟨28, .guard⟩], guard := some (28, true) }) (v := undef) rfl (by kernel_rfl) (by kernel_rfl) (by kernel_rfl) (fun _ _ _ h => h) (Or.inr ⟨by rfl, rfl⟩) (by assumption) ?_
          simp only [Act.put, setIfInBounds_toArray, set_cons_zero, set_cons_succ]
          refine wpAnyH_take (i := 35) (oi := { dst := some 148, op := .pick (.tmp 141) (.tmp 147) (.const (.bool false)), type := 4, pos := "law.go:70", after := #[⟨28, .data⟩, ⟨34, .data⟩, ⟨26, .guard⟩], guard := some (26, false) }) (v := ?_) rfl (by kernel_rfl) (by kernel_rfl) (by kernel_rfl) (fun _ _ _ h => h) (Or.inl ⟨by rfl, ?_⟩) (by assumption) ?_
          rotate_left
          ·intro w hSw; (try dsimp only at hSw); go_simp; try with_reducible rfl
          simp only [Act.put, setIfInBounds_toArray, set_cons_zero, set_cons_succ]
          refine wpAnyH_take (i := 36) (oi := { dst := some 149, op := .pick (.tmp 139) (.const (.bool true)) (.tmp 148), type := 4, pos := "law.go:70", after := #[⟨26, .data⟩, ⟨35, .data⟩], guard := none }) (v := ?_) rfl (by kernel_rfl) (by kernel_rfl) (by kernel_rfl) (fun _ _ _ h => h) (Or.inl ⟨by rfl, ?_⟩) (by assumption) ?_
          rotate_left
          ·intro w hSw; (try dsimp only at hSw); go_simp; try with_reducible rfl
          simp only [Act.put, setIfInBounds_toArray, set_cons_zero, set_cons_succ]
          refine wpAnyH_take (i := 37) (oi := { dst := some 150, op := .move (.tmp 149), type := 4, pos := "law.go:70", after := #[⟨36, .data⟩, ⟨28, .chain⟩], guard := none }) (v := ?_) rfl (by kernel_rfl) (by kernel_rfl) (by kernel_rfl) (fun _ _ _ h => h) (Or.inl ⟨by rfl, ?_⟩) (by assumption) ?_
          rotate_left
          ·intro w hSw; (try dsimp only at hSw); go_simp; try with_reducible rfl
          simp only [Act.put, setIfInBounds_toArray, set_cons_zero, set_cons_succ]
          refine wpAnyH_take (i := 38) (oi := { dst := some 151, op := .move (.tmp 15), type := 4, pos := "law.go:70", after := #[⟨37, .guard⟩], guard := some (37, false) }) (v := ?_) rfl (by kernel_rfl) (by kernel_rfl) (by kernel_rfl) (fun _ _ _ h => h) (Or.inl ⟨by rfl, ?_⟩) (by assumption) ?_
          rotate_left
          ·intro w hSw; (try dsimp only at hSw); go_simp; try with_reducible rfl
          simp only [Act.put, setIfInBounds_toArray, set_cons_zero, set_cons_succ]
          refine wpAnyH_take (i := 39) (oi := { dst := some 152, op := .unOp .not 4 (.tmp 151), type := 4, pos := "law.go:70", after := #[⟨38, .data⟩, ⟨37, .guard⟩], guard := some (37, false) }) (v := ?_) rfl (by kernel_rfl) (by kernel_rfl) (by kernel_rfl) (fun _ _ _ h => h) (Or.inl ⟨by rfl, ?_⟩) (by assumption) ?_
          rotate_left
          ·intro w hSw; (try dsimp only at hSw); go_simp; try with_reducible rfl
          simp only [Act.put, setIfInBounds_toArray, set_cons_zero, set_cons_succ]
          refine wpAnyH_take (i := 40) (oi := { dst := some 153, op := .move (.tmp 152), type := 4, pos := "law.go:70", after := #[⟨39, .data⟩, ⟨37, .chain⟩, ⟨37, .guard⟩], guard := some (37, false) }) (v := ?_) rfl (by kernel_rfl) (by kernel_rfl) (by kernel_rfl) (fun _ _ _ h => h) (Or.inl ⟨by rfl, ?_⟩) (by assumption) ?_
          rotate_left
          ·intro w hSw; (try dsimp only at hSw); go_simp; try with_reducible rfl
          simp only [Act.put, setIfInBounds_toArray, set_cons_zero, set_cons_succ]
          refine wpAnyH_take (i := 41) (oi := { dst := some 154, op := .move (.tmp 14), type := 3, pos := "law.go:70", after := #[⟨40, .guard⟩], guard := some (40, true) }) (v := ?_) rfl (by kernel_rfl) (by kernel_rfl) (by kernel_rfl) (fun _ _ _ h => h) (Or.inl ⟨by rfl, ?_⟩) (by assumption) ?_
          rotate_left
          ·intro w hSw; (try dsimp only at hSw); go_simp; try with_reducible rfl
          simp only [Act.put, setIfInBounds_toArray, set_cons_zero, set_cons_succ]
          refine wpAnyH_take (i := 42) (oi := { dst := some 155, op := .binOp .neq 3 (.tmp 154) (.const (.int .i64 0)) 3, type := 4, pos := "law.go:70", after := #[⟨41, .data⟩, ⟨40, .guard⟩], guard := some (40, true) }) (v := ?_) rfl (by kernel_rfl) (by kernel_rfl) (by kernel_rfl) (fun _ _ _ h => h) (Or.inl ⟨by rfl, ?_⟩) (by assumption) ?_
          rotate_left
          ·intro w hSw; (try dsimp only at hSw); go_simp; try with_reducible rfl
          simp only [Act.put, setIfInBounds_toArray, set_cons_zero, set_cons_succ]
          refine wpAnyH_take (i := 43) (oi := { dst := some 156, op := .pick (.tmp 153) (.tmp 155) (.const (.bool false)), type := 4, pos := "law.go:70", after := #[⟨40, .data⟩, ⟨42, .data⟩, ⟨37, .guard⟩], guard := some (37, false) }) (v := ?_) rfl (by kernel_rfl) (by kernel_rfl) (by kernel_rfl) (fun _ _ _ h => h) (Or.inl ⟨by rfl, ?_⟩) (by assumption) ?_
          rotate_left
          ·intro w hSw; (try dsimp only at hSw); go_simp; try with_reducible rfl
          simp only [Act.put, setIfInBounds_toArray, set_cons_zero, set_cons_succ]
          refine wpAnyH_take (i := 44) (oi := { dst := some 157, op := .pick (.tmp 150) (.const (.bool true)) (.tmp 156), type := 4, pos := "law.go:70", after := #[⟨37, .data⟩, ⟨43, .data⟩], guard := none }) (v := ?_) rfl (by kernel_rfl) (by kernel_rfl) (by kernel_rfl) (fun _ _ _ h => h) (Or.inl ⟨by rfl, ?_⟩) (by assumption) ?_
          rotate_left
          ·intro w hSw; (try dsimp only at hSw); go_simp; try with_reducible rfl
          simp only [Act.put, setIfInBounds_toArray, set_cons_zero, set_cons_succ]
          refine wpAnyH_done (by kernel_rfl) ?_ _
          all_goals
           have HBF : Hid (Below w.heap.size w wM) := Lib.hid (b_then HBt.out hBM)
           have HQF : Hid (QAt wM w.heap.size w.heap.size q tk v []) := Lib.hid (HQ.out.below hBM)
           have HXF : Hid (XAt wM g w.heap.size q tk A c []) := Lib.hid (HX.out.below hBM)
           clear hbL hrL hBL hbM hBM u1 u2 m1 m2 hsL hsM
           go_wp2_with fail
           go_roundw
           case rel => exact ⟨k + 1, tk, v, [], A, c, by go_num, by omega, by omega, HBF, HQF, HXF, HLN⟩
           case measure => simp [intOf]; omega
         | cons hd tl =>
          have HN := Lib.hid (now_cons HQ.out)
          obtain ⟨bx, cpx, hvx, hbbx, hbwx, hcx⟩ := HX.out.row.cell 0 (by simp)
          simp only [List.getElem_cons_zero] at hcx
          obtain ⟨rfl, _, rfl⟩ : A = some ⟨bx, 0, none⟩ ∧ (hd :: tl).length = (hd :: tl).length ∧ c = cpx := by simpa using hvx
          obtain ⟨n, hn⟩ : ∃ n, n = (hd :: tl).length := ⟨_, rfl⟩
          have kx1 : wx.cell? ⟨g, 1, none⟩ = some (.int .i64 tk) := cell_heap HX.out.cells 1
          have kx2 : wx.cell? ⟨g, 2, none⟩ = some (.slice (some ⟨bx, 0, none⟩) n c) := by rw [hn]; exact cell_heap HX.out.cells 2
          have hgx := heap_lt HX.out.cells
          have HS : Hid (∀ W : World, Below wx.heap.size wx W → W.cell? ⟨g, 1, none⟩ = some (.int .i64 tk) ∧ W.cell? ⟨g, 2, none⟩ = some (.slice (some ⟨bx, 0, none⟩) n c) ∧ W.cell? ⟨bx, 0, none⟩ = some (.int .i64 hd)) := Lib.hid (fun W hW => ⟨(hW.cell (p := ⟨g, 1, none⟩) hgx).trans kx1, (hW.cell (p := ⟨g, 2, none⟩) hgx).trans kx2, (hW.cell (p := ⟨bx, 0, none⟩) hbwx).trans hcx⟩)
          have hl9 : (hd :: tl).length ≤ 900 := by have := HLN.out; omega
          have HLI : Hid (∀ W, Below wx.heap.size wx W → Calls Try.prog 12 #[.pointer (some ⟨w.heap.size, 0, none⟩)] W fun e w' => ∃ A c, e = .returned (.slice A n c) ∧ Below W.heap.size W w' ∧ IRd w' A (hd :: tl)) := Lib.hid (fun W hW => by rw [hn]; exact line_form (HQ.out.below hW) (by omega))
          have HTI : Hid (∀ W, Below wx.heap.size wx W → Calls Try.prog 15 #[.pointer (some ⟨w.heap.size, 0, none⟩)] W fun e w' => e = .returned (.int .i64 tk) ∧ w' = W) := Lib.hid (fun W hW => ticks_any (HQ.out.below hW))
          have HXR : Hid (∀ W, Below wx.heap.size wx W → IRd W (some ⟨bx, 0, none⟩) (hd :: tl)) := Lib.hid (fun W hW => (IRow.rd HX.out.row).below hW)
          have HSA : Hid (∀ W AA cc, IRd W AA (hd :: tl) → IRd W (some ⟨bx, 0, none⟩) (hd :: tl) → Calls Try.prog 17 #[.slice AA n cc, .slice (some ⟨bx, 0, none⟩) n c] W fun e w' => e = .returned (.bool true) ∧ Below W.heap.size W w') := Lib.hid (fun W AA cc h1 h2 => by rw [hn]; exact same_eq h1 h2 (by omega) cc c)
          have hn1 : 0 < n := by rw [hn]; simp
          have hn2 : (0 : Int) < (n : Int) := by omega
          have hn3 : decide (0 < n) = true := decide_eq_true hn1
          have hn4 : decide ((0 : Int) < (n : Int)) = true := decide_eq_true hn2
          have HNN := Lib.hid hn
          clear hvx hbbx hn hl9
          refine HN.out.mono ?_
          rintro e wN ⟨rfl, hw⟩
          obtain rfl := hw.symm
          clear hw HN
          go_wp2_with fail
          refine wp_region_held_drew (S := fun W : World => W.cell? ⟨g, 1, none⟩ = some (.int .i64 tk) ∧ W.cell? ⟨g, 2, none⟩ = some (.slice (some ⟨bx, 0, none⟩) n c) ∧ W.cell? ⟨bx, 0, none⟩ = some (.int .i64 hd)) (by kernel_rfl) (by first | exact (HS.out _ ((Below.refl _ _).drew)) | (go_keep; done)) (fun hHeld => ?_)
          refine wpAnyH_take (i := 0) (oi := { dst := some 113, op := .move (.tmp 10), type := 24, pos := "law.go:70", after := #[], guard := none }) (v := ?_) rfl (by kernel_rfl) (by kernel_rfl) (by kernel_rfl) (fun _ _ _ h => h) (Or.inl ⟨by rfl, ?_⟩) (by assumption) ?_
          rotate_left
          ·intro w hSw; (try dsimp only at hSw); go_simp; try with_reducible rfl
          simp only [Act.put, setIfInBounds_toArray, set_cons_zero, set_cons_succ]
          refine wpAnyH_take (i := 1) (oi := { dst := some 114, op := .move (.tmp 11), type := 3, pos := "law.go:70", after := #[], guard := none }) (v := ?_) rfl (by kernel_rfl) (by kernel_rfl) (by kernel_rfl) (fun _ _ _ h => h) (Or.inl ⟨by rfl, ?_⟩) (by assumption) ?_
          rotate_left
          ·intro w hSw; (try dsimp only at hSw); go_simp; try with_reducible rfl
          simp only [Act.put, setIfInBounds_toArray, set_cons_zero, set_cons_succ]
          refine wpAnyH_take (i := 2) (oi := { dst := some 115, op := .binOp .neq 3 (.tmp 113) (.tmp 114) 3, type := 4, pos := "law.go:70", after := #[⟨0, .data⟩, ⟨1, .data⟩], guard := none }) (v := ?_) rfl (by kernel_rfl) (by kernel_rfl) (by kernel_rfl) (fun _ _ _ h => h) (Or.inl ⟨by rfl, ?_⟩) (by assumption) ?_
          rotate_left
          ·intro w hSw; (try dsimp only at hSw); go_simp; try with_reducible rfl
          simp only [Act.put, setIfInBounds_toArray, set_cons_zero, set_cons_succ]
          refine wpAnyH_take (i := 3) (oi := { dst := some 116, op := .move (.tmp 115), type := 4, pos := "law.go:70", after := #[⟨2, .data⟩], guard := none }) (v := ?_) rfl (by kernel_rfl) (by kernel_rfl) (by kernel_rfl) (fun _ _ _ h => h) (Or.inl ⟨by rfl, ?_⟩) (by assumption) ?_
          rotate_left
          ·intro w hSw; (try dsimp only at hSw); go_simp; try with_reducible rfl
          simp only [Act.put, setIfInBounds_toArray, set_cons_zero, set_cons_succ]
          refine wpAnyH_take (i := 4) (oi := { dst := some 117, op := .move (.tmp 5), type := 23, pos := "law.go:70", after := #[⟨3, .guard⟩], guard := some (3, false) }) (v := ?_) rfl (by kernel_rfl) (by kernel_rfl) (by kernel_rfl) (fun _ _ _ h => h) (Or.inl ⟨by rfl, ?_⟩) (by assumption) ?_
          rotate_left
          ·intro w hSw; (try dsimp only at hSw); go_simp; try with_reducible rfl
          simp only [Act.put, setIfInBounds_toArray, set_cons_zero, set_cons_succ]
          refine wpAnyH_take (i := 6) (oi := { dst := some 119, op := .fieldAddr 40 (.tmp 7) 2, type := 0, pos := "law.go:70", after := #[⟨3, .guard⟩], guard := some (3, false) }) (v := ?_) rfl (by kernel_rfl) (by kernel_rfl) (by kernel_rfl) (fun _ _ _ h => h) (Or.inl ⟨by rfl, ?_⟩) (by assumption) ?_
          rotate_left
          ·intro w hSw; (try dsimp only at hSw); go_simp; try with_reducible rfl
          simp only [Act.put, setIfInBounds_toArray, set_cons_zero, set_cons_succ]
          refine wpAnyH_take (i := 7) (oi := { dst := some 120, op := .load 31 (.tmp 119), type := 31, pos := "law.go:70", after := #[⟨6, .data⟩, ⟨3, .guard⟩], guard := some (3, false) }) (v := ?_) rfl (by kernel_rfl) (by kernel_rfl) (by kernel_rfl) (fun _ _ _ h => h) (Or.inl ⟨by rfl, ?_⟩) (by assumption) ?_
          rotate_left
          ·intro w hSw; (try dsimp only at hSw); go_simp; try with_reducible rfl
          simp only [Act.put, setIfInBounds_toArray, set_cons_zero, set_cons_succ]
          refine wpAnyH_ready (rs := [5]) (by kernel_rfl) (by simp) ?_
          refine AllReadyH.cons (o := { dst := some 118, op := .call { callee := .value (.func 12), args := #[.tmp 117], argTypes := #[23] }, type := 31, pos := "law.go:70", after := #[⟨4, .data⟩, ⟨3, .chain⟩, ⟨3, .guard⟩], guard := some (3, false) }) rfl (fun K hK => ?_) AllReadyH.nil
          go_simp
          refine (HLI.out _ (by go_grown)).mono ?_
          rintro e wL ⟨AL, cL, rfl, hbL, hrL⟩
          have hBL : Below wx.heap.size wx wL := (b_then (by go_grown) hbL)
          obtain ⟨u1, u2, u3⟩ := HS.out wL hBL
          have hsL := hBL.size
          clear hHeld
          refine hK.out _ _ (by (try dsimp only); go_keep) (fun hHeld => ?_)
          clear hK K
          try simp only [Act.put, setIfInBounds_toArray, set_cons_zero, set_cons_succ]
          refine wpAnyH_ready (rs := [8]) (by kernel_rfl) (by simp) ?_
          refine AllReadyH.cons (o := { dst := some 121, op := .call { callee := .value (.func 17), args := #[.tmp 118, .tmp 120], argTypes := #[31, 31] }, type := 4, pos := "law.go:70", after := #[⟨5, .data⟩, ⟨7, .data⟩, ⟨5, .chain⟩, ⟨3, .guard⟩], guard := some (3, false) }) rfl (fun K hK => ?_) AllReadyH.nil
          go_simp
          refine (HSA.out _ _ _ (by first | exact hrL | exact hrL.below ((Below.refl _ _).drew)) (HXR.out _ (by first | exact hBL | exact hBL.drew))).mono ?_
          rintro e wM ⟨rfl, hbM⟩
          have hBM : Below wx.heap.size wx wM := (b_then (by first | exact hBL | exact hBL.drew) hbM)
          obtain ⟨m1, m2, m3⟩ := HS.out wM hBM
          have hsM := hBM.size
          clear hHeld
          refine hK.out _ _ (by (try dsimp only); go_keep) (fun hHeld => ?_)
          clear hK K
          try simp only [Act.put, setIfInBounds_toArray, set_cons_zero, set_cons_succ]
          refine wpAnyH_take (i := 9) (oi := { dst := some 122, op := .unOp .not 4 (.tmp 121), type := 4, pos := "law.go:70", after := #[⟨8, .data⟩, ⟨3, .guard⟩], guard := some (3, false) }) (v := ?_) rfl (by kernel_rfl) (by kernel_rfl) (by kernel_rfl) (fun _ _ _ h => h) (Or.inl ⟨by rfl, ?_⟩) (by assumption) ?_
          rotate_left
          ·intro w hSw; (try dsimp only at hSw); go_simp; try with_reducible rfl
          simp only [Act.put, setIfInBounds_toArray, set_cons_zero, set_cons_succ]
          refine wpAnyH_take (i := 10) (oi := { dst := some 123, op := .pick (.tmp 116) (.const (.bool true)) (.tmp 122), type := 4, pos := "law.go:70", after := #[⟨3, .data⟩, ⟨9, .data⟩], guard := none }) (v := ?_) rfl (by kernel_rfl) (by kernel_rfl) (by kernel_rfl) (fun _ _ _ h => h) (Or.inl ⟨by rfl, ?_⟩) (by assumption) ?_
          rotate_left
          ·intro w hSw; (try dsimp only at hSw); go_simp; try with_reducible rfl
          simp only [Act.put, setIfInBounds_toArray, set_cons_zero, set_cons_succ]
          refine wpAnyH_take (i := 11) (oi := { dst := some 124, op := .move (.tmp 123), type := 4, pos := "law.go:70", after := #[⟨10, .data⟩, ⟨8, .chain⟩], guard := none }) (v := ?_) rfl (by kernel_rfl) (by kernel_rfl) (by kernel_rfl) (fun _ _ _ h => h) (Or.inl ⟨by rfl, ?_⟩) (by assumption) ?_
          rotate_left
          ·intro w hSw; (try dsimp only at hSw); go_simp; try with_reducible rfl
          simp only [Act.put, setIfInBounds_toArray, set_cons_zero, set_cons_succ]
          refine wpAnyH_take (i := 12) (oi := { dst := some 125, op := .move (.tmp 5), type := 23, pos := "law.go:70", after := #[⟨11, .guard⟩], guard := some (11, false) }) (v := ?_) rfl (by kernel_rfl) (by kernel_rfl) (by kernel_rfl) (fun _ _ _ h => h) (Or.inl ⟨by rfl, ?_⟩) (by assumption) ?_
          rotate_left
          ·intro w hSw; (try dsimp only at hSw); go_simp; try with_reducible rfl
          simp only [Act.put, setIfInBounds_toArray, set_cons_zero, set_cons_succ]
          refine wpAnyH_take (i := 14) (oi := { dst := some 127, op := .fieldAddr 40 (.tmp 7) 1, type := 0, pos := "law.go:70", after := #[⟨11, .guard⟩], guard := some (11, false) }) (v := ?_) rfl (by kernel_rfl) (by kernel_rfl) (by kernel_rfl) (fun _ _ _ h => h) (Or.inl ⟨by rfl, ?_⟩) (by assumption) ?_
          rotate_left
          ·intro w hSw; (try dsimp only at hSw); go_simp; try with_reducible rfl
          simp only [Act.put, setIfInBounds_toArray, set_cons_zero, set_cons_succ]
          refine wpAnyH_take (i := 15) (oi := { dst := some 128, op := .load 3 (.tmp 127), type := 3, pos := "law.go:70", after := #[⟨14, .data⟩, ⟨11, .guard⟩], guard := some (11, false) }) (v := ?_) rfl (by kernel_rfl) (by kernel_rfl) (by kernel_rfl) (fun _ _ _ h => h) (Or.inl ⟨by rfl, ?_⟩) (by assumption) ?_
          rotate_left
          ·intro w hSw; (try dsimp only at hSw); go_simp; try with_reducible rfl
          simp only [Act.put, setIfInBounds_toArray, set_cons_zero, set_cons_succ]
          refine wpAnyH_ready (rs := [13]) (by kernel_rfl) (by simp) ?_
          refine AllReadyH.cons (o := { dst := some 126, op := .call { callee := .value (.func 15), args := #[.tmp 125], argTypes := #[23] }, type := 3, pos := "law.go:70", after := #[⟨12, .data⟩, ⟨11, .chain⟩, ⟨11, .guard⟩], guard := some (11, false) }) rfl (fun K hK => ?_) AllReadyH.nil
          go_simp
          refine (HTI.out _ (by first | exact hBM | exact hBM.drew | go_grown)).mono ?_
          rintro e wZ ⟨rfl, hwZ⟩
          obtain rfl := hwZ.symm
          clear hwZ
          clear hHeld
          refine hK.out _ _ (by (try dsimp only); go_keep) (fun hHeld => ?_)
          clear hK K
          try simp only [Act.put, setIfInBounds_toArray, set_cons_zero, set_cons_succ]
          refine wpAnyH_take (i := 16) (oi := { dst := some 129, op := .binOp .neq 3 (.tmp 126) (.tmp 128) 3, type := 4, pos := "law.go:70", after := #[⟨13, .data⟩, ⟨15, .data⟩, ⟨11, .guard⟩], guard := some (11, false) }) (v := ?_) rfl (by kernel_rfl) (by kernel_rfl) (by kernel_rfl) (fun _ _ _ h => h) (Or.inl ⟨by rfl, ?_⟩) (by assumption) ?_
          rotate_left
          ·intro w hSw; (try dsimp only at hSw); go_simp; try with_reducible rfl
          simp only [Act.put, setIfInBounds_toArray, set_cons_zero, set_cons_succ]
          refine wpAnyH_take (i := 17) (oi := { dst := some 130, op := .pick (.tmp 124) (.const (.bool true)) (.tmp 129), type := 4, pos := "law.go:70", after := #[⟨11, .data⟩, ⟨16, .data⟩], guard := none }) (v := ?_) rfl (by kernel_rfl) (by kernel_rfl) (by kernel_rfl) (fun _ _ _ h => h) (Or.inl ⟨by rfl, ?_⟩) (by assumption) ?_
          rotate_left
          ·intro w hSw; (try dsimp only at hSw); go_simp; try with_reducible rfl
          simp only [Act.put, setIfInBounds_toArray, set_cons_zero, set_cons_succ]
          refine wpAnyH_take (i := 18) (oi := { dst := some 131, op := .move (.tmp 130), type := 4, pos := "law.go:70", after := #[⟨17, .data⟩, ⟨13, .chain⟩], guard := none }) (v := ?_) rfl (by kernel_rfl) (by kernel_rfl) (by kernel_rfl) (fun _ _ _ h => h) (Or.inl ⟨by rfl, ?_⟩) (by assumption) ?_
          rotate_left
          ·intro w hSw; (try dsimp only at hSw); go_simp; try with_reducible rfl
          simp only [Act.put, setIfInBounds_toArray, set_cons_zero, set_cons_succ]
          refine wpAnyH_take (i := 19) (oi := { dst := some 132, op := .move (.tmp 15), type := 4, pos := "law.go:70", after := #[⟨18, .guard⟩], guard := some (18, false) }) (v := ?_) rfl (by kernel_rfl) (by kernel_rfl) (by kernel_rfl) (fun _ _ _ h => h) (Or.inl ⟨by rfl, ?_⟩) (by assumption) ?_
          rotate_left
          ·intro w hSw; (try dsimp only at hSw); go_simp; try with_reducible rfl
          simp only [Act.put, setIfInBounds_toArray, set_cons_zero, set_cons_succ]
          refine wpAnyH_take (i := 20) (oi := { dst := some 133, op := .fieldAddr 40 (.tmp 7) 2, type := 0, pos := "law.go:70", after := #[⟨18, .guard⟩], guard := some (18, false) }) (v := ?_) rfl (by kernel_rfl) (by kernel_rfl) (by kernel_rfl) (fun _ _ _ h => h) (Or.inl ⟨by rfl, ?_⟩) (by assumption) ?_
          rotate_left
          ·intro w hSw; (try dsimp only at hSw); go_simp; try with_reducible rfl
          simp only [Act.put, setIfInBounds_toArray, set_cons_zero, set_cons_succ]
          refine wpAnyH_take (i := 21) (oi := { dst := some 134, op := .load 31 (.tmp 133), type := 31, pos := "law.go:70", after := #[⟨20, .data⟩, ⟨18, .guard⟩], guard := some (18, false) }) (v := ?_) rfl (by kernel_rfl) (by kernel_rfl) (by kernel_rfl) (fun _ _ _ h => h) (Or.inl ⟨by rfl, ?_⟩) (by assumption) ?_
          rotate_left
          ·intro w hSw; (try dsimp only at hSw); go_simp; try with_reducible rfl
          simp only [Act.put, setIfInBounds_toArray, set_cons_zero, set_cons_succ]
          refine wpAnyH_take (i := 22) (oi := { dst := some 135, op := .call { callee := .builtin .len, args := #[.tmp 134], argTypes := #[31] }, type := 3, pos := "law.go:70", after := #[⟨21, .data⟩, ⟨18, .guard⟩], guard := some (18, false) }) (v := ?_) rfl (by kernel_rfl) (by kernel_rfl) (by kernel_rfl) (fun _ _ _ h => h) (Or.inl ⟨by rfl, ?_⟩) (by assumption) ?_
          rotate_left
          ·intro w hSw; (try dsimp only at hSw); go_simp; try with_reducible rfl
          simp only [Act.put, setIfInBounds_toArray, set_cons_zero, set_cons_succ]
          refine wpAnyH_take (i := 23) (oi := { dst := some 136, op := .binOp .gtr 3 (.tmp 135) (.const (.int .i64 0)) 3, type := 4, pos := "law.go:70", after := #[⟨22, .data⟩, ⟨18, .guard⟩], guard := some (18, false) }) (v := ?_) rfl (by kernel_rfl) (by kernel_rfl) (by kernel_rfl) (fun _ _ _ h => h) (Or.inl ⟨by rfl, ?_⟩) (by assumption) ?_
          rotate_left
          ·intro w hSw; (try dsimp only at hSw); go_simp; try with_reducible rfl
          simp only [Act.put, setIfInBounds_toArray, set_cons_zero, set_cons_succ]
          refine wpAnyH_take (i := 24) (oi := { dst := some 137, op := .binOp .neq 4 (.tmp 132) (.tmp 136) 4, type := 4, pos := "law.go:70", after := #[⟨19, .data⟩, ⟨23, .data⟩, ⟨18, .guard⟩], guard := some (18, false) }) (v := ?_) rfl (by kernel_rfl) (by kernel_rfl) (by kernel_rfl) (fun _ _ _ h => h) (Or.inl ⟨by rfl, ?_⟩) (by assumption) ?_
          rotate_left
          ·intro w hSw; (try dsimp only at hSw); go_simp; try with_reducible rfl
          simp only [Act.put, setIfInBounds_toArray, set_cons_zero, set_cons_succ]
          refine wpAnyH_take (i := 25) (oi := { dst := some 138, op := .pick (.tmp 131) (.const (.bool true)) (.tmp 137), type := 4, pos := "law.go:70", after := #[⟨18, .data⟩, ⟨24, .data⟩], guard := none }) (v := ?_) rfl (by kernel_rfl) (by kernel_rfl) (by kernel_rfl) (fun _ _ _ h => h) (Or.inl ⟨by rfl, ?_⟩) (by assumption) ?_
          rotate_left
          ·intro w hSw; (try dsimp only at hSw); go_simp; try with_reducible rfl
          simp only [Act.put, setIfInBounds_toArray, set_cons_zero, set_cons_succ]
          refine wpAnyH_take (i := 26) (oi := { dst := some 139, op := .move (.tmp 138), type := 4, pos := "law.go:70", after := #[⟨25, .data⟩, ⟨18, .chain⟩], guard := none }) (v := ?_) rfl (by kernel_rfl) (by kernel_rfl) (by kernel_rfl) (fun _ _ _ h => h) (Or.inl ⟨by rfl, ?_⟩) (by assumption) ?_
          rotate_left
          ·intro w hSw; (try dsimp only at hSw); go_simp; try with_reducible rfl
          simp only [Act.put, setIfInBounds_toArray, set_cons_zero, set_cons_succ]
          refine wpAnyH_take (i := 27) (oi := { dst := some 140, op := .move (.tmp 15), type := 4, pos := "law.go:70", after := #[⟨26, .guard⟩], guard := some (26, false) }) (v := ?_) rfl (by kernel_rfl) (by kernel_rfl) (by kernel_rfl) (fun _ _ _ h => h) (Or.inl ⟨by rfl, ?_⟩) (by assumption) ?_
          rotate_left
          ·intro w hSw; (try dsimp only at hSw); go_simp; try with_reducible rfl
          simp only [Act.put, setIfInBounds_toArray, set_cons_zero, set_cons_succ]
          refine wpAnyH_take (i := 28) (oi := { dst := some 141, op := .move (.tmp 140), type := 4, pos := "law.go:70", after := #[⟨27, .data⟩, ⟨26, .chain⟩, ⟨26, .guard⟩], guard := some (26, false) }) (v := ?_) rfl (by kernel_rfl) (by kernel_rfl) (by kernel_rfl) (fun _ _ _ h => h) (Or.inl ⟨by rfl, ?_⟩) (by assumption) ?_
          rotate_left
          ·intro w hSw; (try dsimp only at hSw); go_simp; try with_reducible rfl
          simp only [Act.put, setIfInBounds_toArray, set_cons_zero, set_cons_succ]
          refine wpAnyH_take (i := 29) (oi := { dst := some 142, op := .move (.tmp 14), type := 3, pos := "law.go:70", after := #[⟨28, .guard⟩], guard := some (28, true) }) (v := ?_) rfl (by kernel_rfl) (by kernel_rfl) (by kernel_rfl) (fun _ _ _ h => h) (Or.inl ⟨by rfl, ?_⟩) (by assumption) ?_
          rotate_left
          ·intro w hSw; (try dsimp only at hSw); go_simp; try with_reducible rfl
          simp only [Act.put, setIfInBounds_toArray, set_cons_zero, set_cons_succ]
          refine wpAnyH_take (i := 30) (oi := { dst := some 143, op := .fieldAddr 40 (.tmp 7) 2, type := 0, pos := "law.go:70", after := #[⟨28, .guard⟩], guard := some (28, true) }) (v := ?_) rfl (by kernel_rfl) (by kernel_rfl) (by kernel_rfl) (fun _ _ _ h => h) (Or.inl ⟨by rfl, ?_⟩) (by assumption) ?_
          rotate_left
          ·intro w hSw; (try dsimp only at hSw); go_simp; try with_reducible rfl
          simp only [Act.put, setIfInBounds_toArray, set_cons_zero, set_cons_succ]
          refine wpAnyH_take (i := 31) (oi := { dst := some 144, op := .load 31 (.tmp 143), type := 31, pos := "law.go:70", after := #[⟨30, .data⟩, ⟨28, .guard⟩], guard := some (28, true) }) (v := ?_) rfl (by kernel_rfl) (by kernel_rfl) (by kernel_rfl) (fun _ _ _ h => h) (Or.inl ⟨by rfl, ?_⟩) (by assumption) ?_
          rotate_left
          ·intro w hSw; (try dsimp only at hSw); go_simp; try with_reducible rfl
          simp only [Act.put, setIfInBounds_toArray, set_cons_zero, set_cons_succ]
          refine wpAnyH_take (i := 32) (oi := { dst := some 145, op := .indexAddr 31 (.tmp 144) (.const (.int .i64 0)), type := 0, pos := "law.go:70", after := #[⟨31, .data⟩, ⟨28, .guard⟩], guard := some (28, true) }) (v := ?_) rfl (by kernel_rfl) (by kernel_rfl) (by kernel_rfl) (fun _ _ _ h => h) (Or.inl ⟨by rfl, ?_⟩) (by assumption) ?_
          rotate_left
          ·intro w hSw; (try dsimp only at hSw); go_simp; try with_reducible rfl
          simp only [Act.put, setIfInBounds_toArray, set_cons_zero, set_cons_succ]
          refine wpAnyH_take (i := 33) (oi := { dst := some 146, op := .load 3 (.tmp 145), type := 3, pos := "law.go:70", after := #[⟨32, .data⟩, ⟨28, .guard⟩], guard := some (28, true) }) (v := ?_) rfl (by kernel_rfl) (by kernel_rfl) (by kernel_rfl) (fun _ _ _ h => h) (Or.inl ⟨by rfl, ?_⟩) (by assumption) ?_
          rotate_left
          ·intro w hSw; (try dsimp only at hSw); go_simp; try with_reducible rfl
          simp only [Act.put, setIfInBounds_toArray, set_cons_zero, set_cons_succ]
          refine wpAnyH_take (i := 34) (oi := { dst := some 147, op := .binOp .neq 3 (.tmp 142) (.tmp 146) 3, type := 4, pos := "law.go:70", after := #[⟨29, .data⟩, ⟨33, .data⟩, ⟨28, .guard⟩], guard := some (28, true) }) (v := ?_) rfl (by kernel_rfl) (by kernel_rfl) (by kernel_rfl) (fun _ _ _ h => h) (Or.inl ⟨by rfl, ?_⟩) (by assumption) ?_
          rotate_left
          ·intro w hSw; (try dsimp only at hSw); go_simp; try with_reducible rfl
          simp only [Act.put, setIfInBounds_toArray, set_cons_zero, set_cons_succ]
          refine wpAnyH_take (i := 35) (oi := { dst := some 148, op := .pick (.tmp 141) (.tmp 147) (.const (.bool false)), type := 4, pos := "law.go:70", after := #[⟨28, .data⟩, ⟨34, .data⟩, ⟨26, .guard⟩], guard := some (26, false) }) (v := ?_) rfl (by kernel_rfl) (by kernel_rfl) (by kernel_rfl) (fun _ _ _ h => h) (Or.inl ⟨by rfl, ?_⟩) (by assumption) ?_
          rotate_left
          ·intro w hSw; (try dsimp only at hSw); go_simp; try with_reducible rfl
          simp only [Act.put, setIfInBounds_toArray, set_cons_zero, set_cons_succ]
          refine wpAnyH_take (i := 36) (oi := { dst := some 149, op := .pick (.tmp 139) (.const (.bool true)) (.tmp 148), type := 4, pos := "law.go:70", after := #[⟨26, .data⟩, ⟨35, .data⟩], guard := none }) (v := ?_) rfl (by kernel_rfl) (by kernel_rfl) (by kernel_rfl) (fun _ _ _ h => h) (Or.inl ⟨by rfl, ?_⟩) (by assumption) ?_
          rotate_left
          ·intro w hSw; (try dsimp only at hSw); go_simp; try with_reducible rfl
          simp only [Act.put, setIfInBounds_toArray, set_cons_zero, set_cons_succ]
          refine wpAnyH_take (i := 37) (oi := { dst := some 150, op := .move (.tmp 149), type := 4, pos := "law.go:70", after := #[⟨36, .data⟩, ⟨28, .chain⟩], guard := none }) (v := ?_) rfl (by kernel_rfl) (by kernel_rfl) (by kernel_rfl) (fun _ _ _ h => h) (Or.inl ⟨by rfl, ?_⟩) (by assumption) ?_
          rotate_left
          ·intro w hSw; (try dsimp only at hSw); go_simp; try with_reducible rfl
          simp only [Act.put, setIfInBounds_toArray, set_cons_zero, set_cons_succ]
          refine wpAnyH_take (i := 38) (oi := { dst := some 151, op := .move (.tmp 15), type := 4, pos := "law.go:70", after := #[⟨37, .guard⟩], guard := some (37, false) }) (v := ?_) rfl (by kernel_rfl) (by kernel_rfl) (by kernel_rfl) (fun _ _ _ h => h) (Or.inl ⟨by rfl, ?_⟩) (by assumption) ?_
          rotate_left
          ·intro w hSw; (try dsimp only at hSw); go_simp; try with_reducible rfl
          simp only [Act.put, setIfInBounds_toArray, set_cons_zero, set_cons_succ]
          refine wpAnyH_take (i := 39) (oi := { dst := some 152, op := .unOp .not 4 (.tmp 151), type := 4, pos := "law.go:70", after := #[⟨38, .data⟩, ⟨37, .guard⟩], guard := some (37, false) }) (v := ?_) rfl (by kernel_rfl) (by kernel_rfl) (by kernel_rfl) (fun _ _ _ h => h) (Or.inl ⟨by rfl, ?_⟩) (by assumption) ?_
          rotate_left
          ·intro w hSw; (try dsimp only at hSw); go_simp; try with_reducible rfl
          simp only [Act.put, setIfInBounds_toArray, set_cons_zero, set_cons_succ]
          refine wpAnyH_take (i := 40) (oi := { dst := some 153, op := .move (.tmp 152), type := 4, pos := "law.go:70", after := #[⟨39, .data⟩, ⟨37, .chain⟩, ⟨37, .guard⟩], guard := some (37, false) }) (v := ?_) rfl (by kernel_rfl) (by kernel_rfl) (by kernel_rfl) (fun _ _ _ h => h) (Or.inl ⟨by rfl, ?_⟩) (by assumption) ?_
          rotate_left
          ·intro w hSw; (try dsimp only at hSw); go_simp; try with_reducible rfl
          simp only [Act.put, setIfInBounds_toArray, set_cons_zero, set_cons_succ]
          refine wpAnyH_take (i := 41) (oi := { dst := some 154, op := .move (.tmp 14), type := 3, pos := "law.go:70", after := #[⟨40, .guard⟩], guard := some (40, true) }) (v := undef) rfl (by kernel_rfl) (by kernel_rfl) (by kernel_rfl) (fun _ _ _ h => h) (Or.inr ⟨by rfl, rfl⟩) (by assumption) ?_
          simp only [Act.put, setIfInBounds_toArray, set_cons_zero, set_cons_succ]
          refine wpAnyH_take (i := 42) (oi := { dst := some 155, op := .binOp .neq 3 (.tmp 154) (.const (.int .i64 0)) 3, type := 4, pos := "law.go:70", after := #[⟨41, .data⟩, ⟨40, .guard⟩], guard := some (40, true) }) (v := undef) rfl (by kernel_rfl) (by kernel_rfl) (by kernel_rfl) (fun _ _ _ h => h) (Or.inr ⟨by rfl, rfl⟩) (by assumption) ?_
          simp only [Act.put, setIfInBounds_toArray, set_cons_zero, set_cons_succ]
          refine wpAnyH_take (i := 43) (oi := { dst := some 156, op := .pick (.tmp 153) (.tmp 155) (.const (.bool false)), type := 4, pos := "law.go:70", after := #[⟨40, .data⟩, ⟨42, .data⟩, ⟨37, .guard⟩], guard := some (37, false) }) (v := ?_) rfl (by kernel_rfl) (by kernel_rfl) (by kernel_rfl) (fun _ _ _ h => h) (Or.inl ⟨by rfl, ?_⟩) (by assumption) ?_
          rotate_left
          ·intro w hSw; (try dsimp only at hSw); go_simp; try with_reducible rfl
          simp only [Act.put, setIfInBounds_toArray, set_cons_zero, set_cons_succ]
          refine wpAnyH_take (i := 44) (oi := { dst := some 157, op := .pick (.tmp 150) (.const (.bool true)) (.tmp 156), type := 4, pos := "law.go:70", after := #[⟨37, .data⟩, ⟨43, .data⟩], guard := none }) (v := ?_) rfl (by kernel_rfl) (by kernel_rfl) (by kernel_rfl) (fun _ _ _ h => h) (Or.inl ⟨by rfl, ?_⟩) (by assumption) ?_
          rotate_left
          ·intro w hSw; (try dsimp only at hSw); go_simp; try with_reducible rfl
          simp only [Act.put, setIfInBounds_toArray, set_cons_zero, set_cons_succ]
          refine wpAnyH_done (by kernel_rfl) ?_ _
          all_goals
           have HBF : Hid (Below w.heap.size w wM) := Lib.hid (b_then HBt.out hBM)
           have HQF : Hid (QAt wM w.heap.size w.heap.size q tk v (hd :: tl)) := Lib.hid (HQ.out.below hBM)
           have HXF : Hid (XAt wM g w.heap.size q tk (some ⟨bx, 0, none⟩) c (hd :: tl)) := Lib.hid (HX.out.below hBM)
           clear hbL hrL hBL hbM hBM u1 u2 u3 m1 m2 m3 hsL hsM
           go_wp2_with fail
           go_roundw
           case rel => exact ⟨k + 1, tk, v, hd :: tl, some ⟨bx, 0, none⟩, c, by go_num, by omega, by omega, HBF, HQF, HXF, HLN⟩
           case measure => simp [intOf]; omega
   ·have hc : (decide (k < len1) = true ∧ decide ((k : Int) < 100) = false) ∨ decide (k < len1) = false := by
     by_cases h1 : k < len1
     ·exact .inl ⟨decide_eq_true h1, decide_eq_false (by omega)⟩
     ·exact .inr (decide_eq_false h1)
    clear hle hle2 hlt
    rcases hc with ⟨f0, f1⟩ | f0
    all_goals
     go_wp2_with fail
     go_returns
     exact ⟨rfl, HB.out⟩
end Go.Proofs.Ytilibeajejhpbaa
