/- split: the regions, with what lies within pages changed. Condition: at most 300 regions. Printed by gen/rgsplit.py. -/
import Derived.Test.YtoodjhomekeekaaRgO
import Derived.Shelf.Abstract
import Derived.Deep.CutBlock
import Derived.Deep.DeepCutAuto
import Derived.Deep.WholeRow
import Derived.Laws.Rows
import Derived.Laws.Tables
namespace Go.Proofs.Ytoodjhomekeekaa
open Go.ChangeShapes Go.WideShapes Go.ChangeAt Go.RowKit
set_option linter.unusedVariables false
set_option linter.unusedSimpArgs false
/-- What a change of one region does, in whatever world above w. -/
def TellsC (w : World) (g : Nat) (cap : Array Value) (ch : RG → RG × Bool) : Prop :=
  (∀ args W, (callFunc g args).run Try.prog W = .ok (.enter g args) W) ∧
  ∀ (W : World) (d : RG), Below w.heap.size w W → Calls Try.prog g (#[d.val] ++ cap) W fun e w' => e = .returned (.tuple #[(ch d).1.val, .bool (ch d).2]) ∧ Below W.heap.size W w'
def pieces (ch : RG → RG × Bool) (f t : Int) (d : RG) : List RG :=
  if (inR d f t).b ≤ (inR d f t).a then [d] else (if (aheadR d f t).a < (aheadR d f t).b then [aheadR d f t] else []) ++ ((if (ch (inR d f t)).2 then [(ch (inR d f t)).1] else []) ++ (if (behindR d f t).a < (behindR d f t).b then [behindR d f t] else []))
def splitL (ch : RG → RG × Bool) (f t : Int) (R : List RG) : List RG := mergeL (R.flatMap (pieces ch f t))
theorem pieces_len (ch : RG → RG × Bool) (f t : Int) (d : RG) : (pieces ch f t d).length ≤ 3 := by
  unfold pieces
  split
  · simp
  · simp only [List.length_append]
    split <;> split <;> split <;> simp
theorem put_no {a : Act} {v : Value} : a.put none v = a := rfl
theorem three_1 (w : World) (c1 c2 c3 : Array Value) (t : TypeId) : (((w.alloc (.cells c1 t)).alloc (.cells c2 t)).alloc (.cells c3 t)).heap[w.heap.size]? = some (.cells c1 t (0, 0)) := heap_old _ _ _ (heap_old _ _ _ (heap_new _ _))
theorem three_2 (w : World) (c1 c2 c3 : Array Value) (t : TypeId) : (((w.alloc (.cells c1 t)).alloc (.cells c2 t)).alloc (.cells c3 t)).heap[w.heap.size + 1]? = some (.cells c2 t (0, 0)) := heap_old _ _ _ (heap_two _ _ _)
theorem three_3 (w : World) (c1 c2 c3 : Array Value) (t : TypeId) : (((w.alloc (.cells c1 t)).alloc (.cells c2 t)).alloc (.cells c3 t)).heap[w.heap.size + 1 + 1]? = some (.cells c3 t (0, 0)) := by
  have := heap_two (w.alloc (.cells c1 t)) (.cells c2 t) (.cells c3 t)
  rwa [World.size_alloc] at this
theorem setRow_old (w : World) (o : Obj) (g : Nat) (c : Array Value) (h : g < w.heap.size) : (w.alloc o).setRow g c = (w.setRow g c).alloc o := by
  simp only [World.setRow, World.alloc]
  congr 1
  apply Array.ext_getElem?
  intro i
  rw [Array.getElem?_modify, Array.getElem?_push, Array.getElem?_push, Array.size_modify, Array.getElem?_modify]
  by_cases h1 : i = w.heap.size
  · subst h1
    have : ¬ g = w.heap.size := by omega
    simp [this]
  · simp [h1]
theorem set3_1 (w : World) (c1 c2 c3 c : Array Value) (t : TypeId) : (((w.alloc (.cells c1 t)).alloc (.cells c2 t)).alloc (.cells c3 t)).setRow w.heap.size c = ((w.alloc (.cells c t)).alloc (.cells c2 t)).alloc (.cells c3 t) := by
  rw [setRow_old _ _ _ _ (by simp only [World.size_alloc]; omega), setRow_old _ _ _ _ (by simp only [World.size_alloc]; omega), World.setRow_alloc_new]
theorem set3_2 (w : World) (c1 c2 c3 c : Array Value) (t : TypeId) : (((w.alloc (.cells c1 t)).alloc (.cells c2 t)).alloc (.cells c3 t)).setRow (w.heap.size + 1) c = ((w.alloc (.cells c1 t)).alloc (.cells c t)).alloc (.cells c3 t) := by
  rw [setRow_old _ _ _ _ (by simp only [World.size_alloc]; omega), ← World.size_alloc w (.cells c1 t), World.setRow_alloc_new]
theorem set3_3 (w : World) (c1 c2 c3 c : Array Value) (t : TypeId) : (((w.alloc (.cells c1 t)).alloc (.cells c2 t)).alloc (.cells c3 t)).setRow (w.heap.size + 1 + 1) c = ((w.alloc (.cells c1 t)).alloc (.cells c2 t)).alloc (.cells c t) := by
  rw [← World.size_alloc w (.cells c1 t), ← World.size_alloc (w.alloc (.cells c1 t)) (.cells c2 t), World.setRow_alloc_new]
/-- Where the row of an append lies: where it lay, or above all. -/
theorem app_where {W w' : World} {B : Nat} {v : Value} {L : List RG} (hown : rgL W B v L) (d : RG) (hl : L.length ≤ 1000000) {A : Option Addr} {n c : Nat}
    (h : (Builtin.append_ #[23, 23] 23 #[v, .slice (some ⟨W.heap.size, 0, none⟩) 1 1]).run Try.prog (W.alloc (.cells #[.int .i64 d.a, .int .i64 d.b, .bool d.w, .bool d.u, .bool d.x, .int .i64 d.k] 31)) = .ok (.slice A n c) w') :
    (Value.slice A n c).ownBlock = v.ownBlock ∨ (Value.slice A n c).ownBlock = some (W.heap.size + 1) := by
  obtain ⟨i0, hi, hz0, hz1, hz2⟩ := info_parts info_rg
  have hnw : ∀ j u, [Value.int .i64 d.a, .int .i64 d.b, .bool d.w, .bool d.u, .bool d.x, .int .i64 d.k][j]? = some u → (W.alloc (.cells #[.int .i64 d.a, .int .i64 d.b, .bool d.w, .bool d.u, .bool d.x, .int .i64 d.k] 31)).cell? ((⟨W.heap.size, 0, none⟩ : Addr).add j) = some u := fun j u hj => by
    have e : (⟨W.heap.size, 0, none⟩ : Addr).add j = ⟨W.heap.size, j, none⟩ := by unfold Addr.add; split <;> simp_all
    rw [e]
    have := cell_heap (heap_new W (.cells #[.int .i64 d.a, .int .i64 d.b, .bool d.w, .bool d.u, .bool d.x, .int .i64 d.k] 31)) j
    rw [this, ← hj]; simp
  have h1c : ∀ u ∈ [Value.int .i64 d.a, .int .i64 d.b, .bool d.w, .bool d.u, .bool d.x, .int .i64 d.k], u.oneCell' = true := by
    intro u hu
    simp only [List.mem_cons] at hu
    rcases hu with rfl | rfl | rfl | rfl | rfl | rfl | hu
    all_goals first | rfl | cases hu
  rcases hown.2 with ⟨rfl, h0⟩ | ⟨g, cap, cur, rfl, hb, hg, hnc, hcm, hcs, hct⟩
  · have hr := Go.run_append_nil (P := Try.prog) (W.alloc (.cells #[.int .i64 d.a, .int .i64 d.b, .bool d.w, .bool d.u, .bool d.x, .int .i64 d.k] 31)) 23 23 31 i0 _ under_rg hi hz0 ⟨W.heap.size, 0, none⟩ 1 1 _ (by rw [hz1]; rfl) hnw (by omega) (by omega) (by rw [hz2]; omega)
    rw [hr] at h
    injection h with h1 h2
    injection h1 with h3 h4 h5
    right
    rw [← h3]
    simp [Value.ownBlock]
  · have hlt : g < W.heap.size := heap_lt hg
    have hg2 := heap_old W (.cells #[.int .i64 d.a, .int .i64 d.b, .bool d.w, .bool d.u, .bool d.x, .int .i64 d.k] 31) _ hg
    by_cases hroom : L.length + 1 ≤ cap
    · have hr := run_append_room (P := Try.prog) (W.alloc (.cells #[.int .i64 d.a, .int .i64 d.b, .bool d.w, .bool d.u, .bool d.x, .int .i64 d.k] 31)) 23 23 31 i0 under_rg hi g L.length cap cur hg2 ⟨W.heap.size, 0, none⟩ 1 1 _ (by rw [hz1]; rfl) hnw h1c hroom (by rw [hz1, hcs]; simp; omega)
      rw [hr] at h
      injection h with h1 h2
      injection h1 with h3 h4 h5
      left
      rw [← h3]
      simp [Value.ownBlock]
    · have hr := Go.run_append_grow (P := Try.prog) (W.alloc (.cells #[.int .i64 d.a, .int .i64 d.b, .bool d.w, .bool d.u, .bool d.x, .int .i64 d.k] 31)) 23 23 31 i0 _ under_rg hi hz0 ⟨g, 0, none⟩ L.length cap (rgcells L) (by rw [hz1]; exact rgcells_length L) (fun j u hj => by
        have e : (⟨g, 0, none⟩ : Addr).add j = ⟨g, j, none⟩ := by unfold Addr.add; split <;> simp_all
        rw [e]
        have := cell_heap hg2 j
        rw [this]
        rw [← hct, List.getElem?_take] at hj
        split at hj
        · rw [← hj]; simp
        · cases hj) ⟨W.heap.size, 0, none⟩ 1 1 _ (by rw [hz1]; rfl) hnw (by omega) (by omega) (by rw [hz2]; exact growslice_fits (by omega) (by omega))
      rw [hr] at h
      injection h with h1 h2
      injection h1 with h3 h4 h5
      right
      rw [← h3]
      simp [Value.ownBlock]
/-- What an append leaves: blocks apart from the list's own stay, and stay apart. -/
def Apart (lo : Nat) (V wx : World) (v : Value) : Prop := V.heap.size ≤ wx.heap.size ∧ ∀ b, lo ≤ b → b < V.heap.size → wx.heap[b]? = V.heap[b]? ∧ some b ≠ v.ownBlock
theorem app_apart {B : Nat} {w0 V W : World} {lo : Nat} {v : Value} {L : List RG} (hle : B ≤ w0.heap.size) (hap : Apart lo V W v) (hown : rgL W B v L) (hB : Below B w0 W) (d : RG) (hl : L.length ≤ 1000000) :
    ∃ A c w', (Builtin.append_ #[23, 23] 23 #[v, .slice (some ⟨W.heap.size, 0, none⟩) 1 1]).run Try.prog (W.alloc (.cells #[.int .i64 d.a, .int .i64 d.b, .bool d.w, .bool d.u, .bool d.x, .int .i64 d.k] 31)) = .ok (.slice A (L.length + 1) c) w' ∧ rgL w' B (.slice A (L.length + 1) c) (L ++ [d]) ∧ Below B w0 w' ∧ Apart lo V w' (.slice A (L.length + 1) c) := by
  obtain ⟨A, c, w', h1, h2, h3, h4, h5⟩ := rgapp B w0 hle hown hB d hl
  refine ⟨A, c, w', h1, h2, h3, by have := hap.1; omega, fun b hb hb2 => ?_⟩
  have hq := hap.2 b hb hb2
  have hs := hap.1
  refine ⟨(h5 b (by omega) hq.2).trans hq.1, ?_⟩
  rcases app_where hown d hl h1 with e | e
  · rw [e]; exact hq.2
  · rw [e]; intro e2; injection e2; omega
theorem Apart.below {lo : Nat} {V W W2 : World} {v : Value} (h : Apart lo V W v) (hb : Below W.heap.size W W2) : Apart lo V W2 v :=
  ⟨by have := h.1; have := hb.size; omega, fun b h1 h2 => ⟨(hb.block b (by have := h.1; omega)).trans (h.2 b h1 h2).1, (h.2 b h1 h2).2⟩⟩
set_option maxHeartbeats 16000000 in
theorem split_any {w : World} {base : Nat} {v : Value} {R : List RG} (h : rgL w base v R) (hl : R.length ≤ 300) (f t : Int) (g : Nat) (cap : Array Value) (ch : RG → RG × Bool) (hch : TellsC w g cap ch) :
    Calls Try.prog 31 #[v, .agg #[.int .i64 f, .int .i64 t], .func (.func g) #[] cap] w fun e w' => ∃ A c, e = .returned (.slice A (splitL ch f t R).length c) ∧ rgL w' w.heap.size (.slice A (splitL ch f t R).length c) (splitL ch f t R) ∧ Below w.heap.size w w' := by
  obtain ⟨A, cp, rfl⟩ := h.form
  have H := Lib.hid h
  obtain ⟨eg, hch⟩ := hch
  have HCH := Lib.hid hch
  obtain ⟨g0, hg0⟩ : ∃ g0, g0 = w.heap.size := ⟨_, rfl⟩
  obtain ⟨W0, hW0⟩ : ∃ W, W = w.alloc (.cells #[.int .i64 f, .int .i64 t] 27) := ⟨_, rfl⟩
  have hB0 : Below w.heap.size w W0 := by rw [hW0]; exact (Below.refl _ _).alloc (Nat.le_refl _) _
  have hp0 : W0.heap[g0]? = some (.cells #[.int .i64 f, .int .i64 t] 27 (0, 0)) := by rw [hW0, hg0]; exact heap_new _ _
  have HP := Lib.hid hp0
  have HB0 := Lib.hid hB0
  have HG0 := Lib.hid hg0
  have HW0 := Lib.hid hW0
  have hgw : g0 < W0.heap.size := heap_lt hp0
  clear h hch hg0 hB0 hp0
  go_enter Try.func31, Try.ntmps31
  go_wp2_with fail
  rw [← hW0, ← HG0.out]
  clear hW0
  have HBS : Below W0.heap.size W0 W0 := Below.refl _ _
  go_loopw [7, 17] (fun x7 x wr => ∃ (k : Nat) (O : List RG) (A3 : Option Addr) (c3 : Nat), x = .int .i64 k ∧ x7 = .slice A3 O.length c3 ∧ k ≤ R.length ∧ O.length ≤ 3 * k ∧ Below W0.heap.size W0 wr ∧ Hid (rgL wr W0.heap.size (.slice A3 O.length c3) O) ∧ Hid (R.flatMap (pieces ch f t) = O ++ (R.drop k).flatMap (pieces ch f t))) (fun _ x _ => R.length - (intOf x).toNat)
  case atStart => exact ⟨0, [], none, 0, rfl, rfl, by omega, by simp, HBS, Lib.hid (rgL.nil _ _), Lib.hid rfl⟩
  case round =>
    clear HBS
    obtain ⟨k, O, A3, c3, rfl, rfl, hle, hok, hBW, HO, HF⟩ := hrel
    have hB := b_then HB0.out hBW
    have hsz := hB.size
    have HB := Lib.hid hB
    have HBW := Lib.hid hBW
    by_cases hlt : k < R.length
    · have f0 : decide (k < R.length) = true := decide_eq_true hlt
      have f3 : (k : Int) < (R.length : Int) := by omega
      have hd : (R.drop k).flatMap (pieces ch f t) = pieces ch f t R[k] ++ (R.drop (k + 1)).flatMap (pieces ch f t) := by
        rw [List.drop_eq_getElem_cons hlt]; rfl
      obtain ⟨b, cap1, hv, hb, hbw, e0, e1, e2, e3, e4, e5⟩ := H.out.cell (List.getElem?_eq_getElem hlt)
      obtain ⟨hc1, hf1⟩ := bcell hB
      have c0 := (hc1 b _ hbw).trans e0
      have c1 := (hc1 b _ hbw).trans e1
      have c2 := (hc1 b _ hbw).trans e2
      have c3_ := (hc1 b _ hbw).trans e3
      have c4 := (hc1 b _ hbw).trans e4
      have c5 := (hc1 b _ hbw).trans e5
      obtain ⟨rfl, _, rfl⟩ : A = some ⟨b, 0, none⟩ ∧ R.length = R.length ∧ cp = cap1 := by simpa using hv
      have hph := heap_below hBW HP.out
      have p0 : wr.cell? ⟨g0, 0, none⟩ = some (.int .i64 f) := by have := cell_heap hph 0; simpa using this
      have p1 : wr.cell? ⟨g0, 1, none⟩ = some (.int .i64 t) := by have := cell_heap hph 1; simpa using this
      have hgw2 : g0 < wr.heap.size := heap_lt hph
      obtain ⟨n, hn⟩ : ∃ n, n = R.length := ⟨_, rfl⟩
      rw [← hn] at hlt hle hl f0 f3 ⊢
      generalize R[k] = y at c0 c1 c2 c3_ c4 c5 hd
      obtain ⟨ya, yb, yw, yu, yx, yk⟩ := y
      simp only at c0 c1 c2 c3_ c4 c5
      have HD := Lib.hid hd
      have HN := Lib.hid hn
      have hbw3 : b < wr.heap.size := by omega
      clear hc1 hf1 e0 e1 e2 e3 e4 e5 hv hn hb hB hBW hd hph
      have HQ2 := Lib.hid (heap_new wr (.cells #[.int .i64 0, .int .i64 0, .bool false, .bool false, .bool false, .int .i64 0] 31))
      have HAL : Hid ((#[.int .i64 ya, .int .i64 yb, .bool yw, .bool yu, .bool yx, .int .i64 yk] : Array Value).all (·.oneCell') = true) := Lib.hid (by simp [Value.oneCell'])
      obtain ⟨z1, h1⟩ : ∃ z : Int, z = min yb f := ⟨_, rfl⟩
      obtain ⟨z2, h2⟩ : ∃ z : Int, z = max ya f := ⟨_, rfl⟩
      obtain ⟨z3, h3⟩ : ∃ z : Int, z = min yb t := ⟨_, rfl⟩
      obtain ⟨z4, h4⟩ : ∃ z : Int, z = max ya t := ⟨_, rfl⟩
      have eA : aheadR ⟨ya, yb, yw, yu, yx, yk⟩ f t = ⟨ya, z1, yw, yu, yx, yk⟩ := by rw [h1]; rfl
      have eI : inR ⟨ya, yb, yw, yu, yx, yk⟩ f t = ⟨z2, z3, yw, yu, yx, yk⟩ := by rw [h2, h3]; rfl
      have eB : behindR ⟨ya, yb, yw, yu, yx, yk⟩ f t = ⟨z4, yb, yw, yu, yx, yk⟩ := by rw [h4]; rfl
      have hpar : ∀ W, Calls Try.prog 38 #[.agg #[.int .i64 ya, .int .i64 yb, .bool yw, .bool yu, .bool yx, .int .i64 yk], .agg #[.int .i64 f, .int .i64 t]] W fun e w' => e = .returned (.tuple #[.agg #[.int .i64 ya, .int .i64 z1, .bool yw, .bool yu, .bool yx, .int .i64 yk], .agg #[.int .i64 z2, .int .i64 z3, .bool yw, .bool yu, .bool yx, .int .i64 yk], .agg #[.int .i64 z4, .int .i64 yb, .bool yw, .bool yu, .bool yx, .int .i64 yk]]) ∧ Below W.heap.size W w' := fun W => by
        have := parts_any W ⟨ya, yb, yw, yu, yx, yk⟩ f t
        rw [eA, eI, eB] at this
        exact this
      obtain ⟨⟨⟨xa, xb, xw, xu, xx, xk⟩, kb⟩, hx⟩ : ∃ z : RG × Bool, z = ch ⟨z2, z3, yw, yu, yx, yk⟩ := ⟨_, rfl⟩
      have hchg : ∀ W, Below w.heap.size w W → Calls Try.prog g (#[.agg #[.int .i64 z2, .int .i64 z3, .bool yw, .bool yu, .bool yx, .int .i64 yk]] ++ cap) W fun e w' => e = .returned (.tuple #[.agg #[.int .i64 xa, .int .i64 xb, .bool xw, .bool xu, .bool xx, .int .i64 xk], .bool kb]) ∧ Below W.heap.size W w' := fun W hW => by
        have := HCH.out W ⟨z2, z3, yw, yu, yx, yk⟩ hW
        rw [← hx] at this
        exact this
      have hpc : pieces ch f t ⟨ya, yb, yw, yu, yx, yk⟩ = if z3 ≤ z2 then [⟨ya, yb, yw, yu, yx, yk⟩] else (if ya < z1 then [⟨ya, z1, yw, yu, yx, yk⟩] else []) ++ ((if kb then [⟨xa, xb, xw, xu, xx, xk⟩] else []) ++ (if z4 < yb then [⟨z4, yb, yw, yu, yx, yk⟩] else [])) := by
        unfold pieces
        rw [eA, eI, eB, ← hx]
      have HPAR := Lib.hid hpar
      have HCHG := Lib.hid hchg
      have HPC := Lib.hid hpc
      clear h1 h2 h3 h4 eA eI eB hpar hx hchg hpc
      have HBE : Hid (Below w.heap.size w W0) := HB0
      go_upto_region 5 with (first | ((refine wpList_store_row rfl 31 (.tmp 9) (.tmp 20) rfl wr.heap.size #[.int .i64 ya, .int .i64 yb, .bool yw, .bool yu, .bool yx, .int .i64 yk] rfl rfl 31 #[.int .i64 0, .int .i64 0, .bool false, .bool false, .bool false, .int .i64 0] HQ2.out sz_rg rfl HAL.out ?_); rw [World.setRow_alloc_new]))
      obtain ⟨q, hq⟩ : ∃ q, q = wr.heap.size := ⟨_, rfl⟩
      obtain ⟨W1, hW1⟩ : ∃ W, W = wr.alloc (.cells #[.int .i64 ya, .int .i64 yb, .bool yw, .bool yu, .bool yx, .int .i64 yk] 31) := ⟨_, rfl⟩
      have hy1 := heap_new wr (.cells #[.int .i64 ya, .int .i64 yb, .bool yw, .bool yu, .bool yx, .int .i64 yk] 31)
      have hB1 : Below wr.heap.size wr W1 := by rw [hW1]; exact (Below.refl _ _).alloc (Nat.le_refl _) _
      rw [← hW1, ← hq] at hy1 ⊢
      have HW1 := Lib.hid hW1
      clear hW1
      have y0 : W1.cell? ⟨q, 0, none⟩ = some (.int .i64 ya) := by have := cell_heap hy1 0; simpa using this
      have y1 : W1.cell? ⟨q, 1, none⟩ = some (.int .i64 yb) := by have := cell_heap hy1 1; simpa using this
      have y2 : W1.cell? ⟨q, 2, none⟩ = some (.bool yw) := by have := cell_heap hy1 2; simpa using this
      have y3 : W1.cell? ⟨q, 3, none⟩ = some (.bool yu) := by have := cell_heap hy1 3; simpa using this
      have y4 : W1.cell? ⟨q, 4, none⟩ = some (.bool yx) := by have := cell_heap hy1 4; simpa using this
      have y5 : W1.cell? ⟨q, 5, none⟩ = some (.int .i64 yk) := by have := cell_heap hy1 5; simpa using this
      have hqw : q < W1.heap.size := heap_lt hy1
      have r0 := (hB1.cell (p := ⟨g0, 0, none⟩) hgw2).trans p0
      have r1 := (hB1.cell (p := ⟨g0, 1, none⟩) hgw2).trans p1
      have hgw3 : g0 < W1.heap.size := by have := hB1.size; omega
      have HY1 := Lib.hid hy1
      have HB1 := Lib.hid hB1
      have HQW := Lib.hid hq
      clear hy1 hB1 c0 c1 c2 c3_ c4 c5 p0 p1 HQ2 HAL hq
      go_wp2_with fail
      refine (HPAR.out W1).mono ?_
      rintro e w1 ⟨rfl, hb1⟩
      have HB2 := Lib.hid hb1
      have HZ1 := Lib.hid (three_1 w1 #[.int .i64 0, .int .i64 0, .bool false, .bool false, .bool false, .int .i64 0] #[.int .i64 0, .int .i64 0, .bool false, .bool false, .bool false, .int .i64 0] #[.int .i64 0, .int .i64 0, .bool false, .bool false, .bool false, .int .i64 0] 31)
      have HZ2 := Lib.hid (three_2 w1 #[.int .i64 ya, .int .i64 z1, .bool yw, .bool yu, .bool yx, .int .i64 yk] #[.int .i64 0, .int .i64 0, .bool false, .bool false, .bool false, .int .i64 0] #[.int .i64 0, .int .i64 0, .bool false, .bool false, .bool false, .int .i64 0] 31)
      have HZ3 := Lib.hid (three_3 w1 #[.int .i64 ya, .int .i64 z1, .bool yw, .bool yu, .bool yx, .int .i64 yk] #[.int .i64 z2, .int .i64 z3, .bool yw, .bool yu, .bool yx, .int .i64 yk] #[.int .i64 0, .int .i64 0, .bool false, .bool false, .bool false, .int .i64 0] 31)
      have HA1 : Hid ((#[.int .i64 ya, .int .i64 z1, .bool yw, .bool yu, .bool yx, .int .i64 yk] : Array Value).all (·.oneCell') = true) := Lib.hid (by simp [Value.oneCell'])
      have HA2 : Hid ((#[.int .i64 z2, .int .i64 z3, .bool yw, .bool yu, .bool yx, .int .i64 yk] : Array Value).all (·.oneCell') = true) := Lib.hid (by simp [Value.oneCell'])
      have HA3 : Hid ((#[.int .i64 z4, .int .i64 yb, .bool yw, .bool yu, .bool yx, .int .i64 yk] : Array Value).all (·.oneCell') = true) := Lib.hid (by simp [Value.oneCell'])
      clear hb1 y0 y1 y2 y3 y4 y5 r0 r1
      go_upto_region 6 with (first | ((refine wpList_store_row rfl 31 (.tmp 10) (.tmp 25) rfl w1.heap.size #[.int .i64 ya, .int .i64 z1, .bool yw, .bool yu, .bool yx, .int .i64 yk] rfl rfl 31 #[.int .i64 0, .int .i64 0, .bool false, .bool false, .bool false, .int .i64 0] HZ1.out sz_rg rfl HA1.out ?_); rw [set3_1]) | ((refine wpList_store_row rfl 31 (.tmp 11) (.tmp 26) rfl (w1.heap.size + 1) #[.int .i64 z2, .int .i64 z3, .bool yw, .bool yu, .bool yx, .int .i64 yk] rfl rfl 31 #[.int .i64 0, .int .i64 0, .bool false, .bool false, .bool false, .int .i64 0] HZ2.out sz_rg rfl HA2.out ?_); rw [set3_2]) | ((refine wpList_store_row rfl 31 (.tmp 12) (.tmp 27) rfl (w1.heap.size + 1 + 1) #[.int .i64 z4, .int .i64 yb, .bool yw, .bool yu, .bool yx, .int .i64 yk] rfl rfl 31 #[.int .i64 0, .int .i64 0, .bool false, .bool false, .bool false, .int .i64 0] HZ3.out sz_rg rfl HA3.out ?_); rw [set3_3]))
      simp only [put_no]
      obtain ⟨qb, hqb⟩ : ∃ qb, qb = w1.heap.size + 1 + 1 := ⟨_, rfl⟩
      obtain ⟨qi, hqi⟩ : ∃ qi, qi = w1.heap.size + 1 := ⟨_, rfl⟩
      obtain ⟨qa, hqa⟩ : ∃ qa, qa = w1.heap.size := ⟨_, rfl⟩
      obtain ⟨V1, hV1⟩ : ∃ V, V = ((w1.alloc (.cells #[.int .i64 ya, .int .i64 z1, .bool yw, .bool yu, .bool yx, .int .i64 yk] 31)).alloc (.cells #[.int .i64 z2, .int .i64 z3, .bool yw, .bool yu, .bool yx, .int .i64 yk] 31)).alloc (.cells #[.int .i64 z4, .int .i64 yb, .bool yw, .bool yu, .bool yx, .int .i64 yk] 31) := ⟨_, rfl⟩
      have ha1 := three_1 w1 #[.int .i64 ya, .int .i64 z1, .bool yw, .bool yu, .bool yx, .int .i64 yk] #[.int .i64 z2, .int .i64 z3, .bool yw, .bool yu, .bool yx, .int .i64 yk] #[.int .i64 z4, .int .i64 yb, .bool yw, .bool yu, .bool yx, .int .i64 yk] 31
      have ha2 := three_2 w1 #[.int .i64 ya, .int .i64 z1, .bool yw, .bool yu, .bool yx, .int .i64 yk] #[.int .i64 z2, .int .i64 z3, .bool yw, .bool yu, .bool yx, .int .i64 yk] #[.int .i64 z4, .int .i64 yb, .bool yw, .bool yu, .bool yx, .int .i64 yk] 31
      have ha3 := three_3 w1 #[.int .i64 ya, .int .i64 z1, .bool yw, .bool yu, .bool yx, .int .i64 yk] #[.int .i64 z2, .int .i64 z3, .bool yw, .bool yu, .bool yx, .int .i64 yk] #[.int .i64 z4, .int .i64 yb, .bool yw, .bool yu, .bool yx, .int .i64 yk] 31
      have hb13 : Below W1.heap.size W1 V1 := by rw [hV1]; exact ((HB2.out.alloc HB2.out.size _).alloc (by have := HB2.out.size; rw [World.size_alloc]; omega) _).alloc (by have := HB2.out.size; rw [World.size_alloc, World.size_alloc]; omega) _
      rw [← hV1, ← hqb, ← hqi, ← hqa]
      rw [← hV1, ← hqa] at ha1
      rw [← hV1, ← hqi] at ha2
      rw [← hV1, ← hqb] at ha3
      have hwrV := b_then HB1.out hb13
      have hQ : wr.heap.size ≤ q ∧ q < V1.heap.size ∧ wr.heap.size ≤ qa ∧ qa < V1.heap.size ∧ wr.heap.size ≤ qi ∧ qi < V1.heap.size ∧ wr.heap.size ≤ qb ∧ qb < V1.heap.size := by
        have := heap_lt ha1; have := heap_lt ha2; have := heap_lt ha3; have := HQW.out; have := hb13.size; have := HB2.out.size; have := HB1.out.size; omega
      have HLO := Lib.hid (heap_below hb13 HY1.out)
      have HLA := Lib.hid ha1
      have HLI := Lib.hid ha2
      have HLB := Lib.hid ha3
      have HRO := Lib.hid (HO.out.below hwrV)
      have HBV := Lib.hid (b_then HBW.out hwrV)
      have HAP : Hid (Apart wr.heap.size V1 V1 (.slice A3 O.length c3)) := Lib.hid ⟨Nat.le_refl _, fun b h1 _ => ⟨rfl, own_ne HO.out (Or.inr h1)⟩⟩
      have HQQ := Lib.hid hQ
      have hQa := hQ.2.2.2.1
      have hQi := hQ.2.2.2.2.2.1
      clear hb13 hwrV hQ ha1 ha2 ha3 hV1 hqb hqi hqa HZ1 HZ2 HZ3 HA1 HA2 HA3
      have vi0 : V1.cell? ⟨qi, 0, none⟩ = some (.int .i64 z2) := by have := cell_heap HLI.out 0; simpa using this
      have vi1 : V1.cell? ⟨qi, 1, none⟩ = some (.int .i64 z3) := by have := cell_heap HLI.out 1; simpa using this
      have vi2 : V1.cell? ⟨qi, 2, none⟩ = some (.bool yw) := by have := cell_heap HLI.out 2; simpa using this
      have vi3 : V1.cell? ⟨qi, 3, none⟩ = some (.bool yu) := by have := cell_heap HLI.out 3; simpa using this
      have vi4 : V1.cell? ⟨qi, 4, none⟩ = some (.bool yx) := by have := cell_heap HLI.out 4; simpa using this
      have vi5 : V1.cell? ⟨qi, 5, none⟩ = some (.int .i64 yk) := by have := cell_heap HLI.out 5; simpa using this
      rcases Bool.eq_false_or_eq_true (decide (z3 ≤ z2)) with t0 | t0
      · have HT := Lib.hid (of_decide_eq_true t0)
        clear vi2 vi3 vi4 vi5
        have vy0 : V1.cell? ⟨q, 0, none⟩ = some (.int .i64 ya) := by have := cell_heap HLO.out 0; simpa using this
        have vy1 : V1.cell? ⟨q, 1, none⟩ = some (.int .i64 yb) := by have := cell_heap HLO.out 1; simpa using this
        have vy2 : V1.cell? ⟨q, 2, none⟩ = some (.bool yw) := by have := cell_heap HLO.out 2; simpa using this
        have vy3 : V1.cell? ⟨q, 3, none⟩ = some (.bool yu) := by have := cell_heap HLO.out 3; simpa using this
        have vy4 : V1.cell? ⟨q, 4, none⟩ = some (.bool yx) := by have := cell_heap HLO.out 4; simpa using this
        have vy5 : V1.cell? ⟨q, 5, none⟩ = some (.int .i64 yk) := by have := cell_heap HLO.out 5; simpa using this
        have hqv := HQQ.out.2.1
        obtain ⟨A4, c4, w4, ha, ho, hb4, hap4⟩ := app_apart (Nat.le_refl _) HAP.out HRO.out HBV.out ⟨ya, yb, yw, yu, yx, yk⟩ (by omega)
        have HA := Lib.hid ha
        clear ha
        go_wp2_with (at_builtin; refine wpList_app rfl (.tmp 35) (.tmp 37) 23 rfl rfl rfl HA.out ?_)
        go_roundw
        case rel => exact ⟨k + 1, O ++ [⟨ya, yb, yw, yu, yx, yk⟩], _, _, by go_num, by rw [List.length_append]; rfl, by omega, by rw [List.length_append]; simp; omega, hb4, Lib.hid (by rw [List.length_append]; exact ho), Lib.hid (by rw [HF.out, HD.out, HPC.out, if_pos HT.out, List.append_assoc])⟩
        case measure => simp [intOf]; omega
      have HT := Lib.hid (of_decide_eq_false t0)
      clear vi2 vi3 vi4 vi5
      have va0 : V1.cell? ⟨qa, 0, none⟩ = some (.int .i64 ya) := by have := cell_heap HLA.out 0; simpa using this
      have va1 : V1.cell? ⟨qa, 1, none⟩ = some (.int .i64 z1) := by have := cell_heap HLA.out 1; simpa using this
      have va2 : V1.cell? ⟨qa, 2, none⟩ = some (.bool yw) := by have := cell_heap HLA.out 2; simpa using this
      have va3 : V1.cell? ⟨qa, 3, none⟩ = some (.bool yu) := by have := cell_heap HLA.out 3; simpa using this
      have va4 : V1.cell? ⟨qa, 4, none⟩ = some (.bool yx) := by have := cell_heap HLA.out 4; simpa using this
      have va5 : V1.cell? ⟨qa, 5, none⟩ = some (.int .i64 yk) := by have := cell_heap HLA.out 5; simpa using this
      go_upto_if 45 with fail
      go_cut [7] (fun s7 wx => ∃ (O' : List RG) (A' : Option Addr) (c' : Nat), s7 = .slice A' O'.length c' ∧ Hid (O' = O ++ (if ya < z1 then [⟨ya, z1, yw, yu, yx, yk⟩] else [])) ∧ Hid (rgL wx W0.heap.size (.slice A' O'.length c') O') ∧ Hid (Below W0.heap.size W0 wx) ∧ Hid (Apart wr.heap.size V1 wx (.slice A' O'.length c')))
      case first =>
        rcases Bool.eq_false_or_eq_true (decide (ya < z1)) with t1 | t1
        · have HT1 := Lib.hid (of_decide_eq_true t1)
          rw [t1]
          obtain ⟨A4, c4, w4, ha, ho, hb4, hap4⟩ := app_apart (Nat.le_refl _) HAP.out HRO.out HBV.out ⟨ya, z1, yw, yu, yx, yk⟩ (by omega)
          have HA := Lib.hid ha
          clear ha vi0 vi1
          go_wp2_with (at_builtin; refine wpList_app rfl (.tmp 46) (.tmp 48) 23 rfl rfl rfl HA.out ?_)
          go_meet
          exact ⟨O ++ [⟨ya, z1, yw, yu, yx, yk⟩], A4, c4, by rw [List.length_append]; rfl, Lib.hid (by rw [if_pos HT1.out]), Lib.hid (by rw [List.length_append]; exact ho), Lib.hid hb4, Lib.hid (by rw [List.length_append]; exact hap4)⟩
        · have HT1 := Lib.hid (of_decide_eq_false t1)
          rw [t1]
          clear vi0 vi1
          go_wp2_with fail
          go_meet
          exact ⟨O, A3, c3, rfl, Lib.hid (by rw [if_neg (show ¬ ya < z1 from by have := HT1.out; omega), List.append_nil]), HRO, HBV, HAP⟩
      case rest =>
        obtain ⟨O1, A5, c5, rfl, HE1, HR1, HBL1, HAP1⟩ := hcut
        clear va0 va1 va2 va3 va4 va5
        clear vi0 vi1
        obtain ⟨Va, hVa⟩ : ∃ V, V = wc := ⟨_, rfl⟩
        subst hVa
        have hL1 : O1.length ≤ 3 * k + 1 := by rw [HE1.out, List.length_append]; split <;> simp <;> omega
        have hli := (HAP1.out.2 qi HQQ.out.2.2.2.2.1 HQQ.out.2.2.2.2.2.1).1.trans HLI.out
        have vi0 : Va.cell? ⟨qi, 0, none⟩ = some (.int .i64 z2) := by have := cell_heap hli 0; simpa using this
        have vi1 : Va.cell? ⟨qi, 1, none⟩ = some (.int .i64 z3) := by have := cell_heap hli 1; simpa using this
        have vi2 : Va.cell? ⟨qi, 2, none⟩ = some (.bool yw) := by have := cell_heap hli 2; simpa using this
        have vi3 : Va.cell? ⟨qi, 3, none⟩ = some (.bool yu) := by have := cell_heap hli 3; simpa using this
        have vi4 : Va.cell? ⟨qi, 4, none⟩ = some (.bool yx) := by have := cell_heap hli 4; simpa using this
        have vi5 : Va.cell? ⟨qi, 5, none⟩ = some (.int .i64 yk) := by have := cell_heap hli 5; simpa using this
        have hqiw : qi < Va.heap.size := heap_lt hli
        clear hli
        go_wp2_with fail
        refine (HCHG.out Va (b_then HBE.out HBL1.out)).mono ?_
        rintro e w2 ⟨rfl, hb2⟩
        have HB5 := Lib.hid hb2
        have HQ2 := Lib.hid (heap_new w2 (.cells #[.int .i64 0, .int .i64 0, .bool false, .bool false, .bool false, .int .i64 0] 31))
        have HAL : Hid ((#[.int .i64 xa, .int .i64 xb, .bool xw, .bool xu, .bool xx, .int .i64 xk] : Array Value).all (·.oneCell') = true) := Lib.hid (by simp [Value.oneCell'])
        clear vi0 vi1 vi2 vi3 vi4 vi5
        clear hb2 hqiw
        go_upto_if 56 with (first | ((refine wpList_store_row rfl 31 (.tmp 13) (.tmp 54) rfl w2.heap.size #[.int .i64 xa, .int .i64 xb, .bool xw, .bool xu, .bool xx, .int .i64 xk] rfl rfl 31 #[.int .i64 0, .int .i64 0, .bool false, .bool false, .bool false, .int .i64 0] HQ2.out sz_rg rfl HAL.out ?_); rw [World.setRow_alloc_new]))
        obtain ⟨V2, hV2⟩ : ∃ V, V = w2.alloc (.cells #[.int .i64 xa, .int .i64 xb, .bool xw, .bool xu, .bool xx, .int .i64 xk] 31) := ⟨_, rfl⟩
        obtain ⟨qx, hqx⟩ : ∃ qx, qx = w2.heap.size := ⟨_, rfl⟩
        have hx2 := heap_new w2 (.cells #[.int .i64 xa, .int .i64 xb, .bool xw, .bool xu, .bool xx, .int .i64 xk] 31)
        have hb6 : Below Va.heap.size Va V2 := by rw [hV2]; exact HB5.out.alloc HB5.out.size _
        rw [← hV2, ← hqx] at hx2 ⊢
        have HX2 := Lib.hid hx2
        have hqxw : qx < V2.heap.size := heap_lt hx2
        have HR2 := Lib.hid (HR1.out.below hb6)
        have HBL2 := Lib.hid (HBL1.out.trans ⟨hb6.os, hb6.tape, hb6.output, hb6.size, fun k hk => hb6.block k (Nat.lt_of_lt_of_le hk HBL1.out.size)⟩)
        have HAP2 := Lib.hid (HAP1.out.below hb6)
        clear hV2 hqx hx2 hb6 HQ2 HAL
        go_cut [7] (fun s7 wx => ∃ (O' : List RG) (A' : Option Addr) (c' : Nat), s7 = .slice A' O'.length c' ∧ Hid (O' = O1 ++ (if kb then [⟨xa, xb, xw, xu, xx, xk⟩] else [])) ∧ Hid (rgL wx W0.heap.size (.slice A' O'.length c') O') ∧ Hid (Below W0.heap.size W0 wx) ∧ Hid (Apart wr.heap.size V1 wx (.slice A' O'.length c')))
        case first =>
          cases kb
          · go_wp2_with fail
            go_meet
            exact ⟨O1, A5, c5, rfl, Lib.hid (by simp), HR2, HBL2, HAP2⟩
          · obtain ⟨A4, c4, w4, ha, ho, hb4, hap4⟩ := app_apart (Nat.le_refl _) HAP2.out HR2.out HBL2.out ⟨xa, xb, xw, xu, xx, xk⟩ (by omega)
            have HA := Lib.hid ha
            have vx0 : V2.cell? ⟨qx, 0, none⟩ = some (.int .i64 xa) := by have := cell_heap HX2.out 0; simpa using this
            have vx1 : V2.cell? ⟨qx, 1, none⟩ = some (.int .i64 xb) := by have := cell_heap HX2.out 1; simpa using this
            have vx2 : V2.cell? ⟨qx, 2, none⟩ = some (.bool xw) := by have := cell_heap HX2.out 2; simpa using this
            have vx3 : V2.cell? ⟨qx, 3, none⟩ = some (.bool xu) := by have := cell_heap HX2.out 3; simpa using this
            have vx4 : V2.cell? ⟨qx, 4, none⟩ = some (.bool xx) := by have := cell_heap HX2.out 4; simpa using this
            have vx5 : V2.cell? ⟨qx, 5, none⟩ = some (.int .i64 xk) := by have := cell_heap HX2.out 5; simpa using this
            clear ha
            go_wp2_with (at_builtin; refine wpList_app rfl (.tmp 57) (.tmp 59) 23 rfl rfl rfl HA.out ?_)
            go_meet
            exact ⟨O1 ++ [⟨xa, xb, xw, xu, xx, xk⟩], A4, c4, by rw [List.length_append]; rfl, Lib.hid (by simp), Lib.hid (by rw [List.length_append]; exact ho), Lib.hid hb4, Lib.hid (by rw [List.length_append]; exact hap4)⟩
        case rest =>
          obtain ⟨O2, A6, c6, rfl, HE2, HR3, HBL3, HAP3⟩ := hcut
          have hL2 : O2.length ≤ 3 * k + 2 := by rw [HE2.out, List.length_append]; split <;> simp <;> omega
          have hlb := (HAP3.out.2 qb HQQ.out.2.2.2.2.2.2.1 HQQ.out.2.2.2.2.2.2.2).1.trans HLB.out
          have vb0 : wc.cell? ⟨qb, 0, none⟩ = some (.int .i64 z4) := by have := cell_heap hlb 0; simpa using this
          have vb1 : wc.cell? ⟨qb, 1, none⟩ = some (.int .i64 yb) := by have := cell_heap hlb 1; simpa using this
          have vb2 : wc.cell? ⟨qb, 2, none⟩ = some (.bool yw) := by have := cell_heap hlb 2; simpa using this
          have vb3 : wc.cell? ⟨qb, 3, none⟩ = some (.bool yu) := by have := cell_heap hlb 3; simpa using this
          have vb4 : wc.cell? ⟨qb, 4, none⟩ = some (.bool yx) := by have := cell_heap hlb 4; simpa using this
          have vb5 : wc.cell? ⟨qb, 5, none⟩ = some (.int .i64 yk) := by have := cell_heap hlb 5; simpa using this
          have hqbw : qb < wc.heap.size := heap_lt hlb
          clear hlb
          rcases Bool.eq_false_or_eq_true (decide (z4 < yb)) with t4 | t4
          · have HT4 := Lib.hid (of_decide_eq_true t4)
            obtain ⟨A4, c4, w4, ha, ho, hb4, hap4⟩ := app_apart (Nat.le_refl _) HAP3.out HR3.out HBL3.out ⟨z4, yb, yw, yu, yx, yk⟩ (by omega)
            have HA := Lib.hid ha
            clear ha
            go_wp2_with (at_builtin; refine wpList_app rfl (.tmp 68) (.tmp 70) 23 rfl rfl rfl HA.out ?_)
            go_roundw
            case rel => exact ⟨k + 1, O2 ++ [⟨z4, yb, yw, yu, yx, yk⟩], _, _, by go_num, by rw [List.length_append]; rfl, by omega, by rw [List.length_append]; simp; omega, hb4, Lib.hid (by rw [List.length_append]; exact ho), Lib.hid (by rw [HF.out, HD.out, HPC.out, if_neg (show ¬ z3 ≤ z2 from by have := HT.out; omega), if_pos HT4.out, HE2.out, HE1.out]; simp only [List.append_assoc])⟩
            case measure => simp [intOf]; omega
          · have HT4 := Lib.hid (of_decide_eq_false t4)
            go_wp2_with fail
            go_roundw
            case rel => exact ⟨k + 1, O2, _, _, by go_num, rfl, by omega, by omega, HBL3.out, HR3, Lib.hid (by rw [HF.out, HD.out, HPC.out, if_neg (show ¬ z3 ≤ z2 from by have := HT.out; omega), if_neg (show ¬ z4 < yb from by have := HT4.out; omega), HE2.out, HE1.out]; simp only [List.append_assoc, List.append_nil])⟩
            case measure => simp [intOf]; omega
    · have f0 : decide (k < R.length) = false := decide_eq_false hlt
      have HX : Hid (R.flatMap (pieces ch f t) = O) := Lib.hid (by rw [HF.out, List.drop_of_length_le (by omega)]; simp)
      have hO : O.length ≤ 1000 := by omega
      obtain ⟨n, hn⟩ : ∃ n, n = R.length := ⟨_, rfl⟩
      rw [← hn] at hlt hle hl f0 ⊢
      clear hn hB hBW
      go_wp2_with fail
      refine (merged_any HO.out hO).mono ?_
      rintro e w5 ⟨A7, c7, rfl, hr7, hb7⟩
      have HB7 := Lib.hid hb7
      clear hb7
      go_wp2_with fail
      go_returns
      exact ⟨A7, c7, ret_v (by unfold splitL; rw [HX.out]; rfl), by unfold splitL; rw [HX.out]; exact hr7.mono (by have := HB.out.size; omega), b_then HB.out HB7.out⟩
end Go.Proofs.Ytoodjhomekeekaa
