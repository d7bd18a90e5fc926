/- Find and Count of lists of regions. No condition but bounds. Printed by gen/rgfind.py. -/
import Derived.Test.YtoodjhomekeekaaRgC
import Derived.Deep.DeepCutAuto
import Derived.Laws.Rows
import Derived.Laws.Tables
namespace Go.Proofs.Ytoodjhomekeekaa
open Go.ChangeShapes Go.WideShapes Go.ChangeAt Go.RowKit
set_option linter.unusedVariables false
set_option linter.unusedSimpArgs false
theorem results_cell_tmp {fn : Func} {p q : Tmp} {ty : TypeId} (h : fn.results = #[.cell p ty, .tmp q]) (tmps : Array Value) (w : World) (g : Nat) (t : TypeId) (cs : Array Value) (fr : Nat × Nat) (fs : Array Field) (v : Value)
    (hp : tmps.getD p undef = .pointer (some ⟨g, 0, none⟩)) (hq : tmps.getD q undef = v) (hg : w.heap[g]? = some (.cells cs t fr))
    (hu : Try.prog.underlying ty = some (.struct fs)) (hi : (Try.prog.info? ty).map (·.size) = some cs.size) :
    (results fn tmps).run Try.prog w = .ok (.tuple #[.agg cs, v]) w := by
  have hp' : tmps[p]?.getD undef = .pointer (some ⟨g, 0, none⟩) := by simpa using hp
  have hq' : tmps[q]?.getD undef = v := by simpa using hq
  simp [results, h, hp', hq', asAddr, run_loadVar_row w g t ty cs fr (.struct fs) hg hu rfl hi]
theorem below_row {B : Nat} {w w1 : World} (h : Below B w w1) {g : Nat} (hg : B ≤ g) (cs : Array Value) : Below B w (w1.setRow g cs) :=
  ⟨h.os, h.tape, h.output, by have := h.size; simpa using this, fun k hk => (setRow_other w1 g k cs (by omega)).trans (h.block k hk)⟩
theorem st_rg : ∃ fs, Try.prog.underlying 31 = some (.struct fs) := by
  have h : (match Try.prog.underlying 31 with | some (.struct _) => true | _ => false) = true := by kernel_rfl
  revert h
  split
  · rename_i fs hf; exact fun _ => ⟨fs, hf⟩
  · intro h; cases h
theorem st_rf : ∃ fs, Try.prog.underlying 36 = some (.struct fs) := by
  have h : (match Try.prog.underlying 36 with | some (.struct _) => true | _ => false) = true := by kernel_rfl
  revert h
  split
  · rename_i fs hf; exact fun _ => ⟨fs, hf⟩
  · intro h; cases h
theorem sz_rg : (Try.prog.info? 31).map (·.size) = some 6 := by kernel_rfl
theorem sz_rf : (Try.prog.info? 36).map (·.size) = some 6 := by kernel_rfl
def RG.zero : RG := ⟨0, 0, false, false, false, 0⟩
def hasB (d : RG) (p : Int) : Bool := decide (d.a ≤ p) && decide (p < d.b)
def findL : List RG → Int → Option RG
  | [], _ => none
  | d :: r, p => if hasB d p then some d else findL r p
def fL (R : List RG) (p : Int) : RG := (findL R p).getD RG.zero
set_option maxHeartbeats 4000000 in
theorem find_any {w : World} {base : Nat} {v : Value} {R : List RG} (h : rgL w base v R) (hl : R.length ≤ 1000) (i : Int) :
    Calls Try.prog 9 #[v, .int .i64 i] w fun e w' => e = .returned (.tuple #[(fL R i).val, .bool (findL R i).isSome]) ∧ Below w.heap.size w w' := by
  obtain ⟨A, cap, rfl⟩ := h.form
  have H := Lib.hid h
  clear h
  obtain ⟨g, hg⟩ : ∃ g, g = w.heap.size := ⟨_, rfl⟩
  have h0 := heap_new w (.cells #[.int .i64 0, .int .i64 0, .bool false, .bool false, .bool false, .int .i64 0] 31)
  rw [← hg] at h0
  have HG := Lib.hid hg
  clear hg
  go_enter Try.func9, Try.ntmps9
  go_wp2_with fail
  rw [← HG.out]
  have HB0 : Below w.heap.size w (w.alloc (.cells #[.int .i64 0, .int .i64 0, .bool false, .bool false, .bool false, .int .i64 0] 31)) := (Below.refl _ _).alloc (Nat.le_refl _) _
  go_loopw [10] (fun x wr => ∃ k : Nat, x = .int .i64 k ∧ k ≤ R.length ∧ Below w.heap.size w wr ∧ wr.heap[g]? = some (.cells #[.int .i64 0, .int .i64 0, .bool false, .bool false, .bool false, .int .i64 0] 31 (0, 0)) ∧ Hid (findL R i = findL (R.drop k) i)) (fun x _ => R.length - (intOf x).toNat)
  case atStart => exact ⟨0, rfl, by omega, HB0, h0, Lib.hid rfl⟩
  case round =>
    clear h0 HB0
    obtain ⟨k, rfl, hle, hB, hcg, HF⟩ := hrel
    have hsz := hB.size
    have q0 : wr.cell? ⟨g, 0, none⟩ = some (.int .i64 0) := cell_heap hcg 0
    have q1 : wr.cell? ⟨g, 1, none⟩ = some (.int .i64 0) := cell_heap hcg 1
    have q2 : wr.cell? ⟨g, 2, none⟩ = some (.bool false) := cell_heap hcg 2
    have q3 : wr.cell? ⟨g, 3, none⟩ = some (.bool false) := cell_heap hcg 3
    have q4 : wr.cell? ⟨g, 4, none⟩ = some (.bool false) := cell_heap hcg 4
    have q5 : wr.cell? ⟨g, 5, none⟩ = some (.int .i64 0) := cell_heap hcg 5
    have z0 : wr.frozen? ⟨g, 0, none⟩ = false := frozen_heap hcg 0
    have z1 : wr.frozen? ⟨g, 1, none⟩ = false := frozen_heap hcg 1
    have z2 : wr.frozen? ⟨g, 2, none⟩ = false := frozen_heap hcg 2
    have z3 : wr.frozen? ⟨g, 3, none⟩ = false := frozen_heap hcg 3
    have z4 : wr.frozen? ⟨g, 4, none⟩ = false := frozen_heap hcg 4
    have z5 : wr.frozen? ⟨g, 5, none⟩ = false := frozen_heap hcg 5
    have hgw : g < wr.heap.size := heap_lt hcg
    have hgo : w.heap.size ≤ g := by have := HG.out; omega
    have HCG := Lib.hid hcg
    have HB := Lib.hid hB
    by_cases hlt : k < R.length
    · have f0 : decide (k < R.length) = true := decide_eq_true hlt
      have f3 : (k : Int) < (R.length : Int) := by omega
      obtain ⟨b, cap', hv, hb, hbw, e0, e1, e2, e3, e4, e5⟩ := H.out.cell (List.getElem?_eq_getElem hlt)
      obtain ⟨hc1, hf1⟩ := bcell hB
      have c0 := (hc1 b _ hbw).trans e0
      have c1 := (hc1 b _ hbw).trans e1
      have c2 := (hc1 b _ hbw).trans e2
      have c3 := (hc1 b _ hbw).trans e3
      have c4 := (hc1 b _ hbw).trans e4
      have c5 := (hc1 b _ hbw).trans e5
      obtain ⟨rfl, _, rfl⟩ : A = some ⟨b, 0, none⟩ ∧ R.length = R.length ∧ cap = cap' := by simpa using hv
      have hd : findL (R.drop k) i = if hasB R[k] i then some R[k] else findL (R.drop (k + 1)) i := by
        rw [List.drop_eq_getElem_cons hlt]; rfl
      generalize R[k] = y at c0 c1 c2 c3 c4 c5 hd
      obtain ⟨ya, yb, yw, yu, yx, yk⟩ := y
      obtain ⟨n, hn⟩ : ∃ n, n = R.length := ⟨_, rfl⟩
      rw [← hn] at hlt hle hl f0 f3 ⊢
      simp only at c0 c1 c2 c3 c4 c5 hd
      have HN := Lib.hid hn
      have HD := Lib.hid hd
      clear hc1 hf1 e0 e1 e2 e3 e4 e5 hv hn hd hb hB hcg
      have ht : (hasB ⟨ya, yb, yw, yu, yx, yk⟩ i = true ∧ decide (ya ≤ i) = true ∧ decide (i < yb) = true) ∨ (hasB ⟨ya, yb, yw, yu, yx, yk⟩ i = false ∧ decide (ya ≤ i) = true ∧ decide (i < yb) = false) ∨ (hasB ⟨ya, yb, yw, yu, yx, yk⟩ i = false ∧ decide (ya ≤ i) = false) := by
        unfold hasB
        simp only
        rcases Bool.eq_false_or_eq_true (decide (ya ≤ i)) with t1 | t1
        all_goals rcases Bool.eq_false_or_eq_true (decide (i < yb)) with t2 | t2
        all_goals simp [t1, t2]
      rcases ht with ⟨t, t1, t2⟩ | ⟨t, t1, t2⟩ | ⟨t, t1⟩
      · have HT := Lib.hid t
        clear t
        have HQ2 := Lib.hid (heap_old wr (.cells #[.int .i64 ya, .int .i64 yb, .bool yw, .bool yu, .bool yx, .int .i64 yk] 31) _ HCG.out)
        have HAL : Hid ((#[.int .i64 ya, .int .i64 yb, .bool yw, .bool yu, .bool yx, .int .i64 yk] : Array Value).all (·.oneCell') = true) := Lib.hid (by simp [Value.oneCell'])
        have HBA : Hid (Below w.heap.size w (wr.alloc (.cells #[.int .i64 ya, .int .i64 yb, .bool yw, .bool yu, .bool yx, .int .i64 yk] 31))) := Lib.hid (by have := HB.out; go_grown)
        obtain ⟨fs, hfs⟩ := st_rg
        have HFS := Lib.hid hfs
        clear hfs q0 z0 q1 z1 q2 z2 q3 z3 q4 z4 q5 z5
        go_wp2_with (first | (refine wpList_store_row rfl 31 (.tmp 4) (.tmp 26) rfl g #[.int .i64 ya, .int .i64 yb, .bool yw, .bool yu, .bool yx, .int .i64 yk] rfl rfl 31 #[.int .i64 0, .int .i64 0, .bool false, .bool false, .bool false, .int .i64 0] HQ2.out sz_rg rfl HAL.out ?_))
        refine bodyPost_ret (results_cell_tmp (p := 4) (q := 5) rfl _ _ g 31 #[.int .i64 ya, .int .i64 yb, .bool yw, .bool yu, .bool yx, .int .i64 yk] (0, 0) fs (.bool true) rfl rfl (setRow_heap _ _ _ _ _ _ HQ2.out) HFS.out sz_rg) rfl ⟨ret_v (by unfold fL; rw [HF.out, HD.out, if_pos HT.out]; rfl), below_row HBA.out hgo _⟩
      all_goals
        have HT := Lib.hid t
        clear t
        go_wp2
        go_roundw
        case rel => exact ⟨k + 1, by go_num, by omega, by have := HB.out; go_grown, heap_old _ _ _ HCG.out, Lib.hid (by rw [HF.out, HD.out, if_neg (by simp [HT.out])])⟩
        case measure => simp [intOf]; omega
    · have f0 : decide (k < R.length) = false := decide_eq_false hlt
      have HR : Hid (findL R i = none) := Lib.hid (by rw [HF.out, List.drop_eq_nil_of_le (by omega)]; rfl)
      obtain ⟨n, hn⟩ : ∃ n, n = R.length := ⟨_, rfl⟩
      rw [← hn] at hlt hle hl f0 ⊢
      clear hn hB hcg
      have HAL : Hid ((#[.int .i64 0, .int .i64 0, .bool false, .bool false, .bool false, .int .i64 0] : Array Value).all (·.oneCell') = true) := Lib.hid (by simp [Value.oneCell'])
      obtain ⟨fs, hfs⟩ := st_rg
      have HFS := Lib.hid hfs
      clear hfs q0 z0 q1 z1 q2 z2 q3 z3 q4 z4 q5 z5
      go_wp2_with (first | (refine wpList_store_row rfl 31 (.tmp 4) (.tmp 28) rfl g #[.int .i64 0, .int .i64 0, .bool false, .bool false, .bool false, .int .i64 0] rfl rfl 31 #[.int .i64 0, .int .i64 0, .bool false, .bool false, .bool false, .int .i64 0] HCG.out sz_rg rfl HAL.out ?_))
      refine bodyPost_ret (results_cell_tmp (p := 4) (q := 5) rfl _ _ g 31 #[.int .i64 0, .int .i64 0, .bool false, .bool false, .bool false, .int .i64 0] (0, 0) fs (.bool false) rfl rfl (setRow_heap _ _ _ _ _ _ HCG.out) HFS.out sz_rg) rfl ⟨ret_v (by unfold fL; rw [HR.out]; rfl), below_row HB.out hgo _⟩
set_option maxHeartbeats 4000000 in
theorem rFind_any {w : World} {base : Nat} {v : Value} {R : List RG} (h : rfL w base v R) (hl : R.length ≤ 1000) (i : Int) :
    Calls Try.prog 11 #[v, .int .i64 i] w fun e w' => e = .returned (.tuple #[(fL R i).val, .bool (findL R i).isSome]) ∧ Below w.heap.size w w' := by
  obtain ⟨A, cap, rfl⟩ := h.form
  have H := Lib.hid h
  clear h
  obtain ⟨g, hg⟩ : ∃ g, g = w.heap.size := ⟨_, rfl⟩
  have h0 := heap_new w (.cells #[.int .i64 0, .int .i64 0, .bool false, .bool false, .bool false, .int .i64 0] 36)
  rw [← hg] at h0
  have HG := Lib.hid hg
  clear hg
  go_enter Try.func11, Try.ntmps11
  go_wp2_with fail
  rw [← HG.out]
  have HB0 : Below w.heap.size w (w.alloc (.cells #[.int .i64 0, .int .i64 0, .bool false, .bool false, .bool false, .int .i64 0] 36)) := (Below.refl _ _).alloc (Nat.le_refl _) _
  go_loopw [10] (fun x wr => ∃ k : Nat, x = .int .i64 k ∧ k ≤ R.length ∧ Below w.heap.size w wr ∧ wr.heap[g]? = some (.cells #[.int .i64 0, .int .i64 0, .bool false, .bool false, .bool false, .int .i64 0] 36 (0, 0)) ∧ Hid (findL R i = findL (R.drop k) i)) (fun x _ => R.length - (intOf x).toNat)
  case atStart => exact ⟨0, rfl, by omega, HB0, h0, Lib.hid rfl⟩
  case round =>
    clear h0 HB0
    obtain ⟨k, rfl, hle, hB, hcg, HF⟩ := hrel
    have hsz := hB.size
    have q0 : wr.cell? ⟨g, 0, none⟩ = some (.int .i64 0) := cell_heap hcg 0
    have q1 : wr.cell? ⟨g, 1, none⟩ = some (.int .i64 0) := cell_heap hcg 1
    have q2 : wr.cell? ⟨g, 2, none⟩ = some (.bool false) := cell_heap hcg 2
    have q3 : wr.cell? ⟨g, 3, none⟩ = some (.bool false) := cell_heap hcg 3
    have q4 : wr.cell? ⟨g, 4, none⟩ = some (.bool false) := cell_heap hcg 4
    have q5 : wr.cell? ⟨g, 5, none⟩ = some (.int .i64 0) := cell_heap hcg 5
    have z0 : wr.frozen? ⟨g, 0, none⟩ = false := frozen_heap hcg 0
    have z1 : wr.frozen? ⟨g, 1, none⟩ = false := frozen_heap hcg 1
    have z2 : wr.frozen? ⟨g, 2, none⟩ = false := frozen_heap hcg 2
    have z3 : wr.frozen? ⟨g, 3, none⟩ = false := frozen_heap hcg 3
    have z4 : wr.frozen? ⟨g, 4, none⟩ = false := frozen_heap hcg 4
    have z5 : wr.frozen? ⟨g, 5, none⟩ = false := frozen_heap hcg 5
    have hgw : g < wr.heap.size := heap_lt hcg
    have hgo : w.heap.size ≤ g := by have := HG.out; omega
    have HCG := Lib.hid hcg
    have HB := Lib.hid hB
    by_cases hlt : k < R.length
    · have f0 : decide (k < R.length) = true := decide_eq_true hlt
      have f3 : (k : Int) < (R.length : Int) := by omega
      obtain ⟨b, cap', hv, hb, hbw, e0, e1, e2, e3, e4, e5⟩ := H.out.cell (List.getElem?_eq_getElem hlt)
      obtain ⟨hc1, hf1⟩ := bcell hB
      have c0 := (hc1 b _ hbw).trans e0
      have c1 := (hc1 b _ hbw).trans e1
      have c2 := (hc1 b _ hbw).trans e2
      have c3 := (hc1 b _ hbw).trans e3
      have c4 := (hc1 b _ hbw).trans e4
      have c5 := (hc1 b _ hbw).trans e5
      obtain ⟨rfl, _, rfl⟩ : A = some ⟨b, 0, none⟩ ∧ R.length = R.length ∧ cap = cap' := by simpa using hv
      have hd : findL (R.drop k) i = if hasB R[k] i then some R[k] else findL (R.drop (k + 1)) i := by
        rw [List.drop_eq_getElem_cons hlt]; rfl
      generalize R[k] = y at c0 c1 c2 c3 c4 c5 hd
      obtain ⟨ya, yb, yw, yu, yx, yk⟩ := y
      obtain ⟨n, hn⟩ : ∃ n, n = R.length := ⟨_, rfl⟩
      rw [← hn] at hlt hle hl f0 f3 ⊢
      simp only at c0 c1 c2 c3 c4 c5 hd
      have HN := Lib.hid hn
      have HD := Lib.hid hd
      clear hc1 hf1 e0 e1 e2 e3 e4 e5 hv hn hd hb hB hcg
      have ht : (hasB ⟨ya, yb, yw, yu, yx, yk⟩ i = true ∧ decide (ya ≤ i) = true ∧ decide (i < yb) = true) ∨ (hasB ⟨ya, yb, yw, yu, yx, yk⟩ i = false ∧ decide (ya ≤ i) = true ∧ decide (i < yb) = false) ∨ (hasB ⟨ya, yb, yw, yu, yx, yk⟩ i = false ∧ decide (ya ≤ i) = false) := by
        unfold hasB
        simp only
        rcases Bool.eq_false_or_eq_true (decide (ya ≤ i)) with t1 | t1
        all_goals rcases Bool.eq_false_or_eq_true (decide (i < yb)) with t2 | t2
        all_goals simp [t1, t2]
      rcases ht with ⟨t, t1, t2⟩ | ⟨t, t1, t2⟩ | ⟨t, t1⟩
      · have HT := Lib.hid t
        clear t
        have HQ2 := Lib.hid (heap_old wr (.cells #[.int .i64 ya, .int .i64 yb, .bool yw, .bool yu, .bool yx, .int .i64 yk] 36) _ HCG.out)
        have HAL : Hid ((#[.int .i64 ya, .int .i64 yb, .bool yw, .bool yu, .bool yx, .int .i64 yk] : Array Value).all (·.oneCell') = true) := Lib.hid (by simp [Value.oneCell'])
        have HBA : Hid (Below w.heap.size w (wr.alloc (.cells #[.int .i64 ya, .int .i64 yb, .bool yw, .bool yu, .bool yx, .int .i64 yk] 36))) := Lib.hid (by have := HB.out; go_grown)
        obtain ⟨fs, hfs⟩ := st_rf
        have HFS := Lib.hid hfs
        clear hfs q0 z0 q1 z1 q2 z2 q3 z3 q4 z4 q5 z5
        go_wp2_with (first | (refine wpList_store_row rfl 36 (.tmp 4) (.tmp 24) rfl g #[.int .i64 ya, .int .i64 yb, .bool yw, .bool yu, .bool yx, .int .i64 yk] rfl rfl 36 #[.int .i64 0, .int .i64 0, .bool false, .bool false, .bool false, .int .i64 0] HQ2.out sz_rf rfl HAL.out ?_))
        refine bodyPost_ret (results_cell_tmp (p := 4) (q := 5) rfl _ _ g 36 #[.int .i64 ya, .int .i64 yb, .bool yw, .bool yu, .bool yx, .int .i64 yk] (0, 0) fs (.bool true) rfl rfl (setRow_heap _ _ _ _ _ _ HQ2.out) HFS.out sz_rf) rfl ⟨ret_v (by unfold fL; rw [HF.out, HD.out, if_pos HT.out]; rfl), below_row HBA.out hgo _⟩
      all_goals
        have HT := Lib.hid t
        clear t
        go_wp2
        go_roundw
        case rel => exact ⟨k + 1, by go_num, by omega, by have := HB.out; go_grown, heap_old _ _ _ HCG.out, Lib.hid (by rw [HF.out, HD.out, if_neg (by simp [HT.out])])⟩
        case measure => simp [intOf]; omega
    · have f0 : decide (k < R.length) = false := decide_eq_false hlt
      have HR : Hid (findL R i = none) := Lib.hid (by rw [HF.out, List.drop_eq_nil_of_le (by omega)]; rfl)
      obtain ⟨n, hn⟩ : ∃ n, n = R.length := ⟨_, rfl⟩
      rw [← hn] at hlt hle hl f0 ⊢
      clear hn hB hcg
      have HAL : Hid ((#[.int .i64 0, .int .i64 0, .bool false, .bool false, .bool false, .int .i64 0] : Array Value).all (·.oneCell') = true) := Lib.hid (by simp [Value.oneCell'])
      obtain ⟨fs, hfs⟩ := st_rf
      have HFS := Lib.hid hfs
      clear hfs q0 z0 q1 z1 q2 z2 q3 z3 q4 z4 q5 z5
      go_wp2_with (first | (refine wpList_store_row rfl 36 (.tmp 4) (.tmp 26) rfl g #[.int .i64 0, .int .i64 0, .bool false, .bool false, .bool false, .int .i64 0] rfl rfl 36 #[.int .i64 0, .int .i64 0, .bool false, .bool false, .bool false, .int .i64 0] HCG.out sz_rf rfl HAL.out ?_))
      refine bodyPost_ret (results_cell_tmp (p := 4) (q := 5) rfl _ _ g 36 #[.int .i64 0, .int .i64 0, .bool false, .bool false, .bool false, .int .i64 0] (0, 0) fs (.bool false) rfl rfl (setRow_heap _ _ _ _ _ _ HCG.out) HFS.out sz_rf) rfl ⟨ret_v (by unfold fL; rw [HR.out]; rfl), below_row HB.out hgo _⟩
end Go.Proofs.Ytoodjhomekeekaa
