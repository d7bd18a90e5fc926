/- slices.Insert of one region into a list: a new row; all roads in one. Condition: at most 1000 regions. -/
import Derived.Test.YtoodjhomekeekaaRgJ
namespace Go.Proofs.Ytoodjhomekeekaa
open Go.ChangeShapes Go.WideShapes Go.ChangeAt Go.RowKit
set_option linter.unusedVariables false
set_option linter.unusedSimpArgs false
theorem zc_len (k : Nat) : (Builtin.zeroCells (Value.agg #[.int .i64 0, .int .i64 0, .bool false, .bool false, .bool false, .int .i64 0]).cells k).size = k * 6 := by
  simp [Builtin.zeroCells, Value.cells]
set_option maxHeartbeats 4000000 in
theorem insert_grow {w : World} {g cap : Nat} {cur : Array Value} {R : List RG} (hl : R.length ≤ 1000) (hg : w.heap[g]? = some (.cells cur 31 (0, 0))) (hcur : cur.toList.take (R.length * 6) = rgcells R)
    (hnc : R.length ≤ cap) (i : Nat) (hi : i < R.length) (hroom : cap < R.length + 1) (d : RG) (vb : Nat) (hx : w.heap[vb]? = some (.cells d.cl 31 (0, 0))) :
    Calls Try.prog 29 #[.slice (some ⟨g, 0, none⟩) R.length cap, .int .i64 i, .slice (some ⟨vb, 0, none⟩) 1 1] w fun e w' => ∃ A c, e = .returned (.slice A (R.length + 1) c) ∧ rgL w' w.heap.size (.slice A (R.length + 1) c) (R.take i ++ d :: R.drop i) ∧ Below w.heap.size w w' := by
  obtain ⟨n, hn⟩ : ∃ n, n = R.length := ⟨_, rfl⟩
  obtain ⟨i0, hi0, hz0, hz1, hz2⟩ := info_parts info_rg
  obtain ⟨NB, hNB⟩ : ∃ NB, NB = w.heap.size := ⟨_, rfl⟩
  obtain ⟨G, hG⟩ : ∃ G, G = grownCap w (n + 1) cap 31 := ⟨_, rfl⟩
  have hGn : n + 1 ≤ G := by rw [hG]; exact grownCap_ge w _ _ _
  have hGm : G ≤ maxLen := by rw [hG]; exact grownCap_le_maxLen w (n + 1) cap _ (by unfold maxLen; omega)
  have hxl : (rgcells R).length = n * 6 := by rw [rgcells_length, hn]
  have hcell : ∀ j u, (rgcells R)[j]? = some u → w.cell? ⟨g, j, none⟩ = some u := fun j u hj => by
    have := cell_heap hg j
    rw [← hcur, List.getElem?_take] at hj
    split at hj
    · rw [this, ← hj]; simp
    · cases hj
  have htl : ((rgcells R).take (i * 6)).length = i * 6 := by rw [List.length_take, hxl]; omega
  obtain ⟨ROW, hROW⟩ : ∃ ROW : Array Value, ROW = ((rgcells R).take (i * 6)).toArray ++ Builtin.zeroCells (Value.agg #[.int .i64 0, .int .i64 0, .bool false, .bool false, .bool false, .int .i64 0]).cells (n + 1 - i) ++ Builtin.zeroCells (Value.agg #[.int .i64 0, .int .i64 0, .bool false, .bool false, .bool false, .int .i64 0]).cells (G - (n + 1)) := ⟨_, rfl⟩
  have hRl : ROW.toList.length = G * 6 := by
    rw [hROW, Array.length_toList, Array.size_append, Array.size_append, zc_len, zc_len]
    simp only [List.size_toArray]
    rw [htl]; omega
  have hRt : ROW.toList.take (i * 6) = (rgcells R).take (i * 6) := by
    rw [hROW]
    simp only [Array.toList_append, List.append_assoc]
    exact List.take_left' htl
  have hold : (Builtin.firstCells i0.size i (.slice (some ⟨g, 0, none⟩) i cap)).run Try.prog w.drew = .ok ((rgcells R).take (i * 6)).toArray w.drew := by
    rw [hz1]
    exact run_firstCells_some w.drew 6 i ⟨g, 0, none⟩ i cap ((rgcells R).take (i * 6)) (by rw [htl]) (fun j u hj => by
      rw [add_at, Nat.zero_add]
      rw [List.getElem?_take] at hj
      split at hj
      · exact hcell j u hj
      · cases hj)
  have hsz : (Try.prog.info? 31).map (·.size) = some 6 := sz_rg
  obtain ⟨W1, hW1⟩ : ∃ W1, W1 = w.drew.alloc (.cells ROW 31) := ⟨_, rfl⟩
  have hrz : (Builtin.append_ #[23, 3] 23 #[.slice (some ⟨g, 0, none⟩) i cap, .int .i64 ((n : Int) + 1 - (i : Int))]).run Try.prog w = .ok (.slice (some ⟨NB, 0, none⟩) (n + 1) G) W1 := by
    have h := Lib.run_append_grow_zeros (P := Try.prog) w 23 3 23 31 i0 _ .i64 .i64 under_rg (by kernel_rfl) hi0 hz0 (some ⟨g, 0, none⟩) i cap ((rgcells R).take (i * 6)) hold (n + 1 - i) (by omega) (by rw [hz1]; omega) (by omega) (by omega) (by rw [hz2]; omega) (by rw [hz2, show i + (n + 1 - i) = n + 1 by omega]; exact growslice_fits (by omega) (by omega))
    rw [show i + (n + 1 - i) = n + 1 by omega, ← hG, ← hROW, ← hW1, ← hNB] at h
    rw [show (n : Int) + 1 - (i : Int) = ((n + 1 - i : Nat) : Int) by omega]
    exact h
  have hg1 : W1.heap[g]? = some (.cells cur 31 (0, 0)) := by rw [hW1]; exact heap_old _ _ _ hg
  have hx1 : W1.heap[vb]? = some (.cells d.cl 31 (0, 0)) := by rw [hW1]; exact heap_old _ _ _ hx
  have hr1 : W1.heap[NB]? = some (.cells ROW 31 (0, 0)) := by rw [hW1, hNB]; exact heap_new _ _
  have hB1 : Below NB w W1 := by rw [hW1, hNB]; exact (Below.refl w.heap.size w).drew.alloc (Nat.le_refl _) _
  have hgb : g < NB := by rw [hNB]; exact heap_lt hg
  have hvb : vb < NB := by rw [hNB]; exact heap_lt hx
  obtain ⟨c1, h1⟩ : ∃ c1, c1 = ROW.toList.take (i * 6) ++ d.cl.toList ++ ROW.toList.drop (i * 6 + d.cl.toList.length) := ⟨_, rfl⟩
  obtain ⟨c2, h2⟩ : ∃ c2, c2 = c1.take (i * 6 + 6) ++ (rgcells R).drop (i * 6) ++ c1.drop (i * 6 + 6 + ((rgcells R).drop (i * 6)).length) := ⟨_, rfl⟩
  obtain ⟨k1, k2, k3⟩ := fill_list ROW.toList (rgcells R) d.cl.toList (i * 6) (n * 6) 6 hxl rfl (by omega) hRt (by omega) c1 c2 h1 h2
  have hdl : ((rgcells R).drop (i * 6)).length = (n - i) * 6 := by rw [List.length_drop, hxl]; omega
  obtain ⟨W2, hW2⟩ : ∃ W2, W2 = W1.setRow NB c1.toArray := ⟨_, rfl⟩
  have H1 : (Builtin.copy_ #[23, 22] 3 #[.slice (some ⟨NB, i * 6, none⟩) (n + 1 - i) (G - i), .slice (some ⟨vb, 0, none⟩) 1 1]).run Try.prog W1 = .ok (goInt 1) W2 := by
    have := run_copy_rowN (P := Try.prog) W1 23 22 3 31 NB (i * 6) (n + 1 - i) (G - i) ⟨vb, 0, none⟩ 1 1 ROW 31 d.cl.toList 6 under_rg hsz hr1
      (by rw [show Nat.min 1 (n + 1 - i) = 1 by simp only [Nat.min_def]; split <;> omega]; rfl)
      (fun j u hj => by
        rw [add_at, Nat.zero_add]
        have := cell_heap hx1 j
        rw [this, ← hj]; simp)
      (by rw [← Array.length_toList, hRl]; simp [RG.cl]; omega) d.cl_one
    rw [show Nat.min 1 (n + 1 - i) = 1 by simp only [Nat.min_def]; split <;> omega, ← h1, ← hW2] at this
    exact this
  have hr2 : W2.heap[NB]? = some (.cells c1.toArray 31 (0, 0)) := by rw [hW2]; exact setRow_heap _ _ _ _ _ _ hr1
  have hg2 : W2.heap[g]? = some (.cells cur 31 (0, 0)) := by rw [hW2]; exact (setRow_other W1 NB g _ (by omega)).trans hg1
  have hB2 : Below NB w W2 := by rw [hW2]; exact below_row hB1 (Nat.le_refl _) _
  have H2 : (Builtin.copy_ #[23, 23] 3 #[.slice (some ⟨NB, (i + 1) * 6, none⟩) (n - i) (G - (i + 1)), .slice (some ⟨g, i * 6, none⟩) (n - i) (cap - i)]).run Try.prog W2.drew = .ok (goInt ((n - i : Nat) : Int)) (W2.drew.setRow NB c2.toArray) := by
    have := run_copy_rowN (P := Try.prog) W2.drew 23 23 3 31 NB ((i + 1) * 6) (n - i) (G - (i + 1)) ⟨g, i * 6, none⟩ (n - i) (cap - i) c1.toArray 31 ((rgcells R).drop (i * 6)) 6 under_rg hsz hr2
      (by rw [hdl, show Nat.min (n - i) (n - i) = n - i by simp only [Nat.min_def]; split <;> omega])
      (fun j u hj => by
        rw [add_at]
        have := cell_heap hg2 (i * 6 + j)
        rw [List.getElem?_drop, ← hcur, List.getElem?_take] at hj
        split at hj
        · show W2.cell? _ = _
          rw [this, ← hj]; simp
        · cases hj)
      (by simp only [List.size_toArray]; rw [k3, hRl, hdl]; omega) (fun u hu => rgcells_one R u (List.mem_of_mem_drop hu))
    rw [show Nat.min (n - i) (n - i) = n - i by simp only [Nat.min_def]; split <;> omega, show (i + 1) * 6 = i * 6 + 6 by omega] at this
    simp only at this
    rw [← h2] at this
    rw [show (i + 1) * 6 = i * 6 + 6 by omega]
    exact this
  have HF : Hid (rgL (W2.drew.setRow NB c2.toArray) NB (.slice (some ⟨NB, 0, none⟩) (n + 1) G) (R.take i ++ d :: R.drop i) ∧ Below NB w (W2.drew.setRow NB c2.toArray)) := Lib.hid ⟨by
    have hlen : (R.take i ++ d :: R.drop i).length = n + 1 := by
      rw [List.length_append, List.length_cons, List.length_take, List.length_drop]; omega
    unfold rgL
    rw [hlen]
    refine ⟨by rw [rgcells_length, hlen], .inr ⟨NB, G, c2.toArray, rfl, Nat.le_refl _, setRow_heap _ _ _ _ _ _ hr2, hGn, hGm, ?_, ?_⟩⟩
    · simp only [List.size_toArray]; rw [k2, hRl]
    · rw [rgcells_ins R i d (by omega), show (n + 1) * 6 = n * 6 + 6 by omega]; exact k1, below_row hB2.drew (Nat.le_refl _) _⟩
  have hw1 : IntKind.i64.wrap ((i : Int) + 1) = (i : Int) + 1 := by rw [IntKind.wrap_i64]; omega
  have hw2 : IntKind.i64.wrap ((n : Int) + 1) = (n : Int) + 1 := by rw [IntKind.wrap_i64]; omega
  have hw3 : IntKind.i64.wrap ((n : Int) + 1 - (i : Int)) = (n : Int) + 1 - (i : Int) := by rw [IntKind.wrap_i64]; omega
  have hb1 : (0 : Int) ≤ (i : Int) + 1 := by omega
  have hin : i ≤ n := by omega
  have hin2 : i ≤ cap := by omega
  have hin3 : i ≤ n + 1 := by omega
  have htn : ((i : Int) + 1).toNat = i + 1 := by omega
  have hb2 : ¬ (G = i + 1) := by omega
  have hb3 : (i : Int) ≤ (n : Int) + 1 := by omega
  have hb3' : (i : Int) ≤ (n : Int) := by omega
  have hb4 : ¬ (cap = i) := by omega
  have hb5 : ¬ ((i : Int) = (n : Int)) := by omega
  have hb6 : ¬ (i = n) := by omega
  have hb7 : (cap : Int) < (n : Int) + 1 := by omega
  have hb8 : ¬ (G = i) := by omega
  have hb9 : (i : Int) + 1 ≤ (n : Int) + 1 := by omega
  have mixed : Try.prog.follows .mixedOrders = true := by kernel_rfl
  have HRZ := Lib.hid hrz
  rw [← hn, ← hNB]
  clear hrz k1 k2 k3 h1 h2 hg1 hx1 hcell hdl hxl hcur hg hx hn hl hsz hi hold hROW hRt hRl hr1 hr2 hg2 hB1 hB2 hW1 hW2 hG hNB htl hi0 hz0 hz1 hz2 hGm hGn
  go_enter Try.func29, Try.ntmps29
  go_wp2_with (at_builtin; refine wpList_app2 rfl (.tmp 34) (.tmp 39) 23 3 rfl rfl rfl HRZ.out ?_)
  go_region_law_o (fail)
  go_wp2_with fail
  go_returns
  exact ⟨_, _, rfl, HF.out.1, HF.out.2⟩
end Go.Proofs.Ytoodjhomekeekaa
