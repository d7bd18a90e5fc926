/- slices.Insert of one region into a list. Condition: at most 1000 regions. -/
import Derived.Test.YtoodjhomekeekaaRgI
import Derived.Shelf.RegionOpenPlain
namespace Go.Proofs.Ytoodjhomekeekaa
open Go.ChangeShapes Go.WideShapes Go.ChangeAt Go.RowKit
set_option linter.unusedVariables false
set_option linter.unusedSimpArgs false
theorem under_22 : Try.prog.underlying 22 = some (.slice 31) := by kernel_rfl
theorem append_two (w : World) (ty : TypeId) (A B : Option Addr) (n c m k : Nat) :
    (Builtin.append_ #[23, 22] ty #[.slice A n c, .slice B m k]).run Try.prog w = (Builtin.append_ #[23, 23] ty #[.slice A n c, .slice B m k]).run Try.prog w := by
  cases A <;> cases B <;> simp [Builtin.append_, run_underlying under_rg, run_underlying under_22]
theorem wpList_app2 {P : Program} {w : World} {ops : Array Oper} {rest : List Oper} {o : Oper} {a : Act} {Q : Exit → Act → World → Prop} (hgd : o.guard = none) (s x : Operand) (t t2 : TypeId)
    (ho : o.op = .call { callee := .builtin .append, args := #[s, x], argTypes := #[t, t2] }) {v xv v' : Value} {w' : World} (hs : a.eval s = v) (hx : a.eval x = xv)
    (heq : (Builtin.append_ #[t, t2] o.type #[v, xv]).run P w = .ok v' w') (h : wpList P ops Q rest (a.put o.dst v') w') : wpList P ops Q (o :: rest) a w :=
  wpList_plain hgd fun _ hK => by
    have h2 := hK _ _ h
    unfold Oper.wp execOp
    simp only [ho, resolve, invoke, builtin, Sem.run_bind, Sem.run_pure, Result.andThen_ok, List.map_toArray, List.map_cons, List.map_nil, hs, hx, heq]
    exact h2
def RG.cl (d : RG) : Array Value := #[.int .i64 d.a, .int .i64 d.b, .bool d.w, .bool d.u, .bool d.x, .int .i64 d.k]
theorem RG.cl_one (d : RG) : ∀ u ∈ d.cl.toList, u.oneCell' = true := by
  intro u hu
  simp only [RG.cl, List.mem_cons] at hu
  rcases hu with rfl | rfl | rfl | rfl | rfl | rfl | hu
  all_goals first | rfl | cases hu
theorem rd_one {w : World} {vb : Nat} {d : RG} (h : w.heap[vb]? = some (.cells d.cl 31 (0, 0))) : Rd w 6 (.slice (some ⟨vb, 0, none⟩) 1 1) 1 d.cl.toList :=
  ⟨rfl, .inr ⟨_, 1, rfl, fun j u hj => by
    rw [add_at, Nat.zero_add]
    have := cell_heap h j
    rw [← hj]
    simpa using this⟩⟩
set_option maxHeartbeats 4000000 in
theorem insert_end {w : World} {base : Nat} {v : Value} {R : List RG} (h : rgL w base v R) (hl : R.length ≤ 1000) (hb : base ≤ w.heap.size) (d : RG) (vb : Nat) (hx : w.heap[vb]? = some (.cells d.cl 31 (0, 0))) :
    Calls Try.prog 29 #[v, .int .i64 R.length, .slice (some ⟨vb, 0, none⟩) 1 1] w fun e w' => ∃ A c, e = .returned (.slice A (R.length + 1) c) ∧ rgL w' base (.slice A (R.length + 1) c) (R ++ [d]) ∧ w.grownBy w' v.ownBlock := by
  obtain ⟨A, cap, rfl⟩ := h.form
  obtain ⟨i0, hi, hz0, hz1, hz2⟩ := info_parts info_rg
  obtain ⟨v2, w3, ha, ho2, g2⟩ := run_app (P := Try.prog) base 23 23 31 under_rg hi hz0 hz1 hz2 rfl (by decide) h (rd_one hx) d.cl_one (by simp [maxLen]; omega) (by omega) hb
  obtain ⟨A2, c2, rfl⟩ := row_form ho2
  rw [← append_two] at ha
  have HO : Hid (rgL w3 base (.slice A2 (R.length + 1) c2) (R ++ [d])) := Lib.hid (by unfold rgL; rw [List.length_append, rgcells_append]; exact ho2)
  have HA := Lib.hid ha
  have HG := Lib.hid g2
  clear ha ho2 g2 hi hz0 hz1 hz2
  rcases h.2 with ⟨h1, h0⟩ | ⟨g, cap2, cur, h1, _, hg, hnc, hcm, _⟩
  · injection h1 with e1 e2 e3
    subst e1 e3
    have hR : R = [] := List.eq_nil_of_length_eq_zero h0
    subst hR
    clear h h0 e2
    go_enter Try.func29, Try.ntmps29
    go_wp2_with (at_builtin; refine wpList_app2 rfl (.tmp 23) (.tmp 24) 23 22 rfl rfl rfl HA.out ?_)
    go_returns
    exact ⟨_, _, rfl, HO.out, HG.out⟩
  · injection h1 with e1 e2 e3
    subst e1 e3
    obtain ⟨n, hn⟩ : ∃ n, n = R.length := ⟨_, rfl⟩
    rw [← hn] at HO HA hl hnc ⊢
    have s1 : IntKind.i64.wrap (n : Int) = (n : Int) := by rw [IntKind.wrap_i64]; omega
    have s2 : (n : Int) ≤ (cap : Int) := by omega
    clear h hg e2 hcm hn
    go_enter Try.func29, Try.ntmps29
    go_wp2_with (at_builtin; refine wpList_app2 rfl (.tmp 23) (.tmp 24) 23 22 rfl rfl rfl HA.out ?_)
    all_goals go_returns
    all_goals exact ⟨_, _, rfl, HO.out, HG.out⟩
theorem overlaps_no (w : World) (vb g o m vc lb cb : Nat) (hne : vb ≠ g) (d : RG) (hx : w.heap[vb]? = some (.cells d.cl 31 (0, 0))) (cur : Array Value) (hg : w.heap[g]? = some (.cells cur 31 (0, 0))) (hc : cur.size ≠ 0) :
    (callFunc 36 #[.slice (some ⟨vb, 0, none⟩) m vc, .slice (some ⟨g, o, none⟩) lb cb]).run Try.prog w = .ok (.value (.bool false)) w := by
  obtain ⟨i0, hi, hz0, hz1, hz2⟩ := info_parts info_rg
  rw [run_callFunc_extern Try.func36 (by kernel_rfl) (by kernel_rfl) (by kernel_rfl) (e := Extern.SlicesOverlaps.overlaps #[22, 22] #[4]) (by kernel_rfl),
    Lib.run_overlaps_apart w 22 4 31 under_22 6 (fun w => by simp [sizeOf, typeInfo, hi, hz1]) ⟨vb, 0, none⟩ ⟨g, o, none⟩ m vc lb cb hne 31 31 6 cur.size (by simp [World.shape?, hx, RG.cl]) (by simp [World.shape?, hg]) hc (by simp [World.frozen?, hx]) (by simp [World.frozen?, hx])]
  rfl
set_option maxHeartbeats 4000000 in
theorem insert_room {w : World} {g cap : Nat} {cur : Array Value} {R : List RG} (hl : R.length ≤ 1000) (hg : w.heap[g]? = some (.cells cur 31 (0, 0))) (hcs : cur.size = cap * 6) (hcur : cur.toList.take (R.length * 6) = rgcells R) (hcm : cap ≤ maxLen)
    (i : Nat) (hi : i < R.length) (hroom : R.length + 1 ≤ cap) (d : RG) (vb : Nat) (hx : w.heap[vb]? = some (.cells d.cl 31 (0, 0))) (hne : vb ≠ g) :
    Calls Try.prog 29 #[.slice (some ⟨g, 0, none⟩) R.length cap, .int .i64 i, .slice (some ⟨vb, 0, none⟩) 1 1] w fun e w' => e = .returned (.slice (some ⟨g, 0, none⟩) (R.length + 1) cap) ∧ ∃ c2 : List Value, w' = w.drew.setRow g c2.toArray ∧ c2.length = cap * 6 ∧ c2.take ((R.length + 1) * 6) = rgcells (R.take i ++ d :: R.drop i) := by
  obtain ⟨n, hn⟩ : ∃ n, n = R.length := ⟨_, rfl⟩
  have hxl : (rgcells R).length = n * 6 := by rw [rgcells_length, hn]
  have hct : cur.toList.length = cap * 6 := by rw [Array.length_toList, hcs]
  obtain ⟨c1, h1⟩ : ∃ c1, c1 = cur.toList.take (i * 6 + 6) ++ (rgcells R).drop (i * 6) ++ cur.toList.drop (i * 6 + 6 + ((rgcells R).drop (i * 6)).length) := ⟨_, rfl⟩
  obtain ⟨c2, h2⟩ : ∃ c2, c2 = c1.take (i * 6) ++ d.cl.toList ++ c1.drop (i * 6 + d.cl.toList.length) := ⟨_, rfl⟩
  obtain ⟨k1, k2, k3⟩ := shift_list cur.toList (rgcells R) d.cl.toList (i * 6) (n * 6) 6 hxl rfl (by omega) (by rw [hn]; exact hcur) (by omega) c1 c2 h1 h2
  have HF : Hid (c2.length = cap * 6 ∧ c2.take ((n + 1) * 6) = rgcells (R.take i ++ d :: R.drop i)) := Lib.hid ⟨by rw [k2, hct], by
    rw [rgcells_ins R i d (by omega), show (n + 1) * 6 = n * 6 + 6 by omega]; exact k1⟩
  have hsz : (Try.prog.info? 31).map (·.size) = some 6 := sz_rg
  have hdl : ((rgcells R).drop (i * 6)).length = (n - i) * 6 := by rw [List.length_drop, hxl]; omega
  have hcell : ∀ j u, cur.toList[j]? = some u → w.cell? ⟨g, j, none⟩ = some u := fun j u hj => by
    have := cell_heap hg j
    rw [this, ← hj]; simp
  have hcp1 : ∀ ty dc sc, (Builtin.copy_ #[23, 23] ty #[.slice (some ⟨g, (i + 1) * 6, none⟩) (n + 1 - (i + 1)) dc, .slice (some ⟨g, i * 6, none⟩) (n + 1 - i) sc]).run Try.prog w.drew = .ok (goInt ((n - i : Nat) : Int)) (w.drew.setRow g c1.toArray) := fun ty dc sc => by
    have := run_copy_rowN (P := Try.prog) w.drew 23 23 ty 31 g ((i + 1) * 6) (n + 1 - (i + 1)) dc ⟨g, i * 6, none⟩ (n + 1 - i) sc cur 31 ((rgcells R).drop (i * 6)) 6 under_rg hsz hg
      (by rw [hdl, show Nat.min (n + 1 - i) (n + 1 - (i + 1)) = n - i by simp only [Nat.min_def]; split <;> omega])
      (fun j u hj => by
        rw [add_at]
        apply hcell
        rw [List.getElem?_drop, ← hcur, List.getElem?_take] at hj
        split at hj
        · exact hj
        · cases hj)
      (by rw [hdl, hcs]; omega) (fun u hu => rgcells_one R u (List.mem_of_mem_drop hu))
    rw [show Nat.min (n + 1 - i) (n + 1 - (i + 1)) = n - i by simp only [Nat.min_def]; split <;> omega, show (i + 1) * 6 = i * 6 + 6 by omega, ← h1] at this
    rw [show (i + 1) * 6 = i * 6 + 6 by omega]
    exact this
  have hg1 : (w.drew.setRow g c1.toArray).heap[g]? = some (.cells c1.toArray 31 (0, 0)) := setRow_heap _ _ _ _ _ _ hg
  have hx1 : (w.drew.setRow g c1.toArray).heap[vb]? = some (.cells d.cl 31 (0, 0)) := (setRow_other w.drew g vb _ hne).trans hx
  have hcp2 : ∀ ty dc, (Builtin.copy_ #[23, 22] ty #[.slice (some ⟨g, i * 6, none⟩) (n + 1 - i) dc, .slice (some ⟨vb, 0, none⟩) 1 1]).run Try.prog (w.drew.setRow g c1.toArray) = .ok (goInt 1) (w.drew.setRow g c2.toArray) := fun ty dc => by
    have := run_copy_rowN (P := Try.prog) (w.drew.setRow g c1.toArray) 23 22 ty 31 g (i * 6) (n + 1 - i) dc ⟨vb, 0, none⟩ 1 1 c1.toArray 31 d.cl.toList 6 under_rg hsz hg1
      (by rw [show Nat.min 1 (n + 1 - i) = 1 by simp only [Nat.min_def]; split <;> omega]; rfl)
      (fun j u hj => by
        rw [add_at, Nat.zero_add]
        have := cell_heap hx1 j
        rw [this, ← hj]; simp)
      (by simp only [List.size_toArray]; rw [k3, hct]; simp [RG.cl]; omega) d.cl_one
    rw [show Nat.min 1 (n + 1 - i) = 1 by simp only [Nat.min_def]; split <;> omega, setRow_setRow, ← h2] at this
    exact this
  have hov : ∀ lb cb, (callFunc 36 #[.slice (some ⟨vb, 0, none⟩) 1 1, .slice (some ⟨g, (i + 1) * 6, none⟩) lb cb]).run Try.prog w = .ok (.value (.bool false)) w := fun lb cb => overlaps_no w vb g _ 1 1 lb cb hne d hx cur hg (by omega)
  have hw1 : IntKind.i64.wrap ((i : Int) + 1) = (i : Int) + 1 := by rw [IntKind.wrap_i64]; omega
  have hw2 : IntKind.i64.wrap ((n : Int) + 1) = (n : Int) + 1 := by rw [IntKind.wrap_i64]; omega
  have hb1 : (0 : Int) ≤ (i : Int) + 1 := by omega
  have hin : i ≤ n := by omega
  have hin2 : i ≤ cap := by omega
  have htn : ((i : Int) + 1).toNat = i + 1 := by omega
  have htn2 : ((n : Int) + 1).toNat = n + 1 := by omega
  have hb2 : ¬ (cap = i + 1) := by omega
  have hb3 : (i : Int) ≤ (n : Int) + 1 := by omega
  have hb4 : ¬ (cap = i) := by omega
  have hb5 : ¬ ((i : Int) = (n : Int)) := by omega
  have hb6 : ¬ (i = n) := by omega
  have hb7 : ¬ ((cap : Int) < (n : Int) + 1) := by omega
  have hb8 : (n : Int) + 1 ≤ (cap : Int) := by omega
  have hb9 : (i : Int) + 1 ≤ (n : Int) + 1 := by omega
  have mixed : Try.prog.follows .mixedOrders = true := by kernel_rfl
  have H1 : (Builtin.copy_ #[23, 23] 3 #[.slice (some ⟨g, (i + 1) * 6, none⟩) (n - i) (cap - (i + 1)), .slice (some ⟨g, i * 6, none⟩) (n + 1 - i) (cap - i)]).run Try.prog w.drew = .ok (goInt ((n - i : Nat) : Int)) (w.drew.setRow g c1.toArray) := by
    have := hcp1 3 (cap - (i + 1)) (cap - i)
    rwa [show n + 1 - (i + 1) = n - i by omega] at this
  have H2 : (Builtin.copy_ #[23, 22] 3 #[.slice (some ⟨g, i * 6, none⟩) (n + 1 - i) (cap - i), .slice (some ⟨vb, 0, none⟩) 1 1]).run Try.prog (w.drew.setRow g c1.toArray) = .ok (goInt 1) (w.drew.setRow g c2.toArray) := hcp2 _ _
  have HV := Lib.hid hov
  have HN := Lib.hid hn
  rw [← hn]
  clear hcp1 hcp2 hov k1 k2 k3 h1 h2 hg1 hx1 hcell hdl hct hxl hcur hcs hg hx hn hl hsz hi
  go_enter Try.func29, Try.ntmps29
  go_wp2_with (simp only [HV.out])
  go_region_law_o (fail)
  go_wp2_with fail
  go_returns
  exact ⟨rfl, c2, rfl, HF.out⟩
end Go.Proofs.Ytoodjhomekeekaa
