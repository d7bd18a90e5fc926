/- slices.Clone and slices.Insert of lists of regions. Condition: at most 1000 regions. -/
import Derived.Test.YtoodjhomekeekaaRgG
import Derived.Lib.AppendZerosOnto
import Derived.Lib.Overlaps
import Derived.Lib.JoinLaws
import Derived.Laws.Externs
import Derived.Laws.CopyRow
import Derived.Laws.Rows
import Derived.Laws.Tables
import Derived.Lib.SliceRun
namespace Go.Proofs.Ytoodjhomekeekaa
open Go.ChangeShapes Go.WideShapes Go.ChangeAt Go.RowKit
set_option linter.unusedVariables false
set_option linter.unusedSimpArgs false
theorem clone_any {w : World} {base : Nat} {v : Value} {R : List RG} (h : rgL w base v R) (hl : R.length ≤ 1000) :
    Calls Try.prog 30 #[v] w fun e w' => ∃ A c, e = .returned (.slice A R.length c) ∧ rgL w' w.heap.size (.slice A R.length c) R ∧ Below w.heap.size w w' := by
  obtain ⟨A, cap, rfl⟩ := h.form
  have hq : ∀ (W : World) (A : Option Addr) (n c : Nat), (binOp .eql 23 (.slice A n c) (.slice none 0 0)).run Try.prog W = .ok (.bool A.isNone) W := fun W A n c => Lib.run_eql_slice_nil W 23 31 A n c 0 0 under_rg
  cases hA : A with
  | none =>
    subst hA
    obtain ⟨hv, rfl⟩ := h.cap0 (by intro a n c e; cases e)
    have hv' := hv
    injection hv' with _ _ hc
    subst hc
    go_enter Try.func30, Try.ntmps30
    go_wp2
    go_returns
    exact ⟨_, _, rfl, rgL.nil _ _, Below.refl _ _⟩
  | some a =>
    subst hA
    obtain ⟨i0, hi, hz0, hz1, hz2⟩ := info_parts info_rg
    have hrd := (Rd.own h).below ((Below.refl w.heap.size w).alloc (Nat.le_refl _) (.cells #[] 31))
    have ho := World.ownsRow_lit (base := w.heap.size) (e := 31) (size := 6) w #[] 0 (Nat.le_refl _) (by simp [maxLen]) (by simp)
    obtain ⟨v2, w3, ha, ho2, g2⟩ := run_app (P := Try.prog) w.heap.size 23 23 31 under_rg hi hz0 hz1 hz2 rfl (by decide) ho hrd (rgcells_one R) (by simp [maxLen]; omega) (by omega) (by rw [World.size_alloc]; omega)
    have hB : Below w.heap.size w w3 := Below.grown ((Below.refl w.heap.size w).alloc (Nat.le_refl _) (.cells #[] 31)) g2 (by rw [World.size_alloc]; omega) (fun k e => by simp [Value.ownBlock] at e; omega)
    rw [Nat.zero_add] at ho2
    obtain ⟨A2, c2, rfl⟩ := row_form ho2
    have HO : Hid (rgL w3 w.heap.size (.slice A2 R.length c2) R) := Lib.hid ho2
    have HA := Lib.hid ha
    obtain ⟨n, hn⟩ : ∃ n, n = R.length := ⟨_, rfl⟩
    rw [← hn] at HA HO ⊢
    clear ha ho ho2 hrd g2 hi hz0 hz1 hz2 hn
    go_enter Try.func30, Try.ntmps30
    go_wp2_with (at_builtin; refine wpList_app rfl (.tmp 5) (.tmp 6) 23 rfl rfl rfl HA.out ?_)
    go_returns
    exact ⟨_, _, rfl, HO.out, hB⟩
/-- copy, the target's block whole. -/
theorem run_copy_rowN {P : Program} (w : World) (dT sT ty elem : TypeId) (g o dLen dCap : Nat) (a : Addr) (sLen sCap : Nat) (cur : Array Value) (t : TypeId) (cs : List Value) (size : Nat)
    (hu : P.underlying dT = some (.slice elem)) (hs : (P.info? elem).map (·.size) = some size)
    (hg : w.heap[g]? = some (.cells cur t (0, 0))) (hn : cs.length = Nat.min sLen dLen * size)
    (hsrc : ∀ j v, cs[j]? = some v → w.cell? (a.add j) = some v) (hfit : o + cs.length ≤ cur.size) (h1 : ∀ v ∈ cs, v.oneCell' = true) :
    (Builtin.copy_ #[dT, sT] ty #[.slice (some ⟨g, o, none⟩) dLen dCap, .slice (some a) sLen sCap]).run P w =
      .ok (goInt (Nat.min sLen dLen)) (w.setRow g (cur.toList.take o ++ cs ++ cur.toList.drop (o + cs.length)).toArray) := by
  have hl := run_loadCells_list (P := P) w a cs hsrc
  have hst := run_storeCells_at P g o t cs 0 cur w hg (by simpa using hfit) h1
  cases hq : P.info? elem with
  | none => simp [hq] at hs
  | some i =>
    have hi : i.size = size := by simpa [hq] using hs
    subst hi
    simp [Builtin.copy_, run_underlying hu, Builtin.lenOf, Builtin.firstCells, sizeOf, typeInfo, hq, ← hn, hl, hst]
/-- A part of a list moved up, the gap filled. -/
theorem shift_list {α : Type} (cur xs x : List α) (a N s : Nat) (hN : xs.length = N) (hx : x.length = s) (ha : a ≤ N) (hc : cur.take N = xs) (hl : N + s ≤ cur.length) (c1 c2 : List α)
    (h1 : c1 = cur.take (a + s) ++ xs.drop a ++ cur.drop (a + s + (xs.drop a).length)) (h2 : c2 = c1.take a ++ x ++ c1.drop (a + x.length)) :
    c2.take (N + s) = xs.take a ++ x ++ xs.drop a ∧ c2.length = cur.length ∧ c1.length = cur.length := by
  have e1 : c1.take a = xs.take a := by
    rw [h1, List.append_assoc, List.take_append_of_le_length (by rw [List.length_take]; omega), List.take_take, Nat.min_eq_left (by omega), ← hc, List.take_take, Nat.min_eq_left ha]
  have e2 : c1.drop (a + s) = xs.drop a ++ cur.drop (a + s + (xs.drop a).length) := by
    rw [h1, List.append_assoc, List.drop_append_of_le_length (by rw [List.length_take]; omega), List.drop_of_length_le (by rw [List.length_take]; omega), List.nil_append]
  have l1 : c1.length = cur.length := by
    rw [h1]; simp only [List.length_append, List.length_take, List.length_drop]; omega
  refine ⟨?_, ?_, l1⟩
  · rw [h2, hx, e1, e2, ← List.append_assoc, List.take_append_of_le_length (by simp only [List.length_append, List.length_take, List.length_drop]; omega), List.take_of_length_le (by simp only [List.length_append, List.length_take, List.length_drop]; omega)]
  · rw [h2]; simp only [List.length_append, List.length_take, List.length_drop]; omega
/-- A gap filled, then a part laid behind it. -/
theorem fill_list {α : Type} (cur xs x : List α) (a N s : Nat) (hN : xs.length = N) (hx : x.length = s) (ha : a ≤ N) (hc : cur.take a = xs.take a) (hl : N + s ≤ cur.length) (c1 c2 : List α)
    (h1 : c1 = cur.take a ++ x ++ cur.drop (a + x.length)) (h2 : c2 = c1.take (a + s) ++ xs.drop a ++ c1.drop (a + s + (xs.drop a).length)) :
    c2.take (N + s) = xs.take a ++ x ++ xs.drop a ∧ c2.length = cur.length ∧ c1.length = cur.length := by
  have l1 : c1.length = cur.length := by
    rw [h1]; simp only [List.length_append, List.length_take, List.length_drop]; omega
  have e1 : c1.take (a + s) = xs.take a ++ x := by
    rw [h1, List.take_append_of_le_length (by simp only [List.length_append, List.length_take]; omega), hc, List.take_of_length_le (by simp only [List.length_append, List.length_take]; omega)]
  refine ⟨?_, ?_, l1⟩
  · rw [h2, e1, List.take_append_of_le_length (by simp only [List.length_append, List.length_take, List.length_drop]; omega), List.take_of_length_le (by simp only [List.length_append, List.length_take, List.length_drop]; omega)]
  · rw [h2]; simp only [List.length_append, List.length_take, List.length_drop]; omega
theorem add_at (b o j : Nat) : (⟨b, o, none⟩ : Addr).add j = ⟨b, o + j, none⟩ := by unfold Addr.add; split <;> simp_all
theorem rgcells_take (R : List RG) (i : Nat) (h : i ≤ R.length) : rgcells (R.take i) = (rgcells R).take (i * 6) := by
  have e : rgcells R = rgcells (R.take i) ++ rgcells (R.drop i) := by rw [← rgcells_append, List.take_append_drop]
  rw [e]; exact (List.take_left' (by rw [rgcells_length, List.length_take]; omega)).symm
theorem rgcells_drop (R : List RG) (i : Nat) (h : i ≤ R.length) : rgcells (R.drop i) = (rgcells R).drop (i * 6) := by
  have e : rgcells R = rgcells (R.take i) ++ rgcells (R.drop i) := by rw [← rgcells_append, List.take_append_drop]
  rw [e]; exact (List.drop_left' (by rw [rgcells_length, List.length_take]; omega)).symm
theorem rgcells_ins (R : List RG) (i : Nat) (d : RG) (h : i ≤ R.length) : rgcells (R.take i ++ d :: R.drop i) = (rgcells R).take (i * 6) ++ [.int .i64 d.a, .int .i64 d.b, .bool d.w, .bool d.u, .bool d.x, .int .i64 d.k] ++ (rgcells R).drop (i * 6) := by
  rw [rgcells_append, rgcells_take R i h, ← rgcells_drop R i h]
  simp [rgcells]
theorem wpList_copy_runI {P : Program} (w : World) {ops : Array Oper} {rest : List Oper} {o : Oper} {a : Act} {Q : Exit → Act → World → Prop} (hgd : o.guard = none) (d s : Operand) (t t' : TypeId)
    (ho : o.op = .call { callee := .builtin .copy, args := #[d, s], argTypes := #[t, t'] }) (v u : Value) (hd : a.eval d = v) (hs : a.eval s = u) {v' : Value} {w' : World}
    (hr : (Builtin.copy_ #[t, t'] o.type #[v, u]).run P w = .ok v' w') (h : wpList P ops Q rest (a.put o.dst v') w') : wpList P ops Q (o :: rest) a w :=
  wpList_plain hgd fun _ hK => by
    have h2 := hK _ _ h
    unfold Oper.wp execOp
    simp only [ho, resolve, invoke, builtin, Sem.run_bind, Sem.run_pure, Result.andThen_ok, List.map_toArray, List.map_cons, List.map_nil, hd, hs, hr]
    exact h2
theorem step_copy_runI {P : Program} {ops : Array Oper} {o : Oper} {a : Act} {w : World} {K : Act → World → Prop} {Q : Exit → Act → World → Prop} {E : Prop}
    (hg : o.guard = none) (d x : Operand) (dT sT : TypeId) (hop : o.op = Op.call { callee := Callee.builtin Builtin.copy, args := #[d, x], argTypes := #[dT, sT] })
    (v u : Value) (hd : a.eval d = v) (hx : a.eval x = u) {v' : Value} {w' : World} (hr : (Builtin.copy_ #[dT, sT] o.type #[v, u]).run P w = .ok v' w') (hK : K (a.put o.dst v') w') :
    if Region.wanted o (yielded ops a.tmps) = true then Oper.wp P o a w K Q else E := by
  have hw : Region.wanted o (yielded ops a.tmps) = true := by simp [Region.wanted, hg]
  rw [if_pos hw]
  unfold Oper.wp
  simp [execOp, hop, resolve, invoke, builtin, hd, hx, hr, Result.andThen]
  exact hK
end Go.Proofs.Ytoodjhomekeekaa
