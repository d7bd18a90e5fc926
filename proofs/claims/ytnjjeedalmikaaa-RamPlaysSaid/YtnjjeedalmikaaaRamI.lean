/- Clear of the memory; a page stored whole. No condition. -/
import Derived.Test.YtnjjeedalmikaaaRamH
import Derived.ChangeKeysEq
namespace Go.Proofs.Ytnjjeedalmikaaa
open Go.ChangeShapes Go.WideShapes Go.ChangeAt Go.RowKit
open Go.ChangeMaps (setBlock heap_setBlock_same heap_setBlock_other)
set_option linter.unusedVariables false
set_option linter.unusedSimpArgs false
theorem part_byte {cs : Array Value} {i : Nat} {x : Value} (h : cs[i]? = some x) (W : World) : (part 5 cs i).run Try.prog W = .ok x W := by
  have ha : (isAgg 5).run Try.prog W = .ok false W := by kernel_rfl
  unfold part
  simp [Sem.run_bind, ha, h]
theorem eq_byte (d : Nat) (x y : Int) (W : World) : (Op.equalIn (d + 1) 5 (.int .u8 x) (.int .u8 y)).run Try.prog W = .ok (x == y) W := by
  have hu : Try.prog.underlying 5 = some (.int .u8) := by kernel_rfl
  simp [Op.equalIn, Sem.run_bind, run_underlying hu]
theorem eq_bytes (d : Nat) (W : World) (xs ys : Array Value) (c : Nat → Nat) (hx : ∀ i, i < 4096 → xs[i]? = some (.int .u8 (c i))) (hy : ∀ i, i < 4096 → ys[i]? = some (.int .u8 0)) :
    ∀ (is : List Nat), (∀ i ∈ is, i < 4096) → (Op.eqItems (d + 1) 5 1 xs ys is).run Try.prog W = .ok (is.all fun i => c i == 0) W
  | [], _ => rfl
  | i :: is, hi => by
    have ih := eq_bytes d W xs ys c hx hy is (fun j hj => hi j (List.mem_cons_of_mem _ hj))
    have h1 := part_byte (hx i (hi i List.mem_cons_self)) W
    have h2 := part_byte (hy i (hi i List.mem_cons_self)) W
    simp only [Op.eqItems, Nat.mul_one, Sem.run_bind, h1, h2, Result.andThen_ok, eq_byte, List.all_cons]
    have e : ((c i : Int) == 0) = (c i == 0) := by
      by_cases h : c i = 0
      · rw [h]; rfl
      · have : ¬ (c i : Int) = 0 := by omega
        rw [beq_false_of_ne this, beq_false_of_ne h]
    rw [e]
    cases hc : (c i == 0)
    · simp
    · simpa using ih
theorem eql_page (xs ys : Array Value) (c : Nat → Nat) (hx : ∀ i, i < 4096 → xs[i]? = some (.int .u8 (c i))) (hy : ∀ i, i < 4096 → ys[i]? = some (.int .u8 0)) (W : World) :
    (binOp .eql 65 (.agg xs) (.agg ys)).run Try.prog W = .ok (.bool ((List.range 4096).all fun i => c i == 0)) W := by
  obtain ⟨i, hi⟩ : ∃ i, Try.prog.info? 5 = some i := by
    have := infoB
    cases h : Try.prog.info? 5 with
    | none => rw [h] at this; simp at this
    | some i => exact ⟨i, rfl⟩
  have h := run_equalIn_array (i := i) (P := Try.prog) W 9999 xs ys underP hi
  rw [cellsB, eq_bytes 9998 W xs ys c hx hy (List.range 4096) (fun j hj => List.mem_range.1 hj)] at h
  generalize ((List.range 4096).all fun i => c i == 0) = B at h ⊢
  simp [binOp, Op.equal, Op.maxDepth, Sem.run_bind, h]
section
variable {P : Program} {ops : Array Oper} {Q : Exit → Act → World → Prop} {a : Act} {w : World} {rest : List Oper} {o : Oper}
/-- An operation whose run is known. -/
theorem wpList_is {v : Value} {w' : World} (hw : Region.wanted o (yielded ops a.tmps) = true) (he : (execOp a.eval o).run P w = .ok (.value v) w') (h : wpList P ops Q rest (a.put o.dst v) w') : wpList P ops Q (o :: rest) a w := by
  unfold wpList
  rw [if_pos hw]
  refine .inl ?_
  unfold Oper.wp
  rw [he]
  exact h
theorem exec_load {ty : TypeId} {x : Operand} (ho : o.op = .load ty x) {p v : Value} (hx : a.eval x = p) (h : (Instr.loadAt ty p).run P w = .ok v w) : (execOp a.eval o).run P w = .ok (.value v) w := by
  unfold execOp
  simp only [ho, hx]
  simp [Sem.run_bind, h, Result.andThen]
theorem exec_build0 {ty : TypeId} (ho : o.op = .build ty #[]) {v : Value} (h : (Instr.build ty #[]).run P w = .ok v w) : (execOp a.eval o).run P w = .ok (.value v) w := by
  unfold execOp
  simp only [ho]
  simp [Sem.run_bind, h, Result.andThen]
end
set_option maxRecDepth 10000 in
set_option maxHeartbeats 1000000 in
theorem clear_any {w : World} {base b m : Nat} {n : Int} {hs : Hs} {mem : Nat → Nat} (h : RamAt w base b m n hs mem) (f : Nat) (hf63 : f < 9223372036854775808) :
    Calls Try.prog 25 #[ptr b, .int .i64 f] w fun e w' => e = .returned (.bool (clearF mem f)) ∧ Below w.heap.size w w' := by
  obtain ⟨v, L, hX⟩ := h.x
  have c2 : w.cell? ⟨b, 2, none⟩ = some (.map (some m)) := cell_heap hX.hd 2
  have hlk := run_lookup_al (P := Try.prog) underPages underInt (zeroPtr w) hX.mp (f : Int) false
  rw [aget_enc] at hlk
  cases hg : kget L (f : Int) with
  | none =>
    rw [hg] at hlk
    have hr : clearF mem f = true := List.all_eq_true.2 fun i hi => by rw [hX.no f hg i (List.mem_range.1 hi)]; rfl
    rw [hr]
    clear h hX hg hf63
    go_enter Try.func25, Try.ntmps25
    go_wp2
    go_returns
    exact ⟨rfl, by go_grown⟩
  | some g =>
    rw [hg] at hlk
    obtain ⟨f', e1, e2, ⟨cs, p1, p2, p3⟩⟩ := hX.pg _ _ hg
    obtain rfl : f = f' := by omega
    obtain ⟨Z, hZ⟩ : ∃ Z, Z = Array.replicate 4096 (Value.int .u8 0) := ⟨_, rfl⟩
    have hz : ∀ W, (zeroValue 65).run Try.prog W = .ok (.agg Z) W := fun W => by rw [hZ]; exact zeroP W
    have hq : ∀ W, (binOp .eql 65 (.agg cs) (.agg Z)).run Try.prog W = .ok (.bool (clearF mem f)) W := fun W => eql_page cs Z _ p3 (fun i hi => by rw [hZ, Array.getElem?_replicate, if_pos hi]) W
    have hld : (Instr.loadAt 65 (.pointer (some ⟨g, 0, none⟩))).run Try.prog w = .ok (.agg cs) w := by
      unfold Instr.loadAt
      simp only [Instr.sureAddr, Sem.run_bind, Sem.run_pure, Result.andThen_ok]
      exact run_loadVar_row w g _ _ cs _ _ p1 underP rfl (by rw [p2]; exact infoP)
    have hbd : ∀ W, (Instr.build 65 #[]).run Try.prog W = .ok (.agg Z) W := fun W => by
      unfold Instr.build
      simp [Sem.run_bind, hz, run_underlying underP, size_uint8, Result.andThen, Instr.fill, Value.cells]
    generalize clearF mem f = B at hq ⊢
    clear h hX hg hf63 p1 p2 p3 hZ hz
    go_enter Try.func25, Try.ntmps25
    go_wp2_with (first
      | (refine wpList_is (v := .agg cs) (w' := w) rfl (exec_load rfl (p := ptr g) rfl hld) ?_)
      | (refine wpList_is (v := .agg Z) (w' := w) rfl (exec_build0 rfl (hbd w)) ?_))
    go_returns
    exact ⟨rfl, by go_grown⟩
end Go.Proofs.Ytnjjeedalmikaaa
