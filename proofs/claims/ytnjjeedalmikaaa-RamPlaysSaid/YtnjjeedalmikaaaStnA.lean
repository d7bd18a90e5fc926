/- The operations of staged regions. No condition. -/
import Derived.Test.YtnjjeedalmikaaaStn
namespace Go.Proofs.Ytnjjeedalmikaaa
open Go.ChangeShapes Go.WideShapes Go.ChangeAt Go.RowKit
set_option linter.unusedVariables false
set_option linter.unusedSimpArgs false
section
variable {P : Program} {md : Region.Mode} {B : World → Prop} {F : Nat → Value → World → Prop} {R : Nat → Value → Value → Prop} {X : Nat → Operand} {i : Nat} {o : Oper} {a : Act} {vals : Nat → Value}
theorem nOp_same {v : Value} (hR : R i (a.eval (X i)) v) (hF : ∀ w, F i v w) (h : ∀ w, B w → (execOp a.eval o).run P w = .ok (.value v) w) : nOp P md B F R X i o a vals := ⟨fun w hb _ => by
  rw [h w hb]; exact ⟨hR, hb, hF w, fun _ _ h => h⟩⟩
theorem nOp_move {v : Value} (x : Operand) (ho : o.op = .move x ∨ o.op = .assign x) (hx : a.eval x = v) (hR : R i (a.eval (X i)) v) (hF : ∀ w, F i v w) : nOp P md B F R X i o a vals := nOp_same hR hF fun w hb => by
  unfold execOp
  rcases ho with ho | ho <;> simp only [ho, hx] <;> rfl
theorem nOp_load (ty : TypeId) (x : Operand) (ho : o.op = .load ty x) (g : Nat) (hx : a.eval x = .pointer (some ⟨g, 0, none⟩)) (t : TypeId) (cs : Array Value) (fr : Nat × Nat) (d : TypeDesc)
    (hu : P.underlying ty = some d) (hd : (match d with | .struct _ | .array _ _ => true | _ => false) = true) (hi : (P.info? ty).map (·.size) = some cs.size) (hR : R i (a.eval (X i)) (.agg cs)) (hF : ∀ w, F i (.agg cs) w) (hg : ∀ w, B w → w.heap[g]? = some (.cells cs t fr)) : nOp P md B F R X i o a vals :=
  nOp_same hR hF fun w hb => by
    unfold execOp
    simp only [ho, hx, Instr.loadAt, Instr.sureAddr, Sem.run_bind, Sem.run_pure, Result.andThen_ok, run_loadVar_row w g t ty cs fr d (hg w hb) hu hd hi]
theorem nOp_store (ty : TypeId) (x y : Operand) (ho : o.op = .store ty x y) (g : Nat) (cells : Array Value) (hx : a.eval x = .pointer (some ⟨g, 0, none⟩)) (hy : a.eval y = .agg cells) (t : TypeId)
    (hi : (P.info? ty).map (·.size) = some cells.size) (h1 : cells.all (·.oneCell') = true) (u : Value) (hd : o.dst = none) (hR : R i (a.eval (X i)) u) (hg : ∀ w, B w → Knows md F o vals w → ∃ old : Array Value, old.size = cells.size ∧ w.heap[g]? = some (.cells old t (0, 0)))
    (hp : ∀ w, B w → Knows md F o vals w → NPost B F i u w (w.setRow g cells)) : nOp P md B F R X i o a vals := ⟨fun w hb hk => by
  obtain ⟨old, hold, hg'⟩ := hg w hb hk
  have : (execOp a.eval o).run P w = .ok .skip (w.setRow g cells) := by
    unfold execOp
    simp only [ho, hx, hy, Instr.storeAt, Instr.sureAddr, Sem.run_bind, Sem.run_pure, Result.andThen_ok, run_storeVar_row w g t ty old cells hg' hi hold h1]
  rw [this]
  exact ⟨u, hd, hR, hp w hb hk⟩⟩
theorem nOp_run {v : World → Value} {w' : World → World} (hR : ∀ w, B w → R i (a.eval (X i)) (v w)) (h : ∀ w, B w → (execOp a.eval o).run P w = .ok (.value (v w)) (w' w)) (hp : ∀ w, B w → NPost B F i (v w) w (w' w)) : nOp P md B F R X i o a vals := ⟨fun w hb _ => by
  rw [h w hb]; exact ⟨hR w hb, hp w hb⟩⟩
theorem nOp_call {v : Value} {f : FuncId} {args : Array Value} (hR : R i (a.eval (X i)) v) (h : ∀ w, (execOp a.eval o).run P w = .ok (.enter f args) w) (hc : ∀ w, B w → Calls P f args w fun e w' => e = .returned v ∧ NPost B F i v w w') : nOp P md B F R X i o a vals := ⟨fun w hb _ => by
  rw [h w]
  exact (hc w hb).mono fun e w' ⟨he, hp⟩ => ⟨v, he, hR, hp⟩⟩
theorem nOp_extract {v : Value} {cs : Array Value} (x : Operand) (n : Nat) (ho : o.op = .extract x n) (hx : a.eval x = .tuple cs) (hn : cs[n]? = some v) (hR : R i (a.eval (X i)) v) (hF : ∀ w, F i v w) : nOp P md B F R X i o a vals := nOp_same hR hF fun w hb => by
  unfold execOp
  simp only [ho, hx]
  simp [Instr.extract, hn]
end
theorem run_alloc {o : Oper} {a : Act} (t : TypeId) (cs : Array Value) (ho : o.op = .alloc t) (hz : ∀ w, (zeroValue t).run Try.prog w = .ok (.agg cs) w) (w : World) : (execOp a.eval o).run Try.prog w = .ok (.value (.pointer (some ⟨w.heap.size, 0, none⟩))) (w.alloc (.cells cs t)) := by
  unfold execOp
  simp only [ho]
  go_simp
end Go.Proofs.Ytnjjeedalmikaaa
