/- Appends to a row of the call's own, from a row or from nothing. No condition but the bounds. -/
import Derived.Test.YtbbohjmkippigaaH
import Derived.Laws.OwnMore
import Derived.OwnWalk
namespace Go.Proofs.Ytbbohjmkippigaa
open Go.ChangeShapes Go.WideShapes Go.ChangeAt Go.RowKit
set_option linter.unusedVariables false
set_option linter.unusedSimpArgs false

section
variable {P : Program} {w : World}
theorem run_append_nil (t ty e : TypeId) (i : TypeInfo) (ht : P.underlying t = some (.slice e)) (hi : P.info? e = some i) (b : Option Addr) (n cap : Nat) (h : n ≤ cap) :
    (Builtin.append_ #[t, t] ty #[.slice b n cap, .slice none 0 0]).run P w = .ok (.slice b n cap) w := by
  have hst : ∀ (a : Addr) (w : World), (storeCells a []).run P w = .ok () w := fun a w => by simp [storeCells]
  cases b <;> simp [Builtin.append_, run_underlying ht, sizeOf, typeInfo, hi, Builtin.lenOf, Builtin.firstCells, h, hst, Result.andThen]
/-- Nothing is in it, or its cells are these. -/
def Rd (w : World) (size : Nat) (v : Value) (n : Nat) (xs : List Value) : Prop :=
  xs.length = n * size ∧ ((v = .slice none 0 0 ∧ n = 0) ∨ ∃ a cap, v = .slice (some a) n cap ∧ ∀ j u, xs[j]? = some u → w.cell? (a.add j) = some u)
theorem Rd.own {base : Nat} {e : TypeId} {size : Nat} {v : Value} {n : Nat} {xs : List Value} (h : w.ownsRow base e size v n xs) : Rd w size v n xs := by
  have h' := h
  refine ⟨h.1, ?_⟩
  rcases h.2 with h1 | ⟨g, cap, cur, rfl, _⟩
  · exact .inl h1
  · exact .inr ⟨_, cap, rfl, World.ownsRow.cells h' rfl⟩
theorem Rd.lit (w : World) (size : Nat) (cs : Array Value) (t : TypeId) (n c : Nat) (hs : cs.size = n * size) : Rd (w.alloc (.cells cs t)) size (.slice (some ⟨w.heap.size, 0, none⟩) n c) n cs.toList := by
  refine ⟨by simpa using hs, .inr ⟨_, c, rfl, fun j u hj => ?_⟩⟩
  have h1 : (w.alloc (.cells cs t)).cell? ⟨w.heap.size, j, none⟩ = cs[j]? := cell_heap (heap_new w _) j
  have h2 : ((⟨w.heap.size, 0, none⟩ : Addr).add j) = ⟨w.heap.size, j, none⟩ := by cases j <;> simp [Addr.add]
  rw [h2, h1]
  simpa using hj
theorem Rd.below {size : Nat} {v : Value} {n : Nat} {xs : List Value} {w' : World} (h : Rd w size v n xs) (hb : Below w.heap.size w w') : Rd w' size v n xs := by
  refine ⟨h.1, ?_⟩
  rcases h.2 with h1 | ⟨a, cap, rfl, h2⟩
  · exact .inl h1
  · refine .inr ⟨a, cap, rfl, fun j u hj => ?_⟩
    have h3 := h2 j u hj
    have hlt := World.block_lt_of_cell? w _ h3
    exact (World.cell?_of_block (hb.block _ hlt)).trans h3
/-- An append, from what can be read, to a row of one's own. -/
theorem run_app (base : Nat) (t ty e : TypeId) {i : TypeInfo} {z : Value} {size bytes : Nat} (ht : P.underlying t = some (.slice e)) (hi : P.info? e = some i) (hz : i.zero = some z)
    (hsize : i.size = size) (hby : i.bytes = bytes) (hzs : z.cells.size = size) (hsz : 0 < size)
    {v x : Value} {n m : Nat} {xs news : List Value} (hown : w.ownsRow base e size v n xs) (hx : Rd w size x m news) (h1 : ∀ u ∈ news, u.oneCell' = true)
    (h63 : n + m ≤ maxLen) (hbytes : (n + m) * bytes ≤ 140737488355328) (hbase : base ≤ w.heap.size) :
    ∃ v' w', (Builtin.append_ #[t, t] ty #[v, x]).run P w = .ok v' w' ∧ w'.ownsRow base e size v' (n + m) (xs ++ news) ∧ w.grownBy w' v.ownBlock := by
  obtain ⟨hl, hx⟩ := hx
  rcases hx with ⟨rfl, rfl⟩ | ⟨a, c, rfl, hc⟩
  · have hnil : news = [] := by
      apply List.eq_nil_of_length_eq_zero; omega
    subst hnil
    have hown' := hown
    rcases hown.2 with ⟨rfl, rfl⟩ | ⟨g, cap, cur, rfl, _, _, hnc, _⟩
    · exact ⟨_, w, run_append_nil t ty e i ht hi none 0 0 (Nat.le_refl _), by simpa using hown', ⟨rfl, rfl, rfl, Nat.le_refl _, fun _ _ _ => rfl⟩⟩
    · exact ⟨_, w, run_append_nil t ty e i ht hi _ n cap hnc, by simpa using hown', ⟨rfl, rfl, rfl, Nat.le_refl _, fun _ _ _ => rfl⟩⟩
  · obtain ⟨v', w', h2, h3, h4, _⟩ := run_append_own (P := P) w base t ty e i z size bytes ht hi hz hsize hby hzs hsz v n xs hown a m c news hl hc h1 h63 hbytes hbase
    exact ⟨v', w', h2, h3, h4⟩
/-- The walk over an append whose outcome is known as an equation. -/
theorem wp_app {o : Oper} {a : Act} {K : Act → World → Prop} {Q : Exit → Act → World → Prop} (s x : Operand) (t : TypeId)
    (ho : o.op = .call { callee := .builtin .append, args := #[s, x], argTypes := #[t, t] }) {v xv v' : Value} {w' : World} (hs : a.eval s = v) (hx : a.eval x = xv)
    (heq : (Builtin.append_ #[t, t] o.type #[v, xv]).run P w = .ok v' w') (h : K (a.put o.dst v') w') : o.wp P a w K Q := by
  unfold Oper.wp execOp
  simp only [ho, resolve, invoke, builtin, Sem.run_bind, Sem.run_pure, Result.andThen_ok, List.map_toArray, List.map_cons, List.map_nil, hs, hx, heq]
  exact h
theorem wpList_app {ops : Array Oper} {rest : List Oper} {o : Oper} {a : Act} {Q : Exit → Act → World → Prop} (hgd : o.guard = none) (s x : Operand) (t : TypeId)
    (ho : o.op = .call { callee := .builtin .append, args := #[s, x], argTypes := #[t, t] }) {v xv v' : Value} {w' : World} (hs : a.eval s = v) (hx : a.eval x = xv)
    (heq : (Builtin.append_ #[t, t] o.type #[v, xv]).run P w = .ok v' w') (h : wpList P ops Q rest (a.put o.dst v') w') : wpList P ops Q (o :: rest) a w :=
  wpList_plain hgd fun _ hK => wp_app s x t ho hs hx heq (hK _ _ h)
end
end Go.Proofs.Ytbbohjmkippigaa
