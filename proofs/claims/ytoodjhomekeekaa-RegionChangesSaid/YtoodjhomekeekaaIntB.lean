/- Slices of ints: rows of one's own; one int more. No condition but bounds on lengths. (The head of XInts, for seats without slices.Index of ints.) -/
import Derived.Test.YtoodjhomekeekaaTch
import Derived.Test.YtoodjhomekeekaaApp2
import Derived.RegionTactic
import Derived.BigRegion
import Derived.Lib.Hide
import Derived.Deep.DeepCutAuto
namespace Go.Proofs.Ytoodjhomekeekaa
open Go.ChangeShapes Go.WideShapes Go.ChangeAt Go.RowKit
set_option linter.unusedVariables false
set_option linter.unusedSimpArgs false

abbrev ivs (l : List Int) : List Value := l.map (Value.int .i64)
theorem ivs_one (l : List Int) : ∀ u ∈ ivs l, u.oneCell' = true := by
  intro u hu
  obtain ⟨x, _, rfl⟩ := List.mem_map.1 hu
  rfl
/-- A list of ints of one's own. -/
def IRow (w : World) (base : Nat) (v : Value) (l : List Int) : Prop := w.ownsRow base 3 1 v l.length (ivs l)
theorem IRow.cell {w : World} {base : Nat} {v : Value} {l : List Int} (h : IRow w base v l) (k : Nat) (hk : k < l.length) :
    ∃ b cap, v = .slice (some ⟨b, 0, none⟩) l.length cap ∧ base ≤ b ∧ b < w.heap.size ∧ w.cell? ⟨b, k, none⟩ = some (.int .i64 l[k]) := by
  obtain ⟨b, cap, hv, hb, hbw, hc⟩ := row_cells h (by omega)
  refine ⟨b, cap, hv, hb, hbw, ?_⟩
  rw [hc k (by simpa using hk), List.getElem?_map, List.getElem?_eq_getElem hk]; rfl
theorem IRow.nil (w : World) (base : Nat) : IRow w base (.slice none 0 0) [] := World.ownsRow_nil _ _ _ _
/-- What can be read as a list of ints. -/
def IRd (w : World) (A : Option Addr) (l : List Int) : Prop := (A = none ∧ l = []) ∨ ∃ b off, A = some ⟨b, off, none⟩ ∧ b < w.heap.size ∧ ∀ k (hk : k < l.length), w.cell? ⟨b, off + k, none⟩ = some (.int .i64 l[k])
theorem IRow.rd {w : World} {base : Nat} {A : Option Addr} {n cap : Nat} {l : List Int} (h : IRow w base (.slice A n cap) l) : IRd w A l := by
  by_cases h0 : 0 < l.length
  · obtain ⟨b, cap', hv, _, hb, _⟩ := h.cell 0 h0
    simp only [Value.slice.injEq] at hv
    refine .inr ⟨b, 0, hv.1, hb, fun k hk => ?_⟩
    obtain ⟨b', cap2, hv', _, _, hc⟩ := h.cell k hk
    rw [hv.1] at hv'
    simp only [Value.slice.injEq, Option.some.injEq, Addr.mk.injEq] at hv'
    rw [Nat.zero_add, hv'.1.1]; exact hc
  · have hl : l = [] := List.eq_nil_of_length_eq_zero (by omega)
    subst hl
    rcases h.2 with ⟨hv, _⟩ | ⟨b, cap', cur, hv, hb, hg, _⟩
    · simp only [Value.slice.injEq] at hv
      exact .inl ⟨hv.1, rfl⟩
    · simp only [Value.slice.injEq] at hv
      exact .inr ⟨b, 0, hv.1, heap_lt hg, fun k hk => by simp at hk⟩
theorem IRd.below {w w' : World} {A : Option Addr} {l : List Int} (h : IRd w A l) (hb : Below w.heap.size w w') : IRd w' A l := by
  rcases h with h | ⟨b, off, hA, hlt, hc⟩
  · exact .inl h
  · exact .inr ⟨b, off, hA, Nat.lt_of_lt_of_le hlt hb.size, fun k hk => (hb.cell (p := ⟨b, off + k, none⟩) hlt).trans (hc k hk)⟩
theorem IRd.touch {w w' : World} {S : Nat → Prop} {A : Option Addr} {l : List Int} (h : IRd w A l) (ht : Touch S w w') (hS : ∀ b off, A = some ⟨b, off, none⟩ → ¬ S b) : IRd w' A l := by
  rcases h with h | ⟨b, off, hA, hlt, hc⟩
  · exact .inl h
  · exact .inr ⟨b, off, hA, Nat.lt_of_lt_of_le hlt ht.size, fun k hk => (World.cell?_of_block (ht.block b hlt (hS b off hA))).trans (hc k hk)⟩
theorem IRd.rdl {w : World} {A : Option Addr} {n cap : Nat} {l : List Int} (h : IRd w A l) (hn : n = l.length) (hc : A = none → cap = 0) : Rd w 1 (.slice A n cap) n (ivs l) := by
  refine ⟨by simp [hn], ?_⟩
  rcases h with ⟨rfl, rfl⟩ | ⟨b, off, rfl, hlt, h⟩
  · left; rw [hc rfl, hn]; exact ⟨rfl, rfl⟩
  · right
    refine ⟨_, cap, rfl, fun j u hj => ?_⟩
    have hjl : j < l.length := by
      have := (List.getElem?_eq_some_iff.1 hj).1
      simpa using this
    rw [List.getElem?_map, List.getElem?_eq_getElem hjl] at hj
    simp only [Option.map_some, Option.some.injEq] at hj
    rw [← hj, ← h j hjl]
    congr 1
    unfold Addr.add
    split <;> simp_all
theorem under31 : Try.prog.underlying 69 = some (.slice 3) := by kernel_rfl
theorem info3 : (Try.prog.info? 3).map (fun i => (i.zero, i.size, i.bytes)) = some (some (.int .i64 0), 1, 8) := by kernel_rfl
/-- An append of one int, inside a region. -/
theorem wp_app_int {base : Nat} {o : Oper} {a : Act} {w : World} {K : Act → World → Prop} {Q : Exit → Act → World → Prop} (s x : Operand) (ho : o.op = .call { callee := .builtin .append, args := #[s, x], argTypes := #[69, 69] })
    {v xv : Value} {l : List Int} {u : Int} (hs : a.eval s = v) (hx : a.eval x = xv) (hown : IRow w base v l) (hrd : Rd w 1 xv 1 [.int .i64 u]) (hl : l.length ≤ 1000) (hbase : base ≤ w.heap.size)
    (h : ∀ A c w', IRow w' base (.slice A (l.length + 1) c) (l ++ [u]) → w.grownBy w' v.ownBlock → K (a.put o.dst (.slice A (l.length + 1) c)) w') : o.wp Try.prog a w K Q := by
  obtain ⟨i0, hi, hz0, hz1, hz2⟩ := info_parts info3
  obtain ⟨v2, w3, a2, o2, g2⟩ := run_app (P := Try.prog) base 69 o.type 3 under31 hi hz0 hz1 hz2 rfl (by decide) hown hrd (by simp [Value.oneCell']) (by unfold maxLen; omega) (by omega) hbase
  obtain ⟨A2, c2, rfl⟩ := row_form o2
  refine wp_app s x 69 ho hs hx a2 (h A2 c2 w3 ?_ g2)
  unfold IRow
  rw [List.length_append, ivs, List.map_append]
  exact o2
end Go.Proofs.Ytoodjhomekeekaa
