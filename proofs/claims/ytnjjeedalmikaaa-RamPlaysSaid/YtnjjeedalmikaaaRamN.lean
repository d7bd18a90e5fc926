/- The reference of layer 1: Check and Has; few. No condition but bounds on lengths. -/
import Derived.Test.YtnjjeedalmikaaaRamM
namespace Go.Proofs.Ytnjjeedalmikaaa
open Go.ChangeShapes Go.WideShapes Go.ChangeAt Go.RowKit
set_option linter.unusedVariables false
set_option linter.unusedSimpArgs false
/-! ### the argument told by pairs -/
theorem pcells_append : ∀ L M, pcells (L ++ M) = pcells L ++ pcells M
  | [], M => rfl
  | g :: r, M => by simp [pcells, pcells_append r M]
theorem rows_hs {w : World} {A : Option Addr} {len : Nat} (r : Rows_ w [.i .i64, .i .i64] A len) (h0 : 0 < len) : ∃ (hs : Hs) (b off : Nat), hs.length = len ∧ A = some ⟨b, off, none⟩ ∧ b < w.heap.size ∧ ∀ j u, (pcells hs)[j]? = some u → w.cell? ⟨b, off + j, none⟩ = some u := by
  obtain ⟨_, h2⟩ := r
  obtain ⟨b, off, R, hA, hb, hR⟩ := h2 h0
  have hp : ∀ i, i < len → ∃ g : Int × Int, R i = [.int .i64 g.1, .int .i64 g.2] := fun i hi => by
    obtain ⟨ok, _⟩ := hR i hi
    obtain ⟨_, r1, e, ⟨v0, rfl, _⟩, ok⟩ := ok
    obtain ⟨_, r2, rfl, ⟨v1, rfl, _⟩, ok⟩ := ok
    obtain rfl : r2 = [] := ok
    exact ⟨(v0, v1), e⟩
  obtain ⟨F, hF⟩ := Go.Deep.choose_lt hp
  refine ⟨(List.range len).map F, b, off, by simp, hA, hb, fun j u hj => ?_⟩
  have hlt : j < len * 2 := by
    have := (List.getElem?_eq_some_iff.1 hj).1
    rw [pcells_length] at this
    simpa using this
  have hi : j / 2 < len := by omega
  have hg : ((List.range len).map F)[j / 2]? = some (F (j / 2)) := by simp [hi]
  obtain ⟨e0, e1⟩ := pcells_at _ _ _ hg
  obtain ⟨_, hc⟩ := hR (j / 2) hi
  rw [hF (j / 2) hi] at hc
  by_cases hpar : j % 2 = 0
  · have ej : j = j / 2 * 2 := by omega
    rw [ej, e0] at hj
    have := hc 0 (by simp)
    rw [show off + j = off + j / 2 * [K.i .i64, K.i .i64].length + 0 by simp; omega, this]
    simpa using hj
  · have ej : j = j / 2 * 2 + 1 := by omega
    rw [ej, e1] at hj
    have := hc 1 (by simp)
    rw [show off + j = off + j / 2 * [K.i .i64, K.i .i64].length + 1 by simp; omega, this]
    simpa using hj
theorem append_none (w : World) (t ty e : TypeId) (i : TypeInfo) (ht : Try.prog.underlying t = some (.slice e)) (hi : Try.prog.info? e = some i) (b A : Option Addr) (n cap cap' : Nat) (h : n ≤ cap) :
    (Builtin.append_ #[t, t] ty #[.slice b n cap, .slice A 0 cap']).run Try.prog w = .ok (.slice b n cap) w := by
  have hst : ∀ (a : Addr) (w : World), (storeCells a []).run Try.prog w = .ok () w := fun a w => by simp [storeCells]
  have hld : ∀ (a : Addr) (w : World), (loadCells a 0).run Try.prog w = .ok #[] w := fun a w => run_loadCells_list (P := Try.prog) w a [] (fun j v hv => by simp at hv)
  cases b <;> cases A <;> simp [Builtin.append_, run_underlying ht, sizeOf, typeInfo, hi, Builtin.lenOf, Builtin.firstCells, h, hst, hld, Result.andThen]
/-- few's own row. -/
theorem few_laid {w : World} {A : Option Addr} {len : Nat} (r : Rows_ w [.i .i64, .i .i64] A len) (L cap : Nat) (hL : L ≤ len) (h70 : L ≤ 70) :
    ∃ v hs w', (Builtin.append_ #[34, 34] 34 #[.slice (some ⟨w.heap.size, 0, none⟩) 0 0, .slice A L cap]).run Try.prog (w.alloc (.cells #[] 33)) = .ok v w' ∧ HL w' w.heap.size v hs ∧ hs.length ≤ 70 ∧ Below w.heap.size w w' := by
  obtain ⟨i, hi, hz0, hz1, hz2⟩ := info_parts info33
  have o0 := World.ownsRow_lit (base := w.heap.size) (e := 33) (size := 2) w #[] 0 (Nat.le_refl _) (by simp [maxLen]) (by simp)
  have B0 : Below w.heap.size w (w.alloc (.cells #[] 33)) := (Below.refl w.heap.size w).alloc (Nat.le_refl _) _
  by_cases h0 : L = 0
  · subst h0
    exact ⟨_, [], _, append_none _ _ _ _ i under34 hi _ _ _ _ _ (Nat.le_refl _), o0, by simp, B0⟩
  · obtain ⟨hs, b, off, hlen, rfl, hb, hc⟩ := rows_hs r (by omega)
    have r0 : Rd w 2 (.slice (some ⟨b, off, none⟩) L cap) L (pcells (hs.take L)) := by
      refine ⟨by rw [pcells_length, List.length_take, Nat.min_eq_left (by omega)], .inr ⟨_, cap, rfl, fun j u hj => ?_⟩⟩
      have e : (⟨b, off, none⟩ : Addr).add j = ⟨b, off + j, none⟩ := by
        unfold Addr.add
        split
        · rename_i h; rw [h]; rfl
        · rfl
      rw [e]
      apply hc
      have ht : pcells hs = pcells (hs.take L) ++ pcells (hs.drop L) := by rw [← pcells_append, List.take_append_drop]
      rw [ht, List.getElem?_append_left (List.getElem?_eq_some_iff.1 hj).1]
      exact hj
    have r1 := r0.below B0
    obtain ⟨v1, w2, a1, o1, g1⟩ := run_app (P := Try.prog) w.heap.size 34 34 33 under34 hi hz0 hz1 hz2 rfl (by decide) o0 r1 (pcells_one _) (by simp [maxLen]; omega) (by omega) (by rw [World.size_alloc]; omega)
    rw [Nat.zero_add] at o1
    refine ⟨v1, hs.take L, w2, a1, ?_, by rw [List.length_take]; omega, Below.grown B0 g1 (by rw [World.size_alloc]; omega) (fun k e => by simp [Value.ownBlock] at e; omega)⟩
    unfold HL
    rw [List.length_take, Nat.min_eq_left (by omega)]
    exact o1
end Go.Proofs.Ytnjjeedalmikaaa
