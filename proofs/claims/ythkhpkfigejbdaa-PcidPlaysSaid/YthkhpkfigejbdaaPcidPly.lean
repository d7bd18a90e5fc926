/- Layer 11: the list of the reference beside the two maps: what ties them, and that every step keeps it. -/
import Derived.Test.YthkhpkfigejbdaaPcidRefD
import Derived.Test.YthkhpkfigejbdaaPcidKeeps
namespace Go.Proofs.Ythkhpkfigejbdaa
open Go.ChangeShapes Go.WideShapes Go.ChangeAt Go.RowKit
open Go.ChangeMaps (setBlock heap_setBlock_same heap_setBlock_other)
set_option linter.unusedVariables false
set_option linter.unusedSimpArgs false

structure Ply (st : St) (L : List (Int × Bool)) : Prop where
  next : st.next = L.length + 1
  at_ : ∀ (i : Nat) (g : Int × Bool), L[i]? = some g → kget st.O (i + 1) = if g.2 then some g.1 else none
theorem find_spec : ∀ (L : List (Int × Bool)) (s : Int) (i : Nat),
    (∃ (j : Nat) (g : Int × Bool), L[j]? = some g ∧ g.2 = true ∧ g.1 = s ∧ findL L s i = i + j + 1) ∨ (findL L s i = 0 ∧ ∀ (j : Nat) (g : Int × Bool), L[j]? = some g → ¬ (g.2 = true ∧ g.1 = s))
  | [], s, i => .inr ⟨rfl, fun j g h => by simp at h⟩
  | g :: r, s, i => by
    by_cases h : g.2 = true ∧ g.1 = s
    · exact .inl ⟨0, g, rfl, h.1, h.2, by unfold findL; simp [h.1, h.2]⟩
    · have hf : findL (g :: r) s i = findL r s (i + 1) := by
        conv => lhs; unfold findL
        rw [if_neg (by simpa using h)]
      rw [hf]
      rcases find_spec r s (i + 1) with ⟨j, g', h1, h2, h3, h4⟩ | ⟨h1, h2⟩
      · exact .inl ⟨j + 1, g', h1, h2, h3, by rw [h4]; omega⟩
      · refine .inr ⟨h1, fun j g' hj => ?_⟩
        cases j with
        | zero => simp at hj; subst hj; exact h
        | succ j => exact h2 j g' (by simpa using hj)
theorem Ply.find {most : Int} {st : St} {L : List (Int × Bool)} (h : Ply st L) (hi : Inv most st) (s : Int) : findL L s 0 = (kget st.T s).getD 0 := by
  rcases find_spec L s 0 with ⟨j, g, h1, h2, h3, h4⟩ | ⟨h1, h2⟩
  · have := h.at_ j g h1
    rw [h2, h3] at this
    have ht := (hi.inv s ((j : Int) + 1)).2 (by simpa using this)
    rw [h4, ht]; simp
  · rw [h1]
    cases hs : kget st.T s with
    | none => rfl
    | some x =>
      exfalso
      obtain ⟨r1, r2⟩ := hi.range hs
      have ho := (hi.inv s x).1 hs
      have hn := h.next
      obtain ⟨j, hj⟩ : ∃ j : Nat, x = (j : Int) + 1 := ⟨(x - 1).toNat, by omega⟩
      have hlt : j < L.length := by omega
      have ha := h.at_ j L[j] (List.getElem?_eq_getElem hlt)
      rw [← hj, ho] at ha
      split at ha
      · rename_i hq; exact h2 j L[j] (List.getElem?_eq_getElem hlt) ⟨hq, (Option.some.inj ha).symm⟩
      · cases ha
theorem Ply.zero : Ply st0 [] := ⟨rfl, fun i g h => by simp at h⟩
theorem Ply.over (gen s : Int) : Ply ⟨2, gen, [(1, s)], [(s, 1)]⟩ [(s, true)] := by
  refine ⟨rfl, fun i g h => ?_⟩
  cases i with
  | zero => simp at h; subst h; simp [kget]
  | succ i => simp at h
theorem Ply.new {st : St} {L : List (Int × Bool)} (h : Ply st L) (s : Int) (T : List (Int × Int)) : Ply ⟨st.next + 1, st.gen, kput st.O st.next s, T⟩ (L ++ [(s, true)]) := by
  have hn := h.next
  refine ⟨by show st.next + 1 = _; rw [hn]; simp, fun i g hg => ?_⟩
  show kget (kput st.O st.next s) ((i : Int) + 1) = _
  rw [kget_put]
  by_cases hi : i < L.length
  · rw [if_neg (by omega)]
    rw [List.getElem?_append_left hi] at hg
    exact h.at_ i g hg
  · rw [List.getElem?_append_right (by omega)] at hg
    have : i - L.length = 0 := by
      apply Classical.byContradiction
      intro hne
      rw [List.getElem?_eq_none (by simp; omega)] at hg; cases hg
    rw [this] at hg
    simp at hg
    subst hg
    rw [if_pos (by omega)]; rfl
theorem Ply.drop {most : Int} {st : St} {L : List (Int × Bool)} (h : Ply st L) (hi : Inv most st) (s : Int) : Ply (dropSt st s) (dropL L s) := by
  have key : ∀ (i : Nat) (g : Int × Bool), L[i]? = some g → g.2 = true → g.1 = s → kget st.T s = some ((i : Int) + 1) := by
    intro i g hg h1 h2
    have := h.at_ i g hg
    rw [h1, h2] at this
    exact (hi.inv s _).2 (by simpa using this)
  unfold dropSt
  cases hs : kget st.T s with
  | none =>
    refine ⟨by rw [h.next]; simp [dropL], fun i g hg => ?_⟩
    unfold dropL at hg
    rw [List.getElem?_map, Option.map_eq_some_iff] at hg
    obtain ⟨g0, h0, rfl⟩ := hg
    rw [h.at_ i g0 h0]
    by_cases he : g0.1 = s
    · rw [if_pos he]
      cases h2 : g0.2 with
      | false => rfl
      | true => have := key i g0 h0 h2 he; rw [hs] at this; cases this
    · rw [if_neg he]
  | some x =>
    refine ⟨by show st.next = _; rw [h.next]; simp [dropL], fun i g hg => ?_⟩
    show kget (kdel st.O x) ((i : Int) + 1) = _
    unfold dropL at hg
    rw [List.getElem?_map, Option.map_eq_some_iff] at hg
    obtain ⟨g0, h0, rfl⟩ := hg
    rw [kget_del _ hi.nodO, h.at_ i g0 h0]
    have ho := (hi.inv s x).1 hs
    by_cases he : g0.1 = s
    · rw [if_pos he]
      cases h2 : g0.2 with
      | false => simp
      | true =>
        have := key i g0 h0 h2 he
        rw [hs] at this
        have := Option.some.inj this
        simp [this]
    · rw [if_neg he]
      by_cases hx : (i : Int) + 1 = x
      · exfalso
        have ha := h.at_ i g0 h0
        rw [hx, ho] at ha
        split at ha
        · exact he (Option.some.inj ha).symm
        · cases ha
      · rw [if_neg hx]
theorem rGet_q {w : World} {base : Nat} {v : Value} {L : List (Int × Bool)} {most : Int} {st : St} (h : GL w base v L) (hb : base ≤ w.heap.size) (hp : Ply st L) (hi : Inv most st) (hm : most ≤ 4095) (hg0 : 0 ≤ st.gen) (hg1 : st.gen < 4611686018427387904) (s : Int) :
    Calls Try.prog 16 #[.agg #[.int .i64 most, .int .i64 st.gen, v], .int .i64 s] w fun e w' => ∃ v' L', e = .returned (.tuple #[.agg #[.int .i64 most, .int .i64 (getSt most st s).1.gen, v'], .int .i64 (getSt most st s).2.1, .bool (getSt most st s).2.2]) ∧ Below w.heap.size w w' ∧ GL w' base v' L' ∧ Ply (getSt most st s).1 L' := by
  have hf := hp.find hi s
  have hn := hp.next
  have hn1 := hi.next1
  cases hs : kget st.T s with
  | some x =>
    have e : getSt most st s = (st, x, false) := by unfold getSt; rw [hs]
    rw [hs] at hf
    rw [e]
    refine (rGet_have h (by omega) most st.gen s x hf (by have := hi.range hs; omega)).mono ?_
    rintro e w' ⟨rfl, hB⟩
    exact ⟨v, L, rfl, hB, h.below hB, hp⟩
  | none =>
    rw [hs] at hf
    by_cases hlt : most < st.next
    · have e : getSt most st s = (⟨2, st.gen + 1, [(1, s)], [(s, 1)]⟩, 1, true) := by unfold getSt; rw [hs]; simp [hlt]
      rw [e]
      refine (rGet_over h hb (by omega) most st.gen s hf (by omega) hg0 hg1).mono ?_
      rintro e w' ⟨v', rfl, hB, hG⟩
      exact ⟨v', _, rfl, hB, hG, Ply.over _ s⟩
    · have e : getSt most st s = (⟨st.next + 1, st.gen, kput st.O st.next s, kput st.T s st.next⟩, st.next, false) := by unfold getSt; rw [hs]; simp [hlt]
      rw [e]
      refine (rGet_new h hb (by omega) most st.gen s hf (by omega)).mono ?_
      rintro e w' ⟨v', rfl, hB, hG⟩
      exact ⟨v', _, by rw [hn], hB, hG, hp.new s _⟩
/-- Blocks of other types are not touched. -/
theorem Q.typed {w : World} {p : Nat} {A : Nat → Prop} {most : Int} {st : St} (h : Q w p A most st) : Q w p (fun k => A k ∧ ∀ cs t fr, w.heap[k]? = some (.cells cs t fr) → t = 51) most st := by
  obtain ⟨mo, mt, h1, a1, a2, a3⟩ := h
  refine ⟨mo, mt, h1, ⟨a1, fun cs t fr e => ?_⟩, ⟨a2, fun cs t fr e => ?_⟩, ⟨a3, fun cs t fr e => ?_⟩⟩
  · rw [h1.cells] at e; simp at e; exact e.2.1.symm
  · obtain ⟨es, c, h2, _⟩ := h1.own; rw [h2] at e; cases e
  · obtain ⟨es, c, h2, _⟩ := h1.tag; rw [h2] at e; cases e
theorem GL.touch {S : Nat → Prop} {w w' : World} {base : Nat} {v : Value} {L : List (Int × Bool)} (h : GL w base v L) (ht : Touch S w w') (hS : ∀ g cs, w.heap[g]? = some (.cells cs 48 (0, 0)) → ¬ S g) : GL w' base v L := by
  refine ⟨h.1, ?_⟩
  rcases h.2 with h1 | ⟨g, cap, cur, h1, h2, hg, h3⟩
  · exact .inl h1
  · exact .inr ⟨g, cap, cur, h1, h2, ht.heap hg (hS g cur hg), h3⟩
theorem GL.other {w : World} {base : Nat} {v : Value} {L : List (Int × Bool)} (h : GL w base v L) {X : Nat} {cs : Array Value} {t : TypeId} {fr : Nat × Nat} (hX : w.heap[X]? = some (.cells cs t fr)) (ht : t ≠ 48) (o : Nat) (u : Value) : GL (w.setCell ⟨X, o, none⟩ u) base v L := by
  refine ⟨h.1, ?_⟩
  rcases h.2 with h1 | ⟨g, cap, cur, h1, h2, hg, h3⟩
  · exact .inl h1
  · refine .inr ⟨g, cap, cur, h1, h2, heap_far hg (fun e => ?_) u, h3⟩
    have e' : g = X := e
    subst e'
    rw [hX] at hg
    simp at hg
    exact ht hg.2.1
end Go.Proofs.Ythkhpkfigejbdaa
