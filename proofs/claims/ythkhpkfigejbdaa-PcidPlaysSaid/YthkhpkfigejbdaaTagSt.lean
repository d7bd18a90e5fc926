/- The package pcid (layer 11) as a plain state machine: what get and drop do to the numbers and the two lists, what stays true of them; the calls told by it; and the page's fixed answers (awake). No condition but the branch's. -/
import Derived.Test.YthkhpkfigejbdaaTags
namespace Go.Proofs.Ythkhpkfigejbdaa
open Go.ChangeShapes Go.WideShapes Go.ChangeAt Go.RowKit
open Go.ChangeMaps (setBlock heap_setBlock_same heap_setBlock_other)
set_option linter.unusedVariables false
set_option linter.unusedSimpArgs false

structure St where
  next : Int
  gen : Int
  O : List (Int × Int)
  T : List (Int × Int)
def st0 : St := ⟨1, 0, [], []⟩
def getSt (most : Int) (st : St) (s : Int) : St × Int × Bool := match kget st.T s with
  | some x => (st, x, false)
  | none => if most < st.next then (⟨2, st.gen + 1, [(1, s)], [(s, 1)]⟩, 1, true) else (⟨st.next + 1, st.gen, kput st.O st.next s, kput st.T s st.next⟩, st.next, false)
def dropSt (st : St) (s : Int) : St := match kget st.T s with
  | some x => { st with O := kdel st.O x, T := kdel st.T s }
  | none => st
/-- What stays true. -/
structure Inv (most : Int) (st : St) : Prop where
  next0 : 1 ≤ st.next
  next1 : st.next ≤ most + 1
  low : ∀ x ∈ keys st.O, 1 ≤ x ∧ x < st.next
  nodO : (keys st.O).Nodup
  nodT : (keys st.T).Nodup
  inv : ∀ s x, kget st.T s = some x ↔ kget st.O x = some s
theorem Inv.zero {most : Int} (h : 1 ≤ most) : Inv most st0 := by
  refine ⟨?_, ?_, ?_, ?_, ?_, ?_⟩ <;> simp [st0, keys, kget]
  omega
theorem kget_keys {α : Type} {l : List (Int × α)} {k : Int} {v : α} (h : kget l k = some v) : k ∈ keys l := by
  apply Classical.byContradiction
  intro hn
  rw [(kget_none_iff l k).2 hn] at h; cases h
theorem Inv.range {most : Int} {st : St} (h : Inv most st) {s x : Int} (hx : kget st.T s = some x) : 1 ≤ x ∧ x < st.next := h.low x (kget_keys ((h.inv s x).1 hx))
theorem Inv.free {most : Int} {st : St} (h : Inv most st) : kget st.O st.next = none := (kget_none_iff _ _).2 fun hm => by have := h.low _ hm; omega
theorem mem_keys_put {l : List (Int × Int)} {k v j : Int} (h : j ∈ keys (kput l k v)) : j = k ∨ j ∈ keys l := by
  rw [keys_put] at h
  split at h
  · exact .inr h
  · rcases List.mem_append.1 h with h | h
    · exact .inr h
    · exact .inl (by simpa using h)
theorem mem_keys_del {l : List (Int × Int)} {k j : Int} (h : j ∈ keys (kdel l k)) : j ∈ keys l := by
  induction l with
  | nil => exact h
  | cons p r ih =>
    obtain ⟨a, u⟩ := p
    unfold kdel at h
    split at h
    · exact List.mem_cons_of_mem _ h
    · rcases List.mem_cons.1 h with h | h
      · exact h ▸ List.mem_cons_self
      · exact List.mem_cons_of_mem _ (ih h)
theorem Inv.get {most : Int} {st : St} (h : Inv most st) (hm : 1 ≤ most) (s : Int) : Inv most (getSt most st s).1 := by
  unfold getSt
  split
  · exact h
  · rename_i hs
    split
    · refine ⟨by show (1 : Int) ≤ 2; omega, by show (2 : Int) ≤ most + 1; omega, ?_, ?_, ?_, ?_⟩
      · intro x hx
        have : x = 1 := by simpa [keys] using hx
        subst this; exact ⟨by omega, by show (1 : Int) < 2; omega⟩
      · simp [keys]
      · simp [keys]
      · intro s' x
        show kget [(s, 1)] s' = some x ↔ kget [(1, s)] x = some s'
        unfold kget kget
        by_cases h1 : s' = s
        · subst h1
          by_cases h2 : x = 1
          · subst h2; simp
          · simp [h2, kget, Ne.symm h2]
        · by_cases h2 : x = 1
          · subst h2; simp [h1, kget, Ne.symm h1]
          · simp [h1, h2, kget]
    · rename_i hle
      have hf := h.free
      have h0 := h.next0
      refine ⟨by show 1 ≤ st.next + 1; omega, by show st.next + 1 ≤ most + 1; omega, ?_, nodup_put _ _ _ h.nodO, nodup_put _ _ _ h.nodT, ?_⟩
      · intro x hx
        show 1 ≤ x ∧ x < st.next + 1
        rcases mem_keys_put hx with rfl | hx
        · omega
        · have := h.low x hx; omega
      · intro s' x
        show kget (kput st.T s st.next) s' = some x ↔ kget (kput st.O st.next s) x = some s'
        rw [kget_put, kget_put]
        by_cases h1 : s' = s
        · subst h1
          rw [if_pos rfl]
          by_cases h2 : x = st.next
          · subst h2; simp
          · rw [if_neg h2]
            constructor
            · intro e; exact absurd (Option.some.inj e).symm h2
            · intro e; rw [(h.inv s' x).2 e] at hs; cases hs
        · rw [if_neg h1]
          by_cases h2 : x = st.next
          · subst h2
            rw [if_pos rfl]
            constructor
            · intro e; rw [(h.inv s' st.next).1 e] at hf; cases hf
            · intro e; exact absurd (Option.some.inj e).symm h1
          · rw [if_neg h2]; exact h.inv s' x
theorem Inv.drop {most : Int} {st : St} (h : Inv most st) (s : Int) : Inv most (dropSt st s) := by
  unfold dropSt
  split
  · rename_i x hx
    refine ⟨h.next0, h.next1, fun y hy => h.low y (mem_keys_del hy), nodup_del _ _ h.nodO, nodup_del _ _ h.nodT, ?_⟩
    intro s' y
    show kget (kdel st.T s) s' = some y ↔ kget (kdel st.O x) y = some s'
    rw [kget_del _ h.nodT, kget_del _ h.nodO]
    by_cases h1 : s' = s
    · subst h1
      rw [if_pos rfl]
      by_cases h2 : y = x
      · subst h2; simp
      · rw [if_neg h2]
        constructor
        · intro e; cases e
        · intro e
          have := (h.inv s' y).2 e
          rw [hx] at this
          exact absurd (Option.some.inj this).symm h2
    · rw [if_neg h1]
      by_cases h2 : y = x
      · subst h2
        rw [if_pos rfl]
        constructor
        · intro e
          have e1 := (h.inv s' y).1 e
          rw [(h.inv s y).1 hx] at e1
          exact absurd (Option.some.inj e1).symm h1
        · intro e; cases e
      · rw [if_neg h2]; exact h.inv s' y
  · exact h

/-- There is such an object, within the blocks A. -/
def Q (w : World) (p : Nat) (A : Nat → Prop) (most : Int) (st : St) : Prop :=
  ∃ mo mt, TagsAt w p mo mt most st.next st.gen st.O st.T ∧ A p ∧ A mo ∧ A mt
theorem Q.mono {w : World} {p : Nat} {A A' : Nat → Prop} {most : Int} {st : St} (h : Q w p A most st) (hA : ∀ k, A k → k < w.heap.size → A' k) : Q w p A' most st := by
  obtain ⟨mo, mt, h1, a1, a2, a3⟩ := h
  exact ⟨mo, mt, h1, hA _ a1 (heap_lt h1.cells), hA _ a2 h1.own.lt, hA _ a3 h1.tag.lt⟩
theorem Q.touch {w w' : World} {p : Nat} {A S : Nat → Prop} {most : Int} {st : St} (h : Q w p A most st) (ht : Touch S w w') (hA : ∀ k, A k → ¬ S k) : Q w' p A most st := by
  obtain ⟨mo, mt, h1, a1, a2, a3⟩ := h
  exact ⟨mo, mt, h1.touch ht (hA _ a1) (hA _ a2) (hA _ a3), a1, a2, a3⟩
theorem Q.below {w w' : World} {p : Nat} {A : Nat → Prop} {most : Int} {st : St} (h : Q w p A most st) (hb : Below w.heap.size w w') : Q w' p A most st := by
  obtain ⟨mo, mt, h1, a⟩ := h
  exact ⟨mo, mt, h1.below hb, a⟩
section
variable {w : World} {p : Nat} {A : Nat → Prop} {most : Int} {st : St}
theorem get_q (h : Q w p A most st) (hi : Inv most st) (hm : 1 ≤ most) (hm2 : most ≤ 4095) (hg : 0 ≤ st.gen) (hg2 : st.gen < 4611686018427387904) (s : Int) :
    Calls Try.prog 10 #[.pointer (some ⟨p, 0, none⟩), .int .i64 s] w fun e w' => e = .returned (.tuple #[.int .i64 (getSt most st s).2.1, .bool (getSt most st s).2.2]) ∧ Touch A w w' ∧ Q w' p (fun k => A k ∨ w.heap.size ≤ k) most (getSt most st s).1 := by
  obtain ⟨mo, mt, h1, a1, a2, a3⟩ := h
  have h0 := hi.next0
  have hn := hi.next1
  cases hs : kget st.T s with
  | some x =>
    have e : getSt most st s = (st, x, false) := by unfold getSt; rw [hs]
    rw [e]
    refine (get_have w h1 s x hs).mono ?_
    rintro e w' ⟨rfl, rfl⟩
    exact ⟨rfl, Touch.refl _ _, mo, mt, h1, .inl a1, .inl a2, .inl a3⟩
  | none =>
    by_cases hlt : most < st.next
    · have e : getSt most st s = (⟨2, st.gen + 1, [(1, s)], [(s, 1)]⟩, 1, true) := by unfold getSt; rw [hs]; simp [hlt]
      rw [e]
      refine (get_over w h1 s hs hlt hm hg hg2).mono ?_
      rintro e w' ⟨rfl, ht, h2⟩
      exact ⟨rfl, ht.mono (by rintro k rfl; exact a1), _, _, h2, .inl a1, .inr (Nat.le_refl _), .inr (Nat.le_succ _)⟩
    · have e : getSt most st s = (⟨st.next + 1, st.gen, kput st.O st.next s, kput st.T s st.next⟩, st.next, false) := by unfold getSt; rw [hs]; simp [hlt]
      rw [e]
      refine (get_new w h1 s hs hi.free (by omega) (by omega) (by omega)).mono ?_
      rintro e w' ⟨rfl, ht, h2⟩
      exact ⟨rfl, ht.mono (by rintro k (rfl | rfl | rfl) <;> assumption), _, _, h2, .inl a1, .inl a2, .inl a3⟩
theorem drop_q (h : Q w p A most st) (s : Int) :
    Calls Try.prog 13 #[.pointer (some ⟨p, 0, none⟩), .int .i64 s] w fun e w' => e = .returned (.tuple #[]) ∧ Touch A w w' ∧ Q w' p A most (dropSt st s) := by
  obtain ⟨mo, mt, h1, a1, a2, a3⟩ := h
  cases hs : kget st.T s with
  | some x =>
    have e : dropSt st s = { st with O := kdel st.O x, T := kdel st.T s } := by unfold dropSt; rw [hs]
    rw [e]
    refine (drop_some w h1 s x hs).mono ?_
    rintro e w' ⟨rfl, ht, h2⟩
    exact ⟨rfl, ht.mono (by rintro k (rfl | rfl) <;> assumption), _, _, h2, a1, a2, a3⟩
  | none =>
    have e : dropSt st s = st := by unfold dropSt; rw [hs]
    rw [e]
    refine (drop_none w h1 s hs).mono ?_
    rintro e w' ⟨rfl, rfl⟩
    exact ⟨rfl, Touch.refl _ _, _, _, h1, a1, a2, a3⟩
theorem tag_q (h : Q w p A most st) (s : Int) :
    Calls Try.prog 14 #[.pointer (some ⟨p, 0, none⟩), .int .i64 s] w fun e w' => e = .returned (.tuple #[.int .i64 ((kget st.T s).getD 0), .bool (kget st.T s).isSome]) ∧ w' = w := by
  obtain ⟨mo, mt, h1, _⟩ := h
  exact tag_any w h1 s
theorem owner_q (h : Q w p A most st) (s : Int) :
    Calls Try.prog 12 #[.pointer (some ⟨p, 0, none⟩), .int .i64 s] w fun e w' => e = .returned (.tuple #[.int .i64 ((kget st.O s).getD 0), .bool (kget st.O s).isSome]) ∧ w' = w := by
  obtain ⟨mo, mt, h1, _⟩ := h
  exact owner_any w h1 s
theorem generation_q (h : Q w p A most st) :
    Calls Try.prog 11 #[.pointer (some ⟨p, 0, none⟩)] w fun e w' => e = .returned (.int .i64 st.gen) ∧ w' = w := by
  obtain ⟨mo, mt, h1, _⟩ := h
  exact generation_any w h1
end
theorem new_q (most : Int) (h1 : 1 ≤ most) (h2 : most ≤ 4095) (w : World) :
    Calls Try.prog 8 #[.int .i64 most] w fun e w' => ∃ p, e = .returned (.tuple #[.pointer (some ⟨p, 0, none⟩), .int .i64 0]) ∧ Below w.heap.size w w' ∧ Q w' p (fun k => w.heap.size ≤ k) most st0 := by
  refine (new_ok most h1 h2 w).mono ?_
  rintro e w' ⟨p, he, hb, hp, h⟩
  exact ⟨p, he, hb, _, _, h, hp, by omega, by omega⟩
/-- A get among blocks that are all new. -/
theorem get_step {w0 w : World} {p : Nat} {most : Int} {st st' : St} {x : Int} {over : Bool} (hb : Below w0.heap.size w0 w) (h : Q w p (fun k => w0.heap.size ≤ k) most st) (hi : Inv most st) (hm : 1 ≤ most) (hm2 : most ≤ 4095) (hg : 0 ≤ st.gen) (hg2 : st.gen < 4611686018427387904) (s : Int) (e : getSt most st s = (st', x, over)) :
    Calls Try.prog 10 #[.pointer (some ⟨p, 0, none⟩), .int .i64 s] w fun e w' => e = .returned (.tuple #[.int .i64 x, .bool over]) ∧ Below w0.heap.size w0 w' ∧ Q w' p (fun k => w0.heap.size ≤ k) most st' ∧ Inv most st' := by
  refine (get_q h hi hm hm2 hg hg2 s).mono ?_
  have hi' := hi.get hm s
  rw [e] at hi' ⊢
  rintro e w' ⟨rfl, ht, hq⟩
  exact ⟨rfl, Below.touch hb ht (Nat.le_refl _) (fun _ h => h), hq.mono (fun k h _ => h.elim id (fun h => Nat.le_trans hb.size h)), hi'⟩
theorem drop_step {w0 w : World} {p : Nat} {most : Int} {st : St} (hb : Below w0.heap.size w0 w) (h : Q w p (fun k => w0.heap.size ≤ k) most st) (hi : Inv most st) (s : Int) :
    Calls Try.prog 13 #[.pointer (some ⟨p, 0, none⟩), .int .i64 s] w fun e w' => e = .returned (.tuple #[]) ∧ Below w0.heap.size w0 w' ∧ Q w' p (fun k => w0.heap.size ≤ k) most (dropSt st s) ∧ Inv most (dropSt st s) := by
  refine (drop_q h s).mono ?_
  rintro e w' ⟨rfl, ht, hq⟩
  exact ⟨rfl, Below.touch hb ht (Nat.le_refl _) (fun _ h => h), hq, hi.drop s⟩
set_option maxHeartbeats 1000000 in
theorem awake_true (w : World) : Calls Try.prog 9 #[] w fun e w' => e = .returned (.bool true) ∧ Below w.heap.size w w' := by
  go_enter Try.func9, Try.ntmps9
  go_wp2_with fail
  refine (new_q 2 (by omega) (by omega) _).mono ?_
  rintro e w1 ⟨p, rfl, hb1, hq1⟩
  go_wp2_with fail
  refine (get_step hb1 hq1 (Inv.zero (by omega)) (by omega) (by omega) (by simp [st0]) (by simp [st0]) 7 (st' := ⟨2, 0, [(1, 7)], [(7, 1)]⟩) rfl).mono ?_
  rintro e w2 ⟨rfl, hb2, hq2, hi2⟩
  go_wp2_with fail
  refine (get_step hb2 hq2 hi2 (by omega) (by omega) (by simp) (by simp) 8 (st' := ⟨3, 0, [(1, 7), (2, 8)], [(7, 1), (8, 2)]⟩) rfl).mono ?_
  rintro e w3 ⟨rfl, hb3, hq3, hi3⟩
  go_wp2_with fail
  refine (get_step hb3 hq3 hi3 (by omega) (by omega) (by simp) (by simp) 9 (st' := ⟨2, 1, [(1, 9)], [(9, 1)]⟩) rfl).mono ?_
  rintro e w4 ⟨rfl, hb4, hq4, hi4⟩
  go_wp2_with fail
  refine (generation_q hq4).mono ?_
  rintro e w5 ⟨rfl, rfl⟩
  go_wp2
  go_returns
  exact ⟨rfl, hb4⟩
end Go.Proofs.Ythkhpkfigejbdaa
