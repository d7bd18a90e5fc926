/- Plain laws of layer 5: what holds of the sixteen places behind any calls; the document's list is what they say. No program. No condition. -/
import Derived.Test.YthnojhldpbjkoaaTlbD
namespace Go.Proofs.Ythnojhldpbjkoaa
open Go.ChangeShapes Go.WideShapes Go.ChangeAt Go.RowKit
set_option linter.unusedVariables false
set_option linter.unusedSimpArgs false

structure Inv (L : List Ln) : Prop where
  len : L.length = 16
  set : ∀ j, j < 16 → (at_ L j).v = true → setOf (at_ L j).page = j / 2 ∧ 0 ≤ (at_ L j).page
  uniq : ∀ i j, i < 16 → j < 16 → i ≠ j → (at_ L i).v = true → (at_ L j).v = true → (at_ L i).page = (at_ L j).page → (at_ L i).tag ≠ (at_ L j).tag ∧ (at_ L i).gl = false ∧ (at_ L j).gl = false
theorem Inv.zero : Inv zeroL := ⟨zeroL_len, fun j _ h => (by rw [zeroL_at] at h; cases h), fun i j _ _ _ h => (by rw [zeroL_at] at h; cases h)⟩
theorem Inv.sub {L L' : List Ln} (h : Inv L) (hl : L'.length = 16) (hs : ∀ j, j < 16 → at_ L' j = zln ∨ at_ L' j = at_ L j) : Inv L' := by
  have key : ∀ j, j < 16 → (at_ L' j).v = true → at_ L' j = at_ L j := by
    intro j hj hv
    rcases hs j hj with e | e
    · rw [e] at hv; cases hv
    · exact e
  refine ⟨hl, fun j hj hv => ?_, fun i j hi hj hne hvi hvj hp => ?_⟩
  · have e := key j hj hv
    rw [e] at hv ⊢
    exact h.set j hj hv
  · have e1 := key i hi hvi
    have e2 := key j hj hvj
    rw [e1] at hvi hp ⊢
    rw [e2] at hvj hp ⊢
    exact h.uniq i j hi hj hne hvi hvj hp
theorem at_dropT (f : Ln → Bool) (L : List Ln) (j : Nat) (hj : j < L.length) : at_ (dropT f L) j = if f (at_ L j) then zln else at_ L j := by
  unfold at_ dropT
  rw [List.getD_eq_getElem?_getD, List.getElem?_map, List.getElem?_eq_getElem hj, List.getD_eq_getElem?_getD, List.getElem?_eq_getElem hj]
  rfl
theorem Inv.drop {L : List Ln} (h : Inv L) (f : Ln → Bool) : Inv (dropT f L) :=
  h.sub (by rw [dropT_length]; exact h.len) fun j hj => by
    rw [at_dropT f L j (by rw [h.len]; exact hj)]
    split
    · exact .inl rfl
    · exact .inr rfl
theorem Inv.evict {L : List Ln} (h : Inv L) (k : Nat) (hk : k < 16) : Inv (L.set k zln) :=
  h.sub (by rw [List.length_set]; exact h.len) fun j hj => by
    rw [at_set (by rw [h.len]; exact hk)]
    split
    · exact .inl rfl
    · exact .inr rfl
theorem clrB_spec {l x : Ln} (hv : x.v = true) (hp : x.page = l.page) (hc : clrB l x = false) : x.tag ≠ l.tag ∧ x.gl = false ∧ l.gl = false := by
  unfold clrB fitsB at hc
  rw [hv, hp] at hc
  simp only [beq_self_eq_true, Bool.true_and, Bool.and_true, Bool.or_eq_false_iff] at hc
  obtain ⟨⟨h1, h2⟩, h3⟩ := hc
  exact ⟨by simpa using h1, h2, h3⟩
theorem clr_valid {l x : Ln} (h : (clr l x).v = true) : clr l x = x ∧ clrB l x = false := by
  unfold clr at h ⊢
  split at h
  · cases h
  · rename_i hc
    rw [if_neg hc]
    exact ⟨rfl, by simpa using hc⟩
theorem clrB_page {l x : Ln} (h : x.page ≠ l.page) : clrB l x = false := by
  have : (x.page == l.page) = false := by simp [h]
  simp [clrB, fitsB, this]
theorem Inv.fill {L : List Ln} (h : Inv L) (way : Nat) (l : Ln) (hok : OkFill way l) : Inv (fillT L way l) := by
  obtain ⟨h1, h2, h3, h4, h5, h6, h7⟩ := hok
  have hw : way < 2 := by omega
  have hs := setOf_lt l.page
  have hat := fillT_at L h.len way hw l
  -- what isn't the new line was there before, and isn't cleared
  have key : ∀ j, j < 16 → (at_ (fillT L way l) j).v = true → j ≠ 2 * setOf l.page + way → at_ (fillT L way l) j = at_ L j ∧ (at_ L j).v = true ∧ clrB l (at_ L j) = false := by
    intro j hj hv hne
    rw [hat j, if_neg hne] at hv ⊢
    by_cases hin : j = 2 * setOf l.page ∨ j = 2 * setOf l.page + 1
    · rw [if_pos hin] at hv ⊢
      obtain ⟨e, hc⟩ := clr_valid hv
      rw [e] at hv ⊢
      exact ⟨rfl, hv, hc⟩
    · rw [if_neg hin] at hv ⊢
      refine ⟨rfl, hv, clrB_page fun e => ?_⟩
      have := (h.set j hj hv).1
      rw [e] at this
      omega
  have new : at_ (fillT L way l) (2 * setOf l.page + way) = l := by rw [hat, if_pos rfl]
  have one : ∀ j, j < 16 → j ≠ 2 * setOf l.page + way → (at_ (fillT L way l) j).v = true → (at_ (fillT L way l) j).page = l.page → (at_ (fillT L way l) j).tag ≠ l.tag ∧ (at_ (fillT L way l) j).gl = false ∧ l.gl = false := by
    intro j hj hne hv hp
    obtain ⟨e, hv', hc⟩ := key j hj hv hne
    rw [e] at hp ⊢
    exact clrB_spec hv' hp hc
  refine ⟨by rw [fillT_length]; exact h.len, fun j hj hv => ?_, fun i j hi hj hne hvi hvj hp => ?_⟩
  · by_cases e : j = 2 * setOf l.page + way
    · subst e; rw [new]; exact ⟨by omega, h5⟩
    · obtain ⟨e1, hv', _⟩ := key j hj hv e
      rw [e1]; exact h.set j hj hv'
  · by_cases ei : i = 2 * setOf l.page + way
    · have ej : j ≠ 2 * setOf l.page + way := by omega
      subst ei
      rw [new] at hp ⊢
      obtain ⟨a, b, c⟩ := one j hj ej hvj hp.symm
      exact ⟨fun e => a e.symm, c, b⟩
    · by_cases ej : j = 2 * setOf l.page + way
      · subst ej
        rw [new] at hp ⊢
        exact one i hi ei hvi hp
      · obtain ⟨e1, v1, _⟩ := key i hi hvi ei
        obtain ⟨e2, v2, _⟩ := key j hj hvj ej
        rw [e1, e2] at hp ⊢
        exact h.uniq i j hi hj hne v1 v2 hp
theorem Inv.does {L : List Ln} (h : Inv L) (kind a b : Int) (l : Ln) : Inv (doesT L kind a b l) := by
  unfold doesT
  split
  · split
    · rename_i hok
      have : a = (a.toNat : Int) := by have := hok.1; omega
      rw [this] at hok
      exact h.fill a.toNat l hok
    · exact h
  split
  · split
    · exact h.evict _ (by omega)
    · exact h
  split
  · exact h.drop _
  split
  · exact h.drop _
  split
  · exact h.drop _
  · exact h
/-! ### what is found; how many fit -/
theorem fits_at {L : List Ln} (h : Inv L) (tag page : Int) (j : Nat) (hj : j < 16) (hf : fitsB (at_ L j) tag page = true) : j / 2 = setOf page ∧ (at_ L j).v = true ∧ (at_ L j).page = page ∧ ((at_ L j).tag = tag ∨ (at_ L j).gl = true) := by
  simp only [fitsB, Bool.and_eq_true, Bool.or_eq_true, beq_iff_eq] at hf
  obtain ⟨⟨h1, h2⟩, h3⟩ := hf
  have := (h.set j hj h1).1
  rw [h2] at this
  exact ⟨this.symm, h1, h2, h3⟩
theorem not_both {L : List Ln} (h : Inv L) (tag page : Int) (i j : Nat) (hi : i < 16) (hj : j < 16) (hne : i ≠ j) (h1 : fitsB (at_ L i) tag page = true) : fitsB (at_ L j) tag page = false := by
  cases h2 : fitsB (at_ L j) tag page
  · rfl
  · obtain ⟨_, v1, p1, t1⟩ := fits_at h tag page i hi h1
    obtain ⟨_, v2, p2, t2⟩ := fits_at h tag page j hj h2
    obtain ⟨a, b, c⟩ := h.uniq i j hi hj hne v1 v2 (p1.trans p2.symm)
    rw [b] at t1; rw [c] at t2
    simp at t1 t2
    exact absurd (t1.trans t2.symm) a
theorem range16 : List.range 16 = [0, 1, 2, 3, 4, 5, 6, 7, 8, 9, 10, 11, 12, 13, 14, 15] := rfl
theorem count_two (p : Nat → Bool) (s : Nat) (hs : s < 8) (h : ∀ j, j < 16 → j / 2 ≠ s → p j = false) : ((List.range 16).filter p).length = one (p (2 * s)) + one (p (2 * s + 1)) := by
  rw [range16]
  have hc : s = 0 ∨ s = 1 ∨ s = 2 ∨ s = 3 ∨ s = 4 ∨ s = 5 ∨ s = 6 ∨ s = 7 := by omega
  rcases hc with rfl | rfl | rfl | rfl | rfl | rfl | rfl | rfl
  · simp [h 2, h 3, h 4, h 5, h 6, h 7, h 8, h 9, h 10, h 11, h 12, h 13, h 14, h 15, List.filter_cons, one]; cases p 0 <;> cases p 1 <;> rfl
  · simp [h 0, h 1, h 4, h 5, h 6, h 7, h 8, h 9, h 10, h 11, h 12, h 13, h 14, h 15, List.filter_cons, one]; cases p 2 <;> cases p 3 <;> rfl
  · simp [h 0, h 1, h 2, h 3, h 6, h 7, h 8, h 9, h 10, h 11, h 12, h 13, h 14, h 15, List.filter_cons, one]; cases p 4 <;> cases p 5 <;> rfl
  · simp [h 0, h 1, h 2, h 3, h 4, h 5, h 8, h 9, h 10, h 11, h 12, h 13, h 14, h 15, List.filter_cons, one]; cases p 6 <;> cases p 7 <;> rfl
  · simp [h 0, h 1, h 2, h 3, h 4, h 5, h 6, h 7, h 10, h 11, h 12, h 13, h 14, h 15, List.filter_cons, one]; cases p 8 <;> cases p 9 <;> rfl
  · simp [h 0, h 1, h 2, h 3, h 4, h 5, h 6, h 7, h 8, h 9, h 12, h 13, h 14, h 15, List.filter_cons, one]; cases p 10 <;> cases p 11 <;> rfl
  · simp [h 0, h 1, h 2, h 3, h 4, h 5, h 6, h 7, h 8, h 9, h 10, h 11, h 14, h 15, List.filter_cons, one]; cases p 12 <;> cases p 13 <;> rfl
  · simp [h 0, h 1, h 2, h 3, h 4, h 5, h 6, h 7, h 8, h 9, h 10, h 11, h 12, h 13, List.filter_cons, one]; cases p 14 <;> cases p 15 <;> rfl
theorem as_range (L : List Ln) (hL : L.length = 16) : L = (List.range 16).map (at_ L) := by
  apply List.ext_getElem?
  intro j
  rw [List.getElem?_map]
  by_cases h : j < 16
  · rw [at_get (by omega), List.getElem?_range h]; rfl
  · rw [List.getElem?_eq_none (by omega), List.getElem?_eq_none (by simp; omega)]; rfl
/-- How many lines fit. -/
def nfits (M : List Ln) (tag page : Int) : Nat := (M.filter fun x => fitsB x tag page).length
theorem nfits_lines {L : List Ln} (h : Inv L) (tag page : Int) : nfits (linesT L) tag page = one (findT L tag page).2 := by
  have hs := setOf_lt page
  have e1 : nfits (linesT L) tag page = (L.filter fun x => fitsB x tag page).length := by
    unfold nfits linesT
    rw [List.filter_filter]
    congr 1
    apply List.filter_congr
    intro x _
    cases hv : x.v <;> simp [fitsB, hv]
  have e2 : (L.filter fun x => fitsB x tag page).length = ((List.range 16).filter fun j => fitsB (at_ L j) tag page).length := by
    have e : (L.filter fun x => fitsB x tag page) = ((List.range 16).map (at_ L)).filter fun x => fitsB x tag page := congrArg (List.filter fun x : Ln => fitsB x tag page) (as_range L h.len)
    rw [e, List.filter_map, List.length_map]; rfl
  rw [e1, e2, count_two (fun j => fitsB (at_ L j) tag page) (setOf page) hs (fun j hj hne => by
    cases hf : fitsB (at_ L j) tag page
    · rfl
    · exact absurd (fits_at h tag page j hj hf).1 hne)]
  unfold findT
  cases h0 : fitsB (at_ L (2 * setOf page)) tag page with
  | true => rw [not_both h tag page (2 * setOf page) (2 * setOf page + 1) (by omega) (by omega) (by omega) h0]; rfl
  | false =>
    cases h1 : fitsB (at_ L (2 * setOf page + 1)) tag page <;> simp [one]
theorem lines_le (L : List Ln) (h : L.length = 16) : (linesT L).length ≤ 16 := Nat.le_trans (List.length_filter_le _ _) (by omega)
end Go.Proofs.Ythnojhldpbjkoaa
