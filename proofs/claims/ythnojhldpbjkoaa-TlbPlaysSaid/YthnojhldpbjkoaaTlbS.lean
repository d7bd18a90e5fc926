/- Plain laws of layer 5: the document's list is what the sixteen places say, behind any calls. No program. No condition. -/
import Derived.Test.YthnojhldpbjkoaaTlbOne
namespace Go.Proofs.Ythnojhldpbjkoaa
open Go.ChangeShapes Go.WideShapes Go.ChangeAt Go.RowKit
set_option linter.unusedVariables false
set_option linter.unusedSimpArgs false

/-- The document's line at a place, if there is one. -/
def refAt (L : List Ln) (j : Nat) : Option RL := if (at_ L j).v then some (told (at_ L j) ((j % 2 : Nat) : Int)) else none
def refOf (L : List Ln) : List RL := (List.range 16).filterMap (refAt L)
theorem refOf_zero : refOf zeroL = [] := by
  unfold refOf
  rw [List.filterMap_eq_nil_iff]
  intro j _
  unfold refAt
  rw [zeroL_at]; rfl
theorem filterMap_congr' {f g : Nat → Option RL} {l : List Nat} (h : ∀ j ∈ l, f j = g j) : l.filterMap f = l.filterMap g := by
  induction l with
  | nil => rfl
  | cons a r ih =>
    rw [List.filterMap_cons, List.filterMap_cons, h a (List.mem_cons_self), ih fun j hj => h j (List.mem_cons_of_mem _ hj)]
theorem range_succ_fm (f : Nat → Option RL) (n : Nat) : (List.range (n + 1)).filterMap f = (List.range n).filterMap f ++ (match f n with | some y => [y] | none => []) := by
  rw [List.range_succ, List.filterMap_append]
  congr 1
  cases h : f n <;> simp [h]
/-- What is left out at places is left out of the list. -/
theorem refOf_filter {L L' : List Ln} (g : RL → Bool) (h : ∀ j, j < 16 → refAt L' j = (refAt L j).filter fun x => !g x) : refOf L' = (refOf L).filter fun x => !g x := by
  unfold refOf
  rw [List.filter_filterMap]
  exact filterMap_congr' fun j hj => h j (by simpa using hj)
theorem ref_drop {L : List Ln} (hL : L.length = 16) (f : Ln → Bool) (g : RL → Bool) (h : ∀ j, j < 16 → (at_ L j).v = true → f (at_ L j) = g (told (at_ L j) ((j % 2 : Nat) : Int))) : refOf (dropT f L) = (refOf L).filter fun x => !g x := by
  refine refOf_filter g fun j hj => ?_
  unfold refAt
  rw [at_dropT f L j (by omega)]
  cases hv : (at_ L j).v
  · have : (if f (at_ L j) = true then zln else at_ L j).v = false := by split <;> first | rfl | exact hv
    simp [this]
  · have e := h j hj hv
    cases hf : f (at_ L j)
    · rw [hf] at e
      simp only [Bool.false_eq_true, if_false, hv, if_true]
      generalize told (at_ L j) ((j % 2 : Nat) : Int) = q at e ⊢
      simp [Option.filter, ← e]
    · rw [hf] at e
      rw [if_pos rfl]
      generalize told (at_ L j) ((j % 2 : Nat) : Int) = q at e
      simp [Option.filter, ← e, zln]
theorem ref_evict {L : List Ln} (h : Inv L) (n m : Nat) (hn : n < 8) (hm : m < 2) : refOf (L.set (2 * n + m) zln) = withoutR (refOf L) 1 n m := by
  unfold withoutR
  refine refOf_filter (goneB 1 n m) fun j hj => ?_
  unfold refAt
  rw [at_set (by rw [h.len]; omega)]
  cases hv : (at_ L j).v
  · have : (if j = 2 * n + m then zln else at_ L j).v = false := by split <;> first | rfl | exact hv
    simp [this]
  · obtain ⟨h1, h2⟩ := h.set j hj hv
    have h3 := setOf_cast (at_ L j).page
    have hg : goneB 1 n m (told (at_ L j) ((j % 2 : Nat) : Int)) = decide (j = 2 * n + m) := by
      have e1 : goneB 1 n m (told (at_ L j) ((j % 2 : Nat) : Int)) = ((at_ L j).page % 8 == (n : Int) && ((j % 2 : Nat) : Int) == (m : Int)) := by simp [goneB, told]
      rw [e1, Bool.eq_iff_iff, decide_eq_true_iff, Bool.and_eq_true, beq_iff_eq, beq_iff_eq]
      omega
    by_cases e : j = 2 * n + m
    · rw [if_pos e]
      generalize told (at_ L j) ((j % 2 : Nat) : Int) = q at hg
      simp [Option.filter, zln, hg, e]
    · rw [if_neg e, hv]
      generalize told (at_ L j) ((j % 2 : Nat) : Int) = q at hg ⊢
      simp [Option.filter, hg, e]
theorem before_iff (a b : RL) : before a b = true ↔ (a.page % 8 < b.page % 8 ∨ (a.page % 8 = b.page % 8 ∧ a.way < b.way)) := by simp [before]
/-- 'before' and 'driven' by places. -/
theorem before_at {L : List Ln} (h : Inv L) (way : Nat) (hw : way < 2) (l : Ln) (j : Nat) (hj : j < 16) (hv : (at_ L j).v = true) :
    before (told l way) (told (at_ L j) ((j % 2 : Nat) : Int)) = decide (2 * setOf l.page + way < j) := by
  obtain ⟨h1, _⟩ := h.set j hj hv
  have h2 := setOf_cast (at_ L j).page
  have h3 := setOf_cast l.page
  rw [Bool.eq_iff_iff, before_iff, decide_eq_true_iff]
  show (l.page % 8 < (at_ L j).page % 8 ∨ (l.page % 8 = (at_ L j).page % 8 ∧ (way : Int) < ((j % 2 : Nat) : Int))) ↔ _
  omega
theorem driven_at {L : List Ln} (h : Inv L) (way : Nat) (hw : way < 2) (l : Ln) (j : Nat) (hj : j < 16) (hv : (at_ L j).v = true) :
    driven (told l way) (told (at_ L j) ((j % 2 : Nat) : Int)) = (clrB l (at_ L j) || decide (j = 2 * setOf l.page + way)) := by
  obtain ⟨h1, _⟩ := h.set j hj hv
  have h2 := setOf_cast (at_ L j).page
  have h3 := setOf_cast l.page
  have e : ((at_ L j).page % 8 == l.page % 8 && (((j % 2 : Nat) : Int) == (way : Int))) = decide (j = 2 * setOf l.page + way) := by
    rw [Bool.eq_iff_iff, decide_eq_true_iff, Bool.and_eq_true, beq_iff_eq, beq_iff_eq]
    omega
  have e2 : rfits (told (at_ L j) ((j % 2 : Nat) : Int)) l.tag l.page = fitsB (at_ L j) l.tag l.page := by
    simp [rfits, fitsB, told, hv, Bool.or_comm]
  show (rfits (told (at_ L j) ((j % 2 : Nat) : Int)) l.tag l.page || l.gl && (at_ L j).page == l.page || ((at_ L j).page % 8 == l.page % 8 && (((j % 2 : Nat) : Int) == (way : Int)))) = _
  rw [e, e2]
  unfold clrB
  rw [hv, Bool.and_true]
/-- What stands behind Fill at a place. -/
theorem refAt_fill {L : List Ln} (h : Inv L) (way : Nat) (l : Ln) (hok : OkFill way l) (j : Nat) (hj : j < 16) :
    refAt (fillT L way l) j = if j = 2 * setOf l.page + way then some (told l way) else if clrB l (at_ L j) then none else refAt L j := by
  obtain ⟨h1, h2, h3, h4, h5, h6, h7⟩ := hok
  have hw : way < 2 := by omega
  unfold refAt
  rw [fillT_at L h.len way hw]
  by_cases e : j = 2 * setOf l.page + way
  · subst e
    rw [if_pos rfl, if_pos rfl, if_pos h7, show (2 * setOf l.page + way) % 2 = way by omega]
  · rw [if_neg e, if_neg e]
    by_cases hin : j = 2 * setOf l.page ∨ j = 2 * setOf l.page + 1
    · rw [if_pos hin]
      unfold clr
      split <;> rfl
    · rw [if_neg hin]
      cases hv : (at_ L j).v
      · simp
      · have : clrB l (at_ L j) = false := clrB_page fun e2 => by
          have := (h.set j hj hv).1
          rw [e2] at this; omega
        rw [this]; rfl
theorem insert_one (g g' : Nat → Option RL) (x : RL) (k0 : Nat) (h0 : g k0 = some x) (h0' : g' k0 = none) (hne : ∀ j, j ≠ k0 → g j = g' j) : ∀ n, k0 < n → (∀ j, k0 < j → j < n → g' j = none) → (List.range n).filterMap g = (List.range n).filterMap g' ++ [x]
  | 0, h, _ => by omega
  | n + 1, h, hno => by
    rw [range_succ_fm, range_succ_fm]
    by_cases e : n = k0
    · subst e
      rw [h0, h0']
      simp only [List.append_nil]
      congr 1
      exact filterMap_congr' fun j hj => hne j (by simp at hj; omega)
    · have hn := hno n (by omega) (by omega)
      rw [hne n e, hn, insert_one g g' x k0 h0 h0' hne n (by omega) (fun j a b => hno j a (by omega))]
      simp
/-- Fill's loop over the list that the places say. -/
theorem fold_inv (f g g' : Nat → Option RL) (x : RL) (k0 : Nat) (h0 : g k0 = some x) (h0' : g' k0 = none) (hne : ∀ j, j ≠ k0 → g j = g' j)
    (hd : ∀ j y, f j = some y → driven x y = true → g' j = none) (hk : ∀ j y, f j = some y → driven x y = false → g' j = some y ∧ j ≠ k0 ∧ before x y = decide (k0 < j)) (hn : ∀ j, f j = none → g' j = none) :
    ∀ n, ((foldR x ((List.range n).filterMap f)).1 = false ∧ (foldR x ((List.range n).filterMap f)).2 = (List.range n).filterMap g' ∧ ∀ j, k0 < j → j < n → g' j = none) ∨
      ((foldR x ((List.range n).filterMap f)).1 = true ∧ k0 < n ∧ (foldR x ((List.range n).filterMap f)).2 = (List.range n).filterMap g)
  | 0 => .inl ⟨rfl, rfl, fun j a b => by omega⟩
  | n + 1 => by
    have ih := fold_inv f g g' x k0 h0 h0' hne hd hk hn n
    have e : foldR x ((List.range (n + 1)).filterMap f) = (match f n with | some y => stepR x (foldR x ((List.range n).filterMap f)) y | none => foldR x ((List.range n).filterMap f)) := by
      rw [range_succ_fm]
      unfold foldR
      rw [List.foldl_append]
      cases f n <;> rfl
    rw [e, range_succ_fm g', range_succ_fm g]
    generalize foldR x ((List.range n).filterMap f) = S at ih ⊢
    obtain ⟨d, out⟩ := S
    simp only [] at ih
    cases hf : f n with
    | none =>
      have hg := hn n hf
      simp only [hg, List.append_nil]
      rcases ih with ⟨i1, i2, i3⟩ | ⟨i1, i2, i3⟩
      · refine .inl ⟨i1, i2, fun j a b => ?_⟩
        by_cases ej : j = n
        · rw [ej]; exact hg
        · exact i3 j a (by omega)
      · refine .inr ⟨i1, by omega, ?_⟩
        rw [hne n (by omega), hg]; simpa using i3
    | some y =>
      simp only []
      cases hdr : driven x y with
      | true =>
        have hg := hd n y hf hdr
        simp only [stepR, hdr, if_true, hg, List.append_nil]
        rcases ih with ⟨i1, i2, i3⟩ | ⟨i1, i2, i3⟩
        · refine .inl ⟨i1, i2, fun j a b => ?_⟩
          by_cases ej : j = n
          · rw [ej]; exact hg
          · exact i3 j a (by omega)
        · refine .inr ⟨i1, by omega, ?_⟩
          rw [hne n (by omega), hg]; simpa using i3
      | false =>
        obtain ⟨hg, hk0, hb⟩ := hk n y hf hdr
        rw [hne n hk0]
        simp only [stepR, hdr, Bool.false_eq_true, if_false, hg, hb]
        rcases ih with ⟨i1, i2, i3⟩ | ⟨i1, i2, i3⟩
        · rw [i1, i2]
          by_cases hlt : k0 < n
          · simp only [hlt, decide_true, Bool.not_false, Bool.true_and, if_true]
            refine .inr ⟨trivial, by omega, ?_⟩
            rw [insert_one g g' x k0 h0 h0' hne n hlt i3]
            simp
          · simp only [hlt, decide_false, Bool.and_false, Bool.false_eq_true, if_false]
            exact .inl ⟨trivial, trivial, fun j a b => by omega⟩
        · rw [i1, i3]
          simp only [Bool.not_true, Bool.false_and, Bool.false_eq_true, if_false]
          exact .inr ⟨trivial, by omega, trivial⟩
theorem ref_fill {L : List Ln} (h : Inv L) (way : Nat) (l : Ln) (hok : OkFill way l) : fillR (refOf L) (told l way) = refOf (fillT L way l) := by
  have hok' := hok
  obtain ⟨h1, h2, h3, h4, h5, h6, h7⟩ := hok'
  have hw : way < 2 := by omega
  have hs := setOf_lt l.page
  -- outside the sixteen places nothing is said
  let f : Nat → Option RL := fun j => if j < 16 then refAt L j else none
  let g : Nat → Option RL := fun j => if j < 16 then refAt (fillT L way l) j else none
  let g' : Nat → Option RL := fun j => if j = 2 * setOf l.page + way then none else g j
  have ef : refOf L = (List.range 16).filterMap f := filterMap_congr' fun j hj => by simp only [f]; rw [if_pos (by simpa using hj)]
  have eg : refOf (fillT L way l) = (List.range 16).filterMap g := filterMap_congr' fun j hj => by simp only [g]; rw [if_pos (by simpa using hj)]
  have h0 : g (2 * setOf l.page + way) = some (told l way) := by
    simp only [g]; rw [if_pos (by omega), refAt_fill h way l hok _ (by omega), if_pos rfl]
  have h0' : g' (2 * setOf l.page + way) = none := by simp [g']
  have hne : ∀ j, j ≠ 2 * setOf l.page + way → g j = g' j := fun j hj => by simp [g', hj]
  have hval : ∀ j y, f j = some y → j < 16 ∧ (at_ L j).v = true ∧ y = told (at_ L j) ((j % 2 : Nat) : Int) := by
    intro j y hf
    simp only [f] at hf
    split at hf
    · rename_i hj
      unfold refAt at hf
      split at hf
      · rename_i hv
        exact ⟨hj, hv, by simpa using hf.symm⟩
      · cases hf
    · cases hf
  have hd : ∀ j y, f j = some y → driven (told l way) y = true → g' j = none := by
    intro j y hf hdr
    obtain ⟨hj, hv, rfl⟩ := hval j y hf
    rw [driven_at h way hw l j hj hv] at hdr
    by_cases e : j = 2 * setOf l.page + way
    · simp [g', e]
    · have hc : clrB l (at_ L j) = true := by simpa [e] using hdr
      simp only [g', g, e, if_false, hj, if_true]
      rw [refAt_fill h way l hok j hj, if_neg e, hc]; rfl
  have hk : ∀ j y, f j = some y → driven (told l way) y = false → g' j = some y ∧ j ≠ 2 * setOf l.page + way ∧ before (told l way) y = decide (2 * setOf l.page + way < j) := by
    intro j y hf hdr
    obtain ⟨hj, hv, rfl⟩ := hval j y hf
    rw [driven_at h way hw l j hj hv] at hdr
    simp only [Bool.or_eq_false_iff, decide_eq_false_iff_not] at hdr
    obtain ⟨hc, e⟩ := hdr
    refine ⟨?_, e, before_at h way hw l j hj hv⟩
    simp only [g', g, e, if_false, hj, if_true]
    rw [refAt_fill h way l hok j hj, if_neg e, hc]
    unfold refAt; rw [if_pos hv]; rfl
  have hn : ∀ j, f j = none → g' j = none := by
    intro j hf
    by_cases e : j = 2 * setOf l.page + way
    · simp [g', e]
    · by_cases hj : j < 16
      · simp only [f, hj, if_true] at hf
        simp only [g', g, e, if_false, hj, if_true]
        rw [refAt_fill h way l hok j hj, if_neg e, hf]
        split <;> rfl
      · simp [g', g, e, hj]
  rw [ef, eg]
  unfold fillR
  rcases fold_inv f g g' (told l way) (2 * setOf l.page + way) h0 h0' hne hd hk hn 16 with ⟨i1, i2, i3⟩ | ⟨i1, i2, i3⟩
  · rw [i1, i2, insert_one g g' _ _ h0 h0' hne 16 (by omega) i3]; rfl
  · rw [i1, i3]; rfl
theorem ref_does {L : List Ln} (h : Inv L) (kind a b : Int) (l : Ln) : doesR (refOf L) kind a b l = refOf (doesT L kind a b l) := by
  unfold doesR doesT
  by_cases h1 : kind = 1
  · rw [if_pos h1, if_pos h1]
    by_cases hok : OkFill a l
    · rw [if_pos hok, if_pos hok]
      have e : a = (a.toNat : Int) := by have := hok.1; omega
      rw [e] at hok
      have := ref_fill h a.toNat l hok
      rw [← e] at this
      exact this
    · rw [if_neg hok, if_neg hok]
  rw [if_neg h1, if_neg h1]
  by_cases h2 : kind = 2
  · rw [if_pos h2, if_pos h2]
    by_cases hok : 0 ≤ a ∧ a ≤ 7 ∧ 0 ≤ b ∧ b ≤ 1
    · rw [if_pos hok, if_pos hok]
      have := ref_evict h a.toNat b.toNat (by omega) (by omega)
      rw [this, show (a.toNat : Int) = a by omega, show (b.toNat : Int) = b by omega]
    · rw [if_neg hok, if_neg hok]
  rw [if_neg h2, if_neg h2]
  by_cases h3 : kind = 3
  · rw [if_pos h3, if_pos h3]
    exact (ref_drop h.len _ (goneB 2 a b) fun j hj hv => by simp [goneB, rfits, fitsB, told, hv, Bool.or_comm]).symm
  rw [if_neg h3, if_neg h3]
  by_cases h4 : kind = 4
  · rw [if_pos h4, if_pos h4]
    exact (ref_drop h.len _ (goneB 3 a 0) fun j hj hv => by simp [goneB, told]).symm
  rw [if_neg h4, if_neg h4]
  by_cases h5 : kind = 5
  · rw [if_pos h5, if_pos h5]
    exact (ref_drop h.len _ (goneB 4 a 0) fun j hj hv => by simp [goneB, told, bne]).symm
  rw [if_neg h5, if_neg h5]
/-! ### line by line; what is found -/
theorem lines_map {L : List Ln} (hL : L.length = 16) : linesT L = ((List.range 16).filter fun j => (at_ L j).v).map (at_ L) := by
  have e2 : linesT L = ((List.range 16).map (at_ L)).filter fun l => l.v := congrArg (List.filter fun l : Ln => l.v) (as_range L hL)
  rw [e2, List.filter_map]; rfl
theorem ref_map {L : List Ln} : refOf L = ((List.range 16).filter fun j => (at_ L j).v).map fun j => told (at_ L j) ((j % 2 : Nat) : Int) := by
  unfold refOf
  generalize List.range 16 = l
  induction l with
  | nil => rfl
  | cons a r ih =>
    have ha : refAt L a = if (at_ L a).v then some (told (at_ L a) ((a % 2 : Nat) : Int)) else none := rfl
    rw [List.filterMap_cons, List.filter_cons, ha]
    cases hv : (at_ L a).v
    · exact ih
    · simp only [if_true, List.map_cons]
      rw [ih]
theorem ref_len {L : List Ln} (hL : L.length = 16) : (refOf L).length = (linesT L).length := by rw [lines_map hL, ref_map, List.length_map, List.length_map]
theorem ref_line {L : List Ln} (hL : L.length = 16) (k : Nat) (h : k < (linesT L).length) : ∃ way : Int, (refOf L)[k]? = some (told ((linesT L)[k]) way) := by
  have hl := ref_len hL
  have h2 : k < ((List.range 16).filter fun j => (at_ L j).v).length := by rw [lines_map hL, List.length_map] at h; exact h
  refine ⟨((((List.range 16).filter fun j => (at_ L j).v)[k] % 2 : Nat) : Int), ?_⟩
  have e1 : (linesT L)[k]? = some (at_ L (((List.range 16).filter fun j => (at_ L j).v)[k])) := by
    rw [lines_map hL, List.getElem?_map, List.getElem?_eq_getElem h2]; rfl
  rw [List.getElem?_eq_getElem h] at e1
  simp only [Option.some.injEq] at e1
  rw [e1, ref_map, List.getElem?_map, List.getElem?_eq_getElem h2]
  rfl
theorem ref_page {L : List Ln} (h : Inv L) : ∀ y ∈ refOf L, 0 ≤ y.page := by
  intro y hy
  rw [ref_map] at hy
  obtain ⟨j, hj, rfl⟩ := List.mem_map.1 hy
  rw [List.mem_filter] at hj
  exact (h.set j (by simpa using hj.1) hj.2).2
theorem findR_ref (L : List Ln) (tag page : Int) : ∀ l : List Nat, findR (l.filterMap (refAt L)) tag page = match l.find? (fun j => fitsB (at_ L j) tag page) with | some j => (told (at_ L j) ((j % 2 : Nat) : Int), true) | none => (zrl, false)
  | [] => rfl
  | a :: r => by
    have ih := findR_ref L tag page r
    have ha : refAt L a = if (at_ L a).v then some (told (at_ L a) ((a % 2 : Nat) : Int)) else none := rfl
    rw [List.filterMap_cons, List.find?_cons, ha]
    cases hv : (at_ L a).v
    · have hf : fitsB (at_ L a) tag page = false := by simp [fitsB, hv]
      rw [hf]
      exact ih
    · have hf : rfits (told (at_ L a) ((a % 2 : Nat) : Int)) tag page = fitsB (at_ L a) tag page := by simp [rfits, fitsB, told, hv, Bool.or_comm]
      simp only [if_true]
      unfold findR
      rw [hf]
      cases fitsB (at_ L a) tag page
      · exact ih
      · rfl
theorem find_two (p : Nat → Bool) (s : Nat) (hs : s < 8) (h : ∀ j, j < 16 → j / 2 ≠ s → p j = false) : (List.range 16).find? p = if p (2 * s) then some (2 * s) else if p (2 * s + 1) then some (2 * s + 1) else none := by
  rw [range16]
  have hc : s = 0 ∨ s = 1 ∨ s = 2 ∨ s = 3 ∨ s = 4 ∨ s = 5 ∨ s = 6 ∨ s = 7 := by omega
  rcases hc with rfl | rfl | rfl | rfl | rfl | rfl | rfl | rfl
  · cases h0 : p 0 <;> cases h1 : p 1 <;> simp [h0, h1, h 2, h 3, h 4, h 5, h 6, h 7, h 8, h 9, h 10, h 11, h 12, h 13, h 14, h 15, List.find?_cons]
  · cases h0 : p 2 <;> cases h1 : p 3 <;> simp [h0, h1, h 0, h 1, h 4, h 5, h 6, h 7, h 8, h 9, h 10, h 11, h 12, h 13, h 14, h 15, List.find?_cons]
  · cases h0 : p 4 <;> cases h1 : p 5 <;> simp [h0, h1, h 0, h 1, h 2, h 3, h 6, h 7, h 8, h 9, h 10, h 11, h 12, h 13, h 14, h 15, List.find?_cons]
  · cases h0 : p 6 <;> cases h1 : p 7 <;> simp [h0, h1, h 0, h 1, h 2, h 3, h 4, h 5, h 8, h 9, h 10, h 11, h 12, h 13, h 14, h 15, List.find?_cons]
  · cases h0 : p 8 <;> cases h1 : p 9 <;> simp [h0, h1, h 0, h 1, h 2, h 3, h 4, h 5, h 6, h 7, h 10, h 11, h 12, h 13, h 14, h 15, List.find?_cons]
  · cases h0 : p 10 <;> cases h1 : p 11 <;> simp [h0, h1, h 0, h 1, h 2, h 3, h 4, h 5, h 6, h 7, h 8, h 9, h 12, h 13, h 14, h 15, List.find?_cons]
  · cases h0 : p 12 <;> cases h1 : p 13 <;> simp [h0, h1, h 0, h 1, h 2, h 3, h 4, h 5, h 6, h 7, h 8, h 9, h 10, h 11, h 14, h 15, List.find?_cons]
  · cases h0 : p 14 <;> cases h1 : p 15 <;> simp [h0, h1, h 0, h 1, h 2, h 3, h 4, h 5, h 6, h 7, h 8, h 9, h 10, h 11, h 12, h 13, List.find?_cons]
/-- Both find the same. -/
theorem find_same {L : List Ln} (h : Inv L) (tag page : Int) : (∃ (x : Ln) (way : Int), findT L tag page = (x, true) ∧ findR (refOf L) tag page = (told x way, true)) ∨ (findT L tag page = (zln, false) ∧ findR (refOf L) tag page = (zrl, false)) := by
  have hs := setOf_lt page
  unfold refOf
  rw [findR_ref, find_two (fun j => fitsB (at_ L j) tag page) (setOf page) hs (fun j hj hne => by
    cases hf : fitsB (at_ L j) tag page
    · rfl
    · exact absurd (fits_at h tag page j hj hf).1 hne)]
  unfold findT
  by_cases a : fitsB (at_ L (2 * setOf page)) tag page = true
  · rw [if_pos a, if_pos a]
    exact .inl ⟨_, _, rfl, rfl⟩
  · rw [if_neg a, if_neg a]
    by_cases b : fitsB (at_ L (2 * setOf page + 1)) tag page = true
    · rw [if_pos b, if_pos b]
      exact .inl ⟨_, _, rfl, rfl⟩
    · rw [if_neg b, if_neg b]
      exact .inr ⟨rfl, rfl⟩
end Go.Proofs.Ythnojhldpbjkoaa
