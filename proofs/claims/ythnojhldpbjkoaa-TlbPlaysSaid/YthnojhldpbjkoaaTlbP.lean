/- Plain laws of layer 5: what is found behind fills and drops; how many lines there are. No program. No condition but the stated ones. -/
import Derived.Test.YthnojhldpbjkoaaTlbL
namespace Go.Proofs.Ythnojhldpbjkoaa
open Go.ChangeShapes Go.WideShapes Go.ChangeAt Go.RowKit
set_option linter.unusedVariables false
set_option linter.unusedSimpArgs false

theorem fillT_length (L : List Ln) (way : Nat) (l : Ln) : (fillT L way l).length = L.length := by unfold fillT; simp
theorem fillT_at (L : List Ln) (hL : L.length = 16) (way : Nat) (hw : way < 2) (l : Ln) (j : Nat) :
    at_ (fillT L way l) j = if j = 2 * setOf l.page + way then l else if j = 2 * setOf l.page ∨ j = 2 * setOf l.page + 1 then clr l (at_ L j) else at_ L j := by
  have hs := setOf_lt l.page
  unfold fillT
  generalize setOf l.page = s at *
  rw [at_set (by simp; omega), at_set (by simp; omega), at_set (by omega)]
  by_cases h0 : j = 2 * s + way
  · rw [if_pos h0, if_pos h0]
  · rw [if_neg h0, if_neg h0]
    by_cases h1 : j = 2 * s + 1
    · subst h1; simp
    · by_cases h2 : j = 2 * s
      · subst h2; simp
      · rw [if_neg h1, if_neg h2, if_neg (by omega)]
theorem zln_fits (t p : Int) : fitsB zln t p = false := rfl
theorem clr_fits (l x : Ln) : fitsB (clr l x) l.tag l.page = false := by
  unfold clr
  split
  · rfl
  · rename_i h
    unfold clrB at h
    simp only [Bool.or_eq_true, not_or, Bool.not_eq_true] at h
    exact h.1
theorem clr_keep (l x : Ln) (h : x.page ≠ l.page) : clr l x = x := by
  unfold clr clrB fitsB
  have : (x.page == l.page) = false := by simp [h]
  simp [this]
theorem clr_zln (l : Ln) : clr l zln = zln := by unfold clr; split <;> rfl
theorem fits_self (l : Ln) (hv : l.v = true) : fitsB l l.tag l.page = true := by simp [fitsB, hv]
theorem fits_page (x : Ln) (t p : Int) (h : x.page ≠ p) : fitsB x t p = false := by
  have : (x.page == p) = false := by simp [h]
  simp [fitsB, this]
/-- What was filled is found. -/
theorem find_fill (L : List Ln) (hL : L.length = 16) (way : Nat) (hw : way < 2) (l : Ln) (hv : l.v = true) : findT (fillT L way l) l.tag l.page = (l, true) := by
  have e0 := fillT_at L hL way hw l (2 * setOf l.page)
  have e1 := fillT_at L hL way hw l (2 * setOf l.page + 1)
  unfold findT
  rcases two_of way hw with rfl | rfl
  · rw [if_pos (show 2 * setOf l.page = 2 * setOf l.page + 0 by omega)] at e0
    rw [e0, fits_self l hv]; rfl
  · rw [if_neg (show ¬ 2 * setOf l.page = 2 * setOf l.page + 1 by omega), if_pos (.inl rfl)] at e0
    rw [if_pos rfl] at e1
    rw [e0, e1, clr_fits, fits_self l hv]; rfl
def zeroL : List Ln := List.replicate 16 zln
theorem zeroL_at (j : Nat) : at_ zeroL j = zln := by unfold at_ zeroL; rw [List.getD_eq_getElem?_getD, List.getElem?_replicate]; split <;> rfl
theorem zeroL_len : zeroL.length = 16 := by simp [zeroL]
/-- Two lines of unlike pages. -/
theorem find_first (a b : Ln) (p q : Nat) (hp : p < 2) (hq : q < 2) (ha : a.v = true) (hb : b.v = true) (hg : b.gl = false) (hne : a.page ≠ b.page) :
    findT (fillT (fillT zeroL p a) q b) a.tag a.page = if setOf a.page = setOf b.page ∧ p = q then (zln, false) else (a, true) := by
  have hl1 : (fillT zeroL p a).length = 16 := by rw [fillT_length, zeroL_len]
  unfold findT
  rw [fillT_at _ hl1 q hq, fillT_at _ hl1 q hq]
  by_cases hs : setOf a.page = setOf b.page
  · rw [← hs, fillT_at _ zeroL_len p hp, fillT_at _ zeroL_len p hp, zeroL_at, zeroL_at]
    have e1 := clr_keep b a hne
    have e2 := fits_page b a.tag a.page (fun e => hne e.symm)
    have e3 := fits_self a ha
    rcases two_of p hp with rfl | rfl <;> rcases two_of q hq with rfl | rfl <;> simp [clr_zln, zln_fits, e1, e2, e3]
  · have n1 : ¬ (2 * setOf a.page = 2 * setOf b.page + q) := by omega
    have n2 : ¬ (2 * setOf a.page = 2 * setOf b.page ∨ 2 * setOf a.page = 2 * setOf b.page + 1) := by omega
    have n3 : ¬ (2 * setOf a.page + 1 = 2 * setOf b.page + q) := by omega
    have n4 : ¬ (2 * setOf a.page + 1 = 2 * setOf b.page ∨ 2 * setOf a.page + 1 = 2 * setOf b.page + 1) := by omega
    rw [if_neg n1, if_neg n2, if_neg n3, if_neg n4]
    have := find_fill zeroL zeroL_len p hp a ha
    unfold findT at this
    rw [if_neg (show ¬ (setOf a.page = setOf b.page ∧ p = q) from fun h => hs h.1)]
    exact this
/-- How many lines there are. -/
theorem lines_len (L : List Ln) (hL : L.length = 16) : (linesT L).length = ((List.range 16).filter fun j => (at_ L j).v).length := by
  have e : L = (List.range 16).map (at_ L) := by
    apply List.ext_getElem?
    intro j
    rw [List.getElem?_map]
    by_cases h : j < 16
    · rw [at_get (by omega), List.getElem?_range h]; rfl
    · rw [List.getElem?_eq_none (by omega), List.getElem?_eq_none (by simp; omega)]; rfl
  have e2 : linesT L = ((List.range 16).map (at_ L)).filter fun l => l.v := congrArg (List.filter fun l : Ln => l.v) e
  rw [e2, List.filter_map, List.length_map]
  rfl
def one (b : Bool) : Nat := if b then 1 else 0
theorem one_le (b : Bool) : one b ≤ 1 := by cases b <;> decide
theorem linesT_cons (y : Ln) (r : List Ln) : (linesT (y :: r)).length = (linesT r).length + one y.v := by
  unfold linesT one
  cases hy : y.v <;> simp [hy]
theorem set_count (L : List Ln) (k : Nat) (x : Ln) (h : k < L.length) : (linesT (L.set k x)).length + one (at_ L k).v = (linesT L).length + one x.v := by
  induction L generalizing k with
  | nil => simp at h
  | cons y r ih =>
    cases k with
    | zero => rw [List.set_cons_zero, linesT_cons, linesT_cons]; show _ + one y.v = _; omega
    | succ k =>
      have := ih k (by simpa using h)
      rw [List.set_cons_succ, linesT_cons, linesT_cons]
      show _ + one (at_ r k).v = _
      omega
theorem clr_v (l x : Ln) : (clr l x).v = true → x.v = true := by
  unfold clr
  split
  · intro h; cases h
  · exact id
theorem fill_count (L : List Ln) (hL : L.length = 16) (way : Nat) (hw : way < 2) (l : Ln) : (linesT (fillT L way l)).length ≤ (linesT L).length + 1 := by
  have hs := setOf_lt l.page
  unfold fillT
  generalize setOf l.page = s at *
  have c1 := set_count L (2 * s) (clr l (at_ L (2 * s))) (by omega)
  have v1 := clr_v l (at_ L (2 * s))
  have c2 := set_count (L.set (2 * s) (clr l (at_ L (2 * s)))) (2 * s + 1) (clr l (at_ L (2 * s + 1))) (by simp; omega)
  rw [at_set (by omega), if_neg (by omega)] at c2
  have v2 := clr_v l (at_ L (2 * s + 1))
  have c3 := set_count ((L.set (2 * s) (clr l (at_ L (2 * s)))).set (2 * s + 1) (clr l (at_ L (2 * s + 1)))) (2 * s + way) l (by simp; omega)
  have hone : ∀ a b : Bool, (a = true → b = true) → one a ≤ one b := by decide
  have d1 := hone _ _ v1
  have d2 := hone _ _ v2
  have d3 := one_le l.v
  have d4 := set_at
  have e3 : one (at_ ((L.set (2 * s) (clr l (at_ L (2 * s)))).set (2 * s + 1) (clr l (at_ L (2 * s + 1)))) (2 * s + way)).v ≥ 0 := Nat.zero_le _
  omega
theorem zero_count : (linesT zeroL).length = 0 := by rfl
end Go.Proofs.Ythnojhldpbjkoaa
