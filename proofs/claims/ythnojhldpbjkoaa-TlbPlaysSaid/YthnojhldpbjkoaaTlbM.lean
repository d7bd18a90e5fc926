/- The plain matter of layer 5: a line, the sixteen places, what fills, drops and finds do to them. No program. No condition. -/
import Derived.Test.YthnojhldpbjkoaaH
namespace Go.Proofs.Ythnojhldpbjkoaa
open Go.ChangeShapes Go.WideShapes Go.ChangeAt Go.RowKit
set_option linter.unusedVariables false
set_option linter.unusedSimpArgs false

structure Ln where
  v : Bool
  tag : Int
  page : Int
  frame : Int
  wr : Bool
  us : Bool
  ex : Bool
  gl : Bool
  di : Bool
def zln : Ln := ⟨false, 0, 0, 0, false, false, false, false, false⟩
def Ln.cells (l : Ln) : List Value := [.bool l.v, .int .i64 l.tag, .int .i64 l.page, .int .i64 l.frame, .bool l.wr, .bool l.us, .bool l.ex, .bool l.gl, .bool l.di]
abbrev Ln.val (l : Ln) : Value := .agg #[.bool l.v, .int .i64 l.tag, .int .i64 l.page, .int .i64 l.frame, .bool l.wr, .bool l.us, .bool l.ex, .bool l.gl, .bool l.di]
def fitsB (l : Ln) (tag page : Int) : Bool := l.v && l.page == page && (l.tag == tag || l.gl)
def setOf (page : Int) : Nat := (page % 8).toNat
def lcells : List Ln → List Value
  | [] => []
  | l :: r => l.cells ++ lcells r
theorem Ln.cells_length (l : Ln) : l.cells.length = 9 := rfl
theorem lcells_length : ∀ L, (lcells L).length = L.length * 9
  | [] => rfl
  | l :: r => by simp [lcells, lcells_length r, Ln.cells_length]; omega
theorem lcells_append : ∀ L M, lcells (L ++ M) = lcells L ++ lcells M
  | [], M => rfl
  | l :: r, M => by simp [lcells, lcells_append r M]
theorem lcells_at : ∀ (L : List Ln) (k : Nat) (l : Ln), L[k]? = some l → ∀ j, j < 9 → (lcells L)[k * 9 + j]? = l.cells[j]?
  | [], k, l, h, j, hj => by simp at h
  | x :: r, 0, l, h, j, hj => by
    simp at h; subst h
    show (x.cells ++ lcells r)[0 * 9 + j]? = _
    rw [List.getElem?_append_left (by rw [Ln.cells_length]; omega), Nat.zero_mul, Nat.zero_add]
  | x :: r, k + 1, l, h, j, hj => by
    have := lcells_at r k l (by simpa using h) j hj
    show (x.cells ++ lcells r)[(k + 1) * 9 + j]? = _
    rw [List.getElem?_append_right (by rw [Ln.cells_length]; omega), Ln.cells_length, show (k + 1) * 9 + j - 9 = k * 9 + j by omega]
    exact this
/-- Nine stores of a line. -/
theorem lcells_set : ∀ (L : List Ln) (k : Nat) (l : Ln), k < L.length →
    (((((((((lcells L).set (k * 9) (.bool l.v)).set (k * 9 + 1) (.int .i64 l.tag)).set (k * 9 + 2) (.int .i64 l.page)).set (k * 9 + 3) (.int .i64 l.frame)).set (k * 9 + 4) (.bool l.wr)).set (k * 9 + 5) (.bool l.us)).set (k * 9 + 6) (.bool l.ex)).set (k * 9 + 7) (.bool l.gl)).set (k * 9 + 8) (.bool l.di) = lcells (L.set k l)
  | [], k, l, h => by simp at h
  | x :: r, 0, l, h => by simp [lcells, Ln.cells]
  | x :: r, k + 1, l, h => by
    have := lcells_set r k l (by simpa using h)
    show _ = x.cells ++ lcells (r.set k l)
    rw [← this]
    have e : ∀ (v : Value) (X : List Value) (j : Nat), (x.cells ++ X).set ((k + 1) * 9 + j) v = x.cells ++ X.set (k * 9 + j) v := by
      intro v X j
      rw [List.set_append_right _ _ (by rw [Ln.cells_length]; omega), Ln.cells_length, show (k + 1) * 9 + j - 9 = k * 9 + j by omega]
    have e0 : ∀ (v : Value) (X : List Value), (x.cells ++ X).set ((k + 1) * 9) v = x.cells ++ X.set (k * 9) v := fun v X => e v X 0
    show (((((((((x.cells ++ lcells r).set _ _).set _ _).set _ _).set _ _).set _ _).set _ _).set _ _).set _ _).set _ _ = _
    rw [e0, e, e, e, e, e, e, e, e]
/-- What stands at a place. -/
def at_ (L : List Ln) (k : Nat) : Ln := L.getD k zln
theorem at_get {L : List Ln} {k : Nat} (h : k < L.length) : L[k]? = some (at_ L k) := by
  unfold at_; rw [List.getD_eq_getElem?_getD, List.getElem?_eq_getElem h]; rfl
theorem at_set {L : List Ln} {k j : Nat} {l : Ln} (h : k < L.length) : at_ (L.set k l) j = if j = k then l else at_ L j := by
  unfold at_
  rw [List.getD_eq_getElem?_getD, List.getD_eq_getElem?_getD, List.getElem?_set]
  by_cases e : k = j
  · subst e; simp [h]
  · rw [if_neg e, if_neg (fun h => e h.symm)]
theorem setOf_lt (p : Int) : setOf p < 8 := by unfold setOf; omega
theorem setOf_cast (p : Int) : (setOf p : Int) = p % 8 := by unfold setOf; omega
end Go.Proofs.Ythnojhldpbjkoaa
