/- The package sched (layer 16): Yield for every queue, Tick; the law's awake. No condition but bounds on the list. -/
import Derived.Test.YtbbohjmkippigaaSchYb
import Derived.Deep.QuietTactic
import Derived.BigQuiet
namespace Go.Proofs.Ytbbohjmkippigaa
open Go.ChangeShapes Go.WideShapes Go.ChangeAt Go.RowKit
set_option linter.unusedVariables false
set_option linter.unusedSimpArgs false

def rotL : List Int → List Int
  | [] => []
  | x :: r => r ++ [x]
theorem rotL_len (l : List Int) : (rotL l).length = l.length := by cases l <;> simp [rotL]
section
variable {w : World} {p base : Nat} {qn tk : Int} {v : Value} {l : List Int}
theorem yield_any (h : QAt w p base qn tk v l) (hl : l.length ≤ 900) : Calls Try.prog 9 #[.pointer (some ⟨p, 0, none⟩)] w fun e w' => e = .returned (.tuple #[]) ∧ Touch (fun k => k = p) w w' ∧ ∃ v', QAt w' p base qn 0 v' (rotL l) := by
  match l, h, hl with
  | [], h, hl => exact (yield_short h (by simp)).mono fun e w' ⟨a, b, c⟩ => ⟨a, b, _, c⟩
  | [x], h, hl => exact (yield_short h (by simp)).mono fun e w' ⟨a, b, c⟩ => ⟨a, b, _, c⟩
  | x :: y :: r, h, hl => exact yield_ok h (by simp at hl; omega)
theorem tick_nil (h : QAt w p base qn tk v []) : Calls Try.prog 10 #[.pointer (some ⟨p, 0, none⟩)] w fun e w' => e = .returned (.bool false) ∧ w' = w := by
  have c2 := cell_heap h.cells 2
  obtain ⟨A, c, rfl⟩ := row_form h.row
  clear h
  go_enter Try.func10, Try.ntmps10
  go_wp2
  go_returns
  exact ⟨rfl, rfl⟩
theorem tick_facts (h : QAt w p base qn tk v l) (hl : 0 < l.length) : ∃ A c, v = .slice A l.length c ∧ w.cell? ⟨p, 0, none⟩ = some (.int .i64 qn) ∧ w.cell? ⟨p, 1, none⟩ = some (.int .i64 tk) ∧ w.cell? ⟨p, 2, none⟩ = some v ∧ w.frozen? ⟨p, 1, none⟩ = false ∧ (((l.length : Int) == 0) = false) := by
  obtain ⟨A, c, hv⟩ := row_form h.row
  exact ⟨A, c, hv, cell_heap h.cells 0, cell_heap h.cells 1, cell_heap h.cells 2, frozen_heap h.cells 1, beq_false_of_ne (by omega)⟩
theorem QAt.tick (h : QAt w p base qn tk v l) (n : Int) : Touch (fun k => k = p) w (w.setCell ⟨p, 1, none⟩ (.int .i64 n)) ∧ QAt (w.setCell ⟨p, 1, none⟩ (.int .i64 n)) p base qn n v l := by
  have ht : Touch (fun k => k = p) w (w.setCell ⟨p, 1, none⟩ (.int .i64 n)) := (Touch.refl (fun k => k = p) w).setCell (a := ⟨p, 1, none⟩) (.inl rfl) _
  exact ⟨ht, heap_set h.cells 1 _, row_touch h.cells h.row ht, by have := h.le; rw [World.size_setCell]; exact this⟩
set_option maxHeartbeats 1000000 in
theorem tick_more (h : QAt w p base qn tk v l) (hl : 0 < l.length) (hl2 : l.length ≤ 900) (h0 : 0 ≤ tk) (h1 : tk ≤ 1000) (hq : tk + 1 < qn) : Calls Try.prog 10 #[.pointer (some ⟨p, 0, none⟩)] w fun e w' => e = .returned (.bool false) ∧ Touch (fun k => k = p) w w' ∧ QAt w' p base qn (tk + 1) v l := by
  obtain ⟨A, c, rfl, c0, c1, c2, f1, hz⟩ := tick_facts h hl
  have hw : wrap64 (tk + 1) = tk + 1 := by unfold wrap64; omega
  have HT := Lib.hid (h.tick (tk + 1))
  have d : decide (tk + 1 < qn) = true := decide_eq_true hq
  have hlt := h.lt
  generalize l.length = n at c2 hz HT ⊢
  clear h hl hl2
  go_enter Try.func10, Try.ntmps10
  go_wp2_with fail
  go_quiet (fail)
  go_wp2
  go_returns
  exact ⟨rfl, HT.out.1.drewN _, HT.out.2.below (below_drewN (Below.refl _ _) _)⟩
set_option maxHeartbeats 1000000 in
theorem tick_over (h : QAt w p base qn tk v l) (hl : 0 < l.length) (hl2 : l.length ≤ 900) (h0 : 0 ≤ tk) (h1 : tk ≤ 1000) (hq : qn ≤ tk + 1) : Calls Try.prog 10 #[.pointer (some ⟨p, 0, none⟩)] w fun e w' => e = .returned (.bool true) ∧ Touch (fun k => k = p) w w' ∧ ∃ v', QAt w' p base qn 0 v' (rotL l) := by
  obtain ⟨A, c, rfl, c0, c1, c2, f1, hz⟩ := tick_facts h hl
  have hw : wrap64 (tk + 1) = tk + 1 := by unfold wrap64; omega
  have HT := Lib.hid (h.tick (tk + 1))
  have d : decide (tk + 1 < qn) = false := decide_eq_false (by omega)
  have hlt := h.lt
  have HL := Lib.hid hl2
  generalize l.length = n at c2 hz HT ⊢
  clear h hl hl2
  go_enter Try.func10, Try.ntmps10
  go_wp2_with fail
  go_quiet (fail)
  go_wp2_with fail
  refine (yield_any (HT.out.2.below (below_drewN (Below.refl _ _) _)) HL.out).mono ?_
  rintro e w1 ⟨rfl, ht1, hq1⟩
  go_wp2
  go_returns
  exact ⟨rfl, (HT.out.1.drewN _).trans ht1 (fun k h => .inl h), hq1⟩
end
/-- What a tick does. -/
def tickQ (qn : Int) (s : Int × List Int) : (Int × List Int) × Bool :=
  if s.2 = [] then (s, false) else if s.1 + 1 < qn then ((s.1 + 1, s.2), false) else ((0, rotL s.2), true)
theorem tick_any {w : World} {p base : Nat} {qn tk : Int} {v : Value} {l : List Int} (h : QAt w p base qn tk v l) (hl2 : l.length ≤ 900) (h0 : 0 ≤ tk) (h1 : tk ≤ 1000) : Calls Try.prog 10 #[.pointer (some ⟨p, 0, none⟩)] w fun e w' => e = .returned (.bool (tickQ qn (tk, l)).2) ∧ Touch (fun k => k = p) w w' ∧ ∃ v', QAt w' p base qn (tickQ qn (tk, l)).1.1 v' (tickQ qn (tk, l)).1.2 := by
  unfold tickQ
  by_cases hn : l = []
  · subst hn
    rw [if_pos rfl]
    exact (tick_nil h).mono fun e w' ⟨a, b⟩ => ⟨a, by rw [b]; exact Touch.refl _ _, v, by rw [b]; exact h⟩
  · rw [if_neg hn]
    have hp : 0 < l.length := List.length_pos_iff.2 hn
    by_cases hq : tk + 1 < qn
    · rw [if_pos hq]
      exact (tick_more h hp hl2 h0 h1 hq).mono fun e w' ⟨a, b, c⟩ => ⟨a, b, v, c⟩
    · rw [if_neg hq]
      exact tick_over h hp hl2 h0 h1 (by omega)
/-- What Add does to the list. -/
def addQ (l : List Int) (x : Int) : List Int := if x < 0 ∨ 15 < x then l else if x ∈ l then l else l ++ [x]
def addE (l : List Int) (x : Int) : Int := if x < 0 ∨ 15 < x then 1 else if x ∈ l then 6 else 0
theorem addQ_len (l : List Int) (x : Int) : (addQ l x).length ≤ l.length + 1 := by
  unfold addQ
  split
  · omega
  · split <;> simp
theorem add_any {w : World} {p base : Nat} {qn tk : Int} {v : Value} {l : List Int} (h : QAt w p base qn tk v l) (hl : l.length ≤ 900) (x : Int) : Calls Try.prog 6 #[.pointer (some ⟨p, 0, none⟩), .int .i64 x] w fun e w' => e = .returned (.int .i64 (addE l x)) ∧ Touch (fun k => k = p) w w' ∧ ∃ v', QAt w' p base qn tk v' (addQ l x) := by
  unfold addQ addE
  by_cases h1 : x < 0 ∨ 15 < x
  · rw [if_pos h1, if_pos h1]
    exact (add_bad x h1).mono fun e w' ⟨a, b⟩ => ⟨a, by rw [b]; exact Touch.refl _ _, v, by rw [b]; exact h⟩
  · rw [if_neg h1, if_neg h1]
    by_cases h2 : x ∈ l
    · rw [if_pos h2, if_pos h2]
      exact (add_there h (by omega) x (by omega) (by omega) h2).mono fun e w' ⟨a, b⟩ => ⟨a, by rw [b]; exact Touch.refl _ _, v, by rw [b]; exact h⟩
    · rw [if_neg h2, if_neg h2]
      exact add_ok h (by omega) x (by omega) (by omega) h2
end Go.Proofs.Ytbbohjmkippigaa
