/- The package sched (layer 16): a queue told by two numbers and a list; New, Now, Ticks, Line, Add. No condition but the branch's and bounds on the list. -/
import Derived.Test.YtbbohjmkippigaaInts
namespace Go.Proofs.Ytbbohjmkippigaa
open Go.ChangeShapes Go.WideShapes Go.ChangeAt Go.RowKit
set_option linter.unusedVariables false
set_option linter.unusedSimpArgs false

theorem Touch.then_below {S : Nat → Prop} {w w1 w2 : World} (h : Touch S w w1) (hb : Below w1.heap.size w1 w2) : Touch S w w2 := h.trans (Touch.of_below hb (fun _ => False)) (fun _ h => h.elim)
theorem below_far {B : Nat} {w w1 : World} (h : Below B w w1) (hB : w.heap.size ≤ B) (S : Nat → Prop) : Touch S w w1 := Touch.of_below (h.mono hB) S
/-- A queue: its block, who waits. -/
structure QAt (w : World) (p base : Nat) (qn tk : Int) (v : Value) (l : List Int) : Prop where
  cells : w.heap[p]? = some (.cells #[.int .i64 qn, .int .i64 tk, v] 56 (0, 0))
  row : IRow w base v l
  le : base ≤ w.heap.size
theorem QAt.below {w w' : World} {p base : Nat} {qn tk : Int} {v : Value} {l : List Int} (h : QAt w p base qn tk v l) (hb : Below w.heap.size w w') : QAt w' p base qn tk v l :=
  ⟨heap_below hb h.cells, row_below h.row hb, Nat.le_trans h.le hb.size⟩
theorem QAt.lt {w : World} {p base : Nat} {qn tk : Int} {v : Value} {l : List Int} (h : QAt w p base qn tk v l) : p < w.heap.size := heap_lt h.cells
/-- The row's block isn't the queue's. -/
theorem QAt.ne {w : World} {p base : Nat} {qn tk : Int} {v : Value} {l : List Int} (h : QAt w p base qn tk v l) {b off n c : Nat} (hv : v = .slice (some ⟨b, off, none⟩) n c) : b ≠ p := by
  intro e
  subst e
  rcases h.row.2 with ⟨h1, _⟩ | ⟨g, cap, cur, h1, _, hg, _⟩
  · rw [hv] at h1; cases h1
  · rw [hv] at h1
    simp only [Value.slice.injEq, Option.some.injEq, Addr.mk.injEq] at h1
    rw [← h1.1.1, h.cells] at hg
    simp only [Option.some.injEq, Obj.cells.injEq] at hg
    exact absurd hg.2.1 (by decide)
/-- A row that isn't the queue's block stays when that one is written. -/
theorem row_touch {w w' : World} {p base : Nat} {qn tk : Int} {v v0 : Value} {l : List Int} (hc : w.heap[p]? = some (.cells #[.int .i64 qn, .int .i64 tk, v0] 56 (0, 0))) (h : IRow w base v l) (ht : Touch (fun k => k = p) w w') : IRow w' base v l := by
  refine ⟨h.1, ?_⟩
  rcases h.2 with h1 | ⟨b, cap, cur, rfl, h2, hg, h3⟩
  · exact .inl h1
  · refine .inr ⟨b, cap, cur, rfl, h2, ?_, h3⟩
    rw [ht.block b (heap_lt hg) (fun e => ?_)]
    · exact hg
    · subst e
      rw [hc] at hg
      simp only [Option.some.injEq, Obj.cells.injEq] at hg
      exact absurd hg.2.1 (by decide)
theorem new_ok (qn : Int) (h1 : 1 ≤ qn) (h2 : qn ≤ 1000) (w : World) :
    Calls Try.prog 5 #[.int .i64 qn] w fun e w' => e = .returned (.tuple #[.pointer (some ⟨w.heap.size, 0, none⟩), .int .i64 0]) ∧ Below w.heap.size w w' ∧ QAt w' w.heap.size w.heap.size qn 0 (.slice none 0 0) [] := by
  have d1 : decide (qn < 1) = false := decide_eq_false (by omega)
  have d2 : decide (1000 < qn) = false := decide_eq_false (by omega)
  go_enter Try.func5, Try.ntmps5
  go_wp2
  go_returns
  exact ⟨rfl, by go_grown, heap_new _ _, IRow.nil _ _, by simp⟩
theorem new_bad (qn : Int) (h : qn < 1 ∨ 1000 < qn) (w : World) :
    Calls Try.prog 5 #[.int .i64 qn] w fun e w' => e = .returned (.tuple #[.pointer none, .int .i64 1]) ∧ w' = w := by
  have H := Lib.hid h
  clear h
  go_enter Try.func5, Try.ntmps5
  go_wp2
  all_goals first | (go_returns; exact ⟨rfl, rfl⟩) | (exfalso; have := H.out; omega)
section
variable {w : World} {p base : Nat} {qn tk : Int} {v : Value} {l : List Int}
theorem now_nil (h : QAt w p base qn tk v []) : Calls Try.prog 7 #[.pointer (some ⟨p, 0, none⟩)] w fun e w' => e = .returned (.tuple #[.int .i64 0, .bool false]) ∧ w' = w := by
  have c2 := cell_heap h.cells 2
  obtain ⟨A, c, rfl⟩ := row_form h.row
  go_enter Try.func7, Try.ntmps7
  go_wp2
  go_returns
  exact ⟨rfl, rfl⟩
theorem now_cons {x : Int} {r : List Int} (h : QAt w p base qn tk v (x :: r)) : Calls Try.prog 7 #[.pointer (some ⟨p, 0, none⟩)] w fun e w' => e = .returned (.tuple #[.int .i64 x, .bool true]) ∧ w' = w := by
  have c2 := cell_heap h.cells 2
  obtain ⟨b, cap, rfl, _, hb, hc⟩ := h.row.cell 0 (by simp)
  simp only [List.getElem_cons_zero] at hc
  have hn : 0 < (x :: r).length := by simp
  have hn2 : ((x :: r).length == 0) = false := by simp
  have hn3 : (((x :: r).length : Int) == 0) = false := by simp; omega
  generalize (x :: r).length = n at hn hn2 hn3 c2
  clear h
  go_enter Try.func7, Try.ntmps7
  go_wp2
  go_returns
  exact ⟨rfl, rfl⟩
theorem line_any (h : QAt w p base qn tk v l) (hl : l.length ≤ 1000000) : Calls Try.prog 11 #[.pointer (some ⟨p, 0, none⟩)] w fun e w' => ∃ v', e = .returned v' ∧ Below w.heap.size w w' ∧ IRow w' w.heap.size v' l := by
  have c2 := cell_heap h.cells 2
  have hr := h.row
  obtain ⟨A, c, rfl⟩ := row_form hr
  have hc0 : A = none → c = 0 := by
    intro e
    rcases hr.2 with ⟨h1, _⟩ | ⟨b, cap, cur, h1, _⟩
    · simp only [Value.slice.injEq] at h1; exact h1.2.2
    · rw [e] at h1; simp at h1
  have HCL := Lib.hid (clone_any hr.rd hl c hc0)
  generalize l.length = n at c2 HCL
  clear h hr
  go_enter Try.func11, Try.ntmps11
  go_wp2_with fail
  refine HCL.out.mono ?_
  rintro e w1 ⟨v', rfl, hb, hr1⟩
  go_wp2
  go_returns
  exact ⟨v', rfl, hb, hr1⟩
theorem add_bad (x : Int) (hx : x < 0 ∨ 15 < x) : Calls Try.prog 6 #[.pointer (some ⟨p, 0, none⟩), .int .i64 x] w fun e w' => e = .returned (.int .i64 1) ∧ w' = w := by
  have H := Lib.hid hx
  clear hx
  go_enter Try.func6, Try.ntmps6
  go_wp2_with fail
  all_goals first | (go_returns; exact ⟨rfl, rfl⟩) | (exfalso; have := H.out; omega)
theorem add_there (h : QAt w p base qn tk v l) (hl : l.length ≤ 1000) (x : Int) (h0 : 0 ≤ x) (h1 : x ≤ 15) (hx : x ∈ l) : Calls Try.prog 6 #[.pointer (some ⟨p, 0, none⟩), .int .i64 x] w fun e w' => e = .returned (.int .i64 6) ∧ w' = w := by
  have c2 := cell_heap h.cells 2
  obtain ⟨A, c, rfl⟩ := row_form h.row
  have hcl := contains_any h.row.rd (by omega) c x
  rw [show decide (x ∈ l) = true from by simp [hx]] at hcl
  have HCL := Lib.hid hcl
  clear hcl h hx
  generalize l.length = n at c2 HCL
  go_enter Try.func6, Try.ntmps6
  go_wp2_with fail
  refine HCL.out.mono ?_
  rintro e w1 ⟨rfl, rfl⟩
  go_wp2
  go_returns
  exact ⟨rfl, rfl⟩
set_option maxHeartbeats 1000000 in
theorem add_ok (h : QAt w p base qn tk v l) (hl : l.length ≤ 1000) (x : Int) (h0 : 0 ≤ x) (h1 : x ≤ 15) (hx : x ∉ l) : Calls Try.prog 6 #[.pointer (some ⟨p, 0, none⟩), .int .i64 x] w fun e w' => e = .returned (.int .i64 0) ∧ Touch (fun k => k = p) w w' ∧ ∃ v', QAt w' p base qn tk v' (l ++ [x]) := by
  have c2 := cell_heap h.cells 2
  have hr := h.row
  obtain ⟨A, c, rfl⟩ := row_form hr
  have hcl := contains_any hr.rd (by omega) c x
  rw [show decide (x ∈ l) = false from by simp [hx]] at hcl
  have HCL := Lib.hid hcl
  have hc0 : A = none → c = 0 := by
    intro e
    rcases hr.2 with ⟨h1, _⟩ | ⟨b, cap, cur, h1, _⟩
    · simp only [Value.slice.injEq] at h1; exact h1.2.2
    · rw [e] at h1; simp at h1
  have HCO := Lib.hid (clone_any hr.rd (by omega) c hc0)
  have HQ := Lib.hid h
  obtain ⟨n, hn⟩ : ∃ n, n = l.length := ⟨_, rfl⟩
  rw [← hn] at c2 HCL HCO
  have HN := Lib.hid hn
  clear hcl h hx hr hn
  go_enter Try.func6, Try.ntmps6
  go_wp2_with fail
  refine HCL.out.mono ?_
  rintro e w1 ⟨rfl, hw⟩
  obtain rfl := hw.symm
  go_wp2_with fail
  refine HCO.out.mono ?_
  rintro e w1 ⟨v1, rfl, hb1, hr1⟩
  obtain ⟨A1, c1, rfl⟩ := row_form hr1
  obtain ⟨i0, hi, hz0, hz1, hz2⟩ := info_parts info3
  have hn' := HN.out
  obtain ⟨A2, cc2, w5, ha, hR5, hB5, hs5, hk5⟩ := app_one2 (P := Try.prog) w.heap.size w (Nat.le_refl _) 44 44 3 under31 hi hz0 hz1 hz2 rfl (by decide) hr1 hb1 #[.int .i64 x] rfl (by simp [Value.oneCell']) (by unfold maxLen; omega) (by omega)
  rw [← hn'] at ha hR5 ⊢
  have hQ5 := HQ.out.below hB5
  have hp5 := hQ5.cells
  have k2 : w5.cell? ⟨p, 2, none⟩ = some (.slice A n c) := by rw [← HN.out] at hp5; exact cell_heap hp5 2
  have f2 := frozen_heap hp5 2
  have hR6 : IRow w5 w.heap.size (.slice A2 (n + 1) cc2) (l ++ [x]) := by
    unfold IRow
    rw [List.length_append, ← hn', ivs, List.map_append]
    exact hR5
  have HA := Lib.hid ha
  have HP5 := Lib.hid hp5
  have hpl := heap_lt hp5
  clear ha hR5 hk5 hi hz0 hz1 hz2 hp5 hr1 hb1 hn' hQ5
  go_wp2_with (at_builtin; refine wpList_app rfl (.tmp 22) (.tmp 24) 44 rfl rfl rfl HA.out ?_)
  go_returns
  have ht : Touch (fun k => k = p) w5 (w5.setCell ⟨p, 2, none⟩ (.slice A2 (n + 1) cc2)) := (Touch.refl (fun k => k = p) w5).setCell (a := ⟨p, 2, none⟩) (.inl rfl) _
  refine ⟨rfl, (Touch.of_below hB5 _).trans ht (fun k h => .inl h), _, heap_set HP5.out 2 _, row_touch HP5.out (row_mono hR6 HQ.out.le) ht, ?_⟩
  have := HQ.out.le
  have := hB5.size
  rw [World.size_setCell]; omega
end
end Go.Proofs.Ytbbohjmkippigaa
