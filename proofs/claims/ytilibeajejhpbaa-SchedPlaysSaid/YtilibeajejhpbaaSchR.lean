/- The package sched (layer 16): Remove; the law's same. No condition but bounds on the list. -/
import Derived.Test.YtilibeajejhpbaaSchT
import Derived.Test.YtilibeajejhpbaaDel
namespace Go.Proofs.Ytilibeajejhpbaa
open Go.ChangeShapes Go.WideShapes Go.ChangeAt Go.RowKit
set_option linter.unusedVariables false
set_option linter.unusedSimpArgs false

theorem erase_first (x : Int) : ∀ (l : List Int) (k : Nat) (h : k < l.length), l[k] = x → (∀ j (hj : j < k), l[j]'(by omega) ≠ x) → l.take k ++ l.drop (k + 1) = l.erase x
  | y :: r, 0, h, e, _ => by
    have e' : y = x := e
    subst e'
    simp
  | y :: r, k + 1, h, e, hf => by
    have hy : y ≠ x := hf 0 (by omega)
    have ih := erase_first x r k (by simpa using h) (by simpa using e) (fun j hj => by simpa using hf (j + 1) (by omega))
    rw [List.erase_cons_tail (by simpa using hy)]
    simpa using ih
section
variable {w : World} {p base : Nat} {qn tk : Int} {v : Value} {l : List Int}
theorem remove_none (h : QAt w p base qn tk v l) (hl : l.length ≤ 900) (x : Int) (hx : idxI l x 0 = -1) : Calls Try.prog 16 #[.pointer (some ⟨p, 0, none⟩), .int .i64 x] w fun e w' => e = .returned (.int .i64 5) ∧ w' = w := by
  have c2 := cell_heap h.cells 2
  obtain ⟨A, c, rfl⟩ := row_form h.row
  have hix := index_any h.row.rd (by omega) c x
  rw [hx] at hix
  have HIX := Lib.hid hix
  clear hix h hx
  generalize l.length = n at c2 HIX
  go_enter Try.func16, Try.ntmps16
  go_wp2_with fail
  refine HIX.out.mono ?_
  rintro e w1 ⟨rfl, hw⟩
  obtain rfl := hw.symm
  go_wp2
  go_returns
  exact ⟨rfl, rfl⟩
set_option maxHeartbeats 2000000 in
theorem remove_pos (h : QAt w p base qn tk v l) (hl : l.length ≤ 900) (x : Int) {k : Nat} (hk : k < l.length) (hk0 : 0 < k) (hx : idxI l x 0 = k) : Calls Try.prog 16 #[.pointer (some ⟨p, 0, none⟩), .int .i64 x] w fun e w' => e = .returned (.int .i64 0) ∧ Touch (fun k => k = p) w w' ∧ ∃ v', QAt w' p base qn tk v' (l.take k ++ l.drop (k + 1)) := by
  have HQ := Lib.hid h
  have hr := h.row
  obtain ⟨A, c, rfl⟩ := row_form h.row
  have hix := index_any h.row.rd (by omega) c x
  rw [hx] at hix
  have HIX := Lib.hid hix
  have hc0 : A = none → c = 0 := by
    intro e
    rcases hr.2 with ⟨h1, _⟩ | ⟨b, cap, cur, h1, _⟩
    · simp only [Value.slice.injEq] at h1; exact h1.2.2
    · rw [e] at h1; simp at h1
  have HCL := Lib.hid (clone_any hr.rd (by omega) c hc0)
  have c2 := cell_heap h.cells 2
  have HK := Lib.hid hk
  have dk : decide ((k : Int) < 0) = false := decide_eq_false (by omega)
  have dk0 : ((k : Int) == 0) = false := beq_false_of_ne (by omega)
  have hw1 : wrap64 ((k : Int) + 1) = (k : Int) + 1 := by unfold wrap64; omega
  obtain ⟨n, hn⟩ : ∃ n, n = l.length := ⟨_, rfl⟩
  rw [← hn] at c2 HCL HIX
  have HN := Lib.hid hn
  have HLE := Lib.hid hl
  clear hix h hx hr hk hn hk0 hl
  go_enter Try.func16, Try.ntmps16
  go_wp2_with fail
  refine HIX.out.mono ?_
  rintro e w1 ⟨rfl, hw⟩
  obtain rfl := hw.symm
  go_wp2_with fail
  refine HCL.out.mono ?_
  rintro e w1 ⟨v1, rfl, hb1, hr1⟩
  obtain ⟨b1, cap1, rfl, hbb, hbw, _⟩ := hr1.cell k HK.out
  have HD := Lib.hid (delete_any (i := k) (j := k + 1) hr1 (by omega) (by have := HK.out; omega))
  rw [← HN.out, show k + 1 - k = 1 by omega] at HD
  rw [← HN.out]
  rw [show (((k + 1 : Nat) : Int)) = (k : Int) + 1 from rfl] at HD
  clear hr1
  go_wp2_with fail
  refine HD.out.mono ?_
  rintro e w2 ⟨rfl, ht2, hr2⟩
  have hB2 := Below.touch hb1 ht2 (Nat.le_refl _) (fun k e => by omega)
  have hQ2 := HQ.out.below hB2
  have hp2 := hQ2.cells
  have k2 := cell_heap hp2 2
  have f2 := frozen_heap hp2 2
  have hpl := heap_lt hp2
  have HP2 := Lib.hid hp2
  have HB2 := Lib.hid hB2
  have HR2 := Lib.hid hr2
  clear hb1 ht2 hQ2 hp2 hbb hbw hB2 hr2
  go_wp2
  go_returns
  have ht : Touch (fun k => k = p) w2 (w2.setCell ⟨p, 2, none⟩ (.slice (some ⟨b1, 0, none⟩) (n - 1) cap1)) := (Touch.refl (fun k => k = p) w2).setCell (a := ⟨p, 2, none⟩) (.inl rfl) _
  have hln : (l.take k ++ l.drop (k + 1)).length = n - 1 := by have := HK.out; have := HN.out; simp; omega
  refine ⟨rfl, (Touch.of_below HB2.out _).trans ht (fun k h => .inl h), _, heap_set HP2.out 2 _, row_touch HP2.out (row_mono HR2.out HQ.out.le) ht, ?_⟩
  have := HQ.out.le
  have := HB2.out.size
  rw [World.size_setCell]; omega
set_option maxHeartbeats 2000000 in
theorem remove_zero (h : QAt w p base qn tk v l) (hl : l.length ≤ 900) (x : Int) (hk : 0 < l.length) (hx : idxI l x 0 = 0) : Calls Try.prog 16 #[.pointer (some ⟨p, 0, none⟩), .int .i64 x] w fun e w' => e = .returned (.int .i64 0) ∧ Touch (fun k => k = p) w w' ∧ ∃ v', QAt w' p base qn 0 v' (l.take 0 ++ l.drop (0 + 1)) := by
  have HQ := Lib.hid h
  have hr := h.row
  obtain ⟨A, c, rfl⟩ := row_form h.row
  have hix := index_any h.row.rd (by omega) c x
  rw [hx] at hix
  have HIX := Lib.hid hix
  have hc0 : A = none → c = 0 := by
    intro e
    rcases hr.2 with ⟨h1, _⟩ | ⟨b, cap, cur, h1, _⟩
    · simp only [Value.slice.injEq] at h1; exact h1.2.2
    · rw [e] at h1; simp at h1
  have HT0 := Lib.hid (h.tick 0)
  have HCL := Lib.hid (clone_any HT0.out.2.row.rd (by omega) c hc0)
  have c2 := cell_heap h.cells 2
  have HC0 := Lib.hid (cell_heap HT0.out.2.cells 2)
  have HK := Lib.hid hk
  have f1 := frozen_heap h.cells 1
  have c1 := cell_heap h.cells 1
  obtain ⟨n, hn⟩ : ∃ n, n = l.length := ⟨_, rfl⟩
  rw [← hn] at c2 HCL HIX
  have HN := Lib.hid hn
  have HLE := Lib.hid hl
  clear hix h hx hr hk hn hl
  go_enter Try.func16, Try.ntmps16
  go_wp2_with fail
  refine HIX.out.mono ?_
  rintro e w1 ⟨rfl, hw⟩
  obtain rfl := hw.symm
  go_wp2_with fail
  refine HCL.out.mono ?_
  rintro e w1 ⟨v1, rfl, hb1, hr1⟩
  obtain ⟨b1, cap1, rfl, hbb, hbw, _⟩ := hr1.cell 0 HK.out
  have HD := Lib.hid (delete_any (i := 0) (j := 1) hr1 (by omega) (by have := HK.out; omega))
  rw [← HN.out, show 1 - 0 = 1 by omega] at HD
  rw [← HN.out]
  rw [show (((1 : Nat) : Int)) = 1 from rfl, show (((0 : Nat) : Int)) = 0 from rfl] at HD
  clear hr1
  go_wp2_with fail
  refine HD.out.mono ?_
  rintro e w2 ⟨rfl, ht2, hr2⟩
  have hB2 := Below.touch hb1 ht2 (Nat.le_refl _) (fun k e => by omega)
  have hQ2 := HT0.out.2.below hB2
  have hp2 := hQ2.cells
  have k2 := cell_heap hp2 2
  have f2 := frozen_heap hp2 2
  have hpl := heap_lt hp2
  have HP2 := Lib.hid hp2
  have HB2 := Lib.hid hB2
  have HR2 := Lib.hid hr2
  clear hb1 ht2 hQ2 hp2 hbb hbw hB2 hr2
  go_wp2
  go_returns
  have ht : Touch (fun k => k = p) w2 (w2.setCell ⟨p, 2, none⟩ (.slice (some ⟨b1, 0, none⟩) (n - 1) cap1)) := (Touch.refl (fun k => k = p) w2).setCell (a := ⟨p, 2, none⟩) (.inl rfl) _
  have hln : (l.take 0 ++ l.drop (0 + 1)).length = n - 1 := by have := HK.out; have := HN.out; simp; omega
  refine ⟨rfl, (HT0.out.1.trans (Touch.of_below HB2.out (fun k => k = p)) (fun k h => .inl h)).trans ht (fun k h => .inl h), _, heap_set HP2.out 2 _, row_touch HP2.out (row_mono HR2.out HT0.out.2.le) ht, ?_⟩
  have := HT0.out.2.le
  have := HB2.out.size
  rw [World.size_setCell]; omega
/-- What Remove does. -/
def remQ (s : Int × List Int) (x : Int) : Int × List Int := if x ∈ s.2 then (if s.2.head? = some x then 0 else s.1, s.2.erase x) else s
def remE (l : List Int) (x : Int) : Int := if x ∈ l then 0 else 5
theorem remQ_len (s : Int × List Int) (x : Int) : (remQ s x).2.length ≤ s.2.length := by
  unfold remQ
  split
  · exact List.length_erase_le
  · exact Nat.le_refl _
theorem remove_any (h : QAt w p base qn tk v l) (hl : l.length ≤ 900) (x : Int) : Calls Try.prog 16 #[.pointer (some ⟨p, 0, none⟩), .int .i64 x] w fun e w' => e = .returned (.int .i64 (remE l x)) ∧ Touch (fun k => k = p) w w' ∧ ∃ v', QAt w' p base qn (remQ (tk, l) x).1 v' (remQ (tk, l) x).2 := by
  unfold remQ remE
  rcases idxI_spec x l 0 with ⟨h1, h2⟩ | ⟨k, h1, h2, h3, h4⟩
  · rw [if_neg h2, if_neg h2]
    exact (remove_none h hl x h1).mono fun e w' ⟨a, b⟩ => ⟨a, by rw [b]; exact Touch.refl _ _, v, by rw [b]; exact h⟩
  · have hm : x ∈ l := by rw [← h3]; exact List.getElem_mem h2
    rw [if_pos hm, if_pos hm]
    have he := erase_first x l k h2 h3 h4
    rw [Nat.zero_add] at h1
    rw [show (((0 : Nat) : Int)) = 0 from rfl] at h1
    have hh : l.head? = l[0]? := by rw [List.head?_eq_getElem?]
    cases k with
    | zero =>
      have h0 : l.head? = some x := by rw [hh, List.getElem?_eq_getElem h2, h3]
      simp only [h0, if_true]
      rw [← he]
      exact remove_zero h hl x h2 h1
    | succ k =>
      have h0 : ¬ l.head? = some x := by
        rw [hh, List.getElem?_eq_getElem (by omega)]
        intro e
        exact h4 0 (by omega) (by simpa using e)
      simp only [h0, if_false]
      rw [← he]
      exact remove_pos h hl x h2 (by omega) h1
end
end Go.Proofs.Ytilibeajejhpbaa
