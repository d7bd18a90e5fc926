/- TlbGlobals: a global line is found by every tag, and stays when a tag's lines go; one that isn't is found by its own tag alone. No condition. -/
import Derived.Test.YthnojhldpbjkoaaTlbPlaces
namespace Go.Proofs.Ythnojhldpbjkoaa
open Go.ChangeShapes Go.WideShapes Go.ChangeAt Go.RowKit
set_option linter.unusedVariables false
set_option linter.unusedSimpArgs false

theorem at_drop (f : Ln → Bool) (L : List Ln) (hf : f zln = true ∨ L.length = 16) (j : Nat) (hj : j < L.length) : at_ (dropT f L) j = if f (at_ L j) then zln else at_ L j := by
  unfold at_ dropT
  rw [List.getD_eq_getElem?_getD, List.getElem?_map, List.getElem?_eq_getElem hj, List.getD_eq_getElem?_getD, List.getElem?_eq_getElem hj]
  rfl
/-- In its set stands this line alone. -/
def OneAt (L : List Ln) (s : Nat) (x : Ln) : Prop := L.length = 16 ∧ ((at_ L (2 * s) = x ∧ at_ L (2 * s + 1) = zln) ∨ (at_ L (2 * s) = zln ∧ at_ L (2 * s + 1) = x))
theorem find_one {L : List Ln} {p t : Int} {x : Ln} (h : OneAt L (setOf p) x) : findT L t p = if fitsB x t p then (x, true) else (zln, false) := by
  unfold findT
  rcases h.2 with ⟨h1, h2⟩ | ⟨h1, h2⟩ <;> rw [h1, h2, zln_fits] <;> simp
theorem drop_one (f : Ln → Bool) {L : List Ln} {s : Nat} {x : Ln} (hs : s < 8) (h : OneAt L s x) : OneAt (dropT f L) s (if f x then zln else x) := by
  obtain ⟨hl, h⟩ := h
  refine ⟨by rw [dropT_length]; exact hl, ?_⟩
  rw [at_drop f L (.inr hl) _ (by omega), at_drop f L (.inr hl) _ (by omega)]
  rcases h with ⟨h1, h2⟩ | ⟨h1, h2⟩
  · left; rw [h1, h2]; exact ⟨rfl, by split <;> rfl⟩
  · right; rw [h1, h2]; exact ⟨by split <;> rfl, rfl⟩
theorem fill_one (way : Nat) (hw : way < 2) (l : Ln) : OneAt (fillT zeroL way l) (setOf l.page) l := by
  refine ⟨by rw [fillT_length, zeroL_len], ?_⟩
  rw [fillT_at _ zeroL_len way hw, fillT_at _ zeroL_len way hw, zeroL_at, zeroL_at, clr_zln]
  rcases two_of way hw with rfl | rfl
  · left; simp
  · right; simp
theorem globals_pure (p : Nat) (hp : p < 2) (l : Ln) (hv : l.v = true) : ∃ L1 L2 L3 L4, L1 = fillT zeroL p l ∧ L2 = dropT (fun x => x.tag == l.tag && !x.gl) L1 ∧ L3 = dropT (fun x => !true || !x.gl) L2 ∧ L4 = dropT (fun x => !false || !x.gl) L3 ∧
    (∀ t, findT L1 t l.page = if l.tag == t || l.gl then (l, true) else (zln, false)) ∧ findT L2 l.tag l.page = (if l.gl then (l, true) else (zln, false)) ∧ findT L3 l.tag l.page = (if l.gl then (l, true) else (zln, false)) ∧ findT L4 l.tag l.page = (zln, false) := by
  have hs := setOf_lt l.page
  have o1 := fill_one p hp l
  have o2 := drop_one (fun x => x.tag == l.tag && !x.gl) hs o1
  have o3 := drop_one (fun x => !true || !x.gl) hs o2
  have o4 := drop_one (fun x => !false || !x.gl) hs o3
  have ez : zln.gl = false := rfl
  have ev : zln.v = false := rfl
  have ef : ∀ t p, fitsB zln t p = false := fun _ _ => rfl
  refine ⟨_, _, _, _, rfl, rfl, rfl, rfl, fun t => ?_, ?_, ?_, ?_⟩
  · rw [find_one o1]; simp [fitsB, hv]
  · rw [find_one o2]; cases hg : l.gl <;> simp [hg, ev, fitsB, hv]
  · rw [find_one o3]; cases hg : l.gl <;> simp [hg, ez, ev, fitsB, hv]
  · rw [find_one o4]; simp [ef]
theorem one_box (w : World) (a : Array Value) (t : TypeId) : ∃ w0, w0 = (w.alloc (.cells a t)).alloc (.cells (lcells zeroL).toArray 29) ∧ Below w.heap.size w w0 ∧ TlbAt w0 (w.heap.size + 1) zeroL ∧ w0.heap[w.heap.size]? = some (.cells a t (0, 0)) := by
  refine ⟨_, rfl, by go_grown, ?_, heap_old _ _ _ (heap_new _ _)⟩
  have := tlb_new (w.alloc (.cells a t))
  rwa [World.size_alloc] at this
set_option maxRecDepth 100000 in
set_option maxHeartbeats 4000000 in
theorem walk_TlbGlobals (a0_0 : Bool) (a0_1 : Int) (a0_2 : Int) (a0_3 : Int) (a0_4 : Bool) (a0_5 : Bool) (a0_6 : Bool) (a0_7 : Bool) (a0_8 : Bool) (a1 : Int) (a2 : Int) (w : World) (w0_1 : (Lit.int .i64 a0_1).wf = true) (w0_2 : (Lit.int .i64 a0_2).wf = true) (w0_3 : (Lit.int .i64 a0_3).wf = true) (w1 : (Lit.int .i64 a1).wf = true) (w2 : (Lit.int .i64 a2).wf = true) :
    Calls Try.prog 5 #[.agg #[.bool a0_0, .int .i64 a0_1, .int .i64 a0_2, .int .i64 a0_3, .bool a0_4, .bool a0_5, .bool a0_6, .bool a0_7, .bool a0_8], .int .i64 a1, .int .i64 a2] w fun e w' => e = .returned (.bool true) ∧ Below w.heap.size w w' := by
  clear w0_1 w0_2 w0_3 w1 w2
  have hz := tlb_zero
  obtain ⟨w0, hw0, hB0, hN, ha⟩ := one_box w #[.bool a0_0, .int .i64 a0_1, .int .i64 a0_2, .int .i64 a0_3, .bool a0_4, .bool a0_5, .bool a0_6, .bool a0_7, .bool a0_8] 25
  have HW := Lib.hid hw0
  have HA := Lib.hid ha
  clear hw0 ha
  by_cases hoa : OkFill a1 ⟨a0_0, a0_1, a0_2, a0_3, a0_4, a0_5, a0_6, a0_7, a0_8⟩
  · obtain ⟨p, rfl⟩ : ∃ p : Nat, a1 = p := ⟨a1.toNat, by have := hoa.1; omega⟩
    have hp2 : p < 2 := by have := hoa.2.1; omega
    have hva : a0_0 = true := hoa.2.2.2.2.2.2
    subst hva
    obtain ⟨L1, L2, L3, L4, hL1, hL2, hL3, hL4, hf1, f2, f3, f4⟩ := globals_pure p hp2 ⟨true, a0_1, a0_2, a0_3, a0_4, a0_5, a0_6, a0_7, a0_8⟩ rfl
    have f1 := hf1 a2
    simp only [] at f1 f2 f3 f4 hL1 hL2 hL3 hL4
    have HL1 := Lib.hid hL1
    have HL2 := Lib.hid hL2
    have HL3 := Lib.hid hL3
    have HL4 := Lib.hid hL4
    have F4 := Lib.hid f4
    clear hL1 hL2 hL3 hL4 hf1 f4
    by_cases ht : a2 < 0 ∨ 4095 < a2
    · have HT := Lib.hid ht
      clear ht f1 f2 f3
      have hS0 := hB0.size
      have q0 := heap_lt HA.out
      have n0 : w.heap.size ≠ w.heap.size + 1 := by omega
      have x00 : w0.cell? ⟨w.heap.size, 0, none⟩ = some (.bool true) := cell_heap HA.out 0
      have x01 : w0.cell? ⟨w.heap.size, 1, none⟩ = some (.int .i64 a0_1) := cell_heap HA.out 1
      have x02 : w0.cell? ⟨w.heap.size, 2, none⟩ = some (.int .i64 a0_2) := cell_heap HA.out 2
      have x03 : w0.cell? ⟨w.heap.size, 3, none⟩ = some (.int .i64 a0_3) := cell_heap HA.out 3
      have x04 : w0.cell? ⟨w.heap.size, 4, none⟩ = some (.bool a0_4) := cell_heap HA.out 4
      have x05 : w0.cell? ⟨w.heap.size, 5, none⟩ = some (.bool a0_5) := cell_heap HA.out 5
      have x06 : w0.cell? ⟨w.heap.size, 6, none⟩ = some (.bool a0_6) := cell_heap HA.out 6
      have x07 : w0.cell? ⟨w.heap.size, 7, none⟩ = some (.bool a0_7) := cell_heap HA.out 7
      have x08 : w0.cell? ⟨w.heap.size, 8, none⟩ = some (.bool a0_8) := cell_heap HA.out 8
      go_enter Try.func5, Try.ntmps5
      go_wp2_with fail
      rw [← HW.out]
      refine (fill_ok hN p ⟨true, a0_1, a0_2, a0_3, a0_4, a0_5, a0_6, a0_7, a0_8⟩ hoa).mono ?_
      rintro e v1 ⟨rfl, ht1, hI1⟩
      obtain ⟨hc1, _⟩ := tcell ht1
      have hz1 := ht1.size
      have hB1' := Below.touch hB0 ht1 (Nat.le_refl _) (fun k e => by omega)
      try simp only [World.size_alloc, World.size_setCell, World.size_drew] at hz1
      have z1_0 : w.heap.size < v1.heap.size := by omega
      clear ht1
      rw [← HL1.out] at hI1
      have d9 : (decide (a2 < 0) || decide (4095 < a2)) = true := by rcases HT.out with h | h <;> simp [h]
      go_wp2_with fail
      all_goals first
        | (refine (awake_true _).mono ?_; rintro e v2 ⟨rfl, hb2⟩; go_wp2; go_returns; exact ⟨rfl, b_then hB1' hb2⟩)
        | (exfalso; rcases HT.out with h | h <;> omega)

    · have t0 : 0 ≤ a2 := by omega
      have t1 : a2 ≤ 4095 := by omega
      clear ht
      cases a0_7
      · rw [if_neg (by simp)] at f2 f3
        have F2 := Lib.hid f2
        have F3 := Lib.hid f3
        clear f2 f3
        by_cases hs : a0_1 = a2
        · subst hs
          rw [if_pos (by simp)] at f1
          have F1 := Lib.hid f1
          clear f1
          have hS0 := hB0.size
          have q0 := heap_lt HA.out
          have n0 : w.heap.size ≠ w.heap.size + 1 := by omega
          have x00 : w0.cell? ⟨w.heap.size, 0, none⟩ = some (.bool true) := cell_heap HA.out 0
          have x01 : w0.cell? ⟨w.heap.size, 1, none⟩ = some (.int .i64 a0_1) := cell_heap HA.out 1
          have x02 : w0.cell? ⟨w.heap.size, 2, none⟩ = some (.int .i64 a0_2) := cell_heap HA.out 2
          have x03 : w0.cell? ⟨w.heap.size, 3, none⟩ = some (.int .i64 a0_3) := cell_heap HA.out 3
          have x04 : w0.cell? ⟨w.heap.size, 4, none⟩ = some (.bool a0_4) := cell_heap HA.out 4
          have x05 : w0.cell? ⟨w.heap.size, 5, none⟩ = some (.bool a0_5) := cell_heap HA.out 5
          have x06 : w0.cell? ⟨w.heap.size, 6, none⟩ = some (.bool a0_6) := cell_heap HA.out 6
          have x07 : w0.cell? ⟨w.heap.size, 7, none⟩ = some (.bool false) := cell_heap HA.out 7
          have x08 : w0.cell? ⟨w.heap.size, 8, none⟩ = some (.bool a0_8) := cell_heap HA.out 8
          go_enter Try.func5, Try.ntmps5
          go_wp2_with fail
          rw [← HW.out]
          refine (fill_ok hN p ⟨true, a0_1, a0_2, a0_3, a0_4, a0_5, a0_6, false, a0_8⟩ hoa).mono ?_
          rintro e v1 ⟨rfl, ht1, hI1⟩
          obtain ⟨hc1, _⟩ := tcell ht1
          have hz1 := ht1.size
          have hB1' := Below.touch hB0 ht1 (Nat.le_refl _) (fun k e => by omega)
          try simp only [World.size_alloc, World.size_setCell, World.size_drew] at hz1
          have z1_0 : w.heap.size < v1.heap.size := by omega
          clear ht1
          rw [← HL1.out] at hI1
          go_wp2_with fail
          refine (find_any hI1 a0_1 a0_2).mono ?_
          rw [F1.out]
          rintro e v2 ⟨rfl, hb2⟩
          obtain ⟨hc2, _⟩ := bcell hb2
          have hz2 := hb2.size
          have hB2' := b_then (w := w) hB1' hb2
          have hI2 := hI1.below hb2
          try simp only [World.size_alloc, World.size_setCell, World.size_drew] at hz2
          have z2_0 : w.heap.size < v2.heap.size := by omega
          clear hb2
          go_wp2_with fail
          refine (tag_any (hI2.below (by go_grown)) a0_1).mono ?_
          rintro e v3 ⟨rfl, ht3, hI3⟩
          obtain ⟨hc3, _⟩ := tcell ht3
          have hz3 := ht3.size
          have hB3' := Below.touch (b_then (w := w) hB2' (by go_grown)) ht3 (Nat.le_refl _) (fun k e => by omega)
          try simp only [World.size_alloc, World.size_setCell, World.size_drew] at hz3
          have z3_0 : w.heap.size < v3.heap.size := by omega
          have z3_1 : v2.heap.size < v3.heap.size := by omega
          clear ht3
          rw [← HL2.out] at hI3
          go_wp2_with fail
          refine (find_any hI3 a0_1 a0_2).mono ?_
          rw [F2.out]
          rintro e v4 ⟨rfl, hb4⟩
          obtain ⟨hc4, _⟩ := bcell hb4
          have hz4 := hb4.size
          have hB4' := b_then (w := w) hB3' hb4
          have hI4 := hI3.below hb4
          try simp only [World.size_alloc, World.size_setCell, World.size_drew] at hz4
          have z4_0 : w.heap.size < v4.heap.size := by omega
          have z4_1 : v2.heap.size < v4.heap.size := by omega
          clear hb4
          go_wp2_with fail
          refine (all_any (hI4.below (by go_grown)) true).mono ?_
          rintro e v5 ⟨rfl, ht5, hI5⟩
          obtain ⟨hc5, _⟩ := tcell ht5
          have hz5 := ht5.size
          have hB5' := Below.touch (b_then (w := w) hB4' (by go_grown)) ht5 (Nat.le_refl _) (fun k e => by omega)
          try simp only [World.size_alloc, World.size_setCell, World.size_drew] at hz5
          have z5_0 : w.heap.size < v5.heap.size := by omega
          have z5_1 : v2.heap.size < v5.heap.size := by omega
          have z5_2 : v4.heap.size < v5.heap.size := by omega
          clear ht5
          rw [← HL3.out] at hI5
          go_wp2_with fail
          refine (find_any hI5 a0_1 a0_2).mono ?_
          rw [F3.out]
          rintro e v6 ⟨rfl, hb6⟩
          obtain ⟨hc6, _⟩ := bcell hb6
          have hz6 := hb6.size
          have hB6' := b_then (w := w) hB5' hb6
          have hI6 := hI5.below hb6
          try simp only [World.size_alloc, World.size_setCell, World.size_drew] at hz6
          have z6_0 : w.heap.size < v6.heap.size := by omega
          have z6_1 : v2.heap.size < v6.heap.size := by omega
          have z6_2 : v4.heap.size < v6.heap.size := by omega
          clear hb6
          go_wp2_with fail
          refine (all_any (hI6.below (by go_grown)) false).mono ?_
          rintro e v7 ⟨rfl, ht7, hI7⟩
          obtain ⟨hc7, _⟩ := tcell ht7
          have hz7 := ht7.size
          have hB7' := Below.touch (b_then (w := w) hB6' (by go_grown)) ht7 (Nat.le_refl _) (fun k e => by omega)
          try simp only [World.size_alloc, World.size_setCell, World.size_drew] at hz7
          have z7_0 : w.heap.size < v7.heap.size := by omega
          have z7_1 : v2.heap.size < v7.heap.size := by omega
          have z7_2 : v4.heap.size < v7.heap.size := by omega
          have z7_3 : v6.heap.size < v7.heap.size := by omega
          clear ht7
          rw [← HL4.out] at hI7
          go_wp2_with fail
          refine (find_any hI7 a0_1 a0_2).mono ?_
          rw [F4.out]
          rintro e v8 ⟨rfl, hb8⟩
          obtain ⟨hc8, _⟩ := bcell hb8
          have hz8 := hb8.size
          have hB8' := b_then (w := w) hB7' hb8
          have hI8 := hI7.below hb8
          try simp only [World.size_alloc, World.size_setCell, World.size_drew] at hz8
          have z8_0 : w.heap.size < v8.heap.size := by omega
          have z8_1 : v2.heap.size < v8.heap.size := by omega
          have z8_2 : v4.heap.size < v8.heap.size := by omega
          have z8_3 : v6.heap.size < v8.heap.size := by omega
          clear hb8
          go_wp2_with fail
          refine (awake_true _).mono ?_
          rintro e v9 ⟨rfl, hb9⟩
          obtain ⟨hc9, _⟩ := bcell hb9
          have hz9 := hb9.size
          have hB9' := b_then (w := w) (b_then hB8' (by go_grown)) hb9
          have hI9 := hI8.below (b_then (by go_grown) hb9)
          try simp only [World.size_alloc, World.size_setCell, World.size_drew] at hz9
          have z9_0 : w.heap.size < v9.heap.size := by omega
          have z9_1 : v2.heap.size < v9.heap.size := by omega
          have z9_2 : v4.heap.size < v9.heap.size := by omega
          have z9_3 : v6.heap.size < v9.heap.size := by omega
          have z9_4 : v8.heap.size < v9.heap.size := by omega
          clear hb9
          go_wp2
          go_returns
          exact ⟨rfl, hB9'⟩
        · have e9 : (a2 == a0_1) = false := by simp; omega
          rw [if_neg (by simp [hs])] at f1
          have F1 := Lib.hid f1
          clear f1 hs
          have hS0 := hB0.size
          have q0 := heap_lt HA.out
          have n0 : w.heap.size ≠ w.heap.size + 1 := by omega
          have x00 : w0.cell? ⟨w.heap.size, 0, none⟩ = some (.bool true) := cell_heap HA.out 0
          have x01 : w0.cell? ⟨w.heap.size, 1, none⟩ = some (.int .i64 a0_1) := cell_heap HA.out 1
          have x02 : w0.cell? ⟨w.heap.size, 2, none⟩ = some (.int .i64 a0_2) := cell_heap HA.out 2
          have x03 : w0.cell? ⟨w.heap.size, 3, none⟩ = some (.int .i64 a0_3) := cell_heap HA.out 3
          have x04 : w0.cell? ⟨w.heap.size, 4, none⟩ = some (.bool a0_4) := cell_heap HA.out 4
          have x05 : w0.cell? ⟨w.heap.size, 5, none⟩ = some (.bool a0_5) := cell_heap HA.out 5
          have x06 : w0.cell? ⟨w.heap.size, 6, none⟩ = some (.bool a0_6) := cell_heap HA.out 6
          have x07 : w0.cell? ⟨w.heap.size, 7, none⟩ = some (.bool false) := cell_heap HA.out 7
          have x08 : w0.cell? ⟨w.heap.size, 8, none⟩ = some (.bool a0_8) := cell_heap HA.out 8
          go_enter Try.func5, Try.ntmps5
          go_wp2_with fail
          rw [← HW.out]
          refine (fill_ok hN p ⟨true, a0_1, a0_2, a0_3, a0_4, a0_5, a0_6, false, a0_8⟩ hoa).mono ?_
          rintro e v1 ⟨rfl, ht1, hI1⟩
          obtain ⟨hc1, _⟩ := tcell ht1
          have hz1 := ht1.size
          have hB1' := Below.touch hB0 ht1 (Nat.le_refl _) (fun k e => by omega)
          try simp only [World.size_alloc, World.size_setCell, World.size_drew] at hz1
          have z1_0 : w.heap.size < v1.heap.size := by omega
          clear ht1
          rw [← HL1.out] at hI1
          go_wp2_with fail
          refine (find_any hI1 a2 a0_2).mono ?_
          rw [F1.out]
          rintro e v2 ⟨rfl, hb2⟩
          obtain ⟨hc2, _⟩ := bcell hb2
          have hz2 := hb2.size
          have hB2' := b_then (w := w) hB1' hb2
          have hI2 := hI1.below hb2
          try simp only [World.size_alloc, World.size_setCell, World.size_drew] at hz2
          have z2_0 : w.heap.size < v2.heap.size := by omega
          clear hb2
          go_wp2_with fail
          refine (tag_any (hI2.below (by go_grown)) a0_1).mono ?_
          rintro e v3 ⟨rfl, ht3, hI3⟩
          obtain ⟨hc3, _⟩ := tcell ht3
          have hz3 := ht3.size
          have hB3' := Below.touch (b_then (w := w) hB2' (by go_grown)) ht3 (Nat.le_refl _) (fun k e => by omega)
          try simp only [World.size_alloc, World.size_setCell, World.size_drew] at hz3
          have z3_0 : w.heap.size < v3.heap.size := by omega
          have z3_1 : v2.heap.size < v3.heap.size := by omega
          clear ht3
          rw [← HL2.out] at hI3
          go_wp2_with fail
          refine (find_any hI3 a0_1 a0_2).mono ?_
          rw [F2.out]
          rintro e v4 ⟨rfl, hb4⟩
          obtain ⟨hc4, _⟩ := bcell hb4
          have hz4 := hb4.size
          have hB4' := b_then (w := w) hB3' hb4
          have hI4 := hI3.below hb4
          try simp only [World.size_alloc, World.size_setCell, World.size_drew] at hz4
          have z4_0 : w.heap.size < v4.heap.size := by omega
          have z4_1 : v2.heap.size < v4.heap.size := by omega
          clear hb4
          go_wp2_with fail
          refine (all_any (hI4.below (by go_grown)) true).mono ?_
          rintro e v5 ⟨rfl, ht5, hI5⟩
          obtain ⟨hc5, _⟩ := tcell ht5
          have hz5 := ht5.size
          have hB5' := Below.touch (b_then (w := w) hB4' (by go_grown)) ht5 (Nat.le_refl _) (fun k e => by omega)
          try simp only [World.size_alloc, World.size_setCell, World.size_drew] at hz5
          have z5_0 : w.heap.size < v5.heap.size := by omega
          have z5_1 : v2.heap.size < v5.heap.size := by omega
          have z5_2 : v4.heap.size < v5.heap.size := by omega
          clear ht5
          rw [← HL3.out] at hI5
          go_wp2_with fail
          refine (find_any hI5 a0_1 a0_2).mono ?_
          rw [F3.out]
          rintro e v6 ⟨rfl, hb6⟩
          obtain ⟨hc6, _⟩ := bcell hb6
          have hz6 := hb6.size
          have hB6' := b_then (w := w) hB5' hb6
          have hI6 := hI5.below hb6
          try simp only [World.size_alloc, World.size_setCell, World.size_drew] at hz6
          have z6_0 : w.heap.size < v6.heap.size := by omega
          have z6_1 : v2.heap.size < v6.heap.size := by omega
          have z6_2 : v4.heap.size < v6.heap.size := by omega
          clear hb6
          go_wp2_with fail
          refine (all_any (hI6.below (by go_grown)) false).mono ?_
          rintro e v7 ⟨rfl, ht7, hI7⟩
          obtain ⟨hc7, _⟩ := tcell ht7
          have hz7 := ht7.size
          have hB7' := Below.touch (b_then (w := w) hB6' (by go_grown)) ht7 (Nat.le_refl _) (fun k e => by omega)
          try simp only [World.size_alloc, World.size_setCell, World.size_drew] at hz7
          have z7_0 : w.heap.size < v7.heap.size := by omega
          have z7_1 : v2.heap.size < v7.heap.size := by omega
          have z7_2 : v4.heap.size < v7.heap.size := by omega
          have z7_3 : v6.heap.size < v7.heap.size := by omega
          clear ht7
          rw [← HL4.out] at hI7
          go_wp2_with fail
          refine (find_any hI7 a0_1 a0_2).mono ?_
          rw [F4.out]
          rintro e v8 ⟨rfl, hb8⟩
          obtain ⟨hc8, _⟩ := bcell hb8
          have hz8 := hb8.size
          have hB8' := b_then (w := w) hB7' hb8
          have hI8 := hI7.below hb8
          try simp only [World.size_alloc, World.size_setCell, World.size_drew] at hz8
          have z8_0 : w.heap.size < v8.heap.size := by omega
          have z8_1 : v2.heap.size < v8.heap.size := by omega
          have z8_2 : v4.heap.size < v8.heap.size := by omega
          have z8_3 : v6.heap.size < v8.heap.size := by omega
          clear hb8
          go_wp2_with fail
          refine (awake_true _).mono ?_
          rintro e v9 ⟨rfl, hb9⟩
          obtain ⟨hc9, _⟩ := bcell hb9
          have hz9 := hb9.size
          have hB9' := b_then (w := w) (b_then hB8' (by go_grown)) hb9
          have hI9 := hI8.below (b_then (by go_grown) hb9)
          try simp only [World.size_alloc, World.size_setCell, World.size_drew] at hz9
          have z9_0 : w.heap.size < v9.heap.size := by omega
          have z9_1 : v2.heap.size < v9.heap.size := by omega
          have z9_2 : v4.heap.size < v9.heap.size := by omega
          have z9_3 : v6.heap.size < v9.heap.size := by omega
          have z9_4 : v8.heap.size < v9.heap.size := by omega
          clear hb9
          go_wp2
          go_returns
          exact ⟨rfl, hB9'⟩
      · rw [if_pos rfl] at f2 f3
        rw [if_pos (by simp)] at f1
        have F1 := Lib.hid f1
        have F2 := Lib.hid f2
        have F3 := Lib.hid f3
        clear f1 f2 f3
        have hS0 := hB0.size
        have q0 := heap_lt HA.out
        have n0 : w.heap.size ≠ w.heap.size + 1 := by omega
        have x00 : w0.cell? ⟨w.heap.size, 0, none⟩ = some (.bool true) := cell_heap HA.out 0
        have x01 : w0.cell? ⟨w.heap.size, 1, none⟩ = some (.int .i64 a0_1) := cell_heap HA.out 1
        have x02 : w0.cell? ⟨w.heap.size, 2, none⟩ = some (.int .i64 a0_2) := cell_heap HA.out 2
        have x03 : w0.cell? ⟨w.heap.size, 3, none⟩ = some (.int .i64 a0_3) := cell_heap HA.out 3
        have x04 : w0.cell? ⟨w.heap.size, 4, none⟩ = some (.bool a0_4) := cell_heap HA.out 4
        have x05 : w0.cell? ⟨w.heap.size, 5, none⟩ = some (.bool a0_5) := cell_heap HA.out 5
        have x06 : w0.cell? ⟨w.heap.size, 6, none⟩ = some (.bool a0_6) := cell_heap HA.out 6
        have x07 : w0.cell? ⟨w.heap.size, 7, none⟩ = some (.bool true) := cell_heap HA.out 7
        have x08 : w0.cell? ⟨w.heap.size, 8, none⟩ = some (.bool a0_8) := cell_heap HA.out 8
        go_enter Try.func5, Try.ntmps5
        go_wp2_with fail
        rw [← HW.out]
        refine (fill_ok hN p ⟨true, a0_1, a0_2, a0_3, a0_4, a0_5, a0_6, true, a0_8⟩ hoa).mono ?_
        rintro e v1 ⟨rfl, ht1, hI1⟩
        obtain ⟨hc1, _⟩ := tcell ht1
        have hz1 := ht1.size
        have hB1' := Below.touch hB0 ht1 (Nat.le_refl _) (fun k e => by omega)
        try simp only [World.size_alloc, World.size_setCell, World.size_drew] at hz1
        have z1_0 : w.heap.size < v1.heap.size := by omega
        clear ht1
        rw [← HL1.out] at hI1
        go_wp2_with fail
        refine (find_any hI1 a2 a0_2).mono ?_
        rw [F1.out]
        rintro e v2 ⟨rfl, hb2⟩
        obtain ⟨hc2, _⟩ := bcell hb2
        have hz2 := hb2.size
        have hB2' := b_then (w := w) hB1' hb2
        have hI2 := hI1.below hb2
        try simp only [World.size_alloc, World.size_setCell, World.size_drew] at hz2
        have z2_0 : w.heap.size < v2.heap.size := by omega
        clear hb2
        go_wp2_with fail
        refine (tag_any (hI2.below (by go_grown)) a0_1).mono ?_
        rintro e v3 ⟨rfl, ht3, hI3⟩
        obtain ⟨hc3, _⟩ := tcell ht3
        have hz3 := ht3.size
        have hB3' := Below.touch (b_then (w := w) hB2' (by go_grown)) ht3 (Nat.le_refl _) (fun k e => by omega)
        try simp only [World.size_alloc, World.size_setCell, World.size_drew] at hz3
        have z3_0 : w.heap.size < v3.heap.size := by omega
        have z3_1 : v2.heap.size < v3.heap.size := by omega
        clear ht3
        rw [← HL2.out] at hI3
        go_wp2_with fail
        refine (find_any hI3 a0_1 a0_2).mono ?_
        rw [F2.out]
        rintro e v4 ⟨rfl, hb4⟩
        obtain ⟨hc4, _⟩ := bcell hb4
        have hz4 := hb4.size
        have hB4' := b_then (w := w) hB3' hb4
        have hI4 := hI3.below hb4
        try simp only [World.size_alloc, World.size_setCell, World.size_drew] at hz4
        have z4_0 : w.heap.size < v4.heap.size := by omega
        have z4_1 : v2.heap.size < v4.heap.size := by omega
        clear hb4
        go_wp2_with fail
        refine (all_any (hI4.below (by go_grown)) true).mono ?_
        rintro e v5 ⟨rfl, ht5, hI5⟩
        obtain ⟨hc5, _⟩ := tcell ht5
        have hz5 := ht5.size
        have hB5' := Below.touch (b_then (w := w) hB4' (by go_grown)) ht5 (Nat.le_refl _) (fun k e => by omega)
        try simp only [World.size_alloc, World.size_setCell, World.size_drew] at hz5
        have z5_0 : w.heap.size < v5.heap.size := by omega
        have z5_1 : v2.heap.size < v5.heap.size := by omega
        have z5_2 : v4.heap.size < v5.heap.size := by omega
        clear ht5
        rw [← HL3.out] at hI5
        go_wp2_with fail
        refine (find_any hI5 a0_1 a0_2).mono ?_
        rw [F3.out]
        rintro e v6 ⟨rfl, hb6⟩
        obtain ⟨hc6, _⟩ := bcell hb6
        have hz6 := hb6.size
        have hB6' := b_then (w := w) hB5' hb6
        have hI6 := hI5.below hb6
        try simp only [World.size_alloc, World.size_setCell, World.size_drew] at hz6
        have z6_0 : w.heap.size < v6.heap.size := by omega
        have z6_1 : v2.heap.size < v6.heap.size := by omega
        have z6_2 : v4.heap.size < v6.heap.size := by omega
        clear hb6
        go_wp2_with fail
        refine (all_any (hI6.below (by go_grown)) false).mono ?_
        rintro e v7 ⟨rfl, ht7, hI7⟩
        obtain ⟨hc7, _⟩ := tcell ht7
        have hz7 := ht7.size
        have hB7' := Below.touch (b_then (w := w) hB6' (by go_grown)) ht7 (Nat.le_refl _) (fun k e => by omega)
        try simp only [World.size_alloc, World.size_setCell, World.size_drew] at hz7
        have z7_0 : w.heap.size < v7.heap.size := by omega
        have z7_1 : v2.heap.size < v7.heap.size := by omega
        have z7_2 : v4.heap.size < v7.heap.size := by omega
        have z7_3 : v6.heap.size < v7.heap.size := by omega
        clear ht7
        rw [← HL4.out] at hI7
        go_wp2_with fail
        refine (find_any hI7 a0_1 a0_2).mono ?_
        rw [F4.out]
        rintro e v8 ⟨rfl, hb8⟩
        obtain ⟨hc8, _⟩ := bcell hb8
        have hz8 := hb8.size
        have hB8' := b_then (w := w) hB7' hb8
        have hI8 := hI7.below hb8
        try simp only [World.size_alloc, World.size_setCell, World.size_drew] at hz8
        have z8_0 : w.heap.size < v8.heap.size := by omega
        have z8_1 : v2.heap.size < v8.heap.size := by omega
        have z8_2 : v4.heap.size < v8.heap.size := by omega
        have z8_3 : v6.heap.size < v8.heap.size := by omega
        clear hb8
        go_wp2_with fail
        refine (awake_true _).mono ?_
        rintro e v9 ⟨rfl, hb9⟩
        obtain ⟨hc9, _⟩ := bcell hb9
        have hz9 := hb9.size
        have hB9' := b_then (w := w) (b_then hB8' (by go_grown)) hb9
        have hI9 := hI8.below (b_then (by go_grown) hb9)
        try simp only [World.size_alloc, World.size_setCell, World.size_drew] at hz9
        have z9_0 : w.heap.size < v9.heap.size := by omega
        have z9_1 : v2.heap.size < v9.heap.size := by omega
        have z9_2 : v4.heap.size < v9.heap.size := by omega
        have z9_3 : v6.heap.size < v9.heap.size := by omega
        have z9_4 : v8.heap.size < v9.heap.size := by omega
        clear hb9
        go_wp2
        go_returns
        exact ⟨rfl, hB9'⟩
  · go_enter Try.func5, Try.ntmps5
    go_wp2_with fail
    rw [← HW.out]
    refine (fill_bad w0 (w.heap.size + 1) a1 ⟨a0_0, a0_1, a0_2, a0_3, a0_4, a0_5, a0_6, a0_7, a0_8⟩ hoa).mono ?_
    rintro e v1 ⟨rfl, hb1⟩
    go_wp2_with fail
    refine (awake_true v1).mono ?_
    rintro e v2 ⟨rfl, hb2⟩
    go_wp2
    go_returns
    exact ⟨rfl, b_then (b_then hB0 hb1) hb2⟩
end Go.Proofs.Ythnojhldpbjkoaa
