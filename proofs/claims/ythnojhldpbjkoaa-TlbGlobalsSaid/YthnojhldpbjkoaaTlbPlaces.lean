/- TlbPlaces: lines of unlike sets never drive one another out, two of one set in unlike ways neither, in one way the later one stays. No condition. -/
import Derived.Test.YthnojhldpbjkoaaTlbA
namespace Go.Proofs.Ythnojhldpbjkoaa
open Go.ChangeShapes Go.WideShapes Go.ChangeAt Go.RowKit
set_option linter.unusedVariables false
set_option linter.unusedSimpArgs false

/-- The world in which the two lines lie and a TLB was made. -/
theorem two_boxes (w : World) (a b : Array Value) (t : TypeId) : ∃ w0, w0 = ((w.alloc (.cells a t)).alloc (.cells b t)).alloc (.cells (lcells zeroL).toArray 29) ∧ Below w.heap.size w w0 ∧ TlbAt w0 (w.heap.size + 1 + 1) zeroL ∧ w0.heap[w.heap.size]? = some (.cells a t (0, 0)) ∧ w0.heap[w.heap.size + 1]? = some (.cells b t (0, 0)) := by
  refine ⟨_, rfl, by go_grown, ?_, heap_old _ _ _ (heap_old _ _ _ (heap_new _ _)), ?_⟩
  · have := tlb_new ((w.alloc (.cells a t)).alloc (.cells b t))
    rwa [World.size_alloc, World.size_alloc] at this
  · have := heap_old _ (.cells (lcells zeroL).toArray 29) _ (heap_new (w.alloc (.cells a t)) (.cells b t))
    rwa [World.size_alloc] at this
set_option maxRecDepth 100000 in
set_option maxHeartbeats 4000000 in
theorem walk_TlbPlaces (a0_0 : Bool) (a0_1 : Int) (a0_2 : Int) (a0_3 : Int) (a0_4 : Bool) (a0_5 : Bool) (a0_6 : Bool) (a0_7 : Bool) (a0_8 : Bool) (a1_0 : Bool) (a1_1 : Int) (a1_2 : Int) (a1_3 : Int) (a1_4 : Bool) (a1_5 : Bool) (a1_6 : Bool) (a1_7 : Bool) (a1_8 : Bool) (a2 : Int) (a3 : Int) (w : World) (w0_1 : (Lit.int .i64 a0_1).wf = true) (w0_2 : (Lit.int .i64 a0_2).wf = true) (w0_3 : (Lit.int .i64 a0_3).wf = true) (w1_1 : (Lit.int .i64 a1_1).wf = true) (w1_2 : (Lit.int .i64 a1_2).wf = true) (w1_3 : (Lit.int .i64 a1_3).wf = true) (w2 : (Lit.int .i64 a2).wf = true) (w3 : (Lit.int .i64 a3).wf = true) :
    Calls Try.prog 3 #[.agg #[.bool a0_0, .int .i64 a0_1, .int .i64 a0_2, .int .i64 a0_3, .bool a0_4, .bool a0_5, .bool a0_6, .bool a0_7, .bool a0_8], .agg #[.bool a1_0, .int .i64 a1_1, .int .i64 a1_2, .int .i64 a1_3, .bool a1_4, .bool a1_5, .bool a1_6, .bool a1_7, .bool a1_8], .int .i64 a2, .int .i64 a3] w fun e w' => e = .returned (.bool true) ∧ Below w.heap.size w w' := by
  clear w0_1 w0_2 w0_3 w1_1 w1_2 w1_3 w2 w3
  have hz := tlb_zero
  obtain ⟨w0, hw0, hB0, hN, ha, hb⟩ := two_boxes w #[.bool a0_0, .int .i64 a0_1, .int .i64 a0_2, .int .i64 a0_3, .bool a0_4, .bool a0_5, .bool a0_6, .bool false, .bool a0_8] #[.bool a1_0, .int .i64 a1_1, .int .i64 a1_2, .int .i64 a1_3, .bool a1_4, .bool a1_5, .bool a1_6, .bool false, .bool a1_8] 25
  have HW := Lib.hid hw0
  have HA := Lib.hid ha
  have HB := Lib.hid hb
  clear hw0 ha hb
  by_cases hp : a0_2 = a1_2
  · subst hp
    go_enter Try.func3, Try.ntmps3
    go_wp2_with fail
    rw [← HW.out]
    refine (awake_true w0).mono ?_
    rintro e w1 ⟨rfl, hb1⟩
    go_wp2
    go_returns
    exact ⟨rfl, b_then hB0 hb1⟩
  · have dp : (a0_2 == a1_2) = false := by simp [hp]
    have HP := Lib.hid hp
    clear hp
    by_cases hoa : OkFill a2 ⟨a0_0, a0_1, a0_2, a0_3, a0_4, a0_5, a0_6, false, a0_8⟩
    · obtain ⟨p, rfl⟩ : ∃ p : Nat, a2 = p := ⟨a2.toNat, by have := hoa.1; omega⟩
      have hp2 : p < 2 := by have := hoa.2.1; omega
      have hpa : 0 ≤ a0_2 := hoa.2.2.2.2.1
      by_cases hob : OkFill a3 ⟨a1_0, a1_1, a1_2, a1_3, a1_4, a1_5, a1_6, false, a1_8⟩
      · obtain ⟨q, rfl⟩ : ∃ q : Nat, a3 = q := ⟨a3.toNat, by have := hob.1; omega⟩
        have hq2 : q < 2 := by have := hob.2.1; omega
        have hpb : 0 ≤ a1_2 := hob.2.2.2.2.1
        have hva : a0_0 = true := hoa.2.2.2.2.2.2
        have hvb : a1_0 = true := hob.2.2.2.2.2.2
        subst hva hvb
        obtain ⟨L2, hL2⟩ : ∃ L, L = fillT (fillT zeroL p ⟨true, a0_1, a0_2, a0_3, a0_4, a0_5, a0_6, false, a0_8⟩) q ⟨true, a1_1, a1_2, a1_3, a1_4, a1_5, a1_6, false, a1_8⟩ := ⟨_, rfl⟩
        have HL2 := Lib.hid hL2
        have f1 := find_first ⟨true, a0_1, a0_2, a0_3, a0_4, a0_5, a0_6, false, a0_8⟩ ⟨true, a1_1, a1_2, a1_3, a1_4, a1_5, a1_6, false, a1_8⟩ p q hp2 hq2 rfl rfl rfl HP.out
        have f2 := find_fill (fillT zeroL p ⟨true, a0_1, a0_2, a0_3, a0_4, a0_5, a0_6, false, a0_8⟩) (by rw [fillT_length, zeroL_len]) q hq2 ⟨true, a1_1, a1_2, a1_3, a1_4, a1_5, a1_6, false, a1_8⟩ rfl
        have f3 := fill_count (fillT zeroL p ⟨true, a0_1, a0_2, a0_3, a0_4, a0_5, a0_6, false, a0_8⟩) (by rw [fillT_length, zeroL_len]) q hq2 ⟨true, a1_1, a1_2, a1_3, a1_4, a1_5, a1_6, false, a1_8⟩
        have f4 := fill_count zeroL zeroL_len p hp2 ⟨true, a0_1, a0_2, a0_3, a0_4, a0_5, a0_6, false, a0_8⟩
        rw [← hL2] at f1 f2 f3
        rw [zero_count] at f4
        have f5 : (linesT L2).length ≤ 2 := by omega
        have F2 := Lib.hid f2
        clear f2 f3 f4 hL2
        simp only [] at f1
        by_cases hs : setOf a0_2 = setOf a1_2
        · by_cases hpq : p = q
          · subst hpq
            rw [if_pos ⟨hs, rfl⟩] at f1
            have F1 := Lib.hid f1
            have e8 : ((a0_2 % 8) != (a1_2 % 8)) = false := by have h1 := setOf_cast a0_2; have h2 := setOf_cast a1_2; simp; omega
            clear f1 hs
            have hS0 := hB0.size
            have q0 := heap_lt HA.out
            have q1 := heap_lt HB.out
            have n0 : w.heap.size ≠ w.heap.size + 1 + 1 := by omega
            have n1 : w.heap.size + 1 ≠ w.heap.size + 1 + 1 := by omega
            have x00 : w0.cell? ⟨w.heap.size, 0, none⟩ = some (.bool true) := cell_heap HA.out 0
            have x01 : w0.cell? ⟨w.heap.size, 1, none⟩ = some (.int .i64 a0_1) := cell_heap HA.out 1
            have x02 : w0.cell? ⟨w.heap.size, 2, none⟩ = some (.int .i64 a0_2) := cell_heap HA.out 2
            have x03 : w0.cell? ⟨w.heap.size, 3, none⟩ = some (.int .i64 a0_3) := cell_heap HA.out 3
            have x04 : w0.cell? ⟨w.heap.size, 4, none⟩ = some (.bool a0_4) := cell_heap HA.out 4
            have x05 : w0.cell? ⟨w.heap.size, 5, none⟩ = some (.bool a0_5) := cell_heap HA.out 5
            have x06 : w0.cell? ⟨w.heap.size, 6, none⟩ = some (.bool a0_6) := cell_heap HA.out 6
            have x07 : w0.cell? ⟨w.heap.size, 7, none⟩ = some (.bool false) := cell_heap HA.out 7
            have x08 : w0.cell? ⟨w.heap.size, 8, none⟩ = some (.bool a0_8) := cell_heap HA.out 8
            have x10 : w0.cell? ⟨w.heap.size + 1, 0, none⟩ = some (.bool true) := cell_heap HB.out 0
            have x11 : w0.cell? ⟨w.heap.size + 1, 1, none⟩ = some (.int .i64 a1_1) := cell_heap HB.out 1
            have x12 : w0.cell? ⟨w.heap.size + 1, 2, none⟩ = some (.int .i64 a1_2) := cell_heap HB.out 2
            have x13 : w0.cell? ⟨w.heap.size + 1, 3, none⟩ = some (.int .i64 a1_3) := cell_heap HB.out 3
            have x14 : w0.cell? ⟨w.heap.size + 1, 4, none⟩ = some (.bool a1_4) := cell_heap HB.out 4
            have x15 : w0.cell? ⟨w.heap.size + 1, 5, none⟩ = some (.bool a1_5) := cell_heap HB.out 5
            have x16 : w0.cell? ⟨w.heap.size + 1, 6, none⟩ = some (.bool a1_6) := cell_heap HB.out 6
            have x17 : w0.cell? ⟨w.heap.size + 1, 7, none⟩ = some (.bool false) := cell_heap HB.out 7
            have x18 : w0.cell? ⟨w.heap.size + 1, 8, none⟩ = some (.bool a1_8) := cell_heap HB.out 8
            go_enter Try.func3, Try.ntmps3
            go_wp2_with fail
            rw [← HW.out]
            refine (fill_ok hN p ⟨true, a0_1, a0_2, a0_3, a0_4, a0_5, a0_6, false, a0_8⟩ hoa).mono ?_
            rintro e v1 ⟨rfl, ht1, hI1⟩
            obtain ⟨hc1, _⟩ := tcell ht1
            have hz1 := ht1.size
            have hB1' := Below.touch hB0 ht1 (Nat.le_refl _) (fun k e => by omega)
            try simp only [World.size_alloc, World.size_setCell, World.size_drew] at hz1
            have z1_0 : w.heap.size < v1.heap.size := by omega
            have z1_1 : w.heap.size + 1 < v1.heap.size := by omega
            clear ht1
            go_wp2_with fail
            refine (fill_ok hI1 p ⟨true, a1_1, a1_2, a1_3, a1_4, a1_5, a1_6, false, a1_8⟩ hob).mono ?_
            rintro e v2 ⟨rfl, ht2, hI2⟩
            obtain ⟨hc2, _⟩ := tcell ht2
            have hz2 := ht2.size
            have hB2' := Below.touch hB1' ht2 (Nat.le_refl _) (fun k e => by omega)
            try simp only [World.size_alloc, World.size_setCell, World.size_drew] at hz2
            have z2_0 : w.heap.size < v2.heap.size := by omega
            have z2_1 : w.heap.size + 1 < v2.heap.size := by omega
            clear ht2
            rw [← HL2.out] at hI2
            go_wp2_with fail
            refine (find_any hI2 a0_1 a0_2).mono ?_
            rw [F1.out]
            rintro e v3 ⟨rfl, hb3⟩
            obtain ⟨hc3, _⟩ := bcell hb3
            have hz3 := hb3.size
            have hB3' := b_then (w := w) hB2' hb3
            have hI3 := hI2.below hb3
            try simp only [World.size_alloc, World.size_setCell, World.size_drew] at hz3
            have z3_0 : w.heap.size < v3.heap.size := by omega
            have z3_1 : w.heap.size + 1 < v3.heap.size := by omega
            clear hb3
            go_wp2_with fail
            refine (find_any (hI3.below (by go_grown)) a1_1 a1_2).mono ?_
            rw [F2.out]
            rintro e v4 ⟨rfl, hb4⟩
            obtain ⟨hc4, _⟩ := bcell hb4
            have hz4 := hb4.size
            have hB4' := b_then (w := w) (b_then hB3' (by go_grown)) hb4
            have hI4 := hI3.below (b_then (by go_grown) hb4)
            try simp only [World.size_alloc, World.size_setCell, World.size_drew] at hz4
            have z4_0 : w.heap.size < v4.heap.size := by omega
            have z4_1 : w.heap.size + 1 < v4.heap.size := by omega
            have z4_2 : v3.heap.size < v4.heap.size := by omega
            clear hb4
            go_wp2_with fail
            refine (awake_true _).mono ?_
            rintro e v5 ⟨rfl, hb5⟩
            obtain ⟨hc5, _⟩ := bcell hb5
            have hz5 := hb5.size
            have hB5' := b_then (w := w) (b_then hB4' (by go_grown)) hb5
            have hI5 := hI4.below (b_then (by go_grown) hb5)
            try simp only [World.size_alloc, World.size_setCell, World.size_drew] at hz5
            have z5_0 : w.heap.size < v5.heap.size := by omega
            have z5_1 : w.heap.size + 1 < v5.heap.size := by omega
            have z5_2 : v3.heap.size < v5.heap.size := by omega
            have z5_3 : v4.heap.size < v5.heap.size := by omega
            clear hb5
            go_wp2_with fail
            refine (lines_any hI5).mono ?_
            rintro e v6 ⟨v, rfl, hb6, hr6⟩
            obtain ⟨A, c, rfl⟩ := row_form hr6
            go_wp2
            go_returns
            exact ⟨ret_v (by simp; omega), b_then hB5' hb6⟩

          · rw [if_neg (fun h => hpq h.2)] at f1
            have F1 := Lib.hid f1
            have e8 : ((a0_2 % 8) != (a1_2 % 8)) = false := by have h1 := setOf_cast a0_2; have h2 := setOf_cast a1_2; simp; omega
            have e9 : ((p : Int) != (q : Int)) = true := by simp; omega
            clear f1 hs hpq
            have hS0 := hB0.size
            have q0 := heap_lt HA.out
            have q1 := heap_lt HB.out
            have n0 : w.heap.size ≠ w.heap.size + 1 + 1 := by omega
            have n1 : w.heap.size + 1 ≠ w.heap.size + 1 + 1 := by omega
            have x00 : w0.cell? ⟨w.heap.size, 0, none⟩ = some (.bool true) := cell_heap HA.out 0
            have x01 : w0.cell? ⟨w.heap.size, 1, none⟩ = some (.int .i64 a0_1) := cell_heap HA.out 1
            have x02 : w0.cell? ⟨w.heap.size, 2, none⟩ = some (.int .i64 a0_2) := cell_heap HA.out 2
            have x03 : w0.cell? ⟨w.heap.size, 3, none⟩ = some (.int .i64 a0_3) := cell_heap HA.out 3
            have x04 : w0.cell? ⟨w.heap.size, 4, none⟩ = some (.bool a0_4) := cell_heap HA.out 4
            have x05 : w0.cell? ⟨w.heap.size, 5, none⟩ = some (.bool a0_5) := cell_heap HA.out 5
            have x06 : w0.cell? ⟨w.heap.size, 6, none⟩ = some (.bool a0_6) := cell_heap HA.out 6
            have x07 : w0.cell? ⟨w.heap.size, 7, none⟩ = some (.bool false) := cell_heap HA.out 7
            have x08 : w0.cell? ⟨w.heap.size, 8, none⟩ = some (.bool a0_8) := cell_heap HA.out 8
            have x10 : w0.cell? ⟨w.heap.size + 1, 0, none⟩ = some (.bool true) := cell_heap HB.out 0
            have x11 : w0.cell? ⟨w.heap.size + 1, 1, none⟩ = some (.int .i64 a1_1) := cell_heap HB.out 1
            have x12 : w0.cell? ⟨w.heap.size + 1, 2, none⟩ = some (.int .i64 a1_2) := cell_heap HB.out 2
            have x13 : w0.cell? ⟨w.heap.size + 1, 3, none⟩ = some (.int .i64 a1_3) := cell_heap HB.out 3
            have x14 : w0.cell? ⟨w.heap.size + 1, 4, none⟩ = some (.bool a1_4) := cell_heap HB.out 4
            have x15 : w0.cell? ⟨w.heap.size + 1, 5, none⟩ = some (.bool a1_5) := cell_heap HB.out 5
            have x16 : w0.cell? ⟨w.heap.size + 1, 6, none⟩ = some (.bool a1_6) := cell_heap HB.out 6
            have x17 : w0.cell? ⟨w.heap.size + 1, 7, none⟩ = some (.bool false) := cell_heap HB.out 7
            have x18 : w0.cell? ⟨w.heap.size + 1, 8, none⟩ = some (.bool a1_8) := cell_heap HB.out 8
            go_enter Try.func3, Try.ntmps3
            go_wp2_with fail
            rw [← HW.out]
            refine (fill_ok hN p ⟨true, a0_1, a0_2, a0_3, a0_4, a0_5, a0_6, false, a0_8⟩ hoa).mono ?_
            rintro e v1 ⟨rfl, ht1, hI1⟩
            obtain ⟨hc1, _⟩ := tcell ht1
            have hz1 := ht1.size
            have hB1' := Below.touch hB0 ht1 (Nat.le_refl _) (fun k e => by omega)
            try simp only [World.size_alloc, World.size_setCell, World.size_drew] at hz1
            have z1_0 : w.heap.size < v1.heap.size := by omega
            have z1_1 : w.heap.size + 1 < v1.heap.size := by omega
            clear ht1
            go_wp2_with fail
            refine (fill_ok hI1 q ⟨true, a1_1, a1_2, a1_3, a1_4, a1_5, a1_6, false, a1_8⟩ hob).mono ?_
            rintro e v2 ⟨rfl, ht2, hI2⟩
            obtain ⟨hc2, _⟩ := tcell ht2
            have hz2 := ht2.size
            have hB2' := Below.touch hB1' ht2 (Nat.le_refl _) (fun k e => by omega)
            try simp only [World.size_alloc, World.size_setCell, World.size_drew] at hz2
            have z2_0 : w.heap.size < v2.heap.size := by omega
            have z2_1 : w.heap.size + 1 < v2.heap.size := by omega
            clear ht2
            rw [← HL2.out] at hI2
            go_wp2_with fail
            refine (find_any hI2 a0_1 a0_2).mono ?_
            rw [F1.out]
            rintro e v3 ⟨rfl, hb3⟩
            obtain ⟨hc3, _⟩ := bcell hb3
            have hz3 := hb3.size
            have hB3' := b_then (w := w) hB2' hb3
            have hI3 := hI2.below hb3
            try simp only [World.size_alloc, World.size_setCell, World.size_drew] at hz3
            have z3_0 : w.heap.size < v3.heap.size := by omega
            have z3_1 : w.heap.size + 1 < v3.heap.size := by omega
            clear hb3
            go_wp2_with fail
            refine (find_any (hI3.below (by go_grown)) a1_1 a1_2).mono ?_
            rw [F2.out]
            rintro e v4 ⟨rfl, hb4⟩
            obtain ⟨hc4, _⟩ := bcell hb4
            have hz4 := hb4.size
            have hB4' := b_then (w := w) (b_then hB3' (by go_grown)) hb4
            have hI4 := hI3.below (b_then (by go_grown) hb4)
            try simp only [World.size_alloc, World.size_setCell, World.size_drew] at hz4
            have z4_0 : w.heap.size < v4.heap.size := by omega
            have z4_1 : w.heap.size + 1 < v4.heap.size := by omega
            have z4_2 : v3.heap.size < v4.heap.size := by omega
            clear hb4
            go_wp2_with fail
            refine (awake_true _).mono ?_
            rintro e v5 ⟨rfl, hb5⟩
            obtain ⟨hc5, _⟩ := bcell hb5
            have hz5 := hb5.size
            have hB5' := b_then (w := w) (b_then hB4' (by go_grown)) hb5
            have hI5 := hI4.below (b_then (by go_grown) hb5)
            try simp only [World.size_alloc, World.size_setCell, World.size_drew] at hz5
            have z5_0 : w.heap.size < v5.heap.size := by omega
            have z5_1 : w.heap.size + 1 < v5.heap.size := by omega
            have z5_2 : v3.heap.size < v5.heap.size := by omega
            have z5_3 : v4.heap.size < v5.heap.size := by omega
            clear hb5
            go_wp2_with fail
            refine (lines_any hI5).mono ?_
            rintro e v6 ⟨v, rfl, hb6, hr6⟩
            obtain ⟨A, c, rfl⟩ := row_form hr6
            go_wp2
            go_returns
            exact ⟨ret_v (by simp; omega), b_then hB5' hb6⟩

        · rw [if_neg (fun h => hs h.1)] at f1
          have F1 := Lib.hid f1
          have e8 : ((a0_2 % 8) != (a1_2 % 8)) = true := by have h1 := setOf_cast a0_2; have h2 := setOf_cast a1_2; simp; omega
          clear f1 hs
          have hS0 := hB0.size
          have q0 := heap_lt HA.out
          have q1 := heap_lt HB.out
          have n0 : w.heap.size ≠ w.heap.size + 1 + 1 := by omega
          have n1 : w.heap.size + 1 ≠ w.heap.size + 1 + 1 := by omega
          have x00 : w0.cell? ⟨w.heap.size, 0, none⟩ = some (.bool true) := cell_heap HA.out 0
          have x01 : w0.cell? ⟨w.heap.size, 1, none⟩ = some (.int .i64 a0_1) := cell_heap HA.out 1
          have x02 : w0.cell? ⟨w.heap.size, 2, none⟩ = some (.int .i64 a0_2) := cell_heap HA.out 2
          have x03 : w0.cell? ⟨w.heap.size, 3, none⟩ = some (.int .i64 a0_3) := cell_heap HA.out 3
          have x04 : w0.cell? ⟨w.heap.size, 4, none⟩ = some (.bool a0_4) := cell_heap HA.out 4
          have x05 : w0.cell? ⟨w.heap.size, 5, none⟩ = some (.bool a0_5) := cell_heap HA.out 5
          have x06 : w0.cell? ⟨w.heap.size, 6, none⟩ = some (.bool a0_6) := cell_heap HA.out 6
          have x07 : w0.cell? ⟨w.heap.size, 7, none⟩ = some (.bool false) := cell_heap HA.out 7
          have x08 : w0.cell? ⟨w.heap.size, 8, none⟩ = some (.bool a0_8) := cell_heap HA.out 8
          have x10 : w0.cell? ⟨w.heap.size + 1, 0, none⟩ = some (.bool true) := cell_heap HB.out 0
          have x11 : w0.cell? ⟨w.heap.size + 1, 1, none⟩ = some (.int .i64 a1_1) := cell_heap HB.out 1
          have x12 : w0.cell? ⟨w.heap.size + 1, 2, none⟩ = some (.int .i64 a1_2) := cell_heap HB.out 2
          have x13 : w0.cell? ⟨w.heap.size + 1, 3, none⟩ = some (.int .i64 a1_3) := cell_heap HB.out 3
          have x14 : w0.cell? ⟨w.heap.size + 1, 4, none⟩ = some (.bool a1_4) := cell_heap HB.out 4
          have x15 : w0.cell? ⟨w.heap.size + 1, 5, none⟩ = some (.bool a1_5) := cell_heap HB.out 5
          have x16 : w0.cell? ⟨w.heap.size + 1, 6, none⟩ = some (.bool a1_6) := cell_heap HB.out 6
          have x17 : w0.cell? ⟨w.heap.size + 1, 7, none⟩ = some (.bool false) := cell_heap HB.out 7
          have x18 : w0.cell? ⟨w.heap.size + 1, 8, none⟩ = some (.bool a1_8) := cell_heap HB.out 8
          go_enter Try.func3, Try.ntmps3
          go_wp2_with fail
          rw [← HW.out]
          refine (fill_ok hN p ⟨true, a0_1, a0_2, a0_3, a0_4, a0_5, a0_6, false, a0_8⟩ hoa).mono ?_
          rintro e v1 ⟨rfl, ht1, hI1⟩
          obtain ⟨hc1, _⟩ := tcell ht1
          have hz1 := ht1.size
          have hB1' := Below.touch hB0 ht1 (Nat.le_refl _) (fun k e => by omega)
          try simp only [World.size_alloc, World.size_setCell, World.size_drew] at hz1
          have z1_0 : w.heap.size < v1.heap.size := by omega
          have z1_1 : w.heap.size + 1 < v1.heap.size := by omega
          clear ht1
          go_wp2_with fail
          refine (fill_ok hI1 q ⟨true, a1_1, a1_2, a1_3, a1_4, a1_5, a1_6, false, a1_8⟩ hob).mono ?_
          rintro e v2 ⟨rfl, ht2, hI2⟩
          obtain ⟨hc2, _⟩ := tcell ht2
          have hz2 := ht2.size
          have hB2' := Below.touch hB1' ht2 (Nat.le_refl _) (fun k e => by omega)
          try simp only [World.size_alloc, World.size_setCell, World.size_drew] at hz2
          have z2_0 : w.heap.size < v2.heap.size := by omega
          have z2_1 : w.heap.size + 1 < v2.heap.size := by omega
          clear ht2
          rw [← HL2.out] at hI2
          go_wp2_with fail
          refine (find_any hI2 a0_1 a0_2).mono ?_
          rw [F1.out]
          rintro e v3 ⟨rfl, hb3⟩
          obtain ⟨hc3, _⟩ := bcell hb3
          have hz3 := hb3.size
          have hB3' := b_then (w := w) hB2' hb3
          have hI3 := hI2.below hb3
          try simp only [World.size_alloc, World.size_setCell, World.size_drew] at hz3
          have z3_0 : w.heap.size < v3.heap.size := by omega
          have z3_1 : w.heap.size + 1 < v3.heap.size := by omega
          clear hb3
          go_wp2_with fail
          refine (find_any (hI3.below (by go_grown)) a1_1 a1_2).mono ?_
          rw [F2.out]
          rintro e v4 ⟨rfl, hb4⟩
          obtain ⟨hc4, _⟩ := bcell hb4
          have hz4 := hb4.size
          have hB4' := b_then (w := w) (b_then hB3' (by go_grown)) hb4
          have hI4 := hI3.below (b_then (by go_grown) hb4)
          try simp only [World.size_alloc, World.size_setCell, World.size_drew] at hz4
          have z4_0 : w.heap.size < v4.heap.size := by omega
          have z4_1 : w.heap.size + 1 < v4.heap.size := by omega
          have z4_2 : v3.heap.size < v4.heap.size := by omega
          clear hb4
          go_wp2_with fail
          refine (awake_true _).mono ?_
          rintro e v5 ⟨rfl, hb5⟩
          obtain ⟨hc5, _⟩ := bcell hb5
          have hz5 := hb5.size
          have hB5' := b_then (w := w) (b_then hB4' (by go_grown)) hb5
          have hI5 := hI4.below (b_then (by go_grown) hb5)
          try simp only [World.size_alloc, World.size_setCell, World.size_drew] at hz5
          have z5_0 : w.heap.size < v5.heap.size := by omega
          have z5_1 : w.heap.size + 1 < v5.heap.size := by omega
          have z5_2 : v3.heap.size < v5.heap.size := by omega
          have z5_3 : v4.heap.size < v5.heap.size := by omega
          clear hb5
          go_wp2_with fail
          refine (lines_any hI5).mono ?_
          rintro e v6 ⟨v, rfl, hb6, hr6⟩
          obtain ⟨A, c, rfl⟩ := row_form hr6
          go_wp2
          go_returns
          exact ⟨ret_v (by simp; omega), b_then hB5' hb6⟩

      · have hS0 := hB0.size
        have q0 := heap_lt HA.out
        have q1 := heap_lt HB.out
        have n0 : w.heap.size ≠ w.heap.size + 1 + 1 := by omega
        have n1 : w.heap.size + 1 ≠ w.heap.size + 1 + 1 := by omega
        have x00 : w0.cell? ⟨w.heap.size, 0, none⟩ = some (.bool a0_0) := cell_heap HA.out 0
        have x01 : w0.cell? ⟨w.heap.size, 1, none⟩ = some (.int .i64 a0_1) := cell_heap HA.out 1
        have x02 : w0.cell? ⟨w.heap.size, 2, none⟩ = some (.int .i64 a0_2) := cell_heap HA.out 2
        have x03 : w0.cell? ⟨w.heap.size, 3, none⟩ = some (.int .i64 a0_3) := cell_heap HA.out 3
        have x04 : w0.cell? ⟨w.heap.size, 4, none⟩ = some (.bool a0_4) := cell_heap HA.out 4
        have x05 : w0.cell? ⟨w.heap.size, 5, none⟩ = some (.bool a0_5) := cell_heap HA.out 5
        have x06 : w0.cell? ⟨w.heap.size, 6, none⟩ = some (.bool a0_6) := cell_heap HA.out 6
        have x07 : w0.cell? ⟨w.heap.size, 7, none⟩ = some (.bool false) := cell_heap HA.out 7
        have x08 : w0.cell? ⟨w.heap.size, 8, none⟩ = some (.bool a0_8) := cell_heap HA.out 8
        have x10 : w0.cell? ⟨w.heap.size + 1, 0, none⟩ = some (.bool a1_0) := cell_heap HB.out 0
        have x11 : w0.cell? ⟨w.heap.size + 1, 1, none⟩ = some (.int .i64 a1_1) := cell_heap HB.out 1
        have x12 : w0.cell? ⟨w.heap.size + 1, 2, none⟩ = some (.int .i64 a1_2) := cell_heap HB.out 2
        have x13 : w0.cell? ⟨w.heap.size + 1, 3, none⟩ = some (.int .i64 a1_3) := cell_heap HB.out 3
        have x14 : w0.cell? ⟨w.heap.size + 1, 4, none⟩ = some (.bool a1_4) := cell_heap HB.out 4
        have x15 : w0.cell? ⟨w.heap.size + 1, 5, none⟩ = some (.bool a1_5) := cell_heap HB.out 5
        have x16 : w0.cell? ⟨w.heap.size + 1, 6, none⟩ = some (.bool a1_6) := cell_heap HB.out 6
        have x17 : w0.cell? ⟨w.heap.size + 1, 7, none⟩ = some (.bool false) := cell_heap HB.out 7
        have x18 : w0.cell? ⟨w.heap.size + 1, 8, none⟩ = some (.bool a1_8) := cell_heap HB.out 8
        go_enter Try.func3, Try.ntmps3
        go_wp2_with fail
        rw [← HW.out]
        refine (fill_ok hN p ⟨a0_0, a0_1, a0_2, a0_3, a0_4, a0_5, a0_6, false, a0_8⟩ hoa).mono ?_
        rintro e v1 ⟨rfl, ht1, hI1⟩
        obtain ⟨hc1, _⟩ := tcell ht1
        have hz1 := ht1.size
        have hB1' := Below.touch hB0 ht1 (Nat.le_refl _) (fun k e => by omega)
        try simp only [World.size_alloc, World.size_setCell, World.size_drew] at hz1
        have z1_0 : w.heap.size < v1.heap.size := by omega
        have z1_1 : w.heap.size + 1 < v1.heap.size := by omega
        clear ht1
        go_wp2_with fail
        refine (fill_bad _ (w.heap.size + 1 + 1) a3 ⟨a1_0, a1_1, a1_2, a1_3, a1_4, a1_5, a1_6, false, a1_8⟩ hob).mono ?_
        rintro e v2 ⟨rfl, hb2⟩
        go_wp2_with fail
        refine (awake_true v2).mono ?_
        rintro e v3 ⟨rfl, hb3⟩
        go_wp2
        go_returns
        exact ⟨rfl, b_then (b_then hB1' hb2) hb3⟩

    · go_enter Try.func3, Try.ntmps3
      go_wp2_with fail
      rw [← HW.out]
      refine (fill_bad w0 (w.heap.size + 1 + 1) a2 ⟨a0_0, a0_1, a0_2, a0_3, a0_4, a0_5, a0_6, false, a0_8⟩ hoa).mono ?_
      rintro e w1 ⟨rfl, hb1⟩
      go_wp2_with fail
      refine (awake_true w1).mono ?_
      rintro e w2 ⟨rfl, hb2⟩
      go_wp2
      go_returns
      exact ⟨rfl, b_then (b_then hB0 hb1) hb2⟩
end Go.Proofs.Ythnojhldpbjkoaa
