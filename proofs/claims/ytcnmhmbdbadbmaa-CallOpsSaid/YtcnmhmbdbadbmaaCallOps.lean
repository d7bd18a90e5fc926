/- CallOps: each Op has words, and nothing else has. No condition. -/
import Derived.Test.YtcnmhmbdbadbmaaCallT
namespace Go.Proofs.Ytcnmhmbdbadbmaa
open Go.ChangeShapes Go.WideShapes Go.ChangeAt Go.RowKit
set_option linter.unusedVariables false
set_option linter.unusedSimpArgs false


set_option maxRecDepth 100000 in
set_option maxHeartbeats 8000000 in
theorem ops_1 (x1 x2 x3 x4 x5 : Int) (l1 : 0 ≤ x1) (l2 : 0 ≤ x2) (l3 : 0 ≤ x3) (l4 : 0 ≤ x4) (l5 : 0 ≤ x5) (u1 : x1 < 18446744073709551616) (u2 : x2 < 18446744073709551616) (u3 : x3 < 18446744073709551616) (u4 : x4 < 18446744073709551616) (u5 : x5 < 18446744073709551616) (w : World) :
    Calls Try.prog 6 #[.int .u64 1, .agg #[.int .u64 x1, .int .u64 x2, .int .u64 x3, .int .u64 x4, .int .u64 x5]] w fun e w' => e = .returned (.bool true) ∧ Below w.heap.size w w' := by
  have H1 := Lib.hid (fun W => call_read 1 x1 x2 x3 x4 x5 (by omega) l1 l2 l3 l4 l5 u1 u2 u3 u4 u5 W)
  obtain ⟨c, hc, hco⟩ : ∃ c, readF 1 1 1 0 0 0 = some c ∧ c.op = 1 := ⟨_, readF_some ((goodF_1 1 1 0 0 0).2 (by omega)), by kernel_rfl⟩
  have H2 := Lib.hid (fun W => call_read 1 1 1 0 0 0 (by omega) (by omega) (by omega) (by omega) (by omega) (by omega) (by omega) (by omega) (by omega) (by omega) (by omega) W)
  rw [hc] at H2
  have HU : Hid (∀ W : World, Calls Try.prog 12 #[.int .u64 1] W fun e w' => e = .returned (.int .i64 3) ∧ w' = W) := Lib.hid (fun W => used_any 1 (by omega) W)
  generalize readF 1 x1 x2 x3 x4 x5 = R at H1
  have HCO := Lib.hid hco
  clear hc hco l1 l2 l3 l4 l5 u1 u2 u3 u4 u5
  obtain ⟨d, hd⟩ : ∃ d, d = rvF R := ⟨_, rfl⟩
  rw [← hd] at H1
  generalize reF R = er at H1
  clear hd
  go_enter Try.func6, Try.ntmps6
  go_wp2_with fail
  refine (H1.out _).mono ?_
  rintro e v1 ⟨rfl, hb1⟩
  have hB1 : Below w.heap.size w v1 := b_then (w := w) (by go_grown) hb1
  have HV1 := Lib.hid hB1.size
  simp only [CV.val, CV.cells, ccells]
  clear hb1
  go_wp2_with fail
  refine (HU.out _).mono ?_
  rintro e v2 ⟨rfl, hw⟩
  obtain rfl := hw.symm
  clear hw
  go_wp2_with fail
  refine (HU.out _).mono ?_
  rintro e v2 ⟨rfl, hw⟩
  obtain rfl := hw.symm
  clear hw
  go_wp2_with fail
  go_loopw [9] (fun i wr => ∃ j : Nat, i = .int .i64 j ∧ 4 ≤ j ∧ j ≤ 6 ∧ Hid (Below w.heap.size w wr) ∧ Hid (∃ xs : List Int, wr.heap[v1.heap.size + 1]? = some (.cells (uvs xs).toArray 24 (0, 0)) ∧ xs.length = 6 ∧ (∀ k, k ≤ 3 → xs[k]? = ([1, 1, 1, 0, 0, 0] : List Int)[k]?) ∧ (∀ k, 4 ≤ k → k < j → xs[k]? = some 0))) (fun i _ => (6 - intOf i).toNat)
  case atStart =>
    refine ⟨4, rfl, by omega, by omega, Lib.hid (b_then hB1 (by go_grown)), Lib.hid ⟨[1, 1, 1, 0, 0, 0], ?_, rfl, fun k _ => rfl, fun k h1 h2 => by omega⟩⟩
    have hnew := heap_new (v1.alloc (.cells #[.int .i64 d.op, .int .i64 d.f, .int .i64 d.t, .bool d.wr, .bool d.us, .bool d.ex, .int .u64 d.addr, .int .i64 d.size, .int .u64 d.x, .int .i64 d.id, .int .i64 d.a, .int .i64 d.b, .int .i64 d.d] 30)) (.cells #[.int .u64 1, .int .u64 1, .int .u64 1, .int .u64 0, .int .u64 0, .int .u64 0] 24)
    rw [World.size_alloc] at hnew
    exact hnew
  case round =>
    clear hB1
    obtain ⟨j, rfl, hj, hj6, HB, HX⟩ := hrel
    obtain ⟨xs, hx, hxl, hlo, hhi⟩ := HX.out
    have HXX := Lib.hid hx
    have HLO := Lib.hid hlo
    have HHI := Lib.hid hhi
    have HXL := Lib.hid hxl
    clear hx hlo hhi hxl HX
    by_cases hlt : j < 6
    · have d0 : decide ((j : Int) < 6) = true := decide_eq_true (by omega)
      obtain ⟨y, hy⟩ := all_get HXL.out hlt
      have g0 : wr.cell? ⟨v1.heap.size + 1, j, none⟩ = some (.int .u64 y) := by rw [cell_heap HXX.out]; simp [hy]
      have f0 : wr.frozen? ⟨v1.heap.size + 1, j, none⟩ = false := frozen_heap HXX.out j
      have hnx : (wr.setCell ⟨v1.heap.size + 1, j, none⟩ (.int .u64 0)).heap[v1.heap.size + 1]? = some (.cells (uvs (xs.set j 0)).toArray 24 (0, 0)) := by rw [show uvs (xs.set j 0) = (uvs xs).set j (.int .u64 0) from List.map_set]; exact setCell_heap HXX.out _
      have HNX := Lib.hid hnx
      have hwv : w.heap.size ≤ v1.heap.size + 1 := by have := HV1.out; omega
      clear hnx hy
      go_wp2_with fail
      go_roundw
      case rel => exact ⟨j + 1, by go_num, by omega, by omega, Lib.hid (Below.touch HB.out ((Touch.refl (fun b => b = v1.heap.size + 1) wr).setCell (a := ⟨v1.heap.size + 1, j, none⟩) (.inl rfl) _) (Nat.le_refl _) (fun k e => by omega)), Lib.hid ⟨_, HNX.out, by rw [List.length_set]; exact HXL.out, fun k hk => by rw [List.getElem?_set_ne (by omega)]; exact HLO.out k hk, fun k h1 h2 => by rcases Nat.lt_or_ge k j with h | h; (rw [List.getElem?_set_ne (by omega)]; exact HHI.out k h1 h); (obtain rfl : k = j := (by omega)); exact List.getElem?_set_self (by rw [HXL.out]; omega)⟩⟩
      case measure => simp [intOf]; omega
    have d0 : decide ((j : Int) < 6) = false := decide_eq_false (by omega)
    have hxe : xs = [1, 1, 1, 0, 0, 0] := by
      apply List.ext_getElem?
      intro k
      rcases Nat.lt_or_ge k 6 with hk | hk
      · rcases Nat.lt_or_ge k 4 with h | h
        · refine (HLO.out k (by omega)).trans ?_; have : k = 0 ∨ k = 1 ∨ k = 2 ∨ k = 3 := by omega
          rcases this with rfl | rfl | rfl | rfl <;> rfl
        · refine (HHI.out k h (by omega)).trans ?_; have : k = 4 ∨ k = 5 := by omega
          rcases this with rfl | rfl <;> rfl
      · rw [List.getElem?_eq_none (by rw [HXL.out]; omega), List.getElem?_eq_none (by simp; omega)]
    subst hxe
    have hxw := HXX.out
    have hxz := heap_lt hxw
    have k0 : wr.cell? ⟨v1.heap.size + 1, 0, none⟩ = some (.int .u64 1) := cell_heap hxw 0
    have k1 : wr.cell? ⟨v1.heap.size + 1, 1, none⟩ = some (.int .u64 1) := cell_heap hxw 1
    have k2 : wr.cell? ⟨v1.heap.size + 1, 2, none⟩ = some (.int .u64 1) := cell_heap hxw 2
    have k3 : wr.cell? ⟨v1.heap.size + 1, 3, none⟩ = some (.int .u64 0) := cell_heap hxw 3
    have k4 : wr.cell? ⟨v1.heap.size + 1, 4, none⟩ = some (.int .u64 0) := cell_heap hxw 4
    have k5 : wr.cell? ⟨v1.heap.size + 1, 5, none⟩ = some (.int .u64 0) := cell_heap hxw 5
    have hB1 := HB.out
    clear hxw
    go_wp2_with fail
    refine (H2.out _).mono ?_
    rintro e v3 ⟨rfl, hb3⟩
    have hB3 : Below w.heap.size w v3 := b_then (w := w) (by go_grown) hb3
    simp only [rvF, reF, Option.getD_some, CV.val, CV.cells, ccells]
    clear hb3
    go_wp2_with fail
    have hcv := heap_new v3 (.cells #[.int .i64 c.op, .int .i64 c.f, .int .i64 c.t, .bool c.wr, .bool c.us, .bool c.ex, .int .u64 c.addr, .int .i64 c.size, .int .u64 c.x, .int .i64 c.id, .int .i64 c.a, .int .i64 c.b, .int .i64 c.d] 30)
    refine (awake_true _).mono ?_
    rintro e v4 ⟨rfl, hb4⟩
    have hc4 := heap_below hb4 hcv
    have g0 : v4.cell? ⟨v3.heap.size, 0, none⟩ = some (.int .i64 c.op) := cell_heap hc4 0
    rw [HCO.out] at g0
    have hz4 := heap_lt hc4
    have hB4 : Below w.heap.size w v4 := b_then (b_then hB3 (by go_grown)) hb4
    clear hc4 hb4 hcv
    go_wp2
    go_returns
    exact ⟨rfl, hB4⟩
set_option maxRecDepth 100000 in
set_option maxHeartbeats 8000000 in
theorem ops_2 (x1 x2 x3 x4 x5 : Int) (l1 : 0 ≤ x1) (l2 : 0 ≤ x2) (l3 : 0 ≤ x3) (l4 : 0 ≤ x4) (l5 : 0 ≤ x5) (u1 : x1 < 18446744073709551616) (u2 : x2 < 18446744073709551616) (u3 : x3 < 18446744073709551616) (u4 : x4 < 18446744073709551616) (u5 : x5 < 18446744073709551616) (w : World) :
    Calls Try.prog 6 #[.int .u64 2, .agg #[.int .u64 x1, .int .u64 x2, .int .u64 x3, .int .u64 x4, .int .u64 x5]] w fun e w' => e = .returned (.bool true) ∧ Below w.heap.size w w' := by
  have H1 := Lib.hid (fun W => call_read 2 x1 x2 x3 x4 x5 (by omega) l1 l2 l3 l4 l5 u1 u2 u3 u4 u5 W)
  obtain ⟨c, hc, hco⟩ : ∃ c, readF 2 1 1 0 0 0 = some c ∧ c.op = 2 := ⟨_, readF_some ((goodF_2 1 1 0 0 0).2 (by omega)), by kernel_rfl⟩
  have H2 := Lib.hid (fun W => call_read 2 1 1 0 0 0 (by omega) (by omega) (by omega) (by omega) (by omega) (by omega) (by omega) (by omega) (by omega) (by omega) (by omega) W)
  rw [hc] at H2
  have HU : Hid (∀ W : World, Calls Try.prog 12 #[.int .u64 2] W fun e w' => e = .returned (.int .i64 2) ∧ w' = W) := Lib.hid (fun W => used_any 2 (by omega) W)
  generalize readF 2 x1 x2 x3 x4 x5 = R at H1
  have HCO := Lib.hid hco
  clear hc hco l1 l2 l3 l4 l5 u1 u2 u3 u4 u5
  obtain ⟨d, hd⟩ : ∃ d, d = rvF R := ⟨_, rfl⟩
  rw [← hd] at H1
  generalize reF R = er at H1
  clear hd
  go_enter Try.func6, Try.ntmps6
  go_wp2_with fail
  refine (H1.out _).mono ?_
  rintro e v1 ⟨rfl, hb1⟩
  have hB1 : Below w.heap.size w v1 := b_then (w := w) (by go_grown) hb1
  have HV1 := Lib.hid hB1.size
  simp only [CV.val, CV.cells, ccells]
  clear hb1
  go_wp2_with fail
  refine (HU.out _).mono ?_
  rintro e v2 ⟨rfl, hw⟩
  obtain rfl := hw.symm
  clear hw
  go_wp2_with fail
  refine (HU.out _).mono ?_
  rintro e v2 ⟨rfl, hw⟩
  obtain rfl := hw.symm
  clear hw
  go_wp2_with fail
  go_loopw [9] (fun i wr => ∃ j : Nat, i = .int .i64 j ∧ 3 ≤ j ∧ j ≤ 6 ∧ Hid (Below w.heap.size w wr) ∧ Hid (∃ xs : List Int, wr.heap[v1.heap.size + 1]? = some (.cells (uvs xs).toArray 24 (0, 0)) ∧ xs.length = 6 ∧ (∀ k, k ≤ 2 → xs[k]? = ([2, 1, 1, 0, 0, 0] : List Int)[k]?) ∧ (∀ k, 3 ≤ k → k < j → xs[k]? = some 0))) (fun i _ => (6 - intOf i).toNat)
  case atStart =>
    refine ⟨3, rfl, by omega, by omega, Lib.hid (b_then hB1 (by go_grown)), Lib.hid ⟨[2, 1, 1, 0, 0, 0], ?_, rfl, fun k _ => rfl, fun k h1 h2 => by omega⟩⟩
    have hnew := heap_new (v1.alloc (.cells #[.int .i64 d.op, .int .i64 d.f, .int .i64 d.t, .bool d.wr, .bool d.us, .bool d.ex, .int .u64 d.addr, .int .i64 d.size, .int .u64 d.x, .int .i64 d.id, .int .i64 d.a, .int .i64 d.b, .int .i64 d.d] 30)) (.cells #[.int .u64 2, .int .u64 1, .int .u64 1, .int .u64 0, .int .u64 0, .int .u64 0] 24)
    rw [World.size_alloc] at hnew
    exact hnew
  case round =>
    clear hB1
    obtain ⟨j, rfl, hj, hj6, HB, HX⟩ := hrel
    obtain ⟨xs, hx, hxl, hlo, hhi⟩ := HX.out
    have HXX := Lib.hid hx
    have HLO := Lib.hid hlo
    have HHI := Lib.hid hhi
    have HXL := Lib.hid hxl
    clear hx hlo hhi hxl HX
    by_cases hlt : j < 6
    · have d0 : decide ((j : Int) < 6) = true := decide_eq_true (by omega)
      obtain ⟨y, hy⟩ := all_get HXL.out hlt
      have g0 : wr.cell? ⟨v1.heap.size + 1, j, none⟩ = some (.int .u64 y) := by rw [cell_heap HXX.out]; simp [hy]
      have f0 : wr.frozen? ⟨v1.heap.size + 1, j, none⟩ = false := frozen_heap HXX.out j
      have hnx : (wr.setCell ⟨v1.heap.size + 1, j, none⟩ (.int .u64 0)).heap[v1.heap.size + 1]? = some (.cells (uvs (xs.set j 0)).toArray 24 (0, 0)) := by rw [show uvs (xs.set j 0) = (uvs xs).set j (.int .u64 0) from List.map_set]; exact setCell_heap HXX.out _
      have HNX := Lib.hid hnx
      have hwv : w.heap.size ≤ v1.heap.size + 1 := by have := HV1.out; omega
      clear hnx hy
      go_wp2_with fail
      go_roundw
      case rel => exact ⟨j + 1, by go_num, by omega, by omega, Lib.hid (Below.touch HB.out ((Touch.refl (fun b => b = v1.heap.size + 1) wr).setCell (a := ⟨v1.heap.size + 1, j, none⟩) (.inl rfl) _) (Nat.le_refl _) (fun k e => by omega)), Lib.hid ⟨_, HNX.out, by rw [List.length_set]; exact HXL.out, fun k hk => by rw [List.getElem?_set_ne (by omega)]; exact HLO.out k hk, fun k h1 h2 => by rcases Nat.lt_or_ge k j with h | h; (rw [List.getElem?_set_ne (by omega)]; exact HHI.out k h1 h); (obtain rfl : k = j := (by omega)); exact List.getElem?_set_self (by rw [HXL.out]; omega)⟩⟩
      case measure => simp [intOf]; omega
    have d0 : decide ((j : Int) < 6) = false := decide_eq_false (by omega)
    have hxe : xs = [2, 1, 1, 0, 0, 0] := by
      apply List.ext_getElem?
      intro k
      rcases Nat.lt_or_ge k 6 with hk | hk
      · rcases Nat.lt_or_ge k 3 with h | h
        · refine (HLO.out k (by omega)).trans ?_; have : k = 0 ∨ k = 1 ∨ k = 2 := by omega
          rcases this with rfl | rfl | rfl <;> rfl
        · refine (HHI.out k h (by omega)).trans ?_; have : k = 3 ∨ k = 4 ∨ k = 5 := by omega
          rcases this with rfl | rfl | rfl <;> rfl
      · rw [List.getElem?_eq_none (by rw [HXL.out]; omega), List.getElem?_eq_none (by simp; omega)]
    subst hxe
    have hxw := HXX.out
    have hxz := heap_lt hxw
    have k0 : wr.cell? ⟨v1.heap.size + 1, 0, none⟩ = some (.int .u64 2) := cell_heap hxw 0
    have k1 : wr.cell? ⟨v1.heap.size + 1, 1, none⟩ = some (.int .u64 1) := cell_heap hxw 1
    have k2 : wr.cell? ⟨v1.heap.size + 1, 2, none⟩ = some (.int .u64 1) := cell_heap hxw 2
    have k3 : wr.cell? ⟨v1.heap.size + 1, 3, none⟩ = some (.int .u64 0) := cell_heap hxw 3
    have k4 : wr.cell? ⟨v1.heap.size + 1, 4, none⟩ = some (.int .u64 0) := cell_heap hxw 4
    have k5 : wr.cell? ⟨v1.heap.size + 1, 5, none⟩ = some (.int .u64 0) := cell_heap hxw 5
    have hB1 := HB.out
    clear hxw
    go_wp2_with fail
    refine (H2.out _).mono ?_
    rintro e v3 ⟨rfl, hb3⟩
    have hB3 : Below w.heap.size w v3 := b_then (w := w) (by go_grown) hb3
    simp only [rvF, reF, Option.getD_some, CV.val, CV.cells, ccells]
    clear hb3
    go_wp2_with fail
    have hcv := heap_new v3 (.cells #[.int .i64 c.op, .int .i64 c.f, .int .i64 c.t, .bool c.wr, .bool c.us, .bool c.ex, .int .u64 c.addr, .int .i64 c.size, .int .u64 c.x, .int .i64 c.id, .int .i64 c.a, .int .i64 c.b, .int .i64 c.d] 30)
    refine (awake_true _).mono ?_
    rintro e v4 ⟨rfl, hb4⟩
    have hc4 := heap_below hb4 hcv
    have g0 : v4.cell? ⟨v3.heap.size, 0, none⟩ = some (.int .i64 c.op) := cell_heap hc4 0
    rw [HCO.out] at g0
    have hz4 := heap_lt hc4
    have hB4 : Below w.heap.size w v4 := b_then (b_then hB3 (by go_grown)) hb4
    clear hc4 hb4 hcv
    go_wp2
    go_returns
    exact ⟨rfl, hB4⟩
set_option maxRecDepth 100000 in
set_option maxHeartbeats 8000000 in
theorem ops_3 (x1 x2 x3 x4 x5 : Int) (l1 : 0 ≤ x1) (l2 : 0 ≤ x2) (l3 : 0 ≤ x3) (l4 : 0 ≤ x4) (l5 : 0 ≤ x5) (u1 : x1 < 18446744073709551616) (u2 : x2 < 18446744073709551616) (u3 : x3 < 18446744073709551616) (u4 : x4 < 18446744073709551616) (u5 : x5 < 18446744073709551616) (w : World) :
    Calls Try.prog 6 #[.int .u64 3, .agg #[.int .u64 x1, .int .u64 x2, .int .u64 x3, .int .u64 x4, .int .u64 x5]] w fun e w' => e = .returned (.bool true) ∧ Below w.heap.size w w' := by
  have H1 := Lib.hid (fun W => call_read 3 x1 x2 x3 x4 x5 (by omega) l1 l2 l3 l4 l5 u1 u2 u3 u4 u5 W)
  obtain ⟨c, hc, hco⟩ : ∃ c, readF 3 1 1 0 0 0 = some c ∧ c.op = 3 := ⟨_, readF_some ((goodF_3 1 1 0 0 0).2 (by omega)), by kernel_rfl⟩
  have H2 := Lib.hid (fun W => call_read 3 1 1 0 0 0 (by omega) (by omega) (by omega) (by omega) (by omega) (by omega) (by omega) (by omega) (by omega) (by omega) (by omega) W)
  rw [hc] at H2
  have HU : Hid (∀ W : World, Calls Try.prog 12 #[.int .u64 3] W fun e w' => e = .returned (.int .i64 3) ∧ w' = W) := Lib.hid (fun W => used_any 3 (by omega) W)
  generalize readF 3 x1 x2 x3 x4 x5 = R at H1
  have HCO := Lib.hid hco
  clear hc hco l1 l2 l3 l4 l5 u1 u2 u3 u4 u5
  obtain ⟨d, hd⟩ : ∃ d, d = rvF R := ⟨_, rfl⟩
  rw [← hd] at H1
  generalize reF R = er at H1
  clear hd
  go_enter Try.func6, Try.ntmps6
  go_wp2_with fail
  refine (H1.out _).mono ?_
  rintro e v1 ⟨rfl, hb1⟩
  have hB1 : Below w.heap.size w v1 := b_then (w := w) (by go_grown) hb1
  have HV1 := Lib.hid hB1.size
  simp only [CV.val, CV.cells, ccells]
  clear hb1
  go_wp2_with fail
  refine (HU.out _).mono ?_
  rintro e v2 ⟨rfl, hw⟩
  obtain rfl := hw.symm
  clear hw
  go_wp2_with fail
  refine (HU.out _).mono ?_
  rintro e v2 ⟨rfl, hw⟩
  obtain rfl := hw.symm
  clear hw
  go_wp2_with fail
  go_loopw [9] (fun i wr => ∃ j : Nat, i = .int .i64 j ∧ 4 ≤ j ∧ j ≤ 6 ∧ Hid (Below w.heap.size w wr) ∧ Hid (∃ xs : List Int, wr.heap[v1.heap.size + 1]? = some (.cells (uvs xs).toArray 24 (0, 0)) ∧ xs.length = 6 ∧ (∀ k, k ≤ 3 → xs[k]? = ([3, 1, 1, 0, 0, 0] : List Int)[k]?) ∧ (∀ k, 4 ≤ k → k < j → xs[k]? = some 0))) (fun i _ => (6 - intOf i).toNat)
  case atStart =>
    refine ⟨4, rfl, by omega, by omega, Lib.hid (b_then hB1 (by go_grown)), Lib.hid ⟨[3, 1, 1, 0, 0, 0], ?_, rfl, fun k _ => rfl, fun k h1 h2 => by omega⟩⟩
    have hnew := heap_new (v1.alloc (.cells #[.int .i64 d.op, .int .i64 d.f, .int .i64 d.t, .bool d.wr, .bool d.us, .bool d.ex, .int .u64 d.addr, .int .i64 d.size, .int .u64 d.x, .int .i64 d.id, .int .i64 d.a, .int .i64 d.b, .int .i64 d.d] 30)) (.cells #[.int .u64 3, .int .u64 1, .int .u64 1, .int .u64 0, .int .u64 0, .int .u64 0] 24)
    rw [World.size_alloc] at hnew
    exact hnew
  case round =>
    clear hB1
    obtain ⟨j, rfl, hj, hj6, HB, HX⟩ := hrel
    obtain ⟨xs, hx, hxl, hlo, hhi⟩ := HX.out
    have HXX := Lib.hid hx
    have HLO := Lib.hid hlo
    have HHI := Lib.hid hhi
    have HXL := Lib.hid hxl
    clear hx hlo hhi hxl HX
    by_cases hlt : j < 6
    · have d0 : decide ((j : Int) < 6) = true := decide_eq_true (by omega)
      obtain ⟨y, hy⟩ := all_get HXL.out hlt
      have g0 : wr.cell? ⟨v1.heap.size + 1, j, none⟩ = some (.int .u64 y) := by rw [cell_heap HXX.out]; simp [hy]
      have f0 : wr.frozen? ⟨v1.heap.size + 1, j, none⟩ = false := frozen_heap HXX.out j
      have hnx : (wr.setCell ⟨v1.heap.size + 1, j, none⟩ (.int .u64 0)).heap[v1.heap.size + 1]? = some (.cells (uvs (xs.set j 0)).toArray 24 (0, 0)) := by rw [show uvs (xs.set j 0) = (uvs xs).set j (.int .u64 0) from List.map_set]; exact setCell_heap HXX.out _
      have HNX := Lib.hid hnx
      have hwv : w.heap.size ≤ v1.heap.size + 1 := by have := HV1.out; omega
      clear hnx hy
      go_wp2_with fail
      go_roundw
      case rel => exact ⟨j + 1, by go_num, by omega, by omega, Lib.hid (Below.touch HB.out ((Touch.refl (fun b => b = v1.heap.size + 1) wr).setCell (a := ⟨v1.heap.size + 1, j, none⟩) (.inl rfl) _) (Nat.le_refl _) (fun k e => by omega)), Lib.hid ⟨_, HNX.out, by rw [List.length_set]; exact HXL.out, fun k hk => by rw [List.getElem?_set_ne (by omega)]; exact HLO.out k hk, fun k h1 h2 => by rcases Nat.lt_or_ge k j with h | h; (rw [List.getElem?_set_ne (by omega)]; exact HHI.out k h1 h); (obtain rfl : k = j := (by omega)); exact List.getElem?_set_self (by rw [HXL.out]; omega)⟩⟩
      case measure => simp [intOf]; omega
    have d0 : decide ((j : Int) < 6) = false := decide_eq_false (by omega)
    have hxe : xs = [3, 1, 1, 0, 0, 0] := by
      apply List.ext_getElem?
      intro k
      rcases Nat.lt_or_ge k 6 with hk | hk
      · rcases Nat.lt_or_ge k 4 with h | h
        · refine (HLO.out k (by omega)).trans ?_; have : k = 0 ∨ k = 1 ∨ k = 2 ∨ k = 3 := by omega
          rcases this with rfl | rfl | rfl | rfl <;> rfl
        · refine (HHI.out k h (by omega)).trans ?_; have : k = 4 ∨ k = 5 := by omega
          rcases this with rfl | rfl <;> rfl
      · rw [List.getElem?_eq_none (by rw [HXL.out]; omega), List.getElem?_eq_none (by simp; omega)]
    subst hxe
    have hxw := HXX.out
    have hxz := heap_lt hxw
    have k0 : wr.cell? ⟨v1.heap.size + 1, 0, none⟩ = some (.int .u64 3) := cell_heap hxw 0
    have k1 : wr.cell? ⟨v1.heap.size + 1, 1, none⟩ = some (.int .u64 1) := cell_heap hxw 1
    have k2 : wr.cell? ⟨v1.heap.size + 1, 2, none⟩ = some (.int .u64 1) := cell_heap hxw 2
    have k3 : wr.cell? ⟨v1.heap.size + 1, 3, none⟩ = some (.int .u64 0) := cell_heap hxw 3
    have k4 : wr.cell? ⟨v1.heap.size + 1, 4, none⟩ = some (.int .u64 0) := cell_heap hxw 4
    have k5 : wr.cell? ⟨v1.heap.size + 1, 5, none⟩ = some (.int .u64 0) := cell_heap hxw 5
    have hB1 := HB.out
    clear hxw
    go_wp2_with fail
    refine (H2.out _).mono ?_
    rintro e v3 ⟨rfl, hb3⟩
    have hB3 : Below w.heap.size w v3 := b_then (w := w) (by go_grown) hb3
    simp only [rvF, reF, Option.getD_some, CV.val, CV.cells, ccells]
    clear hb3
    go_wp2_with fail
    have hcv := heap_new v3 (.cells #[.int .i64 c.op, .int .i64 c.f, .int .i64 c.t, .bool c.wr, .bool c.us, .bool c.ex, .int .u64 c.addr, .int .i64 c.size, .int .u64 c.x, .int .i64 c.id, .int .i64 c.a, .int .i64 c.b, .int .i64 c.d] 30)
    refine (awake_true _).mono ?_
    rintro e v4 ⟨rfl, hb4⟩
    have hc4 := heap_below hb4 hcv
    have g0 : v4.cell? ⟨v3.heap.size, 0, none⟩ = some (.int .i64 c.op) := cell_heap hc4 0
    rw [HCO.out] at g0
    have hz4 := heap_lt hc4
    have hB4 : Below w.heap.size w v4 := b_then (b_then hB3 (by go_grown)) hb4
    clear hc4 hb4 hcv
    go_wp2
    go_returns
    exact ⟨rfl, hB4⟩
set_option maxRecDepth 100000 in
set_option maxHeartbeats 8000000 in
theorem ops_4 (x1 x2 x3 x4 x5 : Int) (l1 : 0 ≤ x1) (l2 : 0 ≤ x2) (l3 : 0 ≤ x3) (l4 : 0 ≤ x4) (l5 : 0 ≤ x5) (u1 : x1 < 18446744073709551616) (u2 : x2 < 18446744073709551616) (u3 : x3 < 18446744073709551616) (u4 : x4 < 18446744073709551616) (u5 : x5 < 18446744073709551616) (w : World) :
    Calls Try.prog 6 #[.int .u64 4, .agg #[.int .u64 x1, .int .u64 x2, .int .u64 x3, .int .u64 x4, .int .u64 x5]] w fun e w' => e = .returned (.bool true) ∧ Below w.heap.size w w' := by
  have H1 := Lib.hid (fun W => call_read 4 x1 x2 x3 x4 x5 (by omega) l1 l2 l3 l4 l5 u1 u2 u3 u4 u5 W)
  obtain ⟨c, hc, hco⟩ : ∃ c, readF 4 8 8 0 0 0 = some c ∧ c.op = 4 := ⟨_, readF_some ((goodF_4 8 8 0 0 0).2 (by omega)), by kernel_rfl⟩
  have H2 := Lib.hid (fun W => call_read 4 8 8 0 0 0 (by omega) (by omega) (by omega) (by omega) (by omega) (by omega) (by omega) (by omega) (by omega) (by omega) (by omega) W)
  rw [hc] at H2
  have HU : Hid (∀ W : World, Calls Try.prog 12 #[.int .u64 4] W fun e w' => e = .returned (.int .i64 2) ∧ w' = W) := Lib.hid (fun W => used_any 4 (by omega) W)
  generalize readF 4 x1 x2 x3 x4 x5 = R at H1
  have HCO := Lib.hid hco
  clear hc hco l1 l2 l3 l4 l5 u1 u2 u3 u4 u5
  obtain ⟨d, hd⟩ : ∃ d, d = rvF R := ⟨_, rfl⟩
  rw [← hd] at H1
  generalize reF R = er at H1
  clear hd
  go_enter Try.func6, Try.ntmps6
  go_wp2_with fail
  refine (H1.out _).mono ?_
  rintro e v1 ⟨rfl, hb1⟩
  have hB1 : Below w.heap.size w v1 := b_then (w := w) (by go_grown) hb1
  have HV1 := Lib.hid hB1.size
  simp only [CV.val, CV.cells, ccells]
  clear hb1
  go_wp2_with fail
  refine (HU.out _).mono ?_
  rintro e v2 ⟨rfl, hw⟩
  obtain rfl := hw.symm
  clear hw
  go_wp2_with fail
  refine (HU.out _).mono ?_
  rintro e v2 ⟨rfl, hw⟩
  obtain rfl := hw.symm
  clear hw
  go_wp2_with fail
  go_loopw [9] (fun i wr => ∃ j : Nat, i = .int .i64 j ∧ 3 ≤ j ∧ j ≤ 6 ∧ Hid (Below w.heap.size w wr) ∧ Hid (∃ xs : List Int, wr.heap[v1.heap.size + 1]? = some (.cells (uvs xs).toArray 24 (0, 0)) ∧ xs.length = 6 ∧ (∀ k, k ≤ 2 → xs[k]? = ([4, 8, 8, 0, 0, 0] : List Int)[k]?) ∧ (∀ k, 3 ≤ k → k < j → xs[k]? = some 0))) (fun i _ => (6 - intOf i).toNat)
  case atStart =>
    refine ⟨3, rfl, by omega, by omega, Lib.hid (b_then hB1 (by go_grown)), Lib.hid ⟨[4, 8, 8, 0, 0, 0], ?_, rfl, fun k _ => rfl, fun k h1 h2 => by omega⟩⟩
    have hnew := heap_new (v1.alloc (.cells #[.int .i64 d.op, .int .i64 d.f, .int .i64 d.t, .bool d.wr, .bool d.us, .bool d.ex, .int .u64 d.addr, .int .i64 d.size, .int .u64 d.x, .int .i64 d.id, .int .i64 d.a, .int .i64 d.b, .int .i64 d.d] 30)) (.cells #[.int .u64 4, .int .u64 8, .int .u64 8, .int .u64 0, .int .u64 0, .int .u64 0] 24)
    rw [World.size_alloc] at hnew
    exact hnew
  case round =>
    clear hB1
    obtain ⟨j, rfl, hj, hj6, HB, HX⟩ := hrel
    obtain ⟨xs, hx, hxl, hlo, hhi⟩ := HX.out
    have HXX := Lib.hid hx
    have HLO := Lib.hid hlo
    have HHI := Lib.hid hhi
    have HXL := Lib.hid hxl
    clear hx hlo hhi hxl HX
    by_cases hlt : j < 6
    · have d0 : decide ((j : Int) < 6) = true := decide_eq_true (by omega)
      obtain ⟨y, hy⟩ := all_get HXL.out hlt
      have g0 : wr.cell? ⟨v1.heap.size + 1, j, none⟩ = some (.int .u64 y) := by rw [cell_heap HXX.out]; simp [hy]
      have f0 : wr.frozen? ⟨v1.heap.size + 1, j, none⟩ = false := frozen_heap HXX.out j
      have hnx : (wr.setCell ⟨v1.heap.size + 1, j, none⟩ (.int .u64 0)).heap[v1.heap.size + 1]? = some (.cells (uvs (xs.set j 0)).toArray 24 (0, 0)) := by rw [show uvs (xs.set j 0) = (uvs xs).set j (.int .u64 0) from List.map_set]; exact setCell_heap HXX.out _
      have HNX := Lib.hid hnx
      have hwv : w.heap.size ≤ v1.heap.size + 1 := by have := HV1.out; omega
      clear hnx hy
      go_wp2_with fail
      go_roundw
      case rel => exact ⟨j + 1, by go_num, by omega, by omega, Lib.hid (Below.touch HB.out ((Touch.refl (fun b => b = v1.heap.size + 1) wr).setCell (a := ⟨v1.heap.size + 1, j, none⟩) (.inl rfl) _) (Nat.le_refl _) (fun k e => by omega)), Lib.hid ⟨_, HNX.out, by rw [List.length_set]; exact HXL.out, fun k hk => by rw [List.getElem?_set_ne (by omega)]; exact HLO.out k hk, fun k h1 h2 => by rcases Nat.lt_or_ge k j with h | h; (rw [List.getElem?_set_ne (by omega)]; exact HHI.out k h1 h); (obtain rfl : k = j := (by omega)); exact List.getElem?_set_self (by rw [HXL.out]; omega)⟩⟩
      case measure => simp [intOf]; omega
    have d0 : decide ((j : Int) < 6) = false := decide_eq_false (by omega)
    have hxe : xs = [4, 8, 8, 0, 0, 0] := by
      apply List.ext_getElem?
      intro k
      rcases Nat.lt_or_ge k 6 with hk | hk
      · rcases Nat.lt_or_ge k 3 with h | h
        · refine (HLO.out k (by omega)).trans ?_; have : k = 0 ∨ k = 1 ∨ k = 2 := by omega
          rcases this with rfl | rfl | rfl <;> rfl
        · refine (HHI.out k h (by omega)).trans ?_; have : k = 3 ∨ k = 4 ∨ k = 5 := by omega
          rcases this with rfl | rfl | rfl <;> rfl
      · rw [List.getElem?_eq_none (by rw [HXL.out]; omega), List.getElem?_eq_none (by simp; omega)]
    subst hxe
    have hxw := HXX.out
    have hxz := heap_lt hxw
    have k0 : wr.cell? ⟨v1.heap.size + 1, 0, none⟩ = some (.int .u64 4) := cell_heap hxw 0
    have k1 : wr.cell? ⟨v1.heap.size + 1, 1, none⟩ = some (.int .u64 8) := cell_heap hxw 1
    have k2 : wr.cell? ⟨v1.heap.size + 1, 2, none⟩ = some (.int .u64 8) := cell_heap hxw 2
    have k3 : wr.cell? ⟨v1.heap.size + 1, 3, none⟩ = some (.int .u64 0) := cell_heap hxw 3
    have k4 : wr.cell? ⟨v1.heap.size + 1, 4, none⟩ = some (.int .u64 0) := cell_heap hxw 4
    have k5 : wr.cell? ⟨v1.heap.size + 1, 5, none⟩ = some (.int .u64 0) := cell_heap hxw 5
    have hB1 := HB.out
    clear hxw
    go_wp2_with fail
    refine (H2.out _).mono ?_
    rintro e v3 ⟨rfl, hb3⟩
    have hB3 : Below w.heap.size w v3 := b_then (w := w) (by go_grown) hb3
    simp only [rvF, reF, Option.getD_some, CV.val, CV.cells, ccells]
    clear hb3
    go_wp2_with fail
    have hcv := heap_new v3 (.cells #[.int .i64 c.op, .int .i64 c.f, .int .i64 c.t, .bool c.wr, .bool c.us, .bool c.ex, .int .u64 c.addr, .int .i64 c.size, .int .u64 c.x, .int .i64 c.id, .int .i64 c.a, .int .i64 c.b, .int .i64 c.d] 30)
    refine (awake_true _).mono ?_
    rintro e v4 ⟨rfl, hb4⟩
    have hc4 := heap_below hb4 hcv
    have g0 : v4.cell? ⟨v3.heap.size, 0, none⟩ = some (.int .i64 c.op) := cell_heap hc4 0
    rw [HCO.out] at g0
    have hz4 := heap_lt hc4
    have hB4 : Below w.heap.size w v4 := b_then (b_then hB3 (by go_grown)) hb4
    clear hc4 hb4 hcv
    go_wp2
    go_returns
    exact ⟨rfl, hB4⟩
set_option maxRecDepth 100000 in
set_option maxHeartbeats 8000000 in
theorem ops_5 (x1 x2 x3 x4 x5 : Int) (l1 : 0 ≤ x1) (l2 : 0 ≤ x2) (l3 : 0 ≤ x3) (l4 : 0 ≤ x4) (l5 : 0 ≤ x5) (u1 : x1 < 18446744073709551616) (u2 : x2 < 18446744073709551616) (u3 : x3 < 18446744073709551616) (u4 : x4 < 18446744073709551616) (u5 : x5 < 18446744073709551616) (w : World) :
    Calls Try.prog 6 #[.int .u64 5, .agg #[.int .u64 x1, .int .u64 x2, .int .u64 x3, .int .u64 x4, .int .u64 x5]] w fun e w' => e = .returned (.bool true) ∧ Below w.heap.size w w' := by
  have H1 := Lib.hid (fun W => call_read 5 x1 x2 x3 x4 x5 (by omega) l1 l2 l3 l4 l5 u1 u2 u3 u4 u5 W)
  obtain ⟨c, hc, hco⟩ : ∃ c, readF 5 8 8 0 0 0 = some c ∧ c.op = 5 := ⟨_, readF_some ((goodF_5 8 8 0 0 0).2 (by omega)), by kernel_rfl⟩
  have H2 := Lib.hid (fun W => call_read 5 8 8 0 0 0 (by omega) (by omega) (by omega) (by omega) (by omega) (by omega) (by omega) (by omega) (by omega) (by omega) (by omega) W)
  rw [hc] at H2
  have HU : Hid (∀ W : World, Calls Try.prog 12 #[.int .u64 5] W fun e w' => e = .returned (.int .i64 3) ∧ w' = W) := Lib.hid (fun W => used_any 5 (by omega) W)
  generalize readF 5 x1 x2 x3 x4 x5 = R at H1
  have HCO := Lib.hid hco
  clear hc hco l1 l2 l3 l4 l5 u1 u2 u3 u4 u5
  obtain ⟨d, hd⟩ : ∃ d, d = rvF R := ⟨_, rfl⟩
  rw [← hd] at H1
  generalize reF R = er at H1
  clear hd
  go_enter Try.func6, Try.ntmps6
  go_wp2_with fail
  refine (H1.out _).mono ?_
  rintro e v1 ⟨rfl, hb1⟩
  have hB1 : Below w.heap.size w v1 := b_then (w := w) (by go_grown) hb1
  have HV1 := Lib.hid hB1.size
  simp only [CV.val, CV.cells, ccells]
  clear hb1
  go_wp2_with fail
  refine (HU.out _).mono ?_
  rintro e v2 ⟨rfl, hw⟩
  obtain rfl := hw.symm
  clear hw
  go_wp2_with fail
  refine (HU.out _).mono ?_
  rintro e v2 ⟨rfl, hw⟩
  obtain rfl := hw.symm
  clear hw
  go_wp2_with fail
  go_loopw [9] (fun i wr => ∃ j : Nat, i = .int .i64 j ∧ 4 ≤ j ∧ j ≤ 6 ∧ Hid (Below w.heap.size w wr) ∧ Hid (∃ xs : List Int, wr.heap[v1.heap.size + 1]? = some (.cells (uvs xs).toArray 24 (0, 0)) ∧ xs.length = 6 ∧ (∀ k, k ≤ 3 → xs[k]? = ([5, 8, 8, 0, 0, 0] : List Int)[k]?) ∧ (∀ k, 4 ≤ k → k < j → xs[k]? = some 0))) (fun i _ => (6 - intOf i).toNat)
  case atStart =>
    refine ⟨4, rfl, by omega, by omega, Lib.hid (b_then hB1 (by go_grown)), Lib.hid ⟨[5, 8, 8, 0, 0, 0], ?_, rfl, fun k _ => rfl, fun k h1 h2 => by omega⟩⟩
    have hnew := heap_new (v1.alloc (.cells #[.int .i64 d.op, .int .i64 d.f, .int .i64 d.t, .bool d.wr, .bool d.us, .bool d.ex, .int .u64 d.addr, .int .i64 d.size, .int .u64 d.x, .int .i64 d.id, .int .i64 d.a, .int .i64 d.b, .int .i64 d.d] 30)) (.cells #[.int .u64 5, .int .u64 8, .int .u64 8, .int .u64 0, .int .u64 0, .int .u64 0] 24)
    rw [World.size_alloc] at hnew
    exact hnew
  case round =>
    clear hB1
    obtain ⟨j, rfl, hj, hj6, HB, HX⟩ := hrel
    obtain ⟨xs, hx, hxl, hlo, hhi⟩ := HX.out
    have HXX := Lib.hid hx
    have HLO := Lib.hid hlo
    have HHI := Lib.hid hhi
    have HXL := Lib.hid hxl
    clear hx hlo hhi hxl HX
    by_cases hlt : j < 6
    · have d0 : decide ((j : Int) < 6) = true := decide_eq_true (by omega)
      obtain ⟨y, hy⟩ := all_get HXL.out hlt
      have g0 : wr.cell? ⟨v1.heap.size + 1, j, none⟩ = some (.int .u64 y) := by rw [cell_heap HXX.out]; simp [hy]
      have f0 : wr.frozen? ⟨v1.heap.size + 1, j, none⟩ = false := frozen_heap HXX.out j
      have hnx : (wr.setCell ⟨v1.heap.size + 1, j, none⟩ (.int .u64 0)).heap[v1.heap.size + 1]? = some (.cells (uvs (xs.set j 0)).toArray 24 (0, 0)) := by rw [show uvs (xs.set j 0) = (uvs xs).set j (.int .u64 0) from List.map_set]; exact setCell_heap HXX.out _
      have HNX := Lib.hid hnx
      have hwv : w.heap.size ≤ v1.heap.size + 1 := by have := HV1.out; omega
      clear hnx hy
      go_wp2_with fail
      go_roundw
      case rel => exact ⟨j + 1, by go_num, by omega, by omega, Lib.hid (Below.touch HB.out ((Touch.refl (fun b => b = v1.heap.size + 1) wr).setCell (a := ⟨v1.heap.size + 1, j, none⟩) (.inl rfl) _) (Nat.le_refl _) (fun k e => by omega)), Lib.hid ⟨_, HNX.out, by rw [List.length_set]; exact HXL.out, fun k hk => by rw [List.getElem?_set_ne (by omega)]; exact HLO.out k hk, fun k h1 h2 => by rcases Nat.lt_or_ge k j with h | h; (rw [List.getElem?_set_ne (by omega)]; exact HHI.out k h1 h); (obtain rfl : k = j := (by omega)); exact List.getElem?_set_self (by rw [HXL.out]; omega)⟩⟩
      case measure => simp [intOf]; omega
    have d0 : decide ((j : Int) < 6) = false := decide_eq_false (by omega)
    have hxe : xs = [5, 8, 8, 0, 0, 0] := by
      apply List.ext_getElem?
      intro k
      rcases Nat.lt_or_ge k 6 with hk | hk
      · rcases Nat.lt_or_ge k 4 with h | h
        · refine (HLO.out k (by omega)).trans ?_; have : k = 0 ∨ k = 1 ∨ k = 2 ∨ k = 3 := by omega
          rcases this with rfl | rfl | rfl | rfl <;> rfl
        · refine (HHI.out k h (by omega)).trans ?_; have : k = 4 ∨ k = 5 := by omega
          rcases this with rfl | rfl <;> rfl
      · rw [List.getElem?_eq_none (by rw [HXL.out]; omega), List.getElem?_eq_none (by simp; omega)]
    subst hxe
    have hxw := HXX.out
    have hxz := heap_lt hxw
    have k0 : wr.cell? ⟨v1.heap.size + 1, 0, none⟩ = some (.int .u64 5) := cell_heap hxw 0
    have k1 : wr.cell? ⟨v1.heap.size + 1, 1, none⟩ = some (.int .u64 8) := cell_heap hxw 1
    have k2 : wr.cell? ⟨v1.heap.size + 1, 2, none⟩ = some (.int .u64 8) := cell_heap hxw 2
    have k3 : wr.cell? ⟨v1.heap.size + 1, 3, none⟩ = some (.int .u64 0) := cell_heap hxw 3
    have k4 : wr.cell? ⟨v1.heap.size + 1, 4, none⟩ = some (.int .u64 0) := cell_heap hxw 4
    have k5 : wr.cell? ⟨v1.heap.size + 1, 5, none⟩ = some (.int .u64 0) := cell_heap hxw 5
    have hB1 := HB.out
    clear hxw
    go_wp2_with fail
    refine (H2.out _).mono ?_
    rintro e v3 ⟨rfl, hb3⟩
    have hB3 : Below w.heap.size w v3 := b_then (w := w) (by go_grown) hb3
    simp only [rvF, reF, Option.getD_some, CV.val, CV.cells, ccells]
    clear hb3
    go_wp2_with fail
    have hcv := heap_new v3 (.cells #[.int .i64 c.op, .int .i64 c.f, .int .i64 c.t, .bool c.wr, .bool c.us, .bool c.ex, .int .u64 c.addr, .int .i64 c.size, .int .u64 c.x, .int .i64 c.id, .int .i64 c.a, .int .i64 c.b, .int .i64 c.d] 30)
    refine (awake_true _).mono ?_
    rintro e v4 ⟨rfl, hb4⟩
    have hc4 := heap_below hb4 hcv
    have g0 : v4.cell? ⟨v3.heap.size, 0, none⟩ = some (.int .i64 c.op) := cell_heap hc4 0
    rw [HCO.out] at g0
    have hz4 := heap_lt hc4
    have hB4 : Below w.heap.size w v4 := b_then (b_then hB3 (by go_grown)) hb4
    clear hc4 hb4 hcv
    go_wp2
    go_returns
    exact ⟨rfl, hB4⟩
set_option maxRecDepth 100000 in
set_option maxHeartbeats 8000000 in
theorem ops_6 (x1 x2 x3 x4 x5 : Int) (l1 : 0 ≤ x1) (l2 : 0 ≤ x2) (l3 : 0 ≤ x3) (l4 : 0 ≤ x4) (l5 : 0 ≤ x5) (u1 : x1 < 18446744073709551616) (u2 : x2 < 18446744073709551616) (u3 : x3 < 18446744073709551616) (u4 : x4 < 18446744073709551616) (u5 : x5 < 18446744073709551616) (w : World) :
    Calls Try.prog 6 #[.int .u64 6, .agg #[.int .u64 x1, .int .u64 x2, .int .u64 x3, .int .u64 x4, .int .u64 x5]] w fun e w' => e = .returned (.bool true) ∧ Below w.heap.size w w' := by
  have H1 := Lib.hid (fun W => call_read 6 x1 x2 x3 x4 x5 (by omega) l1 l2 l3 l4 l5 u1 u2 u3 u4 u5 W)
  obtain ⟨c, hc, hco⟩ : ∃ c, readF 6 1 1 0 0 0 = some c ∧ c.op = 6 := ⟨_, readF_some ((goodF_6 1 1 0 0 0).2 (by omega)), by kernel_rfl⟩
  have H2 := Lib.hid (fun W => call_read 6 1 1 0 0 0 (by omega) (by omega) (by omega) (by omega) (by omega) (by omega) (by omega) (by omega) (by omega) (by omega) (by omega) W)
  rw [hc] at H2
  have HU : Hid (∀ W : World, Calls Try.prog 12 #[.int .u64 6] W fun e w' => e = .returned (.int .i64 3) ∧ w' = W) := Lib.hid (fun W => used_any 6 (by omega) W)
  generalize readF 6 x1 x2 x3 x4 x5 = R at H1
  have HCO := Lib.hid hco
  clear hc hco l1 l2 l3 l4 l5 u1 u2 u3 u4 u5
  obtain ⟨d, hd⟩ : ∃ d, d = rvF R := ⟨_, rfl⟩
  rw [← hd] at H1
  generalize reF R = er at H1
  clear hd
  go_enter Try.func6, Try.ntmps6
  go_wp2_with fail
  refine (H1.out _).mono ?_
  rintro e v1 ⟨rfl, hb1⟩
  have hB1 : Below w.heap.size w v1 := b_then (w := w) (by go_grown) hb1
  have HV1 := Lib.hid hB1.size
  simp only [CV.val, CV.cells, ccells]
  clear hb1
  go_wp2_with fail
  refine (HU.out _).mono ?_
  rintro e v2 ⟨rfl, hw⟩
  obtain rfl := hw.symm
  clear hw
  go_wp2_with fail
  refine (HU.out _).mono ?_
  rintro e v2 ⟨rfl, hw⟩
  obtain rfl := hw.symm
  clear hw
  go_wp2_with fail
  go_loopw [9] (fun i wr => ∃ j : Nat, i = .int .i64 j ∧ 4 ≤ j ∧ j ≤ 6 ∧ Hid (Below w.heap.size w wr) ∧ Hid (∃ xs : List Int, wr.heap[v1.heap.size + 1]? = some (.cells (uvs xs).toArray 24 (0, 0)) ∧ xs.length = 6 ∧ (∀ k, k ≤ 3 → xs[k]? = ([6, 1, 1, 0, 0, 0] : List Int)[k]?) ∧ (∀ k, 4 ≤ k → k < j → xs[k]? = some 0))) (fun i _ => (6 - intOf i).toNat)
  case atStart =>
    refine ⟨4, rfl, by omega, by omega, Lib.hid (b_then hB1 (by go_grown)), Lib.hid ⟨[6, 1, 1, 0, 0, 0], ?_, rfl, fun k _ => rfl, fun k h1 h2 => by omega⟩⟩
    have hnew := heap_new (v1.alloc (.cells #[.int .i64 d.op, .int .i64 d.f, .int .i64 d.t, .bool d.wr, .bool d.us, .bool d.ex, .int .u64 d.addr, .int .i64 d.size, .int .u64 d.x, .int .i64 d.id, .int .i64 d.a, .int .i64 d.b, .int .i64 d.d] 30)) (.cells #[.int .u64 6, .int .u64 1, .int .u64 1, .int .u64 0, .int .u64 0, .int .u64 0] 24)
    rw [World.size_alloc] at hnew
    exact hnew
  case round =>
    clear hB1
    obtain ⟨j, rfl, hj, hj6, HB, HX⟩ := hrel
    obtain ⟨xs, hx, hxl, hlo, hhi⟩ := HX.out
    have HXX := Lib.hid hx
    have HLO := Lib.hid hlo
    have HHI := Lib.hid hhi
    have HXL := Lib.hid hxl
    clear hx hlo hhi hxl HX
    by_cases hlt : j < 6
    · have d0 : decide ((j : Int) < 6) = true := decide_eq_true (by omega)
      obtain ⟨y, hy⟩ := all_get HXL.out hlt
      have g0 : wr.cell? ⟨v1.heap.size + 1, j, none⟩ = some (.int .u64 y) := by rw [cell_heap HXX.out]; simp [hy]
      have f0 : wr.frozen? ⟨v1.heap.size + 1, j, none⟩ = false := frozen_heap HXX.out j
      have hnx : (wr.setCell ⟨v1.heap.size + 1, j, none⟩ (.int .u64 0)).heap[v1.heap.size + 1]? = some (.cells (uvs (xs.set j 0)).toArray 24 (0, 0)) := by rw [show uvs (xs.set j 0) = (uvs xs).set j (.int .u64 0) from List.map_set]; exact setCell_heap HXX.out _
      have HNX := Lib.hid hnx
      have hwv : w.heap.size ≤ v1.heap.size + 1 := by have := HV1.out; omega
      clear hnx hy
      go_wp2_with fail
      go_roundw
      case rel => exact ⟨j + 1, by go_num, by omega, by omega, Lib.hid (Below.touch HB.out ((Touch.refl (fun b => b = v1.heap.size + 1) wr).setCell (a := ⟨v1.heap.size + 1, j, none⟩) (.inl rfl) _) (Nat.le_refl _) (fun k e => by omega)), Lib.hid ⟨_, HNX.out, by rw [List.length_set]; exact HXL.out, fun k hk => by rw [List.getElem?_set_ne (by omega)]; exact HLO.out k hk, fun k h1 h2 => by rcases Nat.lt_or_ge k j with h | h; (rw [List.getElem?_set_ne (by omega)]; exact HHI.out k h1 h); (obtain rfl : k = j := (by omega)); exact List.getElem?_set_self (by rw [HXL.out]; omega)⟩⟩
      case measure => simp [intOf]; omega
    have d0 : decide ((j : Int) < 6) = false := decide_eq_false (by omega)
    have hxe : xs = [6, 1, 1, 0, 0, 0] := by
      apply List.ext_getElem?
      intro k
      rcases Nat.lt_or_ge k 6 with hk | hk
      · rcases Nat.lt_or_ge k 4 with h | h
        · refine (HLO.out k (by omega)).trans ?_; have : k = 0 ∨ k = 1 ∨ k = 2 ∨ k = 3 := by omega
          rcases this with rfl | rfl | rfl | rfl <;> rfl
        · refine (HHI.out k h (by omega)).trans ?_; have : k = 4 ∨ k = 5 := by omega
          rcases this with rfl | rfl <;> rfl
      · rw [List.getElem?_eq_none (by rw [HXL.out]; omega), List.getElem?_eq_none (by simp; omega)]
    subst hxe
    have hxw := HXX.out
    have hxz := heap_lt hxw
    have k0 : wr.cell? ⟨v1.heap.size + 1, 0, none⟩ = some (.int .u64 6) := cell_heap hxw 0
    have k1 : wr.cell? ⟨v1.heap.size + 1, 1, none⟩ = some (.int .u64 1) := cell_heap hxw 1
    have k2 : wr.cell? ⟨v1.heap.size + 1, 2, none⟩ = some (.int .u64 1) := cell_heap hxw 2
    have k3 : wr.cell? ⟨v1.heap.size + 1, 3, none⟩ = some (.int .u64 0) := cell_heap hxw 3
    have k4 : wr.cell? ⟨v1.heap.size + 1, 4, none⟩ = some (.int .u64 0) := cell_heap hxw 4
    have k5 : wr.cell? ⟨v1.heap.size + 1, 5, none⟩ = some (.int .u64 0) := cell_heap hxw 5
    have hB1 := HB.out
    clear hxw
    go_wp2_with fail
    refine (H2.out _).mono ?_
    rintro e v3 ⟨rfl, hb3⟩
    have hB3 : Below w.heap.size w v3 := b_then (w := w) (by go_grown) hb3
    simp only [rvF, reF, Option.getD_some, CV.val, CV.cells, ccells]
    clear hb3
    go_wp2_with fail
    have hcv := heap_new v3 (.cells #[.int .i64 c.op, .int .i64 c.f, .int .i64 c.t, .bool c.wr, .bool c.us, .bool c.ex, .int .u64 c.addr, .int .i64 c.size, .int .u64 c.x, .int .i64 c.id, .int .i64 c.a, .int .i64 c.b, .int .i64 c.d] 30)
    refine (awake_true _).mono ?_
    rintro e v4 ⟨rfl, hb4⟩
    have hc4 := heap_below hb4 hcv
    have g0 : v4.cell? ⟨v3.heap.size, 0, none⟩ = some (.int .i64 c.op) := cell_heap hc4 0
    rw [HCO.out] at g0
    have hz4 := heap_lt hc4
    have hB4 : Below w.heap.size w v4 := b_then (b_then hB3 (by go_grown)) hb4
    clear hc4 hb4 hcv
    go_wp2
    go_returns
    exact ⟨rfl, hB4⟩
set_option maxRecDepth 100000 in
set_option maxHeartbeats 8000000 in
theorem ops_7 (x1 x2 x3 x4 x5 : Int) (l1 : 0 ≤ x1) (l2 : 0 ≤ x2) (l3 : 0 ≤ x3) (l4 : 0 ≤ x4) (l5 : 0 ≤ x5) (u1 : x1 < 18446744073709551616) (u2 : x2 < 18446744073709551616) (u3 : x3 < 18446744073709551616) (u4 : x4 < 18446744073709551616) (u5 : x5 < 18446744073709551616) (w : World) :
    Calls Try.prog 6 #[.int .u64 7, .agg #[.int .u64 x1, .int .u64 x2, .int .u64 x3, .int .u64 x4, .int .u64 x5]] w fun e w' => e = .returned (.bool true) ∧ Below w.heap.size w w' := by
  have H1 := Lib.hid (fun W => call_read 7 x1 x2 x3 x4 x5 (by omega) l1 l2 l3 l4 l5 u1 u2 u3 u4 u5 W)
  obtain ⟨c, hc, hco⟩ : ∃ c, readF 7 1 1 0 0 0 = some c ∧ c.op = 7 := ⟨_, readF_some ((goodF_7 1 1 0 0 0).2 (by omega)), by kernel_rfl⟩
  have H2 := Lib.hid (fun W => call_read 7 1 1 0 0 0 (by omega) (by omega) (by omega) (by omega) (by omega) (by omega) (by omega) (by omega) (by omega) (by omega) (by omega) W)
  rw [hc] at H2
  have HU : Hid (∀ W : World, Calls Try.prog 12 #[.int .u64 7] W fun e w' => e = .returned (.int .i64 2) ∧ w' = W) := Lib.hid (fun W => used_any 7 (by omega) W)
  generalize readF 7 x1 x2 x3 x4 x5 = R at H1
  have HCO := Lib.hid hco
  clear hc hco l1 l2 l3 l4 l5 u1 u2 u3 u4 u5
  obtain ⟨d, hd⟩ : ∃ d, d = rvF R := ⟨_, rfl⟩
  rw [← hd] at H1
  generalize reF R = er at H1
  clear hd
  go_enter Try.func6, Try.ntmps6
  go_wp2_with fail
  refine (H1.out _).mono ?_
  rintro e v1 ⟨rfl, hb1⟩
  have hB1 : Below w.heap.size w v1 := b_then (w := w) (by go_grown) hb1
  have HV1 := Lib.hid hB1.size
  simp only [CV.val, CV.cells, ccells]
  clear hb1
  go_wp2_with fail
  refine (HU.out _).mono ?_
  rintro e v2 ⟨rfl, hw⟩
  obtain rfl := hw.symm
  clear hw
  go_wp2_with fail
  refine (HU.out _).mono ?_
  rintro e v2 ⟨rfl, hw⟩
  obtain rfl := hw.symm
  clear hw
  go_wp2_with fail
  go_loopw [9] (fun i wr => ∃ j : Nat, i = .int .i64 j ∧ 3 ≤ j ∧ j ≤ 6 ∧ Hid (Below w.heap.size w wr) ∧ Hid (∃ xs : List Int, wr.heap[v1.heap.size + 1]? = some (.cells (uvs xs).toArray 24 (0, 0)) ∧ xs.length = 6 ∧ (∀ k, k ≤ 2 → xs[k]? = ([7, 1, 1, 0, 0, 0] : List Int)[k]?) ∧ (∀ k, 3 ≤ k → k < j → xs[k]? = some 0))) (fun i _ => (6 - intOf i).toNat)
  case atStart =>
    refine ⟨3, rfl, by omega, by omega, Lib.hid (b_then hB1 (by go_grown)), Lib.hid ⟨[7, 1, 1, 0, 0, 0], ?_, rfl, fun k _ => rfl, fun k h1 h2 => by omega⟩⟩
    have hnew := heap_new (v1.alloc (.cells #[.int .i64 d.op, .int .i64 d.f, .int .i64 d.t, .bool d.wr, .bool d.us, .bool d.ex, .int .u64 d.addr, .int .i64 d.size, .int .u64 d.x, .int .i64 d.id, .int .i64 d.a, .int .i64 d.b, .int .i64 d.d] 30)) (.cells #[.int .u64 7, .int .u64 1, .int .u64 1, .int .u64 0, .int .u64 0, .int .u64 0] 24)
    rw [World.size_alloc] at hnew
    exact hnew
  case round =>
    clear hB1
    obtain ⟨j, rfl, hj, hj6, HB, HX⟩ := hrel
    obtain ⟨xs, hx, hxl, hlo, hhi⟩ := HX.out
    have HXX := Lib.hid hx
    have HLO := Lib.hid hlo
    have HHI := Lib.hid hhi
    have HXL := Lib.hid hxl
    clear hx hlo hhi hxl HX
    by_cases hlt : j < 6
    · have d0 : decide ((j : Int) < 6) = true := decide_eq_true (by omega)
      obtain ⟨y, hy⟩ := all_get HXL.out hlt
      have g0 : wr.cell? ⟨v1.heap.size + 1, j, none⟩ = some (.int .u64 y) := by rw [cell_heap HXX.out]; simp [hy]
      have f0 : wr.frozen? ⟨v1.heap.size + 1, j, none⟩ = false := frozen_heap HXX.out j
      have hnx : (wr.setCell ⟨v1.heap.size + 1, j, none⟩ (.int .u64 0)).heap[v1.heap.size + 1]? = some (.cells (uvs (xs.set j 0)).toArray 24 (0, 0)) := by rw [show uvs (xs.set j 0) = (uvs xs).set j (.int .u64 0) from List.map_set]; exact setCell_heap HXX.out _
      have HNX := Lib.hid hnx
      have hwv : w.heap.size ≤ v1.heap.size + 1 := by have := HV1.out; omega
      clear hnx hy
      go_wp2_with fail
      go_roundw
      case rel => exact ⟨j + 1, by go_num, by omega, by omega, Lib.hid (Below.touch HB.out ((Touch.refl (fun b => b = v1.heap.size + 1) wr).setCell (a := ⟨v1.heap.size + 1, j, none⟩) (.inl rfl) _) (Nat.le_refl _) (fun k e => by omega)), Lib.hid ⟨_, HNX.out, by rw [List.length_set]; exact HXL.out, fun k hk => by rw [List.getElem?_set_ne (by omega)]; exact HLO.out k hk, fun k h1 h2 => by rcases Nat.lt_or_ge k j with h | h; (rw [List.getElem?_set_ne (by omega)]; exact HHI.out k h1 h); (obtain rfl : k = j := (by omega)); exact List.getElem?_set_self (by rw [HXL.out]; omega)⟩⟩
      case measure => simp [intOf]; omega
    have d0 : decide ((j : Int) < 6) = false := decide_eq_false (by omega)
    have hxe : xs = [7, 1, 1, 0, 0, 0] := by
      apply List.ext_getElem?
      intro k
      rcases Nat.lt_or_ge k 6 with hk | hk
      · rcases Nat.lt_or_ge k 3 with h | h
        · refine (HLO.out k (by omega)).trans ?_; have : k = 0 ∨ k = 1 ∨ k = 2 := by omega
          rcases this with rfl | rfl | rfl <;> rfl
        · refine (HHI.out k h (by omega)).trans ?_; have : k = 3 ∨ k = 4 ∨ k = 5 := by omega
          rcases this with rfl | rfl | rfl <;> rfl
      · rw [List.getElem?_eq_none (by rw [HXL.out]; omega), List.getElem?_eq_none (by simp; omega)]
    subst hxe
    have hxw := HXX.out
    have hxz := heap_lt hxw
    have k0 : wr.cell? ⟨v1.heap.size + 1, 0, none⟩ = some (.int .u64 7) := cell_heap hxw 0
    have k1 : wr.cell? ⟨v1.heap.size + 1, 1, none⟩ = some (.int .u64 1) := cell_heap hxw 1
    have k2 : wr.cell? ⟨v1.heap.size + 1, 2, none⟩ = some (.int .u64 1) := cell_heap hxw 2
    have k3 : wr.cell? ⟨v1.heap.size + 1, 3, none⟩ = some (.int .u64 0) := cell_heap hxw 3
    have k4 : wr.cell? ⟨v1.heap.size + 1, 4, none⟩ = some (.int .u64 0) := cell_heap hxw 4
    have k5 : wr.cell? ⟨v1.heap.size + 1, 5, none⟩ = some (.int .u64 0) := cell_heap hxw 5
    have hB1 := HB.out
    clear hxw
    go_wp2_with fail
    refine (H2.out _).mono ?_
    rintro e v3 ⟨rfl, hb3⟩
    have hB3 : Below w.heap.size w v3 := b_then (w := w) (by go_grown) hb3
    simp only [rvF, reF, Option.getD_some, CV.val, CV.cells, ccells]
    clear hb3
    go_wp2_with fail
    have hcv := heap_new v3 (.cells #[.int .i64 c.op, .int .i64 c.f, .int .i64 c.t, .bool c.wr, .bool c.us, .bool c.ex, .int .u64 c.addr, .int .i64 c.size, .int .u64 c.x, .int .i64 c.id, .int .i64 c.a, .int .i64 c.b, .int .i64 c.d] 30)
    refine (awake_true _).mono ?_
    rintro e v4 ⟨rfl, hb4⟩
    have hc4 := heap_below hb4 hcv
    have g0 : v4.cell? ⟨v3.heap.size, 0, none⟩ = some (.int .i64 c.op) := cell_heap hc4 0
    rw [HCO.out] at g0
    have hz4 := heap_lt hc4
    have hB4 : Below w.heap.size w v4 := b_then (b_then hB3 (by go_grown)) hb4
    clear hc4 hb4 hcv
    go_wp2
    go_returns
    exact ⟨rfl, hB4⟩
set_option maxRecDepth 100000 in
set_option maxHeartbeats 8000000 in
theorem ops_8 (x1 x2 x3 x4 x5 : Int) (l1 : 0 ≤ x1) (l2 : 0 ≤ x2) (l3 : 0 ≤ x3) (l4 : 0 ≤ x4) (l5 : 0 ≤ x5) (u1 : x1 < 18446744073709551616) (u2 : x2 < 18446744073709551616) (u3 : x3 < 18446744073709551616) (u4 : x4 < 18446744073709551616) (u5 : x5 < 18446744073709551616) (w : World) :
    Calls Try.prog 6 #[.int .u64 8, .agg #[.int .u64 x1, .int .u64 x2, .int .u64 x3, .int .u64 x4, .int .u64 x5]] w fun e w' => e = .returned (.bool true) ∧ Below w.heap.size w w' := by
  have H1 := Lib.hid (fun W => call_read 8 x1 x2 x3 x4 x5 (by omega) l1 l2 l3 l4 l5 u1 u2 u3 u4 u5 W)
  obtain ⟨c, hc, hco⟩ : ∃ c, readF 8 1 0 0 0 0 = some c ∧ c.op = 8 := ⟨_, readF_some ((goodF_8 1 0 0 0 0).2 (by omega)), by kernel_rfl⟩
  have H2 := Lib.hid (fun W => call_read 8 1 0 0 0 0 (by omega) (by omega) (by omega) (by omega) (by omega) (by omega) (by omega) (by omega) (by omega) (by omega) (by omega) W)
  rw [hc] at H2
  have HU : Hid (∀ W : World, Calls Try.prog 12 #[.int .u64 8] W fun e w' => e = .returned (.int .i64 1) ∧ w' = W) := Lib.hid (fun W => used_any 8 (by omega) W)
  generalize readF 8 x1 x2 x3 x4 x5 = R at H1
  have HCO := Lib.hid hco
  clear hc hco l1 l2 l3 l4 l5 u1 u2 u3 u4 u5
  obtain ⟨d, hd⟩ : ∃ d, d = rvF R := ⟨_, rfl⟩
  rw [← hd] at H1
  generalize reF R = er at H1
  clear hd
  go_enter Try.func6, Try.ntmps6
  go_wp2_with fail
  refine (H1.out _).mono ?_
  rintro e v1 ⟨rfl, hb1⟩
  have hB1 : Below w.heap.size w v1 := b_then (w := w) (by go_grown) hb1
  have HV1 := Lib.hid hB1.size
  simp only [CV.val, CV.cells, ccells]
  clear hb1
  go_wp2_with fail
  refine (HU.out _).mono ?_
  rintro e v2 ⟨rfl, hw⟩
  obtain rfl := hw.symm
  clear hw
  go_wp2_with fail
  refine (HU.out _).mono ?_
  rintro e v2 ⟨rfl, hw⟩
  obtain rfl := hw.symm
  clear hw
  go_wp2_with fail
  go_loopw [9] (fun i wr => ∃ j : Nat, i = .int .i64 j ∧ 2 ≤ j ∧ j ≤ 6 ∧ Hid (Below w.heap.size w wr) ∧ Hid (∃ xs : List Int, wr.heap[v1.heap.size + 1]? = some (.cells (uvs xs).toArray 24 (0, 0)) ∧ xs.length = 6 ∧ (∀ k, k ≤ 1 → xs[k]? = ([8, 1, 1, 0, 0, 0] : List Int)[k]?) ∧ (∀ k, 2 ≤ k → k < j → xs[k]? = some 0))) (fun i _ => (6 - intOf i).toNat)
  case atStart =>
    refine ⟨2, rfl, by omega, by omega, Lib.hid (b_then hB1 (by go_grown)), Lib.hid ⟨[8, 1, 1, 0, 0, 0], ?_, rfl, fun k _ => rfl, fun k h1 h2 => by omega⟩⟩
    have hnew := heap_new (v1.alloc (.cells #[.int .i64 d.op, .int .i64 d.f, .int .i64 d.t, .bool d.wr, .bool d.us, .bool d.ex, .int .u64 d.addr, .int .i64 d.size, .int .u64 d.x, .int .i64 d.id, .int .i64 d.a, .int .i64 d.b, .int .i64 d.d] 30)) (.cells #[.int .u64 8, .int .u64 1, .int .u64 1, .int .u64 0, .int .u64 0, .int .u64 0] 24)
    rw [World.size_alloc] at hnew
    exact hnew
  case round =>
    clear hB1
    obtain ⟨j, rfl, hj, hj6, HB, HX⟩ := hrel
    obtain ⟨xs, hx, hxl, hlo, hhi⟩ := HX.out
    have HXX := Lib.hid hx
    have HLO := Lib.hid hlo
    have HHI := Lib.hid hhi
    have HXL := Lib.hid hxl
    clear hx hlo hhi hxl HX
    by_cases hlt : j < 6
    · have d0 : decide ((j : Int) < 6) = true := decide_eq_true (by omega)
      obtain ⟨y, hy⟩ := all_get HXL.out hlt
      have g0 : wr.cell? ⟨v1.heap.size + 1, j, none⟩ = some (.int .u64 y) := by rw [cell_heap HXX.out]; simp [hy]
      have f0 : wr.frozen? ⟨v1.heap.size + 1, j, none⟩ = false := frozen_heap HXX.out j
      have hnx : (wr.setCell ⟨v1.heap.size + 1, j, none⟩ (.int .u64 0)).heap[v1.heap.size + 1]? = some (.cells (uvs (xs.set j 0)).toArray 24 (0, 0)) := by rw [show uvs (xs.set j 0) = (uvs xs).set j (.int .u64 0) from List.map_set]; exact setCell_heap HXX.out _
      have HNX := Lib.hid hnx
      have hwv : w.heap.size ≤ v1.heap.size + 1 := by have := HV1.out; omega
      clear hnx hy
      go_wp2_with fail
      go_roundw
      case rel => exact ⟨j + 1, by go_num, by omega, by omega, Lib.hid (Below.touch HB.out ((Touch.refl (fun b => b = v1.heap.size + 1) wr).setCell (a := ⟨v1.heap.size + 1, j, none⟩) (.inl rfl) _) (Nat.le_refl _) (fun k e => by omega)), Lib.hid ⟨_, HNX.out, by rw [List.length_set]; exact HXL.out, fun k hk => by rw [List.getElem?_set_ne (by omega)]; exact HLO.out k hk, fun k h1 h2 => by rcases Nat.lt_or_ge k j with h | h; (rw [List.getElem?_set_ne (by omega)]; exact HHI.out k h1 h); (obtain rfl : k = j := (by omega)); exact List.getElem?_set_self (by rw [HXL.out]; omega)⟩⟩
      case measure => simp [intOf]; omega
    have d0 : decide ((j : Int) < 6) = false := decide_eq_false (by omega)
    have hxe : xs = [8, 1, 0, 0, 0, 0] := by
      apply List.ext_getElem?
      intro k
      rcases Nat.lt_or_ge k 6 with hk | hk
      · rcases Nat.lt_or_ge k 2 with h | h
        · refine (HLO.out k (by omega)).trans ?_; have : k = 0 ∨ k = 1 := by omega
          rcases this with rfl | rfl <;> rfl
        · refine (HHI.out k h (by omega)).trans ?_; have : k = 2 ∨ k = 3 ∨ k = 4 ∨ k = 5 := by omega
          rcases this with rfl | rfl | rfl | rfl <;> rfl
      · rw [List.getElem?_eq_none (by rw [HXL.out]; omega), List.getElem?_eq_none (by simp; omega)]
    subst hxe
    have hxw := HXX.out
    have hxz := heap_lt hxw
    have k0 : wr.cell? ⟨v1.heap.size + 1, 0, none⟩ = some (.int .u64 8) := cell_heap hxw 0
    have k1 : wr.cell? ⟨v1.heap.size + 1, 1, none⟩ = some (.int .u64 1) := cell_heap hxw 1
    have k2 : wr.cell? ⟨v1.heap.size + 1, 2, none⟩ = some (.int .u64 0) := cell_heap hxw 2
    have k3 : wr.cell? ⟨v1.heap.size + 1, 3, none⟩ = some (.int .u64 0) := cell_heap hxw 3
    have k4 : wr.cell? ⟨v1.heap.size + 1, 4, none⟩ = some (.int .u64 0) := cell_heap hxw 4
    have k5 : wr.cell? ⟨v1.heap.size + 1, 5, none⟩ = some (.int .u64 0) := cell_heap hxw 5
    have hB1 := HB.out
    clear hxw
    go_wp2_with fail
    refine (H2.out _).mono ?_
    rintro e v3 ⟨rfl, hb3⟩
    have hB3 : Below w.heap.size w v3 := b_then (w := w) (by go_grown) hb3
    simp only [rvF, reF, Option.getD_some, CV.val, CV.cells, ccells]
    clear hb3
    go_wp2_with fail
    have hcv := heap_new v3 (.cells #[.int .i64 c.op, .int .i64 c.f, .int .i64 c.t, .bool c.wr, .bool c.us, .bool c.ex, .int .u64 c.addr, .int .i64 c.size, .int .u64 c.x, .int .i64 c.id, .int .i64 c.a, .int .i64 c.b, .int .i64 c.d] 30)
    refine (awake_true _).mono ?_
    rintro e v4 ⟨rfl, hb4⟩
    have hc4 := heap_below hb4 hcv
    have g0 : v4.cell? ⟨v3.heap.size, 0, none⟩ = some (.int .i64 c.op) := cell_heap hc4 0
    rw [HCO.out] at g0
    have hz4 := heap_lt hc4
    have hB4 : Below w.heap.size w v4 := b_then (b_then hB3 (by go_grown)) hb4
    clear hc4 hb4 hcv
    go_wp2
    go_returns
    exact ⟨rfl, hB4⟩
set_option maxRecDepth 100000 in
set_option maxHeartbeats 8000000 in
theorem ops_9 (x1 x2 x3 x4 x5 : Int) (l1 : 0 ≤ x1) (l2 : 0 ≤ x2) (l3 : 0 ≤ x3) (l4 : 0 ≤ x4) (l5 : 0 ≤ x5) (u1 : x1 < 18446744073709551616) (u2 : x2 < 18446744073709551616) (u3 : x3 < 18446744073709551616) (u4 : x4 < 18446744073709551616) (u5 : x5 < 18446744073709551616) (w : World) :
    Calls Try.prog 6 #[.int .u64 9, .agg #[.int .u64 x1, .int .u64 x2, .int .u64 x3, .int .u64 x4, .int .u64 x5]] w fun e w' => e = .returned (.bool true) ∧ Below w.heap.size w w' := by
  have H1 := Lib.hid (fun W => call_read 9 x1 x2 x3 x4 x5 (by omega) l1 l2 l3 l4 l5 u1 u2 u3 u4 u5 W)
  obtain ⟨c, hc, hco⟩ : ∃ c, readF 9 1 0 0 0 0 = some c ∧ c.op = 9 := ⟨_, readF_some ((goodF_9 1 0 0 0 0).2 (by omega)), by kernel_rfl⟩
  have H2 := Lib.hid (fun W => call_read 9 1 0 0 0 0 (by omega) (by omega) (by omega) (by omega) (by omega) (by omega) (by omega) (by omega) (by omega) (by omega) (by omega) W)
  rw [hc] at H2
  have HU : Hid (∀ W : World, Calls Try.prog 12 #[.int .u64 9] W fun e w' => e = .returned (.int .i64 1) ∧ w' = W) := Lib.hid (fun W => used_any 9 (by omega) W)
  generalize readF 9 x1 x2 x3 x4 x5 = R at H1
  have HCO := Lib.hid hco
  clear hc hco l1 l2 l3 l4 l5 u1 u2 u3 u4 u5
  obtain ⟨d, hd⟩ : ∃ d, d = rvF R := ⟨_, rfl⟩
  rw [← hd] at H1
  generalize reF R = er at H1
  clear hd
  go_enter Try.func6, Try.ntmps6
  go_wp2_with fail
  refine (H1.out _).mono ?_
  rintro e v1 ⟨rfl, hb1⟩
  have hB1 : Below w.heap.size w v1 := b_then (w := w) (by go_grown) hb1
  have HV1 := Lib.hid hB1.size
  simp only [CV.val, CV.cells, ccells]
  clear hb1
  go_wp2_with fail
  refine (HU.out _).mono ?_
  rintro e v2 ⟨rfl, hw⟩
  obtain rfl := hw.symm
  clear hw
  go_wp2_with fail
  refine (HU.out _).mono ?_
  rintro e v2 ⟨rfl, hw⟩
  obtain rfl := hw.symm
  clear hw
  go_wp2_with fail
  go_loopw [9] (fun i wr => ∃ j : Nat, i = .int .i64 j ∧ 2 ≤ j ∧ j ≤ 6 ∧ Hid (Below w.heap.size w wr) ∧ Hid (∃ xs : List Int, wr.heap[v1.heap.size + 1]? = some (.cells (uvs xs).toArray 24 (0, 0)) ∧ xs.length = 6 ∧ (∀ k, k ≤ 1 → xs[k]? = ([9, 1, 1, 0, 0, 0] : List Int)[k]?) ∧ (∀ k, 2 ≤ k → k < j → xs[k]? = some 0))) (fun i _ => (6 - intOf i).toNat)
  case atStart =>
    refine ⟨2, rfl, by omega, by omega, Lib.hid (b_then hB1 (by go_grown)), Lib.hid ⟨[9, 1, 1, 0, 0, 0], ?_, rfl, fun k _ => rfl, fun k h1 h2 => by omega⟩⟩
    have hnew := heap_new (v1.alloc (.cells #[.int .i64 d.op, .int .i64 d.f, .int .i64 d.t, .bool d.wr, .bool d.us, .bool d.ex, .int .u64 d.addr, .int .i64 d.size, .int .u64 d.x, .int .i64 d.id, .int .i64 d.a, .int .i64 d.b, .int .i64 d.d] 30)) (.cells #[.int .u64 9, .int .u64 1, .int .u64 1, .int .u64 0, .int .u64 0, .int .u64 0] 24)
    rw [World.size_alloc] at hnew
    exact hnew
  case round =>
    clear hB1
    obtain ⟨j, rfl, hj, hj6, HB, HX⟩ := hrel
    obtain ⟨xs, hx, hxl, hlo, hhi⟩ := HX.out
    have HXX := Lib.hid hx
    have HLO := Lib.hid hlo
    have HHI := Lib.hid hhi
    have HXL := Lib.hid hxl
    clear hx hlo hhi hxl HX
    by_cases hlt : j < 6
    · have d0 : decide ((j : Int) < 6) = true := decide_eq_true (by omega)
      obtain ⟨y, hy⟩ := all_get HXL.out hlt
      have g0 : wr.cell? ⟨v1.heap.size + 1, j, none⟩ = some (.int .u64 y) := by rw [cell_heap HXX.out]; simp [hy]
      have f0 : wr.frozen? ⟨v1.heap.size + 1, j, none⟩ = false := frozen_heap HXX.out j
      have hnx : (wr.setCell ⟨v1.heap.size + 1, j, none⟩ (.int .u64 0)).heap[v1.heap.size + 1]? = some (.cells (uvs (xs.set j 0)).toArray 24 (0, 0)) := by rw [show uvs (xs.set j 0) = (uvs xs).set j (.int .u64 0) from List.map_set]; exact setCell_heap HXX.out _
      have HNX := Lib.hid hnx
      have hwv : w.heap.size ≤ v1.heap.size + 1 := by have := HV1.out; omega
      clear hnx hy
      go_wp2_with fail
      go_roundw
      case rel => exact ⟨j + 1, by go_num, by omega, by omega, Lib.hid (Below.touch HB.out ((Touch.refl (fun b => b = v1.heap.size + 1) wr).setCell (a := ⟨v1.heap.size + 1, j, none⟩) (.inl rfl) _) (Nat.le_refl _) (fun k e => by omega)), Lib.hid ⟨_, HNX.out, by rw [List.length_set]; exact HXL.out, fun k hk => by rw [List.getElem?_set_ne (by omega)]; exact HLO.out k hk, fun k h1 h2 => by rcases Nat.lt_or_ge k j with h | h; (rw [List.getElem?_set_ne (by omega)]; exact HHI.out k h1 h); (obtain rfl : k = j := (by omega)); exact List.getElem?_set_self (by rw [HXL.out]; omega)⟩⟩
      case measure => simp [intOf]; omega
    have d0 : decide ((j : Int) < 6) = false := decide_eq_false (by omega)
    have hxe : xs = [9, 1, 0, 0, 0, 0] := by
      apply List.ext_getElem?
      intro k
      rcases Nat.lt_or_ge k 6 with hk | hk
      · rcases Nat.lt_or_ge k 2 with h | h
        · refine (HLO.out k (by omega)).trans ?_; have : k = 0 ∨ k = 1 := by omega
          rcases this with rfl | rfl <;> rfl
        · refine (HHI.out k h (by omega)).trans ?_; have : k = 2 ∨ k = 3 ∨ k = 4 ∨ k = 5 := by omega
          rcases this with rfl | rfl | rfl | rfl <;> rfl
      · rw [List.getElem?_eq_none (by rw [HXL.out]; omega), List.getElem?_eq_none (by simp; omega)]
    subst hxe
    have hxw := HXX.out
    have hxz := heap_lt hxw
    have k0 : wr.cell? ⟨v1.heap.size + 1, 0, none⟩ = some (.int .u64 9) := cell_heap hxw 0
    have k1 : wr.cell? ⟨v1.heap.size + 1, 1, none⟩ = some (.int .u64 1) := cell_heap hxw 1
    have k2 : wr.cell? ⟨v1.heap.size + 1, 2, none⟩ = some (.int .u64 0) := cell_heap hxw 2
    have k3 : wr.cell? ⟨v1.heap.size + 1, 3, none⟩ = some (.int .u64 0) := cell_heap hxw 3
    have k4 : wr.cell? ⟨v1.heap.size + 1, 4, none⟩ = some (.int .u64 0) := cell_heap hxw 4
    have k5 : wr.cell? ⟨v1.heap.size + 1, 5, none⟩ = some (.int .u64 0) := cell_heap hxw 5
    have hB1 := HB.out
    clear hxw
    go_wp2_with fail
    refine (H2.out _).mono ?_
    rintro e v3 ⟨rfl, hb3⟩
    have hB3 : Below w.heap.size w v3 := b_then (w := w) (by go_grown) hb3
    simp only [rvF, reF, Option.getD_some, CV.val, CV.cells, ccells]
    clear hb3
    go_wp2_with fail
    have hcv := heap_new v3 (.cells #[.int .i64 c.op, .int .i64 c.f, .int .i64 c.t, .bool c.wr, .bool c.us, .bool c.ex, .int .u64 c.addr, .int .i64 c.size, .int .u64 c.x, .int .i64 c.id, .int .i64 c.a, .int .i64 c.b, .int .i64 c.d] 30)
    refine (awake_true _).mono ?_
    rintro e v4 ⟨rfl, hb4⟩
    have hc4 := heap_below hb4 hcv
    have g0 : v4.cell? ⟨v3.heap.size, 0, none⟩ = some (.int .i64 c.op) := cell_heap hc4 0
    rw [HCO.out] at g0
    have hz4 := heap_lt hc4
    have hB4 : Below w.heap.size w v4 := b_then (b_then hB3 (by go_grown)) hb4
    clear hc4 hb4 hcv
    go_wp2
    go_returns
    exact ⟨rfl, hB4⟩
set_option maxRecDepth 100000 in
set_option maxHeartbeats 8000000 in
theorem ops_10 (x1 x2 x3 x4 x5 : Int) (l1 : 0 ≤ x1) (l2 : 0 ≤ x2) (l3 : 0 ≤ x3) (l4 : 0 ≤ x4) (l5 : 0 ≤ x5) (u1 : x1 < 18446744073709551616) (u2 : x2 < 18446744073709551616) (u3 : x3 < 18446744073709551616) (u4 : x4 < 18446744073709551616) (u5 : x5 < 18446744073709551616) (w : World) :
    Calls Try.prog 6 #[.int .u64 10, .agg #[.int .u64 x1, .int .u64 x2, .int .u64 x3, .int .u64 x4, .int .u64 x5]] w fun e w' => e = .returned (.bool true) ∧ Below w.heap.size w w' := by
  have H1 := Lib.hid (fun W => call_read 10 x1 x2 x3 x4 x5 (by omega) l1 l2 l3 l4 l5 u1 u2 u3 u4 u5 W)
  obtain ⟨c, hc, hco⟩ : ∃ c, readF 10 1 0 0 0 0 = some c ∧ c.op = 10 := ⟨_, readF_some ((goodF_10 1 0 0 0 0).2 (by omega)), by kernel_rfl⟩
  have H2 := Lib.hid (fun W => call_read 10 1 0 0 0 0 (by omega) (by omega) (by omega) (by omega) (by omega) (by omega) (by omega) (by omega) (by omega) (by omega) (by omega) W)
  rw [hc] at H2
  have HU : Hid (∀ W : World, Calls Try.prog 12 #[.int .u64 10] W fun e w' => e = .returned (.int .i64 1) ∧ w' = W) := Lib.hid (fun W => used_any 10 (by omega) W)
  generalize readF 10 x1 x2 x3 x4 x5 = R at H1
  have HCO := Lib.hid hco
  clear hc hco l1 l2 l3 l4 l5 u1 u2 u3 u4 u5
  obtain ⟨d, hd⟩ : ∃ d, d = rvF R := ⟨_, rfl⟩
  rw [← hd] at H1
  generalize reF R = er at H1
  clear hd
  go_enter Try.func6, Try.ntmps6
  go_wp2_with fail
  refine (H1.out _).mono ?_
  rintro e v1 ⟨rfl, hb1⟩
  have hB1 : Below w.heap.size w v1 := b_then (w := w) (by go_grown) hb1
  have HV1 := Lib.hid hB1.size
  simp only [CV.val, CV.cells, ccells]
  clear hb1
  go_wp2_with fail
  refine (HU.out _).mono ?_
  rintro e v2 ⟨rfl, hw⟩
  obtain rfl := hw.symm
  clear hw
  go_wp2_with fail
  refine (HU.out _).mono ?_
  rintro e v2 ⟨rfl, hw⟩
  obtain rfl := hw.symm
  clear hw
  go_wp2_with fail
  go_loopw [9] (fun i wr => ∃ j : Nat, i = .int .i64 j ∧ 2 ≤ j ∧ j ≤ 6 ∧ Hid (Below w.heap.size w wr) ∧ Hid (∃ xs : List Int, wr.heap[v1.heap.size + 1]? = some (.cells (uvs xs).toArray 24 (0, 0)) ∧ xs.length = 6 ∧ (∀ k, k ≤ 1 → xs[k]? = ([10, 1, 1, 0, 0, 0] : List Int)[k]?) ∧ (∀ k, 2 ≤ k → k < j → xs[k]? = some 0))) (fun i _ => (6 - intOf i).toNat)
  case atStart =>
    refine ⟨2, rfl, by omega, by omega, Lib.hid (b_then hB1 (by go_grown)), Lib.hid ⟨[10, 1, 1, 0, 0, 0], ?_, rfl, fun k _ => rfl, fun k h1 h2 => by omega⟩⟩
    have hnew := heap_new (v1.alloc (.cells #[.int .i64 d.op, .int .i64 d.f, .int .i64 d.t, .bool d.wr, .bool d.us, .bool d.ex, .int .u64 d.addr, .int .i64 d.size, .int .u64 d.x, .int .i64 d.id, .int .i64 d.a, .int .i64 d.b, .int .i64 d.d] 30)) (.cells #[.int .u64 10, .int .u64 1, .int .u64 1, .int .u64 0, .int .u64 0, .int .u64 0] 24)
    rw [World.size_alloc] at hnew
    exact hnew
  case round =>
    clear hB1
    obtain ⟨j, rfl, hj, hj6, HB, HX⟩ := hrel
    obtain ⟨xs, hx, hxl, hlo, hhi⟩ := HX.out
    have HXX := Lib.hid hx
    have HLO := Lib.hid hlo
    have HHI := Lib.hid hhi
    have HXL := Lib.hid hxl
    clear hx hlo hhi hxl HX
    by_cases hlt : j < 6
    · have d0 : decide ((j : Int) < 6) = true := decide_eq_true (by omega)
      obtain ⟨y, hy⟩ := all_get HXL.out hlt
      have g0 : wr.cell? ⟨v1.heap.size + 1, j, none⟩ = some (.int .u64 y) := by rw [cell_heap HXX.out]; simp [hy]
      have f0 : wr.frozen? ⟨v1.heap.size + 1, j, none⟩ = false := frozen_heap HXX.out j
      have hnx : (wr.setCell ⟨v1.heap.size + 1, j, none⟩ (.int .u64 0)).heap[v1.heap.size + 1]? = some (.cells (uvs (xs.set j 0)).toArray 24 (0, 0)) := by rw [show uvs (xs.set j 0) = (uvs xs).set j (.int .u64 0) from List.map_set]; exact setCell_heap HXX.out _
      have HNX := Lib.hid hnx
      have hwv : w.heap.size ≤ v1.heap.size + 1 := by have := HV1.out; omega
      clear hnx hy
      go_wp2_with fail
      go_roundw
      case rel => exact ⟨j + 1, by go_num, by omega, by omega, Lib.hid (Below.touch HB.out ((Touch.refl (fun b => b = v1.heap.size + 1) wr).setCell (a := ⟨v1.heap.size + 1, j, none⟩) (.inl rfl) _) (Nat.le_refl _) (fun k e => by omega)), Lib.hid ⟨_, HNX.out, by rw [List.length_set]; exact HXL.out, fun k hk => by rw [List.getElem?_set_ne (by omega)]; exact HLO.out k hk, fun k h1 h2 => by rcases Nat.lt_or_ge k j with h | h; (rw [List.getElem?_set_ne (by omega)]; exact HHI.out k h1 h); (obtain rfl : k = j := (by omega)); exact List.getElem?_set_self (by rw [HXL.out]; omega)⟩⟩
      case measure => simp [intOf]; omega
    have d0 : decide ((j : Int) < 6) = false := decide_eq_false (by omega)
    have hxe : xs = [10, 1, 0, 0, 0, 0] := by
      apply List.ext_getElem?
      intro k
      rcases Nat.lt_or_ge k 6 with hk | hk
      · rcases Nat.lt_or_ge k 2 with h | h
        · refine (HLO.out k (by omega)).trans ?_; have : k = 0 ∨ k = 1 := by omega
          rcases this with rfl | rfl <;> rfl
        · refine (HHI.out k h (by omega)).trans ?_; have : k = 2 ∨ k = 3 ∨ k = 4 ∨ k = 5 := by omega
          rcases this with rfl | rfl | rfl | rfl <;> rfl
      · rw [List.getElem?_eq_none (by rw [HXL.out]; omega), List.getElem?_eq_none (by simp; omega)]
    subst hxe
    have hxw := HXX.out
    have hxz := heap_lt hxw
    have k0 : wr.cell? ⟨v1.heap.size + 1, 0, none⟩ = some (.int .u64 10) := cell_heap hxw 0
    have k1 : wr.cell? ⟨v1.heap.size + 1, 1, none⟩ = some (.int .u64 1) := cell_heap hxw 1
    have k2 : wr.cell? ⟨v1.heap.size + 1, 2, none⟩ = some (.int .u64 0) := cell_heap hxw 2
    have k3 : wr.cell? ⟨v1.heap.size + 1, 3, none⟩ = some (.int .u64 0) := cell_heap hxw 3
    have k4 : wr.cell? ⟨v1.heap.size + 1, 4, none⟩ = some (.int .u64 0) := cell_heap hxw 4
    have k5 : wr.cell? ⟨v1.heap.size + 1, 5, none⟩ = some (.int .u64 0) := cell_heap hxw 5
    have hB1 := HB.out
    clear hxw
    go_wp2_with fail
    refine (H2.out _).mono ?_
    rintro e v3 ⟨rfl, hb3⟩
    have hB3 : Below w.heap.size w v3 := b_then (w := w) (by go_grown) hb3
    simp only [rvF, reF, Option.getD_some, CV.val, CV.cells, ccells]
    clear hb3
    go_wp2_with fail
    have hcv := heap_new v3 (.cells #[.int .i64 c.op, .int .i64 c.f, .int .i64 c.t, .bool c.wr, .bool c.us, .bool c.ex, .int .u64 c.addr, .int .i64 c.size, .int .u64 c.x, .int .i64 c.id, .int .i64 c.a, .int .i64 c.b, .int .i64 c.d] 30)
    refine (awake_true _).mono ?_
    rintro e v4 ⟨rfl, hb4⟩
    have hc4 := heap_below hb4 hcv
    have g0 : v4.cell? ⟨v3.heap.size, 0, none⟩ = some (.int .i64 c.op) := cell_heap hc4 0
    rw [HCO.out] at g0
    have hz4 := heap_lt hc4
    have hB4 : Below w.heap.size w v4 := b_then (b_then hB3 (by go_grown)) hb4
    clear hc4 hb4 hcv
    go_wp2
    go_returns
    exact ⟨rfl, hB4⟩
set_option maxRecDepth 100000 in
set_option maxHeartbeats 8000000 in
theorem ops_11 (x1 x2 x3 x4 x5 : Int) (l1 : 0 ≤ x1) (l2 : 0 ≤ x2) (l3 : 0 ≤ x3) (l4 : 0 ≤ x4) (l5 : 0 ≤ x5) (u1 : x1 < 18446744073709551616) (u2 : x2 < 18446744073709551616) (u3 : x3 < 18446744073709551616) (u4 : x4 < 18446744073709551616) (u5 : x5 < 18446744073709551616) (w : World) :
    Calls Try.prog 6 #[.int .u64 11, .agg #[.int .u64 x1, .int .u64 x2, .int .u64 x3, .int .u64 x4, .int .u64 x5]] w fun e w' => e = .returned (.bool true) ∧ Below w.heap.size w w' := by
  have H1 := Lib.hid (fun W => call_read 11 x1 x2 x3 x4 x5 (by omega) l1 l2 l3 l4 l5 u1 u2 u3 u4 u5 W)
  obtain ⟨c, hc, hco⟩ : ∃ c, readF 11 0 0 0 0 0 = some c ∧ c.op = 11 := ⟨_, readF_some ((goodF_11 0 0 0 0 0).2 (by omega)), by kernel_rfl⟩
  have H2 := Lib.hid (fun W => call_read 11 0 0 0 0 0 (by omega) (by omega) (by omega) (by omega) (by omega) (by omega) (by omega) (by omega) (by omega) (by omega) (by omega) W)
  rw [hc] at H2
  have HU : Hid (∀ W : World, Calls Try.prog 12 #[.int .u64 11] W fun e w' => e = .returned (.int .i64 0) ∧ w' = W) := Lib.hid (fun W => used_any 11 (by omega) W)
  generalize readF 11 x1 x2 x3 x4 x5 = R at H1
  have HCO := Lib.hid hco
  clear hc hco l1 l2 l3 l4 l5 u1 u2 u3 u4 u5
  obtain ⟨d, hd⟩ : ∃ d, d = rvF R := ⟨_, rfl⟩
  rw [← hd] at H1
  generalize reF R = er at H1
  clear hd
  go_enter Try.func6, Try.ntmps6
  go_wp2_with fail
  refine (H1.out _).mono ?_
  rintro e v1 ⟨rfl, hb1⟩
  have hB1 : Below w.heap.size w v1 := b_then (w := w) (by go_grown) hb1
  have HV1 := Lib.hid hB1.size
  simp only [CV.val, CV.cells, ccells]
  clear hb1
  go_wp2_with fail
  refine (HU.out _).mono ?_
  rintro e v2 ⟨rfl, hw⟩
  obtain rfl := hw.symm
  clear hw
  go_wp2_with fail
  refine (HU.out _).mono ?_
  rintro e v2 ⟨rfl, hw⟩
  obtain rfl := hw.symm
  clear hw
  go_wp2_with fail
  go_loopw [9] (fun i wr => ∃ j : Nat, i = .int .i64 j ∧ 1 ≤ j ∧ j ≤ 6 ∧ Hid (Below w.heap.size w wr) ∧ Hid (∃ xs : List Int, wr.heap[v1.heap.size + 1]? = some (.cells (uvs xs).toArray 24 (0, 0)) ∧ xs.length = 6 ∧ (∀ k, k ≤ 0 → xs[k]? = ([11, 1, 1, 0, 0, 0] : List Int)[k]?) ∧ (∀ k, 1 ≤ k → k < j → xs[k]? = some 0))) (fun i _ => (6 - intOf i).toNat)
  case atStart =>
    refine ⟨1, rfl, by omega, by omega, Lib.hid (b_then hB1 (by go_grown)), Lib.hid ⟨[11, 1, 1, 0, 0, 0], ?_, rfl, fun k _ => rfl, fun k h1 h2 => by omega⟩⟩
    have hnew := heap_new (v1.alloc (.cells #[.int .i64 d.op, .int .i64 d.f, .int .i64 d.t, .bool d.wr, .bool d.us, .bool d.ex, .int .u64 d.addr, .int .i64 d.size, .int .u64 d.x, .int .i64 d.id, .int .i64 d.a, .int .i64 d.b, .int .i64 d.d] 30)) (.cells #[.int .u64 11, .int .u64 1, .int .u64 1, .int .u64 0, .int .u64 0, .int .u64 0] 24)
    rw [World.size_alloc] at hnew
    exact hnew
  case round =>
    clear hB1
    obtain ⟨j, rfl, hj, hj6, HB, HX⟩ := hrel
    obtain ⟨xs, hx, hxl, hlo, hhi⟩ := HX.out
    have HXX := Lib.hid hx
    have HLO := Lib.hid hlo
    have HHI := Lib.hid hhi
    have HXL := Lib.hid hxl
    clear hx hlo hhi hxl HX
    by_cases hlt : j < 6
    · have d0 : decide ((j : Int) < 6) = true := decide_eq_true (by omega)
      obtain ⟨y, hy⟩ := all_get HXL.out hlt
      have g0 : wr.cell? ⟨v1.heap.size + 1, j, none⟩ = some (.int .u64 y) := by rw [cell_heap HXX.out]; simp [hy]
      have f0 : wr.frozen? ⟨v1.heap.size + 1, j, none⟩ = false := frozen_heap HXX.out j
      have hnx : (wr.setCell ⟨v1.heap.size + 1, j, none⟩ (.int .u64 0)).heap[v1.heap.size + 1]? = some (.cells (uvs (xs.set j 0)).toArray 24 (0, 0)) := by rw [show uvs (xs.set j 0) = (uvs xs).set j (.int .u64 0) from List.map_set]; exact setCell_heap HXX.out _
      have HNX := Lib.hid hnx
      have hwv : w.heap.size ≤ v1.heap.size + 1 := by have := HV1.out; omega
      clear hnx hy
      go_wp2_with fail
      go_roundw
      case rel => exact ⟨j + 1, by go_num, by omega, by omega, Lib.hid (Below.touch HB.out ((Touch.refl (fun b => b = v1.heap.size + 1) wr).setCell (a := ⟨v1.heap.size + 1, j, none⟩) (.inl rfl) _) (Nat.le_refl _) (fun k e => by omega)), Lib.hid ⟨_, HNX.out, by rw [List.length_set]; exact HXL.out, fun k hk => by rw [List.getElem?_set_ne (by omega)]; exact HLO.out k hk, fun k h1 h2 => by rcases Nat.lt_or_ge k j with h | h; (rw [List.getElem?_set_ne (by omega)]; exact HHI.out k h1 h); (obtain rfl : k = j := (by omega)); exact List.getElem?_set_self (by rw [HXL.out]; omega)⟩⟩
      case measure => simp [intOf]; omega
    have d0 : decide ((j : Int) < 6) = false := decide_eq_false (by omega)
    have hxe : xs = [11, 0, 0, 0, 0, 0] := by
      apply List.ext_getElem?
      intro k
      rcases Nat.lt_or_ge k 6 with hk | hk
      · rcases Nat.lt_or_ge k 1 with h | h
        · refine (HLO.out k (by omega)).trans ?_; have : k = 0 := by omega
          rcases this with rfl <;> rfl
        · refine (HHI.out k h (by omega)).trans ?_; have : k = 1 ∨ k = 2 ∨ k = 3 ∨ k = 4 ∨ k = 5 := by omega
          rcases this with rfl | rfl | rfl | rfl | rfl <;> rfl
      · rw [List.getElem?_eq_none (by rw [HXL.out]; omega), List.getElem?_eq_none (by simp; omega)]
    subst hxe
    have hxw := HXX.out
    have hxz := heap_lt hxw
    have k0 : wr.cell? ⟨v1.heap.size + 1, 0, none⟩ = some (.int .u64 11) := cell_heap hxw 0
    have k1 : wr.cell? ⟨v1.heap.size + 1, 1, none⟩ = some (.int .u64 0) := cell_heap hxw 1
    have k2 : wr.cell? ⟨v1.heap.size + 1, 2, none⟩ = some (.int .u64 0) := cell_heap hxw 2
    have k3 : wr.cell? ⟨v1.heap.size + 1, 3, none⟩ = some (.int .u64 0) := cell_heap hxw 3
    have k4 : wr.cell? ⟨v1.heap.size + 1, 4, none⟩ = some (.int .u64 0) := cell_heap hxw 4
    have k5 : wr.cell? ⟨v1.heap.size + 1, 5, none⟩ = some (.int .u64 0) := cell_heap hxw 5
    have hB1 := HB.out
    clear hxw
    go_wp2_with fail
    refine (H2.out _).mono ?_
    rintro e v3 ⟨rfl, hb3⟩
    have hB3 : Below w.heap.size w v3 := b_then (w := w) (by go_grown) hb3
    simp only [rvF, reF, Option.getD_some, CV.val, CV.cells, ccells]
    clear hb3
    go_wp2_with fail
    have hcv := heap_new v3 (.cells #[.int .i64 c.op, .int .i64 c.f, .int .i64 c.t, .bool c.wr, .bool c.us, .bool c.ex, .int .u64 c.addr, .int .i64 c.size, .int .u64 c.x, .int .i64 c.id, .int .i64 c.a, .int .i64 c.b, .int .i64 c.d] 30)
    refine (awake_true _).mono ?_
    rintro e v4 ⟨rfl, hb4⟩
    have hc4 := heap_below hb4 hcv
    have g0 : v4.cell? ⟨v3.heap.size, 0, none⟩ = some (.int .i64 c.op) := cell_heap hc4 0
    rw [HCO.out] at g0
    have hz4 := heap_lt hc4
    have hB4 : Below w.heap.size w v4 := b_then (b_then hB3 (by go_grown)) hb4
    clear hc4 hb4 hcv
    go_wp2
    go_returns
    exact ⟨rfl, hB4⟩
set_option maxRecDepth 100000 in
set_option maxHeartbeats 8000000 in
theorem ops_12 (x1 x2 x3 x4 x5 : Int) (l1 : 0 ≤ x1) (l2 : 0 ≤ x2) (l3 : 0 ≤ x3) (l4 : 0 ≤ x4) (l5 : 0 ≤ x5) (u1 : x1 < 18446744073709551616) (u2 : x2 < 18446744073709551616) (u3 : x3 < 18446744073709551616) (u4 : x4 < 18446744073709551616) (u5 : x5 < 18446744073709551616) (w : World) :
    Calls Try.prog 6 #[.int .u64 12, .agg #[.int .u64 x1, .int .u64 x2, .int .u64 x3, .int .u64 x4, .int .u64 x5]] w fun e w' => e = .returned (.bool true) ∧ Below w.heap.size w w' := by
  have H1 := Lib.hid (fun W => call_read 12 x1 x2 x3 x4 x5 (by omega) l1 l2 l3 l4 l5 u1 u2 u3 u4 u5 W)
  obtain ⟨c, hc, hco⟩ : ∃ c, readF 12 1 0 0 0 0 = some c ∧ c.op = 12 := ⟨_, readF_some ((goodF_12 1 0 0 0 0).2 (by omega)), by kernel_rfl⟩
  have H2 := Lib.hid (fun W => call_read 12 1 0 0 0 0 (by omega) (by omega) (by omega) (by omega) (by omega) (by omega) (by omega) (by omega) (by omega) (by omega) (by omega) W)
  rw [hc] at H2
  have HU : Hid (∀ W : World, Calls Try.prog 12 #[.int .u64 12] W fun e w' => e = .returned (.int .i64 1) ∧ w' = W) := Lib.hid (fun W => used_any 12 (by omega) W)
  generalize readF 12 x1 x2 x3 x4 x5 = R at H1
  have HCO := Lib.hid hco
  clear hc hco l1 l2 l3 l4 l5 u1 u2 u3 u4 u5
  obtain ⟨d, hd⟩ : ∃ d, d = rvF R := ⟨_, rfl⟩
  rw [← hd] at H1
  generalize reF R = er at H1
  clear hd
  go_enter Try.func6, Try.ntmps6
  go_wp2_with fail
  refine (H1.out _).mono ?_
  rintro e v1 ⟨rfl, hb1⟩
  have hB1 : Below w.heap.size w v1 := b_then (w := w) (by go_grown) hb1
  have HV1 := Lib.hid hB1.size
  simp only [CV.val, CV.cells, ccells]
  clear hb1
  go_wp2_with fail
  refine (HU.out _).mono ?_
  rintro e v2 ⟨rfl, hw⟩
  obtain rfl := hw.symm
  clear hw
  go_wp2_with fail
  refine (HU.out _).mono ?_
  rintro e v2 ⟨rfl, hw⟩
  obtain rfl := hw.symm
  clear hw
  go_wp2_with fail
  go_loopw [9] (fun i wr => ∃ j : Nat, i = .int .i64 j ∧ 2 ≤ j ∧ j ≤ 6 ∧ Hid (Below w.heap.size w wr) ∧ Hid (∃ xs : List Int, wr.heap[v1.heap.size + 1]? = some (.cells (uvs xs).toArray 24 (0, 0)) ∧ xs.length = 6 ∧ (∀ k, k ≤ 1 → xs[k]? = ([12, 1, 1, 0, 0, 0] : List Int)[k]?) ∧ (∀ k, 2 ≤ k → k < j → xs[k]? = some 0))) (fun i _ => (6 - intOf i).toNat)
  case atStart =>
    refine ⟨2, rfl, by omega, by omega, Lib.hid (b_then hB1 (by go_grown)), Lib.hid ⟨[12, 1, 1, 0, 0, 0], ?_, rfl, fun k _ => rfl, fun k h1 h2 => by omega⟩⟩
    have hnew := heap_new (v1.alloc (.cells #[.int .i64 d.op, .int .i64 d.f, .int .i64 d.t, .bool d.wr, .bool d.us, .bool d.ex, .int .u64 d.addr, .int .i64 d.size, .int .u64 d.x, .int .i64 d.id, .int .i64 d.a, .int .i64 d.b, .int .i64 d.d] 30)) (.cells #[.int .u64 12, .int .u64 1, .int .u64 1, .int .u64 0, .int .u64 0, .int .u64 0] 24)
    rw [World.size_alloc] at hnew
    exact hnew
  case round =>
    clear hB1
    obtain ⟨j, rfl, hj, hj6, HB, HX⟩ := hrel
    obtain ⟨xs, hx, hxl, hlo, hhi⟩ := HX.out
    have HXX := Lib.hid hx
    have HLO := Lib.hid hlo
    have HHI := Lib.hid hhi
    have HXL := Lib.hid hxl
    clear hx hlo hhi hxl HX
    by_cases hlt : j < 6
    · have d0 : decide ((j : Int) < 6) = true := decide_eq_true (by omega)
      obtain ⟨y, hy⟩ := all_get HXL.out hlt
      have g0 : wr.cell? ⟨v1.heap.size + 1, j, none⟩ = some (.int .u64 y) := by rw [cell_heap HXX.out]; simp [hy]
      have f0 : wr.frozen? ⟨v1.heap.size + 1, j, none⟩ = false := frozen_heap HXX.out j
      have hnx : (wr.setCell ⟨v1.heap.size + 1, j, none⟩ (.int .u64 0)).heap[v1.heap.size + 1]? = some (.cells (uvs (xs.set j 0)).toArray 24 (0, 0)) := by rw [show uvs (xs.set j 0) = (uvs xs).set j (.int .u64 0) from List.map_set]; exact setCell_heap HXX.out _
      have HNX := Lib.hid hnx
      have hwv : w.heap.size ≤ v1.heap.size + 1 := by have := HV1.out; omega
      clear hnx hy
      go_wp2_with fail
      go_roundw
      case rel => exact ⟨j + 1, by go_num, by omega, by omega, Lib.hid (Below.touch HB.out ((Touch.refl (fun b => b = v1.heap.size + 1) wr).setCell (a := ⟨v1.heap.size + 1, j, none⟩) (.inl rfl) _) (Nat.le_refl _) (fun k e => by omega)), Lib.hid ⟨_, HNX.out, by rw [List.length_set]; exact HXL.out, fun k hk => by rw [List.getElem?_set_ne (by omega)]; exact HLO.out k hk, fun k h1 h2 => by rcases Nat.lt_or_ge k j with h | h; (rw [List.getElem?_set_ne (by omega)]; exact HHI.out k h1 h); (obtain rfl : k = j := (by omega)); exact List.getElem?_set_self (by rw [HXL.out]; omega)⟩⟩
      case measure => simp [intOf]; omega
    have d0 : decide ((j : Int) < 6) = false := decide_eq_false (by omega)
    have hxe : xs = [12, 1, 0, 0, 0, 0] := by
      apply List.ext_getElem?
      intro k
      rcases Nat.lt_or_ge k 6 with hk | hk
      · rcases Nat.lt_or_ge k 2 with h | h
        · refine (HLO.out k (by omega)).trans ?_; have : k = 0 ∨ k = 1 := by omega
          rcases this with rfl | rfl <;> rfl
        · refine (HHI.out k h (by omega)).trans ?_; have : k = 2 ∨ k = 3 ∨ k = 4 ∨ k = 5 := by omega
          rcases this with rfl | rfl | rfl | rfl <;> rfl
      · rw [List.getElem?_eq_none (by rw [HXL.out]; omega), List.getElem?_eq_none (by simp; omega)]
    subst hxe
    have hxw := HXX.out
    have hxz := heap_lt hxw
    have k0 : wr.cell? ⟨v1.heap.size + 1, 0, none⟩ = some (.int .u64 12) := cell_heap hxw 0
    have k1 : wr.cell? ⟨v1.heap.size + 1, 1, none⟩ = some (.int .u64 1) := cell_heap hxw 1
    have k2 : wr.cell? ⟨v1.heap.size + 1, 2, none⟩ = some (.int .u64 0) := cell_heap hxw 2
    have k3 : wr.cell? ⟨v1.heap.size + 1, 3, none⟩ = some (.int .u64 0) := cell_heap hxw 3
    have k4 : wr.cell? ⟨v1.heap.size + 1, 4, none⟩ = some (.int .u64 0) := cell_heap hxw 4
    have k5 : wr.cell? ⟨v1.heap.size + 1, 5, none⟩ = some (.int .u64 0) := cell_heap hxw 5
    have hB1 := HB.out
    clear hxw
    go_wp2_with fail
    refine (H2.out _).mono ?_
    rintro e v3 ⟨rfl, hb3⟩
    have hB3 : Below w.heap.size w v3 := b_then (w := w) (by go_grown) hb3
    simp only [rvF, reF, Option.getD_some, CV.val, CV.cells, ccells]
    clear hb3
    go_wp2_with fail
    have hcv := heap_new v3 (.cells #[.int .i64 c.op, .int .i64 c.f, .int .i64 c.t, .bool c.wr, .bool c.us, .bool c.ex, .int .u64 c.addr, .int .i64 c.size, .int .u64 c.x, .int .i64 c.id, .int .i64 c.a, .int .i64 c.b, .int .i64 c.d] 30)
    refine (awake_true _).mono ?_
    rintro e v4 ⟨rfl, hb4⟩
    have hc4 := heap_below hb4 hcv
    have g0 : v4.cell? ⟨v3.heap.size, 0, none⟩ = some (.int .i64 c.op) := cell_heap hc4 0
    rw [HCO.out] at g0
    have hz4 := heap_lt hc4
    have hB4 : Below w.heap.size w v4 := b_then (b_then hB3 (by go_grown)) hb4
    clear hc4 hb4 hcv
    go_wp2
    go_returns
    exact ⟨rfl, hB4⟩
set_option maxRecDepth 100000 in
set_option maxHeartbeats 8000000 in
theorem ops_13 (x1 x2 x3 x4 x5 : Int) (l1 : 0 ≤ x1) (l2 : 0 ≤ x2) (l3 : 0 ≤ x3) (l4 : 0 ≤ x4) (l5 : 0 ≤ x5) (u1 : x1 < 18446744073709551616) (u2 : x2 < 18446744073709551616) (u3 : x3 < 18446744073709551616) (u4 : x4 < 18446744073709551616) (u5 : x5 < 18446744073709551616) (w : World) :
    Calls Try.prog 6 #[.int .u64 13, .agg #[.int .u64 x1, .int .u64 x2, .int .u64 x3, .int .u64 x4, .int .u64 x5]] w fun e w' => e = .returned (.bool true) ∧ Below w.heap.size w w' := by
  have H1 := Lib.hid (fun W => call_read 13 x1 x2 x3 x4 x5 (by omega) l1 l2 l3 l4 l5 u1 u2 u3 u4 u5 W)
  obtain ⟨c, hc, hco⟩ : ∃ c, readF 13 0 0 0 0 0 = some c ∧ c.op = 13 := ⟨_, readF_some ((goodF_13 0 0 0 0 0).2 (by omega)), by kernel_rfl⟩
  have H2 := Lib.hid (fun W => call_read 13 0 0 0 0 0 (by omega) (by omega) (by omega) (by omega) (by omega) (by omega) (by omega) (by omega) (by omega) (by omega) (by omega) W)
  rw [hc] at H2
  have HU : Hid (∀ W : World, Calls Try.prog 12 #[.int .u64 13] W fun e w' => e = .returned (.int .i64 0) ∧ w' = W) := Lib.hid (fun W => used_any 13 (by omega) W)
  generalize readF 13 x1 x2 x3 x4 x5 = R at H1
  have HCO := Lib.hid hco
  clear hc hco l1 l2 l3 l4 l5 u1 u2 u3 u4 u5
  obtain ⟨d, hd⟩ : ∃ d, d = rvF R := ⟨_, rfl⟩
  rw [← hd] at H1
  generalize reF R = er at H1
  clear hd
  go_enter Try.func6, Try.ntmps6
  go_wp2_with fail
  refine (H1.out _).mono ?_
  rintro e v1 ⟨rfl, hb1⟩
  have hB1 : Below w.heap.size w v1 := b_then (w := w) (by go_grown) hb1
  have HV1 := Lib.hid hB1.size
  simp only [CV.val, CV.cells, ccells]
  clear hb1
  go_wp2_with fail
  refine (HU.out _).mono ?_
  rintro e v2 ⟨rfl, hw⟩
  obtain rfl := hw.symm
  clear hw
  go_wp2_with fail
  refine (HU.out _).mono ?_
  rintro e v2 ⟨rfl, hw⟩
  obtain rfl := hw.symm
  clear hw
  go_wp2_with fail
  go_loopw [9] (fun i wr => ∃ j : Nat, i = .int .i64 j ∧ 1 ≤ j ∧ j ≤ 6 ∧ Hid (Below w.heap.size w wr) ∧ Hid (∃ xs : List Int, wr.heap[v1.heap.size + 1]? = some (.cells (uvs xs).toArray 24 (0, 0)) ∧ xs.length = 6 ∧ (∀ k, k ≤ 0 → xs[k]? = ([13, 1, 1, 0, 0, 0] : List Int)[k]?) ∧ (∀ k, 1 ≤ k → k < j → xs[k]? = some 0))) (fun i _ => (6 - intOf i).toNat)
  case atStart =>
    refine ⟨1, rfl, by omega, by omega, Lib.hid (b_then hB1 (by go_grown)), Lib.hid ⟨[13, 1, 1, 0, 0, 0], ?_, rfl, fun k _ => rfl, fun k h1 h2 => by omega⟩⟩
    have hnew := heap_new (v1.alloc (.cells #[.int .i64 d.op, .int .i64 d.f, .int .i64 d.t, .bool d.wr, .bool d.us, .bool d.ex, .int .u64 d.addr, .int .i64 d.size, .int .u64 d.x, .int .i64 d.id, .int .i64 d.a, .int .i64 d.b, .int .i64 d.d] 30)) (.cells #[.int .u64 13, .int .u64 1, .int .u64 1, .int .u64 0, .int .u64 0, .int .u64 0] 24)
    rw [World.size_alloc] at hnew
    exact hnew
  case round =>
    clear hB1
    obtain ⟨j, rfl, hj, hj6, HB, HX⟩ := hrel
    obtain ⟨xs, hx, hxl, hlo, hhi⟩ := HX.out
    have HXX := Lib.hid hx
    have HLO := Lib.hid hlo
    have HHI := Lib.hid hhi
    have HXL := Lib.hid hxl
    clear hx hlo hhi hxl HX
    by_cases hlt : j < 6
    · have d0 : decide ((j : Int) < 6) = true := decide_eq_true (by omega)
      obtain ⟨y, hy⟩ := all_get HXL.out hlt
      have g0 : wr.cell? ⟨v1.heap.size + 1, j, none⟩ = some (.int .u64 y) := by rw [cell_heap HXX.out]; simp [hy]
      have f0 : wr.frozen? ⟨v1.heap.size + 1, j, none⟩ = false := frozen_heap HXX.out j
      have hnx : (wr.setCell ⟨v1.heap.size + 1, j, none⟩ (.int .u64 0)).heap[v1.heap.size + 1]? = some (.cells (uvs (xs.set j 0)).toArray 24 (0, 0)) := by rw [show uvs (xs.set j 0) = (uvs xs).set j (.int .u64 0) from List.map_set]; exact setCell_heap HXX.out _
      have HNX := Lib.hid hnx
      have hwv : w.heap.size ≤ v1.heap.size + 1 := by have := HV1.out; omega
      clear hnx hy
      go_wp2_with fail
      go_roundw
      case rel => exact ⟨j + 1, by go_num, by omega, by omega, Lib.hid (Below.touch HB.out ((Touch.refl (fun b => b = v1.heap.size + 1) wr).setCell (a := ⟨v1.heap.size + 1, j, none⟩) (.inl rfl) _) (Nat.le_refl _) (fun k e => by omega)), Lib.hid ⟨_, HNX.out, by rw [List.length_set]; exact HXL.out, fun k hk => by rw [List.getElem?_set_ne (by omega)]; exact HLO.out k hk, fun k h1 h2 => by rcases Nat.lt_or_ge k j with h | h; (rw [List.getElem?_set_ne (by omega)]; exact HHI.out k h1 h); (obtain rfl : k = j := (by omega)); exact List.getElem?_set_self (by rw [HXL.out]; omega)⟩⟩
      case measure => simp [intOf]; omega
    have d0 : decide ((j : Int) < 6) = false := decide_eq_false (by omega)
    have hxe : xs = [13, 0, 0, 0, 0, 0] := by
      apply List.ext_getElem?
      intro k
      rcases Nat.lt_or_ge k 6 with hk | hk
      · rcases Nat.lt_or_ge k 1 with h | h
        · refine (HLO.out k (by omega)).trans ?_; have : k = 0 := by omega
          rcases this with rfl <;> rfl
        · refine (HHI.out k h (by omega)).trans ?_; have : k = 1 ∨ k = 2 ∨ k = 3 ∨ k = 4 ∨ k = 5 := by omega
          rcases this with rfl | rfl | rfl | rfl | rfl <;> rfl
      · rw [List.getElem?_eq_none (by rw [HXL.out]; omega), List.getElem?_eq_none (by simp; omega)]
    subst hxe
    have hxw := HXX.out
    have hxz := heap_lt hxw
    have k0 : wr.cell? ⟨v1.heap.size + 1, 0, none⟩ = some (.int .u64 13) := cell_heap hxw 0
    have k1 : wr.cell? ⟨v1.heap.size + 1, 1, none⟩ = some (.int .u64 0) := cell_heap hxw 1
    have k2 : wr.cell? ⟨v1.heap.size + 1, 2, none⟩ = some (.int .u64 0) := cell_heap hxw 2
    have k3 : wr.cell? ⟨v1.heap.size + 1, 3, none⟩ = some (.int .u64 0) := cell_heap hxw 3
    have k4 : wr.cell? ⟨v1.heap.size + 1, 4, none⟩ = some (.int .u64 0) := cell_heap hxw 4
    have k5 : wr.cell? ⟨v1.heap.size + 1, 5, none⟩ = some (.int .u64 0) := cell_heap hxw 5
    have hB1 := HB.out
    clear hxw
    go_wp2_with fail
    refine (H2.out _).mono ?_
    rintro e v3 ⟨rfl, hb3⟩
    have hB3 : Below w.heap.size w v3 := b_then (w := w) (by go_grown) hb3
    simp only [rvF, reF, Option.getD_some, CV.val, CV.cells, ccells]
    clear hb3
    go_wp2_with fail
    have hcv := heap_new v3 (.cells #[.int .i64 c.op, .int .i64 c.f, .int .i64 c.t, .bool c.wr, .bool c.us, .bool c.ex, .int .u64 c.addr, .int .i64 c.size, .int .u64 c.x, .int .i64 c.id, .int .i64 c.a, .int .i64 c.b, .int .i64 c.d] 30)
    refine (awake_true _).mono ?_
    rintro e v4 ⟨rfl, hb4⟩
    have hc4 := heap_below hb4 hcv
    have g0 : v4.cell? ⟨v3.heap.size, 0, none⟩ = some (.int .i64 c.op) := cell_heap hc4 0
    rw [HCO.out] at g0
    have hz4 := heap_lt hc4
    have hB4 : Below w.heap.size w v4 := b_then (b_then hB3 (by go_grown)) hb4
    clear hc4 hb4 hcv
    go_wp2
    go_returns
    exact ⟨rfl, hB4⟩
set_option maxRecDepth 100000 in
set_option maxHeartbeats 8000000 in
theorem ops_14 (x1 x2 x3 x4 x5 : Int) (l1 : 0 ≤ x1) (l2 : 0 ≤ x2) (l3 : 0 ≤ x3) (l4 : 0 ≤ x4) (l5 : 0 ≤ x5) (u1 : x1 < 18446744073709551616) (u2 : x2 < 18446744073709551616) (u3 : x3 < 18446744073709551616) (u4 : x4 < 18446744073709551616) (u5 : x5 < 18446744073709551616) (w : World) :
    Calls Try.prog 6 #[.int .u64 14, .agg #[.int .u64 x1, .int .u64 x2, .int .u64 x3, .int .u64 x4, .int .u64 x5]] w fun e w' => e = .returned (.bool true) ∧ Below w.heap.size w w' := by
  have H1 := Lib.hid (fun W => call_read 14 x1 x2 x3 x4 x5 (by omega) l1 l2 l3 l4 l5 u1 u2 u3 u4 u5 W)
  obtain ⟨c, hc, hco⟩ : ∃ c, readF 14 0 0 0 0 0 = some c ∧ c.op = 14 := ⟨_, readF_some ((goodF_14 0 0 0 0 0).2 (by omega)), by kernel_rfl⟩
  have H2 := Lib.hid (fun W => call_read 14 0 0 0 0 0 (by omega) (by omega) (by omega) (by omega) (by omega) (by omega) (by omega) (by omega) (by omega) (by omega) (by omega) W)
  rw [hc] at H2
  have HU : Hid (∀ W : World, Calls Try.prog 12 #[.int .u64 14] W fun e w' => e = .returned (.int .i64 0) ∧ w' = W) := Lib.hid (fun W => used_any 14 (by omega) W)
  generalize readF 14 x1 x2 x3 x4 x5 = R at H1
  have HCO := Lib.hid hco
  clear hc hco l1 l2 l3 l4 l5 u1 u2 u3 u4 u5
  obtain ⟨d, hd⟩ : ∃ d, d = rvF R := ⟨_, rfl⟩
  rw [← hd] at H1
  generalize reF R = er at H1
  clear hd
  go_enter Try.func6, Try.ntmps6
  go_wp2_with fail
  refine (H1.out _).mono ?_
  rintro e v1 ⟨rfl, hb1⟩
  have hB1 : Below w.heap.size w v1 := b_then (w := w) (by go_grown) hb1
  have HV1 := Lib.hid hB1.size
  simp only [CV.val, CV.cells, ccells]
  clear hb1
  go_wp2_with fail
  refine (HU.out _).mono ?_
  rintro e v2 ⟨rfl, hw⟩
  obtain rfl := hw.symm
  clear hw
  go_wp2_with fail
  refine (HU.out _).mono ?_
  rintro e v2 ⟨rfl, hw⟩
  obtain rfl := hw.symm
  clear hw
  go_wp2_with fail
  go_loopw [9] (fun i wr => ∃ j : Nat, i = .int .i64 j ∧ 1 ≤ j ∧ j ≤ 6 ∧ Hid (Below w.heap.size w wr) ∧ Hid (∃ xs : List Int, wr.heap[v1.heap.size + 1]? = some (.cells (uvs xs).toArray 24 (0, 0)) ∧ xs.length = 6 ∧ (∀ k, k ≤ 0 → xs[k]? = ([14, 1, 1, 0, 0, 0] : List Int)[k]?) ∧ (∀ k, 1 ≤ k → k < j → xs[k]? = some 0))) (fun i _ => (6 - intOf i).toNat)
  case atStart =>
    refine ⟨1, rfl, by omega, by omega, Lib.hid (b_then hB1 (by go_grown)), Lib.hid ⟨[14, 1, 1, 0, 0, 0], ?_, rfl, fun k _ => rfl, fun k h1 h2 => by omega⟩⟩
    have hnew := heap_new (v1.alloc (.cells #[.int .i64 d.op, .int .i64 d.f, .int .i64 d.t, .bool d.wr, .bool d.us, .bool d.ex, .int .u64 d.addr, .int .i64 d.size, .int .u64 d.x, .int .i64 d.id, .int .i64 d.a, .int .i64 d.b, .int .i64 d.d] 30)) (.cells #[.int .u64 14, .int .u64 1, .int .u64 1, .int .u64 0, .int .u64 0, .int .u64 0] 24)
    rw [World.size_alloc] at hnew
    exact hnew
  case round =>
    clear hB1
    obtain ⟨j, rfl, hj, hj6, HB, HX⟩ := hrel
    obtain ⟨xs, hx, hxl, hlo, hhi⟩ := HX.out
    have HXX := Lib.hid hx
    have HLO := Lib.hid hlo
    have HHI := Lib.hid hhi
    have HXL := Lib.hid hxl
    clear hx hlo hhi hxl HX
    by_cases hlt : j < 6
    · have d0 : decide ((j : Int) < 6) = true := decide_eq_true (by omega)
      obtain ⟨y, hy⟩ := all_get HXL.out hlt
      have g0 : wr.cell? ⟨v1.heap.size + 1, j, none⟩ = some (.int .u64 y) := by rw [cell_heap HXX.out]; simp [hy]
      have f0 : wr.frozen? ⟨v1.heap.size + 1, j, none⟩ = false := frozen_heap HXX.out j
      have hnx : (wr.setCell ⟨v1.heap.size + 1, j, none⟩ (.int .u64 0)).heap[v1.heap.size + 1]? = some (.cells (uvs (xs.set j 0)).toArray 24 (0, 0)) := by rw [show uvs (xs.set j 0) = (uvs xs).set j (.int .u64 0) from List.map_set]; exact setCell_heap HXX.out _
      have HNX := Lib.hid hnx
      have hwv : w.heap.size ≤ v1.heap.size + 1 := by have := HV1.out; omega
      clear hnx hy
      go_wp2_with fail
      go_roundw
      case rel => exact ⟨j + 1, by go_num, by omega, by omega, Lib.hid (Below.touch HB.out ((Touch.refl (fun b => b = v1.heap.size + 1) wr).setCell (a := ⟨v1.heap.size + 1, j, none⟩) (.inl rfl) _) (Nat.le_refl _) (fun k e => by omega)), Lib.hid ⟨_, HNX.out, by rw [List.length_set]; exact HXL.out, fun k hk => by rw [List.getElem?_set_ne (by omega)]; exact HLO.out k hk, fun k h1 h2 => by rcases Nat.lt_or_ge k j with h | h; (rw [List.getElem?_set_ne (by omega)]; exact HHI.out k h1 h); (obtain rfl : k = j := (by omega)); exact List.getElem?_set_self (by rw [HXL.out]; omega)⟩⟩
      case measure => simp [intOf]; omega
    have d0 : decide ((j : Int) < 6) = false := decide_eq_false (by omega)
    have hxe : xs = [14, 0, 0, 0, 0, 0] := by
      apply List.ext_getElem?
      intro k
      rcases Nat.lt_or_ge k 6 with hk | hk
      · rcases Nat.lt_or_ge k 1 with h | h
        · refine (HLO.out k (by omega)).trans ?_; have : k = 0 := by omega
          rcases this with rfl <;> rfl
        · refine (HHI.out k h (by omega)).trans ?_; have : k = 1 ∨ k = 2 ∨ k = 3 ∨ k = 4 ∨ k = 5 := by omega
          rcases this with rfl | rfl | rfl | rfl | rfl <;> rfl
      · rw [List.getElem?_eq_none (by rw [HXL.out]; omega), List.getElem?_eq_none (by simp; omega)]
    subst hxe
    have hxw := HXX.out
    have hxz := heap_lt hxw
    have k0 : wr.cell? ⟨v1.heap.size + 1, 0, none⟩ = some (.int .u64 14) := cell_heap hxw 0
    have k1 : wr.cell? ⟨v1.heap.size + 1, 1, none⟩ = some (.int .u64 0) := cell_heap hxw 1
    have k2 : wr.cell? ⟨v1.heap.size + 1, 2, none⟩ = some (.int .u64 0) := cell_heap hxw 2
    have k3 : wr.cell? ⟨v1.heap.size + 1, 3, none⟩ = some (.int .u64 0) := cell_heap hxw 3
    have k4 : wr.cell? ⟨v1.heap.size + 1, 4, none⟩ = some (.int .u64 0) := cell_heap hxw 4
    have k5 : wr.cell? ⟨v1.heap.size + 1, 5, none⟩ = some (.int .u64 0) := cell_heap hxw 5
    have hB1 := HB.out
    clear hxw
    go_wp2_with fail
    refine (H2.out _).mono ?_
    rintro e v3 ⟨rfl, hb3⟩
    have hB3 : Below w.heap.size w v3 := b_then (w := w) (by go_grown) hb3
    simp only [rvF, reF, Option.getD_some, CV.val, CV.cells, ccells]
    clear hb3
    go_wp2_with fail
    have hcv := heap_new v3 (.cells #[.int .i64 c.op, .int .i64 c.f, .int .i64 c.t, .bool c.wr, .bool c.us, .bool c.ex, .int .u64 c.addr, .int .i64 c.size, .int .u64 c.x, .int .i64 c.id, .int .i64 c.a, .int .i64 c.b, .int .i64 c.d] 30)
    refine (awake_true _).mono ?_
    rintro e v4 ⟨rfl, hb4⟩
    have hc4 := heap_below hb4 hcv
    have g0 : v4.cell? ⟨v3.heap.size, 0, none⟩ = some (.int .i64 c.op) := cell_heap hc4 0
    rw [HCO.out] at g0
    have hz4 := heap_lt hc4
    have hB4 : Below w.heap.size w v4 := b_then (b_then hB3 (by go_grown)) hb4
    clear hc4 hb4 hcv
    go_wp2
    go_returns
    exact ⟨rfl, hB4⟩
set_option maxRecDepth 100000 in
set_option maxHeartbeats 8000000 in
theorem ops_15 (x1 x2 x3 x4 x5 : Int) (l1 : 0 ≤ x1) (l2 : 0 ≤ x2) (l3 : 0 ≤ x3) (l4 : 0 ≤ x4) (l5 : 0 ≤ x5) (u1 : x1 < 18446744073709551616) (u2 : x2 < 18446744073709551616) (u3 : x3 < 18446744073709551616) (u4 : x4 < 18446744073709551616) (u5 : x5 < 18446744073709551616) (w : World) :
    Calls Try.prog 6 #[.int .u64 15, .agg #[.int .u64 x1, .int .u64 x2, .int .u64 x3, .int .u64 x4, .int .u64 x5]] w fun e w' => e = .returned (.bool true) ∧ Below w.heap.size w w' := by
  have H1 := Lib.hid (fun W => call_read 15 x1 x2 x3 x4 x5 (by omega) l1 l2 l3 l4 l5 u1 u2 u3 u4 u5 W)
  obtain ⟨c, hc, hco⟩ : ∃ c, readF 15 1 1 0 0 0 = some c ∧ c.op = 15 := ⟨_, readF_some ((goodF_15 1 1 0 0 0).2 (by omega)), by kernel_rfl⟩
  have H2 := Lib.hid (fun W => call_read 15 1 1 0 0 0 (by omega) (by omega) (by omega) (by omega) (by omega) (by omega) (by omega) (by omega) (by omega) (by omega) (by omega) W)
  rw [hc] at H2
  have HU : Hid (∀ W : World, Calls Try.prog 12 #[.int .u64 15] W fun e w' => e = .returned (.int .i64 4) ∧ w' = W) := Lib.hid (fun W => used_any 15 (by omega) W)
  generalize readF 15 x1 x2 x3 x4 x5 = R at H1
  have HCO := Lib.hid hco
  clear hc hco l1 l2 l3 l4 l5 u1 u2 u3 u4 u5
  obtain ⟨d, hd⟩ : ∃ d, d = rvF R := ⟨_, rfl⟩
  rw [← hd] at H1
  generalize reF R = er at H1
  clear hd
  go_enter Try.func6, Try.ntmps6
  go_wp2_with fail
  refine (H1.out _).mono ?_
  rintro e v1 ⟨rfl, hb1⟩
  have hB1 : Below w.heap.size w v1 := b_then (w := w) (by go_grown) hb1
  have HV1 := Lib.hid hB1.size
  simp only [CV.val, CV.cells, ccells]
  clear hb1
  go_wp2_with fail
  refine (HU.out _).mono ?_
  rintro e v2 ⟨rfl, hw⟩
  obtain rfl := hw.symm
  clear hw
  go_wp2_with fail
  refine (HU.out _).mono ?_
  rintro e v2 ⟨rfl, hw⟩
  obtain rfl := hw.symm
  clear hw
  go_wp2_with fail
  go_loopw [9] (fun i wr => ∃ j : Nat, i = .int .i64 j ∧ 5 ≤ j ∧ j ≤ 6 ∧ Hid (Below w.heap.size w wr) ∧ Hid (∃ xs : List Int, wr.heap[v1.heap.size + 1]? = some (.cells (uvs xs).toArray 24 (0, 0)) ∧ xs.length = 6 ∧ (∀ k, k ≤ 4 → xs[k]? = ([15, 1, 1, 0, 0, 0] : List Int)[k]?) ∧ (∀ k, 5 ≤ k → k < j → xs[k]? = some 0))) (fun i _ => (6 - intOf i).toNat)
  case atStart =>
    refine ⟨5, rfl, by omega, by omega, Lib.hid (b_then hB1 (by go_grown)), Lib.hid ⟨[15, 1, 1, 0, 0, 0], ?_, rfl, fun k _ => rfl, fun k h1 h2 => by omega⟩⟩
    have hnew := heap_new (v1.alloc (.cells #[.int .i64 d.op, .int .i64 d.f, .int .i64 d.t, .bool d.wr, .bool d.us, .bool d.ex, .int .u64 d.addr, .int .i64 d.size, .int .u64 d.x, .int .i64 d.id, .int .i64 d.a, .int .i64 d.b, .int .i64 d.d] 30)) (.cells #[.int .u64 15, .int .u64 1, .int .u64 1, .int .u64 0, .int .u64 0, .int .u64 0] 24)
    rw [World.size_alloc] at hnew
    exact hnew
  case round =>
    clear hB1
    obtain ⟨j, rfl, hj, hj6, HB, HX⟩ := hrel
    obtain ⟨xs, hx, hxl, hlo, hhi⟩ := HX.out
    have HXX := Lib.hid hx
    have HLO := Lib.hid hlo
    have HHI := Lib.hid hhi
    have HXL := Lib.hid hxl
    clear hx hlo hhi hxl HX
    by_cases hlt : j < 6
    · have d0 : decide ((j : Int) < 6) = true := decide_eq_true (by omega)
      obtain ⟨y, hy⟩ := all_get HXL.out hlt
      have g0 : wr.cell? ⟨v1.heap.size + 1, j, none⟩ = some (.int .u64 y) := by rw [cell_heap HXX.out]; simp [hy]
      have f0 : wr.frozen? ⟨v1.heap.size + 1, j, none⟩ = false := frozen_heap HXX.out j
      have hnx : (wr.setCell ⟨v1.heap.size + 1, j, none⟩ (.int .u64 0)).heap[v1.heap.size + 1]? = some (.cells (uvs (xs.set j 0)).toArray 24 (0, 0)) := by rw [show uvs (xs.set j 0) = (uvs xs).set j (.int .u64 0) from List.map_set]; exact setCell_heap HXX.out _
      have HNX := Lib.hid hnx
      have hwv : w.heap.size ≤ v1.heap.size + 1 := by have := HV1.out; omega
      clear hnx hy
      go_wp2_with fail
      go_roundw
      case rel => exact ⟨j + 1, by go_num, by omega, by omega, Lib.hid (Below.touch HB.out ((Touch.refl (fun b => b = v1.heap.size + 1) wr).setCell (a := ⟨v1.heap.size + 1, j, none⟩) (.inl rfl) _) (Nat.le_refl _) (fun k e => by omega)), Lib.hid ⟨_, HNX.out, by rw [List.length_set]; exact HXL.out, fun k hk => by rw [List.getElem?_set_ne (by omega)]; exact HLO.out k hk, fun k h1 h2 => by rcases Nat.lt_or_ge k j with h | h; (rw [List.getElem?_set_ne (by omega)]; exact HHI.out k h1 h); (obtain rfl : k = j := (by omega)); exact List.getElem?_set_self (by rw [HXL.out]; omega)⟩⟩
      case measure => simp [intOf]; omega
    have d0 : decide ((j : Int) < 6) = false := decide_eq_false (by omega)
    have hxe : xs = [15, 1, 1, 0, 0, 0] := by
      apply List.ext_getElem?
      intro k
      rcases Nat.lt_or_ge k 6 with hk | hk
      · rcases Nat.lt_or_ge k 5 with h | h
        · refine (HLO.out k (by omega)).trans ?_; have : k = 0 ∨ k = 1 ∨ k = 2 ∨ k = 3 ∨ k = 4 := by omega
          rcases this with rfl | rfl | rfl | rfl | rfl <;> rfl
        · refine (HHI.out k h (by omega)).trans ?_; have : k = 5 := by omega
          rcases this with rfl <;> rfl
      · rw [List.getElem?_eq_none (by rw [HXL.out]; omega), List.getElem?_eq_none (by simp; omega)]
    subst hxe
    have hxw := HXX.out
    have hxz := heap_lt hxw
    have k0 : wr.cell? ⟨v1.heap.size + 1, 0, none⟩ = some (.int .u64 15) := cell_heap hxw 0
    have k1 : wr.cell? ⟨v1.heap.size + 1, 1, none⟩ = some (.int .u64 1) := cell_heap hxw 1
    have k2 : wr.cell? ⟨v1.heap.size + 1, 2, none⟩ = some (.int .u64 1) := cell_heap hxw 2
    have k3 : wr.cell? ⟨v1.heap.size + 1, 3, none⟩ = some (.int .u64 0) := cell_heap hxw 3
    have k4 : wr.cell? ⟨v1.heap.size + 1, 4, none⟩ = some (.int .u64 0) := cell_heap hxw 4
    have k5 : wr.cell? ⟨v1.heap.size + 1, 5, none⟩ = some (.int .u64 0) := cell_heap hxw 5
    have hB1 := HB.out
    clear hxw
    go_wp2_with fail
    refine (H2.out _).mono ?_
    rintro e v3 ⟨rfl, hb3⟩
    have hB3 : Below w.heap.size w v3 := b_then (w := w) (by go_grown) hb3
    simp only [rvF, reF, Option.getD_some, CV.val, CV.cells, ccells]
    clear hb3
    go_wp2_with fail
    have hcv := heap_new v3 (.cells #[.int .i64 c.op, .int .i64 c.f, .int .i64 c.t, .bool c.wr, .bool c.us, .bool c.ex, .int .u64 c.addr, .int .i64 c.size, .int .u64 c.x, .int .i64 c.id, .int .i64 c.a, .int .i64 c.b, .int .i64 c.d] 30)
    refine (awake_true _).mono ?_
    rintro e v4 ⟨rfl, hb4⟩
    have hc4 := heap_below hb4 hcv
    have g0 : v4.cell? ⟨v3.heap.size, 0, none⟩ = some (.int .i64 c.op) := cell_heap hc4 0
    rw [HCO.out] at g0
    have hz4 := heap_lt hc4
    have hB4 : Below w.heap.size w v4 := b_then (b_then hB3 (by go_grown)) hb4
    clear hc4 hb4 hcv
    go_wp2
    go_returns
    exact ⟨rfl, hB4⟩
set_option maxRecDepth 100000 in
set_option maxHeartbeats 8000000 in
theorem ops_16 (x1 x2 x3 x4 x5 : Int) (l1 : 0 ≤ x1) (l2 : 0 ≤ x2) (l3 : 0 ≤ x3) (l4 : 0 ≤ x4) (l5 : 0 ≤ x5) (u1 : x1 < 18446744073709551616) (u2 : x2 < 18446744073709551616) (u3 : x3 < 18446744073709551616) (u4 : x4 < 18446744073709551616) (u5 : x5 < 18446744073709551616) (w : World) :
    Calls Try.prog 6 #[.int .u64 16, .agg #[.int .u64 x1, .int .u64 x2, .int .u64 x3, .int .u64 x4, .int .u64 x5]] w fun e w' => e = .returned (.bool true) ∧ Below w.heap.size w w' := by
  have H1 := Lib.hid (fun W => call_read 16 x1 x2 x3 x4 x5 (by omega) l1 l2 l3 l4 l5 u1 u2 u3 u4 u5 W)
  obtain ⟨c, hc, hco⟩ : ∃ c, readF 16 1 1 0 0 0 = some c ∧ c.op = 16 := ⟨_, readF_some ((goodF_16 1 1 0 0 0).2 (by omega)), by kernel_rfl⟩
  have H2 := Lib.hid (fun W => call_read 16 1 1 0 0 0 (by omega) (by omega) (by omega) (by omega) (by omega) (by omega) (by omega) (by omega) (by omega) (by omega) (by omega) W)
  rw [hc] at H2
  have HU : Hid (∀ W : World, Calls Try.prog 12 #[.int .u64 16] W fun e w' => e = .returned (.int .i64 2) ∧ w' = W) := Lib.hid (fun W => used_any 16 (by omega) W)
  generalize readF 16 x1 x2 x3 x4 x5 = R at H1
  have HCO := Lib.hid hco
  clear hc hco l1 l2 l3 l4 l5 u1 u2 u3 u4 u5
  obtain ⟨d, hd⟩ : ∃ d, d = rvF R := ⟨_, rfl⟩
  rw [← hd] at H1
  generalize reF R = er at H1
  clear hd
  go_enter Try.func6, Try.ntmps6
  go_wp2_with fail
  refine (H1.out _).mono ?_
  rintro e v1 ⟨rfl, hb1⟩
  have hB1 : Below w.heap.size w v1 := b_then (w := w) (by go_grown) hb1
  have HV1 := Lib.hid hB1.size
  simp only [CV.val, CV.cells, ccells]
  clear hb1
  go_wp2_with fail
  refine (HU.out _).mono ?_
  rintro e v2 ⟨rfl, hw⟩
  obtain rfl := hw.symm
  clear hw
  go_wp2_with fail
  refine (HU.out _).mono ?_
  rintro e v2 ⟨rfl, hw⟩
  obtain rfl := hw.symm
  clear hw
  go_wp2_with fail
  go_loopw [9] (fun i wr => ∃ j : Nat, i = .int .i64 j ∧ 3 ≤ j ∧ j ≤ 6 ∧ Hid (Below w.heap.size w wr) ∧ Hid (∃ xs : List Int, wr.heap[v1.heap.size + 1]? = some (.cells (uvs xs).toArray 24 (0, 0)) ∧ xs.length = 6 ∧ (∀ k, k ≤ 2 → xs[k]? = ([16, 1, 1, 0, 0, 0] : List Int)[k]?) ∧ (∀ k, 3 ≤ k → k < j → xs[k]? = some 0))) (fun i _ => (6 - intOf i).toNat)
  case atStart =>
    refine ⟨3, rfl, by omega, by omega, Lib.hid (b_then hB1 (by go_grown)), Lib.hid ⟨[16, 1, 1, 0, 0, 0], ?_, rfl, fun k _ => rfl, fun k h1 h2 => by omega⟩⟩
    have hnew := heap_new (v1.alloc (.cells #[.int .i64 d.op, .int .i64 d.f, .int .i64 d.t, .bool d.wr, .bool d.us, .bool d.ex, .int .u64 d.addr, .int .i64 d.size, .int .u64 d.x, .int .i64 d.id, .int .i64 d.a, .int .i64 d.b, .int .i64 d.d] 30)) (.cells #[.int .u64 16, .int .u64 1, .int .u64 1, .int .u64 0, .int .u64 0, .int .u64 0] 24)
    rw [World.size_alloc] at hnew
    exact hnew
  case round =>
    clear hB1
    obtain ⟨j, rfl, hj, hj6, HB, HX⟩ := hrel
    obtain ⟨xs, hx, hxl, hlo, hhi⟩ := HX.out
    have HXX := Lib.hid hx
    have HLO := Lib.hid hlo
    have HHI := Lib.hid hhi
    have HXL := Lib.hid hxl
    clear hx hlo hhi hxl HX
    by_cases hlt : j < 6
    · have d0 : decide ((j : Int) < 6) = true := decide_eq_true (by omega)
      obtain ⟨y, hy⟩ := all_get HXL.out hlt
      have g0 : wr.cell? ⟨v1.heap.size + 1, j, none⟩ = some (.int .u64 y) := by rw [cell_heap HXX.out]; simp [hy]
      have f0 : wr.frozen? ⟨v1.heap.size + 1, j, none⟩ = false := frozen_heap HXX.out j
      have hnx : (wr.setCell ⟨v1.heap.size + 1, j, none⟩ (.int .u64 0)).heap[v1.heap.size + 1]? = some (.cells (uvs (xs.set j 0)).toArray 24 (0, 0)) := by rw [show uvs (xs.set j 0) = (uvs xs).set j (.int .u64 0) from List.map_set]; exact setCell_heap HXX.out _
      have HNX := Lib.hid hnx
      have hwv : w.heap.size ≤ v1.heap.size + 1 := by have := HV1.out; omega
      clear hnx hy
      go_wp2_with fail
      go_roundw
      case rel => exact ⟨j + 1, by go_num, by omega, by omega, Lib.hid (Below.touch HB.out ((Touch.refl (fun b => b = v1.heap.size + 1) wr).setCell (a := ⟨v1.heap.size + 1, j, none⟩) (.inl rfl) _) (Nat.le_refl _) (fun k e => by omega)), Lib.hid ⟨_, HNX.out, by rw [List.length_set]; exact HXL.out, fun k hk => by rw [List.getElem?_set_ne (by omega)]; exact HLO.out k hk, fun k h1 h2 => by rcases Nat.lt_or_ge k j with h | h; (rw [List.getElem?_set_ne (by omega)]; exact HHI.out k h1 h); (obtain rfl : k = j := (by omega)); exact List.getElem?_set_self (by rw [HXL.out]; omega)⟩⟩
      case measure => simp [intOf]; omega
    have d0 : decide ((j : Int) < 6) = false := decide_eq_false (by omega)
    have hxe : xs = [16, 1, 1, 0, 0, 0] := by
      apply List.ext_getElem?
      intro k
      rcases Nat.lt_or_ge k 6 with hk | hk
      · rcases Nat.lt_or_ge k 3 with h | h
        · refine (HLO.out k (by omega)).trans ?_; have : k = 0 ∨ k = 1 ∨ k = 2 := by omega
          rcases this with rfl | rfl | rfl <;> rfl
        · refine (HHI.out k h (by omega)).trans ?_; have : k = 3 ∨ k = 4 ∨ k = 5 := by omega
          rcases this with rfl | rfl | rfl <;> rfl
      · rw [List.getElem?_eq_none (by rw [HXL.out]; omega), List.getElem?_eq_none (by simp; omega)]
    subst hxe
    have hxw := HXX.out
    have hxz := heap_lt hxw
    have k0 : wr.cell? ⟨v1.heap.size + 1, 0, none⟩ = some (.int .u64 16) := cell_heap hxw 0
    have k1 : wr.cell? ⟨v1.heap.size + 1, 1, none⟩ = some (.int .u64 1) := cell_heap hxw 1
    have k2 : wr.cell? ⟨v1.heap.size + 1, 2, none⟩ = some (.int .u64 1) := cell_heap hxw 2
    have k3 : wr.cell? ⟨v1.heap.size + 1, 3, none⟩ = some (.int .u64 0) := cell_heap hxw 3
    have k4 : wr.cell? ⟨v1.heap.size + 1, 4, none⟩ = some (.int .u64 0) := cell_heap hxw 4
    have k5 : wr.cell? ⟨v1.heap.size + 1, 5, none⟩ = some (.int .u64 0) := cell_heap hxw 5
    have hB1 := HB.out
    clear hxw
    go_wp2_with fail
    refine (H2.out _).mono ?_
    rintro e v3 ⟨rfl, hb3⟩
    have hB3 : Below w.heap.size w v3 := b_then (w := w) (by go_grown) hb3
    simp only [rvF, reF, Option.getD_some, CV.val, CV.cells, ccells]
    clear hb3
    go_wp2_with fail
    have hcv := heap_new v3 (.cells #[.int .i64 c.op, .int .i64 c.f, .int .i64 c.t, .bool c.wr, .bool c.us, .bool c.ex, .int .u64 c.addr, .int .i64 c.size, .int .u64 c.x, .int .i64 c.id, .int .i64 c.a, .int .i64 c.b, .int .i64 c.d] 30)
    refine (awake_true _).mono ?_
    rintro e v4 ⟨rfl, hb4⟩
    have hc4 := heap_below hb4 hcv
    have g0 : v4.cell? ⟨v3.heap.size, 0, none⟩ = some (.int .i64 c.op) := cell_heap hc4 0
    rw [HCO.out] at g0
    have hz4 := heap_lt hc4
    have hB4 : Below w.heap.size w v4 := b_then (b_then hB3 (by go_grown)) hb4
    clear hc4 hb4 hcv
    go_wp2
    go_returns
    exact ⟨rfl, hB4⟩
set_option maxRecDepth 100000 in
set_option maxHeartbeats 8000000 in
theorem ops_none (o x1 x2 x3 x4 x5 : Int) (l0 : 0 ≤ o) (l1 : 0 ≤ x1) (l2 : 0 ≤ x2) (l3 : 0 ≤ x3) (l4 : 0 ≤ x4) (l5 : 0 ≤ x5) (u1 : x1 < 18446744073709551616) (u2 : x2 < 18446744073709551616) (u3 : x3 < 18446744073709551616) (u4 : x4 < 18446744073709551616) (u5 : x5 < 18446744073709551616) (ho : o < 1 ∨ 16 < o) (w : World) :
    Calls Try.prog 6 #[.int .u64 o, .agg #[.int .u64 x1, .int .u64 x2, .int .u64 x3, .int .u64 x4, .int .u64 x5]] w fun e w' => e = .returned (.bool true) ∧ Below w.heap.size w w' := by
  have H1 := Lib.hid (fun W => call_read o x1 x2 x3 x4 x5 l0 l1 l2 l3 l4 l5 u1 u2 u3 u4 u5 W)
  rw [readF_none (goodF_big _ _ _ _ _ _ ho)] at H1
  have hu : usedF o = -1 := by unfold usedF; rw [if_neg (by omega), if_neg (by omega), if_neg (by omega), if_neg (by omega), if_neg (by omega)]
  have HU : Hid (∀ W : World, Calls Try.prog 12 #[.int .u64 o] W fun e w' => e = .returned (.int .i64 (-1)) ∧ w' = W) := Lib.hid (fun W => by have := used_any o l0 W; rwa [hu] at this)
  clear hu ho l0 l1 l2 l3 l4 l5 u1 u2 u3 u4 u5
  go_enter Try.func6, Try.ntmps6
  go_wp2_with fail
  refine (H1.out _).mono ?_
  rintro e v1 ⟨rfl, hb1⟩
  have hB1 : Below w.heap.size w v1 := b_then (w := w) (by go_grown) hb1
  simp only [rvF, reF, Option.getD_none, CV.val, CV.cells, ccells, CV.zero]
  clear hb1
  go_wp2_with fail
  refine (HU.out _).mono ?_
  rintro e v2 ⟨rfl, hw⟩
  obtain rfl := hw.symm
  clear hw
  go_wp2_with fail
  refine (awake_true _).mono ?_
  rintro e v3 ⟨rfl, hb3⟩
  go_wp2
  go_returns
  exact ⟨rfl, b_then (b_then hB1 (by go_grown)) hb3⟩
theorem walk_CallOps (a0 : Int) (a1_0 : Int) (a1_1 : Int) (a1_2 : Int) (a1_3 : Int) (a1_4 : Int) (w : World) (w0 : (Lit.int .u64 a0).wf = true) (w1_0 : (Lit.int .u64 a1_0).wf = true) (w1_1 : (Lit.int .u64 a1_1).wf = true) (w1_2 : (Lit.int .u64 a1_2).wf = true) (w1_3 : (Lit.int .u64 a1_3).wf = true) (w1_4 : (Lit.int .u64 a1_4).wf = true) :
    Calls Try.prog 6 #[.int .u64 a0, .agg #[.int .u64 a1_0, .int .u64 a1_1, .int .u64 a1_2, .int .u64 a1_3, .int .u64 a1_4]] w fun e w' => e = .returned (.bool true) ∧ Below w.heap.size w w' := by
  have l0 := (u64_bd w0).1
  obtain ⟨l1, u1⟩ := u64_bd w1_0
  obtain ⟨l2, u2⟩ := u64_bd w1_1
  obtain ⟨l3, u3⟩ := u64_bd w1_2
  obtain ⟨l4, u4⟩ := u64_bd w1_3
  obtain ⟨l5, u5⟩ := u64_bd w1_4
  by_cases ho : a0 < 1 ∨ 16 < a0
  · exact ops_none a0 _ _ _ _ _ l0 l1 l2 l3 l4 l5 u1 u2 u3 u4 u5 ho w
  have h : a0 = 1 ∨ a0 = 2 ∨ a0 = 3 ∨ a0 = 4 ∨ a0 = 5 ∨ a0 = 6 ∨ a0 = 7 ∨ a0 = 8 ∨ a0 = 9 ∨ a0 = 10 ∨ a0 = 11 ∨ a0 = 12 ∨ a0 = 13 ∨ a0 = 14 ∨ a0 = 15 ∨ a0 = 16 := by omega
  rcases h with rfl | rfl | rfl | rfl | rfl | rfl | rfl | rfl | rfl | rfl | rfl | rfl | rfl | rfl | rfl | rfl
  · exact ops_1 _ _ _ _ _ l1 l2 l3 l4 l5 u1 u2 u3 u4 u5 w
  · exact ops_2 _ _ _ _ _ l1 l2 l3 l4 l5 u1 u2 u3 u4 u5 w
  · exact ops_3 _ _ _ _ _ l1 l2 l3 l4 l5 u1 u2 u3 u4 u5 w
  · exact ops_4 _ _ _ _ _ l1 l2 l3 l4 l5 u1 u2 u3 u4 u5 w
  · exact ops_5 _ _ _ _ _ l1 l2 l3 l4 l5 u1 u2 u3 u4 u5 w
  · exact ops_6 _ _ _ _ _ l1 l2 l3 l4 l5 u1 u2 u3 u4 u5 w
  · exact ops_7 _ _ _ _ _ l1 l2 l3 l4 l5 u1 u2 u3 u4 u5 w
  · exact ops_8 _ _ _ _ _ l1 l2 l3 l4 l5 u1 u2 u3 u4 u5 w
  · exact ops_9 _ _ _ _ _ l1 l2 l3 l4 l5 u1 u2 u3 u4 u5 w
  · exact ops_10 _ _ _ _ _ l1 l2 l3 l4 l5 u1 u2 u3 u4 u5 w
  · exact ops_11 _ _ _ _ _ l1 l2 l3 l4 l5 u1 u2 u3 u4 u5 w
  · exact ops_12 _ _ _ _ _ l1 l2 l3 l4 l5 u1 u2 u3 u4 u5 w
  · exact ops_13 _ _ _ _ _ l1 l2 l3 l4 l5 u1 u2 u3 u4 u5 w
  · exact ops_14 _ _ _ _ _ l1 l2 l3 l4 l5 u1 u2 u3 u4 u5 w
  · exact ops_15 _ _ _ _ _ l1 l2 l3 l4 l5 u1 u2 u3 u4 u5 w
  · exact ops_16 _ _ _ _ _ l1 l2 l3 l4 l5 u1 u2 u3 u4 u5 w
end Go.Proofs.Ytcnmhmbdbadbmaa
