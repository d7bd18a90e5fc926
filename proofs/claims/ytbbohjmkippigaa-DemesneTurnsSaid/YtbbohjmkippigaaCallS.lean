/- The package call (layer 15): the reader's spot: an address and a size. No condition but where the words and the call lie. -/
import Derived.Test.YtbbohjmkippigaaCallP
namespace Go.Proofs.Ytbbohjmkippigaa
open Go.ChangeShapes Go.WideShapes Go.ChangeAt Go.RowKit
set_option linter.unusedVariables false
set_option linter.unusedSimpArgs false

abbrev ccells (op from_ to_ : Int) (wr us ex : Bool) (addr size x id a b d : Int) : Array Value := #[.int .i64 op, .int .i64 from_, .int .i64 to_, .bool wr, .bool us, .bool ex, .int .u64 addr, .int .i64 size, .int .u64 x, .int .i64 id, .int .i64 a, .int .i64 b, .int .i64 d]
section
variable {w : World} {r ab cb : Nat} {ws : List Int} {k : Nat} {x y o : Int}
set_option maxHeartbeats 4000000 in
theorem spot_ok (h : RAt w r ab ws k) (hx : ws[k]? = some x) (hy : ws[k + 1]? = some y) (hc : w.heap[cb]? = some (.cells (ccells o 0 0 false false false 0 0 0 0 0 0 0) 29 (0, 0))) (hcr : cb ≠ r) (hca : cb ≠ ab) (h0 : 0 ≤ x) (h1 : x < 140737488355328) (h2 : y = 1 ∨ y = 2 ∨ y = 4 ∨ y = 8) (h3 : x % y = 0) :
    Calls Try.prog 20 #[.pointer (some ⟨r, 0, none⟩), .pointer (some ⟨cb, 0, none⟩)] w fun e w' => e = .returned (.tuple #[]) ∧ Touch (fun b => b = r ∨ b = cb) w w' ∧ RAt w' r ab ws (k + 2) ∧ w'.heap[cb]? = some (.cells (ccells o 0 0 false false false x y 0 0 0 0 0) 29 (0, 0)) := by
  have HC := Lib.hid (word_ok h hx 140737488355327 (by omega))
  have HY := Lib.hid hy
  have HCB := Lib.hid hc
  clear h hx hy hc
  go_enter Try.func20, Try.ntmps20
  go_wp2_with fail
  refine HC.out.mono ?_
  rintro e w1 ⟨rfl, ht, hr⟩
  have hc1 := ht.heap HCB.out hcr
  have hcl := heap_lt hc1
  have f1 := frozen_heap hc1 6
  have g6 : w1.cell? ⟨cb, 6, none⟩ = some (.int .u64 0) := cell_heap hc1 6
  have hs1 := heap_set hc1 6 (.int .u64 x)
  have ht1 : Touch (fun b => b = cb) w1 (w1.setCell ⟨cb, 6, none⟩ (.int .u64 x)) := (Touch.refl (fun b => b = cb) w1).setCell (a := ⟨cb, 6, none⟩) (.inl rfl) _
  have hr1 := hr.touch ht1 (fun e => hcr e.symm) (fun e => hca e.symm)
  have HN := Lib.hid (number_ok hr1 HY.out (by omega) 9 (by omega) (by omega) (by omega))
  have hT1 := (ht.mono (S' := fun b => b = r ∨ b = cb) (fun k h => .inl h)).trans ht1 (fun k h => .inl (.inr h))
  clear HC hr ht hc1 hr1 ht1 HCB HY
  go_wp2_with fail
  refine HN.out.mono ?_
  rintro e w2 ⟨rfl, ht2, hr2⟩
  have hc2 := ht2.heap hs1 hcr
  have hcl2 := heap_lt hc2
  have f7 := frozen_heap hc2 7
  have hs2 := heap_set hc2 7 (.int .i64 y)
  have ht3 : Touch (fun b => b = cb) w2 (w2.setCell ⟨cb, 7, none⟩ (.int .i64 y)) := (Touch.refl (fun b => b = cb) w2).setCell (a := ⟨cb, 7, none⟩) (.inl rfl) _
  have hr3 := hr2.touch ht3 (fun e => hcr e.symm) (fun e => hca e.symm)
  have hT3 := (hT1.trans ht2 (fun k h => .inl (.inl h))).trans ht3 (fun k h => .inl (.inr h))
  have g7 : w2.cell? ⟨cb, 7, none⟩ = some (.int .i64 0) := cell_heap hc2 7
  have g6 : w2.cell? ⟨cb, 6, none⟩ = some (.int .u64 x) := cell_heap hc2 6
  have HR3 := Lib.hid hr3
  have HS2 := Lib.hid hs2
  have HT3 := Lib.hid hT3
  clear HN hr2 ht2 hc2 hr3 ht3 hT1 hT3 hs2 hs1
  have b1 : bits .and .i64 1 0 = 0 := by kernel_rfl
  have b2 : bits .and .i64 2 1 = 0 := by kernel_rfl
  have b4 : bits .and .i64 4 3 = 0 := by kernel_rfl
  have b8 : bits .and .i64 8 7 = 0 := by kernel_rfl
  rcases h2 with rfl | rfl | rfl | rfl
  all_goals
    go_wp2_with fail
    go_quiet (fail)
    go_wp2
    go_returns
    exact ⟨rfl, HT3.out.drewN _, HR3.out.below (below_drewN (Below.refl _ _) _), by rw [World.heap_drewN]; exact HS2.out⟩
theorem spot_badA (h : RAt w r ab ws k) (hx : ws[k]? = some x) (h1 : 140737488355328 ≤ x) :
    Calls Try.prog 20 #[.pointer (some ⟨r, 0, none⟩), .pointer (some ⟨cb, 0, none⟩)] w fun e w' => e = .panicked badP ∧ Touch (fun b => b = r ∨ b = cb) w w' := by
  have HC := Lib.hid (word_bad h hx 140737488355327 (by omega))
  clear h hx
  go_enter Try.func20, Try.ntmps20
  go_wp2_with fail
  refine HC.out.mono ?_
  rintro e w1 ⟨rfl, ht⟩
  go_wp2
  exact ⟨rfl, rfl, ht.mono (fun k h => .inl h)⟩
set_option maxHeartbeats 4000000 in
theorem spot_badB (h : RAt w r ab ws k) (hx : ws[k]? = some x) (hy : ws[k + 1]? = some y) (hc : w.heap[cb]? = some (.cells (ccells o 0 0 false false false 0 0 0 0 0 0 0) 29 (0, 0))) (hcr : cb ≠ r) (hca : cb ≠ ab) (h0 : 0 ≤ x) (h1 : x < 140737488355328) (h2 : 8 < y) :
    Calls Try.prog 20 #[.pointer (some ⟨r, 0, none⟩), .pointer (some ⟨cb, 0, none⟩)] w fun e w' => e = .panicked badP ∧ Touch (fun b => b = r ∨ b = cb) w w' := by
  have HC := Lib.hid (word_ok h hx 140737488355327 (by omega))
  have HY := Lib.hid hy
  have HCB := Lib.hid hc
  clear h hx hy hc
  go_enter Try.func20, Try.ntmps20
  go_wp2_with fail
  refine HC.out.mono ?_
  rintro e w1 ⟨rfl, ht, hr⟩
  have hc1 := ht.heap HCB.out hcr
  have hcl := heap_lt hc1
  have f1 := frozen_heap hc1 6
  have g6 : w1.cell? ⟨cb, 6, none⟩ = some (.int .u64 0) := cell_heap hc1 6
  have hs1 := heap_set hc1 6 (.int .u64 x)
  have ht1 : Touch (fun b => b = cb) w1 (w1.setCell ⟨cb, 6, none⟩ (.int .u64 x)) := (Touch.refl (fun b => b = cb) w1).setCell (a := ⟨cb, 6, none⟩) (.inl rfl) _
  have hr1 := hr.touch ht1 (fun e => hcr e.symm) (fun e => hca e.symm)
  have HN := Lib.hid (number_bad hr1 HY.out 9 (by omega) (by omega) (by omega))
  have hT1 := (ht.mono (S' := fun b => b = r ∨ b = cb) (fun k h => .inl h)).trans ht1 (fun k h => .inl (.inr h))
  clear HC hr ht hc1 hr1 ht1 HCB HY
  go_wp2_with fail
  refine HN.out.mono ?_
  rintro e w2 ⟨rfl, ht2⟩
  go_wp2
  exact ⟨rfl, rfl, hT1.trans ht2 (fun k h => .inl (.inl h))⟩
set_option maxHeartbeats 4000000 in
theorem spot_badC (h : RAt w r ab ws k) (hx : ws[k]? = some x) (hy : ws[k + 1]? = some y) (hc : w.heap[cb]? = some (.cells (ccells o 0 0 false false false 0 0 0 0 0 0 0) 29 (0, 0))) (hcr : cb ≠ r) (hca : cb ≠ ab) (h0 : 0 ≤ x) (h1 : x < 140737488355328) (h2 : y = 0 ∨ y = 3 ∨ y = 5 ∨ y = 6 ∨ y = 7) :
    Calls Try.prog 20 #[.pointer (some ⟨r, 0, none⟩), .pointer (some ⟨cb, 0, none⟩)] w fun e w' => e = .panicked badP ∧ Touch (fun b => b = r ∨ b = cb) w w' := by
  have HC := Lib.hid (word_ok h hx 140737488355327 (by omega))
  have HY := Lib.hid hy
  have HCB := Lib.hid hc
  clear h hx hy hc
  go_enter Try.func20, Try.ntmps20
  go_wp2_with fail
  refine HC.out.mono ?_
  rintro e w1 ⟨rfl, ht, hr⟩
  have hc1 := ht.heap HCB.out hcr
  have hcl := heap_lt hc1
  have f1 := frozen_heap hc1 6
  have g6 : w1.cell? ⟨cb, 6, none⟩ = some (.int .u64 0) := cell_heap hc1 6
  have hs1 := heap_set hc1 6 (.int .u64 x)
  have ht1 : Touch (fun b => b = cb) w1 (w1.setCell ⟨cb, 6, none⟩ (.int .u64 x)) := (Touch.refl (fun b => b = cb) w1).setCell (a := ⟨cb, 6, none⟩) (.inl rfl) _
  have hr1 := hr.touch ht1 (fun e => hcr e.symm) (fun e => hca e.symm)
  have HN := Lib.hid (number_ok hr1 HY.out (by omega) 9 (by omega) (by omega) (by omega))
  have hT1 := (ht.mono (S' := fun b => b = r ∨ b = cb) (fun k h => .inl h)).trans ht1 (fun k h => .inl (.inr h))
  clear HC hr ht hc1 hr1 ht1 HCB HY
  go_wp2_with fail
  refine HN.out.mono ?_
  rintro e w2 ⟨rfl, ht2, hr2⟩
  have hc2 := ht2.heap hs1 hcr
  have hcl2 := heap_lt hc2
  have f7 := frozen_heap hc2 7
  have hs2 := heap_set hc2 7 (.int .i64 y)
  have ht3 : Touch (fun b => b = cb) w2 (w2.setCell ⟨cb, 7, none⟩ (.int .i64 y)) := (Touch.refl (fun b => b = cb) w2).setCell (a := ⟨cb, 7, none⟩) (.inl rfl) _
  have hr3 := hr2.touch ht3 (fun e => hcr e.symm) (fun e => hca e.symm)
  have hT3 := (hT1.trans ht2 (fun k h => .inl (.inl h))).trans ht3 (fun k h => .inl (.inr h))
  have g7 : w2.cell? ⟨cb, 7, none⟩ = some (.int .i64 0) := cell_heap hc2 7
  have g6 : w2.cell? ⟨cb, 6, none⟩ = some (.int .u64 x) := cell_heap hc2 6
  have HR3 := Lib.hid hr3
  have HS2 := Lib.hid hs2
  have HT3 := Lib.hid hT3
  clear HN hr2 ht2 hc2 hr3 ht3 hT1 hT3 hs2 hs1
  have b1 : bits .and .i64 1 0 = 0 := by kernel_rfl
  have b2 : bits .and .i64 2 1 = 0 := by kernel_rfl
  have b4 : bits .and .i64 4 3 = 0 := by kernel_rfl
  have b8 : bits .and .i64 8 7 = 0 := by kernel_rfl
  have b0 : bits .and .i64 0 (-1) = 0 := by kernel_rfl
  have b3 : bits .and .i64 3 2 = 2 := by kernel_rfl
  have b5 : bits .and .i64 5 4 = 4 := by kernel_rfl
  have b6 : bits .and .i64 6 5 = 4 := by kernel_rfl
  have b7 : bits .and .i64 7 6 = 6 := by kernel_rfl
  rcases h2 with rfl | rfl | rfl | rfl | rfl
  all_goals
    go_wp2_with fail
    go_quiet (fail)
    go_wp2
    exact ⟨rfl, rfl, HT3.out.drewN _⟩
set_option maxHeartbeats 4000000 in
theorem spot_badD (h : RAt w r ab ws k) (hx : ws[k]? = some x) (hy : ws[k + 1]? = some y) (hc : w.heap[cb]? = some (.cells (ccells o 0 0 false false false 0 0 0 0 0 0 0) 29 (0, 0))) (hcr : cb ≠ r) (hca : cb ≠ ab) (h0 : 0 ≤ x) (h1 : x < 140737488355328) (h2 : y = 1 ∨ y = 2 ∨ y = 4 ∨ y = 8) (h3 : x % y ≠ 0) :
    Calls Try.prog 20 #[.pointer (some ⟨r, 0, none⟩), .pointer (some ⟨cb, 0, none⟩)] w fun e w' => e = .panicked badP ∧ Touch (fun b => b = r ∨ b = cb) w w' := by
  have HC := Lib.hid (word_ok h hx 140737488355327 (by omega))
  have HY := Lib.hid hy
  have HCB := Lib.hid hc
  clear h hx hy hc
  go_enter Try.func20, Try.ntmps20
  go_wp2_with fail
  refine HC.out.mono ?_
  rintro e w1 ⟨rfl, ht, hr⟩
  have hc1 := ht.heap HCB.out hcr
  have hcl := heap_lt hc1
  have f1 := frozen_heap hc1 6
  have g6 : w1.cell? ⟨cb, 6, none⟩ = some (.int .u64 0) := cell_heap hc1 6
  have hs1 := heap_set hc1 6 (.int .u64 x)
  have ht1 : Touch (fun b => b = cb) w1 (w1.setCell ⟨cb, 6, none⟩ (.int .u64 x)) := (Touch.refl (fun b => b = cb) w1).setCell (a := ⟨cb, 6, none⟩) (.inl rfl) _
  have hr1 := hr.touch ht1 (fun e => hcr e.symm) (fun e => hca e.symm)
  have HN := Lib.hid (number_ok hr1 HY.out (by omega) 9 (by omega) (by omega) (by omega))
  have hT1 := (ht.mono (S' := fun b => b = r ∨ b = cb) (fun k h => .inl h)).trans ht1 (fun k h => .inl (.inr h))
  clear HC hr ht hc1 hr1 ht1 HCB HY
  go_wp2_with fail
  refine HN.out.mono ?_
  rintro e w2 ⟨rfl, ht2, hr2⟩
  have hc2 := ht2.heap hs1 hcr
  have hcl2 := heap_lt hc2
  have f7 := frozen_heap hc2 7
  have hs2 := heap_set hc2 7 (.int .i64 y)
  have ht3 : Touch (fun b => b = cb) w2 (w2.setCell ⟨cb, 7, none⟩ (.int .i64 y)) := (Touch.refl (fun b => b = cb) w2).setCell (a := ⟨cb, 7, none⟩) (.inl rfl) _
  have hr3 := hr2.touch ht3 (fun e => hcr e.symm) (fun e => hca e.symm)
  have hT3 := (hT1.trans ht2 (fun k h => .inl (.inl h))).trans ht3 (fun k h => .inl (.inr h))
  have g7 : w2.cell? ⟨cb, 7, none⟩ = some (.int .i64 0) := cell_heap hc2 7
  have g6 : w2.cell? ⟨cb, 6, none⟩ = some (.int .u64 x) := cell_heap hc2 6
  have HR3 := Lib.hid hr3
  have HS2 := Lib.hid hs2
  have HT3 := Lib.hid hT3
  clear HN hr2 ht2 hc2 hr3 ht3 hT1 hT3 hs2 hs1
  have b1 : bits .and .i64 1 0 = 0 := by kernel_rfl
  have b2 : bits .and .i64 2 1 = 0 := by kernel_rfl
  have b4 : bits .and .i64 4 3 = 0 := by kernel_rfl
  have b8 : bits .and .i64 8 7 = 0 := by kernel_rfl
  rcases h2 with rfl | rfl | rfl | rfl
  · exact absurd (Int.emod_one x) h3
  · have m : ((x % 2) == 0) = false := beq_false_of_ne h3
    have m2 : ((x % 2) != 0) = true := by rw [bne, m]; rfl
    clear h3
    go_wp2_with fail
    go_quiet (fail)
    go_wp2
    exact ⟨rfl, rfl, HT3.out.drewN _⟩
  · have m : ((x % 4) == 0) = false := beq_false_of_ne h3
    have m2 : ((x % 4) != 0) = true := by rw [bne, m]; rfl
    clear h3
    go_wp2_with fail
    go_quiet (fail)
    go_wp2
    exact ⟨rfl, rfl, HT3.out.drewN _⟩
  · have m : ((x % 8) == 0) = false := beq_false_of_ne h3
    have m2 : ((x % 8) != 0) = true := by rw [bne, m]; rfl
    clear h3
    go_wp2_with fail
    go_quiet (fail)
    go_wp2
    exact ⟨rfl, rfl, HT3.out.drewN _⟩
end
end Go.Proofs.Ytbbohjmkippigaa
