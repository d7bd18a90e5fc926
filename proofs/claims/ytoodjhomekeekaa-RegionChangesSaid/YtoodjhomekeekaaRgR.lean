/- awake: answers that the document fixes. No condition. -/
import Derived.Test.YtoodjhomekeekaaRgQ
import Derived.Test.YtoodjhomekeekaaRgN
namespace Go.Proofs.Ytoodjhomekeekaa
open Go.ChangeShapes Go.WideShapes Go.ChangeAt Go.RowKit
set_option linter.unusedVariables false
set_option linter.unusedSimpArgs false
theorem aw_1 : addE [] ⟨0, 4, true, false, false, 0⟩ = 0 ∧ addO [] ⟨0, 4, true, false, false, 0⟩ = [⟨0, 4, true, false, false, 0⟩] := by
  constructor <;> kernel_rfl
theorem aw_2 : addE [⟨0, 4, true, false, false, 0⟩] ⟨4, 6, true, false, false, 0⟩ = 0 ∧ addO [⟨0, 4, true, false, false, 0⟩] ⟨4, 6, true, false, false, 0⟩ = [⟨0, 6, true, false, false, 0⟩] := by
  constructor <;> kernel_rfl
theorem aw_3 : cutE [⟨0, 6, true, false, false, 0⟩] 1 2 = 0 ∧ (cutO [⟨0, 6, true, false, false, 0⟩] 1 2).length = 2 := by
  constructor <;> kernel_rfl
set_option maxHeartbeats 4000000 in
theorem awake_any (w : World) : Calls Try.prog 12 #[] w fun e w' => e = .returned (.bool true) ∧ Below w.heap.size w w' := by
  go_enter Try.func12, Try.ntmps12
  go_upto_region 2 with fail
  obtain ⟨W0, hW0⟩ : ∃ W, W = w.alloc (.cells #[.bool true, .bool false, .bool false] 29) := ⟨_, rfl⟩
  obtain ⟨g, hg⟩ : ∃ g, g = w.heap.size := ⟨_, rfl⟩
  have hh := heap_new w (.cells #[.bool true, .bool false, .bool false] 29)
  have hB0 : Below w.heap.size w W0 := by rw [hW0]; exact (Below.refl _ _).alloc (Nat.le_refl _) _
  rw [← hW0, ← hg] at hh ⊢
  have HH := Lib.hid hh
  have HB0 := Lib.hid hB0
  have m0 : W0.cell? ⟨g, 0, none⟩ = some (.bool true) := by have := cell_heap hh 0; simpa using this
  have m1 : W0.cell? ⟨g, 1, none⟩ = some (.bool false) := by have := cell_heap hh 1; simpa using this
  have m2 : W0.cell? ⟨g, 2, none⟩ = some (.bool false) := by have := cell_heap hh 2; simpa using this
  have hgw : g < W0.heap.size := heap_lt hh
  clear hh hB0 hW0 hg
  go_wp2_with fail
  have c1 := add_any (rgL.nil W0 W0.heap.size) (by simp) ⟨0, 4, true, false, false, 0⟩
  rw [aw_1.1, aw_1.2] at c1
  refine c1.mono ?_
  rintro e w1 ⟨A1, k1, rfl, hr1, hb1⟩
  have HR1 := Lib.hid hr1
  have hh1 := heap_below hb1 HH.out
  have n0 : w1.cell? ⟨g, 0, none⟩ = some (.bool true) := by have := cell_heap hh1 0; simpa using this
  have n1 : w1.cell? ⟨g, 1, none⟩ = some (.bool false) := by have := cell_heap hh1 1; simpa using this
  have n2 : w1.cell? ⟨g, 2, none⟩ = some (.bool false) := by have := cell_heap hh1 2; simpa using this
  have hgw1 : g < w1.heap.size := heap_lt hh1
  have HB1 := Lib.hid (b_then HB0.out hb1)
  clear hr1 hb1 hh1 m0 m1 m2 c1
  simp only [List.length_cons, List.length_nil]
  go_wp2_with fail
  have c2 := add_any HR1.out (by simp) ⟨4, 6, true, false, false, 0⟩
  rw [aw_2.1, aw_2.2] at c2
  refine c2.mono ?_
  rintro e w2 ⟨A2, k2, rfl, hr2, hb2⟩
  have HR2 := Lib.hid hr2
  have HB2 := Lib.hid (b_then HB1.out hb2)
  clear hr2 hb2 n0 n1 n2 c2
  simp only [List.length_cons, List.length_nil]
  go_wp2_with fail
  have c3 := cut_any HR2.out (by simp) 1 2
  rw [aw_3.1, aw_3.2] at c3
  refine c3.mono ?_
  rintro e w3 ⟨A3, k3, rfl, hr3, hb3⟩
  have HB3 := Lib.hid (b_then HB2.out hb3)
  clear hr3 hb3 c3
  go_wp2_with fail
  go_returns
  exact ⟨rfl, HB3.out⟩
end Go.Proofs.Ytoodjhomekeekaa
