/- PteNext: the law returns true at every address: the next page has the next numbers. No condition. -/
import Derived.Test.YtmmfojpbhkklpaaPteA
namespace Go.Proofs.Ytmmfojpbhkklpaa
open Go.ChangeShapes Go.WideShapes Go.ChangeAt Go.RowKit
set_option linter.unusedVariables false

theorem parts (a : Int) (h0 : 0 ≤ a) (h1 : a < 281474976710656) : ((a / 549755813888 % 512 * 512 + a / 1073741824 % 512) * 512 + a / 2097152 % 512) * 512 + a / 4096 % 512 = a / 4096 := by
  have e1 : a / 2097152 = a / 4096 / 512 := by omega
  have e2 : a / 1073741824 = a / 2097152 / 512 := by omega
  have e3 : a / 549755813888 = a / 1073741824 / 512 := by omega
  have b : a / 4096 < 68719476736 := by omega
  have b0 : 0 ≤ a / 4096 := by omega
  rw [e3, e2, e1]
  generalize a / 4096 = p at *
  omega

set_option maxHeartbeats 2000000 in
theorem walk_PteNext (x : Int) (w : World) (wx : (Lit.int .u64 x).wf = true) :
    Calls Try.prog 3 #[.int .u64 x] w fun e w' => e = .returned (.bool true) ∧ Below w.heap.size w w' := by
  have hx := bounds_u64 wx
  obtain ⟨h0, h1⟩ := hx
  go_enter Try.func3, Try.ntmps3
  go_wp2_with fail
  refine (split_any _ (by omega) (by omega) _).mono ?_
  rintro e w1 ⟨rfl, hb1⟩
  have z1 := hb1.size
  go_wp2_with fail
  refine (split_any _ (by omega) (by omega) _).mono ?_
  rintro e w2 ⟨rfl, hb2⟩
  obtain ⟨hc2, _⟩ := bcell hb2
  have z2 : w1.heap.size < w2.heap.size := by have := hb2.size; simp only [World.size_alloc] at this; omega
  go_wp2_with fail
  refine (awake_any _).mono ?_
  rintro e w3 ⟨rfl, hb3⟩
  have hB : Below w.heap.size w w3 := ((hb1.alloc z1 _).trans (hb2.mono (by simp only [World.size_alloc]; omega))).trans ((((Below.refl _ _).alloc (Nat.le_refl _) _).trans (hb3.mono (by simp only [World.size_alloc]; omega))).mono (by omega))
  go_wp2
  · go_returns
    exact ⟨ret_v (congrArg Value.bool (beq_iff_eq.2 (parts (x % 140737488351232) (by omega) (by omega)))), hB⟩
  · exfalso
    have p1 := parts (x % 140737488351232) (by omega) (by omega)
    have p2 := parts (x % 140737488351232 + 4096) (by omega) (by omega)
    omega
end Go.Proofs.Ytmmfojpbhkklpaa
