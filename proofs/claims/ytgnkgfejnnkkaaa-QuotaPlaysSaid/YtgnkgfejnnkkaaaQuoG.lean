/- Get of the tree. No condition. -/
import Derived.Test.YtgnkgfejnnkkaaaQuoF
namespace Go.Proofs.Ytgnkgfejnnkkaaa
open Go.ChangeShapes Go.WideShapes Go.ChangeAt Go.RowKit
set_option linter.unusedVariables false
set_option linter.unusedSimpArgs false
set_option maxHeartbeats 1000000 in
theorem get_none {w : World} {base t : Nat} {v : Value} {L : List ND} (h : TreeAt w base t v L) (i : Int) (hi : liveAt L i = none) :
    Calls Try.prog 14 #[.pointer (some ⟨t, 0, none⟩), .int .i64 i] w fun e w' => e = .returned (.tuple #[.agg #[.int .i64 0, .int .i64 0, .int .i64 0, .int .i64 0, .bool false], .bool false]) ∧ Below w.heap.size w w' := by
  have hst : Below w.heap.size w (w.alloc (.cells #[.int .i64 0, .int .i64 0, .int .i64 0, .int .i64 0, .bool false] 39)) := (Below.refl _ _).alloc (Nat.le_refl _) _
  have HA := Lib.hid (at_none (h.below hst) i hi)
  clear h hi hst
  go_enter Try.func14, Try.ntmps14
  go_wp2_with fail
  refine HA.out.mono ?_
  rintro e w1 ⟨rfl, hw⟩
  obtain rfl := hw.symm
  clear hw
  go_wp2
  go_returns
  exact ⟨rfl, by go_grown⟩
set_option maxHeartbeats 1000000 in
theorem get_some {w : World} {base t : Nat} {v : Value} {L : List ND} (h : TreeAt w base t v L) {k : Nat} {d : ND} (hk : L[k]? = some d) (hd : d.live = true) :
    Calls Try.prog 14 #[.pointer (some ⟨t, 0, none⟩), .int .i64 k] w fun e w' => e = .returned (.tuple #[.agg #[.int .i64 d.parent, .int .i64 d.quota, .int .i64 d.used, .int .i64 d.lent, .bool true], .bool true]) ∧ Below w.heap.size w w' := by
  have hst : Below w.heap.size w (w.alloc (.cells #[.int .i64 0, .int .i64 0, .int .i64 0, .int .i64 0, .bool false] 39)) := (Below.refl _ _).alloc (Nat.le_refl _) _
  have HA := Lib.hid (at_some (h.below hst) k d hk hd)
  obtain ⟨b, cap, hv, hb, hbw, e0, e1, e2, e3, e4⟩ := NL.cell h.l hk
  obtain ⟨dp, dq, du, dl, dv⟩ := d
  simp only at hd e0 e1 e2 e3 e4
  subst hd
  have HV := Lib.hid hv
  clear h hk hv hst
  go_enter Try.func14, Try.ntmps14
  go_wp2_with fail
  refine HA.out.mono ?_
  rintro e w1 ⟨b', cap', rfl, hv', hw⟩
  obtain rfl := hw.symm
  have hvv := HV.out.symm.trans hv'
  obtain rfl : b = b' := by injection hvv with h1 h2 h3; simpa using h1
  clear hw hvv hv'
  go_wp2
  go_returns
  exact ⟨rfl, by go_grown⟩
end Go.Proofs.Ytgnkgfejnnkkaaa
