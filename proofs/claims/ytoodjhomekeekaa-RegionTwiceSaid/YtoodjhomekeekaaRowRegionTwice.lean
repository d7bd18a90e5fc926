/- The row of RegionTwice: for every input the law returns true and its arguments read as they did; out of its walk. No condition. -/
import Derived.Test.YtoodjhomekeekaaRows
import Derived.Test.YtoodjhomekeekaaH
import Derived.Test.YtoodjhomekeekaaRegionTwice
import Derived.WalkKit
import Derived.ProofKit
import Derived.OpenShut
import Derived.ShutString
import Derived.ChangeOld
import Derived.Below
import Derived.Carry
namespace Go.Proofs.Ytoodjhomekeekaa.regionTwice
open Go.ChangeShapes Go.WideShapes Go.ChangeAt Go.RowKit
set_option linter.unusedVariables false
theorem own : ownKnob Try.prog.godebug = none := by kernel_rfl
theorem laidOut : laidOutB Try.prog = true := by kernel_rfl
set_option maxRecDepth 100000 in
theorem lifted (os : Os) (started : os.Started) (H : Type) (enc : TypeId × Value → H) :
    ReturnsInHanded {} Try.checked os 7 .any (Rows.regionTwiceSpec.pre6 enc Try.prog Try.f7 Rows.regionTwiceRow.domain false) (Rows.regionTwiceSpec.post enc Try.prog Try.f7 false true false false) := by
  refine returnsInHanded_of_change (C := Try.checked) own started (by kernel_rfl) Try.func7
    (ChangeSpec.witness6 (enc := enc) (C := Try.checked) false ⟨#[], #[.slice none 0 0, .agg #[.int .i64 0, .int .i64 0, .int .i64 0, .bool false, .bool false, .bool false, .int .i64 0], .agg #[.int .i64 0, .int .i64 0, .int .i64 0, .bool false, .bool false, .bool false, .int .i64 0]], []⟩ 8 (by kernel_rfl) (by kernel_rfl) (by kernel_rfl) (by kernel_rfl)) ?_
  intro W base args ds gs before hval0 hW hcnd _
  have hval : ∀ (j : Nat) t v, Try.f7.params[j]? = some t → args[j]? = some v → Value.okWide Try.prog W .any base t v := hval0
  have hW' := hW
  obtain ⟨p, q, hA0, hV, rfl, hfz, hnd⟩ := hW
  have hA : DataW.TrodAll enc Try.prog W 0 (fun _ => true) true Try.f7.params.toList args.toList ds p := hA0
  rw [Try.params7] at hA hval
  obtain ⟨v0, vs0, d0, ds0, p0, q0, hargs, rfl, rfl, h0, r_0⟩ := trodAll_cons hA
  obtain ⟨v1, vs1, d1, ds1, p1, q1, rfl, rfl, rfl, h1, r_1⟩ := trodAll_cons r_0
  obtain ⟨v2, vs2, d2, ds2, p2, q2, rfl, rfl, rfl, h2, r_2⟩ := trodAll_cons r_1
  obtain ⟨rfl, rfl, rfl⟩ := trodAll_nil r_2
  obtain rfl : args = #[v0, v1, v2] := by cases args; simp_all
  obtain ⟨rfl, rfl⟩ := trodVars_none hV
  have k0 := h0
  have lt0 : ∀ x ∈ p0, x.block < W.heap.size := by obtain ⟨m, hm⟩ := k0; exact DataW.trod_lt m _ _ _ hm
  have k1 := h1
  have lt1 : ∀ x ∈ p1, x.block < W.heap.size := by obtain ⟨m, hm⟩ := k1; exact DataW.trod_lt m _ _ _ hm
  have k2 := h2
  have lt2 : ∀ x ∈ p2, x.block < W.heap.size := by obtain ⟨m, hm⟩ := k2; exact DataW.trod_lt m _ _ _ hm
  obtain ⟨A0, len0, cap0, rfl, r0⟩ := open_rows 8 (l := [.i .i64, .i .i64, .i .i64, .b, .b, .b, .i .i64]) (by decide) Try.underlying55 (by kernel_rfl) (by kernel_rfl) (hval 0 55 v0 rfl rfl) h0
  obtain ⟨cs1, rfl, ok1⟩ := open_flat 8 (l := [.i .i64, .i .i64, .i .i64, .b, .b, .b, .i .i64]) (by kernel_rfl) (by kernel_rfl) (hval 1 57 v1 rfl rfl) h1
  obtain ⟨_, cs1_1, rfl, ⟨a1_0, rfl, w1_0⟩, ok1_1⟩ := ok1
  obtain ⟨_, cs1_2, rfl, ⟨a1_1, rfl, w1_1⟩, ok1_2⟩ := ok1_1
  obtain ⟨_, cs1_3, rfl, ⟨a1_2, rfl, w1_2⟩, ok1_3⟩ := ok1_2
  obtain ⟨_, cs1_4, rfl, ⟨a1_3, rfl⟩, ok1_4⟩ := ok1_3
  obtain ⟨_, cs1_5, rfl, ⟨a1_4, rfl⟩, ok1_5⟩ := ok1_4
  obtain ⟨_, cs1_6, rfl, ⟨a1_5, rfl⟩, ok1_6⟩ := ok1_5
  obtain ⟨_, cs1_7, rfl, ⟨a1_6, rfl, w1_6⟩, ok1_7⟩ := ok1_6
  obtain rfl : cs1_7 = [] := ok1_7
  obtain ⟨cs2, rfl, ok2⟩ := open_flat 8 (l := [.i .i64, .i .i64, .i .i64, .b, .b, .b, .i .i64]) (by kernel_rfl) (by kernel_rfl) (hval 2 57 v2 rfl rfl) h2
  obtain ⟨_, cs2_1, rfl, ⟨a2_0, rfl, w2_0⟩, ok2_1⟩ := ok2
  obtain ⟨_, cs2_2, rfl, ⟨a2_1, rfl, w2_1⟩, ok2_2⟩ := ok2_1
  obtain ⟨_, cs2_3, rfl, ⟨a2_2, rfl, w2_2⟩, ok2_3⟩ := ok2_2
  obtain ⟨_, cs2_4, rfl, ⟨a2_3, rfl⟩, ok2_4⟩ := ok2_3
  obtain ⟨_, cs2_5, rfl, ⟨a2_4, rfl⟩, ok2_5⟩ := ok2_4
  obtain ⟨_, cs2_6, rfl, ⟨a2_5, rfl⟩, ok2_6⟩ := ok2_5
  obtain ⟨_, cs2_7, rfl, ⟨a2_6, rfl, w2_6⟩, ok2_7⟩ := ok2_6
  obtain rfl : cs2_7 = [] := ok2_7
  clear hA0 hval0
  refine (walk_RegionTwice A0 len0 cap0 a1_0 a1_1 a1_2 a1_3 a1_4 a1_5 a1_6 a2_0 a2_1 a2_2 a2_3 a2_4 a2_5 a2_6 W r0 w1_0 w1_1 w1_2 w1_6 w2_0 w2_1 w2_2 w2_6).mono fun e W' ⟨he, bel⟩ => ?_
  subst he
  exact ⟨_, rfl, _, _, _, [], _, [], hW', trodAll_mk1 (shut_bool Try.underlying4 _), (trodAll_cons_mk (Below.trod laidOut (by kernel_rfl) (of_decide_eq_true (by kernel_rfl)) k0 bel lt0) (trodAll_cons_mk (Below.trod laidOut (by kernel_rfl) (of_decide_eq_true (by kernel_rfl)) k1 bel lt1) (trodAll_cons_mk (Below.trod laidOut (by kernel_rfl) (of_decide_eq_true (by kernel_rfl)) k2 bel lt2) trodAll_mk0))), rfl, bel.frame _, fun h => by cases h⟩
theorem over : Rows.regionTwiceRow.holds Try.pinned (OpenSpec.ofChange Rows.regionTwiceSpec) :=
  OpenClaim.holds_of_wide 7 Try.f7 rfl rfl rfl rfl rfl rfl rfl ⟨rfl, rfl, rfl, rfl, rfl⟩ rfl rfl rfl rfl rfl (by kernel_rfl) Try.func7 (by kernel_rfl)
    (of_decide_eq_true (by kernel_rfl)) (by unfold Func.isWrapper; first | (rw [if_pos (by decide +kernel)]; kernel_rfl) | (rw [if_neg (by decide +kernel)]; exact ⟨rfl, rfl⟩))
    (fun os started H enc _ => lifted os started H enc)
end Go.Proofs.Ytoodjhomekeekaa.regionTwice
namespace Go.Proofs.Ytoodjhomekeekaa
theorem regionTwice_holds : Rows.RegionTwiceSaid := regionTwice.over
#print axioms regionTwice_holds
end Go.Proofs.Ytoodjhomekeekaa
