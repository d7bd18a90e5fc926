/- The row of TrapBack: for every input the law returns true and its arguments read as they did; out of its walk. No condition. -/
import Derived.Test.YtokmcjjdoiaeaaaRows
import Derived.Test.YtokmcjjdoiaeaaaH
import Derived.Test.YtokmcjjdoiaeaaaTrapBack
import Derived.WalkKit
import Derived.ProofKit
import Derived.OpenShut
import Derived.ShutString
import Derived.ChangeOld
import Derived.Below
import Derived.Carry
namespace Go.Proofs.Ytokmcjjdoiaeaaa.trapBack
open Go.ChangeShapes Go.WideShapes Go.ChangeAt Go.RowKit
set_option linter.unusedVariables false
theorem own : ownKnob Try.prog.godebug = none := by kernel_rfl
theorem laidOut : laidOutB Try.prog = true := by kernel_rfl
set_option maxRecDepth 100000 in
theorem lifted (os : Os) (started : os.Started) (H : Type) (enc : TypeId × Value → H) :
    ReturnsInHanded {} Try.checked os 5 .any (Rows.trapBackSpec.pre6 enc Try.prog Try.f5 Rows.trapBackRow.domain false) (Rows.trapBackSpec.post enc Try.prog Try.f5 false true false false) := by
  refine returnsInHanded_of_change (C := Try.checked) own started (by kernel_rfl) Try.func5
    (ChangeSpec.witness6 (enc := enc) (C := Try.checked) false ⟨#[], #[.agg #[.int .u64 0, .int .u64 0, .int .u64 0, .int .u64 0, .int .i64 0, .int .u64 0, .bool false, .int .u64 0, .int .i64 0, .int .u64 0, .int .u64 0, .int .u64 0, .int .u64 0], .agg #[.int .u64 0, .int .i64 0], .slice none 0 0], []⟩ 8 (by kernel_rfl) (by kernel_rfl) (by kernel_rfl) (by kernel_rfl)) ?_
  intro W base args ds gs before hval0 hW hcnd _
  have hval : ∀ (j : Nat) t v, Try.f5.params[j]? = some t → args[j]? = some v → Value.okWide Try.prog W .any base t v := hval0
  have hW' := hW
  obtain ⟨p, q, hA0, hV, rfl, hfz, hnd⟩ := hW
  have hA : DataW.TrodAll enc Try.prog W 0 (fun _ => true) true Try.f5.params.toList args.toList ds p := hA0
  rw [Try.params5] at hA hval
  obtain ⟨v0, vs0, d0, ds0, p0, q0, hargs, rfl, rfl, h0, r_0⟩ := trodAll_cons hA
  obtain ⟨v1, vs1, d1, ds1, p1, q1, rfl, rfl, rfl, h1, r_1⟩ := trodAll_cons r_0
  obtain ⟨v2, vs2, d2, ds2, p2, q2, rfl, rfl, rfl, h2, r_2⟩ := trodAll_cons r_1
  obtain ⟨rfl, rfl, rfl⟩ := trodAll_nil r_2
  obtain rfl : args = #[v0, v1, v2] := by cases args; simp_all
  obtain ⟨rfl, rfl⟩ := trodVars_none hV
  have k0 := h0
  have lt0 : ∀ x ∈ p0, x.block < W.heap.size := by obtain ⟨m, hm⟩ := k0; exact DataW.trod_lt m _ _ _ hm
  have k1 := h1
  have lt1 : ∀ x ∈ p1, x.block < W.heap.size := by obtain ⟨m, hm⟩ := k1; exact DataW.trod_lt m _ _ _ hm
  have k2 := h2
  have lt2 : ∀ x ∈ p2, x.block < W.heap.size := by obtain ⟨m, hm⟩ := k2; exact DataW.trod_lt m _ _ _ hm
  obtain ⟨cs0, rfl, ok0⟩ := open_flat 8 (l := [.i .u64, .i .u64, .i .u64, .i .u64, .i .i64, .i .u64, .b, .i .u64, .i .i64, .i .u64, .i .u64, .i .u64, .i .u64]) (by kernel_rfl) (by kernel_rfl) (hval 0 28 v0 rfl rfl) h0
  obtain ⟨_, cs0_1, rfl, ⟨a0_0, rfl, w0_0⟩, ok0_1⟩ := ok0
  obtain ⟨_, cs0_2, rfl, ⟨a0_1, rfl, w0_1⟩, ok0_2⟩ := ok0_1
  obtain ⟨_, cs0_3, rfl, ⟨a0_2, rfl, w0_2⟩, ok0_3⟩ := ok0_2
  obtain ⟨_, cs0_4, rfl, ⟨a0_3, rfl, w0_3⟩, ok0_4⟩ := ok0_3
  obtain ⟨_, cs0_5, rfl, ⟨a0_4, rfl, w0_4⟩, ok0_5⟩ := ok0_4
  obtain ⟨_, cs0_6, rfl, ⟨a0_5, rfl, w0_5⟩, ok0_6⟩ := ok0_5
  obtain ⟨_, cs0_7, rfl, ⟨a0_6, rfl⟩, ok0_7⟩ := ok0_6
  obtain ⟨_, cs0_8, rfl, ⟨a0_7, rfl, w0_7⟩, ok0_8⟩ := ok0_7
  obtain ⟨_, cs0_9, rfl, ⟨a0_8, rfl, w0_8⟩, ok0_9⟩ := ok0_8
  obtain ⟨_, cs0_10, rfl, ⟨a0_9, rfl, w0_9⟩, ok0_10⟩ := ok0_9
  obtain ⟨_, cs0_11, rfl, ⟨a0_10, rfl, w0_10⟩, ok0_11⟩ := ok0_10
  obtain ⟨_, cs0_12, rfl, ⟨a0_11, rfl, w0_11⟩, ok0_12⟩ := ok0_11
  obtain ⟨_, cs0_13, rfl, ⟨a0_12, rfl, w0_12⟩, ok0_13⟩ := ok0_12
  obtain rfl : cs0_13 = [] := ok0_13
  obtain ⟨cs1, rfl, ok1⟩ := open_flat 8 (l := [.i .u64, .i .i64]) (by kernel_rfl) (by kernel_rfl) (hval 1 26 v1 rfl rfl) h1
  obtain ⟨_, cs1_1, rfl, ⟨a1_0, rfl, w1_0⟩, ok1_1⟩ := ok1
  obtain ⟨_, cs1_2, rfl, ⟨a1_1, rfl, w1_1⟩, ok1_2⟩ := ok1_1
  obtain rfl : cs1_2 = [] := ok1_2
  obtain ⟨A2, len2, cap2, rfl, r2⟩ := open_rows 8 (l := [.i .i64, .i .i64, .i .i64, .i .i64, .i .i64, .i .u64, .i .u64, .i .i64]) (by decide) Try.underlying36 (by kernel_rfl) (by kernel_rfl) (hval 2 36 v2 rfl rfl) h2
  clear hA0 hval0
  refine (walk_TrapBack a0_0 a0_1 a0_2 a0_3 a0_4 a0_5 a0_6 a0_7 a0_8 a0_9 a0_10 a0_11 a0_12 a1_0 a1_1 A2 len2 cap2 W w0_0 w0_1 w0_2 w0_3 w0_4 w0_5 w0_7 w0_8 w0_9 w0_10 w0_11 w0_12 w1_0 w1_1 r2).mono fun e W' ⟨he, bel⟩ => ?_
  subst he
  exact ⟨_, rfl, _, _, _, [], _, [], hW', trodAll_mk1 (shut_bool Try.underlying4 _), (trodAll_cons_mk (Below.trod laidOut (by kernel_rfl) (of_decide_eq_true (by kernel_rfl)) k0 bel lt0) (trodAll_cons_mk (Below.trod laidOut (by kernel_rfl) (of_decide_eq_true (by kernel_rfl)) k1 bel lt1) (trodAll_cons_mk (Below.trod laidOut (by kernel_rfl) (of_decide_eq_true (by kernel_rfl)) k2 bel lt2) trodAll_mk0))), rfl, bel.frame _, fun h => by cases h⟩
theorem over : Rows.trapBackRow.holds Try.pinned (OpenSpec.ofChange Rows.trapBackSpec) :=
  OpenClaim.holds_of_wide 5 Try.f5 rfl rfl rfl rfl rfl rfl rfl ⟨rfl, rfl, rfl, rfl, rfl⟩ rfl rfl rfl rfl rfl (by kernel_rfl) Try.func5 (by kernel_rfl)
    (of_decide_eq_true (by kernel_rfl)) (by unfold Func.isWrapper; first | (rw [if_pos (by decide +kernel)]; kernel_rfl) | (rw [if_neg (by decide +kernel)]; exact ⟨rfl, rfl⟩))
    (fun os started H enc _ => lifted os started H enc)
end Go.Proofs.Ytokmcjjdoiaeaaa.trapBack
namespace Go.Proofs.Ytokmcjjdoiaeaaa
theorem trapBack_holds : Rows.TrapBackSaid := trapBack.over
#print axioms trapBack_holds
end Go.Proofs.Ytokmcjjdoiaeaaa
