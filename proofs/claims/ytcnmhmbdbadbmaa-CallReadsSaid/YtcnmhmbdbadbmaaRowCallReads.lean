/- The row of CallReads: for every input the law returns true and its arguments read as they did; out of its walk. No condition. -/
import Derived.Test.YtcnmhmbdbadbmaaRows
import Derived.Test.YtcnmhmbdbadbmaaH
import Derived.Test.YtcnmhmbdbadbmaaCallReads
import Derived.WalkKit
import Derived.ProofKit
import Derived.OpenShut
import Derived.ShutString
import Derived.ChangeOld
import Derived.Below
import Derived.Carry
namespace Go.Proofs.Ytcnmhmbdbadbmaa.callReads
open Go.ChangeShapes Go.WideShapes Go.ChangeAt Go.RowKit
set_option linter.unusedVariables false
theorem own : ownKnob Try.prog.godebug = none := by kernel_rfl
theorem laidOut : laidOutB Try.prog = true := by kernel_rfl
set_option maxRecDepth 100000 in
theorem lifted (os : Os) (started : os.Started) (H : Type) (enc : TypeId × Value → H) :
    ReturnsInHanded {} Try.checked os 3 .any (Rows.callReadsSpec.pre6 enc Try.prog Try.f3 Rows.callReadsRow.domain false) (Rows.callReadsSpec.post enc Try.prog Try.f3 false true false false) := by
  refine returnsInHanded_of_change (C := Try.checked) own started (by kernel_rfl) Try.func3
    (ChangeSpec.witness6 (enc := enc) (C := Try.checked) false ⟨#[], #[.agg #[.int .u64 0, .int .u64 0, .int .u64 0, .int .u64 0, .int .u64 0, .int .u64 0]], []⟩ 8 (by kernel_rfl) (by kernel_rfl) (by kernel_rfl) (by kernel_rfl)) ?_
  intro W base args ds gs before hval0 hW hcnd _
  have hval : ∀ (j : Nat) t v, Try.f3.params[j]? = some t → args[j]? = some v → Value.okWide Try.prog W .any base t v := hval0
  have hW' := hW
  obtain ⟨p, q, hA0, hV, rfl, hfz, hnd⟩ := hW
  have hA : DataW.TrodAll enc Try.prog W 0 (fun _ => true) true Try.f3.params.toList args.toList ds p := hA0
  rw [Try.params3] at hA hval
  obtain ⟨v0, vs0, d0, ds0, p0, q0, hargs, rfl, rfl, h0, r_0⟩ := trodAll_cons hA
  obtain ⟨rfl, rfl, rfl⟩ := trodAll_nil r_0
  obtain rfl : args = #[v0] := by cases args; simp_all
  obtain ⟨rfl, rfl⟩ := trodVars_none hV
  have k0 := h0
  have lt0 : ∀ x ∈ p0, x.block < W.heap.size := by obtain ⟨m, hm⟩ := k0; exact DataW.trod_lt m _ _ _ hm
  obtain ⟨cs0, rfl, ok0⟩ := open_flat 8 (l := [.i .u64, .i .u64, .i .u64, .i .u64, .i .u64, .i .u64]) (by kernel_rfl) (by kernel_rfl) (hval 0 24 v0 rfl rfl) h0
  obtain ⟨_, cs0_1, rfl, ⟨a0_0, rfl, w0_0⟩, ok0_1⟩ := ok0
  obtain ⟨_, cs0_2, rfl, ⟨a0_1, rfl, w0_1⟩, ok0_2⟩ := ok0_1
  obtain ⟨_, cs0_3, rfl, ⟨a0_2, rfl, w0_2⟩, ok0_3⟩ := ok0_2
  obtain ⟨_, cs0_4, rfl, ⟨a0_3, rfl, w0_3⟩, ok0_4⟩ := ok0_3
  obtain ⟨_, cs0_5, rfl, ⟨a0_4, rfl, w0_4⟩, ok0_5⟩ := ok0_4
  obtain ⟨_, cs0_6, rfl, ⟨a0_5, rfl, w0_5⟩, ok0_6⟩ := ok0_5
  obtain rfl : cs0_6 = [] := ok0_6
  clear hA0 hval0
  refine (walk_CallReads a0_0 a0_1 a0_2 a0_3 a0_4 a0_5 W w0_0 w0_1 w0_2 w0_3 w0_4 w0_5).mono fun e W' ⟨he, bel⟩ => ?_
  subst he
  exact ⟨_, rfl, _, _, _, [], _, [], hW', trodAll_mk1 (shut_bool Try.underlying4 _), (trodAll_cons_mk (Below.trod laidOut (by kernel_rfl) (of_decide_eq_true (by kernel_rfl)) k0 bel lt0) trodAll_mk0), rfl, bel.frame _, fun h => by cases h⟩
theorem over : Rows.callReadsRow.holds Try.pinned (OpenSpec.ofChange Rows.callReadsSpec) :=
  OpenClaim.holds_of_wide 3 Try.f3 rfl rfl rfl rfl rfl rfl rfl ⟨rfl, rfl, rfl, rfl, rfl⟩ rfl rfl rfl rfl rfl (by kernel_rfl) Try.func3 (by kernel_rfl)
    (of_decide_eq_true (by kernel_rfl)) (by unfold Func.isWrapper; first | (rw [if_pos (by decide +kernel)]; kernel_rfl) | (rw [if_neg (by decide +kernel)]; exact ⟨rfl, rfl⟩))
    (fun os started H enc _ => lifted os started H enc)
end Go.Proofs.Ytcnmhmbdbadbmaa.callReads
namespace Go.Proofs.Ytcnmhmbdbadbmaa
theorem callReads_holds : Rows.CallReadsSaid := callReads.over
#print axioms callReads_holds
end Go.Proofs.Ytcnmhmbdbadbmaa
