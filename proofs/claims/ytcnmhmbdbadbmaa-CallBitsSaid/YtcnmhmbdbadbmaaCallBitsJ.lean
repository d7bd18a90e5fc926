/- CallBits: of a call's words no bit may be turned without another call, or none, coming of it: the ways joined. No condition. -/
import Derived.Test.YtcnmhmbdbadbmaaCallBits
namespace Go.Proofs.Ytcnmhmbdbadbmaa
open Go.ChangeShapes Go.WideShapes Go.ChangeAt Go.RowKit
theorem walk_CallBits (a0_0 : Int) (a0_1 : Int) (a0_2 : Int) (a0_3 : Int) (a0_4 : Int) (a0_5 : Int) (a1 : Int) (a2 : Int) (w : World) (w0_0 : (Lit.int .u64 a0_0).wf = true) (w0_1 : (Lit.int .u64 a0_1).wf = true) (w0_2 : (Lit.int .u64 a0_2).wf = true) (w0_3 : (Lit.int .u64 a0_3).wf = true) (w0_4 : (Lit.int .u64 a0_4).wf = true) (w0_5 : (Lit.int .u64 a0_5).wf = true) (_w1 : (Lit.int .i64 a1).wf = true) (_w2 : (Lit.int .i64 a2).wf = true) :
    Calls Try.prog 5 #[.agg #[.int .u64 a0_0, .int .u64 a0_1, .int .u64 a0_2, .int .u64 a0_3, .int .u64 a0_4, .int .u64 a0_5], .int .i64 a1, .int .i64 a2] w fun e w' => e = .returned (.bool true) ∧ Below w.heap.size w w' := by
  obtain ⟨l0, u0⟩ := u64_bd w0_0
  obtain ⟨l1, u1⟩ := u64_bd w0_1
  obtain ⟨l2, u2⟩ := u64_bd w0_2
  obtain ⟨l3, u3⟩ := u64_bd w0_3
  obtain ⟨l4, u4⟩ := u64_bd w0_4
  obtain ⟨l5, u5⟩ := u64_bd w0_5
  by_cases hg : goodF a0_0 a0_1 a0_2 a0_3 a0_4 a0_5
  · by_cases ho : a1 < 0 ∨ 5 < a1 ∨ a2 < 0 ∨ 63 < a2
    · exact bits_out _ _ _ _ _ _ _ _ l0 l1 l2 l3 l4 l5 u0 u1 u2 u3 u4 u5 hg ho w
    · obtain ⟨n, rfl⟩ : ∃ n : Nat, a2 = n := ⟨a2.toNat, by omega⟩
      have h : a1 = 0 ∨ a1 = 1 ∨ a1 = 2 ∨ a1 = 3 ∨ a1 = 4 ∨ a1 = 5 := by omega
      rcases h with rfl | rfl | rfl | rfl | rfl | rfl
      · exact bits_0 _ _ _ _ _ _ n l0 l1 l2 l3 l4 l5 u0 u1 u2 u3 u4 u5 hg (by omega) w
      · exact bits_1 _ _ _ _ _ _ n l0 l1 l2 l3 l4 l5 u0 u1 u2 u3 u4 u5 hg (by omega) w
      · exact bits_2 _ _ _ _ _ _ n l0 l1 l2 l3 l4 l5 u0 u1 u2 u3 u4 u5 hg (by omega) w
      · exact bits_3 _ _ _ _ _ _ n l0 l1 l2 l3 l4 l5 u0 u1 u2 u3 u4 u5 hg (by omega) w
      · exact bits_4 _ _ _ _ _ _ n l0 l1 l2 l3 l4 l5 u0 u1 u2 u3 u4 u5 hg (by omega) w
      · exact bits_5 _ _ _ _ _ _ n l0 l1 l2 l3 l4 l5 u0 u1 u2 u3 u4 u5 hg (by omega) w
  · exact bits_none _ _ _ _ _ _ _ _ l0 l1 l2 l3 l4 l5 u0 u1 u2 u3 u4 u5 hg w
end Go.Proofs.Ytcnmhmbdbadbmaa
