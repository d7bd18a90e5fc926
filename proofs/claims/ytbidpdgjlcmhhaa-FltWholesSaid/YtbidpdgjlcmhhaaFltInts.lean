/- FltInts. No condition. -/
import Derived.Test.YtbidpdgjlcmhhaaFltG
import Derived.Test.YtbidpdgjlcmhhaaFltJ
import Derived.Test.YtbidpdgjlcmhhaaFltL
namespace Go.Proofs.Ytbidpdgjlcmhhaa
open Go.ChangeShapes Go.WideShapes Go.ChangeAt Go.RowKit
set_option linter.unusedVariables false
set_option linter.unusedSimpArgs false
theorem toint_all (x : Nat) (w : World) :
    Calls Try.prog 19 #[.int .u64 x] w fun e w' => e = .returned (.tuple #[.int .i64 (if tiOk x = true then tiV x else 0), .int .i64 (if tiOk x = true then 0 else 1)]) ∧ w' = w := by
  rcases h : tiOk x with _ | _
  · exact toint_no x h w
  · exact toint_ok x h w
theorem u64_natI {x : Int} (h : (Lit.int .u64 x).wf = true) : ∃ n : Nat, x = n ∧ n < 18446744073709551616 := by
  simp [Lit.wf, IntKind.min, IntKind.max, IntKind.signed, IntKind.bits] at h
  exact ⟨x.toNat, by omega, by omega⟩
theorem i64_bdI {x : Int} (h : (Lit.int .i64 x).wf = true) : -9223372036854775808 ≤ x ∧ x ≤ 9223372036854775807 := by
  simp [Lit.wf, IntKind.min, IntKind.max, IntKind.signed, IntKind.bits] at h
  exact ⟨by omega, by omega⟩
theorem walk_FltInts (a0 : Int) (a1 : Int) (w : World) (w0 : (Lit.int .u64 a0).wf = true) (w1 : (Lit.int .i64 a1).wf = true) :
    Calls Try.prog 8 #[.int .u64 a0, .int .i64 a1] w fun e w' => e = .returned (.bool true) ∧ Below w.heap.size w w' := by
  obtain ⟨x, rfl, h1⟩ := u64_natI w0
  obtain ⟨h3, h4⟩ := i64_bdI w1
  have T1 := Lib.hid (fun W => toint_all x W)
  have T2 := Lib.hid (fun W => reftoint_any x (by omega) W)
  have F1 := Lib.hid (fun W => fromint_all a1 (by omega) W)
  have F2 := Lib.hid (fun W => reffromint_any a1 (by omega) (by omega) W)
  generalize (if tiOk x = true then tiV x else 0) = v at T1 T2
  generalize (if tiOk x = true then (0 : Int) else 1) = u at T1 T2
  generalize fiG a1 = g at F1 F2
  clear h1 h3 h4 w0 w1
  go_enter Try.func8, Try.ntmps8
  go_wp2_with fail
  refine (T1.out _).mono ?_
  rintro e s1 ⟨rfl, hw⟩
  obtain rfl := hw.symm
  clear hw
  go_wp2_with fail
  refine (T2.out _).mono ?_
  rintro e s1 ⟨rfl, hw⟩
  obtain rfl := hw.symm
  clear hw
  go_wp2_with fail
  refine (awake_true _).mono ?_
  rintro e s3 ⟨rfl, hs3⟩
  go_wp2_with fail
  refine (F1.out _).mono ?_
  rintro e s4 ⟨rfl, hw⟩
  obtain rfl := hw.symm
  clear hw
  go_wp2_with fail
  refine (F2.out _).mono ?_
  rintro e s5 ⟨rfl, hw⟩
  obtain rfl := hw.symm
  clear hw
  go_wp2_with fail
  go_returns
  exact ⟨rfl, hs3⟩
end Go.Proofs.Ytbidpdgjlcmhhaa
