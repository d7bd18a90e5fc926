/- The package flt (layer 2): what the laws of layer 2 ask of it first (awake). No condition. -/
import Derived.Test.YtbidpdgjlcmhhaaFltC
namespace Go.Proofs.Ytbidpdgjlcmhhaa
open Go.ChangeShapes Go.WideShapes Go.ChangeAt Go.RowKit
set_option linter.unusedVariables false
set_option linter.unusedSimpArgs false

theorem fromint_one (w : World) : Calls Try.prog 18 #[.int .i64 1] w fun e w' => e = .returned (.int .u64 4607182418800017408) ∧ w' = w := by
  have hc : ∀ w, (convert 2 43 (.int .i64 1)).run Try.prog w = .ok (.float .f64 4607182418800017408) w := fun _ => by kernel_rfl
  have ht := to_bits
  go_enter Try.func18, Try.ntmps18
  go_wp2_with fail
  go_returns
  exact ⟨rfl, rfl⟩
theorem one_zero : doV 4 4607182418800017408 0 = .tuple #[.int .u64 9218868437227405312, .int .i64 2, .int .i64 0] := by
  have h1 : rawF 4 4607182418800017408 0 = some 9218868437227405312 := by kernel_rfl
  have h2 : outF (some 9218868437227405312) = 9218868437227405312 := by decide
  have h3 : flagF 4 (fcls 4607182418800017408) (fcls 0) (clsO (some 9218868437227405312)) (sigB 4607182418800017408) (sigB 0) = 2 := by decide
  unfold doV
  rw [h1, h2, h3]; rfl
theorem awake_true (w : World) : Calls Try.prog 11 #[] w fun e w' => e = .returned (.bool true) ∧ Below w.heap.size w w' := by
  have H1 := Lib.hid fromint_one
  have h2 := do_arith 4 (by omega) 4607182418800017408 0 (by omega) (by omega)
  rw [one_zero] at h2
  have H2 := Lib.hid h2
  have h3 := class_any 9221120237041090560 (by omega)
  rw [show fcls 9221120237041090560 = 4 by decide] at h3
  have H3 := Lib.hid h3
  clear h2 h3
  go_enter Try.func11, Try.ntmps11
  go_wp2_with fail
  refine (H1.out _).mono ?_
  rintro e w1 ⟨rfl, hw⟩
  obtain rfl := hw.symm
  clear hw
  go_wp2_with fail
  refine (H2.out _).mono ?_
  rintro e w2 ⟨rfl, hb2⟩
  go_wp2_with fail
  refine (H3.out _).mono ?_
  rintro e w3 ⟨rfl, hw⟩
  obtain rfl := hw.symm
  clear hw
  go_wp2_with fail
  go_returns
  exact ⟨rfl, hb2⟩
end Go.Proofs.Ytbidpdgjlcmhhaa
