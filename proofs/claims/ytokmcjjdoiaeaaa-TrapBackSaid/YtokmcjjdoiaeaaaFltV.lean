/- FltDoes: the document's Do where an operand is a NaN. No condition but that the words have 64 bits. -/
import Derived.Test.YtokmcjjdoiaeaaaFltU
import Derived.Deep.DeepCutAuto
import Derived.Deep.CutBlock
namespace Go.Proofs.Ytokmcjjdoiaeaaa
open Go.ChangeShapes Go.WideShapes Go.ChangeAt Go.RowKit
set_option linter.unusedVariables false
set_option linter.unusedSimpArgs false
theorem key_neg_ (x : Nat) (hx : x < 18446744073709551616) : keyN (negN x) = -keyN x := by
  unfold keyN skey
  rw [rg_neg, sg_neg x hx]
  cases sg x <;> simp
theorem fcmp_num_ {x y : Nat} (h1 : nanN x = false) (h2 : nanN y = false) : fcmp x y = if keyN x < keyN y then -1 else if keyN y < keyN x then 1 else 0 := by
  unfold fcmp; rw [h1, h2]; rfl
theorem less_great_ {x y : Nat} (hx : x < 18446744073709551616) (hy : y < 18446744073709551616) (h1 : nanN x = false) (h2 : nanN y = false) :
    (lessF x y = x ∧ negN (lessF (negN x) (negN y)) = y ∧ fcmp x y ≤ 0) ∨ (lessF x y = y ∧ negN (lessF (negN x) (negN y)) = x ∧ fcmp y x ≤ 0) := by
  unfold lessF
  rw [fcmp_num_ h1 h2, fcmp_num_ h2 h1, fcmp_num_ (by rw [nan_neg]; exact h1) (by rw [nan_neg]; exact h2), key_neg_ x hx, key_neg_ y hy]
  by_cases c1 : keyN x < keyN y
  · rw [if_pos c1, if_neg (show ¬ -keyN x < -keyN y by omega), if_pos (show -keyN y < -keyN x by omega)]
    left
    simp [neg_neg_ y hy]
  · rw [if_neg c1]
    by_cases c2 : keyN y < keyN x
    · rw [if_pos c2, if_pos (show -keyN x < -keyN y by omega)]
      right
      rw [if_pos c2]
      simp [neg_neg_ x hx]
    · rw [if_neg c2, if_neg (show ¬ -keyN x < -keyN y by omega), if_neg (show ¬ -keyN y < -keyN x by omega)]
      simp only [Int.lt_irrefl, if_false, if_true]
      by_cases c3 : x / 9223372036854775808 = 1
      · left
        rw [if_pos c3, if_neg (show ¬ negN x / 9223372036854775808 = 1 by unfold negN; omega)]
        exact ⟨rfl, neg_neg_ y hy, Int.le_refl _⟩
      · right
        rw [if_neg c3, if_pos (show negN x / 9223372036854775808 = 1 by unfold negN; omega)]
        exact ⟨rfl, neg_neg_ x hx, by rw [if_neg c2, if_neg c1]; exact Int.le_refl _⟩
theorem num_cls {x : Nat} (h : nanN x = false) : (fcls x == 4) = false := beq_false_of_ne (fun e => by rw [(cls_nan x).2 e] at h; cases h)
theorem num_sig {x : Nat} (h : nanN x = false) : sigB x = false := by unfold sigB; rw [num_cls h]; rfl
theorem cls_out (R : Option Nat) : fcls (outF R) = clsO R := by
  cases R with
  | none => decide
  | some r =>
    unfold outF
    show fcls (if fcls r = 4 then _ else r) = fcls r
    split
    · rename_i h; rw [h]; decide
    · rfl
section
variable (x y : Nat)
set_option maxRecDepth 100000 in
set_option maxHeartbeats 8000000 in
theorem refdo_nan (op : Int) (ho : 1 ≤ op ∧ op ≤ 6) (hx : x < 18446744073709551616) (hy : y < 18446744073709551616) (hn : nanN x = true ∨ nanN y = true) (w : World) :
    Calls Try.prog 26 #[.int .i64 op, .int .u64 x, .int .u64 y] w fun e w' => e = .returned (.tuple #[.int .u64 (outF (rawF op x y)), .int .i64 (refFlag op (fcls x) (fcls y) (clsO (rawF op x y)) (sigB x) (sigB y)), .int .i64 0]) ∧ Below w.heap.size w w' := by
  rw [raw_nan ho hn]
  have o1 : decide (op < 1) = false := decide_eq_false (by omega)
  have o2 : decide (8 < op) = false := decide_eq_false (by omega)
  have o7 : (op == 7) = false := beq_false_of_ne (by omega)
  have o8 : (op == 8) = false := beq_false_of_ne (by omega)
  have hf := from_bits
  have ht := to_bits
  have CX := Lib.hid (refclass_any x hx)
  have CY := Lib.hid (refclass_any y hy)
  have GX := Lib.hid (refsignals_any x hx)
  have GY := Lib.hid (refsignals_any y hy)
  have CN := Lib.hid (fun W => refclass_any 9221120237041090560 (by omega) W)
  have cn : fcls 9221120237041090560 = 4 := by decide
  rw [cn] at CN
  have HO := Lib.hid ho
  have HN : Hid ((fcls x == 4) = true ∨ (fcls y == 4) = true) := Lib.hid (hn.imp (fun h => by rw [(cls_nan x).1 h]; rfl) (fun h => by rw [(cls_nan y).1 h]; rfl))
  generalize fcls x = cx at CX HN ⊢
  generalize fcls y = cy at CY HN ⊢
  generalize sigB x = sx at GX ⊢
  generalize sigB y = sy at GY ⊢
  clear cn hx hy hn ho
  go_enter Try.func26, Try.ntmps26
  go_wp2_with (first | (go_at_call 32; ((with_reducible refine (CX.out _).mono ?_); rintro e w9 ⟨rfl, hw⟩; obtain rfl := hw.symm; clear hw)) | (go_at_call 32; ((with_reducible refine (CY.out _).mono ?_); rintro e w9 ⟨rfl, hw⟩; obtain rfl := hw.symm; clear hw)) | (go_at_call 32; ((refine (CN.out _).mono ?_); rintro e w9 ⟨rfl, hw⟩; obtain rfl := hw.symm; clear hw)) | (go_at_call 34; ((with_reducible refine (GX.out _).mono ?_); rintro e w9 ⟨rfl, hw⟩; obtain rfl := hw.symm; clear hw)) | (go_at_call 34; ((with_reducible refine (GY.out _).mono ?_); rintro e w9 ⟨rfl, hw⟩; obtain rfl := hw.symm; clear hw)))
  all_goals
    first
      | (exfalso; rcases HN.out with h | h <;> simp_all; done)
      | (go_returns
         refine ⟨ret_v ?_, Below.refl _ _⟩
         clear CX CY GX GY CN HN hf ht
         simp_all [refFlag, outF, clsO])
end
end Go.Proofs.Ytokmcjjdoiaeaaa
