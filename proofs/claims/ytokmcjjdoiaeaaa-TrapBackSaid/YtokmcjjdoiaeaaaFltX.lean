/- FltDoes: the document's Do at two numbers. No condition but that the words have 64 bits. -/
import Derived.Test.YtokmcjjdoiaeaaaFltV
namespace Go.Proofs.Ytokmcjjdoiaeaaa
open Go.ChangeShapes Go.WideShapes Go.ChangeAt Go.RowKit
set_option linter.unusedVariables false
set_option linter.unusedSimpArgs false
theorem pick_min {x y : Nat} (hx : x < 18446744073709551616) (hy : y < 18446744073709551616) (h1 : nanN x = false) (h2 : nanN y = false) :
    (if fcmp y x < 0 then y else if fcmp x y = 0 ∧ y / 9223372036854775808 = 1 then y else x) = lessF x y := by
  unfold lessF
  rw [fcmp_num_ h1 h2, fcmp_num_ h2 h1]
  by_cases c1 : keyN x < keyN y
  · have c2 : ¬ keyN y < keyN x := by omega
    simp [c1, c2]
  · by_cases c2 : keyN y < keyN x
    · simp [c1, c2]
    · have hk : keyN x = keyN y := by omega
      simp only [if_neg c1, if_neg c2, Int.lt_irrefl, if_false, if_true, true_and]
      by_cases c3 : y / 9223372036854775808 = 1
      · rw [if_pos c3]
        split
        · rename_i c4; exact (word_eq hx hy hk (by omega)).symm
        · rfl
      · rw [if_neg c3]
        split
        · rfl
        · rename_i c4; exact word_eq hx hy hk (by omega)
theorem pick_max {x y : Nat} (hx : x < 18446744073709551616) (hy : y < 18446744073709551616) (h1 : nanN x = false) (h2 : nanN y = false) :
    (if 0 < fcmp y x then y else if fcmp x y = 0 ∧ y / 9223372036854775808 = 0 then y else x) = negN (lessF (negN x) (negN y)) := by
  unfold lessF
  rw [fcmp_num_ h1 h2, fcmp_num_ h2 h1, fcmp_num_ (by rw [nan_neg]; exact h1) (by rw [nan_neg]; exact h2), key_neg_ x hx, key_neg_ y hy]
  by_cases c1 : keyN x < keyN y
  · have c2 : ¬ keyN y < keyN x := by omega
    have c3 : ¬ -keyN x < -keyN y := by omega
    have c4 : -keyN y < -keyN x := by omega
    simp [c1, c2, c3, c4, neg_neg_ y hy]
  · by_cases c2 : keyN y < keyN x
    · have c3 : -keyN x < -keyN y := by omega
      simp [c1, c2, c3, neg_neg_ x hx]
    · have hk : keyN x = keyN y := by omega
      have c3 : ¬ -keyN x < -keyN y := by omega
      have c4 : ¬ -keyN y < -keyN x := by omega
      simp only [if_neg c1, if_neg c2, if_neg c3, if_neg c4, Int.lt_irrefl, if_false, if_true, true_and]
      have n1 : negN x / 9223372036854775808 = 1 ↔ x / 9223372036854775808 = 0 := by unfold negN; omega
      by_cases c5 : y / 9223372036854775808 = 0
      · rw [if_pos c5]
        split
        · rename_i c6; rw [neg_neg_ x hx]; exact (word_eq hx hy hk (by rw [n1.1 c6, c5])).symm
        · exact (neg_neg_ y hy).symm
      · rw [if_neg c5]
        split
        · exact (neg_neg_ x hx).symm
        · rename_i c6; rw [neg_neg_ y hy]; exact word_eq hx hy hk (by have : x / 9223372036854775808 ≠ 0 := fun e => c6 (n1.2 e); omega)
/-- What the document's switch leaves. -/
def MidOk (op : Int) (x y : Nat) (v : Value) : Prop := ∃ b : Nat, v = .int .u64 b ∧ RawOk (rawF op x y) b ∧ b < 18446744073709551616
section
variable (x y : Nat)
set_option maxRecDepth 100000 in
set_option maxHeartbeats 16000000 in
theorem refdo_num (op : Int) (ho : 1 ≤ op ∧ op ≤ 6) (hx : x < 18446744073709551616) (hy : y < 18446744073709551616) (nx : nanN x = false) (ny : nanN y = false) (w : World) :
    Calls Try.prog 26 #[.int .i64 op, .int .u64 x, .int .u64 y] w fun e w' => e = .returned (.tuple #[.int .u64 (outF (rawF op x y)), .int .i64 (refFlag op (fcls x) (fcls y) (clsO (rawF op x y)) (sigB x) (sigB y)), .int .i64 0]) ∧ Below w.heap.size w w' := by
  have o1 : decide (op < 1) = false := decide_eq_false (by omega)
  have o2 : decide (8 < op) = false := decide_eq_false (by omega)
  have o7 : (op == 7) = false := beq_false_of_ne (by omega)
  have o8 : (op == 8) = false := beq_false_of_ne (by omega)
  have hf := from_bits
  have ht := to_bits
  have CX := Lib.hid (refclass_any x hx)
  have CY := Lib.hid (refclass_any y hy)
  have HO := Lib.hid ho
  have HXY := Lib.hid (And.intro hx hy)
  have HN := Lib.hid (And.intro nx ny)
  have t1 := num_cls nx
  have t2 := num_cls ny
  have t3 : (fcls x != 4) = true := by simp [bne, t1]
  have t4 : (fcls y != 4) = true := by simp [bne, t2]
  clear hx hy ho nx ny
  go_enter Try.func26, Try.ntmps26
  go_upto_if 42 with (first | (go_at_call 32; ((with_reducible refine (CX.out _).mono ?_); rintro e w9 ⟨rfl, hw⟩; obtain rfl := hw.symm; clear hw)) | (go_at_call 32; ((with_reducible refine (CY.out _).mono ?_); rintro e w9 ⟨rfl, hw⟩; obtain rfl := hw.symm; clear hw)))
  go_cut [12] (fun s12 wx => MidOk op x y s12 ∧ Below w.heap.size w wx)
  case first =>
    have hop : op = 1 ∨ op = 2 ∨ op = 3 ∨ op = 4 ∨ op = 5 ∨ op = 6 := by have := HO.out; omega
    clear HO o1 o2 o7 o8 CX CY t1 t2 t3 t4
    rcases hop with rfl | rfl | rfl | rfl | rfl | rfl
    · cases hr : Ieee.double.add x y with
      | none =>
        have ha := run_nan .add 65 x y (by simp) hr
        have HH : Hid (∀ W : World, MidOk 1 x y (.int .u64 (tapeNaN x y W))) := Lib.hid fun W => ⟨_, rfl, .inr ⟨by simp [rawF, hr], (tapeNaN_ok x y W).1⟩, (tapeNaN_ok x y W).2⟩
        clear hr HXY HN
        go_wp2_with fail
        go_meet
        exact ⟨HH.out _, (Below.refl _ _).drew⟩
      | some r =>
        have ha := fun W => run_float_arith (P := Try.prog) W .add 65 .f64 x y r hr
        have HH : Hid (MidOk 1 x y (.int .u64 r)) := Lib.hid ⟨r, rfl, .inl ⟨r, by simp [rawF, hr], rfl⟩, Ieee.Format.add_lt _ hr⟩
        clear hr HXY HN
        go_wp2_with fail
        go_meet
        exact ⟨HH.out, Below.refl _ _⟩
    · cases hr : Ieee.double.sub x y with
      | none =>
        have ha := run_nan .sub 65 x y (by simp) hr
        have HH : Hid (∀ W : World, MidOk 2 x y (.int .u64 (tapeNaN x y W))) := Lib.hid fun W => ⟨_, rfl, .inr ⟨by simp [rawF, hr], (tapeNaN_ok x y W).1⟩, (tapeNaN_ok x y W).2⟩
        clear hr HXY HN
        go_wp2_with fail
        go_meet
        exact ⟨HH.out _, (Below.refl _ _).drew⟩
      | some r =>
        have ha := fun W => run_float_arith (P := Try.prog) W .sub 65 .f64 x y r hr
        have HH : Hid (MidOk 2 x y (.int .u64 r)) := Lib.hid ⟨r, rfl, .inl ⟨r, by simp [rawF, hr], rfl⟩, Ieee.Format.sub_lt _ hr⟩
        clear hr HXY HN
        go_wp2_with fail
        go_meet
        exact ⟨HH.out, Below.refl _ _⟩
    · cases hr : Ieee.double.mul x y with
      | none =>
        have ha := run_nan .mul 65 x y (by simp) hr
        have HH : Hid (∀ W : World, MidOk 3 x y (.int .u64 (tapeNaN x y W))) := Lib.hid fun W => ⟨_, rfl, .inr ⟨by simp [rawF, hr], (tapeNaN_ok x y W).1⟩, (tapeNaN_ok x y W).2⟩
        clear hr HXY HN
        go_wp2_with fail
        go_meet
        exact ⟨HH.out _, (Below.refl _ _).drew⟩
      | some r =>
        have ha := fun W => run_float_arith (P := Try.prog) W .mul 65 .f64 x y r hr
        have HH : Hid (MidOk 3 x y (.int .u64 r)) := Lib.hid ⟨r, rfl, .inl ⟨r, by simp [rawF, hr], rfl⟩, Ieee.Format.mul_lt _ hr⟩
        clear hr HXY HN
        go_wp2_with fail
        go_meet
        exact ⟨HH.out, Below.refl _ _⟩
    · cases hr : Ieee.double.div x y with
      | none =>
        have ha := run_nan .quo 65 x y (by simp) hr
        have HH : Hid (∀ W : World, MidOk 4 x y (.int .u64 (tapeNaN x y W))) := Lib.hid fun W => ⟨_, rfl, .inr ⟨by simp [rawF, hr], (tapeNaN_ok x y W).1⟩, (tapeNaN_ok x y W).2⟩
        clear hr HXY HN
        go_wp2_with fail
        go_meet
        exact ⟨HH.out _, (Below.refl _ _).drew⟩
      | some r =>
        have ha := fun W => run_float_arith (P := Try.prog) W .quo 65 .f64 x y r hr
        have HH : Hid (MidOk 4 x y (.int .u64 r)) := Lib.hid ⟨r, rfl, .inl ⟨r, by simp [rawF, hr], rfl⟩, Ieee.Format.div_lt _ hr⟩
        clear hr HXY HN
        go_wp2_with fail
        go_meet
        exact ⟨HH.out, Below.refl _ _⟩
    · have hm := pick_min HXY.out.1 HXY.out.2 HN.out.1 HN.out.2
      have C1 := Lib.hid (refcompare_any y x HXY.out.2 HXY.out.1)
      have C2 := Lib.hid (refcompare_any x y HXY.out.1 HXY.out.2)
      have hr : rawF 5 x y = some (lessF x y) := by
        unfold rawF
        simp [HN.out.1, HN.out.2]
      rw [← hm] at hr
      have hy2 : (y : Int) / 9223372036854775808 = ((y / 9223372036854775808 : Nat) : Int) := by omega
      have hk : y / 9223372036854775808 = 0 ∨ y / 9223372036854775808 = 1 := by have := HXY.out.2; omega
      have HB := Lib.hid HXY.out
      clear hm HN
      generalize fcmp y x = p at C1 hr
      generalize fcmp x y = q at C2 hr
      by_cases c1 : p < 0
      · rw [if_pos c1] at hr
        have d1 : decide (p < 0) = true := decide_eq_true c1
        have HR := Lib.hid hr
        clear hr c1 hk hy2 HXY
        go_wp2_with (first | (go_at_call 33; ((with_reducible refine (C1.out _).mono ?_); rintro e w9 ⟨rfl, hw⟩; obtain rfl := hw.symm; clear hw)) | (go_at_call 33; ((with_reducible refine (C2.out _).mono ?_); rintro e w9 ⟨rfl, hw⟩; obtain rfl := hw.symm; clear hw)))
        go_meet
        exact ⟨⟨y, rfl, .inl ⟨y, HR.out, rfl⟩, HB.out.2⟩, Below.refl _ _⟩
      · rw [if_neg c1] at hr
        have d1 : decide (p < 0) = false := decide_eq_false c1
        by_cases c2 : q = 0
        · subst c2
          rcases hk with hk | hk
          · rw [hk] at hy2 hr
            rw [if_neg (by omega)] at hr
            have HR := Lib.hid hr
            clear hr c1 hk HXY
            go_wp2_with (first | (go_at_call 33; ((with_reducible refine (C1.out _).mono ?_); rintro e w9 ⟨rfl, hw⟩; obtain rfl := hw.symm; clear hw)) | (go_at_call 33; ((with_reducible refine (C2.out _).mono ?_); rintro e w9 ⟨rfl, hw⟩; obtain rfl := hw.symm; clear hw)))
            go_meet
            exact ⟨⟨x, rfl, .inl ⟨x, HR.out, rfl⟩, HB.out.1⟩, Below.refl _ _⟩
          · rw [hk] at hy2 hr
            rw [if_pos (by omega)] at hr
            have HR := Lib.hid hr
            clear hr c1 hk HXY
            go_wp2_with (first | (go_at_call 33; ((with_reducible refine (C1.out _).mono ?_); rintro e w9 ⟨rfl, hw⟩; obtain rfl := hw.symm; clear hw)) | (go_at_call 33; ((with_reducible refine (C2.out _).mono ?_); rintro e w9 ⟨rfl, hw⟩; obtain rfl := hw.symm; clear hw)))
            go_meet
            exact ⟨⟨y, rfl, .inl ⟨y, HR.out, rfl⟩, HB.out.2⟩, Below.refl _ _⟩
        · rw [if_neg (by omega)] at hr
          have d2 : (q == 0) = false := beq_false_of_ne c2
          have HR := Lib.hid hr
          clear hr c1 c2 hk hy2 HXY
          go_wp2_with (first | (go_at_call 33; ((with_reducible refine (C1.out _).mono ?_); rintro e w9 ⟨rfl, hw⟩; obtain rfl := hw.symm; clear hw)) | (go_at_call 33; ((with_reducible refine (C2.out _).mono ?_); rintro e w9 ⟨rfl, hw⟩; obtain rfl := hw.symm; clear hw)))
          go_meet
          exact ⟨⟨x, rfl, .inl ⟨x, HR.out, rfl⟩, HB.out.1⟩, Below.refl _ _⟩
    · have hm := pick_max HXY.out.1 HXY.out.2 HN.out.1 HN.out.2
      have C1 := Lib.hid (refcompare_any y x HXY.out.2 HXY.out.1)
      have C2 := Lib.hid (refcompare_any x y HXY.out.1 HXY.out.2)
      have hr : rawF 6 x y = some (negN (lessF (negN x) (negN y))) := by
        unfold rawF
        simp [HN.out.1, HN.out.2]
      rw [← hm] at hr
      have hy2 : (y : Int) / 9223372036854775808 = ((y / 9223372036854775808 : Nat) : Int) := by omega
      have hk : y / 9223372036854775808 = 0 ∨ y / 9223372036854775808 = 1 := by have := HXY.out.2; omega
      have HB := Lib.hid HXY.out
      clear hm HN
      generalize fcmp y x = p at C1 hr
      generalize fcmp x y = q at C2 hr
      by_cases c1 : 0 < p
      · rw [if_pos c1] at hr
        have d1 : decide (0 < p) = true := decide_eq_true c1
        have HR := Lib.hid hr
        clear hr c1 hk hy2 HXY
        go_wp2_with (first | (go_at_call 33; ((with_reducible refine (C1.out _).mono ?_); rintro e w9 ⟨rfl, hw⟩; obtain rfl := hw.symm; clear hw)) | (go_at_call 33; ((with_reducible refine (C2.out _).mono ?_); rintro e w9 ⟨rfl, hw⟩; obtain rfl := hw.symm; clear hw)))
        go_meet
        exact ⟨⟨y, rfl, .inl ⟨y, HR.out, rfl⟩, HB.out.2⟩, Below.refl _ _⟩
      · rw [if_neg c1] at hr
        have d1 : decide (0 < p) = false := decide_eq_false c1
        by_cases c2 : q = 0
        · subst c2
          rcases hk with hk | hk
          · rw [hk] at hy2 hr
            rw [if_pos (by omega)] at hr
            have HR := Lib.hid hr
            clear hr c1 hk HXY
            go_wp2_with (first | (go_at_call 33; ((with_reducible refine (C1.out _).mono ?_); rintro e w9 ⟨rfl, hw⟩; obtain rfl := hw.symm; clear hw)) | (go_at_call 33; ((with_reducible refine (C2.out _).mono ?_); rintro e w9 ⟨rfl, hw⟩; obtain rfl := hw.symm; clear hw)))
            go_meet
            exact ⟨⟨y, rfl, .inl ⟨y, HR.out, rfl⟩, HB.out.2⟩, Below.refl _ _⟩
          · rw [hk] at hy2 hr
            rw [if_neg (by omega)] at hr
            have HR := Lib.hid hr
            clear hr c1 hk HXY
            go_wp2_with (first | (go_at_call 33; ((with_reducible refine (C1.out _).mono ?_); rintro e w9 ⟨rfl, hw⟩; obtain rfl := hw.symm; clear hw)) | (go_at_call 33; ((with_reducible refine (C2.out _).mono ?_); rintro e w9 ⟨rfl, hw⟩; obtain rfl := hw.symm; clear hw)))
            go_meet
            exact ⟨⟨x, rfl, .inl ⟨x, HR.out, rfl⟩, HB.out.1⟩, Below.refl _ _⟩
        · rw [if_neg (by omega)] at hr
          have d2 : (q == 0) = false := beq_false_of_ne c2
          have HR := Lib.hid hr
          clear hr c1 c2 hk hy2 HXY
          go_wp2_with (first | (go_at_call 33; ((with_reducible refine (C1.out _).mono ?_); rintro e w9 ⟨rfl, hw⟩; obtain rfl := hw.symm; clear hw)) | (go_at_call 33; ((with_reducible refine (C2.out _).mono ?_); rintro e w9 ⟨rfl, hw⟩; obtain rfl := hw.symm; clear hw)))
          go_meet
          exact ⟨⟨x, rfl, .inl ⟨x, HR.out, rfl⟩, HB.out.1⟩, Below.refl _ _⟩
  case rest =>
    obtain ⟨⟨b, rfl, hb, hbl⟩, hB⟩ := hcut
    have GX := Lib.hid (refsignals_any x HXY.out.1)
    have GY := Lib.hid (refsignals_any y HXY.out.2)
    have CB := Lib.hid (refclass_any b hbl)
    have hco : fcls b = clsO (rawF op x y) ∧ (fcls b ≠ 4 → outF (rawF op x y) = b) ∧ (fcls b = 4 → outF (rawF op x y) = 9221120237041090560) := by
      generalize rawF op x y = R at hb ⊢
      rcases hb with ⟨r, rfl, rfl⟩ | ⟨rfl, hn⟩
      · exact ⟨rfl, fun h => if_neg h, fun h => if_pos h⟩
      · have h4 := (cls_nan b).1 hn
        exact ⟨h4, fun h => absurd h4 h, fun _ => rfl⟩
    have s1 := num_sig HN.out.1
    have s2 := num_sig HN.out.2
    rw [s1] at GX
    rw [s2] at GY
    have CN := Lib.hid (fun W => refclass_any 9221120237041090560 (by omega) W)
    have cn : fcls 9221120237041090560 = 4 := by decide
    rw [cn] at CN
    have HF := Lib.hid (And.intro s1 s2)
    have HC := Lib.hid hco
    clear hb hbl HXY HN HO s1 s2 cn hco hf ht
    by_cases c : fcls b = 4
    · rw [c] at CB
      have HH := Lib.hid (show outF (rawF op x y) = 9221120237041090560 ∧ clsO (rawF op x y) = 4 from ⟨HC.out.2.2 c, by rw [← HC.out.1, c]⟩)
      clear c HC
      go_wp2_with (first | (go_at_call 32; ((with_reducible refine (CX.out _).mono ?_); rintro e w9 ⟨rfl, hw⟩; obtain rfl := hw.symm; clear hw)) | (go_at_call 32; ((with_reducible refine (CY.out _).mono ?_); rintro e w9 ⟨rfl, hw⟩; obtain rfl := hw.symm; clear hw)) | (go_at_call 32; ((with_reducible refine (CB.out _).mono ?_); rintro e w9 ⟨rfl, hw⟩; obtain rfl := hw.symm; clear hw)) | (go_at_call 34; ((with_reducible refine (GX.out _).mono ?_); rintro e w9 ⟨rfl, hw⟩; obtain rfl := hw.symm; clear hw)) | (go_at_call 34; ((with_reducible refine (GY.out _).mono ?_); rintro e w9 ⟨rfl, hw⟩; obtain rfl := hw.symm; clear hw)) | (go_at_call 32; ((refine (CN.out _).mono ?_); rintro e w9 ⟨rfl, hw⟩; obtain rfl := hw.symm; clear hw)))
      go_returns
      refine ⟨ret_v ?_, hB⟩
      rw [HH.out.1, HH.out.2, HF.out.1, HF.out.2]
      clear CX CY CB CN GX GY HF hB o1 o2 o7 o8 HH
      simp_all [refFlag]
    · have d1 : (fcls b == 4) = false := beq_false_of_ne c
      have HH := Lib.hid (show outF (rawF op x y) = b ∧ clsO (rawF op x y) = fcls b from ⟨HC.out.2.1 c, HC.out.1.symm⟩)
      clear c HC
      by_cases o4 : op = 4
      · subst o4
        clear o1 o2 o7 o8
        go_wp2_with (first | (go_at_call 32; ((with_reducible refine (CX.out _).mono ?_); rintro e w9 ⟨rfl, hw⟩; obtain rfl := hw.symm; clear hw)) | (go_at_call 32; ((with_reducible refine (CY.out _).mono ?_); rintro e w9 ⟨rfl, hw⟩; obtain rfl := hw.symm; clear hw)) | (go_at_call 32; ((with_reducible refine (CB.out _).mono ?_); rintro e w9 ⟨rfl, hw⟩; obtain rfl := hw.symm; clear hw)) | (go_at_call 34; ((with_reducible refine (GX.out _).mono ?_); rintro e w9 ⟨rfl, hw⟩; obtain rfl := hw.symm; clear hw)) | (go_at_call 34; ((with_reducible refine (GY.out _).mono ?_); rintro e w9 ⟨rfl, hw⟩; obtain rfl := hw.symm; clear hw)))
        all_goals
          go_returns
          refine ⟨ret_v ?_, hB⟩
          rw [HH.out.1, HH.out.2, HF.out.1, HF.out.2]
          clear CX CY CB CN GX GY HF hB HH
          simp_all [refFlag]
          try (intro _; omega)
      · have d4 : (op == 4) = false := beq_false_of_ne o4
        clear o4
        go_wp2_with (first | (go_at_call 32; ((with_reducible refine (CX.out _).mono ?_); rintro e w9 ⟨rfl, hw⟩; obtain rfl := hw.symm; clear hw)) | (go_at_call 32; ((with_reducible refine (CY.out _).mono ?_); rintro e w9 ⟨rfl, hw⟩; obtain rfl := hw.symm; clear hw)) | (go_at_call 32; ((with_reducible refine (CB.out _).mono ?_); rintro e w9 ⟨rfl, hw⟩; obtain rfl := hw.symm; clear hw)) | (go_at_call 34; ((with_reducible refine (GX.out _).mono ?_); rintro e w9 ⟨rfl, hw⟩; obtain rfl := hw.symm; clear hw)) | (go_at_call 34; ((with_reducible refine (GY.out _).mono ?_); rintro e w9 ⟨rfl, hw⟩; obtain rfl := hw.symm; clear hw)))
        all_goals
          go_returns
          refine ⟨ret_v ?_, hB⟩
          rw [HH.out.1, HH.out.2, HF.out.1, HF.out.2]
          clear CX CY CB CN GX GY HF hB o1 o2 o7 o8 HH
          simp_all [refFlag]
          try (intro _; omega)
end
end Go.Proofs.Ytokmcjjdoiaeaaa
