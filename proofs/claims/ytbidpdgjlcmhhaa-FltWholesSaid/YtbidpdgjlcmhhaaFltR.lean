/- The document's Class, Key and Compare (layer 2), told by the bits; FltOrders. No condition but that the words have 64 bits. -/
import Derived.Test.YtbidpdgjlcmhhaaFltC
namespace Go.Proofs.Ytbidpdgjlcmhhaa
open Go.ChangeShapes Go.WideShapes Go.ChangeAt Go.RowKit
set_option linter.unusedVariables false
set_option linter.unusedSimpArgs false

theorem wrap_u (n : Int) : IntKind.u64.wrap n = n % 18446744073709551616 := IntKind.wrap_u64 n
section
variable (x y : Nat)
theorem refclass_any (hx : x < 18446744073709551616) (w : World) : Calls Try.prog 13 #[.int .u64 x] w fun e w' => e = .returned (.int .i64 (fcls x)) ∧ w' = w := by
  obtain ⟨E, hE⟩ : ∃ E : Int, IntKind.u64.wrap ((x : Int) * 2) / 9007199254740992 = E := ⟨_, rfl⟩
  obtain ⟨F, hF⟩ : ∃ F : Int, IntKind.u64.wrap ((x : Int) * 4096) = F := ⟨_, rfl⟩
  have hE2 : E = ((rg x / 4503599627370496 : Nat) : Int) := by rw [← hE, wrap_u]; unfold rg; omega
  have hF2 : F = ((x % 4503599627370496 * 4096 : Nat) : Int) := by rw [← hF, wrap_u]; omega
  have hl := rg_lt x
  have hm : rg x % 4503599627370496 = x % 4503599627370496 := by unfold rg; omega
  by_cases c0 : rg x = 0
  · rw [show fcls x = 0 from if_pos c0]
    have t1 : (E == 2047) = false := beq_false_of_ne (by omega)
    have t2 : decide (0 < E) = false := decide_eq_false (by omega)
    have t3 : decide (0 < F) = false := decide_eq_false (by omega)
    clear hE2 hF2 hl hm c0 hx
    go_enter Try.func13, Try.ntmps13
    go_wp2_with fail
    go_returns
    exact ⟨rfl, rfl⟩
  by_cases c1 : rg x < 4503599627370496
  · rw [show fcls x = 1 by unfold fcls clsR; rw [if_neg c0, if_pos c1]]
    have t1 : (E == 2047) = false := beq_false_of_ne (by omega)
    have t2 : decide (0 < E) = false := decide_eq_false (by omega)
    have t3 : decide (0 < F) = true := decide_eq_true (by omega)
    clear hE2 hF2 hl hm c0 c1 hx
    go_enter Try.func13, Try.ntmps13
    go_wp2_with fail
    go_returns
    exact ⟨rfl, rfl⟩
  by_cases c2 : rg x < infR
  · rw [show fcls x = 2 by unfold fcls clsR; rw [if_neg c0, if_neg c1, if_pos c2]]
    unfold infR at c2
    have t1 : (E == 2047) = false := beq_false_of_ne (by omega)
    have t2 : decide (0 < E) = true := decide_eq_true (by omega)
    clear hE2 hF2 hl hm c0 c1 c2 hx
    go_enter Try.func13, Try.ntmps13
    go_wp2_with fail
    go_returns
    exact ⟨rfl, rfl⟩
  by_cases c3 : rg x = infR
  · rw [show fcls x = 3 by unfold fcls clsR; rw [if_neg c0, if_neg c1, if_neg c2, if_pos c3]]
    unfold infR at c2 c3
    have t1 : (E == 2047) = true := by rw [show E = 2047 by omega]; rfl
    have t3 : (F == 0) = true := by rw [show F = 0 by omega]; rfl
    clear hE2 hF2 hl hm c0 c1 c2 c3 hx
    go_enter Try.func13, Try.ntmps13
    go_wp2_with fail
    go_returns
    exact ⟨rfl, rfl⟩
  · rw [show fcls x = 4 by unfold fcls clsR; rw [if_neg c0, if_neg c1, if_neg c2, if_neg c3]]
    unfold infR at c2 c3
    have t1 : (E == 2047) = true := by rw [show E = 2047 by omega]; rfl
    have t3 : (F == 0) = false := beq_false_of_ne (by omega)
    clear hE2 hF2 hl hm c0 c1 c2 c3 hx
    go_enter Try.func13, Try.ntmps13
    go_wp2_with fail
    go_returns
    exact ⟨rfl, rfl⟩
theorem refkey_any (hx : x < 18446744073709551616) (w : World) : Calls Try.prog 25 #[.int .u64 x] w fun e w' => e = .returned (.int .i64 (keyN x)) ∧ w' = w := by
  have hl := rg_lt x
  have k3 : wrap64 (IntKind.u64.wrap ((x : Int) * 2) / 2) = (rg x : Int) := by rw [wrap_u]; unfold wrap64 rg; omega
  have k4 : wrap64 (-(rg x : Int)) = -(rg x : Int) := by unfold wrap64; omega
  by_cases c : x / 9223372036854775808 = 1
  · have t1 : (((x : Int) / 9223372036854775808) == 1) = true := by rw [show (x : Int) / 9223372036854775808 = 1 by omega]; rfl
    have hk : keyN x = -(rg x : Int) := by unfold keyN skey sg; rw [c]; rfl
    rw [hk]
    generalize rg x = r at k3 k4 hl ⊢
    clear hk c hx hl
    go_enter Try.func25, Try.ntmps25
    go_wp2_with fail
    go_returns
    exact ⟨ret_v (show Value.int .i64 (wrap64 (-(r : Int))) = _ by rw [k4]), rfl⟩
  · have t1 : (((x : Int) / 9223372036854775808) == 1) = false := beq_false_of_ne (by omega)
    have hk : keyN x = (rg x : Int) := by unfold keyN skey sg; rw [show x / 9223372036854775808 = 0 by omega]; rfl
    rw [hk]
    generalize rg x = r at k3 k4 hl ⊢
    clear hk c hx hl
    go_enter Try.func25, Try.ntmps25
    go_wp2_with fail
    go_returns
    exact ⟨ret_v (show Value.int .i64 (wrap64 (IntKind.u64.wrap ((x : Int) * 2) / 2)) = _ by rw [k3]), rfl⟩
theorem refcompare_any (hx : x < 18446744073709551616) (hy : y < 18446744073709551616) (w : World) : Calls Try.prog 15 #[.int .u64 x, .int .u64 y] w fun e w' => e = .returned (.int .i64 (fcmp x y)) ∧ w' = w := by
  have C1 := Lib.hid (refclass_any x hx)
  have C2 := Lib.hid (refclass_any y hy)
  have K1 := Lib.hid (refkey_any x hx)
  have K2 := Lib.hid (refkey_any y hy)
  have n1 := cls_nan x
  have n2 := cls_nan y
  unfold fcmp
  by_cases c1 : fcls x = 4
  · rw [n1.2 c1, Bool.true_or, if_pos rfl]
    rw [c1] at C1
    clear n1 n2 c1 hx hy
    go_enter Try.func15, Try.ntmps15
    go_wp2_with fail
    refine (C1.out _).mono ?_
    rintro e w1 ⟨rfl, hw⟩
    obtain rfl := hw.symm
    clear hw
    go_wp2_with fail
    go_returns
    exact ⟨rfl, rfl⟩
  have t1 : (fcls x == 4) = false := beq_false_of_ne c1
  have m1 : nanN x = false := by cases h : nanN x; rfl; exact absurd (n1.1 h) c1
  by_cases c2 : fcls y = 4
  · rw [n2.2 c2, Bool.or_true, if_pos rfl]
    rw [c2] at C2
    clear n1 n2 c1 c2 m1 hx hy
    go_enter Try.func15, Try.ntmps15
    go_wp2_with fail
    refine (C1.out _).mono ?_
    rintro e w1 ⟨rfl, hw⟩
    obtain rfl := hw.symm
    clear hw
    go_wp2_with fail
    refine (C2.out _).mono ?_
    rintro e w1 ⟨rfl, hw⟩
    obtain rfl := hw.symm
    clear hw
    go_wp2_with fail
    go_returns
    exact ⟨rfl, rfl⟩
  have t2 : (fcls y == 4) = false := beq_false_of_ne c2
  have m2 : nanN y = false := by cases h : nanN y; rfl; exact absurd (n2.1 h) c2
  rw [m1, m2, Bool.or_self, if_neg (by simp)]
  clear n1 n2 c1 c2 m1 m2 hx hy
  generalize keyN x = a at K1 ⊢
  generalize keyN y = b at K2 ⊢
  generalize fcls x = cx at C1 t1
  generalize fcls y = cy at C2 t2
  by_cases d1 : a < b
  · rw [if_pos d1]
    have e1 : decide (a < b) = true := decide_eq_true d1
    clear d1
    go_enter Try.func15, Try.ntmps15
    go_wp2_with fail
    refine (C1.out _).mono ?_
    rintro e w1 ⟨rfl, hw⟩
    obtain rfl := hw.symm
    clear hw
    go_wp2_with fail
    refine (C2.out _).mono ?_
    rintro e w1 ⟨rfl, hw⟩
    obtain rfl := hw.symm
    clear hw
    go_wp2_with fail
    refine (K1.out _).mono ?_
    rintro e w1 ⟨rfl, hw⟩
    obtain rfl := hw.symm
    clear hw
    go_wp2_with fail
    refine (K2.out _).mono ?_
    rintro e w1 ⟨rfl, hw⟩
    obtain rfl := hw.symm
    clear hw
    go_wp2_with fail
    go_returns
    exact ⟨rfl, rfl⟩
  · rw [if_neg d1]
    have e1 : decide (a < b) = false := decide_eq_false d1
    have hd : ∃ v : Int, (if b < a then (1 : Int) else 0) = v ∧ (decide (b < a) = true ∧ v = 1 ∨ decide (b < a) = false ∧ v = 0) := by
      by_cases d2 : b < a
      · exact ⟨1, if_pos d2, .inl ⟨decide_eq_true d2, rfl⟩⟩
      · exact ⟨0, if_neg d2, .inr ⟨decide_eq_false d2, rfl⟩⟩
    obtain ⟨v, hv, hd⟩ := hd
    rw [hv]
    clear d1 hv
    rcases hd with ⟨e2, rfl⟩ | ⟨e2, rfl⟩
    all_goals
      go_enter Try.func15, Try.ntmps15
      go_wp2_with fail
      refine (C1.out _).mono ?_
      rintro e w1 ⟨rfl, hw⟩
      obtain rfl := hw.symm
      clear hw
      go_wp2_with fail
      refine (C2.out _).mono ?_
      rintro e w1 ⟨rfl, hw⟩
      obtain rfl := hw.symm
      clear hw
      go_wp2_with fail
      refine (K1.out _).mono ?_
      rintro e w1 ⟨rfl, hw⟩
      obtain rfl := hw.symm
      clear hw
      go_wp2_with fail
      refine (K2.out _).mono ?_
      rintro e w1 ⟨rfl, hw⟩
      obtain rfl := hw.symm
      clear hw
      go_wp2_with fail
      refine (K1.out _).mono ?_
      rintro e w1 ⟨rfl, hw⟩
      obtain rfl := hw.symm
      clear hw
      go_wp2_with fail
      refine (K2.out _).mono ?_
      rintro e w1 ⟨rfl, hw⟩
      obtain rfl := hw.symm
      clear hw
      go_wp2_with fail
      go_returns
      exact ⟨rfl, rfl⟩
end
end Go.Proofs.Ytbidpdgjlcmhhaa
