/- FromInt for every whole number: the document's. No condition but 64 bits. -/
import Derived.Test.YtbidpdgjlcmhhaaFltK
import Derived.Test.YtbidpdgjlcmhhaaFltR
import Derived.Deep.DeepCutAuto
namespace Go.Proofs.Ytbidpdgjlcmhhaa
open Go.ChangeShapes Go.WideShapes Go.ChangeAt Go.RowKit
set_option linter.unusedVariables false
set_option linter.unusedSimpArgs false
theorem shr_zero {m k : Nat} : ((m : Int) / 2 ^ k == 0) = decide (m < 2 ^ k) := by
  have e : (m : Int) / 2 ^ k = ((m / 2 ^ k : Nat) : Int) := by simp
  rw [e, Bool.eq_iff_iff, beq_iff_eq, decide_eq_true_iff]
  have := Nat.div_eq_zero_iff (a := m) (b := 2 ^ k)
  have hp : 2 ^ k ≠ 0 := Nat.ne_of_gt (Nat.two_pow_pos k)
  omega
theorem or_sign {a : Nat} (h : a < 9223372036854775808) : bits .or .u64 9223372036854775808 (a : Int) = ((9223372036854775808 + a : Nat) : Int) := by
  have h1 := bits_or_u64_nat 9223372036854775808 a (by omega) (by omega)
  have h2 := Nat.two_pow_add_eq_or_of_lt (i := 63) (b := a) (by simpa using h) 1
  simp only [Nat.mul_one, show (2 : Nat) ^ 63 = 9223372036854775808 by decide] at h2
  refine Eq.trans (show _ = (((9223372036854775808 ||| a : Nat)) : Int) from h1) ?_
  rw [← h2]
theorem or_zero {a : Nat} (h : a < 9223372036854775808) : bits .or .u64 0 (a : Int) = (a : Int) := by
  have h1 := bits_or_u64_nat 0 a (by omega) (by omega)
  refine Eq.trans (show _ = (((0 ||| a : Nat)) : Int) from h1) ?_
  rw [Nat.zero_or]
theorem fi_parts (m l : Nat) (h0 : m ≠ 0) (hl : l = m.log2) (hm : m < 18446744073709551616) :
    ∃ R : Nat, IntKind.u64.wrap ((m : Int) * 2 ^ (63 - l)) = (R : Int) ∧ 9223372036854775808 ≤ R ∧ R < 18446744073709551616 ∧ frG m = (1022 + l) * 4503599627370496 + kpG R := by
  have hl2 : m.log2 < 64 := (Nat.log2_lt h0).2 (by omega)
  have hR : m * 2 ^ (63 - m.log2) < 18446744073709551616 := by
    have := Nat.mul_lt_mul_of_pos_right (Nat.lt_log2_self (n := m)) (Nat.two_pow_pos (63 - m.log2))
    rw [← Nat.pow_add, show m.log2 + 1 + (63 - m.log2) = 64 by omega] at this
    exact this
  have hR2 : 9223372036854775808 ≤ m * 2 ^ (63 - m.log2) := by
    have := Nat.mul_le_mul_right (2 ^ (63 - m.log2)) (Nat.log2_self_le h0)
    rw [← Nat.pow_add, show m.log2 + (63 - m.log2) = 63 by omega] at this
    exact this
  refine ⟨m * 2 ^ (63 - m.log2), ?_, hR2, hR, ?_⟩
  · rw [hl, wrap_u]
    have e : ((m * 2 ^ (63 - m.log2) : Nat) : Int) = (m : Int) * 2 ^ (63 - m.log2) := by simp
    rw [← e]
    omega
  · unfold frG; rw [if_neg h0, hl]
theorem fi_fin (s : Bool) (S : Int) (hS : S = if s = true then 9223372036854775808 else 0) (l R : Nat) (hl : l ≤ 63) (up : Bool) (K : Nat) (hK : K = R / 2048 + up.toNat) (h1 : 9223372036854775808 ≤ R) (h2 : R < 18446744073709551616) :
    IntKind.u64.wrap (bits .or .u64 S ((1023 + (l : Int)) * 4503599627370496) + IntKind.u64.wrap ((K : Int) - 4503599627370496)) = ((Ieee.double.word s ((1022 + l) * 4503599627370496 + K) : Nat) : Int) := by
  have hb := Bool.toNat_le up
  have e1 : (1023 + (l : Int)) * 4503599627370496 = (((1023 + l) * 4503599627370496 : Nat) : Int) := by omega
  rw [e1]
  unfold Ieee.Format.word
  rw [fmt_sw]
  cases s
  · rw [hS, if_neg (by decide), or_zero (by omega), wrap_u, wrap_u, if_neg (by decide)]
    omega
  · rw [hS, if_pos rfl, or_sign (by omega), wrap_u, wrap_u, if_pos rfl]
    omega
set_option maxHeartbeats 4000000 in
theorem reffromint_any (n : Int) (hn1 : -9223372036854775808 ≤ n) (hn2 : n ≤ 9223372036854775807) (w : World) :
    Calls Try.prog 21 #[.int .i64 n] w fun e w' => e = .returned (.int .u64 (fiG n)) ∧ w' = w := by
  by_cases h0 : n = 0
  · subst h0
    rw [show ((fiG 0 : Nat) : Int) = 0 by decide]
    go_enter Try.func21, Try.ntmps21
    go_wp2_with fail
    go_returns
    exact ⟨rfl, rfl⟩
  have t0 : (n == 0) = false := beq_false_of_ne h0
  obtain ⟨U, hU⟩ : ∃ U : Int, IntKind.u64.wrap n = U := ⟨_, rfl⟩
  obtain ⟨m, hm⟩ : ∃ m : Nat, m = n.natAbs := ⟨_, rfl⟩
  obtain ⟨l, hl⟩ : ∃ l : Nat, l = m.log2 := ⟨_, rfl⟩
  have hl1 : 2 ^ l ≤ m := by rw [hl]; exact Nat.log2_self_le (by omega)
  have hl2 : m < 2 ^ (l + 1) := by rw [hl]; exact Nat.lt_log2_self
  have hl3 : l ≤ 63 := by
    have : l < 64 := by rw [hl]; exact (Nat.log2_lt (by omega)).2 (by omega)
    omega
  obtain ⟨R, hR1, hR2, hR3, hR4⟩ := fi_parts m l (by omega) hl (by omega)
  obtain ⟨LO, hLO⟩ : ∃ LO : Int, bits .and .u64 (R : Int) 2047 = LO := ⟨_, rfl⟩
  have hLO2 : LO = ((R % 2048 : Nat) : Int) := by
    rw [← hLO]
    exact (bits_and_u64_nat R 2047 (by omega) (by omega)).trans (congrArg Nat.cast (Nat.and_two_pow_sub_one_eq_mod R 11))
  obtain ⟨MA, hMA⟩ : ∃ MA : Int, (R : Int) / 2048 = MA := ⟨_, rfl⟩
  have hMA2 : MA = ((R / 2048 : Nat) : Int) := by rw [← hMA]; rfl
  obtain ⟨P, hP⟩ : ∃ P : Int, MA.tmod 2 = P := ⟨_, rfl⟩
  have hP2 : P = ((R / 2048 % 2 : Nat) : Int) := by rw [← hP, hMA2]; exact (Int.ofNat_tmod _ _).symm
  obtain ⟨up, hup⟩ : ∃ up : Bool, up = (decide (1024 < LO) || (LO == 1024 && P == 1)) := ⟨_, rfl⟩
  have hkp : kpG R = R / 2048 + up.toNat := by
    unfold kpG
    rw [hup, hLO2, hP2]
    congr 2
    congr 1
    · exact decide_eq_decide.2 (by omega)
    · congr 1
      · rw [Bool.eq_iff_iff, beq_iff_eq, beq_iff_eq]; omega
      · rw [Bool.eq_iff_iff, beq_iff_eq, beq_iff_eq]; omega
  have FIN : ∀ (s : Bool) (S : Int) (K : Nat), s = decide (n < 0) → (S = if s = true then 9223372036854775808 else 0) → K = R / 2048 + up.toNat → IntKind.u64.wrap (bits .or .u64 S ((1023 + (l : Int)) * 4503599627370496) + IntKind.u64.wrap ((K : Int) - 4503599627370496)) = (fiG n : Int) := by
    intro s S K hs hS hK
    rw [fi_fin s S hS l R hl3 up K hK hR2 hR3]
    unfold fiG
    rw [← hm, hR4, hkp, ← hK, hs]
  have hMA3 : MA < 9007199254740992 := by omega
  obtain ⟨MB, hMB⟩ : ∃ MB : Int, IntKind.u64.wrap (MA + 1) = MB := ⟨_, rfl⟩
  have hMB2 : MB = MA + 1 := by rw [← hMB, wrap_u]; omega
  have FU : Hid (up = true → ∀ (s : Bool) (S : Int), s = decide (n < 0) → (S = if s = true then 9223372036854775808 else 0) → IntKind.u64.wrap (bits .or .u64 S ((1023 + (l : Int)) * 4503599627370496) + IntKind.u64.wrap (MB - 4503599627370496)) = (fiG n : Int)) := Lib.hid (fun hu s S h1 h2 => by
    have := FIN s S (R / 2048 + 1) h1 h2 (by rw [hu]; rfl)
    rw [show ((R / 2048 + 1 : Nat) : Int) = MB by omega] at this
    exact this)
  have FN : Hid (up = false → ∀ (s : Bool) (S : Int), s = decide (n < 0) → (S = if s = true then 9223372036854775808 else 0) → IntKind.u64.wrap (bits .or .u64 S ((1023 + (l : Int)) * 4503599627370496) + IntKind.u64.wrap (MA - 4503599627370496)) = (fiG n : Int)) := Lib.hid (fun hu s S h1 h2 => by
    have := FIN s S (R / 2048) h1 h2 (by rw [hu]; rfl)
    rw [← hMA2] at this
    exact this)
  have HUP := Lib.hid hup
  have LK : Hid (∀ k, l < k → k ≤ 63 → ((m : Int) / 2 ^ k == 0) = true) := Lib.hid (fun k hk _ => by
    rw [shr_zero]
    exact decide_eq_true (Nat.lt_of_lt_of_le hl2 (Nat.pow_le_pow_right (by omega) hk)))
  have LE : Hid (((m : Int) / 2 ^ l == 0) = false) := Lib.hid (by
    rw [shr_zero]
    exact decide_eq_false (by omega))
  have L3 := Lib.hid hl3
  have HM := Lib.hid hm
  have HN1 := Lib.hid (And.intro hn1 hn2)
  have T1 : Hid (((n < 0) ∧ IntKind.u64.wrap (-U) = (m : Int)) ∨ (¬ (n < 0) ∧ U = (m : Int))) := Lib.hid (by
    by_cases hs : n < 0
    · exact Or.inl ⟨hs, by rw [← hU, wrap_u, wrap_u]; omega⟩
    · exact Or.inr ⟨hs, by rw [← hU, wrap_u]; omega⟩)
  clear hm hl hl1 hl2 hl3 hR2 hR3 hR4 hLO2 hMA2 hP2 hup hkp FIN hMA3 hMB2 h0 hn1 hn2
  rcases T1.out with ⟨hs, t2⟩ | ⟨hs, t2⟩
  · have t1 : decide (n < 0) = true := decide_eq_true hs
    clear hs
    go_enter Try.func21, Try.ntmps21
    go_wp2_with fail
    go_loopw [5] (fun x wr => ∃ (k : Nat), x = .int .i64 k ∧ l ≤ k ∧ k ≤ 63 ∧ wr = w) (fun x _ => (intOf x).toNat)
    case atStart => exact ⟨63, rfl, L3.out, by omega, rfl⟩
    case round =>
      obtain ⟨k, rfl, hk1, hk2, rfl⟩ := hrel
      rcases Nat.lt_or_eq_of_le hk1 with hlt | heq
      · have t3 := LK.out k hlt hk2
        have t4 : wrap64 ((k : Int) - 1) = ((k - 1 : Nat) : Int) := by rw [← IntWalk.i64_left, IntKind.wrap_i64]; omega
        have t5 : (k : Int) - 1 = ((k - 1 : Nat) : Int) := by omega
        go_wp2_with fail
        go_roundw
        case rel => exact ⟨k - 1, by go_num, by omega, by omega, by first | rfl | trivial⟩
        case measure => simp [intOf]; omega
      · subst heq
        have t3 := LE.out
        rcases Bool.eq_false_or_eq_true (decide (1024 < LO)) with b1 | b1
        · have HV := FU.out (by rw [HUP.out, b1]; rfl) true 9223372036854775808 t1.symm rfl
          have HV := Lib.hid HV
          go_wp2_with fail
          go_returns
          exact ⟨rfl, rfl⟩
        rcases Bool.eq_false_or_eq_true (LO == 1024) with b2 | b2
        · rcases Bool.eq_false_or_eq_true (P == 1) with b3 | b3
          · have HV := FU.out (by rw [HUP.out, b1, b2, b3]; rfl) true 9223372036854775808 t1.symm rfl
            have HV := Lib.hid HV
            go_wp2_with fail
            go_returns
            exact ⟨rfl, rfl⟩
          · have HV := FN.out (by rw [HUP.out, b1, b2, b3]; rfl) true 9223372036854775808 t1.symm rfl
            have HV := Lib.hid HV
            go_wp2_with fail
            go_returns
            exact ⟨rfl, rfl⟩
        · have HV := FN.out (by rw [HUP.out, b1, b2]; rfl) true 9223372036854775808 t1.symm rfl
          have HV := Lib.hid HV
          go_wp2_with fail
          go_returns
          exact ⟨rfl, rfl⟩
  · have t1 : decide (n < 0) = false := decide_eq_false hs
    rw [t2] at hU
    clear hs t2
    go_enter Try.func21, Try.ntmps21
    go_wp2_with fail
    go_loopw [5] (fun x wr => ∃ (k : Nat), x = .int .i64 k ∧ l ≤ k ∧ k ≤ 63 ∧ wr = w) (fun x _ => (intOf x).toNat)
    case atStart => exact ⟨63, rfl, L3.out, by omega, rfl⟩
    case round =>
      obtain ⟨k, rfl, hk1, hk2, rfl⟩ := hrel
      rcases Nat.lt_or_eq_of_le hk1 with hlt | heq
      · have t3 := LK.out k hlt hk2
        have t4 : wrap64 ((k : Int) - 1) = ((k - 1 : Nat) : Int) := by rw [← IntWalk.i64_left, IntKind.wrap_i64]; omega
        have t5 : (k : Int) - 1 = ((k - 1 : Nat) : Int) := by omega
        go_wp2_with fail
        go_roundw
        case rel => exact ⟨k - 1, by go_num, by omega, by omega, by first | rfl | trivial⟩
        case measure => simp [intOf]; omega
      · subst heq
        have t3 := LE.out
        rcases Bool.eq_false_or_eq_true (decide (1024 < LO)) with b1 | b1
        · have HV := FU.out (by rw [HUP.out, b1]; rfl) false 0 t1.symm rfl
          have HV := Lib.hid HV
          go_wp2_with fail
          go_returns
          exact ⟨rfl, rfl⟩
        rcases Bool.eq_false_or_eq_true (LO == 1024) with b2 | b2
        · rcases Bool.eq_false_or_eq_true (P == 1) with b3 | b3
          · have HV := FU.out (by rw [HUP.out, b1, b2, b3]; rfl) false 0 t1.symm rfl
            have HV := Lib.hid HV
            go_wp2_with fail
            go_returns
            exact ⟨rfl, rfl⟩
          · have HV := FN.out (by rw [HUP.out, b1, b2, b3]; rfl) false 0 t1.symm rfl
            have HV := Lib.hid HV
            go_wp2_with fail
            go_returns
            exact ⟨rfl, rfl⟩
        · have HV := FN.out (by rw [HUP.out, b1, b2]; rfl) false 0 t1.symm rfl
          have HV := Lib.hid HV
          go_wp2_with fail
          go_returns
          exact ⟨rfl, rfl⟩
end Go.Proofs.Ytbidpdgjlcmhhaa
