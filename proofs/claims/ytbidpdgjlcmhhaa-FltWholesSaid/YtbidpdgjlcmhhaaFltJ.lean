/- ToInt for every number: the document's. No condition but that the word has 64 bits. -/
import Derived.Test.YtbidpdgjlcmhhaaFltI
import Derived.Test.YtbidpdgjlcmhhaaFltR
import Derived.Deep.DeepCutAuto
namespace Go.Proofs.Ytbidpdgjlcmhhaa
open Go.ChangeShapes Go.WideShapes Go.ChangeAt Go.RowKit
set_option linter.unusedVariables false
set_option linter.unusedSimpArgs false
theorem signed_if (s : Bool) (m : Nat) : Ieee.signed s m 0 = if s = true then -(m : Int) else m := by
  cases s <;> simp [Ieee.signed]
theorem or_top {a : Nat} (h : a < 4503599627370496) : bits .or .u64 (a : Int) 4503599627370496 = ((a + 4503599627370496 : Nat) : Int) := by
  have h1 := bits_or_u64_nat a 4503599627370496 (by omega) (by omega)
  have h2 := Nat.two_pow_add_eq_or_of_lt (i := 52) (b := a) (by simpa using h) 1
  rw [Nat.or_comm] at h2
  simp only [Nat.mul_one, show (2 : Nat) ^ 52 = 4503599627370496 by decide] at h2
  refine Eq.trans (show _ = (((a ||| 4503599627370496 : Nat)) : Int) from h1) ?_
  rw [← h2, Nat.add_comm]
set_option maxHeartbeats 4000000 in
theorem reftoint_any (x : Nat) (hx : x < 18446744073709551616) (w : World) :
    Calls Try.prog 20 #[.int .u64 x] w fun e w' => e = .returned (.tuple #[.int .i64 (if tiOk x = true then tiV x else 0), .int .i64 (if tiOk x = true then 0 else 1)]) ∧ w' = w := by
  obtain ⟨E, hE⟩ : ∃ E : Int, IntKind.u64.wrap ((x : Int) * 2) / 9007199254740992 = E := ⟨_, rfl⟩
  have hE2 : E = ((rg x / 4503599627370496 : Nat) : Int) := by rw [← hE, wrap_u]; unfold rg; omega
  have hl : rg x < 9223372036854775808 := rg_lt x
  have hEw : IntKind.i64.wrap E = E := by rw [IntKind.wrap_i64]; omega
  have hEw2 : wrap64 E = E := by rw [← IntWalk.i64_left]; exact hEw
  have hm : rg x % 4503599627370496 = x % 4503599627370496 := by unfold rg; omega
  have hoklt : rg x < 4890909195324358656 → tiOk x = true := fun h => by
    unfold tiOk nanN infR
    rw [decide_eq_false (by omega)]
    split
    · rw [decide_eq_true (by omega)]; rfl
    · rw [decide_eq_true h]; rfl
  have hokgt : 4890909195324358656 < rg x → tiOk x = false := fun h => by
    unfold tiOk
    rw [Bool.and_eq_false_iff]
    right
    split
    · exact decide_eq_false (by omega)
    · exact decide_eq_false (by omega)
  by_cases c1 : E < 1023
  · have t1 : decide (E < 1023) = true := decide_eq_true c1
    have HOK := Lib.hid (hoklt (by omega))
    have HV : Hid (tiV x = 0) := Lib.hid (by
      unfold tiV
      rw [signed_zero]
      have hd := dig_lt (rg x)
      have hu : upR (rg x) ≤ 1021 := by unfold upR; split <;> omega
      unfold tiN
      rw [if_neg (by omega)]
      refine Nat.div_eq_of_lt (Nat.lt_of_lt_of_le hd ?_)
      calc 9007199254740992 = 2 ^ 53 := by decide
        _ ≤ 2 ^ (1074 - upR (rg x)) := Nat.pow_le_pow_right (by omega) (by omega))
    clear hE2 hl hx hm hoklt hokgt c1
    rw [if_pos HOK.out, if_pos HOK.out, HV.out]
    go_enter Try.func20, Try.ntmps20
    go_wp2_with fail
    go_returns
    exact ⟨ret_v rfl, rfl⟩
  have t1 : decide (E < 1023) = false := decide_eq_false c1
  by_cases c2 : 1086 < E
  · have t2 : decide (1086 < E) = true := decide_eq_true c2
    have HOK := Lib.hid (hokgt (by omega))
    clear hE2 hl hx hm hoklt hokgt c1 c2
    rw [if_neg (by rw [HOK.out]; decide), if_neg (by rw [HOK.out]; decide)]
    go_enter Try.func20, Try.ntmps20
    go_wp2_with fail
    go_returns
    exact ⟨ret_v rfl, rfl⟩
  have t2 : decide (1086 < E) = false := decide_eq_false c2
  by_cases c3 : E = 1086
  · have t3 : (E == 1086) = true := by rw [c3]; rfl
    have hge : 4890909195324358656 ≤ rg x := by omega
    by_cases c5 : x = 14114281232179134464
    · have t5 : ((x : Int) != 14114281232179134464) = false := by rw [c5]; rfl
      have HOK : Hid (tiOk x = true) := Lib.hid (by rw [c5]; decide)
      have HV : Hid (tiV x = -9223372036854775808) := Lib.hid (by
        unfold tiV
        rw [signed_if, show rg x = 4890909195324358656 by rw [c5]; decide, tiN_top, show sg x = true by rw [c5]; decide]
        rfl)
      clear hE2 hl hx hm hoklt hokgt c1 c2 c3 c5 hge
      rw [if_pos HOK.out, if_pos HOK.out, HV.out]
      go_enter Try.func20, Try.ntmps20
      go_wp2_with fail
      go_returns
      exact ⟨ret_v rfl, rfl⟩
    · have t5 : ((x : Int) != 14114281232179134464) = true := by simp; omega
      have HOK : Hid (tiOk x = false) := Lib.hid (by
        by_cases hgt : 4890909195324358656 < rg x
        · exact hokgt hgt
        · have he : rg x = 4890909195324358656 := by omega
          unfold tiOk
          rw [Bool.and_eq_false_iff]
          right
          by_cases hs : sg x = true
          · exfalso
            unfold sg at hs
            unfold rg at he
            simp only [beq_iff_eq] at hs
            omega
          · rw [if_neg hs]; exact decide_eq_false (by omega))
      clear hE2 hl hx hm hoklt hokgt c1 c2 c3 c5 hge
      rw [if_neg (by rw [HOK.out]; decide), if_neg (by rw [HOK.out]; decide)]
      go_enter Try.func20, Try.ntmps20
      go_wp2_with fail
      go_returns
      exact ⟨ret_v rfl, rfl⟩
  have t3 : (E == 1086) = false := beq_false_of_ne c3
  have hok : tiOk x = true := hoklt (by omega)
  clear hoklt hokgt
  obtain ⟨F, hF⟩ : ∃ F : Int, IntKind.u64.wrap ((x : Int) * 4096) / 4096 = F := ⟨_, rfl⟩
  have hF2 : F = ((x % 4503599627370496 : Nat) : Int) := by rw [← hF, wrap_u]; omega
  obtain ⟨n0, hn0⟩ : ∃ n0 : Nat, n0 = x % 4503599627370496 + 4503599627370496 := ⟨_, rfl⟩
  obtain ⟨N, hN⟩ : ∃ N : Int, bits .or .u64 F 4503599627370496 = N := ⟨_, rfl⟩
  have hN2 : N = (n0 : Int) := by rw [← hN, hF2, or_top (Nat.mod_lt _ (by omega)), hn0]
  have hdig : digR (rg x) = n0 := by unfold digR; rw [if_neg (by omega), hm, hn0]; omega
  have hup : upR (rg x) = rg x / 4503599627370496 - 1 := by unfold upR; rw [if_neg (by omega)]
  by_cases c4 : 1075 ≤ E
  · have t4 : decide (1075 ≤ E) = true := decide_eq_true c4
    have g1 : IntKind.i64.wrap (E - 1023) = E - 1023 := by rw [IntKind.wrap_i64]; omega
    obtain ⟨G, hG⟩ : ∃ G : Int, IntKind.i64.wrap (E - 1023 - 52) = G := ⟨_, rfl⟩
    have hG2 : G = E - 1075 := by rw [← hG, IntKind.wrap_i64]; omega
    have g2 : 0 ≤ G := by omega
    obtain ⟨M, hM⟩ : ∃ M : Int, IntKind.u64.wrap (N * 2 ^ min G.toNat 64) = M := ⟨_, rfl⟩
    have hti : tiN (rg x) = n0 * 2 ^ G.toNat := by
      unfold tiN
      rw [if_pos (by omega), hdig, show upR (rg x) - 1074 = G.toNat by omega]
    have hlt : n0 * 2 ^ G.toNat < 9223372036854775808 := by
      calc n0 * 2 ^ G.toNat ≤ n0 * 2 ^ 10 := Nat.mul_le_mul_left _ (Nat.pow_le_pow_right (by omega) (by omega))
        _ < 9223372036854775808 := by omega
    have hMv : ((tiN (rg x) : Nat) : Int) = M := by
      rw [← hM, hti, Nat.min_eq_left (by omega), hN2, wrap_u]
      have e : ((n0 * 2 ^ G.toNat : Nat) : Int) = (n0 : Int) * 2 ^ G.toNat := by simp
      rw [← e]
      omega
    have hM0 : 0 ≤ M := by rw [← hMv]; omega
    have hM1 : M < 9223372036854775808 := by rw [← hMv, hti]; omega
    clear hti hlt hdig hup hm c1 c2 c3 c4
    obtain ⟨S, hS⟩ : ∃ S : Int, (x : Int) / 9223372036854775808 = S := ⟨_, rfl⟩
    have hsg : (S == 1) = sg x := by
      rw [← hS]; unfold sg
      rcases Nat.lt_or_ge x 9223372036854775808 with h | h
      · rw [show (x : Int) / 9223372036854775808 = 0 by omega, show x / 9223372036854775808 % 2 = 0 by omega]; rfl
      · rw [show (x : Int) / 9223372036854775808 = 1 by omega, show x / 9223372036854775808 % 2 = 1 by omega]; rfl
    have HV : Hid (tiV x = if sg x = true then -M else M) := Lib.hid (by unfold tiV; rw [signed_if, hMv])
    have k1 : IntKind.i64.wrap M = M := by rw [IntKind.wrap_i64]; omega
    have k2 : wrap64 M = M := by rw [← IntWalk.i64_left]; exact k1
    have k3 : IntKind.i64.wrap (-M) = -M := by rw [IntKind.wrap_i64]; omega
    have k4 : wrap64 (-M) = -M := by rw [← IntWalk.i64_left]; exact k3
    have HOK := Lib.hid hok
    clear hE2 hF2 hG2 hl hx hMv hM0 hM1 hok hn0 hN2
    rcases hsx : sg x with _ | _
    all_goals
      rw [hsx] at hsg HV
      replace HV := HV.out
      simp only [Bool.false_eq_true, if_false, if_true] at HV
      replace HV := Lib.hid HV
      clear hsx
      rw [if_pos HOK.out, if_pos HOK.out, HV.out]
      go_enter Try.func20, Try.ntmps20
      go_wp2_with fail
      go_returns
      exact ⟨ret_v rfl, rfl⟩
  · have t4 : decide (1075 ≤ E) = false := decide_eq_false c4
    obtain ⟨G, hG⟩ : ∃ G : Int, IntKind.i64.wrap (1075 - E) = G := ⟨_, rfl⟩
    have hG2 : G = 1075 - E := by rw [← hG, IntKind.wrap_i64]; omega
    have g2 : 0 ≤ G := by omega
    obtain ⟨M, hM⟩ : ∃ M : Int, N / 2 ^ min G.toNat 64 = M := ⟨_, rfl⟩
    have hti : tiN (rg x) = n0 / 2 ^ G.toNat := by
      unfold tiN
      rw [if_neg (by omega), hdig, show 1074 - upR (rg x) = G.toNat by omega]
    have hMv : ((tiN (rg x) : Nat) : Int) = M := by
      rw [← hM, hti, Nat.min_eq_left (by omega), hN2]
      simp
    have hM0 : 0 ≤ M := by rw [← hMv]; omega
    have hM1 : M < 9223372036854775808 := by
      rw [← hMv, hti]
      have := Nat.div_le_self n0 (2 ^ G.toNat)
      omega
    clear hti hdig hup hm c1 c2 c3 c4
    obtain ⟨S, hS⟩ : ∃ S : Int, (x : Int) / 9223372036854775808 = S := ⟨_, rfl⟩
    have hsg : (S == 1) = sg x := by
      rw [← hS]; unfold sg
      rcases Nat.lt_or_ge x 9223372036854775808 with h | h
      · rw [show (x : Int) / 9223372036854775808 = 0 by omega, show x / 9223372036854775808 % 2 = 0 by omega]; rfl
      · rw [show (x : Int) / 9223372036854775808 = 1 by omega, show x / 9223372036854775808 % 2 = 1 by omega]; rfl
    have HV : Hid (tiV x = if sg x = true then -M else M) := Lib.hid (by unfold tiV; rw [signed_if, hMv])
    have k1 : IntKind.i64.wrap M = M := by rw [IntKind.wrap_i64]; omega
    have k2 : wrap64 M = M := by rw [← IntWalk.i64_left]; exact k1
    have k3 : IntKind.i64.wrap (-M) = -M := by rw [IntKind.wrap_i64]; omega
    have k4 : wrap64 (-M) = -M := by rw [← IntWalk.i64_left]; exact k3
    have HOK := Lib.hid hok
    clear hE2 hF2 hG2 hl hx hMv hM0 hM1 hok hn0 hN2
    rcases hsx : sg x with _ | _
    all_goals
      rw [hsx] at hsg HV
      replace HV := HV.out
      simp only [Bool.false_eq_true, if_false, if_true] at HV
      replace HV := Lib.hid HV
      clear hsx
      rw [if_pos HOK.out, if_pos HOK.out, HV.out]
      go_enter Try.func20, Try.ntmps20
      go_wp2_with fail
      go_returns
      exact ⟨ret_v rfl, rfl⟩
end Go.Proofs.Ytbidpdgjlcmhhaa
