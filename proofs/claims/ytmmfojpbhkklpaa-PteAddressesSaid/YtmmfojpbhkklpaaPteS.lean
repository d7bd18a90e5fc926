/- Contracts of the references of layer 3, second part: Canonical, Part, Join. No condition but the arguments' kinds. -/
import Derived.Test.YtmmfojpbhkklpaaPteR
namespace Go.Proofs.Ytmmfojpbhkklpaa
open Go.ChangeShapes Go.WideShapes Go.ChangeAt Go.RowKit
set_option linter.unusedVariables false
set_option linter.unusedSimpArgs false

theorem beq2 (a b : Int) : ((a % 2 == 1) = (b % 2 == 1)) ↔ a % 2 = b % 2 := by
  rw [Bool.eq_iff_iff]; simp; omega
theorem bool_two (b : Bool) : b = false ∨ b = true := by cases b <;> simp

theorem all_bits (c : Int) : ∀ (n : Nat) (y : Int), (∀ j, j < n → y / ((2 ^ j : Nat) : Int) % 2 = c) → y % ((2 ^ n : Nat) : Int) = c * (((2 ^ n : Nat) : Int) - 1)
  | 0, y, _ => by simp [Int.emod_one]
  | n + 1, y, h => by
    have h0 := h 0 (by omega)
    simp only [Nat.pow_zero, Int.cast_ofNat_Int, Int.ediv_one] at h0
    have ih := all_bits c n (y / 2) (fun j hj => by
      have := h (j + 1) (by omega)
      rw [Nat.pow_succ, Nat.mul_comm, Int.natCast_mul, ← Int.ediv_ediv_of_nonneg (by omega)] at this
      exact this)
    rw [mod_two, h0, ih, Nat.pow_succ, Int.natCast_mul]
    generalize ((2 ^ n : Nat) : Int) = m
    rw [show (((2 : Nat) : Int)) = 2 from rfl]
    have e : c * (m * 2) = 2 * (c * m) := by rw [Int.mul_comm m 2, ← Int.mul_assoc, Int.mul_comm c 2, Int.mul_assoc]
    rw [Int.mul_sub c m, Int.mul_sub c (m * 2), e]
    omega
theorem canon_of (x : Int) (h0 : 0 ≤ x) (h1 : x < 18446744073709551616) (h : ∀ j : Nat, 47 ≤ j → j < 64 → ubn x j = ubn x 47) : canon x = true := by
  have a := all_bits (x / 140737488355328 % 2) 17 (x / 140737488355328) (fun j hj => by
    have := h (47 + j) (by omega) (by omega)
    simp only [ubn, beq2] at this
    rw [Nat.pow_add, Int.natCast_mul, ← Int.ediv_ediv_of_nonneg (Int.natCast_nonneg _)] at this
    exact this)
  simp only [Nat.reducePow, Int.cast_ofNat_Int] at a
  unfold canon
  simp only [Bool.or_eq_true, beq_iff_eq]
  omega
theorem canon_to (x : Int) (h0 : 0 ≤ x) (h1 : x < 18446744073709551616) (hc : canon x = true) (j : Nat) (j0 : 47 ≤ j) (j1 : j < 64) : ubn x j = ubn x 47 := by
  unfold canon at hc
  simp only [Bool.or_eq_true, beq_iff_eq] at hc
  obtain rfl | rfl | rfl | rfl | rfl | rfl | rfl | rfl | rfl | rfl | rfl | rfl | rfl | rfl | rfl | rfl | rfl : j = 47 ∨ j = 48 ∨ j = 49 ∨ j = 50 ∨ j = 51 ∨ j = 52 ∨ j = 53 ∨ j = 54 ∨ j = 55 ∨ j = 56 ∨ j = 57 ∨ j = 58 ∨ j = 59 ∨ j = 60 ∨ j = 61 ∨ j = 62 ∨ j = 63 := by omega
  · rfl
  all_goals
    simp only [ubn, beq2, Nat.reducePow, Int.cast_ofNat_Int]
    omega

set_option maxHeartbeats 1000000 in
theorem rCanonical_any (x : Int) (h0 : 0 ≤ x) (h1 : x < 18446744073709551616) (w : World) :
    Calls Try.prog 22 #[.int .u64 x] w fun e w' => e = .returned (.bool (canon x)) ∧ w = w' := by
  go_enter Try.func22, Try.ntmps22
  go_wp2
  go_loop [3] (fun i => ∃ k : Int, 47 ≤ k ∧ k ≤ 64 ∧ i = .int .i64 k ∧ Hid (∀ j : Nat, 47 ≤ j → j < k.toNat → ubn x j = ubn x 47)) (fun i => (64 - intOf i).toNat)
  case atStart => exact ⟨47, by omega, by omega, rfl, Lib.hid (fun j h2 h3 => by omega)⟩
  case round =>
    obtain ⟨k, hk0, hk1, rfl, H⟩ := hrel
    by_cases hlt : k < 64
    · have c1 := bit_any x k h0 h1 (by omega) (by omega)
      have c2 := bit_any x 47 h0 h1 (by omega) (by omega)
      have hE : ubn x (47 : Int).toNat = ubn x 47 := rfl
      rw [hE] at c2
      clear hE
      rcases bool_two (ubn x k.toNat) with hu | hu <;> rcases bool_two (ubn x 47) with hv | hv
      all_goals
        rw [hu] at c1; rw [hv] at c2
        have C1 := Lib.hid c1; have C2 := Lib.hid c2; have HU := Lib.hid hu; have HV := Lib.hid hv
        clear c1 c2 hu hv
        go_wp2_with fail
        refine (C1.out _).mono ?_; rintro e w' ⟨rfl, rfl⟩
        go_wp2_with fail
        refine (C2.out _).mono ?_; rintro e w' ⟨rfl, rfl⟩
        go_wp2
      · go_round
        case rel => exact ⟨k + 1, by omega, by omega, rfl, Lib.hid (fun j h2 h3 => by
          by_cases hj : j = k.toNat
          · rw [hj, HU.out, HV.out]
          · exact H.out j h2 (by omega))⟩
        case measure => simp [intOf]; omega
      · go_returns
        refine ⟨ret_v (congrArg Value.bool ?_), rfl⟩
        cases hc : canon x
        · rfl
        · have := canon_to x h0 h1 hc k.toNat (by omega) (by omega)
          rw [HU.out, HV.out] at this
          cases this
      · go_returns
        refine ⟨ret_v (congrArg Value.bool ?_), rfl⟩
        cases hc : canon x
        · rfl
        · have := canon_to x h0 h1 hc k.toNat (by omega) (by omega)
          rw [HU.out, HV.out] at this
          cases this
      · go_round
        case rel => exact ⟨k + 1, by omega, by omega, rfl, Lib.hid (fun j h2 h3 => by
          by_cases hj : j = k.toNat
          · rw [hj, HU.out, HV.out]
          · exact H.out j h2 (by omega))⟩
        case measure => simp [intOf]; omega
    · go_wp2
      go_returns
      exact ⟨ret_v (congrArg Value.bool (canon_of x h0 h1 (fun j h2 h3 => H.out j h2 (by omega))).symm), rfl⟩

/-- m bits from f on, as a number. -/
def pv (x : Int) (f m : Nat) : Int := x / ((2 ^ f : Nat) : Int) % ((2 ^ m : Nat) : Int)
theorem pv_succ (x : Int) (f m : Nat) : pv x f (m + 1) = x / ((2 ^ f : Nat) : Int) % 2 + 2 * pv x (f + 1) m := by
  unfold pv; rw [mod_two, half]
theorem pv_bd (x : Int) (f m : Nat) (hm : m ≤ 62) : 0 ≤ pv x f m ∧ pv x f m < 4611686018427387904 := by
  have h1 : 0 < 2 ^ m := Nat.two_pow_pos m
  have h2 : 2 ^ m ≤ 2 ^ 62 := Nat.pow_le_pow_right (by omega) hm
  unfold pv
  generalize 2 ^ m = k at *
  constructor
  · exact Int.emod_nonneg _ (by omega)
  · have := Int.emod_lt_of_pos (x / ((2 ^ f : Nat) : Int)) (b := (k : Int)) (by omega)
    omega

set_option maxHeartbeats 1000000 in
theorem part_any (x f n : Int) (h0 : 0 ≤ x) (h1 : x < 18446744073709551616) (f0 : 0 ≤ f) (n0 : 0 ≤ n) (n1 : n ≤ 62) (fn : f + n ≤ 64) (w : World) :
    Calls Try.prog 23 #[.int .u64 x, .int .i64 f, .int .i64 n] w fun e w' => e = .returned (.int .i64 (pv x f.toNat n.toNat)) ∧ w = w' := by
  go_enter Try.func23, Try.ntmps23
  go_wp2
  go_loop [7, 8] (fun y i => ∃ k : Int, -1 ≤ k ∧ k < n ∧ i = .int .i64 k ∧ y = .int .i64 (pv x (f + k + 1).toNat (n - 1 - k).toNat)) (fun _ i => (intOf i + 1).toNat)
  case atStart => exact ⟨n - 1, by omega, by omega, rfl, by rw [show (n - 1 - (n - 1)).toNat = 0 by omega]; simp [pv, Int.emod_one]⟩
  case round =>
    obtain ⟨k, hk0, hk1, rfl, rfl⟩ := hrel
    by_cases hlt : 0 ≤ k
    · have c1 := bit_any x (f + k) h0 h1 (by omega) (by omega)
      obtain ⟨p0, p1⟩ := pv_bd x (f + k + 1).toNat (n - 1 - k).toNat (by omega)
      have hs : pv x (f + (k - 1) + 1).toNat (n - 1 - (k - 1)).toNat = x / ((2 ^ (f + k).toNat : Nat) : Int) % 2 + 2 * pv x (f + k + 1).toNat (n - 1 - k).toNat := by
        rw [show (n - 1 - (k - 1)).toNat = (n - 1 - k).toNat + 1 by omega, pv_succ, show f + (k - 1) + 1 = f + k by omega, show (f + k + 1).toNat = (f + k).toNat + 1 by omega]
      have hm : x / ((2 ^ (f + k).toNat : Nat) : Int) % 2 = 0 ∨ x / ((2 ^ (f + k).toNat : Nat) : Int) % 2 = 1 := by omega
      rcases bool_two (ubn x (f + k).toNat) with hu | hu
      · rw [hu] at c1
        have hz : x / ((2 ^ (f + k).toNat : Nat) : Int) % 2 = 0 := by
          rcases hm with h | h
          · exact h
          · simp only [ubn, beq_eq_false_iff_ne] at hu; exact absurd h hu
        rw [hz] at hs
        have C1 := Lib.hid c1; have HS := Lib.hid hs; clear c1 hs hm hz hu
        go_wp2_with fail
        refine (C1.out _).mono ?_; rintro e w' ⟨rfl, rfl⟩
        go_wp2
        go_round
        case rel => exact ⟨k - 1, by omega, by omega, rfl, by rw [HS.out]; exact congrArg (Value.int .i64) (by omega)⟩
        case measure => simp [intOf]; omega
      · rw [hu] at c1
        have hz : x / ((2 ^ (f + k).toNat : Nat) : Int) % 2 = 1 := by simpa [ubn] using hu
        rw [hz] at hs
        have C1 := Lib.hid c1; have HS := Lib.hid hs; clear c1 hs hm hz hu
        go_wp2_with fail
        refine (C1.out _).mono ?_; rintro e w' ⟨rfl, rfl⟩
        go_wp2
        go_round
        case rel => exact ⟨k - 1, by omega, by omega, rfl, by rw [HS.out]; exact congrArg (Value.int .i64) (by omega)⟩
        case measure => simp [intOf]; omega
    · obtain rfl : k = -1 := by omega
      go_wp2
      go_returns
      refine ⟨ret_v ?_, rfl⟩
      show Value.int .i64 (pv x (f + -1 + 1).toNat n.toNat) = _
      rw [show f + -1 + 1 = f by omega]

theorem rJoin_ok (a b c d off : Int) (a0 : 0 ≤ a) (a1 : a ≤ 511) (b0 : 0 ≤ b) (b1 : b ≤ 511) (c0 : 0 ≤ c) (c1 : c ≤ 511) (d0 : 0 ≤ d) (d1 : d ≤ 511) (o0 : 0 ≤ off) (o1 : off ≤ 4095) (w : World) :
    Calls Try.prog 24 #[.int .i64 a, .int .i64 b, .int .i64 c, .int .i64 d, .int .i64 off] w fun e w' => e = .returned (.int .u64 (joinV a b c d off)) ∧ w = w' := by
  by_cases h : 256 ≤ a
  all_goals
    go_enter Try.func24, Try.ntmps24
    go_wp2
    go_returns
    exact ⟨ret_v (congrArg (Value.int .u64) (by simp only [joinV, joinB]; omega)), rfl⟩
end Go.Proofs.Ytmmfojpbhkklpaa
