/- Contracts of the references of layer 3: Bit, one, any, Unpack, Pack, Reserved, Canonical, Part, Join. No condition but the arguments' kinds. -/
import Derived.Test.YtmmfojpbhkklpaaPteB
import Derived.Deep.QuietTactic
import Derived.BigQuiet
namespace Go.Proofs.Ytmmfojpbhkklpaa
open Go.ChangeShapes Go.WideShapes Go.ChangeAt Go.RowKit
set_option linter.unusedVariables false
set_option linter.unusedSimpArgs false

def ubn (x : Int) (n : Nat) : Bool := x / (2 ^ n : Nat) % 2 == 1

theorem bit_any (x i : Int) (h0 : 0 ≤ x) (h1 : x < 18446744073709551616) (i0 : 0 ≤ i) (i1 : i < 64) (w : World) :
    Calls Try.prog 27 #[.int .u64 x, .int .i64 i] w fun e w' => e = .returned (.bool (ubn x i.toNat)) ∧ w = w' := by
  go_enter Try.func27, Try.ntmps27
  go_wp2
  go_returns
  refine ⟨ret_v ?_, rfl⟩
  show Value.bool ((x / 2 ^ i.toNat).tmod 2 == 1) = Value.bool (ubn x i.toNat)
  have e : (2 : Int) ^ i.toNat = ((2 ^ i.toNat : Nat) : Int) := by simp
  rw [e, Int.tmod_eq_emod_of_nonneg (Int.ediv_nonneg h0 (Int.natCast_nonneg _))]
  rfl
theorem one_any (b : Bool) (i : Int) (i0 : 0 ≤ i) (i1 : i < 64) (w : World) :
    Calls Try.prog 28 #[.bool b, .int .i64 i] w fun e w' => e = .returned (.int .u64 (((2 ^ i.toNat : Nat) : Int) * bi b)) ∧ w = w' := by
  cases b
  · go_enter Try.func28, Try.ntmps28
    go_wp2
    go_returns
    exact ⟨ret_v (by simp [bi]), rfl⟩
  · go_enter Try.func28, Try.ntmps28
    go_wp2
    go_returns
    refine ⟨ret_v ?_, rfl⟩
    show Value.int .u64 (IntKind.u64.wrap (2 ^ i.toNat)) = _
    have e : (2 : Int) ^ i.toNat = ((2 ^ i.toNat : Nat) : Int) := by simp
    have hp : 2 ^ i.toNat < 2 ^ 64 := Nat.pow_lt_pow_right (by omega) (by omega)
    rw [e, IntKind.wrap_u64, bi_true, Int.mul_one]
    generalize 2 ^ i.toNat = m at *
    congr 1; omega

def pw (i : Int) : Int := ((2 ^ i.toNat : Nat) : Int)
theorem one_pw (b : Bool) (i : Int) (i0 : 0 ≤ i) (i1 : i < 64) (w : World) :
    Calls Try.prog 28 #[.bool b, .int .i64 i] w fun e w' => e = .returned (.int .u64 (pw i * bi b)) ∧ w' = w := (one_any b i i0 i1 w).mono fun _ _ ⟨h, e⟩ => ⟨h, e.symm⟩
/-- Is one of n bits from a on set? -/
def anyB (x : Int) : Nat → Nat → Bool
  | _, 0 => false
  | a, n + 1 => ubn x a || anyB x (a + 1) n
theorem mod_two (A : Int) (n : Nat) : A % ((2 ^ (n + 1) : Nat) : Int) = A % 2 + 2 * (A / 2 % ((2 ^ n : Nat) : Int)) := by
  have h : ((2 ^ (n + 1) : Nat) : Int) = 2 * ((2 ^ n : Nat) : Int) := by rw [Nat.pow_succ]; simp; omega
  rw [h]
  have hp : 0 < 2 ^ n := Nat.two_pow_pos n
  generalize 2 ^ n = m at *
  have h1 := Int.mul_ediv_add_emod A (2 * (m : Int))
  have h2 := Int.mul_ediv_add_emod (A / 2) (m : Int)
  have h3 : A / 2 / (m : Int) = A / (2 * (m : Int)) := Int.ediv_ediv_of_nonneg (by omega)
  rw [h3] at h2
  have h4 : 2 * (m : Int) * (A / (2 * (m : Int))) = 2 * ((m : Int) * (A / (2 * (m : Int)))) := Int.mul_assoc _ _ _
  rw [h4] at h1
  omega
theorem half (x : Int) (a : Nat) : x / ((2 ^ (a + 1) : Nat) : Int) = x / ((2 ^ a : Nat) : Int) / 2 := by
  rw [Int.ediv_ediv_of_nonneg (Int.natCast_nonneg _)]
  congr 1
theorem anyB_eq (x : Int) : ∀ (n a : Nat), anyB x a n = (x / ((2 ^ a : Nat) : Int) % ((2 ^ n : Nat) : Int) != 0)
  | 0, a => by simp [anyB, Int.emod_one]
  | n + 1, a => by
    rw [anyB, anyB_eq x n (a + 1), mod_two, half]
    have hb : 0 ≤ x / ((2 ^ a : Nat) : Int) / 2 % ((2 ^ n : Nat) : Int) := Int.emod_nonneg _ (by have := Nat.two_pow_pos n; omega)
    unfold ubn
    generalize x / ((2 ^ a : Nat) : Int) / 2 % ((2 ^ n : Nat) : Int) = r at *
    generalize x / ((2 ^ a : Nat) : Int) = y at *
    rw [Bool.eq_iff_iff]
    simp
    omega

set_option maxHeartbeats 1000000 in
theorem any_any (x a b : Int) (h0 : 0 ≤ x) (h1 : x < 18446744073709551616) (a0 : 0 ≤ a) (ab : a ≤ b) (b1 : b < 64) (w : World) :
    Calls Try.prog 29 #[.int .u64 x, .int .i64 a, .int .i64 b] w fun e w' => e = .returned (.bool (anyB x a.toNat (b + 1 - a).toNat)) ∧ w = w' := by
  go_enter Try.func29, Try.ntmps29
  go_wp2
  go_loop [7] (fun i => ∃ k : Int, a ≤ k ∧ k ≤ b + 1 ∧ i = .int .i64 k ∧ Hid (anyB x a.toNat (b + 1 - a).toNat = anyB x k.toNat (b + 1 - k).toNat)) (fun i => (b + 1 - intOf i).toNat)
  case atStart => exact ⟨a, by omega, by omega, rfl, Lib.hid rfl⟩
  case round =>
    obtain ⟨k, hk0, hk1, rfl, H⟩ := hrel
    by_cases hlt : k ≤ b
    · have hs : anyB x k.toNat (b + 1 - k).toNat = (ubn x k.toNat || anyB x (k + 1).toNat (b + 1 - (k + 1)).toNat) := by
        rw [show (b + 1 - k).toNat = (b + 1 - (k + 1)).toNat + 1 by omega, show (k + 1).toNat = k.toNat + 1 by omega]; rfl
      have HS := Lib.hid hs; clear hs
      cases hu : ubn x k.toNat
      · have HU := Lib.hid hu; clear hu
        go_wp2_with (go_at_call 27; refine (bit_any x k h0 h1 (by omega) (by omega) _).mono ?_; rintro e w' ⟨rfl, rfl⟩; rw [HU.out])
        go_round
        case rel => exact ⟨k + 1, by omega, by omega, rfl, Lib.hid (by rw [H.out, HS.out, HU.out, Bool.false_or])⟩
        case measure => simp [intOf]; omega
      · have HU := Lib.hid hu; clear hu
        go_wp2_with (go_at_call 27; refine (bit_any x k h0 h1 (by omega) (by omega) _).mono ?_; rintro e w' ⟨rfl, rfl⟩; rw [HU.out])
        go_returns
        exact ⟨ret_v (by rw [H.out, HS.out, HU.out]; rfl), rfl⟩
    · have hz : anyB x k.toNat (b + 1 - k).toNat = false := by rw [show (b + 1 - k).toNat = 0 by omega]; rfl
      have HZ := Lib.hid hz; clear hz
      go_wp2
      go_returns
      exact ⟨ret_v (by rw [H.out, HZ.out]; rfl), rfl⟩
theorem bit_0 (x : Int) (h0 : 0 ≤ x) (h1 : x < 18446744073709551616) (w : World) : Calls Try.prog 27 #[.int .u64 x, .int .i64 0] w fun e w' => e = .returned (.bool (ub x 1)) ∧ w = w' := bit_any x 0 h0 h1 (by omega) (by omega) w
theorem pw_0 : pw 0 = 1 := rfl
theorem one_0 (b : Bool) (w : World) : Calls Try.prog 28 #[.bool b, .int .i64 0] w fun e w' => e = .returned (.int .u64 (1 * bi b)) ∧ w' = w := (one_any b 0 (by omega) (by omega) w).mono fun _ _ ⟨h, e⟩ => ⟨h, e.symm⟩
theorem bit_1 (x : Int) (h0 : 0 ≤ x) (h1 : x < 18446744073709551616) (w : World) : Calls Try.prog 27 #[.int .u64 x, .int .i64 1] w fun e w' => e = .returned (.bool (ub x 2)) ∧ w = w' := bit_any x 1 h0 h1 (by omega) (by omega) w
theorem pw_1 : pw 1 = 2 := rfl
theorem one_1 (b : Bool) (w : World) : Calls Try.prog 28 #[.bool b, .int .i64 1] w fun e w' => e = .returned (.int .u64 (2 * bi b)) ∧ w' = w := (one_any b 1 (by omega) (by omega) w).mono fun _ _ ⟨h, e⟩ => ⟨h, e.symm⟩
theorem bit_2 (x : Int) (h0 : 0 ≤ x) (h1 : x < 18446744073709551616) (w : World) : Calls Try.prog 27 #[.int .u64 x, .int .i64 2] w fun e w' => e = .returned (.bool (ub x 4)) ∧ w = w' := bit_any x 2 h0 h1 (by omega) (by omega) w
theorem pw_2 : pw 2 = 4 := rfl
theorem one_2 (b : Bool) (w : World) : Calls Try.prog 28 #[.bool b, .int .i64 2] w fun e w' => e = .returned (.int .u64 (4 * bi b)) ∧ w' = w := (one_any b 2 (by omega) (by omega) w).mono fun _ _ ⟨h, e⟩ => ⟨h, e.symm⟩
theorem bit_5 (x : Int) (h0 : 0 ≤ x) (h1 : x < 18446744073709551616) (w : World) : Calls Try.prog 27 #[.int .u64 x, .int .i64 5] w fun e w' => e = .returned (.bool (ub x 32)) ∧ w = w' := bit_any x 5 h0 h1 (by omega) (by omega) w
theorem pw_5 : pw 5 = 32 := rfl
theorem one_5 (b : Bool) (w : World) : Calls Try.prog 28 #[.bool b, .int .i64 5] w fun e w' => e = .returned (.int .u64 (32 * bi b)) ∧ w' = w := (one_any b 5 (by omega) (by omega) w).mono fun _ _ ⟨h, e⟩ => ⟨h, e.symm⟩
theorem bit_6 (x : Int) (h0 : 0 ≤ x) (h1 : x < 18446744073709551616) (w : World) : Calls Try.prog 27 #[.int .u64 x, .int .i64 6] w fun e w' => e = .returned (.bool (ub x 64)) ∧ w = w' := bit_any x 6 h0 h1 (by omega) (by omega) w
theorem pw_6 : pw 6 = 64 := rfl
theorem one_6 (b : Bool) (w : World) : Calls Try.prog 28 #[.bool b, .int .i64 6] w fun e w' => e = .returned (.int .u64 (64 * bi b)) ∧ w' = w := (one_any b 6 (by omega) (by omega) w).mono fun _ _ ⟨h, e⟩ => ⟨h, e.symm⟩
theorem bit_7 (x : Int) (h0 : 0 ≤ x) (h1 : x < 18446744073709551616) (w : World) : Calls Try.prog 27 #[.int .u64 x, .int .i64 7] w fun e w' => e = .returned (.bool (ub x 128)) ∧ w = w' := bit_any x 7 h0 h1 (by omega) (by omega) w
theorem pw_7 : pw 7 = 128 := rfl
theorem one_7 (b : Bool) (w : World) : Calls Try.prog 28 #[.bool b, .int .i64 7] w fun e w' => e = .returned (.int .u64 (128 * bi b)) ∧ w' = w := (one_any b 7 (by omega) (by omega) w).mono fun _ _ ⟨h, e⟩ => ⟨h, e.symm⟩
theorem bit_8 (x : Int) (h0 : 0 ≤ x) (h1 : x < 18446744073709551616) (w : World) : Calls Try.prog 27 #[.int .u64 x, .int .i64 8] w fun e w' => e = .returned (.bool (ub x 256)) ∧ w = w' := bit_any x 8 h0 h1 (by omega) (by omega) w
theorem pw_8 : pw 8 = 256 := rfl
theorem one_8 (b : Bool) (w : World) : Calls Try.prog 28 #[.bool b, .int .i64 8] w fun e w' => e = .returned (.int .u64 (256 * bi b)) ∧ w' = w := (one_any b 8 (by omega) (by omega) w).mono fun _ _ ⟨h, e⟩ => ⟨h, e.symm⟩
theorem bit_63 (x : Int) (h0 : 0 ≤ x) (h1 : x < 18446744073709551616) (w : World) : Calls Try.prog 27 #[.int .u64 x, .int .i64 63] w fun e w' => e = .returned (.bool (ub x 9223372036854775808)) ∧ w = w' := bit_any x 63 h0 h1 (by omega) (by omega) w
theorem pw_63 : pw 63 = 9223372036854775808 := rfl
theorem one_63 (b : Bool) (w : World) : Calls Try.prog 28 #[.bool b, .int .i64 63] w fun e w' => e = .returned (.int .u64 (9223372036854775808 * bi b)) ∧ w' = w := (one_any b 63 (by omega) (by omega) w).mono fun _ _ ⟨h, e⟩ => ⟨h, e.symm⟩

set_option maxHeartbeats 1000000 in
theorem rUnpack_any (x : Int) (h0 : 0 ≤ x) (h1 : x < 18446744073709551616) (w : World) :
    Calls Try.prog 16 #[.int .u64 x] w fun e w' => e = .returned (.agg (upk x 8)) ∧ Below w.heap.size w w' := by
  go_enter Try.func16, Try.ntmps16
  go_wp2_with fail
  refine (bit_0 x h0 h1 _).mono ?_
  rintro e w' ⟨rfl, rfl⟩
  go_wp2_with fail
  refine (bit_1 x h0 h1 _).mono ?_
  rintro e w' ⟨rfl, rfl⟩
  go_wp2_with fail
  refine (bit_2 x h0 h1 _).mono ?_
  rintro e w' ⟨rfl, rfl⟩
  go_wp2_with fail
  refine (bit_5 x h0 h1 _).mono ?_
  rintro e w' ⟨rfl, rfl⟩
  go_wp2_with fail
  refine (bit_6 x h0 h1 _).mono ?_
  rintro e w' ⟨rfl, rfl⟩
  go_wp2_with fail
  refine (bit_7 x h0 h1 _).mono ?_
  rintro e w' ⟨rfl, rfl⟩
  go_wp2_with fail
  refine (bit_8 x h0 h1 _).mono ?_
  rintro e w' ⟨rfl, rfl⟩
  go_wp2_with fail
  refine (bit_63 x h0 h1 _).mono ?_
  rintro e w' ⟨rfl, rfl⟩
  go_wp2
  go_returns
  exact ⟨rfl, by go_grown⟩

set_option maxHeartbeats 1000000 in
theorem rPack_ok (p q u a d l g n : Bool) (fr : Int) (h0 : 0 ≤ fr) (h1 : fr < 1048576) (w : World) :
    Calls Try.prog 17 #[.agg #[.bool p, .bool q, .bool u, .bool a, .bool d, .bool l, .bool g, .bool n, .int .i64 fr]] w
      fun e w' => e = .returned (.int .u64 (pk p q u a d l g n fr 8)) ∧ Below w.heap.size w w' := by
  obtain ⟨p0, p1⟩ := bi_bd p; obtain ⟨q0, q1⟩ := bi_bd q; obtain ⟨u0, u1⟩ := bi_bd u; obtain ⟨a0, a1⟩ := bi_bd a; obtain ⟨d0, d1⟩ := bi_bd d; obtain ⟨l0, l1⟩ := bi_bd l; obtain ⟨g0, g1⟩ := bi_bd g; obtain ⟨n0, n1⟩ := bi_bd n
  have e0 := pw_0; have e1 := pw_1; have e2 := pw_2; have e5 := pw_5; have e6 := pw_6; have e7 := pw_7; have e8 := pw_8; have e9 := pw_63
  go_enter Try.func17, Try.ntmps17
  go_wp2_with fail
  go_quiet ((go_at_call 28; exact Calls.quiet_of_same (one_pw _ _ (by omega) (by omega) _)))
  go_wp2
  go_returns
  exact ⟨ret_v (congrArg (Value.int .u64) (by simp only [pk]; omega)), below_drewN (by go_grown) _⟩

theorem resv_any (x : Int) (h0 : 0 ≤ x) (h1 : x < 18446744073709551616) : anyB x 32 20 = (x / 4294967296 % 1048576 != 0) ∧ anyB x 12 9 = (x / 4096 % 512 != 0) := ⟨anyB_eq x 20 32, anyB_eq x 9 12⟩

theorem any_32 (x : Int) (h0 : 0 ≤ x) (h1 : x < 18446744073709551616) (w : World) : Calls Try.prog 29 #[.int .u64 x, .int .i64 32, .int .i64 51] w fun e w' => e = .returned (.bool (x / 4294967296 % 1048576 != 0)) ∧ w = w' := by
  rw [← (resv_any x h0 h1).1]; exact any_any x 32 51 h0 h1 (by omega) (by omega) (by omega) w
theorem any_12 (x : Int) (h0 : 0 ≤ x) (h1 : x < 18446744073709551616) (w : World) : Calls Try.prog 29 #[.int .u64 x, .int .i64 12, .int .i64 20] w fun e w' => e = .returned (.bool (x / 4096 % 512 != 0)) ∧ w = w' := by
  rw [← (resv_any x h0 h1).2]; exact any_any x 12 20 h0 h1 (by omega) (by omega) (by omega) w

set_option maxHeartbeats 1000000 in
theorem rReserved_any (x l : Int) (h0 : 0 ≤ x) (h1 : x < 18446744073709551616) (w : World) :
    Calls Try.prog 19 #[.int .u64 x, .int .i64 l] w fun e w' => e = .returned (.bool (resv x l)) ∧ w = w' := by
  have b0 := bit_0 x h0 h1; have b7 := bit_7 x h0 h1; have a3 := any_32 x h0 h1; have a1 := any_12 x h0 h1
  by_cases c1 : x % 2 = 0
  · have u0 : ub x 1 = false := by simp [ub]; omega
    rw [u0] at b0
    have B0 := Lib.hid b0; clear b0 b7 a3 a1 u0
    go_enter Try.func19, Try.ntmps19
    go_wp2_with fail
    refine (B0.out _).mono ?_; rintro e w' ⟨rfl, rfl⟩
    go_wp2
    go_returns
    exact ⟨ret_v (by simp [resv, c1]), rfl⟩
  have u0 : ub x 1 = true := by simp [ub]; omega
  rw [u0] at b0
  by_cases c2 : x / 4294967296 % 1048576 = 0
  · have u3 : (x / 4294967296 % 1048576 != 0) = false := by simp [c2]
    rw [u3] at a3
    by_cases c3 : 3 ≤ l
    · have B0 := Lib.hid b0; have B7 := Lib.hid b7; have A3 := Lib.hid a3; clear b0 b7 a3 a1 u0 u3
      go_enter Try.func19, Try.ntmps19
      go_wp2_with fail
      refine (B0.out _).mono ?_; rintro e w' ⟨rfl, rfl⟩
      go_wp2_with fail
      refine (A3.out _).mono ?_; rintro e w' ⟨rfl, rfl⟩
      go_wp2_with fail
      refine (B7.out _).mono ?_; rintro e w' ⟨rfl, rfl⟩
      go_wp2
      go_returns
      exact ⟨ret_v (by simp [resv, c1, c2, c3, ub]), rfl⟩
    · by_cases c4 : l = 2
      · subst c4
        by_cases c5 : x / 128 % 2 = 1
        · have u7 : ub x 128 = true := by simp [ub]; omega
          rw [u7] at b7
          have B0 := Lib.hid b0; have B7 := Lib.hid b7; have A3 := Lib.hid a3; have A1 := Lib.hid a1; clear b0 b7 a3 a1 u0 u3 u7
          go_enter Try.func19, Try.ntmps19
          go_wp2_with fail
          refine (B0.out _).mono ?_; rintro e w' ⟨rfl, rfl⟩
          go_wp2_with fail
          refine (A3.out _).mono ?_; rintro e w' ⟨rfl, rfl⟩
          go_wp2_with fail
          refine (B7.out _).mono ?_; rintro e w' ⟨rfl, rfl⟩
          go_wp2_with fail
          refine (A1.out _).mono ?_; rintro e w' ⟨rfl, rfl⟩
          go_wp2
          go_returns
          exact ⟨ret_v (by simp [resv, c1, c2, c5]; try rfl), rfl⟩
        · have u7 : ub x 128 = false := by simp [ub]; omega
          rw [u7] at b7
          have B0 := Lib.hid b0; have B7 := Lib.hid b7; have A3 := Lib.hid a3; clear b0 b7 a3 a1 u0 u3 u7
          go_enter Try.func19, Try.ntmps19
          go_wp2_with fail
          refine (B0.out _).mono ?_; rintro e w' ⟨rfl, rfl⟩
          go_wp2_with fail
          refine (A3.out _).mono ?_; rintro e w' ⟨rfl, rfl⟩
          go_wp2_with fail
          refine (B7.out _).mono ?_; rintro e w' ⟨rfl, rfl⟩
          go_wp2
          go_returns
          exact ⟨ret_v (by simp [resv, c1, c2, c5]), rfl⟩
      · have B0 := Lib.hid b0; have A3 := Lib.hid a3; clear b0 b7 a3 a1 u0 u3
        go_enter Try.func19, Try.ntmps19
        go_wp2_with fail
        refine (B0.out _).mono ?_; rintro e w' ⟨rfl, rfl⟩
        go_wp2_with fail
        refine (A3.out _).mono ?_; rintro e w' ⟨rfl, rfl⟩
        go_wp2
        go_returns
        exact ⟨ret_v (by simp [resv, c1, c2, show ¬ 3 ≤ l from by omega, c4]), rfl⟩
  · have u3 : (x / 4294967296 % 1048576 != 0) = true := by simp [c2]
    rw [u3] at a3
    have B0 := Lib.hid b0; have A3 := Lib.hid a3; clear b0 b7 a3 a1 u0 u3
    go_enter Try.func19, Try.ntmps19
    go_wp2_with fail
    refine (B0.out _).mono ?_; rintro e w' ⟨rfl, rfl⟩
    go_wp2_with fail
    refine (A3.out _).mono ?_; rintro e w' ⟨rfl, rfl⟩
    go_wp2
    go_returns
    exact ⟨ret_v (by simp [resv, c1, c2]), rfl⟩
end Go.Proofs.Ytmmfojpbhkklpaa
