/- What an entry's number says when it is read back, and a number's when it is written again. No condition. -/
import Derived.Test.YtmmfojpbhkklpaaPteS
import Derived.Test.YtmmfojpbhkklpaaPteA
namespace Go.Proofs.Ytmmfojpbhkklpaa
open Go.ChangeShapes Go.WideShapes Go.ChangeAt Go.RowKit
set_option linter.unusedVariables false
set_option linter.unusedSimpArgs false

theorem unpack_ex (x : Int) (h0 : 0 ≤ x) (h1 : x < 18446744073709551616) (w : World) :
    Calls Try.prog 15 #[.int .u64 x] w fun e w' => e = .returned (.agg #[.bool (ub x 1), .bool (ub x 2), .bool (ub x 4), .bool (ub x 32), .bool (ub x 64), .bool (ub x 128), .bool (ub x 256), .bool (ub x 9223372036854775808), .int .i64 (x / 4096 % 1048576)]) ∧ Below w.heap.size w w' := unpack_any x h0 h1 w
theorem rUnpack_ex (x : Int) (h0 : 0 ≤ x) (h1 : x < 18446744073709551616) (w : World) :
    Calls Try.prog 16 #[.int .u64 x] w fun e w' => e = .returned (.agg #[.bool (ub x 1), .bool (ub x 2), .bool (ub x 4), .bool (ub x 32), .bool (ub x 64), .bool (ub x 128), .bool (ub x 256), .bool (ub x 9223372036854775808), .int .i64 (x / 4096 % 1048576)]) ∧ Below w.heap.size w w' := rUnpack_any x h0 h1 w

section
variable (p q u a d l g n : Bool) (fr : Int)
theorem pk_bd (h0 : 0 ≤ fr) (h1 : fr < 1048576) : 0 ≤ pk p q u a d l g n fr 8 ∧ pk p q u a d l g n fr 8 < 18446744073709551616 := by
  have := bi_bd p
  have := bi_bd q
  have := bi_bd u
  have := bi_bd a
  have := bi_bd d
  have := bi_bd l
  have := bi_bd g
  have := bi_bd n
  simp only [pk]; omega
theorem ub_pk0 (h0 : 0 ≤ fr) (h1 : fr < 1048576) : ub (pk p q u a d l g n fr 8) 1 = p := by
  have := bi_bd p
  have := bi_bd q
  have := bi_bd u
  have := bi_bd a
  have := bi_bd d
  have := bi_bd l
  have := bi_bd g
  have := bi_bd n
  have h : pk p q u a d l g n fr 8 / 1 % 2 = bi p := by simp only [pk]; omega
  unfold ub
  rw [h]
  cases p <;> rfl
theorem ub_pk1 (h0 : 0 ≤ fr) (h1 : fr < 1048576) : ub (pk p q u a d l g n fr 8) 2 = q := by
  have := bi_bd p
  have := bi_bd q
  have := bi_bd u
  have := bi_bd a
  have := bi_bd d
  have := bi_bd l
  have := bi_bd g
  have := bi_bd n
  have h : pk p q u a d l g n fr 8 / 2 % 2 = bi q := by simp only [pk]; omega
  unfold ub
  rw [h]
  cases q <;> rfl
theorem ub_pk2 (h0 : 0 ≤ fr) (h1 : fr < 1048576) : ub (pk p q u a d l g n fr 8) 4 = u := by
  have := bi_bd p
  have := bi_bd q
  have := bi_bd u
  have := bi_bd a
  have := bi_bd d
  have := bi_bd l
  have := bi_bd g
  have := bi_bd n
  have h : pk p q u a d l g n fr 8 / 4 % 2 = bi u := by simp only [pk]; omega
  unfold ub
  rw [h]
  cases u <;> rfl
theorem ub_pk3 (h0 : 0 ≤ fr) (h1 : fr < 1048576) : ub (pk p q u a d l g n fr 8) 32 = a := by
  have := bi_bd p
  have := bi_bd q
  have := bi_bd u
  have := bi_bd a
  have := bi_bd d
  have := bi_bd l
  have := bi_bd g
  have := bi_bd n
  have h : pk p q u a d l g n fr 8 / 32 % 2 = bi a := by simp only [pk]; omega
  unfold ub
  rw [h]
  cases a <;> rfl
theorem ub_pk4 (h0 : 0 ≤ fr) (h1 : fr < 1048576) : ub (pk p q u a d l g n fr 8) 64 = d := by
  have := bi_bd p
  have := bi_bd q
  have := bi_bd u
  have := bi_bd a
  have := bi_bd d
  have := bi_bd l
  have := bi_bd g
  have := bi_bd n
  have h : pk p q u a d l g n fr 8 / 64 % 2 = bi d := by simp only [pk]; omega
  unfold ub
  rw [h]
  cases d <;> rfl
theorem ub_pk5 (h0 : 0 ≤ fr) (h1 : fr < 1048576) : ub (pk p q u a d l g n fr 8) 128 = l := by
  have := bi_bd p
  have := bi_bd q
  have := bi_bd u
  have := bi_bd a
  have := bi_bd d
  have := bi_bd l
  have := bi_bd g
  have := bi_bd n
  have h : pk p q u a d l g n fr 8 / 128 % 2 = bi l := by simp only [pk]; omega
  unfold ub
  rw [h]
  cases l <;> rfl
theorem ub_pk6 (h0 : 0 ≤ fr) (h1 : fr < 1048576) : ub (pk p q u a d l g n fr 8) 256 = g := by
  have := bi_bd p
  have := bi_bd q
  have := bi_bd u
  have := bi_bd a
  have := bi_bd d
  have := bi_bd l
  have := bi_bd g
  have := bi_bd n
  have h : pk p q u a d l g n fr 8 / 256 % 2 = bi g := by simp only [pk]; omega
  unfold ub
  rw [h]
  cases g <;> rfl
theorem ub_pk7 (h0 : 0 ≤ fr) (h1 : fr < 1048576) : ub (pk p q u a d l g n fr 8) 9223372036854775808 = n := by
  have := bi_bd p
  have := bi_bd q
  have := bi_bd u
  have := bi_bd a
  have := bi_bd d
  have := bi_bd l
  have := bi_bd g
  have := bi_bd n
  have h : pk p q u a d l g n fr 8 / 9223372036854775808 % 2 = bi n := by simp only [pk]; omega
  unfold ub
  rw [h]
  cases n <;> rfl
theorem fr_pk (h0 : 0 ≤ fr) (h1 : fr < 1048576) : pk p q u a d l g n fr 8 / 4096 % 1048576 = fr := by
  have := bi_bd p
  have := bi_bd q
  have := bi_bd u
  have := bi_bd a
  have := bi_bd d
  have := bi_bd l
  have := bi_bd g
  have := bi_bd n
  simp only [pk]; omega
end

theorem unpack_pk (p q u a d l g n : Bool) (fr : Int) (h0 : 0 ≤ fr) (h1 : fr < 1048576) (w : World) :
    Calls Try.prog 15 #[.int .u64 (pk p q u a d l g n fr 8)] w fun e w' => e = .returned (.agg #[.bool p, .bool q, .bool u, .bool a, .bool d, .bool l, .bool g, .bool n, .int .i64 fr]) ∧ Below w.heap.size w w' := by
  have b := pk_bd p q u a d l g n fr h0 h1
  have c := unpack_ex (pk p q u a d l g n fr 8) b.1 b.2 w
  rw [ub_pk0 p q u a d l g n fr h0 h1, ub_pk1 p q u a d l g n fr h0 h1, ub_pk2 p q u a d l g n fr h0 h1, ub_pk3 p q u a d l g n fr h0 h1, ub_pk4 p q u a d l g n fr h0 h1, ub_pk5 p q u a d l g n fr h0 h1, ub_pk6 p q u a d l g n fr h0 h1, ub_pk7 p q u a d l g n fr h0 h1, fr_pk p q u a d l g n fr h0 h1] at c
  exact c

theorem bi_ub (x v : Int) (h : 0 ≤ x / v) : bi (ub x v) = x / v % 2 := by
  unfold ub bi
  have : x / v % 2 = 0 ∨ x / v % 2 = 1 := by omega
  rcases this with h | h <;> simp [h]

set_option maxRecDepth 10000 in
theorem low9 : ∀ y : Nat, y < 512 → y &&& 487 = y % 2 + 2 * (y / 2 % 2) + 4 * (y / 4 % 2) + 32 * (y / 32 % 2) + 64 * (y / 64 % 2) + 128 * (y / 128 % 2) + 256 * (y / 256 % 2) := by decide +kernel
theorem nme (x : Nat) : x / 512 / 8 = x / 4096 ∧ x / 4096 / 1048576 / 2147483648 = x / 9223372036854775808 ∧ x % 512 % 2 = x % 2 ∧ x % 512 / 2 % 2 = x / 2 % 2 ∧ x % 512 / 4 % 2 = x / 4 % 2 ∧ x % 512 / 32 % 2 = x / 32 % 2 ∧
    x % 512 / 64 % 2 = x / 64 % 2 ∧ x % 512 / 128 % 2 = x / 128 % 2 ∧ x % 512 / 256 % 2 = x / 256 % 2 := by
  refine ⟨by omega, by omega, by omega, by omega, by omega, by omega, by omega, by omega, by omega⟩
theorem nat_mask_e (x : Nat) : x &&& 9223372041149739495 = x % 2 + 2 * (x / 2 % 2) + 4 * (x / 4 % 2) + 32 * (x / 32 % 2) + 64 * (x / 64 % 2) + 128 * (x / 128 % 2) + 256 * (x / 256 % 2) + 4096 * (x / 4096 % 1048576) + 9223372036854775808 * (x / 9223372036854775808 % 2) := by
  have a1 : (x &&& 9223372041149739495) % 512 = (x % 512) &&& 487 := Nat.and_mod_two_pow (n := 9)
  have a2 : (x &&& 9223372041149739495) / 512 = (x / 512) &&& 18014398517870584 := Nat.and_div_two_pow (n := 9)
  have b1 : ((x / 512) &&& 18014398517870584) % 8 = (x / 512 % 8) &&& 0 := Nat.and_mod_two_pow (n := 3)
  have b2 : ((x / 512) &&& 18014398517870584) / 8 = (x / 512 / 8) &&& 2251799814733823 := Nat.and_div_two_pow (n := 3)
  obtain ⟨e1, e2, f1, f2, f3, f4, f5, f6, f7⟩ := nme x
  rw [e1] at b2
  have c1 : ((x / 4096) &&& 2251799814733823) % 1048576 = (x / 4096 % 1048576) &&& 1048575 := Nat.and_mod_two_pow (n := 20)
  have c2 : ((x / 4096) &&& 2251799814733823) / 1048576 = (x / 4096 / 1048576) &&& 2147483648 := Nat.and_div_two_pow (n := 20)
  have c3 : (x / 4096 % 1048576) &&& 1048575 = x / 4096 % 1048576 % 1048576 := nat_mask20 _
  have c4 : (x / 4096 / 1048576) &&& 2147483648 = x / 4096 / 1048576 / 2147483648 % 2 * 2147483648 := nat_bit 31 _
  have l9 := low9 (x % 512) (Nat.mod_lt _ (by decide))
  rw [Nat.and_zero] at b1
  rw [c3, Nat.mod_mod] at c1; rw [c4, e2] at c2
  rw [l9, f1, f2, f3, f4, f5, f6, f7] at a1
  clear l9 f1 f2 f3 f4 f5 f6 f7 c3 c4 e1 e2
  generalize x &&& 9223372041149739495 = z at *
  generalize (x / 512) &&& 18014398517870584 = z1 at *
  generalize (x / 4096) &&& 2251799814733823 = z2 at *
  generalize x / 4096 % 1048576 = k1 at *
  generalize x / 9223372036854775808 % 2 = k2 at *
  generalize x % 2 = m0 at *
  generalize x / 2 % 2 = m1 at *
  generalize x / 4 % 2 = m2 at *
  generalize x / 32 % 2 = m3 at *
  generalize x / 64 % 2 = m4 at *
  generalize x / 128 % 2 = m5 at *
  generalize x / 256 % 2 = m6 at *
  omega
theorem pk_mask (x : Int) (h0 : 0 ≤ x) (h1 : x < 18446744073709551616) : pk (ub x 1) (ub x 2) (ub x 4) (ub x 32) (ub x 64) (ub x 128) (ub x 256) (ub x 9223372036854775808) (x / 4096 % 1048576) 8 = bits .and .u64 x 9223372041149739495 := by
  obtain ⟨y, rfl⟩ := Int.eq_ofNat_of_zero_le h0
  rw [u64_and _ _ h0 h1 (by omega) (by omega), Int.toNat_natCast, show (9223372041149739495 : Int).toNat = 9223372041149739495 from rfl, nat_mask_e]
  simp only [pk]
  rw [bi_ub _ 1 (by omega), bi_ub _ 2 (by omega), bi_ub _ 4 (by omega), bi_ub _ 32 (by omega), bi_ub _ 64 (by omega), bi_ub _ 128 (by omega), bi_ub _ 256 (by omega), bi_ub _ 9223372036854775808 (by omega)]
  omega
end Go.Proofs.Ytmmfojpbhkklpaa
