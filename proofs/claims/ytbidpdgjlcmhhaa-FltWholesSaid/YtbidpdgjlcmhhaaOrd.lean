/- Numbers of 64 bits and a point: their order is their bits' order; plain, no program in sight. No condition but that the words have 64 bits. -/
import Derived.Test.YtbidpdgjlcmhhaaH
import Ieee.Arith
namespace Go.Proofs.Ytbidpdgjlcmhhaa
open Ieee
set_option linter.unusedVariables false
set_option linter.unusedSimpArgs false

def sg (x : Nat) : Bool := x / 9223372036854775808 % 2 == 1
def rg (x : Nat) : Nat := x % 9223372036854775808
def infR : Nat := 9218868437227405312
/-- What a rung stands for, in units of the least number. -/
def valR (r : Nat) : Nat := if r < 4503599627370496 then r else (4503599627370496 + r % 4503599627370496) * 2 ^ (r / 4503599627370496 - 1)
theorem valR_lt {a b : Nat} (h : a < b) : valR a < valR b := by
  unfold valR
  by_cases ha : a < 4503599627370496
  · rw [if_pos ha]
    by_cases hb : b < 4503599627370496
    · rw [if_pos hb]; exact h
    · rw [if_neg hb]
      have hp := Nat.two_pow_pos (b / 4503599627370496 - 1)
      have : 4503599627370496 + b % 4503599627370496 ≤ (4503599627370496 + b % 4503599627370496) * 2 ^ (b / 4503599627370496 - 1) := Nat.le_mul_of_pos_right _ hp
      omega
  · rw [if_neg ha, if_neg (by omega)]
    have hda := Nat.div_add_mod a 4503599627370496
    have hdb := Nat.div_add_mod b 4503599627370496
    have hma := Nat.mod_lt a (show 0 < 4503599627370496 by omega)
    have hmb := Nat.mod_lt b (show 0 < 4503599627370496 by omega)
    generalize a % 4503599627370496 = u at *
    generalize b % 4503599627370496 = v at *
    have hea : 1 ≤ a / 4503599627370496 := by omega
    generalize a / 4503599627370496 = e at *
    generalize b / 4503599627370496 = g at *
    rcases Nat.lt_or_ge e g with hlt | hge
    · obtain ⟨k, rfl⟩ : ∃ k, g = e + 1 + k := ⟨g - e - 1, by omega⟩
      rw [show e + 1 + k - 1 = (e - 1) + 1 + k by omega, Nat.pow_add, Nat.pow_add, Nat.pow_one]
      have hp := Nat.two_pow_pos (e - 1)
      have hk := Nat.two_pow_pos k
      generalize 2 ^ (e - 1) = p at *
      generalize 2 ^ k = q at *
      have h1 : (4503599627370496 + u) * p < 9007199254740992 * p := Nat.mul_lt_mul_of_pos_right (by omega) hp
      have h2 : p * 2 ≤ p * 2 * q := Nat.le_mul_of_pos_right _ hk
      have h3 : 4503599627370496 * (p * 2 * q) ≤ (4503599627370496 + v) * (p * 2 * q) := Nat.mul_le_mul_right _ (by omega)
      omega
    · have he : e = g := by omega
      subst he
      exact Nat.mul_lt_mul_of_pos_right (by omega) (Nat.two_pow_pos _)
theorem valR_zero : valR 0 = 0 := by simp [valR]
theorem valR_le {a b : Nat} (h : a ≤ b) : valR a ≤ valR b := by
  rcases Nat.lt_or_ge a b with h1 | h1
  · exact Nat.le_of_lt (valR_lt h1)
  · rw [show a = b by omega]; exact Nat.le_refl _
def skey (s : Bool) (r : Nat) : Int := if s then -(r : Int) else r
theorem cmp_mono (s t : Bool) (a b : Nat) : compare (skey s (valR a)) (skey t (valR b)) = compare (skey s a) (skey t b) := by
  have h0 := valR_zero
  have ha := @valR_le 0 a (Nat.zero_le _)
  have hb := @valR_le 0 b (Nat.zero_le _)
  have hza : a ≠ 0 → 0 < valR a := fun h => by have := @valR_lt 0 a (by omega); omega
  have hzb : b ≠ 0 → 0 < valR b := fun h => by have := @valR_lt 0 b (by omega); omega
  have hc : a < b ∧ valR a < valR b ∨ a = b ∧ valR a = valR b ∨ b < a ∧ valR b < valR a := by
    rcases Nat.lt_trichotomy a b with h | h | h
    · exact .inl ⟨h, valR_lt h⟩
    · exact .inr (.inl ⟨h, by rw [h]⟩)
    · exact .inr (.inr ⟨h, valR_lt h⟩)
  have hz2 : a = 0 → valR a = 0 := fun h => by rw [h]; exact h0
  have hz3 : b = 0 → valR b = 0 := fun h => by rw [h]; exact h0
  generalize valR a = p at *
  generalize valR b = q at *
  simp only [compare, compareOfLessAndEq, skey]
  cases s <;> cases t <;> simp only [Bool.false_eq_true, if_false, if_true] <;> (repeat' split) <;> first | rfl | (exfalso; omega)
/-- Its class: 0 nought, 1 subnormal, 2 normal, 3 infinite, 4 none. -/
def clsR (r : Nat) : Int := if r = 0 then 0 else if r < 4503599627370496 then 1 else if r < infR then 2 else if r = infR then 3 else 4
theorem fmt_sw : Format.signWeight double = 9223372036854775808 := by decide
theorem fmt_bin : Format.binade double = 4503599627370496 := by decide
theorem fmt_inf : Format.infRung double = 9218868437227405312 := by decide
theorem fmt_least : Format.leastPlace double = -1074 := by decide
def digR (r : Nat) : Nat := if r < 4503599627370496 then r else 4503599627370496 + r % 4503599627370496
def upR (r : Nat) : Nat := if r < 4503599627370496 then 0 else r / 4503599627370496 - 1
theorem valR_eq (r : Nat) : valR r = digR r * 2 ^ upR r := by
  unfold valR digR upR
  split <;> simp
theorem read_any (x : Nat) : double.read x = if rg x < infR then .number (sg x) (digR (rg x)) (-1074 + (upR (rg x) : Int)) else if rg x = infR then .infinity (sg x) else .nan (sg x) (rg x - infR) := by
  unfold Format.read
  simp only [fmt_sw, fmt_bin, fmt_inf, fmt_least]
  change (if rg x < 4503599627370496 then Datum.number (sg x) (rg x) (-1074) else if rg x < 9218868437227405312 then .number (sg x) (4503599627370496 + rg x % 4503599627370496) (-1074 + ((rg x / 4503599627370496 - 1 : Nat) : Int)) else if rg x = 9218868437227405312 then .infinity (sg x) else .nan (sg x) (rg x - 9218868437227405312)) = _
  unfold infR digR upR
  by_cases h : rg x < 4503599627370496
  · rw [if_pos h, if_pos (show rg x < 9218868437227405312 by omega), if_pos h, if_pos h]; rfl
  · rw [if_neg h, if_neg h, if_neg h]
theorem cmp_scale (x y : Int) (k : Nat) (hk : 0 < k) : compare (x * k) (y * k) = compare x y := by
  simp only [compare, compareOfLessAndEq]
  have h1 : x * k < y * k ↔ x < y := Int.mul_lt_mul_right (by omega)
  have h2 : x * k = y * k ↔ x = y := Int.mul_eq_mul_right_iff (by omega)
  simp only [h1, h2]
theorem signed_up (s : Bool) (m u c : Nat) : signed s m u * ((2 ^ c : Nat) : Int) = skey s (m * 2 ^ (u + c)) := by
  unfold signed skey
  rw [Nat.shiftLeft_eq, Nat.pow_add, ← Nat.mul_assoc]
  cases s
  · simp
  · simp [Int.neg_mul]
theorem order_num (s t : Bool) (a b : Nat) : (Datum.number s (digR a) (-1074 + (upR a : Int))).order (.number t (digR b) (-1074 + (upR b : Int))) = some (compare (skey s a) (skey t b)) := by
  show some (compare _ _) = _
  rw [← cmp_mono s t a b]
  have e1 : (-1074 + (upR a : Int) - min (-1074 + (upR a : Int)) (-1074 + (upR b : Int))).toNat = upR a - min (upR a) (upR b) := by omega
  have e2 : (-1074 + (upR b : Int) - min (-1074 + (upR a : Int)) (-1074 + (upR b : Int))).toNat = upR b - min (upR a) (upR b) := by omega
  rw [e1, e2, ← cmp_scale _ _ (2 ^ min (upR a) (upR b)) (Nat.two_pow_pos _), signed_up, signed_up, valR_eq, valR_eq]
  rw [show upR a - min (upR a) (upR b) + min (upR a) (upR b) = upR a by omega, show upR b - min (upR a) (upR b) + min (upR a) (upR b) = upR b by omega]
def keyN (x : Nat) : Int := skey (sg x) (rg x)
def nanN (x : Nat) : Bool := decide (infR < rg x)
theorem order_any (x y : Nat) : double.order x y = if nanN x || nanN y then none else some (compare (keyN x) (keyN y)) := by
  unfold Format.order keyN nanN
  rw [read_any x, read_any y]
  generalize rg x = a
  generalize rg y = b
  generalize sg x = s
  generalize sg y = t
  by_cases ha : a < infR
  · rw [if_pos ha]
    by_cases hb : b < infR
    · rw [if_pos hb, order_num, if_neg (by simp; omega)]
    · rw [if_neg hb]
      by_cases hb2 : b = infR
      · rw [if_pos hb2, if_neg (by simp; omega)]
        show some _ = _
        subst hb2
        congr 1
        unfold infR at *
        simp only [compare, compareOfLessAndEq, skey]
        cases s <;> cases t <;> simp only [Bool.false_eq_true, if_false, if_true] <;> (repeat' split) <;> first | rfl | (exfalso; omega)
      · rw [if_neg hb2, if_pos (by simp; omega)]; rfl
  · rw [if_neg ha]
    by_cases ha2 : a = infR
    · rw [if_pos ha2]
      by_cases hb : b < infR
      · rw [if_pos hb, if_neg (by simp; omega)]
        show some _ = _
        subst ha2
        congr 1
        unfold infR at *
        simp only [compare, compareOfLessAndEq, skey]
        cases s <;> cases t <;> simp only [Bool.false_eq_true, if_false, if_true] <;> (repeat' split) <;> first | rfl | (exfalso; omega)
      · rw [if_neg hb]
        by_cases hb2 : b = infR
        · rw [if_pos hb2, if_neg (by simp; omega)]
          show some _ = _
          subst ha2 hb2
          congr 1
          cases s <;> cases t <;> decide
        · rw [if_neg hb2, if_pos (by simp; omega)]; rfl
    · have hc : (decide (infR < a) || decide (infR < b)) = true := by simp; omega
      rw [if_neg ha2, if_pos hc]
      by_cases hb : b < infR
      · rw [if_pos hb]; rfl
      · rw [if_neg hb]; split <;> rfl
end Go.Proofs.Ytbidpdgjlcmhhaa
