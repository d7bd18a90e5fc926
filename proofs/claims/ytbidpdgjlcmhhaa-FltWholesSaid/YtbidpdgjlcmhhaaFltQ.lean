/- Whole numbers of up to 53 bits as doubles: exact. Plain. -/
import Derived.Test.YtbidpdgjlcmhhaaFltP
namespace Go.Proofs.Ytbidpdgjlcmhhaa
open Go.ChangeShapes Go.WideShapes Go.ChangeAt Go.RowKit
set_option linter.unusedVariables false
set_option linter.unusedSimpArgs false

/-- The rung of a whole number. -/
def frR (m : Nat) : Nat := if m = 0 then 0 else (1022 + m.log2) * 4503599627370496 + m * 2 ^ (52 - m.log2)
theorem log2_53 {m : Nat} (h0 : m ≠ 0) (h : m < 9007199254740992) : m.log2 ≤ 52 := by
  have : m.log2 < 53 := (Nat.log2_lt h0).2 h
  omega
theorem dig_bound {m : Nat} (h0 : m ≠ 0) (h : m < 9007199254740992) : 4503599627370496 ≤ m * 2 ^ (52 - m.log2) ∧ m * 2 ^ (52 - m.log2) < 9007199254740992 := by
  have hl := log2_53 h0 h
  have hp : 0 < 2 ^ (52 - m.log2) := Nat.two_pow_pos _
  constructor
  · have := Nat.mul_le_mul_right (2 ^ (52 - m.log2)) (Nat.log2_self_le h0)
    rw [← Nat.pow_add, show m.log2 + (52 - m.log2) = 52 by omega] at this
    exact this
  · have := Nat.mul_lt_mul_of_pos_right (Nat.lt_log2_self (n := m)) hp
    rw [← Nat.pow_add, show m.log2 + 1 + (52 - m.log2) = 53 by omega] at this
    exact this
theorem frR_lt {m : Nat} (h : m < 9007199254740992) : frR m < 1076 * 4503599627370496 := by
  unfold frR
  split
  · omega
  · rename_i h0
    have := dig_bound h0 h
    have := log2_53 h0 h
    generalize m * 2 ^ (52 - m.log2) = d at *
    generalize m.log2 = l at *
    omega
theorem cut_zero (s : Bool) (d : Nat) : Ieee.Toward.even.cut s d 0 = d := by
  by_cases h : d = 0
  · subst h; cases s <;> rfl
  · have := cut_exact s d 0 h
    rwa [Nat.pow_zero, Nat.mul_one] at this
theorem nearest_int (s : Bool) (m k : Nat) (h : m < 9007199254740992) : Ieee.double.nearest s (m * 2 ^ k) (-(k : Int)) = Ieee.double.word s (frR m) := by
  unfold Ieee.Format.nearest frR
  by_cases h0 : m = 0
  · rw [if_pos h0, h0, Nat.zero_mul, if_pos rfl]
  have hl := log2_53 h0 h
  have hq : 0 < 2 ^ k := Nat.two_pow_pos k
  have hd := dig_bound h0 h
  rw [if_neg (Nat.mul_ne_zero h0 (by omega)), if_neg h0]
  simp only [fmt_least, fmt_bin, fmt_inf]
  rw [log2_mul_pow _ _ h0, show max (-(k : Int) + (m.log2 + k : Nat) - (Ieee.double.fractionBits : Int)) (-1074) = (m.log2 : Int) - 52 by rw [show (Ieee.double.fractionBits : Int) = 52 from rfl]; omega,
    show ((m.log2 : Int) - 52 - -1074).toNat = 1022 + m.log2 by omega]
  have hk : Ieee.Toward.even.cut s ((m * 2 ^ k) <<< (-(k : Int) - ((m.log2 : Int) - 52)).toNat) ((m.log2 : Int) - 52 - -(k : Int)).toNat = m * 2 ^ (52 - m.log2) := by
    by_cases c : k ≤ 52 - m.log2
    · rw [show ((m.log2 : Int) - 52 - -(k : Int)).toNat = 0 by omega, cut_zero, show (-(k : Int) - ((m.log2 : Int) - 52)).toNat = 52 - m.log2 - k by omega, Nat.shiftLeft_eq, Nat.mul_assoc, ← Nat.pow_add, show k + (52 - m.log2 - k) = 52 - m.log2 by omega]
    · rw [show (-(k : Int) - ((m.log2 : Int) - 52)).toNat = 0 by omega, Nat.shiftLeft_zero, show ((m.log2 : Int) - 52 - -(k : Int)).toNat = k - (52 - m.log2) by omega,
        show m * 2 ^ k = m * 2 ^ (52 - m.log2) * 2 ^ (k - (52 - m.log2)) by rw [Nat.mul_assoc, ← Nat.pow_add, show 52 - m.log2 + (k - (52 - m.log2)) = k by omega]]
      exact cut_exact s _ _ (by omega)
  rw [hk, Nat.min_eq_left]
  generalize m * 2 ^ (52 - m.log2) = d at *
  generalize m.log2 = l at *
  omega
/-- A whole number's double. -/
def fiN (n : Int) : Nat := Ieee.double.word (decide (n < 0)) (frR n.natAbs)
theorem frR_up {m : Nat} (h0 : m ≠ 0) (h : m < 9007199254740992) : digR (frR m) = m * 2 ^ (52 - m.log2) ∧ upR (frR m) = 1022 + m.log2 := by
  have hd := dig_bound h0 h
  unfold digR upR frR
  rw [if_neg h0]
  generalize m * 2 ^ (52 - m.log2) = d at *
  generalize m.log2 = l at *
  rw [if_neg (by omega), if_neg (by omega)]
  constructor <;> omega
theorem word_parts (s : Bool) (r : Nat) (h : r < 9223372036854775808) : rg (Ieee.double.word s r) = r ∧ sg (Ieee.double.word s r) = s ∧ Ieee.double.word s r < 18446744073709551616 := by
  unfold Ieee.Format.word rg sg
  rw [fmt_sw]
  cases s
  · rw [if_neg (by decide)]
    exact ⟨by omega, by rw [show r / 9223372036854775808 % 2 = 0 by omega]; rfl, by omega⟩
  · rw [if_pos rfl]
    exact ⟨by omega, by rw [show (9223372036854775808 + r) / 9223372036854775808 % 2 = 1 by omega]; rfl, by omega⟩
theorem signed_up_ (s : Bool) (m u : Nat) : Ieee.signed s m u = Ieee.signed s m 0 * ((2 ^ u : Nat) : Int) := by
  unfold Ieee.signed
  rw [Nat.shiftLeft_eq, Nat.shiftLeft_eq, Nat.pow_zero, Nat.mul_one]
  cases s
  · rw [if_neg (by decide), if_neg (by decide), Int.natCast_mul]
  · rw [if_pos rfl, if_pos rfl, Int.natCast_mul, Int.neg_mul]
theorem signed_self (n : Int) : Ieee.signed (decide (n < 0)) n.natAbs 0 = n := by
  unfold Ieee.signed
  rw [Nat.shiftLeft_eq, Nat.pow_zero, Nat.mul_one]
  by_cases h : n < 0
  · rw [if_pos (decide_eq_true h)]; omega
  · rw [if_neg (by rw [decide_eq_false h]; decide)]; omega
/-- How a whole number's double is read. -/
theorem read_word (s : Bool) (m : Nat) (h : m < 9007199254740992) : ∃ k : Nat, k ≤ 1074 ∧ Ieee.double.read (Ieee.double.word s (frR m)) = .number s (m * 2 ^ k) (-(k : Int)) := by
  have hf := frR_lt h
  have hw := word_parts s (frR m) (by omega)
  rw [read_num (by rw [hw.1]; unfold infR; omega), hw.1, hw.2.1]
  by_cases h0 : m = 0
  · subst h0
    obtain ⟨K, hK⟩ : ∃ K, K = 1074 := ⟨_, rfl⟩
    exact ⟨K, by omega, by rw [Nat.zero_mul, hK]; rfl⟩
  · have hl := log2_53 h0 h
    refine ⟨52 - m.log2, by omega, ?_⟩
    rw [(frR_up h0 h).1, (frR_up h0 h).2, show -1074 + ((1022 + m.log2 : Nat) : Int) = -((52 - m.log2 : Nat) : Int) by omega]
theorem add_int (a b : Int) (ha : a.natAbs < 9007199254740992) (hb : b.natAbs < 9007199254740992) (hc : (a + b).natAbs < 9007199254740992) : Ieee.double.add (fiN a) (fiN b) = some (fiN (a + b)) := by
  unfold Ieee.Format.add fiN
  obtain ⟨k, _, e1⟩ := read_word (decide (a < 0)) a.natAbs ha
  obtain ⟨l, _, e2⟩ := read_word (decide (b < 0)) b.natAbs hb
  rw [e1, e2]
  show some (Ieee.double.write (.number _ _ _)) = _
  obtain ⟨K, hK, hk, hl⟩ : ∃ K : Nat, min (-(k : Int)) (-(l : Int)) = -(K : Int) ∧ k ≤ K ∧ l ≤ K := ⟨max k l, by omega, by omega, by omega⟩
  have sh : ∀ (n : Int) (i : Nat), i ≤ K → Ieee.signed (decide (n < 0)) (n.natAbs * 2 ^ i) (-(i : Int) - -(K : Int)).toNat = n * ((2 ^ K : Nat) : Int) := by
    intro n i hi
    have e : Ieee.signed (decide (n < 0)) (n.natAbs * 2 ^ i) (-(i : Int) - -(K : Int)).toNat = Ieee.signed (decide (n < 0)) n.natAbs K := by
      unfold Ieee.signed
      rw [Nat.shiftLeft_eq, Nat.shiftLeft_eq, Nat.mul_assoc, ← Nat.pow_add, show i + (-(i : Int) - -(K : Int)).toNat = K by omega]
    rw [e, signed_up_, signed_self]
  simp only [hK, sh a k hk, sh b l hl, ← Int.add_mul]
  have hp : (0 : Int) < ((2 ^ K : Nat) : Int) := by have := Nat.two_pow_pos K; omega
  show some (Ieee.double.nearest _ _ _) = _
  rw [Int.natAbs_mul, Int.natAbs_natCast, nearest_int _ _ _ hc]
  by_cases h0 : a + b = 0
  · rw [h0, Int.zero_mul, if_pos rfl, show (decide (a < 0) && decide (b < 0)) = decide ((0 : Int) < 0) by by_cases h1 : a < 0 <;> by_cases h2 : b < 0 <;> simp [h1, h2] <;> omega]
  · rw [if_neg (Int.mul_ne_zero h0 (by omega))]
    congr 2
    by_cases hn : a + b < 0
    · rw [decide_eq_true hn, decide_eq_true (Int.mul_neg_of_neg_of_pos hn hp)]
    · rw [decide_eq_false hn, decide_eq_false (Int.not_lt.2 (Int.mul_nonneg (by omega) (by omega)))]
theorem mul_int (a b : Int) (ha : a.natAbs < 9007199254740992) (hb : b.natAbs < 9007199254740992) (hc : (a * b).natAbs < 9007199254740992) : Ieee.double.mul (fiN a) (fiN b) = some (Ieee.double.word (decide (a < 0) ^^ decide (b < 0)) (frR (a * b).natAbs)) := by
  unfold Ieee.Format.mul fiN
  obtain ⟨k, _, e1⟩ := read_word (decide (a < 0)) a.natAbs ha
  obtain ⟨l, _, e2⟩ := read_word (decide (b < 0)) b.natAbs hb
  rw [e1, e2]
  show some (Ieee.double.nearest _ (a.natAbs * 2 ^ k * (b.natAbs * 2 ^ l)) (-(k : Int) + -(l : Int))) = _
  rw [show a.natAbs * 2 ^ k * (b.natAbs * 2 ^ l) = (a * b).natAbs * 2 ^ (k + l) by rw [Int.natAbs_mul, Nat.pow_add, Nat.mul_mul_mul_comm], show -(k : Int) + -(l : Int) = -((k + l : Nat) : Int) by omega, nearest_int _ _ _ hc]
theorem toint_word (s : Bool) (m : Nat) (h : m < 9007199254740992) : (Ieee.double.read (Ieee.double.word s (frR m))).toInt .zero = some (Ieee.signed s m 0) := by
  obtain ⟨k, hk, e⟩ := read_word s m h
  rw [e]
  show some (Ieee.signed s (Ieee.Toward.zero.cut s ((m * 2 ^ k) <<< (-(k : Int)).toNat) (- -(k : Int)).toNat) 0) = _
  rw [show (-(k : Int)).toNat = 0 by omega, show (- -(k : Int)).toNat = k by omega, Nat.shiftLeft_zero]
  have hc : Ieee.Toward.zero.cut s (m * 2 ^ k) k = m := by
    unfold Ieee.Toward.cut
    by_cases h0 : m = 0
    · subst h0; simp
    have h1 : k ≤ (m * 2 ^ k).log2 + 2 := by rw [log2_mul_pow _ _ h0]; omega
    rw [Nat.min_eq_left h1, Nat.shiftLeft_eq, Nat.one_mul]
    simp only [Nat.mul_div_cancel _ (Nat.two_pow_pos k)]
    rfl
  rw [hc]
end Go.Proofs.Ytbidpdgjlcmhhaa
