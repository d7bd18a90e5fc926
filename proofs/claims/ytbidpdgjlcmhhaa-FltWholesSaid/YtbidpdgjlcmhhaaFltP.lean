/- Rounding of what the format has: exact. And what that says of sums with nought, products and quotients by one and two. Plain. -/
import Derived.Test.YtbidpdgjlcmhhaaFltC
namespace Go.Proofs.Ytbidpdgjlcmhhaa
open Go.ChangeShapes Go.WideShapes Go.ChangeAt Go.RowKit
set_option linter.unusedVariables false
set_option linter.unusedSimpArgs false

theorem log2_dig {r : Nat} (h : 4503599627370496 ≤ r) : (digR r).log2 = 52 := by
  have h0 : digR r ≠ 0 := by unfold digR; rw [if_neg (by omega)]; omega
  refine (Nat.log2_eq_iff h0).2 ?_
  unfold digR; rw [if_neg (by omega)]
  have := Nat.mod_lt r (show 0 < 4503599627370496 by omega)
  constructor
  · show 4503599627370496 ≤ _; omega
  · show _ < 9007199254740992; omega
theorem log2_dig_lt {r : Nat} (h : r < 4503599627370496) : (digR r).log2 ≤ 51 := by
  by_cases h0 : digR r = 0
  · rw [h0]; decide
  have : (digR r).log2 < 52 := (Nat.log2_lt h0).2 (by unfold digR; rw [if_pos h]; exact h)
  omega
theorem dig_zero {r : Nat} : digR r = 0 ↔ r = 0 := by unfold digR; split <;> omega
theorem last_dig {r : Nat} : max (-1074 + (upR r : Int) + (digR r).log2 - 52) (-1074) = -1074 + (upR r : Int) := by
  by_cases h : r < 4503599627370496
  · have := log2_dig_lt h
    have hu : upR r = 0 := by unfold upR; rw [if_pos h]
    rw [hu]; omega
  · rw [log2_dig (by omega)]; omega
theorem rung_dig (r : Nat) : upR r * 4503599627370496 + digR r = r := by
  unfold upR digR
  split
  · omega
  · omega
theorem cut_exact (s : Bool) (d a : Nat) (hd : d ≠ 0) : Ieee.Toward.even.cut s (d * 2 ^ a) a = d := by
  have h1 : a ≤ (d * 2 ^ a).log2 + 2 := by
    have : a ≤ (d * 2 ^ a).log2 := (Nat.le_log2 (Nat.mul_ne_zero hd (Nat.pos_iff_ne_zero.1 (Nat.two_pow_pos a)))).2 (Nat.le_mul_of_pos_left _ (Nat.pos_of_ne_zero hd))
    omega
  have hp : 0 < 2 ^ a := Nat.two_pow_pos a
  unfold Ieee.Toward.cut
  rw [Nat.min_eq_left h1, Nat.shiftLeft_eq, Nat.one_mul]
  simp only [Nat.mul_mod_left, Nat.mul_div_cancel _ hp, Nat.mul_zero]
  rw [show (decide (2 ^ a < 0)) = false from decide_eq_false (by omega), show ((2 ^ a == 0) = false) from beq_false_of_ne (by omega)]
  rfl
theorem log2_mul_pow (d a : Nat) (hd : d ≠ 0) : (d * 2 ^ a).log2 = d.log2 + a := by
  have hp : 0 < 2 ^ a := Nat.two_pow_pos a
  have hn : d * 2 ^ a ≠ 0 := Nat.mul_ne_zero hd (by omega)
  refine (Nat.log2_eq_iff hn).2 ⟨?_, ?_⟩
  · rw [Nat.pow_add]; exact Nat.mul_le_mul_right _ (Nat.log2_self_le hd)
  · rw [show d.log2 + a + 1 = (d.log2 + 1) + a by omega, Nat.pow_add]; exact Nat.mul_lt_mul_of_pos_right (Nat.lt_log2_self) hp
theorem nearest_down (s : Bool) (r a : Nat) (hr : r < infR) (p : Int) (hp : p = -1074 + (upR r : Int) - a) : Ieee.double.nearest s (digR r * 2 ^ a) p = Ieee.double.word s r := by
  unfold Ieee.Format.nearest
  by_cases h0 : digR r = 0
  · rw [h0, Nat.zero_mul, if_pos rfl, dig_zero.1 h0]
  have hq : 0 < 2 ^ a := Nat.two_pow_pos a
  rw [if_neg (Nat.mul_ne_zero h0 (by omega))]
  simp only [fmt_least, fmt_bin, fmt_inf]
  rw [log2_mul_pow _ _ h0, show p + ((digR r).log2 + a : Nat) - (Ieee.double.fractionBits : Int) = -1074 + (upR r : Int) + (digR r).log2 - 52 by rw [hp, show (Ieee.double.fractionBits : Int) = 52 from rfl]; omega, last_dig,
    show (p - (-1074 + (upR r : Int))).toNat = 0 by omega, show (-1074 + (upR r : Int) - p).toNat = a by omega, Nat.shiftLeft_zero, cut_exact s _ _ h0,
    show (-1074 + (upR r : Int) - -1074).toNat = upR r by omega, rung_dig, Nat.min_eq_left (by unfold infR at hr; omega)]
theorem signed_abs (s : Bool) (m u : Nat) : (Ieee.signed s m u).natAbs = m * 2 ^ u := by
  unfold Ieee.signed
  rw [Nat.shiftLeft_eq]
  cases s
  · exact Int.natAbs_natCast _
  · exact (Int.natAbs_neg _).trans (Int.natAbs_natCast _)
theorem signed_zero (s : Bool) (m u : Nat) : Ieee.signed s m u = 0 ↔ m = 0 := by
  have := signed_abs s m u
  have hp : 0 < 2 ^ u := Nat.two_pow_pos u
  constructor
  · intro h; rw [h] at this
    by_cases hm : m = 0
    · exact hm
    · exact absurd this.symm (Nat.mul_ne_zero hm (by omega))
  · intro h; subst h; cases s <;> simp [Ieee.signed]
theorem signed_neg (s : Bool) (m u : Nat) (h : m ≠ 0) : decide (Ieee.signed s m u < 0) = s := by
  have hp : 0 < 2 ^ u := Nat.two_pow_pos u
  have hm : 0 < m * 2 ^ u := Nat.mul_pos (by omega) hp
  unfold Ieee.signed
  rw [Nat.shiftLeft_eq]
  cases s
  · apply decide_eq_false
    rw [if_neg (by decide)]
    omega
  · simp only [if_true]
    apply decide_eq_true
    omega
theorem word_rg (x : Nat) (hx : x < 18446744073709551616) : Ieee.double.word (sg x) (rg x) = x := by
  unfold Ieee.Format.word sg rg
  rw [fmt_sw]
  by_cases h : x / 9223372036854775808 % 2 = 1
  · rw [beq_iff_eq.2 h, if_pos rfl]; omega
  · rw [beq_false_of_ne h, if_neg (by decide)]; omega
theorem read_mzero : Ieee.double.read 9223372036854775808 = .number true 0 (-1074) := by decide
theorem read_one : Ieee.double.read 4607182418800017408 = .number false 4503599627370496 (-52) := by decide
theorem read_two : Ieee.double.read 4611686018427387904 = .number false 4503599627370496 (-51) := by decide
theorem read_num {x : Nat} (h : rg x < infR) : Ieee.double.read x = .number (sg x) (digR (rg x)) (-1074 + (upR (rg x) : Int)) := by rw [read_any, if_pos h]
theorem read_inf {x : Nat} (h : rg x = infR) : Ieee.double.read x = .infinity (sg x) := by rw [read_any, if_neg (by omega), if_pos h]
theorem num_or_inf {x : Nat} (h : nanN x = false) : rg x < infR ∨ rg x = infR := by unfold nanN at h; have := of_decide_eq_false h; omega
theorem write_inf {x : Nat} (hx : x < 18446744073709551616) (h : rg x = infR) : Ieee.double.write (.infinity (sg x)) = x := by
  show Ieee.double.word (sg x) Ieee.double.infRung = x
  rw [fmt_inf]
  have := word_rg x hx
  rw [h] at this
  exact this
theorem add_mzero (x : Nat) (hx : x < 18446744073709551616) (h : nanN x = false) : ((Ieee.double.read x).sum (.number true 0 (-1074))).map Ieee.double.write = some x := by
  rcases num_or_inf h with h | h
  · rw [read_num h]
    show some (Ieee.double.write (.number _ _ _)) = _
    simp only [show min (-1074 + (upR (rg x) : Int)) (-1074) = -1074 by omega, show ((-1074 : Int) - -1074).toNat = 0 from rfl, show (-1074 + (upR (rg x) : Int) - -1074).toNat = upR (rg x) by omega, show Ieee.signed true 0 0 = 0 from rfl, Int.add_zero, signed_abs, Bool.and_true]
    show some (Ieee.double.nearest _ _ _) = _
    rw [nearest_down _ _ _ h _ (by omega)]
    by_cases h0 : digR (rg x) = 0
    · rw [if_pos ((signed_zero _ _ _).2 h0), word_rg x hx]
    · rw [if_neg (fun e => h0 ((signed_zero _ _ _).1 e)), signed_neg _ _ _ h0, word_rg x hx]
  · rw [read_inf h]
    exact congrArg some (write_inf hx h)
theorem mul_one_ (x : Nat) (hx : x < 18446744073709551616) (h : nanN x = false) : Ieee.double.mul x 4607182418800017408 = some x := by
  unfold Ieee.Format.mul
  rw [read_one]
  rcases num_or_inf h with h | h
  · rw [read_num h]
    show some (Ieee.double.nearest (sg x ^^ false) (digR (rg x) * 2 ^ 52) _) = _
    rw [nearest_down _ _ _ h _ (by omega), Bool.xor_false, word_rg x hx]
  · rw [read_inf h]
    show some (Ieee.double.write (.infinity (sg x ^^ false))) = _
    rw [Bool.xor_false, write_inf hx h]
theorem quo_pow (m e : Nat) (hm : m.log2 ≤ 52) (he : e = 54 + 52 - m.log2) : 2 * (m <<< e / 4503599627370496) + ((m <<< e % 4503599627370496 != 0).toNat) = m * 2 ^ (e - 51) := by
  obtain ⟨c, rfl⟩ : ∃ c, e = c + 52 := ⟨e - 52, by omega⟩
  rw [Nat.shiftLeft_eq, Nat.pow_add, ← Nat.mul_assoc, show (2 : Nat) ^ 52 = 4503599627370496 from rfl, Nat.mul_div_cancel _ (by omega), Nat.mul_mod_left, show c + 52 - 51 = c + 1 by omega, Nat.pow_succ]
  simp only [bne_self_eq_false, Bool.toNat_false, Nat.add_zero]
  rw [Nat.mul_comm 2, Nat.mul_assoc]
theorem log2_dig_le (r : Nat) : (digR r).log2 ≤ 52 := by
  by_cases h : r < 4503599627370496
  · have := log2_dig_lt h; omega
  · rw [log2_dig (by omega)]; omega
theorem div_one_ (x : Nat) (hx : x < 18446744073709551616) (h : nanN x = false) : Ieee.double.div x 4607182418800017408 = some x := by
  unfold Ieee.Format.div
  rw [read_one]
  rcases num_or_inf h with h | h
  · rw [read_num h]
    have hl := log2_dig_le (rg x)
    show some (Ieee.double.nearest (sg x ^^ false) (2 * (_ <<< (54 + 52 - (digR (rg x)).log2) / 4503599627370496) + (digR (rg x) <<< (54 + 52 - (digR (rg x)).log2) % 4503599627370496 != 0).toNat) (-1074 + (upR (rg x) : Int) - (-52) - ((54 + 52 - (digR (rg x)).log2 : Nat) : Int) - 1)) = _
    rw [quo_pow _ _ hl rfl, nearest_down _ _ _ h _ (by omega), Bool.xor_false, word_rg x hx]
  · rw [read_inf h]
    show some (Ieee.double.write (.infinity (sg x ^^ false))) = _
    rw [Bool.xor_false, write_inf hx h]
/-- Half of a number that isn't too small. -/
def halfF (x : Nat) : Nat := if rg x = infR then x else x - 4503599627370496
theorem half_rg {x : Nat} (h : rg x < infR) (h2 : 2 * 4503599627370496 ≤ rg x) : rg (x - 4503599627370496) = rg x - 4503599627370496 ∧ sg (x - 4503599627370496) = sg x := by
  unfold rg infR at *
  unfold sg
  constructor
  · omega
  · rw [show (x - 4503599627370496) / 9223372036854775808 = x / 9223372036854775808 by omega]
theorem half_dig {r : Nat} (h2 : 2 * 4503599627370496 ≤ r) : digR (r - 4503599627370496) = digR r ∧ upR r = upR (r - 4503599627370496) + 1 := by
  unfold digR upR
  rw [if_neg (by omega), if_neg (by omega), if_neg (by omega), if_neg (by omega)]
  constructor <;> omega
theorem div_two_ (x : Nat) (hx : x < 18446744073709551616) (h : nanN x = false) (h2 : 2 * 4503599627370496 ≤ rg x) : Ieee.double.div x 4611686018427387904 = some (halfF x) := by
  unfold Ieee.Format.div halfF
  rw [read_two]
  rcases num_or_inf h with h | h
  · have hh := half_rg h h2
    have hd := half_dig h2
    have hx' : x - 4503599627370496 < 18446744073709551616 := by omega
    have hw := word_rg _ hx'
    rw [hh.1, hh.2] at hw
    rw [read_num h, if_neg (by omega)]
    have hl := log2_dig_le (rg x)
    show some (Ieee.double.nearest (sg x ^^ false) (2 * (_ <<< (54 + 52 - (digR (rg x)).log2) / 4503599627370496) + (digR (rg x) <<< (54 + 52 - (digR (rg x)).log2) % 4503599627370496 != 0).toNat) (-1074 + (upR (rg x) : Int) - (-51) - ((54 + 52 - (digR (rg x)).log2 : Nat) : Int) - 1)) = _
    rw [quo_pow _ _ hl rfl, Bool.xor_false]
    obtain ⟨L, hL⟩ : ∃ L, L = (digR (rg x)).log2 := ⟨_, rfl⟩
    rw [← hL] at hl ⊢
    have hr' : rg x - 4503599627370496 < infR := Nat.lt_of_le_of_lt (Nat.sub_le _ _) h
    have hp' : -1074 + (upR (rg x) : Int) - (-51) - ((54 + 52 - L : Nat) : Int) - 1 = -1074 + (upR (rg x - 4503599627370496) : Int) - ((54 + 52 - L - 51 : Nat) : Int) := by rw [hd.2]; omega
    have e := nearest_down (sg x) (rg x - 4503599627370496) (54 + 52 - L - 51) hr' _ hp'
    rw [hd.1] at e
    rw [e, hw]
  · rw [read_inf h, if_pos h]
    show some (Ieee.double.write (.infinity (sg x ^^ false))) = _
    rw [Bool.xor_false, write_inf hx h]
theorem half_twice (x : Nat) (hx : x < 18446744073709551616) (h : nanN x = false) (h2 : 2 * 4503599627370496 ≤ rg x) : Ieee.double.add (halfF x) (halfF x) = some x := by
  unfold Ieee.Format.add halfF
  rcases num_or_inf h with h | h
  · have hh := half_rg h h2
    have hd := half_dig h2
    rw [if_neg (by omega), read_num (by rw [hh.1]; omega), hh.1, hh.2, hd.1]
    have h0 : digR (rg x) ≠ 0 := fun e => by have := dig_zero.1 e; omega
    show some (Ieee.double.write (.number _ _ _)) = _
    simp only [Int.min_self, Int.sub_self, Int.toNat_zero, Bool.and_self]
    have e : Ieee.signed (sg x) (digR (rg x)) 0 + Ieee.signed (sg x) (digR (rg x)) 0 = Ieee.signed (sg x) (digR (rg x)) 1 := by
      unfold Ieee.signed
      rw [Nat.shiftLeft_eq, Nat.shiftLeft_eq]
      cases sg x
      · rw [if_neg (by decide), if_neg (by decide)]; omega
      · rw [if_pos rfl, if_pos rfl]; omega
    rw [e, signed_abs, if_neg (fun e => h0 ((signed_zero _ _ _).1 e)), signed_neg _ _ _ h0]
    show some (Ieee.double.nearest _ _ _) = _
    rw [nearest_down _ _ _ h _ (by omega), word_rg x hx]
  · rw [if_pos h, read_inf h]
    show Option.map _ (if sg x = sg x then _ else _) = _
    rw [if_pos rfl]
    exact congrArg some (write_inf hx h)
theorem half_num {x : Nat} (h : nanN x = false) (h2 : 2 * 4503599627370496 ≤ rg x) : nanN (halfF x) = false := by
  unfold halfF
  rcases num_or_inf h with h1 | h1
  · rw [if_neg (by omega)]
    have hh := half_rg h1 h2
    unfold nanN; rw [hh.1]; apply decide_eq_false; omega
  · rw [if_pos h1]; exact h
theorem half_lt {x : Nat} (hx : x < 18446744073709551616) : halfF x < 18446744073709551616 := by unfold halfF; split <;> omega
end Go.Proofs.Ytbidpdgjlcmhhaa
