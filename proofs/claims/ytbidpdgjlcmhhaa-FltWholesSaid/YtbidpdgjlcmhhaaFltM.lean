/- A number less its whole part: exact, less than one. Plain. -/
import Derived.Test.YtbidpdgjlcmhhaaFltI
import Derived.Test.YtbidpdgjlcmhhaaFltK
namespace Go.Proofs.Ytbidpdgjlcmhhaa
open Go.ChangeShapes Go.WideShapes Go.ChangeAt Go.RowKit
set_option linter.unusedVariables false
set_option linter.unusedSimpArgs false
theorem cut_move (s : Bool) (R a c : Nat) (h0 : R ≠ 0) : Ieee.Toward.even.cut s ((R * 2 ^ a) <<< (c - a)) (a - c) = R * 2 ^ c := by
  by_cases h : a ≤ c
  · rw [show a - c = 0 by omega, cut_zero, Nat.shiftLeft_eq, Nat.mul_assoc, ← Nat.pow_add, show a + (c - a) = c by omega]
  · rw [show c - a = 0 by omega, Nat.shiftLeft_zero, show R * 2 ^ a = R * 2 ^ c * 2 ^ (a - c) by rw [Nat.mul_assoc, ← Nat.pow_add, show c + (a - c) = a by omega]]
    exact cut_exact s _ _ (Nat.mul_ne_zero h0 (Nat.ne_of_gt (Nat.two_pow_pos c)))
theorem mul_pow_lt {R n c : Nat} (h0 : R ≠ 0) (h : R.log2 + 1 + c ≤ n) : R * 2 ^ c < 2 ^ n := by
  have := Nat.mul_lt_mul_of_pos_right (Nat.lt_log2_self (n := R)) (Nat.two_pow_pos c)
  rw [← Nat.pow_add] at this
  exact Nat.lt_of_lt_of_le this (Nat.pow_le_pow_right (by omega) h)
/-- What is less than one and has 53 bits: its rung lies below one's. -/
theorem nearest_part (s : Bool) (R k a : Nat) (h1 : R < 9007199254740992) (h2 : R < 2 ^ k) (h3 : k ≤ 1074) :
    ∃ ρ : Nat, ρ < 4607182418800017408 ∧ Ieee.double.nearest s (R * 2 ^ a) (-((k + a : Nat) : Int)) = Ieee.double.word s ρ := by
  by_cases h0 : R = 0
  · subst h0
    refine ⟨0, by omega, ?_⟩
    unfold Ieee.Format.nearest
    rw [Nat.zero_mul, if_pos rfl]
  have hp : 0 < 2 ^ a := Nat.two_pow_pos a
  have hL : R.log2 ≤ 52 := log2_53 h0 h1
  have hk : R.log2 < k := (Nat.log2_lt h0).2 h2
  unfold Ieee.Format.nearest
  rw [if_neg (Nat.mul_ne_zero h0 (by omega))]
  simp only [fmt_least, fmt_bin, fmt_inf]
  rw [log2_mul_pow _ _ h0]
  by_cases hc : k + 52 ≤ R.log2 + 1074
  · have hmax : max (-((k + a : Nat) : Int) + ((R.log2 + a : Nat) : Int) - (Ieee.double.fractionBits : Int)) (-1074) = (R.log2 : Int) - k - 52 := by
      rw [show (Ieee.double.fractionBits : Int) = 52 from rfl]; omega
    rw [hmax, show (-((k + a : Nat) : Int) - ((R.log2 : Int) - k - 52)).toNat = (52 - R.log2) - a by omega, show ((R.log2 : Int) - k - 52 - -((k + a : Nat) : Int)).toNat = a - (52 - R.log2) by omega,
      cut_move _ _ _ _ h0, show ((R.log2 : Int) - k - 52 - -1074).toNat = 1022 + R.log2 - k by omega]
    have hb := mul_pow_lt (R := R) (n := 53) (c := 52 - R.log2) h0 (by omega)
    rw [show (2 : Nat) ^ 53 = 9007199254740992 by decide] at hb
    generalize R * 2 ^ (52 - R.log2) = d at *
    generalize R.log2 = l at *
    exact ⟨_, by omega, rfl⟩
  · have hmax : max (-((k + a : Nat) : Int) + ((R.log2 + a : Nat) : Int) - (Ieee.double.fractionBits : Int)) (-1074) = -1074 := by
      rw [show (Ieee.double.fractionBits : Int) = 52 from rfl]; omega
    rw [hmax, show (-((k + a : Nat) : Int) - -1074).toNat = (1074 - k) - a by omega, show (-1074 - -((k + a : Nat) : Int)).toNat = a - (1074 - k) by omega,
      cut_move _ _ _ _ h0, show ((-1074 : Int) - -1074).toNat = 0 from rfl]
    have hb := mul_pow_lt (R := R) (n := 52) (c := 1074 - k) h0 (by omega)
    rw [show (2 : Nat) ^ 52 = 4503599627370496 by decide] at hb
    exact ⟨_, Nat.lt_of_le_of_lt (Nat.min_le_left _ _) (by rw [Nat.zero_mul, Nat.zero_add]; exact Nat.lt_trans hb (by decide)), rfl⟩
theorem signed_mul (s : Bool) (m u : Nat) : Ieee.signed s m u = (if s = true then -1 else 1) * ((m * 2 ^ u : Nat) : Int) := by
  unfold Ieee.signed
  rw [Nat.shiftLeft_eq]
  cases s <;> simp
/-- A number that is a whole one of its own accord. -/
theorem whole_self (x : Nat) (hx : x < 18446744073709551616) (hr : rg x ≤ 4890909195324358656) (hu : 1074 ≤ upR (rg x)) : fiG (tiV x) = x := by
  have hn : 4503599627370496 ≤ rg x := by
    unfold upR at hu
    split at hu <;> omega
  have hu2 : upR (rg x) ≤ 1085 := by unfold upR; split <;> omega
  have hd0 : digR (rg x) ≠ 0 := by unfold digR; rw [if_neg (by omega)]; omega
  have hlog : (digR (rg x)).log2 = 52 := log2_dig hn
  obtain ⟨e, he⟩ : ∃ e, upR (rg x) = 1074 + e := ⟨upR (rg x) - 1074, by omega⟩
  have ht : tiN (rg x) = digR (rg x) * 2 ^ e := by unfold tiN; rw [if_pos hu, he, show 1074 + e - 1074 = e by omega]
  have hp : 0 < 2 ^ e := Nat.two_pow_pos e
  have h0 : tiN (rg x) ≠ 0 := by rw [ht]; exact Nat.mul_ne_zero hd0 (by omega)
  unfold fiG tiV
  rw [signed_neg _ _ _ h0, signed_abs, Nat.pow_zero, Nat.mul_one]
  have hf : frG (tiN (rg x)) = rg x := by
    unfold frG
    rw [if_neg h0, ht, log2_mul_pow _ _ hd0, hlog, Nat.mul_assoc, ← Nat.pow_add, show e + (63 - (52 + e)) = 11 by omega]
    unfold kpG
    rw [show (2 : Nat) ^ 11 = 2048 by decide, Nat.mul_div_cancel _ (by omega), Nat.mul_mod_left]
    have h5 := rung_dig (rg x)
    rw [he] at h5
    show (1022 + (52 + e)) * 4503599627370496 + (digR (rg x) + 0) = rg x
    rw [Nat.add_zero, show 1022 + (52 + e) = 1074 + e by omega]
    exact h5
  rw [hf, word_rg x hx]
theorem sub_self_ (x : Nat) (hr : rg x < infR) : Ieee.double.sub x x = some 0 := by
  unfold Ieee.Format.sub
  rw [read_num hr]
  show some (Ieee.double.write (.number _ _ _)) = _
  have e : ∀ (s : Bool) (m u : Nat), Ieee.signed s m u + Ieee.signed (!s) m u = 0 := by
    intro s m u; rw [signed_mul, signed_mul]; generalize ((m * 2 ^ u : Nat) : Int) = z; cases s <;> simp <;> omega
  simp only [Int.min_self, Int.sub_self, e, if_true]
  rw [show (sg x && !sg x) = false by cases sg x <;> rfl]
  rfl
/-- A number with a part of one. -/
theorem sub_part (x : Nat) (hr : rg x < infR) (hu : upR (rg x) < 1074) :
    (tiV x).natAbs < 9007199254740992 ∧ rg (fiN (tiV x)) ≤ rg x ∧ rg (fiN (tiV x)) < infR ∧ fiN (tiV x) < 18446744073709551616 ∧
    ∃ (t : Bool) (ρ : Nat), ρ < 4607182418800017408 ∧ Ieee.double.sub x (fiN (tiV x)) = some (Ieee.double.word t ρ) := by
  obtain ⟨k, hk⟩ : ∃ k, k = 1074 - upR (rg x) := ⟨_, rfl⟩
  have hd := dig_lt (rg x)
  obtain ⟨D, hD⟩ : ∃ D, digR (rg x) = D := ⟨_, rfl⟩
  rw [hD] at hd
  have ht : tiN (rg x) = D / 2 ^ k := by unfold tiN; rw [if_neg (by omega), hD, hk]
  have hm : (tiV x).natAbs = D / 2 ^ k := by unfold tiV; rw [signed_abs, Nat.pow_zero, Nat.mul_one, ht]
  have hle := Nat.div_le_self D (2 ^ k)
  have hp : 0 < 2 ^ k := Nat.two_pow_pos k
  have h53 : (tiV x).natAbs < 9007199254740992 := by omega
  have hf := frR_lt h53
  have hw := word_parts (decide (tiV x < 0)) (frR (tiV x).natAbs) (by omega)
  refine ⟨h53, ?_, ?_, hw.2.2, ?_⟩
  · show rg (Ieee.double.word _ _) ≤ _
    rw [hw.1, hm]
    unfold frR
    split
    · exact Nat.zero_le _
    · rename_i h0
      have h1 : 2 ^ k ≤ D := by
        rcases Nat.lt_or_ge D (2 ^ k) with h | h
        · exact absurd (Nat.div_eq_of_lt h) h0
        · exact h
      have hk52 : k ≤ 52 := by
        rcases Nat.lt_or_ge 52 k with h | h
        · have h3 : 2 ^ 53 ≤ 2 ^ k := Nat.pow_le_pow_right (by omega) h
          have h4 : 2 ^ 53 = 9007199254740992 := by decide
          omega
        · exact h
      have hn : 4503599627370496 ≤ rg x := by
        rcases Nat.lt_or_ge (rg x) 4503599627370496 with h | h
        · have : upR (rg x) = 0 := by unfold upR; rw [if_pos h]
          omega
        · exact h
      have hlD : D.log2 = 52 := by rw [← hD]; exact log2_dig hn
      have hl : (D / 2 ^ k).log2 = 52 - k := by
        refine (Nat.log2_eq_iff h0).2 ⟨?_, ?_⟩
        · rw [Nat.le_div_iff_mul_le hp, ← Nat.pow_add, show 52 - k + k = 52 by omega]
          have := Nat.log2_self_le (n := D) (by omega)
          rw [hlD] at this
          exact this
        · rw [Nat.div_lt_iff_lt_mul hp, ← Nat.pow_add, show 52 - k + 1 + k = 53 by omega]
          exact hd
      rw [hl, show 52 - (52 - k) = k by omega]
      have h5 := Nat.div_mul_le_self D (2 ^ k)
      have h6 := rung_dig (rg x)
      rw [hD] at h6
      generalize D / 2 ^ k * 2 ^ k = d at *
      omega
  · show rg (Ieee.double.word _ _) < _
    rw [hw.1]; unfold infR; omega
  · obtain ⟨l, hl, e2⟩ := read_word (decide (tiV x < 0)) (tiV x).natAbs h53
    unfold Ieee.Format.sub
    rw [read_num hr, show fiN (tiV x) = Ieee.double.word (decide (tiV x < 0)) (frR (tiV x).natAbs) from rfl, e2, hD]
    show ∃ t ρ, _ ∧ some (Ieee.double.write (.number _ _ _)) = _
    obtain ⟨a, ha⟩ : ∃ a : Nat, min (-1074 + (upR (rg x) : Int)) (-(l : Int)) = -((k + a : Nat) : Int) ∧ l ≤ k + a := ⟨max k l - k, by omega, by omega⟩
    obtain ⟨ha, hla⟩ := ha
    have hB : Ieee.signed (!decide (tiV x < 0)) ((tiV x).natAbs * 2 ^ l) (-(l : Int) - -((k + a : Nat) : Int)).toNat = -(tiV x) * ((2 ^ (k + a) : Nat) : Int) := by
      rw [signed_mul, Nat.mul_assoc, ← Nat.pow_add, show l + (-(l : Int) - -((k + a : Nat) : Int)).toNat = k + a by omega, Int.natCast_mul, ← Int.mul_assoc]
      congr 1
      by_cases h : tiV x < 0
      · rw [decide_eq_true h]; simp; omega
      · rw [decide_eq_false h]; simp; omega
    have hV : tiV x = (if sg x = true then -1 else 1) * ((D / 2 ^ k : Nat) : Int) := by
      unfold tiV; rw [signed_mul, Nat.pow_zero, Nat.mul_one, ht]
    have hA : Ieee.signed (sg x) D (-1074 + (upR (rg x) : Int) - -((k + a : Nat) : Int)).toNat = (if sg x = true then -1 else 1) * ((D * 2 ^ a : Nat) : Int) := by
      rw [signed_mul, show (-1074 + (upR (rg x) : Int) - -((k + a : Nat) : Int)).toNat = a by omega]
    have hT : Ieee.signed (sg x) D (-1074 + (upR (rg x) : Int) - -((k + a : Nat) : Int)).toNat + Ieee.signed (!decide (tiV x < 0)) ((tiV x).natAbs * 2 ^ l) (-(l : Int) - -((k + a : Nat) : Int)).toNat = (if sg x = true then -1 else 1) * ((D % 2 ^ k * 2 ^ a : Nat) : Int) := by
      rw [hA, hB, hV, ← Int.mul_neg, Int.mul_assoc, ← Int.mul_add]
      congr 1
      have hdm := Nat.div_add_mod D (2 ^ k)
      have e3 : D * 2 ^ a = D / 2 ^ k * 2 ^ (k + a) + D % 2 ^ k * 2 ^ a := by
        rw [Nat.pow_add, ← Nat.mul_assoc, ← Nat.add_mul, Nat.mul_comm (D / 2 ^ k), hdm]
      rw [e3, Int.natCast_add, Int.neg_mul, ← Int.natCast_mul]
      omega
    simp only [ha, hT]
    obtain ⟨t, htt⟩ : ∃ t : Bool, t = (if (if sg x = true then (-1 : Int) else 1) * ((D % 2 ^ k * 2 ^ a : Nat) : Int) = 0 then sg x && !decide (tiV x < 0) else decide ((if sg x = true then (-1 : Int) else 1) * ((D % 2 ^ k * 2 ^ a : Nat) : Int) < 0)) := ⟨_, rfl⟩
    have hN : ((if sg x = true then (-1 : Int) else 1) * ((D % 2 ^ k * 2 ^ a : Nat) : Int)).natAbs = D % 2 ^ k * 2 ^ a := by
      rw [Int.natAbs_mul, Int.natAbs_natCast]
      split <;> simp
    rw [hN, ← htt]
    obtain ⟨ρ, h1, h2⟩ := nearest_part t (D % 2 ^ k) k a (by have := Nat.mod_le D (2 ^ k); omega) (Nat.mod_lt _ hp) (by omega)
    exact ⟨t, ρ, h1, congrArg some h2⟩
end Go.Proofs.Ytbidpdgjlcmhhaa
