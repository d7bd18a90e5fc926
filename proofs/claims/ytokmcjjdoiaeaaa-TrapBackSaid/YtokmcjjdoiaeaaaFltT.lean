/- FltDoes' plain law: the document's flags and results are those of the package. Plain. -/
import Derived.Test.YtokmcjjdoiaeaaaFltP
namespace Go.Proofs.Ytokmcjjdoiaeaaa
open Go.ChangeShapes Go.WideShapes Go.ChangeAt Go.RowKit
set_option linter.unusedVariables false
set_option linter.unusedSimpArgs false

theorem read_nan {x : Nat} (h : nanN x = true) : ∃ s t, Ieee.double.read x = .nan s t := by
  unfold nanN at h
  have := of_decide_eq_true h
  exact ⟨_, _, by rw [read_any, if_neg (by omega), if_neg (by omega)]⟩
theorem raw_nan {op : Int} {x y : Nat} (ho : 1 ≤ op ∧ op ≤ 6) (h : nanN x = true ∨ nanN y = true) : rawF op x y = none := by
  have hb : (nanN x || nanN y) = true := by rcases h with h | h <;> rw [h] <;> simp
  have hop : op = 1 ∨ op = 2 ∨ op = 3 ∨ op = 4 ∨ op = 5 ∨ op = 6 := by omega
  unfold rawF
  rcases hop with rfl | rfl | rfl | rfl | rfl | rfl
  · show Ieee.double.add x y = none
    unfold Ieee.Format.add
    rcases h with h | h
    · obtain ⟨s, t, e⟩ := read_nan h; rw [e]; cases Ieee.double.read y <;> rfl
    · obtain ⟨s, t, e⟩ := read_nan h; rw [e]; cases Ieee.double.read x <;> rfl
  · show Ieee.double.sub x y = none
    unfold Ieee.Format.sub
    rcases h with h | h
    · obtain ⟨s, t, e⟩ := read_nan h; rw [e]; cases Ieee.double.read y <;> rfl
    · obtain ⟨s, t, e⟩ := read_nan h; rw [e]; cases Ieee.double.read x <;> rfl
  · show Ieee.double.mul x y = none
    unfold Ieee.Format.mul
    rcases h with h | h
    · obtain ⟨s, t, e⟩ := read_nan h; rw [e]; cases Ieee.double.read y <;> rfl
    · obtain ⟨s, t, e⟩ := read_nan h; rw [e]; cases Ieee.double.read x <;> rfl
  · show Ieee.double.div x y = none
    unfold Ieee.Format.div
    rcases h with h | h
    · obtain ⟨s, t, e⟩ := read_nan h; rw [e]; cases Ieee.double.read y <;> rfl
    · obtain ⟨s, t, e⟩ := read_nan h; rw [e]; cases Ieee.double.read x <;> rfl
  · show (if nanN x || nanN y then none else _) = none
    rw [if_pos hb]
  · show (if nanN x || nanN y then none else _) = none
    rw [if_pos hb]
theorem cls_zero {x : Nat} : fcls x = 0 ↔ rg x = 0 := by
  unfold fcls clsR
  by_cases h : rg x = 0
  · rw [if_pos h]; exact ⟨fun _ => h, fun _ => rfl⟩
  · rw [if_neg h]
    refine ⟨fun e => ?_, fun e => absurd e h⟩
    revert e; (repeat' split) <;> intro e <;> omega
theorem cls_fin {x : Nat} : fcls x ≤ 2 ↔ rg x < infR := by
  unfold fcls clsR infR
  (repeat' split) <;> omega
theorem cls_range (x : Nat) : 0 ≤ fcls x ∧ fcls x ≤ 4 := by
  unfold fcls clsR
  (repeat' split) <;> omega
theorem div_nought {x y : Nat} (hx : fcls x = 1 ∨ fcls x = 2) (hy : fcls y = 0) : clsO (rawF 4 x y) = 3 := by
  have h1 := cls_fin.1 (show fcls x ≤ 2 by omega)
  have h2 := cls_zero.1 hy
  have h0 : digR (rg x) ≠ 0 := fun e => by have := cls_zero.2 (dig_zero.1 e); omega
  have e : rawF 4 x y = some (Ieee.double.word (sg x ^^ sg y) 9218868437227405312) := by
    show Ieee.double.div x y = _
    unfold Ieee.Format.div
    rw [read_num h1, read_num (x := y) (by rw [h2]; decide), h2]
    simp [Ieee.Datum.quotient, show digR 0 = 0 from rfl, h0, Ieee.Format.write, fmt_inf]
  rw [e]
  show fcls _ = 3
  cases (sg x ^^ sg y) <;> decide
theorem div_noughts {x y : Nat} (hx : fcls x = 0) (hy : fcls y = 0) : rawF 4 x y = none := by
  have h1 := cls_zero.1 hx
  have h2 := cls_zero.1 hy
  show Ieee.double.div x y = _
  unfold Ieee.Format.div
  rw [read_num (x := x) (by rw [h1]; decide), read_num (x := y) (by rw [h2]; decide), h1, h2]
  rfl
/-- The document's flags. -/
def refFlag (op ca cb cr : Int) (sa sb : Bool) : Int :=
  if sa || sb || (!(ca == 4) && !(cb == 4) && cr == 4) then 1 else if op == 4 && (ca == 1 || ca == 2) && cb == 0 then 2 else if cr == 3 && decide (ca < 3) && decide (cb < 3) then 4 else 0
theorem flag_ref {op : Int} {x y : Nat} (ho : 1 ≤ op ∧ op ≤ 6) : refFlag op (fcls x) (fcls y) (clsO (rawF op x y)) (sigB x) (sigB y) = flagF op (fcls x) (fcls y) (clsO (rawF op x y)) (sigB x) (sigB y) := by
  have hrx := cls_range x
  have hry := cls_range y
  have hn : fcls x = 4 ∨ fcls y = 4 → clsO (rawF op x y) = 4 := fun h => by
    rw [raw_nan ho (h.imp (cls_nan x).2 (cls_nan y).2)]; rfl
  have hd : op = 4 → (fcls x = 1 ∨ fcls x = 2) → fcls y = 0 → clsO (rawF op x y) = 3 := fun h h1 h2 => by subst h; exact div_nought h1 h2
  have hz : op = 4 → fcls x = 0 → fcls y = 0 → clsO (rawF op x y) = 4 := fun h h1 h2 => by subst h; rw [div_noughts h1 h2]; rfl
  generalize clsO (rawF op x y) = c at *
  generalize fcls x = p at *
  generalize fcls y = q at *
  generalize sigB x = s
  generalize sigB y = t
  unfold refFlag flagF
  cases s
  · cases t
    · simp only [Bool.false_or, Bool.and_eq_true, Bool.or_eq_true, Bool.not_eq_true', beq_iff_eq, beq_eq_false_iff_ne, decide_eq_true_eq, Bool.false_eq_true, if_false, Bool.or_eq_false_iff, bne_iff_ne, ne_eq]
      (repeat' split) <;> first | rfl | omega
    · rfl
  · rfl
end Go.Proofs.Ytokmcjjdoiaeaaa
