/- The package call (layer 15): read as one plain function of the words. PRINTED by gen/callr.py. No condition but where the words lie. -/
import Derived.Test.YtbbohjmkippigaaCallRa
import Derived.Test.YtbbohjmkippigaaCallRb
import Derived.Test.YtbbohjmkippigaaCallRc
import Derived.Test.YtbbohjmkippigaaCallRd
import Derived.Test.YtbbohjmkippigaaCallRe
namespace Go.Proofs.Ytbbohjmkippigaa
open Go.ChangeShapes Go.WideShapes Go.ChangeAt Go.RowKit
set_option linter.unusedVariables false
set_option linter.unusedSimpArgs false

structure CV where
  op : Int
  f : Int
  t : Int
  wr : Bool
  us : Bool
  ex : Bool
  addr : Int
  size : Int
  x : Int
  id : Int
  a : Int
  b : Int
  d : Int
abbrev CV.cells (c : CV) : Array Value := ccells c.op c.f c.t c.wr c.us c.ex c.addr c.size c.x c.id c.a c.b c.d
abbrev CV.val (c : CV) : Value := .agg c.cells
def CV.zero : CV := ⟨0, 0, 0, false, false, false, 0, 0, 0, 0, 0, 0, 0⟩
/-- Are the words a call? -/
def goodF0 (o x1 x2 x3 x4 x5 : Int) : Prop :=
  ((o = 1 ∨ o = 3) ∧ 1 ≤ x2 ∧ x2 ≤ 65536 ∧ x1 + x2 ≤ 34359738368 ∧ x3 ≤ 3 ∧ x4 = 0 ∧ x5 = 0) ∨
  ((o = 2) ∧ 1 ≤ x2 ∧ x2 ≤ 65536 ∧ x1 + x2 ≤ 34359738368 ∧ x3 = 0 ∧ x4 = 0 ∧ x5 = 0) ∨
  ((o = 4) ∧ x1 < 140737488355328 ∧ (x2 = 1 ∨ x2 = 2 ∨ x2 = 4 ∨ x2 = 8) ∧ x1 % x2 = 0 ∧ x3 = 0 ∧ x4 = 0 ∧ x5 = 0)
instance (o x1 x2 x3 x4 x5 : Int) : Decidable (goodF0 o x1 x2 x3 x4 x5) := by unfold goodF0; infer_instance
def goodF1 (o x1 x2 x3 x4 x5 : Int) : Prop :=
  ((o = 5) ∧ x1 < 140737488355328 ∧ (((x2 = 1 ∧ x3 < 256) ∨ (x2 = 2 ∧ x3 < 65536) ∨ (x2 = 4 ∧ x3 < 4294967296) ∨ x2 = 8)) ∧ x1 % x2 = 0 ∧ x4 = 0 ∧ x5 = 0) ∨
  ((o = 6) ∧ x1 < 34359738368 ∧ x2 < 16 ∧ x3 ≤ 1 ∧ x4 = 0 ∧ x5 = 0) ∨
  ((o = 7) ∧ x1 < 256 ∧ x2 < 34359738368 ∧ x3 = 0 ∧ x4 = 0 ∧ x5 = 0)
instance (o x1 x2 x3 x4 x5 : Int) : Decidable (goodF1 o x1 x2 x3 x4 x5) := by unfold goodF1; infer_instance
def goodF2 (o x1 x2 x3 x4 x5 : Int) : Prop :=
  ((o = 8 ∨ o = 9) ∧ x1 < 256 ∧ x2 = 0 ∧ x3 = 0 ∧ x4 = 0 ∧ x5 = 0) ∨
  ((o = 10) ∧ x1 ≤ 140737488355327 ∧ x2 = 0 ∧ x3 = 0 ∧ x4 = 0 ∧ x5 = 0) ∨
  ((o = 11 ∨ o = 13 ∨ o = 14) ∧ x1 = 0 ∧ x2 = 0 ∧ x3 = 0 ∧ x4 = 0 ∧ x5 = 0)
instance (o x1 x2 x3 x4 x5 : Int) : Decidable (goodF2 o x1 x2 x3 x4 x5) := by unfold goodF2; infer_instance
def goodF3 (o x1 x2 x3 x4 x5 : Int) : Prop :=
  ((o = 12) ∧ x1 < 1048577 ∧ x2 = 0 ∧ x3 = 0 ∧ x4 = 0 ∧ x5 = 0) ∨
  ((o = 15) ∧ x1 < 8 ∧ x2 < 4 ∧ x3 < 4 ∧ x4 < 4 ∧ x5 = 0) ∨
  ((o = 16) ∧ x1 < 4 ∧ x3 = 0 ∧ x4 = 0 ∧ x5 = 0)
instance (o x1 x2 x3 x4 x5 : Int) : Decidable (goodF3 o x1 x2 x3 x4 x5) := by unfold goodF3; infer_instance
abbrev goodF (o x1 x2 x3 x4 x5 : Int) : Prop := goodF0 o x1 x2 x3 x4 x5 ∨ goodF1 o x1 x2 x3 x4 x5 ∨ goodF2 o x1 x2 x3 x4 x5 ∨ goodF3 o x1 x2 x3 x4 x5
theorem goodF_big (o x1 x2 x3 x4 x5 : Int) (h : o < 1 ∨ 16 < o) : ¬ goodF o x1 x2 x3 x4 x5 := by unfold goodF goodF0 goodF1 goodF2 goodF3; omega
/-- The call that they are. -/
def valF (o x1 x2 x3 x4 x5 : Int) : CV :=
  if o = 1 ∨ o = 3 then ⟨o, x1, (x1 + x2), (x3 % 2 == 1), true, (x3 / 2 == 1), 0, 0, 0, 0, 0, 0, 0⟩ else
  if o = 2 then ⟨o, x1, (x1 + x2), false, false, false, 0, 0, 0, 0, 0, 0, 0⟩ else
  if o = 4 then ⟨o, 0, 0, false, false, false, x1, x2, 0, 0, 0, 0, 0⟩ else
  if o = 5 then ⟨o, 0, 0, false, false, false, x1, x2, x3, 0, 0, 0, 0⟩ else
  if o = 6 then ⟨o, x1, (x1 + 1), (x3 == 1), false, false, 0, 0, 0, x2, 0, 0, 0⟩ else
  if o = 7 then ⟨o, x2, (x2 + 1), false, false, false, 0, 0, 0, x1, 0, 0, 0⟩ else
  if o = 8 ∨ o = 9 ∨ o = 12 then ⟨o, 0, 0, false, false, false, 0, 0, 0, x1, 0, 0, 0⟩ else
  if o = 10 then ⟨o, 0, 0, false, false, false, x1, 0, 0, 0, 0, 0, 0⟩ else
  if o = 11 ∨ o = 13 ∨ o = 14 then ⟨o, 0, 0, false, false, false, 0, 0, 0, 0, 0, 0, 0⟩ else
  if o = 15 then ⟨o, 0, 0, false, false, false, 0, 0, 0, (1 + x1), x2, x3, x4⟩ else
  if o = 16 then ⟨o, 0, 0, false, false, false, 0, 0, x2, x1, 0, 0, 0⟩ else
  CV.zero
def readF (o x1 x2 x3 x4 x5 : Int) : Option CV := if goodF o x1 x2 x3 x4 x5 then some (valF o x1 x2 x3 x4 x5) else none
theorem tail_1 (o x1 x2 x3 x4 x5 : Int) : Tail [o, x1, x2, x3, x4, x5] 1 ↔ x1 = 0 ∧ x2 = 0 ∧ x3 = 0 ∧ x4 = 0 ∧ x5 = 0 := by
  constructor
  · intro h; exact ⟨by simpa using h 1 (by omega) (by omega), by simpa using h 2 (by omega) (by omega), by simpa using h 3 (by omega) (by omega), by simpa using h 4 (by omega) (by omega), by simpa using h 5 (by omega) (by omega)⟩
  · intro h k h1 h2
    have : k = 1 ∨ k = 2 ∨ k = 3 ∨ k = 4 ∨ k = 5 := by omega
    rcases this with rfl | rfl | rfl | rfl | rfl <;> simp [h]
theorem tail_2 (o x1 x2 x3 x4 x5 : Int) : Tail [o, x1, x2, x3, x4, x5] 2 ↔ x2 = 0 ∧ x3 = 0 ∧ x4 = 0 ∧ x5 = 0 := by
  constructor
  · intro h; exact ⟨by simpa using h 2 (by omega) (by omega), by simpa using h 3 (by omega) (by omega), by simpa using h 4 (by omega) (by omega), by simpa using h 5 (by omega) (by omega)⟩
  · intro h k h1 h2
    have : k = 2 ∨ k = 3 ∨ k = 4 ∨ k = 5 := by omega
    rcases this with rfl | rfl | rfl | rfl <;> simp [h]
theorem tail_3 (o x1 x2 x3 x4 x5 : Int) : Tail [o, x1, x2, x3, x4, x5] 3 ↔ x3 = 0 ∧ x4 = 0 ∧ x5 = 0 := by
  constructor
  · intro h; exact ⟨by simpa using h 3 (by omega) (by omega), by simpa using h 4 (by omega) (by omega), by simpa using h 5 (by omega) (by omega)⟩
  · intro h k h1 h2
    have : k = 3 ∨ k = 4 ∨ k = 5 := by omega
    rcases this with rfl | rfl | rfl <;> simp [h]
theorem tail_4 (o x1 x2 x3 x4 x5 : Int) : Tail [o, x1, x2, x3, x4, x5] 4 ↔ x4 = 0 ∧ x5 = 0 := by
  constructor
  · intro h; exact ⟨by simpa using h 4 (by omega) (by omega), by simpa using h 5 (by omega) (by omega)⟩
  · intro h k h1 h2
    have : k = 4 ∨ k = 5 := by omega
    rcases this with rfl | rfl <;> simp [h]
theorem tail_5 (o x1 x2 x3 x4 x5 : Int) : Tail [o, x1, x2, x3, x4, x5] 5 ↔ x5 = 0 := by
  constructor
  · intro h; exact (by simpa using h 5 (by omega) (by omega))
  · intro h k h1 h2
    have : k = 5 := by omega
    rcases this with rfl <;> simp [h]
theorem goodF_1 (x1 x2 x3 x4 x5 : Int) : goodF 1 x1 x2 x3 x4 x5 ↔ 1 ≤ x2 ∧ x2 ≤ 65536 ∧ x1 + x2 ≤ 34359738368 ∧ x3 ≤ 3 ∧ x4 = 0 ∧ x5 = 0 := by simp [goodF, goodF0, goodF1, goodF2, goodF3]
theorem valF_1 (x1 x2 x3 x4 x5 : Int) : valF 1 x1 x2 x3 x4 x5 = ⟨1, x1, (x1 + x2), (x3 % 2 == 1), true, (x3 / 2 == 1), 0, 0, 0, 0, 0, 0, 0⟩ := by simp [valF]
theorem goodF_2 (x1 x2 x3 x4 x5 : Int) : goodF 2 x1 x2 x3 x4 x5 ↔ 1 ≤ x2 ∧ x2 ≤ 65536 ∧ x1 + x2 ≤ 34359738368 ∧ x3 = 0 ∧ x4 = 0 ∧ x5 = 0 := by simp [goodF, goodF0, goodF1, goodF2, goodF3]
theorem valF_2 (x1 x2 x3 x4 x5 : Int) : valF 2 x1 x2 x3 x4 x5 = ⟨2, x1, (x1 + x2), false, false, false, 0, 0, 0, 0, 0, 0, 0⟩ := by simp [valF]
theorem goodF_3 (x1 x2 x3 x4 x5 : Int) : goodF 3 x1 x2 x3 x4 x5 ↔ 1 ≤ x2 ∧ x2 ≤ 65536 ∧ x1 + x2 ≤ 34359738368 ∧ x3 ≤ 3 ∧ x4 = 0 ∧ x5 = 0 := by simp [goodF, goodF0, goodF1, goodF2, goodF3]
theorem valF_3 (x1 x2 x3 x4 x5 : Int) : valF 3 x1 x2 x3 x4 x5 = ⟨3, x1, (x1 + x2), (x3 % 2 == 1), true, (x3 / 2 == 1), 0, 0, 0, 0, 0, 0, 0⟩ := by simp [valF]
theorem goodF_4 (x1 x2 x3 x4 x5 : Int) : goodF 4 x1 x2 x3 x4 x5 ↔ x1 < 140737488355328 ∧ (x2 = 1 ∨ x2 = 2 ∨ x2 = 4 ∨ x2 = 8) ∧ x1 % x2 = 0 ∧ x3 = 0 ∧ x4 = 0 ∧ x5 = 0 := by simp [goodF, goodF0, goodF1, goodF2, goodF3]
theorem valF_4 (x1 x2 x3 x4 x5 : Int) : valF 4 x1 x2 x3 x4 x5 = ⟨4, 0, 0, false, false, false, x1, x2, 0, 0, 0, 0, 0⟩ := by simp [valF]
theorem goodF_5 (x1 x2 x3 x4 x5 : Int) : goodF 5 x1 x2 x3 x4 x5 ↔ x1 < 140737488355328 ∧ (((x2 = 1 ∧ x3 < 256) ∨ (x2 = 2 ∧ x3 < 65536) ∨ (x2 = 4 ∧ x3 < 4294967296) ∨ x2 = 8)) ∧ x1 % x2 = 0 ∧ x4 = 0 ∧ x5 = 0 := by simp [goodF, goodF0, goodF1, goodF2, goodF3]
theorem valF_5 (x1 x2 x3 x4 x5 : Int) : valF 5 x1 x2 x3 x4 x5 = ⟨5, 0, 0, false, false, false, x1, x2, x3, 0, 0, 0, 0⟩ := by simp [valF]
theorem goodF_6 (x1 x2 x3 x4 x5 : Int) : goodF 6 x1 x2 x3 x4 x5 ↔ x1 < 34359738368 ∧ x2 < 16 ∧ x3 ≤ 1 ∧ x4 = 0 ∧ x5 = 0 := by simp [goodF, goodF0, goodF1, goodF2, goodF3]
theorem valF_6 (x1 x2 x3 x4 x5 : Int) : valF 6 x1 x2 x3 x4 x5 = ⟨6, x1, (x1 + 1), (x3 == 1), false, false, 0, 0, 0, x2, 0, 0, 0⟩ := by simp [valF]
theorem goodF_7 (x1 x2 x3 x4 x5 : Int) : goodF 7 x1 x2 x3 x4 x5 ↔ x1 < 256 ∧ x2 < 34359738368 ∧ x3 = 0 ∧ x4 = 0 ∧ x5 = 0 := by simp [goodF, goodF0, goodF1, goodF2, goodF3]
theorem valF_7 (x1 x2 x3 x4 x5 : Int) : valF 7 x1 x2 x3 x4 x5 = ⟨7, x2, (x2 + 1), false, false, false, 0, 0, 0, x1, 0, 0, 0⟩ := by simp [valF]
theorem goodF_8 (x1 x2 x3 x4 x5 : Int) : goodF 8 x1 x2 x3 x4 x5 ↔ x1 < 256 ∧ x2 = 0 ∧ x3 = 0 ∧ x4 = 0 ∧ x5 = 0 := by simp [goodF, goodF0, goodF1, goodF2, goodF3]
theorem valF_8 (x1 x2 x3 x4 x5 : Int) : valF 8 x1 x2 x3 x4 x5 = ⟨8, 0, 0, false, false, false, 0, 0, 0, x1, 0, 0, 0⟩ := by simp [valF]
theorem goodF_9 (x1 x2 x3 x4 x5 : Int) : goodF 9 x1 x2 x3 x4 x5 ↔ x1 < 256 ∧ x2 = 0 ∧ x3 = 0 ∧ x4 = 0 ∧ x5 = 0 := by simp [goodF, goodF0, goodF1, goodF2, goodF3]
theorem valF_9 (x1 x2 x3 x4 x5 : Int) : valF 9 x1 x2 x3 x4 x5 = ⟨9, 0, 0, false, false, false, 0, 0, 0, x1, 0, 0, 0⟩ := by simp [valF]
theorem goodF_10 (x1 x2 x3 x4 x5 : Int) : goodF 10 x1 x2 x3 x4 x5 ↔ x1 ≤ 140737488355327 ∧ x2 = 0 ∧ x3 = 0 ∧ x4 = 0 ∧ x5 = 0 := by simp [goodF, goodF0, goodF1, goodF2, goodF3]
theorem valF_10 (x1 x2 x3 x4 x5 : Int) : valF 10 x1 x2 x3 x4 x5 = ⟨10, 0, 0, false, false, false, x1, 0, 0, 0, 0, 0, 0⟩ := by simp [valF]
theorem goodF_11 (x1 x2 x3 x4 x5 : Int) : goodF 11 x1 x2 x3 x4 x5 ↔ x1 = 0 ∧ x2 = 0 ∧ x3 = 0 ∧ x4 = 0 ∧ x5 = 0 := by simp [goodF, goodF0, goodF1, goodF2, goodF3]
theorem valF_11 (x1 x2 x3 x4 x5 : Int) : valF 11 x1 x2 x3 x4 x5 = ⟨11, 0, 0, false, false, false, 0, 0, 0, 0, 0, 0, 0⟩ := by simp [valF]
theorem goodF_12 (x1 x2 x3 x4 x5 : Int) : goodF 12 x1 x2 x3 x4 x5 ↔ x1 < 1048577 ∧ x2 = 0 ∧ x3 = 0 ∧ x4 = 0 ∧ x5 = 0 := by simp [goodF, goodF0, goodF1, goodF2, goodF3]
theorem valF_12 (x1 x2 x3 x4 x5 : Int) : valF 12 x1 x2 x3 x4 x5 = ⟨12, 0, 0, false, false, false, 0, 0, 0, x1, 0, 0, 0⟩ := by simp [valF]
theorem goodF_13 (x1 x2 x3 x4 x5 : Int) : goodF 13 x1 x2 x3 x4 x5 ↔ x1 = 0 ∧ x2 = 0 ∧ x3 = 0 ∧ x4 = 0 ∧ x5 = 0 := by simp [goodF, goodF0, goodF1, goodF2, goodF3]
theorem valF_13 (x1 x2 x3 x4 x5 : Int) : valF 13 x1 x2 x3 x4 x5 = ⟨13, 0, 0, false, false, false, 0, 0, 0, 0, 0, 0, 0⟩ := by simp [valF]
theorem goodF_14 (x1 x2 x3 x4 x5 : Int) : goodF 14 x1 x2 x3 x4 x5 ↔ x1 = 0 ∧ x2 = 0 ∧ x3 = 0 ∧ x4 = 0 ∧ x5 = 0 := by simp [goodF, goodF0, goodF1, goodF2, goodF3]
theorem valF_14 (x1 x2 x3 x4 x5 : Int) : valF 14 x1 x2 x3 x4 x5 = ⟨14, 0, 0, false, false, false, 0, 0, 0, 0, 0, 0, 0⟩ := by simp [valF]
theorem goodF_15 (x1 x2 x3 x4 x5 : Int) : goodF 15 x1 x2 x3 x4 x5 ↔ x1 < 8 ∧ x2 < 4 ∧ x3 < 4 ∧ x4 < 4 ∧ x5 = 0 := by simp [goodF, goodF0, goodF1, goodF2, goodF3]
theorem valF_15 (x1 x2 x3 x4 x5 : Int) : valF 15 x1 x2 x3 x4 x5 = ⟨15, 0, 0, false, false, false, 0, 0, 0, (1 + x1), x2, x3, x4⟩ := by simp [valF]
theorem goodF_16 (x1 x2 x3 x4 x5 : Int) : goodF 16 x1 x2 x3 x4 x5 ↔ x1 < 4 ∧ x3 = 0 ∧ x4 = 0 ∧ x5 = 0 := by simp [goodF, goodF0, goodF1, goodF2, goodF3]
theorem valF_16 (x1 x2 x3 x4 x5 : Int) : valF 16 x1 x2 x3 x4 x5 = ⟨16, 0, 0, false, false, false, 0, 0, x2, x1, 0, 0, 0⟩ := by simp [valF]
def RO (r : Option CV) (e : Ending) : Prop := match r with
  | some c => e = .returned c.val
  | none => e = .panicked badP
section
variable {w : World} {r ab : Nat} {x1 x2 x3 x4 x5 : Int}
theorem read_1 (h : RAt w r ab [1, x1, x2, x3, x4, x5] 0) (hpos : Hid (∀ x ∈ [1, x1, x2, x3, x4, x5], 0 ≤ x)) (h1 : 0 ≤ x1) (h2 : 0 ≤ x2) (h3 : 0 ≤ x3) (h4 : 0 ≤ x4) (h5 : 0 ≤ x5) (u1 : x1 < 18446744073709551616) (u2 : x2 < 18446744073709551616) (u3 : x3 < 18446744073709551616) (u4 : x4 < 18446744073709551616) (u5 : x5 < 18446744073709551616) :
    Calls Try.prog 13 #[.pointer (some ⟨r, 0, none⟩)] w fun e w' => RO (readF 1 x1 x2 x3 x4 x5) e ∧ Touch (fun b => b = r) w w' := by
  by_cases d0a : (34359738368 ≤ x1)
  · exact (read_1_bad0a h hpos h1 h2 h3 h4 h5 u1 u2 u3 u4 u5 d0a).mono (fun e w' ⟨he, ht⟩ => ⟨by rw [readF, if_neg (by rw [goodF_1]; omega)]; exact he, ht⟩)
  by_cases d0b : (x1 < 34359738368) ∧ (65536 < x2)
  · exact (read_1_bad0b h hpos h1 h2 h3 h4 h5 u1 u2 u3 u4 u5 d0b.1 d0b.2).mono (fun e w' ⟨he, ht⟩ => ⟨by rw [readF, if_neg (by rw [goodF_1]; omega)]; exact he, ht⟩)
  by_cases d0c : (x1 < 34359738368) ∧ (x2 ≤ 65536) ∧ (x2 < 1 ∨ 34359738368 < x1 + x2)
  · exact (read_1_bad0c h hpos h1 h2 h3 h4 h5 u1 u2 u3 u4 u5 d0c.1 d0c.2.1 d0c.2.2).mono (fun e w' ⟨he, ht⟩ => ⟨by rw [readF, if_neg (by rw [goodF_1]; omega)]; exact he, ht⟩)
  by_cases d1a : (3 < x3)
  · exact (read_1_bad1a h hpos h1 h2 h3 h4 h5 u1 u2 u3 u4 u5 (by omega) (by omega) (by omega) d1a).mono (fun e w' ⟨he, ht⟩ => ⟨by rw [readF, if_neg (by rw [goodF_1]; omega)]; exact he, ht⟩)
  exact (read_1_ok h hpos h1 h2 h3 h4 h5 u1 u2 u3 u4 u5 (by omega) (by omega) (by omega) (by omega)).mono (fun e w' ⟨he, ht⟩ => ⟨by rcases he with ⟨a, b⟩ | ⟨a, b⟩; (rw [tail_4] at a; rw [readF, if_pos (by rw [goodF_1]; omega), valF_1]; exact b); (rw [tail_4] at a; rw [readF, if_neg (by rw [goodF_1]; omega)]; exact b), ht⟩)
theorem read_2 (h : RAt w r ab [2, x1, x2, x3, x4, x5] 0) (hpos : Hid (∀ x ∈ [2, x1, x2, x3, x4, x5], 0 ≤ x)) (h1 : 0 ≤ x1) (h2 : 0 ≤ x2) (h3 : 0 ≤ x3) (h4 : 0 ≤ x4) (h5 : 0 ≤ x5) (u1 : x1 < 18446744073709551616) (u2 : x2 < 18446744073709551616) (u3 : x3 < 18446744073709551616) (u4 : x4 < 18446744073709551616) (u5 : x5 < 18446744073709551616) :
    Calls Try.prog 13 #[.pointer (some ⟨r, 0, none⟩)] w fun e w' => RO (readF 2 x1 x2 x3 x4 x5) e ∧ Touch (fun b => b = r) w w' := by
  by_cases d0a : (34359738368 ≤ x1)
  · exact (read_2_bad0a h hpos h1 h2 h3 h4 h5 u1 u2 u3 u4 u5 d0a).mono (fun e w' ⟨he, ht⟩ => ⟨by rw [readF, if_neg (by rw [goodF_2]; omega)]; exact he, ht⟩)
  by_cases d0b : (x1 < 34359738368) ∧ (65536 < x2)
  · exact (read_2_bad0b h hpos h1 h2 h3 h4 h5 u1 u2 u3 u4 u5 d0b.1 d0b.2).mono (fun e w' ⟨he, ht⟩ => ⟨by rw [readF, if_neg (by rw [goodF_2]; omega)]; exact he, ht⟩)
  by_cases d0c : (x1 < 34359738368) ∧ (x2 ≤ 65536) ∧ (x2 < 1 ∨ 34359738368 < x1 + x2)
  · exact (read_2_bad0c h hpos h1 h2 h3 h4 h5 u1 u2 u3 u4 u5 d0c.1 d0c.2.1 d0c.2.2).mono (fun e w' ⟨he, ht⟩ => ⟨by rw [readF, if_neg (by rw [goodF_2]; omega)]; exact he, ht⟩)
  exact (read_2_ok h hpos h1 h2 h3 h4 h5 u1 u2 u3 u4 u5 (by omega) (by omega) (by omega)).mono (fun e w' ⟨he, ht⟩ => ⟨by rcases he with ⟨a, b⟩ | ⟨a, b⟩; (rw [tail_3] at a; rw [readF, if_pos (by rw [goodF_2]; omega), valF_2]; exact b); (rw [tail_3] at a; rw [readF, if_neg (by rw [goodF_2]; omega)]; exact b), ht⟩)
theorem read_3 (h : RAt w r ab [3, x1, x2, x3, x4, x5] 0) (hpos : Hid (∀ x ∈ [3, x1, x2, x3, x4, x5], 0 ≤ x)) (h1 : 0 ≤ x1) (h2 : 0 ≤ x2) (h3 : 0 ≤ x3) (h4 : 0 ≤ x4) (h5 : 0 ≤ x5) (u1 : x1 < 18446744073709551616) (u2 : x2 < 18446744073709551616) (u3 : x3 < 18446744073709551616) (u4 : x4 < 18446744073709551616) (u5 : x5 < 18446744073709551616) :
    Calls Try.prog 13 #[.pointer (some ⟨r, 0, none⟩)] w fun e w' => RO (readF 3 x1 x2 x3 x4 x5) e ∧ Touch (fun b => b = r) w w' := by
  by_cases d0a : (34359738368 ≤ x1)
  · exact (read_3_bad0a h hpos h1 h2 h3 h4 h5 u1 u2 u3 u4 u5 d0a).mono (fun e w' ⟨he, ht⟩ => ⟨by rw [readF, if_neg (by rw [goodF_3]; omega)]; exact he, ht⟩)
  by_cases d0b : (x1 < 34359738368) ∧ (65536 < x2)
  · exact (read_3_bad0b h hpos h1 h2 h3 h4 h5 u1 u2 u3 u4 u5 d0b.1 d0b.2).mono (fun e w' ⟨he, ht⟩ => ⟨by rw [readF, if_neg (by rw [goodF_3]; omega)]; exact he, ht⟩)
  by_cases d0c : (x1 < 34359738368) ∧ (x2 ≤ 65536) ∧ (x2 < 1 ∨ 34359738368 < x1 + x2)
  · exact (read_3_bad0c h hpos h1 h2 h3 h4 h5 u1 u2 u3 u4 u5 d0c.1 d0c.2.1 d0c.2.2).mono (fun e w' ⟨he, ht⟩ => ⟨by rw [readF, if_neg (by rw [goodF_3]; omega)]; exact he, ht⟩)
  by_cases d1a : (3 < x3)
  · exact (read_3_bad1a h hpos h1 h2 h3 h4 h5 u1 u2 u3 u4 u5 (by omega) (by omega) (by omega) d1a).mono (fun e w' ⟨he, ht⟩ => ⟨by rw [readF, if_neg (by rw [goodF_3]; omega)]; exact he, ht⟩)
  exact (read_3_ok h hpos h1 h2 h3 h4 h5 u1 u2 u3 u4 u5 (by omega) (by omega) (by omega) (by omega)).mono (fun e w' ⟨he, ht⟩ => ⟨by rcases he with ⟨a, b⟩ | ⟨a, b⟩; (rw [tail_4] at a; rw [readF, if_pos (by rw [goodF_3]; omega), valF_3]; exact b); (rw [tail_4] at a; rw [readF, if_neg (by rw [goodF_3]; omega)]; exact b), ht⟩)
theorem read_4 (h : RAt w r ab [4, x1, x2, x3, x4, x5] 0) (hpos : Hid (∀ x ∈ [4, x1, x2, x3, x4, x5], 0 ≤ x)) (h1 : 0 ≤ x1) (h2 : 0 ≤ x2) (h3 : 0 ≤ x3) (h4 : 0 ≤ x4) (h5 : 0 ≤ x5) (u1 : x1 < 18446744073709551616) (u2 : x2 < 18446744073709551616) (u3 : x3 < 18446744073709551616) (u4 : x4 < 18446744073709551616) (u5 : x5 < 18446744073709551616) :
    Calls Try.prog 13 #[.pointer (some ⟨r, 0, none⟩)] w fun e w' => RO (readF 4 x1 x2 x3 x4 x5) e ∧ Touch (fun b => b = r) w w' := by
  by_cases d0a : (140737488355328 ≤ x1)
  · exact (read_4_bad0a h hpos h1 h2 h3 h4 h5 u1 u2 u3 u4 u5 d0a).mono (fun e w' ⟨he, ht⟩ => ⟨by rw [readF, if_neg (by rw [goodF_4]; omega)]; exact he, ht⟩)
  by_cases d0b : (x1 < 140737488355328) ∧ (8 < x2)
  · exact (read_4_bad0b h hpos h1 h2 h3 h4 h5 u1 u2 u3 u4 u5 d0b.1 d0b.2).mono (fun e w' ⟨he, ht⟩ => ⟨by rw [readF, if_neg (by rw [goodF_4]; omega)]; exact he, ht⟩)
  by_cases d0c : (x1 < 140737488355328) ∧ (x2 = 0 ∨ x2 = 3 ∨ x2 = 5 ∨ x2 = 6 ∨ x2 = 7)
  · exact (read_4_bad0c h hpos h1 h2 h3 h4 h5 u1 u2 u3 u4 u5 d0c.1 d0c.2).mono (fun e w' ⟨he, ht⟩ => ⟨by rw [readF, if_neg (by rw [goodF_4]; omega)]; exact he, ht⟩)
  by_cases d0d : (x1 < 140737488355328) ∧ (x2 = 1 ∨ x2 = 2 ∨ x2 = 4 ∨ x2 = 8) ∧ (x1 % x2 ≠ 0)
  · exact (read_4_bad0d h hpos h1 h2 h3 h4 h5 u1 u2 u3 u4 u5 d0d.1 d0d.2.1 d0d.2.2).mono (fun e w' ⟨he, ht⟩ => ⟨by rw [readF, if_neg (by rw [goodF_4]; omega)]; exact he, ht⟩)
  exact (read_4_ok h hpos h1 h2 h3 h4 h5 u1 u2 u3 u4 u5 (by omega) (by omega) (by omega)).mono (fun e w' ⟨he, ht⟩ => ⟨by rcases he with ⟨a, b⟩ | ⟨a, b⟩; (rw [tail_3] at a; rw [readF, if_pos (by rw [goodF_4]; omega), valF_4]; exact b); (rw [tail_3] at a; rw [readF, if_neg (by rw [goodF_4]; omega)]; exact b), ht⟩)
theorem read_5 (h : RAt w r ab [5, x1, x2, x3, x4, x5] 0) (hpos : Hid (∀ x ∈ [5, x1, x2, x3, x4, x5], 0 ≤ x)) (h1 : 0 ≤ x1) (h2 : 0 ≤ x2) (h3 : 0 ≤ x3) (h4 : 0 ≤ x4) (h5 : 0 ≤ x5) (u1 : x1 < 18446744073709551616) (u2 : x2 < 18446744073709551616) (u3 : x3 < 18446744073709551616) (u4 : x4 < 18446744073709551616) (u5 : x5 < 18446744073709551616) :
    Calls Try.prog 13 #[.pointer (some ⟨r, 0, none⟩)] w fun e w' => RO (readF 5 x1 x2 x3 x4 x5) e ∧ Touch (fun b => b = r) w w' := by
  by_cases d0a : (140737488355328 ≤ x1)
  · exact (read_5_bad0a h hpos h1 h2 h3 h4 h5 u1 u2 u3 u4 u5 d0a).mono (fun e w' ⟨he, ht⟩ => ⟨by rw [readF, if_neg (by rw [goodF_5]; omega)]; exact he, ht⟩)
  by_cases d0b : (x1 < 140737488355328) ∧ (8 < x2)
  · exact (read_5_bad0b h hpos h1 h2 h3 h4 h5 u1 u2 u3 u4 u5 d0b.1 d0b.2).mono (fun e w' ⟨he, ht⟩ => ⟨by rw [readF, if_neg (by rw [goodF_5]; omega)]; exact he, ht⟩)
  by_cases d0c : (x1 < 140737488355328) ∧ (x2 = 0 ∨ x2 = 3 ∨ x2 = 5 ∨ x2 = 6 ∨ x2 = 7)
  · exact (read_5_bad0c h hpos h1 h2 h3 h4 h5 u1 u2 u3 u4 u5 d0c.1 d0c.2).mono (fun e w' ⟨he, ht⟩ => ⟨by rw [readF, if_neg (by rw [goodF_5]; omega)]; exact he, ht⟩)
  by_cases d0d : (x1 < 140737488355328) ∧ (x2 = 1 ∨ x2 = 2 ∨ x2 = 4 ∨ x2 = 8) ∧ (x1 % x2 ≠ 0)
  · exact (read_5_bad0d h hpos h1 h2 h3 h4 h5 u1 u2 u3 u4 u5 d0d.1 d0d.2.1 d0d.2.2).mono (fun e w' ⟨he, ht⟩ => ⟨by rw [readF, if_neg (by rw [goodF_5]; omega)]; exact he, ht⟩)
  have hd : x2 = 1 ∨ x2 = 2 ∨ x2 = 4 ∨ x2 = 8 := by omega
  rcases hd with rfl | rfl | rfl | rfl
  · by_cases hx : x3 < 256
    · exact (read_5_ok1 h hpos h1 h2 h3 h4 h5 u1 u2 u3 u4 u5 (by omega) (by omega) (by omega) hx).mono (fun e w' ⟨he, ht⟩ => ⟨by rcases he with ⟨a, b⟩ | ⟨a, b⟩; (rw [tail_4] at a; rw [readF, if_pos (by rw [goodF_5]; omega), valF_5]; exact b); (rw [tail_4] at a; rw [readF, if_neg (by rw [goodF_5]; omega)]; exact b), ht⟩)
    · exact (read_5_bad11 h hpos h1 h2 h3 h4 h5 u1 u2 u3 u4 u5 (by omega) (by omega) (by omega) (by omega)).mono (fun e w' ⟨he, ht⟩ => ⟨by rw [readF, if_neg (by rw [goodF_5]; omega)]; exact he, ht⟩)
  · by_cases hx : x3 < 65536
    · exact (read_5_ok2 h hpos h1 h2 h3 h4 h5 u1 u2 u3 u4 u5 (by omega) (by omega) (by omega) hx).mono (fun e w' ⟨he, ht⟩ => ⟨by rcases he with ⟨a, b⟩ | ⟨a, b⟩; (rw [tail_4] at a; rw [readF, if_pos (by rw [goodF_5]; omega), valF_5]; exact b); (rw [tail_4] at a; rw [readF, if_neg (by rw [goodF_5]; omega)]; exact b), ht⟩)
    · exact (read_5_bad12 h hpos h1 h2 h3 h4 h5 u1 u2 u3 u4 u5 (by omega) (by omega) (by omega) (by omega)).mono (fun e w' ⟨he, ht⟩ => ⟨by rw [readF, if_neg (by rw [goodF_5]; omega)]; exact he, ht⟩)
  · by_cases hx : x3 < 4294967296
    · exact (read_5_ok4 h hpos h1 h2 h3 h4 h5 u1 u2 u3 u4 u5 (by omega) (by omega) (by omega) hx).mono (fun e w' ⟨he, ht⟩ => ⟨by rcases he with ⟨a, b⟩ | ⟨a, b⟩; (rw [tail_4] at a; rw [readF, if_pos (by rw [goodF_5]; omega), valF_5]; exact b); (rw [tail_4] at a; rw [readF, if_neg (by rw [goodF_5]; omega)]; exact b), ht⟩)
    · exact (read_5_bad14 h hpos h1 h2 h3 h4 h5 u1 u2 u3 u4 u5 (by omega) (by omega) (by omega) (by omega)).mono (fun e w' ⟨he, ht⟩ => ⟨by rw [readF, if_neg (by rw [goodF_5]; omega)]; exact he, ht⟩)
  · exact (read_5_ok8 h hpos h1 h2 h3 h4 h5 u1 u2 u3 u4 u5 (by omega) (by omega) (by omega)).mono (fun e w' ⟨he, ht⟩ => ⟨by rcases he with ⟨a, b⟩ | ⟨a, b⟩; (rw [tail_4] at a; rw [readF, if_pos (by rw [goodF_5]; omega), valF_5]; exact b); (rw [tail_4] at a; rw [readF, if_neg (by rw [goodF_5]; omega)]; exact b), ht⟩)
theorem read_6 (h : RAt w r ab [6, x1, x2, x3, x4, x5] 0) (hpos : Hid (∀ x ∈ [6, x1, x2, x3, x4, x5], 0 ≤ x)) (h1 : 0 ≤ x1) (h2 : 0 ≤ x2) (h3 : 0 ≤ x3) (h4 : 0 ≤ x4) (h5 : 0 ≤ x5) (u1 : x1 < 18446744073709551616) (u2 : x2 < 18446744073709551616) (u3 : x3 < 18446744073709551616) (u4 : x4 < 18446744073709551616) (u5 : x5 < 18446744073709551616) :
    Calls Try.prog 13 #[.pointer (some ⟨r, 0, none⟩)] w fun e w' => RO (readF 6 x1 x2 x3 x4 x5) e ∧ Touch (fun b => b = r) w w' := by
  by_cases d0a : (34359738368 ≤ x1)
  · exact (read_6_bad0a h hpos h1 h2 h3 h4 h5 u1 u2 u3 u4 u5 d0a).mono (fun e w' ⟨he, ht⟩ => ⟨by rw [readF, if_neg (by rw [goodF_6]; omega)]; exact he, ht⟩)
  by_cases d1a : (16 ≤ x2)
  · exact (read_6_bad1a h hpos h1 h2 h3 h4 h5 u1 u2 u3 u4 u5 (by omega) d1a).mono (fun e w' ⟨he, ht⟩ => ⟨by rw [readF, if_neg (by rw [goodF_6]; omega)]; exact he, ht⟩)
  by_cases d2a : (1 < x3)
  · exact (read_6_bad2a h hpos h1 h2 h3 h4 h5 u1 u2 u3 u4 u5 (by omega) (by omega) d2a).mono (fun e w' ⟨he, ht⟩ => ⟨by rw [readF, if_neg (by rw [goodF_6]; omega)]; exact he, ht⟩)
  exact (read_6_ok h hpos h1 h2 h3 h4 h5 u1 u2 u3 u4 u5 (by omega) (by omega) (by omega)).mono (fun e w' ⟨he, ht⟩ => ⟨by rcases he with ⟨a, b⟩ | ⟨a, b⟩; (rw [tail_4] at a; rw [readF, if_pos (by rw [goodF_6]; omega), valF_6]; exact b); (rw [tail_4] at a; rw [readF, if_neg (by rw [goodF_6]; omega)]; exact b), ht⟩)
theorem read_7 (h : RAt w r ab [7, x1, x2, x3, x4, x5] 0) (hpos : Hid (∀ x ∈ [7, x1, x2, x3, x4, x5], 0 ≤ x)) (h1 : 0 ≤ x1) (h2 : 0 ≤ x2) (h3 : 0 ≤ x3) (h4 : 0 ≤ x4) (h5 : 0 ≤ x5) (u1 : x1 < 18446744073709551616) (u2 : x2 < 18446744073709551616) (u3 : x3 < 18446744073709551616) (u4 : x4 < 18446744073709551616) (u5 : x5 < 18446744073709551616) :
    Calls Try.prog 13 #[.pointer (some ⟨r, 0, none⟩)] w fun e w' => RO (readF 7 x1 x2 x3 x4 x5) e ∧ Touch (fun b => b = r) w w' := by
  by_cases d0a : (256 ≤ x1)
  · exact (read_7_bad0a h hpos h1 h2 h3 h4 h5 u1 u2 u3 u4 u5 d0a).mono (fun e w' ⟨he, ht⟩ => ⟨by rw [readF, if_neg (by rw [goodF_7]; omega)]; exact he, ht⟩)
  by_cases d1a : (34359738368 ≤ x2)
  · exact (read_7_bad1a h hpos h1 h2 h3 h4 h5 u1 u2 u3 u4 u5 (by omega) d1a).mono (fun e w' ⟨he, ht⟩ => ⟨by rw [readF, if_neg (by rw [goodF_7]; omega)]; exact he, ht⟩)
  exact (read_7_ok h hpos h1 h2 h3 h4 h5 u1 u2 u3 u4 u5 (by omega) (by omega)).mono (fun e w' ⟨he, ht⟩ => ⟨by rcases he with ⟨a, b⟩ | ⟨a, b⟩; (rw [tail_3] at a; rw [readF, if_pos (by rw [goodF_7]; omega), valF_7]; exact b); (rw [tail_3] at a; rw [readF, if_neg (by rw [goodF_7]; omega)]; exact b), ht⟩)
theorem read_8 (h : RAt w r ab [8, x1, x2, x3, x4, x5] 0) (hpos : Hid (∀ x ∈ [8, x1, x2, x3, x4, x5], 0 ≤ x)) (h1 : 0 ≤ x1) (h2 : 0 ≤ x2) (h3 : 0 ≤ x3) (h4 : 0 ≤ x4) (h5 : 0 ≤ x5) (u1 : x1 < 18446744073709551616) (u2 : x2 < 18446744073709551616) (u3 : x3 < 18446744073709551616) (u4 : x4 < 18446744073709551616) (u5 : x5 < 18446744073709551616) :
    Calls Try.prog 13 #[.pointer (some ⟨r, 0, none⟩)] w fun e w' => RO (readF 8 x1 x2 x3 x4 x5) e ∧ Touch (fun b => b = r) w w' := by
  by_cases d0a : (256 ≤ x1)
  · exact (read_8_bad0a h hpos h1 h2 h3 h4 h5 u1 u2 u3 u4 u5 d0a).mono (fun e w' ⟨he, ht⟩ => ⟨by rw [readF, if_neg (by rw [goodF_8]; omega)]; exact he, ht⟩)
  exact (read_8_ok h hpos h1 h2 h3 h4 h5 u1 u2 u3 u4 u5 (by omega)).mono (fun e w' ⟨he, ht⟩ => ⟨by rcases he with ⟨a, b⟩ | ⟨a, b⟩; (rw [tail_2] at a; rw [readF, if_pos (by rw [goodF_8]; omega), valF_8]; exact b); (rw [tail_2] at a; rw [readF, if_neg (by rw [goodF_8]; omega)]; exact b), ht⟩)
theorem read_9 (h : RAt w r ab [9, x1, x2, x3, x4, x5] 0) (hpos : Hid (∀ x ∈ [9, x1, x2, x3, x4, x5], 0 ≤ x)) (h1 : 0 ≤ x1) (h2 : 0 ≤ x2) (h3 : 0 ≤ x3) (h4 : 0 ≤ x4) (h5 : 0 ≤ x5) (u1 : x1 < 18446744073709551616) (u2 : x2 < 18446744073709551616) (u3 : x3 < 18446744073709551616) (u4 : x4 < 18446744073709551616) (u5 : x5 < 18446744073709551616) :
    Calls Try.prog 13 #[.pointer (some ⟨r, 0, none⟩)] w fun e w' => RO (readF 9 x1 x2 x3 x4 x5) e ∧ Touch (fun b => b = r) w w' := by
  by_cases d0a : (256 ≤ x1)
  · exact (read_9_bad0a h hpos h1 h2 h3 h4 h5 u1 u2 u3 u4 u5 d0a).mono (fun e w' ⟨he, ht⟩ => ⟨by rw [readF, if_neg (by rw [goodF_9]; omega)]; exact he, ht⟩)
  exact (read_9_ok h hpos h1 h2 h3 h4 h5 u1 u2 u3 u4 u5 (by omega)).mono (fun e w' ⟨he, ht⟩ => ⟨by rcases he with ⟨a, b⟩ | ⟨a, b⟩; (rw [tail_2] at a; rw [readF, if_pos (by rw [goodF_9]; omega), valF_9]; exact b); (rw [tail_2] at a; rw [readF, if_neg (by rw [goodF_9]; omega)]; exact b), ht⟩)
theorem read_10 (h : RAt w r ab [10, x1, x2, x3, x4, x5] 0) (hpos : Hid (∀ x ∈ [10, x1, x2, x3, x4, x5], 0 ≤ x)) (h1 : 0 ≤ x1) (h2 : 0 ≤ x2) (h3 : 0 ≤ x3) (h4 : 0 ≤ x4) (h5 : 0 ≤ x5) (u1 : x1 < 18446744073709551616) (u2 : x2 < 18446744073709551616) (u3 : x3 < 18446744073709551616) (u4 : x4 < 18446744073709551616) (u5 : x5 < 18446744073709551616) :
    Calls Try.prog 13 #[.pointer (some ⟨r, 0, none⟩)] w fun e w' => RO (readF 10 x1 x2 x3 x4 x5) e ∧ Touch (fun b => b = r) w w' := by
  by_cases d0a : (140737488355327 < x1)
  · exact (read_10_bad0a h hpos h1 h2 h3 h4 h5 u1 u2 u3 u4 u5 d0a).mono (fun e w' ⟨he, ht⟩ => ⟨by rw [readF, if_neg (by rw [goodF_10]; omega)]; exact he, ht⟩)
  exact (read_10_ok h hpos h1 h2 h3 h4 h5 u1 u2 u3 u4 u5 (by omega)).mono (fun e w' ⟨he, ht⟩ => ⟨by rcases he with ⟨a, b⟩ | ⟨a, b⟩; (rw [tail_2] at a; rw [readF, if_pos (by rw [goodF_10]; omega), valF_10]; exact b); (rw [tail_2] at a; rw [readF, if_neg (by rw [goodF_10]; omega)]; exact b), ht⟩)
theorem read_11 (h : RAt w r ab [11, x1, x2, x3, x4, x5] 0) (hpos : Hid (∀ x ∈ [11, x1, x2, x3, x4, x5], 0 ≤ x)) (h1 : 0 ≤ x1) (h2 : 0 ≤ x2) (h3 : 0 ≤ x3) (h4 : 0 ≤ x4) (h5 : 0 ≤ x5) (u1 : x1 < 18446744073709551616) (u2 : x2 < 18446744073709551616) (u3 : x3 < 18446744073709551616) (u4 : x4 < 18446744073709551616) (u5 : x5 < 18446744073709551616) :
    Calls Try.prog 13 #[.pointer (some ⟨r, 0, none⟩)] w fun e w' => RO (readF 11 x1 x2 x3 x4 x5) e ∧ Touch (fun b => b = r) w w' := by
  exact (read_11_ok h hpos h1 h2 h3 h4 h5 u1 u2 u3 u4 u5 ).mono (fun e w' ⟨he, ht⟩ => ⟨by rcases he with ⟨a, b⟩ | ⟨a, b⟩; (rw [tail_1] at a; rw [readF, if_pos (by rw [goodF_11]; omega), valF_11]; exact b); (rw [tail_1] at a; rw [readF, if_neg (by rw [goodF_11]; omega)]; exact b), ht⟩)
theorem read_12 (h : RAt w r ab [12, x1, x2, x3, x4, x5] 0) (hpos : Hid (∀ x ∈ [12, x1, x2, x3, x4, x5], 0 ≤ x)) (h1 : 0 ≤ x1) (h2 : 0 ≤ x2) (h3 : 0 ≤ x3) (h4 : 0 ≤ x4) (h5 : 0 ≤ x5) (u1 : x1 < 18446744073709551616) (u2 : x2 < 18446744073709551616) (u3 : x3 < 18446744073709551616) (u4 : x4 < 18446744073709551616) (u5 : x5 < 18446744073709551616) :
    Calls Try.prog 13 #[.pointer (some ⟨r, 0, none⟩)] w fun e w' => RO (readF 12 x1 x2 x3 x4 x5) e ∧ Touch (fun b => b = r) w w' := by
  by_cases d0a : (1048577 ≤ x1)
  · exact (read_12_bad0a h hpos h1 h2 h3 h4 h5 u1 u2 u3 u4 u5 d0a).mono (fun e w' ⟨he, ht⟩ => ⟨by rw [readF, if_neg (by rw [goodF_12]; omega)]; exact he, ht⟩)
  exact (read_12_ok h hpos h1 h2 h3 h4 h5 u1 u2 u3 u4 u5 (by omega)).mono (fun e w' ⟨he, ht⟩ => ⟨by rcases he with ⟨a, b⟩ | ⟨a, b⟩; (rw [tail_2] at a; rw [readF, if_pos (by rw [goodF_12]; omega), valF_12]; exact b); (rw [tail_2] at a; rw [readF, if_neg (by rw [goodF_12]; omega)]; exact b), ht⟩)
theorem read_13 (h : RAt w r ab [13, x1, x2, x3, x4, x5] 0) (hpos : Hid (∀ x ∈ [13, x1, x2, x3, x4, x5], 0 ≤ x)) (h1 : 0 ≤ x1) (h2 : 0 ≤ x2) (h3 : 0 ≤ x3) (h4 : 0 ≤ x4) (h5 : 0 ≤ x5) (u1 : x1 < 18446744073709551616) (u2 : x2 < 18446744073709551616) (u3 : x3 < 18446744073709551616) (u4 : x4 < 18446744073709551616) (u5 : x5 < 18446744073709551616) :
    Calls Try.prog 13 #[.pointer (some ⟨r, 0, none⟩)] w fun e w' => RO (readF 13 x1 x2 x3 x4 x5) e ∧ Touch (fun b => b = r) w w' := by
  exact (read_13_ok h hpos h1 h2 h3 h4 h5 u1 u2 u3 u4 u5 ).mono (fun e w' ⟨he, ht⟩ => ⟨by rcases he with ⟨a, b⟩ | ⟨a, b⟩; (rw [tail_1] at a; rw [readF, if_pos (by rw [goodF_13]; omega), valF_13]; exact b); (rw [tail_1] at a; rw [readF, if_neg (by rw [goodF_13]; omega)]; exact b), ht⟩)
theorem read_14 (h : RAt w r ab [14, x1, x2, x3, x4, x5] 0) (hpos : Hid (∀ x ∈ [14, x1, x2, x3, x4, x5], 0 ≤ x)) (h1 : 0 ≤ x1) (h2 : 0 ≤ x2) (h3 : 0 ≤ x3) (h4 : 0 ≤ x4) (h5 : 0 ≤ x5) (u1 : x1 < 18446744073709551616) (u2 : x2 < 18446744073709551616) (u3 : x3 < 18446744073709551616) (u4 : x4 < 18446744073709551616) (u5 : x5 < 18446744073709551616) :
    Calls Try.prog 13 #[.pointer (some ⟨r, 0, none⟩)] w fun e w' => RO (readF 14 x1 x2 x3 x4 x5) e ∧ Touch (fun b => b = r) w w' := by
  exact (read_14_ok h hpos h1 h2 h3 h4 h5 u1 u2 u3 u4 u5 ).mono (fun e w' ⟨he, ht⟩ => ⟨by rcases he with ⟨a, b⟩ | ⟨a, b⟩; (rw [tail_1] at a; rw [readF, if_pos (by rw [goodF_14]; omega), valF_14]; exact b); (rw [tail_1] at a; rw [readF, if_neg (by rw [goodF_14]; omega)]; exact b), ht⟩)
theorem read_15 (h : RAt w r ab [15, x1, x2, x3, x4, x5] 0) (hpos : Hid (∀ x ∈ [15, x1, x2, x3, x4, x5], 0 ≤ x)) (h1 : 0 ≤ x1) (h2 : 0 ≤ x2) (h3 : 0 ≤ x3) (h4 : 0 ≤ x4) (h5 : 0 ≤ x5) (u1 : x1 < 18446744073709551616) (u2 : x2 < 18446744073709551616) (u3 : x3 < 18446744073709551616) (u4 : x4 < 18446744073709551616) (u5 : x5 < 18446744073709551616) :
    Calls Try.prog 13 #[.pointer (some ⟨r, 0, none⟩)] w fun e w' => RO (readF 15 x1 x2 x3 x4 x5) e ∧ Touch (fun b => b = r) w w' := by
  by_cases d0a : (8 ≤ x1)
  · exact (read_15_bad0a h hpos h1 h2 h3 h4 h5 u1 u2 u3 u4 u5 d0a).mono (fun e w' ⟨he, ht⟩ => ⟨by rw [readF, if_neg (by rw [goodF_15]; omega)]; exact he, ht⟩)
  by_cases d1a : (4 ≤ x2)
  · exact (read_15_bad1a h hpos h1 h2 h3 h4 h5 u1 u2 u3 u4 u5 (by omega) d1a).mono (fun e w' ⟨he, ht⟩ => ⟨by rw [readF, if_neg (by rw [goodF_15]; omega)]; exact he, ht⟩)
  by_cases d2a : (4 ≤ x3)
  · exact (read_15_bad2a h hpos h1 h2 h3 h4 h5 u1 u2 u3 u4 u5 (by omega) (by omega) d2a).mono (fun e w' ⟨he, ht⟩ => ⟨by rw [readF, if_neg (by rw [goodF_15]; omega)]; exact he, ht⟩)
  by_cases d3a : (4 ≤ x4)
  · exact (read_15_bad3a h hpos h1 h2 h3 h4 h5 u1 u2 u3 u4 u5 (by omega) (by omega) (by omega) d3a).mono (fun e w' ⟨he, ht⟩ => ⟨by rw [readF, if_neg (by rw [goodF_15]; omega)]; exact he, ht⟩)
  exact (read_15_ok h hpos h1 h2 h3 h4 h5 u1 u2 u3 u4 u5 (by omega) (by omega) (by omega) (by omega)).mono (fun e w' ⟨he, ht⟩ => ⟨by rcases he with ⟨a, b⟩ | ⟨a, b⟩; (rw [tail_5] at a; rw [readF, if_pos (by rw [goodF_15]; omega), valF_15]; exact b); (rw [tail_5] at a; rw [readF, if_neg (by rw [goodF_15]; omega)]; exact b), ht⟩)
theorem read_16 (h : RAt w r ab [16, x1, x2, x3, x4, x5] 0) (hpos : Hid (∀ x ∈ [16, x1, x2, x3, x4, x5], 0 ≤ x)) (h1 : 0 ≤ x1) (h2 : 0 ≤ x2) (h3 : 0 ≤ x3) (h4 : 0 ≤ x4) (h5 : 0 ≤ x5) (u1 : x1 < 18446744073709551616) (u2 : x2 < 18446744073709551616) (u3 : x3 < 18446744073709551616) (u4 : x4 < 18446744073709551616) (u5 : x5 < 18446744073709551616) :
    Calls Try.prog 13 #[.pointer (some ⟨r, 0, none⟩)] w fun e w' => RO (readF 16 x1 x2 x3 x4 x5) e ∧ Touch (fun b => b = r) w w' := by
  by_cases d0a : (4 ≤ x1)
  · exact (read_16_bad0a h hpos h1 h2 h3 h4 h5 u1 u2 u3 u4 u5 d0a).mono (fun e w' ⟨he, ht⟩ => ⟨by rw [readF, if_neg (by rw [goodF_16]; omega)]; exact he, ht⟩)
  exact (read_16_ok h hpos h1 h2 h3 h4 h5 u1 u2 u3 u4 u5 (by omega)).mono (fun e w' ⟨he, ht⟩ => ⟨by rcases he with ⟨a, b⟩ | ⟨a, b⟩; (rw [tail_3] at a; rw [readF, if_pos (by rw [goodF_16]; omega), valF_16]; exact b); (rw [tail_3] at a; rw [readF, if_neg (by rw [goodF_16]; omega)]; exact b), ht⟩)
end
end Go.Proofs.Ytbbohjmkippigaa
