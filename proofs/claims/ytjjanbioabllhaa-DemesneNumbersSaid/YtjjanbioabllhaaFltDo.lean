/- Do of layer 2 at every operation. No condition. -/
import Derived.Test.YtjjanbioabllhaaFltC
import Derived.Lib.Hide
namespace Go.Proofs.Ytjjanbioabllhaa
open Go.ChangeShapes Go.WideShapes Go.ChangeAt Go.RowKit
set_option linter.unusedVariables false
set_option linter.unusedSimpArgs false
def dX (op x y : Int) : Int := if 1 ≤ op ∧ op ≤ 6 then outF (rawF op x.toNat y.toNat) else if op = 7 then negN x.toNat else if op = 8 then rg x.toNat else 0
def dF (op x y : Int) : Int := if 1 ≤ op ∧ op ≤ 6 then flagF op (fcls x.toNat) (fcls y.toNat) (clsO (rawF op x.toNat y.toNat)) (sigB x.toNat) (sigB y.toNat) else 0
def dE (op : Int) : Int := if 1 ≤ op ∧ op ≤ 8 then 0 else 1
theorem outF_lt {o : Option Nat} (h : ∀ r, o = some r → r < 18446744073709551616) : outF o < 18446744073709551616 := by
  unfold outF
  cases o with
  | none => decide
  | some r => show (if _ then _ else _) < _; split; decide; exact h r rfl
theorem rawF_lt {op : Int} {x y : Nat} (hx : x < 18446744073709551616) (hy : y < 18446744073709551616) (r : Nat) (h : rawF op x y = some r) : r < 18446744073709551616 := by
  unfold rawF at h
  split at h
  · exact Ieee.Format.add_lt _ h
  split at h
  · exact Ieee.Format.sub_lt _ h
  split at h
  · exact Ieee.Format.mul_lt _ h
  split at h
  · exact Ieee.Format.div_lt _ h
  split at h
  · cases h
  split at h
  · obtain rfl := Option.some.inj h; exact lessF_lt x y hx hy
  · obtain rfl := Option.some.inj h; exact negN_lt _
theorem dX_bd (op x y : Int) (hx0 : 0 ≤ x) (hx : x < 18446744073709551616) (hy0 : 0 ≤ y) (hy : y < 18446744073709551616) : 0 ≤ dX op x y ∧ dX op x y < 18446744073709551616 := by
  unfold dX
  split
  · exact ⟨Int.natCast_nonneg _, by have := outF_lt (rawF_lt (op := op) (x := x.toNat) (y := y.toNat) (by omega) (by omega)); omega⟩
  split
  · exact ⟨Int.natCast_nonneg _, by have := negN_lt x.toNat; omega⟩
  split
  · exact ⟨Int.natCast_nonneg _, by have := rg_lt x.toNat; omega⟩
  · omega
theorem do_any (op x y : Int) (hx0 : 0 ≤ x) (hx : x < 18446744073709551616) (hy0 : 0 ≤ y) (hy : y < 18446744073709551616) (w : World) :
    Calls Try.prog 4 #[.int .i64 op, .int .u64 x, .int .u64 y] w fun e w' => e = .returned (.tuple #[.int .u64 (dX op x y), .int .i64 (dF op x y), .int .i64 (dE op)]) ∧ Below w.heap.size w w' := by
  obtain ⟨x, rfl⟩ := Int.eq_ofNat_of_zero_le hx0
  obtain ⟨y, rfl⟩ := Int.eq_ofNat_of_zero_le hy0
  have hx' : x < 18446744073709551616 := by omega
  have hy' : y < 18446744073709551616 := by omega
  have ex : ((x : Nat) : Int).toNat = x := rfl
  have ey : ((y : Nat) : Int).toNat = y := rfl
  unfold dX dF dE
  rw [ex, ey]
  by_cases h : 1 ≤ op ∧ op ≤ 6
  · rw [if_pos h, if_pos h, if_pos (by omega)]
    exact do_arith op h x y hx' hy' w
  rw [if_neg h, if_neg h]
  by_cases h7 : op = 7
  · subst h7; exact do_neg x y hx' w
  rw [if_neg h7]
  by_cases h8 : op = 8
  · subst h8; exact do_abs x y hx' w
  rw [if_neg h8, if_neg (by omega)]
  exact do_out op x y (by omega) w
theorem fromint_one (w : World) : Calls Try.prog 5 #[.int .i64 1] w fun e w' => e = .returned (.int .u64 4607182418800017408) ∧ w' = w := by
  have hc : ∀ w, (convert 2 39 (.int .i64 1)).run Try.prog w = .ok (.float .f64 4607182418800017408) w := fun _ => by kernel_rfl
  have ht := to_bits
  go_enter Try.func5, Try.ntmps5
  go_wp2_with fail
  go_returns
  exact ⟨rfl, rfl⟩
theorem one_zero : doV 4 4607182418800017408 0 = .tuple #[.int .u64 9218868437227405312, .int .i64 2, .int .i64 0] := by
  have h1 : rawF 4 4607182418800017408 0 = some 9218868437227405312 := by kernel_rfl
  have h2 : outF (some 9218868437227405312) = 9218868437227405312 := by decide
  have h3 : flagF 4 (fcls 4607182418800017408) (fcls 0) (clsO (some 9218868437227405312)) (sigB 4607182418800017408) (sigB 0) = 2 := by decide
  unfold doV
  rw [h1, h2, h3]; rfl
end Go.Proofs.Ytjjanbioabllhaa
