/- The package trap (layer 17): Do of layer 2 at every operation; Reckon, for every state. No condition but that registers have 64 bits. -/
import Derived.Test.YtokmcjjdoiaeaaaTrapM
import Derived.Deep.DeepCutAuto
import Derived.Deep.CutBlock
namespace Go.Proofs.Ytokmcjjdoiaeaaa
open Go.ChangeShapes Go.WideShapes Go.ChangeAt Go.RowKit
set_option linter.unusedVariables false
set_option linter.unusedSimpArgs false
theorem outF_lt {o : Option Nat} (h : ∀ r, o = some r → r < 18446744073709551616) : outF o < 18446744073709551616 := by
  unfold outF
  cases o with
  | none => decide
  | some r => show (if _ then _ else _) < _; split; decide; exact h r rfl
theorem rawF_lt {op : Int} {x y : Nat} (hx : x < 18446744073709551616) (hy : y < 18446744073709551616) (r : Nat) (h : rawF op x y = some r) : r < 18446744073709551616 := by
  unfold rawF at h
  split at h
  · exact Ieee.Format.add_lt _ h
  split at h
  · exact Ieee.Format.sub_lt _ h
  split at h
  · exact Ieee.Format.mul_lt _ h
  split at h
  · exact Ieee.Format.div_lt _ h
  split at h
  · cases h
  split at h
  · obtain rfl := Option.some.inj h; exact lessF_lt x y hx hy
  · obtain rfl := Option.some.inj h; exact negN_lt _
theorem dX_bd (op x y : Int) (hx0 : 0 ≤ x) (hx : x < 18446744073709551616) (hy0 : 0 ≤ y) (hy : y < 18446744073709551616) : 0 ≤ dX op x y ∧ dX op x y < 18446744073709551616 := by
  unfold dX
  split
  · exact ⟨Int.natCast_nonneg _, by have := outF_lt (rawF_lt (op := op) (x := x.toNat) (y := y.toNat) (by omega) (by omega)); omega⟩
  split
  · exact ⟨Int.natCast_nonneg _, by have := negN_lt x.toNat; omega⟩
  split
  · exact ⟨Int.natCast_nonneg _, by have := rg_lt x.toNat; omega⟩
  · omega
theorem do_any (op x y : Int) (hx0 : 0 ≤ x) (hx : x < 18446744073709551616) (hy0 : 0 ≤ y) (hy : y < 18446744073709551616) (w : World) :
    Calls Try.prog 14 #[.int .i64 op, .int .u64 x, .int .u64 y] w fun e w' => e = .returned (.tuple #[.int .u64 (dX op x y), .int .i64 (dF op x y), .int .i64 (dE op)]) ∧ Below w.heap.size w w' := by
  obtain ⟨x, rfl⟩ := Int.eq_ofNat_of_zero_le hx0
  obtain ⟨y, rfl⟩ := Int.eq_ofNat_of_zero_le hy0
  have hx' : x < 18446744073709551616 := by omega
  have hy' : y < 18446744073709551616 := by omega
  have ex : ((x : Nat) : Int).toNat = x := rfl
  have ey : ((y : Nat) : Int).toNat = y := rfl
  unfold dX dF dE
  rw [ex, ey]
  by_cases h : 1 ≤ op ∧ op ≤ 6
  · rw [if_pos h, if_pos h, if_pos (by omega)]
    exact do_arith op h x y hx' hy' w
  rw [if_neg h, if_neg h]
  by_cases h7 : op = 7
  · subst h7; exact do_neg x y hx' w
  rw [if_neg h7]
  by_cases h8 : op = 8
  · subst h8; exact do_abs x y hx' w
  rw [if_neg h8, if_neg (by omega)]
  exact do_out op x y (by omega) w
section
variable (r0 r1 r2 r3 t en : Int) (i : Bool) (fa fc s0 s1 s2 s3 : Int)
theorem two_one {w w1 : World} {c0 c1 c2 : Array Value} {t0 t1 t2 : TypeId} (hw : w1 = ((w.alloc (.cells c0 t0)).alloc (.cells c1 t1)).alloc (.cells c2 t2)) :
    Below w.heap.size w w1 ∧ w1.heap[w.heap.size]? = some (.cells c0 t0 (0, 0)) ∧ w1.heap[w.heap.size + 1]? = some (.cells c1 t1 (0, 0)) := by
  subst hw
  have h1 := heap_new (w.alloc (.cells c0 t0)) (.cells c1 t1)
  rw [World.size_alloc] at h1
  exact ⟨by go_grown, heap_old _ _ _ (heap_old _ _ _ (heap_new _ _)), heap_old _ _ _ h1⟩
theorem reckon_reg (op a b c : Int) (ha : (a < 0 ∨ 3 < a) ∨ (b < 0 ∨ 3 < b) ∨ (c < 0 ∨ 3 < c)) (w : World) : Calls Try.prog 13 #[stV r0 r1 r2 r3 t en i fa fc s0 s1 s2 s3, .int .i64 op, .int .i64 a, .int .i64 b, .int .i64 c] w fun e w' =>
    e = .returned (.tuple #[stV r0 r1 r2 r3 t en i fa fc s0 s1 s2 s3, .int .i64 1]) ∧ Below w.heap.size w w' := by
  have H := Lib.hid ha
  clear ha
  go_enter Try.func13, Try.ntmps13
  go_wp2_with fail
  refine (reg3_out a b c H.out _ _ (by go_simp) (by go_simp) (by go_simp)).mono ?_
  rintro e w1 ⟨rfl, hw⟩
  obtain rfl := hw.symm
  clear hw
  go_wp2_with fail
  go_returns
  exact ⟨rfl, by go_grown⟩
/-- The state behind a reckoning. -/
def recV (E X F c : Int) : Value := if E = 0 then stV (putR c 0 X r0) (putR c 1 X r1) (putR c 2 X r2) (putR c 3 X r3) (bits .or .i64 t F) en i fa fc s0 s1 s2 s3 else stV r0 r1 r2 r3 t en i fa fc s0 s1 s2 s3
set_option maxHeartbeats 4000000 in
theorem reckon_any (op a b c : Int) (ha0 : 0 ≤ a) (ha : a ≤ 3) (hb0 : 0 ≤ b) (hb : b ≤ 3) (hc0 : 0 ≤ c) (hc : c ≤ 3)
    (h0 : 0 ≤ r0 ∧ r0 < 18446744073709551616) (h1 : 0 ≤ r1 ∧ r1 < 18446744073709551616) (h2 : 0 ≤ r2 ∧ r2 < 18446744073709551616) (h3 : 0 ≤ r3 ∧ r3 < 18446744073709551616)
    (x y : Int) (hX : x = getR a r0 r1 r2 r3) (hY : y = getR b r0 r1 r2 r3) (w : World) : Calls Try.prog 13 #[stV r0 r1 r2 r3 t en i fa fc s0 s1 s2 s3, .int .i64 op, .int .i64 a, .int .i64 b, .int .i64 c] w fun e w' =>
    e = .returned (.tuple #[recV r0 r1 r2 r3 t en i fa fc s0 s1 s2 s3 (dE op) (dX op x y) (dF op x y) c, .int .i64 (dE op)]) ∧ Below w.heap.size w w' := by
  have HA : Hid (a = 0 ∨ a = 1 ∨ a = 2 ∨ a = 3) := Lib.hid (by omega)
  have HB : Hid (b = 0 ∨ b = 1 ∨ b = 2 ∨ b = 3) := Lib.hid (by omega)
  have HC : Hid (c = 0 ∨ c = 1 ∨ c = 2 ∨ c = 3) := Lib.hid (by omega)
  have HXY := Lib.hid (And.intro hX hY)
  have HD : Hid (∀ x y, (x = r0 ∨ x = r1 ∨ x = r2 ∨ x = r3) → (y = r0 ∨ y = r1 ∨ y = r2 ∨ y = r3) → ∀ W, Calls Try.prog 14 #[.int .i64 op, .int .u64 x, .int .u64 y] W fun e w' => e = .returned (.tuple #[.int .u64 (dX op x y), .int .i64 (dF op x y), .int .i64 (dE op)]) ∧ Below W.heap.size W w') :=
    Lib.hid fun x y hx hy W => do_any op x y (by omega) (by omega) (by omega) (by omega) W
  have HR := Lib.hid (fun (b' : Nat) (W : World) h1 h2 h3 => reg3_in a b c ha0 ha hb0 hb hc0 hc b' W h1 h2 h3)
  clear ha0 ha hb0 hb hc0 hc h0 h1 h2 h3 hX hY
  go_enter Try.func13, Try.ntmps13
  go_wp2_with fail
  refine (HR.out _ _ (by go_simp) (by go_simp) (by go_simp)).mono ?_
  rintro e w1 ⟨rfl, hw⟩
  obtain ⟨hB, k0, k1⟩ := two_one hw
  clear hw
  go_wp2_with fail
  go_upto_region 3 with fail
  go_cut [12, 13, 14] (fun u v z wx => u = .int .u64 (dX op x y) ∧ v = .int .i64 (dF op x y) ∧ z = .int .i64 (dE op) ∧ Below w1.heap.size w1 wx)
  case first =>
    have K0 := cell_heap k0 0
    have K1 := cell_heap k0 1
    have K2 := cell_heap k0 2
    have K3 := cell_heap k0 3
    have hs := heap_lt k0
    have hab := @Abv.cell w1
    clear k0 k1 hB HR HC
    rcases HA.out with rfl | rfl | rfl | rfl
    all_goals
      rcases HB.out with rfl | rfl | rfl | rfl
    all_goals
      clear HA HB
      have hx := HXY.out.1
      have hy := HXY.out.2
      simp only [getR, if_true, if_false, show ((1 : Int) = 0) = False by simp, show ((2 : Int) = 0) = False by simp, show ((2 : Int) = 1) = False by simp, show ((3 : Int) = 0) = False by simp, show ((3 : Int) = 1) = False by simp, show ((3 : Int) = 2) = False by simp] at hx hy
      subst hx hy
      clear HXY
      refine wp_region_abv (by kernel_rfl) (by kernel_rfl) ?_
      repeat (first | go_big_quiet_skip | (go_big_quiet_want; go_big_quiet_op; first | go_big_quiet_on | go_big_quiet_call ((go_at_call 14; exact abv_call (HD.out _ _ (by simp) (by simp) _)))))
      refine wpQuiet_nil ?_
      rintro w2 ⟨⟨_, hb2⟩, rfl⟩
      go_wp2_with fail
      go_meet
      exact ⟨rfl, rfl, rfl, hb2⟩
  case rest =>
    obtain ⟨rfl, rfl, rfl, hbc⟩ := hcut
    have hB2 := b_then hB hbc
    have k2 := heap_below hbc k0
    have k3 := heap_below hbc k1
    have hs := heap_lt k3
    clear hB hbc k0 k1 HXY HD HR HA HB
    have c0 : wc.cell? ⟨w.heap.size, 0, none⟩ = some (.int .u64 r0) := cell_heap k2 0
    have c1 : wc.cell? ⟨w.heap.size, 1, none⟩ = some (.int .u64 r1) := cell_heap k2 1
    have c2 : wc.cell? ⟨w.heap.size, 2, none⟩ = some (.int .u64 r2) := cell_heap k2 2
    have c3 : wc.cell? ⟨w.heap.size, 3, none⟩ = some (.int .u64 r3) := cell_heap k2 3
    have c4 : wc.cell? ⟨w.heap.size, 4, none⟩ = some (.int .i64 t) := cell_heap k2 4
    have c5 : wc.cell? ⟨w.heap.size, 5, none⟩ = some (.int .u64 en) := cell_heap k2 5
    have c6 : wc.cell? ⟨w.heap.size, 6, none⟩ = some (.bool i) := cell_heap k2 6
    have c7 : wc.cell? ⟨w.heap.size, 7, none⟩ = some (.int .u64 fa) := cell_heap k2 7
    have c8 : wc.cell? ⟨w.heap.size, 8, none⟩ = some (.int .i64 fc) := cell_heap k2 8
    have c9 : wc.cell? ⟨w.heap.size, 9, none⟩ = some (.int .u64 s0) := cell_heap k2 9
    have c10 : wc.cell? ⟨w.heap.size, 10, none⟩ = some (.int .u64 s1) := cell_heap k2 10
    have c11 : wc.cell? ⟨w.heap.size, 11, none⟩ = some (.int .u64 s2) := cell_heap k2 11
    have c12 : wc.cell? ⟨w.heap.size, 12, none⟩ = some (.int .u64 s3) := cell_heap k2 12
    have d0 : wc.cell? ⟨w.heap.size + 1, 0, none⟩ = some (.int .u64 0) := cell_heap k3 0
    have d1 : wc.cell? ⟨w.heap.size + 1, 1, none⟩ = some (.int .u64 0) := cell_heap k3 1
    have d2 : wc.cell? ⟨w.heap.size + 1, 2, none⟩ = some (.int .u64 0) := cell_heap k3 2
    have d3 : wc.cell? ⟨w.heap.size + 1, 3, none⟩ = some (.int .u64 0) := cell_heap k3 3
    have d4 : wc.cell? ⟨w.heap.size + 1, 4, none⟩ = some (.int .i64 0) := cell_heap k3 4
    have d5 : wc.cell? ⟨w.heap.size + 1, 5, none⟩ = some (.int .u64 0) := cell_heap k3 5
    have d6 : wc.cell? ⟨w.heap.size + 1, 6, none⟩ = some (.bool false) := cell_heap k3 6
    have d7 : wc.cell? ⟨w.heap.size + 1, 7, none⟩ = some (.int .u64 0) := cell_heap k3 7
    have d8 : wc.cell? ⟨w.heap.size + 1, 8, none⟩ = some (.int .i64 0) := cell_heap k3 8
    have d9 : wc.cell? ⟨w.heap.size + 1, 9, none⟩ = some (.int .u64 0) := cell_heap k3 9
    have d10 : wc.cell? ⟨w.heap.size + 1, 10, none⟩ = some (.int .u64 0) := cell_heap k3 10
    have d11 : wc.cell? ⟨w.heap.size + 1, 11, none⟩ = some (.int .u64 0) := cell_heap k3 11
    have d12 : wc.cell? ⟨w.heap.size + 1, 12, none⟩ = some (.int .u64 0) := cell_heap k3 12
    have f0 := frozen_heap k2
    have f1 := frozen_heap k3
    have hs0 := heap_lt k2
    clear k2 k3
    rcases dE_cases op with h | h
    · rw [h]
      have HE := Lib.hid h
      clear h
      rcases HC.out with rfl | rfl | rfl | rfl
      all_goals
        clear HC
        go_wp2_with fail
        (try simp only [Exit.inBlock, Exit.then])
        refine bodyPost_ret (by simp [results, Try.results13, go_sem, c0, c1, c2, c3, c4, c5, c6, c7, c8, c9, c10, c11, c12, d0, d1, d2, d3, d4, d5, d6, d7, d8, d9, d10, d11, d12, hs0, hs]; try rfl) rfl ?_
        exact ⟨ret_v (by simp [recV, putR, HE.out]), by go_grown⟩
    · rw [h]
      have HE := Lib.hid h
      clear h HC
      go_wp2_with fail
      (try simp only [Exit.inBlock, Exit.then])
      refine bodyPost_ret (by simp [results, Try.results13, go_sem, c0, c1, c2, c3, c4, c5, c6, c7, c8, c9, c10, c11, c12, d0, d1, d2, d3, d4, d5, d6, d7, d8, d9, d10, d11, d12, hs0, hs]; try rfl) rfl ?_
      exact ⟨ret_v (by simp [recV, HE.out]), by go_grown⟩
end
end Go.Proofs.Ytokmcjjdoiaeaaa
