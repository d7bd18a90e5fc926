/- Contracts of the package pte, second part: Pack's refusal, Unpack, Reserved, Canonical, Join. No condition but the arguments' kinds. -/
import Derived.Test.YtmmfojpbhkklpaaPte
namespace Go.Proofs.Ytmmfojpbhkklpaa
open Go.ChangeShapes Go.WideShapes Go.ChangeAt Go.RowKit
set_option linter.unusedVariables false
set_option linter.unusedSimpArgs false

theorem pack_err (p q u a d l g n : Bool) (fr : Int) (h : fr < 0 ∨ 1048576 ≤ fr) (w : World) :
    Calls Try.prog 14 #[.agg #[.bool p, .bool q, .bool u, .bool a, .bool d, .bool l, .bool g, .bool n, .int .i64 fr]] w
      fun e w' => e = .returned (.tuple #[.int .u64 0, .int .i64 1]) ∧ Below w.heap.size w w' := by
  rcases h with h | h
  all_goals
    go_enter Try.func14, Try.ntmps14
    go_wp2
    go_returns
    exact ⟨rfl, by go_grown⟩

/-- A bit of a number. -/
def ub (x v : Int) : Bool := x / v % 2 == 1
/-- An entry whose first k flags are a number's. -/
def upk (x : Int) : Nat → Array Value
  | 0 => #[.bool false, .bool false, .bool false, .bool false, .bool false, .bool false, .bool false, .bool false, .int .i64 (x / 4096 % 1048576)]
  | 1 => #[.bool (ub x 1), .bool false, .bool false, .bool false, .bool false, .bool false, .bool false, .bool false, .int .i64 (x / 4096 % 1048576)]
  | 2 => #[.bool (ub x 1), .bool (ub x 2), .bool false, .bool false, .bool false, .bool false, .bool false, .bool false, .int .i64 (x / 4096 % 1048576)]
  | 3 => #[.bool (ub x 1), .bool (ub x 2), .bool (ub x 4), .bool false, .bool false, .bool false, .bool false, .bool false, .int .i64 (x / 4096 % 1048576)]
  | 4 => #[.bool (ub x 1), .bool (ub x 2), .bool (ub x 4), .bool (ub x 32), .bool false, .bool false, .bool false, .bool false, .int .i64 (x / 4096 % 1048576)]
  | 5 => #[.bool (ub x 1), .bool (ub x 2), .bool (ub x 4), .bool (ub x 32), .bool (ub x 64), .bool false, .bool false, .bool false, .int .i64 (x / 4096 % 1048576)]
  | 6 => #[.bool (ub x 1), .bool (ub x 2), .bool (ub x 4), .bool (ub x 32), .bool (ub x 64), .bool (ub x 128), .bool false, .bool false, .int .i64 (x / 4096 % 1048576)]
  | 7 => #[.bool (ub x 1), .bool (ub x 2), .bool (ub x 4), .bool (ub x 32), .bool (ub x 64), .bool (ub x 128), .bool (ub x 256), .bool false, .int .i64 (x / 4096 % 1048576)]
  | _ => #[.bool (ub x 1), .bool (ub x 2), .bool (ub x 4), .bool (ub x 32), .bool (ub x 64), .bool (ub x 128), .bool (ub x 256), .bool (ub x 9223372036854775808), .int .i64 (x / 4096 % 1048576)]
theorem upk_step0 (x : Int) (h0 : 0 ≤ x) (h1 : x < 18446744073709551616) : (upk x 0).setIfInBounds 0 (.bool (bits .and .u64 (x) 1 == 1)) = upk x 1 := by
  rw [and1 _ (by omega) (by omega)]
  simp [upk, ub]
theorem upk_step1 (x : Int) (h0 : 0 ≤ x) (h1 : x < 18446744073709551616) : (upk x 1).setIfInBounds 1 (.bool (bits .and .u64 (x / 2) 1 == 1)) = upk x 2 := by
  rw [and1 _ (by omega) (by omega)]
  simp [upk, ub]
theorem upk_step2 (x : Int) (h0 : 0 ≤ x) (h1 : x < 18446744073709551616) : (upk x 2).setIfInBounds 2 (.bool (bits .and .u64 (x / 4) 1 == 1)) = upk x 3 := by
  rw [and1 _ (by omega) (by omega)]
  simp [upk, ub]
theorem upk_step3 (x : Int) (h0 : 0 ≤ x) (h1 : x < 18446744073709551616) : (upk x 3).setIfInBounds 3 (.bool (bits .and .u64 (x / 32) 1 == 1)) = upk x 4 := by
  rw [and1 _ (by omega) (by omega)]
  simp [upk, ub]
theorem upk_step4 (x : Int) (h0 : 0 ≤ x) (h1 : x < 18446744073709551616) : (upk x 4).setIfInBounds 4 (.bool (bits .and .u64 (x / 64) 1 == 1)) = upk x 5 := by
  rw [and1 _ (by omega) (by omega)]
  simp [upk, ub]
theorem upk_step5 (x : Int) (h0 : 0 ≤ x) (h1 : x < 18446744073709551616) : (upk x 5).setIfInBounds 5 (.bool (bits .and .u64 (x / 128) 1 == 1)) = upk x 6 := by
  rw [and1 _ (by omega) (by omega)]
  simp [upk, ub]
theorem upk_step6 (x : Int) (h0 : 0 ≤ x) (h1 : x < 18446744073709551616) : (upk x 6).setIfInBounds 6 (.bool (bits .and .u64 (x / 256) 1 == 1)) = upk x 7 := by
  rw [and1 _ (by omega) (by omega)]
  simp [upk, ub]
theorem upk_step7 (x : Int) (h0 : 0 ≤ x) (h1 : x < 18446744073709551616) : (upk x 7).setIfInBounds 7 (.bool (bits .and .u64 (x / 9223372036854775808) 1 == 1)) = upk x 8 := by
  rw [and1 _ (by omega) (by omega)]
  simp [upk, ub]

theorem upk_cells {x : Int} {W : World} {b : Nat} {t : TypeId} (k : Nat) (hk : k < 8) (h : W.heap[b]? = some (.cells (upk x k) t (0, 0))) : W.cell? ⟨b, k, none⟩ = some (.bool false) := by
  rw [cell_heap h k]
  obtain rfl | rfl | rfl | rfl | rfl | rfl | rfl | rfl : k = 0 ∨ k = 1 ∨ k = 2 ∨ k = 3 ∨ k = 4 ∨ k = 5 ∨ k = 6 ∨ k = 7 := by omega
  all_goals rfl

set_option maxHeartbeats 4000000 in
theorem unpack_any (x : Int) (h0 : 0 ≤ x) (h1 : x < 18446744073709551616) (w : World) :
    Calls Try.prog 15 #[.int .u64 x] w
      fun e w' => e = .returned (.agg (upk x 8)) ∧ Below w.heap.size w w' := by
  go_enter Try.func15, Try.ntmps15
  go_wp2_with (go_at_call 25; refine (flags_any _ _).mono ?_; rintro e w1 ⟨rfl, hb1⟩)
  rw [w20 _ (by omega) (by omega)] at hb1
  have hbx : Below w.heap.size w w1 := b_then (by go_grown) hb1
  have hbl : w1.heap[w.heap.size + 1]? = some (.cells (upk x 0) 30 (0, 0)) := by
    exact heap_below hb1 (by rw [show upk x 0 = #[.bool false, .bool false, .bool false, .bool false, .bool false, .bool false, .bool false, .bool false, .int .i64 (x / 4096 % 1048576)] from rfl]; simpa only [World.size_alloc] using heap_new (w.alloc _) _)
  have hbr : w1.heap[w.heap.size]? = some (.cells #[.bool false, .bool false, .bool false, .bool false, .bool false, .bool false, .bool false, .bool false, .int .i64 0] 30 (0, 0)) := heap_below hb1 (heap_old _ _ _ (heap_new _ _))
  clear hb1
  go_loopw [12] (fun i W => ∃ k : Nat, k ≤ 8 ∧ i = .int .i64 k ∧ Below w.heap.size w W ∧ W.heap[w.heap.size + 1]? = some (.cells (upk x k) 30 (0, 0)) ∧
      W.heap[w.heap.size]? = some (.cells #[.bool false, .bool false, .bool false, .bool false, .bool false, .bool false, .bool false, .bool false, .int .i64 0] 30 (0, 0)))
    (fun i _ => 8 - (intOf i).toNat)
  case atStart => exact ⟨0, by omega, rfl, hbx, hbl, hbr⟩
  case round =>
    obtain ⟨k, hk, rfl, hB, hblk, hres⟩ := hrel
    clear hbx hbl hbr
    have hlt := heap_lt hblk
    have hf := frozen_heap hblk
    obtain rfl | rfl | rfl | rfl | rfl | rfl | rfl | rfl | rfl : k = 0 ∨ k = 1 ∨ k = 2 ∨ k = 3 ∨ k = 4 ∨ k = 5 ∨ k = 6 ∨ k = 7 ∨ k = 8 := by omega
    · have hc0 := upk_cells 0 (by omega) hblk
      have hf0 := hf 0; clear hf
      have HB := Lib.hid hblk; have HR := Lib.hid hres; clear hblk hres
      have y0 := ixf0; have y1 := ixp0
      go_wp2_with (go_at_call 26; refine (places_any _).mono ?_; rintro e w2 ⟨rfl, hb2⟩; obtain ⟨hc2, hf2⟩ := bcell hb2)
      go_roundw
      case rel => exact ⟨1, by omega, by go_num, (b_then hB hb2).setCell (by simp) _, by rw [heap_set (heap_below hb2 HB.out), upk_step0 x h0 h1], heap_far (heap_below hb2 HR.out) (by simp) _⟩
      case measure => simp [intOf]
    · have hc0 := upk_cells 1 (by omega) hblk
      have hf0 := hf 1; clear hf
      have HB := Lib.hid hblk; have HR := Lib.hid hres; clear hblk hres
      have y0 := ixf1; have y1 := ixp1
      go_wp2_with (go_at_call 26; refine (places_any _).mono ?_; rintro e w2 ⟨rfl, hb2⟩; obtain ⟨hc2, hf2⟩ := bcell hb2)
      go_roundw
      case rel => exact ⟨2, by omega, by go_num, (b_then hB hb2).setCell (by simp) _, by rw [heap_set (heap_below hb2 HB.out), upk_step1 x h0 h1], heap_far (heap_below hb2 HR.out) (by simp) _⟩
      case measure => simp [intOf]
    · have hc0 := upk_cells 2 (by omega) hblk
      have hf0 := hf 2; clear hf
      have HB := Lib.hid hblk; have HR := Lib.hid hres; clear hblk hres
      have y0 := ixf2; have y1 := ixp2
      go_wp2_with (go_at_call 26; refine (places_any _).mono ?_; rintro e w2 ⟨rfl, hb2⟩; obtain ⟨hc2, hf2⟩ := bcell hb2)
      go_roundw
      case rel => exact ⟨3, by omega, by go_num, (b_then hB hb2).setCell (by simp) _, by rw [heap_set (heap_below hb2 HB.out), upk_step2 x h0 h1], heap_far (heap_below hb2 HR.out) (by simp) _⟩
      case measure => simp [intOf]
    · have hc0 := upk_cells 3 (by omega) hblk
      have hf0 := hf 3; clear hf
      have HB := Lib.hid hblk; have HR := Lib.hid hres; clear hblk hres
      have y0 := ixf3; have y1 := ixp3
      go_wp2_with (go_at_call 26; refine (places_any _).mono ?_; rintro e w2 ⟨rfl, hb2⟩; obtain ⟨hc2, hf2⟩ := bcell hb2)
      go_roundw
      case rel => exact ⟨4, by omega, by go_num, (b_then hB hb2).setCell (by simp) _, by rw [heap_set (heap_below hb2 HB.out), upk_step3 x h0 h1], heap_far (heap_below hb2 HR.out) (by simp) _⟩
      case measure => simp [intOf]
    · have hc0 := upk_cells 4 (by omega) hblk
      have hf0 := hf 4; clear hf
      have HB := Lib.hid hblk; have HR := Lib.hid hres; clear hblk hres
      have y0 := ixf4; have y1 := ixp4
      go_wp2_with (go_at_call 26; refine (places_any _).mono ?_; rintro e w2 ⟨rfl, hb2⟩; obtain ⟨hc2, hf2⟩ := bcell hb2)
      go_roundw
      case rel => exact ⟨5, by omega, by go_num, (b_then hB hb2).setCell (by simp) _, by rw [heap_set (heap_below hb2 HB.out), upk_step4 x h0 h1], heap_far (heap_below hb2 HR.out) (by simp) _⟩
      case measure => simp [intOf]
    · have hc0 := upk_cells 5 (by omega) hblk
      have hf0 := hf 5; clear hf
      have HB := Lib.hid hblk; have HR := Lib.hid hres; clear hblk hres
      have y0 := ixf5; have y1 := ixp5
      go_wp2_with (go_at_call 26; refine (places_any _).mono ?_; rintro e w2 ⟨rfl, hb2⟩; obtain ⟨hc2, hf2⟩ := bcell hb2)
      go_roundw
      case rel => exact ⟨6, by omega, by go_num, (b_then hB hb2).setCell (by simp) _, by rw [heap_set (heap_below hb2 HB.out), upk_step5 x h0 h1], heap_far (heap_below hb2 HR.out) (by simp) _⟩
      case measure => simp [intOf]
    · have hc0 := upk_cells 6 (by omega) hblk
      have hf0 := hf 6; clear hf
      have HB := Lib.hid hblk; have HR := Lib.hid hres; clear hblk hres
      have y0 := ixf6; have y1 := ixp6
      go_wp2_with (go_at_call 26; refine (places_any _).mono ?_; rintro e w2 ⟨rfl, hb2⟩; obtain ⟨hc2, hf2⟩ := bcell hb2)
      go_roundw
      case rel => exact ⟨7, by omega, by go_num, (b_then hB hb2).setCell (by simp) _, by rw [heap_set (heap_below hb2 HB.out), upk_step6 x h0 h1], heap_far (heap_below hb2 HR.out) (by simp) _⟩
      case measure => simp [intOf]
    · have hc0 := upk_cells 7 (by omega) hblk
      have hf0 := hf 7; clear hf
      have HB := Lib.hid hblk; have HR := Lib.hid hres; clear hblk hres
      have y0 := ixf7; have y1 := ixp7
      go_wp2_with (go_at_call 26; refine (places_any _).mono ?_; rintro e w2 ⟨rfl, hb2⟩; obtain ⟨hc2, hf2⟩ := bcell hb2)
      go_roundw
      case rel => exact ⟨8, by omega, by go_num, (b_then hB hb2).setCell (by simp) _, by rw [heap_set (heap_below hb2 HB.out), upk_step7 x h0 h1], heap_far (heap_below hb2 HR.out) (by simp) _⟩
      case measure => simp [intOf]
    · have hcs := pflag (w := w) hblk
      obtain ⟨c0, c1, c2, c3, c4, c5, c6, c7, c8⟩ := hcs
      obtain ⟨d0, d1, d2, d3, d4, d5, d6, d7, d8⟩ := pflag (w := w) hres
      have hg := frozen_heap hres
      have g0 := hg 0; have g1 := hg 1; have g2 := hg 2; have g3 := hg 3; have g4 := hg 4; have g5 := hg 5; have g6 := hg 6; have g7 := hg 7; have g8 := hg 8
      clear hblk hres hf hg
      go_wp2
      exact bodyPost_ret (v := .agg (upk x 8)) (by simp [results, Try.results15, go_sem, d0, d1, d2, d3, d4, d5, d6, d7, d8, upk]) rfl ⟨rfl, by go_grown⟩

/-- Are bits set that may not be? -/
def resv (x l : Int) : Bool := if x % 2 = 0 then false else if x / 4294967296 % 1048576 ≠ 0 then true else if 3 ≤ l then x / 128 % 2 == 1 else if l = 2 ∧ x / 128 % 2 = 1 then x / 4096 % 512 != 0 else false

set_option maxHeartbeats 1000000 in
theorem reserved_any (x l : Int) (h0 : 0 ≤ x) (h1 : x < 18446744073709551616) (w : World) :
    Calls Try.prog 18 #[.int .u64 x, .int .i64 l] w fun e w' => e = .returned (.bool (resv x l)) ∧ w = w' := by
  have e1 := and1 x h0 h1
  have e2 := and20 (x / 4294967296) (by omega) (by omega)
  have e3 := and1 (x / 128) (by omega) (by omega)
  have e4 := and511 (x / 4096) (by omega) (by omega)
  by_cases c1 : x % 2 = 0
  · go_enter Try.func18, Try.ntmps18
    go_wp2
    go_returns
    exact ⟨ret_v (by simp [resv, c1]), rfl⟩
  by_cases c2 : x / 4294967296 % 1048576 = 0
  · by_cases c3 : 3 ≤ l
    · go_enter Try.func18, Try.ntmps18
      go_wp2
      go_returns
      exact ⟨ret_v (by simp [resv, c1, c2, c3]), rfl⟩
    · by_cases c4 : l = 2
      · subst c4
        by_cases c5 : x / 128 % 2 = 1
        · go_enter Try.func18, Try.ntmps18
          go_wp2
          go_returns
          exact ⟨ret_v (by simp [resv, c1, c2, c5]; try rfl), rfl⟩
        · go_enter Try.func18, Try.ntmps18
          go_wp2
          go_returns
          exact ⟨ret_v (by simp [resv, c1, c2, c5]), rfl⟩
      · go_enter Try.func18, Try.ntmps18
        go_wp2
        go_returns
        exact ⟨ret_v (by simp [resv, c1, c2, show ¬ 3 ≤ l from by omega, c4]), rfl⟩
  · go_enter Try.func18, Try.ntmps18
    go_wp2
    go_returns
    exact ⟨ret_v (by simp [resv, c1, c2]), rfl⟩

/-- Are the bits from 47 on alike? -/
def canon (x : Int) : Bool := x / 140737488355328 == 0 || x / 140737488355328 == 131071

theorem canonical_any (x : Int) (h0 : 0 ≤ x) (h1 : x < 18446744073709551616) (w : World) :
    Calls Try.prog 21 #[.int .u64 x] w fun e w' => e = .returned (.bool (canon x)) ∧ w = w' := by
  go_enter Try.func21, Try.ntmps21
  go_wp2
  all_goals
    go_returns
    refine ⟨ret_v ?_, rfl⟩
    simp [canon, *]

/-- The address of places in the tables. -/
def joinB (a b c d off : Int) : Int := a * 549755813888 + b * 1073741824 + c * 2097152 + d * 4096 + off
def joinV (a b c d off : Int) : Int := joinB a b c d off + if 256 ≤ a then 18446462598732840960 else 0
theorem ixa0 (x0 x1 x2 x3 : Value) (w : World) : (Instr.index 23 (.agg #[x0, x1, x2, x3]) (.int .i64 0)).run Try.prog w = .ok x0 w := by kernel_rfl
theorem ixa1 (x0 x1 x2 x3 : Value) (w : World) : (Instr.index 23 (.agg #[x0, x1, x2, x3]) (.int .i64 1)).run Try.prog w = .ok x1 w := by kernel_rfl
theorem ixa2 (x0 x1 x2 x3 : Value) (w : World) : (Instr.index 23 (.agg #[x0, x1, x2, x3]) (.int .i64 2)).run Try.prog w = .ok x2 w := by kernel_rfl
theorem ixa3 (x0 x1 x2 x3 : Value) (w : World) : (Instr.index 23 (.agg #[x0, x1, x2, x3]) (.int .i64 3)).run Try.prog w = .ok x3 w := by kernel_rfl

set_option maxHeartbeats 1000000 in
theorem join_ok (a b c d off : Int) (a0 : 0 ≤ a) (a1 : a ≤ 511) (b0 : 0 ≤ b) (b1 : b ≤ 511) (c0 : 0 ≤ c) (c1 : c ≤ 511) (d0 : 0 ≤ d) (d1 : d ≤ 511) (o0 : 0 ≤ off) (o1 : off ≤ 4095) (w : World) :
    Calls Try.prog 20 #[.agg #[.int .i64 a, .int .i64 b, .int .i64 c, .int .i64 d], .int .i64 off] w
      fun e w' => e = .returned (.tuple #[.int .u64 (joinV a b c d off), .int .i64 0]) ∧ Below w.heap.size w w' := by
  have y0 := ixa0; have y1 := ixa1; have y2 := ixa2; have y3 := ixa3
  have e1 := or_mid 39 48 off (a * 549755813888) (by omega) (by omega) (by omega) (by omega) (by omega) (by omega) (by omega) (by omega)
  have e2 := or_mid 30 39 (off + a * 549755813888) (b * 1073741824) (by omega) (by omega) (by omega) (by omega) (by omega) (by omega) (by omega) (by omega)
  have e3 := or_mid 21 30 (off + a * 549755813888 + b * 1073741824) (c * 2097152) (by omega) (by omega) (by omega) (by omega) (by omega) (by omega) (by omega) (by omega)
  have e4 := or_mid 12 21 (off + a * 549755813888 + b * 1073741824 + c * 2097152) (d * 4096) (by omega) (by omega) (by omega) (by omega) (by omega) (by omega) (by omega) (by omega)
  have e5 := and1 ((off + a * 549755813888 + b * 1073741824 + c * 2097152 + d * 4096) / 140737488355328) (by omega) (by omega)
  have e6 := or_mid 48 64 (off + a * 549755813888 + b * 1073741824 + c * 2097152 + d * 4096) 18446462598732840960 (by omega) (by omega) (by omega) (by omega) (by omega) (by omega) (by omega) (by omega)
  by_cases h : 256 ≤ a
  · have h5 : (off + a * 549755813888 + b * 1073741824 + c * 2097152 + d * 4096) / 140737488355328 % 2 = 1 := by omega
    go_enter Try.func20, Try.ntmps20
    go_wp2
    go_rounds 5
    go_returns
    exact ⟨ret_v (by simp [joinV, joinB, h]; omega), by go_grown⟩
  · have h5 : (off + a * 549755813888 + b * 1073741824 + c * 2097152 + d * 4096) / 140737488355328 % 2 = 0 := by omega
    go_enter Try.func20, Try.ntmps20
    go_wp2
    go_rounds 5
    go_returns
    exact ⟨ret_v (by simp [joinV, joinB, h]; omega), by go_grown⟩

set_option maxHeartbeats 1000000 in
theorem join_err (a b c d off : Int) (w : World) (h : off < 0 ∨ 4095 < off ∨ a < 0 ∨ 511 < a ∨ b < 0 ∨ 511 < b ∨ c < 0 ∨ 511 < c ∨ d < 0 ∨ 511 < d) :
    Calls Try.prog 20 #[.agg #[.int .i64 a, .int .i64 b, .int .i64 c, .int .i64 d], .int .i64 off] w
      fun e w' => e = .returned (.tuple #[.int .u64 0, .int .i64 1]) ∧ Below w.heap.size w w' := by
  have y0 := ixa0; have y1 := ixa1; have y2 := ixa2; have y3 := ixa3
  by_cases h0 : off < 0
  · go_enter Try.func20, Try.ntmps20
    go_wp2
    go_returns
    exact ⟨rfl, by go_grown⟩
  by_cases h1 : 4095 < off
  · go_enter Try.func20, Try.ntmps20
    go_wp2
    go_returns
    exact ⟨rfl, by go_grown⟩
  go_enter Try.func20, Try.ntmps20
  go_wp2
  go_rounds 5
  all_goals first | (exfalso; omega) | (go_returns; exact ⟨rfl, by go_grown⟩)
end Go.Proofs.Ytmmfojpbhkklpaa
