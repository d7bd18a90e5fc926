/- Contracts of the package pte (layer 3): Split, Pack, Unpack, Reserved, Canonical, Join, for every input of their kinds. -/
import Derived.Test.YtmmfojpbhkklpaaH
import Derived.Outline

import Derived.StillTailTactics
import Derived.Lib.Hide
namespace Go.Proofs.Ytmmfojpbhkklpaa
open Go.ChangeShapes Go.WideShapes Go.ChangeAt Go.RowKit
set_option linter.unusedVariables false
set_option linter.unusedSimpArgs false

set_option maxHeartbeats 1000000 in
theorem split_any (x : Int) (h0 : 0 ≤ x) (h1 : x < 18446744073709551616) (w : World) :
    Calls Try.prog 12 #[.int .u64 x] w fun e w' => e = .returned (.tuple #[.agg #[.int .i64 (x / 549755813888 % 512), .int .i64 (x / 1073741824 % 512), .int .i64 (x / 2097152 % 512), .int .i64 (x / 4096 % 512)], .int .i64 (x % 4096)]) ∧ Below w.heap.size w w' := by
  go_enter Try.func12, Try.ntmps12
  go_wp2
  go_rounds 5
  refine bodyPost_ret (by simp [results, Try.results12, go_sem]; try rfl) rfl ?_
  refine ⟨?_, by go_grown⟩
  rw [w511 _ (by omega) (by omega), w511 _ (by omega) (by omega), w511 _ (by omega) (by omega), w511 _ (by omega) (by omega), w4095 _ (by omega) (by omega)]

theorem flags_any (b : Nat) (w : World) :
    Calls Try.prog 25 #[.pointer (some ⟨b, 0, none⟩)] w fun e w' => e = .returned (.agg #[.pointer (some ⟨b, 0, none⟩), .pointer (some ⟨b, 1, none⟩), .pointer (some ⟨b, 2, none⟩), .pointer (some ⟨b, 3, none⟩), .pointer (some ⟨b, 4, none⟩), .pointer (some ⟨b, 5, none⟩), .pointer (some ⟨b, 6, none⟩), .pointer (some ⟨b, 7, none⟩)]) ∧ Below w.heap.size w w' := by
  go_enter Try.func25, Try.ntmps25
  go_wp2
  go_still_tail 25, (by kernel_rfl)
  change wpList _ _ _ _ _ (World.drew (w.alloc _))
  go_wp2
  go_returns
  exact ⟨rfl, by go_grown⟩

theorem places_any (w : World) :
    Calls Try.prog 26 #[] w fun e w' => e = .returned (.agg #[.int .i64 0, .int .i64 1, .int .i64 2, .int .i64 5, .int .i64 6, .int .i64 7, .int .i64 8, .int .i64 63]) ∧ Below w.heap.size w w' := by
  go_enter Try.func26, Try.ntmps26
  go_wp2
  go_returns
  exact ⟨rfl, by go_grown⟩

/-- The number of the first k flags over a frame's number. -/
def pk (p q u a d l g n : Bool) (fr : Int) : Nat → Int
  | 0 => fr * 4096
  | 1 => fr * 4096 + 1 * bi p
  | 2 => fr * 4096 + 1 * bi p + 2 * bi q
  | 3 => fr * 4096 + 1 * bi p + 2 * bi q + 4 * bi u
  | 4 => fr * 4096 + 1 * bi p + 2 * bi q + 4 * bi u + 32 * bi a
  | 5 => fr * 4096 + 1 * bi p + 2 * bi q + 4 * bi u + 32 * bi a + 64 * bi d
  | 6 => fr * 4096 + 1 * bi p + 2 * bi q + 4 * bi u + 32 * bi a + 64 * bi d + 128 * bi l
  | 7 => fr * 4096 + 1 * bi p + 2 * bi q + 4 * bi u + 32 * bi a + 64 * bi d + 128 * bi l + 256 * bi g
  | _ => fr * 4096 + 1 * bi p + 2 * bi q + 4 * bi u + 32 * bi a + 64 * bi d + 128 * bi l + 256 * bi g + 9223372036854775808 * bi n
theorem pk_step0 (p q u a d l g n : Bool) (fr : Int) (h0 : 0 ≤ fr) (h1 : fr < 1048576) (h : p = true) : bits .or .u64 (pk p q u a d l g n fr 0) 1 = pk p q u a d l g n fr 1 := by
  subst h
  refine (or_bit 0 (pk true q u a d l g n fr 0) (by simp only [pk]; omega) (by simp only [pk]; omega) (by omega) (by simp only [pk]; omega)).trans ?_
  simp only [pk, bi_true]; omega
theorem pk_skip0 (p q u a d l g n : Bool) (fr : Int) (h : p = false) : pk p q u a d l g n fr 0 = pk p q u a d l g n fr 1 := by
  subst h
  simp only [pk, bi_false]; omega
theorem pk_step1 (p q u a d l g n : Bool) (fr : Int) (h0 : 0 ≤ fr) (h1 : fr < 1048576) (h : q = true) : bits .or .u64 (pk p q u a d l g n fr 1) 2 = pk p q u a d l g n fr 2 := by
  subst h
  have := bi_bd p
  refine (or_bit 1 (pk p true u a d l g n fr 1) (by simp only [pk]; omega) (by simp only [pk]; omega) (by omega) (by simp only [pk]; omega)).trans ?_
  simp only [pk, bi_true]; omega
theorem pk_skip1 (p q u a d l g n : Bool) (fr : Int) (h : q = false) : pk p q u a d l g n fr 1 = pk p q u a d l g n fr 2 := by
  subst h
  simp only [pk, bi_false]; omega
theorem pk_step2 (p q u a d l g n : Bool) (fr : Int) (h0 : 0 ≤ fr) (h1 : fr < 1048576) (h : u = true) : bits .or .u64 (pk p q u a d l g n fr 2) 4 = pk p q u a d l g n fr 3 := by
  subst h
  have := bi_bd p
  have := bi_bd q
  refine (or_bit 2 (pk p q true a d l g n fr 2) (by simp only [pk]; omega) (by simp only [pk]; omega) (by omega) (by simp only [pk]; omega)).trans ?_
  simp only [pk, bi_true]; omega
theorem pk_skip2 (p q u a d l g n : Bool) (fr : Int) (h : u = false) : pk p q u a d l g n fr 2 = pk p q u a d l g n fr 3 := by
  subst h
  simp only [pk, bi_false]; omega
theorem pk_step3 (p q u a d l g n : Bool) (fr : Int) (h0 : 0 ≤ fr) (h1 : fr < 1048576) (h : a = true) : bits .or .u64 (pk p q u a d l g n fr 3) 32 = pk p q u a d l g n fr 4 := by
  subst h
  have := bi_bd p
  have := bi_bd q
  have := bi_bd u
  refine (or_bit 5 (pk p q u true d l g n fr 3) (by simp only [pk]; omega) (by simp only [pk]; omega) (by omega) (by simp only [pk]; omega)).trans ?_
  simp only [pk, bi_true]; omega
theorem pk_skip3 (p q u a d l g n : Bool) (fr : Int) (h : a = false) : pk p q u a d l g n fr 3 = pk p q u a d l g n fr 4 := by
  subst h
  simp only [pk, bi_false]; omega
theorem pk_step4 (p q u a d l g n : Bool) (fr : Int) (h0 : 0 ≤ fr) (h1 : fr < 1048576) (h : d = true) : bits .or .u64 (pk p q u a d l g n fr 4) 64 = pk p q u a d l g n fr 5 := by
  subst h
  have := bi_bd p
  have := bi_bd q
  have := bi_bd u
  have := bi_bd a
  refine (or_bit 6 (pk p q u a true l g n fr 4) (by simp only [pk]; omega) (by simp only [pk]; omega) (by omega) (by simp only [pk]; omega)).trans ?_
  simp only [pk, bi_true]; omega
theorem pk_skip4 (p q u a d l g n : Bool) (fr : Int) (h : d = false) : pk p q u a d l g n fr 4 = pk p q u a d l g n fr 5 := by
  subst h
  simp only [pk, bi_false]; omega
theorem pk_step5 (p q u a d l g n : Bool) (fr : Int) (h0 : 0 ≤ fr) (h1 : fr < 1048576) (h : l = true) : bits .or .u64 (pk p q u a d l g n fr 5) 128 = pk p q u a d l g n fr 6 := by
  subst h
  have := bi_bd p
  have := bi_bd q
  have := bi_bd u
  have := bi_bd a
  have := bi_bd d
  refine (or_bit 7 (pk p q u a d true g n fr 5) (by simp only [pk]; omega) (by simp only [pk]; omega) (by omega) (by simp only [pk]; omega)).trans ?_
  simp only [pk, bi_true]; omega
theorem pk_skip5 (p q u a d l g n : Bool) (fr : Int) (h : l = false) : pk p q u a d l g n fr 5 = pk p q u a d l g n fr 6 := by
  subst h
  simp only [pk, bi_false]; omega
theorem pk_step6 (p q u a d l g n : Bool) (fr : Int) (h0 : 0 ≤ fr) (h1 : fr < 1048576) (h : g = true) : bits .or .u64 (pk p q u a d l g n fr 6) 256 = pk p q u a d l g n fr 7 := by
  subst h
  have := bi_bd p
  have := bi_bd q
  have := bi_bd u
  have := bi_bd a
  have := bi_bd d
  have := bi_bd l
  refine (or_bit 8 (pk p q u a d l true n fr 6) (by simp only [pk]; omega) (by simp only [pk]; omega) (by omega) (by simp only [pk]; omega)).trans ?_
  simp only [pk, bi_true]; omega
theorem pk_skip6 (p q u a d l g n : Bool) (fr : Int) (h : g = false) : pk p q u a d l g n fr 6 = pk p q u a d l g n fr 7 := by
  subst h
  simp only [pk, bi_false]; omega
theorem pk_step7 (p q u a d l g n : Bool) (fr : Int) (h0 : 0 ≤ fr) (h1 : fr < 1048576) (h : n = true) : bits .or .u64 (pk p q u a d l g n fr 7) 9223372036854775808 = pk p q u a d l g n fr 8 := by
  subst h
  have := bi_bd p
  have := bi_bd q
  have := bi_bd u
  have := bi_bd a
  have := bi_bd d
  have := bi_bd l
  have := bi_bd g
  refine (or_bit 63 (pk p q u a d l g true fr 7) (by simp only [pk]; omega) (by simp only [pk]; omega) (by omega) (by simp only [pk]; omega)).trans ?_
  simp only [pk, bi_true]; omega
theorem pk_skip7 (p q u a d l g n : Bool) (fr : Int) (h : n = false) : pk p q u a d l g n fr 7 = pk p q u a d l g n fr 8 := by
  subst h
  simp only [pk, bi_false]; omega

theorem pflag {w wr : World} {x0 x1 x2 x3 x4 x5 x6 x7 x8 : Value} {t : TypeId} {b : Nat} (h : wr.heap[b]? = some (.cells #[x0, x1, x2, x3, x4, x5, x6, x7, x8] t (0, 0))) :
    wr.cell? ⟨b, 0, none⟩ = some x0 ∧ wr.cell? ⟨b, 1, none⟩ = some x1 ∧ wr.cell? ⟨b, 2, none⟩ = some x2 ∧ wr.cell? ⟨b, 3, none⟩ = some x3 ∧ wr.cell? ⟨b, 4, none⟩ = some x4 ∧
    wr.cell? ⟨b, 5, none⟩ = some x5 ∧ wr.cell? ⟨b, 6, none⟩ = some x6 ∧ wr.cell? ⟨b, 7, none⟩ = some x7 ∧ wr.cell? ⟨b, 8, none⟩ = some x8 :=
  ⟨cell_heap h 0, cell_heap h 1, cell_heap h 2, cell_heap h 3, cell_heap h 4, cell_heap h 5, cell_heap h 6, cell_heap h 7, cell_heap h 8⟩

section
variable (x0 x1 x2 x3 x4 x5 x6 x7 : Value) (w : World)
theorem ixf0 : (Instr.index 49 (.agg #[x0, x1, x2, x3, x4, x5, x6, x7]) (.int .i64 0)).run Try.prog w = .ok x0 w := by kernel_rfl
theorem ixf1 : (Instr.index 49 (.agg #[x0, x1, x2, x3, x4, x5, x6, x7]) (.int .i64 1)).run Try.prog w = .ok x1 w := by kernel_rfl
theorem ixf2 : (Instr.index 49 (.agg #[x0, x1, x2, x3, x4, x5, x6, x7]) (.int .i64 2)).run Try.prog w = .ok x2 w := by kernel_rfl
theorem ixf3 : (Instr.index 49 (.agg #[x0, x1, x2, x3, x4, x5, x6, x7]) (.int .i64 3)).run Try.prog w = .ok x3 w := by kernel_rfl
theorem ixf4 : (Instr.index 49 (.agg #[x0, x1, x2, x3, x4, x5, x6, x7]) (.int .i64 4)).run Try.prog w = .ok x4 w := by kernel_rfl
theorem ixf5 : (Instr.index 49 (.agg #[x0, x1, x2, x3, x4, x5, x6, x7]) (.int .i64 5)).run Try.prog w = .ok x5 w := by kernel_rfl
theorem ixf6 : (Instr.index 49 (.agg #[x0, x1, x2, x3, x4, x5, x6, x7]) (.int .i64 6)).run Try.prog w = .ok x6 w := by kernel_rfl
theorem ixf7 : (Instr.index 49 (.agg #[x0, x1, x2, x3, x4, x5, x6, x7]) (.int .i64 7)).run Try.prog w = .ok x7 w := by kernel_rfl
theorem ixp0 : (Instr.index 51 (.agg #[x0, x1, x2, x3, x4, x5, x6, x7]) (.int .i64 0)).run Try.prog w = .ok x0 w := by kernel_rfl
theorem ixp1 : (Instr.index 51 (.agg #[x0, x1, x2, x3, x4, x5, x6, x7]) (.int .i64 1)).run Try.prog w = .ok x1 w := by kernel_rfl
theorem ixp2 : (Instr.index 51 (.agg #[x0, x1, x2, x3, x4, x5, x6, x7]) (.int .i64 2)).run Try.prog w = .ok x2 w := by kernel_rfl
theorem ixp3 : (Instr.index 51 (.agg #[x0, x1, x2, x3, x4, x5, x6, x7]) (.int .i64 3)).run Try.prog w = .ok x3 w := by kernel_rfl
theorem ixp4 : (Instr.index 51 (.agg #[x0, x1, x2, x3, x4, x5, x6, x7]) (.int .i64 4)).run Try.prog w = .ok x4 w := by kernel_rfl
theorem ixp5 : (Instr.index 51 (.agg #[x0, x1, x2, x3, x4, x5, x6, x7]) (.int .i64 5)).run Try.prog w = .ok x5 w := by kernel_rfl
theorem ixp6 : (Instr.index 51 (.agg #[x0, x1, x2, x3, x4, x5, x6, x7]) (.int .i64 6)).run Try.prog w = .ok x6 w := by kernel_rfl
theorem ixp7 : (Instr.index 51 (.agg #[x0, x1, x2, x3, x4, x5, x6, x7]) (.int .i64 7)).run Try.prog w = .ok x7 w := by kernel_rfl
end

set_option maxHeartbeats 2000000 in
theorem pack_ok (p q u a d l g n : Bool) (fr : Int) (h0 : 0 ≤ fr) (h1 : fr < 1048576) (w : World) :
    Calls Try.prog 14 #[.agg #[.bool p, .bool q, .bool u, .bool a, .bool d, .bool l, .bool g, .bool n, .int .i64 fr]] w
      fun e w' => e = .returned (.tuple #[.int .u64 (pk p q u a d l g n fr 8), .int .i64 0]) ∧ Below w.heap.size w w' := by
  go_enter Try.func14, Try.ntmps14
  go_wp2_with (go_at_call 25; refine (flags_any _ _).mono ?_; rintro e w1 ⟨rfl, hb1⟩)
  have hbx : Below w.heap.size w w1 := ((Below.refl _ _).alloc (Nat.le_refl _) _).trans (hb1.mono (by simp))
  have hbl : w1.heap[w.heap.size]? = some (.cells #[.bool p, .bool q, .bool u, .bool a, .bool d, .bool l, .bool g, .bool n, .int .i64 fr] 30 (0, 0)) := by
    rw [hb1.block _ (by simp)]; exact heap_new _ _
  clear hb1
  go_loopw [4, 20] (fun x i wr => ∃ k : Nat, k ≤ 8 ∧ i = .int .i64 k ∧ x = .int .u64 (pk p q u a d l g n fr k) ∧ Below w.heap.size w wr ∧
      wr.heap[w.heap.size]? = some (.cells #[.bool p, .bool q, .bool u, .bool a, .bool d, .bool l, .bool g, .bool n, .int .i64 fr] 30 (0, 0)))
    (fun _ i _ => 8 - (intOf i).toNat)
  case atStart => exact ⟨0, by omega, rfl, rfl, hbx, hbl⟩
  case round =>
    obtain ⟨k, hk, rfl, rfl, hB, hblk⟩ := hrel
    clear hbx hbl
    have hlt := heap_lt hblk
    obtain ⟨c0, c1, c2, c3, c4, c5, c6, c7, c8⟩ := pflag (w := w) hblk
    have HB := Lib.hid hblk; clear hblk
    obtain rfl | rfl | rfl | rfl | rfl | rfl | rfl | rfl | rfl : k = 0 ∨ k = 1 ∨ k = 2 ∨ k = 3 ∨ k = 4 ∨ k = 5 ∨ k = 6 ∨ k = 7 ∨ k = 8 := by omega
    · have y0 := ixf0; have y1 := ixp0
      cases p
      · go_wp2
        go_roundw
        case rel => exact ⟨1, by omega, by go_num, by rw [pk_skip0 _ _ _ _ _ _ _ _ _ rfl], hB, HB.out⟩
        case measure => simp [intOf]
      · go_wp2_with (go_at_call 26; refine (places_any _).mono ?_; rintro e w2 ⟨rfl, hb2⟩)
        go_roundw
        case rel => exact ⟨1, by omega, by go_num, by rw [pk_step0 _ _ _ _ _ _ _ _ _ h0 h1 rfl], hB.trans (hb2.mono (by omega)), by rw [hb2.block _ hlt]; exact HB.out⟩
        case measure => simp [intOf]
    · have y0 := ixf1; have y1 := ixp1
      cases q
      · go_wp2
        go_roundw
        case rel => exact ⟨2, by omega, by go_num, by rw [pk_skip1 _ _ _ _ _ _ _ _ _ rfl], hB, HB.out⟩
        case measure => simp [intOf]
      · go_wp2_with (go_at_call 26; refine (places_any _).mono ?_; rintro e w2 ⟨rfl, hb2⟩)
        go_roundw
        case rel => exact ⟨2, by omega, by go_num, by rw [pk_step1 _ _ _ _ _ _ _ _ _ h0 h1 rfl], hB.trans (hb2.mono (by omega)), by rw [hb2.block _ hlt]; exact HB.out⟩
        case measure => simp [intOf]
    · have y0 := ixf2; have y1 := ixp2
      cases u
      · go_wp2
        go_roundw
        case rel => exact ⟨3, by omega, by go_num, by rw [pk_skip2 _ _ _ _ _ _ _ _ _ rfl], hB, HB.out⟩
        case measure => simp [intOf]
      · go_wp2_with (go_at_call 26; refine (places_any _).mono ?_; rintro e w2 ⟨rfl, hb2⟩)
        go_roundw
        case rel => exact ⟨3, by omega, by go_num, by rw [pk_step2 _ _ _ _ _ _ _ _ _ h0 h1 rfl], hB.trans (hb2.mono (by omega)), by rw [hb2.block _ hlt]; exact HB.out⟩
        case measure => simp [intOf]
    · have y0 := ixf3; have y1 := ixp3
      cases a
      · go_wp2
        go_roundw
        case rel => exact ⟨4, by omega, by go_num, by rw [pk_skip3 _ _ _ _ _ _ _ _ _ rfl], hB, HB.out⟩
        case measure => simp [intOf]
      · go_wp2_with (go_at_call 26; refine (places_any _).mono ?_; rintro e w2 ⟨rfl, hb2⟩)
        go_roundw
        case rel => exact ⟨4, by omega, by go_num, by rw [pk_step3 _ _ _ _ _ _ _ _ _ h0 h1 rfl], hB.trans (hb2.mono (by omega)), by rw [hb2.block _ hlt]; exact HB.out⟩
        case measure => simp [intOf]
    · have y0 := ixf4; have y1 := ixp4
      cases d
      · go_wp2
        go_roundw
        case rel => exact ⟨5, by omega, by go_num, by rw [pk_skip4 _ _ _ _ _ _ _ _ _ rfl], hB, HB.out⟩
        case measure => simp [intOf]
      · go_wp2_with (go_at_call 26; refine (places_any _).mono ?_; rintro e w2 ⟨rfl, hb2⟩)
        go_roundw
        case rel => exact ⟨5, by omega, by go_num, by rw [pk_step4 _ _ _ _ _ _ _ _ _ h0 h1 rfl], hB.trans (hb2.mono (by omega)), by rw [hb2.block _ hlt]; exact HB.out⟩
        case measure => simp [intOf]
    · have y0 := ixf5; have y1 := ixp5
      cases l
      · go_wp2
        go_roundw
        case rel => exact ⟨6, by omega, by go_num, by rw [pk_skip5 _ _ _ _ _ _ _ _ _ rfl], hB, HB.out⟩
        case measure => simp [intOf]
      · go_wp2_with (go_at_call 26; refine (places_any _).mono ?_; rintro e w2 ⟨rfl, hb2⟩)
        go_roundw
        case rel => exact ⟨6, by omega, by go_num, by rw [pk_step5 _ _ _ _ _ _ _ _ _ h0 h1 rfl], hB.trans (hb2.mono (by omega)), by rw [hb2.block _ hlt]; exact HB.out⟩
        case measure => simp [intOf]
    · have y0 := ixf6; have y1 := ixp6
      cases g
      · go_wp2
        go_roundw
        case rel => exact ⟨7, by omega, by go_num, by rw [pk_skip6 _ _ _ _ _ _ _ _ _ rfl], hB, HB.out⟩
        case measure => simp [intOf]
      · go_wp2_with (go_at_call 26; refine (places_any _).mono ?_; rintro e w2 ⟨rfl, hb2⟩)
        go_roundw
        case rel => exact ⟨7, by omega, by go_num, by rw [pk_step6 _ _ _ _ _ _ _ _ _ h0 h1 rfl], hB.trans (hb2.mono (by omega)), by rw [hb2.block _ hlt]; exact HB.out⟩
        case measure => simp [intOf]
    · have y0 := ixf7; have y1 := ixp7
      cases n
      · go_wp2
        go_roundw
        case rel => exact ⟨8, by omega, by go_num, by rw [pk_skip7 _ _ _ _ _ _ _ _ _ rfl], hB, HB.out⟩
        case measure => simp [intOf]
      · go_wp2_with (go_at_call 26; refine (places_any _).mono ?_; rintro e w2 ⟨rfl, hb2⟩)
        go_roundw
        case rel => exact ⟨8, by omega, by go_num, by rw [pk_step7 _ _ _ _ _ _ _ _ _ h0 h1 rfl], hB.trans (hb2.mono (by omega)), by rw [hb2.block _ hlt]; exact HB.out⟩
        case measure => simp [intOf]
    · go_wp2
      go_returns
      exact ⟨rfl, hB⟩
end Go.Proofs.Ytmmfojpbhkklpaa
