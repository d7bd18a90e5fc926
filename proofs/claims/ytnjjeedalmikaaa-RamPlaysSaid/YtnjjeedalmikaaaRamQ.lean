/- The reference of layer 1: its bytes in a map; Load and Store. No condition but that the access is good. -/
import Derived.Test.YtnjjeedalmikaaaRamP
import Derived.StillTailTactics
namespace Go.Proofs.Ytnjjeedalmikaaa
open Go.ChangeShapes Go.WideShapes Go.ChangeAt Go.RowKit
open Go.ChangeMaps (setBlock heap_setBlock_same heap_setBlock_other)
set_option linter.unusedVariables false
set_option linter.unusedSimpArgs false
abbrev bv (x : Nat) : Value := .int .u8 x
/-- The map's bytes. -/
structure RB (W : World) (mb : Nat) (mem : Nat → Nat) : Prop where
  ex : ∃ l : List (Int × Nat), MapU W mb (enc bv l) ∧ (keys l).Nodup ∧ ∀ a : Nat, (kget l (a : Int)).getD 0 = mem a
theorem RB.lt {W : World} {mb : Nat} {mem : Nat → Nat} (h : RB W mb mem) : mb < W.heap.size := by obtain ⟨l, h1, _⟩ := h.ex; exact h1.lt
theorem RB.of {W W' : World} {mb : Nat} {mem : Nat → Nat} (h : RB W mb mem) (hb : W'.heap[mb]? = W.heap[mb]?) : RB W' mb mem := by
  obtain ⟨l, h1, h2⟩ := h.ex
  exact ⟨l, h1.of hb, h2⟩
theorem RB.below {W W' : World} {mb : Nat} {mem : Nat → Nat} (h : RB W mb mem) (hb : Below W.heap.size W W') : RB W' mb mem := h.of (hb.block _ h.lt)
theorem RB.ne {W : World} {mb g : Nat} {mem : Nat → Nat} {cs : Array Value} {t : TypeId} (h : RB W mb mem) (hg : W.heap[g]? = some (.cells cs t (0, 0))) : g ≠ mb := by
  rintro rfl
  obtain ⟨l, ⟨es, c, h1, _⟩, _⟩ := h.ex
  rw [hg] at h1
  simp at h1
theorem under38 : Try.prog.underlying 38 = some (.map 22 5) := by kernel_rfl
theorem underU64 : Try.prog.underlying 22 = some (.int .u64) := by kernel_rfl
theorem zeroB (w : World) : (zeroValue 5).run Try.prog w = .ok (.int .u8 0) w := by kernel_rfl
theorem RB.look {W : World} {mb : Nat} {mem : Nat → Nat} (h : RB W mb mem) (a : Nat) : (Instr.lookup 38 (.map (some mb)) (.int .u64 (a : Int)) false).run Try.prog W = .ok (.int .u8 (mem a : Nat)) W := by
  obtain ⟨l, h1, h2, h3⟩ := h.ex
  have := run_lookup_alu (P := Try.prog) under38 underU64 (zeroB W) h1 (a : Int) false
  rw [aget_enc] at this
  rw [this, ← h3 a]
  cases kget l (a : Int) <;> rfl
theorem RB.put {W : World} {mb : Nat} {mem : Nat → Nat} (h : RB W mb mem) (a x : Nat) : ∃ o, (Instr.mapUpdate 38 (.map (some mb)) (.int .u64 (a : Int)) (.int .u8 (x : Nat))).run Try.prog W = .ok () (setBlock W mb o) ∧ RB (setBlock W mb o) mb (updB mem a x) := by
  obtain ⟨l, h1, h2, h3⟩ := h.ex
  obtain ⟨o, e1, e2⟩ := run_mapUpdate_alu (P := Try.prog) under38 underU64 h1 (a : Int) (bv x)
  rw [aput_enc] at e2
  refine ⟨o, e1, ⟨_, e2, nodup_put _ _ _ h2, fun k => ?_⟩⟩
  rw [kget_put]
  unfold updB
  by_cases hk : k = a
  · subst hk; simp
  · rw [if_neg (by omega), if_neg hk, h3]
theorem RB.del {W : World} {mb : Nat} {mem : Nat → Nat} (h : RB W mb mem) (a : Nat) : ∃ o, (Builtin.delete_ #[38, 22] 0 #[.map (some mb), .int .u64 (a : Int)]).run Try.prog W = .ok (.tuple #[]) (setBlock W mb o) ∧ RB (setBlock W mb o) mb (updB mem a 0) := by
  obtain ⟨l, h1, h2, h3⟩ := h.ex
  obtain ⟨o, e1, e2⟩ := run_delete_alu (P := Try.prog) (ty := 0) under38 underU64 h1 (a : Int)
  rw [adel_enc] at e2
  refine ⟨o, e1, ⟨_, e2, nodup_del _ _ h2, fun k => ?_⟩⟩
  rw [kget_del _ h2]
  unfold updB
  by_cases hk : k = a
  · subst hk; simp
  · rw [if_neg (by omega), if_neg hk, h3]
theorem loadF_end (mem : Nat → Nat) : ∀ (k a : Nat), loadF mem a (k + 1) = loadF mem a k + mem (a + k) * 256 ^ k
  | 0, a => by simp [loadF]
  | k + 1, a => by
    have ih := loadF_end mem k (a + 1)
    have e1 : loadF mem a (k + 1 + 1) = mem a + 256 * loadF mem (a + 1) (k + 1) := rfl
    have e2 : loadF mem a (k + 1) = mem a + 256 * loadF mem (a + 1) k := rfl
    rw [e1, e2, ih, show a + 1 + k = a + (k + 1) by omega, Nat.pow_succ, Nat.mul_add]
    have : 256 * (mem (a + (k + 1)) * 256 ^ k) = mem (a + (k + 1)) * (256 ^ k * 256) := by rw [Nat.mul_comm 256, Nat.mul_assoc]
    omega
theorem shl_nat (b k : Nat) : (b : Int) * 2 ^ (8 * (k : Int)).toNat = ((b * 256 ^ k : Nat) : Int) := by
  rw [show (8 * (k : Int)).toNat = 8 * k by omega, Int.pow_mul]
  simp
theorem addr_wrap' {x y : Nat} (h : x + y < 18446744073709551616) : IntKind.u64.wrap ((x : Int) + (y : Int)) = ((x + y : Nat) : Int) := by rw [IntKind.wrap_u64]; omega
theorem wrap_nat {x : Nat} (h : x < 18446744073709551616) : IntKind.u64.wrap (x : Int) = (x : Int) := by rw [IntKind.wrap_u64]; omega
set_option maxRecDepth 10000 in
set_option maxHeartbeats 1000000 in
theorem rLoad_any {w : World} {v : Value} {mb : Nat} {mem : Nat → Nat} (h : RB w mb mem) (hby : ∀ a, mem a < 256) (hv : v.oneCell' = true) (n : Int) (addr s : Nat) (hs : s ≤ 8) (ha : addr + s ≤ 18446744073709551616) (ha2 : addr < 18446744073709551616) :
    Calls Try.prog 20 #[rV n v mb, .int .u64 addr, .int .i64 s] w fun e w' => e = .returned (.int .u64 (loadF mem addr s : Nat)) ∧ Below w.heap.size w w' := by
  have H := Lib.hid h
  have HBY := Lib.hid hby
  have HS := Lib.hid hs
  have HA := Lib.hid ha
  have HA2 := Lib.hid ha2
  clear h hby hs ha ha2
  go_enter Try.func20, Try.ntmps20
  go_wp2_with fail
  obtain ⟨w1, hw1⟩ : ∃ w1, w1 = w.alloc (.cells #[.int .i64 n, v, .map (some mb)] 40) := ⟨_, rfl⟩
  have k3 : w1.heap[w.heap.size]? = some (.cells #[.int .i64 n, v, .map (some mb)] 40 (0, 0)) := by rw [hw1]; exact heap_new _ _
  have hB1 : Hid (Below w.heap.size w w1) := Lib.hid (by rw [hw1]; exact (Below.refl _ _).alloc (Nat.le_refl _) _)
  have hR1 := H.out.below hB1.out
  have c2 : w1.cell? ⟨w.heap.size, 2, none⟩ = some (.map (some mb)) := cell_heap k3 2
  rw [← hw1]
  clear hw1 k3
  go_loopw [7, 8] (fun x i wr => ∃ k : Nat, i = .int .i64 k ∧ k ≤ s ∧ wr = w1 ∧ x = .int .u64 (loadF mem addr k : Nat)) (fun _ i _ => s - (intOf i).toNat)
  case atStart => exact ⟨0, rfl, by omega, rfl, rfl⟩
  case round =>
    obtain ⟨k, rfl, hle, rfl, rfl⟩ := hrel
    by_cases hlt : k < s
    · have f0 : decide ((k : Int) < (s : Int)) = true := decide_eq_true (by omega)
      have f1 : decide (k < s) = true := decide_eq_true hlt
      have hk8 : k < 8 := Nat.lt_of_lt_of_le hlt HS.out
      obtain ⟨an, han⟩ : ∃ an, an = addr + k := ⟨_, rfl⟩
      have hanl : an < 18446744073709551616 := by have := HA.out; omega
      have q0 : IntKind.u64.wrap (k : Int) = k := wrap_nat (by omega)
      have q1 : IntKind.u64.wrap ((addr : Int) + k) = (an : Int) := by rw [han]; exact addr_wrap' (by omega)
      have hlk := hR1.look an
      obtain ⟨bx, hbx⟩ : ∃ b, b = mem an := ⟨_, rfl⟩
      have hb256 : bx < 256 := by rw [hbx]; exact HBY.out an
      rw [← hbx] at hlk
      have q2 : IntKind.u64.wrap (bx : Int) = bx := wrap_nat (by omega)
      have q3 : IntKind.i64.wrap (8 * (k : Int)) = 8 * (k : Int) := mul8 hk8
      obtain ⟨sh, hsh⟩ : ∃ s, s = bx * 256 ^ k := ⟨_, rfl⟩
      have q4 : (bx : Int) * 2 ^ (8 * (k : Int)).toNat = (sh : Int) := by rw [hsh]; exact shl_nat bx k
      obtain ⟨x, hx⟩ : ∃ x, x = loadF mem addr k := ⟨_, rfl⟩
      have hend : Hid (loadF mem addr (k + 1) = x + sh) := Lib.hid (by rw [loadF_end, hx, hsh, hbx, han])
      have hxl := loadF_lt mem HBY.out (k + 1) addr
      have hx64 : x + sh < 18446744073709551616 := by
        have h2 : 256 ^ (k + 1) ≤ 256 ^ 8 := Nat.pow_le_pow_right (by omega) (by omega)
        rw [hend.out] at hxl
        exact Nat.lt_of_lt_of_le hxl h2
      have q5 : IntKind.u64.wrap (sh : Int) = sh := wrap_nat (by omega)
      obtain ⟨y, hy⟩ : ∃ y, y = x + sh := ⟨_, rfl⟩
      have q6 : IntKind.u64.wrap ((x : Int) + sh) = (y : Int) := by rw [hy]; exact addr_wrap' hx64
      rw [← hx]
      have HY := Lib.hid hy
      clear hx hxl hx64 hsh hbx hb256 han hanl hy
      go_wp2
      go_roundw
      case rel => exact ⟨k + 1, by go_num, by omega, trivial, by rw [hend.out, ← HY.out]⟩
      case measure => simp [intOf]; omega
    · have f0 : decide ((k : Int) < (s : Int)) = false := decide_eq_false (by omega)
      have f1 : decide (k < s) = false := decide_eq_false hlt
      obtain rfl : k = s := by omega
      obtain ⟨x, hx⟩ : ∃ x, x = loadF mem addr k := ⟨_, rfl⟩
      rw [← hx]
      have HX := Lib.hid hx
      clear hx hR1
      go_wp2
      go_returns
      exact ⟨ret_v (by rw [← HX.out]; rfl), hB1.out⟩
end Go.Proofs.Ytnjjeedalmikaaa
