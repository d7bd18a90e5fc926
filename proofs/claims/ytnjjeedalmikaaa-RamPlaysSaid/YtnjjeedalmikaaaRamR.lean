/- The reference of layer 1: Store, Zero, Copy, Clear. No condition but that the frames are there. -/
import Derived.Test.YtnjjeedalmikaaaRamQ
namespace Go.Proofs.Ytnjjeedalmikaaa
open Go.ChangeShapes Go.WideShapes Go.ChangeAt Go.RowKit
open Go.ChangeMaps (setBlock heap_setBlock_same heap_setBlock_other)
set_option linter.unusedVariables false
set_option linter.unusedSimpArgs false
/-- Only the map, and new blocks, may have changed. -/
abbrev TM (mb : Nat) (w w' : World) : Prop := Touch (fun k => k = mb) w w'
theorem RB.heap {W : World} {mb g : Nat} {mem : Nat → Nat} {o : Obj} (hg : W.heap[g]? = some o) (hne : g ≠ mb) (o' : Obj) : (setBlock W mb o').heap[g]? = some o := by rw [setBlock_far hne]; exact hg
set_option maxRecDepth 10000 in
set_option maxHeartbeats 1000000 in
theorem rStore_any {w : World} {v : Value} {mb : Nat} {mem : Nat → Nat} (h : RB w mb mem) (hv : v.oneCell' = true) (n : Int) (addr s xx : Nat) (hs : s ≤ 8) (ha : addr + s ≤ 18446744073709551616) (hx : xx < 18446744073709551616) :
    Calls Try.prog 19 #[rV n v mb, .int .u64 addr, .int .i64 s, .int .u64 xx] w fun e w' => e = .returned (.tuple #[]) ∧ TM mb w w' ∧ RB w' mb (storeF mem addr s xx) := by
  have H := Lib.hid h
  have HS := Lib.hid hs
  have HA := Lib.hid ha
  have hmb := h.lt
  clear h hs ha
  go_enter Try.func19, Try.ntmps19
  go_wp2_with fail
  obtain ⟨w1, hw1⟩ : ∃ w1, w1 = w.alloc (.cells #[.int .i64 n, v, .map (some mb)] 40) := ⟨_, rfl⟩
  have k3 : w1.heap[w.heap.size]? = some (.cells #[.int .i64 n, v, .map (some mb)] 40 (0, 0)) := by rw [hw1]; exact heap_new _ _
  have hB1 : Hid (Below w.heap.size w w1) := Lib.hid (by rw [hw1]; exact (Below.refl _ _).alloc (Nat.le_refl _) _)
  have hR1 := Lib.hid (H.out.below hB1.out)
  have HT1 : Hid (TM mb w w1) := Lib.hid (Touch.of_below hB1.out _)
  rw [← hw1]
  have K3 := Lib.hid k3
  clear hw1 k3
  go_loopw [8] (fun i wr => ∃ k : Nat, i = .int .i64 k ∧ k ≤ s ∧ TM mb w wr ∧ wr.heap[w.heap.size]? = some (.cells #[.int .i64 n, v, .map (some mb)] 40 (0, 0)) ∧ RB wr mb (storeF mem addr k xx)) (fun i _ => s - (intOf i).toNat)
  case atStart => exact ⟨0, rfl, by omega, HT1.out, K3.out, by rw [storeF_zero]; exact hR1.out⟩
  case round =>
    obtain ⟨k, rfl, hle, hT, k3, hR⟩ := hrel
    by_cases hlt : k < s
    · have f0 : decide ((k : Int) < (s : Int)) = true := decide_eq_true (by omega)
      have f1 : decide (k < s) = true := decide_eq_true hlt
      have hk8 : k < 8 := Nat.lt_of_lt_of_le hlt HS.out
      have c2 : wr.cell? ⟨w.heap.size, 2, none⟩ = some (.map (some mb)) := cell_heap k3 2
      obtain ⟨an, han⟩ : ∃ an, an = addr + k := ⟨_, rfl⟩
      have hanl : an < 18446744073709551616 := by have := HA.out; omega
      have q0 : IntKind.u64.wrap (k : Int) = k := wrap_nat (by omega)
      have q1 : IntKind.u64.wrap ((addr : Int) + k) = (an : Int) := by rw [han]; exact addr_wrap' (by omega)
      have q2 : IntKind.i64.wrap (8 * (k : Int)) = 8 * (k : Int) := mul8 hk8
      obtain ⟨q, hq⟩ : ∃ q, q = xx / 256 ^ k := ⟨_, rfl⟩
      have hqx : q < 18446744073709551616 := by rw [hq]; exact Nat.lt_of_le_of_lt (Nat.div_le_self _ _) hx
      have q3 : (xx : Int) / 2 ^ (8 * (k : Int)).toNat = (q : Int) := by rw [hq]; exact shift_nat xx k
      obtain ⟨bx, hbx⟩ : ∃ b, b = q % 256 := ⟨_, rfl⟩
      have q4 : bits .and .u64 (q : Int) 255 = (bx : Int) := by
        rw [show (255 : Int) = ((2 ^ 8 - 1 : Nat) : Int) from rfl, and_mask 8 (by omega) _ (by omega) (by omega), hbx]; rfl
      have hb256 : bx < 256 := byte_lt hbx
      have q5 : IntKind.u8.wrap (bx : Int) = (bx : Int) := by rw [IntKind.wrap_u8]; omega
      obtain ⟨o, hmu, hR'⟩ := (show RB wr.drew mb (storeF mem addr k xx) from hR.of rfl).put an bx
      have HM : Hid (RB (setBlock wr.drew mb o) mb (storeF mem addr (k + 1) xx)) := Lib.hid (by rw [storeF_succ, ← han, ← hq, ← hbx]; exact hR')
      have HT2 : Hid (TM mb w (setBlock wr.drew mb o)) := Lib.hid (hT.drew.setBlock (.inl rfl) o)
      have HK2 : Hid ((setBlock wr.drew mb o).heap[w.heap.size]? = some (.cells #[.int .i64 n, v, .map (some mb)] 40 (0, 0))) := Lib.hid (by rw [setBlock_far (hR.ne k3)]; exact k3)
      clear hR' hR hT k3 hbx hq hanl han hb256 hqx
      go_wp2_with fail
      go_still_tail 12, (by kernel_rfl)
      change wpList _ _ _ _ _ wr.drew
      go_wp2_with fail
      go_roundw
      case rel => exact ⟨k + 1, by go_num, by omega, HT2.out, HK2.out, HM.out⟩
      case measure => simp [intOf]; omega
    · have f0 : decide ((k : Int) < (s : Int)) = false := decide_eq_false (by omega)
      have f1 : decide (k < s) = false := decide_eq_false hlt
      obtain rfl : k = s := by omega
      have HR := Lib.hid hR
      have HT := Lib.hid hT
      clear hR hT k3
      go_wp2
      go_returns
      exact ⟨rfl, HT.out, HR.out⟩
end Go.Proofs.Ytnjjeedalmikaaa
