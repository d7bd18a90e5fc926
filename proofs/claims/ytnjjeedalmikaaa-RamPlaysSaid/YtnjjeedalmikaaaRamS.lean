/- The reference of layer 1: Zero, Copy, Clear. No condition but that the frames are there. -/
import Derived.Test.YtnjjeedalmikaaaRamR
import Derived.Test.YtnjjeedalmikaaaRamJ
namespace Go.Proofs.Ytnjjeedalmikaaa
open Go.ChangeShapes Go.WideShapes Go.ChangeAt Go.RowKit
open Go.ChangeMaps (setBlock heap_setBlock_same heap_setBlock_other)
set_option linter.unusedVariables false
set_option linter.unusedSimpArgs false
def zeroP' (mem : Nat → Nat) (b k : Nat) : Nat → Nat := fun a => if b ≤ a ∧ a < b + k then 0 else mem a
theorem zeroP_succ (mem : Nat → Nat) (b k : Nat) : zeroP' mem b (k + 1) = updB (zeroP' mem b k) (b + k) 0 := by
  funext a
  unfold zeroP' updB
  by_cases h : a = b + k
  · subst h; rw [if_pos rfl, if_pos (show b ≤ b + k ∧ b + k < b + (k + 1) by omega)]
  · rw [if_neg h]
    by_cases h2 : b ≤ a ∧ a < b + k
    · rw [if_pos (show b ≤ a ∧ a < b + (k + 1) by omega)]; exact (if_pos h2).symm
    · rw [if_neg (show ¬ (b ≤ a ∧ a < b + (k + 1)) by omega)]; exact (if_neg h2).symm
theorem zeroP_zero (mem : Nat → Nat) (b : Nat) : zeroP' mem b 0 = mem := by funext a; unfold zeroP'; rw [if_neg (by omega)]
theorem zeroP_all (mem : Nat → Nat) (f : Nat) : zeroP' mem (f * 4096) 4096 = zeroF mem f := by
  funext a
  unfold zeroP' zeroF
  by_cases h : a / 4096 = f
  · rw [if_pos h, if_pos (by omega)]
  · rw [if_neg h, if_neg (by omega)]
def copyP (mem : Nat → Nat) (b c k : Nat) : Nat → Nat := fun a => if b ≤ a ∧ a < b + k then mem (c + (a - b)) else mem a
theorem copyP_succ (mem : Nat → Nat) (b c k : Nat) : copyP mem b c (k + 1) = updB (copyP mem b c k) (b + k) (mem (c + k)) := by
  funext a
  unfold copyP updB
  by_cases h : a = b + k
  · subst h; rw [if_pos rfl, if_pos (show b ≤ b + k ∧ b + k < b + (k + 1) by omega), Nat.add_sub_cancel_left]
  · rw [if_neg h]
    by_cases h2 : b ≤ a ∧ a < b + k
    · rw [if_pos (show b ≤ a ∧ a < b + (k + 1) by omega)]; exact (if_pos h2).symm
    · rw [if_neg (show ¬ (b ≤ a ∧ a < b + (k + 1)) by omega)]; exact (if_neg h2).symm
theorem copyP_zero (mem : Nat → Nat) (b c : Nat) : copyP mem b c 0 = mem := by funext a; unfold copyP; rw [if_neg (by omega)]
theorem copyP_all (mem : Nat → Nat) (t f : Nat) : copyP mem (t * 4096) (f * 4096) 4096 = copyF mem t f := by
  funext a
  unfold copyP copyF
  by_cases h : a / 4096 = t
  · rw [if_pos h, if_pos (by omega), show a - t * 4096 = a % 4096 by omega]
  · rw [if_neg h, if_neg (by omega)]
theorem copyP_read (mem : Nat → Nat) (t f k : Nat) (hk : k < 4096) : copyP mem (t * 4096) (f * 4096) k (f * 4096 + k) = mem (f * 4096 + k) := by
  unfold copyP
  rw [if_neg (by omega)]
theorem mul_wrap {f : Nat} (h : f < 1048576) : IntKind.u64.wrap ((f : Int) * 4096) = ((f * 4096 : Nat) : Int) := by rw [IntKind.wrap_u64]; omega
set_option maxRecDepth 10000 in
set_option maxHeartbeats 1000000 in
theorem rZero_any {w : World} {v : Value} {mb : Nat} {mem : Nat → Nat} (h : RB w mb mem) (hv : v.oneCell' = true) (n : Int) (f : Nat) (hf : f < 1048576) :
    Calls Try.prog 22 #[rV n v mb, .int .i64 f] w fun e w' => e = .returned (.tuple #[]) ∧ TM mb w w' ∧ RB w' mb (zeroF mem f) := by
  have H := Lib.hid h
  have hmb := h.lt
  obtain ⟨F, hF⟩ : ∃ F, F = f * 4096 := ⟨_, rfl⟩
  have HF := Lib.hid hF
  have hFl : F ≤ 4294963200 := by omega
  have p0 : IntKind.u64.wrap (f : Int) = f := wrap_nat (by omega)
  have p1 : IntKind.u64.wrap ((f : Int) * 4096) = (F : Int) := by rw [hF]; exact mul_wrap hf
  have HFL := Lib.hid hFl
  clear h hf hF hFl
  go_enter Try.func22, Try.ntmps22
  go_wp2_with fail
  obtain ⟨w1, hw1⟩ : ∃ w1, w1 = w.alloc (.cells #[.int .i64 n, v, .map (some mb)] 40) := ⟨_, rfl⟩
  have k3 : w1.heap[w.heap.size]? = some (.cells #[.int .i64 n, v, .map (some mb)] 40 (0, 0)) := by rw [hw1]; exact heap_new _ _
  have hB1 : Hid (Below w.heap.size w w1) := Lib.hid (by rw [hw1]; exact (Below.refl _ _).alloc (Nat.le_refl _) _)
  have hR1 := Lib.hid (H.out.below hB1.out)
  have HT1 : Hid (TM mb w w1) := Lib.hid (Touch.of_below hB1.out _)
  rw [← hw1]
  have K3 := Lib.hid k3
  clear hw1 k3
  go_loopw [4] (fun i wr => ∃ k : Nat, i = .int .i64 k ∧ k ≤ 4096 ∧ TM mb w wr ∧ wr.heap[w.heap.size]? = some (.cells #[.int .i64 n, v, .map (some mb)] 40 (0, 0)) ∧ RB wr mb (zeroP' mem F k)) (fun i _ => 4096 - (intOf i).toNat)
  case atStart => exact ⟨0, rfl, by omega, HT1.out, K3.out, by rw [zeroP_zero]; exact hR1.out⟩
  case round =>
    obtain ⟨k, rfl, hle, hT, k3, hR⟩ := hrel
    by_cases hlt : k < 4096
    · have f0 : decide ((k : Int) < 4096) = true := decide_eq_true (by omega)
      have f1 : decide (k < 4096) = true := decide_eq_true hlt
      have c2 : wr.cell? ⟨w.heap.size, 2, none⟩ = some (.map (some mb)) := cell_heap k3 2
      obtain ⟨an, han⟩ : ∃ an, an = F + k := ⟨_, rfl⟩
      have q0 : IntKind.u64.wrap (k : Int) = k := wrap_nat (by omega)
      have q1 : IntKind.u64.wrap ((F : Int) + k) = (an : Int) := by rw [han]; exact addr_wrap' (by have := HFL.out; omega)
      obtain ⟨o, hd, hR'⟩ := hR.del an
      have HM : Hid (RB (setBlock wr mb o) mb (zeroP' mem F (k + 1))) := Lib.hid (by rw [zeroP_succ, ← han]; exact hR')
      have HT2 : Hid (TM mb w (setBlock wr mb o)) := Lib.hid (hT.setBlock (.inl rfl) o)
      have HK2 : Hid ((setBlock wr mb o).heap[w.heap.size]? = some (.cells #[.int .i64 n, v, .map (some mb)] 40 (0, 0))) := Lib.hid (by rw [setBlock_far (hR.ne k3)]; exact k3)
      clear hR' hR hT k3 han
      go_wp2_with fail
      go_roundw
      case rel => exact ⟨k + 1, by go_num, by omega, HT2.out, HK2.out, HM.out⟩
      case measure => simp [intOf]; omega
    · have f0 : decide ((k : Int) < 4096) = false := decide_eq_false (by omega)
      have f1 : decide (k < 4096) = false := decide_eq_false hlt
      obtain rfl : k = 4096 := by omega
      have HR := Lib.hid hR
      have HT := Lib.hid hT
      clear hR hT k3
      go_wp2
      go_returns
      exact ⟨rfl, HT.out, by rw [← zeroP_all, ← HF.out]; exact HR.out⟩
set_option maxRecDepth 10000 in
set_option maxHeartbeats 2000000 in
theorem rCopy_any {w : World} {v : Value} {mb : Nat} {mem : Nat → Nat} (h : RB w mb mem) (hby : ∀ a, mem a < 256) (hv : v.oneCell' = true) (n : Int) (t f : Nat) (ht : t < 1048576) (hf : f < 1048576) :
    Calls Try.prog 24 #[rV n v mb, .int .i64 t, .int .i64 f] w fun e w' => e = .returned (.tuple #[]) ∧ TM mb w w' ∧ RB w' mb (copyF mem t f) := by
  have H := Lib.hid h
  have HBY := Lib.hid hby
  have hmb := h.lt
  obtain ⟨F, hF⟩ : ∃ F, F = f * 4096 := ⟨_, rfl⟩
  obtain ⟨T, hT0⟩ : ∃ F, F = t * 4096 := ⟨_, rfl⟩
  have HF := Lib.hid hF
  have HT0 := Lib.hid hT0
  have HL : Hid (F ≤ 4294963200 ∧ T ≤ 4294963200) := Lib.hid (by omega)
  have p0 : IntKind.u64.wrap (f : Int) = f := wrap_nat (by omega)
  have p1 : IntKind.u64.wrap ((f : Int) * 4096) = (F : Int) := by rw [hF]; exact mul_wrap hf
  have p2 : IntKind.u64.wrap (t : Int) = t := wrap_nat (by omega)
  have p3 : IntKind.u64.wrap ((t : Int) * 4096) = (T : Int) := by rw [hT0]; exact mul_wrap ht
  clear h hf hF hby hT0 ht
  go_enter Try.func24, Try.ntmps24
  go_wp2_with fail
  obtain ⟨w1, hw1⟩ : ∃ w1, w1 = w.alloc (.cells #[.int .i64 n, v, .map (some mb)] 40) := ⟨_, rfl⟩
  have k3 : w1.heap[w.heap.size]? = some (.cells #[.int .i64 n, v, .map (some mb)] 40 (0, 0)) := by rw [hw1]; exact heap_new _ _
  have hB1 : Hid (Below w.heap.size w w1) := Lib.hid (by rw [hw1]; exact (Below.refl _ _).alloc (Nat.le_refl _) _)
  have hR1 := Lib.hid (H.out.below hB1.out)
  have HT1 : Hid (TM mb w w1) := Lib.hid (Touch.of_below hB1.out _)
  rw [← hw1]
  have K3 := Lib.hid k3
  clear hw1 k3
  go_loopw [6] (fun i wr => ∃ k : Nat, i = .int .u64 k ∧ k ≤ 4096 ∧ TM mb w wr ∧ wr.heap[w.heap.size]? = some (.cells #[.int .i64 n, v, .map (some mb)] 40 (0, 0)) ∧ RB wr mb (copyP mem T F k)) (fun i _ => 4096 - (intOf i).toNat)
  case atStart => exact ⟨0, rfl, by omega, HT1.out, K3.out, by rw [copyP_zero]; exact hR1.out⟩
  case round =>
    obtain ⟨k, rfl, hle, hT, k3, hR⟩ := hrel
    by_cases hlt : k < 4096
    · have f0 : decide ((k : Int) < 4096) = true := decide_eq_true (by omega)
      have f1 : decide (k < 4096) = true := decide_eq_true hlt
      have c2 : wr.cell? ⟨w.heap.size, 2, none⟩ = some (.map (some mb)) := cell_heap k3 2
      obtain ⟨an, han⟩ : ∃ an, an = F + k := ⟨_, rfl⟩
      obtain ⟨at_, hat⟩ : ∃ an, an = T + k := ⟨_, rfl⟩
      have q1 : IntKind.u64.wrap ((F : Int) + k) = (an : Int) := by rw [han]; exact addr_wrap' (by have := HL.out; omega)
      have q2 : IntKind.u64.wrap ((T : Int) + k) = (at_ : Int) := by rw [hat]; exact addr_wrap' (by have := HL.out; omega)
      have q3 : IntKind.u64.wrap ((k : Int) + 1) = ((k + 1 : Nat) : Int) := addr_wrap' (y := 1) (by omega)
      have hlk := hR.look an
      have hrd : copyP mem T F k an = mem an := by rw [han, HF.out, HT0.out]; exact copyP_read mem t f k hlt
      rw [hrd] at hlk
      have hb256 : mem an < 256 := HBY.out an
      obtain ⟨bx, hbx⟩ : ∃ b, b = mem an := ⟨_, rfl⟩
      rw [← hbx] at hlk hb256
      have HSUC : Hid (copyP mem T F (k + 1) = updB (copyP mem T F k) at_ bx) := Lib.hid (by rw [copyP_succ, ← hat, hbx, han])
      by_cases hz : bx = 0
      · have z1 : (bx == 0) = true := by rw [hz]; rfl
        have z2 : ((bx : Int) == 0) = true := by rw [hz]; rfl
        obtain ⟨o, hd, hR'⟩ := hR.del at_
        have HM : Hid (RB (setBlock wr mb o) mb (copyP mem T F (k + 1))) := Lib.hid (by rw [HSUC.out, hz]; exact hR')
        have HT2 : Hid (TM mb w (setBlock wr mb o)) := Lib.hid (hT.setBlock (.inl rfl) o)
        have HK2 : Hid ((setBlock wr mb o).heap[w.heap.size]? = some (.cells #[.int .i64 n, v, .map (some mb)] 40 (0, 0))) := Lib.hid (by rw [setBlock_far (hR.ne k3)]; exact k3)
        clear hR' hR hT k3 han hat hrd hbx hz hb256
        go_wp2_with fail
        go_roundw
        case rel => exact ⟨k + 1, by go_num, by omega, HT2.out, HK2.out, HM.out⟩
        case measure => simp [intOf]; omega
      · have z1 : (bx == 0) = false := beq_false_of_ne hz
        have z2 : ((bx : Int) == 0) = false := beq_false_of_ne (by omega)
        obtain ⟨o, hmu, hR'⟩ := hR.put at_ bx
        have HM : Hid (RB (setBlock wr mb o) mb (copyP mem T F (k + 1))) := Lib.hid (by rw [HSUC.out]; exact hR')
        have HT2 : Hid (TM mb w (setBlock wr mb o)) := Lib.hid (hT.setBlock (.inl rfl) o)
        have HK2 : Hid ((setBlock wr mb o).heap[w.heap.size]? = some (.cells #[.int .i64 n, v, .map (some mb)] 40 (0, 0))) := Lib.hid (by rw [setBlock_far (hR.ne k3)]; exact k3)
        clear hR' hR hT k3 han hat hrd hbx hz hb256
        go_wp2_with fail
        go_roundw
        case rel => exact ⟨k + 1, by go_num, by omega, HT2.out, HK2.out, HM.out⟩
        case measure => simp [intOf]; omega
    · have f0 : decide ((k : Int) < 4096) = false := decide_eq_false (by omega)
      have f1 : decide (k < 4096) = false := decide_eq_false hlt
      obtain rfl : k = 4096 := by omega
      have HR := Lib.hid hR
      have HT := Lib.hid hT
      clear hR hT k3
      go_wp2
      go_returns
      exact ⟨rfl, HT.out, by rw [← copyP_all, ← HF.out, ← HT0.out]; exact HR.out⟩
def clearP (mem : Nat → Nat) (b k : Nat) : Bool := (List.range k).all fun i => mem (b + i) == 0
theorem clearP_succ (mem : Nat → Nat) (b k : Nat) : clearP mem b (k + 1) = (clearP mem b k && (mem (b + k) == 0)) := by
  unfold clearP; rw [List.range_succ, List.all_append]; simp
set_option maxRecDepth 10000 in
set_option maxHeartbeats 2000000 in
theorem rClear_any {w : World} {v : Value} {mb : Nat} {mem : Nat → Nat} (h : RB w mb mem) (hv : v.oneCell' = true) (n : Int) (f : Nat) (hf : f < 1048576) :
    Calls Try.prog 26 #[rV n v mb, .int .i64 f] w fun e w' => e = .returned (.bool (clearF mem f)) ∧ Below w.heap.size w w' := by
  have H := Lib.hid h
  obtain ⟨F, hF⟩ : ∃ F, F = f * 4096 := ⟨_, rfl⟩
  have HF := Lib.hid hF
  have HFL : Hid (F ≤ 4294963200) := Lib.hid (by omega)
  have p0 : IntKind.u64.wrap (f : Int) = f := wrap_nat (by omega)
  have p1 : IntKind.u64.wrap ((f : Int) * 4096) = (F : Int) := by rw [hF]; exact mul_wrap hf
  clear h hf hF
  go_enter Try.func26, Try.ntmps26
  go_wp2_with fail
  obtain ⟨w1, hw1⟩ : ∃ w1, w1 = w.alloc (.cells #[.int .i64 n, v, .map (some mb)] 40) := ⟨_, rfl⟩
  have k3 : w1.heap[w.heap.size]? = some (.cells #[.int .i64 n, v, .map (some mb)] 40 (0, 0)) := by rw [hw1]; exact heap_new _ _
  have hB1 : Hid (Below w.heap.size w w1) := Lib.hid (by rw [hw1]; exact (Below.refl _ _).alloc (Nat.le_refl _) _)
  have hR1 := Lib.hid (H.out.below hB1.out)
  have c2 : w1.cell? ⟨w.heap.size, 2, none⟩ = some (.map (some mb)) := cell_heap k3 2
  rw [← hw1]
  clear hw1 k3
  go_loopw [5, 6] (fun c i wr => ∃ k : Nat, i = .int .u64 k ∧ k ≤ 4096 ∧ wr = w1 ∧ c = .bool (clearP mem F k)) (fun _ i _ => 4096 - (intOf i).toNat)
  case atStart => exact ⟨0, rfl, by omega, rfl, rfl⟩
  case round =>
    obtain ⟨k, rfl, hle, rfl, rfl⟩ := hrel
    by_cases hlt : k < 4096
    · have f0 : decide ((k : Int) < 4096) = true := decide_eq_true (by omega)
      have f1 : decide (k < 4096) = true := decide_eq_true hlt
      have q3 : IntKind.u64.wrap ((k : Int) + 1) = ((k + 1 : Nat) : Int) := addr_wrap' (y := 1) (by omega)
      have HSUC := Lib.hid (clearP_succ mem F k)
      cases hc : clearP mem F k with
      | false =>
        have HC := Lib.hid hc
        clear hc
        go_wp2_with fail
        go_roundw
        case rel => exact ⟨k + 1, by go_num, by omega, trivial, by rw [HSUC.out, HC.out]; rfl⟩
        case measure => simp [intOf]; omega
      | true =>
        have HC := Lib.hid hc
        obtain ⟨an, han⟩ : ∃ an, an = F + k := ⟨_, rfl⟩
        have q1 : IntKind.u64.wrap ((F : Int) + k) = (an : Int) := by rw [han]; exact addr_wrap' (by have := HFL.out; omega)
        have hlk := hR1.out.look an
        obtain ⟨bx, hbx⟩ : ∃ b, b = mem an := ⟨_, rfl⟩
        rw [← hbx] at hlk
        have HBX := Lib.hid hbx
        have HAN := Lib.hid han
        clear hc han hbx
        by_cases hz : bx = 0
        · have z1 : (bx == 0) = true := by rw [hz]; rfl
          have z2 : ((bx : Int) == 0) = true := by rw [hz]; rfl
          have HZ := Lib.hid z1
          clear hz
          go_wp2_with fail
          go_roundw
          case rel => exact ⟨k + 1, by go_num, by omega, trivial, by rw [HSUC.out, HC.out, ← HAN.out, ← HBX.out, HZ.out]; rfl⟩
          case measure => simp [intOf]; omega
        · have z1 : (bx == 0) = false := beq_false_of_ne hz
          have z2 : ((bx : Int) == 0) = false := beq_false_of_ne (by omega)
          have HZ := Lib.hid z1
          clear hz
          go_wp2_with fail
          go_roundw
          case rel => exact ⟨k + 1, by go_num, by omega, trivial, by rw [HSUC.out, HC.out, ← HAN.out, ← HBX.out, HZ.out]; rfl⟩
          case measure => simp [intOf]; omega
    · have f0 : decide ((k : Int) < 4096) = false := decide_eq_false (by omega)
      have f1 : decide (k < 4096) = false := decide_eq_false hlt
      obtain rfl : k = 4096 := by omega
      have HCL : Hid (clearP mem F 4096 = clearF mem f) := Lib.hid (by rw [HF.out]; rfl)
      obtain ⟨c, hc⟩ : ∃ c, c = clearP mem F 4096 := ⟨_, rfl⟩
      rw [← hc] at HCL ⊢
      clear hc
      go_wp2
      go_returns
      exact ⟨ret_v (by rw [← HCL.out]; rfl), hB1.out⟩
end Go.Proofs.Ytnjjeedalmikaaa
