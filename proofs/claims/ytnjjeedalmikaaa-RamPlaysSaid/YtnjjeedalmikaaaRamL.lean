/- The plain laws of bytes: what is stored is loaded, what is cleared is clear. No condition. -/
import Derived.Test.YtnjjeedalmikaaaRamK
namespace Go.Proofs.Ytnjjeedalmikaaa
open Go.ChangeShapes Go.WideShapes Go.ChangeAt Go.RowKit
set_option linter.unusedVariables false
set_option linter.unusedSimpArgs false
theorem u64_bd {x : Int} (h : (Lit.int .u64 x).wf = true) : 0 ≤ x ∧ x < 18446744073709551616 := by
  simp [Lit.wf, IntKind.min, IntKind.max, IntKind.signed, IntKind.bits] at h
  omega
theorem i64_bd {x : Int} (h : (Lit.int .i64 x).wf = true) : -9223372036854775808 ≤ x ∧ x ≤ 9223372036854775807 := by
  simp [Lit.wf, IntKind.min, IntKind.max, IntKind.signed, IntKind.bits] at h
  omega
theorem loadF_congr : ∀ (s : Nat) {m1 m2 : Nat → Nat} {a a' : Nat}, (∀ j, j < s → m1 (a + j) = m2 (a' + j)) → loadF m1 a s = loadF m2 a' s
  | 0, _, _, _, _, _ => rfl
  | s + 1, m1, m2, a, a', h => by
    have h0 := h 0 (by omega)
    have ih := loadF_congr s (m1 := m1) (m2 := m2) (a := a + 1) (a' := a' + 1) (fun j hj => by
      have := h (j + 1) (by omega)
      rwa [show a + 1 + j = a + (j + 1) by omega, show a' + 1 + j = a' + (j + 1) by omega])
    unfold loadF
    rw [ih]
    simp only [Nat.add_zero] at h0
    rw [h0]
theorem loadF_bytes : ∀ (s : Nat) {m : Nat → Nat} {a x : Nat}, (∀ j, j < s → m (a + j) = x / 256 ^ j % 256) → loadF m a s = x % 256 ^ s
  | 0, _, _, x, _ => by simp [loadF, Nat.mod_one]
  | s + 1, m, a, x, h => by
    have h0 := h 0 (by omega)
    have ih := loadF_bytes s (m := m) (a := a + 1) (x := x / 256) (fun j hj => by
      have := h (j + 1) (by omega)
      rw [show a + 1 + j = a + (j + 1) by omega, this, Nat.pow_succ, Nat.mul_comm, Nat.div_div_eq_div_mul])
    unfold loadF
    rw [ih]
    simp only [Nat.add_zero, Nat.pow_zero, Nat.div_one] at h0
    rw [h0, Nat.pow_succ, Nat.mul_comm (256 ^ s) 256, Nat.mod_mul]
theorem load_same (m : Nat → Nat) (a s x : Nat) : loadF (storeF m a s x) a s = x % 256 ^ s := loadF_bytes s fun j hj => by
  unfold storeF
  rw [if_pos ⟨by omega, by omega⟩, Nat.add_sub_cancel_left]
theorem load_far (m : Nat → Nat) (a s x a' s' : Nat) (h : a' + s' ≤ a ∨ a + s ≤ a') : loadF (storeF m a s x) a' s' = loadF m a' s' := loadF_congr s' fun j hj => by
  unfold storeF
  rw [if_neg (by omega)]
theorem load_zero (s a : Nat) : loadF (fun _ => 0) a s = 0 := by
  induction s generalizing a with
  | zero => rfl
  | succ s ih => unfold loadF; rw [ih]
theorem load_zeroF (m : Nat → Nat) (f a s : Nat) (h : f * 4096 ≤ a) (h2 : a + s ≤ (f + 1) * 4096) : loadF (zeroF m f) a s = 0 := by
  rw [← load_zero s a]
  exact loadF_congr s fun j hj => by unfold zeroF; rw [if_pos (by omega)]
theorem load_zeroF_far (m : Nat → Nat) (f a s : Nat) (h : a + s ≤ f * 4096 ∨ (f + 1) * 4096 ≤ a) : loadF (zeroF m f) a s = loadF m a s :=
  loadF_congr s fun j hj => by unfold zeroF; rw [if_neg (by omega)]
theorem load_copyF (m : Nat → Nat) (t f o s : Nat) (h : o + s ≤ 4096) : loadF (copyF m t f) (t * 4096 + o) s = loadF m (f * 4096 + o) s :=
  loadF_congr s fun j hj => by
    unfold copyF
    rw [if_pos (by omega), show (t * 4096 + o + j) % 4096 = o + j by omega, Nat.add_assoc]
theorem load_copyF_far (m : Nat → Nat) (t f a s : Nat) (h : a + s ≤ t * 4096 ∨ (t + 1) * 4096 ≤ a) : loadF (copyF m t f) a s = loadF m a s :=
  loadF_congr s fun j hj => by unfold copyF; rw [if_neg (by omega)]
theorem clear_iff (m : Nat → Nat) (f : Nat) : clearF m f = true ↔ ∀ i, i < 4096 → m (f * 4096 + i) = 0 := by
  unfold clearF
  rw [List.all_eq_true]
  exact ⟨fun h i hi => by simpa using h i (List.mem_range.2 hi), fun h i hi => by simpa using h i (List.mem_range.1 hi)⟩
theorem clear_zeroF (m : Nat → Nat) (f : Nat) : clearF (zeroF m f) f = true := (clear_iff _ _).2 fun i hi => by unfold zeroF; rw [if_pos (by omega)]
/-- A frame that holds one number. -/
theorem clear_one (m : Nat → Nat) (f o s x : Nat) (h : o + s ≤ 4096) (hm : ∀ i, i < 4096 → m (f * 4096 + i) = if o ≤ i ∧ i < o + s then x / 256 ^ (i - o) % 256 else 0) : clearF m f = (x % 256 ^ s == 0) := by
  have hx : loadF m (f * 4096 + o) s = x % 256 ^ s := loadF_bytes s fun j hj => by
    rw [Nat.add_assoc, hm (o + j) (by omega), if_pos (by omega), Nat.add_sub_cancel_left]
  by_cases h0 : x % 256 ^ s = 0
  · rw [h0]
    refine (clear_iff _ _).2 fun i hi => ?_
    rw [hm i hi]
    split
    · rename_i h1
      have hd : 256 ^ s ∣ x := Nat.dvd_of_mod_eq_zero h0
      obtain ⟨q, rfl⟩ := hd
      have e : 256 ^ s = 256 ^ (i - o) * (256 * 256 ^ (s - (i - o) - 1)) := by
        rw [← Nat.pow_succ', ← Nat.pow_add]; congr 1; omega
      rw [e, Nat.mul_assoc, Nat.mul_div_cancel_left _ (Nat.pow_pos (by decide)), Nat.mul_assoc, Nat.mul_mod_right]
    · rfl
  · rw [beq_false_of_ne h0]
    cases hc : clearF m f with
    | false => rfl
    | true =>
      exfalso
      have := (clear_iff _ _).1 hc
      apply h0
      rw [← hx, ← load_zero s (f * 4096 + o)]
      exact loadF_congr s fun j hj => by rw [Nat.add_assoc]; exact this (o + j) (by omega)
theorem errF_in {n : Int} {addr size : Int} (hs : size = 1 ∨ size = 2 ∨ size = 4 ∨ size = 8) (h0 : 0 ≤ addr) (h : addr + size ≤ n * 4096) (hn : n ≤ 1048576) : errF n [] addr size = 0 := by
  have e1 : hasF n [] (addr / 4096) = true := by simp [hasF]; omega
  have e2 : hasF n [] ((addr + size - 1) / 4096) = true := by simp [hasF]; omega
  unfold errF
  rw [if_pos hs, if_pos ⟨by omega, by omega, e1, e2⟩]
end Go.Proofs.Ytnjjeedalmikaaa
