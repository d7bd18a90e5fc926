/- The plain laws of bytes of layer 1, for the statements through several layers. No condition. -/
import Derived.Test.YtjjanbioabllhaaRamG
namespace Go.Proofs.Ytjjanbioabllhaa
open Go.ChangeShapes Go.WideShapes Go.ChangeAt Go.RowKit
set_option linter.unusedVariables false
set_option linter.unusedSimpArgs false
theorem HL.nil (w : World) (base : Nat) : HL w base (.slice none 0 0) [] := World.ownsRow_nil _ _ _ _
theorem new_good {w : World} {v : Value} {hs : Hs} (h : HL w 0 v hs) (hl : hs.length < 4611686018427387904) (n : Int) (hc : checkF n hs = 0) :
    Calls Try.prog 6 #[.int .i64 n, v] w fun e w' => ∃ b m, e = .returned (.tuple #[ptr b, .int .i64 0]) ∧ RamAt w' w.heap.size b m n hs (fun _ => 0) ∧ Below w.heap.size w w' :=
  (new_any h hl n).mono fun e w' h => by
    rcases h with ⟨⟨h1, _⟩ | ⟨_, b, m, h2, h3⟩, h4⟩
    · exact absurd hc h1
    · exact ⟨b, m, h2, h3, h4⟩
theorem u64_bd {x : Int} (h : (Lit.int .u64 x).wf = true) : 0 ≤ x ∧ x < 18446744073709551616 := by
  simp [Lit.wf, IntKind.min, IntKind.max, IntKind.signed, IntKind.bits] at h
  omega
theorem i64_bd {x : Int} (h : (Lit.int .i64 x).wf = true) : -9223372036854775808 ≤ x ∧ x ≤ 9223372036854775807 := by
  simp [Lit.wf, IntKind.min, IntKind.max, IntKind.signed, IntKind.bits] at h
  omega
theorem loadF_congr : ∀ (s : Nat) {m1 m2 : Nat → Nat} {a a' : Nat}, (∀ j, j < s → m1 (a + j) = m2 (a' + j)) → loadF m1 a s = loadF m2 a' s
  | 0, _, _, _, _, _ => rfl
  | s + 1, m1, m2, a, a', h => by
    have h0 := h 0 (by omega)
    have ih := loadF_congr s (m1 := m1) (m2 := m2) (a := a + 1) (a' := a' + 1) (fun j hj => by
      have := h (j + 1) (by omega)
      rwa [show a + 1 + j = a + (j + 1) by omega, show a' + 1 + j = a' + (j + 1) by omega])
    unfold loadF
    rw [ih]
    simp only [Nat.add_zero] at h0
    rw [h0]
theorem loadF_bytes : ∀ (s : Nat) {m : Nat → Nat} {a x : Nat}, (∀ j, j < s → m (a + j) = x / 256 ^ j % 256) → loadF m a s = x % 256 ^ s
  | 0, _, _, x, _ => by simp [loadF, Nat.mod_one]
  | s + 1, m, a, x, h => by
    have h0 := h 0 (by omega)
    have ih := loadF_bytes s (m := m) (a := a + 1) (x := x / 256) (fun j hj => by
      have := h (j + 1) (by omega)
      rw [show a + 1 + j = a + (j + 1) by omega, this, Nat.pow_succ, Nat.mul_comm, Nat.div_div_eq_div_mul])
    unfold loadF
    rw [ih]
    simp only [Nat.add_zero, Nat.pow_zero, Nat.div_one] at h0
    rw [h0, Nat.pow_succ, Nat.mul_comm (256 ^ s) 256, Nat.mod_mul]
theorem load_same (m : Nat → Nat) (a s x : Nat) : loadF (storeF m a s x) a s = x % 256 ^ s := loadF_bytes s fun j hj => by
  unfold storeF
  rw [if_pos ⟨by omega, by omega⟩, Nat.add_sub_cancel_left]
theorem load_far (m : Nat → Nat) (a s x a' s' : Nat) (h : a' + s' ≤ a ∨ a + s ≤ a') : loadF (storeF m a s x) a' s' = loadF m a' s' := loadF_congr s' fun j hj => by
  unfold storeF
  rw [if_neg (by omega)]
theorem load_zero (s a : Nat) : loadF (fun _ => 0) a s = 0 := by
  induction s generalizing a with
  | zero => rfl
  | succ s ih => unfold loadF; rw [ih]
theorem errF_in {n : Int} {addr size : Int} (hs : size = 1 ∨ size = 2 ∨ size = 4 ∨ size = 8) (h0 : 0 ≤ addr) (h : addr + size ≤ n * 4096) (hn : n ≤ 1048576) : errF n [] addr size = 0 := by
  have e1 : hasF n [] (addr / 4096) = true := by simp [hasF]; omega
  have e2 : hasF n [] ((addr + size - 1) / 4096) = true := by simp [hasF]; omega
  unfold errF
  rw [if_pos hs, if_pos ⟨by omega, by omega, e1, e2⟩]
theorem store_in {w : World} {base b m : Nat} {n : Int} {mem : Nat → Nat} (h : RamAt w base b m n [] mem) (addr x : Nat) (s : Nat) (hs : s = 1 ∨ s = 2 ∨ s = 4 ∨ s = 8) (h1 : (addr : Int) + s ≤ n * 4096) (hx : x < 18446744073709551616) :
    Calls Try.prog 7 #[ptr b, .int .u64 addr, .int .i64 s, .int .u64 x] w fun e w' => e = .returned (.int .i64 0) ∧ RT base m w w' ∧ RamAt w' base b m n [] (storeF mem addr s x) := by
  have := h.n1
  have hE : errF n [] (addr : Int) (s : Int) = 0 := errF_in (by omega) (by omega) h1 h.n1
  have := store_any h addr x s (by omega) hx
  rwa [hE, if_pos rfl, Int.toNat_natCast] at this
theorem load_in {w : World} {base b m : Nat} {n : Int} {mem : Nat → Nat} (h : RamAt w base b m n [] mem) (addr : Nat) (s : Nat) (hs : s = 1 ∨ s = 2 ∨ s = 4 ∨ s = 8) (h1 : (addr : Int) + s ≤ n * 4096) :
    Calls Try.prog 8 #[ptr b, .int .u64 addr, .int .i64 s] w fun e w' => e = .returned (.tuple #[.int .u64 (loadF mem addr s : Nat), .int .i64 0]) ∧ Below w.heap.size w w' := by
  have := h.n1
  have hE : errF n [] (addr : Int) (s : Int) = 0 := errF_in (by omega) (by omega) h1 h.n1
  have := load_any h addr s (by omega)
  unfold loadR at this
  rwa [hE, if_pos rfl, Int.toNat_natCast] at this
theorem store8 {w : World} {base b m : Nat} {n : Int} {mem : Nat → Nat} (h : RamAt w base b m n [] mem) (addr x : Nat) (h1 : (addr : Int) + 8 ≤ n * 4096) (hx : x < 18446744073709551616) :
    Calls Try.prog 7 #[ptr b, .int .u64 addr, .int .i64 8, .int .u64 x] w fun e w' => e = .returned (.int .i64 0) ∧ RT base m w w' ∧ RamAt w' base b m n [] (storeF mem addr 8 x) := store_in h addr x 8 (by omega) h1 hx
theorem load8 {w : World} {base b m : Nat} {n : Int} {mem : Nat → Nat} (h : RamAt w base b m n [] mem) (addr : Nat) (h1 : (addr : Int) + 8 ≤ n * 4096) :
    Calls Try.prog 8 #[ptr b, .int .u64 addr, .int .i64 8] w fun e w' => e = .returned (.tuple #[.int .u64 (loadF mem addr 8 : Nat), .int .i64 0]) ∧ Below w.heap.size w w' := load_in h addr 8 (by omega) h1
end Go.Proofs.Ytjjanbioabllhaa
