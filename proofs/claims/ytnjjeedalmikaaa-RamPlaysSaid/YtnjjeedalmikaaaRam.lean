/- The memory of layer 1 told by plain things: its holes a list of pairs, its pages the bytes of a plain function. No condition. -/
import Derived.Test.YtnjjeedalmikaaaTouchB
import Derived.Test.YtnjjeedalmikaaaApp
import Derived.Laws.OwnMore
import Derived.Laws.Tables
import Derived.Laws.Rows
import Derived.OwnWalk
import Derived.Lib.Hide
import Derived.Deep.WholeRow
namespace Go.Proofs.Ytnjjeedalmikaaa
open Go.ChangeShapes Go.WideShapes Go.ChangeAt Go.RowKit
open Go.ChangeMaps (setBlock heap_setBlock_same heap_setBlock_other)
set_option linter.unusedVariables false
set_option linter.unusedSimpArgs false

/-! ### the holes -/
abbrev Hs := List (Int × Int)
def pcells : Hs → List Value
  | [] => []
  | g :: r => .int .i64 g.1 :: .int .i64 g.2 :: pcells r
theorem pcells_length : ∀ L, (pcells L).length = L.length * 2
  | [] => rfl
  | g :: r => by simp [pcells, pcells_length r]; omega
theorem pcells_at : ∀ (L : Hs) (k : Nat) (g : Int × Int), L[k]? = some g → (pcells L)[k * 2]? = some (.int .i64 g.1) ∧ (pcells L)[k * 2 + 1]? = some (.int .i64 g.2)
  | [], k, g, h => by simp at h
  | x :: r, 0, g, h => by simp at h; subst h; exact ⟨rfl, rfl⟩
  | x :: r, k + 1, g, h => by
    have := pcells_at r k g (by simpa using h)
    rw [show (k + 1) * 2 = k * 2 + 1 + 1 by omega]
    simpa [pcells] using this
theorem pcells_one : ∀ (L : Hs), ∀ u ∈ pcells L, u.oneCell' = true
  | [], u, h => by simp [pcells] at h
  | g :: r, u, h => by
    simp only [pcells, List.mem_cons] at h
    rcases h with rfl | rfl | h
    · rfl
    · rfl
    · exact pcells_one r u h
def HL (w : World) (base : Nat) (v : Value) (L : Hs) : Prop := w.ownsRow base 33 2 v L.length (pcells L)
theorem HL.cell {w : World} {base : Nat} {v : Value} {L : Hs} (h : HL w base v L) {k : Nat} {g : Int × Int} (hk : L[k]? = some g) :
    ∃ b cap, v = .slice (some ⟨b, 0, none⟩) L.length cap ∧ base ≤ b ∧ b < w.heap.size ∧ w.cell? ⟨b, k * 2, none⟩ = some (.int .i64 g.1) ∧ w.cell? ⟨b, k * 2 + 1, none⟩ = some (.int .i64 g.2) := by
  have hlt : k < L.length := (List.getElem?_eq_some_iff.1 hk).1
  have h' := h
  rcases h.2 with ⟨_, h0⟩ | ⟨b, cap, cur, rfl, hb, hg, _⟩
  · omega
  · obtain ⟨e0, e1⟩ := pcells_at L k g hk
    exact ⟨b, cap, rfl, hb, heap_lt hg, (World.ownsRow.cellAt h' _ (by omega)).trans e0, (World.ownsRow.cellAt h' _ (by omega)).trans e1⟩
theorem HL.form {w : World} {base : Nat} {v : Value} {L : Hs} (h : HL w base v L) : ∃ A cap, v = .slice A L.length cap := by
  rcases h.2 with ⟨h1, h0⟩ | ⟨b, cap, cur, rfl, _⟩
  · rw [h0]; exact ⟨none, 0, h1⟩
  · exact ⟨_, _, rfl⟩
theorem HL.heap {w w' : World} {base : Nat} {v : Value} {L : Hs} (h : HL w base v L) (hb : ∀ (b : Nat) (cur : Array Value), w.heap[b]? = some (Obj.cells cur 33 (0, 0)) → w'.heap[b]? = some (Obj.cells cur 33 (0, 0))) : HL w' base v L := by
  refine ⟨h.1, ?_⟩
  rcases h.2 with h1 | ⟨b, cap, cur, rfl, h2, hg, h3⟩
  · exact .inl h1
  · exact .inr ⟨b, cap, cur, rfl, h2, hb _ _ hg, h3⟩
theorem HL.below {w w' : World} {base : Nat} {v : Value} {L : Hs} (h : HL w base v L) (hb : Below w.heap.size w w') : HL w' base v L := HL.heap h fun b cur hg => (hb.block b (heap_lt hg)).trans hg
theorem HL.mono {w : World} {base base' : Nat} {v : Value} {L : Hs} (h : HL w base v L) (hb : base' ≤ base) : HL w base' v L := by
  refine ⟨h.1, ?_⟩
  rcases h.2 with h1 | ⟨b, cap, cur, rfl, h2, hg, h3⟩
  · exact .inl h1
  · exact .inr ⟨b, cap, cur, rfl, Nat.le_trans hb h2, hg, h3⟩
/-- Is a frame there? -/
def inH (f : Int) (h : Int × Int) : Bool := decide (h.1 ≤ f) && decide (f < h.2)
def hasF (n : Int) (hs : Hs) (f : Int) : Bool := decide (0 ≤ f) && (decide (f < n) && hs.all (fun h => !inH f h))
/-- The error of so many bytes at an address. -/
def errF (n : Int) (hs : Hs) (addr size : Int) : Int :=
  if size = 1 ∨ size = 2 ∨ size = 4 ∨ size = 8 then
    (if addr + size - 1 < 18446744073709551616 ∧ (addr + size - 1) / 4096 < n ∧ hasF n hs (addr / 4096) = true ∧ hasF n hs ((addr + size - 1) / 4096) = true then 0 else 2) else 1

/-! ### the pages -/
/-- Block g holds these 4096 bytes. -/
structure Page (W : World) (g : Nat) (c : Nat → Nat) : Prop where
  ex : ∃ cs : Array Value, W.heap[g]? = some (.cells cs 65 (0, 0)) ∧ cs.size = 4096 ∧ ∀ i, i < 4096 → cs[i]? = some (.int .u8 (c i))
abbrev ptr (g : Nat) : Value := .pointer (some ⟨g, 0, none⟩)
abbrev Pg := List (Int × Nat)
/-- The memory whose header is block b: n frames, the holes hs, the bytes mem; its own blocks lie from base on. -/
structure RamAt (W : World) (base b m : Nat) (n : Int) (hs : Hs) (mem : Nat → Nat) : Prop where
  ex : ∃ (v : Value) (L : Pg), W.heap[b]? = some (.cells #[.int .i64 n, v, .map (some m)] 60 (0, 0)) ∧ HL W base v hs ∧ MapAL W m (enc ptr L) ∧ (keys L).Nodup ∧
    (∀ k g, kget L k = some g → ∃ f : Nat, k = f ∧ base ≤ g ∧ Page W g (fun i => mem (f * 4096 + i))) ∧ (∀ f : Nat, kget L f = none → ∀ i, i < 4096 → mem (f * 4096 + i) = 0) ∧
    (∀ k k' g, kget L k = some g → kget L k' = some g → k = k')
  baseM : base ≤ m
  len : hs.length ≤ 64
  n0 : 0 < n
  n1 : n ≤ 1048576
  byte : ∀ a, mem a < 256
/-- A block that a store may change. -/
def PB (W : World) (k : Nat) : Prop := ∃ cs, W.heap[k]? = some (.cells cs 65 (0, 0))
structure RT (base m : Nat) (W W' : World) : Prop where
  t : Touch (fun k => base ≤ k ∧ (k = m ∨ PB W k)) W W'
theorem RT.refl (base m : Nat) (W : World) : RT base m W W := ⟨Touch.refl _ _⟩
theorem RT.trans {base m : Nat} {W W1 W2 : World} (h : RT base m W W1) (h2 : RT base m W1 W2) : RT base m W W2 := ⟨h.t.trans h2.t fun k ⟨h3, h4⟩ => by
  by_cases hs : base ≤ k ∧ (k = m ∨ PB W k)
  · exact .inl hs
  · rcases Nat.lt_or_ge k W.heap.size with hk | hk
    · rcases h4 with rfl | ⟨cs, hc⟩
      · exact .inl ⟨h3, .inl rfl⟩
      · rw [h.t.block k hk hs] at hc
        exact .inl ⟨h3, .inr ⟨cs, hc⟩⟩
    · exact .inr hk⟩
theorem RT.of_below {base m : Nat} {W W' : World} (h : Below W.heap.size W W') : RT base m W W' := ⟨Touch.of_below h _⟩
theorem RT.below {base m : Nat} {W0 W W' : World} (h0 : Below base W0 W) (hb : base ≤ W0.heap.size) (h : RT base m W W') : Below base W0 W' := Below.touch h0 h.t hb fun k hk => hk.1
theorem RT.heap {base m : Nat} {W W' : World} (h : RT base m W W') {k : Nat} {o : Obj} (hk : W.heap[k]? = some o) (h1 : k < base ∨ (k ≠ m ∧ ∀ cs, o ≠ .cells cs 65 (0, 0))) : W'.heap[k]? = some o :=
  h.t.heap hk (fun ⟨a, b⟩ => by
    rcases h1 with h1 | ⟨h1, h2⟩
    · omega
    · rcases b with rfl | ⟨cs, hc⟩
      · exact h1 rfl
      · rw [hk] at hc; exact h2 cs (Option.some.inj hc))
theorem RT.size {base m : Nat} {W W' : World} (h : RT base m W W') : W.heap.size ≤ W'.heap.size := h.t.size
theorem RamAt.lt {W : World} {base b m : Nat} {n : Int} {hs : Hs} {mem : Nat → Nat} (h : RamAt W base b m n hs mem) : b < W.heap.size := by
  obtain ⟨v, L, h1, _⟩ := h.ex; exact heap_lt h1
theorem RamAt.ltm {W : World} {base b m : Nat} {n : Int} {hs : Hs} {mem : Nat → Nat} (h : RamAt W base b m n hs mem) : m < W.heap.size := by
  obtain ⟨v, L, _, _, h1, _⟩ := h.ex; exact h1.lt
theorem Page.of_heap {W W' : World} {g : Nat} {c : Nat → Nat} (h : Page W g c) (hk : W'.heap[g]? = W.heap[g]?) : Page W' g c := by
  obtain ⟨cs, h1, h2⟩ := h.ex
  exact ⟨cs, hk.trans h1, h2⟩
theorem Page.lt {W : World} {g : Nat} {c : Nat → Nat} (h : Page W g c) : g < W.heap.size := by
  obtain ⟨cs, h1, h2⟩ := h.ex; exact heap_lt h1
theorem RamAt.below {W W' : World} {base b m : Nat} {n : Int} {hs : Hs} {mem : Nat → Nat} (h : RamAt W base b m n hs mem) (hb : Below W.heap.size W W') : RamAt W' base b m n hs mem := by
  obtain ⟨v, L, h1, h2, h3, h4, h5, h6, h7⟩ := h.ex
  exact ⟨⟨v, L, (hb.block _ (heap_lt h1)).trans h1, HL.below h2 hb, h3.below hb, h4, fun k g hk => by
    obtain ⟨f, e1, e2, e3⟩ := h5 k g hk
    exact ⟨f, e1, e2, e3.of_heap (hb.block _ e3.lt)⟩, h6, h7⟩, h.baseM, h.len, h.n0, h.n1, h.byte⟩
/-- The number of so many bytes. -/
def loadF (mem : Nat → Nat) : Nat → Nat → Nat
  | _, 0 => 0
  | a, s + 1 => mem a + 256 * loadF mem (a + 1) s
def storeF (mem : Nat → Nat) (addr : Nat) (size : Nat) (x : Nat) : Nat → Nat := fun a => if addr ≤ a ∧ a < addr + size then x / 256 ^ (a - addr) % 256 else mem a
theorem zeroP (w : World) : (zeroValue 65).run Try.prog w = .ok (.agg (Array.replicate 4096 (.int .u8 0))) w := by kernel_rfl
theorem infoP : (Try.prog.info? 65).map (·.size) = some 4096 := by kernel_rfl
theorem underP : Try.prog.underlying 65 = some (.array 4096 5) := by kernel_rfl
theorem underPages : Try.prog.underlying 58 = some (.map 3 62) := by kernel_rfl
theorem underInt : Try.prog.underlying 3 = some (.int .i64) := by kernel_rfl
theorem zeroPtr (w : World) : (zeroValue 62).run Try.prog w = .ok (.pointer none) w := by kernel_rfl
end Go.Proofs.Ytnjjeedalmikaaa
