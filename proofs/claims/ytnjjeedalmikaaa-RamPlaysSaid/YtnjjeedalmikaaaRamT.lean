/- The state of RamPlays: the memory, the reference's map, kept blocks. No condition. -/
import Derived.Test.YtnjjeedalmikaaaRamS
namespace Go.Proofs.Ytnjjeedalmikaaa
open Go.ChangeShapes Go.WideShapes Go.ChangeAt Go.RowKit
open Go.ChangeMaps (setBlock heap_setBlock_same heap_setBlock_other)
set_option linter.unusedVariables false
set_option linter.unusedSimpArgs false
structure ST (w : World) (base b m mb : Nat) (n : Int) (v : Value) (hs : Hs) (K : List (Nat × Array Value × TypeId)) (W : World) (r q : Nat → Nat) : Prop where
  bl : Below w.heap.size w W
  ram : RamAt W base b m n hs r
  rb : RB W mb q
  hl : HL W 0 v hs
  kp : ∀ p ∈ K, W.heap[p.1]? = some (.cells p.2.1 p.2.2 (0, 0)) ∧ p.2.2 ≠ 65
  bb : w.heap.size ≤ base
  bm : w.heap.size ≤ mb
  ne : mb ≠ m
section
variable {w W W' : World} {base b m mb : Nat} {n : Int} {v : Value} {hs : Hs} {K : List (Nat × Array Value × TypeId)} {r q : Nat → Nat}
theorem ST.below (h : ST w base b m mb n v hs K W r q) (hb : Below W.heap.size W W') : ST w base b m mb n v hs K W' r q :=
  ⟨b_then h.bl hb, h.ram.below hb, h.rb.below hb, HL.below h.hl hb, fun p hp => ⟨(hb.block _ (heap_lt (h.kp p hp).1)).trans (h.kp p hp).1, (h.kp p hp).2⟩, h.bb, h.bm, h.ne⟩
theorem RamAt.mapm (h : RamAt W base b m n hs r) : ∃ L, MapAL W m (enc ptr L) := by obtain ⟨_, L, _, _, h1, _⟩ := h.ex; exact ⟨L, h1⟩
theorem ST.rt {r' : Nat → Nat} (h : ST w base b m mb n v hs K W r q) (hr : RT base m W W') (hR : RamAt W' base b m n hs r') : ST w base b m mb n v hs K W' r' q := by
  obtain ⟨L, hm⟩ := h.ram.mapm
  have keep : ∀ (g : Nat) (cs : Array Value) (t : TypeId), W.heap[g]? = some (.cells cs t (0, 0)) → t ≠ 65 → W'.heap[g]? = some (.cells cs t (0, 0)) := fun g cs t hg ht =>
    hr.heap hg (.inr ⟨mapNe hm hg (by simp), fun cs' e => ht (by cases e; rfl)⟩)
  refine ⟨RT.below' h.bl (Nat.le_refl _) h.bb hr, hR, ?_, HL.heap h.hl fun g cur hg => keep g cur _ hg (by decide), fun p hp => ⟨keep _ _ _ (h.kp p hp).1 (h.kp p hp).2, (h.kp p hp).2⟩, h.bb, h.bm, h.ne⟩
  obtain ⟨l, ⟨es, c, h1, h2⟩, h3⟩ := h.rb.ex
  exact h.rb.of ((hr.heap h1 (.inr ⟨h.ne, fun cs e => by cases e⟩)).trans h1.symm)
theorem ST.tm {q' : Nat → Nat} (h : ST w base b m mb n v hs K W r q) (ht : TM mb W W') (hR : RB W' mb q') : ST w base b m mb n v hs K W' r q' := by
  have keep : ∀ (g : Nat) (cs : Array Value) (t : TypeId), W.heap[g]? = some (.cells cs t (0, 0)) → W'.heap[g]? = some (.cells cs t (0, 0)) := fun g cs t hg => ht.heap hg (h.rb.ne hg)
  refine ⟨Below.touch h.bl ht (Nat.le_refl _) (fun k e => by rw [e]; exact h.bm), ?_, hR, HL.heap h.hl fun g cur hg => keep g cur _ hg, fun p hp => ⟨keep _ _ _ (h.kp p hp).1, (h.kp p hp).2⟩, h.bb, h.bm, h.ne⟩
  obtain ⟨v', L, h1, h2, h3, h4, h5, h6, h7⟩ := h.ram.ex
  exact ⟨⟨v', L, keep _ _ _ h1, HL.heap h2 fun g cur hg => keep g cur _ hg, h3.touch ht (fun e => h.ne e.symm), h4, fun k g hk => by
    obtain ⟨f, e1, e2, e3⟩ := h5 k g hk
    obtain ⟨cs, c1, c2⟩ := e3.ex
    exact ⟨f, e1, e2, ⟨cs, keep _ _ _ c1, c2⟩⟩, h6, h7⟩, h.ram.baseM, h.ram.len, h.ram.n0, h.ram.n1, h.ram.byte⟩
theorem ST.more (h : ST w base b m mb n v hs K W r q) (cs : Array Value) (t : TypeId) (ht : t ≠ 65) : ST w base b m mb n v hs ((W.heap.size, cs, t) :: K) (W.alloc (.cells cs t)) r q := by
  have h' := h.below ((Below.refl W.heap.size W).alloc (Nat.le_refl _) (.cells cs t))
  refine ⟨h'.bl, h'.ram, h'.rb, h'.hl, fun p hp => ?_, h.bb, h.bm, h.ne⟩
  rcases List.mem_cons.1 hp with rfl | hp
  · exact ⟨heap_new _ _, ht⟩
  · exact h'.kp p hp
theorem ST.less {p : Nat × Array Value × TypeId} (h : ST w base b m mb n v hs (p :: K) W r q) : ST w base b m mb n v hs K W r q := ⟨h.bl, h.ram, h.rb, h.hl, fun p hp => h.kp p (List.mem_cons_of_mem _ hp), h.bb, h.bm, h.ne⟩
end
theorem act_row6 {w : World} {A : Option Addr} {len : Nat} (r : Rows_ w [.i .i64, .i .u64, .i .i64, .i .u64, .i .i64, .i .i64] A len) {k : Nat} (h : k < len) :
    ∃ (bl off : Nat), A = some ⟨bl, off, none⟩ ∧ bl < w.heap.size ∧ ∃ (kd : Int) (addr : Nat) (size : Int) (x : Nat) (t f : Int), addr < 18446744073709551616 ∧ x < 18446744073709551616 ∧ t < 9223372036854775808 ∧ w.cell? ⟨bl, off + k * 6, none⟩ = some (.int .i64 kd) ∧ w.cell? ⟨bl, off + k * 6 + 1, none⟩ = some (.int .u64 addr) ∧ w.cell? ⟨bl, off + k * 6 + 2, none⟩ = some (.int .i64 size) ∧ w.cell? ⟨bl, off + k * 6 + 3, none⟩ = some (.int .u64 x) ∧ w.cell? ⟨bl, off + k * 6 + 4, none⟩ = some (.int .i64 t) ∧ w.cell? ⟨bl, off + k * 6 + 5, none⟩ = some (.int .i64 f) := by
  obtain ⟨_, h2⟩ := r
  obtain ⟨b, off, R, hA, hb, hR⟩ := h2 (by omega)
  obtain ⟨ok, hc⟩ := hR k h
  obtain ⟨_, r1, e, ⟨v0, rfl, _⟩, ok⟩ := ok
  obtain ⟨_, r2, rfl, ⟨v1, rfl, w1⟩, ok⟩ := ok
  obtain ⟨_, r3, rfl, ⟨v2, rfl, _⟩, ok⟩ := ok
  obtain ⟨_, r4, rfl, ⟨v3, rfl, w3⟩, ok⟩ := ok
  obtain ⟨_, r5, rfl, ⟨v4, rfl, w4⟩, ok⟩ := ok
  obtain ⟨_, r6, rfl, ⟨v5, rfl, _⟩, ok⟩ := ok
  have b1 := u64_bd w1
  have b3 := u64_bd w3
  have b4 := i64_bd w4
  obtain ⟨addr, rfl⟩ : ∃ n : Nat, v1 = n := ⟨v1.toNat, by have := b1.1; omega⟩
  obtain ⟨x, rfl⟩ : ∃ n : Nat, v3 = n := ⟨v3.toNat, by have := b3.1; omega⟩
  have c := fun j (hj : j < 6) => hc j hj
  rw [e] at c
  exact ⟨b, off, hA, hb, v0, addr, v2, x, v4, v5, by have := b1.2; omega, by have := b3.2; omega, by have := b4.2; omega, c 0 (by omega), c 1 (by omega), c 2 (by omega), c 3 (by omega), c 4 (by omega), c 5 (by omega)⟩
end Go.Proofs.Ytnjjeedalmikaaa
