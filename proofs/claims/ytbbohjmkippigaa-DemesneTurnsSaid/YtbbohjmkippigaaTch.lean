/- Which blocks a step may have changed. No condition. -/
import Derived.Test.YtbbohjmkippigaaH
import Derived.Deep.QuietTactic
import Derived.BigQuiet
namespace Go.Proofs.Ytbbohjmkippigaa
open Go.ChangeShapes Go.WideShapes Go.ChangeAt Go.RowKit
set_option linter.unusedVariables false
set_option linter.unusedSimpArgs false

/-- w' is w but for blocks in S and new ones. -/
structure Touch (S : Nat → Prop) (w w' : World) : Prop where
  os : w'.os = w.os
  tape : w'.tape = w.tape
  output : w'.output = w.output
  size : w.heap.size ≤ w'.heap.size
  block : ∀ k, k < w.heap.size → ¬ S k → w'.heap[k]? = w.heap[k]?
theorem Touch.refl (S : Nat → Prop) (w : World) : Touch S w w := ⟨rfl, rfl, rfl, Nat.le_refl _, fun _ _ _ => rfl⟩
theorem Touch.trans {S S' : Nat → Prop} {w w1 w2 : World} (h : Touch S w w1) (h2 : Touch S' w1 w2) (hs : ∀ k, S' k → S k ∨ w.heap.size ≤ k) : Touch S w w2 :=
  ⟨h2.os.trans h.os, h2.tape.trans h.tape, h2.output.trans h.output, Nat.le_trans h.size h2.size, fun k hk hn =>
    (h2.block k (Nat.lt_of_lt_of_le hk h.size) (fun h' => by rcases hs k h' with h3 | h3; exact hn h3; omega)).trans (h.block k hk hn)⟩
theorem Touch.mono {S S' : Nat → Prop} {w w1 : World} (h : Touch S w w1) (hs : ∀ k, S k → S' k) : Touch S' w w1 := ⟨h.os, h.tape, h.output, h.size, fun k hk hn => h.block k hk (fun h' => hn (hs k h'))⟩
theorem Touch.of_below {w w1 : World} (h : Below w.heap.size w w1) (S : Nat → Prop) : Touch S w w1 := ⟨h.os, h.tape, h.output, h.size, fun k hk _ => h.block k hk⟩
theorem Touch.below {B : Nat} {S : Nat → Prop} {w w1 : World} (h : Touch S w w1) (hB : B ≤ w.heap.size) (hs : ∀ k, S k → B ≤ k) : Below B w w1 :=
  ⟨h.os, h.tape, h.output, h.size, fun k hk => h.block k (Nat.lt_of_lt_of_le hk hB) (fun h' => by have := hs k h'; omega)⟩
/-- A run whose every change lies above B, behind one that did. -/
theorem Below.touch {B : Nat} {S : Nat → Prop} {w0 w w1 : World} (h : Below B w0 w) (h2 : Touch S w w1) (hB : B ≤ w0.heap.size) (hs : ∀ k, S k → B ≤ k) : Below B w0 w1 :=
  h.trans (h2.below (Nat.le_trans hB h.size) hs)
theorem Touch.alloc {S : Nat → Prop} {w w1 : World} (h : Touch S w w1) (o : Obj) : Touch S w (w1.alloc o) :=
  h.trans (Touch.of_below ((Below.refl _ _).alloc (Nat.le_refl _) o) (fun _ => False)) (fun _ h => h.elim)
theorem Touch.drew {S : Nat → Prop} {w w1 : World} (h : Touch S w w1) : Touch S w w1.drew := ⟨h.os, h.tape, h.output, h.size, h.block⟩
theorem Touch.drewN {S : Nat → Prop} {w w1 : World} (h : Touch S w w1) (n : Nat) : Touch S w (w1.drewN n) := h.trans (Touch.of_below (below_drewN (Below.refl _ _) n) (fun _ => False)) (fun _ h => h.elim)
theorem Touch.setCell {S : Nat → Prop} {w w1 : World} (h : Touch S w w1) {a : Addr} (ha : S a.block ∨ w.heap.size ≤ a.block) (v : Value) : Touch S w (w1.setCell a v) :=
  ⟨h.os, h.tape, h.output, by have := h.size; simpa using this, fun k hk hn => (Below.heap_setCell w1 a v k (fun e => by subst e; rcases ha with h1 | h1; exact hn h1; omega)).trans (h.block k hk hn)⟩
theorem Touch.heap {S : Nat → Prop} {w w1 : World} (h : Touch S w w1) {b : Nat} {o : Obj} (hb : w.heap[b]? = some o) (hn : ¬ S b) : w1.heap[b]? = some o := (h.block b (heap_lt hb) hn).trans hb
/-- A store into a block of whose cells nothing is frozen. -/
theorem setCell_heap {w : World} {b o : Nat} {cs : List Value} {t : TypeId} (h : w.heap[b]? = some (.cells cs.toArray t (0, 0))) (v : Value) : (w.setCell ⟨b, o, none⟩ v).heap[b]? = some (.cells (cs.set o v).toArray t (0, 0)) := by
  have := heap_set h o v
  rw [this]
  congr 2
  simp
/-- A world above w: what lay in w lies there unturned. -/
structure Abv (w : World) where
  W : World
  ok : Below w.heap.size w W
instance (w : World) : Nonempty (Abv w) := ⟨⟨w, Below.refl _ _⟩⟩
theorem Abv.cell {w : World} (x : Abv w) (b o : Nat) (h : b < w.heap.size) : x.W.cell? ⟨b, o, none⟩ = w.cell? ⟨b, o, none⟩ := x.ok.cell (p := ⟨b, o, none⟩) h
theorem Abv.get {w : World} (x : Abv w) {b o : Nat} {v : Value} (h : w.cell? ⟨b, o, none⟩ = some v) : x.W.cell? ⟨b, o, none⟩ = some v :=
  (x.ok.cell (p := ⟨b, o, none⟩) (World.block_lt_of_cell? w ⟨b, o, none⟩ h)).trans h
/-- A region that draws its order: its own operations read, its calls may lay new blocks: one walk, in the order of the text. -/
theorem wp_region_abv {P : Program} {id : Nat} {Q : Exit → Act → World → Prop} {a : Act} {w : World} {l : List Oper} (hm : P.follows .mixedOrders = true) (hB : Region.lexB .any l.toArray = true)
    (h : wpQuiet P l.toArray (fun w' => ∃ x : Abv w, w' = x.W) (fun a' => ∀ w', (∃ x : Abv w, w' = x.W) → Q .normal a' w') l a) : (Code.region id l.toArray true).wp P Q a w :=
  wp_region_quiet (C := fun w' => ∃ x : Abv w, w' = x.W) hm hB ⟨⟨w.drew, (Below.refl _ _).drew⟩, rfl⟩ (by simpa using h)
theorem abv_call {P : Program} {f : FuncId} {args : Array Value} {w : World} {x : Abv w} {v : Value} (h : Calls P f args x.W fun e w' => e = .returned v ∧ Below x.W.heap.size x.W w') :
    Calls P f args x.W fun e w'' => e = .returned v ∧ ∃ y : Abv w, w'' = y.W :=
  h.mono fun _ w' ⟨he, hb⟩ => ⟨he, ⟨w', b_then x.ok hb⟩, rfl⟩
theorem abv_same {P : Program} {f : FuncId} {args : Array Value} {w : World} {x : Abv w} {v : Value} (h : Calls P f args x.W fun e w' => e = .returned v ∧ w' = x.W) :
    Calls P f args x.W fun e w'' => e = .returned v ∧ ∃ y : Abv w, w'' = y.W :=
  h.mono fun _ w' ⟨he, hb⟩ => ⟨he, x, hb⟩
end Go.Proofs.Ytbbohjmkippigaa
