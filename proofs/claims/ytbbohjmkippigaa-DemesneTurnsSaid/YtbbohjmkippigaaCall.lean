/- The package call (layer 15): the reader: word, number, perm, one, pages, spot: what each hands back and when it ends by its panic. No condition but where the words lie. -/
import Derived.Test.YtbbohjmkippigaaTch
import Derived.Lib.Hide
import Derived.Laws.NewBlocks
namespace Go.Proofs.Ytbbohjmkippigaa
open Go.ChangeShapes Go.WideShapes Go.ChangeAt Go.RowKit
set_option linter.unusedVariables false
set_option linter.unusedSimpArgs false

abbrev uvs (l : List Int) : List Value := l.map (Value.int .u64)
/-- The reader at word k of six words. -/
structure RAt (w : World) (r ab : Nat) (ws : List Int) (k : Nat) : Prop where
  rd : w.heap[r]? = some (.cells #[.slice (some ⟨ab, min k 5, none⟩) (6 - k) (6 - k)] 53 (0, 0))
  arr : w.heap[ab]? = some (.cells (uvs ws).toArray 34 (0, 0))
  len : ws.length = 6
theorem RAt.ne {w : World} {r ab : Nat} {ws : List Int} {k : Nat} (h : RAt w r ab ws k) : ab ≠ r := by
  intro e
  have h1 := h.rd
  rw [← e, h.arr] at h1
  simp only [Option.some.injEq, Obj.cells.injEq] at h1
  exact absurd h1.2.1 (by decide)
theorem RAt.touch {w w' : World} {r ab : Nat} {ws : List Int} {k : Nat} (h : RAt w r ab ws k) {S : Nat → Prop} (ht : Touch S w w') (h1 : ¬ S r) (h2 : ¬ S ab) : RAt w' r ab ws k :=
  ⟨ht.heap h.rd h1, ht.heap h.arr h2, h.len⟩
theorem RAt.below {w w' : World} {r ab : Nat} {ws : List Int} {k : Nat} (h : RAt w r ab ws k) (hb : Below w.heap.size w w') : RAt w' r ab ws k :=
  ⟨heap_below hb h.rd, heap_below hb h.arr, h.len⟩
theorem RAt.cells {w : World} {r ab : Nat} {ws : List Int} {k : Nat} (h : RAt w r ab ws k) {x : Int} (hx : ws[k]? = some x) :
    w.cell? ⟨r, 0, none⟩ = some (.slice (some ⟨ab, min k 5, none⟩) (6 - k) (6 - k)) ∧ w.cell? ⟨ab, k, none⟩ = some (.int .u64 x) ∧ w.frozen? ⟨r, 0, none⟩ = false := by
  refine ⟨cell_heap h.rd 0, ?_, frozen_heap h.rd 0⟩
  rw [cell_heap h.arr k]
  simp [hx]
abbrev badP : List PanicEntry := [{ v := .iface 48 (.agg #[]), recovered := false }]
set_option maxHeartbeats 1000000 in
theorem word_ok {w : World} {r ab : Nat} {ws : List Int} {k : Nat} (h : RAt w r ab ws k) {x : Int} (hx : ws[k]? = some x) (most : Int) (hm : x ≤ most) :
    Calls Try.prog 21 #[.pointer (some ⟨r, 0, none⟩), .int .u64 most] w fun e w' => e = .returned (.int .u64 x) ∧ Touch (fun b => b = r) w w' ∧ RAt w' r ab ws (k + 1) := by
  obtain ⟨c0, c1, f0⟩ := h.cells hx
  have hk : k < 6 := by have := (List.getElem?_eq_some_iff.1 hx).1; rw [h.len] at this; exact this
  have hd : decide (most < x) = false := decide_eq_false (by omega)
  have HQ := Lib.hid h
  have hne := h.ne
  have HX := Lib.hid hx
  clear h hx hm
  have hk6 : k = 0 ∨ k = 1 ∨ k = 2 ∨ k = 3 ∨ k = 4 ∨ k = 5 := by omega
  rcases hk6 with rfl | rfl | rfl | rfl | rfl | rfl
  all_goals
    simp only [Nat.reduceSub, Nat.reduceLeDiff, Nat.min_def, ↓reduceIte] at c0
    go_enter Try.func21, Try.ntmps21
    go_wp2
    go_returns
    have ht : ∀ v, Touch (fun k => k = r) w (w.setCell ⟨r, 0, none⟩ v) := fun v => (Touch.refl (fun k => k = r) w).setCell (a := ⟨r, 0, none⟩) (.inl rfl) v
    exact ⟨rfl, ht _, heap_set HQ.out.rd 0 _, (ht _).heap HQ.out.arr hne, HQ.out.len⟩
set_option maxHeartbeats 1000000 in
theorem word_bad {w : World} {r ab : Nat} {ws : List Int} {k : Nat} (h : RAt w r ab ws k) {x : Int} (hx : ws[k]? = some x) (most : Int) (hm : most < x) :
    Calls Try.prog 21 #[.pointer (some ⟨r, 0, none⟩), .int .u64 most] w fun e w' => e = .panicked badP ∧ Touch (fun b => b = r) w w' := by
  obtain ⟨c0, c1, f0⟩ := h.cells hx
  have hk : k < 6 := by have := (List.getElem?_eq_some_iff.1 hx).1; rw [h.len] at this; exact this
  have hd : decide (most < x) = true := decide_eq_true hm
  clear h hx hm
  have hk6 : k = 0 ∨ k = 1 ∨ k = 2 ∨ k = 3 ∨ k = 4 ∨ k = 5 := by omega
  rcases hk6 with rfl | rfl | rfl | rfl | rfl | rfl
  all_goals
    simp only [Nat.reduceSub, Nat.reduceLeDiff, Nat.min_def, ↓reduceIte] at c0
    go_enter Try.func21, Try.ntmps21
    go_wp2
    have ht : ∀ v, Touch (fun k => k = r) w (w.setCell ⟨r, 0, none⟩ v) := fun v => (Touch.refl (fun k => k = r) w).setCell (a := ⟨r, 0, none⟩) (.inl rfl) v
    exact ⟨rfl, rfl, ht _⟩
theorem tcell {S : Nat → Prop} {w w' : World} (h : Touch S w w') : ∀ b o, b < w.heap.size → ¬ S b → w'.cell? ⟨b, o, none⟩ = w.cell? ⟨b, o, none⟩ := fun b o hb hn => World.cell?_of_block (h.block b hb hn)
section
variable {w : World} {r ab : Nat} {ws : List Int} {k : Nat} {x : Int}
theorem number_ok (h : RAt w r ab ws k) (hx : ws[k]? = some x) (h0 : 0 ≤ x) (n : Int) (hn : 1 ≤ n) (hn2 : n ≤ 1099511627776) (hm : x < n) :
    Calls Try.prog 17 #[.pointer (some ⟨r, 0, none⟩), .int .i64 n] w fun e w' => e = .returned (.int .i64 x) ∧ Touch (fun b => b = r) w w' ∧ RAt w' r ab ws (k + 1) := by
  have HC := Lib.hid (word_ok h hx (n - 1) (by omega))
  have hx2 : x ≤ 1099511627776 := by omega
  clear h hx hm
  go_enter Try.func17, Try.ntmps17
  go_wp2_with fail
  refine HC.out.mono ?_
  rintro e w1 ⟨rfl, ht, hr⟩
  go_wp2
  go_returns
  exact ⟨rfl, ht, hr⟩
theorem number_bad (h : RAt w r ab ws k) (hx : ws[k]? = some x) (n : Int) (hn : 1 ≤ n) (hn2 : n ≤ 1099511627776) (hm : n ≤ x) :
    Calls Try.prog 17 #[.pointer (some ⟨r, 0, none⟩), .int .i64 n] w fun e w' => e = .panicked badP ∧ Touch (fun b => b = r) w w' := by
  have HC := Lib.hid (word_bad h hx (n - 1) (by omega))
  clear h hx hm
  go_enter Try.func17, Try.ntmps17
  go_wp2_with fail
  refine HC.out.mono ?_
  rintro e w1 ⟨rfl, ht⟩
  go_wp2
  exact ⟨rfl, rfl, ht⟩
theorem perm_ok (h : RAt w r ab ws k) (hx : ws[k]? = some x) (h0 : 0 ≤ x) (hm : x ≤ 3) :
    Calls Try.prog 19 #[.pointer (some ⟨r, 0, none⟩)] w fun e w' => e = .returned (.agg #[.bool (x % 2 == 1), .bool true, .bool (x / 2 == 1)]) ∧ Touch (fun b => b = r) w w' ∧ RAt w' r ab ws (k + 1) := by
  have h3 : x = 0 ∨ x = 1 ∨ x = 2 ∨ x = 3 := by omega
  have hb := h.below (w' := w.alloc (.cells #[.bool false, .bool false, .bool false] 26)) (by go_grown)
  have hz := heap_lt h.rd
  have HAB := Lib.hid (heap_lt h.arr)
  have HC := Lib.hid (word_ok hb hx 3 hm)
  clear h hx hm hb
  rcases h3 with rfl | rfl | rfl | rfl
  all_goals
    go_enter Try.func19, Try.ntmps19
    go_wp2_with fail
    refine HC.out.mono ?_
    rintro e w1 ⟨rfl, ht, hr⟩
    have hp := ht.heap (heap_new w (.cells #[.bool false, .bool false, .bool false] 26)) (fun e => by omega)
    have hpl := heap_lt hp
    have hT := (((Touch.refl (fun b => b = r) w).alloc (.cells #[.bool false, .bool false, .bool false] 26)).trans ht (fun k h => .inl h))
    have HR := Lib.hid hr
    have f0 := frozen_heap hp 0
    have f1 := frozen_heap hp 1
    have f2 := frozen_heap hp 2
    have g0 := cell_heap hp 0
    have g1 := cell_heap hp 1
    have g2 := cell_heap hp 2
    clear hr ht
    go_wp2
    refine bodyPost_ret (v := .agg #[.bool _, .bool true, .bool _]) (by simp [results, Try.results19, go_sem, g0, g1, g2, f0, f1, f2]; exact ⟨rfl, rfl⟩) rfl ⟨ret_v (by kernel_rfl), ?_, ?_⟩
    · exact ((hT.setCell (a := ⟨w.heap.size, 0, none⟩) (.inr (Nat.le_refl _)) _).setCell (a := ⟨w.heap.size, 1, none⟩) (.inr (Nat.le_refl _)) _).setCell (a := ⟨w.heap.size, 2, none⟩) (.inr (Nat.le_refl _)) _
    · exact HR.out.touch (((Touch.refl (fun b => b = w.heap.size) w1).setCell (a := ⟨w.heap.size, 0, none⟩) (.inl rfl) _).setCell (a := ⟨w.heap.size, 1, none⟩) (.inl rfl) _ |>.setCell (a := ⟨w.heap.size, 2, none⟩) (.inl rfl) _) (fun e => by omega) (fun e => by have := HAB.out; omega)
theorem perm_bad (h : RAt w r ab ws k) (hx : ws[k]? = some x) (hm : 3 < x) :
    Calls Try.prog 19 #[.pointer (some ⟨r, 0, none⟩)] w fun e w' => e = .panicked badP ∧ Touch (fun b => b = r) w w' := by
  have hb := h.below (w' := w.alloc (.cells #[.bool false, .bool false, .bool false] 26)) (by go_grown)
  have HC := Lib.hid (word_bad hb hx 3 hm)
  clear h hx hm hb
  go_enter Try.func19, Try.ntmps19
  go_wp2_with fail
  refine HC.out.mono ?_
  rintro e w1 ⟨rfl, ht⟩
  go_wp2
  exact ⟨rfl, rfl, ((Touch.refl _ w).alloc _).trans ht (fun k h => .inl h)⟩
theorem one_ok (h : RAt w r ab ws k) (hx : ws[k]? = some x) (h0 : 0 ≤ x) (hm : x < 34359738368) :
    Calls Try.prog 22 #[.pointer (some ⟨r, 0, none⟩)] w fun e w' => e = .returned (.agg #[.int .i64 x, .int .i64 (x + 1)]) ∧ Touch (fun b => b = r) w w' ∧ RAt w' r ab ws (k + 1) := by
  have hb := h.below (w' := w.alloc (.cells #[.int .i64 0, .int .i64 0] 24)) (by go_grown)
  have hz := heap_lt h.rd
  have HAB := Lib.hid (heap_lt h.arr)
  have HC := Lib.hid (number_ok hb hx h0 34359738368 (by omega) (by omega) hm)
  clear h hx hb
  go_enter Try.func22, Try.ntmps22
  go_wp2_with fail
  refine HC.out.mono ?_
  rintro e w1 ⟨rfl, ht, hr⟩
  have hp := ht.heap (heap_new w (.cells #[.int .i64 0, .int .i64 0] 24)) (fun e => by omega)
  have hpl := heap_lt hp
  have hT := (((Touch.refl (fun b => b = r) w).alloc (.cells #[.int .i64 0, .int .i64 0] 24)).trans ht (fun k h => .inl h))
  have f0 := frozen_heap hp 0
  have f1 := frozen_heap hp 1
  have g0 := cell_heap hp 0
  have g1 := cell_heap hp 1
  have HR := Lib.hid hr
  clear hr ht
  go_wp2
  refine bodyPost_ret (v := .agg #[.int .i64 x, .int .i64 (x + 1)]) (by simp [results, Try.results22, go_sem, g0, g1, f0, f1]) rfl ⟨rfl, ?_, ?_⟩
  · exact ((hT.setCell (a := ⟨w.heap.size, 0, none⟩) (.inr (Nat.le_refl _)) _).setCell (a := ⟨w.heap.size, 1, none⟩) (.inr (Nat.le_refl _)) _)
  · exact HR.out.touch (((Touch.refl (fun b => b = w.heap.size) w1).setCell (a := ⟨w.heap.size, 0, none⟩) (.inl rfl) _).setCell (a := ⟨w.heap.size, 1, none⟩) (.inl rfl) _) (fun e => by omega) (fun e => by have := HAB.out; omega)
theorem one_bad (h : RAt w r ab ws k) (hx : ws[k]? = some x) (hm : 34359738368 ≤ x) :
    Calls Try.prog 22 #[.pointer (some ⟨r, 0, none⟩)] w fun e w' => e = .panicked badP ∧ Touch (fun b => b = r) w w' := by
  have hb := h.below (w' := w.alloc (.cells #[.int .i64 0, .int .i64 0] 24)) (by go_grown)
  have HC := Lib.hid (number_bad hb hx 34359738368 (by omega) (by omega) hm)
  clear h hx hb
  go_enter Try.func22, Try.ntmps22
  go_wp2_with fail
  refine HC.out.mono ?_
  rintro e w1 ⟨rfl, ht⟩
  go_wp2
  exact ⟨rfl, rfl, ((Touch.refl _ w).alloc _).trans ht (fun k h => .inl h)⟩
end
end Go.Proofs.Ytbbohjmkippigaa
