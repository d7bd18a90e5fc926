/- The package call (layer 15): Read: any words are the call that they are, or none. No condition but that the words are numbers of 64 bits. -/
import Derived.Test.YtbbohjmkippigaaCallD
namespace Go.Proofs.Ytbbohjmkippigaa
open Go.ChangeShapes Go.WideShapes Go.ChangeAt Go.RowKit
set_option linter.unusedVariables false
set_option linter.unusedSimpArgs false

def rvF (r : Option CV) : CV := r.getD CV.zero
def reF (r : Option CV) : Int := match r with | some _ => 0 | none => 13
abbrev wordsV (o x1 x2 x3 x4 x5 : Int) : Value := .agg #[.int .u64 o, .int .u64 x1, .int .u64 x2, .int .u64 x3, .int .u64 x4, .int .u64 x5]
theorem set13 {w : World} {b : Nat} {T : TypeId} {v0 v1 v2 v3 v4 v5 v6 v7 v8 v9 v10 v11 v12 : Value} (h : w.heap[b]? = some (.cells #[v0, v1, v2, v3, v4, v5, v6, v7, v8, v9, v10, v11, v12] T (0, 0))) (u0 u1 u2 u3 u4 u5 u6 u7 u8 u9 u10 u11 u12 : Value) :
    (((((((((((((w.setCell ⟨b, 0, none⟩ u0).setCell ⟨b, 1, none⟩ u1).setCell ⟨b, 2, none⟩ u2).setCell ⟨b, 3, none⟩ u3).setCell ⟨b, 4, none⟩ u4).setCell ⟨b, 5, none⟩ u5).setCell ⟨b, 6, none⟩ u6).setCell ⟨b, 7, none⟩ u7).setCell ⟨b, 8, none⟩ u8).setCell ⟨b, 9, none⟩ u9).setCell ⟨b, 10, none⟩ u10).setCell ⟨b, 11, none⟩ u11).setCell ⟨b, 12, none⟩ u12).heap[b]? = some (.cells #[u0, u1, u2, u3, u4, u5, u6, u7, u8, u9, u10, u11, u12] T (0, 0)) := by
  have h0 := heap_set h 0 u0
  change _ = some (Obj.cells #[u0, v1, v2, v3, v4, v5, v6, v7, v8, v9, v10, v11, v12] T (0, 0)) at h0
  have h1 := heap_set h0 1 u1
  change _ = some (Obj.cells #[u0, u1, v2, v3, v4, v5, v6, v7, v8, v9, v10, v11, v12] T (0, 0)) at h1
  have h2 := heap_set h1 2 u2
  change _ = some (Obj.cells #[u0, u1, u2, v3, v4, v5, v6, v7, v8, v9, v10, v11, v12] T (0, 0)) at h2
  have h3 := heap_set h2 3 u3
  change _ = some (Obj.cells #[u0, u1, u2, u3, v4, v5, v6, v7, v8, v9, v10, v11, v12] T (0, 0)) at h3
  have h4 := heap_set h3 4 u4
  change _ = some (Obj.cells #[u0, u1, u2, u3, u4, v5, v6, v7, v8, v9, v10, v11, v12] T (0, 0)) at h4
  have h5 := heap_set h4 5 u5
  change _ = some (Obj.cells #[u0, u1, u2, u3, u4, u5, v6, v7, v8, v9, v10, v11, v12] T (0, 0)) at h5
  have h6 := heap_set h5 6 u6
  change _ = some (Obj.cells #[u0, u1, u2, u3, u4, u5, u6, v7, v8, v9, v10, v11, v12] T (0, 0)) at h6
  have h7 := heap_set h6 7 u7
  change _ = some (Obj.cells #[u0, u1, u2, u3, u4, u5, u6, u7, v8, v9, v10, v11, v12] T (0, 0)) at h7
  have h8 := heap_set h7 8 u8
  change _ = some (Obj.cells #[u0, u1, u2, u3, u4, u5, u6, u7, u8, v9, v10, v11, v12] T (0, 0)) at h8
  have h9 := heap_set h8 9 u9
  change _ = some (Obj.cells #[u0, u1, u2, u3, u4, u5, u6, u7, u8, u9, v10, v11, v12] T (0, 0)) at h9
  have h10 := heap_set h9 10 u10
  change _ = some (Obj.cells #[u0, u1, u2, u3, u4, u5, u6, u7, u8, u9, u10, v11, v12] T (0, 0)) at h10
  have h11 := heap_set h10 11 u11
  change _ = some (Obj.cells #[u0, u1, u2, u3, u4, u5, u6, u7, u8, u9, u10, u11, v12] T (0, 0)) at h11
  have h12 := heap_set h11 12 u12
  change _ = some (Obj.cells #[u0, u1, u2, u3, u4, u5, u6, u7, u8, u9, u10, u11, u12] T (0, 0)) at h12
  exact h12
set_option maxHeartbeats 2000000 in
theorem call_read (o x1 x2 x3 x4 x5 : Int) (h0 : 0 ≤ o) (h1 : 0 ≤ x1) (h2 : 0 ≤ x2) (h3 : 0 ≤ x3) (h4 : 0 ≤ x4) (h5 : 0 ≤ x5) (u1 : x1 < 18446744073709551616) (u2 : x2 < 18446744073709551616) (u3 : x3 < 18446744073709551616) (u4 : x4 < 18446744073709551616) (u5 : x5 < 18446744073709551616) (w : World) :
    Calls Try.prog 4 #[wordsV o x1 x2 x3 x4 x5] w fun e w' => e = .returned (.tuple #[(rvF (readF o x1 x2 x3 x4 x5)).val, .int .i64 (reF (readF o x1 x2 x3 x4 x5))]) ∧ Below w.heap.size w w' := by
  have hmf : ∀ (fn : Fn) (first cap : Array Value) (w : World), (Instr.makeFunc fn first cap).run Try.prog w = .ok (.func fn first cap) w := fun _ _ _ _ => rfl
  have HR : Hid (∀ W : World, ∀ r ab, RAt W r ab [o, x1, x2, x3, x4, x5] 0 → Calls Try.prog 13 #[.pointer (some ⟨r, 0, none⟩)] W fun e w' => RO (readF o x1 x2 x3 x4 x5) e ∧ Touch (fun b => b = r) W w') := Lib.hid (fun W r ab h => read_any h h0 h1 h2 h3 h4 h5 u1 u2 u3 u4 u5)
  clear h0 h1 h2 h3 h4 h5 u1 u2 u3 u4 u5
  generalize readF o x1 x2 x3 x4 x5 = R at HR ⊢
  have B0 := heap_new w (.cells #[.int .u64 o, .int .u64 x1, .int .u64 x2, .int .u64 x3, .int .u64 x4, .int .u64 x5] 34)
  have hB : Below w.heap.size w ((((w.alloc (.cells #[.int .u64 o, .int .u64 x1, .int .u64 x2, .int .u64 x3, .int .u64 x4, .int .u64 x5] 34)).alloc (.cells CV.zero.cells 29)).alloc (.cells #[.int .i64 0] 30)).alloc (.cells #[.slice (some ⟨w.heap.size, 0, none⟩) 6 6] 53)) := by go_grown
  have hA := heap_old _ (.cells #[.slice (some ⟨w.heap.size, 0, none⟩) 6 6] 53) _ (heap_old _ (.cells #[.int .i64 0] 30) _ (heap_old _ (.cells CV.zero.cells 29) _ B0))
  have hC := heap_old _ (.cells #[.slice (some ⟨w.heap.size, 0, none⟩) 6 6] 53) _ (heap_old _ (.cells #[.int .i64 0] 30) _ (heap_new (w.alloc (.cells #[.int .u64 o, .int .u64 x1, .int .u64 x2, .int .u64 x3, .int .u64 x4, .int .u64 x5] 34)) (.cells CV.zero.cells 29)))
  have hE := heap_old _ (.cells #[.slice (some ⟨w.heap.size, 0, none⟩) 6 6] 53) _ (heap_new ((w.alloc (.cells #[.int .u64 o, .int .u64 x1, .int .u64 x2, .int .u64 x3, .int .u64 x4, .int .u64 x5] 34)).alloc (.cells CV.zero.cells 29)) (.cells #[.int .i64 0] 30))
  have hR := heap_new (((w.alloc (.cells #[.int .u64 o, .int .u64 x1, .int .u64 x2, .int .u64 x3, .int .u64 x4, .int .u64 x5] 34)).alloc (.cells CV.zero.cells 29)).alloc (.cells #[.int .i64 0] 30)) (.cells #[.slice (some ⟨w.heap.size, 0, none⟩) 6 6] 53)
  simp only [World.size_alloc] at hC hE hR
  have HA := Lib.hid hA
  have HC := Lib.hid hC
  have HE := Lib.hid hE
  have HRR := Lib.hid hR
  have HB := Lib.hid hB
  clear B0 hB hA hC hE hR
  go_enter_defers Try.func4, Try.ntmps4
  go_wp2_with fail
  refine (HR.out _ _ w.heap.size ⟨HRR.out, HA.out, rfl⟩).mono ?_
  rintro e w1 ⟨he, ht⟩
  have hC1 := ht.heap HC.out (fun e => by omega)
  have hE1 := ht.heap HE.out (fun e => by omega)
  have hB1 := Below.touch HB.out ht (Nat.le_refl _) (fun k e => by omega)
  cases R with
  | none =>
    simp only [RO] at he
    subst he
    have HC1 := Lib.hid hC1
    have HE1 := Lib.hid hE1
    clear ht hC1 hE1
    go_wp2
    refine leaves_cons (f := 12) (args := #[.pointer (some ⟨w.heap.size + 1, 0, none⟩), .pointer (some ⟨w.heap.size + 2, 0, none⟩)]) (by simp) (by simp [go_sem]) ?_
    refine (catch_bad HC1.out HE1.out (by omega)).mono ?_
    rintro e u' w'' ⟨rfl, rfl, hp, hq, ht⟩
    have hBx := Below.touch hB1 ht (Nat.le_refl _) (fun k e => by omega)
    have c0 : w''.cell? ⟨w.heap.size + 1, 0, none⟩ = some (.int .i64 0) := cell_heap hp 0
    have c1 : w''.cell? ⟨w.heap.size + 1, 1, none⟩ = some (.int .i64 0) := cell_heap hp 1
    have c2 : w''.cell? ⟨w.heap.size + 1, 2, none⟩ = some (.int .i64 0) := cell_heap hp 2
    have c3 : w''.cell? ⟨w.heap.size + 1, 3, none⟩ = some (.bool false) := cell_heap hp 3
    have c4 : w''.cell? ⟨w.heap.size + 1, 4, none⟩ = some (.bool false) := cell_heap hp 4
    have c5 : w''.cell? ⟨w.heap.size + 1, 5, none⟩ = some (.bool false) := cell_heap hp 5
    have c6 : w''.cell? ⟨w.heap.size + 1, 6, none⟩ = some (.int .u64 0) := cell_heap hp 6
    have c7 : w''.cell? ⟨w.heap.size + 1, 7, none⟩ = some (.int .i64 0) := cell_heap hp 7
    have c8 : w''.cell? ⟨w.heap.size + 1, 8, none⟩ = some (.int .u64 0) := cell_heap hp 8
    have c9 : w''.cell? ⟨w.heap.size + 1, 9, none⟩ = some (.int .i64 0) := cell_heap hp 9
    have c10 : w''.cell? ⟨w.heap.size + 1, 10, none⟩ = some (.int .i64 0) := cell_heap hp 10
    have c11 : w''.cell? ⟨w.heap.size + 1, 11, none⟩ = some (.int .i64 0) := cell_heap hp 11
    have c12 : w''.cell? ⟨w.heap.size + 1, 12, none⟩ = some (.int .i64 0) := cell_heap hp 12
    have cq : w''.cell? ⟨w.heap.size + 2, 0, none⟩ = some (.int .i64 13) := cell_heap hq 0
    exact ⟨.tuple #[CV.zero.val, .int .i64 13], by simp [results, Try.results4, go_sem, c0, c1, c2, c3, c4, c5, c6, c7, c8, c9, c10, c11, c12, cq, CV.zero], rfl, hBx⟩
  | some c =>
    simp only [RO] at he
    subst he
    have hz1 := heap_lt hC1
    have hz2 := heap_lt hE1
    have c0 : w1.cell? ⟨w.heap.size + 1, 0, none⟩ = some (.int .i64 0) := cell_heap hC1 0
    have f0 : w1.frozen? ⟨w.heap.size + 1, 0, none⟩ = false := frozen_heap hC1 0
    have c1 : w1.cell? ⟨w.heap.size + 1, 1, none⟩ = some (.int .i64 0) := cell_heap hC1 1
    have f1 : w1.frozen? ⟨w.heap.size + 1, 1, none⟩ = false := frozen_heap hC1 1
    have c2 : w1.cell? ⟨w.heap.size + 1, 2, none⟩ = some (.int .i64 0) := cell_heap hC1 2
    have f2 : w1.frozen? ⟨w.heap.size + 1, 2, none⟩ = false := frozen_heap hC1 2
    have c3 : w1.cell? ⟨w.heap.size + 1, 3, none⟩ = some (.bool false) := cell_heap hC1 3
    have f3 : w1.frozen? ⟨w.heap.size + 1, 3, none⟩ = false := frozen_heap hC1 3
    have c4 : w1.cell? ⟨w.heap.size + 1, 4, none⟩ = some (.bool false) := cell_heap hC1 4
    have f4 : w1.frozen? ⟨w.heap.size + 1, 4, none⟩ = false := frozen_heap hC1 4
    have c5 : w1.cell? ⟨w.heap.size + 1, 5, none⟩ = some (.bool false) := cell_heap hC1 5
    have f5 : w1.frozen? ⟨w.heap.size + 1, 5, none⟩ = false := frozen_heap hC1 5
    have c6 : w1.cell? ⟨w.heap.size + 1, 6, none⟩ = some (.int .u64 0) := cell_heap hC1 6
    have f6 : w1.frozen? ⟨w.heap.size + 1, 6, none⟩ = false := frozen_heap hC1 6
    have c7 : w1.cell? ⟨w.heap.size + 1, 7, none⟩ = some (.int .i64 0) := cell_heap hC1 7
    have f7 : w1.frozen? ⟨w.heap.size + 1, 7, none⟩ = false := frozen_heap hC1 7
    have c8 : w1.cell? ⟨w.heap.size + 1, 8, none⟩ = some (.int .u64 0) := cell_heap hC1 8
    have f8 : w1.frozen? ⟨w.heap.size + 1, 8, none⟩ = false := frozen_heap hC1 8
    have c9 : w1.cell? ⟨w.heap.size + 1, 9, none⟩ = some (.int .i64 0) := cell_heap hC1 9
    have f9 : w1.frozen? ⟨w.heap.size + 1, 9, none⟩ = false := frozen_heap hC1 9
    have c10 : w1.cell? ⟨w.heap.size + 1, 10, none⟩ = some (.int .i64 0) := cell_heap hC1 10
    have f10 : w1.frozen? ⟨w.heap.size + 1, 10, none⟩ = false := frozen_heap hC1 10
    have c11 : w1.cell? ⟨w.heap.size + 1, 11, none⟩ = some (.int .i64 0) := cell_heap hC1 11
    have f11 : w1.frozen? ⟨w.heap.size + 1, 11, none⟩ = false := frozen_heap hC1 11
    have c12 : w1.cell? ⟨w.heap.size + 1, 12, none⟩ = some (.int .i64 0) := cell_heap hC1 12
    have f12 : w1.frozen? ⟨w.heap.size + 1, 12, none⟩ = false := frozen_heap hC1 12
    have cq : w1.cell? ⟨w.heap.size + 2, 0, none⟩ = some (.int .i64 0) := cell_heap hE1 0
    have fq : w1.frozen? ⟨w.heap.size + 2, 0, none⟩ = false := frozen_heap hE1 0
    have HS := Lib.hid (heap_far (set13 hC1 (.int .i64 c.op) (.int .i64 c.f) (.int .i64 c.t) (.bool c.wr) (.bool c.us) (.bool c.ex) (.int .u64 c.addr) (.int .i64 c.size) (.int .u64 c.x) (.int .i64 c.id) (.int .i64 c.a) (.int .i64 c.b) (.int .i64 c.d)) (a := ⟨w.heap.size + 2, 0, none⟩) (by simp) (.int .i64 0))
    have HQ := Lib.hid (heap_set (heap_far (heap_far (heap_far (heap_far (heap_far (heap_far (heap_far (heap_far (heap_far (heap_far (heap_far (heap_far (heap_far hE1 (a := ⟨w.heap.size + 1, 0, none⟩) (by simp) (.int .i64 c.op)) (a := ⟨w.heap.size + 1, 1, none⟩) (by simp) (.int .i64 c.f)) (a := ⟨w.heap.size + 1, 2, none⟩) (by simp) (.int .i64 c.t)) (a := ⟨w.heap.size + 1, 3, none⟩) (by simp) (.bool c.wr)) (a := ⟨w.heap.size + 1, 4, none⟩) (by simp) (.bool c.us)) (a := ⟨w.heap.size + 1, 5, none⟩) (by simp) (.bool c.ex)) (a := ⟨w.heap.size + 1, 6, none⟩) (by simp) (.int .u64 c.addr)) (a := ⟨w.heap.size + 1, 7, none⟩) (by simp) (.int .i64 c.size)) (a := ⟨w.heap.size + 1, 8, none⟩) (by simp) (.int .u64 c.x)) (a := ⟨w.heap.size + 1, 9, none⟩) (by simp) (.int .i64 c.id)) (a := ⟨w.heap.size + 1, 10, none⟩) (by simp) (.int .i64 c.a)) (a := ⟨w.heap.size + 1, 11, none⟩) (by simp) (.int .i64 c.b)) (a := ⟨w.heap.size + 1, 12, none⟩) (by simp) (.int .i64 c.d)) 0 (.int .i64 0))
    have HBS := Lib.hid (Below.touch hB1 (((((((((((((((Touch.refl (fun b => b = w.heap.size + 1 ∨ b = w.heap.size + 2) w1).setCell (a := ⟨w.heap.size + 1, 0, none⟩) (.inl (.inl rfl)) (.int .i64 c.op)).setCell (a := ⟨w.heap.size + 1, 1, none⟩) (.inl (.inl rfl)) (.int .i64 c.f)).setCell (a := ⟨w.heap.size + 1, 2, none⟩) (.inl (.inl rfl)) (.int .i64 c.t)).setCell (a := ⟨w.heap.size + 1, 3, none⟩) (.inl (.inl rfl)) (.bool c.wr)).setCell (a := ⟨w.heap.size + 1, 4, none⟩) (.inl (.inl rfl)) (.bool c.us)).setCell (a := ⟨w.heap.size + 1, 5, none⟩) (.inl (.inl rfl)) (.bool c.ex)).setCell (a := ⟨w.heap.size + 1, 6, none⟩) (.inl (.inl rfl)) (.int .u64 c.addr)).setCell (a := ⟨w.heap.size + 1, 7, none⟩) (.inl (.inl rfl)) (.int .i64 c.size)).setCell (a := ⟨w.heap.size + 1, 8, none⟩) (.inl (.inl rfl)) (.int .u64 c.x)).setCell (a := ⟨w.heap.size + 1, 9, none⟩) (.inl (.inl rfl)) (.int .i64 c.id)).setCell (a := ⟨w.heap.size + 1, 10, none⟩) (.inl (.inl rfl)) (.int .i64 c.a)).setCell (a := ⟨w.heap.size + 1, 11, none⟩) (.inl (.inl rfl)) (.int .i64 c.b)).setCell (a := ⟨w.heap.size + 1, 12, none⟩) (.inl (.inl rfl)) (.int .i64 c.d)).setCell (a := ⟨w.heap.size + 2, 0, none⟩) (.inl (.inr rfl)) (.int .i64 0)) (Nat.le_refl _) (fun k e => by omega))
    clear ht hC1 hE1 hB1
    go_wp2
    refine leaves_cons (f := 12) (args := #[.pointer (some ⟨w.heap.size + 1, 0, none⟩), .pointer (some ⟨w.heap.size + 2, 0, none⟩)]) (by simp) (by simp [go_sem]) ?_
    refine (catch_idle _ _ _).mono ?_
    rintro e u' w'' ⟨rfl, rfl, hb⟩
    have hp := heap_below hb HS.out
    have hq := heap_below hb HQ.out
    have hBx := b_then HBS.out hb
    have d0 : w''.cell? ⟨w.heap.size + 1, 0, none⟩ = some (.int .i64 c.op) := cell_heap hp 0
    have d1 : w''.cell? ⟨w.heap.size + 1, 1, none⟩ = some (.int .i64 c.f) := cell_heap hp 1
    have d2 : w''.cell? ⟨w.heap.size + 1, 2, none⟩ = some (.int .i64 c.t) := cell_heap hp 2
    have d3 : w''.cell? ⟨w.heap.size + 1, 3, none⟩ = some (.bool c.wr) := cell_heap hp 3
    have d4 : w''.cell? ⟨w.heap.size + 1, 4, none⟩ = some (.bool c.us) := cell_heap hp 4
    have d5 : w''.cell? ⟨w.heap.size + 1, 5, none⟩ = some (.bool c.ex) := cell_heap hp 5
    have d6 : w''.cell? ⟨w.heap.size + 1, 6, none⟩ = some (.int .u64 c.addr) := cell_heap hp 6
    have d7 : w''.cell? ⟨w.heap.size + 1, 7, none⟩ = some (.int .i64 c.size) := cell_heap hp 7
    have d8 : w''.cell? ⟨w.heap.size + 1, 8, none⟩ = some (.int .u64 c.x) := cell_heap hp 8
    have d9 : w''.cell? ⟨w.heap.size + 1, 9, none⟩ = some (.int .i64 c.id) := cell_heap hp 9
    have d10 : w''.cell? ⟨w.heap.size + 1, 10, none⟩ = some (.int .i64 c.a) := cell_heap hp 10
    have d11 : w''.cell? ⟨w.heap.size + 1, 11, none⟩ = some (.int .i64 c.b) := cell_heap hp 11
    have d12 : w''.cell? ⟨w.heap.size + 1, 12, none⟩ = some (.int .i64 c.d) := cell_heap hp 12
    have dq : w''.cell? ⟨w.heap.size + 2, 0, none⟩ = some (.int .i64 0) := cell_heap hq 0
    exact ⟨.tuple #[c.val, .int .i64 0], by simp [results, Try.results4, go_sem, d0, d1, d2, d3, d4, d5, d6, d7, d8, d9, d10, d11, d12, dq], rfl, hBx⟩
end Go.Proofs.Ytbbohjmkippigaa
