/- The package call (layer 15): Read: any words are the call that they are, or none. No condition but that the words are numbers of 64 bits. -/
import Derived.Test.YtbbohjmkippigaaCallA
import Derived.Defers
import Derived.Recover
namespace Go.Proofs.Ytbbohjmkippigaa
open Go.ChangeShapes Go.WideShapes Go.ChangeAt Go.RowKit
set_option linter.unusedVariables false
set_option linter.unusedSimpArgs false

section
variable {w : World} {r ab : Nat} {o x1 x2 x3 x4 x5 : Int}
set_option maxRecDepth 100000 in
theorem read_0 (h : RAt w r ab [0, x1, x2, x3, x4, x5] 0) :
    Calls Try.prog 13 #[.pointer (some ⟨r, 0, none⟩)] w fun e w' => e = .panicked badP ∧ Touch (fun b => b = r) w w' := by
  have hz := heap_lt h.rd
  have HC0 := Lib.hid (number_ok (h.below (w' := w.alloc (.cells CV.zero.cells 29)) (by go_grown)) (x := 0) rfl (by omega) 17 (by omega) (by omega) (by omega))
  clear h
  go_enter Try.func13, Try.ntmps13
  go_wp2_with fail
  refine HC0.out.mono ?_
  rintro e w1 ⟨rfl, ht1, hr1⟩
  have hp1 := ht1.heap (heap_new w (.cells CV.zero.cells 29)) (fun e => by omega)
  have hs1 : w.heap.size < w1.heap.size := heap_lt hp1
  go_wp2_with fail
  exact ⟨rfl, rfl, (((Touch.refl (fun b => b = r) w).alloc _).trans ht1 (fun k h => .inl h)).alloc _⟩
set_option maxRecDepth 100000 in
theorem read_big (h : RAt w r ab [o, x1, x2, x3, x4, x5] 0) (ho : 17 ≤ o) :
    Calls Try.prog 13 #[.pointer (some ⟨r, 0, none⟩)] w fun e w' => e = .panicked badP ∧ Touch (fun b => b = r) w w' := by
  have hz := heap_lt h.rd
  have HC0 := Lib.hid (number_bad (h.below (w' := w.alloc (.cells CV.zero.cells 29)) (by go_grown)) (x := o) rfl 17 (by omega) (by omega) (by omega))
  clear h
  go_enter Try.func13, Try.ntmps13
  go_wp2_with fail
  refine HC0.out.mono ?_
  rintro e w1 ⟨rfl, ht1⟩
  go_wp2
  exact ⟨rfl, rfl, (((Touch.refl (fun b => b = r) w).alloc _).trans ht1 (fun k h => .inl h))⟩
theorem read_any (h : RAt w r ab [o, x1, x2, x3, x4, x5] 0) (h0 : 0 ≤ o) (h1 : 0 ≤ x1) (h2 : 0 ≤ x2) (h3 : 0 ≤ x3) (h4 : 0 ≤ x4) (h5 : 0 ≤ x5) (u1 : x1 < 18446744073709551616) (u2 : x2 < 18446744073709551616) (u3 : x3 < 18446744073709551616) (u4 : x4 < 18446744073709551616) (u5 : x5 < 18446744073709551616) :
    Calls Try.prog 13 #[.pointer (some ⟨r, 0, none⟩)] w fun e w' => RO (readF o x1 x2 x3 x4 x5) e ∧ Touch (fun b => b = r) w w' := by
  have hpos : Hid (∀ x ∈ [o, x1, x2, x3, x4, x5], 0 ≤ x) := Lib.hid (by simp; omega)
  by_cases hb : 17 ≤ o
  · exact (read_big h hb).mono fun e w' ⟨he, ht⟩ => ⟨by rw [readF, if_neg (goodF_big _ _ _ _ _ _ (by omega))]; exact he, ht⟩
  have ho : o = 0 ∨ o = 1 ∨ o = 2 ∨ o = 3 ∨ o = 4 ∨ o = 5 ∨ o = 6 ∨ o = 7 ∨ o = 8 ∨ o = 9 ∨ o = 10 ∨ o = 11 ∨ o = 12 ∨ o = 13 ∨ o = 14 ∨ o = 15 ∨ o = 16 := by omega
  clear hb
  rcases ho with rfl | rfl | rfl | rfl | rfl | rfl | rfl | rfl | rfl | rfl | rfl | rfl | rfl | rfl | rfl | rfl | rfl
  · exact (read_0 h).mono fun e w' ⟨he, ht⟩ => ⟨by rw [readF, if_neg (goodF_big _ _ _ _ _ _ (by omega))]; exact he, ht⟩
  · exact read_1 h hpos h1 h2 h3 h4 h5 u1 u2 u3 u4 u5
  · exact read_2 h hpos h1 h2 h3 h4 h5 u1 u2 u3 u4 u5
  · exact read_3 h hpos h1 h2 h3 h4 h5 u1 u2 u3 u4 u5
  · exact read_4 h hpos h1 h2 h3 h4 h5 u1 u2 u3 u4 u5
  · exact read_5 h hpos h1 h2 h3 h4 h5 u1 u2 u3 u4 u5
  · exact read_6 h hpos h1 h2 h3 h4 h5 u1 u2 u3 u4 u5
  · exact read_7 h hpos h1 h2 h3 h4 h5 u1 u2 u3 u4 u5
  · exact read_8 h hpos h1 h2 h3 h4 h5 u1 u2 u3 u4 u5
  · exact read_9 h hpos h1 h2 h3 h4 h5 u1 u2 u3 u4 u5
  · exact read_10 h hpos h1 h2 h3 h4 h5 u1 u2 u3 u4 u5
  · exact read_11 h hpos h1 h2 h3 h4 h5 u1 u2 u3 u4 u5
  · exact read_12 h hpos h1 h2 h3 h4 h5 u1 u2 u3 u4 u5
  · exact read_13 h hpos h1 h2 h3 h4 h5 u1 u2 u3 u4 u5
  · exact read_14 h hpos h1 h2 h3 h4 h5 u1 u2 u3 u4 u5
  · exact read_15 h hpos h1 h2 h3 h4 h5 u1 u2 u3 u4 u5
  · exact read_16 h hpos h1 h2 h3 h4 h5 u1 u2 u3 u4 u5
end
/-- The deferred closure, of a frame that returns. -/
theorem catch_idle (p q : Addr) (w : World) :
    CallsD Try.prog 12 #[.pointer (some p), .pointer (some q)] .returning w fun e u' w' => e = .returned (.tuple #[]) ∧ u' = .returning ∧ Below w.heap.size w w' := by
  have ta : ∀ w : World, (Instr.typeAssert Value.nilIface 20 48 true).run Try.prog w = .ok (.tuple #[.agg #[], .bool false]) w := fun _ => by kernel_rfl
  have hr : Array.replicate 9 undef = #[undef, undef, undef, undef, undef, undef, undef, undef, undef] := rfl
  refine callsD_of_wpS Try.func12 rfl fun c₀ cs hu => ?_
  apply wpS_seq
  apply wpS_region
  simp [wpOpsS, go_sem, recoverD, hu, Try.ntmps12, Exit.thenS, ta, hr]
  apply wpS_seq
  apply wpS_region
  simp [wpOpsS, go_sem, Exit.thenS]
  refine wpS_cond (t := false) (by simp [Act.eval]) ?_
  simp only [Bool.false_eq_true, if_false]
  refine wpS_of_wp (wp_skip ?_)
  cases c₀
  simp_all [bodyPostS, results, Try.results12]
  exact (Below.refl _ _).alloc (Nat.le_refl _) _
/-- The deferred closure, of a frame that panics: the panic is taken, the results are told. -/
theorem catch_bad {pb qb : Nat} {w : World} (h : w.heap[pb]? = some (.cells CV.zero.cells 29 (0, 0))) (h2 : w.heap[qb]? = some (.cells #[.int .i64 0] 30 (0, 0))) (hne : pb ≠ qb) :
    CallsD Try.prog 12 #[.pointer (some ⟨pb, 0, none⟩), .pointer (some ⟨qb, 0, none⟩)] (.panicking badP) w fun e u' w' => e = .returned (.tuple #[]) ∧ u' = .panicking [{ v := .iface 48 (.agg #[]), recovered := true }] ∧
      w'.heap[pb]? = some (.cells CV.zero.cells 29 (0, 0)) ∧ w'.heap[qb]? = some (.cells #[.int .i64 13] 30 (0, 0)) ∧ Touch (fun b => b = pb ∨ b = qb) w w' := by
  have ta : ∀ w : World, (Instr.typeAssert (.iface 48 (.agg #[])) 20 48 true).run Try.prog w = .ok (.tuple #[.agg #[], .bool true]) w := fun _ => by kernel_rfl
  have hr : Array.replicate 9 undef = #[undef, undef, undef, undef, undef, undef, undef, undef, undef] := rfl
  refine callsD_of_wpS Try.func12 rfl fun c₀ cs hu => ?_
  apply wpS_seq
  apply wpS_region
  simp [wpOpsS, go_sem, recoverD, hu, Try.ntmps12, Exit.thenS, ta, hr]
  apply wpS_seq
  apply wpS_region
  simp [wpOpsS, go_sem, Exit.thenS]
  refine wpS_cond (t := true) (by simp [Act.eval]) ?_
  simp only [if_true]
  have c0 : w.cell? ⟨pb, 0, none⟩ = some (.int .i64 0) := cell_heap h 0
  have f0 : w.frozen? ⟨pb, 0, none⟩ = false := frozen_heap h 0
  have c1 : w.cell? ⟨pb, 1, none⟩ = some (.int .i64 0) := cell_heap h 1
  have f1 : w.frozen? ⟨pb, 1, none⟩ = false := frozen_heap h 1
  have c2 : w.cell? ⟨pb, 2, none⟩ = some (.int .i64 0) := cell_heap h 2
  have f2 : w.frozen? ⟨pb, 2, none⟩ = false := frozen_heap h 2
  have c3 : w.cell? ⟨pb, 3, none⟩ = some (.bool false) := cell_heap h 3
  have f3 : w.frozen? ⟨pb, 3, none⟩ = false := frozen_heap h 3
  have c4 : w.cell? ⟨pb, 4, none⟩ = some (.bool false) := cell_heap h 4
  have f4 : w.frozen? ⟨pb, 4, none⟩ = false := frozen_heap h 4
  have c5 : w.cell? ⟨pb, 5, none⟩ = some (.bool false) := cell_heap h 5
  have f5 : w.frozen? ⟨pb, 5, none⟩ = false := frozen_heap h 5
  have c6 : w.cell? ⟨pb, 6, none⟩ = some (.int .u64 0) := cell_heap h 6
  have f6 : w.frozen? ⟨pb, 6, none⟩ = false := frozen_heap h 6
  have c7 : w.cell? ⟨pb, 7, none⟩ = some (.int .i64 0) := cell_heap h 7
  have f7 : w.frozen? ⟨pb, 7, none⟩ = false := frozen_heap h 7
  have c8 : w.cell? ⟨pb, 8, none⟩ = some (.int .u64 0) := cell_heap h 8
  have f8 : w.frozen? ⟨pb, 8, none⟩ = false := frozen_heap h 8
  have c9 : w.cell? ⟨pb, 9, none⟩ = some (.int .i64 0) := cell_heap h 9
  have f9 : w.frozen? ⟨pb, 9, none⟩ = false := frozen_heap h 9
  have c10 : w.cell? ⟨pb, 10, none⟩ = some (.int .i64 0) := cell_heap h 10
  have f10 : w.frozen? ⟨pb, 10, none⟩ = false := frozen_heap h 10
  have c11 : w.cell? ⟨pb, 11, none⟩ = some (.int .i64 0) := cell_heap h 11
  have f11 : w.frozen? ⟨pb, 11, none⟩ = false := frozen_heap h 11
  have c12 : w.cell? ⟨pb, 12, none⟩ = some (.int .i64 0) := cell_heap h 12
  have f12 : w.frozen? ⟨pb, 12, none⟩ = false := frozen_heap h 12
  have cq : w.cell? ⟨qb, 0, none⟩ = some (.int .i64 0) := cell_heap h2 0
  have fq : w.frozen? ⟨qb, 0, none⟩ = false := frozen_heap h2 0
  have hz := heap_lt h
  have hz2 := heap_lt h2
  have hne2 := hne.symm
  have HQ := Lib.hid (heap_old _ (.cells #[] 48) _ (heap_set (heap_far (heap_far (heap_far (heap_far (heap_far (heap_far (heap_far (heap_far (heap_far (heap_far (heap_far (heap_far (heap_far h2 (a := ⟨pb, 0, none⟩) hne.symm (.int .i64 0)) (a := ⟨pb, 1, none⟩) hne.symm (.int .i64 0)) (a := ⟨pb, 2, none⟩) hne.symm (.int .i64 0)) (a := ⟨pb, 3, none⟩) hne.symm (.bool false)) (a := ⟨pb, 4, none⟩) hne.symm (.bool false)) (a := ⟨pb, 5, none⟩) hne.symm (.bool false)) (a := ⟨pb, 6, none⟩) hne.symm (.int .u64 0)) (a := ⟨pb, 7, none⟩) hne.symm (.int .i64 0)) (a := ⟨pb, 8, none⟩) hne.symm (.int .u64 0)) (a := ⟨pb, 9, none⟩) hne.symm (.int .i64 0)) (a := ⟨pb, 10, none⟩) hne.symm (.int .i64 0)) (a := ⟨pb, 11, none⟩) hne.symm (.int .i64 0)) (a := ⟨pb, 12, none⟩) hne.symm (.int .i64 0)) 0 (.int .i64 13)))
  have HP := Lib.hid (heap_old _ (.cells #[] 48) _ (heap_far (heap_set (heap_set (heap_set (heap_set (heap_set (heap_set (heap_set (heap_set (heap_set (heap_set (heap_set (heap_set (heap_set h 0 (.int .i64 0)) 1 (.int .i64 0)) 2 (.int .i64 0)) 3 (.bool false)) 4 (.bool false)) 5 (.bool false)) 6 (.int .u64 0)) 7 (.int .i64 0)) 8 (.int .u64 0)) 9 (.int .i64 0)) 10 (.int .i64 0)) 11 (.int .i64 0)) 12 (.int .i64 0)) (a := ⟨qb, 0, none⟩) hne (.int .i64 13)))
  have HT := Lib.hid ((((((((((((((((Touch.refl (fun b => b = pb ∨ b = qb) w).setCell (a := ⟨pb, 0, none⟩) (.inl (.inl rfl)) (.int .i64 0)).setCell (a := ⟨pb, 1, none⟩) (.inl (.inl rfl)) (.int .i64 0)).setCell (a := ⟨pb, 2, none⟩) (.inl (.inl rfl)) (.int .i64 0)).setCell (a := ⟨pb, 3, none⟩) (.inl (.inl rfl)) (.bool false)).setCell (a := ⟨pb, 4, none⟩) (.inl (.inl rfl)) (.bool false)).setCell (a := ⟨pb, 5, none⟩) (.inl (.inl rfl)) (.bool false)).setCell (a := ⟨pb, 6, none⟩) (.inl (.inl rfl)) (.int .u64 0)).setCell (a := ⟨pb, 7, none⟩) (.inl (.inl rfl)) (.int .i64 0)).setCell (a := ⟨pb, 8, none⟩) (.inl (.inl rfl)) (.int .u64 0)).setCell (a := ⟨pb, 9, none⟩) (.inl (.inl rfl)) (.int .i64 0)).setCell (a := ⟨pb, 10, none⟩) (.inl (.inl rfl)) (.int .i64 0)).setCell (a := ⟨pb, 11, none⟩) (.inl (.inl rfl)) (.int .i64 0)).setCell (a := ⟨pb, 12, none⟩) (.inl (.inl rfl)) (.int .i64 0)).setCell (a := ⟨qb, 0, none⟩) (.inl (.inr rfl)) (.int .i64 13)).alloc (.cells #[] 48))
  clear h h2
  refine wpS_of_wp ?_
  go_wp2
  cases c₀
  simp_all [bodyPostS, results, Try.results12]
  exact ⟨HP.out, HQ.out, HT.out⟩
end Go.Proofs.Ytbbohjmkippigaa
