/- CallReads: any words are the call that they are, or none. No condition. -/
import Derived.Test.YtcnmhmbdbadbmaaCallZ
namespace Go.Proofs.Ytcnmhmbdbadbmaa
open Go.ChangeShapes Go.WideShapes Go.ChangeAt Go.RowKit
set_option linter.unusedVariables false
set_option linter.unusedSimpArgs false

set_option maxHeartbeats 1000000 in
theorem told_any (c : CV) (w : World) : Calls Try.prog 11 #[.agg #[.int .i64 c.op, .int .i64 c.f, .int .i64 c.t, .bool c.wr, .bool c.us, .bool c.ex, .int .u64 c.addr, .int .i64 c.size, .int .u64 c.x, .int .i64 c.id, .int .i64 c.a, .int .i64 c.b, .int .i64 c.d]] w fun e w' => e = .returned (.agg #[.int .i64 c.op, .int .i64 c.f, .int .i64 c.t, .bool c.wr, .bool c.us, .bool c.ex, .int .u64 c.addr, .int .i64 c.size, .int .u64 c.x, .int .i64 c.id, .int .i64 c.a, .int .i64 c.b, .int .i64 c.d]) ∧ Below w.heap.size w w' := by
  go_enter Try.func11, Try.ntmps11
  go_wp2
  go_returns
  exact ⟨rfl, by go_grown⟩
set_option maxRecDepth 100000 in
set_option maxHeartbeats 8000000 in
theorem reads_any (x0 x1 x2 x3 x4 x5 : Int) (d : CV) (er : Int) (ok : Bool) (hk : (er = 0 ∧ ok = true) ∨ (er = 13 ∧ ok = false))
    (hr : ∀ W, Calls Try.prog 8 #[.agg #[.int .u64 x0, .int .u64 x1, .int .u64 x2, .int .u64 x3, .int .u64 x4, .int .u64 x5]] W fun e w' => e = .returned (.tuple #[.agg #[.int .i64 d.op, .int .i64 d.f, .int .i64 d.t, .bool d.wr, .bool d.us, .bool d.ex, .int .u64 d.addr, .int .i64 d.size, .int .u64 d.x, .int .i64 d.id, .int .i64 d.a, .int .i64 d.b, .int .i64 d.d], .int .i64 er]) ∧ Below W.heap.size W w')
    (hq : ∀ W, Calls Try.prog 9 #[.agg #[.int .u64 x0, .int .u64 x1, .int .u64 x2, .int .u64 x3, .int .u64 x4, .int .u64 x5]] W fun e w' => e = .returned (.tuple #[.agg #[.int .i64 d.op, .int .i64 d.f, .int .i64 d.t, .bool d.wr, .bool d.us, .bool d.ex, .int .u64 d.addr, .int .i64 d.size, .int .u64 d.x, .int .i64 d.id, .int .i64 d.a, .int .i64 d.b, .int .i64 d.d], .bool ok]) ∧ Below W.heap.size W w') (w : World) :
    Calls Try.prog 3 #[.agg #[.int .u64 x0, .int .u64 x1, .int .u64 x2, .int .u64 x3, .int .u64 x4, .int .u64 x5]] w fun e w' => e = .returned (.bool true) ∧ Below w.heap.size w w' := by
  have H1 := Lib.hid hr
  have H2 := Lib.hid hq
  clear hr hq
  have hw0 := heap_new w (.cells #[.int .u64 x0, .int .u64 x1, .int .u64 x2, .int .u64 x3, .int .u64 x4, .int .u64 x5] 24)
  have hbw : Below w.heap.size w (w.alloc (.cells #[.int .u64 x0, .int .u64 x1, .int .u64 x2, .int .u64 x3, .int .u64 x4, .int .u64 x5] 24)) := by go_grown
  rcases hk with ⟨rfl, rfl⟩ | ⟨rfl, rfl⟩
  all_goals
    go_enter Try.func3, Try.ntmps3
    go_wp2_with fail
    refine (H1.out _).mono ?_
    rintro e v1 ⟨rfl, hb1⟩
    have hw1 := heap_below hb1 hw0
    have hB1 := b_then hbw hb1
    have c0 : v1.cell? ⟨w.heap.size, 0, none⟩ = some (.int .u64 x0) := cell_heap hw1 0
    have c1 : v1.cell? ⟨w.heap.size, 1, none⟩ = some (.int .u64 x1) := cell_heap hw1 1
    have c2 : v1.cell? ⟨w.heap.size, 2, none⟩ = some (.int .u64 x2) := cell_heap hw1 2
    have c3 : v1.cell? ⟨w.heap.size, 3, none⟩ = some (.int .u64 x3) := cell_heap hw1 3
    have c4 : v1.cell? ⟨w.heap.size, 4, none⟩ = some (.int .u64 x4) := cell_heap hw1 4
    have c5 : v1.cell? ⟨w.heap.size, 5, none⟩ = some (.int .u64 x5) := cell_heap hw1 5
    have hz1 := heap_lt hw1
    have hcc := heap_new v1 (.cells #[.int .i64 d.op, .int .i64 d.f, .int .i64 d.t, .bool d.wr, .bool d.us, .bool d.ex, .int .u64 d.addr, .int .i64 d.size, .int .u64 d.x, .int .i64 d.id, .int .i64 d.a, .int .i64 d.b, .int .i64 d.d] 30)
    have hBc : Below w.heap.size w (v1.alloc (.cells #[.int .i64 d.op, .int .i64 d.f, .int .i64 d.t, .bool d.wr, .bool d.us, .bool d.ex, .int .u64 d.addr, .int .i64 d.size, .int .u64 d.x, .int .i64 d.id, .int .i64 d.a, .int .i64 d.b, .int .i64 d.d] 30)) := hB1.alloc hB1.size _
    clear hb1 hw1
    go_wp2_with fail
    refine (H2.out _).mono ?_
    rintro e v2 ⟨rfl, hb2⟩
    have hc2 := heap_old v2 (.cells #[.int .i64 d.op, .int .i64 d.f, .int .i64 d.t, .bool d.wr, .bool d.us, .bool d.ex, .int .u64 d.addr, .int .i64 d.size, .int .u64 d.x, .int .i64 d.id, .int .i64 d.a, .int .i64 d.b, .int .i64 d.d] 35) _ (heap_below hb2 hcc)
    have hx2 := heap_new v2 (.cells #[.int .i64 d.op, .int .i64 d.f, .int .i64 d.t, .bool d.wr, .bool d.us, .bool d.ex, .int .u64 d.addr, .int .i64 d.size, .int .u64 d.x, .int .i64 d.id, .int .i64 d.a, .int .i64 d.b, .int .i64 d.d] 35)
    have hB2 := (b_then hBc hb2)
    have hB3 : Below w.heap.size w (v2.alloc (.cells #[.int .i64 d.op, .int .i64 d.f, .int .i64 d.t, .bool d.wr, .bool d.us, .bool d.ex, .int .u64 d.addr, .int .i64 d.size, .int .u64 d.x, .int .i64 d.id, .int .i64 d.a, .int .i64 d.b, .int .i64 d.d] 35)) := hB2.alloc hB2.size _
    clear hb2 hcc hBc hB1 hB2 hbw hw0 c0 c1 c2 c3 c4 c5
    go_wp2_with fail
    generalize hW : v2.alloc (.cells #[.int .i64 d.op, .int .i64 d.f, .int .i64 d.t, .bool d.wr, .bool d.us, .bool d.ex, .int .u64 d.addr, .int .i64 d.size, .int .u64 d.x, .int .i64 d.id, .int .i64 d.a, .int .i64 d.b, .int .i64 d.d] 35) = W0 at hc2 hx2 hB3 ⊢
    clear hW
    have p0 : W0.cell? ⟨v1.heap.size, 0, none⟩ = some (.int .i64 d.op) := cell_heap hc2 0
    have q0 : W0.cell? ⟨v2.heap.size, 0, none⟩ = some (.int .i64 d.op) := cell_heap hx2 0
    have p1 : W0.cell? ⟨v1.heap.size, 1, none⟩ = some (.int .i64 d.f) := cell_heap hc2 1
    have q1 : W0.cell? ⟨v2.heap.size, 1, none⟩ = some (.int .i64 d.f) := cell_heap hx2 1
    have p2 : W0.cell? ⟨v1.heap.size, 2, none⟩ = some (.int .i64 d.t) := cell_heap hc2 2
    have q2 : W0.cell? ⟨v2.heap.size, 2, none⟩ = some (.int .i64 d.t) := cell_heap hx2 2
    have p3 : W0.cell? ⟨v1.heap.size, 3, none⟩ = some (.bool d.wr) := cell_heap hc2 3
    have q3 : W0.cell? ⟨v2.heap.size, 3, none⟩ = some (.bool d.wr) := cell_heap hx2 3
    have p4 : W0.cell? ⟨v1.heap.size, 4, none⟩ = some (.bool d.us) := cell_heap hc2 4
    have q4 : W0.cell? ⟨v2.heap.size, 4, none⟩ = some (.bool d.us) := cell_heap hx2 4
    have p5 : W0.cell? ⟨v1.heap.size, 5, none⟩ = some (.bool d.ex) := cell_heap hc2 5
    have q5 : W0.cell? ⟨v2.heap.size, 5, none⟩ = some (.bool d.ex) := cell_heap hx2 5
    have p6 : W0.cell? ⟨v1.heap.size, 6, none⟩ = some (.int .u64 d.addr) := cell_heap hc2 6
    have q6 : W0.cell? ⟨v2.heap.size, 6, none⟩ = some (.int .u64 d.addr) := cell_heap hx2 6
    have p7 : W0.cell? ⟨v1.heap.size, 7, none⟩ = some (.int .i64 d.size) := cell_heap hc2 7
    have q7 : W0.cell? ⟨v2.heap.size, 7, none⟩ = some (.int .i64 d.size) := cell_heap hx2 7
    have p8 : W0.cell? ⟨v1.heap.size, 8, none⟩ = some (.int .u64 d.x) := cell_heap hc2 8
    have q8 : W0.cell? ⟨v2.heap.size, 8, none⟩ = some (.int .u64 d.x) := cell_heap hx2 8
    have p9 : W0.cell? ⟨v1.heap.size, 9, none⟩ = some (.int .i64 d.id) := cell_heap hc2 9
    have q9 : W0.cell? ⟨v2.heap.size, 9, none⟩ = some (.int .i64 d.id) := cell_heap hx2 9
    have p10 : W0.cell? ⟨v1.heap.size, 10, none⟩ = some (.int .i64 d.a) := cell_heap hc2 10
    have q10 : W0.cell? ⟨v2.heap.size, 10, none⟩ = some (.int .i64 d.a) := cell_heap hx2 10
    have p11 : W0.cell? ⟨v1.heap.size, 11, none⟩ = some (.int .i64 d.b) := cell_heap hc2 11
    have q11 : W0.cell? ⟨v2.heap.size, 11, none⟩ = some (.int .i64 d.b) := cell_heap hx2 11
    have p12 : W0.cell? ⟨v1.heap.size, 12, none⟩ = some (.int .i64 d.d) := cell_heap hc2 12
    have q12 : W0.cell? ⟨v2.heap.size, 12, none⟩ = some (.int .i64 d.d) := cell_heap hx2 12
    have z1 := heap_lt hc2
    have z2 := heap_lt hx2
    have HT : Hid (∀ W, Calls Try.prog 11 #[.agg #[.int .i64 d.op, .int .i64 d.f, .int .i64 d.t, .bool d.wr, .bool d.us, .bool d.ex, .int .u64 d.addr, .int .i64 d.size, .int .u64 d.x, .int .i64 d.id, .int .i64 d.a, .int .i64 d.b, .int .i64 d.d]] W fun e w' => e = .returned (.agg #[.int .i64 d.op, .int .i64 d.f, .int .i64 d.t, .bool d.wr, .bool d.us, .bool d.ex, .int .u64 d.addr, .int .i64 d.size, .int .u64 d.x, .int .i64 d.id, .int .i64 d.a, .int .i64 d.b, .int .i64 d.d]) ∧ Below W.heap.size W w') := Lib.hid (told_any d)
    have hab := @Abv.cell W0
    refine wp_region_abv (by kernel_rfl) (by kernel_rfl) ?_
    repeat (first | go_big_quiet_skip | (go_big_quiet_want; go_big_quiet_op; first | go_big_quiet_on | go_big_quiet_call ((first | (go_at_call 10; exact abv_call (awake_true _)) | (go_at_call 11; exact abv_call (HT.out _))))))
    refine wpQuiet_nil ?_
    rintro w3 ⟨⟨_, hb3⟩, rfl⟩
    go_wp2
    go_returns
    exact ⟨rfl, b_then hB3 hb3⟩
theorem walk_CallReads (a0_0 : Int) (a0_1 : Int) (a0_2 : Int) (a0_3 : Int) (a0_4 : Int) (a0_5 : Int) (w : World) (w0_0 : (Lit.int .u64 a0_0).wf = true) (w0_1 : (Lit.int .u64 a0_1).wf = true) (w0_2 : (Lit.int .u64 a0_2).wf = true) (w0_3 : (Lit.int .u64 a0_3).wf = true) (w0_4 : (Lit.int .u64 a0_4).wf = true) (w0_5 : (Lit.int .u64 a0_5).wf = true) :
    Calls Try.prog 3 #[.agg #[.int .u64 a0_0, .int .u64 a0_1, .int .u64 a0_2, .int .u64 a0_3, .int .u64 a0_4, .int .u64 a0_5]] w fun e w' => e = .returned (.bool true) ∧ Below w.heap.size w w' := by
  obtain ⟨l0, u0⟩ := u64_bd w0_0
  obtain ⟨l1, u1⟩ := u64_bd w0_1
  obtain ⟨l2, u2⟩ := u64_bd w0_2
  obtain ⟨l3, u3⟩ := u64_bd w0_3
  obtain ⟨l4, u4⟩ := u64_bd w0_4
  obtain ⟨l5, u5⟩ := u64_bd w0_5
  have H1 := fun W => call_read a0_0 a0_1 a0_2 a0_3 a0_4 a0_5 l0 l1 l2 l3 l4 l5 u1 u2 u3 u4 u5 W
  have H2 := fun W => ref_read a0_0 a0_1 a0_2 a0_3 a0_4 a0_5 l0 l1 u1 l2 u2 l3 u3 l4 u4 l5 u5 W
  refine reads_any _ _ _ _ _ _ (rvF (readF a0_0 a0_1 a0_2 a0_3 a0_4 a0_5)) (reF (readF a0_0 a0_1 a0_2 a0_3 a0_4 a0_5)) (readF a0_0 a0_1 a0_2 a0_3 a0_4 a0_5).isSome ?_ H1 H2 w
  cases readF a0_0 a0_1 a0_2 a0_3 a0_4 a0_5 with
  | none => exact .inr ⟨rfl, rfl⟩
  | some c => exact .inl ⟨rfl, rfl⟩
end Go.Proofs.Ytcnmhmbdbadbmaa
