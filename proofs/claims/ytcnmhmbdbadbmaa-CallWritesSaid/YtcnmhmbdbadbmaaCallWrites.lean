/- CallWrites: calls are spelled in one way: a call's words are read as it, or it has none; words that are a call are its words. No condition. -/
import Derived.Test.YtcnmhmbdbadbmaaCallReads
import Derived.Test.YtcnmhmbdbadbmaaCallV
import Derived.Test.YtcnmhmbdbadbmaaCallE
namespace Go.Proofs.Ytcnmhmbdbadbmaa
open Go.ChangeShapes Go.WideShapes Go.ChangeAt Go.RowKit
set_option linter.unusedVariables false
set_option linter.unusedSimpArgs false

theorem write_back (x0 x1 x2 x3 x4 x5 : Int) (l0 : 0 ≤ x0) (l1 : 0 ≤ x1) (l2 : 0 ≤ x2) (l3 : 0 ≤ x3) (l4 : 0 ≤ x4) (l5 : 0 ≤ x5) (u1 : x1 < 18446744073709551616) (u2 : x2 < 18446744073709551616) (u3 : x3 < 18446744073709551616) (u4 : x4 < 18446744073709551616) (u5 : x5 < 18446744073709551616) (hg : goodF x0 x1 x2 x3 x4 x5) (w : World) :
    Calls Try.prog 13 #[(valF x0 x1 x2 x3 x4 x5).val] w fun e w' => e = .returned (.tuple #[.agg #[.int .u64 x0, .int .u64 x1, .int .u64 x2, .int .u64 x3, .int .u64 x4, .int .u64 x5], .int .i64 0]) ∧ Below w.heap.size w w' := by
  have hw := words_back hg l1 l2 l3 l4 l5 u1 u2 u3 u4 u5
  have h := write_any (valF x0 x1 x2 x3 x4 x5) (by rw [hw]; exact fun W => call_read x0 x1 x2 x3 x4 x5 l0 l1 l2 l3 l4 l5 u1 u2 u3 u4 u5 W) w
  rw [hw] at h
  refine h.mono ?_
  rintro e w' ⟨⟨_, he⟩ | ⟨hn, _⟩, hb⟩
  · exact ⟨he, hb⟩
  · exact absurd (readF_some hg) hn
theorem write_of (c : CV) (h1 : uB c.addr) (h2 : uB c.x) (w : World) :
    Calls Try.prog 13 #[c.val] w fun e w' => ((readF (wordsF c).w0 (wordsF c).w1 (wordsF c).w2 (wordsF c).w3 (wordsF c).w4 (wordsF c).w5 = some c ∧ e = .returned (.tuple #[(wordsF c).val, .int .i64 0])) ∨ (readF (wordsF c).w0 (wordsF c).w1 (wordsF c).w2 (wordsF c).w3 (wordsF c).w4 (wordsF c).w5 ≠ some c ∧ e = .returned (.tuple #[WV.zero.val, .int .i64 13]))) ∧ Below w.heap.size w w' := by
  obtain ⟨b0, b1, b2, b3, b4, b5⟩ := words_bd c h1 h2
  exact write_any c (fun W => call_read _ _ _ _ _ _ b0.1 b1.1 b2.1 b3.1 b4.1 b5.1 b1.2 b2.2 b3.2 b4.2 b5.2 W) w
set_option maxRecDepth 100000 in
set_option maxHeartbeats 16000000 in
theorem writes_any (c : CV) (h1 : uB c.addr) (h2 : uB c.x) (x0 x1 x2 x3 x4 x5 : Int) (l0 : 0 ≤ x0) (l1 : 0 ≤ x1) (l2 : 0 ≤ x2) (l3 : 0 ≤ x3) (l4 : 0 ≤ x4) (l5 : 0 ≤ x5) (u1 : x1 < 18446744073709551616) (u2 : x2 < 18446744073709551616) (u3 : x3 < 18446744073709551616) (u4 : x4 < 18446744073709551616) (u5 : x5 < 18446744073709551616) (w : World) :
    Calls Try.prog 7 #[.agg #[.int .i64 c.op, .int .i64 c.f, .int .i64 c.t, .bool c.wr, .bool c.us, .bool c.ex, .int .u64 c.addr, .int .i64 c.size, .int .u64 c.x, .int .i64 c.id, .int .i64 c.a, .int .i64 c.b, .int .i64 c.d], .agg #[.int .u64 x0, .int .u64 x1, .int .u64 x2, .int .u64 x3, .int .u64 x4, .int .u64 x5]] w fun e w' => e = .returned (.bool true) ∧ Below w.heap.size w w' := by
  have HW := Lib.hid (fun W => write_of c h1 h2 W)
  have hq : ∀ W, Calls Try.prog 9 #[(wordsF c).val] W fun e w' => e = .returned (.tuple #[(rvF (readF (wordsF c).w0 (wordsF c).w1 (wordsF c).w2 (wordsF c).w3 (wordsF c).w4 (wordsF c).w5)).val, .bool (readF (wordsF c).w0 (wordsF c).w1 (wordsF c).w2 (wordsF c).w3 (wordsF c).w4 (wordsF c).w5).isSome]) ∧ Below W.heap.size W w' := by
    intro W
    obtain ⟨b0, b1, b2, b3, b4, b5⟩ := words_bd c h1 h2
    exact ref_read _ _ _ _ _ _ b0.1 b1.1 b1.2 b2.1 b2.2 b3.1 b3.2 b4.1 b4.2 b5.1 b5.2 W
  have HQ := Lib.hid hq
  have H1 := Lib.hid (fun W => call_read x0 x1 x2 x3 x4 x5 l0 l1 l2 l3 l4 l5 u1 u2 u3 u4 u5 W)
  have HB := Lib.hid (fun hg W => write_back x0 x1 x2 x3 x4 x5 l0 l1 l2 l3 l4 l5 u1 u2 u3 u4 u5 hg W)
  clear hq h1 h2 l0 l1 l2 l3 l4 l5 u1 u2 u3 u4 u5
  generalize wordsF c = v at HW HQ
  have hbw : Below w.heap.size w ((w.alloc (.cells #[.int .i64 c.op, .int .i64 c.f, .int .i64 c.t, .bool c.wr, .bool c.us, .bool c.ex, .int .u64 c.addr, .int .i64 c.size, .int .u64 c.x, .int .i64 c.id, .int .i64 c.a, .int .i64 c.b, .int .i64 c.d] 30)).alloc (.cells #[.int .u64 x0, .int .u64 x1, .int .u64 x2, .int .u64 x3, .int .u64 x4, .int .u64 x5] 24)) := by go_grown
  have hc0 := heap_old (w.alloc (.cells #[.int .i64 c.op, .int .i64 c.f, .int .i64 c.t, .bool c.wr, .bool c.us, .bool c.ex, .int .u64 c.addr, .int .i64 c.size, .int .u64 c.x, .int .i64 c.id, .int .i64 c.a, .int .i64 c.b, .int .i64 c.d] 30)) (.cells #[.int .u64 x0, .int .u64 x1, .int .u64 x2, .int .u64 x3, .int .u64 x4, .int .u64 x5] 24) _ (heap_new w (.cells #[.int .i64 c.op, .int .i64 c.f, .int .i64 c.t, .bool c.wr, .bool c.us, .bool c.ex, .int .u64 c.addr, .int .i64 c.size, .int .u64 c.x, .int .i64 c.id, .int .i64 c.a, .int .i64 c.b, .int .i64 c.d] 30))
  have hx0 := heap_new (w.alloc (.cells #[.int .i64 c.op, .int .i64 c.f, .int .i64 c.t, .bool c.wr, .bool c.us, .bool c.ex, .int .u64 c.addr, .int .i64 c.size, .int .u64 c.x, .int .i64 c.id, .int .i64 c.a, .int .i64 c.b, .int .i64 c.d] 30)) (.cells #[.int .u64 x0, .int .u64 x1, .int .u64 x2, .int .u64 x3, .int .u64 x4, .int .u64 x5] 24)
  rw [World.size_alloc] at hx0
  have HT : Hid (∀ W, Calls Try.prog 11 #[.agg #[.int .i64 c.op, .int .i64 c.f, .int .i64 c.t, .bool c.wr, .bool c.us, .bool c.ex, .int .u64 c.addr, .int .i64 c.size, .int .u64 c.x, .int .i64 c.id, .int .i64 c.a, .int .i64 c.b, .int .i64 c.d]] W fun e w' => e = .returned (.agg #[.int .i64 c.op, .int .i64 c.f, .int .i64 c.t, .bool c.wr, .bool c.us, .bool c.ex, .int .u64 c.addr, .int .i64 c.size, .int .u64 c.x, .int .i64 c.id, .int .i64 c.a, .int .i64 c.b, .int .i64 c.d]) ∧ Below W.heap.size W w') := Lib.hid (told_any c)
  go_enter Try.func7, Try.ntmps7
  go_wp2_with fail
  refine (HW.out _).mono ?_
  rintro e v1 ⟨he, hb1⟩
  have hc1 := heap_below hb1 hc0
  have hx1 := heap_below hb1 hx0
  have hB1 := b_then hbw hb1
  have hz1 := heap_lt hx1
  clear hb1 hc0 hx0 hbw HW
  rcases he with ⟨hR, rfl⟩ | ⟨hR, rfl⟩
  · rw [hR] at HQ
    clear hR
    simp only [rvF, Option.getD_some, Option.isSome_some] at HQ
    go_wp2_with fail
    refine (HQ.out _).mono ?_
    rintro e v2 ⟨rfl, hb2⟩
    have hB2 := b_then (hB1.alloc hB1.size (.cells #[.int .u64 v.w0, .int .u64 v.w1, .int .u64 v.w2, .int .u64 v.w3, .int .u64 v.w4, .int .u64 v.w5] 24)) hb2
    have hc2 := heap_old v2 (.cells #[.int .i64 c.op, .int .i64 c.f, .int .i64 c.t, .bool c.wr, .bool c.us, .bool c.ex, .int .u64 c.addr, .int .i64 c.size, .int .u64 c.x, .int .i64 c.id, .int .i64 c.a, .int .i64 c.b, .int .i64 c.d] 35) _ (heap_below hb2 (heap_old v1 (.cells #[.int .u64 v.w0, .int .u64 v.w1, .int .u64 v.w2, .int .u64 v.w3, .int .u64 v.w4, .int .u64 v.w5] 24) _ hc1))
    have hx2 := heap_old v2 (.cells #[.int .i64 c.op, .int .i64 c.f, .int .i64 c.t, .bool c.wr, .bool c.us, .bool c.ex, .int .u64 c.addr, .int .i64 c.size, .int .u64 c.x, .int .i64 c.id, .int .i64 c.a, .int .i64 c.b, .int .i64 c.d] 35) _ (heap_below hb2 (heap_old v1 (.cells #[.int .u64 v.w0, .int .u64 v.w1, .int .u64 v.w2, .int .u64 v.w3, .int .u64 v.w4, .int .u64 v.w5] 24) _ hx1))
    have hr2 := heap_new v2 (.cells #[.int .i64 c.op, .int .i64 c.f, .int .i64 c.t, .bool c.wr, .bool c.us, .bool c.ex, .int .u64 c.addr, .int .i64 c.size, .int .u64 c.x, .int .i64 c.id, .int .i64 c.a, .int .i64 c.b, .int .i64 c.d] 35)
    have hB3 := hB2.alloc hB2.size (.cells #[.int .i64 c.op, .int .i64 c.f, .int .i64 c.t, .bool c.wr, .bool c.us, .bool c.ex, .int .u64 c.addr, .int .i64 c.size, .int .u64 c.x, .int .i64 c.id, .int .i64 c.a, .int .i64 c.b, .int .i64 c.d] 35)
    clear hb2 hB2 hB1 hc1 hx1
    simp only [CV.val, CV.cells, ccells]
    go_wp2_with fail
    generalize hW : v2.alloc (.cells #[.int .i64 c.op, .int .i64 c.f, .int .i64 c.t, .bool c.wr, .bool c.us, .bool c.ex, .int .u64 c.addr, .int .i64 c.size, .int .u64 c.x, .int .i64 c.id, .int .i64 c.a, .int .i64 c.b, .int .i64 c.d] 35) = W0 at hc2 hx2 hr2 hB3 ⊢
    clear hW
    have p0 : W0.cell? ⟨w.heap.size, 0, none⟩ = some (.int .i64 c.op) := cell_heap hc2 0
    have q0 : W0.cell? ⟨v2.heap.size, 0, none⟩ = some (.int .i64 c.op) := cell_heap hr2 0
    have p1 : W0.cell? ⟨w.heap.size, 1, none⟩ = some (.int .i64 c.f) := cell_heap hc2 1
    have q1 : W0.cell? ⟨v2.heap.size, 1, none⟩ = some (.int .i64 c.f) := cell_heap hr2 1
    have p2 : W0.cell? ⟨w.heap.size, 2, none⟩ = some (.int .i64 c.t) := cell_heap hc2 2
    have q2 : W0.cell? ⟨v2.heap.size, 2, none⟩ = some (.int .i64 c.t) := cell_heap hr2 2
    have p3 : W0.cell? ⟨w.heap.size, 3, none⟩ = some (.bool c.wr) := cell_heap hc2 3
    have q3 : W0.cell? ⟨v2.heap.size, 3, none⟩ = some (.bool c.wr) := cell_heap hr2 3
    have p4 : W0.cell? ⟨w.heap.size, 4, none⟩ = some (.bool c.us) := cell_heap hc2 4
    have q4 : W0.cell? ⟨v2.heap.size, 4, none⟩ = some (.bool c.us) := cell_heap hr2 4
    have p5 : W0.cell? ⟨w.heap.size, 5, none⟩ = some (.bool c.ex) := cell_heap hc2 5
    have q5 : W0.cell? ⟨v2.heap.size, 5, none⟩ = some (.bool c.ex) := cell_heap hr2 5
    have p6 : W0.cell? ⟨w.heap.size, 6, none⟩ = some (.int .u64 c.addr) := cell_heap hc2 6
    have q6 : W0.cell? ⟨v2.heap.size, 6, none⟩ = some (.int .u64 c.addr) := cell_heap hr2 6
    have p7 : W0.cell? ⟨w.heap.size, 7, none⟩ = some (.int .i64 c.size) := cell_heap hc2 7
    have q7 : W0.cell? ⟨v2.heap.size, 7, none⟩ = some (.int .i64 c.size) := cell_heap hr2 7
    have p8 : W0.cell? ⟨w.heap.size, 8, none⟩ = some (.int .u64 c.x) := cell_heap hc2 8
    have q8 : W0.cell? ⟨v2.heap.size, 8, none⟩ = some (.int .u64 c.x) := cell_heap hr2 8
    have p9 : W0.cell? ⟨w.heap.size, 9, none⟩ = some (.int .i64 c.id) := cell_heap hc2 9
    have q9 : W0.cell? ⟨v2.heap.size, 9, none⟩ = some (.int .i64 c.id) := cell_heap hr2 9
    have p10 : W0.cell? ⟨w.heap.size, 10, none⟩ = some (.int .i64 c.a) := cell_heap hc2 10
    have q10 : W0.cell? ⟨v2.heap.size, 10, none⟩ = some (.int .i64 c.a) := cell_heap hr2 10
    have p11 : W0.cell? ⟨w.heap.size, 11, none⟩ = some (.int .i64 c.b) := cell_heap hc2 11
    have q11 : W0.cell? ⟨v2.heap.size, 11, none⟩ = some (.int .i64 c.b) := cell_heap hr2 11
    have p12 : W0.cell? ⟨w.heap.size, 12, none⟩ = some (.int .i64 c.d) := cell_heap hc2 12
    have q12 : W0.cell? ⟨v2.heap.size, 12, none⟩ = some (.int .i64 c.d) := cell_heap hr2 12
    have zc := heap_lt hc2
    have zr := heap_lt hr2
    have hab := @Abv.cell W0
    refine wp_region_abv (by kernel_rfl) (by kernel_rfl) ?_
    repeat (first | go_big_quiet_skip | (go_big_quiet_want; go_big_quiet_op; first | go_big_quiet_on | go_big_quiet_call ((go_at_call 11; exact abv_call (HT.out _)))))
    refine wpQuiet_nil ?_
    rintro w3 ⟨⟨_, hb3⟩, rfl⟩
    have HX := Lib.hid (heap_below hb3 hx2)
    have HBW := Lib.hid (b_then hB3 hb3)
    clear hab hb3 hx2 hc2 hr2 hB3 HQ HT p0 q0 p1 q1 p2 q2 p3 q3 p4 q4 p5 q5 p6 q6 p7 q7 p8 q8 p9 q9 p10 q10 p11 q11 p12 q12
    have hx9 := HX.out
    have k0 : w3.cell? ⟨w.heap.size + 1, 0, none⟩ = some (.int .u64 x0) := cell_heap hx9 0
    have k1 : w3.cell? ⟨w.heap.size + 1, 1, none⟩ = some (.int .u64 x1) := cell_heap hx9 1
    have k2 : w3.cell? ⟨w.heap.size + 1, 2, none⟩ = some (.int .u64 x2) := cell_heap hx9 2
    have k3 : w3.cell? ⟨w.heap.size + 1, 3, none⟩ = some (.int .u64 x3) := cell_heap hx9 3
    have k4 : w3.cell? ⟨w.heap.size + 1, 4, none⟩ = some (.int .u64 x4) := cell_heap hx9 4
    have k5 : w3.cell? ⟨w.heap.size + 1, 5, none⟩ = some (.int .u64 x5) := cell_heap hx9 5
    have hz9 := heap_lt hx9
    clear hx9
    go_wp2_with fail
    refine (H1.out _).mono ?_
    rintro e w5 ⟨rfl, hb5⟩
    have HX5 := Lib.hid (heap_below hb5 HX.out)
    have HB5 := Lib.hid (b_then HBW.out hb5)
    clear hb5 hz9 k0 k1 k2 k3 k4 k5
    by_cases hg : goodF x0 x1 x2 x3 x4 x5
    · rw [readF_some hg]
      have HD := Lib.hid (HB.out hg)
      generalize valF x0 x1 x2 x3 x4 x5 = d at HD ⊢
      clear hg H1 HB
      simp only [rvF, reF, Option.getD_some, CV.val, CV.cells, ccells]
      go_wp2_with fail
      refine (HD.out _).mono ?_
      rintro e w6 ⟨rfl, hb6⟩
      have HX6 := Lib.hid (heap_below hb6 (heap_old w5 (.cells #[.int .i64 d.op, .int .i64 d.f, .int .i64 d.t, .bool d.wr, .bool d.us, .bool d.ex, .int .u64 d.addr, .int .i64 d.size, .int .u64 d.x, .int .i64 d.id, .int .i64 d.a, .int .i64 d.b, .int .i64 d.d] 30) _ HX5.out))
      have HB6 := Lib.hid (b_then (HB5.out.alloc HB5.out.size _) hb6)
      clear hb6
      go_wp2_with fail
      have hu6 := heap_new w6 (.cells #[.int .u64 x0, .int .u64 x1, .int .u64 x2, .int .u64 x3, .int .u64 x4, .int .u64 x5] 24)
      have hx6 := heap_old w6 (.cells #[.int .u64 x0, .int .u64 x1, .int .u64 x2, .int .u64 x3, .int .u64 x4, .int .u64 x5] 24) _ HX6.out
      have hB6 := HB6.out.alloc HB6.out.size (.cells #[.int .u64 x0, .int .u64 x1, .int .u64 x2, .int .u64 x3, .int .u64 x4, .int .u64 x5] 24)
      refine (awake_true _).mono ?_
      rintro e w7 ⟨rfl, hb7⟩
      have hu7 := heap_below hb7 hu6
      have hx7 := heap_below hb7 hx6
      have hB7 := Lib.hid (b_then hB6 hb7)
      have hz7 := heap_lt hu7
      have hz8 := heap_lt hx7
      have k0 : w7.cell? ⟨w.heap.size + 1, 0, none⟩ = some (.int .u64 x0) := cell_heap hx7 0
      have m0 : w7.cell? ⟨w6.heap.size, 0, none⟩ = some (.int .u64 x0) := cell_heap hu7 0
      have k1 : w7.cell? ⟨w.heap.size + 1, 1, none⟩ = some (.int .u64 x1) := cell_heap hx7 1
      have m1 : w7.cell? ⟨w6.heap.size, 1, none⟩ = some (.int .u64 x1) := cell_heap hu7 1
      have k2 : w7.cell? ⟨w.heap.size + 1, 2, none⟩ = some (.int .u64 x2) := cell_heap hx7 2
      have m2 : w7.cell? ⟨w6.heap.size, 2, none⟩ = some (.int .u64 x2) := cell_heap hu7 2
      have k3 : w7.cell? ⟨w.heap.size + 1, 3, none⟩ = some (.int .u64 x3) := cell_heap hx7 3
      have m3 : w7.cell? ⟨w6.heap.size, 3, none⟩ = some (.int .u64 x3) := cell_heap hu7 3
      have k4 : w7.cell? ⟨w.heap.size + 1, 4, none⟩ = some (.int .u64 x4) := cell_heap hx7 4
      have m4 : w7.cell? ⟨w6.heap.size, 4, none⟩ = some (.int .u64 x4) := cell_heap hu7 4
      have k5 : w7.cell? ⟨w.heap.size + 1, 5, none⟩ = some (.int .u64 x5) := cell_heap hx7 5
      have m5 : w7.cell? ⟨w6.heap.size, 5, none⟩ = some (.int .u64 x5) := cell_heap hu7 5
      clear hu6 hx6 hB6 hb7 hu7 hx7
      have hew := fun W => eql_words x0 x1 x2 x3 x4 x5 W
      go_wp2_with fail
      go_returns
      exact ⟨rfl, hB7.out⟩
    · rw [readF_none hg]
      clear hg H1 HB
      simp only [rvF, reF, Option.getD_none, CV.val, CV.cells, ccells, CV.zero]
      go_wp2_with fail
      refine (awake_true _).mono ?_
      rintro e w7 ⟨rfl, hb7⟩
      go_wp2_with fail
      go_returns
      exact ⟨rfl, b_then (HB5.out.alloc HB5.out.size _) hb7⟩
  · clear hR HQ HT
    simp only [WV.val, WV.cells, WV.zero]
    have hx2 := heap_old v1 (.cells #[.int .u64 0, .int .u64 0, .int .u64 0, .int .u64 0, .int .u64 0, .int .u64 0] 24) _ hx1
    have hB2 := hB1.alloc hB1.size (.cells #[.int .u64 0, .int .u64 0, .int .u64 0, .int .u64 0, .int .u64 0, .int .u64 0] 24)
    have hnz := neq_zero
    go_upto_region 8 with fail
    generalize hW : v1.alloc (.cells #[.int .u64 0, .int .u64 0, .int .u64 0, .int .u64 0, .int .u64 0, .int .u64 0] 24) = W0 at hx2 hB2 ⊢
    have HX := Lib.hid hx2
    have HBW := Lib.hid hB2
    clear hW hnz hx2 hB2 hx1 hc1 hB1
    have hx9 := HX.out
    have k0 : W0.cell? ⟨w.heap.size + 1, 0, none⟩ = some (.int .u64 x0) := cell_heap hx9 0
    have k1 : W0.cell? ⟨w.heap.size + 1, 1, none⟩ = some (.int .u64 x1) := cell_heap hx9 1
    have k2 : W0.cell? ⟨w.heap.size + 1, 2, none⟩ = some (.int .u64 x2) := cell_heap hx9 2
    have k3 : W0.cell? ⟨w.heap.size + 1, 3, none⟩ = some (.int .u64 x3) := cell_heap hx9 3
    have k4 : W0.cell? ⟨w.heap.size + 1, 4, none⟩ = some (.int .u64 x4) := cell_heap hx9 4
    have k5 : W0.cell? ⟨w.heap.size + 1, 5, none⟩ = some (.int .u64 x5) := cell_heap hx9 5
    have hz9 := heap_lt hx9
    clear hx9
    go_wp2_with fail
    refine (H1.out _).mono ?_
    rintro e w5 ⟨rfl, hb5⟩
    have HX5 := Lib.hid (heap_below hb5 HX.out)
    have HB5 := Lib.hid (b_then HBW.out hb5)
    clear hb5 hz9 k0 k1 k2 k3 k4 k5
    by_cases hg : goodF x0 x1 x2 x3 x4 x5
    · rw [readF_some hg]
      have HD := Lib.hid (HB.out hg)
      generalize valF x0 x1 x2 x3 x4 x5 = d at HD ⊢
      clear hg H1 HB
      simp only [rvF, reF, Option.getD_some, CV.val, CV.cells, ccells]
      go_wp2_with fail
      refine (HD.out _).mono ?_
      rintro e w6 ⟨rfl, hb6⟩
      have HX6 := Lib.hid (heap_below hb6 (heap_old w5 (.cells #[.int .i64 d.op, .int .i64 d.f, .int .i64 d.t, .bool d.wr, .bool d.us, .bool d.ex, .int .u64 d.addr, .int .i64 d.size, .int .u64 d.x, .int .i64 d.id, .int .i64 d.a, .int .i64 d.b, .int .i64 d.d] 30) _ HX5.out))
      have HB6 := Lib.hid (b_then (HB5.out.alloc HB5.out.size _) hb6)
      clear hb6
      go_wp2_with fail
      have hu6 := heap_new w6 (.cells #[.int .u64 x0, .int .u64 x1, .int .u64 x2, .int .u64 x3, .int .u64 x4, .int .u64 x5] 24)
      have hx6 := heap_old w6 (.cells #[.int .u64 x0, .int .u64 x1, .int .u64 x2, .int .u64 x3, .int .u64 x4, .int .u64 x5] 24) _ HX6.out
      have hB6 := HB6.out.alloc HB6.out.size (.cells #[.int .u64 x0, .int .u64 x1, .int .u64 x2, .int .u64 x3, .int .u64 x4, .int .u64 x5] 24)
      refine (awake_true _).mono ?_
      rintro e w7 ⟨rfl, hb7⟩
      have hu7 := heap_below hb7 hu6
      have hx7 := heap_below hb7 hx6
      have hB7 := Lib.hid (b_then hB6 hb7)
      have hz7 := heap_lt hu7
      have hz8 := heap_lt hx7
      have k0 : w7.cell? ⟨w.heap.size + 1, 0, none⟩ = some (.int .u64 x0) := cell_heap hx7 0
      have m0 : w7.cell? ⟨w6.heap.size, 0, none⟩ = some (.int .u64 x0) := cell_heap hu7 0
      have k1 : w7.cell? ⟨w.heap.size + 1, 1, none⟩ = some (.int .u64 x1) := cell_heap hx7 1
      have m1 : w7.cell? ⟨w6.heap.size, 1, none⟩ = some (.int .u64 x1) := cell_heap hu7 1
      have k2 : w7.cell? ⟨w.heap.size + 1, 2, none⟩ = some (.int .u64 x2) := cell_heap hx7 2
      have m2 : w7.cell? ⟨w6.heap.size, 2, none⟩ = some (.int .u64 x2) := cell_heap hu7 2
      have k3 : w7.cell? ⟨w.heap.size + 1, 3, none⟩ = some (.int .u64 x3) := cell_heap hx7 3
      have m3 : w7.cell? ⟨w6.heap.size, 3, none⟩ = some (.int .u64 x3) := cell_heap hu7 3
      have k4 : w7.cell? ⟨w.heap.size + 1, 4, none⟩ = some (.int .u64 x4) := cell_heap hx7 4
      have m4 : w7.cell? ⟨w6.heap.size, 4, none⟩ = some (.int .u64 x4) := cell_heap hu7 4
      have k5 : w7.cell? ⟨w.heap.size + 1, 5, none⟩ = some (.int .u64 x5) := cell_heap hx7 5
      have m5 : w7.cell? ⟨w6.heap.size, 5, none⟩ = some (.int .u64 x5) := cell_heap hu7 5
      clear hu6 hx6 hB6 hb7 hu7 hx7
      have hew := fun W => eql_words x0 x1 x2 x3 x4 x5 W
      go_wp2_with fail
      go_returns
      exact ⟨rfl, hB7.out⟩
    · rw [readF_none hg]
      clear hg H1 HB
      simp only [rvF, reF, Option.getD_none, CV.val, CV.cells, ccells, CV.zero]
      go_wp2_with fail
      refine (awake_true _).mono ?_
      rintro e w7 ⟨rfl, hb7⟩
      go_wp2_with fail
      go_returns
      exact ⟨rfl, b_then (HB5.out.alloc HB5.out.size _) hb7⟩
theorem walk_CallWrites (a0_0 : Int) (a0_1 : Int) (a0_2 : Int) (a0_3 : Bool) (a0_4 : Bool) (a0_5 : Bool) (a0_6 : Int) (a0_7 : Int) (a0_8 : Int) (a0_9 : Int) (a0_10 : Int) (a0_11 : Int) (a0_12 : Int) (a1_0 : Int) (a1_1 : Int) (a1_2 : Int) (a1_3 : Int) (a1_4 : Int) (a1_5 : Int) (w : World) (_w0_0 : (Lit.int .i64 a0_0).wf = true) (_w0_1 : (Lit.int .i64 a0_1).wf = true) (_w0_2 : (Lit.int .i64 a0_2).wf = true) (w0_6 : (Lit.int .u64 a0_6).wf = true) (_w0_7 : (Lit.int .i64 a0_7).wf = true) (w0_8 : (Lit.int .u64 a0_8).wf = true) (_w0_9 : (Lit.int .i64 a0_9).wf = true) (_w0_10 : (Lit.int .i64 a0_10).wf = true) (_w0_11 : (Lit.int .i64 a0_11).wf = true) (_w0_12 : (Lit.int .i64 a0_12).wf = true) (w1_0 : (Lit.int .u64 a1_0).wf = true) (w1_1 : (Lit.int .u64 a1_1).wf = true) (w1_2 : (Lit.int .u64 a1_2).wf = true) (w1_3 : (Lit.int .u64 a1_3).wf = true) (w1_4 : (Lit.int .u64 a1_4).wf = true) (w1_5 : (Lit.int .u64 a1_5).wf = true) :
    Calls Try.prog 7 #[.agg #[.int .i64 a0_0, .int .i64 a0_1, .int .i64 a0_2, .bool a0_3, .bool a0_4, .bool a0_5, .int .u64 a0_6, .int .i64 a0_7, .int .u64 a0_8, .int .i64 a0_9, .int .i64 a0_10, .int .i64 a0_11, .int .i64 a0_12], .agg #[.int .u64 a1_0, .int .u64 a1_1, .int .u64 a1_2, .int .u64 a1_3, .int .u64 a1_4, .int .u64 a1_5]] w fun e w' => e = .returned (.bool true) ∧ Below w.heap.size w w' := by
  obtain ⟨l0, u0⟩ := u64_bd w1_0
  obtain ⟨l1, u1⟩ := u64_bd w1_1
  obtain ⟨l2, u2⟩ := u64_bd w1_2
  obtain ⟨l3, u3⟩ := u64_bd w1_3
  obtain ⟨l4, u4⟩ := u64_bd w1_4
  obtain ⟨l5, u5⟩ := u64_bd w1_5
  exact writes_any ⟨a0_0, a0_1, a0_2, a0_3, a0_4, a0_5, a0_6, a0_7, a0_8, a0_9, a0_10, a0_11, a0_12⟩ (u64_bd w0_6) (u64_bd w0_8) a1_0 a1_1 a1_2 a1_3 a1_4 a1_5 l0 l1 l2 l3 l4 l5 u1 u2 u3 u4 u5 w
end Go.Proofs.Ytcnmhmbdbadbmaa
