/- The laws of layer 17: Told; states compared; whole rows. No condition. -/
import Derived.Test.YtokmcjjdoiaeaaaTrapA
import Derived.Test.YtokmcjjdoiaeaaaStg
import Derived.Deep.DeepCutAuto
import Derived.Deep.CutBlock
import Derived.Laws.Tables
import Derived.Laws.Rows
import Derived.Deep.WholeRow
import Derived.RegionTactic
import Derived.BigRegion
import Derived.Deep.RegionHeld3
import Derived.Outline
namespace Go.Proofs.Ytokmcjjdoiaeaaa
open Go.ChangeShapes Go.WideShapes Go.ChangeAt Go.RowKit
set_option linter.unusedVariables false
set_option linter.unusedSimpArgs false
theorem infoT : (Try.prog.info? 28).map (·.size) = some 13 := by kernel_rfl
theorem infoR : (Try.prog.info? 38).map (·.size) = some 13 := by kernel_rfl
theorem underT : ∃ fs, Try.prog.underlying 28 = some (.struct fs) := by
  have h : (match Try.prog.underlying 28 with | some (.struct _) => true | _ => false) = true := by kernel_rfl
  revert h
  split
  · rename_i fs hf; exact fun _ => ⟨fs, hf⟩
  · intro h; cases h
theorem underR : ∃ fs, Try.prog.underlying 38 = some (.struct fs) := by
  have h : (match Try.prog.underlying 38 with | some (.struct _) => true | _ => false) = true := by kernel_rfl
  revert h
  split
  · rename_i fs hf; exact fun _ => ⟨fs, hf⟩
  · intro h; cases h
theorem below_row {B : Nat} {w w1 : World} (h : Below B w w1) {g : Nat} (hg : B ≤ g) (cs : Array Value) : Below B w (w1.setRow g cs) :=
  ⟨h.os, h.tape, h.output, by have := h.size; simpa using this, fun k hk => (setRow_other w1 g k cs (by omega)).trans (h.block k hk)⟩
theorem row_far {w : World} {g k : Nat} {cs : Array Value} {o : Obj} (h : w.heap[k]? = some o) (hn : k ≠ g) : (w.setRow g cs).heap[k]? = some o := (setRow_other w g k cs hn).trans h
theorem five_blocks (w : World) (c0 c1 c2 c3 c4 : Array Value) (t0 t1 t2 t3 t4 : TypeId) :
    let W := ((((w.alloc (.cells c0 t0)).alloc (.cells c1 t1)).alloc (.cells c2 t2)).alloc (.cells c3 t3)).alloc (.cells c4 t4)
    W.heap[w.heap.size]? = some (.cells c0 t0 (0, 0)) ∧ W.heap[w.heap.size + 1]? = some (.cells c1 t1 (0, 0)) ∧ W.heap[w.heap.size + 2]? = some (.cells c2 t2 (0, 0)) ∧ W.heap[w.heap.size + 3]? = some (.cells c3 t3 (0, 0)) ∧ W.heap[w.heap.size + 4]? = some (.cells c4 t4 (0, 0)) ∧ Below w.heap.size w W := by
  intro W
  have e1 := heap_new (w.alloc (.cells c0 t0)) (.cells c1 t1)
  have e2 := heap_new ((w.alloc (.cells c0 t0)).alloc (.cells c1 t1)) (.cells c2 t2)
  have e3 := heap_new (((w.alloc (.cells c0 t0)).alloc (.cells c1 t1)).alloc (.cells c2 t2)) (.cells c3 t3)
  have e4 := heap_new ((((w.alloc (.cells c0 t0)).alloc (.cells c1 t1)).alloc (.cells c2 t2)).alloc (.cells c3 t3)) (.cells c4 t4)
  simp only [World.size_alloc] at e1 e2 e3 e4
  exact ⟨heap_old _ _ _ (heap_old _ _ _ (heap_old _ _ _ (heap_old _ _ _ (heap_new _ _)))), heap_old _ _ _ (heap_old _ _ _ (heap_old _ _ _ e1)), heap_old _ _ _ (heap_old _ _ _ e2), heap_old _ _ _ e3, e4, by go_grown⟩
theorem eqRow4 (d : Nat) (w : World) (a b c e a' b' c' e' : Int) : (Op.equalIn (d + 2) 23 (.agg #[.int .u64 a, .int .u64 b, .int .u64 c, .int .u64 e]) (.agg #[.int .u64 a', .int .u64 b', .int .u64 c', .int .u64 e'])).run Try.prog w
    = .ok (a == a' && (b == b' && (c == c' && e == e'))) w := by
  obtain ⟨i, hi⟩ := infoU
  have hc : Try.prog.cellsOf 22 = 1 := by kernel_rfl
  rw [run_equalIn_array (i := i) w (d + 1) _ _ Try.underlying23 hi]
  rw [show List.range 4 = [0, 1, 2, 3] from rfl, hc]
  simp only [Op.eqItems]
  go_simp
  by_cases h1 : a = a' <;> by_cases h2 : b = b' <;> by_cases h3 : c = c' <;> by_cases h4 : e = e' <;> simp [h1, h2, h3, h4]
section
attribute [local go_sem] eqRow4
theorem eq_state (p0 p1 p2 p3 p4 p5 p7 p8 p9 p10 p11 p12 : Int) (p6 : Bool) (q0 q1 q2 q3 q4 q5 q7 q8 q9 q10 q11 q12 : Int) (q6 : Bool) (W : World) : (binOp .eql 38 (.agg #[.int .u64 p0, .int .u64 p1, .int .u64 p2, .int .u64 p3, .int .i64 p4, .int .u64 p5, .bool p6, .int .u64 p7, .int .i64 p8, .int .u64 p9, .int .u64 p10, .int .u64 p11, .int .u64 p12]) (.agg #[.int .u64 q0, .int .u64 q1, .int .u64 q2, .int .u64 q3, .int .i64 q4, .int .u64 q5, .bool q6, .int .u64 q7, .int .i64 q8, .int .u64 q9, .int .u64 q10, .int .u64 q11, .int .u64 q12])).run Try.prog W = .ok (.bool (p0 == q0 && (p1 == q1 && (p2 == q2 && (p3 == q3 && (p4 == q4 && (p5 == q5 && (p6 == q6 && (p7 == q7 && (p8 == q8 && (p9 == q9 && (p10 == q10 && (p11 == q11 && (p12 == q12)))))))))))))) W := by
  go_simp
  by_cases h : p0 = q0 ∧ p1 = q1 ∧ p2 = q2 ∧ p3 = q3 ∧ p4 = q4 ∧ p5 = q5 ∧ p6 = q6 ∧ p7 = q7 ∧ p8 = q8 ∧ p9 = q9 ∧ p10 = q10 ∧ p11 = q11 ∧ p12 = q12
  · obtain ⟨rfl, rfl, rfl, rfl, rfl, rfl, rfl, rfl, rfl, rfl, rfl, rfl, rfl⟩ := h
    simp
  · have e : (p0 == q0 && (p1 == q1 && (p2 == q2 && (p3 == q3 && (p4 == q4 && (p5 == q5 && (p6 == q6 && (p7 == q7 && (p8 == q8 && (p9 == q9 && (p10 == q10 && (p11 == q11 && (p12 == q12))))))))))))) = false := by
      rw [Bool.eq_false_iff]
      intro h2
      apply h
      simpa using h2
    rw [e]
    (repeat' split) <;> first | rfl | (exfalso; apply h; simp_all)
end
set_option maxHeartbeats 2000000 in
theorem told_any (s0 s1 s2 s3 s4 s5 s7 s8 s9 s10 s11 s12 : Int) (s6 : Bool) (w : World) : Calls Try.prog 11 #[.agg #[.int .u64 s0, .int .u64 s1, .int .u64 s2, .int .u64 s3, .int .i64 s4, .int .u64 s5, .bool s6, .int .u64 s7, .int .i64 s8, .int .u64 s9, .int .u64 s10, .int .u64 s11, .int .u64 s12]] w fun e w' => e = .returned (.agg #[.int .u64 s0, .int .u64 s1, .int .u64 s2, .int .u64 s3, .int .i64 s4, .int .u64 s5, .bool s6, .int .u64 s7, .int .i64 s8, .int .u64 s9, .int .u64 s10, .int .u64 s11, .int .u64 s12]) ∧ Below w.heap.size w w' := by
  go_enter Try.func11, Try.ntmps11
  go_wp2
  go_returns
  exact ⟨rfl, by go_grown⟩
theorem told_at (n : Nat) (s0 s1 s2 s3 s4 s5 s7 s8 s9 s10 s11 s12 : Int) (s6 : Bool) (w : World) (hn : n ≤ w.heap.size) : Calls Try.prog 11 #[.agg #[.int .u64 s0, .int .u64 s1, .int .u64 s2, .int .u64 s3, .int .i64 s4, .int .u64 s5, .bool s6, .int .u64 s7, .int .i64 s8, .int .u64 s9, .int .u64 s10, .int .u64 s11, .int .u64 s12]] w fun e w' => e = .returned (.agg #[.int .u64 s0, .int .u64 s1, .int .u64 s2, .int .u64 s3, .int .i64 s4, .int .u64 s5, .bool s6, .int .u64 s7, .int .i64 s8, .int .u64 s9, .int .u64 s10, .int .u64 s11, .int .u64 s12]) ∧ (∀ b o, b < n → w'.cell? ⟨b, o, none⟩ = w.cell? ⟨b, o, none⟩) ∧ (∀ b o, b < n → w'.frozen? ⟨b, o, none⟩ = w.frozen? ⟨b, o, none⟩) ∧ Below w.heap.size w w' :=
  (told_any s0 s1 s2 s3 s4 s5 s7 s8 s9 s10 s11 s12 s6 w).mono fun e w' ⟨he, hb⟩ => ⟨he, fun b o h => (bcell hb).1 b o (by omega), fun b o h => (bcell hb).2 b o (by omega), hb⟩
/-- The class of the region that returns: both states' blocks, both results' blocks. -/
def stB (w : World) (P Q : Array Value) (W : World) : Prop := W.heap[w.heap.size]? = some (.cells P 28 (0, 0)) ∧ W.heap[w.heap.size + 1]? = some (.cells Q 38 (0, 0)) ∧ (∃ old : Array Value, old.size = P.size ∧ W.heap[w.heap.size + 3]? = some (.cells old 28 (0, 0))) ∧ (∃ old : Array Value, old.size = Q.size ∧ W.heap[w.heap.size + 4]? = some (.cells old 38 (0, 0))) ∧ Below w.heap.size w W
def stF (w : World) (P Q : Array Value) : Nat → World → Prop
  | 11, W => W.heap[w.heap.size + 3]? = some (.cells P 28 (0, 0))
  | 12, W => W.heap[w.heap.size + 4]? = some (.cells Q 38 (0, 0))
  | _, _ => True
theorem st_three {w : World} {P Q : Array Value} (W : World) (h : stB w P Q W) : StPost (stB w P Q) (stF w P Q) 11 W (W.setRow (w.heap.size + 3) P) := by
  obtain ⟨h0, h1, ⟨o3, e3, h3⟩, ⟨o4, e4, h4⟩, hb⟩ := h
  have g3 : (W.setRow (w.heap.size + 3) P).heap[w.heap.size + 3]? = some (.cells P 28 (0, 0)) := setRow_heap _ _ _ _ _ _ h3
  refine ⟨⟨row_far h0 (by omega), row_far h1 (by omega), ⟨_, rfl, g3⟩, ⟨o4, e4, row_far h4 (by omega)⟩, below_row hb (by omega) _⟩, g3, fun k hk => ?_⟩
  by_cases h11 : k = 11
  · subst h11; exact g3
  by_cases h12 : k = 12
  · subst h12; exact row_far (show W.heap[w.heap.size + 4]? = some (.cells Q 38 (0, 0)) from hk) (by omega)
  · unfold stF; split <;> first | trivial | contradiction
theorem st_four {w : World} {P Q : Array Value} (W : World) (h : stB w P Q W) : StPost (stB w P Q) (stF w P Q) 12 W (W.setRow (w.heap.size + 4) Q) := by
  obtain ⟨h0, h1, ⟨o3, e3, h3⟩, ⟨o4, e4, h4⟩, hb⟩ := h
  have g4 : (W.setRow (w.heap.size + 4) Q).heap[w.heap.size + 4]? = some (.cells Q 38 (0, 0)) := setRow_heap _ _ _ _ _ _ h4
  refine ⟨⟨row_far h0 (by omega), row_far h1 (by omega), ⟨o3, e3, row_far h3 (by omega)⟩, ⟨_, rfl, g4⟩, below_row hb (by omega) _⟩, g4, fun k hk => ?_⟩
  by_cases h12 : k = 12
  · subst h12; exact g4
  by_cases h11 : k = 11
  · subst h11; exact row_far (show W.heap[w.heap.size + 3]? = some (.cells P 28 (0, 0)) from hk) (by omega)
  · unfold stF; split <;> first | trivial | contradiction
theorem st_below {w : World} {P Q : Array Value} {W W' : World} (h : stB w P Q W) (hb : Below W.heap.size W W') : StPost (stB w P Q) (stF w P Q) 7 W W' := by
  obtain ⟨h0, h1, ⟨o3, e3, h3⟩, ⟨o4, e4, h4⟩, hB⟩ := h
  refine ⟨⟨heap_below hb h0, heap_below hb h1, ⟨o3, e3, heap_below hb h3⟩, ⟨o4, e4, heap_below hb h4⟩, b_then hB hb⟩, trivial, fun k hk => ?_⟩
  by_cases h12 : k = 12
  · subst h12; exact heap_below hb hk
  by_cases h11 : k = 11
  · subst h11; exact heap_below hb hk
  · unfold stF; split <;> first | trivial | contradiction
theorem stOp_told {w : World} {P Q : Array Value} {o : Oper} {a : Act} (s0 s1 s2 s3 s4 s5 s7 s8 s9 s10 s11 s12 : Int) (s6 : Bool) (x : Operand) (ho : o.op = .call { callee := .value (.func 11), args := #[x], argTypes := #[28] }) (hx : a.eval x = .agg #[.int .u64 s0, .int .u64 s1, .int .u64 s2, .int .u64 s3, .int .i64 s4, .int .u64 s5, .bool s6, .int .u64 s7, .int .i64 s8, .int .u64 s9, .int .u64 s10, .int .u64 s11, .int .u64 s12]) : stOp Try.prog (stB w P Q) (stF w P Q) 7 o a (.agg #[.int .u64 s0, .int .u64 s1, .int .u64 s2, .int .u64 s3, .int .i64 s4, .int .u64 s5, .bool s6, .int .u64 s7, .int .i64 s8, .int .u64 s9, .int .u64 s10, .int .u64 s11, .int .u64 s12]) := ⟨fun W hb => by
  have hrun : (execOp a.eval o).run Try.prog W = .ok (.enter 11 #[.agg #[.int .u64 s0, .int .u64 s1, .int .u64 s2, .int .u64 s3, .int .i64 s4, .int .u64 s5, .bool s6, .int .u64 s7, .int .i64 s8, .int .u64 s9, .int .u64 s10, .int .u64 s11, .int .u64 s12]]) W := by
    have hf := Try.func11
    have e2 : a.eval (.func 11) = .func (.func 11) #[] #[] := rfl
    generalize a.eval = ρ at hx e2 ⊢
    unfold execOp
    simp only [ho]
    go_simp
  rw [hrun]
  exact (told_any s0 s1 s2 s3 s4 s5 s7 s8 s9 s10 s11 s12 s6 W).mono fun e W' ⟨he, hb'⟩ => ⟨he, st_below hb hb'⟩⟩
theorem results_two {fn : Func} {p q r : Tmp} {ty tz : TypeId} (h : fn.results = #[.cell p ty, .cell q tz, .tmp r]) (tmps : Array Value) (w : World) (g g' : Nat) (t t' : TypeId) (cs ds : Array Value) (fr fr' : Nat × Nat) (fs fs' : Array Field) (v : Value)
    (hp : tmps.getD p undef = .pointer (some ⟨g, 0, none⟩)) (hq : tmps.getD q undef = .pointer (some ⟨g', 0, none⟩)) (hr : tmps.getD r undef = v) (hg : w.heap[g]? = some (.cells cs t fr)) (hg' : w.heap[g']? = some (.cells ds t' fr'))
    (hu : Try.prog.underlying ty = some (.struct fs)) (hi : (Try.prog.info? ty).map (·.size) = some cs.size) (hu' : Try.prog.underlying tz = some (.struct fs')) (hi' : (Try.prog.info? tz).map (·.size) = some ds.size) :
    (results fn tmps).run Try.prog w = .ok (.tuple #[.agg cs, .agg ds, v]) w := by
  have hp' : tmps[p]?.getD undef = .pointer (some ⟨g, 0, none⟩) := by simpa using hp
  have hq' : tmps[q]?.getD undef = .pointer (some ⟨g', 0, none⟩) := by simpa using hq
  have hr' : tmps[r]?.getD undef = v := by simpa using hr
  simp [results, h, hp', hq', hr', asAddr, run_loadVar_row w g t ty cs fr (.struct fs) hg hu rfl hi, run_loadVar_row w g' t' tz ds fr' (.struct fs') hg' hu' rfl hi']
end Go.Proofs.Ytokmcjjdoiaeaaa
