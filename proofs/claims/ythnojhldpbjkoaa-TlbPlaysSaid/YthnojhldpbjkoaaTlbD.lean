/- A call on both (layer 5's law): what it does to a TLB and to the document's list; its answers are alike. No condition but bounds on the list. -/
import Derived.Test.YthnojhldpbjkoaaTlbG
namespace Go.Proofs.Ythnojhldpbjkoaa
open Go.ChangeShapes Go.WideShapes Go.ChangeAt Go.RowKit
set_option linter.unusedVariables false
set_option linter.unusedSimpArgs false

theorem RRow.touch {w w' : World} {base p : Nat} {v : Value} {M : List RL} {L : List Ln} (h : RRow w base v M) (hA : TlbAt w p L) (ht : Touch (fun k => k = p) w w') : RRow w' base v M := by
  refine ⟨h.1, ?_⟩
  rcases h.2 with h1 | ⟨b, cap, cur, rfl, h2, hg, h3⟩
  · exact .inl h1
  · refine .inr ⟨b, cap, cur, rfl, h2, ?_, h3⟩
    rw [ht.block b (heap_lt hg) (fun e => ?_)]
    · exact hg
    · subst e
      rw [hA.cells] at hg
      simp only [Option.some.injEq, Obj.cells.injEq] at hg
      exact absurd hg.2.1 (by decide)
theorem Touch.then_below {S : Nat → Prop} {w w1 w2 : World} (h : Touch S w w1) (hb : Below w1.heap.size w1 w2) : Touch S w w2 := h.trans (Touch.of_below hb (fun _ => False)) (fun _ h => h.elim)
open Classical in
noncomputable def doesT (L : List Ln) (kind a b : Int) (l : Ln) : List Ln :=
  if kind = 1 then (if OkFill a l then fillT L a.toNat l else L)
  else if kind = 2 then (if 0 ≤ a ∧ a ≤ 7 ∧ 0 ≤ b ∧ b ≤ 1 then L.set (2 * a.toNat + b.toNat) zln else L)
  else if kind = 3 then dropT (fun x => fitsB x a b) L
  else if kind = 4 then dropT (fun x => x.tag == a && !x.gl) L
  else if kind = 5 then dropT (fun x => !(a != 0) || !x.gl) L
  else L
open Classical in
noncomputable def doesR (M : List RL) (kind a b : Int) (l : Ln) : List RL :=
  if kind = 1 then (if OkFill a l then fillR M (told l a) else M)
  else if kind = 2 then (if 0 ≤ a ∧ a ≤ 7 ∧ 0 ≤ b ∧ b ≤ 1 then withoutR M 1 a b else M)
  else if kind = 3 then withoutR M 2 a b
  else if kind = 4 then withoutR M 3 a 0
  else if kind = 5 then withoutR M 4 a 0
  else M
/-- What is said of the lists. -/
structure Ply (w : World) (p base : Nat) (v : Value) (L : List Ln) (M : List RL) : Prop where
  at_ : TlbAt w p L
  row : RRow w base v M
  le : base ≤ w.heap.size
  len : M.length ≤ 500
  page : ∀ y ∈ M, 0 ≤ y.page
set_option maxRecDepth 100000 in
set_option maxHeartbeats 2000000 in
theorem does_1ok {w : World} {p base : Nat} {v : Value} {L : List Ln} {M : List RL} (h : Ply w p base v L M) (n : Nat) (b : Int) (lt lp lf : Int) (lw lu lx lg ld : Bool) (hok : OkFill n ⟨true, lt, lp, lf, lw, lu, lx, lg, ld⟩) :
    Calls Try.prog 15 #[.pointer (some ⟨p, 0, none⟩), v, .agg #[.int .i64 1, .int .i64 n, .int .i64 b, .bool true, .int .i64 lt, .int .i64 lp, .int .i64 lf, .bool lw, .bool lu, .bool lx, .bool lg, .bool ld]] w fun e w' => ∃ v', e = .returned (.tuple #[v', .bool true]) ∧ Touch (fun k => k = p) w w' ∧ TlbAt w' p (fillT L n ⟨true, lt, lp, lf, lw, lu, lx, lg, ld⟩) ∧ RRow w' base v' (fillR M (told ⟨true, lt, lp, lf, lw, lu, lx, lg, ld⟩ n)) := by
  obtain ⟨hA, hR, hle, hM, hP⟩ := h
  obtain ⟨A, cap, rfl⟩ := row_form hR
  have hbx := heap_new w (.cells #[.int .i64 1, .int .i64 n, .int .i64 b, .bool true, .int .i64 lt, .int .i64 lp, .int .i64 lf, .bool lw, .bool lu, .bool lx, .bool lg, .bool ld] 48)
  have hal : Below w.heap.size w (w.alloc (.cells #[.int .i64 1, .int .i64 n, .int .i64 b, .bool true, .int .i64 lt, .int .i64 lp, .int .i64 lf, .bool lw, .bool lu, .bool lx, .bool lg, .bool ld] 48)) := by go_grown
  have hA0 := hA.below hal
  have hR0 := row_below hR hal
  have hT0 : Touch (fun k => k = p) w (w.alloc (.cells #[.int .i64 1, .int .i64 n, .int .i64 b, .bool true, .int .i64 lt, .int .i64 lp, .int .i64 lf, .bool lw, .bool lu, .bool lx, .bool lg, .bool ld] 48)) := Touch.of_below hal _
  have hne : ¬ w.heap.size = p := by have := hA.lt; omega
  have hz0 : w.heap.size < (w.alloc (.cells #[.int .i64 1, .int .i64 n, .int .i64 b, .bool true, .int .i64 lt, .int .i64 lp, .int .i64 lf, .bool lw, .bool lu, .bool lx, .bool lg, .bool ld] 48)).heap.size := by rw [World.size_alloc]; omega
  generalize hg : w.alloc (.cells #[.int .i64 1, .int .i64 n, .int .i64 b, .bool true, .int .i64 lt, .int .i64 lp, .int .i64 lf, .bool lw, .bool lu, .bool lx, .bool lg, .bool ld] 48) = w0 at *
  have HG := Lib.hid hg
  clear hg hal
  have c0 : w0.cell? ⟨w.heap.size, 0, none⟩ = some (.int .i64 1) := cell_heap hbx 0
  have c1 : w0.cell? ⟨w.heap.size, 1, none⟩ = some (.int .i64 n) := cell_heap hbx 1
  have c2 : w0.cell? ⟨w.heap.size, 2, none⟩ = some (.int .i64 b) := cell_heap hbx 2
  have c3 : w0.cell? ⟨w.heap.size, 3, none⟩ = some (.bool true) := cell_heap hbx 3
  have c4 : w0.cell? ⟨w.heap.size, 4, none⟩ = some (.int .i64 lt) := cell_heap hbx 4
  have c5 : w0.cell? ⟨w.heap.size, 5, none⟩ = some (.int .i64 lp) := cell_heap hbx 5
  have c6 : w0.cell? ⟨w.heap.size, 6, none⟩ = some (.int .i64 lf) := cell_heap hbx 6
  have c7 : w0.cell? ⟨w.heap.size, 7, none⟩ = some (.bool lw) := cell_heap hbx 7
  have c8 : w0.cell? ⟨w.heap.size, 8, none⟩ = some (.bool lu) := cell_heap hbx 8
  have c9 : w0.cell? ⟨w.heap.size, 9, none⟩ = some (.bool lx) := cell_heap hbx 9
  have c10 : w0.cell? ⟨w.heap.size, 10, none⟩ = some (.bool lg) := cell_heap hbx 10
  have c11 : w0.cell? ⟨w.heap.size, 11, none⟩ = some (.bool ld) := cell_heap hbx 11
  have HBX := Lib.hid hbx
  clear hbx
  go_enter Try.func15, Try.ntmps15
  go_wp2_with fail
  rw [HG.out]
  obtain ⟨h1, h2, h3, h4, h5, h6, h7⟩ := id hok
  simp only [] at h3 h4 h5 h6
  refine (fill_ok hA0 n ⟨true, lt, lp, lf, lw, lu, lx, lg, ld⟩ hok).mono ?_
  rintro e w1 ⟨rfl, ht1, hA1⟩
  have hR1 := RRow.touch hR0 hA0 ht1
  have hT1 := hT0.trans ht1 (fun k h => .inl h)
  obtain ⟨hc1, _⟩ := tcell ht1
  have hz1 := ht1.size
  clear ht1 hA0 hR0 hT0
  go_wp2_with fail
  refine (told_any ⟨true, lt, lp, lf, lw, lu, lx, lg, ld⟩ n _).mono ?_
  rintro e w3 ⟨rfl, hb3⟩
  have hA3 := hA1.below hb3
  have hR3 := row_below hR1 hb3
  have hT3 := hT1.then_below hb3
  have hz3 := hb3.size
  clear hA1 hR1 hT1 hb3
  go_wp2_with fail
  refine (rfill_any hR3 (by omega) hP (told ⟨true, lt, lp, lf, lw, lu, lx, lg, ld⟩ n) h5).mono ?_
  rintro e w2 ⟨v2, rfl, hb2, hR2⟩
  go_wp2
  go_returns
  exact ⟨_, rfl, hT3.then_below hb2, hA3.below hb2, row_mono hR2 (by omega)⟩
set_option maxRecDepth 100000 in
set_option maxHeartbeats 2000000 in
theorem does_1bad {w : World} {p base : Nat} {v : Value} {L : List Ln} {M : List RL} (h : Ply w p base v L M) (a b : Int) (lv : Bool) (lt lp lf : Int) (lw lu lx lg ld : Bool) (hok : ¬ OkFill a ⟨lv, lt, lp, lf, lw, lu, lx, lg, ld⟩) :
    Calls Try.prog 15 #[.pointer (some ⟨p, 0, none⟩), v, .agg #[.int .i64 1, .int .i64 a, .int .i64 b, .bool lv, .int .i64 lt, .int .i64 lp, .int .i64 lf, .bool lw, .bool lu, .bool lx, .bool lg, .bool ld]] w fun e w' => ∃ v', e = .returned (.tuple #[v', .bool true]) ∧ Touch (fun k => k = p) w w' ∧ TlbAt w' p (L) ∧ RRow w' base v' (M) := by
  obtain ⟨hA, hR, hle, hM, hP⟩ := h
  obtain ⟨A, cap, rfl⟩ := row_form hR
  have hbx := heap_new w (.cells #[.int .i64 1, .int .i64 a, .int .i64 b, .bool lv, .int .i64 lt, .int .i64 lp, .int .i64 lf, .bool lw, .bool lu, .bool lx, .bool lg, .bool ld] 48)
  have hal : Below w.heap.size w (w.alloc (.cells #[.int .i64 1, .int .i64 a, .int .i64 b, .bool lv, .int .i64 lt, .int .i64 lp, .int .i64 lf, .bool lw, .bool lu, .bool lx, .bool lg, .bool ld] 48)) := by go_grown
  have hA0 := hA.below hal
  have hR0 := row_below hR hal
  have hT0 : Touch (fun k => k = p) w (w.alloc (.cells #[.int .i64 1, .int .i64 a, .int .i64 b, .bool lv, .int .i64 lt, .int .i64 lp, .int .i64 lf, .bool lw, .bool lu, .bool lx, .bool lg, .bool ld] 48)) := Touch.of_below hal _
  have hne : ¬ w.heap.size = p := by have := hA.lt; omega
  have hz0 : w.heap.size < (w.alloc (.cells #[.int .i64 1, .int .i64 a, .int .i64 b, .bool lv, .int .i64 lt, .int .i64 lp, .int .i64 lf, .bool lw, .bool lu, .bool lx, .bool lg, .bool ld] 48)).heap.size := by rw [World.size_alloc]; omega
  generalize hg : w.alloc (.cells #[.int .i64 1, .int .i64 a, .int .i64 b, .bool lv, .int .i64 lt, .int .i64 lp, .int .i64 lf, .bool lw, .bool lu, .bool lx, .bool lg, .bool ld] 48) = w0 at *
  have HG := Lib.hid hg
  clear hg hal
  have c0 : w0.cell? ⟨w.heap.size, 0, none⟩ = some (.int .i64 1) := cell_heap hbx 0
  have c1 : w0.cell? ⟨w.heap.size, 1, none⟩ = some (.int .i64 a) := cell_heap hbx 1
  have c2 : w0.cell? ⟨w.heap.size, 2, none⟩ = some (.int .i64 b) := cell_heap hbx 2
  have c3 : w0.cell? ⟨w.heap.size, 3, none⟩ = some (.bool lv) := cell_heap hbx 3
  have c4 : w0.cell? ⟨w.heap.size, 4, none⟩ = some (.int .i64 lt) := cell_heap hbx 4
  have c5 : w0.cell? ⟨w.heap.size, 5, none⟩ = some (.int .i64 lp) := cell_heap hbx 5
  have c6 : w0.cell? ⟨w.heap.size, 6, none⟩ = some (.int .i64 lf) := cell_heap hbx 6
  have c7 : w0.cell? ⟨w.heap.size, 7, none⟩ = some (.bool lw) := cell_heap hbx 7
  have c8 : w0.cell? ⟨w.heap.size, 8, none⟩ = some (.bool lu) := cell_heap hbx 8
  have c9 : w0.cell? ⟨w.heap.size, 9, none⟩ = some (.bool lx) := cell_heap hbx 9
  have c10 : w0.cell? ⟨w.heap.size, 10, none⟩ = some (.bool lg) := cell_heap hbx 10
  have c11 : w0.cell? ⟨w.heap.size, 11, none⟩ = some (.bool ld) := cell_heap hbx 11
  have HBX := Lib.hid hbx
  clear hbx
  go_enter Try.func15, Try.ntmps15
  go_wp2_with fail
  rw [HG.out]
  have hs : a < 0 ∨ 1 < a ∨ lt < 0 ∨ 4095 < lt ∨ lp < 0 ∨ lf < 0 ∨ lv = false := by
    unfold OkFill at hok
    rcases Bool.eq_false_or_eq_true lv with hv | hv
    · have : ¬ (0 ≤ a ∧ a ≤ 1 ∧ 0 ≤ lt ∧ lt ≤ 4095 ∧ 0 ≤ lp ∧ 0 ≤ lf) := fun ⟨q1, q2, q3, q4, q5, q6⟩ => hok ⟨q1, q2, q3, q4, q5, q6, hv⟩
      omega
    · simp [hv]
  have HS := Lib.hid hs
  clear hs
  refine (fill_bad w0 p a ⟨lv, lt, lp, lf, lw, lu, lx, lg, ld⟩ hok).mono ?_
  rintro e w1 ⟨rfl, hb1⟩
  have hA1 := hA0.below hb1
  have hR1 := row_below hR0 hb1
  have hT1 := hT0.then_below hb1
  obtain ⟨hc1, _⟩ := bcell hb1
  have hz1 := hb1.size
  clear hb1 hA0 hR0 hT0 hok
  go_wp2_with fail
  all_goals first
    | (go_returns; exact ⟨.slice A M.length cap, rfl, hT1, hA1, hR1⟩)
    | (exfalso; rcases HS.out with h | h | h | h | h | h | h <;> first | omega | simp_all)
set_option maxRecDepth 100000 in
set_option maxHeartbeats 2000000 in
theorem does_2ok {w : World} {p base : Nat} {v : Value} {L : List Ln} {M : List RL} (h : Ply w p base v L M) (n m : Nat) (lv : Bool) (lt lp lf : Int) (lw lu lx lg ld : Bool) (h1 : n < 8) (h2 : m < 2) :
    Calls Try.prog 15 #[.pointer (some ⟨p, 0, none⟩), v, .agg #[.int .i64 2, .int .i64 n, .int .i64 m, .bool lv, .int .i64 lt, .int .i64 lp, .int .i64 lf, .bool lw, .bool lu, .bool lx, .bool lg, .bool ld]] w fun e w' => ∃ v', e = .returned (.tuple #[v', .bool true]) ∧ Touch (fun k => k = p) w w' ∧ TlbAt w' p (L.set (2 * n + m) zln) ∧ RRow w' base v' (withoutR M 1 n m) := by
  obtain ⟨hA, hR, hle, hM, hP⟩ := h
  obtain ⟨A, cap, rfl⟩ := row_form hR
  have hbx := heap_new w (.cells #[.int .i64 2, .int .i64 n, .int .i64 m, .bool lv, .int .i64 lt, .int .i64 lp, .int .i64 lf, .bool lw, .bool lu, .bool lx, .bool lg, .bool ld] 48)
  have hal : Below w.heap.size w (w.alloc (.cells #[.int .i64 2, .int .i64 n, .int .i64 m, .bool lv, .int .i64 lt, .int .i64 lp, .int .i64 lf, .bool lw, .bool lu, .bool lx, .bool lg, .bool ld] 48)) := by go_grown
  have hA0 := hA.below hal
  have hR0 := row_below hR hal
  have hT0 : Touch (fun k => k = p) w (w.alloc (.cells #[.int .i64 2, .int .i64 n, .int .i64 m, .bool lv, .int .i64 lt, .int .i64 lp, .int .i64 lf, .bool lw, .bool lu, .bool lx, .bool lg, .bool ld] 48)) := Touch.of_below hal _
  have hne : ¬ w.heap.size = p := by have := hA.lt; omega
  have hz0 : w.heap.size < (w.alloc (.cells #[.int .i64 2, .int .i64 n, .int .i64 m, .bool lv, .int .i64 lt, .int .i64 lp, .int .i64 lf, .bool lw, .bool lu, .bool lx, .bool lg, .bool ld] 48)).heap.size := by rw [World.size_alloc]; omega
  generalize hg : w.alloc (.cells #[.int .i64 2, .int .i64 n, .int .i64 m, .bool lv, .int .i64 lt, .int .i64 lp, .int .i64 lf, .bool lw, .bool lu, .bool lx, .bool lg, .bool ld] 48) = w0 at *
  have HG := Lib.hid hg
  clear hg hal
  have c0 : w0.cell? ⟨w.heap.size, 0, none⟩ = some (.int .i64 2) := cell_heap hbx 0
  have c1 : w0.cell? ⟨w.heap.size, 1, none⟩ = some (.int .i64 n) := cell_heap hbx 1
  have c2 : w0.cell? ⟨w.heap.size, 2, none⟩ = some (.int .i64 m) := cell_heap hbx 2
  have c3 : w0.cell? ⟨w.heap.size, 3, none⟩ = some (.bool lv) := cell_heap hbx 3
  have c4 : w0.cell? ⟨w.heap.size, 4, none⟩ = some (.int .i64 lt) := cell_heap hbx 4
  have c5 : w0.cell? ⟨w.heap.size, 5, none⟩ = some (.int .i64 lp) := cell_heap hbx 5
  have c6 : w0.cell? ⟨w.heap.size, 6, none⟩ = some (.int .i64 lf) := cell_heap hbx 6
  have c7 : w0.cell? ⟨w.heap.size, 7, none⟩ = some (.bool lw) := cell_heap hbx 7
  have c8 : w0.cell? ⟨w.heap.size, 8, none⟩ = some (.bool lu) := cell_heap hbx 8
  have c9 : w0.cell? ⟨w.heap.size, 9, none⟩ = some (.bool lx) := cell_heap hbx 9
  have c10 : w0.cell? ⟨w.heap.size, 10, none⟩ = some (.bool lg) := cell_heap hbx 10
  have c11 : w0.cell? ⟨w.heap.size, 11, none⟩ = some (.bool ld) := cell_heap hbx 11
  have HBX := Lib.hid hbx
  clear hbx
  go_enter Try.func15, Try.ntmps15
  go_wp2_with fail
  rw [HG.out]
  have i1 : (n : Int) < 8 := by omega
  have i2 : (m : Int) < 2 := by omega
  have i3 : (0 : Int) ≤ n := by omega
  have i4 : (0 : Int) ≤ m := by omega
  refine (evict_ok hA0 n m h1 h2).mono ?_
  rintro e w1 ⟨rfl, ht1, hA1⟩
  have hR1 := RRow.touch hR0 hA0 ht1
  have hT1 := hT0.trans ht1 (fun k h => .inl h)
  obtain ⟨hc1, _⟩ := tcell ht1
  have hz1 := ht1.size
  clear ht1 hA0 hR0 hT0
  go_wp2_with fail
  refine (without1 hR1 (by omega) hP n m).mono ?_
  rintro e w2 ⟨v2, rfl, hb2, hR2⟩
  go_wp2
  go_returns
  exact ⟨_, rfl, hT1.then_below hb2, hA1.below hb2, row_mono hR2 (by omega)⟩
set_option maxRecDepth 100000 in
set_option maxHeartbeats 2000000 in
theorem does_2bad {w : World} {p base : Nat} {v : Value} {L : List Ln} {M : List RL} (h : Ply w p base v L M) (a b : Int) (lv : Bool) (lt lp lf : Int) (lw lu lx lg ld : Bool) (hs : a < 0 ∨ 7 < a ∨ b < 0 ∨ 1 < b) :
    Calls Try.prog 15 #[.pointer (some ⟨p, 0, none⟩), v, .agg #[.int .i64 2, .int .i64 a, .int .i64 b, .bool lv, .int .i64 lt, .int .i64 lp, .int .i64 lf, .bool lw, .bool lu, .bool lx, .bool lg, .bool ld]] w fun e w' => ∃ v', e = .returned (.tuple #[v', .bool true]) ∧ Touch (fun k => k = p) w w' ∧ TlbAt w' p (L) ∧ RRow w' base v' (M) := by
  obtain ⟨hA, hR, hle, hM, hP⟩ := h
  obtain ⟨A, cap, rfl⟩ := row_form hR
  have hbx := heap_new w (.cells #[.int .i64 2, .int .i64 a, .int .i64 b, .bool lv, .int .i64 lt, .int .i64 lp, .int .i64 lf, .bool lw, .bool lu, .bool lx, .bool lg, .bool ld] 48)
  have hal : Below w.heap.size w (w.alloc (.cells #[.int .i64 2, .int .i64 a, .int .i64 b, .bool lv, .int .i64 lt, .int .i64 lp, .int .i64 lf, .bool lw, .bool lu, .bool lx, .bool lg, .bool ld] 48)) := by go_grown
  have hA0 := hA.below hal
  have hR0 := row_below hR hal
  have hT0 : Touch (fun k => k = p) w (w.alloc (.cells #[.int .i64 2, .int .i64 a, .int .i64 b, .bool lv, .int .i64 lt, .int .i64 lp, .int .i64 lf, .bool lw, .bool lu, .bool lx, .bool lg, .bool ld] 48)) := Touch.of_below hal _
  have hne : ¬ w.heap.size = p := by have := hA.lt; omega
  have hz0 : w.heap.size < (w.alloc (.cells #[.int .i64 2, .int .i64 a, .int .i64 b, .bool lv, .int .i64 lt, .int .i64 lp, .int .i64 lf, .bool lw, .bool lu, .bool lx, .bool lg, .bool ld] 48)).heap.size := by rw [World.size_alloc]; omega
  generalize hg : w.alloc (.cells #[.int .i64 2, .int .i64 a, .int .i64 b, .bool lv, .int .i64 lt, .int .i64 lp, .int .i64 lf, .bool lw, .bool lu, .bool lx, .bool lg, .bool ld] 48) = w0 at *
  have HG := Lib.hid hg
  clear hg hal
  have c0 : w0.cell? ⟨w.heap.size, 0, none⟩ = some (.int .i64 2) := cell_heap hbx 0
  have c1 : w0.cell? ⟨w.heap.size, 1, none⟩ = some (.int .i64 a) := cell_heap hbx 1
  have c2 : w0.cell? ⟨w.heap.size, 2, none⟩ = some (.int .i64 b) := cell_heap hbx 2
  have c3 : w0.cell? ⟨w.heap.size, 3, none⟩ = some (.bool lv) := cell_heap hbx 3
  have c4 : w0.cell? ⟨w.heap.size, 4, none⟩ = some (.int .i64 lt) := cell_heap hbx 4
  have c5 : w0.cell? ⟨w.heap.size, 5, none⟩ = some (.int .i64 lp) := cell_heap hbx 5
  have c6 : w0.cell? ⟨w.heap.size, 6, none⟩ = some (.int .i64 lf) := cell_heap hbx 6
  have c7 : w0.cell? ⟨w.heap.size, 7, none⟩ = some (.bool lw) := cell_heap hbx 7
  have c8 : w0.cell? ⟨w.heap.size, 8, none⟩ = some (.bool lu) := cell_heap hbx 8
  have c9 : w0.cell? ⟨w.heap.size, 9, none⟩ = some (.bool lx) := cell_heap hbx 9
  have c10 : w0.cell? ⟨w.heap.size, 10, none⟩ = some (.bool lg) := cell_heap hbx 10
  have c11 : w0.cell? ⟨w.heap.size, 11, none⟩ = some (.bool ld) := cell_heap hbx 11
  have HBX := Lib.hid hbx
  clear hbx
  go_enter Try.func15, Try.ntmps15
  go_wp2_with fail
  rw [HG.out]
  have HS := Lib.hid hs
  refine (evict_bad w0 p a b hs).mono ?_
  rintro e w1 ⟨rfl, rfl⟩
  clear hs
  go_wp2_with fail
  all_goals first
    | (go_returns; exact ⟨.slice A M.length cap, rfl, hT0, hA0, hR0⟩)
    | (exfalso; have := HS.out; omega)
set_option maxRecDepth 100000 in
set_option maxHeartbeats 2000000 in
theorem does_3 {w : World} {p base : Nat} {v : Value} {L : List Ln} {M : List RL} (h : Ply w p base v L M) (a b : Int) (lv : Bool) (lt lp lf : Int) (lw lu lx lg ld : Bool) :
    Calls Try.prog 15 #[.pointer (some ⟨p, 0, none⟩), v, .agg #[.int .i64 3, .int .i64 a, .int .i64 b, .bool lv, .int .i64 lt, .int .i64 lp, .int .i64 lf, .bool lw, .bool lu, .bool lx, .bool lg, .bool ld]] w fun e w' => ∃ v', e = .returned (.tuple #[v', .bool true]) ∧ Touch (fun k => k = p) w w' ∧ TlbAt w' p (dropT (fun x => fitsB x a b) L) ∧ RRow w' base v' (withoutR M 2 a b) := by
  obtain ⟨hA, hR, hle, hM, hP⟩ := h
  obtain ⟨A, cap, rfl⟩ := row_form hR
  have hbx := heap_new w (.cells #[.int .i64 3, .int .i64 a, .int .i64 b, .bool lv, .int .i64 lt, .int .i64 lp, .int .i64 lf, .bool lw, .bool lu, .bool lx, .bool lg, .bool ld] 48)
  have hal : Below w.heap.size w (w.alloc (.cells #[.int .i64 3, .int .i64 a, .int .i64 b, .bool lv, .int .i64 lt, .int .i64 lp, .int .i64 lf, .bool lw, .bool lu, .bool lx, .bool lg, .bool ld] 48)) := by go_grown
  have hA0 := hA.below hal
  have hR0 := row_below hR hal
  have hT0 : Touch (fun k => k = p) w (w.alloc (.cells #[.int .i64 3, .int .i64 a, .int .i64 b, .bool lv, .int .i64 lt, .int .i64 lp, .int .i64 lf, .bool lw, .bool lu, .bool lx, .bool lg, .bool ld] 48)) := Touch.of_below hal _
  have hne : ¬ w.heap.size = p := by have := hA.lt; omega
  have hz0 : w.heap.size < (w.alloc (.cells #[.int .i64 3, .int .i64 a, .int .i64 b, .bool lv, .int .i64 lt, .int .i64 lp, .int .i64 lf, .bool lw, .bool lu, .bool lx, .bool lg, .bool ld] 48)).heap.size := by rw [World.size_alloc]; omega
  generalize hg : w.alloc (.cells #[.int .i64 3, .int .i64 a, .int .i64 b, .bool lv, .int .i64 lt, .int .i64 lp, .int .i64 lf, .bool lw, .bool lu, .bool lx, .bool lg, .bool ld] 48) = w0 at *
  have HG := Lib.hid hg
  clear hg hal
  have c0 : w0.cell? ⟨w.heap.size, 0, none⟩ = some (.int .i64 3) := cell_heap hbx 0
  have c1 : w0.cell? ⟨w.heap.size, 1, none⟩ = some (.int .i64 a) := cell_heap hbx 1
  have c2 : w0.cell? ⟨w.heap.size, 2, none⟩ = some (.int .i64 b) := cell_heap hbx 2
  have c3 : w0.cell? ⟨w.heap.size, 3, none⟩ = some (.bool lv) := cell_heap hbx 3
  have c4 : w0.cell? ⟨w.heap.size, 4, none⟩ = some (.int .i64 lt) := cell_heap hbx 4
  have c5 : w0.cell? ⟨w.heap.size, 5, none⟩ = some (.int .i64 lp) := cell_heap hbx 5
  have c6 : w0.cell? ⟨w.heap.size, 6, none⟩ = some (.int .i64 lf) := cell_heap hbx 6
  have c7 : w0.cell? ⟨w.heap.size, 7, none⟩ = some (.bool lw) := cell_heap hbx 7
  have c8 : w0.cell? ⟨w.heap.size, 8, none⟩ = some (.bool lu) := cell_heap hbx 8
  have c9 : w0.cell? ⟨w.heap.size, 9, none⟩ = some (.bool lx) := cell_heap hbx 9
  have c10 : w0.cell? ⟨w.heap.size, 10, none⟩ = some (.bool lg) := cell_heap hbx 10
  have c11 : w0.cell? ⟨w.heap.size, 11, none⟩ = some (.bool ld) := cell_heap hbx 11
  have HBX := Lib.hid hbx
  clear hbx
  go_enter Try.func15, Try.ntmps15
  go_wp2_with fail
  rw [HG.out]
  refine (page_any hA0 a b).mono ?_
  rintro e w1 ⟨rfl, ht1, hA1⟩
  have hR1 := RRow.touch hR0 hA0 ht1
  have hT1 := hT0.trans ht1 (fun k h => .inl h)
  obtain ⟨hc1, _⟩ := tcell ht1
  have hz1 := ht1.size
  clear ht1 hA0 hR0 hT0
  go_wp2_with fail
  refine (without2 hR1 (by omega) hP a b).mono ?_
  rintro e w2 ⟨v2, rfl, hb2, hR2⟩
  go_wp2
  go_returns
  exact ⟨_, rfl, hT1.then_below hb2, hA1.below hb2, row_mono hR2 (by omega)⟩
set_option maxRecDepth 100000 in
set_option maxHeartbeats 2000000 in
theorem does_4 {w : World} {p base : Nat} {v : Value} {L : List Ln} {M : List RL} (h : Ply w p base v L M) (a b : Int) (lv : Bool) (lt lp lf : Int) (lw lu lx lg ld : Bool) :
    Calls Try.prog 15 #[.pointer (some ⟨p, 0, none⟩), v, .agg #[.int .i64 4, .int .i64 a, .int .i64 b, .bool lv, .int .i64 lt, .int .i64 lp, .int .i64 lf, .bool lw, .bool lu, .bool lx, .bool lg, .bool ld]] w fun e w' => ∃ v', e = .returned (.tuple #[v', .bool true]) ∧ Touch (fun k => k = p) w w' ∧ TlbAt w' p (dropT (fun x => x.tag == a && !x.gl) L) ∧ RRow w' base v' (withoutR M 3 a 0) := by
  obtain ⟨hA, hR, hle, hM, hP⟩ := h
  obtain ⟨A, cap, rfl⟩ := row_form hR
  have hbx := heap_new w (.cells #[.int .i64 4, .int .i64 a, .int .i64 b, .bool lv, .int .i64 lt, .int .i64 lp, .int .i64 lf, .bool lw, .bool lu, .bool lx, .bool lg, .bool ld] 48)
  have hal : Below w.heap.size w (w.alloc (.cells #[.int .i64 4, .int .i64 a, .int .i64 b, .bool lv, .int .i64 lt, .int .i64 lp, .int .i64 lf, .bool lw, .bool lu, .bool lx, .bool lg, .bool ld] 48)) := by go_grown
  have hA0 := hA.below hal
  have hR0 := row_below hR hal
  have hT0 : Touch (fun k => k = p) w (w.alloc (.cells #[.int .i64 4, .int .i64 a, .int .i64 b, .bool lv, .int .i64 lt, .int .i64 lp, .int .i64 lf, .bool lw, .bool lu, .bool lx, .bool lg, .bool ld] 48)) := Touch.of_below hal _
  have hne : ¬ w.heap.size = p := by have := hA.lt; omega
  have hz0 : w.heap.size < (w.alloc (.cells #[.int .i64 4, .int .i64 a, .int .i64 b, .bool lv, .int .i64 lt, .int .i64 lp, .int .i64 lf, .bool lw, .bool lu, .bool lx, .bool lg, .bool ld] 48)).heap.size := by rw [World.size_alloc]; omega
  generalize hg : w.alloc (.cells #[.int .i64 4, .int .i64 a, .int .i64 b, .bool lv, .int .i64 lt, .int .i64 lp, .int .i64 lf, .bool lw, .bool lu, .bool lx, .bool lg, .bool ld] 48) = w0 at *
  have HG := Lib.hid hg
  clear hg hal
  have c0 : w0.cell? ⟨w.heap.size, 0, none⟩ = some (.int .i64 4) := cell_heap hbx 0
  have c1 : w0.cell? ⟨w.heap.size, 1, none⟩ = some (.int .i64 a) := cell_heap hbx 1
  have c2 : w0.cell? ⟨w.heap.size, 2, none⟩ = some (.int .i64 b) := cell_heap hbx 2
  have c3 : w0.cell? ⟨w.heap.size, 3, none⟩ = some (.bool lv) := cell_heap hbx 3
  have c4 : w0.cell? ⟨w.heap.size, 4, none⟩ = some (.int .i64 lt) := cell_heap hbx 4
  have c5 : w0.cell? ⟨w.heap.size, 5, none⟩ = some (.int .i64 lp) := cell_heap hbx 5
  have c6 : w0.cell? ⟨w.heap.size, 6, none⟩ = some (.int .i64 lf) := cell_heap hbx 6
  have c7 : w0.cell? ⟨w.heap.size, 7, none⟩ = some (.bool lw) := cell_heap hbx 7
  have c8 : w0.cell? ⟨w.heap.size, 8, none⟩ = some (.bool lu) := cell_heap hbx 8
  have c9 : w0.cell? ⟨w.heap.size, 9, none⟩ = some (.bool lx) := cell_heap hbx 9
  have c10 : w0.cell? ⟨w.heap.size, 10, none⟩ = some (.bool lg) := cell_heap hbx 10
  have c11 : w0.cell? ⟨w.heap.size, 11, none⟩ = some (.bool ld) := cell_heap hbx 11
  have HBX := Lib.hid hbx
  clear hbx
  go_enter Try.func15, Try.ntmps15
  go_wp2_with fail
  rw [HG.out]
  refine (tag_any hA0 a).mono ?_
  rintro e w1 ⟨rfl, ht1, hA1⟩
  have hR1 := RRow.touch hR0 hA0 ht1
  have hT1 := hT0.trans ht1 (fun k h => .inl h)
  obtain ⟨hc1, _⟩ := tcell ht1
  have hz1 := ht1.size
  clear ht1 hA0 hR0 hT0
  go_wp2_with fail
  refine (without3 hR1 (by omega) hP a 0).mono ?_
  rintro e w2 ⟨v2, rfl, hb2, hR2⟩
  go_wp2
  go_returns
  exact ⟨_, rfl, hT1.then_below hb2, hA1.below hb2, row_mono hR2 (by omega)⟩
set_option maxRecDepth 100000 in
set_option maxHeartbeats 2000000 in
theorem does_5 {w : World} {p base : Nat} {v : Value} {L : List Ln} {M : List RL} (h : Ply w p base v L M) (a b : Int) (lv : Bool) (lt lp lf : Int) (lw lu lx lg ld : Bool) :
    Calls Try.prog 15 #[.pointer (some ⟨p, 0, none⟩), v, .agg #[.int .i64 5, .int .i64 a, .int .i64 b, .bool lv, .int .i64 lt, .int .i64 lp, .int .i64 lf, .bool lw, .bool lu, .bool lx, .bool lg, .bool ld]] w fun e w' => ∃ v', e = .returned (.tuple #[v', .bool true]) ∧ Touch (fun k => k = p) w w' ∧ TlbAt w' p (dropT (fun x => !(a != 0) || !x.gl) L) ∧ RRow w' base v' (withoutR M 4 a 0) := by
  obtain ⟨hA, hR, hle, hM, hP⟩ := h
  obtain ⟨A, cap, rfl⟩ := row_form hR
  have hbx := heap_new w (.cells #[.int .i64 5, .int .i64 a, .int .i64 b, .bool lv, .int .i64 lt, .int .i64 lp, .int .i64 lf, .bool lw, .bool lu, .bool lx, .bool lg, .bool ld] 48)
  have hal : Below w.heap.size w (w.alloc (.cells #[.int .i64 5, .int .i64 a, .int .i64 b, .bool lv, .int .i64 lt, .int .i64 lp, .int .i64 lf, .bool lw, .bool lu, .bool lx, .bool lg, .bool ld] 48)) := by go_grown
  have hA0 := hA.below hal
  have hR0 := row_below hR hal
  have hT0 : Touch (fun k => k = p) w (w.alloc (.cells #[.int .i64 5, .int .i64 a, .int .i64 b, .bool lv, .int .i64 lt, .int .i64 lp, .int .i64 lf, .bool lw, .bool lu, .bool lx, .bool lg, .bool ld] 48)) := Touch.of_below hal _
  have hne : ¬ w.heap.size = p := by have := hA.lt; omega
  have hz0 : w.heap.size < (w.alloc (.cells #[.int .i64 5, .int .i64 a, .int .i64 b, .bool lv, .int .i64 lt, .int .i64 lp, .int .i64 lf, .bool lw, .bool lu, .bool lx, .bool lg, .bool ld] 48)).heap.size := by rw [World.size_alloc]; omega
  generalize hg : w.alloc (.cells #[.int .i64 5, .int .i64 a, .int .i64 b, .bool lv, .int .i64 lt, .int .i64 lp, .int .i64 lf, .bool lw, .bool lu, .bool lx, .bool lg, .bool ld] 48) = w0 at *
  have HG := Lib.hid hg
  clear hg hal
  have c0 : w0.cell? ⟨w.heap.size, 0, none⟩ = some (.int .i64 5) := cell_heap hbx 0
  have c1 : w0.cell? ⟨w.heap.size, 1, none⟩ = some (.int .i64 a) := cell_heap hbx 1
  have c2 : w0.cell? ⟨w.heap.size, 2, none⟩ = some (.int .i64 b) := cell_heap hbx 2
  have c3 : w0.cell? ⟨w.heap.size, 3, none⟩ = some (.bool lv) := cell_heap hbx 3
  have c4 : w0.cell? ⟨w.heap.size, 4, none⟩ = some (.int .i64 lt) := cell_heap hbx 4
  have c5 : w0.cell? ⟨w.heap.size, 5, none⟩ = some (.int .i64 lp) := cell_heap hbx 5
  have c6 : w0.cell? ⟨w.heap.size, 6, none⟩ = some (.int .i64 lf) := cell_heap hbx 6
  have c7 : w0.cell? ⟨w.heap.size, 7, none⟩ = some (.bool lw) := cell_heap hbx 7
  have c8 : w0.cell? ⟨w.heap.size, 8, none⟩ = some (.bool lu) := cell_heap hbx 8
  have c9 : w0.cell? ⟨w.heap.size, 9, none⟩ = some (.bool lx) := cell_heap hbx 9
  have c10 : w0.cell? ⟨w.heap.size, 10, none⟩ = some (.bool lg) := cell_heap hbx 10
  have c11 : w0.cell? ⟨w.heap.size, 11, none⟩ = some (.bool ld) := cell_heap hbx 11
  have HBX := Lib.hid hbx
  clear hbx
  go_enter Try.func15, Try.ntmps15
  go_wp2_with fail
  rw [HG.out]
  refine (all_any hA0 (a != 0)).mono ?_
  rintro e w1 ⟨rfl, ht1, hA1⟩
  have hR1 := RRow.touch hR0 hA0 ht1
  have hT1 := hT0.trans ht1 (fun k h => .inl h)
  obtain ⟨hc1, _⟩ := tcell ht1
  have hz1 := ht1.size
  clear ht1 hA0 hR0 hT0
  go_wp2_with fail
  refine (without4 hR1 (by omega) hP a 0).mono ?_
  rintro e w2 ⟨v2, rfl, hb2, hR2⟩
  go_wp2
  go_returns
  exact ⟨_, rfl, hT1.then_below hb2, hA1.below hb2, row_mono hR2 (by omega)⟩
set_option maxRecDepth 100000 in
set_option maxHeartbeats 2000000 in
theorem does_no {w : World} {p base : Nat} {v : Value} {L : List Ln} {M : List RL} (h : Ply w p base v L M) (kind a b : Int) (lv : Bool) (lt lp lf : Int) (lw lu lx lg ld : Bool) (hk1 : kind ≠ 1) (hk2 : kind ≠ 2) (hk3 : kind ≠ 3) (hk4 : kind ≠ 4) (hk5 : kind ≠ 5) :
    Calls Try.prog 15 #[.pointer (some ⟨p, 0, none⟩), v, .agg #[.int .i64 kind, .int .i64 a, .int .i64 b, .bool lv, .int .i64 lt, .int .i64 lp, .int .i64 lf, .bool lw, .bool lu, .bool lx, .bool lg, .bool ld]] w fun e w' => ∃ v', e = .returned (.tuple #[v', .bool true]) ∧ Touch (fun k => k = p) w w' ∧ TlbAt w' p (L) ∧ RRow w' base v' (M) := by
  obtain ⟨hA, hR, hle, hM, hP⟩ := h
  obtain ⟨A, cap, rfl⟩ := row_form hR
  have hbx := heap_new w (.cells #[.int .i64 kind, .int .i64 a, .int .i64 b, .bool lv, .int .i64 lt, .int .i64 lp, .int .i64 lf, .bool lw, .bool lu, .bool lx, .bool lg, .bool ld] 48)
  have hal : Below w.heap.size w (w.alloc (.cells #[.int .i64 kind, .int .i64 a, .int .i64 b, .bool lv, .int .i64 lt, .int .i64 lp, .int .i64 lf, .bool lw, .bool lu, .bool lx, .bool lg, .bool ld] 48)) := by go_grown
  have hA0 := hA.below hal
  have hR0 := row_below hR hal
  have hT0 : Touch (fun k => k = p) w (w.alloc (.cells #[.int .i64 kind, .int .i64 a, .int .i64 b, .bool lv, .int .i64 lt, .int .i64 lp, .int .i64 lf, .bool lw, .bool lu, .bool lx, .bool lg, .bool ld] 48)) := Touch.of_below hal _
  have hne : ¬ w.heap.size = p := by have := hA.lt; omega
  have hz0 : w.heap.size < (w.alloc (.cells #[.int .i64 kind, .int .i64 a, .int .i64 b, .bool lv, .int .i64 lt, .int .i64 lp, .int .i64 lf, .bool lw, .bool lu, .bool lx, .bool lg, .bool ld] 48)).heap.size := by rw [World.size_alloc]; omega
  generalize hg : w.alloc (.cells #[.int .i64 kind, .int .i64 a, .int .i64 b, .bool lv, .int .i64 lt, .int .i64 lp, .int .i64 lf, .bool lw, .bool lu, .bool lx, .bool lg, .bool ld] 48) = w0 at *
  have HG := Lib.hid hg
  clear hg hal
  have c0 : w0.cell? ⟨w.heap.size, 0, none⟩ = some (.int .i64 kind) := cell_heap hbx 0
  have c1 : w0.cell? ⟨w.heap.size, 1, none⟩ = some (.int .i64 a) := cell_heap hbx 1
  have c2 : w0.cell? ⟨w.heap.size, 2, none⟩ = some (.int .i64 b) := cell_heap hbx 2
  have c3 : w0.cell? ⟨w.heap.size, 3, none⟩ = some (.bool lv) := cell_heap hbx 3
  have c4 : w0.cell? ⟨w.heap.size, 4, none⟩ = some (.int .i64 lt) := cell_heap hbx 4
  have c5 : w0.cell? ⟨w.heap.size, 5, none⟩ = some (.int .i64 lp) := cell_heap hbx 5
  have c6 : w0.cell? ⟨w.heap.size, 6, none⟩ = some (.int .i64 lf) := cell_heap hbx 6
  have c7 : w0.cell? ⟨w.heap.size, 7, none⟩ = some (.bool lw) := cell_heap hbx 7
  have c8 : w0.cell? ⟨w.heap.size, 8, none⟩ = some (.bool lu) := cell_heap hbx 8
  have c9 : w0.cell? ⟨w.heap.size, 9, none⟩ = some (.bool lx) := cell_heap hbx 9
  have c10 : w0.cell? ⟨w.heap.size, 10, none⟩ = some (.bool lg) := cell_heap hbx 10
  have c11 : w0.cell? ⟨w.heap.size, 11, none⟩ = some (.bool ld) := cell_heap hbx 11
  have HBX := Lib.hid hbx
  clear hbx
  have k1 : (kind == 1) = false := by simp [hk1]
  have k2 : (kind == 2) = false := by simp [hk2]
  have k3 : (kind == 3) = false := by simp [hk3]
  have k4 : (kind == 4) = false := by simp [hk4]
  have k5 : (kind == 5) = false := by simp [hk5]
  clear hk1 hk2 hk3 hk4 hk5
  go_enter Try.func15, Try.ntmps15
  go_wp2_with fail
  rw [HG.out]
  go_returns
  exact ⟨.slice A M.length cap, rfl, hT0, hA0, hR0⟩
theorem does_any {w : World} {p base : Nat} {v : Value} {L : List Ln} {M : List RL} (h : Ply w p base v L M) (kind a b : Int) (lv : Bool) (lt lp lf : Int) (lw lu lx lg ld : Bool) :
    Calls Try.prog 15 #[.pointer (some ⟨p, 0, none⟩), v, .agg #[.int .i64 kind, .int .i64 a, .int .i64 b, .bool lv, .int .i64 lt, .int .i64 lp, .int .i64 lf, .bool lw, .bool lu, .bool lx, .bool lg, .bool ld]] w fun e w' => ∃ v', e = .returned (.tuple #[v', .bool true]) ∧ Touch (fun k => k = p) w w' ∧ TlbAt w' p (doesT L kind a b ⟨lv, lt, lp, lf, lw, lu, lx, lg, ld⟩) ∧ RRow w' base v' (doesR M kind a b ⟨lv, lt, lp, lf, lw, lu, lx, lg, ld⟩) := by
  unfold doesT doesR
  by_cases h1 : kind = 1
  · subst h1
    rw [if_pos rfl, if_pos rfl]
    by_cases hok : OkFill a ⟨lv, lt, lp, lf, lw, lu, lx, lg, ld⟩
    · rw [if_pos hok, if_pos hok]
      obtain ⟨n, rfl⟩ : ∃ n : Nat, a = n := ⟨a.toNat, by have := hok.1; omega⟩
      have hv : lv = true := hok.2.2.2.2.2.2
      subst hv
      rw [Int.toNat_natCast]
      exact does_1ok h n b lt lp lf lw lu lx lg ld hok
    · rw [if_neg hok, if_neg hok]
      exact does_1bad h a b lv lt lp lf lw lu lx lg ld hok
  rw [if_neg h1, if_neg h1]
  by_cases h2 : kind = 2
  · subst h2
    rw [if_pos rfl, if_pos rfl]
    by_cases hok : 0 ≤ a ∧ a ≤ 7 ∧ 0 ≤ b ∧ b ≤ 1
    · rw [if_pos hok, if_pos hok]
      obtain ⟨n, rfl⟩ : ∃ n : Nat, a = n := ⟨a.toNat, by omega⟩
      obtain ⟨m, rfl⟩ : ∃ n : Nat, b = n := ⟨b.toNat, by omega⟩
      rw [Int.toNat_natCast, Int.toNat_natCast]
      exact does_2ok h n m lv lt lp lf lw lu lx lg ld (by omega) (by omega)
    · rw [if_neg hok, if_neg hok]
      exact does_2bad h a b lv lt lp lf lw lu lx lg ld (by omega)
  rw [if_neg h2, if_neg h2]
  by_cases h3 : kind = 3
  · subst h3
    rw [if_pos rfl, if_pos rfl]
    exact does_3 h a b lv lt lp lf lw lu lx lg ld
  rw [if_neg h3, if_neg h3]
  by_cases h4 : kind = 4
  · subst h4
    rw [if_pos rfl, if_pos rfl]
    exact does_4 h a b lv lt lp lf lw lu lx lg ld
  rw [if_neg h4, if_neg h4]
  by_cases h5 : kind = 5
  · subst h5
    rw [if_pos rfl, if_pos rfl]
    exact does_5 h a b lv lt lp lf lw lu lx lg ld
  rw [if_neg h5, if_neg h5]
  exact does_no h kind a b lv lt lp lf lw lu lx lg ld h1 h2 h3 h4 h5
end Go.Proofs.Ythnojhldpbjkoaa
