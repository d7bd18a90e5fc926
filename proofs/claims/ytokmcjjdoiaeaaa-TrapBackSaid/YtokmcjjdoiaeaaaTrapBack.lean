/- TrapBack: a fault and the return from it leave the state as it was, but for what was told. No condition. -/
import Derived.Test.YtokmcjjdoiaeaaaTrapWr
import Derived.Test.YtokmcjjdoiaeaaaTrapA
import Derived.StillTailTactics
namespace Go.Proofs.Ytokmcjjdoiaeaaa
open Go.ChangeShapes Go.WideShapes Go.ChangeAt Go.RowKit
set_option linter.unusedVariables false
set_option linter.unusedSimpArgs false
/-- What each operation of the round's region may yield; what it lays. -/
def bkR (z z' y' : St) (n k bl off len cap : Nat) (act : Value) : Nat → Value → Value → Prop
  | 0, _, v => v = z.val
  | 1, _, v => v = St.zero.val
  | 2, _, v => v = .slice (some ⟨bl, off, none⟩) len cap
  | 3, _, v => v = .int .i64 k
  | 4, _, v => v = .pointer (some ⟨bl, off + k * 8, none⟩)
  | 5, _, v => v = act
  | 6, _, v => ∃ B : Bool, v = .tuple #[z'.val, y'.val, .bool B]
  | 7, y, v => v = y
  | 8, _, v => v = z'.val
  | 9, _, v => v = y'.val
  | 10, _, v => ∃ B : Bool, v = .bool B
  | 11, _, v => ∃ g, n ≤ g ∧ v = .pointer (some ⟨g, 0, none⟩)
  | 12, _, v => ∃ g, n ≤ g ∧ v = .pointer (some ⟨g, 0, none⟩)
  | 13, y, v => v = y
  | 14, y, v => v = y
  | 15, y, v => v = y
  | _, _, _ => True
theorem bkR_some {z z' y' : St} {n k bl off len cap : Nat} {act : Value} : ∀ (i : Nat) (y : Value), ∃ v, bkR z z' y' n k bl off len cap act i y v
  | 0, _ => ⟨_, rfl⟩
  | 1, _ => ⟨_, rfl⟩
  | 2, _ => ⟨_, rfl⟩
  | 3, _ => ⟨_, rfl⟩
  | 4, _ => ⟨_, rfl⟩
  | 5, _ => ⟨_, rfl⟩
  | 6, _ => ⟨_, true, rfl⟩
  | 7, _ => ⟨_, rfl⟩
  | 8, _ => ⟨_, rfl⟩
  | 9, _ => ⟨_, rfl⟩
  | 10, _ => ⟨_, true, rfl⟩
  | 11, _ => ⟨_, _, Nat.le_refl _, rfl⟩
  | 12, _ => ⟨_, _, Nat.le_refl _, rfl⟩
  | 13, _ => ⟨_, rfl⟩
  | 14, _ => ⟨_, rfl⟩
  | 15, _ => ⟨_, rfl⟩
  | _ + 16, _ => ⟨undef, trivial⟩
def bkX : Nat → Operand
  | 7 => .tmp 69
  | 13 => .tmp 10
  | 14 => .tmp 11
  | 15 => .tmp 72
  | _ => .const undef
def bkF (z' y' : St) (n : Nat) : Nat → Value → World → Prop
  | 11, v, W => ∃ g, v = .pointer (some ⟨g, 0, none⟩) ∧ n ≤ g ∧ ∃ old : Array Value, old.size = 13 ∧ W.heap[g]? = some (.cells old 28 (0, 0))
  | 12, v, W => ∃ g, v = .pointer (some ⟨g, 0, none⟩) ∧ n ≤ g ∧ ∃ old : Array Value, old.size = 13 ∧ W.heap[g]? = some (.cells old 38 (0, 0))
  | 13, v, W => ∃ g, v = .pointer (some ⟨g, 0, none⟩) ∧ n ≤ g ∧ W.heap[g]? = some (.cells z'.cs 28 (0, 0))
  | 14, v, W => ∃ g, v = .pointer (some ⟨g, 0, none⟩) ∧ n ≤ g ∧ W.heap[g]? = some (.cells y'.cs 38 (0, 0))
  | _, _, _ => True
theorem bkF_keep {z' y' : St} {n : Nat} {W W' : World} (h : ∀ (g : Nat) (o : Obj), W.heap[g]? = some o → W'.heap[g]? = some o) (k : Nat) (u : Value) (hF : bkF z' y' n k u W) : bkF z' y' n k u W' := by
  unfold bkF at *
  split at hF
  · obtain ⟨g, e, h1, old, h2, h3⟩ := hF; exact ⟨g, e, h1, old, h2, h _ _ h3⟩
  · obtain ⟨g, e, h1, old, h2, h3⟩ := hF; exact ⟨g, e, h1, old, h2, h _ _ h3⟩
  · obtain ⟨g, e, h1, h3⟩ := hF; exact ⟨g, e, h1, h _ _ h3⟩
  · obtain ⟨g, e, h1, h3⟩ := hF; exact ⟨g, e, h1, h _ _ h3⟩
  · trivial
theorem bkF_storeT {z' y' : St} {n : Nat} {W : World} {g : Nat} {old : Array Value} (hg : W.heap[g]? = some (.cells old 28 (0, 0))) (k : Nat) (u : Value) (hF : bkF z' y' n k u W) : bkF z' y' n k u (W.setRow g z'.cs) := by
  have same : (W.setRow g z'.cs).heap[g]? = some (.cells z'.cs 28 (0, 0)) := setRow_heap _ _ _ _ _ _ hg
  unfold bkF at *
  split at hF
  · obtain ⟨q, e, h1, o2, h2, h3⟩ := hF
    by_cases hq : q = g
    · subst hq; exact ⟨q, e, h1, _, rfl, same⟩
    · exact ⟨q, e, h1, o2, h2, row_far h3 hq⟩
  · obtain ⟨q, e, h1, o2, h2, h3⟩ := hF
    refine ⟨q, e, h1, o2, h2, row_far h3 (fun hq => ?_)⟩
    subst hq; rw [hg] at h3; simp at h3
  · obtain ⟨q, e, h1, h3⟩ := hF
    by_cases hq : q = g
    · subst hq; exact ⟨q, e, h1, same⟩
    · exact ⟨q, e, h1, row_far h3 hq⟩
  · obtain ⟨q, e, h1, h3⟩ := hF
    refine ⟨q, e, h1, row_far h3 (fun hq => ?_)⟩
    subst hq; rw [hg] at h3; simp at h3
  · trivial
theorem bkF_storeR {z' y' : St} {n : Nat} {W : World} {g : Nat} {old : Array Value} (hg : W.heap[g]? = some (.cells old 38 (0, 0))) (k : Nat) (u : Value) (hF : bkF z' y' n k u W) : bkF z' y' n k u (W.setRow g y'.cs) := by
  have same : (W.setRow g y'.cs).heap[g]? = some (.cells y'.cs 38 (0, 0)) := setRow_heap _ _ _ _ _ _ hg
  unfold bkF at *
  split at hF
  · obtain ⟨q, e, h1, o2, h2, h3⟩ := hF
    refine ⟨q, e, h1, o2, h2, row_far h3 (fun hq => ?_)⟩
    subst hq; rw [hg] at h3; simp at h3
  · obtain ⟨q, e, h1, o2, h2, h3⟩ := hF
    by_cases hq : q = g
    · subst hq; exact ⟨q, e, h1, _, rfl, same⟩
    · exact ⟨q, e, h1, o2, h2, row_far h3 hq⟩
  · obtain ⟨q, e, h1, h3⟩ := hF
    refine ⟨q, e, h1, row_far h3 (fun hq => ?_)⟩
    subst hq; rw [hg] at h3; simp at h3
  · obtain ⟨q, e, h1, h3⟩ := hF
    by_cases hq : q = g
    · subst hq; exact ⟨q, e, h1, same⟩
    · exact ⟨q, e, h1, row_far h3 hq⟩
  · trivial
theorem nOp_callE {P : Program} {md : Region.Mode} {B : World → Prop} {F : Nat → Value → World → Prop} {R : Nat → Value → Value → Prop} {X : Nat → Operand} {i : Nat} {o : Oper} {a : Act} {vals : Nat → Value} {f : FuncId} {args : Array Value} (h : ∀ w, (execOp a.eval o).run P w = .ok (.enter f args) w)
    (hc : ∀ w, B w → Calls P f args w fun e w' => ∃ v, e = .returned v ∧ R i (a.eval (X i)) v ∧ NPost B F i v w w') : nOp P md B F R X i o a vals := ⟨fun w hb _ => by
  rw [h w]
  exact hc w hb⟩
/-- The worlds of a round of TrapBack. -/
theorem back_worlds {w : World} {b : Nat} {S C D : Array Value} (h2 : w.heap[b]? = some (.cells S 28 (0, 0))) :
    let W0 := (w.alloc (.cells #[.int .u64 0, .int .u64 0, .int .u64 0, .int .u64 0, .int .i64 0, .int .u64 0, .bool false, .int .u64 0, .int .i64 0, .int .u64 0, .int .u64 0, .int .u64 0, .int .u64 0] 28)).alloc (.cells #[.int .u64 0, .int .u64 0, .int .u64 0, .int .u64 0, .int .i64 0, .int .u64 0, .bool false, .int .u64 0, .int .i64 0, .int .u64 0, .int .u64 0, .int .u64 0, .int .u64 0] 38)
    let W1 := W0.setRow w.heap.size C
    let W2 := W1.setRow (w.heap.size + 1) D
    W0.heap[w.heap.size]? = some (.cells #[.int .u64 0, .int .u64 0, .int .u64 0, .int .u64 0, .int .i64 0, .int .u64 0, .bool false, .int .u64 0, .int .i64 0, .int .u64 0, .int .u64 0, .int .u64 0, .int .u64 0] 28 (0, 0)) ∧ W1.heap[w.heap.size + 1]? = some (.cells #[.int .u64 0, .int .u64 0, .int .u64 0, .int .u64 0, .int .i64 0, .int .u64 0, .bool false, .int .u64 0, .int .i64 0, .int .u64 0, .int .u64 0, .int .u64 0, .int .u64 0] 38 (0, 0)) ∧ W2.heap[w.heap.size]? = some (.cells C 28 (0, 0)) ∧ W2.heap[b]? = some (.cells S 28 (0, 0)) ∧
      Touch (fun k => k = b) w (W2.setRow b C) ∧ (W2.setRow b C).heap[b]? = some (.cells C 28 (0, 0)) := by
  intro W0 W1 W2
  have l2 := heap_lt h2
  have e1 := heap_new (w.alloc (.cells #[.int .u64 0, .int .u64 0, .int .u64 0, .int .u64 0, .int .i64 0, .int .u64 0, .bool false, .int .u64 0, .int .i64 0, .int .u64 0, .int .u64 0, .int .u64 0, .int .u64 0] 28)) (.cells #[.int .u64 0, .int .u64 0, .int .u64 0, .int .u64 0, .int .i64 0, .int .u64 0, .bool false, .int .u64 0, .int .i64 0, .int .u64 0, .int .u64 0, .int .u64 0, .int .u64 0] 38)
  rw [World.size_alloc] at e1
  have a7 : W0.heap[w.heap.size]? = some (.cells #[.int .u64 0, .int .u64 0, .int .u64 0, .int .u64 0, .int .i64 0, .int .u64 0, .bool false, .int .u64 0, .int .i64 0, .int .u64 0, .int .u64 0, .int .u64 0, .int .u64 0] 28 (0, 0)) := heap_old _ _ _ (heap_new _ _)
  have a2 : W0.heap[b]? = some (.cells S 28 (0, 0)) := heap_old _ _ _ (heap_old _ _ _ h2)
  have b7 : W1.heap[w.heap.size]? = some (.cells C 28 (0, 0)) := setRow_heap _ _ _ _ _ _ a7
  have b8 : W1.heap[w.heap.size + 1]? = some (.cells #[.int .u64 0, .int .u64 0, .int .u64 0, .int .u64 0, .int .i64 0, .int .u64 0, .bool false, .int .u64 0, .int .i64 0, .int .u64 0, .int .u64 0, .int .u64 0, .int .u64 0] 38 (0, 0)) := row_far e1 (by omega)
  have b2 : W1.heap[b]? = some (.cells S 28 (0, 0)) := row_far a2 (by omega)
  have c7 : W2.heap[w.heap.size]? = some (.cells C 28 (0, 0)) := row_far b7 (by omega)
  have c2 : W2.heap[b]? = some (.cells S 28 (0, 0)) := row_far b2 (by omega)
  refine ⟨a7, b8, c7, c2, ?_, setRow_heap _ _ _ _ _ _ c2⟩
  exact touch_row (touch_row (touch_row (((Touch.refl (fun k => k = b) w).alloc _).alloc _) (.inr (Nat.le_refl _)) _) (.inr (by omega)) _) (.inl rfl) _
theorem touch_keep {w w' : World} {b k : Nat} {o : Obj} (h : Touch (fun k => k = b) w w') (hk : w.heap[k]? = some o) (hn : k ≠ b) : w'.heap[k]? = some o := h.heap hk hn
theorem touch_move {w w' : World} {b : Nat} {B : Nat} {w0 : World} (h : Below B w0 w) (ht : Touch (fun k => k = b) w w') (hB : B ≤ w0.heap.size) (hb : B ≤ b) : Below B w0 w' := Below.touch h ht hB (fun k e => by omega)
attribute [local go_sem] eqRegs
set_option maxHeartbeats 4000000 in
theorem back_none (r0 r1 r2 r3 t en : Int) (i : Bool) (fa fc s0 s1 s2 s3 ga gc : Int)  (A2 : Option Addr) (len2 cap2 : Nat) (w : World) :
    Calls Try.prog 5 #[stV r0 r1 r2 r3 t 0 i fa fc s0 s1 s2 s3, .agg #[.int .u64 ga, .int .i64 gc], .slice A2 len2 cap2] w fun e w' => e = .returned (.bool true) ∧ Below w.heap.size w w' := by
  go_enter Try.func5, Try.ntmps5
  go_wp2_with fail
  refine (raise_none r0 r1 r2 r3 t i fa fc s0 s1 s2 s3 ga gc _).mono ?_
  rintro e w1 ⟨rfl, hb1⟩
  obtain ⟨hc1, _⟩ := bcell hb1
  have hB1 : Below w.heap.size w w1 := b_then (by go_grown) hb1
  have hz1 := hb1.size; try simp only [World.size_alloc, World.size_setCell, World.size_drew] at hz1
  have z1 : w.heap.size < w1.heap.size := by omega
  have z2 : w.heap.size + 1 < w1.heap.size := by omega
  clear hb1
  go_wp2_with fail
  refine (awake_any _).mono ?_
  rintro e w2 ⟨rfl, hb2⟩
  obtain ⟨hc2, _⟩ := bcell hb2
  have hB2 : Below w.heap.size w w2 := b_then (by first | exact hB1 | (go_grown)) hb2
  have hz2 := hb2.size; try simp only [World.size_alloc, World.size_setCell, World.size_drew] at hz2
  have z3 : w.heap.size < w2.heap.size := by omega
  have z4 : w.heap.size + 1 < w2.heap.size := by omega
  have z5 : w1.heap.size < w2.heap.size := by omega
  clear hb2
  go_wp2
  go_returns
  exact ⟨ret_v (by simp), by go_grown⟩
set_option maxHeartbeats 4000000 in
theorem back_busy (r0 r1 r2 r3 t en : Int) (i : Bool) (fa fc s0 s1 s2 s3 ga gc : Int) (he : en ≠ 0) (A2 : Option Addr) (len2 cap2 : Nat) (w : World) :
    Calls Try.prog 5 #[stV r0 r1 r2 r3 t en true fa fc s0 s1 s2 s3, .agg #[.int .u64 ga, .int .i64 gc], .slice A2 len2 cap2] w fun e w' => e = .returned (.bool true) ∧ Below w.heap.size w w' := by
  have he2 : (en == 0) = false := by simp [he]
  have HE := Lib.hid he
  clear he
  go_enter Try.func5, Try.ntmps5
  go_wp2_with fail
  refine (raise_busy r0 r1 r2 r3 t en true fa fc s0 s1 s2 s3 ga gc HE.out _).mono ?_
  rintro e w1 ⟨rfl, hb1⟩
  obtain ⟨hc1, _⟩ := bcell hb1
  have hB1 : Below w.heap.size w w1 := b_then (by go_grown) hb1
  have hz1 := hb1.size; try simp only [World.size_alloc, World.size_setCell, World.size_drew] at hz1
  have z1 : w.heap.size < w1.heap.size := by omega
  have z2 : w.heap.size + 1 < w1.heap.size := by omega
  clear hb1
  go_wp2_with fail
  refine (awake_any _).mono ?_
  rintro e w2 ⟨rfl, hb2⟩
  obtain ⟨hc2, _⟩ := bcell hb2
  have hB2 : Below w.heap.size w w2 := b_then (by first | exact hB1 | (go_grown)) hb2
  have hz2 := hb2.size; try simp only [World.size_alloc, World.size_setCell, World.size_drew] at hz2
  have z3 : w.heap.size < w2.heap.size := by omega
  have z4 : w.heap.size + 1 < w2.heap.size := by omega
  have z5 : w1.heap.size < w2.heap.size := by omega
  clear hb2
  go_wp2
  go_returns
  exact ⟨ret_v (by simp), by go_grown⟩
set_option maxRecDepth 100000 in
set_option maxHeartbeats 16000000 in
theorem back_ok (r0 r1 r2 r3 t en : Int) (fa fc s0 s1 s2 s3 ga gc : Int) (he : en ≠ 0) (h0 : u64R r0) (h1 : u64R r1) (h2 : u64R r2) (h3 : u64R r3) (hg : u64R ga) (ht0 : -9223372036854775808 ≤ t) (ht1 : t ≤ 9223372036854775807)
    (A2 : Option Addr) (len2 cap2 : Nat) (w : World) (r2_ : Rows_ w [.i .i64, .i .i64, .i .i64, .i .i64, .i .i64, .i .u64, .i .u64, .i .i64] A2 len2) :
    Calls Try.prog 5 #[stV r0 r1 r2 r3 t en false fa fc s0 s1 s2 s3, .agg #[.int .u64 ga, .int .i64 gc], .slice A2 len2 cap2] w fun e w' => e = .returned (.bool true) ∧ Below w.heap.size w w' := by
  have hl0 := r2_.1
  obtain ⟨fsT, hfsT⟩ := underT
  have HFT := Lib.hid hfsT
  have HE := Lib.hid he
  obtain ⟨T, hT⟩ : ∃ T : St, T = ⟨ga, IntKind.u64.wrap gc, 0, 0, t, en, true, ga, gc, r0, r1, r2, r3⟩ := ⟨_, rfl⟩
  have hTw : T.wf := by
    subst hT
    exact ⟨hg, by rw [IntKind.wrap_u64]; constructor <;> simp only [] <;> omega, u64_zero, u64_zero, h0, h1, h2, h3, ht0, ht1⟩
  have HTw := Lib.hid hTw
  have HRA : Hid (∀ W, Calls Try.prog 7 #[stV r0 r1 r2 r3 t en false fa fc s0 s1 s2 s3, .agg #[.int .u64 ga, .int .i64 gc]] W fun e w' => e = .returned (.tuple #[T.val, .int .i64 0]) ∧ Below W.heap.size W w') := Lib.hid fun W => by
    subst hT; exact raise_ok r0 r1 r2 r3 t en false fa fc s0 s1 s2 s3 ga gc HE.out W
  have HTE := Lib.hid hT
  have HP := Lib.hid (one_cell T)
  clear hfsT he hTw hT h0 h1 h2 h3 hg ht0 ht1
  go_enter Try.func5, Try.ntmps5
  go_wp2_with fail
  refine (HRA.out _).mono ?_
  rintro e w1 ⟨rfl, hb1⟩
  have k3 := heap_below hb1 (heap_old _ (.cells #[.int .u64 ga, .int .i64 gc] 26) _ (heap_new w (.cells #[.int .u64 r0, .int .u64 r1, .int .u64 r2, .int .u64 r3, .int .i64 t, .int .u64 en, .bool false, .int .u64 fa, .int .i64 fc, .int .u64 s0, .int .u64 s1, .int .u64 s2, .int .u64 s3] 28)))
  have k4 := heap_below hb1 (show ((w.alloc (.cells #[.int .u64 r0, .int .u64 r1, .int .u64 r2, .int .u64 r3, .int .i64 t, .int .u64 en, .bool false, .int .u64 fa, .int .i64 fc, .int .u64 s0, .int .u64 s1, .int .u64 s2, .int .u64 s3] 28)).alloc (.cells #[.int .u64 ga, .int .i64 gc] 26)).heap[w.heap.size + 1]? = some (.cells #[.int .u64 ga, .int .i64 gc] 26 (0, 0)) from by have := heap_new (w.alloc (.cells #[.int .u64 r0, .int .u64 r1, .int .u64 r2, .int .u64 r3, .int .i64 t, .int .u64 en, .bool false, .int .u64 fa, .int .i64 fc, .int .u64 s0, .int .u64 s1, .int .u64 s2, .int .u64 s3] 28)) (.cells #[.int .u64 ga, .int .i64 gc] 26); rwa [World.size_alloc] at this)
  have hB1 : Below w.heap.size w w1 := b_then (by go_grown) hb1
  have hz1 : w.heap.size + 1 < w1.heap.size := heap_lt k4
  have H3 := Lib.hid (row_far (g := w1.heap.size) (cs := T.cs) (heap_old w1 (.cells #[.int .u64 0, .int .u64 0, .int .u64 0, .int .u64 0, .int .i64 0, .int .u64 0, .bool false, .int .u64 0, .int .i64 0, .int .u64 0, .int .u64 0, .int .u64 0, .int .u64 0] 28) _ k3) (by omega))
  have H4 := Lib.hid (row_far (g := w1.heap.size) (cs := T.cs) (heap_old w1 (.cells #[.int .u64 0, .int .u64 0, .int .u64 0, .int .u64 0, .int .i64 0, .int .u64 0, .bool false, .int .u64 0, .int .i64 0, .int .u64 0, .int .u64 0, .int .u64 0, .int .u64 0] 28) _ k4) (by omega))
  have H7 := Lib.hid (setRow_heap (w1.alloc (.cells #[.int .u64 0, .int .u64 0, .int .u64 0, .int .u64 0, .int .i64 0, .int .u64 0, .bool false, .int .u64 0, .int .i64 0, .int .u64 0, .int .u64 0, .int .u64 0, .int .u64 0] 28)) w1.heap.size _ T.cs _ _ (heap_new w1 (.cells #[.int .u64 0, .int .u64 0, .int .u64 0, .int .u64 0, .int .i64 0, .int .u64 0, .bool false, .int .u64 0, .int .i64 0, .int .u64 0, .int .u64 0, .int .u64 0, .int .u64 0] 28)))
  have HB := Lib.hid (below_row (hB1.alloc (show w.heap.size ≤ w1.heap.size by omega) (.cells #[.int .u64 0, .int .u64 0, .int .u64 0, .int .u64 0, .int .i64 0, .int .u64 0, .bool false, .int .u64 0, .int .i64 0, .int .u64 0, .int .u64 0, .int .u64 0, .int .u64 0] 28)) (g := w1.heap.size) (by omega) T.cs)
  clear hb1 k3 k4 hB1 HRA
  go_wp2_with (first | (refine wpList_store_row rfl 28 (.tmp 7) (.tmp 19) rfl w1.heap.size T.cs rfl rfl 28 #[.int .u64 0, .int .u64 0, .int .u64 0, .int .u64 0, .int .i64 0, .int .u64 0, .bool false, .int .u64 0, .int .i64 0, .int .u64 0, .int .u64 0, .int .u64 0, .int .u64 0] (heap_new _ _) infoT rfl HP.out ?_))
  have k3 := H3.out
  have k4 := H4.out
  have k7 := H7.out
  have hB := HB.out
  obtain ⟨w2, hw2⟩ : ∃ w2, w2 = (w1.alloc (.cells #[.int .u64 0, .int .u64 0, .int .u64 0, .int .u64 0, .int .i64 0, .int .u64 0, .bool false, .int .u64 0, .int .i64 0, .int .u64 0, .int .u64 0, .int .u64 0, .int .u64 0] 28)).setRow w1.heap.size T.cs := ⟨_, rfl⟩
  rw [← hw2] at k3 k4 k7 hB ⊢
  obtain ⟨p, hp⟩ : ∃ p, p = w1.heap.size := ⟨_, rfl⟩
  rw [← hp] at k7 hz1 ⊢
  clear hw2 hp H3 H4 H7 HB
  go_loopw [9] (fun i wr => ∃ (k : Nat) (z : St), i = .int .i64 k ∧ k ≤ len2 ∧ k ≤ 40 ∧ z.wf ∧ Alike T z ∧ Below w.heap.size w wr ∧ wr.heap[w.heap.size]? = some (.cells #[.int .u64 r0, .int .u64 r1, .int .u64 r2, .int .u64 r3, .int .i64 t, .int .u64 en, .bool false, .int .u64 fa, .int .i64 fc, .int .u64 s0, .int .u64 s1, .int .u64 s2, .int .u64 s3] 28 (0, 0)) ∧ wr.heap[w.heap.size + 1]? = some (.cells #[.int .u64 ga, .int .i64 gc] 26 (0, 0)) ∧ wr.heap[p]? = some (.cells z.cs 28 (0, 0))) (fun i _ => (40 - intOf i).toNat)
  case atStart => exact ⟨0, T, rfl, by omega, by omega, HTw.out, Alike.refl T, hB, k3, k4, k7⟩
  case round =>
    clear k3 k4 k7 hB HP
    obtain ⟨k, z, rfl, hle, hle2, hzw, hal, hB, k3, k4, k7⟩ := hrel
    by_cases hlt : k < len2 ∧ k < 40
    · obtain ⟨hl1, hl2⟩ := hlt
      obtain ⟨bl, off, hA0, hbs, kd, op, a, b, c, x, xa, xc, hx, hf, g0, g1, g2, g3, g4, g5, g6, g7⟩ := act_row r2_ hl1
      have f0 : decide (k < len2) = true := decide_eq_true hl1
      have f1 : decide ((k : Int) < 40) = true := decide_eq_true (by omega)
      subst hA0
      obtain ⟨hc1, hf1⟩ := bcell hB
      have HK3 := Lib.hid k3
      have HK4 := Lib.hid k4
      have HK7 := Lib.hid k7
      have HB_ := Lib.hid hB
      have HAL := Lib.hid hal
      have HZW := Lib.hid hzw
      by_cases hk : kd = 4 ∨ kd = 5
      · obtain ⟨z', y', hzw', hal', hd⟩ := does_two kd hk z St.zero hzw St.zero_wf op a b c x xa xc hx
        have HD := Lib.hid hd
        have HW := Lib.hid hzw'
        have HA' := Lib.hid (hal.trans hal')
        have HP := Lib.hid (one_cell z')
        have HPY := Lib.hid (one_cell y')
        have hkt : Hid (kd = 4 ∨ kd = 5) := Lib.hid hk
        have u0 : wr.cell? ⟨p, 0, none⟩ = some (.int .u64 z.r0) := cell_heap k7 0
        have u1 : wr.cell? ⟨p, 1, none⟩ = some (.int .u64 z.r1) := cell_heap k7 1
        have u2 : wr.cell? ⟨p, 2, none⟩ = some (.int .u64 z.r2) := cell_heap k7 2
        have u3 : wr.cell? ⟨p, 3, none⟩ = some (.int .u64 z.r3) := cell_heap k7 3
        have u4 : wr.cell? ⟨p, 4, none⟩ = some (.int .i64 z.t) := cell_heap k7 4
        have u5 : wr.cell? ⟨p, 5, none⟩ = some (.int .u64 z.en) := cell_heap k7 5
        have u6 : wr.cell? ⟨p, 6, none⟩ = some (.bool z.i) := cell_heap k7 6
        have u7 : wr.cell? ⟨p, 7, none⟩ = some (.int .u64 z.fa) := cell_heap k7 7
        have u8 : wr.cell? ⟨p, 8, none⟩ = some (.int .i64 z.fc) := cell_heap k7 8
        have u9 : wr.cell? ⟨p, 9, none⟩ = some (.int .u64 z.s0) := cell_heap k7 9
        have u10 : wr.cell? ⟨p, 10, none⟩ = some (.int .u64 z.s1) := cell_heap k7 10
        have u11 : wr.cell? ⟨p, 11, none⟩ = some (.int .u64 z.s2) := cell_heap k7 11
        have u12 : wr.cell? ⟨p, 12, none⟩ = some (.int .u64 z.s3) := cell_heap k7 12
        clear hd hzw' hzw hx hf k3 k4 k7 hal hal' hk hB
        rcases hkt.out with rfl | rfl
        · clear hkt
          go_wp2_with fail
          refine wp_region_stagedN (fun W => Below wr.heap.size wr W) (bkF z' y' wr.heap.size) (bkR z z' y' wr.heap.size k bl off len2 cap2 (.agg #[.int .i64 4, .int .i64 op, .int .i64 a, .int .i64 b, .int .i64 c, .int .u64 x, .int .u64 xa, .int .i64 xc])) bkX bkR_some (by intro j oj t h1 h2; unfold bkX at h2; (split at h2 <;> first | (cases h2; exact (Option.some.inj h1) ▸ (by decide)) | (cases h2; done))) (by kernel_rfl) (by kernel_rfl) ((Below.refl _ _).drew) ?_
          refine wpStn_do (wanted_plain rfl) (nOp_load 28 (.tmp 7) rfl (p) (by first | (simp [ev_put, put_none, size_put, ev_const]; done) | (simp only [ev_put, put_none, size_put, ev_const]; rfl) | rfl) 28 z.cs (0, 0) (.struct fsT) HFT.out rfl infoT rfl (fun _ => trivial) (fun W hb => heap_below hb HK7.out)) ?_
          rintro v0 ⟨⟩
          refine wpStn_do (wanted_plain rfl) (nOp_same (v := St.zero.val) rfl (fun _ => trivial) (fun W hb => by (have e : St.zero.val = .agg #[.int .u64 0, .int .u64 0, .int .u64 0, .int .u64 0, .int .i64 0, .int .u64 0, .bool false, .int .u64 0, .int .i64 0, .int .u64 0, .int .u64 0, .int .u64 0, .int .u64 0] := rfl); rw [e]; go_simp)) ?_
          rintro v1 ⟨⟩
          refine wpStn_do (wanted_plain rfl) (nOp_move (.tmp 2) (.inl rfl) (by first | (simp [ev_put, put_none, size_put, ev_const]; done) | (simp only [ev_put, put_none, size_put, ev_const]; rfl) | rfl) rfl (fun _ => trivial)) ?_
          rintro v2 ⟨⟩
          refine wpStn_do (wanted_plain rfl) (nOp_move (.tmp 9) (.inl rfl) (by first | (simp [ev_put, put_none, size_put, ev_const]; done) | (simp only [ev_put, put_none, size_put, ev_const]; rfl) | rfl) rfl (fun _ => trivial)) ?_
          rintro v3 ⟨⟩
          refine wpStn_do (wanted_plain rfl) (nOp_same (v := .pointer (some ⟨bl, off + k * 8, none⟩)) rfl (fun _ => trivial) (fun W hb => by go_simp)) ?_
          rintro v4 ⟨⟩
          refine wpStn_do (wanted_plain rfl) (nOp_same (v := .agg #[.int .i64 4, .int .i64 op, .int .i64 a, .int .i64 b, .int .i64 c, .int .u64 x, .int .u64 xa, .int .i64 xc]) rfl (fun _ => trivial) (fun W hb => by have q0 : W.cell? ⟨bl, off + k * 8, none⟩ = some (.int .i64 4) := bkeep hb _ _ _ ((hc1 _ _ hbs).trans g0); have q1 : W.cell? ⟨bl, off + k * 8 + 1, none⟩ = some (.int .i64 op) := bkeep hb _ _ _ ((hc1 _ _ hbs).trans g1); have q2 : W.cell? ⟨bl, off + k * 8 + 2, none⟩ = some (.int .i64 a) := bkeep hb _ _ _ ((hc1 _ _ hbs).trans g2); have q3 : W.cell? ⟨bl, off + k * 8 + 3, none⟩ = some (.int .i64 b) := bkeep hb _ _ _ ((hc1 _ _ hbs).trans g3); have q4 : W.cell? ⟨bl, off + k * 8 + 4, none⟩ = some (.int .i64 c) := bkeep hb _ _ _ ((hc1 _ _ hbs).trans g4); have q5 : W.cell? ⟨bl, off + k * 8 + 5, none⟩ = some (.int .u64 x) := bkeep hb _ _ _ ((hc1 _ _ hbs).trans g5); have q6 : W.cell? ⟨bl, off + k * 8 + 6, none⟩ = some (.int .u64 xa) := bkeep hb _ _ _ ((hc1 _ _ hbs).trans g6); have q7 : W.cell? ⟨bl, off + k * 8 + 7, none⟩ = some (.int .i64 xc) := bkeep hb _ _ _ ((hc1 _ _ hbs).trans g7); go_simp)) ?_
          rintro v5 ⟨⟩
          refine wpStn_do (wanted_plain rfl) (nOp_callE (fun W => run_does z.val St.zero.val (.agg #[.int .i64 4, .int .i64 op, .int .i64 a, .int .i64 b, .int .i64 c, .int .u64 x, .int .u64 xa, .int .i64 xc]) (.tmp 63) (.tmp 64) (.tmp 68) rfl (by first | (simp [ev_put, put_none, size_put, ev_const]; done) | (simp only [ev_put, put_none, size_put, ev_const]; rfl) | rfl) (by first | (simp [ev_put, put_none, size_put, ev_const]; done) | (simp only [ev_put, put_none, size_put, ev_const]; rfl) | rfl) (by first | (simp [ev_put, put_none, size_put, ev_const]; done) | (simp only [ev_put, put_none, size_put, ev_const]; rfl) | rfl) W) (fun W hb => (HD.out W).mono fun e W' ⟨⟨B, he⟩, hb'⟩ => ⟨_, he, ⟨B, rfl⟩, b_then hb hb', trivial, fun j u hF => bkF_keep (fun g o hg => heap_below hb' hg) j u hF⟩)) ?_
          rintro v6 ⟨B, rfl⟩
          refine wpStn_do (wanted_plain rfl) (nOp_move (v := .tuple #[z'.val, y'.val, .bool B]) (.tmp 69) (.inl rfl) (by first | (simp [ev_put, put_none, size_put, ev_const]; done) | (simp only [ev_put, put_none, size_put, ev_const]; rfl) | rfl) (by simp [bkR, bkX, ev_put, put_none, size_put, ev_const]; done) (fun _ => trivial)) ?_
          intro v7 h7
          replace h7 : v7 = .tuple #[z'.val, y'.val, .bool B] := (by simp [bkR, bkX, ev_put, put_none, size_put, ev_const] at h7; exact h7)
          subst h7
          refine wpStn_do (wanted_plain rfl) (nOp_extract (.tmp 62) 0 rfl (by first | (simp [ev_put, put_none, size_put, ev_const]; done) | (simp only [ev_put, put_none, size_put, ev_const]; rfl) | rfl) rfl rfl (fun _ => trivial)) ?_
          rintro v8 ⟨⟩
          refine wpStn_do (wanted_plain rfl) (nOp_extract (.tmp 62) 1 rfl (by first | (simp [ev_put, put_none, size_put, ev_const]; done) | (simp only [ev_put, put_none, size_put, ev_const]; rfl) | rfl) rfl rfl (fun _ => trivial)) ?_
          rintro v9 ⟨⟩
          refine wpStn_do (wanted_plain rfl) (nOp_extract (.tmp 62) 2 rfl (by first | (simp [ev_put, put_none, size_put, ev_const]; done) | (simp only [ev_put, put_none, size_put, ev_const]; rfl) | rfl) rfl ⟨B, rfl⟩ (fun _ => trivial)) ?_
          rintro v10 ⟨B2, rfl⟩
          refine wpStn_do (wanted_plain rfl) (nOp_run (fun W hb => ⟨W.heap.size, hb.size, rfl⟩) (fun W hb => run_alloc 28 _ rfl zeroT W) (fun W hb => ⟨hb.alloc hb.size _, ⟨_, rfl, hb.size, _, rfl, heap_new _ _⟩, fun j u hF => bkF_keep (fun g o hg => heap_old _ _ _ hg) j u hF⟩)) ?_
          rintro v11 ⟨gT, hgT, rfl⟩
          refine wpStn_do (wanted_plain rfl) (nOp_run (fun W hb => ⟨W.heap.size, hb.size, rfl⟩) (fun W hb => run_alloc 38 _ rfl zeroR W) (fun W hb => ⟨hb.alloc hb.size _, ⟨_, rfl, hb.size, _, rfl, heap_new _ _⟩, fun j u hF => bkF_keep (fun g o hg => heap_old _ _ _ hg) j u hF⟩)) ?_
          rintro v12 ⟨gR, hgR, rfl⟩
          refine wpStn_do (wanted_plain rfl) (nOp_store 28 (.tmp 10) (.tmp 70) rfl gT z'.cs (by first | (simp [ev_put, put_none, size_put, ev_const]; done) | (simp only [ev_put, put_none, size_put, ev_const]; rfl) | rfl) (by first | (simp [ev_put, put_none, size_put, ev_const]; done) | (simp only [ev_put, put_none, size_put, ev_const]; rfl) | rfl) 28 infoT HP.out (.pointer (some ⟨gT, 0, none⟩)) rfl ?haR13 ?haA13 ?haB13) ?haC13
          case haR13 => (simp [bkR, bkX, ev_put, put_none, size_put, ev_const]; done)
          case haA13 => intro W hb hk; have h : bkF z' y' wr.heap.size 11 (.pointer (some ⟨gT, 0, none⟩)) W := (by simpa [upd] using hk ⟨11, .data⟩ (by simp) (by rfl)); obtain ⟨q, e, _, old, h2, h3⟩ := h; cases e; exact ⟨old, h2, h3⟩
          case haB13 => intro W hb hk; have h : bkF z' y' wr.heap.size 11 (.pointer (some ⟨gT, 0, none⟩)) W := (by simpa [upd] using hk ⟨11, .data⟩ (by simp) (by rfl)); obtain ⟨q, e, _, old, h2, h3⟩ := h; cases e; exact ⟨below_row hb (by omega) _, ⟨_, rfl, by omega, setRow_heap _ _ _ _ _ _ h3⟩, fun j u hF => bkF_storeT h3 j u hF⟩
          intro v13 h13
          replace h13 : v13 = .pointer (some ⟨gT, 0, none⟩) := (by simp [bkR, bkX, ev_put, put_none, size_put, ev_const] at h13; exact h13)
          subst h13
          refine wpStn_do (wanted_plain rfl) (nOp_store 38 (.tmp 11) (.tmp 71) rfl gR y'.cs (by first | (simp [ev_put, put_none, size_put, ev_const]; done) | (simp only [ev_put, put_none, size_put, ev_const]; rfl) | rfl) (by first | (simp [ev_put, put_none, size_put, ev_const]; done) | (simp only [ev_put, put_none, size_put, ev_const]; rfl) | rfl) 38 infoR HPY.out (.pointer (some ⟨gR, 0, none⟩)) rfl ?haR14 ?haA14 ?haB14) ?haC14
          case haR14 => (simp [bkR, bkX, ev_put, put_none, size_put, ev_const]; done)
          case haA14 => intro W hb hk; have h : bkF z' y' wr.heap.size 12 (.pointer (some ⟨gR, 0, none⟩)) W := (by simpa [upd] using hk ⟨12, .data⟩ (by simp) (by rfl)); obtain ⟨q, e, _, old, h2, h3⟩ := h; cases e; exact ⟨old, h2, h3⟩
          case haB14 => intro W hb hk; have h : bkF z' y' wr.heap.size 12 (.pointer (some ⟨gR, 0, none⟩)) W := (by simpa [upd] using hk ⟨12, .data⟩ (by simp) (by rfl)); obtain ⟨q, e, _, old, h2, h3⟩ := h; cases e; exact ⟨below_row hb (by omega) _, ⟨_, rfl, by omega, setRow_heap _ _ _ _ _ _ h3⟩, fun j u hF => bkF_storeR h3 j u hF⟩
          intro v14 h14
          replace h14 : v14 = .pointer (some ⟨gR, 0, none⟩) := (by simp [bkR, bkX, ev_put, put_none, size_put, ev_const] at h14; exact h14)
          subst h14
          refine wpStn_do (wanted_plain rfl) (nOp_move (v := .bool B2) (.tmp 72) (.inr rfl) (by first | (simp [ev_put, put_none, size_put, ev_const]; done) | (simp only [ev_put, put_none, size_put, ev_const]; rfl) | rfl) (by simp [bkR, bkX, ev_put, put_none, size_put, ev_const]; done) (fun _ => trivial)) ?_
          intro v15 h15
          replace h15 : v15 = .bool B2 := (by simp [bkR, bkX, ev_put, put_none, size_put, ev_const] at h15; exact h15)
          subst h15
          refine wpStn_nil ?_
          intro w3 hb3 hF3
          have h7 : w3.heap[gT]? = some (.cells z'.cs 28 (0, 0)) := by obtain ⟨q, e, _, h⟩ := (show bkF z' y' wr.heap.size 13 (.pointer (some ⟨gT, 0, none⟩)) w3 from hF3 13 (by decide)); cases e; exact h
          clear hF3
          have zp := heap_lt HK7.out
          have z3 := heap_lt HK3.out
          have z4 := heap_lt HK4.out
          have Q7 := heap_below hb3 HK7.out
          have S7 := Lib.hid (setRow_heap _ _ _ z'.cs _ _ Q7)
          have HN3 := Lib.hid (row_far (g := p) (cs := z'.cs) (heap_below hb3 HK3.out) (by omega))
          have HN4 := Lib.hid (row_far (g := p) (cs := z'.cs) (heap_below hb3 HK4.out) (by omega))
          have HB3 := Lib.hid (below_row (b_then HB_.out hb3) (g := p) (by omega) z'.cs)
          have H7 := Lib.hid h7
          have G7 := Lib.hid Q7
          clear zp z3 z4 Q7 hb3 h7 HD u0 u1 u2 u3 u4 u5 u6 u7 u8 u9 u10 u11 u12 g0 g1 g2 g3 g4 g5 g6 g7 hc1 hf1 f0 f1 hgT hgR
          go_wp2_with (first
            | (refine wpList_load_row rfl 28 (.tmp 10) rfl gT (by first | (simp [ev_put, put_none, size_put, ev_const]; done) | (simp only [ev_put, put_none, size_put, ev_const]; rfl) | rfl) 28 z'.cs (0, 0) (.struct fsT) H7.out HFT.out rfl infoT ?_)
            | (refine wpList_store_row rfl 28 (.tmp 7) (.tmp 73) rfl p z'.cs (by first | (simp [ev_put, put_none, size_put, ev_const]; done) | (simp only [ev_put, put_none, size_put, ev_const]; rfl) | rfl) (by first | (simp [ev_put, put_none, size_put, ev_const]; done) | (simp only [ev_put, put_none, size_put, ev_const]; rfl) | rfl) 28 z.cs G7.out infoT rfl HP.out ?_))
          go_roundw
          case rel => exact ⟨k + 1, z', by go_num, by omega, by omega, HW.out, HA'.out, HB3.out, HN3.out, HN4.out, S7.out⟩
          case measure => simp [intOf]; omega
        · clear hkt
          go_wp2_with fail
          refine wp_region_stagedN (fun W => Below wr.heap.size wr W) (bkF z' y' wr.heap.size) (bkR z z' y' wr.heap.size k bl off len2 cap2 (.agg #[.int .i64 5, .int .i64 op, .int .i64 a, .int .i64 b, .int .i64 c, .int .u64 x, .int .u64 xa, .int .i64 xc])) bkX bkR_some (by intro j oj t h1 h2; unfold bkX at h2; (split at h2 <;> first | (cases h2; exact (Option.some.inj h1) ▸ (by decide)) | (cases h2; done))) (by kernel_rfl) (by kernel_rfl) ((Below.refl _ _).drew) ?_
          refine wpStn_do (wanted_plain rfl) (nOp_load 28 (.tmp 7) rfl (p) (by first | (simp [ev_put, put_none, size_put, ev_const]; done) | (simp only [ev_put, put_none, size_put, ev_const]; rfl) | rfl) 28 z.cs (0, 0) (.struct fsT) HFT.out rfl infoT rfl (fun _ => trivial) (fun W hb => heap_below hb HK7.out)) ?_
          rintro v0 ⟨⟩
          refine wpStn_do (wanted_plain rfl) (nOp_same (v := St.zero.val) rfl (fun _ => trivial) (fun W hb => by (have e : St.zero.val = .agg #[.int .u64 0, .int .u64 0, .int .u64 0, .int .u64 0, .int .i64 0, .int .u64 0, .bool false, .int .u64 0, .int .i64 0, .int .u64 0, .int .u64 0, .int .u64 0, .int .u64 0] := rfl); rw [e]; go_simp)) ?_
          rintro v1 ⟨⟩
          refine wpStn_do (wanted_plain rfl) (nOp_move (.tmp 2) (.inl rfl) (by first | (simp [ev_put, put_none, size_put, ev_const]; done) | (simp only [ev_put, put_none, size_put, ev_const]; rfl) | rfl) rfl (fun _ => trivial)) ?_
          rintro v2 ⟨⟩
          refine wpStn_do (wanted_plain rfl) (nOp_move (.tmp 9) (.inl rfl) (by first | (simp [ev_put, put_none, size_put, ev_const]; done) | (simp only [ev_put, put_none, size_put, ev_const]; rfl) | rfl) rfl (fun _ => trivial)) ?_
          rintro v3 ⟨⟩
          refine wpStn_do (wanted_plain rfl) (nOp_same (v := .pointer (some ⟨bl, off + k * 8, none⟩)) rfl (fun _ => trivial) (fun W hb => by go_simp)) ?_
          rintro v4 ⟨⟩
          refine wpStn_do (wanted_plain rfl) (nOp_same (v := .agg #[.int .i64 5, .int .i64 op, .int .i64 a, .int .i64 b, .int .i64 c, .int .u64 x, .int .u64 xa, .int .i64 xc]) rfl (fun _ => trivial) (fun W hb => by have q0 : W.cell? ⟨bl, off + k * 8, none⟩ = some (.int .i64 5) := bkeep hb _ _ _ ((hc1 _ _ hbs).trans g0); have q1 : W.cell? ⟨bl, off + k * 8 + 1, none⟩ = some (.int .i64 op) := bkeep hb _ _ _ ((hc1 _ _ hbs).trans g1); have q2 : W.cell? ⟨bl, off + k * 8 + 2, none⟩ = some (.int .i64 a) := bkeep hb _ _ _ ((hc1 _ _ hbs).trans g2); have q3 : W.cell? ⟨bl, off + k * 8 + 3, none⟩ = some (.int .i64 b) := bkeep hb _ _ _ ((hc1 _ _ hbs).trans g3); have q4 : W.cell? ⟨bl, off + k * 8 + 4, none⟩ = some (.int .i64 c) := bkeep hb _ _ _ ((hc1 _ _ hbs).trans g4); have q5 : W.cell? ⟨bl, off + k * 8 + 5, none⟩ = some (.int .u64 x) := bkeep hb _ _ _ ((hc1 _ _ hbs).trans g5); have q6 : W.cell? ⟨bl, off + k * 8 + 6, none⟩ = some (.int .u64 xa) := bkeep hb _ _ _ ((hc1 _ _ hbs).trans g6); have q7 : W.cell? ⟨bl, off + k * 8 + 7, none⟩ = some (.int .i64 xc) := bkeep hb _ _ _ ((hc1 _ _ hbs).trans g7); go_simp)) ?_
          rintro v5 ⟨⟩
          refine wpStn_do (wanted_plain rfl) (nOp_callE (fun W => run_does z.val St.zero.val (.agg #[.int .i64 5, .int .i64 op, .int .i64 a, .int .i64 b, .int .i64 c, .int .u64 x, .int .u64 xa, .int .i64 xc]) (.tmp 63) (.tmp 64) (.tmp 68) rfl (by first | (simp [ev_put, put_none, size_put, ev_const]; done) | (simp only [ev_put, put_none, size_put, ev_const]; rfl) | rfl) (by first | (simp [ev_put, put_none, size_put, ev_const]; done) | (simp only [ev_put, put_none, size_put, ev_const]; rfl) | rfl) (by first | (simp [ev_put, put_none, size_put, ev_const]; done) | (simp only [ev_put, put_none, size_put, ev_const]; rfl) | rfl) W) (fun W hb => (HD.out W).mono fun e W' ⟨⟨B, he⟩, hb'⟩ => ⟨_, he, ⟨B, rfl⟩, b_then hb hb', trivial, fun j u hF => bkF_keep (fun g o hg => heap_below hb' hg) j u hF⟩)) ?_
          rintro v6 ⟨B, rfl⟩
          refine wpStn_do (wanted_plain rfl) (nOp_move (v := .tuple #[z'.val, y'.val, .bool B]) (.tmp 69) (.inl rfl) (by first | (simp [ev_put, put_none, size_put, ev_const]; done) | (simp only [ev_put, put_none, size_put, ev_const]; rfl) | rfl) (by simp [bkR, bkX, ev_put, put_none, size_put, ev_const]; done) (fun _ => trivial)) ?_
          intro v7 h7
          replace h7 : v7 = .tuple #[z'.val, y'.val, .bool B] := (by simp [bkR, bkX, ev_put, put_none, size_put, ev_const] at h7; exact h7)
          subst h7
          refine wpStn_do (wanted_plain rfl) (nOp_extract (.tmp 62) 0 rfl (by first | (simp [ev_put, put_none, size_put, ev_const]; done) | (simp only [ev_put, put_none, size_put, ev_const]; rfl) | rfl) rfl rfl (fun _ => trivial)) ?_
          rintro v8 ⟨⟩
          refine wpStn_do (wanted_plain rfl) (nOp_extract (.tmp 62) 1 rfl (by first | (simp [ev_put, put_none, size_put, ev_const]; done) | (simp only [ev_put, put_none, size_put, ev_const]; rfl) | rfl) rfl rfl (fun _ => trivial)) ?_
          rintro v9 ⟨⟩
          refine wpStn_do (wanted_plain rfl) (nOp_extract (.tmp 62) 2 rfl (by first | (simp [ev_put, put_none, size_put, ev_const]; done) | (simp only [ev_put, put_none, size_put, ev_const]; rfl) | rfl) rfl ⟨B, rfl⟩ (fun _ => trivial)) ?_
          rintro v10 ⟨B2, rfl⟩
          refine wpStn_do (wanted_plain rfl) (nOp_run (fun W hb => ⟨W.heap.size, hb.size, rfl⟩) (fun W hb => run_alloc 28 _ rfl zeroT W) (fun W hb => ⟨hb.alloc hb.size _, ⟨_, rfl, hb.size, _, rfl, heap_new _ _⟩, fun j u hF => bkF_keep (fun g o hg => heap_old _ _ _ hg) j u hF⟩)) ?_
          rintro v11 ⟨gT, hgT, rfl⟩
          refine wpStn_do (wanted_plain rfl) (nOp_run (fun W hb => ⟨W.heap.size, hb.size, rfl⟩) (fun W hb => run_alloc 38 _ rfl zeroR W) (fun W hb => ⟨hb.alloc hb.size _, ⟨_, rfl, hb.size, _, rfl, heap_new _ _⟩, fun j u hF => bkF_keep (fun g o hg => heap_old _ _ _ hg) j u hF⟩)) ?_
          rintro v12 ⟨gR, hgR, rfl⟩
          refine wpStn_do (wanted_plain rfl) (nOp_store 28 (.tmp 10) (.tmp 70) rfl gT z'.cs (by first | (simp [ev_put, put_none, size_put, ev_const]; done) | (simp only [ev_put, put_none, size_put, ev_const]; rfl) | rfl) (by first | (simp [ev_put, put_none, size_put, ev_const]; done) | (simp only [ev_put, put_none, size_put, ev_const]; rfl) | rfl) 28 infoT HP.out (.pointer (some ⟨gT, 0, none⟩)) rfl ?hbR13 ?hbA13 ?hbB13) ?hbC13
          case hbR13 => (simp [bkR, bkX, ev_put, put_none, size_put, ev_const]; done)
          case hbA13 => intro W hb hk; have h : bkF z' y' wr.heap.size 11 (.pointer (some ⟨gT, 0, none⟩)) W := (by simpa [upd] using hk ⟨11, .data⟩ (by simp) (by rfl)); obtain ⟨q, e, _, old, h2, h3⟩ := h; cases e; exact ⟨old, h2, h3⟩
          case hbB13 => intro W hb hk; have h : bkF z' y' wr.heap.size 11 (.pointer (some ⟨gT, 0, none⟩)) W := (by simpa [upd] using hk ⟨11, .data⟩ (by simp) (by rfl)); obtain ⟨q, e, _, old, h2, h3⟩ := h; cases e; exact ⟨below_row hb (by omega) _, ⟨_, rfl, by omega, setRow_heap _ _ _ _ _ _ h3⟩, fun j u hF => bkF_storeT h3 j u hF⟩
          intro v13 h13
          replace h13 : v13 = .pointer (some ⟨gT, 0, none⟩) := (by simp [bkR, bkX, ev_put, put_none, size_put, ev_const] at h13; exact h13)
          subst h13
          refine wpStn_do (wanted_plain rfl) (nOp_store 38 (.tmp 11) (.tmp 71) rfl gR y'.cs (by first | (simp [ev_put, put_none, size_put, ev_const]; done) | (simp only [ev_put, put_none, size_put, ev_const]; rfl) | rfl) (by first | (simp [ev_put, put_none, size_put, ev_const]; done) | (simp only [ev_put, put_none, size_put, ev_const]; rfl) | rfl) 38 infoR HPY.out (.pointer (some ⟨gR, 0, none⟩)) rfl ?hbR14 ?hbA14 ?hbB14) ?hbC14
          case hbR14 => (simp [bkR, bkX, ev_put, put_none, size_put, ev_const]; done)
          case hbA14 => intro W hb hk; have h : bkF z' y' wr.heap.size 12 (.pointer (some ⟨gR, 0, none⟩)) W := (by simpa [upd] using hk ⟨12, .data⟩ (by simp) (by rfl)); obtain ⟨q, e, _, old, h2, h3⟩ := h; cases e; exact ⟨old, h2, h3⟩
          case hbB14 => intro W hb hk; have h : bkF z' y' wr.heap.size 12 (.pointer (some ⟨gR, 0, none⟩)) W := (by simpa [upd] using hk ⟨12, .data⟩ (by simp) (by rfl)); obtain ⟨q, e, _, old, h2, h3⟩ := h; cases e; exact ⟨below_row hb (by omega) _, ⟨_, rfl, by omega, setRow_heap _ _ _ _ _ _ h3⟩, fun j u hF => bkF_storeR h3 j u hF⟩
          intro v14 h14
          replace h14 : v14 = .pointer (some ⟨gR, 0, none⟩) := (by simp [bkR, bkX, ev_put, put_none, size_put, ev_const] at h14; exact h14)
          subst h14
          refine wpStn_do (wanted_plain rfl) (nOp_move (v := .bool B2) (.tmp 72) (.inr rfl) (by first | (simp [ev_put, put_none, size_put, ev_const]; done) | (simp only [ev_put, put_none, size_put, ev_const]; rfl) | rfl) (by simp [bkR, bkX, ev_put, put_none, size_put, ev_const]; done) (fun _ => trivial)) ?_
          intro v15 h15
          replace h15 : v15 = .bool B2 := (by simp [bkR, bkX, ev_put, put_none, size_put, ev_const] at h15; exact h15)
          subst h15
          refine wpStn_nil ?_
          intro w3 hb3 hF3
          have h7 : w3.heap[gT]? = some (.cells z'.cs 28 (0, 0)) := by obtain ⟨q, e, _, h⟩ := (show bkF z' y' wr.heap.size 13 (.pointer (some ⟨gT, 0, none⟩)) w3 from hF3 13 (by decide)); cases e; exact h
          clear hF3
          have zp := heap_lt HK7.out
          have z3 := heap_lt HK3.out
          have z4 := heap_lt HK4.out
          have Q7 := heap_below hb3 HK7.out
          have S7 := Lib.hid (setRow_heap _ _ _ z'.cs _ _ Q7)
          have HN3 := Lib.hid (row_far (g := p) (cs := z'.cs) (heap_below hb3 HK3.out) (by omega))
          have HN4 := Lib.hid (row_far (g := p) (cs := z'.cs) (heap_below hb3 HK4.out) (by omega))
          have HB3 := Lib.hid (below_row (b_then HB_.out hb3) (g := p) (by omega) z'.cs)
          have H7 := Lib.hid h7
          have G7 := Lib.hid Q7
          clear zp z3 z4 Q7 hb3 h7 HD u0 u1 u2 u3 u4 u5 u6 u7 u8 u9 u10 u11 u12 g0 g1 g2 g3 g4 g5 g6 g7 hc1 hf1 f0 f1 hgT hgR
          go_wp2_with (first
            | (refine wpList_load_row rfl 28 (.tmp 10) rfl gT (by first | (simp [ev_put, put_none, size_put, ev_const]; done) | (simp only [ev_put, put_none, size_put, ev_const]; rfl) | rfl) 28 z'.cs (0, 0) (.struct fsT) H7.out HFT.out rfl infoT ?_)
            | (refine wpList_store_row rfl 28 (.tmp 7) (.tmp 73) rfl p z'.cs (by first | (simp [ev_put, put_none, size_put, ev_const]; done) | (simp only [ev_put, put_none, size_put, ev_const]; rfl) | rfl) (by first | (simp [ev_put, put_none, size_put, ev_const]; done) | (simp only [ev_put, put_none, size_put, ev_const]; rfl) | rfl) 28 z.cs G7.out infoT rfl HP.out ?_))
          go_roundw
          case rel => exact ⟨k + 1, z', by go_num, by omega, by omega, HW.out, HA'.out, HB3.out, HN3.out, HN4.out, S7.out⟩
          case measure => simp [intOf]; omega
      · have n4 : (kd == 4) = false := beq_false_of_ne (fun e => hk (.inl e))
        have n5 : (kd == 5) = false := beq_false_of_ne (fun e => hk (.inr e))
        clear hk hzw hx hf k3 k4 k7 hal hB
        go_wp2_with fail
        go_roundw
        case rel => exact ⟨k + 1, z, by go_num, by omega, by omega, HZW.out, HAL.out, HB_.out, HK3.out, HK4.out, HK7.out⟩
        case measure => simp [intOf]; omega
    · have HB_ := Lib.hid hB
      have hT := HTE.out
      subst hT
      have hz : z.cs = #[.int .u64 z.r0, .int .u64 z.r1, .int .u64 z.r2, .int .u64 z.r3, .int .i64 z.t, .int .u64 en, .bool true, .int .u64 ga, .int .i64 gc, .int .u64 r0, .int .u64 r1, .int .u64 r2, .int .u64 r3] := by
        unfold St.cs
        rw [hal.en, hal.i, hal.fa, hal.fc, hal.s0, hal.s1, hal.s2, hal.s3]
      rw [hz] at k7
      clear hz hal hzw
      generalize z.r0 = q0 at k7
      generalize z.r1 = q1 at k7
      generalize z.r2 = q2 at k7
      generalize z.r3 = q3 at k7
      generalize z.t = qt at k7
      clear z
      have HX : Hid (decide (k < len2) = false ∨ decide (k < len2) = true ∧ decide ((k : Int) < 40) = false) := Lib.hid (by
        by_cases h1 : k < len2
        · exact .inr ⟨decide_eq_true h1, decide_eq_false (by omega)⟩
        · exact .inl (decide_eq_false h1))
      have d0 : wr.cell? ⟨w.heap.size, 0, none⟩ = some (.int .u64 r0) := cell_heap k3 0
      have d1 : wr.cell? ⟨w.heap.size, 1, none⟩ = some (.int .u64 r1) := cell_heap k3 1
      have d2 : wr.cell? ⟨w.heap.size, 2, none⟩ = some (.int .u64 r2) := cell_heap k3 2
      have d3 : wr.cell? ⟨w.heap.size, 3, none⟩ = some (.int .u64 r3) := cell_heap k3 3
      have d4 : wr.cell? ⟨w.heap.size, 4, none⟩ = some (.int .i64 t) := cell_heap k3 4
      have d5 : wr.cell? ⟨w.heap.size, 5, none⟩ = some (.int .u64 en) := cell_heap k3 5
      have d6 : wr.cell? ⟨w.heap.size, 6, none⟩ = some (.bool false) := cell_heap k3 6
      have d7 : wr.cell? ⟨w.heap.size, 7, none⟩ = some (.int .u64 fa) := cell_heap k3 7
      have d8 : wr.cell? ⟨w.heap.size, 8, none⟩ = some (.int .i64 fc) := cell_heap k3 8
      have d9 : wr.cell? ⟨w.heap.size, 9, none⟩ = some (.int .u64 s0) := cell_heap k3 9
      have d10 : wr.cell? ⟨w.heap.size, 10, none⟩ = some (.int .u64 s1) := cell_heap k3 10
      have d11 : wr.cell? ⟨w.heap.size, 11, none⟩ = some (.int .u64 s2) := cell_heap k3 11
      have d12 : wr.cell? ⟨w.heap.size, 12, none⟩ = some (.int .u64 s3) := cell_heap k3 12
      have u0 : wr.cell? ⟨p, 0, none⟩ = some (.int .u64 q0) := cell_heap k7 0
      have u1 : wr.cell? ⟨p, 1, none⟩ = some (.int .u64 q1) := cell_heap k7 1
      have u2 : wr.cell? ⟨p, 2, none⟩ = some (.int .u64 q2) := cell_heap k7 2
      have u3 : wr.cell? ⟨p, 3, none⟩ = some (.int .u64 q3) := cell_heap k7 3
      have u4 : wr.cell? ⟨p, 4, none⟩ = some (.int .i64 qt) := cell_heap k7 4
      have u5 : wr.cell? ⟨p, 5, none⟩ = some (.int .u64 en) := cell_heap k7 5
      have u6 : wr.cell? ⟨p, 6, none⟩ = some (.bool true) := cell_heap k7 6
      have u7 : wr.cell? ⟨p, 7, none⟩ = some (.int .u64 ga) := cell_heap k7 7
      have u8 : wr.cell? ⟨p, 8, none⟩ = some (.int .i64 gc) := cell_heap k7 8
      have u9 : wr.cell? ⟨p, 9, none⟩ = some (.int .u64 r0) := cell_heap k7 9
      have u10 : wr.cell? ⟨p, 10, none⟩ = some (.int .u64 r1) := cell_heap k7 10
      have u11 : wr.cell? ⟨p, 11, none⟩ = some (.int .u64 r2) := cell_heap k7 11
      have u12 : wr.cell? ⟨p, 12, none⟩ = some (.int .u64 r3) := cell_heap k7 12
      have e0 : wr.cell? ⟨w.heap.size + 1, 0, none⟩ = some (.int .u64 ga) := cell_heap k4 0
      have e1 : wr.cell? ⟨w.heap.size + 1, 1, none⟩ = some (.int .i64 gc) := cell_heap k4 1
      have fz3 := frozen_heap k3
      have y3 := heap_lt k3
      have y4 := heap_lt k4
      have y7 := heap_lt k7
      clear k3 k4 k7 hB hlt HTE HTw HE
      rcases HX.out with f0 | ⟨f0, f1⟩
      all_goals
        clear HX
        go_wp2_with fail
        refine (return_ok q0 q1 q2 q3 qt en true ga gc r0 r1 r2 r3 _).mono ?_
        rintro e w3 ⟨rfl, hb3⟩
        obtain ⟨hc3, hf3⟩ := bcell hb3
        have hB3 := b_then HB_.out hb3
        have hz3 := hb3.size
        have x3 : w.heap.size < w3.heap.size := by omega
        have x4 : w.heap.size + 1 < w3.heap.size := by omega
        clear hb3
        go_wp2_with fail
        refine (awake_any _).mono ?_
        rintro e w4 ⟨rfl, hb4⟩
        obtain ⟨hc4, hf4⟩ := bcell hb4
        have hB4 : Below w.heap.size w w4 := b_then (by go_grown) hb4
        have hz4 := hb4.size; try simp only [World.size_alloc, World.size_setCell, World.size_drew] at hz4
        have x5 : w.heap.size < w4.heap.size := by omega
        have x6 : w3.heap.size < w4.heap.size := by omega
        clear hb4
        go_wp2
        go_returns
        exact ⟨ret_v (by simp), by go_grown⟩
theorem walk_TrapBack (a0_0 : Int) (a0_1 : Int) (a0_2 : Int) (a0_3 : Int) (a0_4 : Int) (a0_5 : Int) (a0_6 : Bool) (a0_7 : Int) (a0_8 : Int) (a0_9 : Int) (a0_10 : Int) (a0_11 : Int) (a0_12 : Int) (a1_0 : Int) (a1_1 : Int) (A2 : Option Addr) (len2 cap2 : Nat) (w : World) (w0_0 : (Lit.int .u64 a0_0).wf = true) (w0_1 : (Lit.int .u64 a0_1).wf = true) (w0_2 : (Lit.int .u64 a0_2).wf = true) (w0_3 : (Lit.int .u64 a0_3).wf = true) (w0_4 : (Lit.int .i64 a0_4).wf = true) (w0_5 : (Lit.int .u64 a0_5).wf = true) (w0_7 : (Lit.int .u64 a0_7).wf = true) (w0_8 : (Lit.int .i64 a0_8).wf = true) (w0_9 : (Lit.int .u64 a0_9).wf = true) (w0_10 : (Lit.int .u64 a0_10).wf = true) (w0_11 : (Lit.int .u64 a0_11).wf = true) (w0_12 : (Lit.int .u64 a0_12).wf = true) (w1_0 : (Lit.int .u64 a1_0).wf = true) (w1_1 : (Lit.int .i64 a1_1).wf = true) (r2 : Rows_ w [.i .i64, .i .i64, .i .i64, .i .i64, .i .i64, .i .u64, .i .u64, .i .i64] A2 len2) :
    Calls Try.prog 5 #[.agg #[.int .u64 a0_0, .int .u64 a0_1, .int .u64 a0_2, .int .u64 a0_3, .int .i64 a0_4, .int .u64 a0_5, .bool a0_6, .int .u64 a0_7, .int .i64 a0_8, .int .u64 a0_9, .int .u64 a0_10, .int .u64 a0_11, .int .u64 a0_12], .agg #[.int .u64 a1_0, .int .i64 a1_1], .slice A2 len2 cap2] w fun e w' => e = .returned (.bool true) ∧ Below w.heap.size w w' := by
  by_cases he : a0_5 = 0
  · subst he; exact back_none a0_0 a0_1 a0_2 a0_3 a0_4 0 a0_6 a0_7 a0_8 a0_9 a0_10 a0_11 a0_12 a1_0 a1_1 A2 len2 cap2 w
  cases a0_6
  · exact back_ok a0_0 a0_1 a0_2 a0_3 a0_4 a0_5 a0_7 a0_8 a0_9 a0_10 a0_11 a0_12 a1_0 a1_1 he (u64_bd w0_0) (u64_bd w0_1) (u64_bd w0_2) (u64_bd w0_3) (u64_bd w1_0) (i64_bd w0_4).1 (i64_bd w0_4).2 A2 len2 cap2 w r2
  · exact back_busy a0_0 a0_1 a0_2 a0_3 a0_4 a0_5 true a0_7 a0_8 a0_9 a0_10 a0_11 a0_12 a1_0 a1_1 he A2 len2 cap2 w
end Go.Proofs.Ytokmcjjdoiaeaaa
