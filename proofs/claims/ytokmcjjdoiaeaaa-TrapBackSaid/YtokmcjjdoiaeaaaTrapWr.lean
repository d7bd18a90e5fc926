/- The region of a round of TrapPlays: what its operations yield and lay. No condition. -/
import Derived.Test.YtokmcjjdoiaeaaaTrapW
import Derived.Test.YtokmcjjdoiaeaaaStnA
namespace Go.Proofs.Ytokmcjjdoiaeaaa
open Go.ChangeShapes Go.WideShapes Go.ChangeAt Go.RowKit
set_option linter.unusedVariables false
set_option linter.unusedSimpArgs false
/-- What each operation of the round's region may yield; what it lays. -/
def plR (z z' : St) (n k bl off len cap : Nat) (act : Value) : Nat → Value → Value → Prop
  | 0, _, v => v = z.val
  | 1, _, v => v = z.val
  | 2, _, v => v = .slice (some ⟨bl, off, none⟩) len cap
  | 3, _, v => v = .int .i64 k
  | 4, _, v => v = .pointer (some ⟨bl, off + k * 8, none⟩)
  | 5, _, v => v = act
  | 6, _, v => v = .tuple #[z'.val, z'.val, .bool true]
  | 7, _, v => v = .tuple #[z'.val, z'.val, .bool true]
  | 8, _, v => v = z'.val
  | 9, _, v => v = z'.val
  | 10, _, v => v = .bool true
  | 11, _, v => ∃ g, n ≤ g ∧ v = .pointer (some ⟨g, 0, none⟩)
  | 12, _, v => ∃ g, n ≤ g ∧ v = .pointer (some ⟨g, 0, none⟩)
  | 13, y, v => v = y
  | 14, y, v => v = y
  | 15, _, v => v = .bool true
  | _, _, _ => True
theorem plR_some {z z' : St} {n k bl off len cap : Nat} {act : Value} : ∀ (i : Nat) (y : Value), ∃ v, plR z z' n k bl off len cap act i y v
  | 0, _ => ⟨_, rfl⟩
  | 1, _ => ⟨_, rfl⟩
  | 2, _ => ⟨_, rfl⟩
  | 3, _ => ⟨_, rfl⟩
  | 4, _ => ⟨_, rfl⟩
  | 5, _ => ⟨_, rfl⟩
  | 6, _ => ⟨_, rfl⟩
  | 7, _ => ⟨_, rfl⟩
  | 8, _ => ⟨_, rfl⟩
  | 9, _ => ⟨_, rfl⟩
  | 10, _ => ⟨_, rfl⟩
  | 11, _ => ⟨_, _, Nat.le_refl _, rfl⟩
  | 12, _ => ⟨_, _, Nat.le_refl _, rfl⟩
  | 13, _ => ⟨_, rfl⟩
  | 14, _ => ⟨_, rfl⟩
  | 15, _ => ⟨_, rfl⟩
  | _ + 16, _ => ⟨undef, trivial⟩
def plX : Nat → Operand
  | 13 => .tmp 7
  | 14 => .tmp 8
  | _ => .const undef
def plF (z' : St) (n : Nat) : Nat → Value → World → Prop
  | 11, v, W => ∃ g, v = .pointer (some ⟨g, 0, none⟩) ∧ n ≤ g ∧ ∃ old : Array Value, old.size = 13 ∧ W.heap[g]? = some (.cells old 28 (0, 0))
  | 12, v, W => ∃ g, v = .pointer (some ⟨g, 0, none⟩) ∧ n ≤ g ∧ ∃ old : Array Value, old.size = 13 ∧ W.heap[g]? = some (.cells old 38 (0, 0))
  | 13, v, W => ∃ g, v = .pointer (some ⟨g, 0, none⟩) ∧ n ≤ g ∧ W.heap[g]? = some (.cells z'.cs 28 (0, 0))
  | 14, v, W => ∃ g, v = .pointer (some ⟨g, 0, none⟩) ∧ n ≤ g ∧ W.heap[g]? = some (.cells z'.cs 38 (0, 0))
  | _, _, _ => True
theorem plF_keep {z' : St} {n : Nat} {W W' : World} (h : ∀ (g : Nat) (o : Obj), W.heap[g]? = some o → W'.heap[g]? = some o) (k : Nat) (u : Value) (hF : plF z' n k u W) : plF z' n k u W' := by
  unfold plF at *
  split at hF
  · obtain ⟨g, e, h1, old, h2, h3⟩ := hF; exact ⟨g, e, h1, old, h2, h _ _ h3⟩
  · obtain ⟨g, e, h1, old, h2, h3⟩ := hF; exact ⟨g, e, h1, old, h2, h _ _ h3⟩
  · obtain ⟨g, e, h1, h3⟩ := hF; exact ⟨g, e, h1, h _ _ h3⟩
  · obtain ⟨g, e, h1, h3⟩ := hF; exact ⟨g, e, h1, h _ _ h3⟩
  · trivial
theorem plF_store7 {z' : St} {n : Nat} {W : World} {g : Nat} {old : Array Value} (hg : W.heap[g]? = some (.cells old 28 (0, 0))) (k : Nat) (u : Value) (hF : plF z' n k u W) : plF z' n k u (W.setRow g z'.cs) := by
  have same : (W.setRow g z'.cs).heap[g]? = some (.cells z'.cs 28 (0, 0)) := setRow_heap _ _ _ _ _ _ hg
  unfold plF at *
  split at hF
  · obtain ⟨q, e, h1, o2, h2, h3⟩ := hF
    by_cases hq : q = g
    · subst hq; exact ⟨q, e, h1, _, rfl, same⟩
    · exact ⟨q, e, h1, o2, h2, row_far h3 hq⟩
  · obtain ⟨q, e, h1, o2, h2, h3⟩ := hF
    refine ⟨q, e, h1, o2, h2, row_far h3 (fun hq => ?_)⟩
    subst hq; rw [hg] at h3; simp at h3
  · obtain ⟨q, e, h1, h3⟩ := hF
    by_cases hq : q = g
    · subst hq; exact ⟨q, e, h1, same⟩
    · exact ⟨q, e, h1, row_far h3 hq⟩
  · obtain ⟨q, e, h1, h3⟩ := hF
    refine ⟨q, e, h1, row_far h3 (fun hq => ?_)⟩
    subst hq; rw [hg] at h3; simp at h3
  · trivial
theorem plF_store8 {z' : St} {n : Nat} {W : World} {g : Nat} {old : Array Value} (hg : W.heap[g]? = some (.cells old 38 (0, 0))) (k : Nat) (u : Value) (hF : plF z' n k u W) : plF z' n k u (W.setRow g z'.cs) := by
  have same : (W.setRow g z'.cs).heap[g]? = some (.cells z'.cs 38 (0, 0)) := setRow_heap _ _ _ _ _ _ hg
  unfold plF at *
  split at hF
  · obtain ⟨q, e, h1, o2, h2, h3⟩ := hF
    refine ⟨q, e, h1, o2, h2, row_far h3 (fun hq => ?_)⟩
    subst hq; rw [hg] at h3; simp at h3
  · obtain ⟨q, e, h1, o2, h2, h3⟩ := hF
    by_cases hq : q = g
    · subst hq; exact ⟨q, e, h1, _, rfl, same⟩
    · exact ⟨q, e, h1, o2, h2, row_far h3 hq⟩
  · obtain ⟨q, e, h1, h3⟩ := hF
    refine ⟨q, e, h1, row_far h3 (fun hq => ?_)⟩
    subst hq; rw [hg] at h3; simp at h3
  · obtain ⟨q, e, h1, h3⟩ := hF
    by_cases hq : q = g
    · subst hq; exact ⟨q, e, h1, same⟩
    · exact ⟨q, e, h1, row_far h3 hq⟩
  · trivial
theorem run_does {o : Oper} {a : Act} (x y z : Value) (X Y Z : Operand) (ho : o.op = .call { callee := .value (.func 12), args := #[X, Y, Z], argTypes := #[28, 38, 43] }) (hx : a.eval X = x) (hy : a.eval Y = y) (hz : a.eval Z = z) (W : World) : (execOp a.eval o).run Try.prog W = .ok (.enter 12 #[x, y, z]) W := by
  have hf := Try.func12
  have e2 : a.eval (.func 12) = .func (.func 12) #[] #[] := rfl
  generalize a.eval = ρ at hx hy hz e2 ⊢
  unfold execOp
  simp only [ho]
  go_simp
theorem zeroT (w : World) : (zeroValue 28).run Try.prog w = .ok (.agg #[.int .u64 0, .int .u64 0, .int .u64 0, .int .u64 0, .int .i64 0, .int .u64 0, .bool false, .int .u64 0, .int .i64 0, .int .u64 0, .int .u64 0, .int .u64 0, .int .u64 0]) w := by kernel_rfl
theorem zeroR (w : World) : (zeroValue 38).run Try.prog w = .ok (.agg #[.int .u64 0, .int .u64 0, .int .u64 0, .int .u64 0, .int .i64 0, .int .u64 0, .bool false, .int .u64 0, .int .i64 0, .int .u64 0, .int .u64 0, .int .u64 0, .int .u64 0]) w := by kernel_rfl
end Go.Proofs.Ytokmcjjdoiaeaaa
