/- Slices of demesneref08.Box told by plain lists (printed by gen/rows.py). No condition but bounds. -/
import Derived.Test.YtgnkgfejnnkkaaaQuoO
import Derived.Test.YtgnkgfejnnkkaaaApp2
import Derived.Lib.Hide
namespace Go.Proofs.Ytgnkgfejnnkkaaa
open Go.ChangeShapes Go.WideShapes Go.ChangeAt Go.RowKit
set_option linter.unusedVariables false
set_option linter.unusedSimpArgs false
structure BX where
  num : Int
  parent : Int
  quota : Int
  used : Int
def BX.val (d : BX) : Value := .agg #[.int .i64 d.num, .int .i64 d.parent, .int .i64 d.quota, .int .i64 d.used]
theorem BX.ext_ {a b : BX} (h0 : a.num = b.num) (h1 : a.parent = b.parent) (h2 : a.quota = b.quota) (h3 : a.used = b.used) : a = b := by
  cases a; cases b; simp only at h0 h1 h2 h3; subst h0 h1 h2 h3; rfl
def bxcells : List BX → List Value
  | [] => []
  | d :: r => .int .i64 d.num :: .int .i64 d.parent :: .int .i64 d.quota :: .int .i64 d.used :: bxcells r
theorem bxcells_length : ∀ L, (bxcells L).length = L.length * 4
  | [] => rfl
  | d :: r => by simp [bxcells, bxcells_length r]; omega
theorem bxcells_append : ∀ (L M : List BX), bxcells (L ++ M) = bxcells L ++ bxcells M
  | [], M => rfl
  | d :: r, M => by simp [bxcells, bxcells_append r M]
theorem bxcells_at : ∀ (L : List BX) (k : Nat) (d : BX), L[k]? = some d → (bxcells L)[k * 4]? = some (.int .i64 d.num) ∧ (bxcells L)[k * 4 + 1]? = some (.int .i64 d.parent) ∧ (bxcells L)[k * 4 + 2]? = some (.int .i64 d.quota) ∧ (bxcells L)[k * 4 + 3]? = some (.int .i64 d.used)
  | [], k, g, h => by simp at h
  | x :: r, 0, g, h => by simp at h; subst h; exact ⟨rfl, rfl, rfl, rfl⟩
  | x :: r, k + 1, g, h => by
    have := bxcells_at r k g (by simpa using h)
    rw [show (k + 1) * 4 = k * 4 + 1 + 1 + 1 + 1 by omega]
    simpa [bxcells] using this
theorem bxcells_one : ∀ (L : List BX), ∀ u ∈ bxcells L, u.oneCell' = true
  | [], u, h => by simp [bxcells] at h
  | g :: r, u, h => by
    simp only [bxcells, List.mem_cons] at h
    rcases h with rfl | rfl | rfl | rfl | h
    all_goals first | rfl | exact bxcells_one r u h
def bxL (w : World) (base : Nat) (v : Value) (L : List BX) : Prop := w.ownsRow base 44 4 v L.length (bxcells L)
theorem bxL.cell {w : World} {base : Nat} {v : Value} {L : List BX} (h : bxL w base v L) {k : Nat} {d : BX} (hk : L[k]? = some d) :
    ∃ b cap, v = .slice (some ⟨b, 0, none⟩) L.length cap ∧ base ≤ b ∧ b < w.heap.size ∧ w.cell? ⟨b, k * 4, none⟩ = some (.int .i64 d.num) ∧ w.cell? ⟨b, k * 4 + 1, none⟩ = some (.int .i64 d.parent) ∧ w.cell? ⟨b, k * 4 + 2, none⟩ = some (.int .i64 d.quota) ∧ w.cell? ⟨b, k * 4 + 3, none⟩ = some (.int .i64 d.used) := by
  have hlt : k < L.length := (List.getElem?_eq_some_iff.1 hk).1
  have h' := h
  rcases h.2 with ⟨_, h0⟩ | ⟨b, cap, cur, rfl, hb, hg, _⟩
  · omega
  · obtain ⟨e0, e1, e2, e3⟩ := bxcells_at L k d hk
    exact ⟨b, cap, rfl, hb, heap_lt hg, (World.ownsRow.cellAt h' _ (by omega)).trans e0, (World.ownsRow.cellAt h' _ (by omega)).trans e1, (World.ownsRow.cellAt h' _ (by omega)).trans e2, (World.ownsRow.cellAt h' _ (by omega)).trans e3⟩
theorem bxL.form {w : World} {base : Nat} {v : Value} {L : List BX} (h : bxL w base v L) : ∃ A cap, v = .slice A L.length cap := by
  rcases h.2 with ⟨h1, h0⟩ | ⟨b, cap, cur, rfl, _⟩
  · rw [h0]; exact ⟨none, 0, h1⟩
  · exact ⟨_, _, rfl⟩
theorem bxL.below {w : World} {base : Nat} {v : Value} {L : List BX} (h : bxL w base v L) {w' : World} (hb : Below w.heap.size w w') : bxL w' base v L := row_below h hb
theorem bxL.mono {w : World} {base : Nat} {v : Value} {L : List BX} (h : bxL w base v L) {base' : Nat} (hb : base' ≤ base) : bxL w base' v L := row_mono h hb
theorem bxL.nil (w : World) (base : Nat) : bxL w base (.slice none 0 0) [] := World.ownsRow_nil _ _ _ _
theorem bxL.frozen {w : World} {base b n cap : Nat} {L : List BX} (h : bxL w base (.slice (some ⟨b, 0, none⟩) n cap) L) (j : Nat) : w.frozen? ⟨b, j, none⟩ = false := by
  rcases h.2 with ⟨h1, _⟩ | ⟨g, cap'', cur, hv2, _, hg, _⟩
  · cases h1
  · obtain rfl : b = g := by injection hv2 with h1 h2 h3; simpa using h1
    exact frozen_of_row w b _ cur _ hg
theorem bxL.cap0 {w : World} {base : Nat} {v : Value} {L : List BX} (h : bxL w base v L) (hA : ∀ a n c, v = .slice (some a) n c → False) : v = .slice none 0 0 ∧ L = [] := by
  rcases h.2 with ⟨h1, h0⟩ | ⟨b, cap, cur, rfl, _⟩
  · exact ⟨h1, List.eq_nil_of_length_eq_zero h0⟩
  · exact (hA _ _ _ rfl).elim
theorem info_bx : (Try.prog.info? 44).map (fun i => (i.zero, i.size, i.bytes)) = some (some (.agg #[.int .i64 0, .int .i64 0, .int .i64 0, .int .i64 0]), 4, 32) := by kernel_rfl
theorem under_bx : Try.prog.underlying 33 = some (.slice 44) := by kernel_rfl
theorem bxlit (w : World) (base : Nat) (hb : base ≤ w.heap.size) (d : BX) : bxL (w.alloc (.cells #[.int .i64 d.num, .int .i64 d.parent, .int .i64 d.quota, .int .i64 d.used] 44)) base (.slice (some ⟨w.heap.size, 0, none⟩) 1 1) [d] :=
  World.ownsRow_lit (base := base) (e := 44) (size := 4) w #[.int .i64 d.num, .int .i64 d.parent, .int .i64 d.quota, .int .i64 d.used] 1 hb (by simp [maxLen]) (by simp)
theorem bxlit0 (w : World) (base : Nat) (hb : base ≤ w.heap.size) : bxL (w.alloc (.cells #[] 44)) base (.slice (some ⟨w.heap.size, 0, none⟩) 0 0) [] :=
  World.ownsRow_lit (base := base) (e := 44) (size := 4) w #[] 0 hb (by simp [maxLen]) (by simp)
/-- One more; the literal lies in block W.heap.size. -/
theorem bxapp (B : Nat) (w0 : World) (hle : B ≤ w0.heap.size) {W : World} {v : Value} {L : List BX} (hown : bxL W B v L) (hB : Below B w0 W) (d : BX) (hl : L.length ≤ 1000000) :
    ∃ A c w', (Builtin.append_ #[33, 33] 33 #[v, .slice (some ⟨W.heap.size, 0, none⟩) 1 1]).run Try.prog (W.alloc (.cells #[.int .i64 d.num, .int .i64 d.parent, .int .i64 d.quota, .int .i64 d.used] 44)) = .ok (.slice A (L.length + 1) c) w' ∧ bxL w' B (.slice A (L.length + 1) c) (L ++ [d]) ∧ Below B w0 w' ∧ W.heap.size < w'.heap.size ∧ ∀ b, b < W.heap.size → some b ≠ v.ownBlock → w'.heap[b]? = W.heap[b]? := by
  obtain ⟨i0, hi, hz0, hz1, hz2⟩ := info_parts info_bx
  obtain ⟨A, c, w', h1, h2, h3, h4, h5⟩ := app_one2 (P := Try.prog) B w0 hle 33 33 44 under_bx hi hz0 hz1 hz2 rfl (by decide) hown hB #[.int .i64 d.num, .int .i64 d.parent, .int .i64 d.quota, .int .i64 d.used] rfl (by simp [Value.oneCell']) (by unfold maxLen; omega) (by omega)
  refine ⟨A, c, w', h1, ?_, h3, h4, h5⟩
  unfold bxL
  rw [List.length_append, bxcells_append]
  exact h2
end Go.Proofs.Ytgnkgfejnnkkaaa
