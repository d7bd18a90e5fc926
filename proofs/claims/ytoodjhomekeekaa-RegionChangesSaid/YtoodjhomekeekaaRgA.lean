/- Slices of region.Region told by plain lists (printed by gen/rows.py). No condition but bounds. -/
import Derived.Test.YtoodjhomekeekaaApp2
import Derived.Test.YtoodjhomekeekaaTch
import Derived.Lib.Hide
namespace Go.Proofs.Ytoodjhomekeekaa
open Go.ChangeShapes Go.WideShapes Go.ChangeAt Go.RowKit
set_option linter.unusedVariables false
set_option linter.unusedSimpArgs false
structure RG where
  a : Int
  b : Int
  w : Bool
  u : Bool
  x : Bool
  k : Int
def RG.val (d : RG) : Value := .agg #[.int .i64 d.a, .int .i64 d.b, .bool d.w, .bool d.u, .bool d.x, .int .i64 d.k]
theorem RG.ext_ {a b : RG} (h0 : a.a = b.a) (h1 : a.b = b.b) (h2 : a.w = b.w) (h3 : a.u = b.u) (h4 : a.x = b.x) (h5 : a.k = b.k) : a = b := by
  cases a; cases b; simp only at h0 h1 h2 h3 h4 h5; subst h0 h1 h2 h3 h4 h5; rfl
def rgcells : List RG → List Value
  | [] => []
  | d :: r => .int .i64 d.a :: .int .i64 d.b :: .bool d.w :: .bool d.u :: .bool d.x :: .int .i64 d.k :: rgcells r
theorem rgcells_length : ∀ L, (rgcells L).length = L.length * 6
  | [] => rfl
  | d :: r => by simp [rgcells, rgcells_length r]; omega
theorem rgcells_append : ∀ (L M : List RG), rgcells (L ++ M) = rgcells L ++ rgcells M
  | [], M => rfl
  | d :: r, M => by simp [rgcells, rgcells_append r M]
theorem rgcells_at : ∀ (L : List RG) (k : Nat) (d : RG), L[k]? = some d → (rgcells L)[k * 6]? = some (.int .i64 d.a) ∧ (rgcells L)[k * 6 + 1]? = some (.int .i64 d.b) ∧ (rgcells L)[k * 6 + 2]? = some (.bool d.w) ∧ (rgcells L)[k * 6 + 3]? = some (.bool d.u) ∧ (rgcells L)[k * 6 + 4]? = some (.bool d.x) ∧ (rgcells L)[k * 6 + 5]? = some (.int .i64 d.k)
  | [], k, g, h => by simp at h
  | x :: r, 0, g, h => by simp at h; subst h; exact ⟨rfl, rfl, rfl, rfl, rfl, rfl⟩
  | x :: r, k + 1, g, h => by
    have := rgcells_at r k g (by simpa using h)
    rw [show (k + 1) * 6 = k * 6 + 1 + 1 + 1 + 1 + 1 + 1 by omega]
    simpa [rgcells] using this
theorem rgcells_one : ∀ (L : List RG), ∀ u ∈ rgcells L, u.oneCell' = true
  | [], u, h => by simp [rgcells] at h
  | g :: r, u, h => by
    simp only [rgcells, List.mem_cons] at h
    rcases h with rfl | rfl | rfl | rfl | rfl | rfl | h
    all_goals first | rfl | exact rgcells_one r u h
def rgL (w : World) (base : Nat) (v : Value) (L : List RG) : Prop := w.ownsRow base 31 6 v L.length (rgcells L)
theorem rgL.cell {w : World} {base : Nat} {v : Value} {L : List RG} (h : rgL w base v L) {k : Nat} {d : RG} (hk : L[k]? = some d) :
    ∃ b cap, v = .slice (some ⟨b, 0, none⟩) L.length cap ∧ base ≤ b ∧ b < w.heap.size ∧ w.cell? ⟨b, k * 6, none⟩ = some (.int .i64 d.a) ∧ w.cell? ⟨b, k * 6 + 1, none⟩ = some (.int .i64 d.b) ∧ w.cell? ⟨b, k * 6 + 2, none⟩ = some (.bool d.w) ∧ w.cell? ⟨b, k * 6 + 3, none⟩ = some (.bool d.u) ∧ w.cell? ⟨b, k * 6 + 4, none⟩ = some (.bool d.x) ∧ w.cell? ⟨b, k * 6 + 5, none⟩ = some (.int .i64 d.k) := by
  have hlt : k < L.length := (List.getElem?_eq_some_iff.1 hk).1
  have h' := h
  rcases h.2 with ⟨_, h0⟩ | ⟨b, cap, cur, rfl, hb, hg, _⟩
  · omega
  · obtain ⟨e0, e1, e2, e3, e4, e5⟩ := rgcells_at L k d hk
    exact ⟨b, cap, rfl, hb, heap_lt hg, (World.ownsRow.cellAt h' _ (by omega)).trans e0, (World.ownsRow.cellAt h' _ (by omega)).trans e1, (World.ownsRow.cellAt h' _ (by omega)).trans e2, (World.ownsRow.cellAt h' _ (by omega)).trans e3, (World.ownsRow.cellAt h' _ (by omega)).trans e4, (World.ownsRow.cellAt h' _ (by omega)).trans e5⟩
theorem rgL.form {w : World} {base : Nat} {v : Value} {L : List RG} (h : rgL w base v L) : ∃ A cap, v = .slice A L.length cap := by
  rcases h.2 with ⟨h1, h0⟩ | ⟨b, cap, cur, rfl, _⟩
  · rw [h0]; exact ⟨none, 0, h1⟩
  · exact ⟨_, _, rfl⟩
theorem rgL.below {w : World} {base : Nat} {v : Value} {L : List RG} (h : rgL w base v L) {w' : World} (hb : Below w.heap.size w w') : rgL w' base v L := row_below h hb
theorem rgL.mono {w : World} {base : Nat} {v : Value} {L : List RG} (h : rgL w base v L) {base' : Nat} (hb : base' ≤ base) : rgL w base' v L := row_mono h hb
theorem rgL.nil (w : World) (base : Nat) : rgL w base (.slice none 0 0) [] := World.ownsRow_nil _ _ _ _
theorem rgL.frozen {w : World} {base b n cap : Nat} {L : List RG} (h : rgL w base (.slice (some ⟨b, 0, none⟩) n cap) L) (j : Nat) : w.frozen? ⟨b, j, none⟩ = false := by
  rcases h.2 with ⟨h1, _⟩ | ⟨g, cap'', cur, hv2, _, hg, _⟩
  · cases h1
  · obtain rfl : b = g := by injection hv2 with h1 h2 h3; simpa using h1
    exact frozen_of_row w b _ cur _ hg
theorem rgL.cap0 {w : World} {base : Nat} {v : Value} {L : List RG} (h : rgL w base v L) (hA : ∀ a n c, v = .slice (some a) n c → False) : v = .slice none 0 0 ∧ L = [] := by
  rcases h.2 with ⟨h1, h0⟩ | ⟨b, cap, cur, rfl, _⟩
  · exact ⟨h1, List.eq_nil_of_length_eq_zero h0⟩
  · exact (hA _ _ _ rfl).elim
theorem info_rg : (Try.prog.info? 31).map (fun i => (i.zero, i.size, i.bytes)) = some (some (.agg #[.int .i64 0, .int .i64 0, .bool false, .bool false, .bool false, .int .i64 0]), 6, 32) := by kernel_rfl
theorem under_rg : Try.prog.underlying 23 = some (.slice 31) := by kernel_rfl
theorem rglit (w : World) (base : Nat) (hb : base ≤ w.heap.size) (d : RG) : rgL (w.alloc (.cells #[.int .i64 d.a, .int .i64 d.b, .bool d.w, .bool d.u, .bool d.x, .int .i64 d.k] 31)) base (.slice (some ⟨w.heap.size, 0, none⟩) 1 1) [d] :=
  World.ownsRow_lit (base := base) (e := 31) (size := 6) w #[.int .i64 d.a, .int .i64 d.b, .bool d.w, .bool d.u, .bool d.x, .int .i64 d.k] 1 hb (by simp [maxLen]) (by simp)
theorem rglit0 (w : World) (base : Nat) (hb : base ≤ w.heap.size) : rgL (w.alloc (.cells #[] 31)) base (.slice (some ⟨w.heap.size, 0, none⟩) 0 0) [] :=
  World.ownsRow_lit (base := base) (e := 31) (size := 6) w #[] 0 hb (by simp [maxLen]) (by simp)
/-- One more; the literal lies in block W.heap.size. -/
theorem rgapp (B : Nat) (w0 : World) (hle : B ≤ w0.heap.size) {W : World} {v : Value} {L : List RG} (hown : rgL W B v L) (hB : Below B w0 W) (d : RG) (hl : L.length ≤ 1000000) :
    ∃ A c w', (Builtin.append_ #[23, 23] 23 #[v, .slice (some ⟨W.heap.size, 0, none⟩) 1 1]).run Try.prog (W.alloc (.cells #[.int .i64 d.a, .int .i64 d.b, .bool d.w, .bool d.u, .bool d.x, .int .i64 d.k] 31)) = .ok (.slice A (L.length + 1) c) w' ∧ rgL w' B (.slice A (L.length + 1) c) (L ++ [d]) ∧ Below B w0 w' ∧ W.heap.size < w'.heap.size ∧ ∀ b, b < W.heap.size → some b ≠ v.ownBlock → w'.heap[b]? = W.heap[b]? := by
  obtain ⟨i0, hi, hz0, hz1, hz2⟩ := info_parts info_rg
  obtain ⟨A, c, w', h1, h2, h3, h4, h5⟩ := app_one2 (P := Try.prog) B w0 hle 23 23 31 under_rg hi hz0 hz1 hz2 rfl (by decide) hown hB #[.int .i64 d.a, .int .i64 d.b, .bool d.w, .bool d.u, .bool d.x, .int .i64 d.k] rfl (by simp [Value.oneCell']) (by unfold maxLen; omega) (by omega)
  refine ⟨A, c, w', h1, ?_, h3, h4, h5⟩
  unfold rgL
  rw [List.length_append, rgcells_append]
  exact h2
end Go.Proofs.Ytoodjhomekeekaa
