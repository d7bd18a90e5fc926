/- Reading of acts, a list copied, far stores. Condition: at most 1000 regions. -/
import Derived.Test.YtoodjhomekeekaaRgW
namespace Go.Proofs.Ytoodjhomekeekaa
open Go.ChangeShapes Go.WideShapes Go.ChangeAt Go.RowKit
set_option linter.unusedVariables false
set_option linter.unusedSimpArgs false
theorem act_row7 {w : World} {A : Option Addr} {len : Nat} (r : Rows_ w [.i .i64, .i .i64, .i .i64, .b, .b, .b, .i .i64] A len) {k : Nat} (h : k < len) :
    ∃ (b off : Nat), A = some ⟨b, off, none⟩ ∧ b < w.heap.size ∧ ∃ (how : Int) (d : RG), w.cell? ⟨b, off + k * 7, none⟩ = some (.int .i64 how) ∧ w.cell? ⟨b, off + k * 7 + 1, none⟩ = some (.int .i64 d.a) ∧ w.cell? ⟨b, off + k * 7 + 2, none⟩ = some (.int .i64 d.b) ∧ w.cell? ⟨b, off + k * 7 + 3, none⟩ = some (.bool d.w) ∧ w.cell? ⟨b, off + k * 7 + 4, none⟩ = some (.bool d.u) ∧ w.cell? ⟨b, off + k * 7 + 5, none⟩ = some (.bool d.x) ∧ w.cell? ⟨b, off + k * 7 + 6, none⟩ = some (.int .i64 d.k) := by
  obtain ⟨_, h2⟩ := r
  obtain ⟨b, off, R, hA, hb, hR⟩ := h2 (by omega)
  obtain ⟨ok, hc⟩ := hR k h
  obtain ⟨_, r0, e, ⟨h0, rfl, _⟩, ok⟩ := ok
  obtain ⟨_, r1, rfl, ⟨a0, rfl, _⟩, ok⟩ := ok
  obtain ⟨_, r2, rfl, ⟨a1, rfl, _⟩, ok⟩ := ok
  obtain ⟨_, r3, rfl, ⟨a2, rfl⟩, ok⟩ := ok
  obtain ⟨_, r4, rfl, ⟨a3, rfl⟩, ok⟩ := ok
  obtain ⟨_, r5, rfl, ⟨a4, rfl⟩, ok⟩ := ok
  obtain ⟨_, r6, rfl, ⟨a5, rfl, _⟩, ok⟩ := ok
  rw [e] at hc
  exact ⟨b, off, hA, hb, h0, ⟨a0, a1, a2, a3, a4, a5⟩, hc 0 (by simp), hc 1 (by simp), hc 2 (by simp), hc 3 (by simp), hc 4 (by simp), hc 5 (by simp), hc 6 (by simp)⟩
theorem rg_copy {w : World} {base : Nat} {A : Option Addr} {n cap : Nat} {R : List RG} (h : rgL w base (.slice A n cap) R) (hn : n = R.length) (hl : R.length ≤ 1000) :
    ∃ A2 c2 w2, (Builtin.append_ #[23, 23] 23 #[.slice (some ⟨w.heap.size, 0, none⟩) 0 0, .slice A n cap]).run Try.prog (w.alloc (.cells #[] 31)) = .ok (.slice A2 n c2) w2 ∧ rgL w2 w.heap.size (.slice A2 n c2) R ∧ Below w.heap.size w w2 := by
  subst hn
  obtain ⟨i0, hi, hz0, hz1, hz2⟩ := info_parts info_rg
  have hrd := (Rd.own h).below ((Below.refl w.heap.size w).alloc (Nat.le_refl _) (.cells #[] 31))
  have ho := World.ownsRow_lit (base := w.heap.size) (e := 31) (size := 6) w #[] 0 (Nat.le_refl _) (by simp [maxLen]) (by simp)
  obtain ⟨v2, w3, ha, ho2, g2⟩ := run_app (P := Try.prog) w.heap.size 23 23 31 under_rg hi hz0 hz1 hz2 rfl (by decide) ho hrd (rgcells_one R) (by simp [maxLen]; omega) (by omega) (by rw [World.size_alloc]; omega)
  have hB : Below w.heap.size w w3 := Below.grown ((Below.refl w.heap.size w).alloc (Nat.le_refl _) (.cells #[] 31)) g2 (by rw [World.size_alloc]; omega) (fun k e => by simp [Value.ownBlock] at e; omega)
  rw [Nat.zero_add] at ho2
  obtain ⟨A2, c2, rfl⟩ := row_form ho2
  exact ⟨A2, c2, w3, ha, ho2, hB⟩
theorem rgL.far {w : World} {base : Nat} {v : Value} {L : List RG} (h : rgL w base v L) {g : Nat} (hg : g < base) (j : Nat) (u : Value) : rgL (w.setCell ⟨g, j, none⟩ u) base v L := by
  refine ⟨h.1, ?_⟩
  rcases h.2 with h2 | ⟨b, cap, cur, h1, hb, hh, h3⟩
  · exact .inl h2
  · exact .inr ⟨b, cap, cur, h1, hb, heap_far hh (by simp only; omega) u, h3⟩
end Go.Proofs.Ytoodjhomekeekaa
