/- The package sched (layer 16): Yield, Tick. No condition but bounds on the list. -/
import Derived.Test.YtbbohjmkippigaaSchb
import Derived.Deep.RegionHeld3
import Derived.Deep.RegionLaw
namespace Go.Proofs.Ytbbohjmkippigaa
open Go.ChangeShapes Go.WideShapes Go.ChangeAt Go.RowKit
set_option linter.unusedVariables false
set_option linter.unusedSimpArgs false

/-- An append of one int, inside a region. -/
theorem wp_app_int {base : Nat} {o : Oper} {a : Act} {w : World} {K : Act → World → Prop} {Q : Exit → Act → World → Prop} (s x : Operand) (ho : o.op = .call { callee := .builtin .append, args := #[s, x], argTypes := #[44, 44] })
    {v xv : Value} {l : List Int} {u : Int} (hs : a.eval s = v) (hx : a.eval x = xv) (hown : IRow w base v l) (hrd : Rd w 1 xv 1 [.int .i64 u]) (hl : l.length ≤ 1000) (hbase : base ≤ w.heap.size)
    (h : ∀ A c w', IRow w' base (.slice A (l.length + 1) c) (l ++ [u]) → w.grownBy w' v.ownBlock → K (a.put o.dst (.slice A (l.length + 1) c)) w') : o.wp Try.prog a w K Q := by
  obtain ⟨i0, hi, hz0, hz1, hz2⟩ := info_parts info3
  obtain ⟨v2, w3, a2, o2, g2⟩ := run_app (P := Try.prog) base 44 o.type 3 under31 hi hz0 hz1 hz2 rfl (by decide) hown hrd (by simp [Value.oneCell']) (by unfold maxLen; omega) (by omega) hbase
  obtain ⟨A2, c2, rfl⟩ := row_form o2
  refine wp_app s x 44 ho hs hx a2 (h A2 c2 w3 ?_ g2)
  unfold IRow
  rw [List.length_append, ivs, List.map_append]
  exact o2
section
variable {w : World} {p base : Nat} {qn tk : Int} {v : Value} {l : List Int}
theorem yield_short (h : QAt w p base qn tk v l) (hl : l.length ≤ 1) : Calls Try.prog 9 #[.pointer (some ⟨p, 0, none⟩)] w fun e w' => e = .returned (.tuple #[]) ∧ Touch (fun k => k = p) w w' ∧ QAt w' p base qn 0 v l := by
  have c1 := cell_heap h.cells 1
  have c2 := cell_heap h.cells 2
  have f1 := frozen_heap h.cells 1
  have hz := h.lt
  obtain ⟨A, c, rfl⟩ := row_form h.row
  have d0 : decide ((1 : Int) < (l.length : Int)) = false := decide_eq_false (by omega)
  have HQ := Lib.hid h
  obtain ⟨n, hn⟩ : ∃ n, n = l.length := ⟨_, rfl⟩
  rw [← hn] at c2 d0
  clear h hl hn
  go_enter Try.func9, Try.ntmps9
  go_wp2
  go_returns
  have ht : Touch (fun k => k = p) w (w.setCell ⟨p, 1, none⟩ (.int .i64 0)) := (Touch.refl (fun k => k = p) w).setCell (a := ⟨p, 1, none⟩) (.inl rfl) _
  exact ⟨rfl, ht, heap_set HQ.out.cells 1 _, row_touch HQ.out.cells HQ.out.row ht, by have := HQ.out.le; rw [World.size_setCell]; exact this⟩
set_option maxRecDepth 100000 in
set_option maxHeartbeats 4000000 in
theorem yield_ok {x y : Int} {r : List Int} (h : QAt w p base qn tk v (x :: y :: r)) (hl : r.length ≤ 900) : Calls Try.prog 9 #[.pointer (some ⟨p, 0, none⟩)] w fun e w' => e = .returned (.tuple #[]) ∧ Touch (fun k => k = p) w w' ∧ ∃ v', QAt w' p base qn 0 v' (y :: r ++ [x]) := by
  have c1 := cell_heap h.cells 1
  have c2 := cell_heap h.cells 2
  have f1 := frozen_heap h.cells 1
  have f2 := frozen_heap h.cells 2
  have hz := h.lt
  obtain ⟨b, cap, rfl, hbb, hbw, hx⟩ := h.row.cell 0 (by simp)
  simp only [List.getElem_cons_zero] at hx
  have hnp := h.ne rfl
  have hcap : (x :: y :: r).length ≤ cap := by
    rcases h.row.2 with ⟨h1, _⟩ | ⟨g, cp, cur, h1, _, _, h3, _⟩
    · cases h1
    · simp only [Value.slice.injEq] at h1; rw [h1.2.2]; exact h3
  have hrd : IRd w (some ⟨b, 1, none⟩) (y :: r) := by
    refine .inr ⟨b, 1, rfl, hbw, fun k hk => ?_⟩
    obtain ⟨b', cap', hv', _, _, hc'⟩ := h.row.cell (k + 1) (by simp at hk ⊢; omega)
    simp only [Value.slice.injEq, Option.some.injEq, Addr.mk.injEq] at hv'
    rw [Nat.add_comm 1 k, hv'.1.1]; simpa using hc'
  have hn : (x :: y :: r).length = (y :: r).length + 1 := rfl
  have hn2 : 1 ≤ (y :: r).length := by simp
  have hlr : (y :: r).length ≤ 901 := by simp; omega
  have HQ := Lib.hid h
  rw [hn] at c2 hcap
  obtain ⟨W0, hW0⟩ : ∃ W, W = w.setCell ⟨p, 1, none⟩ (.int .i64 0) := ⟨_, rfl⟩
  have ht0 : Touch (fun k => k = p) w W0 := by rw [hW0]; exact (Touch.refl (fun k => k = p) w).setCell (a := ⟨p, 1, none⟩) (.inl rfl) _
  have hp0 : W0.heap[p]? = some (.cells #[.int .i64 qn, .int .i64 0, .slice (some ⟨b, 0, none⟩) ((y :: r).length + 1) cap] 56 (0, 0)) := by rw [hW0]; exact heap_set h.cells 1 _
  have hrd0 := hrd.touch ht0 (fun b' off e => by simp only [Option.some.injEq, Addr.mk.injEq] at e; rw [← e.1]; exact hnp)
  have hx0 : W0.cell? ⟨b, 0, none⟩ = some (.int .i64 x) := (World.cell?_of_block (ht0.block b hbw hnp)).trans hx
  have hs0 : W0.heap.size = w.heap.size := by rw [hW0]; simp
  have HW0 := Lib.hid hW0
  have HP0 := Lib.hid hp0
  have HT0 := Lib.hid ht0
  have HLR := Lib.hid hlr
  clear hW0 h hrd ht0 hn
  have hcl : ∀ (W : World) (hb : Below W0.heap.size W0 W), Calls Try.prog 15 #[.slice (some ⟨b, 1, none⟩) (y :: r).length (cap - 1)] W fun e w' => ∃ v, e = .returned v ∧ Below W.heap.size W w' ∧ IRow w' W.heap.size v (y :: r) :=
    fun W hb => clone_any (hrd0.below hb) (by omega) (cap - 1) (fun e => by cases e)
  have HCL := Lib.hid hcl
  have HRD := Lib.hid hrd0
  have g2 : W0.cell? ⟨p, 2, none⟩ = some (.slice (some ⟨b, 0, none⟩) ((y :: r).length + 1) cap) := cell_heap hp0 2
  obtain ⟨L, hL⟩ : ∃ L, L = y :: r := ⟨_, rfl⟩

  rw [← hL] at c2 hcap hn2 g2 HCL HRD HLR hrd0 hp0 HP0 hlr HQ ⊢
  have HL := Lib.hid hL
  have hbW : b < W0.heap.size := by omega
  have hpW : p < W0.heap.size := by omega
  obtain ⟨n, hnn⟩ : ∃ n, n = L.length := ⟨_, rfl⟩
  rw [← hnn] at c2 hcap hn2 g2 HCL
  have HNN := Lib.hid hnn
  have hc1 : ¬ cap = 1 := by omega
  have d0 : decide ((1 : Int) < ((n : Int) + 1)) = true := decide_eq_true (by omega)
  have hn3 : (n : Int) + 1 ≤ 902 := by have := HLR.out; omega
  clear hcl hrd0 hp0 hL hnn hlr hl
  have hj1 : (1 : Int) ≤ (n : Int) + 1 := by omega
  have hj2 : (n : Int) + 1 ≤ (cap : Int) := by omega
  have hsl : ∀ W : World, (Instr.slice 44 (.slice (some ⟨b, 0, none⟩) (n + 1) cap) (some (.int .i64 1)) none none).run Try.prog W = .ok (.slice (some ⟨b, 1, none⟩) n (cap - 1)) W := by
    intro W
    go_simp
  go_enter Try.func9, Try.ntmps9
  go_wp2_with fail
  rw [← HW0.out]
  have hf2 : W0.frozen? ⟨p, 2, none⟩ = false := frozen_heap HP0.out 2
  have HS0 := Lib.hid hs0
  clear hs0
  have HS : ∀ W : World, Below W0.heap.size W0 W → W.cell? ⟨p, 2, none⟩ = some (.slice (some ⟨b, 0, none⟩) (n + 1) cap) ∧ W.cell? ⟨b, 0, none⟩ = some (.int .i64 x) ∧ W.frozen? ⟨p, 2, none⟩ = false :=
    fun W hB => ⟨(hB.cell (p := ⟨p, 2, none⟩) hpW).trans g2, (hB.cell (p := ⟨b, 0, none⟩) hbW).trans hx0, (hB.frozen (p := ⟨p, 2, none⟩) hpW).trans hf2⟩
  have HSH := Lib.hid HS
  clear HS
  go_region_law (first
      | (go_simp; go_at_call 15; refine (HCL.out _ ?_).mono ?_; (go_grown); rintro e w3 ⟨v1, rfl, hb3, hr3⟩; have hB3 : Below W0.heap.size W0 w3 := (b_then (by go_grown) hb3); obtain ⟨k3, j3, l3⟩ := HSH.out _ hB3; have z3 := hB3.size; have zp3 : p < w3.heap.size := (by omega); have zb3 : b < w3.heap.size := (by omega))
      | (refine wp_app_int (.tmp 19) (.tmp 26) rfl rfl rfl (l := L) (u := x) (base := W0.heap.size) (by first | exact row_mono (World.ownsRow.alloc hr3 _) (by simp) | exact row_mono hr3 (by simp)) (by first | exact Rd.lit w3 1 #[.int .i64 x] 3 1 1 rfl | exact ((Rd.lit W0 1 #[.int .i64 x] 3 1 1 rfl).below ((Below.refl _ _).drew)).below hb3) (Nat.le_trans HLR.out (by omega)) (by have := hB3.size; simp; omega) ?_; intro A2 c2 w5 hR5 hg5; have hB5 : Below W0.heap.size W0 w5 := (Below.grown (by first | exact hB3 | exact hB3.alloc hB3.size _) hg5 (by have := hB3.size; simp; omega) (fun k e => by have h1 := (hr3.lt k e).1; simp at h1; omega)); obtain ⟨k5, j5, l5⟩ := HSH.out _ hB5; have z5 := hB5.size))
  all_goals
    go_wp2_with fail
    go_returns
    have hR6 := row_mono hR5 (by rw [HS0.out]; exact HQ.out.le)
    have hp5 := heap_below hB5 HP0.out
    have ht5 : Touch (fun k => k = p) w5 (w5.setCell ⟨p, 2, none⟩ (.slice A2 (L.length + 1) c2)) := (Touch.refl (fun k => k = p) w5).setCell (a := ⟨p, 2, none⟩) (.inl rfl) _
    exact ⟨rfl, (HT0.out.trans (Touch.of_below hB5 (fun _ => False)) (fun _ h => h.elim)).trans ht5 (fun k h => .inl h), _, heap_set hp5 2 _, row_touch hp5 hR6 ht5, by have := HQ.out.le; have := HS0.out; rw [World.size_setCell]; omega⟩
end
end Go.Proofs.Ytbbohjmkippigaa
