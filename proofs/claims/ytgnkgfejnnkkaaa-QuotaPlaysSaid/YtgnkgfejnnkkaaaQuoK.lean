/- Child of the tree: a new number at the end. No condition but bounds. -/
import Derived.Test.YtgnkgfejnnkkaaaQuoJ
import Derived.Deep.RegionHeld3
import Derived.Deep.RegionLaw
namespace Go.Proofs.Ytgnkgfejnnkkaaa
open Go.ChangeShapes Go.WideShapes Go.ChangeAt Go.RowKit
set_option linter.unusedVariables false
set_option linter.unusedSimpArgs false
theorem ncells_append : ∀ (L M : List ND), ncells (L ++ M) = ncells L ++ ncells M
  | [], M => rfl
  | d :: r, M => by simp [ncells, ncells_append r M]
/-- An append of one node, inside a region. -/
theorem wp_app_node {base : Nat} {o : Oper} {a : Act} {w : World} {K : Act → World → Prop} {Q : Exit → Act → World → Prop} (s x : Operand) (ho : o.op = .call { callee := .builtin .append, args := #[s, x], argTypes := #[50, 50] })
    {v xv : Value} {L : List ND} {d : ND} (hs : a.eval s = v) (hx : a.eval x = xv) (hown : NL w base v L) (hrd : Rd w 5 xv 1 (ncells [d])) (hl : L.length ≤ 1000) (hbase : base ≤ w.heap.size)
    (h : ∀ A c w', NL w' base (.slice A (L.length + 1) c) (L ++ [d]) → w.grownBy w' v.ownBlock → K (a.put o.dst (.slice A (L.length + 1) c)) w') : o.wp Try.prog a w K Q := by
  obtain ⟨i0, hi, hz0, hz1, hz2⟩ := info_parts infoN
  obtain ⟨v2, w3, a2, o2, g2⟩ := run_app (P := Try.prog) base 50 o.type 39 underN hi hz0 hz1 hz2 rfl (by decide) hown hrd (ncells_one [d]) (by unfold maxLen; omega) (by omega) hbase
  obtain ⟨A2, c2, rfl⟩ := row_form o2
  refine wp_app s x 50 ho hs hx a2 (h A2 c2 w3 ?_ g2)
  unfold NL
  rw [List.length_append, ncells_append]
  exact o2
theorem frozen_n {w : World} {base b n cap : Nat} {L : List ND} (h : NL w base (.slice (some ⟨b, 0, none⟩) n cap) L) (j : Nat) : w.frozen? ⟨b, j, none⟩ = false := by
  rcases h.2 with ⟨h1, _⟩ | ⟨g, cap'', cur, hv2, _, hg, _⟩
  · cases h1
  · obtain rfl : b = g := by injection hv2 with h1 h2 h3; simpa using h1
    exact frozen_of_row w b _ cur _ hg
theorem NL.mono {w : World} {base base' : Nat} {v : Value} {L : List ND} (h : NL w base v L) (hb : base' ≤ base) : NL w base' v L := row_mono h hb
/-- The header gets a new list. -/
theorem TreeAt.header {w w' : World} {base t : Nat} {v v' : Value} {L L' : List ND} (h : TreeAt w base t v L) (hb : Below w.heap.size w w') (hn : NL w' base v' L') (hl : L'.length < 1000000) : TreeAt (w'.setCell ⟨t, 0, none⟩ v') base t v' L' := by
  have ht := heap_below hb h.h
  refine ⟨heap_set ht 0 v', ⟨hn.1, ?_⟩, h.b, hl⟩
  rcases hn.2 with h1 | ⟨b, cap, cur, rfl, h2, hg, h3⟩
  · exact .inl h1
  · refine .inr ⟨b, cap, cur, rfl, h2, ?_, h3⟩
    rw [heap_setCell_other _ _ _ _ (by
      rintro rfl
      rw [ht] at hg
      simp only [Option.some.injEq, Obj.cells.injEq] at hg
      exact absurd hg.2.1 (by decide))]
    exact hg
set_option maxRecDepth 100000 in
set_option maxHeartbeats 4000000 in
theorem child_new {w : World} {base t b cap : Nat} {L : List ND} (h : TreeAt w base t (.slice (some ⟨b, 0, none⟩) L.length cap) L) (hok : ∀ d ∈ L, d.ok) (hlen : L.length < 64) {k : Nat} {d : ND} (hk : L[k]? = some d) (hd : d.live = true) (n : Int) (h0 : 0 ≤ n) (h1 : n ≤ d.quota - d.used - d.lent) (hf : freeF L 0 = -1) :
    Calls Try.prog 10 #[.pointer (some ⟨t, 0, none⟩), .int .i64 k, .int .i64 n] w fun e w' => e = .returned (.tuple #[.int .i64 L.length, .int .i64 0]) ∧ Upd base w w' ∧ ∃ v', TreeAt w' base t v' (L.set k { d with lent := d.lent + n } ++ [⟨k, n, 0, 0, true⟩]) := by
  have hlv : liveAt L (k : Int) = some d := by unfold liveAt; rw [if_pos (Int.natCast_nonneg _), Int.toNat_natCast, hk]; simp [hd]
  have hrm : roomF L k = d.quota - d.used - d.lent := by unfold roomF; rw [hlv]
  have HA := Lib.hid (at_some h k d hk hd)
  have HRM_ := fun (W : World) (hb : Below w.heap.size w W) => room_any (h.below hb) hok k
  have HFR_ := fun (W : World) (hb : Below w.heap.size w W) => free_any (h.below hb).l (h.len)
  rw [hrm] at HRM_
  rw [hf] at HFR_
  obtain ⟨rm, hrm2⟩ : ∃ r, r = d.quota - d.used - d.lent := ⟨_, rfl⟩
  rw [← hrm2] at HRM_ h1
  have HRM := Lib.hid HRM_
  have HFR := Lib.hid HFR_
  obtain ⟨o1, o2, o3, o4⟩ := hok d (List.mem_of_getElem? hk)
  have d1 : decide (n < 0) = false := decide_eq_false (by omega)
  have d2 : decide (rm < n) = false := decide_eq_false (by omega)
  have s1 : IntKind.i64.wrap (d.lent + n) = d.lent + n := by rw [IntKind.wrap_i64]; omega
  have hL1 : (L.set k { d with lent := d.lent + n }).length = L.length := List.length_set
  have H := Lib.hid h
  have HK := Lib.hid hk
  have HNE := Lib.hid h.ne
  have HLEN := Lib.hid hlen
  obtain ⟨m, hm⟩ : ∃ m, m = L.length := ⟨_, rfl⟩
  have d3 : decide ((64 : Int) ≤ (m : Int)) = false := decide_eq_false (by omega)
  have d3b : decide (64 ≤ m) = false := decide_eq_false (by omega)
  have hmb : (m : Int) < 64 := by omega
  rw [← hm] at HFR
  have HM := Lib.hid hm
  have HL1 := Lib.hid hL1
  have hltb := h.ttb
  have htt := h.ttt
  have HTB := Lib.hid hltb
  have HTT := Lib.hid htt
  clear h hok hk hlv hrm HRM_ HFR_ hrm2 o1 o2 o3 o4 h0 h1 hf hlen hL1 hltb htt hm
  go_enter Try.func10, Try.ntmps10
  go_wp2_with fail
  refine HA.out.mono ?_
  rintro e w1 ⟨b', cap', rfl, hv', hw⟩
  obtain rfl := hw.symm
  obtain rfl : b = b' := by injection hv' with h1 h2 h3; simpa using h1
  clear hw hv'
  go_wp2_with fail
  refine (HRM.out _ (Below.refl _ _)).mono ?_
  rintro e w2 ⟨rfl, hb2⟩
  have H2 := Lib.hid (H.out.below hb2)
  have HB2 := Lib.hid hb2
  have c0 : w2.cell? ⟨t, 0, none⟩ = some (.slice (some ⟨b, 0, none⟩) m cap) := by rw [HM.out]; exact cell_heap H2.out.h 0
  clear hb2
  go_wp2_with fail
  refine (HFR.out _ HB2.out).mono ?_
  rintro e w3 ⟨rfl, hb3⟩
  have H3 := Lib.hid (H2.out.below hb3)
  have HB3 := Lib.hid (b_then HB2.out hb3)
  have c0 : w3.cell? ⟨t, 0, none⟩ = some (.slice (some ⟨b, 0, none⟩) m cap) := by rw [HM.out]; exact cell_heap H3.out.h 0
  obtain ⟨b', cap', hv, hb, hbw, e0, e1, e2, e3, e4⟩ := NL.cell H3.out.l HK.out
  obtain rfl : b = b' := by injection hv with h1 h2 h3; simpa using h1
  have fz : w3.frozen? ⟨b, k * 5 + 3, none⟩ = false := frozen_n H3.out.l _
  have HU := Lib.hid (H3.out.setLent HK.out (d.lent + n))
  have hne := HNE.out
  clear hb3 hv hb e0 e1 e2 e4
  go_wp2_with fail
  obtain ⟨g, hg⟩ : ∃ g, g = w3.heap.size := ⟨_, rfl⟩
  obtain ⟨L1, hLL⟩ : ∃ L1, L1 = L.set k { d with lent := d.lent + n } := ⟨_, rfl⟩
  obtain ⟨W2, hW2⟩ : ∃ W, W = (w3.setCell ⟨b, k * 5 + 3, none⟩ (.int .i64 (d.lent + n))).alloc (.cells #[.int .i64 k, .int .i64 n, .int .i64 0, .int .i64 0, .bool true] 39) := ⟨_, rfl⟩
  rw [← hg, ← hW2]
  have hl1 : L1.length = m := by rw [hLL, HL1.out, HM.out]
  have hT2 : TreeAt W2 base t (.slice (some ⟨b, 0, none⟩) L1.length cap) L1 := by
    rw [hW2, hLL]
    exact HU.out.below ((Below.refl _ _).alloc (Nat.le_refl _) _)
  have hg2 : W2.heap[g]? = some (.cells #[.int .i64 k, .int .i64 n, .int .i64 0, .int .i64 0, .bool true] 39 (0, 0)) := by
    rw [hW2, hg]
    have := heap_new (w3.setCell ⟨b, k * 5 + 3, none⟩ (.int .i64 (d.lent + n))) (.cells #[.int .i64 k, .int .i64 n, .int .i64 0, .int .i64 0, .bool true] 39)
    rwa [World.size_setCell] at this
  have hu2 : Upd base w W2 := by
    have u1 : Upd base w3 (w3.setCell ⟨b, k * 5 + 3, none⟩ (.int .i64 (d.lent + n))) := Touch.setCell (Touch.refl _ _) (.inl H3.out.ttb) _
    rw [hW2]
    exact ((Upd.of_below HB3.out).trans u1).then_below ((Below.refl _ _).alloc (Nat.le_refl _) _)
  have hcl : ∀ W : World, Below W2.heap.size W2 W → Calls Try.prog 23 #[.slice (some ⟨b, 0, none⟩) m cap] W fun e w' => ∃ v', e = .returned v' ∧ NL w' W.heap.size v' L1 ∧ Below W.heap.size W w' := fun W hB => by
    have := clone_any (row_mono ((hT2.below hB).l) (Nat.zero_le _)) hT2.len
    rwa [hl1] at this
  have hhs : ∀ W : World, Below W2.heap.size W2 W → W.cell? ⟨t, 0, none⟩ = some (.slice (some ⟨b, 0, none⟩) m cap) ∧ W.frozen? ⟨t, 0, none⟩ = false ∧ W.cell? ⟨g, 0, none⟩ = some (.int .i64 k) ∧ W.cell? ⟨g, 1, none⟩ = some (.int .i64 n) ∧ W.cell? ⟨g, 2, none⟩ = some (.int .i64 0) ∧ W.cell? ⟨g, 3, none⟩ = some (.int .i64 0) ∧ W.cell? ⟨g, 4, none⟩ = some (.bool true) ∧ t < W.heap.size ∧ g < W.heap.size := fun W hB => by
    have h1 := heap_below hB hT2.h
    have h2 := heap_below hB hg2
    rw [hl1] at h1
    exact ⟨cell_heap h1 0, frozen_heap h1 0, cell_heap h2 0, cell_heap h2 1, cell_heap h2 2, cell_heap h2 3, cell_heap h2 4, heap_lt h1, heap_lt h2⟩
  have HCL := Lib.hid hcl
  have HSH := Lib.hid hhs
  have HT2 := Lib.hid hT2
  have HU2 := Lib.hid hu2
  have HLL := Lib.hid hLL
  have HL1B := Lib.hid hl1
  obtain ⟨x0, x1, x2, x3, x4, x5, x6, x7, x8⟩ := hhs W2 (Below.refl _ _)
  have hl1m : L1.length ≤ 1000 := by omega
  clear hcl hhs hT2 hu2 hLL hl1 hg hW2 hg2 fz c0 e3 hbw
  go_region_law (first
      | (go_simp; go_at_call 23; refine (HCL.out _ ?_).mono ?_; (go_grown); rintro e w5 ⟨v1, rfl, hr5, hb5⟩; have hB5 : Below W2.heap.size W2 w5 := (b_then (by go_grown) hb5); obtain ⟨y0, y1, y2, y3, y4, y5, y6, y7, y8⟩ := HSH.out _ hB5)
      | (refine wp_app_node (.tmp 60) (.tmp 62) rfl rfl rfl (L := L1) (d := ⟨k, n, 0, 0, true⟩) (base := W2.heap.size) (by first | exact row_mono (World.ownsRow.alloc hr5 _) (by simp) | exact row_mono hr5 (by simp)) (by first | exact Rd.lit w5 5 #[.int .i64 k, .int .i64 n, .int .i64 0, .int .i64 0, .bool true] 39 1 1 rfl | exact ((Rd.lit W2 5 #[.int .i64 k, .int .i64 n, .int .i64 0, .int .i64 0, .bool true] 39 1 1 rfl).below ((Below.refl _ _).drew)).below hb5) hl1m (by have := hB5.size; simp; omega) ?_; intro A2 c2 w6 hR6 hg6; have hB6 : Below W2.heap.size W2 w6 := (Below.grown (by first | exact hB5 | exact hB5.alloc hB5.size _) hg6 (by have := hB5.size; simp; omega) (fun k e => by have h1 := (hr5.lt k e).1; simp at h1; omega)); obtain ⟨z0, z1, z2, z3, z4, z5, z6, z7, z8⟩ := HSH.out _ hB6))
  all_goals
    clear hg6 hb5 hr5
    have HR6 := Lib.hid hR6
    have HB6 := Lib.hid hB6
    clear hR6 hB6 y0 y1 y2 y3 y4 y5 y6 y7 y8
    go_wp2_with fail
    go_returns
    have ht6 := heap_below HB6.out HT2.out.h
    refine ⟨ret_v ?_, (HU2.out.then_below HB6.out).trans (Touch.setCell (Touch.refl _ _) (.inl ⟨HT2.out.b, _, _, _, ht6, .inr rfl⟩) _), .slice A2 (L1.length + 1) c2, ?_⟩
    · have e1 := HL1B.out
      have e2 := HM.out
      rw [e1, e2] <;> simp
    · rw [← HLL.out]
      exact TreeAt.header HT2.out HB6.out (NL.mono HR6.out (by have := HT2.out.b; have := heap_lt HT2.out.h; omega)) (by simp; omega)
end Go.Proofs.Ytgnkgfejnnkkaaa
