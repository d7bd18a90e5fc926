/- Child of the tree: a free number is taken; the errors. No condition but bounds. -/
import Derived.Test.YtgnkgfejnnkkaaaQuoK
namespace Go.Proofs.Ytgnkgfejnnkkaaa
open Go.ChangeShapes Go.WideShapes Go.ChangeAt Go.RowKit
set_option linter.unusedVariables false
set_option linter.unusedSimpArgs false
set_option maxRecDepth 100000 in
set_option maxHeartbeats 4000000 in
theorem child_reuse {w : World} {base t b cap : Nat} {L : List ND} (h : TreeAt w base t (.slice (some ⟨b, 0, none⟩) L.length cap) L) (hok : ∀ d ∈ L, d.ok) (hlen : L.length ≤ 64) {k : Nat} {d : ND} (hk : L[k]? = some d) (hd : d.live = true) (n : Int) (h0 : 0 ≤ n) (h1 : n ≤ d.quota - d.used - d.lent) {f : Nat} (hf : freeF L 0 = f) (hfl : f < L.length) :
    Calls Try.prog 10 #[.pointer (some ⟨t, 0, none⟩), .int .i64 k, .int .i64 n] w fun e w' => e = .returned (.tuple #[.int .i64 f, .int .i64 0]) ∧ Upd base w w' ∧ ∃ v', TreeAt w' base t v' ((L.set k { d with lent := d.lent + n }).set f ⟨k, n, 0, 0, true⟩) := by
  have hlv : liveAt L (k : Int) = some d := by unfold liveAt; rw [if_pos (Int.natCast_nonneg _), Int.toNat_natCast, hk]; simp [hd]
  have hrm : roomF L k = d.quota - d.used - d.lent := by unfold roomF; rw [hlv]
  have HA := Lib.hid (at_some h k d hk hd)
  have HRM_ := fun (W : World) (hb : Below w.heap.size w W) => room_any (h.below hb) hok k
  have HFR_ := fun (W : World) (hb : Below w.heap.size w W) => free_any (h.below hb).l (h.len)
  rw [hrm] at HRM_
  rw [hf] at HFR_
  obtain ⟨rm, hrm2⟩ : ∃ r, r = d.quota - d.used - d.lent := ⟨_, rfl⟩
  rw [← hrm2] at HRM_ h1
  have HRM := Lib.hid HRM_
  have HFR := Lib.hid HFR_
  obtain ⟨o1, o2, o3, o4⟩ := hok d (List.mem_of_getElem? hk)
  have d1 : decide (n < 0) = false := decide_eq_false (by omega)
  have d2 : decide (rm < n) = false := decide_eq_false (by omega)
  have s1 : IntKind.i64.wrap (d.lent + n) = d.lent + n := by rw [IntKind.wrap_i64]; omega
  have hL1 : (L.set k { d with lent := d.lent + n }).length = L.length := List.length_set
  have H := Lib.hid h
  have HK := Lib.hid hk
  have HNE := Lib.hid h.ne
  have HLEN := Lib.hid hlen
  have HFL := Lib.hid hfl
  obtain ⟨m, hm⟩ : ∃ m, m = L.length := ⟨_, rfl⟩
  have hmb : (m : Int) ≤ 64 := by omega
  have d3 : decide ((f : Int) < 0) = false := decide_eq_false (by omega)
  have d4 : (f : Int) < (m : Int) := by omega
  have d5 : (0 : Int) ≤ (f : Int) := by omega
  rw [← hm] at HFR
  have HM := Lib.hid hm
  have HL1 := Lib.hid hL1
  have hltb := h.ttb
  have htt := h.ttt
  have HTB := Lib.hid hltb
  have HTT := Lib.hid htt
  clear h hok hk hlv hrm HRM_ HFR_ hrm2 o1 o2 o3 o4 h0 h1 hf hfl hlen hL1 hltb htt hm
  go_enter Try.func10, Try.ntmps10
  go_wp2_with fail
  refine HA.out.mono ?_
  rintro e w1 ⟨b', cap', rfl, hv', hw⟩
  obtain rfl := hw.symm
  obtain rfl : b = b' := by injection hv' with h1 h2 h3; simpa using h1
  clear hw hv'
  go_wp2_with fail
  refine (HRM.out _ (Below.refl _ _)).mono ?_
  rintro e w2 ⟨rfl, hb2⟩
  have H2 := Lib.hid (H.out.below hb2)
  have HB2 := Lib.hid hb2
  have c0 : w2.cell? ⟨t, 0, none⟩ = some (.slice (some ⟨b, 0, none⟩) m cap) := by rw [HM.out]; exact cell_heap H2.out.h 0
  clear hb2
  go_wp2_with fail
  refine (HFR.out _ HB2.out).mono ?_
  rintro e w3 ⟨rfl, hb3⟩
  have H3 := Lib.hid (H2.out.below hb3)
  have HB3 := Lib.hid (b_then HB2.out hb3)
  have c0 : w3.cell? ⟨t, 0, none⟩ = some (.slice (some ⟨b, 0, none⟩) m cap) := by rw [HM.out]; exact cell_heap H3.out.h 0
  obtain ⟨b', cap', hv, hb, hbw, e0, e1, e2, e3, e4⟩ := NL.cell H3.out.l HK.out
  obtain rfl : b = b' := by injection hv with h1 h2 h3; simpa using h1
  have fz : w3.frozen? ⟨b, k * 5 + 3, none⟩ = false := frozen_n H3.out.l _
  have HU := Lib.hid (H3.out.setLent HK.out (d.lent + n))
  have hne := HNE.out
  clear hb3 hv hb e0 e1 e2 e4
  go_wp2_with fail
  obtain ⟨g, hg⟩ : ∃ g, g = w3.heap.size := ⟨_, rfl⟩
  obtain ⟨L1, hLL⟩ : ∃ L1, L1 = L.set k { d with lent := d.lent + n } := ⟨_, rfl⟩
  obtain ⟨W2, hW2⟩ : ∃ W, W = (w3.setCell ⟨b, k * 5 + 3, none⟩ (.int .i64 (d.lent + n))).alloc (.cells #[.int .i64 k, .int .i64 n, .int .i64 0, .int .i64 0, .bool true] 39) := ⟨_, rfl⟩
  rw [← hg, ← hW2]
  have hl1 : L1.length = m := by rw [hLL, HL1.out, HM.out]
  have hT2 : TreeAt W2 base t (.slice (some ⟨b, 0, none⟩) L1.length cap) L1 := by
    rw [hW2, hLL]
    exact HU.out.below ((Below.refl _ _).alloc (Nat.le_refl _) _)
  have hg2 : W2.heap[g]? = some (.cells #[.int .i64 k, .int .i64 n, .int .i64 0, .int .i64 0, .bool true] 39 (0, 0)) := by
    rw [hW2, hg]
    have := heap_new (w3.setCell ⟨b, k * 5 + 3, none⟩ (.int .i64 (d.lent + n))) (.cells #[.int .i64 k, .int .i64 n, .int .i64 0, .int .i64 0, .bool true] 39)
    rwa [World.size_setCell] at this
  have hu2 : Upd base w W2 := by
    have u1 : Upd base w3 (w3.setCell ⟨b, k * 5 + 3, none⟩ (.int .i64 (d.lent + n))) := Touch.setCell (Touch.refl _ _) (.inl H3.out.ttb) _
    rw [hW2]
    exact ((Upd.of_below HB3.out).trans u1).then_below ((Below.refl _ _).alloc (Nat.le_refl _) _)
  have hhs : ∀ W : World, Below W2.heap.size W2 W → W.cell? ⟨t, 0, none⟩ = some (.slice (some ⟨b, 0, none⟩) m cap) ∧ W.frozen? ⟨t, 0, none⟩ = false ∧ W.cell? ⟨g, 0, none⟩ = some (.int .i64 k) ∧ W.cell? ⟨g, 1, none⟩ = some (.int .i64 n) ∧ W.cell? ⟨g, 2, none⟩ = some (.int .i64 0) ∧ W.cell? ⟨g, 3, none⟩ = some (.int .i64 0) ∧ W.cell? ⟨g, 4, none⟩ = some (.bool true) ∧ t < W.heap.size ∧ g < W.heap.size := fun W hB => by
    have h1 := heap_below hB hT2.h
    have h2 := heap_below hB hg2
    rw [hl1] at h1
    exact ⟨cell_heap h1 0, frozen_heap h1 0, cell_heap h2 0, cell_heap h2 1, cell_heap h2 2, cell_heap h2 3, cell_heap h2 4, heap_lt h1, heap_lt h2⟩
  have hfl1 : f < L1.length := by rw [hl1, HM.out]; exact HFL.out
  obtain ⟨b', cap', hv, hb, hbw2, p0, p1, p2, p3, p4⟩ := NL.cell hT2.l (List.getElem?_eq_getElem hfl1)
  obtain rfl : b = b' := by injection hv with h1 h2 h3; simpa using h1
  have q0 : W2.frozen? ⟨b, f * 5, none⟩ = false := frozen_n hT2.l _
  have q1 : W2.frozen? ⟨b, f * 5 + 1, none⟩ = false := frozen_n hT2.l _
  have q2 : W2.frozen? ⟨b, f * 5 + 2, none⟩ = false := frozen_n hT2.l _
  have q3 : W2.frozen? ⟨b, f * 5 + 3, none⟩ = false := frozen_n hT2.l _
  have q4 : W2.frozen? ⟨b, f * 5 + 4, none⟩ = false := frozen_n hT2.l _
  generalize L1[f] = df at p0 p1 p2 p3 p4
  have HFL1 := Lib.hid hfl1
  clear hv hb hfl1
  have HSH := Lib.hid hhs
  have HT2 := Lib.hid hT2
  have HU2 := Lib.hid hu2
  have HLL := Lib.hid hLL
  have HL1B := Lib.hid hl1
  obtain ⟨x0, x1, x2, x3, x4, x5, x6, x7, x8⟩ := hhs W2 (Below.refl _ _)
  have hl1m : L1.length ≤ 1000 := by omega
  clear hhs hT2 hu2 hLL hl1 hg hW2 hg2 fz c0 e3 hbw
  go_region
  all_goals
    go_wp2_with fail
    go_returns
    refine ⟨rfl, (HU2.out.trans (upd_node HT2.out.ttb _ _ _ _ _)).then_below ((Below.refl _ _).drew), .slice (some ⟨b, 0, none⟩) (L1.set f ⟨k, n, 0, 0, true⟩).length cap, ?_⟩
    rw [← HLL.out]
    exact (HT2.out.setNode HFL1.out ⟨k, n, 0, 0, true⟩).below ((Below.refl _ _).drew)
theorem child_none {w : World} {base t : Nat} {v : Value} {L : List ND} (h : TreeAt w base t v L) (i n : Int) (hi : liveAt L i = none) :
    Calls Try.prog 10 #[.pointer (some ⟨t, 0, none⟩), .int .i64 i, .int .i64 n] w fun e w' => e = .returned (.tuple #[.int .i64 0, .int .i64 5]) ∧ w' = w := by
  have HA := Lib.hid (at_none h i hi)
  clear h hi
  go_enter Try.func10, Try.ntmps10
  go_wp2_with fail
  refine HA.out.mono ?_
  rintro e w1 ⟨rfl, hw⟩
  obtain rfl := hw.symm
  clear hw
  go_wp2
  go_returns
  exact ⟨rfl, rfl⟩
set_option maxHeartbeats 1000000 in
theorem child_err {w : World} {base t : Nat} {v : Value} {L : List ND} (h : TreeAt w base t v L) (hok : ∀ d ∈ L, d.ok) {k : Nat} {d : ND} (hk : L[k]? = some d) (hd : d.live = true) (n : Int) (h0 : n < 0 ∨ d.quota - d.used - d.lent < n) :
    Calls Try.prog 10 #[.pointer (some ⟨t, 0, none⟩), .int .i64 k, .int .i64 n] w fun e w' => e = .returned (.tuple #[.int .i64 0, .int .i64 (if n < 0 then 1 else 8)]) ∧ Below w.heap.size w w' := by
  have hlv : liveAt L (k : Int) = some d := by unfold liveAt; rw [if_pos (Int.natCast_nonneg _), Int.toNat_natCast, hk]; simp [hd]
  have hrm : roomF L k = d.quota - d.used - d.lent := by unfold roomF; rw [hlv]
  have HA := Lib.hid (at_some h k d hk hd)
  have HRM_ := fun (W : World) (hb : Below w.heap.size w W) => room_any (h.below hb) hok k
  rw [hrm] at HRM_
  obtain ⟨rm, hrm2⟩ : ∃ r, r = d.quota - d.used - d.lent := ⟨_, rfl⟩
  rw [← hrm2] at HRM_ h0
  have HRM := Lib.hid HRM_
  clear h hok hk hlv hrm HRM_ hrm2
  by_cases hn : n < 0
  · have d1 : decide (n < 0) = true := decide_eq_true hn
    rw [if_pos hn]
    clear hn h0
    go_enter Try.func10, Try.ntmps10
    go_wp2_with fail
    refine HA.out.mono ?_
    rintro e w1 ⟨b', cap', rfl, hv', hw⟩
    obtain rfl := hw.symm
    clear hw hv'
    go_wp2
    go_returns
    exact ⟨rfl, Below.refl _ _⟩
  · have d1 : decide (n < 0) = false := decide_eq_false hn
    have d2 : decide (rm < n) = true := decide_eq_true (by omega)
    rw [if_neg hn]
    clear hn h0
    go_enter Try.func10, Try.ntmps10
    go_wp2_with fail
    refine HA.out.mono ?_
    rintro e w1 ⟨b', cap', rfl, hv', hw⟩
    obtain rfl := hw.symm
    clear hw hv'
    go_wp2_with fail
    refine (HRM.out _ (Below.refl _ _)).mono ?_
    rintro e w2 ⟨rfl, hb2⟩
    go_wp2
    go_returns
    exact ⟨rfl, hb2⟩
set_option maxHeartbeats 1000000 in
theorem child_big {w : World} {base t : Nat} {v : Value} {L : List ND} (h : TreeAt w base t v L) (hok : ∀ d ∈ L, d.ok) (hlen : 64 ≤ L.length) {k : Nat} {d : ND} (hk : L[k]? = some d) (hd : d.live = true) (n : Int) (h0 : 0 ≤ n) (h1 : n ≤ d.quota - d.used - d.lent) (hf : freeF L 0 = -1) :
    Calls Try.prog 10 #[.pointer (some ⟨t, 0, none⟩), .int .i64 k, .int .i64 n] w fun e w' => e = .returned (.tuple #[.int .i64 0, .int .i64 4]) ∧ Below w.heap.size w w' := by
  obtain ⟨A, cap, rfl⟩ := NL.form h.l
  have hlv : liveAt L (k : Int) = some d := by unfold liveAt; rw [if_pos (Int.natCast_nonneg _), Int.toNat_natCast, hk]; simp [hd]
  have hrm : roomF L k = d.quota - d.used - d.lent := by unfold roomF; rw [hlv]
  have HA := Lib.hid (at_some h k d hk hd)
  have HRM_ := fun (W : World) (hb : Below w.heap.size w W) => room_any (h.below hb) hok k
  have HFR_ := fun (W : World) (hb : Below w.heap.size w W) => free_any (h.below hb).l (h.len)
  rw [hrm] at HRM_
  rw [hf] at HFR_
  obtain ⟨rm, hrm2⟩ : ∃ r, r = d.quota - d.used - d.lent := ⟨_, rfl⟩
  rw [← hrm2] at HRM_ h1
  have HRM := Lib.hid HRM_
  have d1 : decide (n < 0) = false := decide_eq_false (by omega)
  have d2 : decide (rm < n) = false := decide_eq_false (by omega)
  have H := Lib.hid h
  obtain ⟨m, hm⟩ : ∃ m, m = L.length := ⟨_, rfl⟩
  have hmb : (m : Int) < 1000000 := by have := h.len; omega
  have d3 : decide ((64 : Int) ≤ (m : Int)) = true := decide_eq_true (by omega)
  have d3b : decide (64 ≤ m) = true := decide_eq_true (by omega)
  rw [← hm] at HFR_
  have HFR := Lib.hid HFR_
  have HM := Lib.hid hm
  clear h hok hk hlv hrm HRM_ HFR_ hrm2 h0 h1 hf hlen hm
  go_enter Try.func10, Try.ntmps10
  go_wp2_with fail
  refine HA.out.mono ?_
  rintro e w1 ⟨b', cap', rfl, hv', hw⟩
  obtain rfl := hw.symm
  clear hw hv'
  go_wp2_with fail
  refine (HRM.out _ (Below.refl _ _)).mono ?_
  rintro e w2 ⟨rfl, hb2⟩
  have HB2 := Lib.hid hb2
  have c0 : w2.cell? ⟨t, 0, none⟩ = some (.slice A m cap) := by rw [HM.out]; exact cell_heap (H.out.below HB2.out).h 0
  clear hb2
  go_wp2_with fail
  refine (HFR.out _ HB2.out).mono ?_
  rintro e w3 ⟨rfl, hb3⟩
  have HB3 := Lib.hid (b_then HB2.out hb3)
  have c0 : w3.cell? ⟨t, 0, none⟩ = some (.slice A m cap) := by rw [HM.out]; exact cell_heap (H.out.below HB3.out).h 0
  clear hb3
  go_wp2_with fail
  go_returns
  exact ⟨rfl, HB3.out⟩
end Go.Proofs.Ytgnkgfejnnkkaaa
