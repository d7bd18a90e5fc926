/- End of the tree. No condition but bounds. -/
import Derived.Test.YtgnkgfejnnkkaaaQuoL
namespace Go.Proofs.Ytgnkgfejnnkkaaa
open Go.ChangeShapes Go.WideShapes Go.ChangeAt Go.RowKit
set_option linter.unusedVariables false
set_option linter.unusedSimpArgs false
theorem end_none {w : World} {base t : Nat} {v : Value} {L : List ND} (h : TreeAt w base t v L) (i : Int) (hi : liveAt L i = none) :
    Calls Try.prog 19 #[.pointer (some ⟨t, 0, none⟩), .int .i64 i] w fun e w' => e = .returned (.int .i64 5) ∧ Below w.heap.size w w' := by
  have hst : Below w.heap.size w (w.alloc (.cells #[.int .i64 i] 3)) := (Below.refl _ _).alloc (Nat.le_refl _) _
  have HA := Lib.hid (at_none (h.below hst) i hi)
  clear h hi hst
  go_enter Try.func19, Try.ntmps19
  go_wp2_with fail
  refine HA.out.mono ?_
  rintro e w1 ⟨rfl, hw⟩
  obtain rfl := hw.symm
  clear hw
  go_wp2
  go_returns
  exact ⟨rfl, by go_grown⟩
theorem end_root {w : World} {base t : Nat} {v : Value} {L : List ND} (h : TreeAt w base t v L) {d : ND} (hk : L[0]? = some d) (hd : d.live = true) :
    Calls Try.prog 19 #[.pointer (some ⟨t, 0, none⟩), .int .i64 0] w fun e w' => e = .returned (.int .i64 5) ∧ Below w.heap.size w w' := by
  have hst : Below w.heap.size w (w.alloc (.cells #[.int .i64 0] 3)) := (Below.refl _ _).alloc (Nat.le_refl _) _
  have HA_ := at_some (h.below hst) 0 d hk hd
  have e0 : ((0 : Nat) : Int) = 0 := rfl
  rw [e0] at HA_
  have HA := Lib.hid HA_
  clear h hk hst HA_ e0
  go_enter Try.func19, Try.ntmps19
  go_wp2_with fail
  refine HA.out.mono ?_
  rintro e w1 ⟨b', cap', rfl, hv', hw⟩
  obtain rfl := hw.symm
  clear hw hv'
  go_wp2
  go_returns
  exact ⟨rfl, by go_grown⟩
set_option maxHeartbeats 1000000 in
theorem end_busy {w : World} {base t : Nat} {v : Value} {L : List ND} (h : TreeAt w base t v L) {k : Nat} {d : ND} (hk : L[k]? = some d) (hd : d.live = true) (hk0 : k ≠ 0) (hu : 0 ≤ d.used) (h0 : 0 < d.used ∨ 0 ≤ kidF k L 0) :
    Calls Try.prog 19 #[.pointer (some ⟨t, 0, none⟩), .int .i64 k] w fun e w' => e = .returned (.int .i64 11) ∧ Below w.heap.size w w' := by
  obtain ⟨W0, hW0⟩ : ∃ W, W = w.alloc (.cells #[.int .i64 k] 3) := ⟨_, rfl⟩
  have hst : Below w.heap.size w W0 := by rw [hW0]; exact (Below.refl _ _).alloc (Nat.le_refl _) _
  have h1 := h.below hst
  obtain ⟨bi, hbi⟩ : ∃ bi, bi = w.heap.size := ⟨_, rfl⟩
  have hci : W0.cell? ⟨bi, 0, none⟩ = some (.int .i64 k) := by rw [hW0, hbi]; exact cell_heap (heap_new _ _) 0
  have hbw : bi < W0.heap.size := World.block_lt_of_cell? W0 ⟨bi, 0, none⟩ hci
  have HA := Lib.hid (at_some h1 k d hk hd)
  obtain ⟨b, cap, hv, hb, hbw2, e0, e1, e2, e3, e4⟩ := NL.cell h1.l hk
  have HKI := Lib.hid (has_kid h1.l h1.len bi k hci hbw)
  have c0 : W0.cell? ⟨t, 0, none⟩ = some v := cell_heap h1.h 0
  have d1 : ((k : Int) == 0) = false := by simp; omega
  have HST := Lib.hid hst
  have HW0 := Lib.hid hW0
  have HV := Lib.hid hv
  have HBI := Lib.hid hbi
  by_cases hn : 0 < d.used
  · have d2 : decide (0 < d.used) = true := decide_eq_true hn
    clear h h1 hk hst hv hb e0 e1 e3 e4 h0 hu hn hbi hW0 hk0 HKI
    go_enter Try.func19, Try.ntmps19
    go_wp2_with fail
    rw [← HBI.out, ← HW0.out]
    refine HA.out.mono ?_
    rintro e w1 ⟨b', cap', rfl, hv', hw⟩
    obtain rfl := hw.symm
    have hvv := HV.out.symm.trans hv'
    obtain rfl : b = b' := by injection hvv with h1 h2 h3; simpa using h1
    clear hw hv' hvv
    go_wp2
    go_returns
    exact ⟨rfl, HST.out⟩
  · have d2 : d.used = 0 := by omega
    have d3 : decide (0 ≤ kidF k L 0) = true := decide_eq_true (by omega)
    rw [d3] at HKI
    rw [d2] at e2
    have d4 : decide ((0 : Int) < 0) = false := rfl
    clear h h1 hk hst hv hb e0 e1 e3 e4 h0 hu hn hbi hW0 hk0 d3 d2
    go_enter Try.func19, Try.ntmps19
    go_wp2_with fail
    rw [← HBI.out, ← HW0.out]
    refine HA.out.mono ?_
    rintro e w1 ⟨b', cap', rfl, hv', hw⟩
    obtain rfl := hw.symm
    have hvv := HV.out.symm.trans hv'
    obtain rfl : b = b' := by injection hvv with h1 h2 h3; simpa using h1
    clear hw hv' hvv
    go_wp2_with fail
    refine HKI.out.mono ?_
    rintro e w2 ⟨rfl, hb2⟩
    go_wp2
    go_returns
    exact ⟨rfl, b_then HST.out hb2⟩
set_option maxRecDepth 100000 in
set_option maxHeartbeats 4000000 in
theorem end_ok {w : World} {base t b cap : Nat} {L : List ND} (h : TreeAt w base t (.slice (some ⟨b, 0, none⟩) L.length cap) L) {k p : Nat} {d dp : ND} (hk : L[k]? = some d) (hd : d.live = true) (hk0 : k ≠ 0) (hu : d.used = 0) (hkid : kidF k L 0 < 0)
    (hp : L[p]? = some dp) (hdp : d.parent = p) (hpk : p ≠ k) (hb1 : -1048576 ≤ dp.lent - d.quota) (hb2 : dp.lent - d.quota ≤ 1048576) :
    Calls Try.prog 19 #[.pointer (some ⟨t, 0, none⟩), .int .i64 k] w fun e w' => e = .returned (.int .i64 0) ∧ Upd base w w' ∧ ∃ v', TreeAt w' base t v' ((L.set p { dp with lent := dp.lent - d.quota }).set k ⟨0, 0, 0, 0, false⟩) := by
  obtain ⟨W0, hW0⟩ : ∃ W, W = w.alloc (.cells #[.int .i64 k] 3) := ⟨_, rfl⟩
  have hst : Below w.heap.size w W0 := by rw [hW0]; exact (Below.refl _ _).alloc (Nat.le_refl _) _
  have h1 := h.below hst
  obtain ⟨bi, hbi⟩ : ∃ bi, bi = w.heap.size := ⟨_, rfl⟩
  have hci : W0.cell? ⟨bi, 0, none⟩ = some (.int .i64 k) := by rw [hW0, hbi]; exact cell_heap (heap_new _ _) 0
  have hbw : bi < W0.heap.size := World.block_lt_of_cell? W0 ⟨bi, 0, none⟩ hci
  have HA := Lib.hid (at_some h1 k d hk hd)
  obtain ⟨b', cap', hv, hb, hbw2, e0, e1, e2, e3, e4⟩ := NL.cell h1.l hk
  obtain rfl : b = b' := by injection hv with h1 h2 h3; simpa using h1
  have hki := has_kid h1.l h1.len bi k hci hbw
  rw [show decide (0 ≤ kidF k L 0) = false from decide_eq_false (by omega)] at hki
  rw [hu] at e2
  obtain ⟨m, hm⟩ : ∃ m, m = L.length := ⟨_, rfl⟩
  rw [← hm] at hki
  have HKI := Lib.hid hki
  have c0 : W0.cell? ⟨t, 0, none⟩ = some (.slice (some ⟨b, 0, none⟩) m cap) := by rw [hm]; exact cell_heap h1.h 0
  have d1 : ((k : Int) == 0) = false := by simp; omega
  have hplt : p < L.length := (List.getElem?_eq_some_iff.1 hp).1
  have hklt : k < L.length := (List.getElem?_eq_some_iff.1 hk).1
  have HST := Lib.hid hst
  have HW0 := Lib.hid hW0
  have HBI := Lib.hid hbi
  have H1 := Lib.hid h1
  have HK := Lib.hid hk
  have HP := Lib.hid hp
  have HM := Lib.hid hm
  have i1 : (p : Int) < (m : Int) := by omega
  have i2 : (0 : Int) ≤ (p : Int) := by omega
  have i3 : ¬ p * 5 + 3 = k * 5 := by omega
  rw [hdp] at e0
  have s1 : IntKind.i64.wrap (dp.lent - d.quota) = dp.lent - d.quota := by rw [IntKind.wrap_i64]; omega
  have HPK := Lib.hid hpk
  have HPL := Lib.hid hplt
  have HKL := Lib.hid hklt
  clear h h1 hk hst hv hb hbi hW0 hk0 hki hm hplt hklt hp hu hkid e3 e4
  go_enter Try.func19, Try.ntmps19
  go_wp2_with fail
  rw [← HBI.out, ← HW0.out]
  refine HA.out.mono ?_
  rintro e w1 ⟨b', cap', rfl, hv', hw⟩
  obtain rfl := hw.symm
  obtain rfl : b = b' := by injection hv' with h1 h2 h3; simpa using h1
  clear hw hv'

  go_wp2_with fail
  refine HKI.out.mono ?_
  rintro e w2 ⟨rfl, hbb⟩
  have HB2 := Lib.hid (b_then HST.out hbb)
  have H2 := Lib.hid (H1.out.below hbb)
  clear hbb e0 e1 e2 c0 hbw2
  have c0 : w2.cell? ⟨t, 0, none⟩ = some (.slice (some ⟨b, 0, none⟩) m cap) := by rw [HM.out]; exact cell_heap H2.out.h 0
  obtain ⟨b', cap', hv, hb, hbw2, e0, e1, e2, e3, e4⟩ := NL.cell H2.out.l HK.out
  obtain rfl : b = b' := by injection hv with h1 h2 h3; simpa using h1
  obtain ⟨b', cap', hv', hb', hbw3, f0, f1, f2, f3, f4⟩ := NL.cell H2.out.l HP.out
  obtain rfl : b = b' := by injection hv' with h1 h2 h3; simpa using h1
  rw [hdp] at e0
  have fz : ∀ j, w2.frozen? ⟨b, j, none⟩ = false := frozen_n H2.out.l
  have fz3 := fz (p * 5 + 3)
  clear hv hb hv' hb' f0 f1 f2 f4 e2 e3 e4
  go_wp2_with fail
  go_region
  obtain ⟨L1, hLL⟩ : ∃ L1, L1 = L.set p { dp with lent := dp.lent - d.quota } := ⟨_, rfl⟩
  obtain ⟨W3, hW3⟩ : ∃ W, W = (w2.setCell ⟨b, p * 5 + 3, none⟩ (.int .i64 (dp.lent - d.quota))).drew := ⟨_, rfl⟩
  rw [← hW3]
  have hl1 : L1.length = m := by rw [hLL, HM.out]; simp
  have hT3 : TreeAt W3 base t (.slice (some ⟨b, 0, none⟩) L1.length cap) L1 := by
    rw [hW3, hLL]
    exact (H2.out.setLent HP.out _).below ((Below.refl _ _).drew)
  have hu3 : Upd base w W3 := by
    have u1 : Upd base w2 (w2.setCell ⟨b, p * 5 + 3, none⟩ (.int .i64 (dp.lent - d.quota))) := Touch.setCell (Touch.refl _ _) (.inl H2.out.ttb) _
    rw [hW3]
    exact ((Upd.of_below HB2.out).trans u1).then_below ((Below.refl _ _).drew)
  have hk1 : k < L1.length := by rw [hl1, HM.out]; exact HKL.out
  obtain ⟨b', cap', hv, hb, hbw4, p0, p1, p2, p3, p4⟩ := NL.cell hT3.l (List.getElem?_eq_getElem hk1)
  obtain rfl : b = b' := by injection hv with h1 h2 h3; simpa using h1
  have q0 : W3.frozen? ⟨b, k * 5, none⟩ = false := frozen_n hT3.l _
  have q1 : W3.frozen? ⟨b, k * 5 + 1, none⟩ = false := frozen_n hT3.l _
  have q2 : W3.frozen? ⟨b, k * 5 + 2, none⟩ = false := frozen_n hT3.l _
  have q3 : W3.frozen? ⟨b, k * 5 + 3, none⟩ = false := frozen_n hT3.l _
  have q4 : W3.frozen? ⟨b, k * 5 + 4, none⟩ = false := frozen_n hT3.l _
  generalize L1[k] = df at p0 p1 p2 p3 p4
  have HT3 := Lib.hid hT3
  have HU3 := Lib.hid hu3
  have HLL := Lib.hid hLL
  have HK1 := Lib.hid hk1
  clear hv hb hW3 hT3 hu3 hLL hl1 hk1 fz fz3 c0 e0 e1 f3
  go_wp2_with fail
  go_returns
  refine ⟨rfl, HU3.out.trans (upd_node HT3.out.ttb _ _ _ _ _), .slice (some ⟨b, 0, none⟩) (L1.set k ⟨0, 0, 0, 0, false⟩).length cap, ?_⟩
  rw [← HLL.out]
  exact HT3.out.setNode HK1.out ⟨0, 0, 0, 0, false⟩
end Go.Proofs.Ytgnkgfejnnkkaaa
