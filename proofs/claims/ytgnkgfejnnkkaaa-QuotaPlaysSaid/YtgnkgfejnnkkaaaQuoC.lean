/- Charge and Credit of the tree: the errors; Credit. No condition but bounds. -/
import Derived.Test.YtgnkgfejnnkkaaaQuoB
namespace Go.Proofs.Ytgnkgfejnnkkaaa
open Go.ChangeShapes Go.WideShapes Go.ChangeAt Go.RowKit
set_option linter.unusedVariables false
set_option linter.unusedSimpArgs false
theorem charge_none {w : World} {base t : Nat} {v : Value} {L : List ND} (h : TreeAt w base t v L) (i n : Int) (hi : liveAt L i = none) :
    Calls Try.prog 12 #[.pointer (some ⟨t, 0, none⟩), .int .i64 i, .int .i64 n] w fun e w' => e = .returned (.int .i64 5) ∧ w' = w := by
  have HA := Lib.hid (at_none h i hi)
  clear h hi
  go_enter Try.func12, Try.ntmps12
  go_wp2_with fail
  refine HA.out.mono ?_
  rintro e w1 ⟨rfl, hw⟩
  obtain rfl := hw.symm
  clear hw
  go_wp2
  go_returns
  exact ⟨rfl, rfl⟩
theorem credit_none {w : World} {base t : Nat} {v : Value} {L : List ND} (h : TreeAt w base t v L) (i n : Int) (hi : liveAt L i = none) :
    Calls Try.prog 15 #[.pointer (some ⟨t, 0, none⟩), .int .i64 i, .int .i64 n] w fun e w' => e = .returned (.int .i64 5) ∧ w' = w := by
  have HA := Lib.hid (at_none h i hi)
  clear h hi
  go_enter Try.func15, Try.ntmps15
  go_wp2_with fail
  refine HA.out.mono ?_
  rintro e w1 ⟨rfl, hw⟩
  obtain rfl := hw.symm
  clear hw
  go_wp2
  go_returns
  exact ⟨rfl, rfl⟩
set_option maxHeartbeats 1000000 in
theorem charge_err {w : World} {base t : Nat} {v : Value} {L : List ND} (h : TreeAt w base t v L) (hok : ∀ d ∈ L, d.ok) {k : Nat} {d : ND} (hk : L[k]? = some d) (hd : d.live = true) (n : Int) (h0 : n < 0 ∨ d.quota - d.used - d.lent < n) :
    Calls Try.prog 12 #[.pointer (some ⟨t, 0, none⟩), .int .i64 k, .int .i64 n] w fun e w' => e = .returned (.int .i64 (if n < 0 then 1 else 8)) ∧ Below w.heap.size w w' := by
  have hlv : liveAt L (k : Int) = some d := by unfold liveAt; rw [if_pos (Int.natCast_nonneg _), Int.toNat_natCast, hk]; simp [hd]
  have hrm : roomF L k = d.quota - d.used - d.lent := by unfold roomF; rw [hlv]
  have HA := Lib.hid (at_some h k d hk hd)
  have HRM_ := fun (W : World) (hb : Below w.heap.size w W) => room_any (h.below hb) hok k
  rw [hrm] at HRM_
  obtain ⟨rm, hrm2⟩ : ∃ r, r = d.quota - d.used - d.lent := ⟨_, rfl⟩
  rw [← hrm2] at HRM_ h0
  have HRM := Lib.hid HRM_
  clear h hok hk hlv hrm HRM_ hrm2
  by_cases hn : n < 0
  · have d1 : decide (n < 0) = true := decide_eq_true hn
    rw [if_pos hn]
    clear hn h0
    go_enter Try.func12, Try.ntmps12
    go_wp2_with fail
    refine HA.out.mono ?_
    rintro e w1 ⟨b', cap', rfl, hv', hw⟩
    obtain rfl := hw.symm
    clear hw hv'
    go_wp2
    go_returns
    exact ⟨rfl, Below.refl _ _⟩
  · have d1 : decide (n < 0) = false := decide_eq_false hn
    have d2 : decide (rm < n) = true := decide_eq_true (by omega)
    rw [if_neg hn]
    clear hn h0
    go_enter Try.func12, Try.ntmps12
    go_wp2_with fail
    refine HA.out.mono ?_
    rintro e w1 ⟨b', cap', rfl, hv', hw⟩
    obtain rfl := hw.symm
    clear hw hv'
    go_wp2_with fail
    refine (HRM.out _ (Below.refl _ _)).mono ?_
    rintro e w2 ⟨rfl, hb2⟩
    go_wp2
    go_returns
    exact ⟨rfl, hb2⟩
set_option maxHeartbeats 1000000 in
theorem credit_ok {w : World} {base t b cap : Nat} {L : List ND} (h : TreeAt w base t (.slice (some ⟨b, 0, none⟩) L.length cap) L) (hok : ∀ d ∈ L, d.ok) {k : Nat} {d : ND} (hk : L[k]? = some d) (hd : d.live = true) (n : Int) (h0 : 0 ≤ n) (h1 : n ≤ d.used) :
    Calls Try.prog 15 #[.pointer (some ⟨t, 0, none⟩), .int .i64 k, .int .i64 n] w fun e w' => e = .returned (.int .i64 0) ∧ Touch (fun j => j = b) w w' ∧ TreeAt w' base t (.slice (some ⟨b, 0, none⟩) (L.set k { d with used := d.used - n }).length cap) (L.set k { d with used := d.used - n }) := by
  have HA := Lib.hid (at_some h k d hk hd)
  obtain ⟨o1, o2, o3, o4⟩ := hok d (List.mem_of_getElem? hk)
  have d1 : decide (n < 0) = false := decide_eq_false (by omega)
  have d2 : decide (d.used < n) = false := decide_eq_false (by omega)
  have s1 : IntKind.i64.wrap (d.used - n) = d.used - n := by rw [IntKind.wrap_i64]; omega
  obtain ⟨b', cap', hv, hb, hbw, e0, e1, e2, e3, e4⟩ := NL.cell h.l hk
  obtain rfl : b = b' := by injection hv with h1 h2 h3; simpa using h1
  have fz : w.frozen? ⟨b, k * 5 + 2, none⟩ = false := by
    rcases h.l.2 with ⟨h1, _⟩ | ⟨g, cap'', cur, hv2, _, hg, _⟩
    · cases h1
    · obtain rfl : b = g := by injection hv2 with h1 h2 h3; simpa using h1
      exact frozen_of_row w b _ cur _ hg
  have HT := Lib.hid ((Touch.refl (fun j => j = b) w).setCell (a := ⟨b, k * 5 + 2, none⟩) (.inl rfl) (.int .i64 (d.used - n)))
  have HU := Lib.hid (h.used h.ne hk (d.used - n))
  clear h hok hk hv hb e0 e1 e3 e4 o1 o2 o3 o4 h0 h1
  go_enter Try.func15, Try.ntmps15
  go_wp2_with fail
  refine HA.out.mono ?_
  rintro e w1 ⟨b', cap', rfl, hv', hw⟩
  obtain rfl := hw.symm
  obtain rfl : b = b' := by injection hv' with h1 h2 h3; simpa using h1
  clear hw hv' HA
  go_wp2
  go_returns
  exact ⟨rfl, HT.out, HU.out⟩
end Go.Proofs.Ytgnkgfejnnkkaaa
