/- A field of a node is stored; Charge and Credit of the tree. No condition but bounds. -/
import Derived.Test.YtgnkgfejnnkkaaaQuoA
import Derived.Laws.Rows
namespace Go.Proofs.Ytgnkgfejnnkkaaa
open Go.ChangeShapes Go.WideShapes Go.ChangeAt Go.RowKit
set_option linter.unusedVariables false
set_option linter.unusedSimpArgs false
/-- A row's cell is stored. -/
theorem owns_set {w : World} {base size n cap b : Nat} {e : TypeId} {xs : List Value} (h : w.ownsRow base e size (.slice (some ⟨b, 0, none⟩) n cap) n xs) {j : Nat} (hj : j < n * size) (u : Value) :
    (w.setCell ⟨b, j, none⟩ u).ownsRow base e size (.slice (some ⟨b, 0, none⟩) n cap) n (xs.set j u) := by
  refine ⟨by rw [List.length_set]; exact h.1, .inr ?_⟩
  rcases h.2 with ⟨h1, h0⟩ | ⟨g, cap', cur, hv, h2, hg, h3, h4, h5, h6⟩
  · cases h1
  · obtain ⟨rfl, rfl⟩ : b = g ∧ cap = cap' := by simpa using hv
    refine ⟨b, cap, cur.setIfInBounds j u, rfl, h2, heap_setCell_same w b j cur _ u hg, h3, h4, by simpa using h5, ?_⟩
    rw [Array.toList_setIfInBounds, List.take_set, h6]
theorem ncells_set2 : ∀ (L : List ND) (k : Nat) (d : ND) (u : Int), L[k]? = some d → (ncells L).set (k * 5 + 2) (.int .i64 u) = ncells (L.set k { d with used := u })
  | [], k, d, u, h => by simp at h
  | x :: r, 0, d, u, h => by simp at h; subst h; rfl
  | x :: r, k + 1, d, u, h => by
    have := ncells_set2 r k d u (by simpa using h)
    rw [show (k + 1) * 5 + 2 = k * 5 + 2 + 1 + 1 + 1 + 1 + 1 by omega]
    simp only [ncells, List.set_cons_succ]
    rw [this]
theorem TreeAt.used {w : World} {base t b cap : Nat} {L : List ND} (h : TreeAt w base t (.slice (some ⟨b, 0, none⟩) L.length cap) L) (hne : t ≠ b) {k : Nat} {d : ND} (hk : L[k]? = some d) (u : Int) :
    TreeAt (w.setCell ⟨b, k * 5 + 2, none⟩ (.int .i64 u)) base t (.slice (some ⟨b, 0, none⟩) (L.set k { d with used := u }).length cap) (L.set k { d with used := u }) := by
  have hlt : k < L.length := (List.getElem?_eq_some_iff.1 hk).1
  refine ⟨?_, ?_, h.b, by rw [List.length_set]; exact h.len⟩
  · rw [heap_setCell_other _ _ _ _ hne, List.length_set]; exact h.h
  · unfold NL
    rw [List.length_set, ← ncells_set2 L k d u hk]
    exact owns_set h.l (by omega) _
theorem TreeAt.ne {w : World} {base t b cap : Nat} {L : List ND} (h : TreeAt w base t (.slice (some ⟨b, 0, none⟩) L.length cap) L) : t ≠ b := by
  rintro rfl
  rcases h.l.2 with ⟨h1, _⟩ | ⟨g, cap', cur, hv, h2, hg, _⟩
  · cases h1
  · obtain ⟨rfl, rfl⟩ : t = g ∧ cap = cap' := by simpa using hv
    rw [h.h] at hg
    have := Option.some.inj hg
    injection this with h1 h2 h3
    exact absurd h2 (by decide)
set_option maxHeartbeats 1000000 in
theorem charge_ok {w : World} {base t b cap : Nat} {L : List ND} (h : TreeAt w base t (.slice (some ⟨b, 0, none⟩) L.length cap) L) (hok : ∀ d ∈ L, d.ok) {k : Nat} {d : ND} (hk : L[k]? = some d) (hd : d.live = true) (n : Int) (h0 : 0 ≤ n) (h1 : n ≤ d.quota - d.used - d.lent) :
    Calls Try.prog 12 #[.pointer (some ⟨t, 0, none⟩), .int .i64 k, .int .i64 n] w fun e w' => e = .returned (.int .i64 0) ∧ Touch (fun j => j = b) w w' ∧ TreeAt w' base t (.slice (some ⟨b, 0, none⟩) (L.set k { d with used := d.used + n }).length cap) (L.set k { d with used := d.used + n }) := by
  have hlv : liveAt L (k : Int) = some d := by unfold liveAt; rw [if_pos (Int.natCast_nonneg _), Int.toNat_natCast, hk]; simp [hd]
  have hrm : roomF L k = d.quota - d.used - d.lent := by unfold roomF; rw [hlv]
  have HA := Lib.hid (at_some h k d hk hd)
  have HRM_ := fun (W : World) (hb : Below w.heap.size w W) => room_any (h.below hb) hok k
  rw [hrm] at HRM_
  obtain ⟨rm, hrm2⟩ : ∃ r, r = d.quota - d.used - d.lent := ⟨_, rfl⟩
  rw [← hrm2] at HRM_ h1
  have HRM := Lib.hid HRM_
  obtain ⟨o1, o2, o3, o4⟩ := hok d (List.mem_of_getElem? hk)
  have d1 : decide (n < 0) = false := decide_eq_false (by omega)
  have d2 : decide (rm < n) = false := decide_eq_false (by omega)
  have s1 : IntKind.i64.wrap (d.used + n) = d.used + n := by rw [IntKind.wrap_i64]; omega
  have H := Lib.hid h
  have HK := Lib.hid hk
  have HNE := Lib.hid h.ne
  clear h hok hk hlv hrm HRM_ hrm2 o1 o2 o3 o4 h0 h1
  go_enter Try.func12, Try.ntmps12
  go_wp2_with fail
  refine HA.out.mono ?_
  rintro e w1 ⟨b', cap', rfl, hv', hw⟩
  obtain rfl := hw.symm
  obtain rfl : b = b' := by injection hv' with h1 h2 h3; simpa using h1
  clear hw hv'
  go_wp2_with fail
  refine (HRM.out _ (Below.refl _ _)).mono ?_
  rintro e w2 ⟨rfl, hb2⟩
  have H2 := Lib.hid (H.out.below hb2)
  obtain ⟨b', cap', hv, hb, hbw, e0, e1, e2, e3, e4⟩ := NL.cell H2.out.l HK.out
  obtain rfl : b = b' := by injection hv with h1 h2 h3; simpa using h1
  have fz : w2.frozen? ⟨b, k * 5 + 2, none⟩ = false := by
    rcases H2.out.l.2 with ⟨h1, _⟩ | ⟨g, cap'', cur, hv2, _, hg, _⟩
    · cases h1
    · obtain rfl : b = g := by injection hv2 with h1 h2 h3; simpa using h1
      exact frozen_of_row w2 b _ cur _ hg
  have HT := Lib.hid ((Touch.of_below hb2 (fun j => j = b)).setCell (a := ⟨b, k * 5 + 2, none⟩) (.inl rfl) (.int .i64 (d.used + n)))
  have HU := Lib.hid (H2.out.used HNE.out HK.out (d.used + n))
  clear hb2 hv hb e0 e1 e3 e4 HA
  go_wp2
  go_returns
  exact ⟨rfl, HT.out, HU.out⟩
end Go.Proofs.Ytgnkgfejnnkkaaa
