/- The package quota (layer 8): the tree told by a plain list of nodes; at, Room. No condition but a bound on the list's length. -/
import Derived.Test.YtgnkgfejnnkkaaaApp
import Derived.Test.YtgnkgfejnnkkaaaTch
import Derived.Laws.OwnMore
import Derived.OwnWalk
import Derived.Lib.Hide
import Derived.Deep.QuietTactic
import Derived.BigQuiet
namespace Go.Proofs.Ytgnkgfejnnkkaaa
open Go.ChangeShapes Go.WideShapes Go.ChangeAt Go.RowKit
set_option linter.unusedVariables false
set_option linter.unusedSimpArgs false
structure ND where
  parent : Int
  quota : Int
  used : Int
  lent : Int
  live : Bool
def ND.cs (d : ND) : List Value := [.int .i64 d.parent, .int .i64 d.quota, .int .i64 d.used, .int .i64 d.lent, .bool d.live]
def ncells : List ND → List Value
  | [] => []
  | d :: r => .int .i64 d.parent :: .int .i64 d.quota :: .int .i64 d.used :: .int .i64 d.lent :: .bool d.live :: ncells r
theorem ncells_length : ∀ L, (ncells L).length = L.length * 5
  | [] => rfl
  | d :: r => by simp [ncells, ncells_length r]; omega
theorem ncells_at : ∀ (L : List ND) (k : Nat) (d : ND), L[k]? = some d → (ncells L)[k * 5]? = some (.int .i64 d.parent) ∧ (ncells L)[k * 5 + 1]? = some (.int .i64 d.quota) ∧ (ncells L)[k * 5 + 2]? = some (.int .i64 d.used) ∧ (ncells L)[k * 5 + 3]? = some (.int .i64 d.lent) ∧ (ncells L)[k * 5 + 4]? = some (.bool d.live)
  | [], k, g, h => by simp at h
  | x :: r, 0, g, h => by simp at h; subst h; exact ⟨rfl, rfl, rfl, rfl, rfl⟩
  | x :: r, k + 1, g, h => by
    have := ncells_at r k g (by simpa using h)
    rw [show (k + 1) * 5 = k * 5 + 1 + 1 + 1 + 1 + 1 by omega]
    simpa [ncells] using this
def NL (w : World) (base : Nat) (v : Value) (L : List ND) : Prop := w.ownsRow base 39 5 v L.length (ncells L)
theorem NL.cell {w : World} {base : Nat} {v : Value} {L : List ND} (h : NL w base v L) {k : Nat} {d : ND} (hk : L[k]? = some d) :
    ∃ b cap, v = .slice (some ⟨b, 0, none⟩) L.length cap ∧ base ≤ b ∧ b < w.heap.size ∧ w.cell? ⟨b, k * 5, none⟩ = some (.int .i64 d.parent) ∧ w.cell? ⟨b, k * 5 + 1, none⟩ = some (.int .i64 d.quota) ∧ w.cell? ⟨b, k * 5 + 2, none⟩ = some (.int .i64 d.used) ∧ w.cell? ⟨b, k * 5 + 3, none⟩ = some (.int .i64 d.lent) ∧ w.cell? ⟨b, k * 5 + 4, none⟩ = some (.bool d.live) := by
  have hlt : k < L.length := (List.getElem?_eq_some_iff.1 hk).1
  have h' := h
  rcases h.2 with ⟨_, h0⟩ | ⟨b, cap, cur, rfl, hb, hg, _⟩
  · omega
  · obtain ⟨e0, e1, e2, e3, e4⟩ := ncells_at L k d hk
    exact ⟨b, cap, rfl, hb, heap_lt hg, (World.ownsRow.cellAt h' _ (by omega)).trans e0, (World.ownsRow.cellAt h' _ (by omega)).trans e1, (World.ownsRow.cellAt h' _ (by omega)).trans e2, (World.ownsRow.cellAt h' _ (by omega)).trans e3, (World.ownsRow.cellAt h' _ (by omega)).trans e4⟩
theorem NL.form {w : World} {base : Nat} {v : Value} {L : List ND} (h : NL w base v L) : ∃ A cap, v = .slice A L.length cap := by
  rcases h.2 with ⟨h1, h0⟩ | ⟨b, cap, cur, rfl, _⟩
  · rw [h0]; exact ⟨none, 0, h1⟩
  · exact ⟨_, _, rfl⟩
/-- The tree's header is block t; its own blocks lie from base on. -/
structure TreeAt (W : World) (base t : Nat) (v : Value) (L : List ND) : Prop where
  h : W.heap[t]? = some (.cells #[v] 52 (0, 0))
  l : NL W base v L
  b : base ≤ t
  len : L.length < 1000000
theorem TreeAt.below {W W' : World} {base t : Nat} {v : Value} {L : List ND} (h : TreeAt W base t v L) (hb : Below W.heap.size W W') : TreeAt W' base t v L := by
  refine ⟨(hb.block _ (heap_lt h.h)).trans h.h, ?_, h.b, h.len⟩
  refine ⟨h.l.1, ?_⟩
  rcases h.l.2 with h1 | ⟨b, cap, cur, rfl, h2, hg, h3⟩
  · exact .inl h1
  · exact .inr ⟨b, cap, cur, rfl, h2, (hb.block b (heap_lt hg)).trans hg, h3⟩
def liveAt (L : List ND) (i : Int) : Option ND := if 0 ≤ i then (match L[i.toNat]? with | some d => if d.live then some d else none | none => none) else none
set_option maxHeartbeats 1000000 in
theorem at_none {w : World} {base t : Nat} {v : Value} {L : List ND} (h : TreeAt w base t v L) (i : Int) (hi : liveAt L i = none) :
    Calls Try.prog 20 #[.pointer (some ⟨t, 0, none⟩), .int .i64 i] w fun e w' => e = .returned (.tuple #[.pointer none, .bool false]) ∧ w' = w := by
  obtain ⟨A, cap, rfl⟩ := NL.form h.l
  have c0 : w.cell? ⟨t, 0, none⟩ = some (.slice A L.length cap) := cell_heap h.h 0
  have hl := h.len
  by_cases h0 : i < 0
  · have d1 : decide (i < 0) = true := decide_eq_true h0
    clear h h0 hi
    go_enter Try.func20, Try.ntmps20
    go_wp2
    go_returns
    exact ⟨rfl, rfl⟩
  · have d1 : decide (i < 0) = false := decide_eq_false h0
    obtain ⟨k, rfl⟩ : ∃ k : Nat, i = k := ⟨i.toNat, by omega⟩
    by_cases h1 : k < L.length
    · have d2 : decide ((L.length : Int) ≤ (k : Int)) = false := decide_eq_false (by omega)
      have d2b : decide (L.length ≤ k) = false := decide_eq_false (by omega)
      have d3 : (k : Int) < (L.length : Int) := by omega
      obtain ⟨b, cap', hv, hb, hbw, e0, e1, e2, e3, e4⟩ := NL.cell h.l (List.getElem?_eq_getElem h1)
      obtain ⟨rfl, _, rfl⟩ : A = some ⟨b, 0, none⟩ ∧ L.length = L.length ∧ cap = cap' := by simpa using hv
      have hlv : L[k].live = false := by
        unfold liveAt at hi
        rw [if_pos (Int.natCast_nonneg _), Int.toNat_natCast, List.getElem?_eq_getElem h1] at hi
        simp only at hi
        split at hi
        · cases hi
        · rename_i hh; simpa using hh
      rw [hlv] at e4
      obtain ⟨len, hn⟩ : ∃ n, n = L.length := ⟨_, rfl⟩
      rw [← hn] at c0 d2 d2b d3 hl
      clear h hi hv hn hlv e0 e1 e2 e3 h0 h1
      go_enter Try.func20, Try.ntmps20
      go_wp2
      go_returns
      exact ⟨rfl, rfl⟩
    · have d2 : decide ((L.length : Int) ≤ (k : Int)) = true := decide_eq_true (by omega)
      have d2b : decide (L.length ≤ k) = true := decide_eq_true (by omega)
      obtain ⟨len, hn⟩ : ∃ n, n = L.length := ⟨_, rfl⟩
      rw [← hn] at c0 d2 d2b hl
      clear h hi hn h0 h1
      go_enter Try.func20, Try.ntmps20
      go_wp2
      go_returns
      exact ⟨rfl, rfl⟩
set_option maxHeartbeats 1000000 in
theorem at_some {w : World} {base t : Nat} {v : Value} {L : List ND} (h : TreeAt w base t v L) (k : Nat) (d : ND) (hk : L[k]? = some d) (hd : d.live = true) :
    Calls Try.prog 20 #[.pointer (some ⟨t, 0, none⟩), .int .i64 k] w fun e w' => ∃ b cap, e = .returned (.tuple #[.pointer (some ⟨b, k * 5, none⟩), .bool true]) ∧ v = .slice (some ⟨b, 0, none⟩) L.length cap ∧ w' = w := by
  obtain ⟨b, cap, rfl, hb, hbw, e0, e1, e2, e3, e4⟩ := NL.cell h.l hk
  have c0 : w.cell? ⟨t, 0, none⟩ = some (.slice (some ⟨b, 0, none⟩) L.length cap) := cell_heap h.h 0
  have hl := h.len
  have h1 : k < L.length := (List.getElem?_eq_some_iff.1 hk).1
  have d1 : decide ((k : Int) < 0) = false := decide_eq_false (by omega)
  have d2 : decide ((L.length : Int) ≤ (k : Int)) = false := decide_eq_false (by omega)
  have d2b : decide (L.length ≤ k) = false := decide_eq_false (by omega)
  have d3 : (k : Int) < (L.length : Int) := by omega
  rw [hd] at e4
  obtain ⟨len, hn⟩ : ∃ n, n = L.length := ⟨_, rfl⟩
  rw [← hn] at c0 d2 d2b d3 hl
  have HN := Lib.hid hn
  clear h hk hd hn e0 e1 e2 e3 h1
  go_enter Try.func20, Try.ntmps20
  go_wp2
  go_returns
  exact ⟨b, cap, rfl, rfl, rfl⟩
def roomF (L : List ND) (i : Int) : Int := match liveAt L i with | some d => d.quota - d.used - d.lent | none => 0
/-- The numbers of a node lie in bounds. -/
def ND.ok (d : ND) : Prop := 0 ≤ d.used ∧ 0 ≤ d.lent ∧ d.used + d.lent ≤ d.quota ∧ d.quota ≤ 1048576
theorem live_some {L : List ND} {i : Int} {d : ND} (h : liveAt L i = some d) : ∃ k : Nat, i = k ∧ L[k]? = some d ∧ d.live = true := by
  unfold liveAt at h
  split at h
  · rename_i h0
    refine ⟨i.toNat, by omega, ?_⟩
    cases hg : L[i.toNat]? with
    | none => rw [hg] at h; cases h
    | some d' =>
      rw [hg] at h
      simp only at h
      split at h
      · rename_i hl
        cases h
        exact ⟨rfl, hl⟩
      · cases h
  · cases h
set_option maxHeartbeats 1000000 in
theorem room_any {w : World} {base t : Nat} {v : Value} {L : List ND} (h : TreeAt w base t v L) (hok : ∀ d ∈ L, d.ok) (i : Int) :
    Calls Try.prog 11 #[.pointer (some ⟨t, 0, none⟩), .int .i64 i] w fun e w' => e = .returned (.int .i64 (roomF L i)) ∧ Below w.heap.size w w' := by
  cases hl : liveAt L i with
  | none =>
    have HA := Lib.hid (at_none h i hl)
    have HR : Hid (roomF L i = 0) := Lib.hid (by unfold roomF; rw [hl])
    clear h hok hl
    go_enter Try.func11, Try.ntmps11
    go_wp2_with fail
    refine HA.out.mono ?_
    rintro e w1 ⟨rfl, hw⟩
    obtain rfl := hw.symm
    clear hw
    go_wp2
    go_returns
    exact ⟨ret_v (by rw [HR.out]; rfl), Below.refl _ _⟩
  | some d =>
    obtain ⟨k, rfl, hk, hd⟩ := live_some hl
    obtain ⟨o1, o2, o3, o4⟩ := hok d (List.mem_of_getElem? hk)
    have HA := Lib.hid (at_some h k d hk hd)
    obtain ⟨b, cap, hv, hb, hbw, e0, e1, e2, e3, e4⟩ := NL.cell h.l hk
    obtain ⟨dp, dq, du, dl, dv⟩ := d
    simp only at o1 o2 o3 o4 e0 e1 e2 e3 e4
    have HR : Hid (roomF L k = dq - du - dl) := Lib.hid (by unfold roomF; rw [hl])
    have s1 : IntKind.i64.wrap (dq - du) = dq - du := by rw [IntKind.wrap_i64]; omega
    have s2 : IntKind.i64.wrap (dq - du - dl) = dq - du - dl := by rw [IntKind.wrap_i64]; omega
    have HV := Lib.hid hv
    clear h hok hl hk hd hv o1 o2 o3 o4
    go_enter Try.func11, Try.ntmps11
    go_wp2_with fail
    refine HA.out.mono ?_
    rintro e w1 ⟨b', cap', rfl, hv', hw⟩
    obtain rfl := hw.symm
    have hvv := HV.out.symm.trans hv'
    obtain rfl : b = b' := by simpa using (by injection hvv with h1 h2 h3; simpa using h1 : b = b')
    clear hw hvv hv'
    go_wp2_with fail
    go_quiet (fail)
    go_wp2
    go_returns
    exact ⟨ret_v (by rw [HR.out]; rfl), below_drewN (Below.refl _ _) _⟩
end Go.Proofs.Ytgnkgfejnnkkaaa
