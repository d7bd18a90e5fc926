/- Behind any calls: the loop that three laws have; charged and credited again. No condition. -/
import Derived.Test.YtgnkgfejnnkkaaaQuoX
namespace Go.Proofs.Ytgnkgfejnnkkaaa
open Go.ChangeShapes Go.WideShapes Go.ChangeAt Go.RowKit
set_option linter.unusedVariables false
set_option linter.unusedSimpArgs false
/-- Element k of the acts. -/
theorem act_row {w : World} {A : Option Addr} {len : Nat} (r : Rows_ w [.i .i64, .i .i64, .i .i64] A len) {k : Nat} (h : k < len) :
    ∃ b off x y z, A = some ⟨b, off, none⟩ ∧ b < w.heap.size ∧ w.cell? ⟨b, off + k * 3, none⟩ = some (.int .i64 x) ∧ w.cell? ⟨b, off + k * 3 + 1, none⟩ = some (.int .i64 y) ∧ w.cell? ⟨b, off + k * 3 + 2, none⟩ = some (.int .i64 z) := by
  obtain ⟨b, off, R, rfl, hb, hr⟩ := r.2 (by omega)
  obtain ⟨h3, h4⟩ := hr k h
  generalize hR : R k = cs at h3 h4
  obtain ⟨_, c1, rfl, ⟨x, rfl, _⟩, _, c2, rfl, ⟨y, rfl, _⟩, _, c3, rfl, ⟨z, rfl, _⟩, h6⟩ := h3
  exact ⟨b, off, x, y, z, rfl, hb, by simpa using h4 0 (by simp), by simpa using h4 1 (by simp), by simpa using h4 2 (by simp)⟩
/-- The tree lies there, and is one. -/
def TreeOk (root : Int) (base t : Nat) (w : World) (L : List ND) : Prop := TInv root L ∧ ∃ v, TreeAt w base t v L
theorem TreeOk.below {root : Int} {base t : Nat} {w w' : World} {L : List ND} (h : TreeOk root base t w L) (hb : Below w.heap.size w w') : TreeOk root base t w' L := ⟨h.1, h.2.elim fun v hv => ⟨v, hv.below hb⟩⟩
theorem does_nil {root : Int} {base t : Nat} {w : World} {L : List ND} (h : TreeOk root base t w L) (hb : base ≤ w.heap.size) (k i n : Int) :
    Calls Try.prog 13 #[.pointer (some ⟨t, 0, none⟩), .slice none 0 0, .agg #[.int .i64 k, .int .i64 i, .int .i64 n]] w fun e w' => ∃ v, e = .returned v ∧ Upd base w w' ∧ TreeOk root base t w' (doesL L k i n) := by
  obtain ⟨hi, v, hv⟩ := h
  refine (does_any hv hi (bxL.nil w base) BOK.nil hb k i n).mono ?_
  rintro e w' ⟨lv', rfl, hu, _, v', hv'⟩
  exact ⟨_, rfl, hu, hi.does k i n, v', hv'⟩
theorem charge_back {root : Int} {L : List ND} (hi : TInv root L) (i n : Int) (h : chargeE L i n = 0) :
    ∃ d, liveAt L i = some d ∧ 0 ≤ n ∧ n ≤ roomD d ∧ roomF (chargeL L i n) i = d.quota - d.used - d.lent - n ∧ creditE (chargeL L i n) i n = 0 ∧ creditL (chargeL L i n) i n = L := by
  cases hl : liveAt L i with
  | none => unfold chargeE at h; rw [hl] at h; simp at h
  | some d =>
    obtain ⟨k, rfl, hk, hd⟩ := live_some hl
    have hklt : k < L.length := (List.getElem?_eq_some_iff.1 hk).1
    have h' := h
    unfold chargeE at h
    rw [hl] at h
    simp only at h
    have h0 : 0 ≤ n := by
      by_cases h1 : n < 0
      · rw [if_pos h1] at h; omega
      · omega
    rw [if_neg (by omega)] at h
    have h1 : n ≤ roomD d := by
      by_cases h1 : roomD d < n
      · rw [if_pos h1] at h; omega
      · omega
    obtain ⟨o1, o2, o3, o4⟩ := hi.ok d (List.mem_of_getElem? hk)
    have e1 : chargeL L k n = L.set k { d with used := d.used + n } := by unfold chargeL; rw [hl]; simp only; rw [if_pos h', Int.toNat_natCast]
    have e2 : liveAt (L.set k { d with used := d.used + n }) (k : Int) = some { d with used := d.used + n } := liveAt_nat (by rw [get_set _ _ _ hklt, if_pos rfl]) hd
    have e3 : creditE (L.set k { d with used := d.used + n }) k n = 0 := by
      unfold creditE; rw [e2]; simp only; rw [if_neg (by omega)]
    refine ⟨d, rfl, h0, h1, ?_, ?_, ?_⟩
    · rw [e1]; unfold roomF; rw [e2]; simp only; omega
    · rw [e1]; exact e3
    · rw [e1]
      unfold creditL
      rw [e2]
      simp only
      rw [if_pos e3, Int.toNat_natCast, List.set_set]
      apply List.ext_getElem?
      intro j
      rw [get_set _ _ _ hklt]
      split
      · rename_i hj
        subst hj
        rw [hk]
        congr 1
        cases d
        simp only [ND.mk.injEq, true_and, and_true]
        omega
      · rfl
theorem charge_no {L : List ND} {i n : Int} (h : chargeE L i n ≠ 0) : chargeL L i n = L := by
  unfold chargeL
  split
  · rfl
  · rw [if_neg h]
theorem charge_none5 {L : List ND} {i n : Int} (h : liveAt L i = none) : chargeE L i n = 5 := by
  unfold chargeE; rw [h]
section
variable {w : World} {base t : Nat} {v : Value} {L : List ND} {root : Int}
theorem charge_own (h : TreeAt w base t v L) (hi : TInv root L) (i n : Int) :
    Calls Try.prog 12 #[.pointer (some ⟨t, 0, none⟩), .int .i64 i, .int .i64 n] w fun e w' => e = .returned (.int .i64 (chargeE L i n)) ∧ Touch (fun j => some j = v.ownBlock) w w' ∧ TreeAt w' base t v (chargeL L i n) := by
  cases hl : liveAt L i with
  | none =>
    refine (charge_none h i n hl).mono ?_
    rintro e w' ⟨rfl, rfl⟩
    have h1 : chargeE L i n = 5 := by unfold chargeE; rw [hl]
    have h3 : chargeL L i n = L := by unfold chargeL; rw [hl]
    rw [h1, h3]
    exact ⟨rfl, Touch.refl _ _, h⟩
  | some d =>
    obtain ⟨k, rfl, hk, hd⟩ := live_some hl
    by_cases hn : n < 0 ∨ roomD d < n
    · have h1 : chargeE L k n = if n < 0 then 1 else 8 := by
        unfold chargeE; rw [hl]; simp only
        by_cases h0 : n < 0
        · rw [if_pos h0, if_pos h0]
        · rw [if_neg h0, if_neg h0, if_pos (by omega)]
      have h0 : chargeE L k n ≠ 0 := by rw [h1]; split <;> omega
      have h3 : chargeL L k n = L := by unfold chargeL; rw [hl]; simp only; rw [if_neg h0]
      refine (charge_err h hi.ok hk hd n hn).mono ?_
      rintro e w' ⟨rfl, hb⟩
      rw [h1, h3]
      exact ⟨rfl, Touch.of_below hb _, h.below hb⟩
    · obtain ⟨b, cap, rfl⟩ := tree_slice h hk
      have hn0 : ¬ n < 0 := fun h => hn (.inl h)
      have hn1 : ¬ roomD d < n := fun h => hn (.inr h)
      have hn2 : n ≤ d.quota - d.used - d.lent := by unfold roomD at hn1; omega
      have h1 : chargeE L k n = 0 := by unfold chargeE; rw [hl]; simp only; rw [if_neg hn0, if_neg hn1]
      have h3 : chargeL L k n = L.set k { d with used := d.used + n } := by unfold chargeL; rw [hl]; simp only; rw [if_pos h1, Int.toNat_natCast]
      refine (charge_ok h hi.ok hk hd n (by omega) hn2).mono ?_
      rintro e w' ⟨rfl, ht, hv⟩
      rw [List.length_set] at hv
      rw [h1, h3]
      exact ⟨rfl, ht.mono (fun j hj => by rw [hj]; rfl), hv⟩
theorem credit_own (h : TreeAt w base t v L) (hi : TInv root L) (i n : Int) :
    Calls Try.prog 15 #[.pointer (some ⟨t, 0, none⟩), .int .i64 i, .int .i64 n] w fun e w' => e = .returned (.int .i64 (creditE L i n)) ∧ Touch (fun j => some j = v.ownBlock) w w' ∧ TreeAt w' base t v (creditL L i n) := by
  cases hl : liveAt L i with
  | none =>
    refine (credit_none h i n hl).mono ?_
    rintro e w' ⟨rfl, rfl⟩
    have h1 : creditE L i n = 5 := by unfold creditE; rw [hl]
    have h3 : creditL L i n = L := by unfold creditL; rw [hl]
    rw [h1, h3]
    exact ⟨rfl, Touch.refl _ _, h⟩
  | some d =>
    obtain ⟨k, rfl, hk, hd⟩ := live_some hl
    obtain ⟨b, cap, rfl⟩ := tree_slice h hk
    by_cases hn : n < 0 ∨ d.used < n
    · have h1 : creditE L k n = 1 := by unfold creditE; rw [hl]; simp only; rw [if_pos hn]
      have h3 : creditL L k n = L := by unfold creditL; rw [hl]; simp only; rw [if_neg (by omega)]
      refine (credit_err h hk hd n hn).mono ?_
      rintro e w' ⟨rfl, rfl⟩
      rw [h1, h3]
      exact ⟨rfl, Touch.refl _ _, h⟩
    · have h1 : creditE L k n = 0 := by unfold creditE; rw [hl]; simp only; rw [if_neg hn]
      have h3 : creditL L k n = L.set k { d with used := d.used - n } := by unfold creditL; rw [hl]; simp only; rw [if_pos h1, Int.toNat_natCast]
      refine (credit_ok h hi.ok hk hd n (by omega) (by omega)).mono ?_
      rintro e w' ⟨rfl, ht, hv⟩
      rw [List.length_set] at hv
      rw [h1, h3]
      exact ⟨rfl, ht.mono (fun j hj => by rw [hj]; rfl), hv⟩
theorem TreeAt.own_lt (h : TreeAt w base t v L) {b : Nat} (hb : some b = v.ownBlock) : base ≤ b ∧ b < w.heap.size := by
  rcases h.l.2 with ⟨h1, _⟩ | ⟨g, cap', cur, hv, h2, hg, _⟩
  · rw [h1] at hb; cases hb
  · rw [hv] at hb
    have : b = g := by simpa [Value.ownBlock] using hb
    subst this
    exact ⟨h2, heap_lt hg⟩
theorem own_upd (h : TreeAt w base t v L) {w' : World} (ht : Touch (fun j => some j = v.ownBlock) w w') : Upd base w w' := by
  refine ht.mono (fun j hj => ?_)
  rcases h.l.2 with ⟨h1, _⟩ | ⟨g, cap', cur, hv, h2, hg, _⟩
  · rw [h1] at hj; cases hj
  · rw [hv] at hj
    have : j = g := by simpa [Value.ownBlock] using hj
    subst this
    exact ⟨h2, _, _, _, hg, .inl rfl⟩
end
end Go.Proofs.Ytgnkgfejnnkkaaa
