/- Each call on a tree, told whole: Child, Charge, Credit, End, Get; the awake call. No condition but what holds of the tree behind any calls. -/
import Derived.Test.YtgnkgfejnnkkaaaQuoN
namespace Go.Proofs.Ytgnkgfejnnkkaaa
open Go.ChangeShapes Go.WideShapes Go.ChangeAt Go.RowKit
set_option linter.unusedVariables false
set_option linter.unusedSimpArgs false
theorem tree_slice {w : World} {base t : Nat} {v : Value} {L : List ND} (h : TreeAt w base t v L) {k : Nat} {d : ND} (hk : L[k]? = some d) : ∃ b cap, v = .slice (some ⟨b, 0, none⟩) L.length cap := by
  obtain ⟨b, cap, hv, _⟩ := NL.cell h.l hk
  exact ⟨b, cap, hv⟩
section
variable {w : World} {base t : Nat} {v : Value} {L : List ND} {root : Int}
theorem child_any (h : TreeAt w base t v L) (hi : TInv root L) (i n : Int) :
    Calls Try.prog 10 #[.pointer (some ⟨t, 0, none⟩), .int .i64 i, .int .i64 n] w fun e w' => e = .returned (.tuple #[.int .i64 (childN L i n), .int .i64 (childE L i n)]) ∧ Upd base w w' ∧ ∃ v', TreeAt w' base t v' (childL L i n) := by
  cases hl : liveAt L i with
  | none =>
    refine (child_none h i n hl).mono ?_
    rintro e w' ⟨rfl, rfl⟩
    have h1 : childE L i n = 5 := by unfold childE; rw [hl]
    have h2 : childN L i n = 0 := by unfold childN; rw [h1]; rfl
    have h3 : childL L i n = L := by unfold childL; rw [hl]
    rw [h1, h2, h3]
    exact ⟨rfl, Upd.refl _ _, v, h⟩
  | some d =>
    obtain ⟨k, rfl, hk, hd⟩ := live_some hl
    by_cases hn : n < 0 ∨ roomD d < n
    · have h1 : childE L k n = if n < 0 then 1 else 8 := by
        unfold childE; rw [hl]; simp only
        by_cases h0 : n < 0
        · rw [if_pos h0, if_pos h0]
        · rw [if_neg h0, if_neg h0, if_pos (by omega)]
      have h0 : childE L k n ≠ 0 := by rw [h1]; split <;> omega
      have h2 : childN L k n = 0 := by unfold childN; rw [if_neg h0]
      have h3 : childL L k n = L := by unfold childL; rw [hl]; simp only; rw [if_neg h0]
      refine (child_err h hi.ok hk hd n hn).mono ?_
      rintro e w' ⟨rfl, hb⟩
      rw [h1, h2, h3]
      exact ⟨rfl, Upd.of_below hb, v, h.below hb⟩
    · obtain ⟨b, cap, rfl⟩ := tree_slice h hk
      have hn0 : ¬ n < 0 := fun h => hn (.inl h)
      have hn1 : ¬ roomD d < n := fun h => hn (.inr h)
      have hn2 : n ≤ d.quota - d.used - d.lent := by unfold roomD at hn1; omega
      have hE : childE L k n = if freeF L 0 < 0 ∧ 64 ≤ L.length then 4 else 0 := by
        unfold childE; rw [hl]; simp only; rw [if_neg hn0, if_neg hn1]
      rcases freeF_spec L 0 with ⟨hf, hall⟩ | ⟨f, hf, hfl, _, _⟩
      · by_cases hbig : 64 ≤ L.length
        · have h1 : childE L k n = 4 := by rw [hE, if_pos ⟨by omega, hbig⟩]
          have h2 : childN L k n = 0 := by unfold childN; rw [h1]; rfl
          have h3 : childL L k n = L := by unfold childL; rw [hl]; simp only; rw [h1]; rfl
          refine (child_big h hi.ok hbig hk hd n (by omega) hn2 hf).mono ?_
          rintro e w' ⟨rfl, hb⟩
          rw [h1, h2, h3]
          exact ⟨rfl, Upd.of_below hb, _, h.below hb⟩
        · have h1 : childE L k n = 0 := by rw [hE, if_neg (by omega)]
          have h2 : childN L k n = L.length := by unfold childN; rw [if_pos h1, if_pos (by omega)]
          have h3 : childL L k n = L.set k { d with lent := d.lent + n } ++ [⟨k, n, 0, 0, true⟩] := by unfold childL; rw [hl]; simp only; rw [if_pos h1, if_pos (by omega), Int.toNat_natCast]
          refine (child_new h hi.ok (by omega) hk hd n (by omega) hn2 hf).mono ?_
          rintro e w' ⟨rfl, hu, hv⟩
          rw [h1, h2, h3]
          exact ⟨rfl, hu, hv⟩
      · rw [Nat.zero_add] at hf
        have h1 : childE L k n = 0 := by rw [hE, if_neg (by omega)]
        have h2 : childN L k n = f := by unfold childN; rw [if_pos h1, if_neg (by omega), hf]
        have h3 : childL L k n = (L.set k { d with lent := d.lent + n }).set f ⟨k, n, 0, 0, true⟩ := by unfold childL; rw [hl]; simp only; rw [if_pos h1, if_neg (by omega), Int.toNat_natCast, hf, Int.toNat_natCast]
        refine (child_reuse h hi.ok hi.len hk hd n (by omega) hn2 hf hfl).mono ?_
        rintro e w' ⟨rfl, hu, hv⟩
        rw [h1, h2, h3]
        exact ⟨rfl, hu, hv⟩
theorem charge_any (h : TreeAt w base t v L) (hi : TInv root L) (i n : Int) :
    Calls Try.prog 12 #[.pointer (some ⟨t, 0, none⟩), .int .i64 i, .int .i64 n] w fun e w' => e = .returned (.int .i64 (chargeE L i n)) ∧ Upd base w w' ∧ ∃ v', TreeAt w' base t v' (chargeL L i n) := by
  cases hl : liveAt L i with
  | none =>
    refine (charge_none h i n hl).mono ?_
    rintro e w' ⟨rfl, rfl⟩
    have h1 : chargeE L i n = 5 := by unfold chargeE; rw [hl]
    have h3 : chargeL L i n = L := by unfold chargeL; rw [hl]
    rw [h1, h3]
    exact ⟨rfl, Upd.refl _ _, v, h⟩
  | some d =>
    obtain ⟨k, rfl, hk, hd⟩ := live_some hl
    by_cases hn : n < 0 ∨ roomD d < n
    · have h1 : chargeE L k n = if n < 0 then 1 else 8 := by
        unfold chargeE; rw [hl]; simp only
        by_cases h0 : n < 0
        · rw [if_pos h0, if_pos h0]
        · rw [if_neg h0, if_neg h0, if_pos (by omega)]
      have h0 : chargeE L k n ≠ 0 := by rw [h1]; split <;> omega
      have h3 : chargeL L k n = L := by unfold chargeL; rw [hl]; simp only; rw [if_neg h0]
      refine (charge_err h hi.ok hk hd n hn).mono ?_
      rintro e w' ⟨rfl, hb⟩
      rw [h1, h3]
      exact ⟨rfl, Upd.of_below hb, v, h.below hb⟩
    · obtain ⟨b, cap, rfl⟩ := tree_slice h hk
      have hn0 : ¬ n < 0 := fun h => hn (.inl h)
      have hn1 : ¬ roomD d < n := fun h => hn (.inr h)
      have hn2 : n ≤ d.quota - d.used - d.lent := by unfold roomD at hn1; omega
      have h1 : chargeE L k n = 0 := by unfold chargeE; rw [hl]; simp only; rw [if_neg hn0, if_neg hn1]
      have h3 : chargeL L k n = L.set k { d with used := d.used + n } := by unfold chargeL; rw [hl]; simp only; rw [if_pos h1, Int.toNat_natCast]
      refine (charge_ok h hi.ok hk hd n (by omega) hn2).mono ?_
      rintro e w' ⟨rfl, ht, hv⟩
      rw [h1, h3]
      exact ⟨rfl, ht.upd h.ttb, _, hv⟩
theorem credit_any (h : TreeAt w base t v L) (hi : TInv root L) (i n : Int) :
    Calls Try.prog 15 #[.pointer (some ⟨t, 0, none⟩), .int .i64 i, .int .i64 n] w fun e w' => e = .returned (.int .i64 (creditE L i n)) ∧ Upd base w w' ∧ ∃ v', TreeAt w' base t v' (creditL L i n) := by
  cases hl : liveAt L i with
  | none =>
    refine (credit_none h i n hl).mono ?_
    rintro e w' ⟨rfl, rfl⟩
    have h1 : creditE L i n = 5 := by unfold creditE; rw [hl]
    have h3 : creditL L i n = L := by unfold creditL; rw [hl]
    rw [h1, h3]
    exact ⟨rfl, Upd.refl _ _, v, h⟩
  | some d =>
    obtain ⟨k, rfl, hk, hd⟩ := live_some hl
    obtain ⟨b, cap, rfl⟩ := tree_slice h hk
    by_cases hn : n < 0 ∨ d.used < n
    · have h1 : creditE L k n = 1 := by unfold creditE; rw [hl]; simp only; rw [if_pos hn]
      have h3 : creditL L k n = L := by unfold creditL; rw [hl]; simp only; rw [if_neg (by omega)]
      refine (credit_err h hk hd n hn).mono ?_
      rintro e w' ⟨rfl, rfl⟩
      rw [h1, h3]
      exact ⟨rfl, Upd.refl _ _, _, h⟩
    · have h1 : creditE L k n = 0 := by unfold creditE; rw [hl]; simp only; rw [if_neg hn]
      have h3 : creditL L k n = L.set k { d with used := d.used - n } := by unfold creditL; rw [hl]; simp only; rw [if_pos h1, Int.toNat_natCast]
      refine (credit_ok h hi.ok hk hd n (by omega) (by omega)).mono ?_
      rintro e w' ⟨rfl, ht, hv⟩
      rw [h1, h3]
      exact ⟨rfl, ht.upd h.ttb, _, hv⟩
theorem end_any (h : TreeAt w base t v L) (hi : TInv root L) (i : Int) :
    Calls Try.prog 19 #[.pointer (some ⟨t, 0, none⟩), .int .i64 i] w fun e w' => e = .returned (.int .i64 (endE L i)) ∧ Upd base w w' ∧ ∃ v', TreeAt w' base t v' (endL L i) := by
  cases hl : liveAt L i with
  | none =>
    refine (end_none h i hl).mono ?_
    rintro e w' ⟨rfl, hb⟩
    have h1 : endE L i = 5 := by unfold endE; rw [hl]
    have h3 : endL L i = L := by unfold endL; rw [hl]
    rw [h1, h3]
    exact ⟨rfl, Upd.of_below hb, v, h.below hb⟩
  | some d =>
    obtain ⟨k, rfl, hk, hd⟩ := live_some hl
    by_cases hk0 : k = 0
    · subst hk0
      have h1 : endE L (0 : Nat) = 5 := by unfold endE; rw [hl]; rfl
      have h3 : endL L (0 : Nat) = L := by unfold endL; rw [hl]; simp only; rw [if_neg (by omega)]
      refine (end_root h hk hd).mono ?_
      rintro e w' ⟨rfl, hb⟩
      rw [h1, h3]
      exact ⟨rfl, Upd.of_below hb, v, h.below hb⟩
    · obtain ⟨o1, o2, o3, o4⟩ := hi.ok d (List.mem_of_getElem? hk)
      by_cases hn : 0 < d.used ∨ 0 ≤ kidF k L 0
      · have h1 : endE L k = 11 := by unfold endE; rw [hl]; simp only; rw [if_neg (by omega), if_pos hn]
        have h3 : endL L k = L := by unfold endL; rw [hl]; simp only; rw [if_neg (by omega)]
        refine (end_busy h hk hd hk0 o1 hn).mono ?_
        rintro e w' ⟨rfl, hb⟩
        rw [h1, h3]
        exact ⟨rfl, Upd.of_below hb, v, h.below hb⟩
      · obtain ⟨b, cap, rfl⟩ := tree_slice h hk
        obtain ⟨p, dp, hp1, hp2, hp3, hpk, hq⟩ := hi.endAt hk hd hk0
        obtain ⟨q1, q2, q3, q4⟩ := hi.ok dp (List.mem_of_getElem? hp2)
        have h1 : endE L k = 0 := by unfold endE; rw [hl]; simp only; rw [if_neg (by omega), if_neg hn]
        have h3 : endL L k = (L.set p { dp with lent := dp.lent - d.quota }).set k ⟨0, 0, 0, 0, false⟩ := by
          unfold endL; rw [hl]; simp only; rw [if_pos h1, hp1, Int.toNat_natCast, Int.toNat_natCast, hp2]
        refine (end_ok h hk hd hk0 (by omega) (by omega) hp2 hp1 hpk (by omega) (by omega)).mono ?_
        rintro e w' ⟨rfl, hu, hv⟩
        rw [h1, h3]
        exact ⟨rfl, hu, hv⟩
def getD (L : List ND) (i : Int) : ND := match liveAt L i with | some d => d | none => ⟨0, 0, 0, 0, false⟩
def ND.val (d : ND) : Value := .agg #[.int .i64 d.parent, .int .i64 d.quota, .int .i64 d.used, .int .i64 d.lent, .bool d.live]
theorem get_any (h : TreeAt w base t v L) (i : Int) :
    Calls Try.prog 14 #[.pointer (some ⟨t, 0, none⟩), .int .i64 i] w fun e w' => e = .returned (.tuple #[(getD L i).val, .bool (liveAt L i).isSome]) ∧ Below w.heap.size w w' := by
  unfold getD
  cases hl : liveAt L i with
  | none => exact get_none h i hl
  | some d =>
    obtain ⟨k, rfl, hk, hd⟩ := live_some hl
    refine (get_some h hk hd).mono ?_
    rintro e w' ⟨rfl, hb⟩
    refine ⟨?_, hb⟩
    simp only [ND.val, hd, Option.isSome_some]
end
set_option maxHeartbeats 1000000 in
theorem awake_true {w : World} : Calls Try.prog 8 #[] w fun e w' => e = .returned (.bool true) ∧ Below w.heap.size w w' := by
  obtain ⟨L0, hL0⟩ : ∃ L, L = [(⟨-1, 10, 0, 0, true⟩ : ND)] := ⟨_, rfl⟩
  obtain ⟨L1, hL1⟩ : ∃ L, L = [(⟨-1, 10, 0, 4, true⟩ : ND), ⟨0, 4, 0, 0, true⟩] := ⟨_, rfl⟩
  obtain ⟨L2, hL2⟩ : ∃ L, L = [(⟨-1, 10, 0, 4, true⟩ : ND), ⟨0, 4, 3, 0, true⟩] := ⟨_, rfl⟩
  have i0 : TInv 10 L0 := by rw [hL0]; exact TInv.new (by omega) (by omega)
  have c1 : childL L0 0 4 = L1 := by rw [hL0, hL1]; rfl
  have c2 : childN L0 0 4 = 1 := by rw [hL0]; rfl
  have c3 : childE L0 0 4 = 0 := by rw [hL0]; rfl
  have i1 : TInv 10 L1 := by rw [← c1]; exact i0.child _ _
  have c4 : chargeL L1 1 3 = L2 := by rw [hL1, hL2]; rfl
  have c5 : chargeE L1 1 3 = 0 := by rw [hL1]; rfl
  have i2 : TInv 10 L2 := by rw [← c4]; exact i1.charge _ _
  have c6 : chargeL L2 1 2 = L2 := by rw [hL2]; rfl
  have c7 : chargeE L2 1 2 = 8 := by rw [hL2]; rfl
  have c8 : chargeL L2 0 7 = L2 := by rw [hL2]; rfl
  have c9 : chargeE L2 0 7 = 8 := by rw [hL2]; rfl
  have c10 : endE L2 1 = 11 := by rw [hL2]; rfl
  have A0 := Lib.hid (fun (W : World) => new_good (w := W) 10 (by omega) (by omega))
  rw [← hL0] at A0
  have A1 := Lib.hid (fun (W : World) (base t : Nat) (v : Value) (h : TreeAt W base t v L0) => child_any h i0 0 4)
  have A2 := Lib.hid (fun (W : World) (base t : Nat) (v : Value) (h : TreeAt W base t v L1) => charge_any h i1 1 3)
  have A3 := Lib.hid (fun (W : World) (base t : Nat) (v : Value) (h : TreeAt W base t v L2) => charge_any h i2 1 2)
  have A4 := Lib.hid (fun (W : World) (base t : Nat) (v : Value) (h : TreeAt W base t v L2) => charge_any h i2 0 7)
  have A5 := Lib.hid (fun (W : World) (base t : Nat) (v : Value) (h : TreeAt W base t v L2) => end_any h i2 1)
  rw [c1, c2, c3] at A1
  rw [c4, c5] at A2
  rw [c6, c7] at A3
  rw [c8, c9] at A4
  rw [c10] at A5
  clear i0 i1 i2 c1 c2 c3 c4 c5 c6 c7 c8 c9 c10 hL0 hL1 hL2
  go_enter Try.func8, Try.ntmps8
  go_wp2_with fail
  refine (A0.out _).mono ?_
  rintro e w1 ⟨t, v1, rfl, h1, hb1⟩
  have H1 := Lib.hid h1
  have HB1 := Lib.hid hb1
  clear h1 hb1
  go_wp2_with fail
  refine (A1.out _ _ _ _ H1.out).mono ?_
  rintro e w2 ⟨rfl, hu2, v2, h2⟩
  have H2 := Lib.hid h2
  have HU2 := Lib.hid hu2
  clear h2 hu2
  go_wp2_with fail
  refine (A2.out _ _ _ _ H2.out).mono ?_
  rintro e w3 ⟨rfl, hu3, v3, h3⟩
  have H3 := Lib.hid h3
  have HU3 := Lib.hid hu3
  clear h3 hu3
  go_wp2_with fail
  refine (A3.out _ _ _ _ H3.out).mono ?_
  rintro e w4 ⟨rfl, hu4, v4, h4⟩
  have H4 := Lib.hid h4
  have HU4 := Lib.hid hu4
  clear h4 hu4
  go_wp2_with fail
  refine (A4.out _ _ _ _ H4.out).mono ?_
  rintro e w5 ⟨rfl, hu5, v5, h5⟩
  have H5 := Lib.hid h5
  have HU5 := Lib.hid hu5
  clear h5 hu5
  go_wp2_with fail
  refine (A5.out _ _ _ _ H5.out).mono ?_
  rintro e w6 ⟨rfl, hu6, v6, h6⟩
  have HU6 := Lib.hid hu6
  clear h6 hu6
  go_wp2_with fail
  go_returns
  exact ⟨rfl, ((((HU2.out.trans HU3.out).trans HU4.out).trans HU5.out).trans HU6.out).below HB1.out (Nat.le_refl _)⟩
end Go.Proofs.Ytgnkgfejnnkkaaa
