/- The document's quota: End, for every list. No condition but bounds. -/
import Derived.Test.YtgnkgfejnnkkaaaQuoU
namespace Go.Proofs.Ytgnkgfejnnkkaaa
open Go.ChangeShapes Go.WideShapes Go.ChangeAt Go.RowKit
set_option linter.unusedVariables false
set_option linter.unusedSimpArgs false
def kidB (R : List BX) (i : Int) : Bool := R.any fun d => d.parent == i
def dropB (R : List BX) (i : Int) : List BX := R.filter fun d => d.num != i
def endBE (R : List BX) (i : Int) : Int := match findB R i with | none => 5 | some d => if i = 0 then 5 else if kidB R i then 11 else if 0 < d.used then 11 else 0
def endBL (R : List BX) (i : Int) : List BX := if endBE R i = 0 then dropB R i else R
theorem rEnd_none {w : World} {base : Nat} {v : Value} {R : List BX} (h : bxL w base v R) (hl : R.length ≤ 900) (i : Int) (hf : findB R i = none ∨ i = 0) :
    Calls Try.prog 28 #[v, .int .i64 i] w fun e w' => e = .returned (.tuple #[v, .int .i64 5]) ∧ Below w.heap.size w w' := by
  have HF := Lib.hid (rFind_any h (by omega) i)
  generalize fB R i = d at HF
  obtain ⟨p, q, u, x⟩ := d
  by_cases hn : findB R i = none
  · rw [hn] at HF
    clear h hf hn
    go_enter Try.func28, Try.ntmps28
    go_wp2_with fail
    refine HF.out.mono ?_
    rintro e w1 ⟨rfl, hb1⟩
    have HB1 := Lib.hid hb1
    clear hb1
    simp only [BX.val, Option.isSome_none]
    go_wp2_with fail
    go_returns
    exact ⟨rfl, by have q1 := HB1.out; have q2 := q1.size; go_grown⟩
  · have h0 : i = 0 := by rcases hf with hf | hf; exact absurd hf hn; exact hf
    subst h0
    obtain ⟨d, hd⟩ : ∃ d, findB R 0 = some d := by
      cases hc : findB R 0 with
      | none => exact absurd hc hn
      | some d => exact ⟨d, rfl⟩
    rw [hd] at HF
    clear h hf hn hd
    go_enter Try.func28, Try.ntmps28
    go_wp2_with fail
    refine HF.out.mono ?_
    rintro e w1 ⟨rfl, hb1⟩
    have HB1 := Lib.hid hb1
    clear hb1
    simp only [BX.val, Option.isSome_some]
    go_wp2_with fail
    go_returns
    exact ⟨rfl, by have q1 := HB1.out; have q2 := q1.size; go_grown⟩
set_option maxHeartbeats 2000000 in
theorem rEnd_some {w0 : World} {base : Nat} {v : Value} {R : List BX} (h : bxL w0 base v R) (hb : base ≤ w0.heap.size) (hl : R.length ≤ 900) (i : Int) {d : BX} (hf : findB R i = some d) (hi0 : i ≠ 0) :
    Calls Try.prog 28 #[v, .int .i64 i] w0 fun e w' => ∃ v', e = .returned (.tuple #[v', .int .i64 (endBE R i)]) ∧ bxL w' base v' (endBL R i) ∧ Below w0.heap.size w0 w' := by
  have HE1 : Hid (endBE R i = if kidB R i then 11 else if 0 < d.used then 11 else 0) := Lib.hid (by unfold endBE; rw [hf]; simp only; rw [if_neg hi0])
  have HE2 : Hid (endBL R i = if kidB R i then R else if 0 < d.used then R else dropB R i) := Lib.hid (by
    unfold endBL
    rw [HE1.out]
    by_cases ha : kidB R i = true
    · rw [if_pos ha, if_pos ha, if_neg (by omega)]
    · rw [if_neg ha, if_neg ha]
      by_cases hc : 0 < d.used
      · rw [if_pos hc, if_pos hc, if_neg (by omega)]
      · rw [if_neg hc, if_neg hc, if_pos rfl])
  have HF_ := rFind_any h (by omega) i
  have e1 : fB R i = d := by unfold fB; rw [hf]; rfl
  rw [hf, e1] at HF_
  have HF := Lib.hid HF_
  obtain ⟨dp, dq, du, dx⟩ := d
  simp only at HE1 HE2
  have HBASE := Lib.hid hb
  have H0 := Lib.hid h
  have d0 : (i == 0) = false := by simp [hi0]
  obtain ⟨A, cap, rfl⟩ := h.form
  clear h hf HF_ e1 hb hi0
  go_enter Try.func28, Try.ntmps28
  go_wp2_with fail
  refine HF.out.mono ?_
  rintro e w1 ⟨rfl, hb1⟩
  simp only [BX.val, Option.isSome_some]
  obtain ⟨w, hw⟩ : ∃ W, W = w1.alloc (.cells #[.int .i64 dp, .int .i64 dq, .int .i64 du, .int .i64 dx] 44) := ⟨_, rfl⟩
  obtain ⟨g, hg⟩ : ∃ g, g = w1.heap.size := ⟨_, rfl⟩
  have hbw0 : Below w0.heap.size w0 w := by rw [hw]; have q2 := hb1.size; go_grown
  have hgc : w.heap[g]? = some (.cells #[.int .i64 dp, .int .i64 dq, .int .i64 du, .int .i64 dx] 44 (0, 0)) := by rw [hw, hg]; exact heap_new _ _
  have H : Hid (bxL w base (.slice A R.length cap) R) := Lib.hid (H0.out.below hbw0)
  have HW0 := Lib.hid hbw0
  have HGC := Lib.hid hgc
  have HW := Lib.hid hw
  have HG := Lib.hid hg
  have hsg : g + 1 = w.heap.size := by rw [hw, hg, World.size_alloc]
  have HSG := Lib.hid hsg
  clear hb1 hw hg hbw0 hgc hsg
  have hL0 := Lib.hid (bxlit0 w w.heap.size (Nat.le_refl _))
  go_wp2_with fail
  rw [← HG.out, ← HW.out, HSG.out]
  go_loopw [8, 27] (fun o x wr => ∃ (k : Nat) (L : List BX) (A2 : Option Addr) (c2 : Nat), o = .slice A2 L.length c2 ∧ x = .int .i64 k ∧ k ≤ R.length ∧ L.length ≤ k ∧ Hid (Below w.heap.size w wr) ∧ Hid (bxL wr w.heap.size (.slice A2 L.length c2) L) ∧ Hid (L ++ dropB (R.drop k) i = dropB R i) ∧ Hid (kidB R i = kidB (R.drop k) i)) (fun _ x _ => R.length - (intOf x).toNat)
  case atStart => exact ⟨0, [], _, _, rfl, rfl, by omega, by simp, Lib.hid (by go_grown), hL0, Lib.hid rfl, Lib.hid rfl⟩
  case round =>
    obtain ⟨k, L, A2, c2, rfl, rfl, hle, hlk, HB, HR, HFL, HK⟩ := hrel
    have hsz := HB.out.size
    have HWR : Hid (Below w0.heap.size w0 wr) := Lib.hid (b_then HW0.out HB.out)
    have HRR : Hid (bxL wr base (.slice A R.length cap) R) := Lib.hid (H0.out.below HWR.out)
    by_cases hlt : k < R.length
    · have f0 : decide (k < R.length) = true := decide_eq_true hlt
      have f3 : (k : Int) < (R.length : Int) := by omega
      obtain ⟨b, cap', hv, hb, hbw, e0, e1, e2, e3⟩ := H.out.cell (List.getElem?_eq_getElem hlt)
      have hc1 := fun b o (h : b < w.heap.size) => HB.out.cell (p := ⟨b, o, none⟩) h
      have c0 := (hc1 b _ hbw).trans e0
      have c1 := (hc1 b _ hbw).trans e1
      have c2 := (hc1 b _ hbw).trans e2
      have c3 := (hc1 b _ hbw).trans e3
      obtain ⟨rfl, _, rfl⟩ : A = some ⟨b, 0, none⟩ ∧ R.length = R.length ∧ cap = cap' := by simpa using hv
      have hd : dropB (R.drop k) i = if R[k].num != i then R[k] :: dropB (R.drop (k + 1)) i else dropB (R.drop (k + 1)) i := by
        rw [List.drop_eq_getElem_cons hlt]; simp only [dropB, List.filter_cons]
      have hkd : kidB (R.drop k) i = (R[k].parent == i || kidB (R.drop (k + 1)) i) := by
        rw [List.drop_eq_getElem_cons hlt]; simp only [kidB, List.any_cons]
      generalize R[k] = y at c0 c1 c2 c3 hd hkd
      rcases Bool.eq_false_or_eq_true (y.parent == i) with t | t
      · rw [t, Bool.true_or] at hkd
        have HKT : Hid (kidB R i = true) := Lib.hid (HK.out.trans hkd)
        obtain ⟨p, q, u, x⟩ := y
        obtain ⟨m, hm⟩ : ∃ m, m = R.length := ⟨_, rfl⟩
        rw [← hm] at hlt hle hl f0 f3 HRR ⊢
        have HM := Lib.hid hm
        simp only at c0 c1 c2 c3 t
        clear hc1 e0 e1 e2 e3 hv hd hb hm hkd
        go_wp2_with fail
        go_returns
        refine ⟨.slice (some ⟨b, 0, none⟩) m cap, ret_v (by rw [HE1.out, if_pos HKT.out]; rfl), ?_, by have q1 := HWR.out; have q2 := q1.size; go_grown⟩
        rw [HE2.out, if_pos HKT.out]
        exact HRR.out.below ((Below.refl _ _).alloc (Nat.le_refl _) _)
      · rw [t, Bool.false_or] at hkd
        rcases Bool.eq_false_or_eq_true (y.num != i) with tn | tn
        · obtain ⟨A3, c3', w3, ha, hr, hb3⟩ := bxapp2 HR.out HB.out y y (by omega)
          rw [if_pos tn] at hd
          obtain ⟨p, q, u, x⟩ := y
          obtain ⟨m, hm⟩ : ∃ m, m = R.length := ⟨_, rfl⟩
          rw [← hm] at hlt hle hl f0 f3 ⊢
          simp only at c0 c1 c2 c3 hd t ha hr tn
          have HA := Lib.hid ha
          have HR3 := Lib.hid hr
          have HB3 := Lib.hid hb3
          have HD := Lib.hid hd
          have HKD := Lib.hid hkd
          clear hc1 e0 e1 e2 e3 hv hd hb ha hr hb3 hm hkd
          go_wp2_with (at_builtin; refine wpList_app rfl (.tmp 40) (.tmp 42) 33 rfl rfl rfl HA.out ?_)
          go_roundw
          case rel => exact ⟨k + 1, L ++ [⟨p, q, u, x⟩], A3, c3', by simp, by go_num, by omega, by simp; omega, HB3, Lib.hid (by rw [List.length_append]; exact HR3.out), Lib.hid (by rw [← HFL.out, HD.out]; simp), Lib.hid (HK.out.trans HKD.out)⟩
          case measure => simp [intOf]; omega
        · rw [if_neg (by simp [tn])] at hd
          obtain ⟨p, q, u, x⟩ := y
          obtain ⟨m, hm⟩ : ∃ m, m = R.length := ⟨_, rfl⟩
          rw [← hm] at hlt hle hl f0 f3 ⊢
          simp only at c0 c1 c2 c3 t tn
          have HD := Lib.hid hd
          have HKD := Lib.hid hkd
          clear hc1 e0 e1 e2 e3 hv hd hb hm hkd
          go_wp2_with fail
          go_roundw
          case rel => exact ⟨k + 1, L, A2, _, rfl, by go_num, by omega, by omega, Lib.hid (by have q1 := HB.out; go_grown), Lib.hid (HR.out.below ((Below.refl _ _).alloc (Nat.le_refl _) _)), Lib.hid (by rw [← HFL.out, HD.out]), Lib.hid (HK.out.trans HKD.out)⟩
          case measure => simp [intOf]; omega
    · have f0 : decide (k < R.length) = false := decide_eq_false hlt
      have HE : Hid (L = dropB R i) := Lib.hid (by rw [← HFL.out, List.drop_eq_nil_of_le (by omega)]; simp [dropB])
      have HKF : Hid (¬ kidB R i = true) := Lib.hid (by rw [HK.out, List.drop_eq_nil_of_le (by omega)]; simp [kidB])
      have g3 : wr.cell? ⟨g, 3, none⟩ = some (.int .i64 dx) := cell_heap (heap_below HB.out HGC.out) 3
      have HLE : Hid (base ≤ w.heap.size) := Lib.hid (Nat.le_trans HBASE.out HW0.out.size)
      obtain ⟨m, hm⟩ : ∃ m, m = R.length := ⟨_, rfl⟩
      rw [← hm] at hlt hle hl f0 HRR ⊢
      clear hm
      by_cases hu : 0 < dx
      · have d1 : decide (0 < dx) = true := decide_eq_true hu
        have HU := Lib.hid hu
        clear hu
        go_wp2
        go_returns
        refine ⟨.slice A m cap, ret_v (by rw [HE1.out, if_neg HKF.out, if_pos HU.out]; rfl), ?_, HWR.out⟩
        rw [HE2.out, if_neg HKF.out, if_pos HU.out]
        exact HRR.out
      · have d1 : decide (0 < dx) = false := decide_eq_false hu
        have HU : Hid (¬ 0 < dx ∧ True) := Lib.hid ⟨hu, trivial⟩
        clear hu
        go_wp2
        go_returns
        refine ⟨_, ret_v (by rw [HE1.out, if_neg HKF.out, if_neg (by have := HU.out; omega)]; rfl), ?_, HWR.out⟩
        rw [HE2.out, if_neg HKF.out, if_neg (by have := HU.out; omega), ← HE.out]
        exact HR.out.mono HLE.out
theorem rEnd_any {w : World} {base : Nat} {v : Value} {R : List BX} (h : bxL w base v R) (hb : base ≤ w.heap.size) (hl : R.length ≤ 900) (i : Int) :
    Calls Try.prog 28 #[v, .int .i64 i] w fun e w' => ∃ v', e = .returned (.tuple #[v', .int .i64 (endBE R i)]) ∧ bxL w' base v' (endBL R i) ∧ Below w.heap.size w w' := by
  cases hf : findB R i with
  | none =>
    refine (rEnd_none h hl i (.inl hf)).mono ?_
    rintro e w' ⟨rfl, hb1⟩
    have h1 : endBE R i = 5 := by unfold endBE; rw [hf]
    have h2 : endBL R i = R := by unfold endBL; rw [if_neg (by omega)]
    rw [h1, h2]
    exact ⟨v, rfl, h.below hb1, hb1⟩
  | some d =>
    by_cases h0 : i = 0
    · refine (rEnd_none h hl i (.inr h0)).mono ?_
      rintro e w' ⟨rfl, hb1⟩
      have h1 : endBE R i = 5 := by unfold endBE; rw [hf]; simp only; rw [if_pos h0]
      have h2 : endBL R i = R := by unfold endBL; rw [if_neg (by omega)]
      rw [h1, h2]
      exact ⟨v, rfl, h.below hb1, hb1⟩
    · exact rEnd_some h hb hl i hf h0
end Go.Proofs.Ytgnkgfejnnkkaaa
