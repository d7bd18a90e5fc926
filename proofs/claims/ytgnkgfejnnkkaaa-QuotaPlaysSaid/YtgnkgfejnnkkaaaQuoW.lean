/- The document's quota: Child, for every list. No condition but bounds. -/
import Derived.Test.YtgnkgfejnnkkaaaQuoV
namespace Go.Proofs.Ytgnkgfejnnkkaaa
open Go.ChangeShapes Go.WideShapes Go.ChangeAt Go.RowKit
set_option linter.unusedVariables false
set_option linter.unusedSimpArgs false
def numB (R : List BX) : Nat → Nat
  | 0 => 0
  | j + 1 => if (findB R (numB R j)).isSome then numB R j + 1 else numB R j
theorem numB_le (R : List BX) : ∀ j, numB R j ≤ j
  | 0 => Nat.le_refl _
  | j + 1 => by
    have := numB_le R j
    simp only [numB]
    split <;> omega
def ltB (R : List BX) (n : Int) : List BX := R.filter fun d => decide (d.num < n)
def gtB (R : List BX) (n : Int) : List BX := R.filter fun d => decide (n < d.num)
def childBE (R : List BX) (p q : Int) : Int := match findB R p with | none => 5 | some d => if q < 0 then 1 else if roomB R p < q then 8 else if 63 < R.length then 4 else 0
def childBN (R : List BX) (p q : Int) : Int := if childBE R p q = 0 then (numB R (R.length + 1) : Nat) else 0
def childBL (R : List BX) (p q : Int) : List BX := if childBE R p q = 0 then ltB R (numB R (R.length + 1)) ++ [⟨(numB R (R.length + 1) : Nat), p, q, 0⟩] ++ gtB R (numB R (R.length + 1)) else R
section
variable {w : World} {base : Nat} {v : Value} {R : List BX}
theorem rChild_none (h : bxL w base v R) (hl : R.length ≤ 900) (p q : Int) (hf : findB R p = none) :
    Calls Try.prog 24 #[v, .int .i64 p, .int .i64 q] w fun e w' => e = .returned (.tuple #[v, .int .i64 0, .int .i64 5]) ∧ Below w.heap.size w w' := by
  have HF := Lib.hid (rFind_any h (by omega) p)
  generalize fB R p = d at HF
  obtain ⟨p, q, u, x⟩ := d
  rw [hf] at HF
  clear h hf
  go_enter Try.func24, Try.ntmps24
  go_wp2_with fail
  refine HF.out.mono ?_
  rintro e w1 ⟨rfl, hb1⟩
  have HB1 := Lib.hid hb1
  clear hb1
  simp only [BX.val, Option.isSome_none]
  go_wp2_with fail
  go_returns
  exact ⟨rfl, by have q1 := HB1.out; have q2 := q1.size; go_grown⟩
set_option maxHeartbeats 1000000 in
theorem rChild_err (h : bxL w base v R) (hk : BOK R) (p q : Int) {d : BX} (hf : findB R p = some d) (he : q < 0 ∨ roomB R p < q ∨ 63 < R.length) :
    Calls Try.prog 24 #[v, .int .i64 p, .int .i64 q] w fun e w' => e = .returned (.tuple #[v, .int .i64 0, .int .i64 (childBE R p q)]) ∧ Below w.heap.size w w' := by
  have HF_ := rFind_any h (by have := hk.len; omega) p
  have e1 : fB R p = d := by unfold fB; rw [hf]; rfl
  rw [hf, e1] at HF_
  have HF := Lib.hid HF_
  have hE : childBE R p q = if q < 0 then 1 else if roomB R p < q then 8 else if 63 < R.length then 4 else 0 := by unfold childBE; rw [hf]
  obtain ⟨m, hm⟩ : ∃ m, m = roomB R p := ⟨_, rfl⟩
  rw [← hm] at hE he
  have HL : Hid (∀ W, Below w.heap.size w W → Calls Try.prog 17 #[v, .int .i64 p] W fun e w' => e = .returned (.int .i64 m) ∧ Below W.heap.size W w') := Lib.hid (fun W hB => by rw [hm]; exact rRoom_any (h.below hB) hk p)
  obtain ⟨A, cap, rfl⟩ := h.form
  obtain ⟨dp, dq, du, dx⟩ := d
  obtain ⟨n, hn⟩ : ∃ n, n = R.length := ⟨_, rfl⟩
  rw [← hn] at hE he HF HL ⊢
  obtain ⟨E, hEE⟩ : ∃ E, E = childBE R p q := ⟨_, rfl⟩
  rw [← hEE] at hE ⊢
  have HN := Lib.hid hn
  have HEE := Lib.hid hEE
  clear h hk HF_ e1 hf hm hn hEE
  by_cases h1 : q < 0
  · have d1 : decide (q < 0) = true := decide_eq_true h1
    rw [if_pos h1] at hE
    subst hE
    clear he h1
    go_enter Try.func24, Try.ntmps24
    go_wp2_with fail
    refine HF.out.mono ?_
    rintro e w1 ⟨rfl, hb1⟩
    have HB0 : Hid (Below w.heap.size w (w1.alloc (.cells #[.int .i64 dp, .int .i64 dq, .int .i64 du, .int .i64 dx] 44))) := Lib.hid (by have q2 := hb1.size; go_grown)
    clear hb1
    simp only [BX.val, Option.isSome_some]
    go_wp2_with fail
    go_returns
    exact ⟨rfl, HB0.out⟩
  · have d1 : decide (q < 0) = false := decide_eq_false h1
    rw [if_neg h1] at hE
    by_cases h2 : m < q
    · have d2 : decide (m < q) = true := decide_eq_true h2
      rw [if_pos h2] at hE
      subst hE
      clear he h1 h2
      go_enter Try.func24, Try.ntmps24
      go_wp2_with fail
      refine HF.out.mono ?_
      rintro e w1 ⟨rfl, hb1⟩
      have HB0 : Hid (Below w.heap.size w (w1.alloc (.cells #[.int .i64 dp, .int .i64 dq, .int .i64 du, .int .i64 dx] 44))) := Lib.hid (by have q2 := hb1.size; go_grown)
      clear hb1
      simp only [BX.val, Option.isSome_some]
      go_wp2_with fail
      refine (HL.out _ HB0.out).mono ?_
      rintro e w2 ⟨rfl, hb2⟩
      have HB2 := Lib.hid (b_then HB0.out hb2)
      clear hb2
      go_wp2_with fail
      go_returns
      exact ⟨rfl, HB2.out⟩
    · have d2 : decide (m < q) = false := decide_eq_false h2
      rw [if_neg h2, if_pos (by omega)] at hE
      subst hE
      have d3 : decide ((63 : Int) < (n : Int)) = true := decide_eq_true (by omega)
      have d3b : decide (63 < n) = true := decide_eq_true (by omega)
      clear he h1 h2
      go_enter Try.func24, Try.ntmps24
      go_wp2_with fail
      refine HF.out.mono ?_
      rintro e w1 ⟨rfl, hb1⟩
      have HB0 : Hid (Below w.heap.size w (w1.alloc (.cells #[.int .i64 dp, .int .i64 dq, .int .i64 du, .int .i64 dx] 44))) := Lib.hid (by have q2 := hb1.size; go_grown)
      clear hb1
      simp only [BX.val, Option.isSome_some]
      go_wp2_with fail
      refine (HL.out _ HB0.out).mono ?_
      rintro e w2 ⟨rfl, hb2⟩
      have HB2 := Lib.hid (b_then HB0.out hb2)
      clear hb2
      go_wp2_with fail
      go_returns
      exact ⟨rfl, HB2.out⟩
end
set_option maxHeartbeats 4000000 in
theorem rChild_ok {w0 : World} {base : Nat} {v : Value} {R : List BX} (h : bxL w0 base v R) (hbase : base ≤ w0.heap.size) (hk : BOK R) (p q : Int) {d : BX} (hf : findB R p = some d) (hq : 0 ≤ q) (hr : q ≤ roomB R p) (hlen : R.length ≤ 63) :
    Calls Try.prog 24 #[v, .int .i64 p, .int .i64 q] w0 fun e w' => ∃ v', e = .returned (.tuple #[v', .int .i64 (numB R (R.length + 1) : Nat), .int .i64 0]) ∧ bxL w' base v' (ltB R (numB R (R.length + 1)) ++ [⟨(numB R (R.length + 1) : Nat), p, q, 0⟩] ++ gtB R (numB R (R.length + 1))) ∧ Below w0.heap.size w0 w' := by
  have HF_ := rFind_any h (by omega) p
  have e1 : fB R p = d := by unfold fB; rw [hf]; rfl
  rw [hf, e1] at HF_
  have HF := Lib.hid HF_
  obtain ⟨m, hm⟩ : ∃ m, m = roomB R p := ⟨_, rfl⟩
  rw [← hm] at hr
  have HL : Hid (∀ W, Below w0.heap.size w0 W → Calls Try.prog 17 #[v, .int .i64 p] W fun e w' => e = .returned (.int .i64 m) ∧ Below W.heap.size W w') := Lib.hid (fun W hB => by rw [hm]; exact rRoom_any (h.below hB) hk p)
  have HFN : Hid (∀ (j : Nat) W, Below w0.heap.size w0 W → Calls Try.prog 29 #[v, .int .i64 j] W fun e w' => e = .returned (.tuple #[(fB R j).val, .bool (findB R j).isSome]) ∧ Below W.heap.size W w') := Lib.hid (fun j W hB => rFind_any (h.below hB) (by omega) j)
  have d1 : decide (q < 0) = false := decide_eq_false (by omega)
  have d2 : decide (m < q) = false := decide_eq_false (by omega)
  have H0 := Lib.hid h
  have HBASE := Lib.hid hbase
  obtain ⟨A, cap, rfl⟩ := h.form
  obtain ⟨dp, dq, du, dx⟩ := d
  obtain ⟨N, hN⟩ : ∃ N, N = numB R (R.length + 1) := ⟨_, rfl⟩
  rw [← hN]
  have HN := Lib.hid hN
  have hNle : N ≤ 64 := by have := numB_le R (R.length + 1); omega
  have d3 : decide ((63 : Int) < (R.length : Int)) = false := decide_eq_false (by omega)
  have d3b : decide (63 < R.length) = false := decide_eq_false (by omega)
  clear h hk HF_ e1 hf hm hr hq hbase hN
  go_enter Try.func24, Try.ntmps24
  go_wp2_with fail
  refine HF.out.mono ?_
  rintro e w1 ⟨rfl, hb1⟩
  have HB0 : Hid (Below w0.heap.size w0 (w1.alloc (.cells #[.int .i64 dp, .int .i64 dq, .int .i64 du, .int .i64 dx] 44))) := Lib.hid (by have q2 := hb1.size; go_grown)
  clear hb1
  simp only [BX.val, Option.isSome_some]
  go_wp2_with fail
  refine (HL.out _ HB0.out).mono ?_
  rintro e w2 ⟨rfl, hb2⟩
  have HB2 := Lib.hid (b_then HB0.out hb2)
  clear hb2
  go_wp2_with fail
  clear d3 d3b
  go_loopw [11, 12] (fun o x wr => ∃ k : Nat, o = .int .i64 (numB R k : Nat) ∧ x = .int .i64 k ∧ k ≤ R.length + 1 ∧ Hid (Below w0.heap.size w0 wr)) (fun _ x _ => R.length + 1 - (intOf x).toNat)
  case atStart => exact ⟨0, rfl, rfl, by omega, HB2⟩
  case round =>
    obtain ⟨k, rfl, rfl, hle, HB⟩ := hrel
    by_cases hlt : k ≤ R.length
    · have f0 : decide (k ≤ R.length) = true := decide_eq_true hlt
      have f1 : decide ((k : Int) ≤ (R.length : Int)) = true := decide_eq_true (by omega)
      obtain ⟨j, hj⟩ : ∃ j, j = numB R k := ⟨_, rfl⟩
      have hjk : j ≤ k := by rw [hj]; exact numB_le R k
      have HJ : Hid (numB R (k + 1) = if (findB R j).isSome then j + 1 else j) := Lib.hid (by rw [hj]; rfl)
      rw [← hj]
      clear hj
      go_wp2_with fail
      refine (HFN.out j _ HB.out).mono ?_
      generalize fB R j = dj
      obtain ⟨jp, jq, ju, jx⟩ := dj
      generalize (findB R j).isSome = there at HJ
      rintro e w3 ⟨rfl, hb3⟩
      have HB3 : Hid (Below w0.heap.size w0 (w3.alloc (.cells #[.int .i64 jp, .int .i64 jq, .int .i64 ju, .int .i64 jx] 44))) := Lib.hid (by have q1 := b_then HB.out hb3; have q2 := q1.size; go_grown)
      clear hb3
      simp only [BX.val]
      cases there
      · go_wp2_with fail
        go_roundw
        case rel => exact ⟨k + 1, by rw [HJ.out]; rfl, by go_num, by omega, HB3⟩
        case measure => simp [intOf]; omega
      · go_wp2_with fail
        go_roundw
        case rel => exact ⟨k + 1, by rw [HJ.out]; go_num, by go_num, by omega, HB3⟩
        case measure => simp [intOf]; omega
    · have f0 : decide (k ≤ R.length) = false := decide_eq_false hlt
      have f1 : decide ((k : Int) ≤ (R.length : Int)) = false := decide_eq_false (by omega)
      obtain rfl : k = R.length + 1 := by omega
      rw [← HN.out]
      have HW := HB
      have hRL := Lib.hid (bxlit0 wr wr.heap.size (Nat.le_refl _))
      clear hlt f0 f1 hle
      obtain ⟨w, hw⟩ : ∃ W, W = wr := ⟨_, rfl⟩
      rw [← hw]
      rw [← hw] at HB HW hRL
      clear hw
      have H : Hid (bxL w base (.slice A R.length cap) R) := Lib.hid (H0.out.below HW.out)
      have HLE : Hid (base ≤ w.heap.size) := Lib.hid (Nat.le_trans HBASE.out HW.out.size)
      go_wp2_with fail
      go_loopw [15, 60] (fun o x wr => ∃ (k : Nat) (L : List BX) (A2 : Option Addr) (c2 : Nat), o = .slice A2 L.length c2 ∧ x = .int .i64 k ∧ k ≤ R.length ∧ L.length ≤ k ∧ Hid (Below w.heap.size w wr) ∧ Hid (bxL wr w.heap.size (.slice A2 L.length c2) L) ∧ Hid (L ++ ltB (R.drop k) N = ltB R N)) (fun _ x _ => R.length - (intOf x).toNat)
      case atStart => exact ⟨0, [], _, _, rfl, rfl, by omega, by simp, Lib.hid (by go_grown), hRL, Lib.hid rfl⟩
      case round =>
        obtain ⟨k, L, A2, c2, rfl, rfl, hle, hlk, HB, HR, HFL⟩ := hrel
        have hsz := HB.out.size
        by_cases hlt : k < R.length
        · have f0 : decide (k < R.length) = true := decide_eq_true hlt
          have f3 : (k : Int) < (R.length : Int) := by omega
          obtain ⟨b, cap', hv, hb, hbw, e0, e1, e2, e3⟩ := H.out.cell (List.getElem?_eq_getElem hlt)
          have hc1 := fun b o (h : b < w.heap.size) => HB.out.cell (p := ⟨b, o, none⟩) h
          have c0 := (hc1 b _ hbw).trans e0
          have c1 := (hc1 b _ hbw).trans e1
          have c2 := (hc1 b _ hbw).trans e2
          have c3 := (hc1 b _ hbw).trans e3
          obtain ⟨rfl, _, rfl⟩ : A = some ⟨b, 0, none⟩ ∧ R.length = R.length ∧ cap = cap' := by simpa using hv
          have hd : ltB (R.drop k) N = if R[k].num < (N : Int) then R[k] :: ltB (R.drop (k + 1)) N else ltB (R.drop (k + 1)) N := by
            rw [List.drop_eq_getElem_cons hlt]; simp only [ltB, List.filter_cons, decide_eq_true_eq]
          generalize R[k] = y at c0 c1 c2 c3 hd
          by_cases t : y.num < (N : Int)
          · obtain ⟨A3, c3', w3, ha, hr, hb3⟩ := bxapp2 HR.out HB.out y y (by omega)
            have d4 : decide (y.num < (N : Int)) = true := decide_eq_true t
            rw [if_pos t] at hd
            obtain ⟨y0, y1, y2, y3⟩ := y
            obtain ⟨m, hm⟩ : ∃ m, m = R.length := ⟨_, rfl⟩
            rw [← hm] at hlt hle hlen f0 f3 ⊢
            simp only at c0 c1 c2 c3 hd d4 ha hr
            have HA := Lib.hid ha
            have HR3 := Lib.hid hr
            have HB3 := Lib.hid hb3
            have HD := Lib.hid hd
            clear hc1 e0 e1 e2 e3 hv hd hb ha hr hb3 hm t
            go_wp2_with (at_builtin; refine wpList_app rfl (.tmp 68) (.tmp 70) 33 rfl rfl rfl HA.out ?_)
            go_roundw
            case rel =>
              first
              | exact ⟨k + 1, L ++ [⟨y0, y1, y2, y3⟩], A3, c3', by simp, by go_num, by omega, by simp; omega, HB3, Lib.hid (by rw [List.length_append]; exact HR3.out), Lib.hid (by rw [← HFL.out, HD.out]; simp)⟩
              | exact ⟨_, _, _, ⟨k + 1, L ++ [⟨y0, y1, y2, y3⟩], A3, c3', by rw [List.length_append]; rfl, rfl, by omega, by simp; omega, Lib.hid (by rw [List.length_append]; exact HR3.out), Lib.hid (by rw [← HFL.out, HD.out]; simp)⟩, rfl, rfl, by go_num⟩
            case measure => simp [intOf]; omega
          · have d4 : decide (y.num < (N : Int)) = false := decide_eq_false t
            rw [if_neg t] at hd
            obtain ⟨y0, y1, y2, y3⟩ := y
            obtain ⟨m, hm⟩ : ∃ m, m = R.length := ⟨_, rfl⟩
            rw [← hm] at hlt hle hlen f0 f3 ⊢
            simp only at c0 c1 c2 c3 hd d4
            have HD := Lib.hid hd
            clear hc1 e0 e1 e2 e3 hv hd hb hm t
            go_wp2_with fail
            go_roundw
            case rel => exact ⟨k + 1, L, A2, _, rfl, by go_num, by omega, by omega, Lib.hid (by have q1 := HB.out; go_grown), Lib.hid (HR.out.below ((Below.refl _ _).alloc (Nat.le_refl _) _)), Lib.hid (by rw [← HFL.out, HD.out])⟩
            case measure => simp [intOf]; omega
        · have f0 : decide (k < R.length) = false := decide_eq_false hlt
          have HE : Hid (L = ltB R N) := Lib.hid (by rw [← HFL.out, List.drop_eq_nil_of_le (by omega)]; simp [ltB])
          obtain ⟨A3, c3', w3, ha, hr, hb3, _⟩ := bxapp w.heap.size w (Nat.le_refl _) HR.out HB.out ⟨(N : Nat), p, q, 0⟩ (by omega)
          simp only at ha
          have HA := Lib.hid ha
          have HR3 : Hid (bxL w3 w.heap.size (.slice A3 (L ++ [(⟨(N : Nat), p, q, 0⟩ : BX)]).length c3') (L ++ [⟨(N : Nat), p, q, 0⟩])) := Lib.hid (by rw [List.length_append]; exact hr)
          have HB3 := Lib.hid hb3
          have hL2 : (L ++ [(⟨(N : Nat), p, q, 0⟩ : BX)]).length = L.length + 1 := by simp
          have HL2 := Lib.hid hL2
          have HE2 : Hid (L ++ [(⟨(N : Nat), p, q, 0⟩ : BX)] = ltB R N ++ [⟨(N : Nat), p, q, 0⟩]) := Lib.hid (by rw [HE.out])
          obtain ⟨m, hm⟩ : ∃ m, m = R.length := ⟨_, rfl⟩
          rw [← hm] at hlt hle hlen f0 ⊢
          have HM := Lib.hid hm
          clear hm ha hr hb3 hL2
          go_wp2_with (at_builtin; refine wpList_app rfl (.tmp 73) (.tmp 78) 33 rfl rfl rfl HA.out ?_)
          rw [HM.out]
          rw [HM.out] at hlen
          have hk64 : L.length ≤ 63 := by have := HM.out; omega
          rw [← HL2.out]
          generalize (L ++ [(⟨(N : Nat), p, q, 0⟩ : BX)]) = L0 at HE2 HR3 HL2
          have hl0 : L0.length ≤ 64 := by have := HL2.out; omega
          clear hlt hle f0 hlk
          go_loopw [15, 82] (fun o x wr => ∃ (k : Nat) (L : List BX) (A2 : Option Addr) (c2 : Nat), o = .slice A2 L.length c2 ∧ x = .int .i64 k ∧ k ≤ R.length ∧ L.length ≤ 64 + k ∧ Hid (Below w.heap.size w wr) ∧ Hid (bxL wr w.heap.size (.slice A2 L.length c2) L) ∧ Hid (L ++ gtB (R.drop k) N = L0 ++ gtB R N)) (fun _ x _ => R.length - (intOf x).toNat)
          case atStart => exact ⟨0, L0, _, _, rfl, rfl, by omega, by omega, HB3, HR3, Lib.hid rfl⟩
          case round =>
            obtain ⟨k, L, A2, c2, rfl, rfl, hle, hlk, HB, HR, HFL⟩ := hrel
            have hsz := HB.out.size
            by_cases hlt : k < R.length
            · have f0 : decide (k < R.length) = true := decide_eq_true hlt
              have f3 : (k : Int) < (R.length : Int) := by omega
              obtain ⟨b, cap', hv, hb, hbw, e0, e1, e2, e3⟩ := H.out.cell (List.getElem?_eq_getElem hlt)
              have hc1 := fun b o (h : b < w.heap.size) => HB.out.cell (p := ⟨b, o, none⟩) h
              have c0 := (hc1 b _ hbw).trans e0
              have c1 := (hc1 b _ hbw).trans e1
              have c2 := (hc1 b _ hbw).trans e2
              have c3 := (hc1 b _ hbw).trans e3
              obtain ⟨rfl, _, rfl⟩ : A = some ⟨b, 0, none⟩ ∧ R.length = R.length ∧ cap = cap' := by simpa using hv
              have hd : gtB (R.drop k) N = if (N : Int) < R[k].num then R[k] :: gtB (R.drop (k + 1)) N else gtB (R.drop (k + 1)) N := by
                rw [List.drop_eq_getElem_cons hlt]; simp only [gtB, List.filter_cons, decide_eq_true_eq]
              generalize R[k] = y at c0 c1 c2 c3 hd
              by_cases t : (N : Int) < y.num
              · obtain ⟨A3, c3', w3, ha, hr, hb3⟩ := bxapp2 HR.out HB.out y y (by omega)
                have d4 : decide ((N : Int) < y.num) = true := decide_eq_true t
                rw [if_pos t] at hd
                obtain ⟨y0, y1, y2, y3⟩ := y
                obtain ⟨m, hm⟩ : ∃ m, m = R.length := ⟨_, rfl⟩
                rw [← hm] at hlt hle hlen f0 f3 ⊢
                simp only at c0 c1 c2 c3 hd d4 ha hr
                have HA := Lib.hid ha
                have HR3 := Lib.hid hr
                have HB3 := Lib.hid hb3
                have HD := Lib.hid hd
                clear hc1 e0 e1 e2 e3 hv hd hb ha hr hb3 hm t
                go_wp2_with (at_builtin; refine wpList_app rfl (.tmp 90) (.tmp 92) 33 rfl rfl rfl HA.out ?_)
                go_roundw
                case rel =>
                  first
                  | exact ⟨k + 1, L ++ [⟨y0, y1, y2, y3⟩], A3, c3', by simp, by go_num, by omega, by simp; omega, HB3, Lib.hid (by rw [List.length_append]; exact HR3.out), Lib.hid (by rw [← HFL.out, HD.out]; simp)⟩
                  | exact ⟨_, _, _, ⟨k + 1, L ++ [⟨y0, y1, y2, y3⟩], A3, c3', by rw [List.length_append]; rfl, rfl, by omega, by simp; omega, Lib.hid (by rw [List.length_append]; exact HR3.out), Lib.hid (by rw [← HFL.out, HD.out]; simp)⟩, rfl, rfl, by go_num⟩
                case measure => simp [intOf]; omega
              · have d4 : decide ((N : Int) < y.num) = false := decide_eq_false t
                rw [if_neg t] at hd
                obtain ⟨y0, y1, y2, y3⟩ := y
                obtain ⟨m, hm⟩ : ∃ m, m = R.length := ⟨_, rfl⟩
                rw [← hm] at hlt hle hlen f0 f3 ⊢
                simp only at c0 c1 c2 c3 hd d4
                have HD := Lib.hid hd
                clear hc1 e0 e1 e2 e3 hv hd hb hm t
                go_wp2_with fail
                go_roundw
                case rel => exact ⟨k + 1, L, A2, _, rfl, by go_num, by omega, by omega, Lib.hid (by have q1 := HB.out; go_grown), Lib.hid (HR.out.below ((Below.refl _ _).alloc (Nat.le_refl _) _)), Lib.hid (by rw [← HFL.out, HD.out])⟩
                case measure => simp [intOf]; omega
            · have f0 : decide (k < R.length) = false := decide_eq_false hlt
              have HE3 : Hid (L = ltB R N ++ [⟨(N : Nat), p, q, 0⟩] ++ gtB R N) := Lib.hid (by rw [← HE2.out, ← HFL.out, List.drop_eq_nil_of_le (by omega)]; simp [gtB])
              have HWR : Hid (Below w0.heap.size w0 wr) := Lib.hid (b_then HW.out HB.out)
              obtain ⟨m, hm⟩ : ∃ m, m = R.length := ⟨_, rfl⟩
              rw [← hm] at hlt hle hlen f0 ⊢
              clear hm
              go_wp2
              go_returns
              exact ⟨_, rfl, HE3.out ▸ HR.out.mono HLE.out, HWR.out⟩
theorem rChild_any {w : World} {base : Nat} {v : Value} {R : List BX} (h : bxL w base v R) (hb : base ≤ w.heap.size) (hk : BOK R) (p q : Int) :
    Calls Try.prog 24 #[v, .int .i64 p, .int .i64 q] w fun e w' => ∃ v', e = .returned (.tuple #[v', .int .i64 (childBN R p q), .int .i64 (childBE R p q)]) ∧ bxL w' base v' (childBL R p q) ∧ Below w.heap.size w w' := by
  cases hf : findB R p with
  | none =>
    refine (rChild_none h (by have := hk.len; omega) p q hf).mono ?_
    rintro e w' ⟨rfl, hb1⟩
    have h1 : childBE R p q = 5 := by unfold childBE; rw [hf]
    have h2 : childBL R p q = R := by unfold childBL; rw [if_neg (by omega)]
    have h3 : childBN R p q = 0 := by unfold childBN; rw [if_neg (by omega)]
    rw [h1, h2, h3]
    exact ⟨v, rfl, h.below hb1, hb1⟩
  | some d =>
    have hE : childBE R p q = if q < 0 then 1 else if roomB R p < q then 8 else if 63 < R.length then 4 else 0 := by unfold childBE; rw [hf]
    by_cases he : q < 0 ∨ roomB R p < q ∨ 63 < R.length
    · refine (rChild_err h hk p q hf he).mono ?_
      rintro e w' ⟨rfl, hb1⟩
      have h1 : childBE R p q ≠ 0 := by
        rw [hE]
        by_cases h1 : q < 0
        · rw [if_pos h1]; omega
        · rw [if_neg h1]
          by_cases h2 : roomB R p < q
          · rw [if_pos h2]; omega
          · rw [if_neg h2, if_pos (by omega)]; omega
      have h2 : childBL R p q = R := by unfold childBL; rw [if_neg h1]
      have h3 : childBN R p q = 0 := by unfold childBN; rw [if_neg h1]
      rw [h2, h3]
      exact ⟨v, rfl, h.below hb1, hb1⟩
    · have h1 : childBE R p q = 0 := by rw [hE, if_neg (by omega), if_neg (by omega), if_neg (by omega)]
      refine (rChild_ok h hb hk p q hf (by omega) (by omega) (by omega)).mono ?_
      rintro e w' ⟨v', rfl, h4, h5⟩
      have h2 : childBN R p q = (numB R (R.length + 1) : Nat) := by unfold childBN; rw [if_pos h1]
      have h3 : childBL R p q = ltB R (numB R (R.length + 1)) ++ [⟨(numB R (R.length + 1) : Nat), p, q, 0⟩] ++ gtB R (numB R (R.length + 1)) := by unfold childBL; rw [if_pos h1]
      rw [h1, h2, h3]
      exact ⟨v', rfl, h4, h5⟩
end Go.Proofs.Ytgnkgfejnnkkaaa
