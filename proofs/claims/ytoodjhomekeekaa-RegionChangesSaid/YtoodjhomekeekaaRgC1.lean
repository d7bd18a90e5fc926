/- Change: the document's list, changed. Conditions: at most 100 regions; the change is 1, 2 or 3. Printed by gen/rgchange.py. -/
import Derived.Test.YtoodjhomekeekaaRgZ
import Derived.Deep.CutBlock
import Derived.Deep.DeepCutAuto
import Derived.Deep.WholeRow
import Derived.Laws.Rows
import Derived.Laws.Tables
namespace Go.Proofs.Ytoodjhomekeekaa
open Go.ChangeShapes Go.WideShapes Go.ChangeAt Go.RowKit
set_option linter.unusedVariables false
set_option linter.unusedSimpArgs false
def chU (R : List RG) (f t how : Int) (x : RG) (p : Int) : Option Use :=
  if f ≤ p ∧ p < t then (if how = 1 then some (useR x) else if how = 2 then none else (pf R p).map (fun u => (x.w, x.u, x.x, u.2.2.2))) else pf R p
def segs (U : Int → Option Use) : List Int → List RG
  | a :: b :: r => (match U a with | some u => [⟨a, b, u.1, u.2.1, u.2.2.1, u.2.2.2⟩] | none => []) ++ segs U (b :: r)
  | _ => []
def changeL (R : List RG) (f t how : Int) (x : RG) : List RG := mergeL (segs (chU R f t how x) (endsL R f t))
theorem segs_step (U : Int → Option Use) (a b : Int) (r : List Int) : segs U (a :: b :: r) = (match U a with | some u => [⟨a, b, u.1, u.2.1, u.2.2.1, u.2.2.2⟩] | none => []) ++ segs U (b :: r) := rfl
theorem segs_one (U : Int → Option Use) : ∀ {l : List Int}, l.length ≤ 1 → segs U l = []
  | [], _ => rfl
  | [_], _ => rfl
  | _ :: _ :: _, h => by simp at h
theorem touch_row {w : World} {g : Nat} (cs : Array Value) : Touch (fun k => k = g) w (w.setRow g cs) :=
  ⟨rfl, rfl, rfl, by simp, fun k _ hn => setRow_other w g k cs hn⟩
theorem rfL.touch {w w' : World} {base q : Nat} {v : Value} {L : List RG} (h : rfL w base v L) (ht : Touch (fun k => k = q) w w') (hq : some q ≠ v.ownBlock) : rfL w' base v L := by
  refine ⟨h.1, ?_⟩
  rcases h.2 with h2 | ⟨b, cap, cur, h1, hb, hh, h3⟩
  · exact .inl h2
  · exact .inr ⟨b, cap, cur, h1, hb, ht.heap hh (fun e => hq (by rw [h1, ← e]; rfl)), h3⟩
theorem Apart.touch {lo : Nat} {V W W2 : World} {v : Value} {q : Nat} (h : Apart lo V W v) (ht : Touch (fun k => k = q) W W2) (hq : V.heap.size ≤ q) : Apart lo V W2 v :=
  ⟨by have := h.1; have := ht.size; omega, fun b h1 h2 => ⟨(ht.block b (by have := h.1; omega) (by omega)).trans (h.2 b h1 h2).1, (h.2 b h1 h2).2⟩⟩
theorem Apart.own {lo : Nat} {V W : World} {g n c : Nat} (h : Apart lo V W (.slice (some ⟨g, 0, none⟩) n c)) (j : Nat) (u : Value) : Apart lo V (W.setCell ⟨g, j, none⟩ u) (.slice (some ⟨g, 0, none⟩) n c) :=
  ⟨by have := h.1; rw [World.size_setCell]; exact this, fun b h1 h2 => ⟨(Below.heap_setCell W ⟨g, j, none⟩ u b (fun e => (h.2 b h1 h2).2 (by rw [e]; rfl))).trans (h.2 b h1 h2).1, (h.2 b h1 h2).2⟩⟩
set_option maxRecDepth 20000 in
set_option maxHeartbeats 16000000 in
theorem change_any {w : World} {base : Nat} {v : Value} {R : List RG} (h : rfL w base v R) (hl : R.length ≤ 100) (f t how : Int) (hhow : how = 1 ∨ how = 2 ∨ how = 3) (x : RG) :
    Calls Try.prog 23 #[v, .int .i64 f, .int .i64 t, .int .i64 how, x.val] w fun e w' => ∃ A c, e = .returned (.slice A (changeL R f t how x).length c) ∧ rfL w' w.heap.size (.slice A (changeL R f t how x).length c) (changeL R f t how x) ∧ Below w.heap.size w w' := by
  obtain ⟨A, cap, rfl⟩ := h.form
  have H := Lib.hid h
  clear h
  obtain ⟨gx, hgx⟩ : ∃ g, g = w.heap.size := ⟨_, rfl⟩
  obtain ⟨Wg, hWg⟩ : ∃ W, W = w.alloc (.cells x.cl 36) := ⟨_, rfl⟩
  have hx0 : Wg.heap[gx]? = some (.cells x.cl 36 (0, 0)) := by rw [hWg, hgx]; exact heap_new _ _
  have hBg : Below w.heap.size w Wg := by rw [hWg]; exact (Below.refl _ _).alloc (Nat.le_refl _) _
  obtain ⟨g1, hg1⟩ : ∃ g, g = Wg.heap.size := ⟨_, rfl⟩
  have hg1s : g1 = w.heap.size + 1 := by rw [hg1, hWg, World.size_alloc]
  obtain ⟨W1, hW1⟩ : ∃ W, W = Wg.alloc (.cells #[] 36) := ⟨_, rfl⟩
  have hr1 : rfL W1 Wg.heap.size (.slice (some ⟨g1, 0, none⟩) 0 0) [] := by rw [hW1, hg1]; exact rflit0 Wg _ (Nat.le_refl _)
  have hB1 : Below Wg.heap.size Wg W1 := by rw [hW1]; exact (Below.refl _ _).alloc (Nat.le_refl _) _
  have hs1 : W1.heap.size = g1 + 1 := by rw [hW1, World.size_alloc, hg1]
  obtain ⟨E, hE⟩ : ∃ E, E = endsL R f t := ⟨_, rfl⟩
  have hen := ends_any (H.out.below (b_then hBg hB1)) hl f t
  rw [← hE] at hen
  have hEl : E.length ≤ 202 := by
    rw [hE]
    have h1 := fold_ins_len (allE R f t) []
    rw [allE_len] at h1
    unfold endsL
    simp only [List.length_nil] at h1
    omega
  obtain ⟨U, hU⟩ : ∃ U, U = chU R f t how x := ⟨_, rfl⟩
  have hCL : changeL R f t how x = mergeL (segs U E) := by rw [hU, hE]; rfl
  have hUin : ∀ p, f ≤ p ∧ p < t → (how = 1 → U p = some (useR x)) ∧ (how = 2 → U p = none) ∧ (how = 3 → U p = (pf R p).map (fun u => (x.w, x.u, x.x, u.2.2.2))) := fun p hp => by
    rw [hU]
    unfold chU
    rw [if_pos hp]
    refine ⟨fun e => by rw [if_pos e], fun e => by rw [e]; rfl, fun e => by rw [e]; rfl⟩
  have hUout : ∀ p, ¬ (f ≤ p ∧ p < t) → U p = pf R p := fun p hp => by rw [hU]; unfold chU; rw [if_neg hp]
  have hfi : ∀ W, Below w.heap.size w W → ∀ i, Calls Try.prog 11 #[.slice A R.length cap, .int .i64 i] W fun e w' => e = .returned (.tuple #[(fL R i).val, .bool (findL R i).isSome]) ∧ Below W.heap.size W w' := fun W hW i => rFind_any (H.out.below hW) (by omega) i
  have HEN := Lib.hid hen
  have HUI := Lib.hid hUin
  have HUO := Lib.hid hUout
  have HFI := Lib.hid hfi
  have HCL := Lib.hid hCL
  have HWG := Lib.hid hWg
  have HW1 := Lib.hid hW1
  have HS1 := Lib.hid hs1
  have HG1 := Lib.hid hg1
  have HGX := Lib.hid hgx
  have HG1S := Lib.hid hg1s
  have HBG := Lib.hid hBg
  have HB1 := Lib.hid hB1
  have HR1 := Lib.hid hr1
  have hxv : x.val = .agg x.cl := rfl
  obtain ⟨xa, xb, xw, xu, xx, xk⟩ := x
  have HX0 : Hid (Wg.heap[gx]? = some (.cells #[.int .i64 xa, .int .i64 xb, .bool xw, .bool xu, .bool xx, .int .i64 xk] 36 (0, 0))) := Lib.hid hx0
  have hxv2 : RG.val ⟨xa, xb, xw, xu, xx, xk⟩ = .agg #[.int .i64 xa, .int .i64 xb, .bool xw, .bool xu, .bool xx, .int .i64 xk] := rfl
  rw [hxv2]
  simp only at HUI
  clear hen hUin hUout hfi hCL hWg hW1 hs1 hg1 hgx hg1s hBg hB1 hr1 hx0 hxv hxv2 hU hE
  go_enter Try.func23, Try.ntmps23
  go_upto_region 2 with fail
  have hwg2 : w.alloc (.cells #[.int .i64 xa, .int .i64 xb, .bool xw, .bool xu, .bool xx, .int .i64 xk] 36) = Wg := HWG.out.symm
  have hw12 : Wg.alloc (.cells #[] 36) = W1 := HW1.out.symm
  rw [hwg2, hw12, ← HG1S.out, ← HGX.out]
  clear hwg2 hw12
  go_wp2_with fail
  refine HEN.out.mono ?_
  rintro e W2 ⟨AE, cE, rfl, hre, hbe⟩
  have HRE := Lib.hid hre
  have HBE := Lib.hid (b_then HB1.out hbe)
  have HR2 : Hid (rfL W2 Wg.heap.size (.slice (some ⟨g1, 0, none⟩) 0 0) []) := Lib.hid (HR1.out.below hbe)
  have HAP0 : Hid (Apart W1.heap.size W2 W2 (.slice (some ⟨g1, 0, none⟩) 0 0)) := Lib.hid ⟨Nat.le_refl _, fun b h1 _ => ⟨rfl, fun e => by
    have h2 := HS1.out
    injection e with e2
    simp only at e2
    omega⟩⟩
  obtain ⟨ne, hne⟩ : ∃ ne, ne = E.length := ⟨_, rfl⟩
  rw [← hne] at HRE hEl ⊢
  have HNE := Lib.hid hne
  clear hre hbe hne
  go_wp2_with fail
  go_loopw [11, 13] (fun x11 xi wr => ∃ (k : Nat) (O : List RG) (A3 : Option Addr) (c3 : Nat), xi = .int .i64 k ∧ x11 = .slice A3 O.length c3 ∧ k ≤ ne ∧ O.length ≤ k ∧ Hid (Below Wg.heap.size Wg wr) ∧ Hid (rfL wr Wg.heap.size (.slice A3 O.length c3) O) ∧ Hid (Apart W1.heap.size W2 wr (.slice A3 O.length c3)) ∧ Hid (mergeL (segs U E) = (segs U (E.drop k)).foldl mstep O)) (fun _ xi _ => ne - (intOf xi).toNat)
  case atStart => exact ⟨0, [], _, 0, rfl, rfl, by omega, by simp, HBE, HR2, HAP0, Lib.hid rfl⟩
  case round =>
    clear HBE HR2 HAP0
    obtain ⟨k, O, A3, c3, rfl, rfl, hkle, hOk, HBW, HO, HAP, HF⟩ := hrel
    have w1_ : IntKind.i64.wrap ((k : Int) + 1) = (k : Int) + 1 := by rw [IntKind.wrap_i64]; omega
    by_cases hlt : k + 1 < ne
    · have f0 : decide ((k : Int) + 1 < (ne : Int)) = true := decide_eq_true (by omega)
      have f3 : (k : Int) < (ne : Int) := by omega
      have f4 : k < ne := by omega
      have f5 : (k : Int) + 1 < (ne : Int) := by omega
      have f6 : k + 1 < ne := hlt
      have f7 : (0 : Int) ≤ (k : Int) + 1 := by omega
      have f8 : ((k : Int) + 1).toNat = k + 1 := by omega
      have hk1 : k < E.length := by rw [← HNE.out]; omega
      have hk2 : k + 1 < E.length := by rw [← HNE.out]; omega
      have hdr : E.drop k = E[k] :: E[k + 1] :: E.drop (k + 2) := by rw [List.drop_eq_getElem_cons hk1, List.drop_eq_getElem_cons hk2]
      have hdr2 : E.drop (k + 1) = E[k + 1] :: E.drop (k + 2) := List.drop_eq_getElem_cons hk2
      obtain ⟨bE, cE2, hvE, hbE, hbEw, ec1⟩ := IRow.cell HRE.out k hk1
      obtain ⟨bE2, cE3, hvE2, _, _, ec2⟩ := IRow.cell HRE.out (k + 1) hk2
      obtain rfl : bE = bE2 := by rw [hvE] at hvE2; injection hvE2 with i1 _ _; simpa using i1
      obtain ⟨rfl, rfl⟩ : AE = some ⟨bE, 0, none⟩ ∧ cE = cE2 := by injection hvE with i1 _ i3; exact ⟨i1, i3⟩
      have hEb : ∀ W v, Apart W1.heap.size W2 W v → W.cell? ⟨bE, k, none⟩ = some (.int .i64 E[k]) ∧ W.cell? ⟨bE, k + 1, none⟩ = some (.int .i64 E[k + 1]) ∧ bE < W.heap.size := fun W v hW =>
        ⟨(World.cell?_of_block (hW.2 bE hbE hbEw).1).trans ec1, (World.cell?_of_block (hW.2 bE hbE hbEw).1).trans ec2, by have := hW.1; omega⟩
      have hstep : segs U (E.drop k) = (match U E[k] with | some u => [⟨E[k], E[k + 1], u.1, u.2.1, u.2.2.1, u.2.2.2⟩] | none => []) ++ segs U (E.drop (k + 1)) := by
        rw [hdr, segs_step, hdr2]
      have hF := HF.out
      rw [hstep] at hF
      generalize E[k] = e1 at hEb hF
      generalize E[k + 1] = e2 at hEb hF
      have HEB := Lib.hid hEb
      have HBQ := Lib.hid hbEw
      have HF2 := Lib.hid hF
      obtain ⟨⟨ra, rb, rw_, ru, rx, rk⟩, hfl⟩ : ∃ z, z = fL R e1 := ⟨_, rfl⟩
      obtain ⟨ok0, hok0⟩ : ∃ z, z = (findL R e1).isSome := ⟨_, rfl⟩
      have hpf : pf R e1 = if ok0 = true then some (rw_, ru, rx, rk) else none := by
        unfold pf
        rw [hok0]
        unfold fL at hfl
        cases hfd : findL R e1 with
        | none => rfl
        | some d => rw [hfd] at hfl; simp only [Option.getD_some] at hfl; rw [← hfl]; rfl
      have hfi := HFI.out wr (b_then HBG.out HBW.out) e1
      rw [← hfl, ← hok0] at hfi
      have hfi2 : Calls Try.prog 11 #[.slice A R.length cap, .int .i64 e1] wr fun e w' => e = .returned (.tuple #[.agg #[.int .i64 ra, .int .i64 rb, .bool rw_, .bool ru, .bool rx, .int .i64 rk], .bool ok0]) ∧ Below wr.heap.size wr w' := hfi
      have HFI2 := Lib.hid hfi2
      have HPF := Lib.hid hpf
      obtain ⟨z1, z2, z3⟩ := hEb wr _ HAP.out
      clear hk1 hk2 hdr hdr2 hvE hvE2 hbE hbEw ec1 ec2 hstep hF hEb hfl hok0 hpf hfi hfi2
      go_wp2_with fail
      refine HFI2.out.mono ?_
      rintro e w1 ⟨rfl, hb1⟩
      have HBF := Lib.hid hb1
      have HQ2 := Lib.hid (heap_new w1 (.cells #[.int .i64 0, .int .i64 0, .bool false, .bool false, .bool false, .int .i64 0] 36))
      have HAL : Hid ((#[.int .i64 ra, .int .i64 rb, .bool rw_, .bool ru, .bool rx, .int .i64 rk] : Array Value).all (·.oneCell') = true) := Lib.hid (by simp [Value.oneCell'])
      clear hb1 z1 z2 z3
      go_upto_region 7 with (first | ((refine wpList_store_row rfl 36 (.tmp 14) (.tmp 36) rfl w1.heap.size #[.int .i64 ra, .int .i64 rb, .bool rw_, .bool ru, .bool rx, .int .i64 rk] rfl rfl 36 #[.int .i64 0, .int .i64 0, .bool false, .bool false, .bool false, .int .i64 0] HQ2.out sz_rf rfl HAL.out ?_); rw [World.setRow_alloc_new]))
      try simp only [putNone]
      obtain ⟨q, hq⟩ : ∃ q, q = w1.heap.size := ⟨_, rfl⟩
      obtain ⟨V1, hV1⟩ : ∃ W, W = w1.alloc (.cells #[.int .i64 ra, .int .i64 rb, .bool rw_, .bool ru, .bool rx, .int .i64 rk] 36) := ⟨_, rfl⟩
      have hq1 := heap_new w1 (.cells #[.int .i64 ra, .int .i64 rb, .bool rw_, .bool ru, .bool rx, .int .i64 rk] 36)
      have hbv : Below wr.heap.size wr V1 := by rw [hV1]; exact HBF.out.alloc HBF.out.size _
      rw [← hV1, ← hq] at hq1 ⊢
      have HLQ := Lib.hid hq1
      have hqw : q < V1.heap.size := heap_lt hq1
      have HQN : Hid (some q ≠ (Value.slice A3 O.length c3).ownBlock ∧ W2.heap.size ≤ q ∧ Wg.heap.size ≤ q) := Lib.hid ⟨own_ne HO.out (Or.inr (by rw [hq]; exact HBF.out.size)), by rw [hq]; have := HAP.out.1; have := HBF.out.size; omega, by rw [hq]; have := HBW.out.size; have := HBF.out.size; omega⟩
      have HOV := Lib.hid (HO.out.below hbv)
      have HAV := Lib.hid (HAP.out.below hbv)
      have HBV := Lib.hid (b_then HBW.out hbv)
      obtain ⟨z1, z2, z3⟩ := HEB.out V1 _ HAV.out
      clear hV1 hq hq1 hbv HQ2 HAL HBF HFI2
      go_cut [51] (fun s wx => s = .bool (decide (f ≤ e1) && decide (e1 < t)) ∧ wx = V1)
      case first =>
        rcases Bool.eq_false_or_eq_true (decide (f ≤ e1)) with t1 | t1
        · rcases Bool.eq_false_or_eq_true (decide (e1 < t)) with t2 | t2
          all_goals
            have HT2 := Lib.hid t2
            have HT1 := Lib.hid t1
            go_wp2_with fail
            go_meet
            exact ⟨congrArg Value.bool (by rw [HT1.out, HT2.out]; rfl), rfl⟩
        · have HT1 := Lib.hid t1
          go_wp2_with fail
          go_meet
          exact ⟨congrArg Value.bool (by rw [HT1.out]; rfl), rfl⟩
      case rest =>
      obtain ⟨rfl, hw1⟩ := hcut
      obtain rfl := hw1.symm
      clear hw1
      obtain ⟨ib, hib⟩ : ∃ ib, ib = (decide (f ≤ e1) && decide (e1 < t)) := ⟨_, rfl⟩
      rw [← hib]
      have HIB : Hid (ib = true → f ≤ e1 ∧ e1 < t) := Lib.hid (fun e => by rw [e] at hib; have := hib.symm; simp only [Bool.and_eq_true, decide_eq_true_eq] at this; exact this)
      have HIN : Hid (ib = false → ¬ (f ≤ e1 ∧ e1 < t)) := Lib.hid (fun e hp => by rw [e, decide_eq_true hp.1, decide_eq_true hp.2] at hib; cases hib)
      clear hib z1 z2 z3
      go_upto_if 51 with fail
      go_cut [15] (fun s wx => ∃ (ok pw pu px : Bool) (pk pa pb : Int), s = .bool ok ∧ Hid (U e1 = if ok = true then some (pw, pu, px, pk) else none) ∧ Hid (wx.heap[q]? = some (.cells #[.int .i64 pa, .int .i64 pb, .bool pw, .bool pu, .bool px, .int .i64 pk] 36 (0, 0))) ∧ Hid (Touch (fun k => k = q) V1 wx))
      case first =>
        cases ib
        · have HUN := Lib.hid (HUO.out e1 (HIN.out rfl))
          go_wp2_with fail
          go_meet
          exact ⟨ok0, rw_, ru, rx, rk, ra, rb, rfl, Lib.hid (by rw [HUN.out]; exact HPF.out), HLQ, Lib.hid (Touch.refl _ _)⟩
        · have HU1 := Lib.hid (HUI.out e1 (HIB.out rfl))
          have hxh := heap_below HBV.out HX0.out
          have hxw : gx < V1.heap.size := heap_lt hxh
          have x0 : V1.cell? ⟨gx, 0, none⟩ = some (.int .i64 xa) := by have := cell_heap hxh 0; simpa using this
          have x1 : V1.cell? ⟨gx, 1, none⟩ = some (.int .i64 xb) := by have := cell_heap hxh 1; simpa using this
          have x2 : V1.cell? ⟨gx, 2, none⟩ = some (.bool xw) := by have := cell_heap hxh 2; simpa using this
          have x3 : V1.cell? ⟨gx, 3, none⟩ = some (.bool xu) := by have := cell_heap hxh 3; simpa using this
          have x4 : V1.cell? ⟨gx, 4, none⟩ = some (.bool xx) := by have := cell_heap hxh 4; simpa using this
          have x5 : V1.cell? ⟨gx, 5, none⟩ = some (.int .i64 xk) := by have := cell_heap hxh 5; simpa using this
          have HXH := Lib.hid hxh
          clear hxh
          rcases hhow with rfl | rfl | rfl
          · have HUa := Lib.hid (HU1.out.1 rfl)
            have HAL : Hid ((#[.int .i64 xa, .int .i64 xb, .bool xw, .bool xu, .bool xx, .int .i64 xk] : Array Value).all (·.oneCell') = true) := Lib.hid (by simp [Value.oneCell'])
            go_wp2_with (first | (refine wpList_store_row rfl 36 (.tmp 14) (.tmp 55) rfl q #[.int .i64 xa, .int .i64 xb, .bool xw, .bool xu, .bool xx, .int .i64 xk] rfl rfl 36 #[.int .i64 ra, .int .i64 rb, .bool rw_, .bool ru, .bool rx, .int .i64 rk] HLQ.out sz_rf rfl HAL.out ?_))
            go_meet
            exact ⟨true, xw, xu, xx, xk, xa, xb, rfl, Lib.hid (by rw [HUa.out]; rfl), Lib.hid (setRow_heap _ _ _ _ _ _ HLQ.out), Lib.hid (touch_row _)⟩
          · have HUa := Lib.hid (HU1.out.2.1 rfl)
            go_wp2_with fail
            go_meet
            exact ⟨false, rw_, ru, rx, rk, ra, rb, rfl, Lib.hid (by rw [HUa.out]; rfl), HLQ, Lib.hid (Touch.refl _ _)⟩
          · have HUa := Lib.hid (HU1.out.2.2 rfl)
            have hqh := HLQ.out
            have u_2 : V1.cell? ⟨q, 2, none⟩ = some (.bool rw_) := by have := cell_heap hqh 2; simpa using this
            have u_3 : V1.cell? ⟨q, 3, none⟩ = some (.bool ru) := by have := cell_heap hqh 3; simpa using this
            have u_4 : V1.cell? ⟨q, 4, none⟩ = some (.bool rx) := by have := cell_heap hqh 4; simpa using this
            have v_2 : V1.frozen? ⟨q, 2, none⟩ = false := by simp [World.frozen?, hqh]
            have v_3 : V1.frozen? ⟨q, 3, none⟩ = false := by simp [World.frozen?, hqh]
            have v_4 : V1.frozen? ⟨q, 4, none⟩ = false := by simp [World.frozen?, hqh]
            clear hqh
            go_wp2_with fail
            go_meet
            exact ⟨ok0, xw, xu, xx, rk, ra, rb, rfl, Lib.hid (by rw [HUa.out, HPF.out]; cases ok0 <;> rfl), Lib.hid (by
              have h1 := heap_set HLQ.out 2 (.bool xw)
              have h2 := heap_set h1 3 (.bool xu)
              have h3 := heap_set h2 4 (.bool xx)
              simpa using h3), Lib.hid ((((Touch.refl (fun k => k = q) V1).setCell (a := ⟨q, 2, none⟩) (.inl rfl) _).setCell (a := ⟨q, 3, none⟩) (.inl rfl) _).setCell (a := ⟨q, 4, none⟩) (.inl rfl) _)⟩
      case rest =>
      obtain ⟨ok, pw, pu, px, pk, pa, pb, rfl, HUE, HQR, H36⟩ := hcut
      obtain ⟨V2, hV2⟩ : ∃ W, W = wc := ⟨_, rfl⟩
      subst hV2
      have HO2 := Lib.hid (HOV.out.touch H36.out HQN.out.1)
      have HA2 := Lib.hid (HAV.out.touch H36.out HQN.out.2.1)
      have HB2 : Hid (Below Wg.heap.size Wg V2) := Lib.hid (Below.touch HBV.out H36.out (Nat.le_refl _) (fun k e => by have := HQN.out.2.2; omega))
      have hqw2 : q < V2.heap.size := heap_lt HQR.out
      clear hqw
      cases ok
      · go_wp2_with fail
        go_roundw
        case rel => exact ⟨k + 1, O, A3, c3, by go_num, rfl, by omega, by omega, HB2, HO2, HA2, Lib.hid (by rw [HF2.out, HUE.out]; rfl)⟩
        case measure => simp [intOf]; omega
      have hqh := HQR.out
      have u_0 : V2.cell? ⟨q, 0, none⟩ = some (.int .i64 pa) := by have := cell_heap hqh 0; simpa using this
      have u_1 : V2.cell? ⟨q, 1, none⟩ = some (.int .i64 pb) := by have := cell_heap hqh 1; simpa using this
      have v_0 : V2.frozen? ⟨q, 0, none⟩ = false := by simp [World.frozen?, hqh]
      have v_1 : V2.frozen? ⟨q, 1, none⟩ = false := by simp [World.frozen?, hqh]
      obtain ⟨z1, z2, z3⟩ := HEB.out V2 _ HA2.out
      have hbq : ¬ bE = q := fun e => by have := HQN.out.2.1; have := HBQ.out; omega
      clear hqh
      go_upto_region 18 with fail
      try simp only [putNone]
      obtain ⟨Wn, hWn⟩ : ∃ W, W = (V2.setCell ⟨q, 0, none⟩ (.int .i64 e1)).setCell ⟨q, 1, none⟩ (.int .i64 e2) := ⟨_, rfl⟩
      rw [← hWn]
      have hqn : Wn.heap[q]? = some (.cells #[.int .i64 e1, .int .i64 e2, .bool pw, .bool pu, .bool px, .int .i64 pk] 36 (0, 0)) := by
        rw [hWn]
        have h1 := heap_set HQR.out 0 (.int .i64 e1)
        have h2 := heap_set h1 1 (.int .i64 e2)
        simpa using h2
      have htn : Touch (fun k => k = q) V2 Wn := by
        rw [hWn]; exact ((Touch.refl (fun k => k = q) V2).setCell (a := ⟨q, 0, none⟩) (.inl rfl) _).setCell (a := ⟨q, 1, none⟩) (.inl rfl) _
      have HO3 := Lib.hid (HO2.out.touch htn HQN.out.1)
      have HA3 := Lib.hid (HA2.out.touch htn HQN.out.2.1)
      have HB3 : Hid (Below Wg.heap.size Wg Wn) := Lib.hid (Below.touch HB2.out htn (Nat.le_refl _) (fun k e => by have := HQN.out.2.2; omega))
      have HQN3 := Lib.hid hqn
      have HUF := Lib.hid (show mergeL (segs U E) = (segs U (E.drop (k + 1))).foldl mstep (mstep O ⟨e1, e2, pw, pu, px, pk⟩) by rw [HF2.out, HUE.out]; rfl)
      have hqwn : q < Wn.heap.size := heap_lt hqn
      have n_0 : Wn.cell? ⟨q, 0, none⟩ = some (.int .i64 e1) := by have := cell_heap hqn 0; simpa using this
      have n_1 : Wn.cell? ⟨q, 1, none⟩ = some (.int .i64 e2) := by have := cell_heap hqn 1; simpa using this
      have n_2 : Wn.cell? ⟨q, 2, none⟩ = some (.bool pw) := by have := cell_heap hqn 2; simpa using this
      have n_3 : Wn.cell? ⟨q, 3, none⟩ = some (.bool pu) := by have := cell_heap hqn 3; simpa using this
      have n_4 : Wn.cell? ⟨q, 4, none⟩ = some (.bool px) := by have := cell_heap hqn 4; simpa using this
      have n_5 : Wn.cell? ⟨q, 5, none⟩ = some (.int .i64 pk) := by have := cell_heap hqn 5; simpa using this
      have hab := @Abv.cell Wn
      clear hWn hqn htn u_0 u_1 v_0 v_1 z1 z2 z3 hbq hqw2 f0 f3 f4 f5 f6 f7 f8
      rcases List.eq_nil_or_concat O with hO | ⟨O1, a, hO⟩
      · subst hO
        go_upto_region 19 with fail
        refine wp_region_abv (by kernel_rfl) (by kernel_rfl) ?_
        repeat (first | go_big_quiet_skip | (go_big_quiet_want; go_big_quiet_op; first | go_big_quiet_on | go_big_quiet_call ((fail))))
        refine wpQuiet_nil ?_
        rintro W5 ⟨⟨_, hB5⟩, rfl⟩
        have HB5 := Lib.hid (b_then HB3.out hB5)
        obtain ⟨A4, k4, w4, ha, ho, hb4, hap4⟩ := rf_app_apart (Nat.le_refl _) (HA3.out.below hB5) (HO3.out.below hB5) HB5.out ⟨e1, e2, pw, pu, px, pk⟩ (by simp)
        simp only [List.length_nil, Nat.zero_add] at ha ho hap4
        have HA := Lib.hid ha
        have hq5 := heap_below hB5 HQN3.out
        have s_0 : W5.cell? ⟨q, 0, none⟩ = some (.int .i64 e1) := by have := cell_heap hq5 0; simpa using this
        have s_1 : W5.cell? ⟨q, 1, none⟩ = some (.int .i64 e2) := by have := cell_heap hq5 1; simpa using this
        have s_2 : W5.cell? ⟨q, 2, none⟩ = some (.bool pw) := by have := cell_heap hq5 2; simpa using this
        have s_3 : W5.cell? ⟨q, 3, none⟩ = some (.bool pu) := by have := cell_heap hq5 3; simpa using this
        have s_4 : W5.cell? ⟨q, 4, none⟩ = some (.bool px) := by have := cell_heap hq5 4; simpa using this
        have s_5 : W5.cell? ⟨q, 5, none⟩ = some (.int .i64 pk) := by have := cell_heap hq5 5; simpa using this
        have hqw5 : q < W5.heap.size := heap_lt hq5
        clear ha hB5 hq5 n_0 n_1 n_2 n_3 n_4 n_5 hab hqwn
        go_wp2_with (at_builtin; refine wpList_app rfl (.tmp 120) (.tmp 122) 24 rfl rfl rfl HA.out ?_)
        go_roundw
        case rel => exact ⟨k + 1, [⟨e1, e2, pw, pu, px, pk⟩], A4, k4, by go_num, rfl, by omega, by simp, Lib.hid hb4, Lib.hid ho, Lib.hid hap4, Lib.hid (by rw [HUF.out]; rfl)⟩
        case measure => simp [intOf]; omega
      · rw [List.concat_eq_append] at hO
        obtain ⟨mm, hmm⟩ : ∃ mm, mm = O.length := ⟨_, rfl⟩
        obtain ⟨m, hm⟩ : ∃ m, m = O1.length := ⟨_, rfl⟩
        have hmz : mm = m + 1 := by rw [hmm, hO, hm]; simp
        have hml : O[m]? = some a := by rw [hO, hm]; simp
        obtain ⟨g, cg, hv, hg, hgw, x0, x1, x2, x3, x4, x5⟩ := HO3.out.cell hml
        obtain ⟨rfl, rfl⟩ : A3 = some ⟨g, 0, none⟩ ∧ c3 = cg := by injection hv with i1 _ i3; exact ⟨i1, i3⟩
        have hfz := HO3.out.frozen (m * 6 + 1)
        obtain ⟨aa, ab, aw, au, ax, ak⟩ := a
        simp only at x0 x1 x2 x3 x4 x5
        rw [← hmm]
        have g1_ : decide (0 < mm) = true := decide_eq_true (by omega)
        have g2_ : IntKind.i64.wrap ((mm : Int) - 1) = (m : Int) := by rw [IntKind.wrap_i64]; omega
        have g3_ : (m : Int) < (mm : Int) := by omega
        have g4_ : m < mm := by omega
        have g5_ : decide (m < mm) = true := decide_eq_true g4_
        have HO1 := Lib.hid hO
        have HM := Lib.hid hm
        have HMM := Lib.hid hmm
        have HMZ := Lib.hid hmz
        have HF1 := Lib.hid hfz
        have HX1 := Lib.hid x1
        clear hO hm hmm hmz hml hv hfz
        go_upto_region 19 with fail
        go_cut [112] (fun s wx => s = .bool (joinB ⟨aa, ab, aw, au, ax, ak⟩ ⟨e1, e2, pw, pu, px, pk⟩) ∧ Hid (Below Wn.heap.size Wn wx))
        case first =>
          have hcase : ((ab == e1) = false ∧ joinB ⟨aa, ab, aw, au, ax, ak⟩ ⟨e1, e2, pw, pu, px, pk⟩ = false) ∨ ((ab == e1) = true ∧ (aw == pw) = false ∧ joinB ⟨aa, ab, aw, au, ax, ak⟩ ⟨e1, e2, pw, pu, px, pk⟩ = false) ∨ ((ab == e1) = true ∧ (aw == pw) = true ∧ (au == pu) = false ∧ joinB ⟨aa, ab, aw, au, ax, ak⟩ ⟨e1, e2, pw, pu, px, pk⟩ = false) ∨ ((ab == e1) = true ∧ (aw == pw) = true ∧ (au == pu) = true ∧ (ax == px) = false ∧ joinB ⟨aa, ab, aw, au, ax, ak⟩ ⟨e1, e2, pw, pu, px, pk⟩ = false) ∨ ((ab == e1) = true ∧ (aw == pw) = true ∧ (au == pu) = true ∧ (ax == px) = true ∧ (ak == pk) = false ∧ joinB ⟨aa, ab, aw, au, ax, ak⟩ ⟨e1, e2, pw, pu, px, pk⟩ = false) ∨ ((ab == e1) = true ∧ (aw == pw) = true ∧ (au == pu) = true ∧ (ax == px) = true ∧ (ak == pk) = true ∧ joinB ⟨aa, ab, aw, au, ax, ak⟩ ⟨e1, e2, pw, pu, px, pk⟩ = true) := by
            unfold joinB
            simp only
            rcases (ab == e1) with _ | _
            · exact Or.inl ⟨rfl, rfl⟩
            right
            rcases (aw == pw) with _ | _
            · exact Or.inl ⟨rfl, rfl, rfl⟩
            right
            rcases (au == pu) with _ | _
            · exact Or.inl ⟨rfl, rfl, rfl, rfl⟩
            right
            rcases (ax == px) with _ | _
            · exact Or.inl ⟨rfl, rfl, rfl, rfl, rfl⟩
            right
            rcases (ak == pk) with _ | _
            · exact Or.inl ⟨rfl, rfl, rfl, rfl, rfl, rfl⟩
            · exact Or.inr ⟨rfl, rfl, rfl, rfl, rfl, rfl⟩
          rcases hcase with ⟨j1, l⟩ | ⟨j1, j2, l⟩ | ⟨j1, j2, j3, l⟩ | ⟨j1, j2, j3, j4, l⟩ | ⟨j1, j2, j3, j4, j5, l⟩ | ⟨j1, j2, j3, j4, j5, l⟩
          all_goals
            have HJL := Lib.hid l
            clear l
            refine wp_region_abv (by kernel_rfl) (by kernel_rfl) ?_
            repeat (first | go_big_quiet_skip | (go_big_quiet_want; go_big_quiet_op; first | go_big_quiet_on | go_big_quiet_call ((fail))))
            refine wpQuiet_nil ?_
            rintro W5 ⟨⟨_, hB5⟩, rfl⟩
            go_wp2_with fail
            go_meet
            exact ⟨congrArg Value.bool HJL.out.symm, Lib.hid hB5⟩
        case rest =>
        obtain ⟨rfl, hcb⟩ := hcut
        obtain ⟨jb, hjb⟩ : ∃ jb, jb = (joinB ⟨aa, ab, aw, au, ax, ak⟩ ⟨e1, e2, pw, pu, px, pk⟩) := ⟨_, rfl⟩
        rw [← hjb]
        have HJB := Lib.hid hjb
        obtain ⟨W5, hW5⟩ : ∃ W, W = wc := ⟨_, rfl⟩
        subst hW5
        have hB5 := hcb.out
        have HB5 := Lib.hid (b_then HB3.out hB5)
        have HO5 := Lib.hid (HO3.out.below hB5)
        have HA5 := Lib.hid (HA3.out.below hB5)
        have hq5 := heap_below hB5 HQN3.out
        have s_0 : W5.cell? ⟨q, 0, none⟩ = some (.int .i64 e1) := by have := cell_heap hq5 0; simpa using this
        have s_1 : W5.cell? ⟨q, 1, none⟩ = some (.int .i64 e2) := by have := cell_heap hq5 1; simpa using this
        have s_2 : W5.cell? ⟨q, 2, none⟩ = some (.bool pw) := by have := cell_heap hq5 2; simpa using this
        have s_3 : W5.cell? ⟨q, 3, none⟩ = some (.bool pu) := by have := cell_heap hq5 3; simpa using this
        have s_4 : W5.cell? ⟨q, 4, none⟩ = some (.bool px) := by have := cell_heap hq5 4; simpa using this
        have s_5 : W5.cell? ⟨q, 5, none⟩ = some (.int .i64 pk) := by have := cell_heap hq5 5; simpa using this
        have hqw5 : q < W5.heap.size := heap_lt hq5
        obtain ⟨hc2, hf2⟩ := bcell hB5
        have v1 := (hc2 g (m * 6 + 1) hgw).trans HX1.out
        have v2 := (hf2 g (m * 6 + 1) hgw).trans HF1.out
        have hgw5 : g < W5.heap.size := by have := hB5.size; omega
        have HGB : Hid (Wg.heap.size ≤ g) := Lib.hid hg
        clear hjb hcb hB5 hq5 hc2 hf2 x0 x1 x2 x3 x4 x5 n_0 n_1 n_2 n_3 n_4 n_5 hab hqwn hg
        cases jb
        · obtain ⟨A4, k4, w4, ha, ho, hb4, hap4⟩ := rf_app_apart (Nat.le_refl _) HA5.out HO5.out HB5.out ⟨e1, e2, pw, pu, px, pk⟩ (by omega)
          rw [← HMM.out] at ha ho hap4
          have HA := Lib.hid ha
          clear ha v1 v2
          go_wp2_with (at_builtin; refine wpList_app rfl (.tmp 120) (.tmp 122) 24 rfl rfl rfl HA.out ?_)
          go_roundw
          case rel => exact ⟨k + 1, O ++ [⟨e1, e2, pw, pu, px, pk⟩], A4, k4, by go_num, by rw [List.length_append, ← HMM.out]; rfl, by omega, by rw [List.length_append]; simp; omega, Lib.hid hb4, Lib.hid (by rw [List.length_append, ← HMM.out]; exact ho), Lib.hid (by rw [List.length_append, ← HMM.out]; exact hap4), Lib.hid (by rw [HUF.out, HO1.out, mstep_not HJB.out.symm])⟩
          case measure => simp [intOf]; omega
        · go_wp2_with fail
          go_roundw
          case rel => exact ⟨k + 1, O1 ++ [⟨aa, e2, aw, au, ax, ak⟩], some ⟨g, 0, none⟩, c3, by go_num, by rw [List.length_append, ← HM.out, HMZ.out]; rfl, by omega, by have h1 := HMM.out; have h2 := HMZ.out; have h3 := HM.out; rw [List.length_append]; simp; omega, Lib.hid (by have := HB5.out; have := HGB.out; go_grown), Lib.hid (by
            have h5 := HO5.out
            rw [HO1.out, List.length_append] at h5
            have h6 := rf_setb (a := ⟨aa, ab, aw, au, ax, ak⟩) h5 e2
            rw [List.length_append, HM.out]
            exact h6), Lib.hid (by
            have h5 := (HA5.out.own (m * 6 + 1) (.int .i64 e2))
            rw [List.length_append, ← HM.out]
            rw [← HMM.out, HMZ.out] at h5
            exact h5), Lib.hid (by rw [HUF.out, HO1.out, mstep_join HJB.out.symm])⟩
          case measure => simp [intOf]; omega
    · have f0 : decide ((k : Int) + 1 < (ne : Int)) = false := decide_eq_false (by omega)
      have HX : Hid (mergeL (segs U E) = O) := Lib.hid (by rw [HF.out, segs_one U (by rw [List.length_drop, ← HNE.out]; omega)]; rfl)
      go_wp2_with fail
      go_returns
      exact ⟨A3, c3, ret_v (by rw [HCL.out, HX.out]; rfl), by rw [HCL.out, HX.out]; exact HO.out.mono HBG.out.size, b_then HBG.out HBW.out⟩
end Go.Proofs.Ytoodjhomekeekaa
