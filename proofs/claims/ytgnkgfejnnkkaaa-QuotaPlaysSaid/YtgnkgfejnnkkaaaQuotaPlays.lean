/- QuotaPlays answers true: its walk. No condition. -/
import Derived.Test.YtgnkgfejnnkkaaaQuoQ
namespace Go.Proofs.Ytgnkgfejnnkkaaa
open Go.ChangeShapes Go.WideShapes Go.ChangeAt Go.RowKit
set_option linter.unusedVariables false
set_option linter.unusedSimpArgs false
attribute [local go_sem ↓] Go.wp_at_zero Go.wp_at_succ
/-- Both trees lie there. -/
def Both (root : Int) (base t : Nat) (w : World) (lv : Value) (L : List ND) : Prop := TreeOk root base t w L ∧ bxL w base lv (rl L 0)
theorem Both.below {root : Int} {base t : Nat} {w w' : World} {lv : Value} {L : List ND} (h : Both root base t w lv L) (hb : Below w.heap.size w w') : Both root base t w' lv L := ⟨h.1.below hb, h.2.below hb⟩
theorem both_does {root : Int} {base t : Nat} {w : World} {lv : Value} {L : List ND} (h : Both root base t w lv L) (hb : base ≤ w.heap.size) (k i n : Int) :
    Calls Try.prog 13 #[.pointer (some ⟨t, 0, none⟩), lv, .agg #[.int .i64 k, .int .i64 i, .int .i64 n]] w fun e w' => ∃ A c, e = .returned (.tuple #[.slice A (rl (doesL L k i n) 0).length c, .bool true]) ∧ Upd base w w' ∧ Both root base t w' (.slice A (rl (doesL L k i n) 0).length c) (doesL L k i n) := by
  obtain ⟨⟨hi, v, hv⟩, hr⟩ := h
  refine (does_any hv hi hr (bok_rl hi) hb k i n).mono ?_
  obtain ⟨q1, q2⟩ := rel_does hi k i n
  rw [q1, q2]
  rintro e w' ⟨lv', rfl, hu, h1, v', hv'⟩
  obtain ⟨A, c, rfl⟩ := h1.form
  exact ⟨A, c, rfl, hu, ⟨hi.does k i n, v', hv'⟩, h1⟩
set_option maxRecDepth 20000 in
set_option maxHeartbeats 8000000 in
theorem walk_QuotaPlays (a0 : Int) (A1 : Option Addr) (len1 cap1 : Nat) (w : World) (w0 : (Lit.int .i64 a0).wf = true) (r1 : Rows_ w [.i .i64, .i .i64, .i .i64] A1 len1) :
    Calls Try.prog 5 #[.int .i64 a0, .slice A1 len1 cap1] w fun e w' => e = .returned (.bool true) ∧ Below w.heap.size w w' := by
  by_cases hg : a0 < 0 ∨ 1048576 < a0
  · have HN := Lib.hid (new_bad (w := w) a0 hg)
    have hd : (decide (a0 < 0) = true) ∨ (decide (a0 < 0) = false ∧ decide (1048576 < a0) = true) := by
      by_cases h : a0 < 0
      · exact .inl (decide_eq_true h)
      · exact .inr ⟨decide_eq_false h, decide_eq_true (by omega)⟩
    clear hg w0 r1
    rcases hd with d1 | ⟨d1, d2⟩
    all_goals
      go_enter Try.func5, Try.ntmps5
      go_wp2_with fail
      refine HN.out.mono ?_
      rintro e w1 ⟨rfl, hw⟩
      obtain rfl := hw.symm
      clear hw
      go_wp2_with fail
      refine awake_true.mono ?_
      rintro e w1 ⟨rfl, hb1⟩
      go_wp2
      go_returns
      exact ⟨rfl, hb1⟩
  · have A0 := Lib.hid (new_good (w := w) a0 (by omega) (by omega))
    have i0 := Lib.hid (TInv.new (root := a0) (by omega) (by omega))
    have d1 : decide (a0 < 0) = false := decide_eq_false (by omega)
    have d2 : decide (1048576 < a0) = false := decide_eq_false (by omega)
    have hle1 : len1 ≤ 9223372036854775807 := r1.1
    have R1 := Lib.hid r1
    clear hg w0 r1
    go_enter Try.func5, Try.ntmps5
    go_wp2_with fail
    refine A0.out.mono ?_
    rintro e w1 ⟨t, v1, rfl, h1, hb1⟩
    have H1 := Lib.hid h1
    have HB1 := Lib.hid hb1
    clear h1 hb1 A0
    go_wp2_with fail
    refine awake_true.mono ?_
    rintro e w2 ⟨rfl, hb2⟩
    have HT2 : Hid (TreeOk a0 w.heap.size t w2 [⟨-1, a0, 0, 0, true⟩]) := Lib.hid ⟨i0.out, v1, H1.out.below hb2⟩
    have HB2 := Lib.hid (b_then HB1.out hb2)
    clear hb2
    have hbo : Both a0 w.heap.size t (w2.alloc (.cells #[.int .i64 0, .int .i64 (-1), .int .i64 a0, .int .i64 0] 44)) (.slice (some ⟨w2.heap.size, 0, none⟩) (rl [(⟨-1, a0, 0, 0, true⟩ : ND)] 0).length 1) [⟨-1, a0, 0, 0, true⟩] :=
      ⟨HT2.out.below ((Below.refl _ _).alloc (Nat.le_refl _) _), bxlit w2 w.heap.size HB2.out.size ⟨0, -1, a0, 0⟩⟩
    have hrl1 : (rl [(⟨-1, a0, 0, 0, true⟩ : ND)] 0).length = 1 := rfl
    have hb3 : Below w.heap.size w (w2.alloc (.cells #[.int .i64 0, .int .i64 (-1), .int .i64 a0, .int .i64 0] 44)) := by have q1 := HB2.out; have q2 := q1.size; go_grown
    have HBO := Lib.hid hbo
    have HB3 := Lib.hid hb3
    have HRL := Lib.hid hrl1
    clear hbo hb3 hrl1
    go_wp2_with fail
    go_loopw [7, 8] (fun l i wr => ∃ (k : Nat) (L : List ND) (A : Option Addr) (c : Nat), l = .slice A (rl L 0).length c ∧ i = .int .i64 k ∧ k ≤ len1 ∧ k ≤ 100 ∧ Hid (Both a0 w.heap.size t wr (.slice A (rl L 0).length c) L) ∧ Hid (Below w.heap.size w wr)) (fun _ i _ => 100 - (intOf i).toNat)
    case atStart => exact ⟨0, _, _, _, rfl, rfl, by omega, by omega, HBO, HB3⟩
    case round =>
      obtain ⟨k, L, A, c, rfl, rfl, hle, hle2, HT, HB⟩ := hrel
      clear HBO HB3 HRL H1 HB1 HT2 HB2
      by_cases hlt : k < len1 ∧ k < 100
      · obtain ⟨hl1, hl2⟩ := hlt
        obtain ⟨b, off, x, y, z, hA, hbs, e0, e1, e2⟩ := act_row R1.out hl1
        have f0 : decide (k < len1) = true := decide_eq_true (by omega)
        have f1 : decide ((k : Int) < 100) = true := decide_eq_true (by omega)
        have f2 : (k : Int) < (len1 : Int) := by omega
        have f3 : (0 : Int) ≤ (k : Int) := by omega
        subst hA
        have HC1 := Lib.hid (fun (W : World) (hW : Below w.heap.size w W) => (hW.cell (p := ⟨b, off + k * 3 + 1, none⟩) hbs).trans e1)
        have hc1 := fun b o (h : b < w.heap.size) => HB.out.cell (p := ⟨b, o, none⟩) h
        have c0 := (hc1 b _ hbs).trans e0
        have c1 := (hc1 b _ hbs).trans e1
        have c2 := (hc1 b _ hbs).trans e2
        have HD := Lib.hid (both_does HT.out HB.out.size x y z)
        have HIV := Lib.hid (HT.out.1.1.does x y z)
        obtain ⟨L2, hL2⟩ : ∃ L2, L2 = doesL L x y z := ⟨_, rfl⟩
        rw [← hL2] at HD HIV
        generalize (rl L 0).length = nl at HD HT
        clear hc1 e0 e1 e2 hL2
        go_wp2_with fail
        refine HD.out.mono ?_
        rintro e w3 ⟨A3, c3, rfl, hu3, h3⟩
        have H3 := Lib.hid h3
        have HB3 := Lib.hid (hu3.below HB.out (Nat.le_refl _))
        have m1 := HC1.out w3 HB3.out
        clear hu3 h3 c0 c1 c2 HD HT
        go_wp2_with fail
        refine (live_ok H3.out.1).mono ?_
        rintro e w4 ⟨A4, c4, rfl, hb4, hr4⟩
        have hll : (liveL L2 0).length = (rl L2 0).length := by rw [← rl_live, List.length_map]
        rw [hll] at hr4 ⊢
        have HR4 := Lib.hid hr4
        have H4 := Lib.hid (H3.out.below hb4)
        have HB4 := Lib.hid (b_then HB3.out hb4)
        have m2 := HC1.out w4 HB4.out
        have z4 : b < w4.heap.size := Nat.lt_of_lt_of_le hbs HB4.out.size
        obtain ⟨rm, hrm⟩ : ∃ r, r = roomF L2 y := ⟨_, rfl⟩
        have HRO : Hid (∀ W, Below w4.heap.size w4 W → Calls Try.prog 11 #[.pointer (some ⟨t, 0, none⟩), .int .i64 y] W fun e w' => e = .returned (.int .i64 rm) ∧ Below W.heap.size W w') := Lib.hid (fun W hW => by rw [hrm]; exact room_okk (H4.out.1.below hW) y)
        have HRR : Hid (∀ W, Below w4.heap.size w4 W → Calls Try.prog 17 #[.slice A3 (rl L2 0).length c3, .int .i64 y] W fun e w' => e = .returned (.int .i64 rm) ∧ Below W.heap.size W w') := Lib.hid (fun W hW => by rw [hrm, ← room_rl HIV.out]; exact rRoom_any (H4.out.2.below hW) (bok_rl HIV.out) y)
        have HRLE : Hid (∀ i W, Below w4.heap.size w4 W → Calls Try.prog 18 #[.slice A3 (rl L2 0).length c3, .int .i64 i] W fun e w' => e = .returned (.int .i64 (lentB (rl L2 0) i)) ∧ Below W.heap.size W w') := Lib.hid (fun i W hW => rLent_any (H4.out.2.below hW) (bok_rl HIV.out) i)
        obtain ⟨n, hn⟩ : ∃ n, n = (rl L2 0).length := ⟨_, rfl⟩
        have hn64 : n ≤ 64 := by rw [hn]; exact (bok_rl HIV.out).len
        rw [← hn] at HRR HRLE ⊢
        have HN := Lib.hid hn
        have HLL := Lib.hid hll
        have HZ4 := Lib.hid z4
        clear hb4 hr4 hrm hn hll m1
        go_wp2_with fail
        go_region_held3 (fun W : World => W.cell? ⟨b, off + k * 3 + 1, none⟩ = some (.int .i64 y)) (go_keep)
          ((first
            | (go_at_call 11; refine (HRO.out _ (by go_grown)).mono ?_; rintro e w5 ⟨rfl, hb5⟩; have hB5 : Below w4.heap.size w4 w5 := (b_then (by go_grown) hb5); have m3 := HC1.out w5 (b_then HB4.out hB5); have z5 := hB5.size)
            | (go_at_call 17; refine (HRR.out _ (by go_grown)).mono ?_; rintro e w6 ⟨rfl, hb6⟩; have hB6 : Below w4.heap.size w4 w6 := (b_then (by go_grown) hb6); have m4 := HC1.out w6 (b_then HB4.out hB6); have z6 := hB6.size)))
        have HB46 := Lib.hid hB6
        clear hb5 hb6 hB5 hB6 m2 m3 m4 z5 z6 z4 HRO HRR H3 HB3 HB
        go_wp2_with fail
        go_loopw [102] (fun i wr => ∃ (j : Nat), i = .int .i64 j ∧ j ≤ n ∧ Hid (Below w4.heap.size w4 wr)) (fun i _ => n - (intOf i).toNat)
        case atStart => exact ⟨0, rfl, by omega, HB46⟩
        case round =>
          obtain ⟨j, rfl, hjle, HBW⟩ := hrel
          clear HB46
          by_cases hjn : j < n
          · have g0 : decide (j < n) = true := decide_eq_true hjn
            have g1 : (j : Int) < (n : Int) := by omega
            have g2 : (0 : Int) ≤ (j : Int) := by omega
            have hjl : j < (rl L2 0).length := by rw [← HN.out]; exact hjn
            obtain ⟨bb, cap', hv, hbb, hbw, e0, e1, e2, e3⟩ := H4.out.2.cell (List.getElem?_eq_getElem hjl)
            obtain ⟨t1, t2, t3⟩ := told_rl HIV.out (List.getElem?_eq_getElem hjl)
            generalize (rl L2 0)[j] = box at e0 e1 e2 e3 t1 t2 t3
            have hr4 := HR4.out
            rw [← HLL.out] at hr4
            have hjl2 : j < (liveL L2 0).length := by rw [HLL.out]; exact hjl
            obtain ⟨b4, cap4, hv4, _, hbw4, ecell⟩ := IRow.cell hr4 j hjl2
            have hlj : (liveL L2 0)[j] = box.num := by
              rw [List.getElem?_eq_getElem hjl2] at t1
              exact Option.some.inj t1
            rw [hlj] at ecell
            obtain ⟨rfl, _, rfl⟩ : A3 = some ⟨bb, 0, none⟩ ∧ (rl L2 0).length = (rl L2 0).length ∧ c3 = cap' := by simpa using hv
            obtain ⟨rfl, _⟩ : A4 = some ⟨b4, 0, none⟩ ∧ True := by
              injection hv4 with q1 q2 q3
              exact ⟨q1, trivial⟩
            obtain ⟨bn, bp, bq, bu⟩ := box
            simp only at e0 e1 e2 e3 t2 t3 ecell
            obtain ⟨ln, hln⟩ : ∃ l, l = lentB (rl L2 0) bn := ⟨_, rfl⟩
            have HLN : Hid (∀ W, Below w4.heap.size w4 W → Calls Try.prog 18 #[.slice (some ⟨bb, 0, none⟩) n c3, .int .i64 bn] W fun e w' => e = .returned (.int .i64 ln) ∧ Below W.heap.size W w') := Lib.hid (fun W hW => by rw [hln]; exact HRLE.out bn W hW)
            rw [← hln] at t3
            have HG := Lib.hid (fun (W : World) (hW : Below w4.heap.size w4 W) => get_okk (H4.out.1.below hW) bn)
            rw [t2, t3] at HG
            have hcell := fun b o (h : b < w4.heap.size) => HBW.out.cell (p := ⟨b, o, none⟩) h
            have k0 := (hcell bb _ hbw).trans e0
            have k1 := (hcell bb _ hbw).trans e1
            have k2 := (hcell bb _ hbw).trans e2
            have k3 := (hcell bb _ hbw).trans e3
            have HEC : Hid (w4.cell? ⟨b4, j, none⟩ = some (.int .i64 bn) ∧ b4 < w4.heap.size) := Lib.hid ⟨ecell, hbw4⟩
            clear hv hbb hbw e0 e1 e2 e3 t1 t2 t3 hr4 hjl2 hv4 hbw4 ecell hlj hln hcell hjl
            obtain ⟨W5, hW5⟩ : ∃ W, W = wr.alloc (.cells #[.int .i64 bn, .int .i64 bp, .int .i64 bq, .int .i64 bu] 44) := ⟨_, rfl⟩
            obtain ⟨g, hg⟩ : ∃ g, g = wr.heap.size := ⟨_, rfl⟩
            have hb5 : Below w4.heap.size w4 W5 := by rw [hW5]; have q1 := HBW.out; have q2 := q1.size; go_grown
            have hgc : W5.heap[g]? = some (.cells #[.int .i64 bn, .int .i64 bp, .int .i64 bq, .int .i64 bu] 44 (0, 0)) := by rw [hW5, hg]; exact heap_new _ _
            have HW5 := Lib.hid hW5
            have HG5 := Lib.hid hg
            have HB5 := Lib.hid hb5
            have HGC := Lib.hid hgc
            clear hW5 hg hb5 hgc
            go_wp2_with fail
            rw [← HG5.out, ← HW5.out]
            refine (HG.out _ HB5.out).mono ?_
            rintro e w7 ⟨rfl, hb7⟩
            obtain ⟨W7, hW7⟩ : ∃ W, W = w7.alloc (.cells #[.int .i64 bp, .int .i64 bq, .int .i64 bu, .int .i64 ln, .bool true] 39) := ⟨_, rfl⟩
            obtain ⟨g7, hg7⟩ : ∃ g, g = w7.heap.size := ⟨_, rfl⟩
            have hb57 : Below W5.heap.size W5 W7 := by rw [hW7]; have q2 := hb7.size; go_grown
            have hgc7 : W7.heap[g7]? = some (.cells #[.int .i64 bp, .int .i64 bq, .int .i64 bu, .int .i64 ln, .bool true] 39 (0, 0)) := by rw [hW7, hg7]; exact heap_new _ _
            have hgc57 := heap_below hb57 HGC.out
            have HB7 := Lib.hid (b_then HB5.out hb57)
            have hs : ∀ W : World, Below W7.heap.size W7 W → W.cell? ⟨b4, j, none⟩ = some (.int .i64 bn) ∧ W.cell? ⟨g, 0, none⟩ = some (.int .i64 bn) ∧ W.cell? ⟨g, 1, none⟩ = some (.int .i64 bp) ∧ W.cell? ⟨g, 2, none⟩ = some (.int .i64 bq) ∧ W.cell? ⟨g, 3, none⟩ = some (.int .i64 bu) ∧
                W.cell? ⟨g7, 0, none⟩ = some (.int .i64 bp) ∧ W.cell? ⟨g7, 1, none⟩ = some (.int .i64 bq) ∧ W.cell? ⟨g7, 2, none⟩ = some (.int .i64 bu) ∧ W.cell? ⟨g7, 3, none⟩ = some (.int .i64 ln) ∧ W.cell? ⟨g7, 4, none⟩ = some (.bool true) ∧ b4 < W.heap.size ∧ g < W.heap.size ∧ g7 < W.heap.size := fun W hW => by
              have q1 := heap_below hW hgc57
              have q2 := heap_below hW hgc7
              have q3 := b_then HB7.out hW
              exact ⟨(q3.cell (p := ⟨b4, j, none⟩) HEC.out.2).trans HEC.out.1, cell_heap q1 0, cell_heap q1 1, cell_heap q1 2, cell_heap q1 3, cell_heap q2 0, cell_heap q2 1, cell_heap q2 2, cell_heap q2 3, cell_heap q2 4, Nat.lt_of_lt_of_le HEC.out.2 q3.size, heap_lt q1, heap_lt q2⟩
            have HS := Lib.hid hs
            have HW7 := Lib.hid hW7
            have HG7 := Lib.hid hg7
            have q0 := cell_heap HGC.out 0
            obtain ⟨s0, s1, s2, s3, s4, s5, s6, s7, s8, s9, s10, s11, s12⟩ := hs W7 (Below.refl _ _)
            clear hb7 hW7 hg7 hb57 hgc7 hgc57 hs q0
            simp only [ND.val]
            go_wp2_with fail
            rw [← HG7.out, ← HW7.out]
            go_region_held3 (fun W : World => W.cell? ⟨b4, j, none⟩ = some (.int .i64 bn) ∧ W.cell? ⟨g, 0, none⟩ = some (.int .i64 bn) ∧ W.cell? ⟨g, 1, none⟩ = some (.int .i64 bp) ∧ W.cell? ⟨g, 2, none⟩ = some (.int .i64 bq) ∧ W.cell? ⟨g, 3, none⟩ = some (.int .i64 bu) ∧
                W.cell? ⟨g7, 0, none⟩ = some (.int .i64 bp) ∧ W.cell? ⟨g7, 1, none⟩ = some (.int .i64 bq) ∧ W.cell? ⟨g7, 2, none⟩ = some (.int .i64 bu) ∧ W.cell? ⟨g7, 3, none⟩ = some (.int .i64 ln) ∧ W.cell? ⟨g7, 4, none⟩ = some (.bool true)) (go_keep)
              ((go_at_call 18; refine (HLN.out _ (b_then HB7.out (by go_grown))).mono ?_; rintro e w8 ⟨rfl, hb8⟩; have hB8 : Below W7.heap.size W7 w8 := (b_then (by go_grown) hb8); obtain ⟨u0, u1, u2, u3, u4, u5, u6, u7, u8, u9, u10, u11, u12⟩ := HS.out w8 hB8))
            all_goals
              have HB8 := Lib.hid (b_then HB7.out hB8)
              go_wp2_with fail
              go_roundw
              case rel => exact ⟨j + 1, by go_num, by omega, HB8⟩
              case measure => simp [intOf]; omega
          · have g0 : decide (j < n) = false := decide_eq_false hjn
            have HBO : Hid (Both a0 w.heap.size t wr (.slice A3 (rl L2 0).length c3) L2) := Lib.hid (H4.out.below HBW.out)
            have HBB := Lib.hid (b_then HB4.out HBW.out)
            go_wp2_with fail
            go_roundw
            case rel => exact ⟨k + 1, L2, A3, _, by rw [HN.out], by go_num, by omega, by omega, HBO, HBB⟩
            case measure => simp [intOf]; omega
      · have hc : (decide (k < len1) = true ∧ decide ((k : Int) < 100) = false) ∨ decide (k < len1) = false := by
          by_cases h1 : k < len1
          · exact .inl ⟨decide_eq_true h1, decide_eq_false (by omega)⟩
          · exact .inr (decide_eq_false h1)
        have HG := Lib.hid (get_okk HT.out.1 (-1))
        have e1 : liveAt L (-1) = none := by unfold liveAt; rw [if_neg (by omega)]
        have e2 : getD L (-1) = ⟨0, 0, 0, 0, false⟩ := by unfold getD; rw [e1]
        rw [e1, e2] at HG
        clear hle hle2 hlt e1 e2
        rcases hc with ⟨f0, f1⟩ | f0
        all_goals
          go_wp2_with fail
          refine HG.out.mono ?_
          rintro e w2 ⟨rfl, hb2⟩
          have HB2 := Lib.hid (b_then HB.out hb2)
          clear hb2
          simp only [ND.val, Option.isSome_none]
          go_wp2_with fail
          go_returns
          exact ⟨rfl, by have q1 := HB2.out; have q2 := q1.size; go_grown⟩
end Go.Proofs.Ytgnkgfejnnkkaaa
