/- TlbPlays: behind any calls just the lines are kept that the document says. No condition. -/
import Derived.Test.YthnojhldpbjkoaaTlbS
namespace Go.Proofs.Ythnojhldpbjkoaa
open Go.ChangeShapes Go.WideShapes Go.ChangeAt Go.RowKit
set_option linter.unusedVariables false
set_option linter.unusedSimpArgs false

set_option maxRecDepth 100000 in
set_option maxHeartbeats 16000000 in
theorem walk_TlbPlays (A0 : Option Addr) (len0 cap0 : Nat) (a1 : Int) (a2 : Int) (w : World) (r0 : Rows_ w [.i .i64, .i .i64, .i .i64, .b, .i .i64, .i .i64, .i .i64, .b, .b, .b, .b, .b] A0 len0) (w1 : (Lit.int .i64 a1).wf = true) (w2 : (Lit.int .i64 a2).wf = true) :
    Calls Try.prog 6 #[.slice A0 len0 cap0, .int .i64 a1, .int .i64 a2] w fun e w' => e = .returned (.bool true) ∧ Below w.heap.size w w' := by
  clear w1 w2
  have hz := tlb_zero
  have hl0 := r0.1
  obtain ⟨w0, hw0, hB0, hN⟩ := one_tlb w
  have hR0 : RRow (w0.alloc (.cells #[] 50)) w.heap.size (.slice (some ⟨w0.heap.size, 0, none⟩) 0 0) (refOf zeroL) := by
    rw [refOf_zero]
    exact World.ownsRow_lit (base := w.heap.size) (e := 50) (size := 9) w0 #[] 0 hB0.size (by simp [maxLen]) (by simp)
  have hS0 : w0.heap.size = w.heap.size + 1 := by rw [hw0]; simp
  have HW := Lib.hid hw0
  clear hw0
  go_enter Try.func6, Try.ntmps6
  go_wp2_with fail
  rw [← HW.out, ← hS0]
  refine (awake_true _).mono ?_
  rintro e w1 ⟨rfl, hb⟩
  have hR1 := row_below hR0 hb
  have hA1 := hN.below (b_then (by go_grown) hb)
  have hB1 := b_then hB0 (b_then (by go_grown) hb)
  clear hR0 hN hB0 hb
  have HS0 := Lib.hid hS0
  clear hS0
  go_wp2_with fail
  go_loopw [8, 9] (fun v i wr => ∃ (k : Nat) (L : List Ln), i = .int .i64 k ∧ k ≤ len0 ∧ k ≤ 60 ∧ Below w.heap.size w wr ∧ TlbAt wr w.heap.size L ∧ Inv L ∧ RRow wr w.heap.size v (refOf L)) (fun _ i _ => (60 - intOf i).toNat)
  case atStart => exact ⟨0, zeroL, rfl, by omega, by omega, hB1, hA1, Inv.zero, hR1⟩
  case round =>
    clear hR1 hA1 hB1
    obtain ⟨k, L, rfl, hle, hle2, hB, hA, hI, hR⟩ := hrel
    have hBs := hB.size
    by_cases hlt : k < len0 ∧ k < 60
    · obtain ⟨hl1, hl2⟩ := hlt
      obtain ⟨b, off, hA0, hbs, kind, x, y, lv, lt, lp, lf, lw, lu, lx, lg, ld, e0, e1, e2, e3, e4, e5, e6, e7, e8, e9, e10, e11⟩ := act_row r0 hl1
      have f0 : decide (k < len0) = true := decide_eq_true hl1
      have f1 : decide ((k : Int) < 60) = true := decide_eq_true (by omega)
      subst hA0
      obtain ⟨hc1, hf1⟩ := bcell hB
      have hrl : (refOf L).length ≤ 16 := by rw [ref_len hI.len]; exact lines_le L hI.len
      have hdoes := does_any ⟨hA, hR, hBs, by omega, ref_page hI⟩ kind x y lv lt lp lf lw lu lx lg ld
      rw [ref_does hI] at hdoes
      have hI1 := hI.does kind x y ⟨lv, lt, lp, lf, lw, lu, lx, lg, ld⟩
      have HDO := Lib.hid hdoes
      clear hdoes hI
      go_wp2_with fail
      refine HDO.out.mono ?_
      rintro e w1 ⟨v', rfl, ht1, hA1, hR1⟩
      have hB1 := Below.touch hB ht1 (Nat.le_refl _) (fun k e => by omega)
      generalize doesT L kind x y ⟨lv, lt, lp, lf, lw, lu, lx, lg, ld⟩ = L1 at hA1 hI1 hR1
      clear HDO hA hB ht1 hc1 hf1 e0 e1 e2 e3 e4 e5 e6 e7 e8 e9 e10 e11 hBs hR hrl
      go_wp2_with fail
      refine (lines_any hA1).mono ?_
      rintro e w2 ⟨vl, rfl, hb2, hr2⟩
      have hA2 := hA1.below hb2
      have hB2 := b_then hB1 hb2
      have hR2 := row_below hR1 hb2
      obtain ⟨Al, cl, rfl⟩ := row_form hr2
      obtain ⟨Ar, cr, rfl⟩ := row_form hR2
      have hrl := ref_len hI1.len
      have hnle := lines_le L1 hI1.len
      have hval : ∀ l ∈ linesT L1, l.v = true := fun l hl => (List.mem_filter.1 hl).2
      have hline := fun k h => ref_line hI1.len k h
      have hsame := find_same hI1 a1 a2
      obtain ⟨n, hn⟩ : ∃ n, n = (linesT L1).length := ⟨_, rfl⟩
      obtain ⟨M, hM⟩ : ∃ M, M = linesT L1 := ⟨_, rfl⟩
      have HR : Hid (LnRow w2 w1.heap.size (.slice Al n cl) M) := Lib.hid (by rw [hn, hM]; exact hr2)
      have HRR : Hid (RRow w2 w.heap.size (.slice Ar n cr) (refOf L1)) := Lib.hid (by rw [hn, ← hrl]; exact hR2)
      rw [← hn] at hrl hnle ⊢
      rw [hrl]
      rw [← hM] at hval hn hline
      have HVAL := Lib.hid hval
      have HLINE := Lib.hid hline
      have HM := Lib.hid hM
      have HN := Lib.hid hn
      have HRL := Lib.hid hrl
      clear hb2 hr2 hA1 hB1 hval hM hn hline hR1 hR2 hrl
      go_wp2_with fail
      go_loopw [54] (fun i wr => ∃ j : Nat, i = .int .i64 j ∧ j ≤ n ∧ Below w2.heap.size w2 wr) (fun i _ => n - (intOf i).toNat)
      case atStart => exact ⟨0, rfl, by omega, Below.refl _ _⟩
      case round =>
        obtain ⟨j, rfl, hj, hb3⟩ := hrel
        by_cases hjn : j < n
        · have g0 : decide (j < n) = true := decide_eq_true hjn
          have hjM : j < M.length := by rw [← HN.out]; exact hjn
          obtain ⟨bl, cl', hv, hbb, hbw, d0, d1, d2, d3, d4, d5, d6, d7, d8⟩ := LnRow.cell HR.out (List.getElem?_eq_getElem hjM)
          obtain ⟨way, hway⟩ := HLINE.out j hjM
          obtain ⟨br, cr', hvr, hbbr, hbwr, q0, q1, q2, q3, q4, q5, q6, q7, q8⟩ := RRow.cell HRR.out hway
          obtain ⟨hc3, hf3⟩ := bcell hb3
          obtain ⟨rfl, _, rfl⟩ : Al = some ⟨bl, 0, none⟩ ∧ n = M.length ∧ cl = cl' := by simpa using hv
          obtain ⟨rfl, _, rfl⟩ : Ar = some ⟨br, 0, none⟩ ∧ n = (refOf L1).length ∧ cr = cr' := by simpa using hvr
          have hyv := HVAL.out M[j] (List.getElem_mem hjM)
          clear hway
          generalize M[j] = yy at d0 d1 d2 d3 d4 d5 d6 d7 d8 hyv q0 q1 q2 q3 q4 q5 q6 q7 q8
          obtain ⟨yv, yt, yp, yf, ya, yb, yc, yg, yd⟩ := yy
          simp only [told] at d0 d1 d2 d3 d4 d5 d6 d7 d8 hyv q0 q1 q2 q3 q4 q5 q6 q7 q8
          subst hyv
          have hsz3 := hb3.size
          clear hv hvr hbb hbbr
          go_upto_region 16 with fail
          obtain ⟨W0, hW0⟩ : ∃ W0, W0 = wr.alloc (.cells #[.bool true, .int .i64 yt, .int .i64 yp, .int .i64 yf, .bool ya, .bool yb, .bool yc, .bool yg, .bool yd] 25) := ⟨_, rfl⟩
          have hbx : W0.heap[wr.heap.size]? = some (.cells #[.bool true, .int .i64 yt, .int .i64 yp, .int .i64 yf, .bool ya, .bool yb, .bool yc, .bool yg, .bool yd] 25 (0, 0)) := by rw [hW0]; exact heap_new _ _
          have hbW : Below wr.heap.size wr W0 := by rw [hW0]; go_grown
          have hb4 := b_then hb3 hbW
          obtain ⟨hc4, _⟩ := bcell hbW
          have y0 : W0.cell? ⟨wr.heap.size, 0, none⟩ = some (.bool true) := cell_heap hbx 0
          have y1 : W0.cell? ⟨wr.heap.size, 1, none⟩ = some (.int .i64 yt) := cell_heap hbx 1
          have y2 : W0.cell? ⟨wr.heap.size, 2, none⟩ = some (.int .i64 yp) := cell_heap hbx 2
          have y3 : W0.cell? ⟨wr.heap.size, 3, none⟩ = some (.int .i64 yf) := cell_heap hbx 3
          have y4 : W0.cell? ⟨wr.heap.size, 4, none⟩ = some (.bool ya) := cell_heap hbx 4
          have y5 : W0.cell? ⟨wr.heap.size, 5, none⟩ = some (.bool yb) := cell_heap hbx 5
          have y6 : W0.cell? ⟨wr.heap.size, 6, none⟩ = some (.bool yc) := cell_heap hbx 6
          have y7 : W0.cell? ⟨wr.heap.size, 7, none⟩ = some (.bool yg) := cell_heap hbx 7
          have y8 : W0.cell? ⟨wr.heap.size, 8, none⟩ = some (.bool yd) := cell_heap hbx 8
          have s0 : W0.cell? ⟨br, j * 9, none⟩ = some (.int .i64 way) := (hc4 _ _ (by omega)).trans ((hc3 _ _ hbwr).trans q0)
          have s1 : W0.cell? ⟨br, j * 9 + 1, none⟩ = some (.int .i64 yt) := (hc4 _ _ (by omega)).trans ((hc3 _ _ hbwr).trans q1)
          have s2 : W0.cell? ⟨br, j * 9 + 2, none⟩ = some (.int .i64 yp) := (hc4 _ _ (by omega)).trans ((hc3 _ _ hbwr).trans q2)
          have s3 : W0.cell? ⟨br, j * 9 + 3, none⟩ = some (.int .i64 yf) := (hc4 _ _ (by omega)).trans ((hc3 _ _ hbwr).trans q3)
          have s4 : W0.cell? ⟨br, j * 9 + 4, none⟩ = some (.bool ya) := (hc4 _ _ (by omega)).trans ((hc3 _ _ hbwr).trans q4)
          have s5 : W0.cell? ⟨br, j * 9 + 5, none⟩ = some (.bool yb) := (hc4 _ _ (by omega)).trans ((hc3 _ _ hbwr).trans q5)
          have s6 : W0.cell? ⟨br, j * 9 + 6, none⟩ = some (.bool yc) := (hc4 _ _ (by omega)).trans ((hc3 _ _ hbwr).trans q6)
          have s7 : W0.cell? ⟨br, j * 9 + 7, none⟩ = some (.bool yg) := (hc4 _ _ (by omega)).trans ((hc3 _ _ hbwr).trans q7)
          have s8 : W0.cell? ⟨br, j * 9 + 8, none⟩ = some (.bool yd) := (hc4 _ _ (by omega)).trans ((hc3 _ _ hbwr).trans q8)
          rw [← hW0]
          have z1 := heap_lt hbx
          have z2 := World.block_lt_of_cell? W0 _ s0
          simp only [] at z2
          have HW0 := Lib.hid hW0
          have htold : ∀ W : World, Calls Try.prog 16 #[Ln.val ⟨true, yt, yp, yf, ya, yb, yc, yg, yd⟩, .int .i64 way] W fun e w' => e = .returned (.agg #[.int .i64 way, .int .i64 yt, .int .i64 yp, .int .i64 yf, .bool ya, .bool yb, .bool yc, .bool yg, .bool yd]) ∧ Below W.heap.size W w' := fun W => told_any _ way W
          have hjI : (0 : Int) ≤ j := by omega
          have hjN : (j : Int) < n := by omega
          clear hW0 hbx hbW hc4 hc3 hf3 d0 d1 d2 d3 d4 d5 d6 d7 d8 q0 q1 q2 q3 q4 q5 q6 q7 q8 hb3 hsz3
          have hab := @Abv.cell W0
          refine wp_region_abv (by kernel_rfl) (by kernel_rfl) ?_
          repeat (first | go_big_quiet_skip | (go_big_quiet_want; go_big_quiet_op; first | go_big_quiet_on | go_big_quiet_call ((go_at_call 16; exact abv_call (htold _)))))
          refine wpQuiet_nil ?_
          rintro w5 ⟨⟨_, hb5⟩, rfl⟩
          have hb6 := b_then hb4 hb5
          clear hb4 hb5 hab s0 s1 s2 s3 s4 s5 s6 s7 s8 y0 y1 y2 y3 y4 y5 y6 y7 y8
          go_wp2_with fail
          go_roundw
          case rel => exact ⟨j + 1, by go_num, by omega, hb6⟩
          case measure => simp [intOf]; omega
        · have g0 : decide (j < n) = false := decide_eq_false hjn
          have hA3 := hA2.below hb3
          have hB3 := b_then hB2 hb3
          have hR3 : RRow wr w.heap.size (.slice Ar n cr) (refOf L1) := row_below HRR.out hb3
          clear hA2 hB2 hb3
          rcases hsame with ⟨x, way, hfx, hfr⟩ | ⟨hfx, hfr⟩
          · obtain ⟨xv, xt, xp, xf, xw, xu, xe, xg, xd⟩ := x
            have HFX := Lib.hid hfx
            have HFR : Hid (findR (refOf L1) a1 a2 = ((⟨way, xt, xp, xf, xw, xu, xe, xg, xd⟩ : RL), true)) := Lib.hid hfr
            clear hfx hfr
            go_wp2_with fail
            refine (find_any hA3 a1 a2).mono ?_
            rw [HFX.out]
            rintro e v4 ⟨rfl, hb4⟩
            have hA4 := hA3.below hb4
            have hB4 := b_then hB3 hb4
            have hR4 := row_below hR3 hb4
            clear hb4 hA3 hB3 hR3
            go_wp2_with fail
            obtain ⟨V5, hV5⟩ : ∃ V, V = v4.alloc (.cells #[.bool xv, .int .i64 xt, .int .i64 xp, .int .i64 xf, .bool xw, .bool xu, .bool xe, .bool xg, .bool xd] 25) := ⟨_, rfl⟩
            have hbV : Below v4.heap.size v4 V5 := by rw [hV5]; go_grown
            have hxb : V5.heap[v4.heap.size]? = some (.cells #[.bool xv, .int .i64 xt, .int .i64 xp, .int .i64 xf, .bool xw, .bool xu, .bool xe, .bool xg, .bool xd] 25 (0, 0)) := by rw [hV5]; exact heap_new _ _
            rw [← hV5]
            have HV5 := Lib.hid hV5
            clear hV5
            refine (rfind_any (row_below hR4 hbV) (by rw [HRL.out]; omega) a1 a2).mono ?_
            rw [HFR.out]
            rintro e v6 ⟨rfl, hb6⟩
            have hxb6 := heap_below hb6 hxb
            have hbc := b_then hbV hb6
            have hA6 := hA4.below hbc
            have hB6 := b_then hB4 hbc
            have hR6 := row_below hR4 hbc
            have zx := heap_lt hxb6
            have HXB := Lib.hid hxb6
            clear hxb6 hbc hbV hb6 hA4 hB4 hR4 hxb
            go_upto_region 21 with fail
            obtain ⟨W0, hW0⟩ : ∃ W, W = v6.alloc (.cells #[.int .i64 way, .int .i64 xt, .int .i64 xp, .int .i64 xf, .bool xw, .bool xu, .bool xe, .bool xg, .bool xd] 50) := ⟨_, rfl⟩
            have hbW : Below v6.heap.size v6 W0 := by rw [hW0]; go_grown
            have hrb : W0.heap[v6.heap.size]? = some (.cells #[.int .i64 way, .int .i64 xt, .int .i64 xp, .int .i64 xf, .bool xw, .bool xu, .bool xe, .bool xg, .bool xd] 50 (0, 0)) := by rw [hW0]; exact heap_new _ _
            have hxb7 := heap_below hbW HXB.out
            rw [← hW0]
            have HW0 := Lib.hid hW0
            clear hW0
            have x0 : W0.cell? ⟨v4.heap.size, 0, none⟩ = some (.bool xv) := cell_heap hxb7 0
            have x1 : W0.cell? ⟨v4.heap.size, 1, none⟩ = some (.int .i64 xt) := cell_heap hxb7 1
            have x2 : W0.cell? ⟨v4.heap.size, 2, none⟩ = some (.int .i64 xp) := cell_heap hxb7 2
            have x3 : W0.cell? ⟨v4.heap.size, 3, none⟩ = some (.int .i64 xf) := cell_heap hxb7 3
            have x4 : W0.cell? ⟨v4.heap.size, 4, none⟩ = some (.bool xw) := cell_heap hxb7 4
            have x5 : W0.cell? ⟨v4.heap.size, 5, none⟩ = some (.bool xu) := cell_heap hxb7 5
            have x6 : W0.cell? ⟨v4.heap.size, 6, none⟩ = some (.bool xe) := cell_heap hxb7 6
            have x7 : W0.cell? ⟨v4.heap.size, 7, none⟩ = some (.bool xg) := cell_heap hxb7 7
            have x8 : W0.cell? ⟨v4.heap.size, 8, none⟩ = some (.bool xd) := cell_heap hxb7 8
            have rr0 : W0.cell? ⟨v6.heap.size, 0, none⟩ = some (.int .i64 way) := cell_heap hrb 0
            have rr1 : W0.cell? ⟨v6.heap.size, 1, none⟩ = some (.int .i64 xt) := cell_heap hrb 1
            have rr2 : W0.cell? ⟨v6.heap.size, 2, none⟩ = some (.int .i64 xp) := cell_heap hrb 2
            have rr3 : W0.cell? ⟨v6.heap.size, 3, none⟩ = some (.int .i64 xf) := cell_heap hrb 3
            have rr4 : W0.cell? ⟨v6.heap.size, 4, none⟩ = some (.bool xw) := cell_heap hrb 4
            have rr5 : W0.cell? ⟨v6.heap.size, 5, none⟩ = some (.bool xu) := cell_heap hrb 5
            have rr6 : W0.cell? ⟨v6.heap.size, 6, none⟩ = some (.bool xe) := cell_heap hrb 6
            have rr7 : W0.cell? ⟨v6.heap.size, 7, none⟩ = some (.bool xg) := cell_heap hrb 7
            have rr8 : W0.cell? ⟨v6.heap.size, 8, none⟩ = some (.bool xd) := cell_heap hrb 8
            have z1 := heap_lt hxb7
            have z2 := heap_lt hrb
            have hA7 := hA6.below hbW
            have hB7 := b_then hB6 hbW
            have hR7 := row_below hR6 hbW
            have htold : ∀ W : World, Calls Try.prog 16 #[Ln.val ⟨xv, xt, xp, xf, xw, xu, xe, xg, xd⟩, .int .i64 way] W fun e w' => e = .returned (.agg #[.int .i64 way, .int .i64 xt, .int .i64 xp, .int .i64 xf, .bool xw, .bool xu, .bool xe, .bool xg, .bool xd]) ∧ Below W.heap.size W w' := fun W => told_any _ way W
            clear hxb7 hrb hA6 hB6 hR6 hbW
            have hab := @Abv.cell W0
            refine wp_region_abv (by kernel_rfl) (by kernel_rfl) ?_
            repeat (first | go_big_quiet_skip | (go_big_quiet_want; go_big_quiet_op; first | go_big_quiet_on | go_big_quiet_call ((go_at_call 16; exact abv_call (htold _)))))
            refine wpQuiet_nil ?_
            rintro v8 ⟨⟨_, hb8⟩, rfl⟩
            have hA8 := hA7.below hb8
            have hB8 := b_then hB7 hb8
            have hR8 := row_below hR7 hb8
            clear hA7 hB7 hR7 hb8 hab x0 x1 x2 x3 x4 x5 x6 x7 x8 rr0 rr1 rr2 rr3 rr4 rr5 rr6 rr7 rr8
            go_wp2_with fail
            go_roundw
            case rel => exact ⟨k + 1, L1, by go_num, by omega, by omega, hB8, hA8, hI1, hR8⟩
            case measure => simp [intOf]; omega
          · have HFX : Hid (findT L1 a1 a2 = ((⟨false, 0, 0, 0, false, false, false, false, false⟩ : Ln), false)) := Lib.hid hfx
            have HFR : Hid (findR (refOf L1) a1 a2 = ((⟨0, 0, 0, 0, false, false, false, false, false⟩ : RL), false)) := Lib.hid hfr
            clear hfx hfr
            go_wp2_with fail
            refine (find_any hA3 a1 a2).mono ?_
            rw [HFX.out]
            rintro e v4 ⟨rfl, hb4⟩
            have hA4 := hA3.below hb4
            have hB4 := b_then hB3 hb4
            have hR4 := row_below hR3 hb4
            clear hb4 hA3 hB3 hR3
            go_wp2_with fail
            obtain ⟨V5, hV5⟩ : ∃ V, V = v4.alloc (.cells #[.bool false, .int .i64 0, .int .i64 0, .int .i64 0, .bool false, .bool false, .bool false, .bool false, .bool false] 25) := ⟨_, rfl⟩
            have hbV : Below v4.heap.size v4 V5 := by rw [hV5]; go_grown
            have hxb : V5.heap[v4.heap.size]? = some (.cells #[.bool false, .int .i64 0, .int .i64 0, .int .i64 0, .bool false, .bool false, .bool false, .bool false, .bool false] 25 (0, 0)) := by rw [hV5]; exact heap_new _ _
            rw [← hV5]
            have HV5 := Lib.hid hV5
            clear hV5
            refine (rfind_any (row_below hR4 hbV) (by rw [HRL.out]; omega) a1 a2).mono ?_
            rw [HFR.out]
            rintro e v6 ⟨rfl, hb6⟩
            have hxb6 := heap_below hb6 hxb
            have hbc := b_then hbV hb6
            have hA6 := hA4.below hbc
            have hB6 := b_then hB4 hbc
            have hR6 := row_below hR4 hbc
            have zx := heap_lt hxb6
            have HXB := Lib.hid hxb6
            clear hxb6 hbc hbV hb6 hA4 hB4 hR4 hxb
            go_upto_region 21 with fail
            obtain ⟨W0, hW0⟩ : ∃ W, W = v6.alloc (.cells #[.int .i64 0, .int .i64 0, .int .i64 0, .int .i64 0, .bool false, .bool false, .bool false, .bool false, .bool false] 50) := ⟨_, rfl⟩
            have hbW : Below v6.heap.size v6 W0 := by rw [hW0]; go_grown
            have hrb : W0.heap[v6.heap.size]? = some (.cells #[.int .i64 0, .int .i64 0, .int .i64 0, .int .i64 0, .bool false, .bool false, .bool false, .bool false, .bool false] 50 (0, 0)) := by rw [hW0]; exact heap_new _ _
            have hxb7 := heap_below hbW HXB.out
            rw [← hW0]
            have HW0 := Lib.hid hW0
            clear hW0
            have x0 : W0.cell? ⟨v4.heap.size, 0, none⟩ = some (.bool false) := cell_heap hxb7 0
            have x1 : W0.cell? ⟨v4.heap.size, 1, none⟩ = some (.int .i64 0) := cell_heap hxb7 1
            have x2 : W0.cell? ⟨v4.heap.size, 2, none⟩ = some (.int .i64 0) := cell_heap hxb7 2
            have x3 : W0.cell? ⟨v4.heap.size, 3, none⟩ = some (.int .i64 0) := cell_heap hxb7 3
            have x4 : W0.cell? ⟨v4.heap.size, 4, none⟩ = some (.bool false) := cell_heap hxb7 4
            have x5 : W0.cell? ⟨v4.heap.size, 5, none⟩ = some (.bool false) := cell_heap hxb7 5
            have x6 : W0.cell? ⟨v4.heap.size, 6, none⟩ = some (.bool false) := cell_heap hxb7 6
            have x7 : W0.cell? ⟨v4.heap.size, 7, none⟩ = some (.bool false) := cell_heap hxb7 7
            have x8 : W0.cell? ⟨v4.heap.size, 8, none⟩ = some (.bool false) := cell_heap hxb7 8
            have rr0 : W0.cell? ⟨v6.heap.size, 0, none⟩ = some (.int .i64 0) := cell_heap hrb 0
            have rr1 : W0.cell? ⟨v6.heap.size, 1, none⟩ = some (.int .i64 0) := cell_heap hrb 1
            have rr2 : W0.cell? ⟨v6.heap.size, 2, none⟩ = some (.int .i64 0) := cell_heap hrb 2
            have rr3 : W0.cell? ⟨v6.heap.size, 3, none⟩ = some (.int .i64 0) := cell_heap hrb 3
            have rr4 : W0.cell? ⟨v6.heap.size, 4, none⟩ = some (.bool false) := cell_heap hrb 4
            have rr5 : W0.cell? ⟨v6.heap.size, 5, none⟩ = some (.bool false) := cell_heap hrb 5
            have rr6 : W0.cell? ⟨v6.heap.size, 6, none⟩ = some (.bool false) := cell_heap hrb 6
            have rr7 : W0.cell? ⟨v6.heap.size, 7, none⟩ = some (.bool false) := cell_heap hrb 7
            have rr8 : W0.cell? ⟨v6.heap.size, 8, none⟩ = some (.bool false) := cell_heap hrb 8
            have z1 := heap_lt hxb7
            have z2 := heap_lt hrb
            have hA7 := hA6.below hbW
            have hB7 := b_then hB6 hbW
            have hR7 := row_below hR6 hbW
            clear hxb7 hrb hA6 hB6 hR6 hbW
            have hab := @Abv.cell W0
            refine wp_region_abv (by kernel_rfl) (by kernel_rfl) ?_
            repeat (first | go_big_quiet_skip | (go_big_quiet_want; go_big_quiet_op; first | go_big_quiet_on | go_big_quiet_call ((fail))))
            refine wpQuiet_nil ?_
            rintro v8 ⟨⟨_, hb8⟩, rfl⟩
            have hA8 := hA7.below hb8
            have hB8 := b_then hB7 hb8
            have hR8 := row_below hR7 hb8
            clear hA7 hB7 hR7 hb8 hab x0 x1 x2 x3 x4 x5 x6 x7 x8 rr0 rr1 rr2 rr3 rr4 rr5 rr6 rr7 rr8
            go_wp2_with fail
            go_roundw
            case rel => exact ⟨k + 1, L1, by go_num, by omega, by omega, hB8, hA8, hI1, hR8⟩
            case measure => simp [intOf]; omega
    · have HC := Lib.hid hlt
      clear hlt
      go_wp2_with fail
      all_goals first
        | (go_returns; exact ⟨rfl, hB⟩)
        | (exfalso; have := HC.out; omega)
end Go.Proofs.Ythnojhldpbjkoaa
