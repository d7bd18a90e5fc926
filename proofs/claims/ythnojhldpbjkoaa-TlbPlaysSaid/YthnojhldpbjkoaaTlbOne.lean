/- TlbOne: at most one line fits a tag and a page, behind any calls. No condition. -/
import Derived.Test.YthnojhldpbjkoaaTlbI
namespace Go.Proofs.Ythnojhldpbjkoaa
open Go.ChangeShapes Go.WideShapes Go.ChangeAt Go.RowKit
set_option linter.unusedVariables false
set_option linter.unusedSimpArgs false

/-- An act's cells. -/
theorem act_row {w : World} {A : Option Addr} {len : Nat} (r : Rows_ w [.i .i64, .i .i64, .i .i64, .b, .i .i64, .i .i64, .i .i64, .b, .b, .b, .b, .b] A len) {k : Nat} (h : k < len) :
    ∃ (b off : Nat), A = some ⟨b, off, none⟩ ∧ b < w.heap.size ∧ ∃ (kind x y : Int) (lv : Bool) (lt lp lf : Int) (lw lu lx lg ld : Bool),
      w.cell? ⟨b, off + k * 12, none⟩ = some (.int .i64 kind) ∧ w.cell? ⟨b, off + k * 12 + 1, none⟩ = some (.int .i64 x) ∧ w.cell? ⟨b, off + k * 12 + 2, none⟩ = some (.int .i64 y) ∧ w.cell? ⟨b, off + k * 12 + 3, none⟩ = some (.bool lv) ∧
      w.cell? ⟨b, off + k * 12 + 4, none⟩ = some (.int .i64 lt) ∧ w.cell? ⟨b, off + k * 12 + 5, none⟩ = some (.int .i64 lp) ∧ w.cell? ⟨b, off + k * 12 + 6, none⟩ = some (.int .i64 lf) ∧ w.cell? ⟨b, off + k * 12 + 7, none⟩ = some (.bool lw) ∧ w.cell? ⟨b, off + k * 12 + 8, none⟩ = some (.bool lu) ∧
      w.cell? ⟨b, off + k * 12 + 9, none⟩ = some (.bool lx) ∧ w.cell? ⟨b, off + k * 12 + 10, none⟩ = some (.bool lg) ∧ w.cell? ⟨b, off + k * 12 + 11, none⟩ = some (.bool ld) := by
  obtain ⟨_, h2⟩ := r
  obtain ⟨b, off, R, hA, hb, hR⟩ := h2 (by omega)
  obtain ⟨ok, hc⟩ := hR k h
  obtain ⟨_, r1, e, ⟨kind, rfl, _⟩, ok⟩ := ok
  obtain ⟨_, r2, rfl, ⟨x, rfl, _⟩, ok⟩ := ok
  obtain ⟨_, r3, rfl, ⟨y, rfl, _⟩, ok⟩ := ok
  obtain ⟨_, r4, rfl, ⟨lv, rfl⟩, ok⟩ := ok
  obtain ⟨_, r5, rfl, ⟨lt, rfl, _⟩, ok⟩ := ok
  obtain ⟨_, r6, rfl, ⟨lp, rfl, _⟩, ok⟩ := ok
  obtain ⟨_, r7, rfl, ⟨lf, rfl, _⟩, ok⟩ := ok
  obtain ⟨_, r8, rfl, ⟨lw, rfl⟩, ok⟩ := ok
  obtain ⟨_, r9, rfl, ⟨lu, rfl⟩, ok⟩ := ok
  obtain ⟨_, r10, rfl, ⟨lx, rfl⟩, ok⟩ := ok
  obtain ⟨_, r11, rfl, ⟨lg, rfl⟩, ok⟩ := ok
  obtain ⟨_, r12, rfl, ⟨ld, rfl⟩, ok⟩ := ok
  rw [e] at hc
  have hl : [K.i .i64, .i .i64, .i .i64, .b, .i .i64, .i .i64, .i .i64, .b, .b, .b, .b, .b].length = 12 := rfl
  rw [hl] at hc
  exact ⟨b, off, hA, hb, kind, x, y, lv, lt, lp, lf, lw, lu, lx, lg, ld, hc 0 (by omega), hc 1 (by omega), hc 2 (by omega), hc 3 (by omega), hc 4 (by omega), hc 5 (by omega), hc 6 (by omega), hc 7 (by omega), hc 8 (by omega), hc 9 (by omega), hc 10 (by omega), hc 11 (by omega)⟩
theorem one_tlb (w : World) : ∃ w0, w0 = w.alloc (.cells (lcells zeroL).toArray 29) ∧ Below w.heap.size w w0 ∧ TlbAt w0 w.heap.size zeroL := ⟨_, rfl, by go_grown, tlb_new w⟩
theorem LnRow.cell {w : World} {base : Nat} {v : Value} {L : List Ln} (h : LnRow w base v L) {k : Nat} {l : Ln} (hk : L[k]? = some l) :
    ∃ b cap, v = .slice (some ⟨b, 0, none⟩) L.length cap ∧ base ≤ b ∧ b < w.heap.size ∧ Reads w b (k * 9) l := by
  have hlt : k < L.length := (List.getElem?_eq_some_iff.1 hk).1
  obtain ⟨b, cap, hv, hb, hbw, hc⟩ := row_cells h (by omega)
  have hl := lcells_length L
  have c : ∀ j, j < 9 → w.cell? ⟨b, k * 9 + j, none⟩ = l.cells[j]? := fun j hj => (hc _ (by omega)).trans (lcells_at L k l hk j hj)
  exact ⟨b, cap, hv, hb, hbw, c 0 (by omega), c 1 (by omega), c 2 (by omega), c 3 (by omega), c 4 (by omega), c 5 (by omega), c 6 (by omega), c 7 (by omega), c 8 (by omega)⟩
theorem nfits_step (M : List Ln) (tag page : Int) (k : Nat) (h : k < M.length) : nfits (M.take (k + 1)) tag page = nfits (M.take k) tag page + one (fitsB M[k] tag page) := by
  unfold nfits
  rw [List.take_add_one, List.getElem?_eq_getElem h, List.filter_append, List.length_append]
  cases hf : fitsB M[k] tag page <;> simp [hf, one]
set_option maxRecDepth 100000 in
set_option maxHeartbeats 8000000 in
theorem walk_TlbOne (A0 : Option Addr) (len0 cap0 : Nat) (a1 : Int) (a2 : Int) (w : World) (r0 : Rows_ w [.i .i64, .i .i64, .i .i64, .b, .i .i64, .i .i64, .i .i64, .b, .b, .b, .b, .b] A0 len0) (w1 : (Lit.int .i64 a1).wf = true) (w2 : (Lit.int .i64 a2).wf = true) :
    Calls Try.prog 7 #[.slice A0 len0 cap0, .int .i64 a1, .int .i64 a2] w fun e w' => e = .returned (.bool true) ∧ Below w.heap.size w w' := by
  clear w1 w2
  have hz := tlb_zero
  have hl0 := r0.1
  obtain ⟨w0, hw0, hB0, hN⟩ := one_tlb w
  have HW := Lib.hid hw0
  clear hw0
  go_enter Try.func7, Try.ntmps7
  go_wp2_with fail
  rw [← HW.out]
  go_loopw [8] (fun i wr => ∃ (k : Nat) (L : List Ln), i = .int .i64 k ∧ k ≤ len0 ∧ k ≤ 60 ∧ Below w.heap.size w wr ∧ TlbAt wr w.heap.size L ∧ Inv L) (fun i _ => (60 - intOf i).toNat)
  case atStart => exact ⟨0, zeroL, rfl, by omega, by omega, hB0, hN, Inv.zero⟩
  case round =>
    clear hB0 hN
    obtain ⟨k, L, rfl, hle, hle2, hB, hA, hI⟩ := hrel
    have hBs := hB.size
    by_cases hlt : k < len0 ∧ k < 60
    · obtain ⟨hl1, hl2⟩ := hlt
      obtain ⟨b, off, hA0, hbs, kind, x, y, lv, lt, lp, lf, lw, lu, lx, lg, ld, e0, e1, e2, e3, e4, e5, e6, e7, e8, e9, e10, e11⟩ := act_row r0 hl1
      have f0 : decide (k < len0) = true := decide_eq_true hl1
      have f1 : decide ((k : Int) < 60) = true := decide_eq_true (by omega)
      subst hA0
      obtain ⟨hc1, hf1⟩ := bcell hB
      have hdoes := does_any (base := wr.heap.size) (v := .slice none 0 0) (M := []) ⟨hA, World.ownsRow_nil _ _ _ _, Nat.le_refl _, by simp, by simp⟩ kind x y lv lt lp lf lw lu lx lg ld
      have hI1 := hI.does kind x y ⟨lv, lt, lp, lf, lw, lu, lx, lg, ld⟩
      have HDO := Lib.hid hdoes
      clear hdoes hI
      go_wp2_with fail
      refine HDO.out.mono ?_
      rintro e w1 ⟨v', rfl, ht1, hA1, _⟩
      have hB1 := Below.touch hB ht1 (Nat.le_refl _) (fun k e => by omega)
      generalize doesT L kind x y ⟨lv, lt, lp, lf, lw, lu, lx, lg, ld⟩ = L1 at hA1 hI1
      clear HDO hA hB ht1 hc1 hf1 e0 e1 e2 e3 e4 e5 e6 e7 e8 e9 e10 e11 hBs
      go_wp2_with fail
      refine (lines_any hA1).mono ?_
      rintro e w2 ⟨vl, rfl, hb2, hr2⟩
      have hA2 := hA1.below hb2
      have hB2 := b_then hB1 hb2
      obtain ⟨Al, cl, rfl⟩ := row_form hr2
      have hnf := nfits_lines hI1 a1 a2
      have hnle := lines_le L1 hI1.len
      have hval : ∀ l ∈ linesT L1, l.v = true := fun l hl => (List.mem_filter.1 hl).2
      obtain ⟨n, hn⟩ : ∃ n, n = (linesT L1).length := ⟨_, rfl⟩
      have HLE : Hid ((linesT L1).length ≤ 16) := Lib.hid hnle
      obtain ⟨M, hM⟩ : ∃ M, M = linesT L1 := ⟨_, rfl⟩
      rw [← hM] at hr2 hnf hval hn hnle ⊢
      have HNF := Lib.hid hnf
      have HVAL := Lib.hid hval
      have HM := Lib.hid hM
      rw [← hn] at hnle ⊢
      have HN := Lib.hid hn
      have HR : Hid (LnRow w2 w1.heap.size (.slice Al n cl) M) := Lib.hid (by rw [hn]; exact hr2)
      clear hb2 hr2 hA1 hB1 hnf hval hM hn
      go_wp2_with fail
      go_loopw [9, 31] (fun c i wr => ∃ j : Nat, i = .int .i64 j ∧ j ≤ n ∧ c = .int .i64 (nfits (M.take j) a1 a2) ∧ Below w2.heap.size w2 wr) (fun _ i _ => n - (intOf i).toNat)
      case atStart => exact ⟨0, rfl, by omega, rfl, Below.refl _ _⟩
      case round =>
        obtain ⟨j, rfl, hj, rfl, hb3⟩ := hrel
        by_cases hjn : j < n
        · have g0 : decide (j < n) = true := decide_eq_true hjn
          have hjM : j < M.length := by rw [← HN.out]; exact hjn
          obtain ⟨bl, cl', hv, hbb, hbw, d0, d1, d2, d3, d4, d5, d6, d7, d8⟩ := LnRow.cell HR.out (List.getElem?_eq_getElem hjM)
          obtain ⟨hc3, hf3⟩ := bcell hb3
          obtain ⟨rfl, _, rfl⟩ : Al = some ⟨bl, 0, none⟩ ∧ n = M.length ∧ cl = cl' := by simpa using hv
          have HST := Lib.hid (nfits_step M a1 a2 j hjM)
          have HNL : Hid (nfits (M.take j) a1 a2 ≤ 16) := Lib.hid (Nat.le_trans (List.length_filter_le _ _) (by rw [List.length_take]; omega))
          have hyv := HVAL.out M[j] (List.getElem_mem hjM)
          generalize M[j] = yy at d0 d1 d2 d3 d4 d5 d6 d7 d8 HST hyv
          obtain ⟨yv, yt, yp, yf, ya, yb, yc, yg, yd⟩ := yy
          simp only [] at d0 d1 d2 d3 d4 d5 d6 d7 d8 hyv
          subst hyv
          generalize nfits (M.take j) a1 a2 = c at HST HNL ⊢
          have hcl := HNL.out
          clear hv
          go_upto_region 10 with fail
          go_cut [48] (fun s48 wx => s48 = .bool (fitsB ⟨true, yt, yp, yf, ya, yb, yc, yg, yd⟩ a1 a2) ∧ Below wr.heap.size wr wx)
          case first =>
            rcases Bool.eq_false_or_eq_true (yp == a2) with t0 | t0 <;> rcases Bool.eq_false_or_eq_true (yt == a1) with t1 | t1
            all_goals
              go_wp2_with fail
              go_meet
              exact ⟨congrArg Value.bool (by simp [fitsB, *]), by go_grown⟩
          case rest =>
            obtain ⟨rfl, hbc⟩ := hcut
            have hb4 := b_then hb3 hbc
            clear hb3 hbc hc3 hf3 d0 d1 d2 d3 d4 d5 d6 d7 d8
            cases hg : fitsB ⟨true, yt, yp, yf, ya, yb, yc, yg, yd⟩ a1 a2 with
            | true =>
              rw [hg] at HST
              have HE : Hid (nfits (M.take (j + 1)) a1 a2 = c + 1) := HST
              clear hg
              go_wp2_with fail
              go_roundw
              case rel => exact ⟨j + 1, by go_num, by omega, by rw [HE.out]; go_num, hb4⟩
              case measure => simp [intOf]; omega
            | false =>
              rw [hg] at HST
              have HE : Hid (nfits (M.take (j + 1)) a1 a2 = c + 0) := HST
              clear hg
              go_wp2_with fail
              go_roundw
              case rel => exact ⟨j + 1, by go_num, by omega, by rw [HE.out]; rfl, hb4⟩
              case measure => simp [intOf]; omega
        · have g0 : decide (j < n) = false := decide_eq_false hjn
          have hall : nfits (M.take j) a1 a2 = one (findT L1 a1 a2).2 := by
            rw [List.take_of_length_le (by rw [← HN.out]; omega)]; exact HNF.out
          rw [hall]
          have hA3 := hA2.below hb3
          have hB3 := b_then hB2 hb3
          clear hall hA2 hB2 hb3
          obtain ⟨z, ok, hfd⟩ : ∃ z ok, findT L1 a1 a2 = (z, ok) := ⟨_, _, rfl⟩
          rw [hfd]
          have HFD := Lib.hid hfd
          clear hfd
          cases ok
          all_goals
            simp only [one]
            go_wp2_with fail
            refine (find_any hA3 a1 a2).mono ?_
            rw [HFD.out]
            rintro e w4 ⟨rfl, hb4⟩
            have hA4 := hA3.below hb4
            have hB4 := b_then hB3 hb4
            go_wp2_with fail
            refine (lines_any (hA4.below ((Below.refl _ _).alloc (Nat.le_refl _) _))).mono ?_
            rintro e w5 ⟨vm, rfl, hb5, hr5⟩
            obtain ⟨Am, cm, rfl⟩ := row_form hr5
            have hA5 := hA4.below (b_then (by go_grown) hb5)
            have hB5 := b_then hB4 (b_then (by go_grown) hb5)
            obtain ⟨m, hm⟩ : ∃ m, m = (linesT L1).length := ⟨_, rfl⟩
            have hml := HLE.out
            rw [← hm] at hml ⊢
            have g1 : decide ((16 : Int) < (m : Int)) = false := decide_eq_false (by omega)
            clear hb4 hb5 hr5 hA3 hB3 hA4 hB4 hm
            go_wp2_with fail
            go_roundw
            case rel => exact ⟨k + 1, L1, by go_num, by omega, by omega, hB5, hA5, hI1⟩
            case measure => simp [intOf]; omega
    · have hcase : decide (k < len0) = false ∨ decide ((k : Int) < 60) = false := by
        by_cases h1 : k < len0
        · exact .inr (decide_eq_false (by omega))
        · exact .inl (decide_eq_false h1)
      have HC := Lib.hid hlt
      clear hlt
      go_wp2_with fail
      all_goals first
        | (refine (awake_true _).mono ?_; rintro e v2 ⟨rfl, hb2⟩; go_wp2; go_returns; exact ⟨rfl, b_then hB hb2⟩)
        | (exfalso; have := HC.out; omega)
end Go.Proofs.Ythnojhldpbjkoaa
