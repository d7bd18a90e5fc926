/- The reference of layer 5: Fill, for every list of lines. No condition but bounds on its length, and pages of nought or more. -/
import Derived.Test.YthnojhldpbjkoaaTlbF
namespace Go.Proofs.Ythnojhldpbjkoaa
open Go.ChangeShapes Go.WideShapes Go.ChangeAt Go.RowKit
set_option linter.unusedVariables false
set_option linter.unusedSimpArgs false

/-- Is a line driven out? -/
def driven (x y : RL) : Bool := rfits y x.tag x.page || x.gl && y.page == x.page || y.page % 8 == x.page % 8 && y.way == x.way
def stepR (x : RL) (s : Bool × List RL) (y : RL) : Bool × List RL :=
  if driven x y then s else if !s.1 && before x y then (true, s.2 ++ [x, y]) else (s.1, s.2 ++ [y])
def foldR (x : RL) (L : List RL) : Bool × List RL := L.foldl (stepR x) (false, [])
def fillR (L : List RL) (x : RL) : List RL := if (foldR x L).1 then (foldR x L).2 else (foldR x L).2 ++ [x]
theorem foldR_succ (x : RL) (L : List RL) (k : Nat) (h : k < L.length) : foldR x (L.take (k + 1)) = stepR x (foldR x (L.take k)) L[k] := by
  unfold foldR
  rw [List.take_add_one, List.getElem?_eq_getElem h, List.foldl_append]
  rfl
theorem foldR_len (x : RL) : ∀ L : List RL, (foldR x L).2.length ≤ 2 * L.length := by
  have : ∀ (L : List RL) (s : Bool × List RL), (L.foldl (stepR x) s).2.length ≤ s.2.length + 2 * L.length := by
    intro L
    induction L with
    | nil => intro s; simp
    | cons y r ih =>
      intro s
      have h := ih (stepR x s y)
      have h2 : (stepR x s y).2.length ≤ s.2.length + 2 := by
        unfold stepR
        split
        · omega
        · split <;> simp
      simp only [List.foldl_cons, List.length_cons]
      omega
  intro L
  have := this L (false, [])
  simpa [foldR] using this
set_option maxRecDepth 100000 in
set_option maxHeartbeats 8000000 in
theorem rfill_false {w : World} {base : Nat} {v : Value} {L : List RL} (h : RRow w base v L) (hl : L.length ≤ 1000) (hp : ∀ y ∈ L, 0 ≤ y.page) (xw xt xp xf : Int) (xa xb xc xd : Bool) (hx : 0 ≤ xp) :
    Calls Try.prog 26 #[v, RL.val ⟨xw, xt, xp, xf, xa, xb, xc, false, xd⟩] w fun e w' => ∃ v', e = .returned v' ∧ Below w.heap.size w w' ∧ RRow w' w.heap.size v' (fillR L ⟨xw, xt, xp, xf, xa, xb, xc, false, xd⟩) := by
  obtain ⟨A, cap, rfl⟩ := row_form h
  have HP := Lib.hid hp
  clear hp
  have hxb := heap_new w (.cells #[.int .i64 xw, .int .i64 xt, .int .i64 xp, .int .i64 xf, .bool xa, .bool xb, .bool xc, .bool false, .bool xd] 50)
  go_enter Try.func26, Try.ntmps26
  go_wp2_with fail
  go_loopw [5, 6, 12] (fun v d i wr => ∃ k : Nat, i = .int .i64 k ∧ k ≤ L.length ∧ d = .bool (foldR ⟨xw, xt, xp, xf, xa, xb, xc, false, xd⟩ (L.take k)).1 ∧ Below (w.heap.size + 1) (w.alloc (.cells #[.int .i64 xw, .int .i64 xt, .int .i64 xp, .int .i64 xf, .bool xa, .bool xb, .bool xc, .bool false, .bool xd] 50)) wr ∧ RRow wr (w.heap.size + 1) v (foldR ⟨xw, xt, xp, xf, xa, xb, xc, false, xd⟩ (L.take k)).2) (fun _ _ i _ => L.length - (intOf i).toNat)
  case atStart =>
    refine ⟨0, rfl, by omega, rfl, by go_grown, ?_⟩
    have := World.ownsRow_lit (base := w.heap.size + 1) (e := 50) (size := 9) (w.alloc (.cells #[.int .i64 xw, .int .i64 xt, .int .i64 xp, .int .i64 xf, .bool xa, .bool xb, .bool xc, .bool false, .bool xd] 50)) #[] 0 (by rw [World.size_alloc]; exact Nat.le_refl _) (by simp [maxLen]) (by simp)
    rw [World.size_alloc] at this
    exact this
  case round =>
    obtain ⟨k, rfl, hle, rfl, hB, hR⟩ := hrel
    have hsz := hB.size
    rw [World.size_alloc] at hsz
    have hX := heap_below (by rw [World.size_alloc]; exact hB) hxb
    have zx := heap_lt hX
    obtain ⟨A3, c3, rfl⟩ := row_form hR
    have hln : (foldR ⟨xw, xt, xp, xf, xa, xb, xc, false, xd⟩ (L.take k)).2.length ≤ 2000 := Nat.le_trans (foldR_len _ _) (by rw [List.length_take]; omega)
    by_cases hlt : k < L.length
    · have f0 : decide (k < L.length) = true := decide_eq_true hlt
      have hB0 : Below w.heap.size w wr := b_then (W := w.alloc (.cells #[.int .i64 xw, .int .i64 xt, .int .i64 xp, .int .i64 xf, .bool xa, .bool xb, .bool xc, .bool false, .bool xd] 50)) (by go_grown) (by rw [World.size_alloc]; exact hB)
      obtain ⟨bl, cap', hv, hbb, hbw, e0, e1, e2, e3, e4, e5, e6, e7, e8⟩ := h.cell (List.getElem?_eq_getElem hlt)
      obtain ⟨hc1, hf1⟩ := bcell hB0
      obtain ⟨rfl, _, rfl⟩ : A = some ⟨bl, 0, none⟩ ∧ L.length = L.length ∧ cap = cap' := by simpa using hv
      have hpg := HP.out L[k] (List.getElem_mem hlt)
      have HST := Lib.hid (foldR_succ ⟨xw, xt, xp, xf, xa, xb, xc, false, xd⟩ L k hlt)
      generalize L[k] = y at e0 e1 e2 e3 e4 e5 e6 e7 e8 hpg HST
      obtain ⟨yw, yt, yp, yf, ya, yb, yc, yg, yd⟩ := y
      simp only [] at e0 e1 e2 e3 e4 e5 e6 e7 e8 hpg
      obtain ⟨n, hn⟩ : ∃ n, n = L.length := ⟨_, rfl⟩
      rw [← hn] at hlt hle hl f0 ⊢
      have HN := Lib.hid hn
      generalize foldR ⟨xw, xt, xp, xf, xa, xb, xc, false, xd⟩ (L.take k) = S at hln HST hR ⊢
      obtain ⟨d, M⟩ := S
      simp only [] at hln hR ⊢
      clear hn hv h hxb hB0
      have x0 : wr.cell? ⟨w.heap.size, 0, none⟩ = some (.int .i64 xw) := cell_heap hX 0
      have x1 : wr.cell? ⟨w.heap.size, 1, none⟩ = some (.int .i64 xt) := cell_heap hX 1
      have x2 : wr.cell? ⟨w.heap.size, 2, none⟩ = some (.int .i64 xp) := cell_heap hX 2
      have x3 : wr.cell? ⟨w.heap.size, 3, none⟩ = some (.int .i64 xf) := cell_heap hX 3
      have x4 : wr.cell? ⟨w.heap.size, 4, none⟩ = some (.bool xa) := cell_heap hX 4
      have x5 : wr.cell? ⟨w.heap.size, 5, none⟩ = some (.bool xb) := cell_heap hX 5
      have x6 : wr.cell? ⟨w.heap.size, 6, none⟩ = some (.bool xc) := cell_heap hX 6
      have x7 : wr.cell? ⟨w.heap.size, 7, none⟩ = some (.bool false) := cell_heap hX 7
      have x8 : wr.cell? ⟨w.heap.size, 8, none⟩ = some (.bool xd) := cell_heap hX 8
      have HX := Lib.hid hX
      clear hX
      go_upto_region 6 with fail
      go_cut [48] (fun s48 wx => s48 = .bool (driven ⟨xw, xt, xp, xf, xa, xb, xc, false, xd⟩ ⟨yw, yt, yp, yf, ya, yb, yc, yg, yd⟩) ∧ Below (wr.heap.size + 1) (wr.alloc (.cells #[.int .i64 yw, .int .i64 yt, .int .i64 yp, .int .i64 yf, .bool ya, .bool yb, .bool yc, .bool yg, .bool yd] 50)) wx)
      case first =>
        have hcall := fun W => rfits_any ⟨yw, yt, yp, yf, ya, yb, yc, yg, yd⟩ xt xp W
        rcases Bool.eq_false_or_eq_true (rfits ⟨yw, yt, yp, yf, ya, yb, yc, yg, yd⟩ xt xp) with t3 | t3 <;> rw [t3] at hcall <;> rcases Bool.eq_false_or_eq_true (yp == xp) with t0 | t0 <;> rcases Bool.eq_false_or_eq_true (yp % 8 == xp % 8) with t1 | t1 <;> rcases Bool.eq_false_or_eq_true (yw == xw) with t2 | t2
        all_goals
          go_wp2_with (go_at_call 29; refine (hcall _).mono ?_; rintro e w3 ⟨rfl, hb3⟩; obtain ⟨hc3, _⟩ := bcell hb3; have hz3 := hb3.size; rw [World.size_alloc] at hz3; have z31 : w.heap.size < w3.heap.size := (by omega); have z32 : wr.heap.size < w3.heap.size := (by omega))
          go_meet
          refine ⟨congrArg Value.bool (by simp [driven, *]), ?_⟩
          first | exact Below.refl _ _ | (rw [World.size_alloc] at hb3; exact hb3)
      case rest =>
        obtain ⟨rfl, hbc⟩ := hcut
        have hyb := heap_below (by rw [World.size_alloc]; exact hbc) (heap_new wr (.cells #[.int .i64 yw, .int .i64 yt, .int .i64 yp, .int .i64 yf, .bool ya, .bool yb, .bool yc, .bool yg, .bool yd] 50))
        have hBa : Below wr.heap.size wr (wr.alloc (.cells #[.int .i64 yw, .int .i64 yt, .int .i64 yp, .int .i64 yf, .bool ya, .bool yb, .bool yc, .bool yg, .bool yd] 50)) := by go_grown
        have hbc' := b_then hBa (by rw [World.size_alloc]; exact hbc)
        have hXc := heap_below hbc' HX.out
        have hBc : Below (w.heap.size + 1) (w.alloc (.cells #[.int .i64 xw, .int .i64 xt, .int .i64 xp, .int .i64 xf, .bool xa, .bool xb, .bool xc, .bool false, .bool xd] 50)) wc := hB.trans (hbc'.mono (by omega))
        have hRc : RRow wc (w.heap.size + 1) (.slice A3 M.length c3) M := row_below hR hbc'
        have zy := heap_lt hyb
        have zx2 := heap_lt hXc
        have hzc := hbc.size
        rw [World.size_alloc] at hzc
        have hny : some wr.heap.size ≠ (Value.slice A3 M.length c3).ownBlock := own_ne hR (.inr (Nat.le_refl _))
        have HYB := Lib.hid hyb
        have HXB := Lib.hid hXc
        clear hyb hXc hbc hbc' hR hB hBa e0 e1 e2 e3 e4 e5 e6 e7 e8 x0 x1 x2 x3 x4 x5 x6 x7 x8 hc1 hf1 HX
        obtain ⟨i0, hi, hz0, hz1, hz2⟩ := info_parts info50
        cases hg : driven ⟨xw, xt, xp, xf, xa, xb, xc, false, xd⟩ ⟨yw, yt, yp, yf, ya, yb, yc, yg, yd⟩ with
        | true =>
          have HR4 : RRow wc (w.heap.size + 1) (.slice A3 M.length c3) (foldR ⟨xw, xt, xp, xf, xa, xb, xc, false, xd⟩ (L.take (k + 1))).2 := by rw [HST.out]; unfold stepR; rw [hg]; exact hRc
          have HD4 : (foldR ⟨xw, xt, xp, xf, xa, xb, xc, false, xd⟩ (L.take (k + 1))).1 = d := by rw [HST.out]; unfold stepR; rw [hg]; rfl
          have HD := Lib.hid HD4
          clear hg hRc HD4
          go_wp2_with fail
          go_roundw
          case rel => exact ⟨k + 1, by go_num, by omega, by rw [HD.out], hBc, HR4⟩
          case measure => simp [intOf]; omega
        | false =>
          have y0 : wc.cell? ⟨wr.heap.size, 0, none⟩ = some (.int .i64 yw) := cell_heap HYB.out 0
          have y1 : wc.cell? ⟨wr.heap.size, 1, none⟩ = some (.int .i64 yt) := cell_heap HYB.out 1
          have y2 : wc.cell? ⟨wr.heap.size, 2, none⟩ = some (.int .i64 yp) := cell_heap HYB.out 2
          have y3 : wc.cell? ⟨wr.heap.size, 3, none⟩ = some (.int .i64 yf) := cell_heap HYB.out 3
          have y4 : wc.cell? ⟨wr.heap.size, 4, none⟩ = some (.bool ya) := cell_heap HYB.out 4
          have y5 : wc.cell? ⟨wr.heap.size, 5, none⟩ = some (.bool yb) := cell_heap HYB.out 5
          have y6 : wc.cell? ⟨wr.heap.size, 6, none⟩ = some (.bool yc) := cell_heap HYB.out 6
          have y7 : wc.cell? ⟨wr.heap.size, 7, none⟩ = some (.bool yg) := cell_heap HYB.out 7
          have y8 : wc.cell? ⟨wr.heap.size, 8, none⟩ = some (.bool yd) := cell_heap HYB.out 8
          have x0 : wc.cell? ⟨w.heap.size, 0, none⟩ = some (.int .i64 xw) := cell_heap HXB.out 0
          have x1 : wc.cell? ⟨w.heap.size, 1, none⟩ = some (.int .i64 xt) := cell_heap HXB.out 1
          have x2 : wc.cell? ⟨w.heap.size, 2, none⟩ = some (.int .i64 xp) := cell_heap HXB.out 2
          have x3 : wc.cell? ⟨w.heap.size, 3, none⟩ = some (.int .i64 xf) := cell_heap HXB.out 3
          have x4 : wc.cell? ⟨w.heap.size, 4, none⟩ = some (.bool xa) := cell_heap HXB.out 4
          have x5 : wc.cell? ⟨w.heap.size, 5, none⟩ = some (.bool xb) := cell_heap HXB.out 5
          have x6 : wc.cell? ⟨w.heap.size, 6, none⟩ = some (.bool xc) := cell_heap HXB.out 6
          have x7 : wc.cell? ⟨w.heap.size, 7, none⟩ = some (.bool false) := cell_heap HXB.out 7
          have x8 : wc.cell? ⟨w.heap.size, 8, none⟩ = some (.bool xd) := cell_heap HXB.out 8
          have HG := Lib.hid hg
          clear hg
          cases d with
          | true =>
            obtain ⟨A2, c2, w5, ha, hR5, hB5, hs5, hk5⟩ := app_one2 (P := Try.prog) (w.heap.size + 1) (w.alloc (.cells #[.int .i64 xw, .int .i64 xt, .int .i64 xp, .int .i64 xf, .bool xa, .bool xb, .bool xc, .bool false, .bool xd] 50)) (by rw [World.size_alloc]; omega) 43 43 50 (by kernel_rfl) hi hz0 hz1 hz2 rfl (by decide) hRc hBc #[.int .i64 yw, .int .i64 yt, .int .i64 yp, .int .i64 yf, .bool ya, .bool yb, .bool yc, .bool yg, .bool yd] rfl (by simp [Value.oneCell']) (by unfold maxLen; omega) (by omega)
            have HA := Lib.hid ha
            clear ha
            have HR4 : RRow w5 (w.heap.size + 1) (.slice A2 (M.length + 1) c2) (foldR ⟨xw, xt, xp, xf, xa, xb, xc, false, xd⟩ (L.take (k + 1))).2 := by
              have e : (foldR ⟨xw, xt, xp, xf, xa, xb, xc, false, xd⟩ (L.take (k + 1))).2 = M ++ [⟨yw, yt, yp, yf, ya, yb, yc, yg, yd⟩] := by rw [HST.out]; unfold stepR; rw [HG.out]; rfl
              unfold RRow; rw [e, List.length_append, rcells_append]; exact hR5
            have HD4 : (foldR ⟨xw, xt, xp, xf, xa, xb, xc, false, xd⟩ (L.take (k + 1))).1 = true := by rw [HST.out]; unfold stepR; rw [HG.out]; rfl
            have HD := Lib.hid HD4
            clear HD4 hR5 hRc hi hz0 hz1 hz2 hk5
            go_wp2_with (at_builtin; refine wpList_app rfl (.tmp 60) (.tmp 62) 43 rfl rfl rfl HA.out ?_)
            go_roundw
            case rel => exact ⟨k + 1, by go_num, by omega, by rw [HD.out], hB5, HR4⟩
            case measure => simp [intOf]; omega
          | false =>
            have hbef := fun W => before_any ⟨xw, xt, xp, xf, xa, xb, xc, false, xd⟩ ⟨yw, yt, yp, yf, ya, yb, yc, yg, yd⟩ hx hpg W
            cases hbf : before ⟨xw, xt, xp, xf, xa, xb, xc, false, xd⟩ ⟨yw, yt, yp, yf, ya, yb, yc, yg, yd⟩ with
            | false =>
              rw [hbf] at hbef
              have HBF := Lib.hid hbf
              clear hbf
              go_wp2_with fail
              refine (hbef _).mono ?_
              rintro e w6 ⟨rfl, hb6⟩
              have hR6 := row_below hRc hb6
              have hB6 := hBc.trans (hb6.mono (by omega))
              have hY6 := heap_below hb6 HYB.out
              have hz6 := hb6.size
              have zy6 := heap_lt hY6
              clear hb6 hRc hBc y0 y1 y2 y3 y4 y5 y6 y7 y8 x0 x1 x2 x3 x4 x5 x6 x7 x8
              have y0 : w6.cell? ⟨wr.heap.size, 0, none⟩ = some (.int .i64 yw) := cell_heap hY6 0
              have y1 : w6.cell? ⟨wr.heap.size, 1, none⟩ = some (.int .i64 yt) := cell_heap hY6 1
              have y2 : w6.cell? ⟨wr.heap.size, 2, none⟩ = some (.int .i64 yp) := cell_heap hY6 2
              have y3 : w6.cell? ⟨wr.heap.size, 3, none⟩ = some (.int .i64 yf) := cell_heap hY6 3
              have y4 : w6.cell? ⟨wr.heap.size, 4, none⟩ = some (.bool ya) := cell_heap hY6 4
              have y5 : w6.cell? ⟨wr.heap.size, 5, none⟩ = some (.bool yb) := cell_heap hY6 5
              have y6 : w6.cell? ⟨wr.heap.size, 6, none⟩ = some (.bool yc) := cell_heap hY6 6
              have y7 : w6.cell? ⟨wr.heap.size, 7, none⟩ = some (.bool yg) := cell_heap hY6 7
              have y8 : w6.cell? ⟨wr.heap.size, 8, none⟩ = some (.bool yd) := cell_heap hY6 8
              have HY6 := Lib.hid hY6
              clear hY6
              obtain ⟨A2, c2, w5, ha, hR5, hB5, hs5, hk5⟩ := app_one2 (P := Try.prog) (w.heap.size + 1) (w.alloc (.cells #[.int .i64 xw, .int .i64 xt, .int .i64 xp, .int .i64 xf, .bool xa, .bool xb, .bool xc, .bool false, .bool xd] 50)) (by rw [World.size_alloc]; omega) 43 43 50 (by kernel_rfl) hi hz0 hz1 hz2 rfl (by decide) hR6 hB6 #[.int .i64 yw, .int .i64 yt, .int .i64 yp, .int .i64 yf, .bool ya, .bool yb, .bool yc, .bool yg, .bool yd] rfl (by simp [Value.oneCell']) (by unfold maxLen; omega) (by omega)
              have HA := Lib.hid ha
              clear ha
              have HR4 : RRow w5 (w.heap.size + 1) (.slice A2 (M.length + 1) c2) (foldR ⟨xw, xt, xp, xf, xa, xb, xc, false, xd⟩ (L.take (k + 1))).2 := by
                have e : (foldR ⟨xw, xt, xp, xf, xa, xb, xc, false, xd⟩ (L.take (k + 1))).2 = M ++ [⟨yw, yt, yp, yf, ya, yb, yc, yg, yd⟩] := by rw [HST.out]; unfold stepR; rw [HG.out, HBF.out]; rfl
                unfold RRow; rw [e, List.length_append, rcells_append]; exact hR5
              have HD4 : (foldR ⟨xw, xt, xp, xf, xa, xb, xc, false, xd⟩ (L.take (k + 1))).1 = false := by rw [HST.out]; unfold stepR; rw [HG.out, HBF.out]; rfl
              have HD := Lib.hid HD4
              clear HD4 hR5 hR6 hi hz0 hz1 hz2 hk5
              go_wp2_with (at_builtin; refine wpList_app rfl (.tmp 60) (.tmp 62) 43 rfl rfl rfl HA.out ?_)
              go_roundw
              case rel => exact ⟨k + 1, by go_num, by omega, by rw [HD.out], hB5, HR4⟩
              case measure => simp [intOf]; omega
            | true =>
              rw [hbf] at hbef
              have HBF := Lib.hid hbf
              clear hbf
              go_wp2_with fail
              refine (hbef _).mono ?_
              rintro e w6 ⟨rfl, hb6⟩
              have hR6 := row_below hRc hb6
              have hB6 := hBc.trans (hb6.mono (by omega))
              have hY6 := heap_below hb6 HYB.out
              have hX6 := heap_below hb6 HXB.out
              have hz6 := hb6.size
              have zy6 := heap_lt hY6
              have zx6 := heap_lt hX6
              clear hb6 hRc hBc y0 y1 y2 y3 y4 y5 y6 y7 y8 x0 x1 x2 x3 x4 x5 x6 x7 x8
              have x0 : w6.cell? ⟨w.heap.size, 0, none⟩ = some (.int .i64 xw) := cell_heap hX6 0
              have x1 : w6.cell? ⟨w.heap.size, 1, none⟩ = some (.int .i64 xt) := cell_heap hX6 1
              have x2 : w6.cell? ⟨w.heap.size, 2, none⟩ = some (.int .i64 xp) := cell_heap hX6 2
              have x3 : w6.cell? ⟨w.heap.size, 3, none⟩ = some (.int .i64 xf) := cell_heap hX6 3
              have x4 : w6.cell? ⟨w.heap.size, 4, none⟩ = some (.bool xa) := cell_heap hX6 4
              have x5 : w6.cell? ⟨w.heap.size, 5, none⟩ = some (.bool xb) := cell_heap hX6 5
              have x6 : w6.cell? ⟨w.heap.size, 6, none⟩ = some (.bool xc) := cell_heap hX6 6
              have x7 : w6.cell? ⟨w.heap.size, 7, none⟩ = some (.bool false) := cell_heap hX6 7
              have x8 : w6.cell? ⟨w.heap.size, 8, none⟩ = some (.bool xd) := cell_heap hX6 8
              obtain ⟨A2, c2, w5, ha, hR5, hB5, hs5, hk5⟩ := app_one2 (P := Try.prog) (w.heap.size + 1) (w.alloc (.cells #[.int .i64 xw, .int .i64 xt, .int .i64 xp, .int .i64 xf, .bool xa, .bool xb, .bool xc, .bool false, .bool xd] 50)) (by rw [World.size_alloc]; omega) 43 43 50 (by kernel_rfl) hi hz0 hz1 hz2 rfl (by decide) hR6 hB6 #[.int .i64 xw, .int .i64 xt, .int .i64 xp, .int .i64 xf, .bool xa, .bool xb, .bool xc, .bool false, .bool xd] rfl (by simp [Value.oneCell']) (by unfold maxLen; omega) (by omega)
              have HA := Lib.hid ha
              clear ha
              have hY5 := (hk5 _ zy6 hny).trans hY6
              have zy5 := heap_lt hY5
              have y0 : w5.cell? ⟨wr.heap.size, 0, none⟩ = some (.int .i64 yw) := cell_heap hY5 0
              have y1 : w5.cell? ⟨wr.heap.size, 1, none⟩ = some (.int .i64 yt) := cell_heap hY5 1
              have y2 : w5.cell? ⟨wr.heap.size, 2, none⟩ = some (.int .i64 yp) := cell_heap hY5 2
              have y3 : w5.cell? ⟨wr.heap.size, 3, none⟩ = some (.int .i64 yf) := cell_heap hY5 3
              have y4 : w5.cell? ⟨wr.heap.size, 4, none⟩ = some (.bool ya) := cell_heap hY5 4
              have y5 : w5.cell? ⟨wr.heap.size, 5, none⟩ = some (.bool yb) := cell_heap hY5 5
              have y6 : w5.cell? ⟨wr.heap.size, 6, none⟩ = some (.bool yc) := cell_heap hY5 6
              have y7 : w5.cell? ⟨wr.heap.size, 7, none⟩ = some (.bool yg) := cell_heap hY5 7
              have y8 : w5.cell? ⟨wr.heap.size, 8, none⟩ = some (.bool yd) := cell_heap hY5 8
              have HY5 := Lib.hid hY5
              have HX6 := Lib.hid hX6
              clear hY5 hY6 hX6
              obtain ⟨A4, c4, w7, ha, hR7, hB7, hs7, hk7⟩ := app_one2 (P := Try.prog) (w.heap.size + 1) (w.alloc (.cells #[.int .i64 xw, .int .i64 xt, .int .i64 xp, .int .i64 xf, .bool xa, .bool xb, .bool xc, .bool false, .bool xd] 50)) (by rw [World.size_alloc]; omega) 43 43 50 (by kernel_rfl) hi hz0 hz1 hz2 rfl (by decide) hR5 hB5 #[.int .i64 yw, .int .i64 yt, .int .i64 yp, .int .i64 yf, .bool ya, .bool yb, .bool yc, .bool yg, .bool yd] rfl (by simp [Value.oneCell']) (by unfold maxLen; omega) (by omega)
              have HA7 := Lib.hid ha
              clear ha
              have HR4 : RRow w7 (w.heap.size + 1) (.slice A4 (M.length + 1 + 1) c4) (foldR ⟨xw, xt, xp, xf, xa, xb, xc, false, xd⟩ (L.take (k + 1))).2 := by
                have e : (foldR ⟨xw, xt, xp, xf, xa, xb, xc, false, xd⟩ (L.take (k + 1))).2 = M ++ [⟨xw, xt, xp, xf, xa, xb, xc, false, xd⟩, ⟨yw, yt, yp, yf, ya, yb, yc, yg, yd⟩] := by rw [HST.out]; unfold stepR; rw [HG.out, HBF.out]; rfl
                unfold RRow; rw [e, List.length_append, rcells_append]
                rw [List.append_assoc] at hR7; exact hR7
              have HD4 : (foldR ⟨xw, xt, xp, xf, xa, xb, xc, false, xd⟩ (L.take (k + 1))).1 = true := by rw [HST.out]; unfold stepR; rw [HG.out, HBF.out]; rfl
              have HD := Lib.hid HD4
              clear HD4 hR5 hR6 hR7 hi hz0 hz1 hz2 hk5 hk7
              go_wp2_with (at_builtin; first | refine wpList_app rfl (.tmp 56) (.tmp 58) 43 rfl rfl rfl HA.out ?_ | refine wpList_app rfl (.tmp 60) (.tmp 62) 43 rfl rfl rfl HA7.out ?_)
              go_roundw
              case rel => exact ⟨k + 1, by go_num, by omega, by rw [HD.out], hB7, HR4⟩
              case measure => simp [intOf]; omega
    · have f0 : decide (k < L.length) = false := decide_eq_false hlt
      obtain ⟨n, hn⟩ : ∃ n, n = L.length := ⟨_, rfl⟩
      rw [show k = L.length by omega, List.take_length] at hR hln ⊢
      have HFD : fillR L ⟨xw, xt, xp, xf, xa, xb, xc, false, xd⟩ = if (foldR ⟨xw, xt, xp, xf, xa, xb, xc, false, xd⟩ L).1 then (foldR ⟨xw, xt, xp, xf, xa, xb, xc, false, xd⟩ L).2 else (foldR ⟨xw, xt, xp, xf, xa, xb, xc, false, xd⟩ L).2 ++ [⟨xw, xt, xp, xf, xa, xb, xc, false, xd⟩] := rfl
      have HF := Lib.hid HFD
      rw [← hn] at hlt hle hl f0 ⊢
      have HN := Lib.hid hn
      clear hn HFD
      have hB0 : Below w.heap.size w wr := b_then (W := w.alloc (.cells #[.int .i64 xw, .int .i64 xt, .int .i64 xp, .int .i64 xf, .bool xa, .bool xb, .bool xc, .bool false, .bool xd] 50)) (by go_grown) (by rw [World.size_alloc]; exact hB)
      generalize foldR ⟨xw, xt, xp, xf, xa, xb, xc, false, xd⟩ L = S at hln HF hR ⊢
      obtain ⟨d, M⟩ := S
      simp only [] at hln hR HF ⊢
      have x0 : wr.cell? ⟨w.heap.size, 0, none⟩ = some (.int .i64 xw) := cell_heap hX 0
      have x1 : wr.cell? ⟨w.heap.size, 1, none⟩ = some (.int .i64 xt) := cell_heap hX 1
      have x2 : wr.cell? ⟨w.heap.size, 2, none⟩ = some (.int .i64 xp) := cell_heap hX 2
      have x3 : wr.cell? ⟨w.heap.size, 3, none⟩ = some (.int .i64 xf) := cell_heap hX 3
      have x4 : wr.cell? ⟨w.heap.size, 4, none⟩ = some (.bool xa) := cell_heap hX 4
      have x5 : wr.cell? ⟨w.heap.size, 5, none⟩ = some (.bool xb) := cell_heap hX 5
      have x6 : wr.cell? ⟨w.heap.size, 6, none⟩ = some (.bool xc) := cell_heap hX 6
      have x7 : wr.cell? ⟨w.heap.size, 7, none⟩ = some (.bool false) := cell_heap hX 7
      have x8 : wr.cell? ⟨w.heap.size, 8, none⟩ = some (.bool xd) := cell_heap hX 8
      have HX := Lib.hid hX
      clear hX
      cases d with
      | true =>
        go_wp2_with fail
        go_returns
        exact ⟨.slice A3 M.length c3, rfl, hB0, by rw [HF.out, if_pos trivial]; exact row_mono hR (by omega)⟩
      | false =>
        obtain ⟨i0, hi, hz0, hz1, hz2⟩ := info_parts info50
        obtain ⟨A2, c2, w5, ha, hR5, hB5, hs5, hk5⟩ := app_one2 (P := Try.prog) (w.heap.size + 1) (w.alloc (.cells #[.int .i64 xw, .int .i64 xt, .int .i64 xp, .int .i64 xf, .bool xa, .bool xb, .bool xc, .bool false, .bool xd] 50)) (by rw [World.size_alloc]; omega) 43 43 50 (by kernel_rfl) hi hz0 hz1 hz2 rfl (by decide) hR hB #[.int .i64 xw, .int .i64 xt, .int .i64 xp, .int .i64 xf, .bool xa, .bool xb, .bool xc, .bool false, .bool xd] rfl (by simp [Value.oneCell']) (by unfold maxLen; omega) (by omega)
        have HA := Lib.hid ha
        clear ha
        have HR4 : RRow w5 w.heap.size (.slice A2 (M.length + 1) c2) (fillR L ⟨xw, xt, xp, xf, xa, xb, xc, false, xd⟩) := by
          unfold RRow; rw [HF.out, if_neg (by simp), List.length_append, rcells_append]; exact row_mono hR5 (by omega)
        have hB6 : Below w.heap.size w w5 := b_then (W := w.alloc (.cells #[.int .i64 xw, .int .i64 xt, .int .i64 xp, .int .i64 xf, .bool xa, .bool xb, .bool xc, .bool false, .bool xd] 50)) (by go_grown) (by rw [World.size_alloc]; exact hB5)
        clear hR5 hi hz0 hz1 hz2 hk5 hR
        go_wp2_with (at_builtin; refine wpList_app rfl (.tmp 67) (.tmp 69) 43 rfl rfl rfl HA.out ?_)
        go_returns
        exact ⟨_, rfl, hB6, HR4⟩
set_option maxRecDepth 100000 in
set_option maxHeartbeats 8000000 in
theorem rfill_true {w : World} {base : Nat} {v : Value} {L : List RL} (h : RRow w base v L) (hl : L.length ≤ 1000) (hp : ∀ y ∈ L, 0 ≤ y.page) (xw xt xp xf : Int) (xa xb xc xd : Bool) (hx : 0 ≤ xp) :
    Calls Try.prog 26 #[v, RL.val ⟨xw, xt, xp, xf, xa, xb, xc, true, xd⟩] w fun e w' => ∃ v', e = .returned v' ∧ Below w.heap.size w w' ∧ RRow w' w.heap.size v' (fillR L ⟨xw, xt, xp, xf, xa, xb, xc, true, xd⟩) := by
  obtain ⟨A, cap, rfl⟩ := row_form h
  have HP := Lib.hid hp
  clear hp
  have hxb := heap_new w (.cells #[.int .i64 xw, .int .i64 xt, .int .i64 xp, .int .i64 xf, .bool xa, .bool xb, .bool xc, .bool true, .bool xd] 50)
  go_enter Try.func26, Try.ntmps26
  go_wp2_with fail
  go_loopw [5, 6, 12] (fun v d i wr => ∃ k : Nat, i = .int .i64 k ∧ k ≤ L.length ∧ d = .bool (foldR ⟨xw, xt, xp, xf, xa, xb, xc, true, xd⟩ (L.take k)).1 ∧ Below (w.heap.size + 1) (w.alloc (.cells #[.int .i64 xw, .int .i64 xt, .int .i64 xp, .int .i64 xf, .bool xa, .bool xb, .bool xc, .bool true, .bool xd] 50)) wr ∧ RRow wr (w.heap.size + 1) v (foldR ⟨xw, xt, xp, xf, xa, xb, xc, true, xd⟩ (L.take k)).2) (fun _ _ i _ => L.length - (intOf i).toNat)
  case atStart =>
    refine ⟨0, rfl, by omega, rfl, by go_grown, ?_⟩
    have := World.ownsRow_lit (base := w.heap.size + 1) (e := 50) (size := 9) (w.alloc (.cells #[.int .i64 xw, .int .i64 xt, .int .i64 xp, .int .i64 xf, .bool xa, .bool xb, .bool xc, .bool true, .bool xd] 50)) #[] 0 (by rw [World.size_alloc]; exact Nat.le_refl _) (by simp [maxLen]) (by simp)
    rw [World.size_alloc] at this
    exact this
  case round =>
    obtain ⟨k, rfl, hle, rfl, hB, hR⟩ := hrel
    have hsz := hB.size
    rw [World.size_alloc] at hsz
    have hX := heap_below (by rw [World.size_alloc]; exact hB) hxb
    have zx := heap_lt hX
    obtain ⟨A3, c3, rfl⟩ := row_form hR
    have hln : (foldR ⟨xw, xt, xp, xf, xa, xb, xc, true, xd⟩ (L.take k)).2.length ≤ 2000 := Nat.le_trans (foldR_len _ _) (by rw [List.length_take]; omega)
    by_cases hlt : k < L.length
    · have f0 : decide (k < L.length) = true := decide_eq_true hlt
      have hB0 : Below w.heap.size w wr := b_then (W := w.alloc (.cells #[.int .i64 xw, .int .i64 xt, .int .i64 xp, .int .i64 xf, .bool xa, .bool xb, .bool xc, .bool true, .bool xd] 50)) (by go_grown) (by rw [World.size_alloc]; exact hB)
      obtain ⟨bl, cap', hv, hbb, hbw, e0, e1, e2, e3, e4, e5, e6, e7, e8⟩ := h.cell (List.getElem?_eq_getElem hlt)
      obtain ⟨hc1, hf1⟩ := bcell hB0
      obtain ⟨rfl, _, rfl⟩ : A = some ⟨bl, 0, none⟩ ∧ L.length = L.length ∧ cap = cap' := by simpa using hv
      have hpg := HP.out L[k] (List.getElem_mem hlt)
      have HST := Lib.hid (foldR_succ ⟨xw, xt, xp, xf, xa, xb, xc, true, xd⟩ L k hlt)
      generalize L[k] = y at e0 e1 e2 e3 e4 e5 e6 e7 e8 hpg HST
      obtain ⟨yw, yt, yp, yf, ya, yb, yc, yg, yd⟩ := y
      simp only [] at e0 e1 e2 e3 e4 e5 e6 e7 e8 hpg
      obtain ⟨n, hn⟩ : ∃ n, n = L.length := ⟨_, rfl⟩
      rw [← hn] at hlt hle hl f0 ⊢
      have HN := Lib.hid hn
      generalize foldR ⟨xw, xt, xp, xf, xa, xb, xc, true, xd⟩ (L.take k) = S at hln HST hR ⊢
      obtain ⟨d, M⟩ := S
      simp only [] at hln hR ⊢
      clear hn hv h hxb hB0
      have x0 : wr.cell? ⟨w.heap.size, 0, none⟩ = some (.int .i64 xw) := cell_heap hX 0
      have x1 : wr.cell? ⟨w.heap.size, 1, none⟩ = some (.int .i64 xt) := cell_heap hX 1
      have x2 : wr.cell? ⟨w.heap.size, 2, none⟩ = some (.int .i64 xp) := cell_heap hX 2
      have x3 : wr.cell? ⟨w.heap.size, 3, none⟩ = some (.int .i64 xf) := cell_heap hX 3
      have x4 : wr.cell? ⟨w.heap.size, 4, none⟩ = some (.bool xa) := cell_heap hX 4
      have x5 : wr.cell? ⟨w.heap.size, 5, none⟩ = some (.bool xb) := cell_heap hX 5
      have x6 : wr.cell? ⟨w.heap.size, 6, none⟩ = some (.bool xc) := cell_heap hX 6
      have x7 : wr.cell? ⟨w.heap.size, 7, none⟩ = some (.bool true) := cell_heap hX 7
      have x8 : wr.cell? ⟨w.heap.size, 8, none⟩ = some (.bool xd) := cell_heap hX 8
      have HX := Lib.hid hX
      clear hX
      go_upto_region 6 with fail
      go_cut [48] (fun s48 wx => s48 = .bool (driven ⟨xw, xt, xp, xf, xa, xb, xc, true, xd⟩ ⟨yw, yt, yp, yf, ya, yb, yc, yg, yd⟩) ∧ Below (wr.heap.size + 1) (wr.alloc (.cells #[.int .i64 yw, .int .i64 yt, .int .i64 yp, .int .i64 yf, .bool ya, .bool yb, .bool yc, .bool yg, .bool yd] 50)) wx)
      case first =>
        have hcall := fun W => rfits_any ⟨yw, yt, yp, yf, ya, yb, yc, yg, yd⟩ xt xp W
        rcases Bool.eq_false_or_eq_true (rfits ⟨yw, yt, yp, yf, ya, yb, yc, yg, yd⟩ xt xp) with t3 | t3 <;> rw [t3] at hcall <;> rcases Bool.eq_false_or_eq_true (yp == xp) with t0 | t0 <;> rcases Bool.eq_false_or_eq_true (yp % 8 == xp % 8) with t1 | t1 <;> rcases Bool.eq_false_or_eq_true (yw == xw) with t2 | t2
        all_goals
          go_wp2_with (go_at_call 29; refine (hcall _).mono ?_; rintro e w3 ⟨rfl, hb3⟩; obtain ⟨hc3, _⟩ := bcell hb3; have hz3 := hb3.size; rw [World.size_alloc] at hz3; have z31 : w.heap.size < w3.heap.size := (by omega); have z32 : wr.heap.size < w3.heap.size := (by omega))
          go_meet
          refine ⟨congrArg Value.bool (by simp [driven, *]), ?_⟩
          first | exact Below.refl _ _ | (rw [World.size_alloc] at hb3; exact hb3)
      case rest =>
        obtain ⟨rfl, hbc⟩ := hcut
        have hyb := heap_below (by rw [World.size_alloc]; exact hbc) (heap_new wr (.cells #[.int .i64 yw, .int .i64 yt, .int .i64 yp, .int .i64 yf, .bool ya, .bool yb, .bool yc, .bool yg, .bool yd] 50))
        have hBa : Below wr.heap.size wr (wr.alloc (.cells #[.int .i64 yw, .int .i64 yt, .int .i64 yp, .int .i64 yf, .bool ya, .bool yb, .bool yc, .bool yg, .bool yd] 50)) := by go_grown
        have hbc' := b_then hBa (by rw [World.size_alloc]; exact hbc)
        have hXc := heap_below hbc' HX.out
        have hBc : Below (w.heap.size + 1) (w.alloc (.cells #[.int .i64 xw, .int .i64 xt, .int .i64 xp, .int .i64 xf, .bool xa, .bool xb, .bool xc, .bool true, .bool xd] 50)) wc := hB.trans (hbc'.mono (by omega))
        have hRc : RRow wc (w.heap.size + 1) (.slice A3 M.length c3) M := row_below hR hbc'
        have zy := heap_lt hyb
        have zx2 := heap_lt hXc
        have hzc := hbc.size
        rw [World.size_alloc] at hzc
        have hny : some wr.heap.size ≠ (Value.slice A3 M.length c3).ownBlock := own_ne hR (.inr (Nat.le_refl _))
        have HYB := Lib.hid hyb
        have HXB := Lib.hid hXc
        clear hyb hXc hbc hbc' hR hB hBa e0 e1 e2 e3 e4 e5 e6 e7 e8 x0 x1 x2 x3 x4 x5 x6 x7 x8 hc1 hf1 HX
        obtain ⟨i0, hi, hz0, hz1, hz2⟩ := info_parts info50
        cases hg : driven ⟨xw, xt, xp, xf, xa, xb, xc, true, xd⟩ ⟨yw, yt, yp, yf, ya, yb, yc, yg, yd⟩ with
        | true =>
          have HR4 : RRow wc (w.heap.size + 1) (.slice A3 M.length c3) (foldR ⟨xw, xt, xp, xf, xa, xb, xc, true, xd⟩ (L.take (k + 1))).2 := by rw [HST.out]; unfold stepR; rw [hg]; exact hRc
          have HD4 : (foldR ⟨xw, xt, xp, xf, xa, xb, xc, true, xd⟩ (L.take (k + 1))).1 = d := by rw [HST.out]; unfold stepR; rw [hg]; rfl
          have HD := Lib.hid HD4
          clear hg hRc HD4
          go_wp2_with fail
          go_roundw
          case rel => exact ⟨k + 1, by go_num, by omega, by rw [HD.out], hBc, HR4⟩
          case measure => simp [intOf]; omega
        | false =>
          have y0 : wc.cell? ⟨wr.heap.size, 0, none⟩ = some (.int .i64 yw) := cell_heap HYB.out 0
          have y1 : wc.cell? ⟨wr.heap.size, 1, none⟩ = some (.int .i64 yt) := cell_heap HYB.out 1
          have y2 : wc.cell? ⟨wr.heap.size, 2, none⟩ = some (.int .i64 yp) := cell_heap HYB.out 2
          have y3 : wc.cell? ⟨wr.heap.size, 3, none⟩ = some (.int .i64 yf) := cell_heap HYB.out 3
          have y4 : wc.cell? ⟨wr.heap.size, 4, none⟩ = some (.bool ya) := cell_heap HYB.out 4
          have y5 : wc.cell? ⟨wr.heap.size, 5, none⟩ = some (.bool yb) := cell_heap HYB.out 5
          have y6 : wc.cell? ⟨wr.heap.size, 6, none⟩ = some (.bool yc) := cell_heap HYB.out 6
          have y7 : wc.cell? ⟨wr.heap.size, 7, none⟩ = some (.bool yg) := cell_heap HYB.out 7
          have y8 : wc.cell? ⟨wr.heap.size, 8, none⟩ = some (.bool yd) := cell_heap HYB.out 8
          have x0 : wc.cell? ⟨w.heap.size, 0, none⟩ = some (.int .i64 xw) := cell_heap HXB.out 0
          have x1 : wc.cell? ⟨w.heap.size, 1, none⟩ = some (.int .i64 xt) := cell_heap HXB.out 1
          have x2 : wc.cell? ⟨w.heap.size, 2, none⟩ = some (.int .i64 xp) := cell_heap HXB.out 2
          have x3 : wc.cell? ⟨w.heap.size, 3, none⟩ = some (.int .i64 xf) := cell_heap HXB.out 3
          have x4 : wc.cell? ⟨w.heap.size, 4, none⟩ = some (.bool xa) := cell_heap HXB.out 4
          have x5 : wc.cell? ⟨w.heap.size, 5, none⟩ = some (.bool xb) := cell_heap HXB.out 5
          have x6 : wc.cell? ⟨w.heap.size, 6, none⟩ = some (.bool xc) := cell_heap HXB.out 6
          have x7 : wc.cell? ⟨w.heap.size, 7, none⟩ = some (.bool true) := cell_heap HXB.out 7
          have x8 : wc.cell? ⟨w.heap.size, 8, none⟩ = some (.bool xd) := cell_heap HXB.out 8
          have HG := Lib.hid hg
          clear hg
          cases d with
          | true =>
            obtain ⟨A2, c2, w5, ha, hR5, hB5, hs5, hk5⟩ := app_one2 (P := Try.prog) (w.heap.size + 1) (w.alloc (.cells #[.int .i64 xw, .int .i64 xt, .int .i64 xp, .int .i64 xf, .bool xa, .bool xb, .bool xc, .bool true, .bool xd] 50)) (by rw [World.size_alloc]; omega) 43 43 50 (by kernel_rfl) hi hz0 hz1 hz2 rfl (by decide) hRc hBc #[.int .i64 yw, .int .i64 yt, .int .i64 yp, .int .i64 yf, .bool ya, .bool yb, .bool yc, .bool yg, .bool yd] rfl (by simp [Value.oneCell']) (by unfold maxLen; omega) (by omega)
            have HA := Lib.hid ha
            clear ha
            have HR4 : RRow w5 (w.heap.size + 1) (.slice A2 (M.length + 1) c2) (foldR ⟨xw, xt, xp, xf, xa, xb, xc, true, xd⟩ (L.take (k + 1))).2 := by
              have e : (foldR ⟨xw, xt, xp, xf, xa, xb, xc, true, xd⟩ (L.take (k + 1))).2 = M ++ [⟨yw, yt, yp, yf, ya, yb, yc, yg, yd⟩] := by rw [HST.out]; unfold stepR; rw [HG.out]; rfl
              unfold RRow; rw [e, List.length_append, rcells_append]; exact hR5
            have HD4 : (foldR ⟨xw, xt, xp, xf, xa, xb, xc, true, xd⟩ (L.take (k + 1))).1 = true := by rw [HST.out]; unfold stepR; rw [HG.out]; rfl
            have HD := Lib.hid HD4
            clear HD4 hR5 hRc hi hz0 hz1 hz2 hk5
            go_wp2_with (at_builtin; refine wpList_app rfl (.tmp 60) (.tmp 62) 43 rfl rfl rfl HA.out ?_)
            go_roundw
            case rel => exact ⟨k + 1, by go_num, by omega, by rw [HD.out], hB5, HR4⟩
            case measure => simp [intOf]; omega
          | false =>
            have hbef := fun W => before_any ⟨xw, xt, xp, xf, xa, xb, xc, true, xd⟩ ⟨yw, yt, yp, yf, ya, yb, yc, yg, yd⟩ hx hpg W
            cases hbf : before ⟨xw, xt, xp, xf, xa, xb, xc, true, xd⟩ ⟨yw, yt, yp, yf, ya, yb, yc, yg, yd⟩ with
            | false =>
              rw [hbf] at hbef
              have HBF := Lib.hid hbf
              clear hbf
              go_wp2_with fail
              refine (hbef _).mono ?_
              rintro e w6 ⟨rfl, hb6⟩
              have hR6 := row_below hRc hb6
              have hB6 := hBc.trans (hb6.mono (by omega))
              have hY6 := heap_below hb6 HYB.out
              have hz6 := hb6.size
              have zy6 := heap_lt hY6
              clear hb6 hRc hBc y0 y1 y2 y3 y4 y5 y6 y7 y8 x0 x1 x2 x3 x4 x5 x6 x7 x8
              have y0 : w6.cell? ⟨wr.heap.size, 0, none⟩ = some (.int .i64 yw) := cell_heap hY6 0
              have y1 : w6.cell? ⟨wr.heap.size, 1, none⟩ = some (.int .i64 yt) := cell_heap hY6 1
              have y2 : w6.cell? ⟨wr.heap.size, 2, none⟩ = some (.int .i64 yp) := cell_heap hY6 2
              have y3 : w6.cell? ⟨wr.heap.size, 3, none⟩ = some (.int .i64 yf) := cell_heap hY6 3
              have y4 : w6.cell? ⟨wr.heap.size, 4, none⟩ = some (.bool ya) := cell_heap hY6 4
              have y5 : w6.cell? ⟨wr.heap.size, 5, none⟩ = some (.bool yb) := cell_heap hY6 5
              have y6 : w6.cell? ⟨wr.heap.size, 6, none⟩ = some (.bool yc) := cell_heap hY6 6
              have y7 : w6.cell? ⟨wr.heap.size, 7, none⟩ = some (.bool yg) := cell_heap hY6 7
              have y8 : w6.cell? ⟨wr.heap.size, 8, none⟩ = some (.bool yd) := cell_heap hY6 8
              have HY6 := Lib.hid hY6
              clear hY6
              obtain ⟨A2, c2, w5, ha, hR5, hB5, hs5, hk5⟩ := app_one2 (P := Try.prog) (w.heap.size + 1) (w.alloc (.cells #[.int .i64 xw, .int .i64 xt, .int .i64 xp, .int .i64 xf, .bool xa, .bool xb, .bool xc, .bool true, .bool xd] 50)) (by rw [World.size_alloc]; omega) 43 43 50 (by kernel_rfl) hi hz0 hz1 hz2 rfl (by decide) hR6 hB6 #[.int .i64 yw, .int .i64 yt, .int .i64 yp, .int .i64 yf, .bool ya, .bool yb, .bool yc, .bool yg, .bool yd] rfl (by simp [Value.oneCell']) (by unfold maxLen; omega) (by omega)
              have HA := Lib.hid ha
              clear ha
              have HR4 : RRow w5 (w.heap.size + 1) (.slice A2 (M.length + 1) c2) (foldR ⟨xw, xt, xp, xf, xa, xb, xc, true, xd⟩ (L.take (k + 1))).2 := by
                have e : (foldR ⟨xw, xt, xp, xf, xa, xb, xc, true, xd⟩ (L.take (k + 1))).2 = M ++ [⟨yw, yt, yp, yf, ya, yb, yc, yg, yd⟩] := by rw [HST.out]; unfold stepR; rw [HG.out, HBF.out]; rfl
                unfold RRow; rw [e, List.length_append, rcells_append]; exact hR5
              have HD4 : (foldR ⟨xw, xt, xp, xf, xa, xb, xc, true, xd⟩ (L.take (k + 1))).1 = false := by rw [HST.out]; unfold stepR; rw [HG.out, HBF.out]; rfl
              have HD := Lib.hid HD4
              clear HD4 hR5 hR6 hi hz0 hz1 hz2 hk5
              go_wp2_with (at_builtin; refine wpList_app rfl (.tmp 60) (.tmp 62) 43 rfl rfl rfl HA.out ?_)
              go_roundw
              case rel => exact ⟨k + 1, by go_num, by omega, by rw [HD.out], hB5, HR4⟩
              case measure => simp [intOf]; omega
            | true =>
              rw [hbf] at hbef
              have HBF := Lib.hid hbf
              clear hbf
              go_wp2_with fail
              refine (hbef _).mono ?_
              rintro e w6 ⟨rfl, hb6⟩
              have hR6 := row_below hRc hb6
              have hB6 := hBc.trans (hb6.mono (by omega))
              have hY6 := heap_below hb6 HYB.out
              have hX6 := heap_below hb6 HXB.out
              have hz6 := hb6.size
              have zy6 := heap_lt hY6
              have zx6 := heap_lt hX6
              clear hb6 hRc hBc y0 y1 y2 y3 y4 y5 y6 y7 y8 x0 x1 x2 x3 x4 x5 x6 x7 x8
              have x0 : w6.cell? ⟨w.heap.size, 0, none⟩ = some (.int .i64 xw) := cell_heap hX6 0
              have x1 : w6.cell? ⟨w.heap.size, 1, none⟩ = some (.int .i64 xt) := cell_heap hX6 1
              have x2 : w6.cell? ⟨w.heap.size, 2, none⟩ = some (.int .i64 xp) := cell_heap hX6 2
              have x3 : w6.cell? ⟨w.heap.size, 3, none⟩ = some (.int .i64 xf) := cell_heap hX6 3
              have x4 : w6.cell? ⟨w.heap.size, 4, none⟩ = some (.bool xa) := cell_heap hX6 4
              have x5 : w6.cell? ⟨w.heap.size, 5, none⟩ = some (.bool xb) := cell_heap hX6 5
              have x6 : w6.cell? ⟨w.heap.size, 6, none⟩ = some (.bool xc) := cell_heap hX6 6
              have x7 : w6.cell? ⟨w.heap.size, 7, none⟩ = some (.bool true) := cell_heap hX6 7
              have x8 : w6.cell? ⟨w.heap.size, 8, none⟩ = some (.bool xd) := cell_heap hX6 8
              obtain ⟨A2, c2, w5, ha, hR5, hB5, hs5, hk5⟩ := app_one2 (P := Try.prog) (w.heap.size + 1) (w.alloc (.cells #[.int .i64 xw, .int .i64 xt, .int .i64 xp, .int .i64 xf, .bool xa, .bool xb, .bool xc, .bool true, .bool xd] 50)) (by rw [World.size_alloc]; omega) 43 43 50 (by kernel_rfl) hi hz0 hz1 hz2 rfl (by decide) hR6 hB6 #[.int .i64 xw, .int .i64 xt, .int .i64 xp, .int .i64 xf, .bool xa, .bool xb, .bool xc, .bool true, .bool xd] rfl (by simp [Value.oneCell']) (by unfold maxLen; omega) (by omega)
              have HA := Lib.hid ha
              clear ha
              have hY5 := (hk5 _ zy6 hny).trans hY6
              have zy5 := heap_lt hY5
              have y0 : w5.cell? ⟨wr.heap.size, 0, none⟩ = some (.int .i64 yw) := cell_heap hY5 0
              have y1 : w5.cell? ⟨wr.heap.size, 1, none⟩ = some (.int .i64 yt) := cell_heap hY5 1
              have y2 : w5.cell? ⟨wr.heap.size, 2, none⟩ = some (.int .i64 yp) := cell_heap hY5 2
              have y3 : w5.cell? ⟨wr.heap.size, 3, none⟩ = some (.int .i64 yf) := cell_heap hY5 3
              have y4 : w5.cell? ⟨wr.heap.size, 4, none⟩ = some (.bool ya) := cell_heap hY5 4
              have y5 : w5.cell? ⟨wr.heap.size, 5, none⟩ = some (.bool yb) := cell_heap hY5 5
              have y6 : w5.cell? ⟨wr.heap.size, 6, none⟩ = some (.bool yc) := cell_heap hY5 6
              have y7 : w5.cell? ⟨wr.heap.size, 7, none⟩ = some (.bool yg) := cell_heap hY5 7
              have y8 : w5.cell? ⟨wr.heap.size, 8, none⟩ = some (.bool yd) := cell_heap hY5 8
              have HY5 := Lib.hid hY5
              have HX6 := Lib.hid hX6
              clear hY5 hY6 hX6
              obtain ⟨A4, c4, w7, ha, hR7, hB7, hs7, hk7⟩ := app_one2 (P := Try.prog) (w.heap.size + 1) (w.alloc (.cells #[.int .i64 xw, .int .i64 xt, .int .i64 xp, .int .i64 xf, .bool xa, .bool xb, .bool xc, .bool true, .bool xd] 50)) (by rw [World.size_alloc]; omega) 43 43 50 (by kernel_rfl) hi hz0 hz1 hz2 rfl (by decide) hR5 hB5 #[.int .i64 yw, .int .i64 yt, .int .i64 yp, .int .i64 yf, .bool ya, .bool yb, .bool yc, .bool yg, .bool yd] rfl (by simp [Value.oneCell']) (by unfold maxLen; omega) (by omega)
              have HA7 := Lib.hid ha
              clear ha
              have HR4 : RRow w7 (w.heap.size + 1) (.slice A4 (M.length + 1 + 1) c4) (foldR ⟨xw, xt, xp, xf, xa, xb, xc, true, xd⟩ (L.take (k + 1))).2 := by
                have e : (foldR ⟨xw, xt, xp, xf, xa, xb, xc, true, xd⟩ (L.take (k + 1))).2 = M ++ [⟨xw, xt, xp, xf, xa, xb, xc, true, xd⟩, ⟨yw, yt, yp, yf, ya, yb, yc, yg, yd⟩] := by rw [HST.out]; unfold stepR; rw [HG.out, HBF.out]; rfl
                unfold RRow; rw [e, List.length_append, rcells_append]
                rw [List.append_assoc] at hR7; exact hR7
              have HD4 : (foldR ⟨xw, xt, xp, xf, xa, xb, xc, true, xd⟩ (L.take (k + 1))).1 = true := by rw [HST.out]; unfold stepR; rw [HG.out, HBF.out]; rfl
              have HD := Lib.hid HD4
              clear HD4 hR5 hR6 hR7 hi hz0 hz1 hz2 hk5 hk7
              go_wp2_with (at_builtin; first | refine wpList_app rfl (.tmp 56) (.tmp 58) 43 rfl rfl rfl HA.out ?_ | refine wpList_app rfl (.tmp 60) (.tmp 62) 43 rfl rfl rfl HA7.out ?_)
              go_roundw
              case rel => exact ⟨k + 1, by go_num, by omega, by rw [HD.out], hB7, HR4⟩
              case measure => simp [intOf]; omega
    · have f0 : decide (k < L.length) = false := decide_eq_false hlt
      obtain ⟨n, hn⟩ : ∃ n, n = L.length := ⟨_, rfl⟩
      rw [show k = L.length by omega, List.take_length] at hR hln ⊢
      have HFD : fillR L ⟨xw, xt, xp, xf, xa, xb, xc, true, xd⟩ = if (foldR ⟨xw, xt, xp, xf, xa, xb, xc, true, xd⟩ L).1 then (foldR ⟨xw, xt, xp, xf, xa, xb, xc, true, xd⟩ L).2 else (foldR ⟨xw, xt, xp, xf, xa, xb, xc, true, xd⟩ L).2 ++ [⟨xw, xt, xp, xf, xa, xb, xc, true, xd⟩] := rfl
      have HF := Lib.hid HFD
      rw [← hn] at hlt hle hl f0 ⊢
      have HN := Lib.hid hn
      clear hn HFD
      have hB0 : Below w.heap.size w wr := b_then (W := w.alloc (.cells #[.int .i64 xw, .int .i64 xt, .int .i64 xp, .int .i64 xf, .bool xa, .bool xb, .bool xc, .bool true, .bool xd] 50)) (by go_grown) (by rw [World.size_alloc]; exact hB)
      generalize foldR ⟨xw, xt, xp, xf, xa, xb, xc, true, xd⟩ L = S at hln HF hR ⊢
      obtain ⟨d, M⟩ := S
      simp only [] at hln hR HF ⊢
      have x0 : wr.cell? ⟨w.heap.size, 0, none⟩ = some (.int .i64 xw) := cell_heap hX 0
      have x1 : wr.cell? ⟨w.heap.size, 1, none⟩ = some (.int .i64 xt) := cell_heap hX 1
      have x2 : wr.cell? ⟨w.heap.size, 2, none⟩ = some (.int .i64 xp) := cell_heap hX 2
      have x3 : wr.cell? ⟨w.heap.size, 3, none⟩ = some (.int .i64 xf) := cell_heap hX 3
      have x4 : wr.cell? ⟨w.heap.size, 4, none⟩ = some (.bool xa) := cell_heap hX 4
      have x5 : wr.cell? ⟨w.heap.size, 5, none⟩ = some (.bool xb) := cell_heap hX 5
      have x6 : wr.cell? ⟨w.heap.size, 6, none⟩ = some (.bool xc) := cell_heap hX 6
      have x7 : wr.cell? ⟨w.heap.size, 7, none⟩ = some (.bool true) := cell_heap hX 7
      have x8 : wr.cell? ⟨w.heap.size, 8, none⟩ = some (.bool xd) := cell_heap hX 8
      have HX := Lib.hid hX
      clear hX
      cases d with
      | true =>
        go_wp2_with fail
        go_returns
        exact ⟨.slice A3 M.length c3, rfl, hB0, by rw [HF.out, if_pos trivial]; exact row_mono hR (by omega)⟩
      | false =>
        obtain ⟨i0, hi, hz0, hz1, hz2⟩ := info_parts info50
        obtain ⟨A2, c2, w5, ha, hR5, hB5, hs5, hk5⟩ := app_one2 (P := Try.prog) (w.heap.size + 1) (w.alloc (.cells #[.int .i64 xw, .int .i64 xt, .int .i64 xp, .int .i64 xf, .bool xa, .bool xb, .bool xc, .bool true, .bool xd] 50)) (by rw [World.size_alloc]; omega) 43 43 50 (by kernel_rfl) hi hz0 hz1 hz2 rfl (by decide) hR hB #[.int .i64 xw, .int .i64 xt, .int .i64 xp, .int .i64 xf, .bool xa, .bool xb, .bool xc, .bool true, .bool xd] rfl (by simp [Value.oneCell']) (by unfold maxLen; omega) (by omega)
        have HA := Lib.hid ha
        clear ha
        have HR4 : RRow w5 w.heap.size (.slice A2 (M.length + 1) c2) (fillR L ⟨xw, xt, xp, xf, xa, xb, xc, true, xd⟩) := by
          unfold RRow; rw [HF.out, if_neg (by simp), List.length_append, rcells_append]; exact row_mono hR5 (by omega)
        have hB6 : Below w.heap.size w w5 := b_then (W := w.alloc (.cells #[.int .i64 xw, .int .i64 xt, .int .i64 xp, .int .i64 xf, .bool xa, .bool xb, .bool xc, .bool true, .bool xd] 50)) (by go_grown) (by rw [World.size_alloc]; exact hB5)
        clear hR5 hi hz0 hz1 hz2 hk5 hR
        go_wp2_with (at_builtin; refine wpList_app rfl (.tmp 67) (.tmp 69) 43 rfl rfl rfl HA.out ?_)
        go_returns
        exact ⟨_, rfl, hB6, HR4⟩
theorem rfill_any {w : World} {base : Nat} {v : Value} {L : List RL} (h : RRow w base v L) (hl : L.length ≤ 1000) (hp : ∀ y ∈ L, 0 ≤ y.page) (x : RL) (hx : 0 ≤ x.page) :
    Calls Try.prog 26 #[v, x.val] w fun e w' => ∃ v', e = .returned v' ∧ Below w.heap.size w w' ∧ RRow w' w.heap.size v' (fillR L x) := by
  obtain ⟨xw, xt, xp, xf, xa, xb, xc, xg, xd⟩ := x
  cases xg
  · exact rfill_false h hl hp xw xt xp xf xa xb xc xd hx
  · exact rfill_true h hl hp xw xt xp xf xa xb xc xd hx
end Go.Proofs.Ythnojhldpbjkoaa
