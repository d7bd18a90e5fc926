/- Good of lists of regions, the program's. Condition: at most 1000 regions. Printed by gen/rggood.py. -/
import Derived.Test.YtoodjhomekeekaaRgE
import Derived.Deep.DeepCutAuto
import Derived.Laws.Rows
import Derived.Laws.Tables
namespace Go.Proofs.Ytoodjhomekeekaa
open Go.ChangeShapes Go.WideShapes Go.ChangeAt Go.RowKit
set_option linter.unusedVariables false
set_option linter.unusedSimpArgs false
def okB (d : RG) : Bool := decide (0 ≤ d.a) && decide (d.a < d.b) && decide (d.b ≤ 34359738368)
def linkB (c d : RG) : Bool := decide (c.b ≤ d.a) && !joinB c d
def goodAt (R : List RG) : Nat → Bool
  | 0 => match R[0]? with | none => true | some d => okB d
  | i + 1 => match R[i + 1]?, R[i]? with | some d, some c => okB d && linkB c d | _, _ => true
def goodB (R : List RG) : Bool := decide (R.length ≤ 64 ∧ ∀ j, j < R.length → goodAt R j = true)
theorem goodAt_0 {R : List RG} (h : 0 < R.length) : goodAt R 0 = okB R[0] := by
  unfold goodAt; rw [List.getElem?_eq_getElem h]
theorem goodAt_s {R : List RG} {p : Nat} (h : p + 1 < R.length) : goodAt R (p + 1) = (okB R[p + 1] && linkB (R[p]'(by omega)) R[p + 1]) := by
  simp only [goodAt, List.getElem?_eq_getElem h, List.getElem?_eq_getElem (show p < R.length by omega)]
theorem goodB_no {R : List RG} {k : Nat} (hk : k < R.length) (h : goodAt R k = false) : goodB R = false :=
  decide_eq_false fun x => by have := x.2 k hk; rw [h] at this; cases this
theorem upto_succ {R : List RG} {k : Nat} (h : ∀ j, j < k → goodAt R j = true) (h2 : goodAt R k = true) : ∀ j, j < k + 1 → goodAt R j = true := fun j hj => by
  by_cases e : j = k
  · rw [e]; exact h2
  · exact h j (by omega)
theorem goodAt_bad {R : List RG} {k : Nat} (hk : k < R.length) (h : okB R[k] = false) : goodAt R k = false := by
  cases k with
  | zero => rw [goodAt_0 hk]; exact h
  | succ p => rw [goodAt_s hk, h]; rfl
set_option maxHeartbeats 8000000 in
theorem good_any {w : World} {base : Nat} {v : Value} {R : List RG} (h : rgL w base v R) (hl : R.length ≤ 1000) :
    Calls Try.prog 13 #[v] w fun e w' => e = .returned (.bool (goodB R)) ∧ Below w.heap.size w w' := by
  obtain ⟨A, cap, rfl⟩ := h.form
  have H := Lib.hid h
  clear h
  by_cases h64 : 64 < R.length
  · have HR : Hid (goodB R = false) := Lib.hid (decide_eq_false fun x => by have := x.1; omega)
    have f0 : decide (64 < (R.length : Int)) = true := decide_eq_true (by omega)
    go_enter Try.func13, Try.ntmps13
    go_wp2_with fail
    go_returns
    exact ⟨ret_v (by rw [HR.out]; rfl), Below.refl _ _⟩
  have hl64 : R.length ≤ 64 := by omega
  have f64 : decide (64 < (R.length : Int)) = false := decide_eq_false (by omega)
  clear h64
  go_enter Try.func13, Try.ntmps13
  go_wp2_with fail
  have HB0 : Below w.heap.size w w := Below.refl _ _
  go_loopw [10] (fun x wr => ∃ (k : Nat), x = .int .i64 k ∧ k ≤ R.length ∧ Below w.heap.size w wr ∧ Hid (∀ j, j < k → goodAt R j = true)) (fun x _ => R.length - (intOf x).toNat)
  case atStart => exact ⟨0, rfl, by omega, HB0, Lib.hid (by intro j hj; omega)⟩
  case round =>
    clear HB0
    obtain ⟨k, rfl, hle, hB, HF⟩ := hrel
    have hsz := hB.size
    have HB := Lib.hid hB
    by_cases hlt : k < R.length
    · have f0 : decide (k < R.length) = true := decide_eq_true hlt
      have f3 : (k : Int) < (R.length : Int) := by omega
      have HP : Hid (k = 0 ∧ goodAt R k = okB R[k] ∨ ∃ p, k = p + 1 ∧ ∃ c, R[p]? = some c ∧ goodAt R k = (okB R[k] && linkB c R[k])) := Lib.hid (by
        rcases k with _ | p
        · exact Or.inl ⟨rfl, goodAt_0 hlt⟩
        · exact Or.inr ⟨p, rfl, _, List.getElem?_eq_getElem (by omega), goodAt_s hlt⟩)
      have HBD : Hid (okB R[k] = false → goodB R = false) := Lib.hid (fun h => goodB_no hlt (goodAt_bad hlt h))
      have HBE : Hid (goodAt R k = false → goodB R = false) := Lib.hid (fun h => goodB_no hlt h)
      obtain ⟨b, cap1, hv, hb, hbw, e0, e1, e2, e3, e4, e5⟩ := H.out.cell (List.getElem?_eq_getElem hlt)
      obtain ⟨hc1, hf1⟩ := bcell hB
      have c0 := (hc1 b _ hbw).trans e0
      have c1 := (hc1 b _ hbw).trans e1
      have c2 := (hc1 b _ hbw).trans e2
      have c3 := (hc1 b _ hbw).trans e3
      have c4 := (hc1 b _ hbw).trans e4
      have c5 := (hc1 b _ hbw).trans e5
      obtain ⟨rfl, _, rfl⟩ : A = some ⟨b, 0, none⟩ ∧ R.length = R.length ∧ cap = cap1 := by simpa using hv
      obtain ⟨n, hn⟩ : ∃ n, n = R.length := ⟨_, rfl⟩
      rw [← hn] at hlt hle hl hl64 f0 f3 f64 ⊢
      generalize R[k] = y at c0 c1 c2 c3 c4 c5 HP HBD
      obtain ⟨ya, yb, yw, yu, yx, yk⟩ := y
      simp only at c0 c1 c2 c3 c4 c5
      have HN := Lib.hid hn
      have hc : ∀ p, p < n → ∀ d, R[p]? = some d → wr.cell? ⟨b, p * 6 + 1, none⟩ = some (.int .i64 d.b) ∧ wr.cell? ⟨b, p * 6, none⟩ = some (.int .i64 d.a) ∧ wr.cell? ⟨b, p * 6 + 2, none⟩ = some (.bool d.w) ∧ wr.cell? ⟨b, p * 6 + 3, none⟩ = some (.bool d.u) ∧ wr.cell? ⟨b, p * 6 + 4, none⟩ = some (.bool d.x) ∧ wr.cell? ⟨b, p * 6 + 5, none⟩ = some (.int .i64 d.k) := by
        intro p hp d hd
        obtain ⟨b2, cap2, hv2, hb2, hbw2, e0, e1, e2, e3, e4, e5⟩ := H.out.cell hd
        obtain rfl : b = b2 := by injection hv2 with i1 _ _; simpa using i1
        exact ⟨(hc1 b _ hbw2).trans e1, (hc1 b _ hbw2).trans e0, (hc1 b _ hbw2).trans e2, (hc1 b _ hbw2).trans e3, (hc1 b _ hbw2).trans e4, (hc1 b _ hbw2).trans e5⟩
      have HC := Lib.hid hc
      have hbw3 : b < wr.heap.size := by omega
      clear hc1 hf1 e0 e1 e2 e3 e4 e5 hv hn hb hB hc
      have HQ2 := Lib.hid (heap_new wr (.cells #[.int .i64 0, .int .i64 0, .bool false, .bool false, .bool false, .int .i64 0] 31))
      have HAL : Hid ((#[.int .i64 ya, .int .i64 yb, .bool yw, .bool yu, .bool yx, .int .i64 yk] : Array Value).all (·.oneCell') = true) := Lib.hid (by simp [Value.oneCell'])
      have ht : (decide (ya < 0) = true ∧ okB ⟨ya, yb, yw, yu, yx, yk⟩ = false) ∨ (decide (ya < 0) = false ∧ decide (yb ≤ ya) = true ∧ okB ⟨ya, yb, yw, yu, yx, yk⟩ = false) ∨ (decide (ya < 0) = false ∧ decide (yb ≤ ya) = false ∧ decide (34359738368 < yb) = true ∧ okB ⟨ya, yb, yw, yu, yx, yk⟩ = false) ∨ (decide (ya < 0) = false ∧ decide (yb ≤ ya) = false ∧ decide (34359738368 < yb) = false ∧ okB ⟨ya, yb, yw, yu, yx, yk⟩ = true) := by
        unfold okB
        simp only [Bool.and_eq_true, decide_eq_true_eq, decide_eq_false_iff_not, Bool.and_eq_false_iff]
        omega
      rcases ht with ⟨t1, t⟩ | ⟨t1, t2, t⟩ | ⟨t1, t2, t3, t⟩ | ⟨t1, t2, t3, t⟩
      iterate 3
        · have HR := Lib.hid (HBD.out t)
          clear t HP HBD HBE HC
          go_wp2_with (first | ((refine wpList_store_row rfl 31 (.tmp 4) (.tmp 14) rfl wr.heap.size #[.int .i64 ya, .int .i64 yb, .bool yw, .bool yu, .bool yx, .int .i64 yk] rfl rfl 31 #[.int .i64 0, .int .i64 0, .bool false, .bool false, .bool false, .int .i64 0] HQ2.out sz_rg rfl HAL.out ?_); rw [World.setRow_alloc_new]))
          go_returns
          exact ⟨ret_v (by rw [HR.out]; rfl), by have := HB.out; go_grown⟩
      rcases HP.out with ⟨hk0, hg⟩ | ⟨p, hkp, c, hc, hg⟩
      · rw [t] at hg
        have HGD := Lib.hid hg
        clear t hg HP HBD HBE HC
        subst hk0
        go_wp2_with (first | ((refine wpList_store_row rfl 31 (.tmp 4) (.tmp 14) rfl wr.heap.size #[.int .i64 ya, .int .i64 yb, .bool yw, .bool yu, .bool yx, .int .i64 yk] rfl rfl 31 #[.int .i64 0, .int .i64 0, .bool false, .bool false, .bool false, .int .i64 0] HQ2.out sz_rg rfl HAL.out ?_); rw [World.setRow_alloc_new]))
        go_quiet (fail)
        go_wp2_with fail
        go_roundw
        case rel => exact ⟨0 + 1, by go_num, by omega, below_drewN (by have := HB.out; go_grown) _, Lib.hid (upto_succ HF.out HGD.out)⟩
        case measure => simp [intOf]; omega
      obtain ⟨x1, x0, x2, x3, x4, x5⟩ := HC.out p (by omega) c hc
      obtain ⟨ca, cb, cw, cu, cx, ck⟩ := c
      rw [t, Bool.true_and] at hg
      simp only at x0 x1 x2 x3 x4 x5
      have g1 : decide (0 < k) = true := decide_eq_true (by omega)
      have g2 : IntKind.i64.wrap ((k : Int) - 1) = (p : Int) := by rw [IntKind.wrap_i64]; omega
      have g3 : (p : Int) < (n : Int) := by omega
      have g4 : p < n := by omega
      have g5 : decide (p < n) = true := decide_eq_true g4
      have HGD := Lib.hid hg
      clear t hc hkp hg HP HBD HC
      rcases Bool.eq_false_or_eq_true (decide (ya < cb)) with t4 | t4
      · have HR : Hid (goodB R = false) := Lib.hid (HBE.out (by rw [HGD.out]; unfold linkB; have := of_decide_eq_true t4; simp; intro h; omega))
        go_wp2_with (first | ((refine wpList_store_row rfl 31 (.tmp 4) (.tmp 14) rfl wr.heap.size #[.int .i64 ya, .int .i64 yb, .bool yw, .bool yu, .bool yx, .int .i64 yk] rfl rfl 31 #[.int .i64 0, .int .i64 0, .bool false, .bool false, .bool false, .int .i64 0] HQ2.out sz_rg rfl HAL.out ?_); rw [World.setRow_alloc_new]))
        go_quiet (fail)
        go_wp2_with fail
        go_returns
        exact ⟨ret_v (by rw [HR.out]; rfl), below_drewN (by have := HB.out; go_grown) _⟩
      go_wp2_with (first | ((refine wpList_store_row rfl 31 (.tmp 4) (.tmp 14) rfl wr.heap.size #[.int .i64 ya, .int .i64 yb, .bool yw, .bool yu, .bool yx, .int .i64 yk] rfl rfl 31 #[.int .i64 0, .int .i64 0, .bool false, .bool false, .bool false, .int .i64 0] HQ2.out sz_rg rfl HAL.out ?_); rw [World.setRow_alloc_new]))
      obtain ⟨q, hq⟩ : ∃ q, q = wr.heap.size := ⟨_, rfl⟩
      obtain ⟨W0, hW⟩ : ∃ W, W = wr.alloc (.cells #[.int .i64 ya, .int .i64 yb, .bool yw, .bool yu, .bool yx, .int .i64 yk] 31) := ⟨_, rfl⟩
      have HW := heap_new wr (.cells #[.int .i64 ya, .int .i64 yb, .bool yw, .bool yu, .bool yx, .int .i64 yk] 31)
      have hB2 : Below wr.heap.size wr W0 := by rw [hW]; exact (Below.refl _ _).alloc (Nat.le_refl _) _
      have hB3 : Below w.heap.size w W0 := by rw [hW]; have := HB.out; go_grown
      rw [← hW, ← hq] at HW ⊢
      obtain ⟨hc2, hf2⟩ := bcell hB2
      have hs2 := hB2.size
      replace x0 := (hc2 b _ hbw3).trans x0
      replace x1 := (hc2 b _ hbw3).trans x1
      replace x2 := (hc2 b _ hbw3).trans x2
      replace x3 := (hc2 b _ hbw3).trans x3
      replace x4 := (hc2 b _ hbw3).trans x4
      replace x5 := (hc2 b _ hbw3).trans x5
      replace c0 := (hc2 b _ hbw3).trans c0
      replace c1 := (hc2 b _ hbw3).trans c1
      replace c2 := (hc2 b _ hbw3).trans c2
      replace c3 := (hc2 b _ hbw3).trans c3
      replace c4 := (hc2 b _ hbw3).trans c4
      replace c5 := (hc2 b _ hbw3).trans c5
      have z0 : W0.cell? ⟨q, 0, none⟩ = some (.int .i64 ya) := cell_heap HW 0
      have z1 : W0.cell? ⟨q, 1, none⟩ = some (.int .i64 yb) := cell_heap HW 1
      have z2 : W0.cell? ⟨q, 2, none⟩ = some (.bool yw) := cell_heap HW 2
      have z3 : W0.cell? ⟨q, 3, none⟩ = some (.bool yu) := cell_heap HW 3
      have z4 : W0.cell? ⟨q, 4, none⟩ = some (.bool yx) := cell_heap HW 4
      have z5 : W0.cell? ⟨q, 5, none⟩ = some (.int .i64 yk) := cell_heap HW 5
      have hqw : q < W0.heap.size := heap_lt HW
      have hbw4 : b < W0.heap.size := by omega
      have hj : ∀ W, Calls Try.prog 25 #[.agg #[.int .i64 ca, .int .i64 cb, .bool cw, .bool cu, .bool cx, .int .i64 ck], .agg #[.int .i64 ya, .int .i64 yb, .bool yw, .bool yu, .bool yx, .int .i64 yk]] W fun e w' => e = .returned (.bool (joinB ⟨ca, cb, cw, cu, cx, ck⟩ ⟨ya, yb, yw, yu, yx, yk⟩)) ∧ Below W.heap.size W w' := fun W => joins_any W ⟨ca, cb, cw, cu, cx, ck⟩ ⟨ya, yb, yw, yu, yx, yk⟩
      have HJ := Lib.hid hj
      have hlk : linkB ⟨ca, cb, cw, cu, cx, ck⟩ ⟨ya, yb, yw, yu, yx, yk⟩ = !joinB ⟨ca, cb, cw, cu, cx, ck⟩ ⟨ya, yb, yw, yu, yx, yk⟩ := by
        have := of_decide_eq_false t4
        unfold linkB
        rw [decide_eq_true (by simp only; omega)]
        rfl
      have HLK := Lib.hid hlk
      have HB3 := Lib.hid hB3
      have HQ := Lib.hid hq
      obtain ⟨jb, hjb⟩ : ∃ jb, jb = joinB ⟨ca, cb, cw, cu, cx, ck⟩ ⟨ya, yb, yw, yu, yx, yk⟩ := ⟨_, rfl⟩
      rw [← hjb] at HJ HLK
      clear hW hB2 hB3 hc2 hf2 hj hlk hq hjb HQ2 HW hsz HAL
      have hab := @Abv.cell W0
      refine wp_region_abv (by kernel_rfl) (by kernel_rfl) ?_
      repeat (first | go_big_quiet_skip | (go_big_quiet_want; go_big_quiet_op; first | go_big_quiet_on | go_big_quiet_call ((refine abv_call (HJ.out _)))))
      refine wpQuiet_nil ?_
      rintro W5 ⟨⟨_, hB5⟩, rfl⟩
      cases jb
      · go_wp2_with fail
        go_roundw
        case rel => exact ⟨k + 1, by go_num, by omega, b_then HB3.out hB5, Lib.hid (upto_succ HF.out (by rw [HGD.out, HLK.out]; rfl))⟩
        case measure => simp [intOf]; omega
      · have HR : Hid (goodB R = false) := Lib.hid (HBE.out (by rw [HGD.out, HLK.out]; rfl))
        go_wp2_with fail
        go_returns
        exact ⟨ret_v (by rw [HR.out]; rfl), b_then HB3.out hB5⟩
    · have f0 : decide (k < R.length) = false := decide_eq_false hlt
      have HR : Hid (goodB R = true) := Lib.hid (decide_eq_true ⟨hl64, fun j hj => HF.out j (by omega)⟩)
      obtain ⟨n, hn⟩ : ∃ n, n = R.length := ⟨_, rfl⟩
      rw [← hn] at hlt hle hl hl64 f64 f0 ⊢
      clear hn hB
      go_wp2_with fail
      go_returns
      exact ⟨ret_v (by rw [HR.out]; rfl), by have := HB.out; go_grown⟩
end Go.Proofs.Ytoodjhomekeekaa
