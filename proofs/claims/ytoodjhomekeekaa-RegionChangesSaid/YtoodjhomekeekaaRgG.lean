/- The document's Good of lists of regions. Condition: at most 1000 regions. Printed by gen/rgrgood.py. -/
import Derived.Test.YtoodjhomekeekaaRgF
import Derived.Deep.CutBlock
import Derived.Deep.DeepCutAuto
import Derived.Deep.WholeRow
import Derived.Laws.Rows
import Derived.Laws.Tables
namespace Go.Proofs.Ytoodjhomekeekaa
open Go.ChangeShapes Go.WideShapes Go.ChangeAt Go.RowKit
set_option linter.unusedVariables false
set_option linter.unusedSimpArgs false
theorem putNone {a : Act} {v : Value} : a.put none v = a := rfl
theorem setRow_new2 (w : World) (o : Obj) (c c' : Array Value) (t : TypeId) : ((w.alloc o).alloc (.cells c t)).setRow (w.heap.size + 1) c' = (w.alloc o).alloc (.cells c' t) := by
  rw [← World.size_alloc w o, World.setRow_alloc_new]
theorem heap_new2 (w : World) (o o2 : Obj) : ((w.alloc o).alloc o2).heap[w.heap.size + 1]? = some o2 := by
  rw [← World.size_alloc w o]; exact heap_new _ _
def upB (R : List RG) (k : Nat) : Bool := decide (R.length ≤ 64 ∧ ∀ j, j < k → goodAt R j = true)
theorem upB_step (R : List RG) (k : Nat) : upB R (k + 1) = (upB R k && goodAt R k) := by
  unfold upB
  rcases h : goodAt R k with _ | _
  · rw [Bool.and_false]
    exact decide_eq_false fun x => by have := x.2 k (by omega); rw [h] at this; cases this
  · rw [Bool.and_true, decide_eq_decide]
    exact ⟨fun x => ⟨x.1, fun j hj => x.2 j (by omega)⟩, fun x => ⟨x.1, upto_succ x.2 h⟩⟩
set_option maxHeartbeats 16000000 in
theorem rGood_any {w : World} {base : Nat} {v : Value} {R : List RG} (h : rfL w base v R) (hl : R.length ≤ 1000) :
    Calls Try.prog 14 #[v] w fun e w' => e = .returned (.bool (goodB R)) ∧ Below w.heap.size w w' := by
  obtain ⟨A, cap, rfl⟩ := h.form
  have H := Lib.hid h
  clear h
  obtain ⟨ff, hff⟩ : ∃ ff, ff = decide (R.length ≤ 64) := ⟨_, rfl⟩
  have f64 : decide ((R.length : Int) ≤ 64) = ff := by rw [hff, decide_eq_decide]; omega
  have HFF := Lib.hid hff
  clear hff
  go_enter Try.func14, Try.ntmps14
  go_wp2_with fail
  have HB0 : Below w.heap.size w w := Below.refl _ _
  go_loopw [3, 12] (fun x3 x wr => ∃ (k : Nat) (gd : Bool), x = .int .i64 k ∧ x3 = .bool gd ∧ k ≤ R.length ∧ Below w.heap.size w wr ∧ Hid (gd = upB R k)) (fun _ x _ => R.length - (intOf x).toNat)
  case atStart => exact ⟨0, _, rfl, rfl, by omega, HB0, Lib.hid (by rw [HFF.out]; unfold upB; rw [decide_eq_decide]; exact ⟨fun x => ⟨x, fun j hj => by omega⟩, fun x => x.1⟩)⟩
  case round =>
    clear HB0
    obtain ⟨k, gd, rfl, rfl, hle, hB, HF⟩ := hrel
    have hsz := hB.size
    have HB := Lib.hid hB
    by_cases hlt : k < R.length
    · have f0 : decide (k < R.length) = true := decide_eq_true hlt
      have f3 : (k : Int) < (R.length : Int) := by omega
      have HP : Hid (k = 0 ∧ goodAt R k = okB R[k] ∨ ∃ p, k = p + 1 ∧ ∃ c, R[p]? = some c ∧ goodAt R k = (okB R[k] && linkB c R[k])) := Lib.hid (by
        rcases k with _ | p
        · exact Or.inl ⟨rfl, goodAt_0 hlt⟩
        · exact Or.inr ⟨p, rfl, _, List.getElem?_eq_getElem (by omega), goodAt_s hlt⟩)
      obtain ⟨b, cap1, hv, hb, hbw, e0, e1, e2, e3, e4, e5⟩ := H.out.cell (List.getElem?_eq_getElem hlt)
      obtain ⟨hc1, hf1⟩ := bcell hB
      have c0 := (hc1 b _ hbw).trans e0
      have c1 := (hc1 b _ hbw).trans e1
      have c2 := (hc1 b _ hbw).trans e2
      have c3 := (hc1 b _ hbw).trans e3
      have c4 := (hc1 b _ hbw).trans e4
      have c5 := (hc1 b _ hbw).trans e5
      obtain ⟨rfl, _, rfl⟩ : A = some ⟨b, 0, none⟩ ∧ R.length = R.length ∧ cap = cap1 := by simpa using hv
      obtain ⟨n, hn⟩ : ∃ n, n = R.length := ⟨_, rfl⟩
      rw [← hn] at hlt hle hl f0 f3 f64 ⊢
      generalize R[k] = y at c0 c1 c2 c3 c4 c5 HP
      obtain ⟨ya, yb, yw, yu, yx, yk⟩ := y
      simp only at c0 c1 c2 c3 c4 c5
      have HN := Lib.hid hn
      have hc : ∀ p, p < n → ∀ d, R[p]? = some d → wr.cell? ⟨b, p * 6 + 1, none⟩ = some (.int .i64 d.b) ∧ wr.cell? ⟨b, p * 6, none⟩ = some (.int .i64 d.a) ∧ wr.cell? ⟨b, p * 6 + 2, none⟩ = some (.bool d.w) ∧ wr.cell? ⟨b, p * 6 + 3, none⟩ = some (.bool d.u) ∧ wr.cell? ⟨b, p * 6 + 4, none⟩ = some (.bool d.x) ∧ wr.cell? ⟨b, p * 6 + 5, none⟩ = some (.int .i64 d.k) := by
        intro p hp d hd
        obtain ⟨b2, cap2, hv2, hb2, hbw2, e0, e1, e2, e3, e4, e5⟩ := H.out.cell hd
        obtain rfl : b = b2 := by injection hv2 with i1 _ _; simpa using i1
        exact ⟨(hc1 b _ hbw2).trans e1, (hc1 b _ hbw2).trans e0, (hc1 b _ hbw2).trans e2, (hc1 b _ hbw2).trans e3, (hc1 b _ hbw2).trans e4, (hc1 b _ hbw2).trans e5⟩
      have HC := Lib.hid hc
      have hbw3 : b < wr.heap.size := by omega
      clear hc1 hf1 e0 e1 e2 e3 e4 e5 hv hn hb hB hc
      have HQ2 := Lib.hid (heap_new wr (.cells #[.int .i64 0, .int .i64 0, .bool false, .bool false, .bool false, .int .i64 0] 36))
      have HAL : Hid ((#[.int .i64 ya, .int .i64 yb, .bool yw, .bool yu, .bool yx, .int .i64 yk] : Array Value).all (·.oneCell') = true) := Lib.hid (by simp [Value.oneCell'])
      have ht : (decide (0 ≤ ya) = false ∧ okB ⟨ya, yb, yw, yu, yx, yk⟩ = false) ∨ (decide (0 ≤ ya) = true ∧ decide (ya < yb) = false ∧ okB ⟨ya, yb, yw, yu, yx, yk⟩ = false) ∨ (decide (0 ≤ ya) = true ∧ decide (ya < yb) = true ∧ decide (yb ≤ 34359738368) = false ∧ okB ⟨ya, yb, yw, yu, yx, yk⟩ = false) ∨ (decide (0 ≤ ya) = true ∧ decide (ya < yb) = true ∧ decide (yb ≤ 34359738368) = true ∧ okB ⟨ya, yb, yw, yu, yx, yk⟩ = true) := by
        unfold okB
        simp only [Bool.and_eq_true, decide_eq_true_eq, decide_eq_false_iff_not, Bool.and_eq_false_iff]
        omega
      have HT := Lib.hid ht
      clear ht
      go_upto_block 1 with fail
      go_cut [3] (fun s3 wx => s3 = .bool (upB R (k + 1)) ∧ Below w.heap.size w wx)
      case first =>
        go_upto_region 5 with (first | ((refine wpList_store_row rfl 36 (.tmp 5) (.tmp 16) rfl wr.heap.size #[.int .i64 ya, .int .i64 yb, .bool yw, .bool yu, .bool yx, .int .i64 yk] rfl rfl 36 #[.int .i64 0, .int .i64 0, .bool false, .bool false, .bool false, .int .i64 0] HQ2.out sz_rf rfl HAL.out ?_); rw [World.setRow_alloc_new]))
        rw [putNone]
        go_cut [3] (fun s3 wx => s3 = .bool (gd && okB ⟨ya, yb, yw, yu, yx, yk⟩) ∧ wx = wr.alloc (.cells #[.int .i64 ya, .int .i64 yb, .bool yw, .bool yu, .bool yx, .int .i64 yk] 36))
        case first =>
          clear HP HC c0 c1 c2 c3 c4 c5 f0 f3 f64
          rcases gd with _ | _
          · clear HT
            go_wp2_with fail
            go_meet
            exact ⟨rfl, rfl⟩
          · rcases HT.out with ⟨t1, t⟩ | ⟨t1, t2, t⟩ | ⟨t1, t2, t3, t⟩ | ⟨t1, t2, t3, t⟩
            all_goals
              have HX := Lib.hid t
              clear t HT
              go_wp2_with fail
              go_meet
              exact ⟨congrArg Value.bool (by rw [HX.out]; rfl), rfl⟩
        case rest =>
          obtain ⟨rfl, rfl⟩ := hcut
          clear HT c0 c1 c2 c3 c4 c5
          obtain ⟨g5, hg5⟩ : ∃ g5, g5 = (gd && okB ⟨ya, yb, yw, yu, yx, yk⟩) := ⟨_, rfl⟩
          rw [← hg5]
          have HG5 := Lib.hid hg5
          clear hg5
          rcases HP.out with ⟨hk0, hg⟩ | ⟨p, hkp, c, hc, hg⟩
          · have HGD := Lib.hid hg
            clear hg HP HC
            subst hk0
            go_wp2_with fail
            go_meet
            exact ⟨congrArg Value.bool (by rw [upB_step, ← HF.out, HGD.out]; exact HG5.out), by have := HB.out; go_grown⟩
          · obtain ⟨x1, x0, x2, x3, x4, x5⟩ := HC.out p (by omega) c hc
            obtain ⟨ca, cb, cw, cu, cx, ck⟩ := c
            simp only at x0 x1 x2 x3 x4 x5
            have g1 : decide (0 < k) = true := decide_eq_true (by omega)
            have g2 : IntKind.i64.wrap ((k : Int) - 1) = (p : Int) := by rw [IntKind.wrap_i64]; omega
            have g3 : (p : Int) < (n : Int) := by omega
            have g4 : p < n := by omega
            have g5' : decide (p < n) = true := decide_eq_true g4
            have HGD := Lib.hid hg
            clear hc hkp hg HP HC
            have HQ3 := Lib.hid (heap_new2 wr (.cells #[.int .i64 ya, .int .i64 yb, .bool yw, .bool yu, .bool yx, .int .i64 yk] 36) (.cells #[.int .i64 0, .int .i64 0, .bool false, .bool false, .bool false, .int .i64 0] 36))
            have HAL2 : Hid ((#[.int .i64 ca, .int .i64 cb, .bool cw, .bool cu, .bool cx, .int .i64 ck] : Array Value).all (·.oneCell') = true) := Lib.hid (by simp [Value.oneCell'])
            go_upto_region 8 with (first | ((refine wpList_store_row rfl 36 (.tmp 6) (.tmp 41) rfl (wr.heap.size + 1) #[.int .i64 ca, .int .i64 cb, .bool cw, .bool cu, .bool cx, .int .i64 ck] rfl rfl 36 #[.int .i64 0, .int .i64 0, .bool false, .bool false, .bool false, .int .i64 0] HQ3.out sz_rf rfl HAL2.out ?_); rw [setRow_new2]))
            rw [putNone]
            clear x0 x1 x2 x3 x4 x5 f0 f3 f64 g1 g2 g3 g4 g5'
            have HV : Hid (upB R (k + 1) = (g5 && linkB ⟨ca, cb, cw, cu, cx, ck⟩ ⟨ya, yb, yw, yu, yx, yk⟩)) := Lib.hid (by rw [upB_step, ← HF.out, HGD.out, HG5.out, Bool.and_assoc])
            rcases g5 with _ | _
            · go_wp2_with fail
              go_meet
              exact ⟨congrArg Value.bool (by rw [HV.out]; rfl), by have := HB.out; go_grown⟩
            have hcase : (decide (cb ≤ ya) = false ∧ linkB ⟨ca, cb, cw, cu, cx, ck⟩ ⟨ya, yb, yw, yu, yx, yk⟩ = false) ∨ (decide (cb ≤ ya) = true ∧ (cb == ya) = false ∧ linkB ⟨ca, cb, cw, cu, cx, ck⟩ ⟨ya, yb, yw, yu, yx, yk⟩ = true) ∨ (decide (cb ≤ ya) = true ∧ (cb == ya) = true ∧ (cw == yw) = false ∧ linkB ⟨ca, cb, cw, cu, cx, ck⟩ ⟨ya, yb, yw, yu, yx, yk⟩ = true) ∨ (decide (cb ≤ ya) = true ∧ (cb == ya) = true ∧ (cw == yw) = true ∧ (cu == yu) = false ∧ linkB ⟨ca, cb, cw, cu, cx, ck⟩ ⟨ya, yb, yw, yu, yx, yk⟩ = true) ∨ (decide (cb ≤ ya) = true ∧ (cb == ya) = true ∧ (cw == yw) = true ∧ (cu == yu) = true ∧ (cx == yx) = false ∧ linkB ⟨ca, cb, cw, cu, cx, ck⟩ ⟨ya, yb, yw, yu, yx, yk⟩ = true) ∨ (decide (cb ≤ ya) = true ∧ (cb == ya) = true ∧ (cw == yw) = true ∧ (cu == yu) = true ∧ (cx == yx) = true ∧ (ck == yk) = false ∧ linkB ⟨ca, cb, cw, cu, cx, ck⟩ ⟨ya, yb, yw, yu, yx, yk⟩ = true) ∨ (decide (cb ≤ ya) = true ∧ (cb == ya) = true ∧ (cw == yw) = true ∧ (cu == yu) = true ∧ (cx == yx) = true ∧ (ck == yk) = true ∧ linkB ⟨ca, cb, cw, cu, cx, ck⟩ ⟨ya, yb, yw, yu, yx, yk⟩ = false) := by
              unfold linkB joinB
              simp only
              rcases decide (cb ≤ ya) with _ | _
              · exact Or.inl ⟨rfl, rfl⟩
              right
              rcases (cb == ya) with _ | _
              · exact Or.inl ⟨rfl, rfl, rfl⟩
              right
              rcases (cw == yw) with _ | _
              · exact Or.inl ⟨rfl, rfl, rfl, rfl⟩
              right
              rcases (cu == yu) with _ | _
              · exact Or.inl ⟨rfl, rfl, rfl, rfl, rfl⟩
              right
              rcases (cx == yx) with _ | _
              · exact Or.inl ⟨rfl, rfl, rfl, rfl, rfl, rfl⟩
              right
              rcases (ck == yk) with _ | _
              · exact Or.inl ⟨rfl, rfl, rfl, rfl, rfl, rfl, rfl⟩
              · exact Or.inr ⟨rfl, rfl, rfl, rfl, rfl, rfl, rfl⟩
            rcases hcase with ⟨l1, l⟩ | ⟨l1, l2, l⟩ | ⟨l1, l2, l3, l⟩ | ⟨l1, l2, l3, l4, l⟩ | ⟨l1, l2, l3, l4, l5, l⟩ | ⟨l1, l2, l3, l4, l5, l6, l⟩ | ⟨l1, l2, l3, l4, l5, l6, l⟩
            all_goals
              have HY := Lib.hid l
              clear l
              go_wp2_with fail
              go_meet
              exact ⟨congrArg Value.bool (by rw [HV.out, HY.out]; rfl), by have := HB.out; go_grown⟩
      case rest =>
        obtain ⟨rfl, hbc⟩ := hcut
        go_wp2_with fail
        go_roundw
        case rel => exact ⟨k + 1, _, by go_num, rfl, by omega, hbc, Lib.hid rfl⟩
        case measure => simp [intOf]; omega
    · have f0 : decide (k < R.length) = false := decide_eq_false hlt
      obtain rfl : k = R.length := by omega
      obtain ⟨n, hn⟩ : ∃ n, n = R.length := ⟨_, rfl⟩
      have HR : Hid (gd = goodB R) := HF
      rw [← hn] at hlt hle hl f64 f0 ⊢
      clear hn hB
      go_wp2_with fail
      go_returns
      exact ⟨ret_v (by rw [← HR.out]; rfl), by have := HB.out; go_grown⟩
end Go.Proofs.Ytoodjhomekeekaa
