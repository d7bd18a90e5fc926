/- The reference of layer 5: Fits, Before, Told, Without, for every list of lines. The list is told by RL. No condition but bounds on its length, and pages of nought or more. -/
import Derived.Test.YthnojhldpbjkoaaTlbA
import Derived.Deep.DeepCutAuto
namespace Go.Proofs.Ythnojhldpbjkoaa
open Go.ChangeShapes Go.WideShapes Go.ChangeAt Go.RowKit
set_option linter.unusedVariables false
set_option linter.unusedSimpArgs false

structure RL where
  way : Int
  tag : Int
  page : Int
  frame : Int
  wr : Bool
  us : Bool
  ex : Bool
  gl : Bool
  di : Bool
def RL.cells (l : RL) : List Value := [.int .i64 l.way, .int .i64 l.tag, .int .i64 l.page, .int .i64 l.frame, .bool l.wr, .bool l.us, .bool l.ex, .bool l.gl, .bool l.di]
abbrev RL.val (l : RL) : Value := .agg #[.int .i64 l.way, .int .i64 l.tag, .int .i64 l.page, .int .i64 l.frame, .bool l.wr, .bool l.us, .bool l.ex, .bool l.gl, .bool l.di]
def zrl : RL := ⟨0, 0, 0, 0, false, false, false, false, false⟩
def told (l : Ln) (way : Int) : RL := ⟨way, l.tag, l.page, l.frame, l.wr, l.us, l.ex, l.gl, l.di⟩
def rfits (l : RL) (tag page : Int) : Bool := l.page == page && (l.gl || l.tag == tag)
def before (a b : RL) : Bool := decide (a.page % 8 < b.page % 8) || a.page % 8 == b.page % 8 && decide (a.way < b.way)
def rcells : List RL → List Value
  | [] => []
  | l :: r => l.cells ++ rcells r
theorem RL.cells_length (l : RL) : l.cells.length = 9 := rfl
theorem rcells_length : ∀ L, (rcells L).length = L.length * 9
  | [] => rfl
  | l :: r => by simp [rcells, rcells_length r, RL.cells_length]; omega
theorem rcells_append : ∀ L M, rcells (L ++ M) = rcells L ++ rcells M
  | [], M => rfl
  | l :: r, M => by simp [rcells, rcells_append r M]
theorem rcells_at : ∀ (L : List RL) (k : Nat) (l : RL), L[k]? = some l → ∀ j, j < 9 → (rcells L)[k * 9 + j]? = l.cells[j]?
  | [], k, l, h, j, hj => by simp at h
  | x :: r, 0, l, h, j, hj => by
    simp at h; subst h
    show (x.cells ++ rcells r)[0 * 9 + j]? = _
    rw [List.getElem?_append_left (by rw [RL.cells_length]; omega), Nat.zero_mul, Nat.zero_add]
  | x :: r, k + 1, l, h, j, hj => by
    have := rcells_at r k l (by simpa using h) j hj
    show (x.cells ++ rcells r)[(k + 1) * 9 + j]? = _
    rw [List.getElem?_append_right (by rw [RL.cells_length]; omega), RL.cells_length, show (k + 1) * 9 + j - 9 = k * 9 + j by omega]
    exact this
/-- A list of the document's lines, of one's own. -/
def RRow (w : World) (base : Nat) (v : Value) (L : List RL) : Prop := w.ownsRow base 50 9 v L.length (rcells L)
theorem RRow.cell {w : World} {base : Nat} {v : Value} {L : List RL} (h : RRow w base v L) {k : Nat} {l : RL} (hk : L[k]? = some l) :
    ∃ b cap, v = .slice (some ⟨b, 0, none⟩) L.length cap ∧ base ≤ b ∧ b < w.heap.size ∧ w.cell? ⟨b, k * 9, none⟩ = some (.int .i64 l.way) ∧ w.cell? ⟨b, k * 9 + 1, none⟩ = some (.int .i64 l.tag) ∧ w.cell? ⟨b, k * 9 + 2, none⟩ = some (.int .i64 l.page) ∧ w.cell? ⟨b, k * 9 + 3, none⟩ = some (.int .i64 l.frame) ∧ w.cell? ⟨b, k * 9 + 4, none⟩ = some (.bool l.wr) ∧ w.cell? ⟨b, k * 9 + 5, none⟩ = some (.bool l.us) ∧ w.cell? ⟨b, k * 9 + 6, none⟩ = some (.bool l.ex) ∧ w.cell? ⟨b, k * 9 + 7, none⟩ = some (.bool l.gl) ∧ w.cell? ⟨b, k * 9 + 8, none⟩ = some (.bool l.di) := by
  have hlt : k < L.length := (List.getElem?_eq_some_iff.1 hk).1
  obtain ⟨b, cap, hv, hb, hbw, hc⟩ := row_cells h (by omega)
  have hl := rcells_length L
  have c : ∀ j, j < 9 → w.cell? ⟨b, k * 9 + j, none⟩ = l.cells[j]? := fun j hj => (hc _ (by omega)).trans (rcells_at L k l hk j hj)
  exact ⟨b, cap, hv, hb, hbw, c 0 (by omega), c 1 (by omega), c 2 (by omega), c 3 (by omega), c 4 (by omega), c 5 (by omega), c 6 (by omega), c 7 (by omega), c 8 (by omega)⟩
theorem told_any (l : Ln) (way : Int) (w : World) :
    Calls Try.prog 16 #[l.val, .int .i64 way] w fun e w' => e = .returned (told l way).val ∧ Below w.heap.size w w' := by
  obtain ⟨v, t, p, f, a, b, c, d, e⟩ := l
  go_enter Try.func16, Try.ntmps16
  go_wp2
  go_returns
  exact ⟨rfl, by go_grown⟩
theorem rfits_any (l : RL) (tag page : Int) (w : World) :
    Calls Try.prog 29 #[l.val, .int .i64 tag, .int .i64 page] w fun e w' => e = .returned (.bool (rfits l tag page)) ∧ Below w.heap.size w w' := by
  obtain ⟨y, t, p, f, a, b, c, d, e⟩ := l
  go_enter Try.func29, Try.ntmps29
  go_wp2
  all_goals
    go_returns
    refine ⟨ret_v ?_, by go_grown⟩
    simp_all [rfits]
theorem before_any (a b : RL) (ha : 0 ≤ a.page) (hb : 0 ≤ b.page) (w : World) :
    Calls Try.prog 31 #[a.val, b.val] w fun e w' => e = .returned (.bool (before a b)) ∧ Below w.heap.size w w' := by
  obtain ⟨y, t, p, f, a, b1, c, d, e⟩ := a
  obtain ⟨y2, t2, p2, f2, a2, b2, c2, d2, e2⟩ := b
  simp only [] at ha hb
  go_enter Try.func31, Try.ntmps31
  go_wp2
  all_goals
    go_returns
    refine ⟨ret_v ?_, by go_grown⟩
    simp_all [before]
theorem info50 : (Try.prog.info? 50).map (fun i => (i.zero, i.size, i.bytes)) = some (some (.agg #[.int .i64 0, .int .i64 0, .int .i64 0, .int .i64 0, .bool false, .bool false, .bool false, .bool false, .bool false]), 9, 40) := by kernel_rfl
/-- Is a line left out? -/
def goneB (kind a b : Int) (x : RL) : Bool := kind == 1 && x.page % 8 == a && x.way == b || kind == 2 && rfits x a b || kind == 3 && x.tag == a && !x.gl || kind == 4 && (a == 0 || !x.gl)
def withoutR (L : List RL) (kind a b : Int) : List RL := L.filter fun x => !goneB kind a b x
/-- PRINTED -/
theorem without_step (L : List RL) (kind a b : Int) (k : Nat) (h : k < L.length) : withoutR (L.take (k + 1)) kind a b = withoutR (L.take k) kind a b ++ (if !goneB kind a b L[k] then [L[k]] else []) := by
  rw [List.take_add_one, List.getElem?_eq_getElem h]
  unfold withoutR
  rw [List.filter_append]
  cases hg : goneB kind a b L[k] <;> simp [hg]
set_option maxRecDepth 100000 in
set_option maxHeartbeats 4000000 in
theorem without1 {w : World} {base : Nat} {v : Value} {L : List RL} (h : RRow w base v L) (hl : L.length ≤ 1000) (hp : ∀ y ∈ L, 0 ≤ y.page) (a b : Int) :
    Calls Try.prog 28 #[v, .int .i64 1, .int .i64 a, .int .i64 b] w fun e w' => ∃ v', e = .returned v' ∧ Below w.heap.size w w' ∧ RRow w' w.heap.size v' (withoutR L 1 a b) := by
  obtain ⟨A, cap, rfl⟩ := row_form h
  have HP := Lib.hid hp
  clear hp
  go_enter Try.func28, Try.ntmps28
  go_wp2_with fail
  go_loopw [9, 16] (fun v i wr => ∃ k : Nat, i = .int .i64 k ∧ k ≤ L.length ∧ Below w.heap.size w wr ∧ RRow wr w.heap.size v (withoutR (L.take k) 1 a b)) (fun _ i _ => L.length - (intOf i).toNat)
  case atStart =>
    refine ⟨0, rfl, by omega, by go_grown, ?_⟩
    have := World.ownsRow_lit (base := w.heap.size) (e := 50) (size := 9) w #[] 0 (Nat.le_refl _) (by simp [maxLen]) (by simp)
    exact this
  case round =>
    obtain ⟨k, rfl, hle, hB, hR⟩ := hrel
    have hsz := hB.size
    by_cases hlt : k < L.length
    · have f0 : decide (k < L.length) = true := decide_eq_true hlt
      obtain ⟨bl, cap', hv, hbb, hbw, e0, e1, e2, e3, e4, e5, e6, e7, e8⟩ := h.cell (List.getElem?_eq_getElem hlt)
      obtain ⟨hc1, hf1⟩ := bcell hB
      obtain ⟨rfl, _, rfl⟩ : A = some ⟨bl, 0, none⟩ ∧ L.length = L.length ∧ cap = cap' := by simpa using hv
      have hpg := HP.out L[k] (List.getElem_mem hlt)
      have hst := without_step L 1 a b k hlt
      have HST := Lib.hid hst
      clear hst
      generalize L[k] = y at e0 e1 e2 e3 e4 e5 e6 e7 e8 hpg HST
      obtain ⟨yw, yt, yp, yf, ya, yb, yc, yg, yd⟩ := y
      simp only [] at e0 e1 e2 e3 e4 e5 e6 e7 e8 hpg
      have hln : (withoutR (L.take k) 1 a b).length ≤ 1000 := Nat.le_trans (List.length_filter_le _ _) (by rw [List.length_take]; omega)
      obtain ⟨n, hn⟩ : ∃ n, n = L.length := ⟨_, rfl⟩
      rw [← hn] at hlt hle hl f0 ⊢
      have HN := Lib.hid hn
      obtain ⟨A3, c3, rfl⟩ := row_form hR
      generalize withoutR (L.take k) 1 a b = M at hln HST hR ⊢
      clear hn hv h
      go_upto_region 5 with fail
      go_cut [12] (fun s12 wx => s12 = .bool (goneB 1 a b ⟨yw, yt, yp, yf, ya, yb, yc, yg, yd⟩) ∧ Below (wr.heap.size + 1) (wr.alloc (.cells #[.int .i64 yw, .int .i64 yt, .int .i64 yp, .int .i64 yf, .bool ya, .bool yb, .bool yc, .bool yg, .bool yd] 50)) wx)
      case first =>
        rcases Bool.eq_false_or_eq_true (yp % 8 == a) with t0 | t0 <;> rcases Bool.eq_false_or_eq_true (yw == b) with t1 | t1
        all_goals
          go_wp2_with (go_at_call 29; refine (rfits_any ⟨yw, yt, yp, yf, ya, yb, yc, yg, yd⟩ a b _).mono ?_; rintro e w3 ⟨rfl, hb3⟩)
          all_goals
            go_meet
            refine ⟨congrArg Value.bool (by simp [goneB, *]), ?_⟩
            first | exact Below.refl _ _ | (rw [World.size_alloc] at hb3; exact hb3)
      case rest =>
        obtain ⟨rfl, hbc⟩ := hcut
        have hyb := heap_below (by rw [World.size_alloc]; exact hbc) (heap_new wr (.cells #[.int .i64 yw, .int .i64 yt, .int .i64 yp, .int .i64 yf, .bool ya, .bool yb, .bool yc, .bool yg, .bool yd] 50))
        have y0 : wc.cell? ⟨wr.heap.size, 0, none⟩ = some (.int .i64 yw) := cell_heap hyb 0
        have y1 : wc.cell? ⟨wr.heap.size, 1, none⟩ = some (.int .i64 yt) := cell_heap hyb 1
        have y2 : wc.cell? ⟨wr.heap.size, 2, none⟩ = some (.int .i64 yp) := cell_heap hyb 2
        have y3 : wc.cell? ⟨wr.heap.size, 3, none⟩ = some (.int .i64 yf) := cell_heap hyb 3
        have y4 : wc.cell? ⟨wr.heap.size, 4, none⟩ = some (.bool ya) := cell_heap hyb 4
        have y5 : wc.cell? ⟨wr.heap.size, 5, none⟩ = some (.bool yb) := cell_heap hyb 5
        have y6 : wc.cell? ⟨wr.heap.size, 6, none⟩ = some (.bool yc) := cell_heap hyb 6
        have y7 : wc.cell? ⟨wr.heap.size, 7, none⟩ = some (.bool yg) := cell_heap hyb 7
        have y8 : wc.cell? ⟨wr.heap.size, 8, none⟩ = some (.bool yd) := cell_heap hyb 8
        have zy := heap_lt hyb
        have hBa : Below wr.heap.size wr (wr.alloc (.cells #[.int .i64 yw, .int .i64 yt, .int .i64 yp, .int .i64 yf, .bool ya, .bool yb, .bool yc, .bool yg, .bool yd] 50)) := by go_grown
        have hBc := b_then hB (b_then hBa (by rw [World.size_alloc]; exact hbc))
        have hRc : RRow wc w.heap.size (.slice A3 M.length c3) M := row_below hR (b_then hBa (by rw [World.size_alloc]; exact hbc))
        clear hyb hbc hR hB hBa e0 e1 e2 e3 e4 e5 e6 e7 e8 hc1 hf1
        cases hg : goneB 1 a b ⟨yw, yt, yp, yf, ya, yb, yc, yg, yd⟩ with
        | true =>
          rw [hg] at HST
          have HR4 : RRow wc w.heap.size (.slice A3 M.length c3) (withoutR (L.take (k + 1)) 1 a b) := by rw [HST.out, if_neg (by simp), List.append_nil]; exact hRc
          clear hg hRc
          go_wp2_with fail
          go_roundw
          case rel => exact ⟨k + 1, by go_num, by omega, hBc, HR4⟩
          case measure => simp [intOf]; omega
        | false =>
          rw [hg] at HST
          obtain ⟨i0, hi, hz0, hz1, hz2⟩ := info_parts info50
          obtain ⟨A2, c2, w5, ha, hR5, hB5⟩ := app_one (P := Try.prog) w 43 43 50 (by kernel_rfl) hi hz0 hz1 hz2 rfl (by decide) hRc hBc #[.int .i64 yw, .int .i64 yt, .int .i64 yp, .int .i64 yf, .bool ya, .bool yb, .bool yc, .bool yg, .bool yd] rfl (by simp [Value.oneCell']) (by unfold maxLen; omega) (by omega)
          have HA := Lib.hid ha
          have HR4 : RRow w5 w.heap.size (.slice A2 (M.length + 1) c2) (withoutR (L.take (k + 1)) 1 a b) := by
            unfold RRow
            rw [HST.out, if_pos (by simp), List.length_append, rcells_append]
            exact hR5
          clear ha hR5 hRc hi hz0 hz1 hz2 hg
          go_wp2_with (at_builtin; refine wpList_app rfl (.tmp 75) (.tmp 77) 43 rfl rfl rfl HA.out ?_)
          go_roundw
          case rel => exact ⟨k + 1, by go_num, by omega, hB5, HR4⟩
          case measure => simp [intOf]; omega
    · have f0 : decide (k < L.length) = false := decide_eq_false hlt
      obtain ⟨n, hn⟩ : ∃ n, n = L.length := ⟨_, rfl⟩
      rw [← hn] at hlt hle hl f0 ⊢
      have HN := Lib.hid hn
      clear hn
      go_wp2
      go_returns
      refine ⟨_, rfl, hB, ?_⟩
      rw [show k = L.length by rw [← HN.out]; omega, List.take_length] at hR
      exact hR
set_option maxRecDepth 100000 in
set_option maxHeartbeats 4000000 in
theorem without2 {w : World} {base : Nat} {v : Value} {L : List RL} (h : RRow w base v L) (hl : L.length ≤ 1000) (hp : ∀ y ∈ L, 0 ≤ y.page) (a b : Int) :
    Calls Try.prog 28 #[v, .int .i64 2, .int .i64 a, .int .i64 b] w fun e w' => ∃ v', e = .returned v' ∧ Below w.heap.size w w' ∧ RRow w' w.heap.size v' (withoutR L 2 a b) := by
  obtain ⟨A, cap, rfl⟩ := row_form h
  have HP := Lib.hid hp
  clear hp
  go_enter Try.func28, Try.ntmps28
  go_wp2_with fail
  go_loopw [9, 16] (fun v i wr => ∃ k : Nat, i = .int .i64 k ∧ k ≤ L.length ∧ Below w.heap.size w wr ∧ RRow wr w.heap.size v (withoutR (L.take k) 2 a b)) (fun _ i _ => L.length - (intOf i).toNat)
  case atStart =>
    refine ⟨0, rfl, by omega, by go_grown, ?_⟩
    have := World.ownsRow_lit (base := w.heap.size) (e := 50) (size := 9) w #[] 0 (Nat.le_refl _) (by simp [maxLen]) (by simp)
    exact this
  case round =>
    obtain ⟨k, rfl, hle, hB, hR⟩ := hrel
    have hsz := hB.size
    by_cases hlt : k < L.length
    · have f0 : decide (k < L.length) = true := decide_eq_true hlt
      obtain ⟨bl, cap', hv, hbb, hbw, e0, e1, e2, e3, e4, e5, e6, e7, e8⟩ := h.cell (List.getElem?_eq_getElem hlt)
      obtain ⟨hc1, hf1⟩ := bcell hB
      obtain ⟨rfl, _, rfl⟩ : A = some ⟨bl, 0, none⟩ ∧ L.length = L.length ∧ cap = cap' := by simpa using hv
      have hpg := HP.out L[k] (List.getElem_mem hlt)
      have hst := without_step L 2 a b k hlt
      have HST := Lib.hid hst
      clear hst
      generalize L[k] = y at e0 e1 e2 e3 e4 e5 e6 e7 e8 hpg HST
      obtain ⟨yw, yt, yp, yf, ya, yb, yc, yg, yd⟩ := y
      simp only [] at e0 e1 e2 e3 e4 e5 e6 e7 e8 hpg
      have hln : (withoutR (L.take k) 2 a b).length ≤ 1000 := Nat.le_trans (List.length_filter_le _ _) (by rw [List.length_take]; omega)
      obtain ⟨n, hn⟩ : ∃ n, n = L.length := ⟨_, rfl⟩
      rw [← hn] at hlt hle hl f0 ⊢
      have HN := Lib.hid hn
      obtain ⟨A3, c3, rfl⟩ := row_form hR
      generalize withoutR (L.take k) 2 a b = M at hln HST hR ⊢
      clear hn hv h
      go_upto_region 5 with fail
      go_cut [12] (fun s12 wx => s12 = .bool (goneB 2 a b ⟨yw, yt, yp, yf, ya, yb, yc, yg, yd⟩) ∧ Below (wr.heap.size + 1) (wr.alloc (.cells #[.int .i64 yw, .int .i64 yt, .int .i64 yp, .int .i64 yf, .bool ya, .bool yb, .bool yc, .bool yg, .bool yd] 50)) wx)
      case first =>
        go_wp2_with (go_at_call 29; refine (rfits_any ⟨yw, yt, yp, yf, ya, yb, yc, yg, yd⟩ a b _).mono ?_; rintro e w3 ⟨rfl, hb3⟩)
        all_goals
          go_meet
          refine ⟨congrArg Value.bool (by simp [goneB, *]), ?_⟩
          first | exact Below.refl _ _ | (rw [World.size_alloc] at hb3; exact hb3)
      case rest =>
        obtain ⟨rfl, hbc⟩ := hcut
        have hyb := heap_below (by rw [World.size_alloc]; exact hbc) (heap_new wr (.cells #[.int .i64 yw, .int .i64 yt, .int .i64 yp, .int .i64 yf, .bool ya, .bool yb, .bool yc, .bool yg, .bool yd] 50))
        have y0 : wc.cell? ⟨wr.heap.size, 0, none⟩ = some (.int .i64 yw) := cell_heap hyb 0
        have y1 : wc.cell? ⟨wr.heap.size, 1, none⟩ = some (.int .i64 yt) := cell_heap hyb 1
        have y2 : wc.cell? ⟨wr.heap.size, 2, none⟩ = some (.int .i64 yp) := cell_heap hyb 2
        have y3 : wc.cell? ⟨wr.heap.size, 3, none⟩ = some (.int .i64 yf) := cell_heap hyb 3
        have y4 : wc.cell? ⟨wr.heap.size, 4, none⟩ = some (.bool ya) := cell_heap hyb 4
        have y5 : wc.cell? ⟨wr.heap.size, 5, none⟩ = some (.bool yb) := cell_heap hyb 5
        have y6 : wc.cell? ⟨wr.heap.size, 6, none⟩ = some (.bool yc) := cell_heap hyb 6
        have y7 : wc.cell? ⟨wr.heap.size, 7, none⟩ = some (.bool yg) := cell_heap hyb 7
        have y8 : wc.cell? ⟨wr.heap.size, 8, none⟩ = some (.bool yd) := cell_heap hyb 8
        have zy := heap_lt hyb
        have hBa : Below wr.heap.size wr (wr.alloc (.cells #[.int .i64 yw, .int .i64 yt, .int .i64 yp, .int .i64 yf, .bool ya, .bool yb, .bool yc, .bool yg, .bool yd] 50)) := by go_grown
        have hBc := b_then hB (b_then hBa (by rw [World.size_alloc]; exact hbc))
        have hRc : RRow wc w.heap.size (.slice A3 M.length c3) M := row_below hR (b_then hBa (by rw [World.size_alloc]; exact hbc))
        clear hyb hbc hR hB hBa e0 e1 e2 e3 e4 e5 e6 e7 e8 hc1 hf1
        cases hg : goneB 2 a b ⟨yw, yt, yp, yf, ya, yb, yc, yg, yd⟩ with
        | true =>
          rw [hg] at HST
          have HR4 : RRow wc w.heap.size (.slice A3 M.length c3) (withoutR (L.take (k + 1)) 2 a b) := by rw [HST.out, if_neg (by simp), List.append_nil]; exact hRc
          clear hg hRc
          go_wp2_with fail
          go_roundw
          case rel => exact ⟨k + 1, by go_num, by omega, hBc, HR4⟩
          case measure => simp [intOf]; omega
        | false =>
          rw [hg] at HST
          obtain ⟨i0, hi, hz0, hz1, hz2⟩ := info_parts info50
          obtain ⟨A2, c2, w5, ha, hR5, hB5⟩ := app_one (P := Try.prog) w 43 43 50 (by kernel_rfl) hi hz0 hz1 hz2 rfl (by decide) hRc hBc #[.int .i64 yw, .int .i64 yt, .int .i64 yp, .int .i64 yf, .bool ya, .bool yb, .bool yc, .bool yg, .bool yd] rfl (by simp [Value.oneCell']) (by unfold maxLen; omega) (by omega)
          have HA := Lib.hid ha
          have HR4 : RRow w5 w.heap.size (.slice A2 (M.length + 1) c2) (withoutR (L.take (k + 1)) 2 a b) := by
            unfold RRow
            rw [HST.out, if_pos (by simp), List.length_append, rcells_append]
            exact hR5
          clear ha hR5 hRc hi hz0 hz1 hz2 hg
          go_wp2_with (at_builtin; refine wpList_app rfl (.tmp 75) (.tmp 77) 43 rfl rfl rfl HA.out ?_)
          go_roundw
          case rel => exact ⟨k + 1, by go_num, by omega, hB5, HR4⟩
          case measure => simp [intOf]; omega
    · have f0 : decide (k < L.length) = false := decide_eq_false hlt
      obtain ⟨n, hn⟩ : ∃ n, n = L.length := ⟨_, rfl⟩
      rw [← hn] at hlt hle hl f0 ⊢
      have HN := Lib.hid hn
      clear hn
      go_wp2
      go_returns
      refine ⟨_, rfl, hB, ?_⟩
      rw [show k = L.length by rw [← HN.out]; omega, List.take_length] at hR
      exact hR
set_option maxRecDepth 100000 in
set_option maxHeartbeats 4000000 in
theorem without3 {w : World} {base : Nat} {v : Value} {L : List RL} (h : RRow w base v L) (hl : L.length ≤ 1000) (hp : ∀ y ∈ L, 0 ≤ y.page) (a b : Int) :
    Calls Try.prog 28 #[v, .int .i64 3, .int .i64 a, .int .i64 b] w fun e w' => ∃ v', e = .returned v' ∧ Below w.heap.size w w' ∧ RRow w' w.heap.size v' (withoutR L 3 a b) := by
  obtain ⟨A, cap, rfl⟩ := row_form h
  have HP := Lib.hid hp
  clear hp
  go_enter Try.func28, Try.ntmps28
  go_wp2_with fail
  go_loopw [9, 16] (fun v i wr => ∃ k : Nat, i = .int .i64 k ∧ k ≤ L.length ∧ Below w.heap.size w wr ∧ RRow wr w.heap.size v (withoutR (L.take k) 3 a b)) (fun _ i _ => L.length - (intOf i).toNat)
  case atStart =>
    refine ⟨0, rfl, by omega, by go_grown, ?_⟩
    have := World.ownsRow_lit (base := w.heap.size) (e := 50) (size := 9) w #[] 0 (Nat.le_refl _) (by simp [maxLen]) (by simp)
    exact this
  case round =>
    obtain ⟨k, rfl, hle, hB, hR⟩ := hrel
    have hsz := hB.size
    by_cases hlt : k < L.length
    · have f0 : decide (k < L.length) = true := decide_eq_true hlt
      obtain ⟨bl, cap', hv, hbb, hbw, e0, e1, e2, e3, e4, e5, e6, e7, e8⟩ := h.cell (List.getElem?_eq_getElem hlt)
      obtain ⟨hc1, hf1⟩ := bcell hB
      obtain ⟨rfl, _, rfl⟩ : A = some ⟨bl, 0, none⟩ ∧ L.length = L.length ∧ cap = cap' := by simpa using hv
      have hpg := HP.out L[k] (List.getElem_mem hlt)
      have hst := without_step L 3 a b k hlt
      have HST := Lib.hid hst
      clear hst
      generalize L[k] = y at e0 e1 e2 e3 e4 e5 e6 e7 e8 hpg HST
      obtain ⟨yw, yt, yp, yf, ya, yb, yc, yg, yd⟩ := y
      simp only [] at e0 e1 e2 e3 e4 e5 e6 e7 e8 hpg
      have hln : (withoutR (L.take k) 3 a b).length ≤ 1000 := Nat.le_trans (List.length_filter_le _ _) (by rw [List.length_take]; omega)
      obtain ⟨n, hn⟩ : ∃ n, n = L.length := ⟨_, rfl⟩
      rw [← hn] at hlt hle hl f0 ⊢
      have HN := Lib.hid hn
      obtain ⟨A3, c3, rfl⟩ := row_form hR
      generalize withoutR (L.take k) 3 a b = M at hln HST hR ⊢
      clear hn hv h
      cases yg
      · go_upto_region 5 with fail
        go_cut [12] (fun s12 wx => s12 = .bool (goneB 3 a b ⟨yw, yt, yp, yf, ya, yb, yc, false, yd⟩) ∧ Below (wr.heap.size + 1) (wr.alloc (.cells #[.int .i64 yw, .int .i64 yt, .int .i64 yp, .int .i64 yf, .bool ya, .bool yb, .bool yc, .bool false, .bool yd] 50)) wx)
        case first =>
          rcases Bool.eq_false_or_eq_true (yt == a) with t0 | t0
          all_goals
            go_wp2_with (go_at_call 29; refine (rfits_any ⟨yw, yt, yp, yf, ya, yb, yc, false, yd⟩ a b _).mono ?_; rintro e w3 ⟨rfl, hb3⟩)
            all_goals
              go_meet
              refine ⟨congrArg Value.bool (by simp [goneB, *]), ?_⟩
              first | exact Below.refl _ _ | (rw [World.size_alloc] at hb3; exact hb3)
        case rest =>
          obtain ⟨rfl, hbc⟩ := hcut
          have hyb := heap_below (by rw [World.size_alloc]; exact hbc) (heap_new wr (.cells #[.int .i64 yw, .int .i64 yt, .int .i64 yp, .int .i64 yf, .bool ya, .bool yb, .bool yc, .bool false, .bool yd] 50))
          have y0 : wc.cell? ⟨wr.heap.size, 0, none⟩ = some (.int .i64 yw) := cell_heap hyb 0
          have y1 : wc.cell? ⟨wr.heap.size, 1, none⟩ = some (.int .i64 yt) := cell_heap hyb 1
          have y2 : wc.cell? ⟨wr.heap.size, 2, none⟩ = some (.int .i64 yp) := cell_heap hyb 2
          have y3 : wc.cell? ⟨wr.heap.size, 3, none⟩ = some (.int .i64 yf) := cell_heap hyb 3
          have y4 : wc.cell? ⟨wr.heap.size, 4, none⟩ = some (.bool ya) := cell_heap hyb 4
          have y5 : wc.cell? ⟨wr.heap.size, 5, none⟩ = some (.bool yb) := cell_heap hyb 5
          have y6 : wc.cell? ⟨wr.heap.size, 6, none⟩ = some (.bool yc) := cell_heap hyb 6
          have y7 : wc.cell? ⟨wr.heap.size, 7, none⟩ = some (.bool false) := cell_heap hyb 7
          have y8 : wc.cell? ⟨wr.heap.size, 8, none⟩ = some (.bool yd) := cell_heap hyb 8
          have zy := heap_lt hyb
          have hBa : Below wr.heap.size wr (wr.alloc (.cells #[.int .i64 yw, .int .i64 yt, .int .i64 yp, .int .i64 yf, .bool ya, .bool yb, .bool yc, .bool false, .bool yd] 50)) := by go_grown
          have hBc := b_then hB (b_then hBa (by rw [World.size_alloc]; exact hbc))
          have hRc : RRow wc w.heap.size (.slice A3 M.length c3) M := row_below hR (b_then hBa (by rw [World.size_alloc]; exact hbc))
          clear hyb hbc hR hB hBa e0 e1 e2 e3 e4 e5 e6 e7 e8 hc1 hf1
          cases hg : goneB 3 a b ⟨yw, yt, yp, yf, ya, yb, yc, false, yd⟩ with
          | true =>
            rw [hg] at HST
            have HR4 : RRow wc w.heap.size (.slice A3 M.length c3) (withoutR (L.take (k + 1)) 3 a b) := by rw [HST.out, if_neg (by simp), List.append_nil]; exact hRc
            clear hg hRc
            go_wp2_with fail
            go_roundw
            case rel => exact ⟨k + 1, by go_num, by omega, hBc, HR4⟩
            case measure => simp [intOf]; omega
          | false =>
            rw [hg] at HST
            obtain ⟨i0, hi, hz0, hz1, hz2⟩ := info_parts info50
            obtain ⟨A2, c2, w5, ha, hR5, hB5⟩ := app_one (P := Try.prog) w 43 43 50 (by kernel_rfl) hi hz0 hz1 hz2 rfl (by decide) hRc hBc #[.int .i64 yw, .int .i64 yt, .int .i64 yp, .int .i64 yf, .bool ya, .bool yb, .bool yc, .bool false, .bool yd] rfl (by simp [Value.oneCell']) (by unfold maxLen; omega) (by omega)
            have HA := Lib.hid ha
            have HR4 : RRow w5 w.heap.size (.slice A2 (M.length + 1) c2) (withoutR (L.take (k + 1)) 3 a b) := by
              unfold RRow
              rw [HST.out, if_pos (by simp), List.length_append, rcells_append]
              exact hR5
            clear ha hR5 hRc hi hz0 hz1 hz2 hg
            go_wp2_with (at_builtin; refine wpList_app rfl (.tmp 75) (.tmp 77) 43 rfl rfl rfl HA.out ?_)
            go_roundw
            case rel => exact ⟨k + 1, by go_num, by omega, hB5, HR4⟩
            case measure => simp [intOf]; omega
      · go_upto_region 5 with fail
        go_cut [12] (fun s12 wx => s12 = .bool (goneB 3 a b ⟨yw, yt, yp, yf, ya, yb, yc, true, yd⟩) ∧ Below (wr.heap.size + 1) (wr.alloc (.cells #[.int .i64 yw, .int .i64 yt, .int .i64 yp, .int .i64 yf, .bool ya, .bool yb, .bool yc, .bool true, .bool yd] 50)) wx)
        case first =>
          rcases Bool.eq_false_or_eq_true (yt == a) with t0 | t0
          all_goals
            go_wp2_with (go_at_call 29; refine (rfits_any ⟨yw, yt, yp, yf, ya, yb, yc, true, yd⟩ a b _).mono ?_; rintro e w3 ⟨rfl, hb3⟩)
            all_goals
              go_meet
              refine ⟨congrArg Value.bool (by simp [goneB, *]), ?_⟩
              first | exact Below.refl _ _ | (rw [World.size_alloc] at hb3; exact hb3)
        case rest =>
          obtain ⟨rfl, hbc⟩ := hcut
          have hyb := heap_below (by rw [World.size_alloc]; exact hbc) (heap_new wr (.cells #[.int .i64 yw, .int .i64 yt, .int .i64 yp, .int .i64 yf, .bool ya, .bool yb, .bool yc, .bool true, .bool yd] 50))
          have y0 : wc.cell? ⟨wr.heap.size, 0, none⟩ = some (.int .i64 yw) := cell_heap hyb 0
          have y1 : wc.cell? ⟨wr.heap.size, 1, none⟩ = some (.int .i64 yt) := cell_heap hyb 1
          have y2 : wc.cell? ⟨wr.heap.size, 2, none⟩ = some (.int .i64 yp) := cell_heap hyb 2
          have y3 : wc.cell? ⟨wr.heap.size, 3, none⟩ = some (.int .i64 yf) := cell_heap hyb 3
          have y4 : wc.cell? ⟨wr.heap.size, 4, none⟩ = some (.bool ya) := cell_heap hyb 4
          have y5 : wc.cell? ⟨wr.heap.size, 5, none⟩ = some (.bool yb) := cell_heap hyb 5
          have y6 : wc.cell? ⟨wr.heap.size, 6, none⟩ = some (.bool yc) := cell_heap hyb 6
          have y7 : wc.cell? ⟨wr.heap.size, 7, none⟩ = some (.bool true) := cell_heap hyb 7
          have y8 : wc.cell? ⟨wr.heap.size, 8, none⟩ = some (.bool yd) := cell_heap hyb 8
          have zy := heap_lt hyb
          have hBa : Below wr.heap.size wr (wr.alloc (.cells #[.int .i64 yw, .int .i64 yt, .int .i64 yp, .int .i64 yf, .bool ya, .bool yb, .bool yc, .bool true, .bool yd] 50)) := by go_grown
          have hBc := b_then hB (b_then hBa (by rw [World.size_alloc]; exact hbc))
          have hRc : RRow wc w.heap.size (.slice A3 M.length c3) M := row_below hR (b_then hBa (by rw [World.size_alloc]; exact hbc))
          clear hyb hbc hR hB hBa e0 e1 e2 e3 e4 e5 e6 e7 e8 hc1 hf1
          cases hg : goneB 3 a b ⟨yw, yt, yp, yf, ya, yb, yc, true, yd⟩ with
          | true =>
            rw [hg] at HST
            have HR4 : RRow wc w.heap.size (.slice A3 M.length c3) (withoutR (L.take (k + 1)) 3 a b) := by rw [HST.out, if_neg (by simp), List.append_nil]; exact hRc
            clear hg hRc
            go_wp2_with fail
            go_roundw
            case rel => exact ⟨k + 1, by go_num, by omega, hBc, HR4⟩
            case measure => simp [intOf]; omega
          | false =>
            rw [hg] at HST
            obtain ⟨i0, hi, hz0, hz1, hz2⟩ := info_parts info50
            obtain ⟨A2, c2, w5, ha, hR5, hB5⟩ := app_one (P := Try.prog) w 43 43 50 (by kernel_rfl) hi hz0 hz1 hz2 rfl (by decide) hRc hBc #[.int .i64 yw, .int .i64 yt, .int .i64 yp, .int .i64 yf, .bool ya, .bool yb, .bool yc, .bool true, .bool yd] rfl (by simp [Value.oneCell']) (by unfold maxLen; omega) (by omega)
            have HA := Lib.hid ha
            have HR4 : RRow w5 w.heap.size (.slice A2 (M.length + 1) c2) (withoutR (L.take (k + 1)) 3 a b) := by
              unfold RRow
              rw [HST.out, if_pos (by simp), List.length_append, rcells_append]
              exact hR5
            clear ha hR5 hRc hi hz0 hz1 hz2 hg
            go_wp2_with (at_builtin; refine wpList_app rfl (.tmp 75) (.tmp 77) 43 rfl rfl rfl HA.out ?_)
            go_roundw
            case rel => exact ⟨k + 1, by go_num, by omega, hB5, HR4⟩
            case measure => simp [intOf]; omega
    · have f0 : decide (k < L.length) = false := decide_eq_false hlt
      obtain ⟨n, hn⟩ : ∃ n, n = L.length := ⟨_, rfl⟩
      rw [← hn] at hlt hle hl f0 ⊢
      have HN := Lib.hid hn
      clear hn
      go_wp2
      go_returns
      refine ⟨_, rfl, hB, ?_⟩
      rw [show k = L.length by rw [← HN.out]; omega, List.take_length] at hR
      exact hR
set_option maxRecDepth 100000 in
set_option maxHeartbeats 4000000 in
theorem without4 {w : World} {base : Nat} {v : Value} {L : List RL} (h : RRow w base v L) (hl : L.length ≤ 1000) (hp : ∀ y ∈ L, 0 ≤ y.page) (a b : Int) :
    Calls Try.prog 28 #[v, .int .i64 4, .int .i64 a, .int .i64 b] w fun e w' => ∃ v', e = .returned v' ∧ Below w.heap.size w w' ∧ RRow w' w.heap.size v' (withoutR L 4 a b) := by
  obtain ⟨A, cap, rfl⟩ := row_form h
  have HP := Lib.hid hp
  clear hp
  go_enter Try.func28, Try.ntmps28
  go_wp2_with fail
  go_loopw [9, 16] (fun v i wr => ∃ k : Nat, i = .int .i64 k ∧ k ≤ L.length ∧ Below w.heap.size w wr ∧ RRow wr w.heap.size v (withoutR (L.take k) 4 a b)) (fun _ i _ => L.length - (intOf i).toNat)
  case atStart =>
    refine ⟨0, rfl, by omega, by go_grown, ?_⟩
    have := World.ownsRow_lit (base := w.heap.size) (e := 50) (size := 9) w #[] 0 (Nat.le_refl _) (by simp [maxLen]) (by simp)
    exact this
  case round =>
    obtain ⟨k, rfl, hle, hB, hR⟩ := hrel
    have hsz := hB.size
    by_cases hlt : k < L.length
    · have f0 : decide (k < L.length) = true := decide_eq_true hlt
      obtain ⟨bl, cap', hv, hbb, hbw, e0, e1, e2, e3, e4, e5, e6, e7, e8⟩ := h.cell (List.getElem?_eq_getElem hlt)
      obtain ⟨hc1, hf1⟩ := bcell hB
      obtain ⟨rfl, _, rfl⟩ : A = some ⟨bl, 0, none⟩ ∧ L.length = L.length ∧ cap = cap' := by simpa using hv
      have hpg := HP.out L[k] (List.getElem_mem hlt)
      have hst := without_step L 4 a b k hlt
      have HST := Lib.hid hst
      clear hst
      generalize L[k] = y at e0 e1 e2 e3 e4 e5 e6 e7 e8 hpg HST
      obtain ⟨yw, yt, yp, yf, ya, yb, yc, yg, yd⟩ := y
      simp only [] at e0 e1 e2 e3 e4 e5 e6 e7 e8 hpg
      have hln : (withoutR (L.take k) 4 a b).length ≤ 1000 := Nat.le_trans (List.length_filter_le _ _) (by rw [List.length_take]; omega)
      obtain ⟨n, hn⟩ : ∃ n, n = L.length := ⟨_, rfl⟩
      rw [← hn] at hlt hle hl f0 ⊢
      have HN := Lib.hid hn
      obtain ⟨A3, c3, rfl⟩ := row_form hR
      generalize withoutR (L.take k) 4 a b = M at hln HST hR ⊢
      clear hn hv h
      go_upto_region 5 with fail
      go_cut [12] (fun s12 wx => s12 = .bool (goneB 4 a b ⟨yw, yt, yp, yf, ya, yb, yc, yg, yd⟩) ∧ Below (wr.heap.size + 1) (wr.alloc (.cells #[.int .i64 yw, .int .i64 yt, .int .i64 yp, .int .i64 yf, .bool ya, .bool yb, .bool yc, .bool yg, .bool yd] 50)) wx)
      case first =>
        rcases Bool.eq_false_or_eq_true (a == 0) with t0 | t0
        all_goals
          go_wp2_with (go_at_call 29; refine (rfits_any ⟨yw, yt, yp, yf, ya, yb, yc, yg, yd⟩ a b _).mono ?_; rintro e w3 ⟨rfl, hb3⟩)
          all_goals
            go_meet
            refine ⟨congrArg Value.bool (by simp [goneB, *]), ?_⟩
            first | exact Below.refl _ _ | (rw [World.size_alloc] at hb3; exact hb3)
      case rest =>
        obtain ⟨rfl, hbc⟩ := hcut
        have hyb := heap_below (by rw [World.size_alloc]; exact hbc) (heap_new wr (.cells #[.int .i64 yw, .int .i64 yt, .int .i64 yp, .int .i64 yf, .bool ya, .bool yb, .bool yc, .bool yg, .bool yd] 50))
        have y0 : wc.cell? ⟨wr.heap.size, 0, none⟩ = some (.int .i64 yw) := cell_heap hyb 0
        have y1 : wc.cell? ⟨wr.heap.size, 1, none⟩ = some (.int .i64 yt) := cell_heap hyb 1
        have y2 : wc.cell? ⟨wr.heap.size, 2, none⟩ = some (.int .i64 yp) := cell_heap hyb 2
        have y3 : wc.cell? ⟨wr.heap.size, 3, none⟩ = some (.int .i64 yf) := cell_heap hyb 3
        have y4 : wc.cell? ⟨wr.heap.size, 4, none⟩ = some (.bool ya) := cell_heap hyb 4
        have y5 : wc.cell? ⟨wr.heap.size, 5, none⟩ = some (.bool yb) := cell_heap hyb 5
        have y6 : wc.cell? ⟨wr.heap.size, 6, none⟩ = some (.bool yc) := cell_heap hyb 6
        have y7 : wc.cell? ⟨wr.heap.size, 7, none⟩ = some (.bool yg) := cell_heap hyb 7
        have y8 : wc.cell? ⟨wr.heap.size, 8, none⟩ = some (.bool yd) := cell_heap hyb 8
        have zy := heap_lt hyb
        have hBa : Below wr.heap.size wr (wr.alloc (.cells #[.int .i64 yw, .int .i64 yt, .int .i64 yp, .int .i64 yf, .bool ya, .bool yb, .bool yc, .bool yg, .bool yd] 50)) := by go_grown
        have hBc := b_then hB (b_then hBa (by rw [World.size_alloc]; exact hbc))
        have hRc : RRow wc w.heap.size (.slice A3 M.length c3) M := row_below hR (b_then hBa (by rw [World.size_alloc]; exact hbc))
        clear hyb hbc hR hB hBa e0 e1 e2 e3 e4 e5 e6 e7 e8 hc1 hf1
        cases hg : goneB 4 a b ⟨yw, yt, yp, yf, ya, yb, yc, yg, yd⟩ with
        | true =>
          rw [hg] at HST
          have HR4 : RRow wc w.heap.size (.slice A3 M.length c3) (withoutR (L.take (k + 1)) 4 a b) := by rw [HST.out, if_neg (by simp), List.append_nil]; exact hRc
          clear hg hRc
          go_wp2_with fail
          go_roundw
          case rel => exact ⟨k + 1, by go_num, by omega, hBc, HR4⟩
          case measure => simp [intOf]; omega
        | false =>
          rw [hg] at HST
          obtain ⟨i0, hi, hz0, hz1, hz2⟩ := info_parts info50
          obtain ⟨A2, c2, w5, ha, hR5, hB5⟩ := app_one (P := Try.prog) w 43 43 50 (by kernel_rfl) hi hz0 hz1 hz2 rfl (by decide) hRc hBc #[.int .i64 yw, .int .i64 yt, .int .i64 yp, .int .i64 yf, .bool ya, .bool yb, .bool yc, .bool yg, .bool yd] rfl (by simp [Value.oneCell']) (by unfold maxLen; omega) (by omega)
          have HA := Lib.hid ha
          have HR4 : RRow w5 w.heap.size (.slice A2 (M.length + 1) c2) (withoutR (L.take (k + 1)) 4 a b) := by
            unfold RRow
            rw [HST.out, if_pos (by simp), List.length_append, rcells_append]
            exact hR5
          clear ha hR5 hRc hi hz0 hz1 hz2 hg
          go_wp2_with (at_builtin; refine wpList_app rfl (.tmp 75) (.tmp 77) 43 rfl rfl rfl HA.out ?_)
          go_roundw
          case rel => exact ⟨k + 1, by go_num, by omega, hB5, HR4⟩
          case measure => simp [intOf]; omega
    · have f0 : decide (k < L.length) = false := decide_eq_false hlt
      obtain ⟨n, hn⟩ : ∃ n, n = L.length := ⟨_, rfl⟩
      rw [← hn] at hlt hle hl f0 ⊢
      have HN := Lib.hid hn
      clear hn
      go_wp2
      go_returns
      refine ⟨_, rfl, hB, ?_⟩
      rw [show k = L.length by rw [← HN.out]; omega, List.take_length] at hR
      exact hR
end Go.Proofs.Ythnojhldpbjkoaa
