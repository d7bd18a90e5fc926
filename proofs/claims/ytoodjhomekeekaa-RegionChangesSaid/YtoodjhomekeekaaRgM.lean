/- Told, Of, same: the law's own functions. Condition: at most 1000 regions (Told: none). Printed by gen/rgtold.py. -/
import Derived.Test.YtoodjhomekeekaaRgL
import Derived.Deep.DeepCutAuto
import Derived.Deep.WholeRow
import Derived.Laws.Rows
import Derived.Laws.Tables
namespace Go.Proofs.Ytoodjhomekeekaa
open Go.ChangeShapes Go.WideShapes Go.ChangeAt Go.RowKit
set_option linter.unusedVariables false
set_option linter.unusedSimpArgs false
theorem act_row6 {w : World} {A : Option Addr} {len : Nat} (r : Rows_ w [.i .i64, .i .i64, .b, .b, .b, .i .i64] A len) {k : Nat} (h : k < len) :
    ∃ (b off : Nat), A = some ⟨b, off, none⟩ ∧ b < w.heap.size ∧ ∃ (d : RG), w.cell? ⟨b, off + k * 6, none⟩ = some (.int .i64 d.a) ∧ w.cell? ⟨b, off + k * 6 + 1, none⟩ = some (.int .i64 d.b) ∧ w.cell? ⟨b, off + k * 6 + 2, none⟩ = some (.bool d.w) ∧ w.cell? ⟨b, off + k * 6 + 3, none⟩ = some (.bool d.u) ∧ w.cell? ⟨b, off + k * 6 + 4, none⟩ = some (.bool d.x) ∧ w.cell? ⟨b, off + k * 6 + 5, none⟩ = some (.int .i64 d.k) := by
  obtain ⟨_, h2⟩ := r
  obtain ⟨b, off, R, hA, hb, hR⟩ := h2 (by omega)
  obtain ⟨ok, hc⟩ := hR k h
  obtain ⟨_, r1, e, ⟨a0, rfl, _⟩, ok⟩ := ok
  obtain ⟨_, r2, rfl, ⟨a1, rfl, _⟩, ok⟩ := ok
  obtain ⟨_, r3, rfl, ⟨a2, rfl⟩, ok⟩ := ok
  obtain ⟨_, r4, rfl, ⟨a3, rfl⟩, ok⟩ := ok
  obtain ⟨_, r5, rfl, ⟨a4, rfl⟩, ok⟩ := ok
  obtain ⟨_, r6, rfl, ⟨a5, rfl, _⟩, ok⟩ := ok
  rw [e] at hc
  exact ⟨b, off, hA, hb, ⟨a0, a1, a2, a3, a4, a5⟩, hc 0 (by simp), hc 1 (by simp), hc 2 (by simp), hc 3 (by simp), hc 4 (by simp), hc 5 (by simp)⟩
theorem tm40 (x : Int) : -1099511627776 < x.tmod 1099511627776 ∧ x.tmod 1099511627776 < 1099511627776 := by
  rcases Int.le_total 0 x with h | h
  · rw [Int.tmod_eq_emod_of_nonneg h]; omega
  · have e : x.tmod 1099511627776 = -((-x).tmod 1099511627776) := by rw [Int.neg_tmod]; omega
    rw [e, Int.tmod_eq_emod_of_nonneg (by omega)]; omega
theorem sml_tmod (x : Int) : sml (x.tmod 1099511627776) := by have := tm40 x; unfold sml; omega
set_option maxHeartbeats 8000000 in
theorem told_any {w : World} {A : Option Addr} {len cap : Nat} (r : Rows_ w [.i .i64, .i .i64, .b, .b, .b, .i .i64] A len) :
    Calls Try.prog 8 #[.slice A len cap] w fun e w' => ∃ A2 c R, e = .returned (.slice A2 R.length c) ∧ rfL w' w.heap.size (.slice A2 R.length c) R ∧ Below w.heap.size w w' ∧ R.length ≤ 70 ∧ smlL R := by
  have HR := Lib.hid r
  have hlen := r.1
  clear r
  go_enter Try.func8, Try.ntmps8
  go_wp2_with fail
  have h0 := Lib.hid (rflit0 w w.heap.size (Nat.le_refl _))
  have HB0 : Below w.heap.size w (w.alloc (.cells #[] 36)) := by go_grown
  go_loopw [3, 4] (fun x3 x wr => ∃ (k : Nat) (O : List RG) (A3 : Option Addr) (c3 : Nat), x = .int .i64 k ∧ x3 = .slice A3 O.length c3 ∧ k ≤ len ∧ k ≤ 70 ∧ O.length = k ∧ Below w.heap.size w wr ∧ Hid (rfL wr w.heap.size (.slice A3 O.length c3) O) ∧ Hid (smlL O)) (fun _ x _ => len - (intOf x).toNat)
  case atStart => exact ⟨0, [], _, 0, rfl, rfl, by omega, by omega, by simp, HB0, h0, Lib.hid (by intro d hd; simp at hd)⟩
  case round =>
    clear HB0 h0
    obtain ⟨k, O, A3, c3, rfl, rfl, hle, h70, hok, hB, HO, HS⟩ := hrel
    have hsz := hB.size
    have HB := Lib.hid hB
    by_cases hlt : k < len ∧ k < 70
    · have f0 : decide (k < len) = true := decide_eq_true hlt.1
      have f1 : decide ((k : Int) < 70) = true := decide_eq_true (by omega)
      have f3 : (k : Int) < (len : Int) := by omega
      have f4 : k < len := hlt.1
      obtain ⟨b, off, rfl, hbw, d, e0, e1, e2, e3, e4, e5⟩ := act_row6 HR.out hlt.1
      obtain ⟨ya, yb, yw, yu, yx, yk⟩ := d
      simp only at e0 e1 e2 e3 e4 e5
      obtain ⟨hc1, hf1⟩ := bcell hB
      have c0 := (hc1 b _ hbw).trans e0
      have c1 := (hc1 b _ hbw).trans e1
      have c2 := (hc1 b _ hbw).trans e2
      have c3 := (hc1 b _ hbw).trans e3
      have c4 := (hc1 b _ hbw).trans e4
      have c5 := (hc1 b _ hbw).trans e5
      have hbw3 : b < wr.heap.size := by omega
      have s1 : IntKind.i64.wrap (ya.tmod 1099511627776) = ya.tmod 1099511627776 := by have := tm40 ya; rw [IntKind.wrap_i64]; omega
      have s2 : IntKind.i64.wrap (yb.tmod 1099511627776) = yb.tmod 1099511627776 := by have := tm40 yb; rw [IntKind.wrap_i64]; omega
      have HQ2 := Lib.hid (heap_new wr (.cells #[.int .i64 0, .int .i64 0, .bool false, .bool false, .bool false, .int .i64 0] 31))
      have HAL : Hid ((#[.int .i64 ya, .int .i64 yb, .bool yw, .bool yu, .bool yx, .int .i64 yk] : Array Value).all (·.oneCell') = true) := Lib.hid (by simp [Value.oneCell'])
      rw [hok] at HO ⊢
      have HMM := Lib.hid hok.symm
      have HL := Lib.hid hlt
      clear hc1 hf1 e0 e1 e2 e3 e4 e5 hB hok hlt
      go_upto_region 6 with (first | ((refine wpList_store_row rfl 31 (.tmp 5) (.tmp 20) rfl wr.heap.size #[.int .i64 ya, .int .i64 yb, .bool yw, .bool yu, .bool yx, .int .i64 yk] rfl rfl 31 #[.int .i64 0, .int .i64 0, .bool false, .bool false, .bool false, .int .i64 0] HQ2.out sz_rg rfl HAL.out ?_); rw [World.setRow_alloc_new]))
      obtain ⟨q, hq⟩ : ∃ q, q = wr.heap.size := ⟨_, rfl⟩
      obtain ⟨W0, hW⟩ : ∃ W, W = wr.alloc (.cells #[.int .i64 ya, .int .i64 yb, .bool yw, .bool yu, .bool yx, .int .i64 yk] 31) := ⟨_, rfl⟩
      have HW := heap_new wr (.cells #[.int .i64 ya, .int .i64 yb, .bool yw, .bool yu, .bool yx, .int .i64 yk] 31)
      have hB2 : Below wr.heap.size wr W0 := by rw [hW]; exact (Below.refl _ _).alloc (Nat.le_refl _) _
      have hB3 : Below w.heap.size w W0 := by rw [hW]; have := HB.out; go_grown
      rw [← hW, ← hq] at HW ⊢
      have HO2 := Lib.hid (HO.out.below hB2)
      have z0 : W0.cell? ⟨q, 0, none⟩ = some (.int .i64 ya) := cell_heap HW 0
      have z1 : W0.cell? ⟨q, 1, none⟩ = some (.int .i64 yb) := cell_heap HW 1
      have z2 : W0.cell? ⟨q, 2, none⟩ = some (.bool yw) := cell_heap HW 2
      have z3 : W0.cell? ⟨q, 3, none⟩ = some (.bool yu) := cell_heap HW 3
      have z4 : W0.cell? ⟨q, 4, none⟩ = some (.bool yx) := cell_heap HW 4
      have z5 : W0.cell? ⟨q, 5, none⟩ = some (.int .i64 yk) := cell_heap HW 5
      have hqw : q < W0.heap.size := heap_lt HW
      obtain ⟨A4, cp4, w4, ha, ho, hb4, hs4, _⟩ := rfapp w.heap.size w (Nat.le_refl _) (HMM.out ▸ HO2.out) hB3 ⟨ya.tmod 1099511627776, yb.tmod 1099511627776, yw, yu, yx, yk⟩ (by rw [← HMM.out]; omega)
      rw [← HMM.out] at ha ho
      have HA := Lib.hid ha
      clear ha hW hB2 hB3 HQ2 HW hsz HAL c0 c1 c2 c3 c4 c5 HO HB hq hbw3
      go_wp2_with (at_builtin; refine wpList_app rfl (.tmp 21) (.tmp 35) 24 rfl rfl rfl HA.out ?_)
      go_roundw
      case rel => exact ⟨k + 1, O ++ [⟨ya.tmod 1099511627776, yb.tmod 1099511627776, yw, yu, yx, yk⟩], _, _, by go_num, by rw [List.length_append, ← HMM.out]; rfl, by omega, by have := HL.out; omega, by rw [List.length_append, ← HMM.out]; rfl, hb4, Lib.hid (by rw [List.length_append, ← HMM.out]; exact ho), Lib.hid (by
        intro d hd
        rcases List.mem_append.1 hd with h1 | h1
        · exact HS.out d h1
        · obtain rfl := List.mem_singleton.1 h1
          exact ⟨sml_tmod _, sml_tmod _⟩)⟩
      case measure => simp [intOf]; omega
    · have HL : Hid (O.length ≤ 70) := Lib.hid (by omega)
      rw [hok] at HO ⊢
      have HMM := Lib.hid hok.symm
      clear hok
      by_cases h1 : k < len
      · have f0 : decide (k < len) = true := decide_eq_true h1
        have f1 : decide ((k : Int) < 70) = false := decide_eq_false (by omega)
        clear hB
        go_wp2_with fail
        go_returns
        exact ⟨A3, c3, O, ret_v (by rw [← HMM.out]; rfl), HMM.out ▸ HO.out, HB.out, HL.out, HS.out⟩
      · have f0 : decide (k < len) = false := decide_eq_false h1
        clear hB
        go_wp2_with fail
        go_returns
        exact ⟨A3, c3, O, ret_v (by rw [← HMM.out]; rfl), HMM.out ▸ HO.out, HB.out, HL.out, HS.out⟩
set_option maxHeartbeats 8000000 in
theorem of_any {w : World} {base : Nat} {v : Value} {R : List RG} (h : rfL w base v R) (hl : R.length ≤ 1000) :
    Calls Try.prog 10 #[v] w fun e w' => ∃ A c, e = .returned (.slice A R.length c) ∧ rgL w' w.heap.size (.slice A R.length c) R ∧ Below w.heap.size w w' := by
  obtain ⟨A, cap, rfl⟩ := h.form
  have H := Lib.hid h
  clear h
  go_enter Try.func10, Try.ntmps10
  go_wp2_with fail
  have h0 := Lib.hid (rglit0 w w.heap.size (Nat.le_refl _))
  have HB0 : Below w.heap.size w (w.alloc (.cells #[] 31)) := by go_grown
  go_loopw [3, 9] (fun x3 x wr => ∃ (k : Nat) (O : List RG) (A3 : Option Addr) (c3 : Nat), x = .int .i64 k ∧ x3 = .slice A3 O.length c3 ∧ k ≤ R.length ∧ O.length = k ∧ Below w.heap.size w wr ∧ Hid (rgL wr w.heap.size (.slice A3 O.length c3) O) ∧ Hid (R = O ++ R.drop k)) (fun _ x _ => R.length - (intOf x).toNat)
  case atStart => exact ⟨0, [], _, 0, rfl, rfl, by omega, by simp, HB0, h0, Lib.hid rfl⟩
  case round =>
    clear HB0 h0
    obtain ⟨k, O, A3, c3, rfl, rfl, hle, hok, hB, HO, HF⟩ := hrel
    have hsz := hB.size
    have HB := Lib.hid hB
    by_cases hlt : k < R.length
    · have f0 : decide (k < R.length) = true := decide_eq_true hlt
      have f3 : (k : Int) < (R.length : Int) := by omega
      have hd : R.drop k = R[k] :: R.drop (k + 1) := List.drop_eq_getElem_cons hlt
      obtain ⟨b, cap1, hv, hb, hbw, e0, e1, e2, e3, e4, e5⟩ := H.out.cell (List.getElem?_eq_getElem hlt)
      obtain ⟨hc1, hf1⟩ := bcell hB
      have c0 := (hc1 b _ hbw).trans e0
      have c1 := (hc1 b _ hbw).trans e1
      have c2 := (hc1 b _ hbw).trans e2
      have c3 := (hc1 b _ hbw).trans e3
      have c4 := (hc1 b _ hbw).trans e4
      have c5 := (hc1 b _ hbw).trans e5
      obtain ⟨rfl, _, rfl⟩ : A = some ⟨b, 0, none⟩ ∧ R.length = R.length ∧ cap = cap1 := by simpa using hv
      obtain ⟨n, hn⟩ : ∃ n, n = R.length := ⟨_, rfl⟩
      rw [← hn] at hlt hle hl f0 f3 ⊢
      generalize R[k] = y at c0 c1 c2 c3 c4 c5 hd
      obtain ⟨ya, yb, yw, yu, yx, yk⟩ := y
      simp only at c0 c1 c2 c3 c4 c5
      have HD := Lib.hid hd
      have HN := Lib.hid hn
      have hbw3 : b < wr.heap.size := by omega
      clear hc1 hf1 e0 e1 e2 e3 e4 e5 hv hn hb hB hd
      have HQ2 := Lib.hid (heap_new wr (.cells #[.int .i64 0, .int .i64 0, .bool false, .bool false, .bool false, .int .i64 0] 36))
      have HAL : Hid ((#[.int .i64 ya, .int .i64 yb, .bool yw, .bool yu, .bool yx, .int .i64 yk] : Array Value).all (·.oneCell') = true) := Lib.hid (by simp [Value.oneCell'])
      rw [hok] at HO ⊢
      have HMM := Lib.hid hok.symm
      clear hok
      go_upto_region 5 with (first | ((refine wpList_store_row rfl 36 (.tmp 5) (.tmp 12) rfl wr.heap.size #[.int .i64 ya, .int .i64 yb, .bool yw, .bool yu, .bool yx, .int .i64 yk] rfl rfl 36 #[.int .i64 0, .int .i64 0, .bool false, .bool false, .bool false, .int .i64 0] HQ2.out sz_rf rfl HAL.out ?_); rw [World.setRow_alloc_new]))
      obtain ⟨q, hq⟩ : ∃ q, q = wr.heap.size := ⟨_, rfl⟩
      obtain ⟨W0, hW⟩ : ∃ W, W = wr.alloc (.cells #[.int .i64 ya, .int .i64 yb, .bool yw, .bool yu, .bool yx, .int .i64 yk] 36) := ⟨_, rfl⟩
      have HW := heap_new wr (.cells #[.int .i64 ya, .int .i64 yb, .bool yw, .bool yu, .bool yx, .int .i64 yk] 36)
      have hB2 : Below wr.heap.size wr W0 := by rw [hW]; exact (Below.refl _ _).alloc (Nat.le_refl _) _
      have hB3 : Below w.heap.size w W0 := by rw [hW]; have := HB.out; go_grown
      rw [← hW, ← hq] at HW ⊢
      have HO2 := Lib.hid (HO.out.below hB2)
      have HB3 := Lib.hid hB3
      have z0 : W0.cell? ⟨q, 0, none⟩ = some (.int .i64 ya) := cell_heap HW 0
      have z1 : W0.cell? ⟨q, 1, none⟩ = some (.int .i64 yb) := cell_heap HW 1
      have z2 : W0.cell? ⟨q, 2, none⟩ = some (.bool yw) := cell_heap HW 2
      have z3 : W0.cell? ⟨q, 3, none⟩ = some (.bool yu) := cell_heap HW 3
      have z4 : W0.cell? ⟨q, 4, none⟩ = some (.bool yx) := cell_heap HW 4
      have z5 : W0.cell? ⟨q, 5, none⟩ = some (.int .i64 yk) := cell_heap HW 5
      have hqw : q < W0.heap.size := heap_lt HW
      clear hW hB2 hB3 HQ2 HW hsz HAL c0 c1 c2 c3 c4 c5 HO HB hq hbw3
      go_wp2_with fail
      refine (one_any W0 ⟨ya, yb, yw, yu, yx, yk⟩).mono ?_
      rintro e w1 ⟨rfl, hb1⟩
      have HB5 := Lib.hid (b_then HB3.out hb1)
      obtain ⟨A4, cp4, w4, ha, ho, hb4, hs4, _⟩ := rgapp w.heap.size w (Nat.le_refl _) (HMM.out ▸ HO2.out.below hb1) HB5.out ⟨ya, yb, yw, yu, yx, yk⟩ (by rw [← HMM.out]; omega)
      rw [← HMM.out] at ha ho
      have HA := Lib.hid ha
      unfold RG.val
      simp only
      clear ha hb1 z0 z1 z2 z3 z4 z5
      go_wp2_with (at_builtin; refine wpList_app rfl (.tmp 13) (.tmp 16) 23 rfl rfl rfl HA.out ?_)
      go_roundw
      case rel => exact ⟨k + 1, O ++ [⟨ya, yb, yw, yu, yx, yk⟩], _, _, by go_num, by rw [List.length_append, ← HMM.out]; rfl, by omega, by rw [List.length_append, ← HMM.out]; rfl, hb4, Lib.hid (by rw [List.length_append, ← HMM.out]; exact ho), Lib.hid (by have h1 := HF.out; rw [HD.out] at h1; rw [List.append_assoc]; exact h1)⟩
      case measure => simp [intOf]; omega
    · have f0 : decide (k < R.length) = false := decide_eq_false hlt
      have HX : Hid (R = O) := Lib.hid (by have h1 := HF.out; rw [List.drop_of_length_le (by omega), List.append_nil] at h1; exact h1)
      obtain ⟨n, hn⟩ : ∃ n, n = R.length := ⟨_, rfl⟩
      rw [← hn] at hlt hle hl f0 ⊢
      clear hn hB
      go_wp2_with fail
      go_returns
      exact ⟨A3, c3, ret_v (by rw [HX.out]; rfl), by rw [HX.out]; exact HO.out, by have := HB.out; go_grown⟩
set_option maxHeartbeats 8000000 in
theorem same_any {w : World} {base base2 : Nat} {v v2 : Value} {R : List RG} (h : rgL w base v R) (h2 : rfL w base2 v2 R) (hl : R.length ≤ 1000) :
    Calls Try.prog 22 #[v, v2] w fun e w' => e = .returned (.bool true) ∧ Below w.heap.size w w' := by
  obtain ⟨A, cap, rfl⟩ := h.form
  obtain ⟨A2, cap2, rfl⟩ := h2.form
  have H := Lib.hid h
  have H2 := Lib.hid h2
  clear h h2
  go_enter Try.func22, Try.ntmps22
  go_wp2_with fail
  have HB0 : Below w.heap.size w w := Below.refl _ _
  go_loopw [13] (fun x wr => ∃ (k : Nat), x = .int .i64 k ∧ k ≤ R.length ∧ Below w.heap.size w wr) (fun x _ => R.length - (intOf x).toNat)
  case atStart => exact ⟨0, rfl, by omega, HB0⟩
  case round =>
    clear HB0
    obtain ⟨k, rfl, hle, hB⟩ := hrel
    have hsz := hB.size
    have HB := Lib.hid hB
    by_cases hlt : k < R.length
    · have f0 : decide (k < R.length) = true := decide_eq_true hlt
      have f3 : (k : Int) < (R.length : Int) := by omega
      obtain ⟨b, cap1, hv, hb, hbw, e0, e1, e2, e3, e4, e5⟩ := H.out.cell (List.getElem?_eq_getElem hlt)
      obtain ⟨hc1, hf1⟩ := bcell hB
      have c0 := (hc1 b _ hbw).trans e0
      have c1 := (hc1 b _ hbw).trans e1
      have c2 := (hc1 b _ hbw).trans e2
      have c3 := (hc1 b _ hbw).trans e3
      have c4 := (hc1 b _ hbw).trans e4
      have c5 := (hc1 b _ hbw).trans e5
      obtain ⟨rfl, _, rfl⟩ : A = some ⟨b, 0, none⟩ ∧ R.length = R.length ∧ cap = cap1 := by simpa using hv
      clear hc1 hf1 e0 e1 e2 e3 e4 e5
      obtain ⟨b2, cap1, hv2, hb2, hbw2, e0, e1, e2, e3, e4, e5⟩ := H2.out.cell (List.getElem?_eq_getElem hlt)
      obtain ⟨hc1, hf1⟩ := bcell hB
      have x0 := (hc1 b2 _ hbw2).trans e0
      have x1 := (hc1 b2 _ hbw2).trans e1
      have x2 := (hc1 b2 _ hbw2).trans e2
      have x3 := (hc1 b2 _ hbw2).trans e3
      have x4 := (hc1 b2 _ hbw2).trans e4
      have x5 := (hc1 b2 _ hbw2).trans e5
      obtain ⟨rfl, _, rfl⟩ : A2 = some ⟨b2, 0, none⟩ ∧ R.length = R.length ∧ cap2 = cap1 := by simpa using hv2
      obtain ⟨n, hn⟩ : ∃ n, n = R.length := ⟨_, rfl⟩
      rw [← hn] at hlt hle hl f0 f3 ⊢
      generalize R[k] = y at c0 c1 c2 c3 c4 c5 x0 x1 x2 x3 x4 x5
      obtain ⟨ya, yb, yw, yu, yx, yk⟩ := y
      simp only at c0 c1 c2 c3 c4 c5 x0 x1 x2 x3 x4 x5
      have HN := Lib.hid hn
      have hbw3 : b < wr.heap.size := by omega
      have hbw4 : b2 < wr.heap.size := by omega
      have hj : ∀ W, Calls Try.prog 15 #[.agg #[.int .i64 ya, .int .i64 yb, .bool yw, .bool yu, .bool yx, .int .i64 yk]] W fun e w' => e = .returned (.agg #[.int .i64 ya, .int .i64 yb, .bool yw, .bool yu, .bool yx, .int .i64 yk]) ∧ Below W.heap.size W w' := fun W => one_any W ⟨ya, yb, yw, yu, yx, yk⟩
      have HJ := Lib.hid hj
      clear hc1 hf1 e0 e1 e2 e3 e4 e5 hv hv2 hn hb hB hj hb2
      go_upto_region 6 with fail
      have hab := @Abv.cell wr
      refine wp_region_abv (by kernel_rfl) (by kernel_rfl) ?_
      repeat (first | go_big_quiet_skip | (go_big_quiet_want; go_big_quiet_op; first | go_big_quiet_on | go_big_quiet_call ((refine abv_call (HJ.out _)))))
      refine wpQuiet_nil ?_
      rintro W5 ⟨⟨_, hB5⟩, rfl⟩
      go_wp2_with fail
      go_roundw
      case rel => exact ⟨k + 1, by go_num, by omega, b_then HB.out hB5⟩
      case measure => simp [intOf]; omega
    · have f0 : decide (k < R.length) = false := decide_eq_false hlt
      obtain ⟨n, hn⟩ : ∃ n, n = R.length := ⟨_, rfl⟩
      rw [← hn] at hlt hle hl f0 ⊢
      clear hn hB
      go_wp2_with fail
      go_returns
      exact ⟨rfl, HB.out⟩
end Go.Proofs.Ytoodjhomekeekaa
