/- DemesneTurns: calls that go as words to whose turn it is say what they said, whoever has the turn. No condition. Printed by gen/turns.py. -/
import Derived.Test.YtbbohjmkippigaaTurnA
import Derived.Deep.DeepCutAuto
import Derived.Deep.WholeRow
import Derived.Laws.Rows
import Derived.Laws.Tables
namespace Go.Proofs.Ytbbohjmkippigaa
open Go.ChangeShapes Go.WideShapes Go.ChangeAt Go.RowKit
set_option linter.unusedVariables false
set_option linter.unusedSimpArgs false
theorem putNone {a : Act} {v : Value} : a.put none v = a := rfl
set_option maxRecDepth 100000 in
set_option maxHeartbeats 16000000 in
theorem walk_DemesneTurns (a0 : Int) (a1 : Int) (A2 : Option Addr) (len2 cap2 : Nat) (w : World) (w0 : (Lit.int .i64 a0).wf = true) (w1 : (Lit.int .i64 a1).wf = true) (r2 : Rows_ w [.i .u64, .i .u64, .i .u64, .i .u64, .i .u64, .i .u64] A2 len2) :
    Calls Try.prog 3 #[.int .i64 a0, .int .i64 a1, .slice A2 len2 cap2] w fun e w' => e = .returned (.bool true) ∧ Below w.heap.size w w' := by
  have R2 := Lib.hid r2
  have hlen := r2.1
  clear r2 w0 w1
  have hrd : readF 14 0 0 0 0 0 = some ⟨14, 0, 0, false, false, false, 0, 0, 0, 0, 0, 0, 0⟩ := by kernel_rfl
  have hc := call_read 14 0 0 0 0 0 (by omega) (by omega) (by omega) (by omega) (by omega) (by omega) (by omega) (by omega) (by omega) (by omega) (by omega) w
  rw [hrd] at hc
  have hc2 : Calls Try.prog 4 #[wordsV 14 0 0 0 0 0] w fun e w' => e = .returned (.tuple #[.agg #[.int .i64 14, .int .i64 0, .int .i64 0, .bool false, .bool false, .bool false, .int .u64 0, .int .i64 0, .int .u64 0, .int .i64 0, .int .i64 0, .int .i64 0, .int .i64 0], .int .i64 0]) ∧ Below w.heap.size w w' := hc
  have HC := Lib.hid hc2
  clear hc hc2 hrd
  have HAL := Lib.hid (show (#[.int .i64 14, .int .i64 0, .int .i64 0, .bool false, .bool false, .bool false, .int .u64 0, .int .i64 0, .int .u64 0, .int .i64 0, .int .i64 0, .int .i64 0, .int .i64 0] : Array Value).all (·.oneCell') = true by simp [Value.oneCell'])
  go_enter Try.func3, Try.ntmps3
  go_wp2_with fail
  refine HC.out.mono ?_
  rintro e v1 ⟨rfl, hb1⟩
  have HQ1 := Lib.hid (heap_new v1 (.cells #[.int .i64 0, .int .i64 0, .int .i64 0, .bool false, .bool false, .bool false, .int .u64 0, .int .i64 0, .int .u64 0, .int .i64 0, .int .i64 0, .int .i64 0, .int .i64 0] 29))
  have HB1 := Lib.hid hb1
  clear hb1 HC
  go_upto_region 2 with (first | ((refine wpList_store_row rfl 29 (.tmp 7) (.tmp 23) rfl v1.heap.size #[.int .i64 14, .int .i64 0, .int .i64 0, .bool false, .bool false, .bool false, .int .u64 0, .int .i64 0, .int .u64 0, .int .i64 0, .int .i64 0, .int .i64 0, .int .i64 0] rfl rfl 29 #[.int .i64 0, .int .i64 0, .int .i64 0, .bool false, .bool false, .bool false, .int .u64 0, .int .i64 0, .int .u64 0, .int .i64 0, .int .i64 0, .int .i64 0, .int .i64 0] HQ1.out sz_call rfl HAL.out ?_); rw [World.setRow_alloc_new]))
  try simp only [putNone]
  obtain ⟨q, hq⟩ : ∃ q, q = v1.heap.size := ⟨_, rfl⟩
  obtain ⟨V1, hV1⟩ : ∃ W, W = v1.alloc (.cells #[.int .i64 14, .int .i64 0, .int .i64 0, .bool false, .bool false, .bool false, .int .u64 0, .int .i64 0, .int .u64 0, .int .i64 0, .int .i64 0, .int .i64 0, .int .i64 0] 29) := ⟨_, rfl⟩
  have hh := heap_new v1 (.cells #[.int .i64 14, .int .i64 0, .int .i64 0, .bool false, .bool false, .bool false, .int .u64 0, .int .i64 0, .int .u64 0, .int .i64 0, .int .i64 0, .int .i64 0, .int .i64 0] 29)
  have hB : Below w.heap.size w V1 := by rw [hV1]; exact HB1.out.alloc HB1.out.size _
  rw [← hV1, ← hq] at hh ⊢
  have z0 : V1.cell? ⟨q, 0, none⟩ = some (.int .i64 14) := by have := cell_heap hh 0; simpa using this
  have hqw : q < V1.heap.size := heap_lt hh
  have HBV := Lib.hid hB
  clear hV1 hq hh hB HQ1 HAL HB1
  go_wp2_with fail
  clear z0 hqw
  by_cases hq0 : a0 < 1 ∨ 1000 < a0
  · refine (new_bad a0 hq0 V1).mono ?_
    rintro e v2 ⟨rfl, hw⟩
    obtain rfl := hw.symm
    clear hq0
    go_wp2_with fail
    go_returns
    exact ⟨rfl, HBV.out⟩
  refine (new_ok a0 (by omega) (by omega) V1).mono ?_
  rintro e v2 ⟨rfl, hb2, hqa⟩
  have HB2 := Lib.hid (b_then HBV.out hb2)
  have HPS : Hid (w.heap.size ≤ V1.heap.size) := Lib.hid HBV.out.size
  obtain ⟨p, hp⟩ : ∃ p, p = V1.heap.size := ⟨_, rfl⟩
  rw [← hp] at hqa HPS ⊢
  have HQA := Lib.hid hqa
  have HPP := Lib.hid hp
  have HN0 := Lib.hid hq0
  clear hb2 hqa hp hq0
  have hcs : decide (20 < a0) = true ∨ (decide (20 < a0) = false ∧ decide (a1 < 1) = true) ∨ (decide (20 < a0) = false ∧ decide (a1 < 1) = false ∧ decide (8 < a1) = true) ∨ (decide (20 < a0) = false ∧ decide (a1 < 1) = false ∧ decide (8 < a1) = false) := by
    simp only [decide_eq_true_eq, decide_eq_false_iff_not]; omega
  rcases hcs with t1 | ⟨t1, t2⟩ | ⟨t1, t2, t3⟩ | ⟨t1, t2, t3⟩
  iterate 3
    · go_wp2_with fail
      go_returns
      exact ⟨rfl, HB2.out⟩
  have hn1 := of_decide_eq_false t2
  have hn2 := of_decide_eq_false t3
  have hq20 := of_decide_eq_false t1
  obtain ⟨n, rfl⟩ : ∃ n : Nat, a1 = (n : Int) := ⟨a1.toNat, by omega⟩
  have hn0 : 0 < n := by omega
  have hn8 : n ≤ 8 := by omega
  have HQ20 : Hid (a0 ≤ 20) := Lib.hid (by omega)
  clear hn1 hn2 hq20
  go_wp2_with fail
  have HQA0 : Hid (QAt v2 p p a0 0 (.slice none 0 0) (ql 0)) := HQA
  clear t1 t2 t3
  go_loopw [11] (fun x wr => ∃ (k : Nat) (v : Value), x = .int .i64 k ∧ k ≤ n ∧ Hid (Below w.heap.size w wr) ∧ Hid (QAt wr p p a0 0 v (ql k))) (fun x _ => n - (intOf x).toNat)
  case atStart => exact ⟨0, _, rfl, by omega, HB2, HQA0⟩
  case round =>
    clear HB2 HQA0
    obtain ⟨k, v, rfl, hkn, HB, HQ⟩ := hrel
    by_cases hlt : k < n
    · have f0 : decide (k < n) = true := decide_eq_true hlt
      go_wp2_with fail
      refine (add_any HQ.out (by rw [ql_len]; omega) (k : Int)).mono ?_
      rintro e v4 ⟨rfl, ht, v', hq⟩
      obtain ⟨er, her⟩ : ∃ er, er = addE (ql k) (k : Int) := ⟨_, rfl⟩
      rw [← her]
      rw [ql_add (by omega)] at hq
      have HQ2 := Lib.hid hq
      have HB3 := Lib.hid (Below.touch HB.out ht (Nat.le_refl _) (fun j e => by have := HPS.out; omega))
      clear ht hq her
      go_wp2_with fail
      go_roundw
      case rel => exact ⟨k + 1, v', by go_num, by omega, HB3, HQ2⟩
      case measure => simp [intOf]; omega
    have f0 : decide (k < n) = false := decide_eq_false hlt
    obtain rfl : k = n := by omega
    obtain ⟨n, hn⟩ : ∃ n, n = k := ⟨_, rfl⟩
    rw [← hn] at HQ f0 hn0 hn8 ⊢
    clear hkn hlt hn
    go_wp2_with fail
    have HQR : Hid (QAt wr p p a0 0 v (qr n 0)) := Lib.hid (by rw [qr_zero]; exact HQ.out)
    clear f0
    go_loopw [12, 13] (fun xt x wr => ∃ (k t : Nat) (tk : Int) (v : Value), x = .int .i64 k ∧ xt = .int .i64 t ∧ k ≤ len2 ∧ k ≤ 40 ∧ t ≤ k ∧ Hid (0 ≤ tk ∧ tk ≤ 20) ∧ Hid (Below w.heap.size w wr) ∧ Hid (QAt wr p p a0 tk v (qr n t))) (fun _ x _ => len2 - (intOf x).toNat)
    case atStart => exact ⟨0, 0, 0, v, rfl, rfl, by omega, by omega, by omega, Lib.hid (by omega), HB, HQR⟩
    case round =>
      clear HQR HB HQ
      obtain ⟨k, t, tk, v, rfl, rfl, hkl, hk40, htk, HTK, HB, HQ⟩ := hrel
      by_cases hlt : k < len2 ∧ k < 40
      · have f0 : decide (k < len2) = true := decide_eq_true hlt.1
        have f1 : decide ((k : Int) < 40) = true := decide_eq_true (by omega)
        have f3 : (k : Int) < (len2 : Int) := by omega
        have f4 : k < len2 := hlt.1
        have HL := Lib.hid hlt
        obtain ⟨b, off, rfl, hbw, x0, x1, x2, x3, x4, x5, hl, hu, e0, e1, e2, e3, e4, e5⟩ := row6u R2.out hlt.1
        have hsz := HB.out.size
        have hcell : ∀ W, Below w.heap.size w W → W.cell? ⟨b, off + k * 6, none⟩ = some (.int .u64 x0) ∧ W.cell? ⟨b, off + k * 6 + 1, none⟩ = some (.int .u64 x1) ∧ W.cell? ⟨b, off + k * 6 + 2, none⟩ = some (.int .u64 x2) ∧ W.cell? ⟨b, off + k * 6 + 3, none⟩ = some (.int .u64 x3) ∧ W.cell? ⟨b, off + k * 6 + 4, none⟩ = some (.int .u64 x4) ∧ W.cell? ⟨b, off + k * 6 + 5, none⟩ = some (.int .u64 x5) ∧ b < W.heap.size := fun W hW =>
          ⟨(hW.cell (p := ⟨b, _, none⟩) hbw).trans e0, (hW.cell (p := ⟨b, _, none⟩) hbw).trans e1, (hW.cell (p := ⟨b, _, none⟩) hbw).trans e2, (hW.cell (p := ⟨b, _, none⟩) hbw).trans e3, (hW.cell (p := ⟨b, _, none⟩) hbw).trans e4, (hW.cell (p := ⟨b, _, none⟩) hbw).trans e5, Nat.lt_of_lt_of_le hbw hW.size⟩
        have HCE := Lib.hid hcell
        have hrd := fun W => call_read x0 x1 x2 x3 x4 x5 hl.1 hl.2.1 hl.2.2.1 hl.2.2.2.1 hl.2.2.2.2.1 hl.2.2.2.2.2 hu.2.1 hu.2.2.1 hu.2.2.2.1 hu.2.2.2.2.1 hu.2.2.2.2.2 W
        have hwb := fun hg W => write_back x0 x1 x2 x3 x4 x5 hl.1 hl.2.1 hl.2.2.1 hl.2.2.2.1 hl.2.2.2.2.1 hl.2.2.2.2.2 hu.2.1 hu.2.2.1 hu.2.2.2.1 hu.2.2.2.2.1 hu.2.2.2.2.2 hg W
        obtain ⟨re, hre⟩ : ∃ re, re = reF (readF x0 x1 x2 x3 x4 x5) := ⟨_, rfl⟩
        obtain ⟨cv, hcv⟩ : ∃ cv, cv = rvF (readF x0 x1 x2 x3 x4 x5) := ⟨_, rfl⟩
        have hgood : re = 0 → ∀ W, Calls Try.prog 8 #[cv.val] W fun e w' => e = .returned (.tuple #[.agg #[.int .u64 x0, .int .u64 x1, .int .u64 x2, .int .u64 x3, .int .u64 x4, .int .u64 x5], .int .i64 0]) ∧ Below W.heap.size W w' := fun e0 W => by
          by_cases hg : goodF x0 x1 x2 x3 x4 x5
          · rw [hcv, readF_some hg]; exact hwb hg W
          · rw [hre, readF_none hg] at e0; cases e0
        rw [← hre, ← hcv] at hrd
        obtain ⟨c_op, c_f, c_t, c_wr, c_us, c_ex, c_ad, c_sz, c_x, c_id, c_a, c_b, c_d⟩ := cv
        have hrd2 : ∀ W, Calls Try.prog 4 #[.agg #[.int .u64 x0, .int .u64 x1, .int .u64 x2, .int .u64 x3, .int .u64 x4, .int .u64 x5]] W fun e w' => e = .returned (.tuple #[.agg #[.int .i64 c_op, .int .i64 c_f, .int .i64 c_t, .bool c_wr, .bool c_us, .bool c_ex, .int .u64 c_ad, .int .i64 c_sz, .int .u64 c_x, .int .i64 c_id, .int .i64 c_a, .int .i64 c_b, .int .i64 c_d], .int .i64 re]) ∧ Below W.heap.size W w' := hrd
        have hgood2 : re = 0 → ∀ W, Calls Try.prog 8 #[.agg #[.int .i64 c_op, .int .i64 c_f, .int .i64 c_t, .bool c_wr, .bool c_us, .bool c_ex, .int .u64 c_ad, .int .i64 c_sz, .int .u64 c_x, .int .i64 c_id, .int .i64 c_a, .int .i64 c_b, .int .i64 c_d]] W fun e w' => e = .returned (.tuple #[.agg #[.int .u64 x0, .int .u64 x1, .int .u64 x2, .int .u64 x3, .int .u64 x4, .int .u64 x5], .int .i64 0]) ∧ Below W.heap.size W w' := hgood
        have HRD := Lib.hid hrd2
        have HGD := Lib.hid hgood2
        obtain ⟨k0, k1, k2, k3, k4, k5, k6⟩ := hcell wr HB.out
        clear e0 e1 e2 e3 e4 e5 hl hu hcell hrd hwb hre hcv hgood hrd2 hgood2 hlt hbw
        go_wp2_with fail
        refine (HRD.out wr).mono ?_
        rintro e v3 ⟨rfl, hb3⟩
        have HQ3 := Lib.hid (heap_new v3 (.cells #[.int .i64 0, .int .i64 0, .int .i64 0, .bool false, .bool false, .bool false, .int .u64 0, .int .i64 0, .int .u64 0, .int .i64 0, .int .i64 0, .int .i64 0, .int .i64 0] 29))
        have HAL := Lib.hid (show (#[.int .i64 c_op, .int .i64 c_f, .int .i64 c_t, .bool c_wr, .bool c_us, .bool c_ex, .int .u64 c_ad, .int .i64 c_sz, .int .u64 c_x, .int .i64 c_id, .int .i64 c_a, .int .i64 c_b, .int .i64 c_d] : Array Value).all (·.oneCell') = true by simp [Value.oneCell'])
        have HB3 := Lib.hid hb3
        clear hb3 k0 k1 k2 k3 k4 k5 k6 hsz
        go_upto_region 16 with (first | ((refine wpList_store_row rfl 29 (.tmp 14) (.tmp 84) rfl v3.heap.size #[.int .i64 c_op, .int .i64 c_f, .int .i64 c_t, .bool c_wr, .bool c_us, .bool c_ex, .int .u64 c_ad, .int .i64 c_sz, .int .u64 c_x, .int .i64 c_id, .int .i64 c_a, .int .i64 c_b, .int .i64 c_d] rfl rfl 29 #[.int .i64 0, .int .i64 0, .int .i64 0, .bool false, .bool false, .bool false, .int .u64 0, .int .i64 0, .int .u64 0, .int .i64 0, .int .i64 0, .int .i64 0, .int .i64 0] HQ3.out sz_call rfl HAL.out ?_); rw [World.setRow_alloc_new]))
        try simp only [putNone]
        obtain ⟨q3, hq3⟩ : ∃ q, q = v3.heap.size := ⟨_, rfl⟩
        obtain ⟨V3, hV3⟩ : ∃ W, W = v3.alloc (.cells #[.int .i64 c_op, .int .i64 c_f, .int .i64 c_t, .bool c_wr, .bool c_us, .bool c_ex, .int .u64 c_ad, .int .i64 c_sz, .int .u64 c_x, .int .i64 c_id, .int .i64 c_a, .int .i64 c_b, .int .i64 c_d] 29) := ⟨_, rfl⟩
        have hh3 := heap_new v3 (.cells #[.int .i64 c_op, .int .i64 c_f, .int .i64 c_t, .bool c_wr, .bool c_us, .bool c_ex, .int .u64 c_ad, .int .i64 c_sz, .int .u64 c_x, .int .i64 c_id, .int .i64 c_a, .int .i64 c_b, .int .i64 c_d] 29)
        have hbv3 : Below wr.heap.size wr V3 := by rw [hV3]; exact HB3.out.alloc HB3.out.size _
        rw [← hV3, ← hq3] at hh3 ⊢
        have HH3 := Lib.hid hh3
        have HBV3 := Lib.hid (b_then HB.out hbv3)
        have HQV3 := Lib.hid (HQ.out.below hbv3)
        clear hV3 hq3 hh3 hbv3 HQ3 HAL HB3
        obtain ⟨r, hr⟩ := qr_cons (t := t) hn0
        obtain ⟨xh, hxh⟩ : ∃ xh : Int, xh = (((t % n : Nat) : Int)) := ⟨_, rfl⟩
        rw [← hxh] at hr
        have hem : (t : Int) % (n : Int) = xh := by rw [hxh]; exact (Int.natCast_emod t n).symm
        have htm : (t : Int).tmod (n : Int) = xh := by rw [Int.tmod_eq_emod_of_nonneg (by omega)]; exact hem
        have hxb : 0 ≤ xh ∧ xh < 8 := by have := Nat.mod_lt t hn0; omega
        have hw1 : IntKind.i64.wrap ((t : Int).tmod (n : Int)) = xh := by rw [htm, IntKind.wrap_i64]; omega
        have hw2 : wrap64 ((t : Int).tmod (n : Int)) = xh := by rw [← IntWalk.i64_left]; exact hw1
        have hw3 : IntKind.i64.wrap xh = xh := by rw [IntKind.wrap_i64]; omega
        have hw4 : wrap64 xh = xh := by rw [← IntWalk.i64_left]; exact hw3
        have hnz : ¬ (n : Int) = 0 := by omega
        have hnz2 : ¬ n = 0 := by omega
        have hqn := HQV3.out
        rw [hr] at hqn
        have HQN := Lib.hid hqn
        clear hr hxh hxb hqn
        go_wp2_with fail
        refine (now_cons HQN.out).mono ?_
        rintro e v4 ⟨rfl, hw⟩
        obtain rfl := hw.symm
        go_upto_region 19 with fail
        have ht1 : IntKind.i64.wrap ((t : Int) + 1) = (t : Int) + 1 := by rw [IntKind.wrap_i64]; omega
        clear hem htm hw1 hw2 hw3 hw4 hnz hnz2
        rcases Bool.eq_false_or_eq_true (re != 0) with d1 | d1
        · go_wp2_with fail
          go_roundw
          case rel => exact ⟨k + 1, t, tk, v, by go_num, rfl, by omega, by have := HL.out; omega, by omega, HTK, HBV3, HQV3⟩
          case measure => simp [intOf]; omega
        have HW := Lib.hid (HGD.out (by simpa using d1))
        have hh3 := HH3.out
        have y_0 : V3.cell? ⟨q3, 0, none⟩ = some (.int .i64 c_op) := by have := cell_heap hh3 0; simpa using this
        have y_1 : V3.cell? ⟨q3, 1, none⟩ = some (.int .i64 c_f) := by have := cell_heap hh3 1; simpa using this
        have y_2 : V3.cell? ⟨q3, 2, none⟩ = some (.int .i64 c_t) := by have := cell_heap hh3 2; simpa using this
        have y_3 : V3.cell? ⟨q3, 3, none⟩ = some (.bool c_wr) := by have := cell_heap hh3 3; simpa using this
        have y_4 : V3.cell? ⟨q3, 4, none⟩ = some (.bool c_us) := by have := cell_heap hh3 4; simpa using this
        have y_5 : V3.cell? ⟨q3, 5, none⟩ = some (.bool c_ex) := by have := cell_heap hh3 5; simpa using this
        have y_6 : V3.cell? ⟨q3, 6, none⟩ = some (.int .u64 c_ad) := by have := cell_heap hh3 6; simpa using this
        have y_7 : V3.cell? ⟨q3, 7, none⟩ = some (.int .i64 c_sz) := by have := cell_heap hh3 7; simpa using this
        have y_8 : V3.cell? ⟨q3, 8, none⟩ = some (.int .u64 c_x) := by have := cell_heap hh3 8; simpa using this
        have y_9 : V3.cell? ⟨q3, 9, none⟩ = some (.int .i64 c_id) := by have := cell_heap hh3 9; simpa using this
        have y_10 : V3.cell? ⟨q3, 10, none⟩ = some (.int .i64 c_a) := by have := cell_heap hh3 10; simpa using this
        have y_11 : V3.cell? ⟨q3, 11, none⟩ = some (.int .i64 c_b) := by have := cell_heap hh3 11; simpa using this
        have y_12 : V3.cell? ⟨q3, 12, none⟩ = some (.int .i64 c_d) := by have := cell_heap hh3 12; simpa using this
        have hq3w : q3 < V3.heap.size := heap_lt hh3
        clear hh3
        go_wp2_with fail
        refine (HW.out V3).mono ?_
        rintro e v5 ⟨rfl, hb5⟩
        have HQ5 := Lib.hid (heap_new v5 (.cells #[.int .u64 0, .int .u64 0, .int .u64 0, .int .u64 0, .int .u64 0, .int .u64 0] 34))
        have HAL := Lib.hid (show (#[.int .u64 x0, .int .u64 x1, .int .u64 x2, .int .u64 x3, .int .u64 x4, .int .u64 x5] : Array Value).all (·.oneCell') = true by simp [Value.oneCell'])
        have HB5 := Lib.hid hb5
        clear hb5 y_0 y_1 y_2 y_3 y_4 y_5 y_6 y_7 y_8 y_9 y_10 y_11 y_12 hq3w
        go_upto_region 21 with (first | ((refine wpList_store_row rfl 34 (.tmp 18) (.tmp 105) rfl v5.heap.size #[.int .u64 x0, .int .u64 x1, .int .u64 x2, .int .u64 x3, .int .u64 x4, .int .u64 x5] rfl rfl 34 #[.int .u64 0, .int .u64 0, .int .u64 0, .int .u64 0, .int .u64 0, .int .u64 0] HQ5.out sz_words rfl HAL.out ?_); rw [World.setRow_alloc_new]))
        try simp only [putNone]
        obtain ⟨q5, hq5⟩ : ∃ q, q = v5.heap.size := ⟨_, rfl⟩
        obtain ⟨V5, hV5⟩ : ∃ W, W = v5.alloc (.cells #[.int .u64 x0, .int .u64 x1, .int .u64 x2, .int .u64 x3, .int .u64 x4, .int .u64 x5] 34) := ⟨_, rfl⟩
        have hh5 := heap_new v5 (.cells #[.int .u64 x0, .int .u64 x1, .int .u64 x2, .int .u64 x3, .int .u64 x4, .int .u64 x5] 34)
        have hbv5 : Below V3.heap.size V3 V5 := by rw [hV5]; exact HB5.out.alloc HB5.out.size _
        rw [← hV5, ← hq5] at hh5 ⊢
        have HH3b := Lib.hid (heap_below hbv5 HH3.out)
        have HBV5 := Lib.hid (b_then HBV3.out hbv5)
        have HQV5 := Lib.hid (HQV3.out.below hbv5)
        have y_0 : V5.cell? ⟨q5, 0, none⟩ = some (.int .u64 x0) := by have := cell_heap hh5 0; simpa using this
        have y_1 : V5.cell? ⟨q5, 1, none⟩ = some (.int .u64 x1) := by have := cell_heap hh5 1; simpa using this
        have y_2 : V5.cell? ⟨q5, 2, none⟩ = some (.int .u64 x2) := by have := cell_heap hh5 2; simpa using this
        have y_3 : V5.cell? ⟨q5, 3, none⟩ = some (.int .u64 x3) := by have := cell_heap hh5 3; simpa using this
        have y_4 : V5.cell? ⟨q5, 4, none⟩ = some (.int .u64 x4) := by have := cell_heap hh5 4; simpa using this
        have y_5 : V5.cell? ⟨q5, 5, none⟩ = some (.int .u64 x5) := by have := cell_heap hh5 5; simpa using this
        have hq5w : q5 < V5.heap.size := heap_lt hh5
        obtain ⟨k0, k1, k2, k3, k4, k5, k6⟩ := HCE.out V5 HBV5.out
        have hnw := neq_words x0 x1 x2 x3 x4 x5
        clear hV5 hq5 hh5 hbv5 HQ5 HAL HB5
        go_quiet (fail)
        have hh7 := HH3b.out
        have y7 : V5.cell? ⟨q3, 0, none⟩ = some (.int .i64 c_op) := by have := cell_heap hh7 0; simpa using this
        have hq3w : q3 < V5.heap.size := heap_lt hh7
        clear y_0 y_1 y_2 y_3 y_4 y_5 k0 k1 k2 k3 k4 k5 k6 hq5w hnw hh7
        generalize hVd : V5.drewN nq = Vd
        have HQD : Hid (QAt Vd p p a0 tk v (qr n t)) := Lib.hid (by rw [← hVd]; exact HQV5.out.below (below_drewN (Below.refl _ _) _))
        have HBD : Hid (Below w.heap.size w Vd) := Lib.hid (by rw [← hVd]; exact below_drewN HBV5.out _)
        have y8 : Vd.cell? ⟨q3, 0, none⟩ = some (.int .i64 c_op) := by rw [← hVd]; exact y7
        have hq3d : q3 < Vd.heap.size := by rw [← hVd]; exact hq3w
        clear hVd y7 hq3w
        rcases Bool.eq_false_or_eq_true (c_op == 14) with d2 | d2
        · go_wp2_with fail
          refine (yield_any HQD.out (by rw [qr_len]; omega)).mono ?_
          rintro e v6 ⟨rfl, ht6, v', hq6⟩
          rw [rot_qr hn0] at hq6
          have HQ6 := Lib.hid hq6
          have HB6 := Lib.hid (Below.touch HBD.out ht6 (Nat.le_refl _) (fun j e => by have := HPS.out; omega))
          clear ht6 hq6 y8
          go_wp2_with fail
          go_roundw
          case rel => exact ⟨k + 1, t + 1, 0, v', by go_num, by go_num, by omega, by have := HL.out; omega, by omega, Lib.hid (by omega), HB6, HQ6⟩
          case measure => simp [intOf]; omega
        · go_wp2_with fail
          refine (tick_any HQD.out (by rw [qr_len]; omega) HTK.out.1 (by have := HTK.out; omega)).mono ?_
          rintro e v6 ⟨rfl, ht6, v', hq6⟩
          have hne : qr n t ≠ [] := fun e => by have := qr_len n t; rw [e] at this; simp at this; omega
          unfold tickQ at hq6 ⊢
          rw [if_neg (by exact hne)] at hq6 ⊢
          have HB6 := Lib.hid (Below.touch HBD.out ht6 (Nat.le_refl _) (fun j e => by have := HPS.out; omega))
          by_cases hq : tk + 1 < a0
          · rw [if_pos hq] at hq6 ⊢
            have HQ6 := Lib.hid hq6
            have HTK2 : Hid (0 ≤ tk + 1 ∧ tk + 1 ≤ 20) := Lib.hid (by have := HQ20.out; have := HTK.out; omega)
            clear ht6 hq6 y8 hq hne
            go_wp2_with fail
            go_roundw
            case rel => exact ⟨k + 1, t, tk + 1, v', by go_num, rfl, by omega, by have := HL.out; omega, by omega, HTK2, HB6, HQ6⟩
            case measure => simp [intOf]; omega
          · rw [if_neg hq] at hq6 ⊢
            simp only [rot_qr hn0] at hq6
            have HQ6 := Lib.hid hq6
            clear ht6 hq6 y8 hq hne
            go_wp2_with fail
            go_roundw
            case rel => exact ⟨k + 1, t + 1, 0, v', by go_num, by go_num, by omega, by have := HL.out; omega, by omega, Lib.hid (by omega), HB6, HQ6⟩
            case measure => simp [intOf]; omega
      · have hc : (decide (k < len2) = true ∧ decide ((k : Int) < 40) = false) ∨ decide (k < len2) = false := by
          by_cases h1 : k < len2
          · exact .inl ⟨decide_eq_true h1, decide_eq_false (by omega)⟩
          · exact .inr (decide_eq_false h1)
        clear hlt hkl hk40
        rcases hc with ⟨f0, f1⟩ | f0
        all_goals
          go_wp2_with fail
          refine (line_any HQ.out (by rw [qr_len]; omega)).mono ?_
          rintro e v9 ⟨vl, rfl, hb9, hr9⟩
          obtain ⟨A9, c9, rfl⟩ := row_form hr9
          rw [qr_len]
          have HB9 := Lib.hid (b_then HB.out hb9)
          clear hb9 hr9
          go_wp2_with fail
          go_returns
          exact ⟨rfl, HB9.out⟩
end Go.Proofs.Ytbbohjmkippigaa
