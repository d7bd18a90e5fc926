/- QuotaEnds answers true: its walk. No condition. -/
import Derived.Test.YtgnkgfejnnkkaaaQuoZ
namespace Go.Proofs.Ytgnkgfejnnkkaaa
open Go.ChangeShapes Go.WideShapes Go.ChangeAt Go.RowKit
set_option linter.unusedVariables false
set_option linter.unusedSimpArgs false
theorem live_ok {root : Int} {base t : Nat} {w : World} {L : List ND} (h : TreeOk root base t w L) :
    Calls Try.prog 16 #[.pointer (some ⟨t, 0, none⟩)] w fun e w' => ∃ A c, e = .returned (.slice A (liveL L 0).length c) ∧ Below w.heap.size w w' ∧ IRow w' w.heap.size (.slice A (liveL L 0).length c) (liveL L 0) := by
  obtain ⟨hi, v, hv⟩ := h
  refine (live_any hv (by have := hi.len; omega)).mono ?_
  rintro e w' ⟨v', rfl, hb, hr⟩
  obtain ⟨A, c, rfl⟩ := row_form hr
  exact ⟨A, c, rfl, hb, hr⟩
theorem credit_okk {root : Int} {base t : Nat} {w : World} {L : List ND} (h : TreeOk root base t w L) (i n : Int) :
    Calls Try.prog 15 #[.pointer (some ⟨t, 0, none⟩), .int .i64 i, .int .i64 n] w fun e w' => e = .returned (.int .i64 (creditE L i n)) ∧ Upd base w w' ∧ TreeOk root base t w' (creditL L i n) := by
  obtain ⟨hi, v, hv⟩ := h
  exact (credit_any hv hi i n).mono fun e w' ⟨h1, h2, v', h3⟩ => ⟨h1, h2, hi.credit i n, v', h3⟩
theorem end_okk {root : Int} {base t : Nat} {w : World} {L : List ND} (h : TreeOk root base t w L) (i : Int) :
    Calls Try.prog 19 #[.pointer (some ⟨t, 0, none⟩), .int .i64 i] w fun e w' => e = .returned (.int .i64 (endE L i)) ∧ Upd base w w' ∧ TreeOk root base t w' (endL L i) := by
  obtain ⟨hi, v, hv⟩ := h
  exact (end_any hv hi i).mono fun e w' ⟨h1, h2, v', h3⟩ => ⟨h1, h2, hi.ends i, v', h3⟩
theorem get_okk {root : Int} {base t : Nat} {w : World} {L : List ND} (h : TreeOk root base t w L) (i : Int) :
    Calls Try.prog 14 #[.pointer (some ⟨t, 0, none⟩), .int .i64 i] w fun e w' => e = .returned (.tuple #[(getD L i).val, .bool (liveAt L i).isSome]) ∧ Below w.heap.size w w' := by
  obtain ⟨hi, v, hv⟩ := h
  exact get_any hv i
theorem room_okk {root : Int} {base t : Nat} {w : World} {L : List ND} (h : TreeOk root base t w L) (i : Int) :
    Calls Try.prog 11 #[.pointer (some ⟨t, 0, none⟩), .int .i64 i] w fun e w' => e = .returned (.int .i64 (roomF L i)) ∧ Below w.heap.size w w' := by
  obtain ⟨hi, v, hv⟩ := h
  exact room_any hv hi.ok i
theorem end_zero {root : Int} {L : List ND} (h : TInv root L) : endE L 0 = 5 := by
  obtain ⟨u, l, h0⟩ := h.hd
  unfold endE
  rw [show (0 : Int) = ((0 : Nat) : Int) from rfl, liveAt_nat h0 rfl]
  rfl
set_option maxHeartbeats 4000000 in
theorem walk_QuotaEnds (a0 : Int) (A1 : Option Addr) (len1 cap1 : Nat) (w : World) (w0 : (Lit.int .i64 a0).wf = true) (r1 : Rows_ w [.i .i64, .i .i64, .i .i64] A1 len1) :
    Calls Try.prog 7 #[.int .i64 a0, .slice A1 len1 cap1] w fun e w' => e = .returned (.bool true) ∧ Below w.heap.size w w' := by
  by_cases hg : a0 < 0 ∨ 1048576 < a0
  · have HN := Lib.hid (new_bad (w := w) a0 hg)
    clear hg w0 r1
    go_enter Try.func7, Try.ntmps7
    go_wp2_with fail
    refine HN.out.mono ?_
    rintro e w1 ⟨rfl, hw⟩
    obtain rfl := hw.symm
    clear hw
    go_wp2_with fail
    refine awake_true.mono ?_
    rintro e w1 ⟨rfl, hb1⟩
    go_wp2
    go_returns
    exact ⟨rfl, hb1⟩
  · have A0 := Lib.hid (new_good (w := w) a0 (by omega) (by omega))
    have i0 := Lib.hid (TInv.new (root := a0) (by omega) (by omega))
    have hle1 : len1 ≤ 9223372036854775807 := r1.1
    have R1 := Lib.hid r1
    clear hg w0 r1
    go_enter Try.func7, Try.ntmps7
    go_wp2_with fail
    refine A0.out.mono ?_
    rintro e w1 ⟨t, v1, rfl, h1, hb1⟩
    have H1 : Hid (TreeOk a0 w.heap.size t w1 [⟨-1, a0, 0, 0, true⟩]) := Lib.hid ⟨i0.out, v1, h1⟩
    have HB1 := Lib.hid hb1
    clear h1 hb1 A0
    go_wp2_with fail
    go_loopw [7] (fun i wr => ∃ (k : Nat), i = .int .i64 k ∧ k ≤ len1 ∧ k ≤ 60 ∧ Hid (∃ L, TreeOk a0 w.heap.size t wr L) ∧ Hid (Below w.heap.size w wr)) (fun i _ => 60 - (intOf i).toNat)
    case atStart => exact ⟨0, rfl, by omega, by omega, Lib.hid ⟨_, H1.out⟩, HB1⟩
    case round =>
      obtain ⟨k, rfl, hle, hle2, HT, HB⟩ := hrel
      obtain ⟨L, hT⟩ := HT.out
      have HTL := Lib.hid hT
      clear hT HT H1 HB1
      by_cases hlt : k < len1 ∧ k < 60
      · obtain ⟨hl1, hl2⟩ := hlt
        obtain ⟨b, off, x, y, z, hA, hbs, e0, e1, e2⟩ := act_row R1.out hl1
        have f0 : decide (k < len1) = true := decide_eq_true (by omega)
        have f1 : decide ((k : Int) < 60) = true := decide_eq_true (by omega)
        subst hA
        have hc1 := fun b o (h : b < w.heap.size) => HB.out.cell (p := ⟨b, o, none⟩) h
        have c0 := (hc1 b _ hbs).trans e0
        have c1 := (hc1 b _ hbs).trans e1
        have c2 := (hc1 b _ hbs).trans e2
        clear hc1 e0 e1 e2
        go_wp2_with fail
        refine (does_nil HTL.out HB.out.size x y z).mono ?_
        rintro e w3 ⟨v3, rfl, hu3, h3⟩
        have H3 := Lib.hid h3
        have HB3 := Lib.hid (hu3.below HB.out (Nat.le_refl _))
        clear hu3 h3
        go_wp2_with fail
        go_roundw
        case rel => exact ⟨k + 1, by go_num, by omega, by omega, Lib.hid ⟨_, H3.out⟩, HB3⟩
        case measure => simp [intOf]; omega
      · have hc : (decide (k < len1) = true ∧ decide ((k : Int) < 60) = false) ∨ decide (k < len1) = false := by
          by_cases h1 : k < len1
          · exact .inl ⟨decide_eq_true h1, decide_eq_false (by omega)⟩
          · exact .inr (decide_eq_false h1)
        clear hle hle2 hlt
        rcases hc with ⟨f0, f1⟩ | f0
        all_goals
          go_wp2_with fail
          refine (live_ok HTL.out).mono ?_
          rintro e w2 ⟨A, c, rfl, hb2, hr2⟩
          have HT2 : Hid (TreeOk a0 w.heap.size t w2 L) := Lib.hid (HTL.out.below hb2)
          have HB2 := Lib.hid (b_then HB.out hb2)
          obtain ⟨ks, hks⟩ : ∃ ks, ks = liveL L 0 := ⟨_, rfl⟩
          rw [← hks] at hr2 ⊢
          have HKS := Lib.hid hks
          have hksl : ks.length ≤ 64 := by rw [hks]; exact Nat.le_trans (liveL_length_le L 0) HTL.out.1.len
          obtain ⟨bR, hbR⟩ : ∃ b, b = wr.heap.size := ⟨_, rfl⟩
          rw [← hbR] at hr2
          have HR2 := Lib.hid hr2
          clear hb2 hr2 hks hbR f0
          go_wp2_with fail
          go_loopw [46] (fun i wx => ∃ (j : Nat) (M : List ND), i = .int .i64 j ∧ j ≤ ks.length ∧ Hid (TreeOk a0 w.heap.size t wx M) ∧ Hid (Below w.heap.size w wx) ∧ Hid (IRow wx bR (.slice A ks.length c) ks) ∧ Hid (liveL M 0 = ks ∧ ∀ y ∈ ks.take j, (getD M y).used = 0)) (fun i _ => ks.length - (intOf i).toNat)
          case atStart => exact ⟨0, L, rfl, by omega, HT2, HB2, HR2, Lib.hid ⟨HKS.out.symm, fun y hy => by simp at hy⟩⟩
          case round =>
            obtain ⟨j, M, rfl, hle, HTM, HBM, HRM, HFM⟩ := hrel
            clear HT2 HB2 HR2
            by_cases hlt : j < ks.length
            · have f0 : decide (j < ks.length) = true := decide_eq_true hlt
              have f1 : (j : Int) < (ks.length : Int) := by omega
              obtain ⟨b, cap, hv, hbb, hbw, hcell⟩ := HRM.out.cell j hlt
              obtain ⟨rfl, _, rfl⟩ : A = some ⟨b, 0, none⟩ ∧ ks.length = ks.length ∧ c = cap := by simpa using hv
              have hmem : ks[j] ∈ liveL M 0 := by rw [HFM.out.1]; exact List.getElem_mem hlt
              obtain ⟨q1, q2, q3, q4⟩ := credit_all HTM.out.1 hmem
              have hnew : liveL (creditL M ks[j] (getD M ks[j]).used) 0 = ks ∧ ∀ y ∈ ks.take (j + 1), (getD (creditL M ks[j] (getD M ks[j]).used) y).used = 0 := by
                refine ⟨q2.trans HFM.out.1, fun y hy => ?_⟩
                rw [q4 y (by rw [HFM.out.1]; exact List.mem_of_mem_take hy)]
                split
                · rfl
                · rename_i hne
                  rw [List.take_succ_eq_append_getElem hlt] at hy
                  rcases List.mem_append.1 hy with hy | hy
                  · exact HFM.out.2 y hy
                  · simp at hy; exact absurd hy hne
              obtain ⟨x, hx⟩ : ∃ x, x = getD M ks[j] := ⟨_, rfl⟩
              have HG := Lib.hid (get_okk HTM.out ks[j])
              have HC : Hid (∀ W, TreeOk a0 w.heap.size t W M → Calls Try.prog 15 #[.pointer (some ⟨t, 0, none⟩), .int .i64 ks[j], .int .i64 x.used] W fun e w' => e = .returned (.int .i64 0) ∧ Upd w.heap.size W w' ∧ TreeOk a0 w.heap.size t w' (creditL M ks[j] (getD M ks[j]).used)) := Lib.hid (fun W h => by have := credit_okk h ks[j] (getD M ks[j]).used; rw [q1] at this; rw [hx]; exact this)
              rw [← hx] at HG
              have HNEW := Lib.hid hnew
              generalize creditL M ks[j] (getD M ks[j]).used = M2 at HC HNEW
              generalize ks[j] = y at HG HC hcell
              generalize (liveAt M y).isSome = isb at HG
              obtain ⟨xp, xq, xu, xl, xv⟩ := x
              obtain ⟨n, hn⟩ : ∃ n, n = ks.length := ⟨_, rfl⟩
              rw [← hn] at hlt hle hksl f0 f1 HRM ⊢
              have HN := Lib.hid hn
              clear hmem q1 q2 q3 q4 hnew hx hn hv hbb
              go_wp2_with fail
              refine HG.out.mono ?_
              rintro e w4 ⟨rfl, hb4⟩
              obtain ⟨W4, hW4⟩ : ∃ W, W = w4.alloc (.cells #[.int .i64 xp, .int .i64 xq, .int .i64 xu, .int .i64 xl, .bool xv] 39) := ⟨_, rfl⟩
              obtain ⟨g, hg⟩ : ∃ g, g = w4.heap.size := ⟨_, rfl⟩
              have hbW : Below wr.heap.size wr W4 := by rw [hW4]; have q2 := hb4.size; go_grown
              have hgc : W4.heap[g]? = some (.cells #[.int .i64 xp, .int .i64 xq, .int .i64 xu, .int .i64 xl, .bool xv] 39 (0, 0)) := by rw [hW4, hg]; exact heap_new _ _
              have k2 : W4.cell? ⟨g, 2, none⟩ = some (.int .i64 xu) := cell_heap hgc 2
              have z4 := heap_lt hgc
              have HT4 := Lib.hid (HTM.out.below hbW)
              have HB4 := Lib.hid (b_then HBM.out hbW)
              have HR4 := Lib.hid (row_below HRM.out hbW)
              have HWE := Lib.hid hW4
              have HGE := Lib.hid hg
              clear hb4 hbW hgc hW4 hg
              simp only [ND.val]
              go_wp2_with fail
              rw [← HGE.out, ← HWE.out]
              go_wp2_with fail
              refine (HC.out _ HT4.out).mono ?_
              rintro e w5 ⟨rfl, hu5, h5⟩
              have H5 := Lib.hid h5
              have HB5 := Lib.hid (hu5.below HB4.out (Nat.le_refl _))
              have HR5 := Lib.hid (hu5.irow (by rw [HN.out] at HR4; exact HR4.out))
              clear hu5 h5
              go_wp2_with fail
              go_roundw
              case rel => exact ⟨j + 1, M2, by go_num, by omega, H5, HB5, by rw [HN.out]; exact HR5, HNEW⟩
              case measure => simp [intOf]; omega
            · have f0 : decide (j < ks.length) = false := decide_eq_false hlt
              obtain rfl : j = ks.length := by omega
              have HID : Hid (Idle M) := Lib.hid (idle_of (by rw [HFM.out.1]; have := HFM.out.2; rwa [List.take_length] at this))
              have HCN : Hid (cnt M ≤ 1 ∨ cnt M + 0 ≤ 64) := Lib.hid (.inr (by rw [← liveL_length M 0]; exact Nat.le_trans (liveL_length_le M 0) HTM.out.1.len))
              clear HTL HKS HFM HRM hle hlt HB
              obtain ⟨n, hn⟩ : ∃ n, n = ks.length := ⟨_, rfl⟩
              rw [← hn] at f0 hksl ⊢
              clear hn
              go_wp2_with fail
              clear f0
              go_loopw [12] (fun i wx => ∃ (r : Nat) (M : List ND), i = .int .i64 r ∧ r ≤ 64 ∧ Hid (TreeOk a0 w.heap.size t wx M) ∧ Hid (Below w.heap.size w wx) ∧ Hid (Idle M) ∧ Hid (cnt M ≤ 1 ∨ cnt M + r ≤ 64)) (fun i _ => 64 - (intOf i).toNat)
              case atStart => exact ⟨0, M, rfl, by omega, HTM, HBM, HID, HCN⟩
              case round =>
                clear HTM HBM HID HCN hksl
                obtain ⟨r, M, rfl, hle, HTM, HBM, HID, HCN⟩ := hrel
                by_cases hr : r < 64
                · have f0 : decide ((r : Int) < 64) = true := decide_eq_true (by omega)
                  go_wp2_with fail
                  refine (live_ok HTM.out).mono ?_
                  rintro e w2 ⟨A, c, rfl, hb2, hr2⟩
                  have HT2 : Hid (TreeOk a0 w.heap.size t w2 M) := Lib.hid (HTM.out.below hb2)
                  have HB2 := Lib.hid (b_then HBM.out hb2)
                  obtain ⟨ks, hks⟩ : ∃ ks, ks = liveL M 0 := ⟨_, rfl⟩
                  rw [← hks] at hr2 ⊢
                  have HKS := Lib.hid hks
                  have hksl : ks.length ≤ 64 := by rw [hks]; exact Nat.le_trans (liveL_length_le M 0) HTM.out.1.len
                  obtain ⟨bR, hbR⟩ : ∃ b, b = wr.heap.size := ⟨_, rfl⟩
                  rw [← hbR] at hr2
                  have HR2 := Lib.hid hr2
                  have HRN := Lib.hid (Rnd.start HTM.out.1 HID.out)
                  have HM0 := Lib.hid HTM.out.1
                  clear hb2 hr2 hks hbR f0 HTM HBM
                  go_wp2_with fail
                  go_loopw [70] (fun i wx => ∃ (j : Nat) (N : List ND), i = .int .i64 j ∧ j ≤ ks.length ∧ Hid (TreeOk a0 w.heap.size t wx N) ∧ Hid (Below w.heap.size w wx) ∧ Hid (IRow wx bR (.slice A ks.length c) ks) ∧ Hid (Rnd a0 M N (ks.take j))) (fun i _ => ks.length - (intOf i).toNat)
                  case atStart => exact ⟨0, M, rfl, by omega, HT2, HB2, HR2, HRN⟩
                  case round =>
                    clear HT2 HB2 HR2 HRN
                    obtain ⟨j, N, rfl, hle, HTM, HBM, HRM, HRN⟩ := hrel
                    by_cases hlt : j < ks.length
                    · have f0 : decide (j < ks.length) = true := decide_eq_true hlt
                      have f1 : (j : Int) < (ks.length : Int) := by omega
                      obtain ⟨b, cap, hv, hbb, hbw, hcell⟩ := HRM.out.cell j hlt
                      obtain ⟨rfl, _, rfl⟩ : A = some ⟨b, 0, none⟩ ∧ ks.length = ks.length ∧ c = cap := by simpa using hv
                      have HE := Lib.hid (end_okk HTM.out ks[j])
                      have HNX : Hid (Rnd a0 M (endL N ks[j]) (ks.take (j + 1))) := Lib.hid (by rw [List.take_succ_eq_append_getElem hlt]; exact HRN.out.step ks[j])
                      generalize endL N ks[j] = N2 at HE HNX
                      generalize endE N ks[j] = er at HE
                      generalize ks[j] = y at HE hcell
                      obtain ⟨n, hn⟩ : ∃ n, n = ks.length := ⟨_, rfl⟩
                      rw [← hn] at hlt hle hksl f0 f1 HRM ⊢
                      have HN := Lib.hid hn
                      clear hn hv hbb
                      go_wp2_with fail
                      refine HE.out.mono ?_
                      rintro e w5 ⟨rfl, hu5, h5⟩
                      have H5 := Lib.hid h5
                      have HB5 := Lib.hid (hu5.below HBM.out (Nat.le_refl _))
                      have HR5 := Lib.hid (hu5.irow (by rw [HN.out] at HRM; exact HRM.out))
                      clear hu5 h5
                      go_wp2_with fail
                      go_roundw
                      case rel => exact ⟨j + 1, N2, by go_num, by omega, H5, HB5, by rw [HN.out]; exact HR5, HNX⟩
                      case measure => simp [intOf]; omega
                    · have f0 : decide (j < ks.length) = false := decide_eq_false hlt
                      obtain rfl : j = ks.length := by omega
                      have hrn : Rnd a0 M N (liveL M 0) := by have := HRN.out; rwa [List.take_length, HKS.out] at this
                      have HCN2 : Hid (cnt N ≤ 1 ∨ cnt N + (r + 1) ≤ 64) := Lib.hid (by
                        have h1 := hrn.le
                        have h2 := hrn.fewer HM0.out
                        have h3 := HCN.out
                        by_cases h4 : 1 < cnt M
                        · have := h2 h4; omega
                        · omega)
                      have HID2 := Lib.hid hrn.idle
                      obtain ⟨n, hn⟩ : ∃ n, n = ks.length := ⟨_, rfl⟩
                      rw [← hn] at f0 hksl ⊢
                      clear hn hrn
                      go_wp2_with fail
                      go_roundw
                      case rel => exact ⟨r + 1, N, by go_num, by omega, HTM, HBM, HID2, HCN2⟩
                      case measure => simp [intOf]; omega
                · have f0 : decide ((r : Int) < 64) = false := decide_eq_false (by omega)
                  obtain ⟨q1, q2⟩ := alone HTM.out.1 HID.out (by have := HCN.out; omega)
                  have HL := Lib.hid (fun (W : World) (h : TreeOk a0 w.heap.size t W M) => live_ok h)
                  rw [q1] at HL
                  have HRM := Lib.hid (fun (W : World) (h : TreeOk a0 w.heap.size t W M) => room_okk h 0)
                  rw [q2] at HRM
                  have HE := Lib.hid (fun (W : World) (h : TreeOk a0 w.heap.size t W M) => end_okk h 0)
                  rw [end_zero HTM.out.1] at HE
                  clear q1 q2
                  go_wp2_with fail
                  refine awake_true.mono ?_
                  rintro e w3 ⟨rfl, hb3⟩
                  have H3 := Lib.hid (HTM.out.below hb3)
                  have HB3 := Lib.hid (b_then HBM.out hb3)
                  clear hb3
                  go_wp2_with fail
                  refine (HL.out _ H3.out).mono ?_
                  rintro e w4 ⟨A, c, rfl, hb4, _⟩
                  have H4 := Lib.hid (H3.out.below hb4)
                  have HB4 := Lib.hid (b_then HB3.out hb4)
                  clear hb4
                  go_wp2_with fail
                  refine (HRM.out _ H4.out).mono ?_
                  rintro e w5 ⟨rfl, hb5⟩
                  have H5 := Lib.hid (H4.out.below hb5)
                  have HB5 := Lib.hid (b_then HB4.out hb5)
                  clear hb5
                  go_wp2_with fail
                  refine (HE.out _ H5.out).mono ?_
                  rintro e w6 ⟨rfl, hu6, _⟩
                  have HB6 := Lib.hid (hu6.below HB5.out (Nat.le_refl _))
                  clear hu6
                  go_wp2_with fail
                  go_returns
                  exact ⟨rfl, HB6.out⟩
end Go.Proofs.Ytgnkgfejnnkkaaa
