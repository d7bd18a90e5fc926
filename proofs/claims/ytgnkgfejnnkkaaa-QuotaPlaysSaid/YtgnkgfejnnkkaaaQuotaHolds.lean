/- QuotaHolds answers true: its walk. No condition. -/
import Derived.Test.YtgnkgfejnnkkaaaQuotaEnds
import Derived.Deep.RegionHeld3
import Derived.Deep.DrawnRows
namespace Go.Proofs.Ytgnkgfejnnkkaaa
open Go.ChangeShapes Go.WideShapes Go.ChangeAt Go.RowKit
set_option linter.unusedVariables false
set_option linter.unusedSimpArgs false
attribute [local go_sem ↓] Go.wp_at_zero Go.wp_at_succ
theorem sumK_nonneg (L : List ND) (g : ND → Int) (hg : ∀ k, 0 ≤ g (getD L k)) : ∀ ks, 0 ≤ sumK L g ks
  | [] => by simp [sumK]
  | k :: r => by
    have h1 := sumK_nonneg L g hg r
    have h2 := hg k
    simp only [sumK]; omega
theorem sumK_le (L : List ND) (g : ND → Int) (B : Int) (hg : ∀ k, g (getD L k) ≤ B) : ∀ ks, sumK L g ks ≤ B * ks.length
  | [] => by simp [sumK]
  | k :: r => by
    have h1 := sumK_le L g B hg r
    have h2 := hg k
    simp only [sumK, List.length_cons]
    rw [show ((r.length + 1 : Nat) : Int) = (r.length : Int) + 1 by omega, Int.mul_add, Int.mul_one]
    omega
theorem getD_ok {root : Int} {L : List ND} (h : TInv root L) (k : Int) : (getD L k).ok := by
  unfold getD
  cases hl : liveAt L k with
  | none => exact ⟨by simp, by simp, by simp, by simp⟩
  | some d =>
    obtain ⟨n, _, hn, _⟩ := live_some hl
    exact h.ok d (List.mem_of_getElem? hn)
theorem roomF_getD (L : List ND) (k : Int) : roomF L k = (getD L k).quota - (getD L k).used - (getD L k).lent := by
  unfold roomF getD
  cases liveAt L k with
  | none => simp
  | some d => rfl
theorem lent_getD {root : Int} {L : List ND} (h : TInv root L) {k : Int} (hk : k ∈ liveL L 0) : (getD L k).lent = sumK L (fun d => if d.parent == k then d.quota else 0) (liveL L 0) := by
  obtain ⟨n, d, rfl, h1, h2, h3, h4⟩ := live_mem hk
  rw [h4, sumK_all, lentF_sum, h.lent n d h1 h2]
def pq (y : Int) (d : ND) : Int := if d.parent == y then d.quota else 0
theorem pq_pos {y zp zq zu zl : Int} {zv : Bool} (h : (zp == y) = true) : pq y ⟨zp, zq, zu, zl, zv⟩ = zq := by unfold pq; rw [if_pos h]
theorem pq_neg {y zp zq zu zl : Int} {zv : Bool} (h : (zp == y) = false) : pq y ⟨zp, zq, zu, zl, zv⟩ = 0 := by unfold pq; rw [if_neg (by simp [h])]
set_option maxRecDepth 20000 in
set_option maxHeartbeats 8000000 in
theorem walk_QuotaHolds (a0 : Int) (A1 : Option Addr) (len1 cap1 : Nat) (w : World) (w0 : (Lit.int .i64 a0).wf = true) (r1 : Rows_ w [.i .i64, .i .i64, .i .i64] A1 len1) :
    Calls Try.prog 6 #[.int .i64 a0, .slice A1 len1 cap1] w fun e w' => e = .returned (.bool true) ∧ Below w.heap.size w w' := by
  by_cases hg : a0 < 0 ∨ 1048576 < a0
  · have HN := Lib.hid (new_bad (w := w) a0 hg)
    have hd : (decide (a0 < 0) = true) ∨ (decide (a0 < 0) = false ∧ decide (1048576 < a0) = true) := by
      by_cases h : a0 < 0
      · exact .inl (decide_eq_true h)
      · exact .inr ⟨decide_eq_false h, decide_eq_true (by omega)⟩
    clear hg w0 r1
    rcases hd with d1 | ⟨d1, d2⟩
    all_goals
      go_enter Try.func6, Try.ntmps6
      go_wp2_with fail
      refine HN.out.mono ?_
      rintro e w1 ⟨rfl, hw⟩
      obtain rfl := hw.symm
      clear hw
      go_wp2_with fail
      refine awake_true.mono ?_
      rintro e w1 ⟨rfl, hb1⟩
      go_wp2
      go_returns
      exact ⟨rfl, hb1⟩
  · have A0 := Lib.hid (new_good (w := w) a0 (by omega) (by omega))
    have i0 := Lib.hid (TInv.new (root := a0) (by omega) (by omega))
    have q0 : Hid (sumQ [(⟨-1, a0, 0, 0, true⟩ : ND)] = a0) := Lib.hid (by simp [sumQ, sumL])
    have hle1 : len1 ≤ 9223372036854775807 := r1.1
    have ha0 : a0 ≤ 1048576 := by omega
    have R1 := Lib.hid r1
    clear hg w0 r1
    go_enter Try.func6, Try.ntmps6
    go_wp2_with fail
    refine A0.out.mono ?_
    rintro e w1 ⟨t, v1, rfl, h1, hb1⟩
    have H1 : Hid (TreeOk a0 w.heap.size t w1 [⟨-1, a0, 0, 0, true⟩] ∧ sumQ [(⟨-1, a0, 0, 0, true⟩ : ND)] = a0) := Lib.hid ⟨⟨i0.out, v1, h1⟩, q0.out⟩
    have HB1 := Lib.hid hb1
    clear h1 hb1 A0
    go_wp2_with fail
    go_loopw [7] (fun i wr => ∃ (k : Nat), i = .int .i64 k ∧ k ≤ len1 ∧ k ≤ 100 ∧ Hid (∃ L, TreeOk a0 w.heap.size t wr L ∧ sumQ L = a0) ∧ Hid (Below w.heap.size w wr)) (fun i _ => 100 - (intOf i).toNat)
    case atStart => exact ⟨0, rfl, by omega, by omega, Lib.hid ⟨_, H1.out⟩, HB1⟩
    case round =>
      obtain ⟨k, rfl, hle, hle2, HT, HB⟩ := hrel
      obtain ⟨L0, hT⟩ := HT.out
      have HTL := Lib.hid hT
      clear hT HT H1 HB1
      by_cases hlt : k < len1 ∧ k < 100
      · obtain ⟨hl1, hl2⟩ := hlt
        obtain ⟨b, off, x, y, z, hA, hbs, e0, e1, e2⟩ := act_row R1.out hl1
        have f0 : decide (k < len1) = true := decide_eq_true (by omega)
        have f1 : decide ((k : Int) < 100) = true := decide_eq_true (by omega)
        subst hA
        have hc1 := fun b o (h : b < w.heap.size) => HB.out.cell (p := ⟨b, o, none⟩) h
        have c0 := (hc1 b _ hbs).trans e0
        have c1 := (hc1 b _ hbs).trans e1
        have c2 := (hc1 b _ hbs).trans e2
        clear hc1 e0 e1 e2
        go_wp2_with fail
        refine (does_nil HTL.out.1 HB.out.size x y z).mono ?_
        rintro e w3 ⟨v3, rfl, hu3, h3⟩
        obtain ⟨L, hLL⟩ : ∃ L, L = doesL L0 x y z := ⟨_, rfl⟩
        rw [← hLL] at h3
        have HSQ : Hid (sumQ L = a0) := Lib.hid (by rw [hLL, sumQ_does HTL.out.1.1]; exact HTL.out.2)
        have H3 := Lib.hid h3
        have HB3 := Lib.hid (hu3.below HB.out (Nat.le_refl _))
        clear hu3 h3 hLL HTL c0 c1 c2 f0 f1
        go_wp2_with fail
        refine (live_ok H3.out).mono ?_
        rintro e w4 ⟨A, c, rfl, hb4, hr4⟩
        have HT4 : Hid (TreeOk a0 w.heap.size t w4 L) := Lib.hid (H3.out.below hb4)
        have HB4 := Lib.hid (b_then HB3.out hb4)
        obtain ⟨ks, hks⟩ : ∃ ks, ks = liveL L 0 := ⟨_, rfl⟩
        rw [← hks] at hr4 ⊢
        have HKS := Lib.hid hks
        have hksl : ks.length ≤ 64 := by rw [hks]; exact Nat.le_trans (liveL_length_le L 0) H3.out.1.len
        obtain ⟨bR, hbR⟩ : ∃ b, b = w3.heap.size := ⟨_, rfl⟩
        rw [← hbR] at hr4
        have HR4 := Lib.hid hr4
        have HIV := Lib.hid H3.out.1
        clear hb4 hr4 hks hbR H3
        go_wp2_with fail
        go_loopw [8, 57] (fun s i wx => ∃ (j : Nat) (m : Int), s = .int .i64 m ∧ i = .int .i64 j ∧ j ≤ ks.length ∧ 0 ≤ m ∧ m ≤ 1048576 * j ∧ Hid (TreeOk a0 w.heap.size t wx L) ∧ Hid (Below w.heap.size w wx) ∧ Hid (IRow wx bR (.slice A ks.length c) ks) ∧ Hid (m + sumK L ND.used (ks.drop j) = sumL ND.used L)) (fun _ i _ => ks.length - (intOf i).toNat)
        case atStart => exact ⟨0, 0, rfl, rfl, by omega, by omega, by omega, HT4, HB4, HR4, Lib.hid (by rw [List.drop_zero, HKS.out, sumK_all]; omega)⟩
        case round =>
          clear HT4 HB4 HR4
          obtain ⟨j, m, rfl, rfl, hjle, hm0, hm1, HTM, HBM, HRM, HSM⟩ := hrel
          by_cases hlt : j < ks.length
          · have f0 : decide (j < ks.length) = true := decide_eq_true hlt
            have f1 : (j : Int) < (ks.length : Int) := by omega
            obtain ⟨b, cap, hv, hbb, hbw, hcell⟩ := HRM.out.cell j hlt
            obtain ⟨rfl, _, rfl⟩ : A = some ⟨b, 0, none⟩ ∧ ks.length = ks.length ∧ c = cap := by simpa using hv
            have hmem : ks[j] ∈ liveL L 0 := by rw [← HKS.out]; exact List.getElem_mem hlt
            obtain ⟨o1, o2, o3, o4⟩ := getD_ok HIV.out ks[j]
            have hle_ := lent_getD HIV.out hmem
            rw [← HKS.out] at hle_
            have hdr : sumK L ND.used (ks.drop j) = (getD L ks[j]).used + sumK L ND.used (ks.drop (j + 1)) := by rw [List.drop_eq_getElem_cons hlt]; rfl
            obtain ⟨_, _, _, _, _, hlv, _⟩ := live_mem hmem
            have his : (liveAt L ks[j]).isSome = true := by rw [hlv]; rfl
            have hrmv := roomF_getD L ks[j]
            have HG := Lib.hid (fun (W : World) (h : TreeOk a0 w.heap.size t W L) => get_okk h ks[j])
            have HRO := Lib.hid (fun (W : World) (h : TreeOk a0 w.heap.size t W L) => room_okk h ks[j])
            rw [his] at HG
            rw [hrmv] at HRO
            generalize ks[j] = y at HG HRO hcell hle_ hdr o1 o2 o3 o4
            obtain ⟨x, hx⟩ : ∃ x, x = getD L y := ⟨_, rfl⟩
            rw [← hx] at HG HRO hle_ hdr o1 o2 o3 o4
            obtain ⟨xp, xq, xu, xl, xv⟩ := x
            simp only at HRO hle_ hdr o1 o2 o3 o4
            have s1 : IntKind.i64.wrap (xu + xl) = xu + xl := by rw [IntKind.wrap_i64]; omega
            have s2 : IntKind.i64.wrap (xq - xu) = xq - xu := by rw [IntKind.wrap_i64]; omega
            have s3 : IntKind.i64.wrap (xq - xu - xl) = xq - xu - xl := by rw [IntKind.wrap_i64]; omega
            have s4 : IntKind.i64.wrap (m + xu) = m + xu := by rw [IntKind.wrap_i64]; omega
            have d1 : decide (xu < 0) = false := decide_eq_false (by omega)
            have d2 : decide (xl < 0) = false := decide_eq_false (by omega)
            have d3 : decide (xq < xu + xl) = false := decide_eq_false (by omega)
            have HLE := Lib.hid hle_
            have HDR := Lib.hid hdr
            have HO : Hid (0 ≤ xu ∧ xu ≤ 1048576) := Lib.hid ⟨o1, by omega⟩
            obtain ⟨n, hn⟩ : ∃ n, n = ks.length := ⟨_, rfl⟩
            rw [← hn] at hlt hjle hksl f0 f1 HRM ⊢
            have HN := Lib.hid hn
            clear hmem hn hv hbb hx his hrmv hlv hle_ hdr o1 o2 o3 o4
            go_wp2_with fail
            refine (HG.out _ HTM.out).mono ?_
            rintro e w5 ⟨rfl, hb5⟩
            obtain ⟨W5, hW5⟩ : ∃ W, W = w5.alloc (.cells #[.int .i64 xp, .int .i64 xq, .int .i64 xu, .int .i64 xl, .bool xv] 39) := ⟨_, rfl⟩
            obtain ⟨g, hg⟩ : ∃ g, g = w5.heap.size := ⟨_, rfl⟩
            have hbW : Below wr.heap.size wr W5 := by rw [hW5]; have q2 := hb5.size; go_grown
            have hgc : W5.heap[g]? = some (.cells #[.int .i64 xp, .int .i64 xq, .int .i64 xu, .int .i64 xl, .bool xv] 39 (0, 0)) := by rw [hW5, hg]; exact heap_new _ _
            have k1 : W5.cell? ⟨g, 1, none⟩ = some (.int .i64 xq) := cell_heap hgc 1
            have k2 : W5.cell? ⟨g, 2, none⟩ = some (.int .i64 xu) := cell_heap hgc 2
            have k3 : W5.cell? ⟨g, 3, none⟩ = some (.int .i64 xl) := cell_heap hgc 3
            have z4 := heap_lt hgc
            have HT5 := Lib.hid (HTM.out.below hbW)
            have HB5 := Lib.hid (b_then HBM.out hbW)
            have HR5 := Lib.hid (row_below HRM.out hbW)
            have HGC := Lib.hid hgc
            have HWE := Lib.hid hW5
            have HGE := Lib.hid hg
            clear hb5 hbW hgc hW5 hg
            simp only [ND.val]
            go_wp2_with fail
            rw [← HGE.out, ← HWE.out]
            have HS : Hid (∀ W : World, (W.heap[g]? = W5.heap[g]?) → W.cell? ⟨g, 1, none⟩ = some (.int .i64 xq) ∧ W.cell? ⟨g, 2, none⟩ = some (.int .i64 xu) ∧ W.cell? ⟨g, 3, none⟩ = some (.int .i64 xl)) := Lib.hid (fun W h => ⟨cell_heap (h.trans HGC.out) 1, cell_heap (h.trans HGC.out) 2, cell_heap (h.trans HGC.out) 3⟩)
            go_region_held3 (fun W : World => W.cell? ⟨g, 1, none⟩ = some (.int .i64 xq) ∧ W.cell? ⟨g, 2, none⟩ = some (.int .i64 xu) ∧ W.cell? ⟨g, 3, none⟩ = some (.int .i64 xl)) (go_keep)
              ((go_at_call 11; refine (HRO.out _ (HT5.out.below (by go_grown))).mono ?_; rintro e w6 ⟨rfl, hb6⟩; have hB6 : Below W5.heap.size W5 w6 := (b_then (by go_grown) hb6); obtain ⟨l1, l2, l3⟩ := HS.out w6 (hB6.block g z4)))
            have hgc6 := (hB6.block g z4).trans HGC.out
            have HGC6 := Lib.hid hgc6
            have HT6 := Lib.hid (HT5.out.below hB6)
            have HB6 := Lib.hid (b_then HB5.out hB6)
            have HR6 := Lib.hid (row_below HR5.out hB6)
            clear hb6 hB6 k1 k2 k3 hgc6 HS
            go_wp2_with fail
            refine (live_ok HT6.out).mono ?_
            rintro e w7 ⟨A', c', rfl, hb7, hr7⟩
            rw [← HKS.out, ← HN.out] at hr7 ⊢
            obtain ⟨bS, hbS⟩ : ∃ b, b = w6.heap.size := ⟨_, rfl⟩
            rw [← hbS] at hr7
            have HR7 := Lib.hid hr7
            have HT7 := Lib.hid (HT6.out.below hb7)
            have HB7 := Lib.hid (b_then HB6.out hb7)
            have HRK7 := Lib.hid (row_below HR6.out hb7)
            have HGC7 := Lib.hid (heap_below hb7 HGC6.out)
            clear hbS hr7 hb7 l1 l2 l3
            have hpq : Hid (xl = sumK L (pq y) ks) := HLE
            have hbq : Hid (∀ k, 0 ≤ (getD L k).quota ∧ (getD L k).quota ≤ 1048576) := Lib.hid (fun k => by obtain ⟨o1, o2, o3, o4⟩ := getD_ok HIV.out k; omega)
            clear HLE f0 f1
            go_wp2_with fail
            go_loopw [13, 110] (fun s i wx => ∃ (i' : Nat) (q : Int), s = .int .i64 q ∧ i = .int .i64 i' ∧ i' ≤ n ∧ 0 ≤ q ∧ q ≤ 1048576 * i' ∧ Hid (TreeOk a0 w.heap.size t wx L) ∧ Hid (Below w.heap.size w wx) ∧ Hid (IRow wx bR (.slice (some ⟨b, 0, none⟩) n c) ks) ∧ Hid (IRow wx bS (.slice A' n c') ks) ∧ Hid (wx.heap[g]? = some (.cells #[.int .i64 xp, .int .i64 xq, .int .i64 xu, .int .i64 xl, .bool xv] 39 (0, 0))) ∧ Hid (q + sumK L (pq y) (ks.drop i') = sumK L (pq y) ks)) (fun _ i _ => n - (intOf i).toNat)
            case atStart => exact ⟨0, 0, rfl, rfl, by omega, by omega, by omega, HT7, HB7, HRK7, HR7, HGC7, Lib.hid (by simp)⟩
            case round =>
              clear HT7 HB7 HRK7 HR7 HGC7 HT6 HB6 HR6 HGC6 HT5 HB5 HR5 HGC HTM HBM HRM
              obtain ⟨i', q, rfl, rfl, hile, hq0, hq1, HTM, HBM, HRM, HRS, HGC, HQS⟩ := hrel
              by_cases hil : i' < n
              · have f0 : decide (i' < n) = true := decide_eq_true hil
                have f1 : (i' : Int) < (n : Int) := by omega
                have hil' : i' < ks.length := by rw [← HN.out]; exact hil
                have hrs := HRS.out
                rw [HN.out] at hrs
                obtain ⟨b2, cap2, hv2, hbb2, hbw2, hcell2⟩ := hrs.cell i' hil'
                obtain ⟨rfl, _, rfl⟩ : A' = some ⟨b2, 0, none⟩ ∧ ks.length = ks.length ∧ c' = cap2 := by simpa using hv2
                have HG2 := Lib.hid (get_okk HTM.out ks[i'])
                have hb2 := hbq.out ks[i']
                have hdr2 : sumK L (pq y) (ks.drop i') = pq y (getD L ks[i']) + sumK L (pq y) (ks.drop (i' + 1)) := by rw [List.drop_eq_getElem_cons hil']; rfl
                generalize ks[i'] = u at HG2 hb2 hdr2 hcell2
                generalize (liveAt L u).isSome = isb at HG2
                generalize getD L u = zd at HG2 hb2 hdr2
                obtain ⟨zp, zq, zu, zl, zv⟩ := zd
                simp only at hb2
                obtain ⟨hb2a, hb2b⟩ := hb2
                have s5 : IntKind.i64.wrap (q + zq) = q + zq := by rw [IntKind.wrap_i64]; omega
                have HDR2 := Lib.hid hdr2
                clear hrs hv2 hbb2 hdr2 hil'
                rcases Bool.eq_false_or_eq_true (zp == y) with tz | tz
                · go_wp2_with fail
                  refine HG2.out.mono ?_
                  rintro e w8 ⟨rfl, hb8⟩
                  obtain ⟨W8, hW8⟩ : ∃ W, W = w8.alloc (.cells #[.int .i64 zp, .int .i64 zq, .int .i64 zu, .int .i64 zl, .bool zv] 39) := ⟨_, rfl⟩
                  obtain ⟨gz, hgz⟩ : ∃ g, g = w8.heap.size := ⟨_, rfl⟩
                  have hbW : Below wr.heap.size wr W8 := by rw [hW8]; have q2 := hb8.size; go_grown
                  have hgcz : W8.heap[gz]? = some (.cells #[.int .i64 zp, .int .i64 zq, .int .i64 zu, .int .i64 zl, .bool zv] 39 (0, 0)) := by rw [hW8, hgz]; exact heap_new _ _
                  have k0 : W8.cell? ⟨gz, 0, none⟩ = some (.int .i64 zp) := cell_heap hgcz 0
                  have k1 : W8.cell? ⟨gz, 1, none⟩ = some (.int .i64 zq) := cell_heap hgcz 1
                  have z8 := heap_lt hgcz
                  have HT8 := Lib.hid (HTM.out.below hbW)
                  have HB8 := Lib.hid (b_then HBM.out hbW)
                  have HRM8 := Lib.hid (row_below HRM.out hbW)
                  have HRS8 := Lib.hid (row_below HRS.out hbW)
                  have HGC8 := Lib.hid (heap_below hbW HGC.out)
                  have HWE8 := Lib.hid hW8
                  have HGE8 := Lib.hid hgz
                  clear hb8 hbW hgcz hW8 hgz
                  simp only [ND.val]
                  go_wp2_with fail
                  rw [← HWE8.out]
                  go_roundw
                  case measure => simp [intOf]; omega
                  case rel =>
                    exact ⟨i' + 1, q + zq, by go_num, by go_num, by omega, by omega, by omega, HT8, HB8, HRM8, HRS8, HGC8, Lib.hid (by rw [← HQS.out, HDR2.out, pq_pos tz]; omega)⟩
                · go_wp2_with fail
                  refine HG2.out.mono ?_
                  rintro e w8 ⟨rfl, hb8⟩
                  obtain ⟨W8, hW8⟩ : ∃ W, W = w8.alloc (.cells #[.int .i64 zp, .int .i64 zq, .int .i64 zu, .int .i64 zl, .bool zv] 39) := ⟨_, rfl⟩
                  obtain ⟨gz, hgz⟩ : ∃ g, g = w8.heap.size := ⟨_, rfl⟩
                  have hbW : Below wr.heap.size wr W8 := by rw [hW8]; have q2 := hb8.size; go_grown
                  have hgcz : W8.heap[gz]? = some (.cells #[.int .i64 zp, .int .i64 zq, .int .i64 zu, .int .i64 zl, .bool zv] 39 (0, 0)) := by rw [hW8, hgz]; exact heap_new _ _
                  have k0 : W8.cell? ⟨gz, 0, none⟩ = some (.int .i64 zp) := cell_heap hgcz 0
                  have k1 : W8.cell? ⟨gz, 1, none⟩ = some (.int .i64 zq) := cell_heap hgcz 1
                  have z8 := heap_lt hgcz
                  have HT8 := Lib.hid (HTM.out.below hbW)
                  have HB8 := Lib.hid (b_then HBM.out hbW)
                  have HRM8 := Lib.hid (row_below HRM.out hbW)
                  have HRS8 := Lib.hid (row_below HRS.out hbW)
                  have HGC8 := Lib.hid (heap_below hbW HGC.out)
                  have HWE8 := Lib.hid hW8
                  have HGE8 := Lib.hid hgz
                  clear hb8 hbW hgcz hW8 hgz
                  simp only [ND.val]
                  go_wp2_with fail
                  rw [← HWE8.out]
                  go_roundw
                  case measure => simp [intOf]; omega
                  case rel =>
                    exact ⟨i' + 1, q, by go_num, by go_num, by omega, by omega, by omega, HT8, HB8, HRM8, HRS8, HGC8, Lib.hid (by rw [← HQS.out, HDR2.out, pq_neg tz]; omega)⟩
              · have f0 : decide (i' < n) = false := decide_eq_false hil
                have hqx : q = xl := by
                  rw [hpq.out, ← HQS.out, List.drop_eq_nil_of_le (by rw [← HN.out]; omega)]
                  simp [sumK]
                subst hqx
                have k3 : wr.cell? ⟨g, 3, none⟩ = some (.int .i64 q) := cell_heap HGC.out 3
                have z5 := heap_lt HGC.out
                clear hq0 hq1
                go_wp2_with fail
                go_roundw
                case measure => simp [intOf]; omega
                case rel => exact ⟨j + 1, m + xu, by go_num, by go_num, by omega, by have := HO.out; omega, by have := HO.out; omega, HTM, HBM, HRM, Lib.hid (by rw [← HSM.out, HDR.out]; omega)⟩
          · have f0 : decide (j < ks.length) = false := decide_eq_false hlt
            have hmu : m ≤ a0 := by
              have := HSM.out
              rw [List.drop_eq_nil_of_le (by omega)] at this
              simp only [sumK, Int.add_zero] at this
              rw [this]
              exact used_le HIV.out HSQ.out
            have d1 : decide (a0 < m) = false := decide_eq_false (by omega)
            obtain ⟨n, hn⟩ : ∃ n, n = ks.length := ⟨_, rfl⟩
            rw [← hn] at hlt hjle hksl f0 ⊢
            clear hn hmu
            go_wp2_with fail
            go_roundw
            case measure => simp [intOf]; omega
            case rel => exact ⟨k + 1, by go_num, by omega, by omega, Lib.hid ⟨L, HTM.out, HSQ.out⟩, HBM⟩
      · have hc : (decide (k < len1) = true ∧ decide ((k : Int) < 100) = false) ∨ decide (k < len1) = false := by
          by_cases h1 : k < len1
          · exact .inl ⟨decide_eq_true h1, decide_eq_false (by omega)⟩
          · exact .inr (decide_eq_false h1)
        clear hle hle2 hlt
        rcases hc with ⟨f0, f1⟩ | f0
        all_goals
          go_wp2_with fail
          refine awake_true.mono ?_
          rintro e w2 ⟨rfl, hb2⟩
          go_wp2
          go_returns
          exact ⟨rfl, b_then HB.out hb2⟩
end Go.Proofs.Ytgnkgfejnnkkaaa
