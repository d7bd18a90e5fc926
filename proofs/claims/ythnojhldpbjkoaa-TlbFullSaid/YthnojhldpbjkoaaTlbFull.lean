/- TlbFull: as many lines are kept as there are places, one a place; whatever is filled then drives just one out. No condition. -/
import Derived.Test.YthnojhldpbjkoaaTlbA
namespace Go.Proofs.Ythnojhldpbjkoaa
open Go.ChangeShapes Go.WideShapes Go.ChangeAt Go.RowKit
set_option linter.unusedVariables false
set_option linter.unusedSimpArgs false

def fl (tag : Int) (n : Nat) : Ln := ⟨true, tag, n, n, false, false, false, false, false⟩
def fullL (tag : Int) : Nat → List Ln
  | 0 => zeroL
  | n + 1 => fillT (fullL tag n) (n / 8) (fl tag n)
theorem full_len (tag : Int) : ∀ n, (fullL tag n).length = 16
  | 0 => zeroL_len
  | n + 1 => by show (fillT _ _ _).length = 16; rw [fillT_length]; exact full_len tag n
theorem setOf_nat (n : Nat) : setOf (n : Int) = n % 8 := by unfold setOf; omega
theorem full_at (tag : Int) : ∀ n, n ≤ 16 → ∀ j, j < 16 → at_ (fullL tag n) j = if j % 2 * 8 + j / 2 < n then fl tag (j % 2 * 8 + j / 2) else zln
  | 0, _, j, _ => by rw [if_neg (by omega)]; exact zeroL_at j
  | n + 1, hn, j, hj => by
    show at_ (fillT _ _ _) j = _
    rw [fillT_at _ (full_len tag n) (n / 8) (by omega), full_at tag n (by omega) j hj]
    have e : setOf (fl tag n).page = n % 8 := setOf_nat n
    rw [e]
    by_cases h0 : j = 2 * (n % 8) + n / 8
    · rw [if_pos h0, show j % 2 * 8 + j / 2 = n by omega, if_pos (by omega)]
    · rw [if_neg h0]
      have hne : j % 2 * 8 + j / 2 ≠ n := by omega
      have hc : (if j % 2 * 8 + j / 2 < n then fl tag (j % 2 * 8 + j / 2) else zln) = (if j % 2 * 8 + j / 2 < n + 1 then fl tag (j % 2 * 8 + j / 2) else zln) := by
        by_cases h1 : j % 2 * 8 + j / 2 < n
        · rw [if_pos h1, if_pos (by omega)]
        · rw [if_neg h1, if_neg (by omega)]
      rw [← hc]
      split
      · split
        · exact clr_keep _ _ (by show ((j % 2 * 8 + j / 2 : Nat) : Int) ≠ (n : Int); omega)
        · exact clr_zln _
      · rfl
theorem range_count : ∀ n, n < 17 → ((List.range 16).filter fun j => decide (j % 2 * 8 + j / 2 < n)).length = n := by decide
theorem full_count (tag : Int) (n : Nat) (hn : n ≤ 16) : (linesT (fullL tag n)).length = n := by
  rw [lines_len _ (full_len tag n)]
  have : (List.range 16).filter (fun j => (at_ (fullL tag n) j).v) = (List.range 16).filter fun j => decide (j % 2 * 8 + j / 2 < n) := by
    apply List.filter_congr
    intro j hj
    rw [full_at tag n hn j (by simpa using hj)]
    by_cases h : j % 2 * 8 + j / 2 < n <;> simp [h, fl, zln]
  rw [this]
  exact range_count n (by omega)
/-- The page that is driven out. -/
theorem over_at (tag more : Int) (hm : 16 ≤ more) (way : Nat) (hw : way < 2) (m : Ln) (hp : m.page = more) (j : Nat) (hj : j < 16) :
    at_ (fillT (fullL tag 16) way m) j = if j = 2 * setOf more + way then m else fl tag (j % 2 * 8 + j / 2) := by
  rw [fillT_at _ (full_len tag 16) way hw, full_at tag 16 (by omega) j hj, if_pos (by omega : j % 2 * 8 + j / 2 < 16), hp]
  split
  · rfl
  · split
    · exact clr_keep _ _ (by show ((j % 2 * 8 + j / 2 : Nat) : Int) ≠ m.page; omega)
    · rfl
theorem over_count (tag more : Int) (hm : 16 ≤ more) (way : Nat) (hw : way < 2) (m : Ln) (hp : m.page = more) (hv : m.v = true) : (linesT (fillT (fullL tag 16) way m)).length = 16 := by
  rw [lines_len _ (by rw [fillT_length]; exact full_len tag 16)]
  have : (List.range 16).filter (fun j => (at_ (fillT (fullL tag 16) way m) j).v) = List.range 16 := by
    rw [List.filter_eq_self]
    intro j hj
    rw [over_at tag more hm way hw m hp j (by simpa using hj)]
    split
    · exact hv
    · rfl
  rw [this]; rfl
theorem over_find (tag more : Int) (hm : 16 ≤ more) (way : Nat) (hw : way < 2) (m : Ln) (hp : m.page = more) (p : Nat) (hp16 : p < 16) :
    findT (fillT (fullL tag 16) way m) tag p = if p = setOf more + 8 * way then (zln, false) else (fl tag p, true) := by
  have hs := setOf_lt more
  have a0 := over_at tag more hm way hw m hp (2 * (p % 8)) (by omega)
  have a1 := over_at tag more hm way hw m hp (2 * (p % 8) + 1) (by omega)
  rw [show 2 * (p % 8) % 2 * 8 + 2 * (p % 8) / 2 = p % 8 by omega] at a0
  rw [show (2 * (p % 8) + 1) % 2 * 8 + (2 * (p % 8) + 1) / 2 = p % 8 + 8 by omega] at a1
  have fm : fitsB m tag p = false := fits_page _ _ _ (by rw [hp]; omega)
  have ff : ∀ q : Nat, fitsB (fl tag q) tag p = decide (q = p) := by
    intro q
    by_cases h : q = p
    · subst h; simp [fitsB, fl]
    · have h' : ¬ (q : Int) = (p : Int) := by omega
      simp [fitsB, fl, h, h']
  unfold findT
  rw [setOf_nat]
  generalize setOf more = s at *
  by_cases h0 : 2 * (p % 8) = 2 * s + way
  · rw [if_pos h0] at a0
    rw [if_neg (show ¬ 2 * (p % 8) + 1 = 2 * s + way by omega)] at a1
    rw [a0, a1, fm, ff]
    by_cases h1 : p % 8 + 8 = p
    · rw [if_neg (show ¬ p = s + 8 * way by omega)]; simp [h1]
    · rw [if_pos (show p = s + 8 * way by omega)]; simp [h1]
  · rw [if_neg h0] at a0
    by_cases h1 : 2 * (p % 8) + 1 = 2 * s + way
    · rw [if_pos h1] at a1
      rw [a0, a1, fm, ff]
      by_cases h2 : p % 8 = p
      · rw [if_neg (show ¬ p = s + 8 * way by omega)]; simp [h2]
      · rw [if_pos (show p = s + 8 * way by omega)]; simp [h2]
    · rw [if_neg h1] at a1
      rw [a0, a1, ff, ff, if_neg (show ¬ p = s + 8 * way by omega)]
      by_cases h2 : p % 8 = p
      · simp [h2]
      · have h3 : p % 8 + 8 = p := by omega
        simp [h2, h3]
theorem one_tlb (w : World) : ∃ w0, w0 = w.alloc (.cells (lcells zeroL).toArray 29) ∧ Below w.heap.size w w0 ∧ TlbAt w0 w.heap.size zeroL := ⟨_, rfl, by go_grown, tlb_new w⟩
set_option maxRecDepth 100000 in
set_option maxHeartbeats 4000000 in
theorem walk_TlbFull (a0 : Int) (a1 : Int) (a2 : Int) (w : World) (w0 : (Lit.int .i64 a0).wf = true) (w1 : (Lit.int .i64 a1).wf = true) (w2 : (Lit.int .i64 a2).wf = true) :
    Calls Try.prog 4 #[.int .i64 a0, .int .i64 a1, .int .i64 a2] w fun e w' => e = .returned (.bool true) ∧ Below w.heap.size w w' := by
  clear w0 w1 w2
  have hz := tlb_zero
  by_cases hg : 0 ≤ a0 ∧ a0 ≤ 4095 ∧ 0 ≤ a1 ∧ 0 ≤ a2 ∧ a2 ≤ 1
  · obtain ⟨g0, g1, g2, g3, g4⟩ := hg
    obtain ⟨w0, hw0, hB0, hN⟩ := one_tlb w
    have HW := Lib.hid hw0
    clear hw0
    go_enter Try.func4, Try.ntmps4
    go_wp2_with fail
    rw [← HW.out]
    have hfin : ∃ d : Nat, d = setOf a1 + 8 * a2.toNat := ⟨_, rfl⟩
    obtain ⟨d, hd⟩ := hfin
    have HD := Lib.hid hd
    clear hd
    go_loopw [8] (fun i wr => ∃ k : Nat, i = .int .i64 k ∧ k ≤ 16 ∧ Below w.heap.size w wr ∧ TlbAt wr w.heap.size (fullL a0 k)) (fun i _ => (16 - intOf i).toNat)
    case atStart => exact ⟨0, rfl, by omega, hB0, hN⟩
    case round =>
      clear hB0 hN
      obtain ⟨k, rfl, hle, hB, hA⟩ := hrel
      by_cases hk : k < 16
      · have dk : decide ((k : Int) < 16) = true := decide_eq_true (by omega)
        have hf := fill_ok hA (k / 8) (fl a0 k) ⟨by omega, by omega, g0, g1, by simp [fl], by simp [fl], rfl⟩
        rw [show ((k / 8 : Nat) : Int) = (k : Int) / 8 by omega] at hf
        have hc := full_count a0 (k + 1) (by omega)
        have HC := Lib.hid hc
        have HF := Lib.hid hf
        clear hc hf
        have i0 : (0 : Int) ≤ k := by omega
        have i1 : (k : Int) < 16 := by omega
        go_wp2_with fail
        refine HF.out.mono ?_
        rintro e v1 ⟨rfl, ht1, hA1⟩
        have hB1 := Below.touch hB ht1 (Nat.le_refl _) (fun k e => by omega)
        change TlbAt v1 w.heap.size (fullL a0 (k + 1)) at hA1
        go_wp2_with fail
        refine (lines_any hA1).mono ?_
        rintro e v2 ⟨v, rfl, hb2, hr2⟩
        obtain ⟨A, c, rfl⟩ := row_form hr2
        rw [HC.out]
        have hB2 := b_then hB1 hb2
        have hA2 := hA1.below hb2
        clear hb2 hr2 ht1 hA hB hA1 hB1
        have e0 : (((k + 1 : Nat) : Int) != (k : Int) + 1) = false := by simp
        go_wp2_with fail
        go_roundw
        case rel => exact ⟨k + 1, by go_num, by omega, hB2, hA2⟩
        case measure => simp [intOf]; omega
      · have : k = 16 := by omega
        subst this
        by_cases hm : 16 ≤ a1 ∧ a1 ≤ 1099511627776
        · obtain ⟨m0, m1⟩ := hm
          obtain ⟨y, rfl⟩ : ∃ y : Nat, a2 = y := ⟨a2.toNat, by omega⟩
          have hy : y < 2 := by omega
          have hf := fill_ok hA y ⟨true, a0, a1, 77, false, false, false, false, false⟩ ⟨by omega, by omega, g0, g1, by simp; omega, by simp, rfl⟩
          have HF := Lib.hid hf
          obtain ⟨L2, hL2⟩ : ∃ L, L = fillT (fullL a0 16) y ⟨true, a0, a1, 77, false, false, false, false, false⟩ := ⟨_, rfl⟩
          have hcnt : (linesT L2).length = 16 := by rw [hL2]; exact over_count a0 a1 m0 y hy _ rfl rfl
          have hfind : ∀ p : Nat, p < 16 → findT L2 a0 p = if p = setOf a1 + 8 * y then (zln, false) else (fl a0 p, true) := fun p hp => by rw [hL2]; exact over_find a0 a1 m0 y hy _ rfl p hp
          have hs8 := setOf_lt a1
          have hsc := setOf_cast a1
          have HCNT := Lib.hid hcnt
          have HFIND := Lib.hid hfind
          have HL2 := Lib.hid hL2
          clear hf hL2 hcnt hfind hA
          generalize hS : setOf a1 = S at *
          have HS := Lib.hid hS
          have HSC := Lib.hid hsc
          clear hS hsc
          go_wp2_with fail
          refine HF.out.mono ?_
          rintro e v1 ⟨rfl, ht1, hA1⟩
          have hB1 := Below.touch hB ht1 (Nat.le_refl _) (fun k e => by omega)
          rw [← HL2.out] at hA1
          clear hB ht1
          go_wp2_with fail
          go_loopw [10, 11] (fun g i wr => ∃ k : Nat, i = .int .i64 k ∧ k ≤ 16 ∧ g = .int .i64 (if S + 8 * y < k then 1 else 0) ∧ Below w.heap.size w wr ∧ TlbAt wr w.heap.size L2) (fun _ i _ => (16 - intOf i).toNat)
          case atStart => exact ⟨0, rfl, by omega, rfl, hB1, hA1⟩
          case round =>
            clear hB1 hA1
            obtain ⟨k, rfl, hle, rfl, hB, hA⟩ := hrel
            by_cases hk : k < 16
            · have dk : decide ((k : Int) < 16) = true := decide_eq_true (by omega)
              have i0 : (0 : Int) ≤ k := by omega
              have i1 : (k : Int) < 16 := by omega
              have hfd := HFIND.out k hk
              by_cases hx : k = S + 8 * y
              · rw [if_pos hx] at hfd
                have HFD := Lib.hid hfd
                rw [if_neg (show ¬ S + 8 * y < k by omega)]
                have e1 : ((k : Int) % 8 != a1 % 8) = false := by have := HSC.out; simp; omega
                have e2 : ((k : Int) / 8 != (y : Int)) = false := by simp; omega
                have HX := Lib.hid hx
                clear hfd hx
                go_wp2_with fail
                refine (find_any hA a0 k).mono ?_
                rw [HFD.out]
                rintro e v2 ⟨rfl, hb2⟩
                have hB2 := b_then hB hb2
                have hA2 := hA.below hb2
                have hB3 := hB2.alloc hB2.size (.cells #[.bool false, .int .i64 0, .int .i64 0, .int .i64 0, .bool false, .bool false, .bool false, .bool false, .bool false] 25)
                have hA3 := hA2.below ((Below.refl _ _).alloc (Nat.le_refl _) (.cells #[.bool false, .int .i64 0, .int .i64 0, .int .i64 0, .bool false, .bool false, .bool false, .bool false, .bool false] 25))
                clear hb2 hA hB hA2 hB2
                go_wp2_with fail
                go_roundw
                case rel => exact ⟨k + 1, by go_num, by omega, by have := HX.out; rw [if_pos (show S + 8 * y < k + 1 by omega)], hB3, hA3⟩
                case measure => simp [intOf]; omega
              · rw [if_neg hx] at hfd
                have HFD := Lib.hid hfd
                have hg : (if S + 8 * y < k then (1 : Int) else 0) = (if S + 8 * y < k + 1 then 1 else 0) := by
                  by_cases h : S + 8 * y < k
                  · rw [if_pos h, if_pos (by omega)]
                  · rw [if_neg h, if_neg (by omega)]
                rw [hg]
                obtain ⟨g, hgd⟩ : ∃ g : Int, g = (if S + 8 * y < k + 1 then (1 : Int) else 0) := ⟨_, rfl⟩
                rw [← hgd]
                have HG := Lib.hid hgd
                clear hfd hg hgd hx
                go_wp2_with fail
                refine (find_any hA a0 k).mono ?_
                rw [HFD.out]
                rintro e v2 ⟨rfl, hb2⟩
                have hB2 := b_then hB hb2
                have hA2 := hA.below hb2
                have hB3 := hB2.alloc hB2.size (.cells #[.bool true, .int .i64 a0, .int .i64 k, .int .i64 k, .bool false, .bool false, .bool false, .bool false, .bool false] 25)
                have hA3 := hA2.below ((Below.refl _ _).alloc (Nat.le_refl _) (.cells #[.bool true, .int .i64 a0, .int .i64 k, .int .i64 k, .bool false, .bool false, .bool false, .bool false, .bool false] 25))
                clear hb2 hA hB hA2 hB2
                go_wp2_with fail
                go_roundw
                case rel => exact ⟨k + 1, by go_num, by omega, by rw [HG.out], hB3, hA3⟩
                case measure => simp [intOf]; omega
            · have : k = 16 := by omega
              subst this
              rw [if_pos (show S + 8 * y < 16 by omega)]
              go_wp2_with fail
              refine (awake_true _).mono ?_
              rintro e v2 ⟨rfl, hb2⟩
              go_wp2_with fail
              refine (lines_any (hA.below hb2)).mono ?_
              rintro e v3 ⟨v, rfl, hb3, hr3⟩
              obtain ⟨A, c, rfl⟩ := row_form hr3
              rw [HCNT.out]
              go_wp2
              go_returns
              exact ⟨rfl, b_then (b_then hB hb2) hb3⟩
        · have hm' : a1 < 16 ∨ 1099511627776 < a1 := by omega
          have HM := Lib.hid hm'
          clear hm hm'
          go_wp2_with fail
          all_goals first
            | (exfalso; have := HM.out; omega)
            | (refine (awake_true _).mono ?_; rintro e v2 ⟨rfl, hb2⟩; go_wp2; go_returns; exact ⟨rfl, b_then hB hb2⟩)
  · have hg' : a0 < 0 ∨ 4095 < a0 ∨ a1 < 0 ∨ a2 < 0 ∨ 1 < a2 := by omega
    have HG := Lib.hid hg'
    clear hg hg'
    go_enter Try.func4, Try.ntmps4
    go_wp2_with fail
    all_goals first
      | (exfalso; have := HG.out; omega)
      | (refine (awake_true _).mono ?_; rintro e v2 ⟨rfl, hb2⟩; go_wp2; go_returns; exact ⟨rfl, hb2⟩)
end Go.Proofs.Ythnojhldpbjkoaa
