/- SchedFair: within as many turns as there are each that waits had just one. No condition. -/
import Derived.Test.YtilibeajejhpbaaSchedRound
import Derived.Test.YtilibeajejhpbaaSchYF
namespace Go.Proofs.Ytilibeajejhpbaa
open Go.ChangeShapes Go.WideShapes Go.ChangeAt Go.RowKit
set_option linter.unusedVariables false
set_option linter.unusedSimpArgs false

/-- A row whose block is left alone stays. -/
theorem row_keep {w w' : World} {base : Nat} {v : Value} {l : List Int} (h : IRow w base v l) (hk : ∀ b, v.ownBlock = some b → w'.heap[b]? = w.heap[b]?) : IRow w' base v l := by
  refine ⟨h.1, ?_⟩
  rcases h.2 with h1 | ⟨b, cap, cur, rfl, h2, hg, h3⟩
  · exact .inl h1
  · exact .inr ⟨b, cap, cur, rfl, h2, (hk b rfl).trans hg, h3⟩
def Apart (v g : Value) : Prop := ∀ b, v.ownBlock = some b → g.ownBlock ≠ some b
theorem apart_base {w w' : World} {B B' : Nat} {v g : Value} {l l' : List Int} (h : IRow w B v l) (hg : IRow w' B' g l') (hB : w'.heap.size ≤ B ∨ w.heap.size ≤ B') : Apart v g := by
  intro b hb hgb
  have h1 := h.lt b hb
  have h2 := hg.lt b hgb
  omega
theorem QAt.mono {w : World} {p base base' : Nat} {qn tk : Int} {v : Value} {l : List Int} (h : QAt w p base qn tk v l) (hb : base' ≤ base) : QAt w p base' qn tk v l := ⟨h.cells, row_mono h.row hb, Nat.le_trans hb h.le⟩
set_option maxHeartbeats 2000000 in
theorem walk_SchedFair (a0 : Int) (A1 : Option Addr) (len1 cap1 : Nat) (w : World) (w0 : (Lit.int .i64 a0).wf = true) (r1 : Rows_ w [.i .i64, .i .i64] A1 len1) :
    Calls Try.prog 4 #[.int .i64 a0, .slice A1 len1 cap1] w fun e w' => e = .returned (.bool true) ∧ Below w.heap.size w w' := by
  clear w0
  have hl0 := r1.1
  by_cases hq : a0 < 1 ∨ 1000 < a0
  · go_enter Try.func4, Try.ntmps4
    go_wp2_with fail
    refine (new_bad a0 hq w).mono ?_
    rintro e w1 ⟨rfl, hw⟩
    obtain rfl := hw.symm
    clear hq
    go_wp2_with fail
    refine (awake_true _).mono ?_
    rintro e w2 ⟨rfl, hb2⟩
    go_wp2
    go_returns
    exact ⟨rfl, hb2⟩
  by_cases hn : 20 < a0
  · have d0 : decide ((20 : Int) < a0) = true := decide_eq_true hn
    go_enter Try.func4, Try.ntmps4
    go_wp2_with fail
    refine (new_ok a0 (by omega) (by omega) w).mono ?_
    rintro e w1 ⟨rfl, hb1, hq1⟩
    clear hq hn
    go_wp2_with fail
    refine (awake_true _).mono ?_
    rintro e w2 ⟨rfl, hb2⟩
    go_wp2
    go_returns
    exact ⟨rfl, b_then hb1 hb2⟩
  · obtain ⟨q, rfl⟩ : ∃ q : Nat, a0 = q := ⟨a0.toNat, by omega⟩
    have d0 : decide ((20 : Int) < (q : Int)) = false := decide_eq_false hn
    have q1 : Hid (1 ≤ q ∧ q ≤ 20) := Lib.hid (by omega)
    clear hn hq
    go_enter Try.func4, Try.ntmps4
    go_wp2_with fail
    refine (new_ok q (by have := q1.out; omega) (by have := q1.out; omega) w).mono ?_
    rintro e w1 ⟨rfl, hb1, hq1⟩
    go_wp2_with fail
    go_loopw [7] (fun i wr => ∃ (k : Nat) (v : Value) (l : List Int), i = .int .i64 k ∧ k ≤ len1 ∧ k ≤ 40 ∧ Below w.heap.size w wr ∧ QAt wr w.heap.size w.heap.size q 0 v l ∧ Hid (l.length ≤ k)) (fun i _ => (40 - intOf i).toNat)
    case atStart => exact ⟨0, _, [], rfl, by omega, by omega, hb1, hq1, Lib.hid (by simp)⟩
    case round =>
      clear hb1 hq1
      obtain ⟨k, v, l, rfl, hle, hle2, hB, hQ, HF⟩ := hrel
      by_cases hlt : k < len1 ∧ k < 40
      · obtain ⟨hl1, hl2⟩ := hlt
        obtain ⟨b, off, hA0, hbs, kind, x, e0, e1⟩ := act_row r1 hl1
        have f0 : decide (k < len1) = true := decide_eq_true hl1
        have f1 : decide ((k : Int) < 40) = true := decide_eq_true (by omega)
        subst hA0
        obtain ⟨hc1, hf1⟩ := bcell hB
        have hl9 : l.length ≤ 900 := by have := HF.out; omega
        by_cases k1 : kind = 1
        · subst k1
          have HC := Lib.hid (add_any hQ hl9 x)
          have HX := Lib.hid (addQ_len l x)
          clear hl9
          go_wp2_with fail
          refine HC.out.mono ?_
          rintro e w2 ⟨rfl, ht, v2, hQ2⟩
          have hB2 := Below.touch hB ht (Nat.le_refl _) (fun k e => by omega)
          clear ht hB hQ hc1 hf1 e0 e1
          go_wp2_with fail
          go_roundw
          case rel => exact ⟨k + 1, v2, addQ l x, by go_num, by omega, by omega, hB2, hQ2, Lib.hid (by have := HX.out; have := HF.out; omega)⟩
          case measure => simp [intOf]; omega
        · have kk1 : (kind == 1) = false := by simp [k1]
          clear k1
          by_cases k2 : kind = 2
          · subst k2
            have HC := Lib.hid (remove_any hQ hl9 x)
            have HX := Lib.hid (remQ_len (0, l) x)
            have HY := Lib.hid (remQ_tk (s := (0, l)) x (Int.le_refl 0))
            clear hl9
            go_wp2_with fail
            refine HC.out.mono ?_
            rintro e w2 ⟨rfl, ht, v2, hQ2⟩
            have hB2 := Below.touch hB ht (Nat.le_refl _) (fun k e => by omega)
            clear ht hB hQ hc1 hf1 e0 e1
            generalize remQ (0, l) x = R at HX HY hQ2
            obtain ⟨R1, R2⟩ := R
            simp only [] at HX HY hQ2
            rw [show R1 = 0 by have := HY.out; omega] at hQ2
            go_wp2_with fail
            go_roundw
            case rel => exact ⟨k + 1, v2, R2, by go_num, by omega, by omega, hB2, hQ2, Lib.hid (by have := HX.out; have := HF.out; omega)⟩
            case measure => simp [intOf]; omega
          · have kk2 : (kind == 2) = false := by simp [k2]
            clear k2
            by_cases k3 : kind = 3
            · subst k3
              have HC := Lib.hid (yield_any hQ hl9)
              have HX := Lib.hid (rotL_len l)
              clear hl9
              go_wp2_with fail
              refine HC.out.mono ?_
              rintro e w2 ⟨rfl, ht, v2, hQ2⟩
              have hB2 := Below.touch hB ht (Nat.le_refl _) (fun k e => by omega)
              clear ht hB hQ hc1 hf1 e0 e1
              go_wp2_with fail
              go_roundw
              case rel => exact ⟨k + 1, v2, rotL l, by go_num, by omega, by omega, hB2, hQ2, Lib.hid (by have := HX.out; have := HF.out; omega)⟩
              case measure => simp [intOf]; omega
            · have kk3 : (kind == 3) = false := by simp [k3]
              clear k3
              go_wp2_with fail
              go_roundw
              case rel => exact ⟨k + 1, v, l, by go_num, by omega, by omega, hB, hQ, Lib.hid (by have := HF.out; omega)⟩
              case measure => simp [intOf]; omega
      · have HC := Lib.hid hlt
        clear hlt
        go_upto_region 5 with fail
        go_cut [36] (fun s41 wx => s41 = .bool false ∧ wx = wr)
        case first =>
          go_wp2_with fail
          all_goals first
            | (exfalso; have := HC.out; omega)
            | (go_meet; exact ⟨by first | rfl | (simp; done) | (have := HC.out; simp; omega), rfl⟩)
        case rest =>
          obtain ⟨rfl, rfl⟩ := hcut
          have hl9 : l.length ≤ 40 := by have := HF.out; omega
          go_wp2_with fail
          refine (line_any hQ (by omega)).mono ?_
          rintro e w2 ⟨vl, rfl, hb2, hrl⟩
          have hQ2 := hQ.below hb2
          have hB2 := b_then hB hb2
          obtain ⟨Al, cl, rfl⟩ := row_form hrl
          have hs2 := hB.size
          have hrl2 := row_mono hrl hs2
          clear hb2 hQ hB hrl
          obtain ⟨n, hn⟩ : ∃ n, n = l.length := ⟨_, rfl⟩
          have HR : Hid (IRow w2 w.heap.size (.slice Al n cl) l) := Lib.hid (by rw [hn]; exact hrl2)
          rw [← hn] at hl9 ⊢
          have HN := Lib.hid hn
          clear hrl2 hn
          have hpw2 := hQ2.lt
          have HLB : Hid (∀ b, (Value.slice Al n cl).ownBlock = some b → b < w2.heap.size) := Lib.hid (fun b hb => (HR.out.lt b hb).2)
          go_wp2_with fail
          go_loopw [9, 71] (fun g i wr => ∃ (r : Nat) (v : Value) (l' : List Int) (gA : Option Addr) (gc : Nat), g = .slice gA r gc ∧ i = .int .i64 r ∧ r ≤ n ∧ w2.heap.size ≤ wr.heap.size ∧ Below w.heap.size w wr ∧ QAt wr w.heap.size w.heap.size q 0 v l' ∧ Hid (Rot r l l') ∧ Hid (IRow wr w.heap.size (.slice Al n cl) l) ∧ Hid (IRow wr w2.heap.size (.slice gA r gc) (l.take r)) ∧ Hid (r < n → Apart v (.slice gA r gc))) (fun _ i _ => n - (intOf i).toNat)
          case atStart =>
            have hg : IRow (w2.alloc (.cells #[] 3)) w2.heap.size (.slice (some ⟨w2.heap.size, 0, none⟩) 0 0) [] := World.ownsRow_lit (base := w2.heap.size) (e := 3) (size := 1) w2 #[] 0 (Nat.le_refl _) (by simp [maxLen]) (by simp)
            have hb3 : Below w2.heap.size w2 (w2.alloc (.cells #[] 3)) := (Below.refl _ _).alloc (Nat.le_refl _) _
            exact ⟨0, v, l, _, _, rfl, rfl, by omega, by simp, b_then hB2 hb3, hQ2.below hb3, Lib.hid (Rot.zero l), Lib.hid (row_below HR.out hb3), Lib.hid hg, Lib.hid (fun _ => apart_base (w := w2) (B' := w2.heap.size) hQ2.row hg (.inr (Nat.le_refl _)))⟩
          case round =>
            clear hQ2 HR
            obtain ⟨r, v, l', gA, gc, rfl, rfl, hr, hsz, hB, hQ, HRot, HRW, HG, HA⟩ := hrel
            by_cases hrn : r < n
            · have g0 : decide (r < n) = true := decide_eq_true hrn
              obtain ⟨x, t, hXT⟩ : ∃ x t, l[r]? = some x ∧ l' = x :: t := by
                obtain ⟨x, t, e, _⟩ := HRot.out.head (by rw [← HN.out]; omega)
                have := HRot.out.2 0 (by rw [← HN.out]; omega)
                rw [e, List.getElem?_cons_zero, Nat.zero_add, Nat.mod_eq_of_lt (by rw [← HN.out]; exact hrn)] at this
                exact ⟨x, t, this.symm, e⟩
              have hx0 : l[r]? = some x ∧ l' = x :: t := hXT
              obtain ⟨hxr, rfl⟩ := hx0
              have HLT : Hid (t.length + 1 = n) := Lib.hid (by have := HRot.out.1; rw [← HN.out] at this; simpa using this)
              have htake : l.take r ++ [x] = l.take (r + 1) := by rw [List.take_add_one, hxr]; rfl
              have hlr : (l.take r).length = r := by rw [List.length_take, ← HN.out]; omega
              obtain ⟨i0, hi, hz0, hz1, hz2⟩ := info_parts info3
              obtain ⟨A2, cc2, w5, ha, hR5, hB5, hs5, hk5⟩ := app_one2 (P := Try.prog) w2.heap.size wr hsz 31 31 3 under31 hi hz0 hz1 hz2 rfl (by decide) HG.out (Below.refl _ wr) #[.int .i64 x] rfl (by simp [Value.oneCell']) (by unfold maxLen; omega) (by omega)
              rw [hlr] at ha hR5
              have hQ5 : QAt w5 w.heap.size w.heap.size q 0 v (x :: t) := ⟨(hB5.block _ hpw2).trans hQ.cells, row_keep hQ.row (fun b hb => hk5 b (hQ.row.lt b hb).2 (fun e => HA.out hrn b hb e.symm)), Nat.le_trans hQ.le hB5.size⟩
              have hB6 : Below w.heap.size w w5 := hB.trans (hB5.mono (Nat.le_of_lt hpw2))
              have HRW5 : Hid (IRow w5 w.heap.size (.slice Al n cl) l) := Lib.hid (row_keep HRW.out (fun b hb => hB5.block b (HLB.out b hb)))
              have HG5 : Hid (IRow w5 w2.heap.size (.slice A2 (r + 1) cc2) (l.take (r + 1))) := Lib.hid (by
                rw [← htake]
                unfold IRow
                rw [List.length_append, hlr, ivs, List.map_append]
                exact hR5)
              have hs6 : w2.heap.size ≤ w5.heap.size := Nat.le_trans hsz hB5.size
              have HA5 := Lib.hid ha
              have HR2 := Lib.hid HRot.out.succ
              have hw1 : wrap64 ((q : Int) - 1) = (q : Int) - 1 := by have := q1.out; unfold wrap64; omega
              have HHR := Lib.hid hrn
              clear ha hR5 hB5 hs5 hk5 hi hz0 hz1 hz2 HG HRW HA HRot htake hlr hxr hrn
              go_wp2_with fail
              refine (now_cons hQ).mono ?_
              rintro e w4 ⟨rfl, hw⟩
              obtain rfl := hw.symm
              go_wp2_with (at_builtin; refine wpList_app rfl (.tmp 80) (.tmp 82) 31 rfl rfl rfl HA5.out ?_)
              clear hQ hB hsz
              go_loopw [12] (fun i wr => ∃ c : Nat, i = .int .i64 c ∧ c ≤ q ∧ w2.heap.size ≤ wr.heap.size ∧ Below w.heap.size w wr ∧ Hid (IRow wr w.heap.size (.slice Al n cl) l) ∧ Hid (IRow wr w2.heap.size (.slice A2 (r + 1) cc2) (l.take (r + 1))) ∧ Hid ((c < q ∧ QAt wr w.heap.size w.heap.size q c v (x :: t)) ∨ (c = q ∧ ∃ v', QAt wr w.heap.size w.heap.size q 0 v' (t ++ [x]) ∧ (r + 1 < n → Apart v' (.slice A2 (r + 1) cc2))))) (fun i _ => q - (intOf i).toNat)
              case atStart => exact ⟨0, rfl, by omega, hs6, hB6, HRW5, HG5, Lib.hid (.inl ⟨by have := q1.out; omega, hQ5⟩)⟩
              case round =>
                clear hQ5 hB6 HRW5 HG5 hs6
                obtain ⟨c, rfl, hc, hs, hB, HRW, HG, HQ⟩ := hrel
                by_cases hcq : c < q
                · have g1 : decide (c < q) = true := decide_eq_true hcq
                  have g1' : decide ((c : Int) < (q : Int)) = true := decide_eq_true (by omega)
                  have hc20 : c < 20 := by have := q1.out; omega
                  have hQc : QAt wr w.heap.size w.heap.size q c v (x :: t) := by
                    rcases HQ.out with ⟨_, h⟩ | ⟨h, _⟩
                    · exact h
                    · omega
                  by_cases hlast : c + 1 < q
                  · have HT := Lib.hid (tick_more hQc (by simp) (by have := HLT.out; simp; omega) (by omega) (by have := q1.out; omega) (by omega))
                    have g2 : ((c : Int) == (q : Int) - 1) = false := beq_false_of_ne (by omega)
                    go_wp2_with fail
                    refine HT.out.mono ?_
                    rintro e w6 ⟨rfl, ht, hQ6⟩
                    have hB7 := Below.touch hB ht (Nat.le_refl _) (fun k e => by omega)
                    have HRW7 := Lib.hid (row_touch hQc.cells HRW.out ht)
                    have HG7 := Lib.hid (row_touch hQc.cells HG.out ht)
                    have hs7 := Nat.le_trans hs ht.size
                    clear ht hQc HT HRW HG hB hs HQ
                    go_wp2_with fail
                    go_roundw
                    case rel => exact ⟨c + 1, by go_num, by omega, hs7, hB7, HRW7, HG7, Lib.hid (.inl ⟨hlast, hQ6⟩)⟩
                    case measure => simp [intOf]; omega
                  · have hcl : c + 1 = q := by omega
                    have HT : Hid (Calls Try.prog 11 #[.pointer (some ⟨w.heap.size, 0, none⟩)] wr fun e w' => e = .returned (.bool true) ∧ Touch (fun k => k = w.heap.size) wr w' ∧ ∃ v', QAt w' w.heap.size w.heap.size q 0 v' (t ++ [x]) ∧ (r + 1 < n → Apart v' (.slice A2 (r + 1) cc2))) := Lib.hid (by
                      cases t with
                      | nil => exact (tick_over hQc (by simp) (by simp) (by omega) (by have := q1.out; omega) (by omega)).mono fun e w' ⟨a, b, v', h⟩ => ⟨a, b, v', h, fun h => by have := HLT.out; simp at this; omega⟩
                      | cons y t' => exact (tick_fresh hQc (by have := HLT.out; simp at this; omega) (by omega) (by have := q1.out; omega) (by omega)).mono fun e w' ⟨a, b, v', h⟩ => ⟨a, b, v', h.mono hQc.le, fun _ => apart_base h.row HG.out (.inl (Nat.le_refl _))⟩)
                    have g2 : ((c : Int) == (q : Int) - 1) = true := by simp; omega
                    go_wp2_with fail
                    refine HT.out.mono ?_
                    rintro e w6 ⟨rfl, ht, v', hQ6, hA6⟩
                    have hB7 := Below.touch hB ht (Nat.le_refl _) (fun k e => by omega)
                    have HRW7 := Lib.hid (row_touch hQc.cells HRW.out ht)
                    have HG7 := Lib.hid (row_touch hQc.cells HG.out ht)
                    have hs7 := Nat.le_trans hs ht.size
                    have HQ7 := Lib.hid (And.intro hQ6 hA6)
                    clear ht hQc HT HRW HG hB hs HQ hQ6 hA6
                    go_wp2_with fail
                    go_roundw
                    case rel => exact ⟨c + 1, by go_num, by omega, hs7, hB7, HRW7, HG7, Lib.hid (.inr ⟨hcl, v', HQ7.out⟩)⟩
                    case measure => simp [intOf]; omega
                · have g1 : decide (c < q) = false := decide_eq_false hcq
                  have g1' : decide ((c : Int) < (q : Int)) = false := decide_eq_false (by omega)
                  obtain ⟨v', hQ', hA'⟩ : ∃ v', QAt wr w.heap.size w.heap.size q 0 v' (t ++ [x]) ∧ (r + 1 < n → Apart v' (.slice A2 (r + 1) cc2)) := by
                    rcases HQ.out with ⟨h, _⟩ | ⟨_, h⟩
                    · omega
                    · exact h
                  have HA' := Lib.hid hA'
                  clear hA' HQ
                  go_wp2_with fail
                  go_roundw
                  case rel => exact ⟨r + 1, v', t ++ [x], A2, cc2, rfl, by go_num, by have := HHR.out; omega, hs, hB, hQ', HR2, HRW, HG, HA'⟩
                  case measure => have := HHR.out; simp [intOf]; omega
            · have g0 : decide (r < n) = false := decide_eq_false hrn
              have hrn2 : r = n := by omega
              subst hrn2
              have htk : l.take r = l := by rw [HN.out]; exact List.take_length
              have HG2 : Hid (IRow wr w2.heap.size (.slice gA r gc) l) := Lib.hid (by have := HG.out; rwa [htk] at this)
              clear htk HG HA hQ
              go_wp2_with fail
              refine (awake_true _).mono ?_
              rintro e w4 ⟨rfl, hb4⟩
              have hs := same_eq (IRow.rd (row_below HG2.out hb4)) (IRow.rd (row_below HRW.out hb4)) (by rw [← HN.out]; omega) gc cl
              rw [← HN.out] at hs
              have HS := Lib.hid hs
              clear hs
              go_wp2_with fail
              refine HS.out.mono ?_
              rintro e w6 ⟨rfl, hb6⟩
              go_wp2
              go_returns
              exact ⟨rfl, b_then (b_then hB hb4) hb6⟩
end Go.Proofs.Ytilibeajejhpbaa
