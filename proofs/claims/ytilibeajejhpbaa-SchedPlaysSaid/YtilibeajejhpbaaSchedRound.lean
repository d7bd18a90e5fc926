/- SchedRound: of those that wait each has its turn again behind as many turns as there are. No condition. -/
import Derived.Test.YtilibeajejhpbaaSchedGone
import Derived.Test.YtilibeajejhpbaaSchS
namespace Go.Proofs.Ytilibeajejhpbaa
open Go.ChangeShapes Go.WideShapes Go.ChangeAt Go.RowKit
set_option linter.unusedVariables false
set_option linter.unusedSimpArgs false

theorem tickQ_lt {qn tk : Int} (l : List Int) (h0 : 0 ≤ tk) (h : tk < qn) : (tickQ qn (tk, l)).1.1 < qn := by
  unfold tickQ
  split
  · exact h
  · split
    · assumption
    · show (0 : Int) < qn; omega
/-- Behind j ticks: t turns went by. -/
structure Ticked (q : Nat) (l : List Int) (tk : Int) (j t : Nat) (tk' : Int) (l' : List Int) : Prop where
  lt : 0 ≤ tk' ∧ tk' < q
  sum : tk + j = t * q + tk'
  rot : Rot t l l'
theorem Ticked.start {q : Nat} {l : List Int} {tk : Int} (h0 : 0 ≤ tk) (h1 : tk < q) : Ticked q l tk 0 0 tk l := ⟨⟨h0, h1⟩, by simp, Rot.zero l⟩
theorem Ticked.tick {q : Nat} {l : List Int} {tk : Int} {j t : Nat} {tk' : Int} {l' : List Int} (h : Ticked q l tk j t tk' l') (hl : 0 < l.length) :
    ((tickQ q (tk', l')).2 = false ∧ Ticked q l tk (j + 1) t (tickQ q (tk', l')).1.1 (tickQ q (tk', l')).1.2) ∨ ((tickQ q (tk', l')).2 = true ∧ Ticked q l tk (j + 1) (t + 1) (tickQ q (tk', l')).1.1 (tickQ q (tk', l')).1.2) := by
  have hne : l' ≠ [] := by
    intro e
    have := h.rot.1
    rw [e] at this
    simp at this; omega
  have hs := h.sum
  have hlt := h.lt
  unfold tickQ
  simp only [if_neg hne]
  by_cases hq : tk' + 1 < q
  · simp only [if_pos hq]
    exact .inl ⟨trivial, ⟨⟨by omega, by omega⟩, by omega, h.rot⟩⟩
  · simp only [if_neg hq]
    refine .inr ⟨trivial, ⟨⟨by omega, by omega⟩, ?_, h.rot.succ⟩⟩
    have e : ((t + 1 : Nat) : Int) * (q : Int) = t * q + q := by push_cast; rw [Int.add_mul, Int.one_mul]
    rw [e]
    omega
theorem Ticked.full {q : Nat} {l : List Int} {tk : Int} {t : Nat} {tk' : Int} {l' : List Int} (h : Ticked q l tk (l.length * q) t tk' l') (h0 : 0 ≤ tk) (h1 : tk < q) : t = l.length ∧ tk' = tk ∧ l' = l := by
  obtain ⟨a, rfl⟩ : ∃ a : Nat, tk = a := ⟨tk.toNat, by omega⟩
  have hlt := h.lt
  obtain ⟨b, rfl⟩ : ∃ b : Nat, tk' = b := ⟨tk'.toNat, by omega⟩
  have hs : a + l.length * q = t * q + b := by have := h.sum; exact_mod_cast this
  have hq : 0 < q := by omega
  have e1 : (a + l.length * q) / q = l.length := by rw [Nat.add_mul_div_right _ _ hq, Nat.div_eq_of_lt (by omega), Nat.zero_add]
  have e2 : (t * q + b) / q = t := by rw [Nat.add_comm, Nat.add_mul_div_right _ _ hq, Nat.div_eq_of_lt (by omega), Nat.zero_add]
  have ht : t = l.length := by rw [← e2, ← hs, e1]
  subst ht
  refine ⟨rfl, by omega, ?_⟩
  apply List.ext_getElem?
  intro k
  by_cases hk : k < l.length
  · rw [h.rot.2 k hk, Nat.add_mod_right, Nat.mod_eq_of_lt hk]
  · rw [List.getElem?_eq_none (by rw [h.rot.1]; omega), List.getElem?_eq_none (by omega)]
set_option maxHeartbeats 16000000 in
theorem walk_SchedRound (a0 : Int) (A1 : Option Addr) (len1 cap1 : Nat) (w : World) (w0 : (Lit.int .i64 a0).wf = true) (r1 : Rows_ w [.i .i64, .i .i64] A1 len1) :
    Calls Try.prog 7 #[.int .i64 a0, .slice A1 len1 cap1] w fun e w' => e = .returned (.bool true) ∧ Below w.heap.size w w' := by
  clear w0
  have hl0 := r1.1
  by_cases hq : a0 < 1 ∨ 1000 < a0
  · go_enter Try.func7, Try.ntmps7
    go_wp2_with fail
    refine (new_bad a0 hq w).mono ?_
    rintro e w1 ⟨rfl, hw⟩
    obtain rfl := hw.symm
    clear hq
    go_wp2_with fail
    refine (awake_true _).mono ?_
    rintro e w2 ⟨rfl, hb2⟩
    go_wp2
    go_returns
    exact ⟨rfl, hb2⟩
  by_cases hn : 20 < a0
  · have d0 : decide ((20 : Int) < a0) = true := decide_eq_true hn
    go_enter Try.func7, Try.ntmps7
    go_wp2_with fail
    refine (new_ok a0 (by omega) (by omega) w).mono ?_
    rintro e w1 ⟨rfl, hb1, hq1⟩
    clear hq hn
    go_wp2_with fail
    refine (awake_true _).mono ?_
    rintro e w2 ⟨rfl, hb2⟩
    go_wp2
    go_returns
    exact ⟨rfl, b_then hb1 hb2⟩
  · obtain ⟨q, rfl⟩ : ∃ q : Nat, a0 = q := ⟨a0.toNat, by omega⟩
    have d0 : decide ((20 : Int) < (q : Int)) = false := decide_eq_false hn
    have q1 : Hid (1 ≤ q ∧ q ≤ 20) := Lib.hid (by omega)
    clear hn hq
    go_enter Try.func7, Try.ntmps7
    go_wp2_with fail
    refine (new_ok q (by have := q1.out; omega) (by have := q1.out; omega) w).mono ?_
    rintro e w1 ⟨rfl, hb1, hq1⟩
    go_wp2_with fail
    go_loopw [7] (fun i wr => ∃ (k : Nat) (tk : Int) (v : Value) (l : List Int), i = .int .i64 k ∧ k ≤ len1 ∧ k ≤ 40 ∧ Below w.heap.size w wr ∧ QAt wr w.heap.size w.heap.size q tk v l ∧ Hid (0 ≤ tk ∧ tk < q ∧ l.length ≤ k)) (fun i _ => (40 - intOf i).toNat)
    case atStart => exact ⟨0, 0, _, [], rfl, by omega, by omega, hb1, hq1, Lib.hid ⟨by omega, by have := q1.out; omega, by simp⟩⟩
    case round =>
      clear hb1 hq1
      obtain ⟨k, tk, v, l, rfl, hle, hle2, hB, hQ, HF⟩ := hrel
      by_cases hlt : k < len1 ∧ k < 40
      · obtain ⟨hl1, hl2⟩ := hlt
        obtain ⟨b, off, hA0, hbs, kind, x, e0, e1⟩ := act_row r1 hl1
        have f0 : decide (k < len1) = true := decide_eq_true hl1
        have f1 : decide ((k : Int) < 40) = true := decide_eq_true (by omega)
        subst hA0
        obtain ⟨hc1, hf1⟩ := bcell hB
        have hl9 : l.length ≤ 900 := by have := HF.out; omega
        by_cases k1 : kind = 1
        · subst k1
          have HC := Lib.hid (add_any hQ hl9 x)
          have HX := Lib.hid (addQ_len l x)
          clear hl9
          go_wp2_with fail
          refine HC.out.mono ?_
          rintro e w2 ⟨rfl, ht, v2, hQ2⟩
          have hB2 := Below.touch hB ht (Nat.le_refl _) (fun k e => by omega)
          clear ht hB hQ hc1 hf1 e0 e1
          go_wp2_with fail
          go_roundw
          case rel => exact ⟨k + 1, tk, v2, addQ l x, by go_num, by omega, by omega, hB2, hQ2, Lib.hid ⟨HF.out.1, HF.out.2.1, by have := HX.out; have := HF.out; omega⟩⟩
          case measure => simp [intOf]; omega
        · have kk1 : (kind == 1) = false := by simp [k1]
          clear k1
          by_cases k2 : kind = 2
          · subst k2
            have HC := Lib.hid (remove_any hQ hl9 x)
            have HX := Lib.hid (remQ_len (tk, l) x)
            have HY := Lib.hid (remQ_tk (s := (tk, l)) x HF.out.1)
            clear hl9
            go_wp2_with fail
            refine HC.out.mono ?_
            rintro e w2 ⟨rfl, ht, v2, hQ2⟩
            have hB2 := Below.touch hB ht (Nat.le_refl _) (fun k e => by omega)
            clear ht hB hQ hc1 hf1 e0 e1
            generalize remQ (tk, l) x = R at HX HY hQ2
            obtain ⟨R1, R2⟩ := R
            simp only [] at HX HY hQ2
            go_wp2_with fail
            go_roundw
            case rel => exact ⟨k + 1, R1, v2, R2, by go_num, by omega, by omega, hB2, hQ2, Lib.hid ⟨HY.out.1, by have := HY.out.2; have := HF.out; omega, by have := HX.out; have := HF.out; omega⟩⟩
            case measure => simp [intOf]; omega
          · have kk2 : (kind == 2) = false := by simp [k2]
            clear k2
            by_cases k3 : kind = 3
            · subst k3
              have HC := Lib.hid (yield_any hQ hl9)
              have HX := Lib.hid (rotL_len l)
              clear hl9
              go_wp2_with fail
              refine HC.out.mono ?_
              rintro e w2 ⟨rfl, ht, v2, hQ2⟩
              have hB2 := Below.touch hB ht (Nat.le_refl _) (fun k e => by omega)
              clear ht hB hQ hc1 hf1 e0 e1
              go_wp2_with fail
              go_roundw
              case rel => exact ⟨k + 1, 0, v2, rotL l, by go_num, by omega, by omega, hB2, hQ2, Lib.hid ⟨by omega, by have := q1.out; omega, by have := HX.out; have := HF.out; omega⟩⟩
              case measure => simp [intOf]; omega
            · have kk3 : (kind == 3) = false := by simp [k3]
              clear k3
              by_cases k4 : kind = 4
              · subst k4
                have HC := Lib.hid (tick_any hQ hl9 HF.out.1 (by have := HF.out; have := q1.out; omega))
                have HX := Lib.hid (tickQ_facts q tk l HF.out.1)
                have HY := Lib.hid (tickQ_lt l HF.out.1 HF.out.2.1)
                clear hl9
                go_wp2_with fail
                refine HC.out.mono ?_
                rintro e w2 ⟨rfl, ht, v2, hQ2⟩
                have hB2 := Below.touch hB ht (Nat.le_refl _) (fun k e => by omega)
                clear ht hB hQ hc1 hf1 e0 e1
                generalize tickQ q (tk, l) = T at HX HY hQ2 ⊢
                go_wp2_with fail
                go_roundw
                case rel => exact ⟨k + 1, T.1.1, v2, T.1.2, by go_num, by omega, by omega, hB2, hQ2, Lib.hid ⟨HX.out.1, HY.out, by have := HX.out.2.2.length_eq; have := HF.out; omega⟩⟩
                case measure => simp [intOf]; omega
              · have kk4 : (kind == 4) = false := by simp [k4]
                clear k4
                go_wp2_with fail
                go_roundw
                case rel => exact ⟨k + 1, tk, v, l, by go_num, by omega, by omega, hB, hQ, Lib.hid ⟨HF.out.1, HF.out.2.1, by have := HF.out; omega⟩⟩
                case measure => simp [intOf]; omega
      · have HC := Lib.hid hlt
        clear hlt
        go_upto_region 5 with fail
        go_cut [42] (fun s41 wx => s41 = .bool false ∧ wx = wr)
        case first =>
          go_wp2_with fail
          all_goals first
            | (exfalso; have := HC.out; omega)
            | (go_meet; exact ⟨by first | rfl | (simp; done) | (have := HC.out; simp; omega), rfl⟩)
        case rest =>
          obtain ⟨rfl, rfl⟩ := hcut
          have hl9 : l.length ≤ 40 := by have := HF.out; omega
          go_wp2_with fail
          refine (line_any hQ (by omega)).mono ?_
          rintro e w2 ⟨vl, rfl, hb2, hrl⟩
          have hQ2 := hQ.below hb2
          have hB2 := b_then hB hb2
          have hs2 := hB.size
          have hrl2 := row_mono hrl hs2
          obtain ⟨Al, cl, rfl⟩ := row_form hrl2
          clear hb2 hQ hB hrl
          obtain ⟨n, hn⟩ : ∃ n, n = l.length := ⟨_, rfl⟩
          have HR : Hid (IRow w2 w.heap.size (.slice Al n cl) l) := Lib.hid (by rw [hn]; exact hrl2)
          rw [← hn] at hl9 ⊢
          have HN := Lib.hid hn
          clear hrl2 hn
          go_wp2_with fail
          refine (ticks_any hQ2).mono ?_
          rintro e w4 ⟨rfl, hw⟩
          obtain rfl := hw.symm
          obtain ⟨M, hM0⟩ : ∃ M, M = n * q := ⟨_, rfl⟩
          have hM : (n : Int) * (q : Int) = (M : Int) := by rw [hM0]; push_cast; rfl
          have hM1 : M ≤ 800 := by rw [hM0]; exact Nat.mul_le_mul hl9 q1.out.2
          have HM0 := Lib.hid hM0
          clear hM0
          go_wp2_with fail
          go_loopw [10, 11] (fun t i wr => ∃ (j t' : Nat) (tk' : Int) (v : Value) (l' : List Int), t = .int .i64 t' ∧ i = .int .i64 j ∧ j ≤ M ∧ t' ≤ j ∧ Below w.heap.size w wr ∧ QAt wr w.heap.size w.heap.size q tk' v l' ∧ Hid (Ticked q l tk j t' tk' l') ∧ Hid (IRow wr w.heap.size (.slice Al n cl) l)) (fun _ i _ => M - (intOf i).toNat)
          case atStart => exact ⟨0, 0, tk, v, l, rfl, rfl, by omega, by omega, hB2, hQ2, Lib.hid (Ticked.start HF.out.1 HF.out.2.1), HR⟩
          case round =>
            clear hB2 hQ2 HR
            obtain ⟨j, t', tk', v2, l', rfl, rfl, hj, htj, hB, hQ, HT, HRW⟩ := hrel
            by_cases hjm : j < M
            · have g0 : decide ((j : Int) < (M : Int)) = true := decide_eq_true (by omega)
              have g1 : decide (j < M) = true := decide_eq_true hjm
              have hlen : l'.length ≤ 900 := by rw [HT.out.rot.1, ← HN.out]; omega
              have HY := Lib.hid (tick_any hQ hlen HT.out.lt.1 (by have := HT.out.lt; have := q1.out; omega))
              have HX := Lib.hid (HT.out.tick (by rw [← HN.out]; rcases Nat.eq_zero_or_pos n with h | h; (rw [h, Nat.zero_mul] at HM0; have := HM0.out; omega); exact h))
              clear hlen
              go_wp2_with fail
              refine HY.out.mono ?_
              rintro e w3 ⟨rfl, ht, v3, hQ3⟩
              have hB3 := Below.touch hB ht (Nat.le_refl _) (fun k e => by omega)
              have HRW3 : Hid (IRow w3 w.heap.size (.slice Al n cl) l) := Lib.hid (row_touch hQ.cells HRW.out ht)
              clear ht hB hQ HRW HY
              generalize tickQ q (tk', l') = T at HX hQ3 ⊢
              obtain ⟨⟨t3, l3⟩, ov⟩ := T
              simp only [] at HX hQ3 ⊢
              rcases HX.out with ⟨hov, hT⟩ | ⟨hov, hT⟩
              · subst hov
                have HT3 := Lib.hid hT
                clear hT HX
                go_wp2_with fail
                go_roundw
                case rel => exact ⟨j + 1, t', t3, v3, l3, rfl, by go_num, by omega, by omega, hB3, hQ3, HT3, HRW3⟩
                case measure => simp [intOf]; omega
              · subst hov
                have HT3 := Lib.hid hT
                clear hT HX
                go_wp2_with fail
                go_roundw
                case rel => exact ⟨j + 1, t' + 1, t3, v3, l3, by go_num, by go_num, by omega, by omega, hB3, hQ3, HT3, HRW3⟩
                case measure => simp [intOf]; omega
            · have g0 : decide ((j : Int) < (M : Int)) = false := decide_eq_false (by omega)
              have g1 : decide (j < M) = false := decide_eq_false hjm
              have hjM : j = l.length * q := by rw [← HN.out, ← HM0.out]; omega
              have hTT := HT.out
              rw [hjM] at hTT
              obtain ⟨ht, hk, hll⟩ := hTT.full HF.out.1 HF.out.2.1
              rw [← HN.out] at ht
              subst hk hll ht
              clear hTT hjM
              go_wp2_with fail
              refine (awake_true _).mono ?_
              rintro e w4 ⟨rfl, hb4⟩
              have hB4 := b_then hB hb4
              have HRW4 : Hid (IRow w4 w.heap.size (.slice Al t' cl) l') := Lib.hid (row_below HRW.out hb4)
              go_wp2_with fail
              refine (line_any (hQ.below hb4) (by rw [← HN.out]; omega)).mono ?_
              rintro e w5 ⟨v5, rfl, hb5, hr5⟩
              obtain ⟨A5, c5, rfl⟩ := row_form hr5
              have hQ5 := (hQ.below hb4).below hb5
              have hs := same_eq hr5.rd (HRW4.out.rd.below hb5) (by rw [← HN.out]; omega) c5 cl
              have HS := Lib.hid hs
              rw [← HN.out] at HS ⊢
              have hB5 := b_then hB4 hb5
              clear hs hr5
              go_wp2_with fail
              refine HS.out.mono ?_
              rintro e w6 ⟨rfl, hb6⟩
              go_wp2_with fail
              refine (ticks_any (hQ5.below hb6)).mono ?_
              rintro e w7 ⟨rfl, hw⟩
              obtain rfl := hw.symm
              go_wp2
              go_returns
              exact ⟨ret_v (by simp), b_then hB5 hb6⟩
end Go.Proofs.Ytilibeajejhpbaa
