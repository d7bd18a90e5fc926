/- SchedYields: who yields again and again comes round as often as there are processes; no ticks of its turn went by each time. No condition. -/
import Derived.Test.YtilibeajejhpbaaSchT
namespace Go.Proofs.Ytilibeajejhpbaa
open Go.ChangeShapes Go.WideShapes Go.ChangeAt Go.RowKit
set_option linter.unusedVariables false
set_option linter.unusedSimpArgs false

theorem act_row {w : World} {A : Option Addr} {len : Nat} (r : Rows_ w [.i .i64, .i .i64] A len) {k : Nat} (h : k < len) :
    ∃ (b off : Nat), A = some ⟨b, off, none⟩ ∧ b < w.heap.size ∧ ∃ (kind x : Int), w.cell? ⟨b, off + k * 2, none⟩ = some (.int .i64 kind) ∧ w.cell? ⟨b, off + k * 2 + 1, none⟩ = some (.int .i64 x) := by
  obtain ⟨_, h2⟩ := r
  obtain ⟨b, off, R, hA, hb, hR⟩ := h2 (by omega)
  obtain ⟨ok, hc⟩ := hR k h
  obtain ⟨_, r1, e, ⟨kind, rfl, _⟩, ok⟩ := ok
  obtain ⟨_, r2, rfl, ⟨x, rfl, _⟩, ok⟩ := ok
  rw [e] at hc
  exact ⟨b, off, hA, hb, kind, x, hc 0 (by simp), hc 1 (by simp)⟩
/-- l' is l, k times come round. -/
def Rot (k : Nat) (l l' : List Int) : Prop := l'.length = l.length ∧ ∀ j, j < l.length → l'[j]? = l[(j + k) % l.length]?
theorem Rot.zero (l : List Int) : Rot 0 l l := ⟨rfl, fun j hj => by rw [Nat.add_zero, Nat.mod_eq_of_lt hj]⟩
theorem Rot.succ {k : Nat} {l l' : List Int} (h : Rot k l l') : Rot (k + 1) l (rotL l') := by
  obtain ⟨hl, hr⟩ := h
  refine ⟨by rw [rotL_len]; exact hl, fun j hj => ?_⟩
  cases l' with
  | nil => simp at hl; omega
  | cons x r =>
    show (r ++ [x])[j]? = _
    by_cases h1 : j < r.length
    · rw [List.getElem?_append_left h1]
      have := hr (j + 1) (by rw [← hl]; simp; omega)
      rw [List.getElem?_cons_succ] at this
      rw [this]; congr 2; omega
    · have hj2 : j = r.length := by simp at hl; omega
      rw [List.getElem?_append_right (by omega), hj2, Nat.sub_self]
      have := hr 0 (by omega)
      simp only [List.getElem?_cons_zero] at this
      simp only [List.getElem?_cons_zero]
      rw [this]
      congr 1
      have hn : l.length = r.length + 1 := by rw [← hl]; simp
      rw [hn, show r.length + (k + 1) = k + (r.length + 1) by omega, Nat.add_mod_right, Nat.zero_add]
theorem Rot.head {k : Nat} {l l' : List Int} (h : Rot k l l') (hne : 0 < l.length) : ∃ x r, l' = x :: r ∧ ∃ hlt : k % l.length < l.length, l[k % l.length] = x := by
  obtain ⟨hl, hr⟩ := h
  cases l' with
  | nil => simp at hl; omega
  | cons x r =>
    refine ⟨x, r, rfl, Nat.mod_lt _ hne, ?_⟩
    have := hr 0 hne
    rw [List.getElem?_cons_zero, Nat.zero_add, List.getElem?_eq_getElem (Nat.mod_lt _ hne)] at this
    simpa using this.symm
set_option maxHeartbeats 8000000 in
theorem walk_SchedYields (a0 : Int) (A1 : Option Addr) (len1 cap1 : Nat) (a2 : Int) (w : World) (w0 : (Lit.int .i64 a0).wf = true) (r1 : Rows_ w [.i .i64, .i .i64] A1 len1) (w2 : (Lit.int .i64 a2).wf = true) :
    Calls Try.prog 3 #[.int .i64 a0, .slice A1 len1 cap1, .int .i64 a2] w fun e w' => e = .returned (.bool true) ∧ Below w.heap.size w w' := by
  clear w0 w2
  have hl0 := r1.1
  by_cases hq : a0 < 1 ∨ 1000 < a0
  · go_enter Try.func3, Try.ntmps3
    go_wp2_with fail
    refine (new_bad a0 hq w).mono ?_
    rintro e w1 ⟨rfl, hw⟩
    obtain rfl := hw.symm
    clear hq
    go_wp2_with fail
    refine (awake_true _).mono ?_
    rintro e w2 ⟨rfl, hb2⟩
    go_wp2
    go_returns
    exact ⟨rfl, hb2⟩
  by_cases hn : a2 < 0 ∨ 40 < a2
  · have HN := Lib.hid hn
    go_enter Try.func3, Try.ntmps3
    go_wp2_with fail
    refine (new_ok a0 (by omega) (by omega) w).mono ?_
    rintro e w1 ⟨rfl, hb1, hq1⟩
    clear hq hn
    go_wp2_with fail
    all_goals first
      | (refine (awake_true _).mono ?_; rintro e w2 ⟨rfl, hb2⟩; go_wp2; go_returns; exact ⟨rfl, b_then hb1 hb2⟩)
      | (exfalso; have := HN.out; omega)
  · obtain ⟨m, rfl⟩ : ∃ m : Nat, a2 = m := ⟨a2.toNat, by omega⟩
    have hm : m ≤ 40 := by omega
    have d1 : decide ((m : Int) < 0) = false := decide_eq_false (by omega)
    have d2 : decide ((40 : Int) < (m : Int)) = false := decide_eq_false (by omega)
    have q1 : 1 ≤ a0 := by omega
    have q2 : a0 ≤ 1000 := by omega
    clear hn hq
    go_enter Try.func3, Try.ntmps3
    go_wp2_with fail
    refine (new_ok a0 q1 q2 w).mono ?_
    rintro e w1 ⟨rfl, hb1, hq1⟩
    go_wp2_with fail
    go_loopw [9] (fun i wr => ∃ (k : Nat) (tk : Int) (v : Value) (l : List Int), i = .int .i64 k ∧ k ≤ len1 ∧ k ≤ 40 ∧ Below w.heap.size w wr ∧ QAt wr w.heap.size w.heap.size a0 tk v l ∧ 0 ≤ tk ∧ tk ≤ k ∧ l.length ≤ k) (fun i _ => (40 - intOf i).toNat)
    case atStart => exact ⟨0, 0, _, [], rfl, by omega, by omega, hb1, hq1, by omega, by omega, by simp⟩
    case round =>
      clear hb1 hq1
      obtain ⟨k, tk, v, l, rfl, hle, hle2, hB, hQ, ht0, ht1, hll⟩ := hrel
      by_cases hlt : k < len1 ∧ k < 40
      · obtain ⟨hl1, hl2⟩ := hlt
        obtain ⟨b, off, hA0, hbs, kind, x, e0, e1⟩ := act_row r1 hl1
        have f0 : decide (k < len1) = true := decide_eq_true hl1
        have f1 : decide ((k : Int) < 40) = true := decide_eq_true (by omega)
        subst hA0
        obtain ⟨hc1, hf1⟩ := bcell hB
        by_cases k1 : kind = 1
        · subst k1
          have HADD := Lib.hid (add_any hQ (by omega) x)
          have hal := addQ_len l x
          have HAL : Hid ((addQ l x).length ≤ k + 1) := Lib.hid (by omega)
          clear hal
          go_wp2_with fail
          refine HADD.out.mono ?_
          rintro e w2 ⟨rfl, ht, v2, hQ2⟩
          have hB2 := Below.touch hB ht (Nat.le_refl _) (fun k e => by omega)
          clear ht hB hQ hc1 hf1 e0 e1
          go_wp2_with fail
          go_roundw
          case rel => exact ⟨k + 1, tk, v2, addQ l x, by go_num, by omega, by omega, hB2, hQ2, ht0, by omega, HAL.out⟩
          case measure => simp [intOf]; omega
        · have kk : (kind == 1) = false := by simp [k1]
          clear k1
          by_cases k4 : kind = 4
          · subst k4
            have HT := Lib.hid (tick_any hQ (by omega) ht0 (by omega))
            have hts : 0 ≤ (tickQ a0 (tk, l)).1.1 ∧ (tickQ a0 (tk, l)).1.1 ≤ k + 1 ∧ (tickQ a0 (tk, l)).1.2.length ≤ k + 1 := by
              unfold tickQ
              split
              · exact ⟨ht0, by simp; omega, by simp; omega⟩
              · split
                · exact ⟨by simp; omega, by simp; omega, by simp; omega⟩
                · exact ⟨by simp, by simp; omega, by simp [rotL_len]; omega⟩
            have HTS := Lib.hid hts
            clear hts
            go_wp2_with fail
            refine HT.out.mono ?_
            rintro e w2 ⟨rfl, ht, v2, hQ2⟩
            have hB2 := Below.touch hB ht (Nat.le_refl _) (fun k e => by omega)
            clear ht hB hQ hc1 hf1 e0 e1
            generalize tickQ a0 (tk, l) = T at HTS hQ2 ⊢
            obtain ⟨⟨t2, l2⟩, ov⟩ := T
            simp only [] at HTS hQ2 ⊢
            go_wp2_with fail
            go_roundw
            case rel => exact ⟨k + 1, t2, v2, l2, by go_num, by omega, by omega, hB2, hQ2, HTS.out.1, by have := HTS.out.2.1; omega, HTS.out.2.2⟩
            case measure => simp [intOf]; omega
          · have kk4 : (kind == 4) = false := by simp [k4]
            clear k4
            go_wp2_with fail
            go_roundw
            case rel => exact ⟨k + 1, tk, v, l, by go_num, by omega, by omega, hB, hQ, ht0, by omega, by omega⟩
            case measure => simp [intOf]; omega
      · have HC := Lib.hid hlt
        clear hlt
        go_upto_region 5 with fail
        go_cut [41] (fun s41 wx => s41 = .bool false ∧ wx = wr)
        case first =>
          go_wp2_with fail
          all_goals first
            | (exfalso; have := HC.out; omega)
            | (go_meet; exact ⟨by first | rfl | (simp; done) | (have := HC.out; simp; omega), rfl⟩)
        case rest =>
          obtain ⟨rfl, rfl⟩ := hcut
          go_wp2_with fail
          refine (line_any hQ (by omega)).mono ?_
          rintro e w2 ⟨vl, rfl, hb2, hrl⟩
          have hQ2 := hQ.below hb2
          have hB2 := b_then hB hb2
          have hs2 := hB.size
          have hrl2 := row_mono hrl hs2
          obtain ⟨Al, cl, rfl⟩ := row_form hrl2
          clear hb2 hQ hB hrl
          obtain ⟨n, hn⟩ : ∃ n, n = l.length := ⟨_, rfl⟩
          have HR : Hid (IRow w2 w.heap.size (.slice Al n cl) l) := Lib.hid (by rw [hn]; exact hrl2)
          rw [← hn] at hll ⊢
          have HN := Lib.hid hn
          clear hrl2 hn
          go_wp2_with fail
          go_loopw [11] (fun i wr => ∃ (j : Nat) (tk : Int) (v : Value) (l' : List Int), i = .int .i64 j ∧ j ≤ m ∧ Below w.heap.size w wr ∧ QAt wr w.heap.size w.heap.size a0 tk v l' ∧ Rot j l l' ∧ Hid (IRow wr w.heap.size (.slice Al n cl) l)) (fun i _ => m - (intOf i).toNat)
          case atStart => exact ⟨0, tk, v, l, rfl, by omega, hB2, hQ2, Rot.zero l, HR⟩
          case round =>
            clear hB2 hQ2 HR
            obtain ⟨j, tk2, v2, l', rfl, hj, hB, hQ, hR, HRW⟩ := hrel
            by_cases hjm : j < m
            · have g0 : decide ((j : Int) < (m : Int)) = true := decide_eq_true (by omega)
              have hlen : l'.length ≤ 900 := by rw [hR.1, ← HN.out]; omega
              have HY := Lib.hid (yield_any hQ hlen)
              have hR2 := hR.succ
              go_wp2_with fail
              refine HY.out.mono ?_
              rintro e w3 ⟨rfl, ht, v3, hQ3⟩
              have hB3 := Below.touch hB ht (Nat.le_refl _) (fun k e => by omega)
              have HRW3 : Hid (IRow w3 w.heap.size (.slice Al n cl) l) := Lib.hid (row_touch hQ.cells HRW.out ht)
              clear ht hB hQ hR hlen HRW
              generalize rotL l' = l2 at hQ3 hR2
              by_cases hz : n = 0
              · have hl0 : l = [] := List.eq_nil_of_length_eq_zero (by rw [← HN.out]; exact hz)
                have hl20 : l2 = [] := List.eq_nil_of_length_eq_zero (by rw [hR2.1, ← HN.out]; exact hz)
                have HRR := Lib.hid hR2
                rw [hl20] at hQ3
                have HL2 := Lib.hid hl20
                clear hl0 hl20 hR2
                subst hz
                go_wp2_with fail
                refine (now_nil hQ3).mono ?_
                rintro e w4 ⟨rfl, hw⟩
                obtain rfl := hw.symm
                go_wp2_with fail
                refine (ticks_any hQ3).mono ?_
                rintro e w4 ⟨rfl, hw⟩
                obtain rfl := hw.symm
                go_wp2_with fail
                go_roundw
                case rel => exact ⟨j + 1, 0, v3, [], by go_num, by omega, hB3, hQ3, by rw [← HL2.out]; exact HRR.out, HRW3⟩
                case measure => simp [intOf]; omega
              · obtain ⟨x, r, hl2, hlt, hx⟩ := hR2.head (by rw [← HN.out]; omega)
                obtain ⟨bl, cl', hv, hbb, hbw, hc⟩ := HRW3.out.cell ((j + 1) % l.length) hlt
                obtain ⟨rfl, hnl, rfl⟩ : Al = some ⟨bl, 0, none⟩ ∧ n = l.length ∧ cl = cl' := by simpa using hv
                clear hnl
                rw [hx] at hc
                obtain ⟨q, hqq⟩ : ∃ q, q = (j + 1) % l.length := ⟨_, rfl⟩
                rw [← hqq] at hc
                have hqn : q < n := by rw [hqq, HN.out]; exact Nat.mod_lt _ (by rw [← HN.out]; omega)
                have hmod : ((j : Int) + 1) % (n : Int) = (q : Int) := by rw [hqq, ← HN.out]; rw [Int.natCast_emod]; rfl
                have HRR := Lib.hid hR2
                rw [hl2] at hQ3
                have HL2 := Lib.hid hl2
                have dz : decide ((0 : Int) < (n : Int)) = true := decide_eq_true (by omega)
                have nz : ¬ (n : Int) = 0 := by omega
                have q0 : (0 : Int) ≤ (q : Int) := by omega
                have q3 : (q : Int) < (n : Int) := by omega
                clear hl2 hR2 hz hv hx hqq hlt
                go_wp2_with fail
                refine (now_cons hQ3).mono ?_
                rintro e w4 ⟨rfl, hw⟩
                obtain rfl := hw.symm
                go_wp2_with fail
                refine (ticks_any hQ3).mono ?_
                rintro e w4 ⟨rfl, hw⟩
                obtain rfl := hw.symm
                go_wp2_with fail
                go_roundw
                case rel => exact ⟨j + 1, 0, v3, x :: r, by go_num, by omega, hB3, hQ3, by rw [← HL2.out]; exact HRR.out, HRW3⟩
                case measure => simp [intOf]; omega
            · have g0 : decide ((j : Int) < (m : Int)) = false := decide_eq_false (by omega)
              have hlen : l'.length = n := by rw [hR.1, HN.out]
              have HLE := Lib.hid hlen
              clear hlen
              go_wp2_with fail
              refine (awake_true _).mono ?_
              rintro e w4 ⟨rfl, hb4⟩
              have hB4 := b_then hB hb4
              go_wp2_with fail
              refine (line_any (hQ.below hb4) (by rw [HLE.out]; omega)).mono ?_
              rintro e w5 ⟨v5, rfl, hb5, hr5⟩
              obtain ⟨A5, c5, rfl⟩ := row_form hr5
              rw [HLE.out]
              go_wp2
              go_returns
              exact ⟨ret_v (by simp), b_then hB4 hb5⟩
end Go.Proofs.Ytilibeajejhpbaa
