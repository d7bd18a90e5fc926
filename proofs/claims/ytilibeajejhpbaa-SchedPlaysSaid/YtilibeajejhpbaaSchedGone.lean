/- SchedGone: who was removed has no turn any more until it is added, and is the last one then. No condition. -/
import Derived.Test.YtilibeajejhpbaaSchR
import Derived.Test.YtilibeajejhpbaaSchedYields
namespace Go.Proofs.Ytilibeajejhpbaa
open Go.ChangeShapes Go.WideShapes Go.ChangeAt Go.RowKit
set_option linter.unusedVariables false
set_option linter.unusedSimpArgs false

theorem rotL_perm (l : List Int) : (rotL l).Perm l := by
  cases l with
  | nil => exact List.Perm.refl _
  | cons x r => exact List.perm_append_singleton x r
theorem tickQ_facts (qn tk : Int) (l : List Int) (h0 : 0 ≤ tk) : 0 ≤ (tickQ qn (tk, l)).1.1 ∧ (tickQ qn (tk, l)).1.1 ≤ tk + 1 ∧ (tickQ qn (tk, l)).1.2.Perm l := by
  unfold tickQ
  split
  · exact ⟨h0, by simp; omega, List.Perm.refl _⟩
  · split
    · exact ⟨by simp; omega, by simp, List.Perm.refl _⟩
    · exact ⟨by simp, by simp; omega, rotL_perm l⟩
theorem addQ_nodup {l : List Int} (h : l.Nodup) (x : Int) : (addQ l x).Nodup := by
  unfold addQ
  split
  · exact h
  · split
    · exact h
    · rename_i h2
      exact List.nodup_append.2 ⟨h, by simp, fun a ha b hb => by simp at hb; subst hb; exact fun e => h2 (e ▸ ha)⟩
theorem remQ_gone {s : Int × List Int} (h : s.2.Nodup) (x : Int) : x ∉ (remQ s x).2 := by
  unfold remQ
  split
  · exact h.not_mem_erase
  · assumption
theorem remQ_tk {s : Int × List Int} (x : Int) (h : 0 ≤ s.1) : 0 ≤ (remQ s x).1 ∧ (remQ s x).1 ≤ s.1 := by
  unfold remQ
  split
  · simp only []; split <;> omega
  · omega
set_option maxHeartbeats 8000000 in
theorem walk_SchedGone (a0 : Int) (A1 : Option Addr) (len1 cap1 : Nat) (a2 : Int) (w : World) (w0 : (Lit.int .i64 a0).wf = true) (r1 : Rows_ w [.i .i64, .i .i64] A1 len1) (w2 : (Lit.int .i64 a2).wf = true) :
    Calls Try.prog 5 #[.int .i64 a0, .slice A1 len1 cap1, .int .i64 a2] w fun e w' => e = .returned (.bool true) ∧ Below w.heap.size w w' := by
  clear w0 w2
  have hl0 := r1.1
  by_cases hq : a0 < 1 ∨ 1000 < a0
  · go_enter Try.func5, Try.ntmps5
    go_wp2_with fail
    refine (new_bad a0 hq w).mono ?_
    rintro e w1 ⟨rfl, hw⟩
    obtain rfl := hw.symm
    clear hq
    go_wp2_with fail
    refine (awake_true _).mono ?_
    rintro e w2 ⟨rfl, hb2⟩
    go_wp2
    go_returns
    exact ⟨rfl, hb2⟩
  by_cases hn : 20 < a0 ∨ a2 < 0 ∨ 15 < a2
  · have HN := Lib.hid hn
    go_enter Try.func5, Try.ntmps5
    go_wp2_with fail
    refine (new_ok a0 (by omega) (by omega) w).mono ?_
    rintro e w1 ⟨rfl, hb1, hq1⟩
    clear hq hn
    go_wp2_with fail
    all_goals first
      | (refine (awake_true _).mono ?_; rintro e w2 ⟨rfl, hb2⟩; go_wp2; go_returns; exact ⟨rfl, b_then hb1 hb2⟩)
      | (exfalso; have := HN.out; omega)
  · have d0 : decide ((20 : Int) < a0) = false := decide_eq_false (by omega)
    have d1 : decide (a2 < 0) = false := decide_eq_false (by omega)
    have d2 : decide ((15 : Int) < a2) = false := decide_eq_false (by omega)
    have q1 : 1 ≤ a0 := by omega
    have q2 : a0 ≤ 1000 := by omega
    have q3 : Hid (0 ≤ a2 ∧ a2 ≤ 15) := Lib.hid (by omega)
    clear hn hq
    go_enter Try.func5, Try.ntmps5
    go_wp2_with fail
    refine (new_ok a0 q1 q2 w).mono ?_
    rintro e w1 ⟨rfl, hb1, hq1⟩
    go_wp2_with fail
    go_loopw [9] (fun i wr => ∃ (k : Nat) (tk : Int) (v : Value) (l : List Int), i = .int .i64 k ∧ k ≤ len1 ∧ k ≤ 40 ∧ Below w.heap.size w wr ∧ QAt wr w.heap.size w.heap.size a0 tk v l ∧ 0 ≤ tk ∧ tk ≤ k ∧ l.length ≤ k ∧ l.Nodup) (fun i _ => (40 - intOf i).toNat)
    case atStart => exact ⟨0, 0, _, [], rfl, by omega, by omega, hb1, hq1, by omega, by omega, by simp, List.nodup_nil⟩
    case round =>
      clear hb1 hq1
      obtain ⟨k, tk, v, l, rfl, hle, hle2, hB, hQ, ht0, ht1, hll, hnd⟩ := hrel
      by_cases hlt : k < len1 ∧ k < 40
      · obtain ⟨hl1, hl2⟩ := hlt
        obtain ⟨b, off, hA0, hbs, kind, x, e0, e1⟩ := act_row r1 hl1
        have f0 : decide (k < len1) = true := decide_eq_true hl1
        have f1 : decide ((k : Int) < 40) = true := decide_eq_true (by omega)
        subst hA0
        obtain ⟨hc1, hf1⟩ := bcell hB
        by_cases k1 : kind = 1
        · subst k1
          have HADD := Lib.hid (add_any hQ (by omega) x)
          have HAL : Hid ((addQ l x).length ≤ k + 1 ∧ (addQ l x).Nodup) := Lib.hid ⟨by have := addQ_len l x; omega, addQ_nodup hnd x⟩
          clear hnd
          go_wp2_with fail
          refine HADD.out.mono ?_
          rintro e w2 ⟨rfl, ht, v2, hQ2⟩
          have hB2 := Below.touch hB ht (Nat.le_refl _) (fun k e => by omega)
          clear ht hB hQ hc1 hf1 e0 e1
          go_wp2_with fail
          go_roundw
          case rel => exact ⟨k + 1, tk, v2, addQ l x, by go_num, by omega, by omega, hB2, hQ2, ht0, by omega, HAL.out.1, HAL.out.2⟩
          case measure => simp [intOf]; omega
        · have kk : (kind == 1) = false := by simp [k1]
          clear k1
          have HT := Lib.hid (tick_any hQ (by omega) ht0 (by omega))
          have HTS := Lib.hid (tickQ_facts a0 tk l ht0)
          have HND := Lib.hid hnd
          clear hnd
          go_wp2_with fail
          refine HT.out.mono ?_
          rintro e w2 ⟨rfl, ht, v2, hQ2⟩
          have hB2 := Below.touch hB ht (Nat.le_refl _) (fun k e => by omega)
          clear ht hB hQ hc1 hf1 e0 e1
          generalize tickQ a0 (tk, l) = T at HTS hQ2 ⊢
          obtain ⟨⟨t2, l2⟩, ov⟩ := T
          simp only [] at HTS hQ2 ⊢
          go_wp2_with fail
          go_roundw
          case rel => exact ⟨k + 1, t2, v2, l2, by go_num, by omega, by omega, hB2, hQ2, HTS.out.1, by have := HTS.out.2.1; omega, by have := HTS.out.2.2.length_eq; omega, HTS.out.2.2.nodup_iff.2 HND.out⟩
          case measure => simp [intOf]; omega
      · have HC := Lib.hid hlt
        have HND := Lib.hid hnd
        clear hlt hnd
        go_upto_region 5 with fail
        go_cut [46] (fun s41 wx => s41 = .bool false ∧ wx = wr)
        case first =>
          go_wp2_with fail
          all_goals first
            | (exfalso; have := HC.out; omega)
            | (go_meet; exact ⟨by first | rfl | (simp; done) | (have := HC.out; simp; omega), rfl⟩)
        case rest =>
          obtain ⟨rfl, rfl⟩ := hcut
          have HR := Lib.hid (remove_any hQ (by omega) a2)
          have HG := Lib.hid (remQ_gone (s := (tk, l)) HND.out a2)
          have HK := Lib.hid (remQ_tk (s := (tk, l)) a2 ht0)
          have HL := Lib.hid (remQ_len (tk, l) a2)
          go_wp2_with fail
          refine HR.out.mono ?_
          rintro e w2 ⟨rfl, ht, v2, hQ2⟩
          have hB2 := Below.touch hB ht (Nat.le_refl _) (fun k e => by omega)
          clear ht hQ hB HR
          generalize remQ (tk, l) a2 = R at HG HK HL hQ2
          obtain ⟨t2, l2⟩ := R
          simp only [] at HG HK HL hQ2
          have hb0 : 0 ≤ t2 ∧ t2 ≤ 40 ∧ l2.length ≤ 40 := by have := HK.out; have := HL.out; omega
          have HB0 := Lib.hid hb0
          clear hb0 HK HL
          go_wp2_with fail
          go_loopw [10] (fun i wr => ∃ (j : Nat) (tk : Int) (v : Value) (l' : List Int), i = .int .i64 j ∧ j ≤ 40 ∧ Below w.heap.size w wr ∧ QAt wr w.heap.size w.heap.size a0 tk v l' ∧ Hid (0 ≤ tk ∧ tk ≤ 40 + j ∧ l'.length ≤ 40 ∧ a2 ∉ l')) (fun i _ => (40 - intOf i).toNat)
          case atStart => exact ⟨0, t2, v2, l2, rfl, by omega, hB2, hQ2, Lib.hid ⟨HB0.out.1, by have := HB0.out.2.1; omega, HB0.out.2.2, HG.out⟩⟩
          case round =>
            clear hB2 hQ2 HB0 HG
            obtain ⟨j, tk2, v2, l', rfl, hj, hB, hQ, HF⟩ := hrel
            by_cases hjm : j < 40
            · have g0 : decide ((j : Int) < 40) = true := decide_eq_true (by omega)
              have HT := Lib.hid (tick_any hQ (by have := HF.out.2.2.1; omega) HF.out.1 (by have := HF.out.2.1; omega))
              have HTS := Lib.hid (tickQ_facts a0 tk2 l' HF.out.1)
              by_cases hz : l' = []
              · subst hz
                go_wp2_with fail
                refine (now_nil hQ).mono ?_
                rintro e w4 ⟨rfl, hw⟩
                obtain rfl := hw.symm
                go_wp2_with fail
                refine HT.out.mono ?_
                rintro e w3 ⟨rfl, ht, v3, hQ3⟩
                have hB3 := Below.touch hB ht (Nat.le_refl _) (fun k e => by omega)
                clear ht hQ hB
                generalize tickQ a0 (tk2, []) = T at HTS hQ3 ⊢
                obtain ⟨⟨t3, l3⟩, ov⟩ := T
                simp only [] at HTS hQ3 ⊢
                go_wp2_with fail
                go_roundw
                case rel => exact ⟨j + 1, t3, v3, l3, by go_num, by omega, hB3, hQ3, Lib.hid ⟨HTS.out.1, by have := HTS.out.2.1; have := HF.out.2.1; omega, by have := HTS.out.2.2.length_eq; have := HF.out.2.2.1; omega, fun h => HF.out.2.2.2 (HTS.out.2.2.mem_iff.1 h)⟩⟩
                case measure => simp [intOf]; omega
              · obtain ⟨x, r, rfl⟩ : ∃ x r, l' = x :: r := by
                  cases l' with
                  | nil => exact absurd rfl hz
                  | cons x r => exact ⟨x, r, rfl⟩
                have hx : (x == a2) = false := beq_false_of_ne (fun e => HF.out.2.2.2 (by simp [e]))
                clear hz
                go_wp2_with fail
                refine (now_cons hQ).mono ?_
                rintro e w4 ⟨rfl, hw⟩
                obtain rfl := hw.symm
                go_wp2_with fail
                refine HT.out.mono ?_
                rintro e w3 ⟨rfl, ht, v3, hQ3⟩
                have hB3 := Below.touch hB ht (Nat.le_refl _) (fun k e => by omega)
                clear ht hQ hB
                generalize tickQ a0 (tk2, x :: r) = T at HTS hQ3 ⊢
                obtain ⟨⟨t3, l3⟩, ov⟩ := T
                simp only [] at HTS hQ3 ⊢
                go_wp2_with fail
                go_roundw
                case rel => exact ⟨j + 1, t3, v3, l3, by go_num, by omega, hB3, hQ3, Lib.hid ⟨HTS.out.1, by have := HTS.out.2.1; have := HF.out.2.1; omega, by have := HTS.out.2.2.length_eq; have := HF.out.2.2.1; omega, fun h => HF.out.2.2.2 (HTS.out.2.2.mem_iff.1 h)⟩⟩
                case measure => simp [intOf]; omega
            · have g0 : decide ((j : Int) < 40) = false := decide_eq_false (by omega)
              have hA := add_any hQ (by have := HF.out.2.2.1; omega) a2
              have ha1 : addE l' a2 = 0 := by unfold addE; rw [if_neg (by have := q3.out; omega), if_neg HF.out.2.2.2]
              have ha2 : addQ l' a2 = l' ++ [a2] := by unfold addQ; rw [if_neg (by have := q3.out; omega), if_neg HF.out.2.2.2]
              rw [ha1, ha2] at hA
              have HA := Lib.hid hA
              clear hA ha1 ha2
              go_wp2_with fail
              refine HA.out.mono ?_
              rintro e w4 ⟨rfl, ht, v4, hQ4⟩
              have hB4 := Below.touch hB ht (Nat.le_refl _) (fun k e => by omega)
              clear ht hQ hB HA
              go_wp2_with fail
              refine (line_any hQ4 (by have := HF.out.2.2.1; simp; omega)).mono ?_
              rintro e w5 ⟨v5, rfl, hb5, hr5⟩
              have hQ5 := hQ4.below hb5
              have hB5 := b_then hB4 hb5
              obtain ⟨b5, cap5, rfl, hbb, hbw, hc5⟩ := hr5.cell l'.length (by simp)
              rw [List.getElem_append_right (Nat.le_refl _)] at hc5
              simp only [Nat.sub_self, List.getElem_cons_zero] at hc5
              rw [show (l' ++ [a2]).length = l'.length + 1 by simp]
              have hA := add_any hQ5 (by have := HF.out.2.2.1; simp; omega) a2
              have ha1 : addE (l' ++ [a2]) a2 = 6 := by unfold addE; rw [if_neg (by have := q3.out; omega), if_pos (by simp)]
              rw [ha1] at hA
              clear ha1 hb5 hQ4 hB4 hr5
              obtain ⟨n, hn⟩ : ∃ n, n = l'.length := ⟨_, rfl⟩
              have hn4 : n ≤ 40 := by rw [hn]; exact HF.out.2.2.1
              rw [← hn] at hc5 ⊢
              clear hn
              go_wp2_with fail
              refine (awake_true _).mono ?_
              rintro e w6 ⟨rfl, hb6⟩
              obtain ⟨hc6, hf6⟩ := bcell hb6
              have hB6 := b_then hB5 hb6
              have hA6 := add_any (hQ5.below hb6) (by have := HF.out.2.2.1; simp; omega) a2
              have ha1 : addE (l' ++ [a2]) a2 = 6 := by unfold addE; rw [if_neg (by have := q3.out; omega), if_pos (by simp)]
              rw [ha1] at hA6
              have HA6 := Lib.hid hA6
              clear hA hA6 ha1
              go_wp2_with fail
              refine HA6.out.mono ?_
              rintro e w7 ⟨rfl, ht, v7, hQ7⟩
              have hB7 := Below.touch hB6 ht (Nat.le_refl _) (fun k e => by omega)
              go_wp2
              go_returns
              exact ⟨rfl, hB7⟩
end Go.Proofs.Ytilibeajejhpbaa
