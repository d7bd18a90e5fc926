/- PcidRound: spaces one after the other get the tags in turn. No condition. -/
import Derived.Test.YthkhpkfigejbdaaTagSt
namespace Go.Proofs.Ythkhpkfigejbdaa
open Go.ChangeShapes Go.WideShapes Go.ChangeAt Go.RowKit
open Go.ChangeMaps (setBlock heap_setBlock_same heap_setBlock_other)
set_option linter.unusedVariables false
set_option linter.unusedSimpArgs false

/-- Behind g rounds and j more gets. -/
structure Rnd (most g j : Int) (st : St) : Prop where
  g0 : 0 ≤ g
  j0 : 0 ≤ j
  jm : j < most
  next : st.next = if j = 0 then (if g = 0 then 1 else most + 1) else j + 1
  gen : st.gen = if j = 0 then (if g = 0 then 0 else g - 1) else g
  low : ∀ x ∈ keys st.T, x ≤ g * most + j
theorem rnd_step {most g j : Int} {st : St} (h : Rnd most g j st) (hm : 1 ≤ most) :
    ∃ st', getSt most st (g * most + j + 1) = (st', j + 1, decide (j = 0) && decide (g ≠ 0)) ∧ st'.gen = g ∧ ∃ g' j', g' * most + j' = g * most + j + 1 ∧ Rnd most g' j' st' := by
  have h0 := h.g0
  have h1 := h.j0
  have h2 := h.jm
  have hn := h.next
  have hg := h.gen
  have hs : kget st.T (g * most + j + 1) = none := (kget_none_iff _ _).2 fun hm => by have := h.low _ hm; omega
  by_cases hc : j = 0 ∧ g ≠ 0
  · obtain ⟨hj, hg0⟩ := hc
    subst hj
    rw [if_pos rfl, if_neg hg0] at hn hg
    refine ⟨⟨2, st.gen + 1, [(1, g * most + 0 + 1)], [(g * most + 0 + 1, 1)]⟩, ?_, by show st.gen + 1 = g; omega, ?_⟩
    · unfold getSt; rw [hs]; simp [hn, hg0]; omega
    · by_cases he : (1 : Int) = most
      · refine ⟨g + 1, 0, by rw [Int.add_mul]; omega, by omega, by omega, by omega, ?_, ?_, ?_⟩
        · show (2 : Int) = _; rw [if_pos rfl, if_neg (by omega)]; omega
        · show st.gen + 1 = _; rw [if_pos rfl, if_neg (by omega)]; omega
        · intro x hx
          have : x = g * most + 0 + 1 := by simpa [keys] using hx
          rw [this, Int.add_mul]; omega
      · refine ⟨g, 1, by omega, by omega, by omega, by omega, ?_, ?_, ?_⟩
        · show (2 : Int) = _; rw [if_neg (by omega)]; omega
        · show st.gen + 1 = _; rw [if_neg (by omega)]; omega
        · intro x hx
          have : x = g * most + 0 + 1 := by simpa [keys] using hx
          rw [this]; omega
  · have hn' : st.next = j + 1 := by
      rw [hn]
      split
      · rename_i e
        have : g = 0 := Classical.byContradiction fun hne => hc ⟨e, hne⟩
        rw [if_pos this]; omega
      · rfl
    have hg' : st.gen = g := by
      rw [hg]
      split
      · rename_i e
        have : g = 0 := Classical.byContradiction fun hne => hc ⟨e, hne⟩
        rw [if_pos this]; omega
      · rfl
    have hb : (decide (j = 0) && decide (g ≠ 0)) = false := by
      by_cases e : j = 0
      · have : g = 0 := Classical.byContradiction fun hne => hc ⟨e, hne⟩
        simp [this]
      · simp [e]
    refine ⟨⟨st.next + 1, st.gen, kput st.O st.next (g * most + j + 1), kput st.T (g * most + j + 1) st.next⟩, ?_, hg', ?_⟩
    · rw [hb]; unfold getSt; rw [hs]; simp only [hn']; rw [if_neg (by omega)]
    · by_cases he : j + 1 = most
      · refine ⟨g + 1, 0, by rw [Int.add_mul]; omega, by omega, by omega, by omega, ?_, ?_, ?_⟩
        · show st.next + 1 = _; rw [if_pos rfl, if_neg (by omega)]; omega
        · show st.gen = _; rw [if_pos rfl, if_neg (by omega)]; omega
        · intro x hx
          rw [Int.add_mul]
          rcases mem_keys_put hx with rfl | hx
          · omega
          · have := h.low x hx; omega
      · refine ⟨g, j + 1, by omega, by omega, by omega, by omega, ?_, ?_, ?_⟩
        · show st.next + 1 = _; rw [if_neg (by omega)]; omega
        · show st.gen = _; rw [if_neg (by omega)]; omega
        · intro x hx
          rcases mem_keys_put hx with rfl | hx
          · omega
          · have := h.low x hx; omega
theorem Q.drewN {w : World} {p : Nat} {A : Nat → Prop} {most : Int} {st : St} (h : Q w p A most st) (n : Nat) : Q (w.drewN n) p A most st := by
  obtain ⟨mo, mt, h1, a⟩ := h
  exact ⟨mo, mt, h1.grow fun _ _ _ => rfl, a⟩
set_option maxHeartbeats 1000000 in
theorem walk_PcidRound (a0 : Int) (a1 : Int) (w : World) (w0 : (Lit.int .i64 a0).wf = true) (w1 : (Lit.int .i64 a1).wf = true) :
    Calls Try.prog 3 #[.int .i64 a0, .int .i64 a1] w fun e w' => e = .returned (.bool true) ∧ Below w.heap.size w w' := by
  by_cases hm : 1 ≤ a0 ∧ a0 ≤ 4095
  · obtain ⟨hm1, hm2⟩ := hm
    by_cases hn : 0 ≤ a1 ∧ a1 ≤ 9000
    · obtain ⟨hn1, hn2⟩ := hn
      have d1 : decide (a1 < 0) = false := decide_eq_false (by omega)
      have d2 : decide (9000 < a1) = false := decide_eq_false (by omega)
      go_enter Try.func3, Try.ntmps3
      go_wp2_with fail
      refine (new_q a0 hm1 hm2 _).mono ?_
      rintro e w1 ⟨p, rfl, hb1, hq1⟩
      go_wp2_with fail
      go_loopw [7] (fun i wr => ∃ (g j : Int) (st : St), i = .int .i64 (g * a0 + j) ∧ g * a0 + j ≤ a1 ∧ Rnd a0 g j st ∧ Below w.heap.size w wr ∧ Q wr p (fun k => w.heap.size ≤ k) a0 st ∧ Inv a0 st) (fun i _ => (a1 - intOf i).toNat)
      case atStart => exact ⟨0, 0, st0, by rw [Int.zero_mul]; rfl, by rw [Int.zero_mul]; omega, ⟨by omega, by omega, by omega, rfl, rfl, by simp [keys, st0]⟩, hb1, hq1, Inv.zero hm1⟩
      case round =>
        obtain ⟨g, j, st, rfl, hle, hr, hB, hq, hi⟩ := hrel
        by_cases hlt : g * a0 + j < a1
        · obtain ⟨st', hst, hgen, g', j', hgj, hr'⟩ := rnd_step hr hm1
          have hj0 := hr.j0
          have hjm := hr.jm
          have hg0 := hr.g0
          have hmul : 0 ≤ g * a0 := Int.mul_nonneg hg0 (by omega)
          have ggen : 0 ≤ st.gen ∧ st.gen < 4611686018427387904 := by
            have := hr.gen
            have h3 : g * 1 ≤ g * a0 := Int.mul_le_mul_of_nonneg_left hm1 hg0
            split at this <;> (try split at this) <;> omega
          have em : (g * a0 + j) % a0 = j := by rw [Int.add_comm, Int.add_mul_emod_self_right]; exact Int.emod_eq_of_lt hj0 hjm
          have ed : (g * a0 + j) / a0 = g := by rw [Int.add_comm, Int.add_mul_ediv_right _ _ (by omega), Int.ediv_eq_zero_of_lt hj0 hjm]; omega
          have em' : (g * a0 + j).tmod a0 = j := by rw [Int.tmod_eq_emod_of_nonneg (by omega)]; exact em
          have ed' : (g * a0 + j).tdiv a0 = g := by rw [Int.tdiv_eq_ediv_of_nonneg (by omega)]; exact ed
          obtain ⟨i, hidef⟩ : ∃ i, g * a0 + j = i := ⟨_, rfl⟩
          have hi00 : 0 ≤ i := by omega
          rw [hidef] at hlt hst em' ed' hgj hle ⊢
          have hz : a0 ≠ 0 := by omega
          have hz' : (a0 == 0) = false := by simp [hz]
          have v1 : IntKind.i64.wrap (i + 1) = i + 1 := IntWalk.i64_in _ (by omega)
          have v1' : wrap64 (i + 1) = i + 1 := IntWalk.wrap64_in _ (by omega)
          have v2 : IntKind.i64.wrap j = j := IntWalk.i64_in _ (by omega)
          have v3 : IntKind.i64.wrap (j + 1) = j + 1 := IntWalk.i64_in _ (by omega)
          have v4 : IntKind.i64.wrap g = g := IntWalk.i64_in _ (by have h3 : g * 1 ≤ g * a0 := Int.mul_le_mul_of_nonneg_left hm1 hg0; omega)
          have HGJ := Lib.hid hgj
          clear hgj em ed hmul
          have dl : decide (i < a1) = true := decide_eq_true hlt
          have ho : ∃ b, (decide (j = 0) && decide (g ≠ 0)) = b ∧ ((i = 0 ∧ b = false ∧ j = 0) ∨ (0 < i ∧ j = 0 ∧ b = true) ∨ (0 < i ∧ j ≠ 0 ∧ b = false)) := by
            refine ⟨_, rfl, ?_⟩
            by_cases h1 : j = 0
            · by_cases h2 : g = 0
              · left; subst h1; subst h2; exact ⟨by rw [← hidef, Int.zero_mul]; omega, by simp, rfl⟩
              · right; left
                have : 1 * a0 ≤ g * a0 := Int.mul_le_mul_of_nonneg_right (by omega) (by omega)
                exact ⟨by omega, h1, by simp [h1, h2]⟩
            · by_cases h2 : 0 < i
              · right; right; exact ⟨h2, h1, by simp [h1]⟩
              · exfalso
                have : 0 * a0 ≤ g * a0 := Int.mul_le_mul_of_nonneg_right (by omega) (by omega)
                omega
          have HID := Lib.hid hidef
          clear hidef
          obtain ⟨b, hb, hcase⟩ := ho
          rw [hb] at hst
          clear hb
          obtain ⟨x, hx⟩ : ∃ x, j + 1 = x := ⟨_, rfl⟩
          rw [hx] at hst v3
          have HST := Lib.hid hst
          clear hst
          have c1 := fun W (hB : Below w.heap.size w W) (hq : Q W p (fun k => w.heap.size ≤ k) a0 st) => get_step hB hq hi hm1 hm2 ggen.1 ggen.2 (i + 1) HST.out
          have GEN := Lib.hid hgen
          clear hgen
          rcases hcase with ⟨rfl, rfl, rfl⟩ | ⟨hi0, rfl, rfl⟩ | ⟨hi0, hj, rfl⟩
          · obtain rfl : x = 1 := by omega
            clear hx
            go_wp2_with fail
            refine (c1 _ hB hq).mono ?_
            rintro e w2 ⟨rfl, hb2, hq2, hi2⟩
            clear c1
            go_wp2_with fail
            have gq : ∀ n, Calls Try.prog 11 #[.pointer (some ⟨p, 0, none⟩)] (w2.drewN n) fun e w' => e = .returned (.int .i64 g) ∧ w' = w2.drewN n := by
              intro n
              rw [← GEN.out]
              exact generation_q (hq2.drewN n)
            go_quiet ((go_at_call 11; exact Calls.quiet_of_same (gq _)))
            clear gq
            go_wp2
            go_roundw
            case rel => exact ⟨g', j', st', congrArg (Value.int .i64) (by have := HGJ.out; omega), by rw [HGJ.out]; omega, hr', below_drewN hb2 _, hq2.drewN _, hi2⟩
            case measure => simp [intOf]; omega
          · have di : decide (0 < i) = true := decide_eq_true hi0
            obtain rfl : x = 1 := by omega
            clear hx
            go_wp2_with fail
            refine (c1 _ hB hq).mono ?_
            rintro e w2 ⟨rfl, hb2, hq2, hi2⟩
            clear c1
            go_wp2_with fail
            have gq : ∀ n, Calls Try.prog 11 #[.pointer (some ⟨p, 0, none⟩)] (w2.drewN n) fun e w' => e = .returned (.int .i64 g) ∧ w' = w2.drewN n := by
              intro n
              rw [← GEN.out]
              exact generation_q (hq2.drewN n)
            go_quiet ((go_at_call 11; exact Calls.quiet_of_same (gq _)))
            clear gq
            go_wp2
            go_roundw
            case rel => exact ⟨g', j', st', congrArg (Value.int .i64) (by have := HGJ.out; omega), by rw [HGJ.out]; omega, hr', below_drewN hb2 _, hq2.drewN _, hi2⟩
            case measure => simp [intOf]; omega
          · have di : decide (0 < i) = true := decide_eq_true hi0
            have dj : (j == 0) = false := by simp [hj]
            go_wp2_with fail
            refine (c1 _ hB hq).mono ?_
            rintro e w2 ⟨rfl, hb2, hq2, hi2⟩
            clear c1
            go_wp2_with fail
            have gq : ∀ n, Calls Try.prog 11 #[.pointer (some ⟨p, 0, none⟩)] (w2.drewN n) fun e w' => e = .returned (.int .i64 g) ∧ w' = w2.drewN n := by
              intro n
              rw [← GEN.out]
              exact generation_q (hq2.drewN n)
            go_quiet ((go_at_call 11; exact Calls.quiet_of_same (gq _)))
            clear gq
            go_wp2
            go_roundw
            case rel => exact ⟨g', j', st', congrArg (Value.int .i64) (by have := HGJ.out; omega), by rw [HGJ.out]; omega, hr', below_drewN hb2 _, hq2.drewN _, hi2⟩
            case measure => simp [intOf]; omega
        · go_wp2_with fail
          refine (awake_true _).mono ?_
          rintro e w2 ⟨rfl, hb2⟩
          go_wp2
          go_returns
          exact ⟨rfl, b_then hB hb2⟩
    · by_cases h1 : a1 < 0
      · have d1 : decide (a1 < 0) = true := decide_eq_true h1
        go_enter Try.func3, Try.ntmps3
        go_wp2_with fail
        refine (new_q a0 hm1 hm2 _).mono ?_
        rintro e w1 ⟨p, rfl, hb1, hq1⟩
        go_wp2_with fail
        refine (awake_true _).mono ?_
        rintro e w2 ⟨rfl, hb2⟩
        go_wp2
        go_returns
        exact ⟨rfl, b_then hb1 hb2⟩
      · have d1 : decide (a1 < 0) = false := decide_eq_false h1
        have d2 : decide (9000 < a1) = true := decide_eq_true (by omega)
        go_enter Try.func3, Try.ntmps3
        go_wp2_with fail
        refine (new_q a0 hm1 hm2 _).mono ?_
        rintro e w1 ⟨p, rfl, hb1, hq1⟩
        go_wp2_with fail
        refine (awake_true _).mono ?_
        rintro e w2 ⟨rfl, hb2⟩
        go_wp2
        go_returns
        exact ⟨rfl, b_then hb1 hb2⟩
  · go_enter Try.func3, Try.ntmps3
    go_wp2_with fail
    refine (new_bad a0 hm _).mono ?_
    rintro e w1 ⟨rfl, hb1⟩
    go_wp2_with fail
    refine (awake_true _).mono ?_
    rintro e w2 ⟨rfl, hb2⟩
    go_wp2
    go_returns
    exact ⟨rfl, b_then hb1 hb2⟩
end Go.Proofs.Ythkhpkfigejbdaa
