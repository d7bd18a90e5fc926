/- PcidDrops: a space that dropped its tag gets another one. No condition. -/
import Derived.Test.YthkhpkfigejbdaaTagSt
namespace Go.Proofs.Ythkhpkfigejbdaa
open Go.ChangeShapes Go.WideShapes Go.ChangeAt Go.RowKit
open Go.ChangeMaps (setBlock heap_setBlock_same heap_setBlock_other)
set_option linter.unusedVariables false
set_option linter.unusedSimpArgs false

theorem getSt_gen (most : Int) (st : St) (s : Int) : st.gen ≤ (getSt most st s).1.gen ∧ (getSt most st s).1.gen ≤ st.gen + 1 := by
  unfold getSt
  split
  · constructor
    · exact Int.le_refl _
    · show st.gen ≤ st.gen + 1; omega
  · split <;> constructor <;> simp <;> omega
theorem dropSt_gen (st : St) (s : Int) : (dropSt st s).gen = st.gen := by
  unfold dropSt
  split <;> rfl
theorem drops_end {most : Int} {st : St} (h : Inv most st) (s o : Int) (hne : s ≠ o) :
    kget (dropSt st s).T s = none ∧ ((∃ z st', getSt most (dropSt st s) s = (st', z, false) ∧ kget st'.T o = kget st.T o ∧ (∀ x, kget st.T s = some x → z ≠ x) ∧ (∀ y, kget st.T o = some y → z ≠ y)) ∨
      ∃ st', getSt most (dropSt st s) s = (st', 1, true) ∧ kget st'.T o = none) := by
  have hd : kget (dropSt st s).T s = none ∧ kget (dropSt st s).T o = kget st.T o ∧ (dropSt st s).next = st.next := by
    unfold dropSt
    split
    · rename_i x hx
      refine ⟨?_, ?_, rfl⟩
      · show kget (kdel st.T s) s = none
        rw [kget_del _ h.nodT, if_pos rfl]
      · show kget (kdel st.T s) o = _
        rw [kget_del _ h.nodT, if_neg hne.symm]
    · rename_i hx; exact ⟨hx, rfl, rfl⟩
  obtain ⟨h1, h2, h3⟩ := hd
  refine ⟨h1, ?_⟩
  unfold getSt
  rw [h1]
  by_cases hlt : most < (dropSt st s).next
  · right
    refine ⟨_, by simp only [hlt, if_true]; rfl, ?_⟩
    show kget [(s, 1)] o = none
    simp [kget, hne.symm]
  · left
    refine ⟨st.next, ⟨st.next + 1, (dropSt st s).gen, kput (dropSt st s).O st.next s, kput (dropSt st s).T s st.next⟩, by rw [h3] at hlt ⊢; simp only [hlt, if_false], ?_, ?_, ?_⟩
    · show kget (kput _ s st.next) o = _
      rw [kget_put, if_neg hne.symm, h2]
    · intro x hx; have := h.range hx; omega
    · intro x hx; have := h.range hx; omega
/-- A row of calls: what the slice's element i holds. -/
theorem act_row {w : World} {A : Option Addr} {len : Nat} (h : Rows_ w [.b, .i .i64] A len) {i : Nat} (hi : i < len) : ∃ b off, A = some ⟨b, off, none⟩ ∧ b < w.heap.size ∧ ∃ (d : Bool) (s : Int), w.cell? ⟨b, off + i * 2, none⟩ = some (.bool d) ∧ w.cell? ⟨b, off + i * 2 + 1, none⟩ = some (.int .i64 s) := by
  obtain ⟨_, h2⟩ := h
  obtain ⟨b, off, R, rfl, hb, hr⟩ := h2 (by omega)
  obtain ⟨h3, h4⟩ := hr i hi
  generalize hR : R i = cs at h3 h4
  obtain ⟨_, c1, rfl, ⟨d, rfl⟩, h5⟩ := h3
  obtain ⟨_, c2, rfl, ⟨s, rfl, _⟩, h6⟩ := h5
  exact ⟨b, off, rfl, hb, d, s, h4 0 (by simp), h4 1 (by simp)⟩
set_option maxHeartbeats 1000000 in
theorem walk_PcidDrops (a0 : Int) (A1 : Option Addr) (len1 cap1 : Nat) (a2 : Int) (a3 : Int) (w : World) (w0 : (Lit.int .i64 a0).wf = true) (r1 : Rows_ w [.b, .i .i64] A1 len1) (w2 : (Lit.int .i64 a2).wf = true) (w3 : (Lit.int .i64 a3).wf = true) :
    Calls Try.prog 6 #[.int .i64 a0, .slice A1 len1 cap1, .int .i64 a2, .int .i64 a3] w fun e w' => e = .returned (.bool true) ∧ Below w.heap.size w w' := by
  by_cases hm : 1 ≤ a0 ∧ a0 ≤ 4095
  · obtain ⟨hm1, hm2⟩ := hm
    by_cases hn : a2 = a3
    · subst hn
      go_enter Try.func6, Try.ntmps6
      go_wp2_with fail
      refine (new_q a0 hm1 hm2 _).mono ?_
      rintro e w1 ⟨p, rfl, hb1, hq1⟩
      go_wp2_with fail
      refine (awake_true _).mono ?_
      rintro e w2 ⟨rfl, hb2⟩
      go_wp2
      go_returns
      exact ⟨rfl, b_then hb1 hb2⟩
    · have d1 : (a2 == a3) = false := by simp [hn]
      go_enter Try.func6, Try.ntmps6
      go_wp2_with fail
      refine (new_q a0 hm1 hm2 _).mono ?_
      rintro e w1 ⟨p, rfl, hb1, hq1⟩
      go_wp2_with fail
      go_loopw [11] (fun i wr => ∃ (k : Nat) (st : St), i = .int .i64 k ∧ k ≤ len1 ∧ k ≤ 60 ∧ 0 ≤ st.gen ∧ st.gen ≤ k ∧ Below w.heap.size w wr ∧ Q wr p (fun k => w.heap.size ≤ k) a0 st ∧ Inv a0 st) (fun i _ => (60 - intOf i).toNat)
      case atStart => exact ⟨0, st0, rfl, by omega, by omega, by simp [st0], by simp [st0], hb1, hq1, Inv.zero hm1⟩
      case round =>
        obtain ⟨k, st, rfl, hle, hle2, hg0, hg1, hB, hq, hi⟩ := hrel
        clear hb1 hq1
        by_cases hlt : k < len1 ∧ k < 60
        · obtain ⟨hl1, hl2⟩ := hlt
          obtain ⟨b, off, hA, hbs, d, s, e0, e1⟩ := act_row r1 hl1
          obtain ⟨hc1, hf1⟩ := bcell hB
          have e0' := (hc1 b (off + k * 2) hbs).trans e0
          have e1' := (hc1 b (off + k * 2 + 1) hbs).trans e1
          have f0 : decide (k < len1) = true := decide_eq_true (by omega)
          have f1 : decide ((k : Int) < 60) = true := decide_eq_true (by omega)
          subst hA
          clear hc1 hf1 r1
          cases d
          · go_wp2_with fail
            have hgs := getSt_gen a0 st s
            refine (get_step hB hq hi hm1 hm2 hg0 (by omega) s (st' := (getSt a0 st s).1) (x := (getSt a0 st s).2.1) (over := (getSt a0 st s).2.2) rfl).mono ?_
            rintro e w4 ⟨rfl, hb4, hq4, hi4⟩
            go_wp2
            go_roundw
            case rel => exact ⟨k + 1, _, rfl, by omega, by omega, by omega, by omega, hb4, hq4, hi4⟩
            case measure => simp [intOf]; omega
          · go_wp2_with fail
            have hgs := dropSt_gen st s
            refine (drop_step hB hq hi s).mono ?_
            rintro e w4 ⟨rfl, hb4, hq4, hi4⟩
            go_wp2
            go_roundw
            case rel => exact ⟨k + 1, _, rfl, by omega, by omega, by omega, by omega, hb4, hq4, hi4⟩
            case measure => simp [intOf]; omega
        · obtain ⟨hn1, hend⟩ := drops_end hi a2 a3 hn
          have hdg := dropSt_gen st a2
          have HT := Lib.hid (show ∀ (W : World) (st : St), Q W p (fun k => w.heap.size ≤ k) a0 st → ∀ s, Calls Try.prog 14 #[.pointer (some ⟨p, 0, none⟩), .int .i64 s] W fun e w' => e = .returned (.tuple #[.int .i64 ((kget st.T s).getD 0), .bool (kget st.T s).isSome]) ∧ w' = W from fun W st h s => tag_q h s)
          have t1 := HT.out wr st hq a2
          have t2 := HT.out wr st hq a3
          have hgg : 0 ≤ (dropSt st a2).gen ∧ (dropSt st a2).gen < 4611686018427387904 := by omega
          have hdec : decide (k < len1) = false ∨ (decide (k < len1) = true ∧ decide ((k : Int) < 60) = false) := by
            by_cases h1 : k < len1
            · exact .inr ⟨decide_eq_true (by omega), decide_eq_false (by omega)⟩
            · exact .inl (decide_eq_false (by omega))
          obtain ⟨z, st', ov, hst, hco⟩ : ∃ z st' ov, getSt a0 (dropSt st a2) a2 = (st', z, ov) ∧ ((ov = false ∧ kget st'.T a3 = kget st.T a3 ∧ (∀ x, kget st.T a2 = some x → z ≠ x) ∧ (∀ y, kget st.T a3 = some y → z ≠ y)) ∨ (ov = true ∧ kget st'.T a3 = none)) := by
            rcases hend with ⟨z, st', h1, h2⟩ | ⟨st', h1, h2⟩
            · exact ⟨z, st', false, h1, .inl ⟨rfl, h2⟩⟩
            · exact ⟨1, st', true, h1, .inr ⟨rfl, h2⟩⟩
          clear hend
          have HST := Lib.hid hst
          clear hst
          have HDG := Lib.hid hdg
          clear hdg
          have HN := Lib.hid hn1
          clear hn1
          rcases hx : kget st.T a2 with _ | x <;> rcases hy : kget st.T a3 with _ | y <;> rcases hco with ⟨rfl, hc1, hc2, hc3⟩ | ⟨rfl, hc1⟩ <;> rcases hdec with f0 | ⟨f0, f1⟩ <;> rcases Bool.eq_false_or_eq_true (z == (kget st.T a2).getD 0) with hzx | hzx
          all_goals simp only [hx, hy, Option.getD_some, Option.getD_none, Option.isSome_some, Option.isSome_none] at t1 t2 hzx
          all_goals try exact absurd (by simpa using hzx) (hc2 _ hx)
          all_goals
            try (have z2 : (z == y) = false := by simp [hc3 y hy])
            try (have z2' : (z != y) = true := by simp [hc3 y hy])
            try rw [hy] at hc1
            try clear hc2 hc3
            have HT1 := Lib.hid t1
            have HT2 := Lib.hid t2
            clear t1 t2
            have HC := Lib.hid hc1
            have HX := Lib.hid hx
            have HY := Lib.hid hy
            clear hc1 hx hy
            go_wp2_with fail
            refine HT1.out.mono ?_
            rintro e w4 ⟨rfl, rfl⟩
            go_wp2_with fail
            refine HT2.out.mono ?_
            rintro e w4 ⟨rfl, rfl⟩
            clear HT1 HT2
            go_wp2_with fail
            refine (drop_step hB hq hi a2).mono ?_
            rintro e w4 ⟨rfl, hb4, hq4, hi4⟩
            have t3 := HT.out w4 _ hq4 a2
            rw [HN.out] at t3
            simp only [Option.getD_none, Option.isSome_none] at t3
            have HT3 := Lib.hid t3
            clear t3
            go_wp2_with fail
            refine HT3.out.mono ?_
            rintro e w5 ⟨rfl, rfl⟩
            clear HT3
            go_wp2_with fail
            refine (get_step hb4 hq4 hi4 hm1 hm2 hgg.1 hgg.2 a2 HST.out).mono ?_
            rintro e w6 ⟨rfl, hb6, hq6, hi6⟩
            have t4 := HT.out w6 _ hq6 a3
            rw [HC.out] at t4
            simp only [Option.getD_none, Option.isSome_none, Option.getD_some, Option.isSome_some] at t4
            have HT4 := Lib.hid t4
            clear t4
            go_wp2_with fail
            refine HT4.out.mono ?_
            rintro e w7 ⟨rfl, rfl⟩
            clear HT4
            go_wp2_with fail
            refine (awake_true _).mono ?_
            rintro e w8 ⟨rfl, hb8⟩
            go_wp2
            go_returns
            exact ⟨rfl, b_then hb6 hb8⟩
  · go_enter Try.func6, Try.ntmps6
    go_wp2_with fail
    refine (new_bad a0 hm _).mono ?_
    rintro e w1 ⟨rfl, hb1⟩
    go_wp2_with fail
    refine (awake_true _).mono ?_
    rintro e w2 ⟨rfl, hb2⟩
    go_wp2
    go_returns
    exact ⟨rfl, b_then hb1 hb2⟩
end Go.Proofs.Ythkhpkfigejbdaa
