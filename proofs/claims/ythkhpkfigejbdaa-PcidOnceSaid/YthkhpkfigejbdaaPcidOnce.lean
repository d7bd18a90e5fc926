/- PcidOnce: in one generation a tag is never given to two spaces. No condition. -/
import Derived.Test.YthkhpkfigejbdaaPcidKeeps
import Derived.Test.YthkhpkfigejbdaaPcidDrops
namespace Go.Proofs.Ythkhpkfigejbdaa
open Go.ChangeShapes Go.WideShapes Go.ChangeAt Go.RowKit
open Go.ChangeMaps (setBlock heap_setBlock_same heap_setBlock_other)
set_option linter.unusedVariables false
set_option linter.unusedSimpArgs false

/-- What the law's own list knows: a tag in it is given, and nobody else has it. -/
def Onc (st : St) (M : List (Int × Int)) : Prop := ∀ x s', kget M x = some s' → x < st.next ∧ ∀ s, kget st.T s = some x → s = s'
theorem Onc.drop {st : St} {M : List (Int × Int)} {most : Int} (hi : Inv most st) (h : Onc st M) (s : Int) : Onc (dropSt st s) M := by
  intro x s' hx
  obtain ⟨h1, h2⟩ := h x s' hx
  unfold dropSt
  split
  · refine ⟨h1, fun q hq => ?_⟩
    have hq' : kget (kdel st.T s) q = some x := hq
    rw [kget_del _ hi.nodT] at hq'
    split at hq'
    · cases hq'
    · exact h2 q hq'
  · exact ⟨h1, h2⟩
theorem once_step {most : Int} {st : St} {M : List (Int × Int)} (hm : 1 ≤ most) (hi : Inv most st) (h : Onc st M) (s : Int) :
    ∃ st' n over, getSt most st s = (st', n, over) ∧ 1 ≤ n ∧ n ≤ most ∧ kget st'.O n = some s ∧ kget st'.T s = some n ∧
      (over = true ∧ Onc st' (kput [] n s) ∨ over = false ∧ Onc st' (kput M n s) ∧ (kget M n = none ∨ kget M n = some s)) := by
  have hn0 := hi.next0
  have hn1 := hi.next1
  cases hs : kget st.T s with
  | some x =>
    have hr := hi.range hs
    have ho := (hi.inv s x).1 hs
    refine ⟨st, x, false, by unfold getSt; rw [hs], hr.1, by omega, ho, hs, .inr ⟨rfl, ?_, ?_⟩⟩
    · intro y s' hy
      rw [kget_put] at hy
      split at hy
      · rename_i e; subst e
        obtain rfl := Option.some.inj hy
        refine ⟨hr.2, fun q hq => ?_⟩
        have := (hi.inv q y).1 hq
        rw [ho] at this
        exact (Option.some.inj this).symm
      · exact h y s' hy
    · cases hM : kget M x with
      | none => exact .inl rfl
      | some s' => right; rw [(h x s' hM).2 s hs]
  | none =>
    by_cases hlt : most < st.next
    · refine ⟨⟨2, st.gen + 1, [(1, s)], [(s, 1)]⟩, 1, true, by unfold getSt; rw [hs]; simp [hlt], by omega, hm, by simp [kget], by simp [kget], .inl ⟨rfl, ?_⟩⟩
      intro y s' hy
      have hy' : kget [((1 : Int), s)] y = some s' := hy
      unfold kget at hy'
      split at hy'
      · rename_i e; subst e
        obtain rfl := Option.some.inj hy'
        refine ⟨by show (1 : Int) < 2; omega, fun q hq => ?_⟩
        have hq' : kget [(s, (1 : Int))] q = some (1 : Int) := hq
        unfold kget at hq'
        split at hq'
        · assumption
        · cases hq'
      · cases hy'
    · have hMn : kget M st.next = none := by
        cases hM : kget M st.next with
        | none => rfl
        | some s' => have := (h _ _ hM).1; omega
      refine ⟨⟨st.next + 1, st.gen, kput st.O st.next s, kput st.T s st.next⟩, st.next, false, by unfold getSt; rw [hs]; simp [hlt], hn0, by omega, ?_, ?_, .inr ⟨rfl, ?_, .inl hMn⟩⟩
      · show kget (kput st.O st.next s) st.next = _; rw [kget_put, if_pos rfl]
      · show kget (kput st.T s st.next) s = _; rw [kget_put, if_pos rfl]
      · intro y s' hy
        rw [kget_put] at hy
        split at hy
        · rename_i e; subst e
          obtain rfl := Option.some.inj hy
          refine ⟨by show st.next < st.next + 1; omega, fun q hq => ?_⟩
          have hq' : kget (kput st.T s st.next) q = some st.next := hq
          rw [kget_put] at hq'
          split at hq'
          · assumption
          · have := (hi.inv _ _).1 hq'
            rw [hi.free] at this; cases this
        · obtain ⟨h1, h2⟩ := h y s' hy
          refine ⟨by show y < st.next + 1; omega, fun q hq => ?_⟩
          have hq' : kget (kput st.T s st.next) q = some y := hq
          rw [kget_put] at hq'
          split at hq'
          · have := Option.some.inj hq'; omega
          · exact h2 q hq'
theorem get_have_q {w : World} {p : Nat} {A : Nat → Prop} {most : Int} {st : St} (h : Q w p A most st) {s x : Int} (hs : kget st.T s = some x) :
    Calls Try.prog 10 #[.pointer (some ⟨p, 0, none⟩), .int .i64 s] w fun e w' => e = .returned (.tuple #[.int .i64 x, .bool false]) ∧ w' = w := by
  obtain ⟨mo, mt, h1, _⟩ := h
  exact get_have w h1 s x hs
set_option maxRecDepth 10000 in
set_option maxHeartbeats 1000000 in
theorem walk_PcidOnce (a0 : Int) (A1 : Option Addr) (len1 cap1 : Nat) (w : World) (w0 : (Lit.int .i64 a0).wf = true) (r1 : Rows_ w [.b, .i .i64] A1 len1) :
    Calls Try.prog 5 #[.int .i64 a0, .slice A1 len1 cap1] w fun e w' => e = .returned (.bool true) ∧ Below w.heap.size w w' := by
  by_cases hm : 1 ≤ a0 ∧ a0 ≤ 4095
  · obtain ⟨hm1, hm2⟩ := hm
    have hmm := @run_makeMap Try.prog
    go_enter Try.func5, Try.ntmps5
    go_wp2_with fail
    refine (new_q a0 hm1 hm2 _).mono ?_
    rintro e w1 ⟨p, rfl, hb1, hq1⟩
    go_wp2_with fail
    have hsz := hb1.size
    have hm0 := MapAL.made w1
    obtain ⟨m0, hmd⟩ : ∃ m0, m0 = w1.heap.size := ⟨_, rfl⟩
    have hq0 : Q (w1.alloc (.map #[] 0)) p (fun k => w.heap.size ≤ k ∧ k ≠ m0) a0 st0 := (hq1.mono (fun k h h2 => ⟨h, by omega⟩)).below ((Below.refl _ _).alloc (Nat.le_refl _) _)
    have hB0 : Below w.heap.size w (w1.alloc (.map #[] 0)) := hb1.alloc hb1.size _
    rw [← hmd] at hm0 ⊢
    have hwm : w.heap.size ≤ m0 := by omega
    clear hmm hmd hsz hb1 hq1
    go_loopw [7, 8] (fun v i wr => ∃ (k : Nat) (st : St) (m : Nat) (M : List (Int × Int)), v = .map (some m) ∧ i = .int .i64 k ∧ k ≤ len1 ∧ k ≤ 80 ∧ 0 ≤ st.gen ∧ st.gen ≤ k ∧ Below w.heap.size w wr ∧ Q wr p (fun k => w.heap.size ≤ k ∧ k ≠ m) a0 st ∧ Inv a0 st ∧ MapAL wr m (enc iv M) ∧ Onc st M ∧ w.heap.size ≤ m) (fun _ i _ => (80 - intOf i).toNat)
    case atStart => exact ⟨0, st0, m0, [], rfl, rfl, by omega, by omega, by simp [st0], by simp [st0], hB0, hq0, Inv.zero hm1, hm0, (fun x s' h => by cases h), hwm⟩
    case round =>
      clear hB0 hq0 hm0 hwm
      obtain ⟨k, st, m, M, rfl, rfl, hle, hle2, hg0, hg1, hB, hq, hi, hM, hon, hwm⟩ := hrel
      by_cases hlt : k < len1 ∧ k < 80
      · obtain ⟨hl1, hl2⟩ := hlt
        obtain ⟨b, off, hA, hbs, d, s, e0, e1⟩ := act_row r1 hl1
        have f0 : decide (k < len1) = true := decide_eq_true (by omega)
        have f1 : decide ((k : Int) < 80) = true := decide_eq_true (by omega)
        subst hA
        obtain ⟨hc1, hf1⟩ := bcell hB
        have e0' := (hc1 b (off + k * 2) hbs).trans e0
        have e1' := (hc1 b (off + k * 2 + 1) hbs).trans e1
        clear hc1 hf1 e0 e1
        obtain ⟨c, hcd⟩ : ∃ c, c = wr.heap.size := ⟨_, rfl⟩
        have hmlt := hM.lt
        have hcm : c ≠ m := by omega
        have hBsz := hB.size
        have hwc : w.heap.size ≤ c := by omega
        obtain ⟨wc, hwcd⟩ : ∃ wc, wc = wr.alloc (.cells #[.bool d, .int .i64 s] 36) := ⟨_, rfl⟩
        have hwb : Below wr.heap.size wr wc := by rw [hwcd]; exact (Below.refl _ _).alloc (Nat.le_refl _) _
        have hqc : Q wc p (fun k => w.heap.size ≤ k ∧ k ≠ m ∧ k ≠ c) a0 st := (hq.mono (fun k h h2 => ⟨h.1, h.2, by omega⟩)).below hwb
        have hMc := hM.below hwb
        have hBc := b_then hB hwb
        have hcc : wc.heap[c]? = some (.cells #[.bool d, .int .i64 s] 36 (0, 0)) := by rw [hwcd, hcd]; exact heap_new wr _
        have hclt := heap_lt hcc
        have HCD := Lib.hid hcd
        have HWC := Lib.hid hwcd
        have HCC := Lib.hid hcc
        clear hcd hwcd hcc
        cases d
        · go_wp2_with fail
          rw [← HCD.out, ← HWC.out]
          obtain ⟨st', n, over, hst, hn0, hn1, hO, hT, hcase⟩ := once_step hm1 hi hon s
          have hgs := getSt_gen a0 st s
          rw [hst] at hgs
          refine (get_at hqc hi hm1 hm2 hg0 (by omega) s hst).mono ?_
          rintro e w4 ⟨rfl, ht4, hq4, hi4⟩
          have hwcs : wr.heap.size < wc.heap.size := by rw [← HCD.out]; exact hclt
          replace hq4 := hq4.mono (A' := fun k => w.heap.size ≤ k ∧ k ≠ m ∧ k ≠ c) (fun k h _ => h.elim id (fun h => ⟨by omega, by omega, by omega⟩))
          have hM4 := hMc.touch ht4 (fun h => h.2.1 rfl)
          have hB4 := Below.touch hBc ht4 (Nat.le_refl _) (fun k h => h.1)
          have hc4 := (ht4.block c hclt (fun h => h.2.2 rfl)).trans HCC.out
          have c4 := cell_heap hc4 1
          have hc4lt := heap_lt hc4
          have g0 : decide (n < 1) = false := decide_eq_false (by omega)
          have g1 : decide (a0 < n) = false := decide_eq_false (by omega)
          have HST := Lib.hid hst
          have HO := Lib.hid hO
          have HTS := Lib.hid hT
          have HC4 := Lib.hid hc4
          clear hst hO hT ht4 hc4
          rcases hcase with ⟨rfl, hon'⟩ | ⟨rfl, hon', hgv⟩
          · have HON := Lib.hid hon'
            clear hon'
            have hmm := @run_makeMap Try.prog
            have hM5 : MapAL (w4.alloc (.map #[] 0)) w4.heap.size (enc iv []) := MapAL.made w4
            have hwb5 : Below w4.heap.size w4 (w4.alloc (.map #[] 0)) := (Below.refl _ _).alloc (Nat.le_refl _) _
            have hq5 : Q (w4.alloc (.map #[] 0)) p (fun k => w.heap.size ≤ k ∧ k ≠ w4.heap.size ∧ k ≠ c) a0 st' := (hq4.mono (fun k h h2 => ⟨h.1, by omega, h.2.2⟩)).below hwb5
            have hB5 := b_then hB4 hwb5
            have c5 := cell_heap (heap_below hwb5 HC4.out) 1
            have hwo : w.heap.size ≤ w4.heap.size := hB4.size
            have hcm' : c ≠ w4.heap.size := by omega
            have HGV : Hid (kget ([] : List (Int × Int)) n = none) := Lib.hid rfl
            clear c4 hcm
            have hcm := hcm'
            have hlk := look_iv hM5 n
            rw [HGV.out] at hlk
            simp only [Option.getD_none, Option.isSome_none, Option.getD_some, Option.isSome_some] at hlk
            obtain ⟨o, hmu, hM6⟩ := run_mapUpdate_al (P := Try.prog) under32 under3 hM5 n (iv s)
            rw [aput_enc] at hM6
            simp only [iv] at hmu
            have c6 : (setBlock (w4.alloc (.map #[] 0)) w4.heap.size o).cell? ⟨c, 1, none⟩ = _ := (set_cell (show c ≠ w4.heap.size from hcm)).trans c5
            have hq6 := set_q hq5 (fun k h => h.2.1) o
            have hB6 := set_below hB5 hwo o
            go_wp2_with fail
            refine (owner_q hq6 _).mono ?_
            rw [HO.out]
            simp only [Option.getD_some, Option.isSome_some]
            rintro e w6 ⟨rfl, rfl⟩
            go_wp2_with fail
            refine (get_have_q hq6 HTS.out).mono ?_
            rintro e w6 ⟨rfl, rfl⟩
            go_wp2
            go_roundw
            case rel => exact ⟨k + 1, st', w4.heap.size, _, rfl, rfl, by omega, by omega, by omega, by omega, hB6, hq6.mono (fun k h _ => ⟨h.1, h.2.1⟩), hi4, hM6, HON.out, hwo⟩
            case measure => simp [intOf]; omega
          · have HON := Lib.hid hon'
            clear hon'
            have hM5 := hM4
            have hq5 := hq4
            have hB5 := hB4
            have c5 := c4
            rcases hgv with hgv | hgv
            · have HGV := Lib.hid hgv
              clear hgv
              have hlk := look_iv hM5 n
              rw [HGV.out] at hlk
              simp only [Option.getD_none, Option.isSome_none, Option.getD_some, Option.isSome_some] at hlk
              obtain ⟨o, hmu, hM6⟩ := run_mapUpdate_al (P := Try.prog) under32 under3 hM5 n (iv s)
              rw [aput_enc] at hM6
              simp only [iv] at hmu
              have c6 : (setBlock w4 m o).cell? ⟨c, 1, none⟩ = _ := (set_cell (show c ≠ m from hcm)).trans c5
              have hq6 := set_q hq5 (fun k h => h.2.1) o
              have hB6 := set_below hB5 hwm o
              go_wp2_with fail
              refine (owner_q hq6 _).mono ?_
              rw [HO.out]
              simp only [Option.getD_some, Option.isSome_some]
              rintro e w6 ⟨rfl, rfl⟩
              go_wp2_with fail
              refine (get_have_q hq6 HTS.out).mono ?_
              rintro e w6 ⟨rfl, rfl⟩
              go_wp2
              go_roundw
              case rel => exact ⟨k + 1, st', m, _, rfl, rfl, by omega, by omega, by omega, by omega, hB6, hq6.mono (fun k h _ => ⟨h.1, h.2.1⟩), hi4, hM6, HON.out, hwm⟩
              case measure => simp [intOf]; omega
            · have HGV := Lib.hid hgv
              clear hgv
              have hlk := look_iv hM5 n
              rw [HGV.out] at hlk
              simp only [Option.getD_none, Option.isSome_none, Option.getD_some, Option.isSome_some] at hlk
              obtain ⟨o, hmu, hM6⟩ := run_mapUpdate_al (P := Try.prog) under32 under3 hM5 n (iv s)
              rw [aput_enc] at hM6
              simp only [iv] at hmu
              have c6 : (setBlock w4 m o).cell? ⟨c, 1, none⟩ = _ := (set_cell (show c ≠ m from hcm)).trans c5
              have hq6 := set_q hq5 (fun k h => h.2.1) o
              have hB6 := set_below hB5 hwm o
              go_wp2_with fail
              refine (owner_q hq6 _).mono ?_
              rw [HO.out]
              simp only [Option.getD_some, Option.isSome_some]
              rintro e w6 ⟨rfl, rfl⟩
              go_wp2_with fail
              refine (get_have_q hq6 HTS.out).mono ?_
              rintro e w6 ⟨rfl, rfl⟩
              go_wp2
              go_roundw
              case rel => exact ⟨k + 1, st', m, _, rfl, rfl, by omega, by omega, by omega, by omega, hB6, hq6.mono (fun k h _ => ⟨h.1, h.2.1⟩), hi4, hM6, HON.out, hwm⟩
              case measure => simp [intOf]; omega
        · go_wp2_with fail
          rw [← HCD.out, ← HWC.out]
          have hgs := dropSt_gen st s
          refine (drop_q hqc s).mono ?_
          rintro e w4 ⟨rfl, ht4, hq4⟩
          have hB4 := Below.touch hBc ht4 (Nat.le_refl _) (fun k h => h.1)
          have hM4 := hMc.touch ht4 (fun h => h.2.1 rfl)
          go_wp2
          go_roundw
          case rel => exact ⟨k + 1, _, m, M, rfl, rfl, by omega, by omega, by omega, by omega, hB4, hq4.mono (fun k h _ => ⟨h.1, h.2.1⟩), hi.drop s, hM4, hon.drop hi s, hwm⟩
          case measure => simp [intOf]; omega
      · have hdec : decide (k < len1) = false ∨ (decide (k < len1) = true ∧ decide ((k : Int) < 80) = false) := by
          by_cases h1 : k < len1
          · exact .inr ⟨decide_eq_true (by omega), decide_eq_false (by omega)⟩
          · exact .inl (decide_eq_false (by omega))
        clear hlt
        rcases hdec with f0 | ⟨f0, f1⟩
        all_goals
          go_wp2_with fail
          refine (awake_true _).mono ?_
          rintro e w2 ⟨rfl, hb2⟩
          go_wp2
          go_returns
          exact ⟨rfl, b_then hB hb2⟩
  · have hdec : decide (a0 < 1) = true ∨ (decide (a0 < 1) = false ∧ decide (4095 < a0) = true) := by
      by_cases h1 : a0 < 1
      · exact .inl (decide_eq_true h1)
      · exact .inr ⟨decide_eq_false h1, decide_eq_true (by omega)⟩
    rcases hdec with f0 | ⟨f0, f1⟩
    all_goals
      go_enter Try.func5, Try.ntmps5
      go_wp2_with fail
      refine (new_bad a0 hm _).mono ?_
      rintro e w1 ⟨rfl, hb1⟩
      go_wp2_with fail
      refine (awake_true _).mono ?_
      rintro e w2 ⟨rfl, hb2⟩
      go_wp2
      go_returns
      exact ⟨rfl, b_then hb1 hb2⟩
end Go.Proofs.Ythkhpkfigejbdaa
