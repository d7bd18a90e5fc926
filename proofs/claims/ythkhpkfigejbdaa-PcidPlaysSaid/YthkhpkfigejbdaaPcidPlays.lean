/- PcidPlays: behind any calls tags are given, kept and forgotten as the reference says. No condition. -/
import Derived.Test.YthkhpkfigejbdaaPcidPly
import Derived.Test.YthkhpkfigejbdaaPcidDrops
import Derived.Test.YthkhpkfigejbdaaPcidRound
namespace Go.Proofs.Ythkhpkfigejbdaa
open Go.ChangeShapes Go.WideShapes Go.ChangeAt Go.RowKit
open Go.ChangeMaps (setBlock heap_setBlock_same heap_setBlock_other)
set_option linter.unusedVariables false
set_option linter.unusedSimpArgs false

set_option maxRecDepth 10000 in
set_option maxHeartbeats 2000000 in
theorem walk_PcidPlays (a0 : Int) (A1 : Option Addr) (len1 cap1 : Nat) (a2 : Int) (w : World) (w0 : (Lit.int .i64 a0).wf = true) (r1 : Rows_ w [.b, .i .i64] A1 len1) (w2 : (Lit.int .i64 a2).wf = true) :
    Calls Try.prog 7 #[.int .i64 a0, .slice A1 len1 cap1, .int .i64 a2] w fun e w' => e = .returned (.bool true) ∧ Below w.heap.size w w' := by
  by_cases hm : 1 ≤ a0 ∧ a0 ≤ 4095
  · obtain ⟨hm1, hm2⟩ := hm
    have d1 : decide (a0 < 1) = false := decide_eq_false (by omega)
    have d2 : decide (4095 < a0) = false := decide_eq_false (by omega)
    go_enter Try.func7, Try.ntmps7
    go_wp2_with fail
    refine (new_q a0 hm1 hm2 _).mono ?_
    rintro e w1 ⟨p, rfl, hb1, hq1⟩
    go_wp2_with fail
    refine (awake_true _).mono ?_
    rintro e wa ⟨rfl, hba⟩
    have hqa := hq1.below hba
    have hBa := b_then hb1 hba
    have hBal := hBa.alloc hBa.size (.cells #[.int .i64 a0, .int .i64 0, .slice none 0 0] 42)
    have hqal := hqa.below ((Below.refl wa.heap.size wa).alloc (Nat.le_refl _) (.cells #[.int .i64 a0, .int .i64 0, .slice none 0 0] 42))
    have hXal := heap_new wa (.cells #[.int .i64 a0, .int .i64 0, .slice none 0 0] 42)
    have hGal : GL (wa.alloc (.cells #[.int .i64 a0, .int .i64 0, .slice none 0 0] 42)) w.heap.size (.slice none 0 0) [] := World.ownsRow_nil _ _ _ _
    have hXw : w.heap.size ≤ wa.heap.size := hBa.size
    obtain ⟨X, hXe⟩ : ∃ X, X = wa.heap.size := ⟨_, rfl⟩
    rw [← hXe] at hXal hXw
    have HXE := Lib.hid hXe
    clear hXe hb1 hq1 hba hqa hBa
    go_wp2_with fail
    rw [← HXE.out]
    go_loopw [10] (fun i wr => ∃ (k : Nat) (st : St) (L : List (Int × Bool)) (A : Option Addr) (c : Nat), i = .int .i64 k ∧ k ≤ len1 ∧ k ≤ 80 ∧ 0 ≤ st.gen ∧ st.gen ≤ k ∧ Below w.heap.size w wr ∧ Q wr p (fun k => w.heap.size ≤ k) a0 st ∧ Inv a0 st ∧
      GL wr w.heap.size (.slice A L.length c) L ∧ Ply st L ∧ wr.heap[X]? = some (.cells #[.int .i64 a0, .int .i64 st.gen, .slice A L.length c] 42 (0, 0))) (fun i _ => (80 - intOf i).toNat)
    case atStart => exact ⟨0, st0, [], none, 0, rfl, by omega, by omega, by simp [st0], by simp [st0], hBal, hqal, Inv.zero hm1, hGal, Ply.zero, hXal⟩
    case round =>
      clear hBal hqal hGal hXal
      obtain ⟨k, st, L, A, c, rfl, hle, hle2, hg0, hg1, hB, hq, hi, hG, hP, hX⟩ := hrel
      by_cases hlt : k < len1 ∧ k < 80
      · obtain ⟨hl1, hl2⟩ := hlt
        obtain ⟨b, off, hA, hbs, d, s, e0, e1⟩ := act_row r1 hl1
        have f0 : decide (k < len1) = true := decide_eq_true (by omega)
        have f1 : decide ((k : Int) < 80) = true := decide_eq_true (by omega)
        subst hA
        obtain ⟨hc1, hf1⟩ := bcell hB
        have e0' := (hc1 b (off + k * 2) hbs).trans e0
        have e1' := (hc1 b (off + k * 2 + 1) hbs).trans e1
        clear hc1 hf1 e0 e1
        have hXlt := heap_lt hX
        have hBsz := hB.size
        have hwb : Below wr.heap.size wr (wr.alloc (.cells #[.bool d, .int .i64 s] 36)) := (Below.refl _ _).alloc (Nat.le_refl _) _
        have hqc := (hq.below hwb).typed
        have hXc := heap_below hwb hX
        have hGc := hG.below hwb
        have hBc := b_then hB hwb
        have hcc := heap_new wr (.cells #[.bool d, .int .i64 s] 36)
        have hclt := heap_lt hcc
        have hcX : wr.heap.size ≠ X := by omega
        cases d
        · obtain ⟨st', n, over, hst⟩ : ∃ st' n over, getSt a0 st s = (st', n, over) := ⟨_, _, _, rfl⟩
          have hgs := getSt_gen a0 st s
          rw [hst] at hgs
          have HC := Lib.hid hcc
          have HX := Lib.hid hX
          have HXC := Lib.hid hXc
          have HST := Lib.hid hst
          clear hcc hX hXc hst
          go_wp2_with fail
          refine (get_at hqc hi hm1 hm2 hg0 (by omega) s HST.out).mono ?_
          rintro e w4 ⟨rfl, ht4, hq4, hi4⟩
          replace hq4 := hq4.mono (A' := fun k => w.heap.size ≤ k) (fun k h _ => h.elim (fun h => h.1) (fun h => by rw [World.size_alloc] at h; omega))
          have hB4 := Below.touch hBc ht4 (Nat.le_refl _) (fun k h => h.1)
          have hX4 := ht4.heap HXC.out (fun h => absurd (h.2 _ _ _ HXC.out) (by decide))
          have hc4 := ht4.heap HC.out (fun h => absurd (h.2 _ _ _ HC.out) (by decide))
          have hG4 := hGc.touch ht4 (fun g cs hg h => absurd (h.2 _ _ _ hg) (by decide))
          have x0 := cell_heap hX4 0
          have x1 := cell_heap hX4 1
          have x2 := cell_heap hX4 2
          have c1 := cell_heap hc4 1
          have HX4 := Lib.hid hX4
          have HC4 := Lib.hid hc4
          clear hX4 hc4 HX HXC HC ht4
          go_wp2_with fail
          refine (rGet_q hG4 hB4.size hP hi hm2 hg0 (by omega) s).mono ?_
          rw [HST.out]
          rintro e w5 ⟨v', L', rfl, hb5, hG5, hP5⟩
          obtain ⟨A', c', rfl⟩ := hG5.form
          have hX5 := heap_below hb5 HX4.out
          have hc5 := heap_below hb5 HC4.out
          have hB5 := b_then hB4 hb5
          have hq5 := hq4.below hb5
          have y0 := cell_heap hX5 0
          have y1 := cell_heap hX5 1
          have y2 := cell_heap hX5 2
          have g0 := frozen_heap hX5 0
          have g1 := frozen_heap hX5 1
          have g2 := frozen_heap hX5 2
          have c5 := cell_heap hc5 1
          have hXlt5 := heap_lt hX5
          have hclt5 := heap_lt hc5
          have HX5 := Lib.hid hX5
          have HC5 := Lib.hid hc5
          clear hX5 hc5 x0 x1 x2 c1 HX4 HC4 hb5
          have t6 := ((((Touch.refl (fun k => k = X) w5).setCell (a := ⟨X, 0, none⟩) (.inl rfl) (.int .i64 a0)).setCell (a := ⟨X, 1, none⟩) (.inl rfl) (.int .i64 st'.gen)).setCell (a := ⟨X, 2, none⟩) (.inl rfl) (.slice A' L'.length c')).alloc (.cells #[.int .i64 a0, .int .i64 st'.gen, .slice A' L'.length c'] 42)
          have hq6 := (hq5.typed.touch t6 (fun k h e => by subst e; exact absurd (h.2 _ _ _ HX5.out) (by decide))).mono (A' := fun k => w.heap.size ≤ k) (fun k h _ => h.1)
          have hX6' := heap_set (heap_set (heap_set HX5.out 0 (.int .i64 a0)) 1 (.int .i64 st'.gen)) 2 (.slice A' L'.length c')
          have hG6 := (((hG5.other HX5.out (by decide) 0 (.int .i64 a0)).other (heap_set HX5.out 0 (.int .i64 a0)) (by decide) 1 (.int .i64 st'.gen)).other (heap_set (heap_set HX5.out 0 (.int .i64 a0)) 1 (.int .i64 st'.gen)) (by decide) 2 (.slice A' L'.length c')).below ((Below.refl _ _).alloc (Nat.le_refl _) (.cells #[.int .i64 a0, .int .i64 st'.gen, .slice A' L'.length c'] 42))
          have hX6 := heap_old _ (.cells #[.int .i64 a0, .int .i64 st'.gen, .slice A' L'.length c'] 42) _ hX6'
          have hc6 := t6.heap HC5.out (fun e => hcX e)
          have hB6 := Below.touch hB5 t6 (Nat.le_refl _) (fun k e => e ▸ hXw)
          clear hX6'
          have hi6 := hi4
          have hP6 := hP5
          have H6 := Lib.hid (And.intro hX6 hc6)
          clear hX6 hc6
          go_wp2_with fail
          obtain ⟨hX6, hc6⟩ := H6.out
          clear y0 y1 y2 g0 g1 g2 c5 H6
          have hfind := hP6.find hi6 s
          obtain ⟨x, got, ht1, ht2, hgx⟩ : ∃ x got, (kget st'.T s).getD 0 = x ∧ (kget st'.T s).isSome = got ∧ got = decide (0 < x) := by
            cases hs : kget st'.T s with
            | none => exact ⟨0, false, rfl, rfl, rfl⟩
            | some x => exact ⟨x, true, rfl, rfl, (decide_eq_true (by have := hi6.range hs; omega)).symm⟩
          subst hgx
          rw [ht1] at hfind
          have HFIND := Lib.hid hfind
          have HT1 := Lib.hid ht1
          have HT2 := Lib.hid ht2
          clear hfind ht1 ht2
          have hl6 : L'.length ≤ 4095 := by have h1 := hP6.next; have h2 := hi6.next1; omega
          refine (tag_q hq6 s).mono ?_
          rw [HT1.out, HT2.out]
          rintro e w7 ⟨rfl, rfl⟩
          have z0 := cell_heap hX6 0
          have z1 := cell_heap hX6 1
          have z2 := cell_heap hX6 2
          have z3 := cell_heap hc6 1
          have HX6 := Lib.hid hX6
          have HC6 := Lib.hid hc6
          clear hX6 hc6
          go_wp2_with fail
          refine (rFind_any hG6 (by omega) a0 st'.gen s).mono ?_
          rw [HFIND.out]
          rintro e w7 ⟨rfl, hb7⟩
          have hX7 := heap_below hb7 HX6.out
          have hB7 := b_then hB6 hb7
          have hq7 := hq6.below hb7
          have hG7 := hG6.below hb7
          clear z0 z1 z2 z3 hq6 hG6 hB6 hb7 HX6 HC6
          have z0 := cell_heap hX7 0
          have z1 := cell_heap hX7 1
          have z2 := cell_heap hX7 2
          have HX7 := Lib.hid hX7
          clear hX7
          have hown : ∃ sp ok, (kget st'.O a2).getD 0 = sp ∧ (kget st'.O a2).isSome = ok ∧
              ((ok = false ∧ sp = 0 ∧ (decide (1 ≤ a2) = false ∨ (decide (1 ≤ a2) = true ∧ decide (a2 ≤ (L'.length : Int)) = false))) ∨
               ∃ (j : Nat) (gb cap : Nat), decide (1 ≤ a2) = true ∧ decide (a2 ≤ (L'.length : Int)) = true ∧ j < L'.length ∧ IntKind.i64.wrap (a2 - 1) = j ∧ A' = some ⟨gb, 0, none⟩ ∧ w7.cell? ⟨gb, j * 2 + 1, none⟩ = some (.bool ok) ∧ (ok = true → w7.cell? ⟨gb, j * 2, none⟩ = some (.int .i64 sp)) ∧ (ok = false → sp = 0)) := by
            by_cases h1 : 1 ≤ a2 ∧ a2 ≤ (L'.length : Int)
            · obtain ⟨j, hj⟩ : ∃ j : Nat, a2 = (j : Int) + 1 := ⟨(a2 - 1).toNat, by omega⟩
              have hjl : j < L'.length := by omega
              have ha := hP6.at_ j L'[j] (List.getElem?_eq_getElem hjl)
              obtain ⟨gb, cap, hv, _, _, e0, e1⟩ := hG7.cell (List.getElem?_eq_getElem hjl)
              rw [← hj] at ha
              have hA : A' = some ⟨gb, 0, none⟩ := by simp at hv; exact hv.1
              refine ⟨_, _, rfl, rfl, .inr ⟨j, gb, cap, decide_eq_true h1.1, decide_eq_true h1.2, hjl, ?_, hA, ?_, ?_, ?_⟩⟩
              · rw [hj]; exact (IntWalk.i64_in _ (by omega)).trans (by omega)
              · rw [e1, ha]; cases L'[j].2 <;> rfl
              · rw [ha, e0]
                cases L'[j].2
                · intro h; cases h
                · intro _; rfl
              · rw [ha]
                cases L'[j].2
                · intro _; rfl
                · intro h; cases h
            · have hn : kget st'.O a2 = none := (kget_none_iff _ _).2 fun hm => by
                have h2 := hi6.low _ hm
                have h3 := hP6.next
                omega
              refine ⟨0, false, by rw [hn]; rfl, by rw [hn]; rfl, .inl ⟨rfl, rfl, ?_⟩⟩
              by_cases h2 : 1 ≤ a2
              · exact .inr ⟨decide_eq_true h2, decide_eq_false (fun h => h1 ⟨h2, h⟩)⟩
              · exact .inl (decide_eq_false h2)
          obtain ⟨sp, ok, ho1, ho2, hcase⟩ := hown
          have HO1 := Lib.hid ho1
          have HO2 := Lib.hid ho2
          clear ho1 ho2
          have gq : Hid (∀ n, Calls Try.prog 11 #[.pointer (some ⟨p, 0, none⟩)] (w7.drewN n) fun e w' => e = .returned (.int .i64 st'.gen) ∧ w' = w7.drewN n) := Lib.hid (fun n => generation_q (hq7.drewN n))
          go_wp2_with fail
          refine (owner_q hq7 a2).mono ?_
          rw [HO1.out, HO2.out]
          rintro e w8 ⟨rfl, rfl⟩
          rcases hcase with ⟨rfl, rfl, hd1 | ⟨hd1, hd2⟩⟩ | ⟨j, gb, cap, hd1, hd2, hjl, hw, rfl, e1, e2, e3⟩
          · go_wp2_with fail
            go_quiet ((go_at_call 11; exact Calls.quiet_of_same (gq.out _)))
            go_wp2
            go_roundw
            case rel => exact ⟨k + 1, st', L', _, _, rfl, by omega, by omega, by omega, by omega, below_drewN hB7 _, hq7.drewN _, hi6, hG7, hP6, HX7.out⟩
            case measure => simp [intOf]; omega
          · go_wp2_with fail
            go_quiet ((go_at_call 11; exact Calls.quiet_of_same (gq.out _)))
            go_wp2
            go_roundw
            case rel => exact ⟨k + 1, st', L', _, _, rfl, by omega, by omega, by omega, by omega, below_drewN hB7 _, hq7.drewN _, hi6, hG7, hP6, HX7.out⟩
            case measure => simp [intOf]; omega
          · have hw' : wrap64 (a2 - 1) = j := by rw [← IntWalk.i64_left]; exact hw
            have f2 : decide (j < L'.length) = true := decide_eq_true hjl
            cases ok
            · obtain rfl := e3 rfl
              clear e2 e3
              go_wp2_with fail
              go_quiet ((go_at_call 11; exact Calls.quiet_of_same (gq.out _)))
              go_wp2
              go_roundw
              case rel => exact ⟨k + 1, st', L', _, _, rfl, by omega, by omega, by omega, by omega, below_drewN hB7 _, hq7.drewN _, hi6, hG7, hP6, HX7.out⟩
              case measure => simp [intOf]; omega
            · have e2' := e2 rfl
              clear e2 e3
              go_wp2_with fail
              go_quiet ((go_at_call 11; exact Calls.quiet_of_same (gq.out _)))
              go_wp2
              go_roundw
              case rel => exact ⟨k + 1, st', L', _, _, rfl, by omega, by omega, by omega, by omega, below_drewN hB7 _, hq7.drewN _, hi6, hG7, hP6, HX7.out⟩
              case measure => simp [intOf]; omega
        · obtain ⟨st', hst⟩ : ∃ st', dropSt st s = st' := ⟨_, rfl⟩
          have hgs := dropSt_gen st s
          rw [hst] at hgs
          have hi6 := hi.drop s
          have hP6 := hP.drop hi s
          rw [hst] at hi6 hP6
          obtain ⟨L', hL'⟩ : ∃ L', dropL L s = L' := ⟨_, rfl⟩
          rw [hL'] at hP6
          have HC := Lib.hid hcc
          have HX := Lib.hid hX
          have HXC := Lib.hid hXc
          have HST := Lib.hid hst
          have HLL := Lib.hid hL'
          have HGS := Lib.hid hgs
          have hg0' : 0 ≤ st'.gen := by rw [hgs]; exact hg0
          have hg1' : st'.gen ≤ k := by rw [hgs]; exact hg1
          have hlb : L.length < 1000000 := by have h1 := hP.next; have h2 := hi.next1; omega
          clear hcc hX hXc hst hL' hgs
          go_wp2_with fail
          refine (drop_q hqc s).mono ?_
          rw [HST.out]
          rintro e w4 ⟨rfl, ht4, hq4⟩
          replace hq4 := hq4.mono (A' := fun k => w.heap.size ≤ k) (fun k h _ => h.1)
          have hB4 := Below.touch hBc ht4 (Nat.le_refl _) (fun k h => h.1)
          have hX4 := ht4.heap HXC.out (fun h => absurd (h.2 _ _ _ HXC.out) (by decide))
          have hc4 := ht4.heap HC.out (fun h => absurd (h.2 _ _ _ HC.out) (by decide))
          have hG4 := hGc.touch ht4 (fun g cs hg h => absurd (h.2 _ _ _ hg) (by decide))
          have x0 := cell_heap hX4 0
          have x1 := cell_heap hX4 1
          have x2 := cell_heap hX4 2
          have c1 := cell_heap hc4 1
          have HX4 := Lib.hid hX4
          have HC4 := Lib.hid hc4
          clear hX4 hc4 HX HXC HC ht4
          go_wp2_with fail
          refine (rDrop_any hG4 hB4.size hlb a0 st.gen s).mono ?_
          rw [HLL.out, ← HGS.out]
          rintro e w5 ⟨v', rfl, hb5, hG5⟩
          obtain ⟨A', c', rfl⟩ := hG5.form
          have hX5 := heap_below hb5 HX4.out
          rw [← HGS.out] at hX5
          have hc5 := heap_below hb5 HC4.out
          have hB5 := b_then hB4 hb5
          have hq5 := hq4.below hb5
          have y0 := cell_heap hX5 0
          have y1 := cell_heap hX5 1
          have y2 := cell_heap hX5 2
          have g0 := frozen_heap hX5 0
          have g1 := frozen_heap hX5 1
          have g2 := frozen_heap hX5 2
          have c5 := cell_heap hc5 1
          have hXlt5 := heap_lt hX5
          have hclt5 := heap_lt hc5
          have HX5 := Lib.hid hX5
          have HC5 := Lib.hid hc5
          clear hX5 hc5 x0 x1 x2 c1 HX4 HC4 hb5
          have t6 := (((Touch.refl (fun k => k = X) w5).setCell (a := ⟨X, 0, none⟩) (.inl rfl) (.int .i64 a0)).setCell (a := ⟨X, 1, none⟩) (.inl rfl) (.int .i64 st'.gen)).setCell (a := ⟨X, 2, none⟩) (.inl rfl) (.slice A' L'.length c')
          have hq6 := (hq5.typed.touch t6 (fun k h e => by subst e; exact absurd (h.2 _ _ _ HX5.out) (by decide))).mono (A' := fun k => w.heap.size ≤ k) (fun k h _ => h.1)
          have hX6 := heap_set (heap_set (heap_set HX5.out 0 (.int .i64 a0)) 1 (.int .i64 st'.gen)) 2 (.slice A' L'.length c')
          have hG6 := ((hG5.other HX5.out (by decide) 0 (.int .i64 a0)).other (heap_set HX5.out 0 (.int .i64 a0)) (by decide) 1 (.int .i64 st'.gen)).other (heap_set (heap_set HX5.out 0 (.int .i64 a0)) 1 (.int .i64 st'.gen)) (by decide) 2 (.slice A' L'.length c')
          have hc6 := t6.heap HC5.out (fun e => hcX e)
          have hB6 := Below.touch hB5 t6 (Nat.le_refl _) (fun k e => e ▸ hXw)
          have H6 := Lib.hid (And.intro hX6 hc6)
          clear hX6 hc6
          go_wp2_with fail
          obtain ⟨hX6, hc6⟩ := H6.out
          clear y0 y1 y2 g0 g1 g2 c5 H6
          have hfind := hP6.find hi6 s
          obtain ⟨x, got, ht1, ht2, hgx⟩ : ∃ x got, (kget st'.T s).getD 0 = x ∧ (kget st'.T s).isSome = got ∧ got = decide (0 < x) := by
            cases hs : kget st'.T s with
            | none => exact ⟨0, false, rfl, rfl, rfl⟩
            | some x => exact ⟨x, true, rfl, rfl, (decide_eq_true (by have := hi6.range hs; omega)).symm⟩
          subst hgx
          rw [ht1] at hfind
          have HFIND := Lib.hid hfind
          have HT1 := Lib.hid ht1
          have HT2 := Lib.hid ht2
          clear hfind ht1 ht2
          have hl6 : L'.length ≤ 4095 := by have h1 := hP6.next; have h2 := hi6.next1; omega
          refine (tag_q hq6 s).mono ?_
          rw [HT1.out, HT2.out]
          rintro e w7 ⟨rfl, rfl⟩
          have z0 := cell_heap hX6 0
          have z1 := cell_heap hX6 1
          have z2 := cell_heap hX6 2
          have z3 := cell_heap hc6 1
          have HX6 := Lib.hid hX6
          have HC6 := Lib.hid hc6
          clear hX6 hc6
          go_wp2_with fail
          refine (rFind_any hG6 (by omega) a0 st'.gen s).mono ?_
          rw [HFIND.out]
          rintro e w7 ⟨rfl, hb7⟩
          have hX7 := heap_below hb7 HX6.out
          have hB7 := b_then hB6 hb7
          have hq7 := hq6.below hb7
          have hG7 := hG6.below hb7
          clear z0 z1 z2 z3 hq6 hG6 hB6 hb7 HX6 HC6
          have z0 := cell_heap hX7 0
          have z1 := cell_heap hX7 1
          have z2 := cell_heap hX7 2
          have HX7 := Lib.hid hX7
          clear hX7
          have hown : ∃ sp ok, (kget st'.O a2).getD 0 = sp ∧ (kget st'.O a2).isSome = ok ∧
              ((ok = false ∧ sp = 0 ∧ (decide (1 ≤ a2) = false ∨ (decide (1 ≤ a2) = true ∧ decide (a2 ≤ (L'.length : Int)) = false))) ∨
               ∃ (j : Nat) (gb cap : Nat), decide (1 ≤ a2) = true ∧ decide (a2 ≤ (L'.length : Int)) = true ∧ j < L'.length ∧ IntKind.i64.wrap (a2 - 1) = j ∧ A' = some ⟨gb, 0, none⟩ ∧ w7.cell? ⟨gb, j * 2 + 1, none⟩ = some (.bool ok) ∧ (ok = true → w7.cell? ⟨gb, j * 2, none⟩ = some (.int .i64 sp)) ∧ (ok = false → sp = 0)) := by
            by_cases h1 : 1 ≤ a2 ∧ a2 ≤ (L'.length : Int)
            · obtain ⟨j, hj⟩ : ∃ j : Nat, a2 = (j : Int) + 1 := ⟨(a2 - 1).toNat, by omega⟩
              have hjl : j < L'.length := by omega
              have ha := hP6.at_ j L'[j] (List.getElem?_eq_getElem hjl)
              obtain ⟨gb, cap, hv, _, _, e0, e1⟩ := hG7.cell (List.getElem?_eq_getElem hjl)
              rw [← hj] at ha
              have hA : A' = some ⟨gb, 0, none⟩ := by simp at hv; exact hv.1
              refine ⟨_, _, rfl, rfl, .inr ⟨j, gb, cap, decide_eq_true h1.1, decide_eq_true h1.2, hjl, ?_, hA, ?_, ?_, ?_⟩⟩
              · rw [hj]; exact (IntWalk.i64_in _ (by omega)).trans (by omega)
              · rw [e1, ha]; cases L'[j].2 <;> rfl
              · rw [ha, e0]
                cases L'[j].2
                · intro h; cases h
                · intro _; rfl
              · rw [ha]
                cases L'[j].2
                · intro _; rfl
                · intro h; cases h
            · have hn : kget st'.O a2 = none := (kget_none_iff _ _).2 fun hm => by
                have h2 := hi6.low _ hm
                have h3 := hP6.next
                omega
              refine ⟨0, false, by rw [hn]; rfl, by rw [hn]; rfl, .inl ⟨rfl, rfl, ?_⟩⟩
              by_cases h2 : 1 ≤ a2
              · exact .inr ⟨decide_eq_true h2, decide_eq_false (fun h => h1 ⟨h2, h⟩)⟩
              · exact .inl (decide_eq_false h2)
          obtain ⟨sp, ok, ho1, ho2, hcase⟩ := hown
          have HO1 := Lib.hid ho1
          have HO2 := Lib.hid ho2
          clear ho1 ho2
          have gq : Hid (∀ n, Calls Try.prog 11 #[.pointer (some ⟨p, 0, none⟩)] (w7.drewN n) fun e w' => e = .returned (.int .i64 st'.gen) ∧ w' = w7.drewN n) := Lib.hid (fun n => generation_q (hq7.drewN n))
          go_wp2_with fail
          refine (owner_q hq7 a2).mono ?_
          rw [HO1.out, HO2.out]
          rintro e w8 ⟨rfl, rfl⟩
          rcases hcase with ⟨rfl, rfl, hd1 | ⟨hd1, hd2⟩⟩ | ⟨j, gb, cap, hd1, hd2, hjl, hw, rfl, e1, e2, e3⟩
          · go_wp2_with fail
            go_quiet ((go_at_call 11; exact Calls.quiet_of_same (gq.out _)))
            go_wp2
            go_roundw
            case rel => exact ⟨k + 1, st', L', _, _, rfl, by omega, by omega, by omega, by omega, below_drewN hB7 _, hq7.drewN _, hi6, hG7, hP6, HX7.out⟩
            case measure => simp [intOf]; omega
          · go_wp2_with fail
            go_quiet ((go_at_call 11; exact Calls.quiet_of_same (gq.out _)))
            go_wp2
            go_roundw
            case rel => exact ⟨k + 1, st', L', _, _, rfl, by omega, by omega, by omega, by omega, below_drewN hB7 _, hq7.drewN _, hi6, hG7, hP6, HX7.out⟩
            case measure => simp [intOf]; omega
          · have hw' : wrap64 (a2 - 1) = j := by rw [← IntWalk.i64_left]; exact hw
            have f2 : decide (j < L'.length) = true := decide_eq_true hjl
            cases ok
            · obtain rfl := e3 rfl
              clear e2 e3
              go_wp2_with fail
              go_quiet ((go_at_call 11; exact Calls.quiet_of_same (gq.out _)))
              go_wp2
              go_roundw
              case rel => exact ⟨k + 1, st', L', _, _, rfl, by omega, by omega, by omega, by omega, below_drewN hB7 _, hq7.drewN _, hi6, hG7, hP6, HX7.out⟩
              case measure => simp [intOf]; omega
            · have e2' := e2 rfl
              clear e2 e3
              go_wp2_with fail
              go_quiet ((go_at_call 11; exact Calls.quiet_of_same (gq.out _)))
              go_wp2
              go_roundw
              case rel => exact ⟨k + 1, st', L', _, _, rfl, by omega, by omega, by omega, by omega, below_drewN hB7 _, hq7.drewN _, hi6, hG7, hP6, HX7.out⟩
              case measure => simp [intOf]; omega
      · have hdec : decide (k < len1) = false ∨ (decide (k < len1) = true ∧ decide ((k : Int) < 80) = false) := by
          by_cases h1 : k < len1
          · exact .inr ⟨decide_eq_true (by omega), decide_eq_false (by omega)⟩
          · exact .inl (decide_eq_false (by omega))
        clear hlt
        rcases hdec with f0 | ⟨f0, f1⟩
        all_goals
          go_wp2
          go_returns
          exact ⟨rfl, hB⟩
  · have hdec : decide (a0 < 1) = true ∨ (decide (a0 < 1) = false ∧ decide (4095 < a0) = true) := by
      by_cases h1 : a0 < 1
      · exact .inl (decide_eq_true h1)
      · exact .inr ⟨decide_eq_false h1, decide_eq_true (by omega)⟩
    rcases hdec with f0 | ⟨f0, f1⟩
    all_goals
      go_enter Try.func7, Try.ntmps7
      go_wp2_with fail
      refine (new_bad a0 hm _).mono ?_
      rintro e w1 ⟨rfl, hb1⟩
      go_wp2_with fail
      refine (awake_true _).mono ?_
      rintro e w2 ⟨rfl, hb2⟩
      go_wp2
      go_returns
      exact ⟨rfl, b_then hb1 hb2⟩
end Go.Proofs.Ythkhpkfigejbdaa
