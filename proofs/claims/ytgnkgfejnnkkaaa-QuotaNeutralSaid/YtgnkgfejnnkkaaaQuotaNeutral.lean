/- QuotaNeutral answers true: its walk. No condition. -/
import Derived.Test.YtgnkgfejnnkkaaaQuoY
import Derived.Deep.RegionHeld3
import Derived.Deep.DrawnRows
namespace Go.Proofs.Ytgnkgfejnnkkaaa
open Go.ChangeShapes Go.WideShapes Go.ChangeAt Go.RowKit
set_option linter.unusedVariables false
set_option linter.unusedSimpArgs false
attribute [local go_sem ↓] Go.wp_at_zero Go.wp_at_succ
set_option maxHeartbeats 4000000 in
theorem walk_QuotaNeutral (a0 : Int) (A1 : Option Addr) (len1 cap1 : Nat) (a2 : Int) (a3 : Int) (w : World) (w0 : (Lit.int .i64 a0).wf = true) (r1 : Rows_ w [.i .i64, .i .i64, .i .i64] A1 len1) (w2 : (Lit.int .i64 a2).wf = true) (w3 : (Lit.int .i64 a3).wf = true) :
    Calls Try.prog 4 #[.int .i64 a0, .slice A1 len1 cap1, .int .i64 a2, .int .i64 a3] w fun e w' => e = .returned (.bool true) ∧ Below w.heap.size w w' := by
  by_cases hg : a0 < 0 ∨ 1048576 < a0
  · have HN := Lib.hid (new_bad (w := w) a0 hg)
    clear hg w0 w2 w3 r1
    go_enter Try.func4, Try.ntmps4
    go_wp2_with fail
    refine HN.out.mono ?_
    rintro e w1 ⟨rfl, hw⟩
    obtain rfl := hw.symm
    clear hw
    go_wp2_with fail
    refine awake_true.mono ?_
    rintro e w1 ⟨rfl, hb1⟩
    go_wp2
    go_returns
    exact ⟨rfl, hb1⟩
  · have A0 := Lib.hid (new_good (w := w) a0 (by omega) (by omega))
    have i0 := Lib.hid (TInv.new (root := a0) (by omega) (by omega))
    have hle1 : len1 ≤ 9223372036854775807 := r1.1
    have R1 := Lib.hid r1
    clear hg w0 w2 w3 r1
    go_enter Try.func4, Try.ntmps4
    go_wp2_with fail
    refine A0.out.mono ?_
    rintro e w1 ⟨t, v1, rfl, h1, hb1⟩
    have H1 : Hid (TreeOk a0 w.heap.size t w1 [⟨-1, a0, 0, 0, true⟩]) := Lib.hid ⟨i0.out, v1, h1⟩
    have HB1 := Lib.hid hb1
    clear h1 hb1 A0
    go_wp2_with fail
    go_loopw [11] (fun i wr => ∃ (k : Nat), i = .int .i64 k ∧ k ≤ len1 ∧ k ≤ 60 ∧ Hid (∃ L, TreeOk a0 w.heap.size t wr L) ∧ Hid (Below w.heap.size w wr)) (fun i _ => 60 - (intOf i).toNat)
    case atStart => exact ⟨0, rfl, by omega, by omega, Lib.hid ⟨_, H1.out⟩, HB1⟩
    case round =>
      obtain ⟨k, rfl, hle, hle2, HT, HB⟩ := hrel
      obtain ⟨L, hT⟩ := HT.out
      have HTL := Lib.hid hT
      clear hT HT H1 HB1
      by_cases hlt : k < len1 ∧ k < 60
      · obtain ⟨hl1, hl2⟩ := hlt
        obtain ⟨b, off, x, y, z, hA, hbs, e0, e1, e2⟩ := act_row R1.out hl1
        have f0 : decide (k < len1) = true := decide_eq_true (by omega)
        have f1 : decide ((k : Int) < 60) = true := decide_eq_true (by omega)
        subst hA
        have hc1 := fun b o (h : b < w.heap.size) => HB.out.cell (p := ⟨b, o, none⟩) h
        have c0 := (hc1 b _ hbs).trans e0
        have c1 := (hc1 b _ hbs).trans e1
        have c2 := (hc1 b _ hbs).trans e2
        clear hc1 e0 e1 e2
        go_wp2_with fail
        refine (does_nil HTL.out HB.out.size x y z).mono ?_
        rintro e w3 ⟨v3, rfl, hu3, h3⟩
        have H3 := Lib.hid h3
        have HB3 := Lib.hid (hu3.below HB.out (Nat.le_refl _))
        clear hu3 h3
        go_wp2_with fail
        go_roundw
        case rel => exact ⟨k + 1, by go_num, by omega, by omega, Lib.hid ⟨_, H3.out⟩, HB3⟩
        case measure => simp [intOf]; omega
      · have hc : (decide (k < len1) = true ∧ decide ((k : Int) < 60) = false) ∨ decide (k < len1) = false := by
          by_cases h1 : k < len1
          · exact .inl ⟨decide_eq_true h1, decide_eq_false (by omega)⟩
          · exact .inr (decide_eq_false h1)
        obtain ⟨hi, v, hT⟩ := HTL.out
        obtain ⟨x, hx⟩ : ∃ x, x = getD L a2 := ⟨_, rfl⟩
        obtain ⟨ok, hok⟩ : ∃ b, b = (liveAt L a2).isSome := ⟨_, rfl⟩
        have HG : Hid (∀ W v, TreeAt W w.heap.size t v L → Calls Try.prog 14 #[.pointer (some ⟨t, 0, none⟩), .int .i64 a2] W fun e w' => e = .returned (.tuple #[x.val, .bool ok]) ∧ Below W.heap.size W w') := Lib.hid (fun W v h => by rw [hx, hok]; exact get_any h a2)
        obtain ⟨ce, hce⟩ : ∃ c, c = chargeE L a2 a3 := ⟨_, rfl⟩
        obtain ⟨L2, hL2⟩ : ∃ l, l = chargeL L a2 a3 := ⟨_, rfl⟩
        have HC : Hid (∀ W v, TreeAt W w.heap.size t v L → Calls Try.prog 12 #[.pointer (some ⟨t, 0, none⟩), .int .i64 a2, .int .i64 a3] W fun e w' => e = .returned (.int .i64 ce) ∧ Touch (fun j => some j = v.ownBlock) W w' ∧ TreeAt w' w.heap.size t v L2) := Lib.hid (fun W v h => by rw [hce, hL2]; exact charge_own h hi a2 a3)
        have HT0 := Lib.hid hT
        by_cases hz : ce = 0
        · subst hz
          obtain ⟨d, q1, q2, q3, q4, q5, q6⟩ := charge_back hi a2 a3 hce.symm
          rw [← hL2] at q4 q5 q6
          have hi2 : TInv a0 L2 := by rw [hL2]; exact hi.charge _ _
          obtain ⟨kk, hkk⟩ : ∃ kk : Nat, L[kk]? = some d := by
            obtain ⟨kk, _, h, _⟩ := live_some q1
            exact ⟨kk, h⟩
          obtain ⟨o1, o2, o3, o4⟩ := hi.ok d (List.mem_of_getElem? hkk)
          have hxd : x = d := by rw [hx]; unfold getD; rw [q1]
          have hokt : ok = true := by rw [hok, q1]; rfl
          unfold roomD at q3
          subst hxd
          subst hokt
          obtain ⟨xp, xq, xu, xl, xv⟩ := x
          simp only at q3 q4 o1 o2 o3 o4
          obtain ⟨m, hm⟩ : ∃ m, m = xq - xu - xl - a3 := ⟨_, rfl⟩
          have HRM : Hid (∀ W v, TreeAt W w.heap.size t v L2 → Calls Try.prog 11 #[.pointer (some ⟨t, 0, none⟩), .int .i64 a2] W fun e w' => e = .returned (.int .i64 m) ∧ Below W.heap.size W w') := Lib.hid (fun W v h => by rw [hm, ← q4]; exact room_any h hi2.ok a2)
          have HCR : Hid (∀ W v, TreeAt W w.heap.size t v L2 → Calls Try.prog 15 #[.pointer (some ⟨t, 0, none⟩), .int .i64 a2, .int .i64 a3] W fun e w' => e = .returned (.int .i64 0) ∧ Touch (fun j => some j = v.ownBlock) W w' ∧ TreeAt w' w.heap.size t v L) := Lib.hid (fun W v h => by have := credit_own h hi2 a2 a3; rwa [q5, q6] at this)
          have s1 : IntKind.i64.wrap (xq - xu) = xq - xu := by rw [IntKind.wrap_i64]; omega
          have s2 : IntKind.i64.wrap (xq - xu - xl) = xq - xu - xl := by rw [IntKind.wrap_i64]; omega
          have s3 : IntKind.i64.wrap (xq - xu - xl - a3) = m := by rw [IntKind.wrap_i64]; omega
          clear hi hT hx hok hce hL2 q1 q2 q3 q4 q5 q6 hi2 hkk o1 o2 o3 o4 hm HTL
          rcases hc with ⟨f0, f1⟩ | f0
          all_goals
            go_wp2_with fail
            refine (HG.out _ _ HT0.out).mono ?_
            rintro e w2 ⟨rfl, hb2⟩
            obtain ⟨W2, hW2⟩ : ∃ W, W = w2.alloc (.cells #[.int .i64 xp, .int .i64 xq, .int .i64 xu, .int .i64 xl, .bool xv] 39) := ⟨_, rfl⟩
            obtain ⟨g, hg⟩ : ∃ g, g = w2.heap.size := ⟨_, rfl⟩
            have hbW : Below wr.heap.size wr W2 := by rw [hW2]; have q2 := hb2.size; go_grown
            have hgc : W2.heap[g]? = some (.cells #[.int .i64 xp, .int .i64 xq, .int .i64 xu, .int .i64 xl, .bool xv] 39 (0, 0)) := by rw [hW2, hg]; exact heap_new _ _
            have HT2 := Lib.hid (HT0.out.below hbW)
            have HNG : Hid (some g ≠ v.ownBlock) := Lib.hid (fun e => by have := (HT0.out.own_lt e).2; have := hb2.size; omega)
            have HB2 := Lib.hid (b_then HB.out hbW)
            have HGC := Lib.hid hgc
            have HWE := Lib.hid hW2
            have HGE := Lib.hid hg
            clear hb2 hbW hgc hW2 hg
            simp only [ND.val]
            go_wp2_with fail
            rw [← HGE.out, ← HWE.out]
            refine (HC.out _ _ HT2.out).mono ?_
            rintro e w3 ⟨rfl, hu3, h3⟩
            have HGC3 : Hid (w3.heap[g]? = some (.cells #[.int .i64 xp, .int .i64 xq, .int .i64 xu, .int .i64 xl, .bool xv] 39 (0, 0))) := Lib.hid ((hu3.block g (heap_lt HGC.out) HNG.out).trans HGC.out)
            have HB3 := Lib.hid ((own_upd HT2.out hu3).below HB2.out (Nat.le_refl _))
            have H3 := Lib.hid h3
            clear hu3 h3
            go_wp2_with fail
            have HSZ3 : Hid (t < w3.heap.size ∧ g < w3.heap.size) := Lib.hid ⟨heap_lt H3.out.h, heap_lt HGC3.out⟩
            have HS : Hid (∀ W : World, (W.heap[g]? = w3.heap[g]?) → W.cell? ⟨g, 1, none⟩ = some (.int .i64 xq) ∧ W.cell? ⟨g, 2, none⟩ = some (.int .i64 xu) ∧ W.cell? ⟨g, 3, none⟩ = some (.int .i64 xl)) := Lib.hid (fun W h => ⟨cell_heap (h.trans HGC3.out) 1, cell_heap (h.trans HGC3.out) 2, cell_heap (h.trans HGC3.out) 3⟩)
            obtain ⟨c1, c2, c3⟩ := HS.out w3 rfl
            go_region_held3 (fun W : World => W.cell? ⟨g, 1, none⟩ = some (.int .i64 xq) ∧ W.cell? ⟨g, 2, none⟩ = some (.int .i64 xu) ∧ W.cell? ⟨g, 3, none⟩ = some (.int .i64 xl)) (go_keep)
              (first
              | (go_at_call 11; refine (HRM.out _ _ (H3.out.below (by go_grown))).mono ?_; rintro e w5 ⟨rfl, hb5⟩; have hB5 : Below w3.heap.size w3 w5 := (b_then (by go_grown) hb5); obtain ⟨k1, k2, k3⟩ := HS.out w5 (hB5.block g HSZ3.out.2))
              | (go_at_call 15; refine (HCR.out _ _ (H3.out.below hB5)).mono ?_; rintro e w6 ⟨rfl, ht6, h6⟩; obtain ⟨l1, l2, l3⟩ := HS.out w6 ((ht6.block g (Nat.lt_of_lt_of_le HSZ3.out.2 hB5.size) HNG.out).trans (hB5.block g HSZ3.out.2))))
            all_goals
              have HGY : Hid (w6.heap[g]? = some (.cells #[.int .i64 xp, .int .i64 xq, .int .i64 xu, .int .i64 xl, .bool xv] 39 (0, 0))) := Lib.hid ((ht6.block g (Nat.lt_of_lt_of_le HSZ3.out.2 hB5.size) HNG.out).trans (hB5.block g HSZ3.out.2)).trans HGC3.out
              have HTY := Lib.hid h6
              have HBY : Hid (Below w.heap.size w w6) := Lib.hid (own_upd (H3.out.below hB5) ht6).below (b_then HB3.out hB5) (Nat.le_refl _)
              clear h6 ht6 hB5 hb5 k1 k2 k3 l1 l2 l3 c1 c2 c3
              go_wp2_with fail
              refine (HG.out _ _ HTY.out).mono ?_
              rintro e w7 ⟨rfl, hb7⟩
              obtain ⟨W7, hW7⟩ : ∃ W, W = w7.alloc (.cells #[.int .i64 xp, .int .i64 xq, .int .i64 xu, .int .i64 xl, .bool xv] 39) := ⟨_, rfl⟩
              obtain ⟨gy, hgy⟩ : ∃ g, g = w7.heap.size := ⟨_, rfl⟩
              have hb7W : Below w6.heap.size w6 W7 := by rw [hW7]; have q2 := hb7.size; go_grown
              have hgc7 : W7.heap[gy]? = some (.cells #[.int .i64 xp, .int .i64 xq, .int .i64 xu, .int .i64 xl, .bool xv] 39 (0, 0)) := by rw [hW7, hgy]; exact heap_new _ _
              have HG7 := Lib.hid (heap_below hb7W HGY.out)
              have HGY7 := Lib.hid hgc7
              have HB7 := Lib.hid (b_then HBY.out hb7W)
              have HW7 := Lib.hid hW7
              have HGYE := Lib.hid hgy
              clear hb7 hW7 hgy hb7W hgc7
              simp only [ND.val]
              go_wp2_with fail
              rw [← HGYE.out, ← HW7.out]
              refine awake_true.mono ?_
              rintro e w8 ⟨rfl, hb8⟩
              have hx8 := heap_below hb8 HG7.out
              have hy8 := heap_below hb8 HGY7.out
              have y0 : w8.cell? ⟨gy, 0, none⟩ = some (.int .i64 xp) := cell_heap hy8 0
              have y1 : w8.cell? ⟨gy, 1, none⟩ = some (.int .i64 xq) := cell_heap hy8 1
              have y2 : w8.cell? ⟨gy, 2, none⟩ = some (.int .i64 xu) := cell_heap hy8 2
              have y3 : w8.cell? ⟨gy, 3, none⟩ = some (.int .i64 xl) := cell_heap hy8 3
              have y4 : w8.cell? ⟨gy, 4, none⟩ = some (.bool xv) := cell_heap hy8 4
              have x0 : w8.cell? ⟨g, 0, none⟩ = some (.int .i64 xp) := cell_heap hx8 0
              have x1 : w8.cell? ⟨g, 1, none⟩ = some (.int .i64 xq) := cell_heap hx8 1
              have x2 : w8.cell? ⟨g, 2, none⟩ = some (.int .i64 xu) := cell_heap hx8 2
              have x3 : w8.cell? ⟨g, 3, none⟩ = some (.int .i64 xl) := cell_heap hx8 3
              have x4 : w8.cell? ⟨g, 4, none⟩ = some (.bool xv) := cell_heap hx8 4
              have HB8 := Lib.hid (b_then HB7.out hb8)
              clear hb8 hx8 hy8
              go_wp2_with fail
              go_returns
              exact ⟨rfl, HB8.out⟩
        · have hL2' : L2 = L := by rw [hL2]; exact charge_no (by rw [← hce]; exact hz)
          rw [hL2'] at HC
          have t1 : (ce == 0) = false := by simp [hz]
          have h5 : (ok = false → ce = 5) := fun h => by
            rw [hce]
            apply charge_none5
            rw [h] at hok
            cases hl : liveAt L a2 with
            | none => rfl
            | some d => rw [hl] at hok; cases hok
          obtain ⟨xp, xq, xu, xl, xv⟩ := x
          clear hi hT hx hok hce hL2 hL2' HTL hz
          have hcc : ok = true ∨ (ok = false ∧ ce = 5) := by
            cases ok
            · exact .inr ⟨rfl, h5 rfl⟩
            · exact .inl rfl
          clear h5
          rcases hc with ⟨f0, f1⟩ | f0
          all_goals
            rcases hcc with rfl | ⟨rfl, rfl⟩
          all_goals
            go_wp2_with fail
            refine (HG.out _ _ HT0.out).mono ?_
            rintro e w2 ⟨rfl, hb2⟩
            obtain ⟨W2, hW2⟩ : ∃ W, W = w2.alloc (.cells #[.int .i64 xp, .int .i64 xq, .int .i64 xu, .int .i64 xl, .bool xv] 39) := ⟨_, rfl⟩
            obtain ⟨g, hg⟩ : ∃ g, g = w2.heap.size := ⟨_, rfl⟩
            have hbW : Below wr.heap.size wr W2 := by rw [hW2]; have q2 := hb2.size; go_grown
            have hgc : W2.heap[g]? = some (.cells #[.int .i64 xp, .int .i64 xq, .int .i64 xu, .int .i64 xl, .bool xv] 39 (0, 0)) := by rw [hW2, hg]; exact heap_new _ _
            have HT2 := Lib.hid (HT0.out.below hbW)
            have HNG : Hid (some g ≠ v.ownBlock) := Lib.hid (fun e => by have := (HT0.out.own_lt e).2; have := hb2.size; omega)
            have HB2 := Lib.hid (b_then HB.out hbW)
            have HGC := Lib.hid hgc
            have HWE := Lib.hid hW2
            have HGE := Lib.hid hg
            clear hb2 hbW hgc hW2 hg
            simp only [ND.val]
            go_wp2_with fail
            rw [← HGE.out, ← HWE.out]
            refine (HC.out _ _ HT2.out).mono ?_
            rintro e w3 ⟨rfl, hu3, h3⟩
            have hgw3 := (hu3.block g (heap_lt HGC.out) HNG.out).trans HGC.out
            have hbw3 := (own_upd HT2.out hu3).below HB2.out (Nat.le_refl _)
            have HG3 := Lib.hid hgw3
            have HB3 := Lib.hid hbw3
            have H3 := Lib.hid h3
            clear hu3 hgw3 hbw3 h3
            go_wp2_with fail
            go_quiet (fail)
            obtain ⟨w6, hw6⟩ : ∃ W, W = w3.drewN nq := ⟨_, rfl⟩
            rw [← hw6]
            have hbd : Below w3.heap.size w3 w6 := by rw [hw6]; exact below_drewN (Below.refl _ _) _
            have HGY : Hid (w6.heap[g]? = some (.cells #[.int .i64 xp, .int .i64 xq, .int .i64 xu, .int .i64 xl, .bool xv] 39 (0, 0))) := Lib.hid (heap_below hbd HG3.out)
            have HTY := Lib.hid (H3.out.below hbd)
            have HBY : Hid (Below w.heap.size w w6) := Lib.hid (b_then HB3.out hbd)
            clear hbd hw6
            go_wp2_with fail
            refine (HG.out _ _ HTY.out).mono ?_
            rintro e w7 ⟨rfl, hb7⟩
            obtain ⟨W7, hW7⟩ : ∃ W, W = w7.alloc (.cells #[.int .i64 xp, .int .i64 xq, .int .i64 xu, .int .i64 xl, .bool xv] 39) := ⟨_, rfl⟩
            obtain ⟨gy, hgy⟩ : ∃ g, g = w7.heap.size := ⟨_, rfl⟩
            have hb7W : Below w6.heap.size w6 W7 := by rw [hW7]; have q2 := hb7.size; go_grown
            have hgc7 : W7.heap[gy]? = some (.cells #[.int .i64 xp, .int .i64 xq, .int .i64 xu, .int .i64 xl, .bool xv] 39 (0, 0)) := by rw [hW7, hgy]; exact heap_new _ _
            have HG7 := Lib.hid (heap_below hb7W HGY.out)
            have HGY7 := Lib.hid hgc7
            have HB7 := Lib.hid (b_then HBY.out hb7W)
            have HW7 := Lib.hid hW7
            have HGYE := Lib.hid hgy
            clear hb7 hW7 hgy hb7W hgc7
            simp only [ND.val]
            go_wp2_with fail
            rw [← HGYE.out, ← HW7.out]
            refine awake_true.mono ?_
            rintro e w8 ⟨rfl, hb8⟩
            have hx8 := heap_below hb8 HG7.out
            have hy8 := heap_below hb8 HGY7.out
            have y0 : w8.cell? ⟨gy, 0, none⟩ = some (.int .i64 xp) := cell_heap hy8 0
            have y1 : w8.cell? ⟨gy, 1, none⟩ = some (.int .i64 xq) := cell_heap hy8 1
            have y2 : w8.cell? ⟨gy, 2, none⟩ = some (.int .i64 xu) := cell_heap hy8 2
            have y3 : w8.cell? ⟨gy, 3, none⟩ = some (.int .i64 xl) := cell_heap hy8 3
            have y4 : w8.cell? ⟨gy, 4, none⟩ = some (.bool xv) := cell_heap hy8 4
            have x0 : w8.cell? ⟨g, 0, none⟩ = some (.int .i64 xp) := cell_heap hx8 0
            have x1 : w8.cell? ⟨g, 1, none⟩ = some (.int .i64 xq) := cell_heap hx8 1
            have x2 : w8.cell? ⟨g, 2, none⟩ = some (.int .i64 xu) := cell_heap hx8 2
            have x3 : w8.cell? ⟨g, 3, none⟩ = some (.int .i64 xl) := cell_heap hx8 3
            have x4 : w8.cell? ⟨g, 4, none⟩ = some (.bool xv) := cell_heap hx8 4
            have HB8 := Lib.hid (b_then HB7.out hb8)
            clear hb8 hx8 hy8
            go_wp2_with fail
            go_returns
            exact ⟨rfl, HB8.out⟩
end Go.Proofs.Ytgnkgfejnnkkaaa
