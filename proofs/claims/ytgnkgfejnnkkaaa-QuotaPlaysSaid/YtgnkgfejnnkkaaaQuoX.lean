/- A call on both trees, the program's and the document's. No condition but what holds behind any calls. -/
import Derived.Test.YtgnkgfejnnkkaaaQuoW
namespace Go.Proofs.Ytgnkgfejnnkkaaa
open Go.ChangeShapes Go.WideShapes Go.ChangeAt Go.RowKit
set_option linter.unusedVariables false
set_option linter.unusedSimpArgs false
theorem Upd.bx {base base' : Nat} {w w' : World} (h : Upd base w w') {v : Value} {R : List BX} (hr : bxL w base' v R) : bxL w' base' v R := h.row hr (by decide) (by decide)
section
variable {w : World} {base t : Nat} {v lv : Value} {L : List ND} {R : List BX} {root : Int}
theorem chargeB_wrap (hk : BOK R) (i n : Int) (h : chargeB R i n = 0) : ∀ d ∈ R, d.num = i → IntKind.i64.wrap (d.used + n) = d.used + n := by
  intro d hd _
  obtain ⟨_, _, b2, b3⟩ := hk.ok d hd
  unfold chargeB at h
  cases hf : findB R i with
  | none => rw [hf] at h; simp at h
  | some e =>
    rw [hf] at h
    simp only at h
    obtain ⟨_, c1, c2, _⟩ := hk.ok e (findB_mem R i e hf).1
    have h1 := (lentB_bd R i (fun e he => ⟨(hk.ok e he).1, (hk.ok e he).2.1⟩)).1
    have h2 := roomB_some hf
    rw [IntKind.wrap_i64]
    by_cases h3 : n < 0
    · rw [if_pos h3] at h; omega
    · rw [if_neg h3] at h
      by_cases h4 : roomB R i < n
      · rw [if_pos h4] at h; omega
      · omega
theorem creditB_wrap (hk : BOK R) (i n : Int) (h : creditB R i n = 0) : (∀ d ∈ R, d.num = i → IntKind.i64.wrap (d.used + -n) = d.used + -n) ∧ IntKind.i64.wrap (-n) = -n := by
  unfold creditB at h
  cases hf : findB R i with
  | none => rw [hf] at h; simp at h
  | some e =>
    rw [hf] at h
    simp only at h
    obtain ⟨_, c1, c2, c3⟩ := hk.ok e (findB_mem R i e hf).1
    by_cases h3 : n < 0 ∨ e.used < n
    · rw [if_pos h3] at h; omega
    · refine ⟨fun d hd _ => ?_, ?_⟩
      · obtain ⟨_, _, b2, b3⟩ := hk.ok d hd
        rw [IntKind.wrap_i64]; omega
      · rw [IntKind.wrap_i64]; omega
set_option maxHeartbeats 2000000 in
theorem does_1 (h : TreeAt w base t v L) (hi : TInv root L) (hr : bxL w base lv R) (hk : BOK R) (hb : base ≤ w.heap.size) (i n : Int) :
    Calls Try.prog 13 #[.pointer (some ⟨t, 0, none⟩), lv, .agg #[.int .i64 1, .int .i64 i, .int .i64 n]] w fun e w' => ∃ lv', e = .returned (.tuple #[lv', .bool (childN L i n == childBN R i n && childE L i n == childBE R i n)]) ∧ Upd base w w' ∧ bxL w' base lv' (childBL R i n) ∧ ∃ v', TreeAt w' base t v' (childL L i n) := by
  have HC : Hid (∀ W, Below w.heap.size w W → Calls Try.prog 10 #[.pointer (some ⟨t, 0, none⟩), .int .i64 i, .int .i64 n] W fun e w' => e = .returned (.tuple #[.int .i64 (childN L i n), .int .i64 (childE L i n)]) ∧ Upd base W w' ∧ ∃ v', TreeAt w' base t v' (childL L i n)) := Lib.hid (fun W hB => child_any (h.below hB) hi i n)
  have HR : Hid (∀ W, Upd base w W → base ≤ W.heap.size → Calls Try.prog 24 #[lv, .int .i64 i, .int .i64 n] W fun e w' => ∃ v', e = .returned (.tuple #[v', .int .i64 (childBN R i n), .int .i64 (childBE R i n)]) ∧ bxL w' base v' (childBL R i n) ∧ Below W.heap.size W w') := Lib.hid (fun W hU hb => rChild_any (hU.bx hr) hb hk i n)
  generalize childN L i n = cn at HC ⊢
  generalize childE L i n = ce at HC ⊢
  generalize childL L i n = cl at HC ⊢
  generalize childBN R i n = bn at HR ⊢
  generalize childBE R i n = be at HR ⊢
  generalize childBL R i n = bl at HR ⊢
  have HB := Lib.hid hb
  have z0 : t < w.heap.size := heap_lt h.h
  clear h hi hr hk hb
  go_enter Try.func13, Try.ntmps13
  go_wp2_with fail
  have HW0 : Hid (Below w.heap.size w (w.alloc (.cells #[.int .i64 1, .int .i64 i, .int .i64 n] 37))) := Lib.hid ((Below.refl _ _).alloc (Nat.le_refl _) _)
  have hx := heap_new w (.cells #[.int .i64 1, .int .i64 i, .int .i64 n] 37)
  obtain ⟨W0, hW0⟩ : ∃ W, W = w.alloc (.cells #[.int .i64 1, .int .i64 i, .int .i64 n] 37) := ⟨_, rfl⟩
  rw [← hW0] at HW0 hx ⊢
  clear hW0
  have hnt : ¬ TT base W0 w.heap.size := by
    rintro ⟨_, cs, fr, T, h1, h2⟩
    rw [hx] at h1
    simp only [Option.some.injEq, Obj.cells.injEq] at h1
    rcases h2 with rfl | rfl <;> exact absurd h1.2.1 (by decide)
  obtain ⟨g, hg⟩ : ∃ g, g = w.heap.size := ⟨_, rfl⟩
  rw [← hg] at hx hnt ⊢
  clear hg
  refine (HC.out _ HW0.out).mono ?_
  rintro e w1 ⟨rfl, hu1, v1, h1⟩
  have hx1 := (hu1.block g (heap_lt hx) hnt).trans hx
  have k1 : w1.cell? ⟨g, 1, none⟩ = some (.int .i64 i) := cell_heap hx1 1
  have k2 : w1.cell? ⟨g, 2, none⟩ = some (.int .i64 n) := cell_heap hx1 2
  have HU1 : Hid (Upd base w w1) := Lib.hid ((Upd.of_below HW0.out).trans hu1)
  have H1 := Lib.hid h1
  have HZ : Hid (base ≤ w1.heap.size) := Lib.hid (Nat.le_trans HB.out HU1.out.size)
  clear hu1 h1 hx1 hnt hx
  go_wp2_with fail
  refine (HR.out _ HU1.out HZ.out).mono ?_
  rintro e w2 ⟨lv', rfl, hr2, hb2⟩
  have HR2 := Lib.hid hr2
  have HB2 := Lib.hid hb2
  clear hr2 hb2
  rcases Bool.eq_false_or_eq_true (cn == bn) with t1 | t1
  all_goals
    go_wp2_with fail
    go_returns
    exact ⟨lv', ret_v (by rw [t1]; simp), HU1.out.then_below HB2.out, HR2.out, v1, H1.out.below HB2.out⟩
set_option maxHeartbeats 2000000 in
theorem does_2 (h : TreeAt w base t v L) (hi : TInv root L) (hr : bxL w base lv R) (hk : BOK R) (hb : base ≤ w.heap.size) (i n : Int) :
    Calls Try.prog 13 #[.pointer (some ⟨t, 0, none⟩), lv, .agg #[.int .i64 2, .int .i64 i, .int .i64 n]] w fun e w' => ∃ lv', e = .returned (.tuple #[lv', .bool (chargeE L i n == chargeB R i n)]) ∧ Upd base w w' ∧ bxL w' base lv' (if chargeE L i n = chargeB R i n ∧ chargeB R i n = 0 then addB R i n else R) ∧ ∃ v', TreeAt w' base t v' (chargeL L i n) := by
  obtain ⟨ce, hce⟩ : ∃ c, c = chargeE L i n := ⟨_, rfl⟩
  obtain ⟨be, hbe⟩ : ∃ c, c = chargeB R i n := ⟨_, rfl⟩
  obtain ⟨bl, hbl⟩ : ∃ b, b = addB R i n := ⟨_, rfl⟩
  have HC : Hid (∀ W, Below w.heap.size w W → Calls Try.prog 12 #[.pointer (some ⟨t, 0, none⟩), .int .i64 i, .int .i64 n] W fun e w' => e = .returned (.int .i64 ce) ∧ Upd base W w' ∧ ∃ v', TreeAt w' base t v' (chargeL L i n)) := Lib.hid (fun W hB => by rw [hce]; exact charge_any (h.below hB) hi i n)
  have HR : Hid (∀ W, Below w.heap.size w W → Calls Try.prog 25 #[lv, .int .i64 i, .int .i64 n] W fun e w' => e = .returned (.int .i64 be) ∧ Below W.heap.size W w') := Lib.hid (fun W hB => by rw [hbe]; exact rCharge_any (hr.below hB) hk i n)
  have HAD : Hid (be = 0 → ∀ W, Upd base w W → Calls Try.prog 26 #[lv, .int .i64 i, .int .i64 n] W fun e w' => ∃ v', e = .returned v' ∧ bxL w' W.heap.size v' bl ∧ Below W.heap.size W w') := Lib.hid (fun h0 W hU => by rw [hbl]; exact rAdd_any (hU.bx hr) (by have := hk.len; omega) i n (chargeB_wrap hk i n (hbe ▸ h0)))
  have HNG : Hid (be = 0 → True) := Lib.hid (fun h0 => trivial)
  rw [← hce, ← hbe, ← hbl]
  obtain ⟨rl, hrl⟩ : ∃ b, b = (if ce = be ∧ be = 0 then bl else R) := ⟨_, rfl⟩
  obtain ⟨bb, hbb⟩ : ∃ b, b = (ce == be) := ⟨_, rfl⟩
  rw [← hrl, ← hbb]
  have HRL := Lib.hid hrl
  have HBB : Hid ((ce = be → bb = true) ∧ (ce ≠ be → bb = false)) := Lib.hid (by rw [hbb]; exact ⟨fun h => by simp [h], fun h => by simp [h]⟩)
  generalize chargeL L i n = cl at HC ⊢
  have HB := Lib.hid hb
  have HROW := Lib.hid hr
  have HT := Lib.hid h
  have z0 : t < w.heap.size := heap_lt h.h
  clear h hi hr hk hb hce hbe hbl hrl hbb
  go_enter Try.func13, Try.ntmps13
  go_wp2_with fail
  have HW0 : Hid (Below w.heap.size w (w.alloc (.cells #[.int .i64 2, .int .i64 i, .int .i64 n] 37))) := Lib.hid ((Below.refl _ _).alloc (Nat.le_refl _) _)
  have hx := heap_new w (.cells #[.int .i64 2, .int .i64 i, .int .i64 n] 37)
  obtain ⟨W0, hW0⟩ : ∃ W, W = w.alloc (.cells #[.int .i64 2, .int .i64 i, .int .i64 n] 37) := ⟨_, rfl⟩
  rw [← hW0] at HW0 hx ⊢
  clear hW0
  have hnt : ¬ TT base W0 w.heap.size := by
    rintro ⟨_, cs, fr, T, h1, h2⟩
    rw [hx] at h1
    simp only [Option.some.injEq, Obj.cells.injEq] at h1
    rcases h2 with rfl | rfl <;> exact absurd h1.2.1 (by decide)
  obtain ⟨g, hg⟩ : ∃ g, g = w.heap.size := ⟨_, rfl⟩
  rw [← hg] at hx hnt ⊢
  clear hg
  refine (HR.out _ HW0.out).mono ?_
  rintro e w1 ⟨rfl, hb1⟩
  have hx1 := heap_below hb1 hx
  have k1 : w1.cell? ⟨g, 1, none⟩ = some (.int .i64 i) := cell_heap hx1 1
  have k2 : w1.cell? ⟨g, 2, none⟩ = some (.int .i64 n) := cell_heap hx1 2
  have HW1 : Hid (Below w.heap.size w w1) := Lib.hid (b_then HW0.out hb1)
  have hnt1 : ¬ TT base w1 g := by
    rintro ⟨_, cs, fr, T, h1, h2⟩
    rw [hx1] at h1
    simp only [Option.some.injEq, Obj.cells.injEq] at h1
    rcases h2 with rfl | rfl <;> exact absurd h1.2.1 (by decide)
  clear hb1 hnt hx
  go_wp2_with fail
  refine (HC.out _ HW1.out).mono ?_
  rintro e w2 ⟨rfl, hu2, v2, h2⟩
  have hx2 := (hu2.block g (heap_lt hx1) hnt1).trans hx1
  have m1 : w2.cell? ⟨g, 1, none⟩ = some (.int .i64 i) := cell_heap hx2 1
  have m2 : w2.cell? ⟨g, 2, none⟩ = some (.int .i64 n) := cell_heap hx2 2
  have HU2 : Hid (Upd base w w2) := Lib.hid ((Upd.of_below HW1.out).trans hu2)
  have H2 := Lib.hid h2
  have HZ : Hid (base ≤ w2.heap.size) := Lib.hid (Nat.le_trans HB.out HU2.out.size)
  clear hu2 h2 hx1 hnt1 hx2 k1 k2
  by_cases hc : ce = be
  · have hbb := HBB.out.1 hc
    subst hbb
    subst hc
    by_cases h0 : ce = 0
    · have hrl : rl = bl := by rw [HRL.out, if_pos ⟨rfl, h0⟩]
      subst hrl
      subst h0
      have hng := HNG.out rfl
      clear HBB HRL
      go_wp2_with fail
      refine (HAD.out (by simp) _ HU2.out).mono ?_
      rintro e w3 ⟨lv', rfl, hr3, hb3⟩
      have HR3 := Lib.hid hr3
      have HB3 := Lib.hid hb3
      clear hr3 hb3
      go_wp2_with fail
      go_returns
      exact ⟨lv', rfl, HU2.out.then_below HB3.out, HR3.out.mono HZ.out, v2, H2.out.below HB3.out⟩
    · have t1 : (ce == 0) = false := by simp [h0]
      have hrl : rl = R := by rw [HRL.out, if_neg (fun h => h0 h.2)]
      subst hrl
      clear h0 HBB HRL
      go_wp2_with fail
      go_returns
      exact ⟨lv, rfl, HU2.out, HU2.out.bx HROW.out, v2, H2.out⟩
  · have t1 : (ce == be) = false := by simp [hc]
    have t2 : (ce != be) = true := by simp [hc]
    have hrl : rl = R := by rw [HRL.out, if_neg (fun h => hc h.1)]
    have hbb := HBB.out.2 hc
    subst hrl
    subst hbb
    clear hc HBB HRL
    go_wp2_with fail
    go_returns
    exact ⟨lv, rfl, HU2.out, HU2.out.bx HROW.out, v2, H2.out⟩
set_option maxHeartbeats 2000000 in
theorem does_3 (h : TreeAt w base t v L) (hi : TInv root L) (hr : bxL w base lv R) (hk : BOK R) (hb : base ≤ w.heap.size) (i n : Int) :
    Calls Try.prog 13 #[.pointer (some ⟨t, 0, none⟩), lv, .agg #[.int .i64 3, .int .i64 i, .int .i64 n]] w fun e w' => ∃ lv', e = .returned (.tuple #[lv', .bool (creditE L i n == creditB R i n)]) ∧ Upd base w w' ∧ bxL w' base lv' (if creditE L i n = creditB R i n ∧ creditB R i n = 0 then addB R i (-n) else R) ∧ ∃ v', TreeAt w' base t v' (creditL L i n) := by
  obtain ⟨ce, hce⟩ : ∃ c, c = creditE L i n := ⟨_, rfl⟩
  obtain ⟨be, hbe⟩ : ∃ c, c = creditB R i n := ⟨_, rfl⟩
  obtain ⟨bl, hbl⟩ : ∃ b, b = addB R i (-n) := ⟨_, rfl⟩
  have HC : Hid (∀ W, Below w.heap.size w W → Calls Try.prog 15 #[.pointer (some ⟨t, 0, none⟩), .int .i64 i, .int .i64 n] W fun e w' => e = .returned (.int .i64 ce) ∧ Upd base W w' ∧ ∃ v', TreeAt w' base t v' (creditL L i n)) := Lib.hid (fun W hB => by rw [hce]; exact credit_any (h.below hB) hi i n)
  have HR : Hid (∀ W, Below w.heap.size w W → Calls Try.prog 27 #[lv, .int .i64 i, .int .i64 n] W fun e w' => e = .returned (.int .i64 be) ∧ Below W.heap.size W w') := Lib.hid (fun W hB => by rw [hbe]; exact rCredit_any (hr.below hB) hk i n)
  have HAD : Hid (be = 0 → ∀ W, Upd base w W → Calls Try.prog 26 #[lv, .int .i64 i, .int .i64 (-n)] W fun e w' => ∃ v', e = .returned v' ∧ bxL w' W.heap.size v' bl ∧ Below W.heap.size W w') := Lib.hid (fun h0 W hU => by rw [hbl]; exact rAdd_any (hU.bx hr) (by have := hk.len; omega) i (-n) (creditB_wrap hk i n (hbe ▸ h0)).1)
  have HNG : Hid (be = 0 → IntKind.i64.wrap (-n) = -n) := Lib.hid (fun h0 => (creditB_wrap hk i n (hbe ▸ h0)).2)
  rw [← hce, ← hbe, ← hbl]
  obtain ⟨rl, hrl⟩ : ∃ b, b = (if ce = be ∧ be = 0 then bl else R) := ⟨_, rfl⟩
  obtain ⟨bb, hbb⟩ : ∃ b, b = (ce == be) := ⟨_, rfl⟩
  rw [← hrl, ← hbb]
  have HRL := Lib.hid hrl
  have HBB : Hid ((ce = be → bb = true) ∧ (ce ≠ be → bb = false)) := Lib.hid (by rw [hbb]; exact ⟨fun h => by simp [h], fun h => by simp [h]⟩)
  generalize creditL L i n = cl at HC ⊢
  have HB := Lib.hid hb
  have HROW := Lib.hid hr
  have HT := Lib.hid h
  have z0 : t < w.heap.size := heap_lt h.h
  clear h hi hr hk hb hce hbe hbl hrl hbb
  go_enter Try.func13, Try.ntmps13
  go_wp2_with fail
  have HW0 : Hid (Below w.heap.size w (w.alloc (.cells #[.int .i64 3, .int .i64 i, .int .i64 n] 37))) := Lib.hid ((Below.refl _ _).alloc (Nat.le_refl _) _)
  have hx := heap_new w (.cells #[.int .i64 3, .int .i64 i, .int .i64 n] 37)
  obtain ⟨W0, hW0⟩ : ∃ W, W = w.alloc (.cells #[.int .i64 3, .int .i64 i, .int .i64 n] 37) := ⟨_, rfl⟩
  rw [← hW0] at HW0 hx ⊢
  clear hW0
  have hnt : ¬ TT base W0 w.heap.size := by
    rintro ⟨_, cs, fr, T, h1, h2⟩
    rw [hx] at h1
    simp only [Option.some.injEq, Obj.cells.injEq] at h1
    rcases h2 with rfl | rfl <;> exact absurd h1.2.1 (by decide)
  obtain ⟨g, hg⟩ : ∃ g, g = w.heap.size := ⟨_, rfl⟩
  rw [← hg] at hx hnt ⊢
  clear hg
  refine (HR.out _ HW0.out).mono ?_
  rintro e w1 ⟨rfl, hb1⟩
  have hx1 := heap_below hb1 hx
  have k1 : w1.cell? ⟨g, 1, none⟩ = some (.int .i64 i) := cell_heap hx1 1
  have k2 : w1.cell? ⟨g, 2, none⟩ = some (.int .i64 n) := cell_heap hx1 2
  have HW1 : Hid (Below w.heap.size w w1) := Lib.hid (b_then HW0.out hb1)
  have hnt1 : ¬ TT base w1 g := by
    rintro ⟨_, cs, fr, T, h1, h2⟩
    rw [hx1] at h1
    simp only [Option.some.injEq, Obj.cells.injEq] at h1
    rcases h2 with rfl | rfl <;> exact absurd h1.2.1 (by decide)
  clear hb1 hnt hx
  go_wp2_with fail
  refine (HC.out _ HW1.out).mono ?_
  rintro e w2 ⟨rfl, hu2, v2, h2⟩
  have hx2 := (hu2.block g (heap_lt hx1) hnt1).trans hx1
  have m1 : w2.cell? ⟨g, 1, none⟩ = some (.int .i64 i) := cell_heap hx2 1
  have m2 : w2.cell? ⟨g, 2, none⟩ = some (.int .i64 n) := cell_heap hx2 2
  have HU2 : Hid (Upd base w w2) := Lib.hid ((Upd.of_below HW1.out).trans hu2)
  have H2 := Lib.hid h2
  have HZ : Hid (base ≤ w2.heap.size) := Lib.hid (Nat.le_trans HB.out HU2.out.size)
  clear hu2 h2 hx1 hnt1 hx2 k1 k2
  by_cases hc : ce = be
  · have hbb := HBB.out.1 hc
    subst hbb
    subst hc
    by_cases h0 : ce = 0
    · have hrl : rl = bl := by rw [HRL.out, if_pos ⟨rfl, h0⟩]
      subst hrl
      subst h0
      have hng := HNG.out rfl
      clear HBB HRL
      go_wp2_with fail
      refine (HAD.out (by simp) _ HU2.out).mono ?_
      rintro e w3 ⟨lv', rfl, hr3, hb3⟩
      have HR3 := Lib.hid hr3
      have HB3 := Lib.hid hb3
      clear hr3 hb3
      go_wp2_with fail
      go_returns
      exact ⟨lv', rfl, HU2.out.then_below HB3.out, HR3.out.mono HZ.out, v2, H2.out.below HB3.out⟩
    · have t1 : (ce == 0) = false := by simp [h0]
      have hrl : rl = R := by rw [HRL.out, if_neg (fun h => h0 h.2)]
      subst hrl
      clear h0 HBB HRL
      go_wp2_with fail
      go_returns
      exact ⟨lv, rfl, HU2.out, HU2.out.bx HROW.out, v2, H2.out⟩
  · have t1 : (ce == be) = false := by simp [hc]
    have t2 : (ce != be) = true := by simp [hc]
    have hrl : rl = R := by rw [HRL.out, if_neg (fun h => hc h.1)]
    have hbb := HBB.out.2 hc
    subst hrl
    subst hbb
    clear hc HBB HRL
    go_wp2_with fail
    go_returns
    exact ⟨lv, rfl, HU2.out, HU2.out.bx HROW.out, v2, H2.out⟩
set_option maxHeartbeats 2000000 in
theorem does_4 (h : TreeAt w base t v L) (hi : TInv root L) (hr : bxL w base lv R) (hk : BOK R) (hb : base ≤ w.heap.size) (i n : Int) :
    Calls Try.prog 13 #[.pointer (some ⟨t, 0, none⟩), lv, .agg #[.int .i64 4, .int .i64 i, .int .i64 n]] w fun e w' => ∃ lv', e = .returned (.tuple #[lv', .bool (endE L i == endBE R i)]) ∧ Upd base w w' ∧ bxL w' base lv' (endBL R i) ∧ ∃ v', TreeAt w' base t v' (endL L i) := by
  have HC : Hid (∀ W, Below w.heap.size w W → Calls Try.prog 19 #[.pointer (some ⟨t, 0, none⟩), .int .i64 i] W fun e w' => e = .returned (.int .i64 (endE L i)) ∧ Upd base W w' ∧ ∃ v', TreeAt w' base t v' (endL L i)) := Lib.hid (fun W hB => end_any (h.below hB) hi i)
  have HR : Hid (∀ W, Below w.heap.size w W → Calls Try.prog 28 #[lv, .int .i64 i] W fun e w' => ∃ v', e = .returned (.tuple #[v', .int .i64 (endBE R i)]) ∧ bxL w' base v' (endBL R i) ∧ Below W.heap.size W w') := Lib.hid (fun W hB => rEnd_any (hr.below hB) (Nat.le_trans hb hB.size) (by have := hk.len; omega) i)
  generalize endE L i = ce at HC ⊢
  generalize endL L i = cl at HC ⊢
  generalize endBE R i = be at HR ⊢
  generalize endBL R i = bl at HR ⊢
  have HB := Lib.hid hb
  have z0 : t < w.heap.size := heap_lt h.h
  clear h hi hr hk hb
  go_enter Try.func13, Try.ntmps13
  go_wp2_with fail
  have HW0 : Hid (Below w.heap.size w (w.alloc (.cells #[.int .i64 4, .int .i64 i, .int .i64 n] 37))) := Lib.hid ((Below.refl _ _).alloc (Nat.le_refl _) _)
  have hx := heap_new w (.cells #[.int .i64 4, .int .i64 i, .int .i64 n] 37)
  obtain ⟨W0, hW0⟩ : ∃ W, W = w.alloc (.cells #[.int .i64 4, .int .i64 i, .int .i64 n] 37) := ⟨_, rfl⟩
  rw [← hW0] at HW0 hx ⊢
  clear hW0
  obtain ⟨g, hg⟩ : ∃ g, g = w.heap.size := ⟨_, rfl⟩
  rw [← hg] at hx ⊢
  clear hg
  refine (HR.out _ HW0.out).mono ?_
  rintro e w1 ⟨lv', rfl, hr1, hb1⟩
  have hx1 := heap_below hb1 hx
  have k1 : w1.cell? ⟨g, 1, none⟩ = some (.int .i64 i) := cell_heap hx1 1
  have HW1 : Hid (Below w.heap.size w w1) := Lib.hid (b_then HW0.out hb1)
  have HR1 := Lib.hid hr1
  clear hb1 hx hx1 hr1
  go_wp2_with fail
  refine (HC.out _ HW1.out).mono ?_
  rintro e w2 ⟨rfl, hu2, v2, h2⟩
  have HU2 := Lib.hid hu2
  have H2 := Lib.hid h2
  clear hu2 h2
  go_wp2_with fail
  go_returns
  exact ⟨lv', rfl, (Upd.of_below HW1.out).trans HU2.out, HU2.out.bx HR1.out, v2, H2.out⟩
theorem does_0 (h : TreeAt w base t v L) (hr : bxL w base lv R) (k i n : Int) (h1 : k ≠ 1) (h2 : k ≠ 2) (h3 : k ≠ 3) (h4 : k ≠ 4) :
    Calls Try.prog 13 #[.pointer (some ⟨t, 0, none⟩), lv, .agg #[.int .i64 k, .int .i64 i, .int .i64 n]] w fun e w' => ∃ lv', e = .returned (.tuple #[lv', .bool true]) ∧ Upd base w w' ∧ bxL w' base lv' R ∧ ∃ v', TreeAt w' base t v' L := by
  have t1 : (k == 1) = false := by simp [h1]
  have t2 : (k == 2) = false := by simp [h2]
  have t3 : (k == 3) = false := by simp [h3]
  have t4 : (k == 4) = false := by simp [h4]
  have H := Lib.hid h
  have HR := Lib.hid hr
  clear h hr h1 h2 h3 h4
  go_enter Try.func13, Try.ntmps13
  go_wp2_with fail
  go_returns
  have hb : Below w.heap.size w (w.alloc (.cells #[.int .i64 k, .int .i64 i, .int .i64 n] 37)) := (Below.refl _ _).alloc (Nat.le_refl _) _
  exact ⟨lv, rfl, Upd.of_below hb, HR.out.below hb, v, H.out.below hb⟩
end
def doesL (L : List ND) (k i n : Int) : List ND := if k = 1 then childL L i n else if k = 2 then chargeL L i n else if k = 3 then creditL L i n else if k = 4 then endL L i else L
def doesB (L : List ND) (R : List BX) (k i n : Int) : List BX := if k = 1 then childBL R i n else if k = 2 then (if chargeE L i n = chargeB R i n ∧ chargeB R i n = 0 then addB R i n else R) else if k = 3 then (if creditE L i n = creditB R i n ∧ creditB R i n = 0 then addB R i (-n) else R) else if k = 4 then endBL R i else R
def doesK (L : List ND) (R : List BX) (k i n : Int) : Bool := if k = 1 then (childN L i n == childBN R i n && childE L i n == childBE R i n) else if k = 2 then chargeE L i n == chargeB R i n else if k = 3 then creditE L i n == creditB R i n else if k = 4 then endE L i == endBE R i else true
theorem does_any {w : World} {base t : Nat} {v lv : Value} {L : List ND} {R : List BX} {root : Int} (h : TreeAt w base t v L) (hi : TInv root L) (hr : bxL w base lv R) (hk : BOK R) (hb : base ≤ w.heap.size) (k i n : Int) :
    Calls Try.prog 13 #[.pointer (some ⟨t, 0, none⟩), lv, .agg #[.int .i64 k, .int .i64 i, .int .i64 n]] w fun e w' => ∃ lv', e = .returned (.tuple #[lv', .bool (doesK L R k i n)]) ∧ Upd base w w' ∧ bxL w' base lv' (doesB L R k i n) ∧ ∃ v', TreeAt w' base t v' (doesL L k i n) := by
  unfold doesL doesB doesK
  by_cases h1 : k = 1
  · subst h1; simpa only [if_pos] using does_1 h hi hr hk hb i n
  rw [if_neg h1, if_neg h1, if_neg h1]
  by_cases h2 : k = 2
  · subst h2; simpa only [if_pos] using does_2 h hi hr hk hb i n
  rw [if_neg h2, if_neg h2, if_neg h2]
  by_cases h3 : k = 3
  · subst h3; simpa only [if_pos] using does_3 h hi hr hk hb i n
  rw [if_neg h3, if_neg h3, if_neg h3]
  by_cases h4 : k = 4
  · subst h4; simpa only [if_pos] using does_4 h hi hr hk hb i n
  rw [if_neg h4, if_neg h4, if_neg h4]
  exact does_0 h hr k i n h1 h2 h3 h4
theorem TInv.does {root : Int} {L : List ND} (h : TInv root L) (k i n : Int) : TInv root (doesL L k i n) := by
  unfold doesL
  split
  · exact h.child i n
  · split
    · exact h.charge i n
    · split
      · exact h.credit i n
      · split
        · exact h.ends i
        · exact h
theorem doesB_nil (L : List ND) (k i n : Int) : doesB L [] k i n = [] := by
  unfold doesB
  have h1 : childBL [] i n = [] := by unfold childBL childBE findB; simp
  have h2 : endBL [] i = [] := by unfold endBL endBE findB; simp
  rw [h1, h2]
  simp [addB]
theorem BOK.nil : BOK [] := ⟨by simp, by simp⟩
end Go.Proofs.Ytgnkgfejnnkkaaa
