/- The document's quota: Room, Charge, Credit, for every list. No condition but bounds. -/
import Derived.Test.YtgnkgfejnnkkaaaQuoS
namespace Go.Proofs.Ytgnkgfejnnkkaaa
open Go.ChangeShapes Go.WideShapes Go.ChangeAt Go.RowKit
set_option linter.unusedVariables false
set_option linter.unusedSimpArgs false
theorem roomB_some {R : List BX} {i : Int} {d : BX} (h : findB R i = some d) : roomB R i = d.quota - d.used - lentB R i := by unfold roomB; rw [h]
theorem roomB_none {R : List BX} {i : Int} (h : findB R i = none) : roomB R i = 0 := by unfold roomB; rw [h]
set_option maxHeartbeats 1000000 in
theorem rRoom_any {w : World} {base : Nat} {v : Value} {R : List BX} (h : bxL w base v R) (hk : BOK R) (i : Int) :
    Calls Try.prog 17 #[v, .int .i64 i] w fun e w' => e = .returned (.int .i64 (roomB R i)) ∧ Below w.heap.size w w' := by
  have HF_ := rFind_any h (by have := hk.len; omega) i
  cases hf : findB R i with
  | none =>
    have e1 : fB R i = ⟨0, 0, 0, 0⟩ := by unfold fB; rw [hf]; rfl
    rw [hf, e1] at HF_
    have HF := Lib.hid HF_
    have HR := Lib.hid (roomB_none hf)
    clear h hk HF_ e1 hf
    go_enter Try.func17, Try.ntmps17
    go_wp2_with fail
    refine HF.out.mono ?_
    rintro e w1 ⟨rfl, hb1⟩
    have HB1 := Lib.hid hb1
    clear hb1
    simp only [BX.val, Option.isSome_none]
    go_wp2_with fail
    go_returns
    exact ⟨ret_v (by rw [HR.out]; rfl), by have q1 := HB1.out; have q2 := q1.size; go_grown⟩
  | some d =>
    have e1 : fB R i = d := by unfold fB; rw [hf]; rfl
    rw [hf, e1] at HF_
    have HF := Lib.hid HF_
    have HR := Lib.hid (roomB_some hf)
    obtain ⟨b0, b1, b2, b3⟩ := hk.ok d (findB_mem R i d hf).1
    obtain ⟨l0, l1⟩ := lentB_bd R i (fun e he => ⟨(hk.ok e he).1, (hk.ok e he).2.1⟩)
    have hl := hk.len
    obtain ⟨m, hm⟩ : ∃ m, m = lentB R i := ⟨_, rfl⟩
    rw [← hm] at l0 l1 HR
    have HL : Hid (∀ W, Below w.heap.size w W → Calls Try.prog 18 #[v, .int .i64 i] W fun e w' => e = .returned (.int .i64 m) ∧ Below W.heap.size W w') := Lib.hid (fun W hB => by rw [hm]; exact rLent_any (h.below hB) hk i)
    have s1 : IntKind.i64.wrap (d.quota - d.used) = d.quota - d.used := by rw [IntKind.wrap_i64]; omega
    have s2 : IntKind.i64.wrap (d.quota - d.used - m) = d.quota - d.used - m := by rw [IntKind.wrap_i64]; omega
    obtain ⟨p, q, u, x⟩ := d
    simp only at s1 s2 HR
    clear h hk HF_ e1 hf b0 b1 b2 b3 l0 l1 hl hm
    go_enter Try.func17, Try.ntmps17
    go_wp2_with fail
    refine HF.out.mono ?_
    rintro e w1 ⟨rfl, hb1⟩
    simp only [BX.val, Option.isSome_some]
    obtain ⟨g, hg⟩ : ∃ g, g = w1.heap.size := ⟨_, rfl⟩
    obtain ⟨W0, hW0⟩ : ∃ W, W = w1.alloc (.cells #[.int .i64 p, .int .i64 q, .int .i64 u, .int .i64 x] 44) := ⟨_, rfl⟩
    have hb0 : Below w.heap.size w W0 := by rw [hW0]; have q2 := hb1.size; go_grown
    have hg0 : W0.heap[g]? = some (.cells #[.int .i64 p, .int .i64 q, .int .i64 u, .int .i64 x] 44 (0, 0)) := by rw [hW0, hg]; exact heap_new _ _
    have c2 : W0.cell? ⟨g, 2, none⟩ = some (.int .i64 u) := cell_heap hg0 2
    have c3 : W0.cell? ⟨g, 3, none⟩ = some (.int .i64 x) := cell_heap hg0 3
    have z0 := heap_lt hg0
    have HB0 := Lib.hid hb0
    have HW0 := Lib.hid hW0
    have HG := Lib.hid hg
    have HLC : Hid (∀ x : Abv W0, Calls Try.prog 18 #[v, .int .i64 i] x.W fun e w' => e = .returned (.int .i64 m) ∧ Below x.W.heap.size x.W w') := Lib.hid (fun x => HL.out x.W (b_then hb0 x.ok))
    clear hb1 hb0 hg0 hW0 hg
    go_wp2_with fail
    rw [← HG.out, ← HW0.out]
    have hab := @Abv.cell W0
    refine wp_region_abv (by kernel_rfl) (by kernel_rfl) ?_
    repeat (first | go_big_quiet_skip | (go_big_quiet_want; go_big_quiet_op; first | go_big_quiet_on | go_big_quiet_call ((go_at_call 18; exact abv_call (HLC.out _)))))
    refine wpQuiet_nil ?_
    rintro w3 ⟨⟨_, hb3⟩, rfl⟩
    go_wp2
    go_returns
    exact ⟨ret_v (by rw [HR.out]; rfl), b_then HB0.out hb3⟩
def chargeB (R : List BX) (i n : Int) : Int := match findB R i with | none => 5 | some d => if n < 0 then 1 else if roomB R i < n then 8 else 0
def creditB (R : List BX) (i n : Int) : Int := match findB R i with | none => 5 | some d => if n < 0 ∨ d.used < n then 1 else 0
set_option maxHeartbeats 1000000 in
theorem rCharge_any {w : World} {base : Nat} {v : Value} {R : List BX} (h : bxL w base v R) (hk : BOK R) (i n : Int) :
    Calls Try.prog 25 #[v, .int .i64 i, .int .i64 n] w fun e w' => e = .returned (.int .i64 (chargeB R i n)) ∧ Below w.heap.size w w' := by
  have HF_ := rFind_any h (by have := hk.len; omega) i
  cases hf : findB R i with
  | none =>
    have e1 : fB R i = ⟨0, 0, 0, 0⟩ := by unfold fB; rw [hf]; rfl
    rw [hf, e1] at HF_
    have HF := Lib.hid HF_
    have HR : Hid (chargeB R i n = 5) := Lib.hid (by unfold chargeB; rw [hf])
    clear h hk HF_ e1 hf
    go_enter Try.func25, Try.ntmps25
    go_wp2_with fail
    refine HF.out.mono ?_
    rintro e w1 ⟨rfl, hb1⟩
    have HB1 := Lib.hid hb1
    clear hb1
    simp only [BX.val, Option.isSome_none]
    go_wp2_with fail
    go_returns
    exact ⟨ret_v (by rw [HR.out]; rfl), by have q1 := HB1.out; have q2 := q1.size; go_grown⟩
  | some d =>
    have e1 : fB R i = d := by unfold fB; rw [hf]; rfl
    rw [hf, e1] at HF_
    have HF := Lib.hid HF_
    obtain ⟨m, hm⟩ : ∃ m, m = roomB R i := ⟨_, rfl⟩
    have HR : Hid (chargeB R i n = if n < 0 then 1 else if m < n then 8 else 0) := Lib.hid (by unfold chargeB; rw [hf, hm])
    have HL : Hid (∀ W, Below w.heap.size w W → Calls Try.prog 17 #[v, .int .i64 i] W fun e w' => e = .returned (.int .i64 m) ∧ Below W.heap.size W w') := Lib.hid (fun W hB => by rw [hm]; exact rRoom_any (h.below hB) hk i)
    obtain ⟨p, q, u, x⟩ := d
    clear h hk HF_ e1 hf hm
    go_enter Try.func25, Try.ntmps25
    go_wp2_with fail
    refine HF.out.mono ?_
    rintro e w1 ⟨rfl, hb1⟩
    simp only [BX.val, Option.isSome_some]
    have HB0 : Hid (Below w.heap.size w (w1.alloc (.cells #[.int .i64 p, .int .i64 q, .int .i64 u, .int .i64 x] 44))) := Lib.hid (by have q2 := hb1.size; go_grown)
    clear hb1
    by_cases hn : n < 0
    · have d1 : decide (n < 0) = true := decide_eq_true hn
      have HN := Lib.hid hn
      clear hn
      go_wp2_with fail
      go_returns
      exact ⟨ret_v (by rw [HR.out, if_pos (by have := HN.out; omega)]; rfl), HB0.out⟩
    · have d1 : decide (n < 0) = false := decide_eq_false hn
      have HN := Lib.hid hn
      clear hn
      go_wp2_with fail
      refine (HL.out _ HB0.out).mono ?_
      rintro e w2 ⟨rfl, hb2⟩
      have HB2 := Lib.hid (b_then HB0.out hb2)
      clear hb2
      by_cases hm : m < n
      · have d2 : decide (m < n) = true := decide_eq_true hm
        have HM := Lib.hid hm
        clear hm
        go_wp2_with fail
        go_returns
        exact ⟨ret_v (by rw [HR.out, if_neg (by have := HN.out; omega), if_pos (by have := HM.out; omega)]; rfl), HB2.out⟩
      · have d2 : decide (m < n) = false := decide_eq_false hm
        have HM := Lib.hid hm
        clear hm
        go_wp2_with fail
        go_returns
        exact ⟨ret_v (by rw [HR.out, if_neg (by have := HN.out; omega), if_neg (by have := HM.out; omega)]; rfl), HB2.out⟩
set_option maxHeartbeats 1000000 in
theorem rCredit_any {w : World} {base : Nat} {v : Value} {R : List BX} (h : bxL w base v R) (hk : BOK R) (i n : Int) :
    Calls Try.prog 27 #[v, .int .i64 i, .int .i64 n] w fun e w' => e = .returned (.int .i64 (creditB R i n)) ∧ Below w.heap.size w w' := by
  have HF_ := rFind_any h (by have := hk.len; omega) i
  cases hf : findB R i with
  | none =>
    have e1 : fB R i = ⟨0, 0, 0, 0⟩ := by unfold fB; rw [hf]; rfl
    rw [hf, e1] at HF_
    have HF := Lib.hid HF_
    have HR : Hid (creditB R i n = 5) := Lib.hid (by unfold creditB; rw [hf])
    clear h hk HF_ e1 hf
    go_enter Try.func27, Try.ntmps27
    go_wp2_with fail
    refine HF.out.mono ?_
    rintro e w1 ⟨rfl, hb1⟩
    have HB1 := Lib.hid hb1
    clear hb1
    simp only [BX.val, Option.isSome_none]
    go_wp2_with fail
    go_returns
    exact ⟨ret_v (by rw [HR.out]; rfl), by have q1 := HB1.out; have q2 := q1.size; go_grown⟩
  | some d =>
    have e1 : fB R i = d := by unfold fB; rw [hf]; rfl
    rw [hf, e1] at HF_
    have HF := Lib.hid HF_
    have HR : Hid (creditB R i n = if n < 0 ∨ d.used < n then 1 else 0) := Lib.hid (by unfold creditB; rw [hf])
    obtain ⟨p, q, u, x⟩ := d
    simp only at HR
    clear h hk HF_ e1 hf
    go_enter Try.func27, Try.ntmps27
    go_wp2_with fail
    refine HF.out.mono ?_
    rintro e w1 ⟨rfl, hb1⟩
    simp only [BX.val, Option.isSome_some]
    have HB0 : Hid (Below w.heap.size w (w1.alloc (.cells #[.int .i64 p, .int .i64 q, .int .i64 u, .int .i64 x] 44))) := Lib.hid (by have q2 := hb1.size; go_grown)
    clear hb1
    by_cases hn : n < 0
    · have d1 : decide (n < 0) = true := decide_eq_true hn
      have HN := Lib.hid hn
      clear hn
      go_wp2_with fail
      go_returns
      exact ⟨ret_v (by rw [HR.out, if_pos (by have := HN.out; omega)]; rfl), HB0.out⟩
    · have d1 : decide (n < 0) = false := decide_eq_false hn
      have HN := Lib.hid hn
      clear hn
      by_cases hm : x < n
      · have d2 : decide (x < n) = true := decide_eq_true hm
        have HM := Lib.hid hm
        clear hm
        go_wp2_with fail
        go_returns
        exact ⟨ret_v (by rw [HR.out, if_pos (by have := HM.out; omega)]; rfl), HB0.out⟩
      · have d2 : decide (x < n) = false := decide_eq_false hm
        have HM := Lib.hid hm
        clear hm
        go_wp2_with fail
        go_returns
        exact ⟨ret_v (by rw [HR.out, if_neg (by have h1 := HN.out; have h2 := HM.out; omega)]; rfl), HB0.out⟩
end Go.Proofs.Ytgnkgfejnnkkaaa
