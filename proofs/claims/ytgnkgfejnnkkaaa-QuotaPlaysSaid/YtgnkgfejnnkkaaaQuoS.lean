/- The document's quota: Find, Lent, Room, Charge, Credit, for every list. No condition but bounds. -/
import Derived.Test.YtgnkgfejnnkkaaaQuoR
namespace Go.Proofs.Ytgnkgfejnnkkaaa
open Go.ChangeShapes Go.WideShapes Go.ChangeAt Go.RowKit
set_option linter.unusedVariables false
set_option linter.unusedSimpArgs false
def findB : List BX → Int → Option BX
  | [], _ => none
  | d :: r, i => if d.num == i then some d else findB r i
def fB (R : List BX) (i : Int) : BX := (findB R i).getD ⟨0, 0, 0, 0⟩
def lentB : List BX → Int → Int
  | [], _ => 0
  | d :: r, i => (if d.parent == i then d.quota else 0) + lentB r i
def roomB (R : List BX) (i : Int) : Int := match findB R i with | some d => d.quota - d.used - lentB R i | none => 0
structure BOK (R : List BX) : Prop where
  len : R.length ≤ 64
  ok : ∀ d ∈ R, 0 ≤ d.quota ∧ d.quota ≤ 1048576 ∧ 0 ≤ d.used ∧ d.used ≤ 1048576
theorem lentB_bd : ∀ (R : List BX) (i : Int), (∀ d ∈ R, 0 ≤ d.quota ∧ d.quota ≤ 1048576) → 0 ≤ lentB R i ∧ lentB R i ≤ 1048576 * R.length
  | [], i, h => by simp [lentB]
  | d :: r, i, h => by
    have h1 := lentB_bd r i (fun e he => h e (by simp [he]))
    have h2 := h d (by simp)
    simp only [lentB, List.length_cons]
    split <;> omega
theorem findB_mem : ∀ (R : List BX) (i : Int) (d : BX), findB R i = some d → d ∈ R ∧ d.num = i
  | [], i, d, h => by cases h
  | e :: r, i, d, h => by
    unfold findB at h
    split at h
    · rename_i h1
      cases h
      exact ⟨by simp, by simpa using h1⟩
    · obtain ⟨h1, h2⟩ := findB_mem r i d h
      exact ⟨by simp [h1], h2⟩
set_option maxHeartbeats 1000000 in
theorem rFind_any {w : World} {base : Nat} {v : Value} {R : List BX} (h : bxL w base v R) (hl : R.length ≤ 1000) (i : Int) :
    Calls Try.prog 29 #[v, .int .i64 i] w fun e w' => e = .returned (.tuple #[(fB R i).val, .bool (findB R i).isSome]) ∧ Below w.heap.size w w' := by
  obtain ⟨A, cap, rfl⟩ := h.form
  have H := Lib.hid h
  clear h
  obtain ⟨g, hg⟩ : ∃ g, g = w.heap.size := ⟨_, rfl⟩
  have h0 := heap_new w (.cells #[.int .i64 0, .int .i64 0, .int .i64 0, .int .i64 0] 44)
  rw [← hg] at h0
  have HG := Lib.hid hg
  clear hg
  go_enter Try.func29, Try.ntmps29
  go_wp2_with fail
  rw [← HG.out]
  have HB0 : Below w.heap.size w (w.alloc (.cells #[.int .i64 0, .int .i64 0, .int .i64 0, .int .i64 0] 44)) := (Below.refl _ _).alloc (Nat.le_refl _) _
  go_loopw [10] (fun x wr => ∃ k : Nat, x = .int .i64 k ∧ k ≤ R.length ∧ Below w.heap.size w wr ∧ wr.heap[g]? = some (.cells #[.int .i64 0, .int .i64 0, .int .i64 0, .int .i64 0] 44 (0, 0)) ∧ Hid (findB R i = findB (R.drop k) i)) (fun x _ => R.length - (intOf x).toNat)
  case atStart => exact ⟨0, rfl, by omega, HB0, h0, Lib.hid rfl⟩
  case round =>
    clear h0 HB0
    obtain ⟨k, rfl, hle, hB, hcg, HF⟩ := hrel
    have hsz := hB.size
    have q0 : wr.cell? ⟨g, 0, none⟩ = some (.int .i64 0) := cell_heap hcg 0
    have q1 : wr.cell? ⟨g, 1, none⟩ = some (.int .i64 0) := cell_heap hcg 1
    have q2 : wr.cell? ⟨g, 2, none⟩ = some (.int .i64 0) := cell_heap hcg 2
    have q3 : wr.cell? ⟨g, 3, none⟩ = some (.int .i64 0) := cell_heap hcg 3
    have z0 : wr.frozen? ⟨g, 0, none⟩ = false := frozen_heap hcg 0
    have z1 : wr.frozen? ⟨g, 1, none⟩ = false := frozen_heap hcg 1
    have z2 : wr.frozen? ⟨g, 2, none⟩ = false := frozen_heap hcg 2
    have z3 : wr.frozen? ⟨g, 3, none⟩ = false := frozen_heap hcg 3
    have hgw : g < wr.heap.size := heap_lt hcg
    have hgo : w.heap.size ≤ g := by have := HG.out; omega
    have HCG := Lib.hid hcg
    have HB := Lib.hid hB
    by_cases hlt : k < R.length
    · have f0 : decide (k < R.length) = true := decide_eq_true hlt
      have f3 : (k : Int) < (R.length : Int) := by omega
      obtain ⟨b, cap', hv, hb, hbw, e0, e1, e2, e3⟩ := H.out.cell (List.getElem?_eq_getElem hlt)
      obtain ⟨hc1, hf1⟩ := bcell hB
      have c0 := (hc1 b _ hbw).trans e0
      have c1 := (hc1 b _ hbw).trans e1
      have c2 := (hc1 b _ hbw).trans e2
      have c3 := (hc1 b _ hbw).trans e3
      obtain ⟨rfl, _, rfl⟩ : A = some ⟨b, 0, none⟩ ∧ R.length = R.length ∧ cap = cap' := by simpa using hv
      have hd : findB (R.drop k) i = if R[k].num == i then some R[k] else findB (R.drop (k + 1)) i := by
        rw [List.drop_eq_getElem_cons hlt]; rfl
      generalize R[k] = y at c0 c1 c2 c3 hd
      obtain ⟨p, q, u, l⟩ := y
      obtain ⟨n, hn⟩ : ∃ n, n = R.length := ⟨_, rfl⟩
      rw [← hn] at hlt hle hl f0 f3 ⊢
      simp only at c0 c1 c2 c3 hd
      have HN := Lib.hid hn
      have HD := Lib.hid hd
      clear hc1 hf1 e0 e1 e2 e3 hv hn hd hb hB hcg
      rcases Bool.eq_false_or_eq_true (p == i) with t | t
      · go_wp2
        refine bodyPost_ret (by simp [results, Try.results29, go_sem, q0, q1, q2, q3, hgw, Nat.ne_of_lt hgw]; try rfl) rfl ?_
        exact ⟨ret_v (by unfold fB; rw [HF.out, HD.out, if_pos t]; rfl), by have := HB.out; go_grown⟩
      · go_wp2
        go_roundw
        case rel => exact ⟨k + 1, by go_num, by omega, by have := HB.out; go_grown, heap_old _ _ _ HCG.out, Lib.hid (by rw [HF.out, HD.out, if_neg (by simp [t])])⟩
        case measure => simp [intOf]; omega
    · have f0 : decide (k < R.length) = false := decide_eq_false hlt
      have HR : Hid (findB R i = none) := Lib.hid (by rw [HF.out, List.drop_eq_nil_of_le (by omega)]; rfl)
      obtain ⟨n, hn⟩ : ∃ n, n = R.length := ⟨_, rfl⟩
      rw [← hn] at hlt hle hl f0 ⊢
      clear hn hB hcg
      go_wp2
      refine bodyPost_ret (by simp [results, Try.results29, go_sem, q0, q1, q2, q3, hgw, Nat.ne_of_lt hgw]; try rfl) rfl ?_
      exact ⟨ret_v (by unfold fB; rw [HR.out]; rfl), by have := HB.out; go_grown⟩
set_option maxHeartbeats 1000000 in
theorem rLent_any {w : World} {base : Nat} {v : Value} {R : List BX} (h : bxL w base v R) (hk : BOK R) (i : Int) :
    Calls Try.prog 18 #[v, .int .i64 i] w fun e w' => e = .returned (.int .i64 (lentB R i)) ∧ Below w.heap.size w w' := by
  obtain ⟨A, cap, rfl⟩ := h.form
  have H := Lib.hid h
  have HK := Lib.hid hk
  have hl := hk.len
  clear h hk
  go_enter Try.func18, Try.ntmps18
  go_wp2_with fail
  go_loopw [5, 10] (fun s x wr => ∃ (k : Nat) (m : Int), s = .int .i64 m ∧ x = .int .i64 k ∧ k ≤ R.length ∧ 0 ≤ m ∧ m ≤ 1048576 * k ∧ Below w.heap.size w wr ∧ Hid (lentB R i = m + lentB (R.drop k) i)) (fun _ x _ => R.length - (intOf x).toNat)
  case atStart => exact ⟨0, 0, rfl, rfl, by omega, by omega, by omega, by go_grown, Lib.hid (by simp)⟩
  case round =>
    obtain ⟨k, m, rfl, rfl, hle, hm0, hm1, hB, HF⟩ := hrel
    have hsz := hB.size
    have HB := Lib.hid hB
    by_cases hlt : k < R.length
    · have f0 : decide (k < R.length) = true := decide_eq_true hlt
      have f3 : (k : Int) < (R.length : Int) := by omega
      obtain ⟨b, cap', hv, hb, hbw, e0, e1, e2, e3⟩ := H.out.cell (List.getElem?_eq_getElem hlt)
      obtain ⟨hc1, hf1⟩ := bcell hB
      have c0 := (hc1 b _ hbw).trans e0
      have c1 := (hc1 b _ hbw).trans e1
      have c2 := (hc1 b _ hbw).trans e2
      have c3 := (hc1 b _ hbw).trans e3
      obtain ⟨rfl, _, rfl⟩ : A = some ⟨b, 0, none⟩ ∧ R.length = R.length ∧ cap = cap' := by simpa using hv
      have hd : lentB (R.drop k) i = (if R[k].parent == i then R[k].quota else 0) + lentB (R.drop (k + 1)) i := by
        rw [List.drop_eq_getElem_cons hlt]; rfl
      obtain ⟨b0, b1, _, _⟩ := HK.out.ok R[k] (List.getElem_mem hlt)
      generalize R[k] = y at c0 c1 c2 c3 hd b0 b1
      obtain ⟨p, q, u, l⟩ := y
      obtain ⟨n, hn⟩ : ∃ n, n = R.length := ⟨_, rfl⟩
      rw [← hn] at hlt hle hl f0 f3 ⊢
      simp only at c0 c1 c2 c3 hd b0 b1
      have HN := Lib.hid hn
      have HD := Lib.hid hd
      clear hc1 hf1 e0 e1 e2 e3 hv hn hd hb hB
      have s1 : IntKind.i64.wrap (m + u) = m + u := by rw [IntKind.wrap_i64]; omega
      rcases Bool.eq_false_or_eq_true (q == i) with t | t
      · go_wp2
        go_roundw
        case rel => exact ⟨k + 1, m + u, by go_num, by go_num, by omega, by omega, by omega, by have := HB.out; go_grown, Lib.hid (by rw [HF.out, HD.out, if_pos t]; omega)⟩
        case measure => simp [intOf]; omega
      · go_wp2
        go_roundw
        case rel => exact ⟨k + 1, m, by go_num, by go_num, by omega, by omega, by omega, by have := HB.out; go_grown, Lib.hid (by rw [HF.out, HD.out, if_neg (by simp [t])]; omega)⟩
        case measure => simp [intOf]; omega
    · have f0 : decide (k < R.length) = false := decide_eq_false hlt
      have HR : Hid (lentB R i = m) := Lib.hid (by rw [HF.out, List.drop_eq_nil_of_le (by omega)]; simp [lentB])
      obtain ⟨n, hn⟩ : ∃ n, n = R.length := ⟨_, rfl⟩
      rw [← hn] at hlt hle hl f0 ⊢
      clear hn hB
      go_wp2
      go_returns
      exact ⟨ret_v (by rw [HR.out]; rfl), HB.out⟩
end Go.Proofs.Ytgnkgfejnnkkaaa
