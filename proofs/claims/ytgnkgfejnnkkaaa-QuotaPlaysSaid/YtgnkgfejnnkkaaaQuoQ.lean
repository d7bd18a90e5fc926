/- The program's tree and the document's list say the same. No condition. -/
import Derived.Test.YtgnkgfejnnkkaaaQuotaHolds
namespace Go.Proofs.Ytgnkgfejnnkkaaa
open Go.ChangeShapes Go.WideShapes Go.ChangeAt Go.RowKit
set_option linter.unusedVariables false
set_option linter.unusedSimpArgs false
def rl : List ND → Nat → List BX
  | [], _ => []
  | d :: r, k => if d.live then ⟨(k : Nat), d.parent, d.quota, d.used⟩ :: rl r (k + 1) else rl r (k + 1)
theorem rl_live : ∀ (L : List ND) (k : Nat), (rl L k).map BX.num = liveL L k
  | [], k => rfl
  | d :: r, k => by
    have ih := rl_live r (k + 1)
    unfold rl liveL
    cases d.live <;> simp [ih]
theorem rl_length (L : List ND) (k : Nat) : (rl L k).length = cnt L := by rw [← liveL_length L k, ← rl_live L k, List.length_map]
theorem rl_mem : ∀ (L : List ND) (k : Nat) (b : BX), b ∈ rl L k → ∃ (j : Nat) (d : ND), L[j]? = some d ∧ d.live = true ∧ b = ⟨((k + j : Nat) : Int), d.parent, d.quota, d.used⟩
  | [], k, b, h => by simp [rl] at h
  | d :: r, k, b, h => by
    unfold rl at h
    have ih := rl_mem r (k + 1) b
    cases hd : d.live with
    | true =>
      rw [hd] at h
      simp only [if_true, List.mem_cons] at h
      rcases h with rfl | h
      · exact ⟨0, d, by simp, hd, by simp⟩
      · obtain ⟨j, e, h1, h2, h3⟩ := ih h
        exact ⟨j + 1, e, by simpa using h1, h2, by rw [h3]; simp only [BX.mk.injEq, and_true]; omega⟩
    | false =>
      rw [hd] at h
      simp only [Bool.false_eq_true, if_false] at h
      obtain ⟨j, e, h1, h2, h3⟩ := ih h
      exact ⟨j + 1, e, by simpa using h1, h2, by rw [h3]; simp only [BX.mk.injEq, and_true]; omega⟩
theorem find_lt : ∀ (L : List ND) (k : Nat) (x : Int), x < k → findB (rl L k) x = none
  | [], k, x, h => rfl
  | d :: r, k, x, h => by
    have ih := find_lt r (k + 1) x (by omega)
    unfold rl
    split
    · unfold findB
      rw [if_neg (by simp; omega)]
      exact ih
    · exact ih
theorem find_rl : ∀ (L : List ND) (k j : Nat), findB (rl L k) ((k + j : Nat) : Int) = (match L[j]? with | some d => if d.live then some ⟨((k + j : Nat) : Int), d.parent, d.quota, d.used⟩ else none | none => none)
  | [], k, j => by simp [rl, findB]
  | d :: r, k, 0 => by
    unfold rl
    simp only [Nat.add_zero, List.getElem?_cons_zero]
    cases hd : d.live with
    | true => simp [findB]
    | false =>
      simp only [Bool.false_eq_true, if_false]
      exact find_lt r (k + 1) k (by omega)
  | d :: r, k, j + 1 => by
    have ih := find_rl r (k + 1) j
    rw [show k + 1 + j = k + (j + 1) by omega] at ih
    simp only [List.getElem?_cons_succ]
    rw [← ih]
    have e : rl (d :: r) k = if d.live then ⟨(k : Nat), d.parent, d.quota, d.used⟩ :: rl r (k + 1) else rl r (k + 1) := rfl
    rw [e]
    split
    · have e2 : ∀ (b : BX) (s : List BX) (x : Int), findB (b :: s) x = if b.num == x then some b else findB s x := fun _ _ _ => rfl
      rw [e2, if_neg (by simp; omega)]
    · rfl
def boxOf (i : Int) (d : ND) : BX := ⟨i, d.parent, d.quota, d.used⟩
theorem find_at (L : List ND) (i : Int) : findB (rl L 0) i = (liveAt L i).map (boxOf i) := by
  unfold liveAt
  by_cases h : 0 ≤ i
  · obtain ⟨j, rfl⟩ : ∃ j : Nat, i = j := ⟨i.toNat, by omega⟩
    have := find_rl L 0 j
    rw [Nat.zero_add] at this
    rw [if_pos h, this, Int.toNat_natCast]
    cases L[j]? with
    | none => rfl
    | some d => simp only; cases d.live <;> rfl
  · rw [if_neg h]
    exact find_lt L 0 i (by omega)
theorem lent_rl : ∀ (L : List ND) (k : Nat) (x : Int), lentB (rl L k) x = lentF L x
  | [], k, x => rfl
  | d :: r, k, x => by
    have ih := lent_rl r (k + 1) x
    unfold rl lentF cF
    cases hd : d.live with
    | true => simp only [if_true, lentB, ih, Bool.true_and]
    | false => simp [ih]
theorem room_rl {root : Int} {L : List ND} (h : TInv root L) (i : Int) : roomB (rl L 0) i = roomF L i := by
  unfold roomB roomF
  rw [find_at]
  cases hl : liveAt L i with
  | none => rfl
  | some d =>
    obtain ⟨k, rfl, hk, hd⟩ := live_some hl
    simp only [Option.map_some, boxOf]
    rw [lent_rl, h.lent k d hk hd]
theorem bok_rl {root : Int} {L : List ND} (h : TInv root L) : BOK (rl L 0) := by
  refine ⟨by rw [rl_length, ← liveL_length L 0]; exact Nat.le_trans (liveL_length_le L 0) h.len, fun b hb => ?_⟩
  obtain ⟨j, d, h1, h2, h3⟩ := rl_mem L 0 b hb
  obtain ⟨o1, o2, o3, o4⟩ := h.ok d (List.mem_of_getElem? h1)
  rw [h3]
  simp only
  omega
/-! ### the least free number -/
theorem numB_least (R : List BX) (m : Nat) (hm : findB R m = none) (hlt : ∀ j : Nat, j < m → (findB R j).isSome = true) : ∀ j : Nat, numB R j = if j ≤ m then j else m
  | 0 => by simp [numB]
  | j + 1 => by
    have ih := numB_least R m hm hlt j
    simp only [numB]
    rw [ih]
    by_cases h : j ≤ m
    · rw [if_pos h]
      by_cases h2 : j = m
      · subst h2
        rw [hm, if_neg (by simp), if_neg (by omega)]
      · rw [if_pos (hlt j (by omega)), if_pos (by omega)]
    · rw [if_neg h, hm, if_neg (by simp), if_neg (by omega)]
def leastN (L : List ND) : Nat := if freeF L 0 < 0 then L.length else (freeF L 0).toNat
theorem cnt_all : ∀ (L : List ND), (∀ d ∈ L, d.live = true) → cnt L = L.length
  | [], _ => rfl
  | d :: r, h => by
    have := cnt_all r (fun e he => h e (by simp [he]))
    simp only [cnt, h d (by simp), if_true, this, List.length_cons]
    omega
theorem cnt_prefix : ∀ (L : List ND) (m : Nat), (∀ j, j < m → ∃ d, L[j]? = some d ∧ d.live = true) → m ≤ cnt L
  | L, 0, h => Nat.zero_le _
  | [], m + 1, h => by obtain ⟨d, h1, _⟩ := h 0 (by omega); simp at h1
  | d :: r, m + 1, h => by
    have h1 := cnt_prefix r m (fun j hj => by simpa using h (j + 1) (by omega))
    obtain ⟨e, h2, h3⟩ := h 0 (by omega)
    simp at h2
    subst h2
    simp only [cnt, h3, if_true]
    omega
theorem num_rl (L : List ND) : numB (rl L 0) ((rl L 0).length + 1) = leastN L := by
  have hle : leastN L ≤ cnt L ∧ findB (rl L 0) (leastN L : Nat) = none ∧ ∀ j : Nat, j < leastN L → (findB (rl L 0) j).isSome = true := by
    unfold leastN
    rcases freeF_spec L 0 with ⟨hf, hall⟩ | ⟨f, hf, hfl, ⟨df, h3, h4⟩, h5⟩
    · rw [if_pos (by omega)]
      refine ⟨by rw [cnt_all L hall]; exact Nat.le_refl _, ?_, fun j hj => ?_⟩
      · have := find_rl L 0 L.length
        rw [Nat.zero_add] at this
        rw [this, List.getElem?_eq_none (Nat.le_refl _)]
      · have := find_rl L 0 j
        rw [Nat.zero_add] at this
        rw [this, List.getElem?_eq_getElem hj]
        simp only
        rw [if_pos (hall _ (List.getElem_mem hj))]
        rfl
    · rw [Nat.zero_add] at hf
      rw [if_neg (by omega), hf, Int.toNat_natCast]
      refine ⟨cnt_prefix L f h5, ?_, fun j hj => ?_⟩
      · have := find_rl L 0 f
        rw [Nat.zero_add] at this
        rw [this, h3]
        simp [h4]
      · obtain ⟨d, h6, h7⟩ := h5 j hj
        have := find_rl L 0 j
        rw [Nat.zero_add] at this
        rw [this, h6]
        simp [h7]
  rw [numB_least (rl L 0) (leastN L) hle.2.1 hle.2.2, rl_length, if_neg (by omega)]
/-! ### changes of the list -/
theorem rl_same : ∀ (L : List ND) (k j : Nat) (d e : ND), L[j]? = some d → e.live = d.live → e.parent = d.parent → e.quota = d.quota → e.used = d.used → rl (L.set j e) k = rl L k
  | [], k, j, d, e, h, _, _, _, _ => by simp at h
  | y :: r, k, 0, d, e, h, h1, h2, h3, h4 => by
    simp at h
    subst h
    simp only [List.set_cons_zero, rl, h1, h2, h3, h4]
  | y :: r, k, j + 1, d, e, h, h1, h2, h3, h4 => by
    have ih := rl_same r (k + 1) j d e (by simpa using h) h1 h2 h3 h4
    simp only [List.set_cons_succ, rl, ih]
theorem rl_ge : ∀ (L : List ND) (k : Nat) (b : BX), b ∈ rl L k → (k : Int) ≤ b.num := fun L k b h => by
  obtain ⟨j, d, _, _, h3⟩ := rl_mem L k b h
  rw [h3]
  simp only
  omega
theorem ltB_none (R : List BX) (n : Int) (h : ∀ b ∈ R, n ≤ b.num) : ltB R n = [] := by
  unfold ltB
  rw [List.filter_eq_nil_iff]
  intro b hb
  have := h b hb
  simp; omega
theorem gtB_all (R : List BX) (n : Int) (h : ∀ b ∈ R, n < b.num) : gtB R n = R := by
  unfold gtB
  rw [List.filter_eq_self]
  intro b hb
  simpa using h b hb
theorem rl_put : ∀ (L : List ND) (k j : Nat) (d e : ND), L[j]? = some d → d.live = false → e.live = true → rl (L.set j e) k = ltB (rl L k) ((k + j : Nat) : Int) ++ [boxOf ((k + j : Nat) : Int) e] ++ gtB (rl L k) ((k + j : Nat) : Int)
  | [], k, j, d, e, h, _, _ => by simp at h
  | y :: r, k, 0, d, e, h, h1, h2 => by
    simp at h
    subst h
    simp only [List.set_cons_zero, rl, h1, h2, if_true, Bool.false_eq_true, if_false, Nat.add_zero]
    rw [ltB_none _ _ (fun b hb => by have := rl_ge r (k + 1) b hb; omega), gtB_all _ _ (fun b hb => by have := rl_ge r (k + 1) b hb; omega)]
    rfl
  | y :: r, k, j + 1, d, e, h, h1, h2 => by
    have ih := rl_put r (k + 1) j d e (by simpa using h) h1 h2
    rw [show k + 1 + j = k + (j + 1) by omega] at ih
    simp only [List.set_cons_succ, rl, ih]
    cases hy : y.live with
    | true =>
      simp only [if_true]
      have a1 : ltB (⟨(k : Nat), y.parent, y.quota, y.used⟩ :: rl r (k + 1)) ((k + (j + 1) : Nat) : Int) = ⟨(k : Nat), y.parent, y.quota, y.used⟩ :: ltB (rl r (k + 1)) ((k + (j + 1) : Nat) : Int) := by
        unfold ltB
        rw [List.filter_cons_of_pos (by simp; omega)]
      have a2 : gtB (⟨(k : Nat), y.parent, y.quota, y.used⟩ :: rl r (k + 1)) ((k + (j + 1) : Nat) : Int) = gtB (rl r (k + 1)) ((k + (j + 1) : Nat) : Int) := by
        unfold gtB
        rw [List.filter_cons_of_neg (by simp; omega)]
      rw [a1, a2]
      rfl
    | false => rfl
theorem rl_append : ∀ (L : List ND) (k : Nat) (e : ND), e.live = true → rl (L ++ [e]) k = rl L k ++ [boxOf ((k + L.length : Nat) : Int) e]
  | [], k, e, h => by simp [rl, h, boxOf]
  | y :: r, k, e, h => by
    have ih := rl_append r (k + 1) e h
    rw [show k + 1 + r.length = k + (y :: r).length by simp; omega] at ih
    simp only [List.cons_append, rl, ih]
    cases y.live <;> simp
theorem rl_lt (L : List ND) (b : BX) (h : b ∈ rl L 0) : b.num < L.length := by
  obtain ⟨j, d, h1, _, h3⟩ := rl_mem L 0 b h
  have := (List.getElem?_eq_some_iff.1 h1).1
  rw [h3]
  simp only
  omega
theorem rl_drop : ∀ (L : List ND) (k j : Nat) (d e : ND), L[j]? = some d → e.live = false → rl (L.set j e) k = dropB (rl L k) ((k + j : Nat) : Int)
  | [], k, j, d, e, h, _ => by simp at h
  | y :: r, k, 0, d, e, h, h2 => by
    simp at h
    subst h
    simp only [List.set_cons_zero, rl, h2, Bool.false_eq_true, if_false, Nat.add_zero]
    have a0 : dropB (rl r (k + 1)) (k : Int) = rl r (k + 1) := by
      unfold dropB
      rw [List.filter_eq_self]
      intro b hb
      have := rl_ge r (k + 1) b hb
      simp; omega
    cases y.live with
    | true =>
      simp only [if_true]
      unfold dropB
      rw [List.filter_cons_of_neg (by simp)]
      exact a0.symm
    | false => exact a0.symm
  | y :: r, k, j + 1, d, e, h, h2 => by
    have ih := rl_drop r (k + 1) j d e (by simpa using h) h2
    rw [show k + 1 + j = k + (j + 1) by omega] at ih
    simp only [List.set_cons_succ, rl, ih]
    cases y.live with
    | true =>
      simp only [if_true]
      unfold dropB
      rw [List.filter_cons_of_pos (by simp; omega)]
    | false => rfl
theorem rl_add : ∀ (L : List ND) (k j : Nat) (d : ND) (n : Int), L[j]? = some d → rl (L.set j { d with used := d.used + n }) k = addB (rl L k) ((k + j : Nat) : Int) n
  | [], k, j, d, n, h => by simp at h
  | y :: r, k, 0, d, n, h => by
    simp at h
    subst h
    simp only [List.set_cons_zero, rl, Nat.add_zero]
    have a0 : addB (rl r (k + 1)) (k : Int) n = rl r (k + 1) := by
      unfold addB
      rw [List.map_congr_left (g := id) (fun b hb => by
        have := rl_ge r (k + 1) b hb
        unfold addD
        rw [if_neg (by simp; omega)]
        rfl)]
      simp
    cases y.live with
    | true =>
      simp only [if_true]
      unfold addB
      rw [List.map_cons]
      unfold addB at a0
      rw [a0]
      unfold addD
      rw [if_pos (by simp)]
    | false => exact a0.symm
  | y :: r, k, j + 1, d, n, h => by
    have ih := rl_add r (k + 1) j d n (by simpa using h)
    rw [show k + 1 + j = k + (j + 1) by omega] at ih
    simp only [List.set_cons_succ, rl, ih]
    cases y.live with
    | true =>
      simp only [if_true]
      unfold addB
      rw [List.map_cons]
      congr 1
      unfold addD
      rw [if_neg (by simp; omega)]
    | false => rfl
theorem kid_rl (L : List ND) (i : Int) : kidB (rl L 0) i = decide (0 ≤ kidF i L 0) := by
  have h1 : kidB (rl L 0) i = true ↔ ∃ d ∈ L, d.live = true ∧ d.parent = i := by
    unfold kidB
    rw [List.any_eq_true]
    constructor
    · rintro ⟨b, hb, h⟩
      obtain ⟨j, d, h2, h3, h4⟩ := rl_mem L 0 b hb
      subst h4
      exact ⟨d, List.mem_of_getElem? h2, h3, by simpa using h⟩
    · rintro ⟨d, hd, h3, h4⟩
      obtain ⟨j, hj⟩ := List.mem_iff_getElem?.1 hd
      have := find_rl L 0 j
      rw [hj] at this
      simp only [h3, if_true] at this
      exact ⟨_, (findB_mem _ _ _ this).1, by simp [h4]⟩
  rcases kidF_spec i L 0 with ⟨h2, h3⟩ | ⟨h2, h3⟩
  · rw [h2]
    cases hk : kidB (rl L 0) i with
    | false => rfl
    | true =>
      obtain ⟨d, hd, h4, h5⟩ := h1.1 hk
      exact absurd h5 (h3 d hd h4)
  · rw [h1.2 h3, decide_eq_true h2]
/-! ### each call says the same on both -/
theorem rel_child {root : Int} {L : List ND} (h : TInv root L) (i n : Int) : childE L i n = childBE (rl L 0) i n ∧ childN L i n = childBN (rl L 0) i n ∧ childBL (rl L 0) i n = rl (childL L i n) 0 := by
  have hE : childE L i n = childBE (rl L 0) i n := by
    unfold childE childBE
    rw [find_at]
    cases hl : liveAt L i with
    | none => rfl
    | some d =>
      simp only [Option.map_some]
      rw [room_rl h]
      have hr : roomF L i = roomD d := by unfold roomF roomD; rw [hl]
      rw [hr, rl_length]
      have hb : (freeF L 0 < 0 ∧ 64 ≤ L.length) ↔ 63 < cnt L := by
        have hle : cnt L ≤ L.length := by rw [← liveL_length L 0]; exact liveL_length_le L 0
        have hlen := h.len
        constructor
        · rintro ⟨h1, h2⟩
          rcases freeF_spec L 0 with ⟨_, hall⟩ | ⟨f, hf, _⟩
          · rw [cnt_all L hall]; omega
          · omega
        · intro h1
          refine ⟨?_, by omega⟩
          rcases freeF_spec L 0 with ⟨hf, _⟩ | ⟨f, hf, hfl, ⟨df, h3, h4⟩, _⟩
          · omega
          · exfalso
            have := cnt_set L f df { df with live := true } h3
            simp [h4] at this
            have h5 : cnt (L.set f { df with live := true }) ≤ L.length := by
              rw [← liveL_length _ 0]
              have := liveL_length_le (L.set f { df with live := true }) 0
              rwa [List.length_set] at this
            omega
      by_cases h1 : n < 0
      · rw [if_pos h1, if_pos h1]
      · rw [if_neg h1, if_neg h1]
        by_cases h2 : roomD d < n
        · rw [if_pos h2, if_pos h2]
        · rw [if_neg h2, if_neg h2]
          by_cases h3 : 63 < cnt L
          · rw [if_pos h3, if_pos (hb.2 h3)]
          · rw [if_neg h3, if_neg (fun h => h3 (hb.1 h))]
  refine ⟨hE, ?_, ?_⟩
  · unfold childN childBN
    rw [← hE, num_rl]
    split
    · unfold leastN
      rcases freeF_spec L 0 with ⟨hf, hall⟩ | ⟨f, hf, _⟩
      · rw [if_pos (by omega), if_pos (by omega)]
      · rw [if_neg (by omega), if_neg (by omega)]; omega
    · rfl
  · unfold childBL childL
    rw [← hE, num_rl]
    cases hl : liveAt L i with
    | none =>
      have : childE L i n = 5 := by unfold childE; rw [hl]
      rw [if_neg (by omega)]
    | some d =>
      obtain ⟨k, rfl, hk, hd⟩ := live_some hl
      simp only
      by_cases he : childE L k n = 0
      · rw [if_pos he, if_pos he, Int.toNat_natCast]
        have e1 : rl (L.set k { d with lent := d.lent + n }) 0 = rl L 0 := rl_same L 0 k d _ hk rfl rfl rfl rfl
        have hklt : k < L.length := (List.getElem?_eq_some_iff.1 hk).1
        unfold leastN
        rcases freeF_spec L 0 with ⟨hf, hall⟩ | ⟨f, hf, hfl, ⟨df, h3, h4⟩, _⟩
        · rw [if_pos (by omega), if_pos (by omega), rl_append _ 0 _ rfl, e1, Nat.zero_add, List.length_set]
          have a1 : ltB (rl L 0) (L.length : Int) = rl L 0 := by
            unfold ltB
            rw [List.filter_eq_self]
            intro b hb
            simpa using rl_lt L b hb
          have a2 : gtB (rl L 0) (L.length : Int) = [] := by
            unfold gtB
            rw [List.filter_eq_nil_iff]
            intro b hb
            have := rl_lt L b hb
            simp; omega
          rw [a1, a2, List.append_nil]
          rfl
        · rw [Nat.zero_add] at hf
          have hfk : f ≠ k := by rintro rfl; rw [hk] at h3; cases h3; rw [hd] at h4; cases h4
          have := rl_put (L.set k { d with lent := d.lent + n }) 0 f df ⟨k, n, 0, 0, true⟩ (by rw [get_set _ _ _ hklt, if_neg hfk]; exact h3) h4 rfl
          rw [Nat.zero_add, e1] at this
          rw [if_neg (by omega), if_neg (by omega), hf, Int.toNat_natCast, this]
          rfl
      · rw [if_neg he, if_neg he]
theorem rel_charge {root : Int} {L : List ND} (h : TInv root L) (i n : Int) : chargeE L i n = chargeB (rl L 0) i n ∧ (if chargeB (rl L 0) i n = 0 then addB (rl L 0) i n else rl L 0) = rl (chargeL L i n) 0 := by
  have hE : chargeE L i n = chargeB (rl L 0) i n := by
    unfold chargeE chargeB
    rw [find_at]
    cases hl : liveAt L i with
    | none => rfl
    | some d =>
      simp only [Option.map_some]
      rw [room_rl h]
      have hr : roomF L i = roomD d := by unfold roomF roomD; rw [hl]
      rw [hr]
  refine ⟨hE, ?_⟩
  rw [← hE]
  unfold chargeL
  cases hl : liveAt L i with
  | none =>
    have : chargeE L i n = 5 := by unfold chargeE; rw [hl]
    rw [if_neg (by omega)]
  | some d =>
    obtain ⟨k, rfl, hk, hd⟩ := live_some hl
    simp only
    split
    · have := rl_add L 0 k d n hk
      rw [Nat.zero_add] at this
      rw [Int.toNat_natCast, this]
    · rfl
theorem rel_credit {root : Int} {L : List ND} (h : TInv root L) (i n : Int) : creditE L i n = creditB (rl L 0) i n ∧ (if creditB (rl L 0) i n = 0 then addB (rl L 0) i (-n) else rl L 0) = rl (creditL L i n) 0 := by
  have hE : creditE L i n = creditB (rl L 0) i n := by
    unfold creditE creditB
    rw [find_at]
    cases hl : liveAt L i with
    | none => rfl
    | some d => rfl
  refine ⟨hE, ?_⟩
  rw [← hE]
  unfold creditL
  cases hl : liveAt L i with
  | none =>
    have : creditE L i n = 5 := by unfold creditE; rw [hl]
    rw [if_neg (by omega)]
  | some d =>
    obtain ⟨k, rfl, hk, hd⟩ := live_some hl
    simp only
    split
    · have := rl_add L 0 k d (-n) hk
      rw [Nat.zero_add] at this
      rw [Int.toNat_natCast, ← this]
      rfl
    · rfl
theorem rel_end {root : Int} {L : List ND} (h : TInv root L) (i : Int) : endE L i = endBE (rl L 0) i ∧ endBL (rl L 0) i = rl (endL L i) 0 := by
  have hE : endE L i = endBE (rl L 0) i := by
    unfold endE endBE
    rw [find_at]
    cases hl : liveAt L i with
    | none => rfl
    | some d =>
      simp only [Option.map_some, boxOf]
      rw [kid_rl]
      by_cases h0 : i = 0
      · rw [if_pos h0, if_pos h0]
      · rw [if_neg h0, if_neg h0]
        by_cases h1 : 0 ≤ kidF i L 0
        · rw [if_pos (.inr h1), if_pos (by simpa using h1)]
        · rw [if_neg (c := decide (0 ≤ kidF i L 0) = true) (by simpa using h1)]
          by_cases h2 : 0 < d.used
          · rw [if_pos (.inl h2), if_pos h2]
          · rw [if_neg (fun h => h.elim h2 h1), if_neg h2]
  refine ⟨hE, ?_⟩
  unfold endBL
  rw [← hE]
  by_cases he : endE L i = 0
  · rw [if_pos he]
    obtain ⟨k, p, d, dp, rfl, hk0, hk, hd, hu, hle, hp1, hp2, hp3, hpk, hq, hnk, hf⟩ := end_form h he
    have hplt : p < L.length := (List.getElem?_eq_some_iff.1 hp2).1
    rw [hf]
    have := rl_drop (L.set p { dp with lent := dp.lent - d.quota }) 0 k d ⟨0, 0, 0, 0, false⟩ (by rw [get_set _ _ _ hplt, if_neg (Ne.symm hpk)]; exact hk) rfl
    rw [Nat.zero_add, rl_same L 0 p dp { dp with lent := dp.lent - d.quota } hp2 rfl rfl rfl rfl] at this
    exact this.symm
  · rw [if_neg he, end_same he]
theorem rel_does {root : Int} {L : List ND} (h : TInv root L) (k i n : Int) : doesK L (rl L 0) k i n = true ∧ doesB L (rl L 0) k i n = rl (doesL L k i n) 0 := by
  unfold doesK doesB doesL
  by_cases h1 : k = 1
  · obtain ⟨a, b, c⟩ := rel_child h i n
    rw [if_pos h1, if_pos h1, if_pos h1, a, b, c]
    simp
  rw [if_neg h1, if_neg h1, if_neg h1]
  by_cases h2 : k = 2
  · obtain ⟨a, b⟩ := rel_charge h i n
    rw [if_pos h2, if_pos h2, if_pos h2, a, ← b]
    simp
  rw [if_neg h2, if_neg h2, if_neg h2]
  by_cases h3 : k = 3
  · obtain ⟨a, b⟩ := rel_credit h i n
    rw [if_pos h3, if_pos h3, if_pos h3, a, ← b]
    simp
  rw [if_neg h3, if_neg h3, if_neg h3]
  by_cases h4 : k = 4
  · obtain ⟨a, b⟩ := rel_end h i
    rw [if_pos h4, if_pos h4, if_pos h4, a, b]
    simp
  rw [if_neg h4, if_neg h4, if_neg h4]
  exact ⟨rfl, rfl⟩
/-- What is told of each container. -/
theorem told_rl {root : Int} {L : List ND} (h : TInv root L) {j : Nat} {b : BX} (hb : (rl L 0)[j]? = some b) : (liveL L 0)[j]? = some b.num ∧ (liveAt L b.num).isSome = true ∧ getD L b.num = ⟨b.parent, b.quota, b.used, lentB (rl L 0) b.num, true⟩ := by
  obtain ⟨k, d, h1, h2, h3⟩ := rl_mem L 0 b (List.mem_of_getElem? hb)
  rw [Nat.zero_add] at h3
  have h4 := liveAt_nat h1 h2
  refine ⟨by rw [← rl_live L 0, List.getElem?_map, hb]; rfl, ?_, ?_⟩
  · rw [h3]; simp only; rw [h4]; rfl
  · rw [h3]
    simp only
    unfold getD
    rw [h4, lent_rl, ← h.lent k d h1 h2]
    simp only
    cases d
    simp only at h2
    rw [h2]
end Go.Proofs.Ytgnkgfejnnkkaaa
