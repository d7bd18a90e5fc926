/- Trees of containers, told plainly: sums over those that live, credit of all, rounds of ends. No condition. -/
import Derived.Test.YtgnkgfejnnkkaaaQuoY
namespace Go.Proofs.Ytgnkgfejnnkkaaa
open Go.ChangeShapes Go.WideShapes Go.ChangeAt Go.RowKit
set_option linter.unusedVariables false
set_option linter.unusedSimpArgs false
/-! ### who lives -/
theorem mem_liveL : ∀ (L : List ND) (i : Nat) (x : Int), x ∈ liveL L i ↔ ∃ (k : Nat) (d : ND), L[k]? = some d ∧ d.live = true ∧ x = ((i + k : Nat) : Int)
  | [], i, x => by simp [liveL]
  | d :: r, i, x => by
    unfold liveL
    have ih := mem_liveL r (i + 1) x
    constructor
    · intro h
      cases hd : d.live with
      | true =>
        rw [hd] at h
        simp only [if_true, List.mem_cons] at h
        rcases h with rfl | h
        · exact ⟨0, d, by simp, hd, by simp⟩
        · obtain ⟨k, e, h1, h2, h3⟩ := ih.1 h
          exact ⟨k + 1, e, by simpa using h1, h2, by rw [h3]; congr 1; omega⟩
      | false =>
        rw [hd] at h
        simp only [Bool.false_eq_true, if_false] at h
        obtain ⟨k, e, h1, h2, h3⟩ := ih.1 h
        exact ⟨k + 1, e, by simpa using h1, h2, by rw [h3]; congr 1; omega⟩
    · rintro ⟨k, e, h1, h2, h3⟩
      cases k with
      | zero =>
        simp at h1
        subst h1
        rw [h2]
        simp [h3]
      | succ k =>
        have h4 : x ∈ liveL r (i + 1) := ih.2 ⟨k, e, by simpa using h1, h2, by rw [h3]; congr 1; omega⟩
        split
        · simp [h4]
        · exact h4
theorem live_mem {L : List ND} {x : Int} (h : x ∈ liveL L 0) : ∃ (k : Nat) (d : ND), x = k ∧ L[k]? = some d ∧ d.live = true ∧ liveAt L x = some d ∧ getD L x = d := by
  obtain ⟨k, d, h1, h2, h3⟩ := (mem_liveL L 0 x).1 h
  have e : x = (k : Int) := by omega
  subst e
  have h4 := liveAt_nat h1 h2
  exact ⟨k, d, rfl, h1, h2, h4, by unfold getD; rw [h4]⟩
theorem liveL_length_le : ∀ (L : List ND) (i : Nat), (liveL L i).length ≤ L.length
  | [], i => by simp [liveL]
  | d :: r, i => by
    have := liveL_length_le r (i + 1)
    unfold liveL
    split <;> simp <;> omega
def cnt : List ND → Nat
  | [] => 0
  | d :: r => (if d.live then 1 else 0) + cnt r
theorem liveL_length : ∀ (L : List ND) (i : Nat), (liveL L i).length = cnt L
  | [], i => rfl
  | d :: r, i => by
    have := liveL_length r (i + 1)
    unfold liveL cnt
    split <;> simp [this] <;> omega
theorem cnt_set : ∀ (L : List ND) (k : Nat) (d e : ND), L[k]? = some d → cnt (L.set k e) + (if d.live then 1 else 0) = cnt L + (if e.live then 1 else 0)
  | [], k, d, e, h => by simp at h
  | y :: r, 0, d, e, h => by simp at h; subst h; simp only [List.set_cons_zero, cnt]; omega
  | y :: r, k + 1, d, e, h => by
    have := cnt_set r k d e (by simpa using h)
    simp only [List.set_cons_succ, cnt]; omega
theorem cnt_pos : ∀ (L : List ND), 0 < cnt L → ∃ (k : Nat) (d : ND), L[k]? = some d ∧ d.live = true
  | [], h => by simp [cnt] at h
  | d :: r, h => by
    cases hd : d.live with
    | true => exact ⟨0, d, by simp, hd⟩
    | false =>
      simp only [cnt, hd] at h
      obtain ⟨k, e, h1, h2⟩ := cnt_pos r (by simpa using h)
      exact ⟨k + 1, e, by simpa using h1, h2⟩
/-! ### sums -/
def sumL (g : ND → Int) : List ND → Int
  | [] => 0
  | d :: r => (if d.live then g d else 0) + sumL g r
def sumK (L : List ND) (g : ND → Int) : List Int → Int
  | [] => 0
  | k :: r => g (getD L k) + sumK L g r
theorem sumK_live (L : List ND) (g : ND → Int) : ∀ (M P : List ND), L = P ++ M → sumK L g (liveL M P.length) = sumL g M
  | [], P, h => rfl
  | d :: r, P, h => by
    have ih := sumK_live L g r (P ++ [d]) (by rw [h]; simp)
    rw [List.length_append, List.length_singleton] at ih
    unfold liveL sumL
    cases hd : d.live with
    | true =>
      have hk : L[P.length]? = some d := by rw [h]; simp
      have h4 := liveAt_nat hk hd
      simp only [if_true, sumK]
      rw [ih]
      unfold getD
      rw [h4]
    | false => simp only [Bool.false_eq_true, if_false]; rw [ih]; omega
theorem sumK_all (L : List ND) (g : ND → Int) : sumK L g (liveL L 0) = sumL g L := sumK_live L g L [] rfl
theorem lentF_sum (x : Int) : ∀ (L : List ND), sumL (fun d => if d.parent == x then d.quota else 0) L = lentF L x
  | [] => rfl
  | d :: r => by
    have ih := lentF_sum x r
    simp only [sumL, lentF, cF, ih]
    cases d.live <;> simp
theorem sumL_set (g : ND → Int) : ∀ (L : List ND) (k : Nat) (d e : ND), L[k]? = some d → sumL g (L.set k e) = sumL g L - (if d.live then g d else 0) + (if e.live then g e else 0)
  | [], k, d, e, h => by simp at h
  | y :: r, 0, d, e, h => by simp at h; subst h; simp only [List.set_cons_zero, sumL]; omega
  | y :: r, k + 1, d, e, h => by
    have := sumL_set g r k d e (by simpa using h)
    simp only [List.set_cons_succ, sumL]; omega
theorem sumL_append (g : ND → Int) : ∀ (L : List ND) (d : ND), sumL g (L ++ [d]) = sumL g L + (if d.live then g d else 0)
  | [], d => by simp [sumL]
  | y :: r, d => by
    have := sumL_append g r d
    simp only [List.cons_append, sumL]; omega
theorem sumL_le (f g : ND → Int) : ∀ (L : List ND), (∀ d ∈ L, d.live = true → f d ≤ g d) → sumL f L ≤ sumL g L
  | [], h => by simp [sumL]
  | d :: r, h => by
    have h1 := sumL_le f g r (fun e he => h e (by simp [he]))
    have h2 := h d (by simp)
    simp only [sumL]
    cases hd : d.live with
    | true => have := h2 hd; simp; omega
    | false => simp; omega
/-- What the containers may have for themselves is what the root may have. -/
def sumQ (L : List ND) : Int := sumL (fun d => d.quota - d.lent) L
theorem sumQ_child {root : Int} {L : List ND} (h : TInv root L) (i n : Int) : sumQ (childL L i n) = sumQ L := by
  unfold childL
  cases hl : liveAt L i with
  | none => rfl
  | some d =>
    obtain ⟨k, rfl, hk, hd⟩ := live_some hl
    have hklt : k < L.length := (List.getElem?_eq_some_iff.1 hk).1
    simp only
    split
    · rw [Int.toNat_natCast]
      rcases freeF_spec L 0 with ⟨hf, hall⟩ | ⟨f, hf, hfl, ⟨df, h3, h4⟩, _⟩
      · rw [if_pos (by omega)]
        unfold sumQ
        rw [sumL_append, sumL_set _ L k d _ hk]
        simp [hd]; omega
      · rw [Nat.zero_add] at hf
        have hfk : f ≠ k := by rintro rfl; rw [hk] at h3; cases h3; rw [hd] at h4; cases h4
        rw [if_neg (by omega), hf, Int.toNat_natCast]
        unfold sumQ
        rw [sumL_set _ _ f df _ (by rw [get_set _ _ _ hklt, if_neg hfk]; exact h3), sumL_set _ L k d _ hk]
        simp [hd, h4]; omega
    · rfl
theorem sumQ_used {L : List ND} {k : Nat} {d : ND} (hk : L[k]? = some d) (u : Int) : sumQ (L.set k { d with used := u }) = sumQ L := by
  unfold sumQ
  rw [sumL_set _ L k d _ hk]
  simp
theorem sumQ_charge {L : List ND} (i n : Int) : sumQ (chargeL L i n) = sumQ L := by
  unfold chargeL
  cases hl : liveAt L i with
  | none => rfl
  | some d =>
    obtain ⟨k, rfl, hk, hd⟩ := live_some hl
    simp only
    split
    · rw [Int.toNat_natCast]; exact sumQ_used hk _
    · rfl
theorem sumQ_credit {L : List ND} (i n : Int) : sumQ (creditL L i n) = sumQ L := by
  unfold creditL
  cases hl : liveAt L i with
  | none => rfl
  | some d =>
    obtain ⟨k, rfl, hk, hd⟩ := live_some hl
    simp only
    split
    · rw [Int.toNat_natCast]; exact sumQ_used hk _
    · rfl
/-- What a successful End makes of the tree. -/
theorem end_form {root : Int} {L : List ND} (h : TInv root L) {i : Int} (he : endE L i = 0) :
    ∃ (k p : Nat) (d dp : ND), i = k ∧ k ≠ 0 ∧ L[k]? = some d ∧ d.live = true ∧ d.used = 0 ∧ d.lent = 0 ∧ d.parent = p ∧ L[p]? = some dp ∧ dp.live = true ∧ p ≠ k ∧ d.quota ≤ dp.lent ∧ (∀ e ∈ L, e.live = true → e.parent ≠ k) ∧ endL L i = (L.set p { dp with lent := dp.lent - d.quota }).set k ⟨0, 0, 0, 0, false⟩ := by
  cases hl : liveAt L i with
  | none => unfold endE at he; rw [hl] at he; simp at he
  | some d =>
    obtain ⟨k, rfl, hk, hd⟩ := live_some hl
    have he' := he
    unfold endE at he
    rw [hl] at he
    simp only at he
    have hk0 : k ≠ 0 := by
      rintro rfl
      rw [if_pos (by simp)] at he
      omega
    rw [if_neg (by omega)] at he
    have hb : ¬ (0 < d.used ∨ 0 ≤ kidF k L 0) := by
      intro hb
      rw [if_pos hb] at he
      omega
    obtain ⟨o1, o2, o3, o4⟩ := h.ok d (List.mem_of_getElem? hk)
    obtain ⟨p, dp, hp1, hp2, hp3, hpk, hq⟩ := h.endAt hk hd hk0
    have hnk : ∀ e ∈ L, e.live = true → e.parent ≠ k := by
      rcases kidF_spec k L 0 with ⟨_, h2⟩ | ⟨h2, _⟩
      · exact h2
      · exact absurd (.inr h2) hb
    have hle : d.lent = 0 := by rw [h.lent k d hk hd]; exact lentF_zero L k hnk
    refine ⟨k, p, d, dp, rfl, hk0, hk, hd, by omega, hle, hp1, hp2, hp3, hpk, hq, hnk, ?_⟩
    unfold endL
    rw [hl]
    simp only
    rw [if_pos he', hp1, Int.toNat_natCast, Int.toNat_natCast, hp2]
theorem end_same {L : List ND} {i : Int} (he : endE L i ≠ 0) : endL L i = L := by
  unfold endL
  split
  · rfl
  · rw [if_neg he]
theorem sumQ_end {root : Int} {L : List ND} (h : TInv root L) (i : Int) : sumQ (endL L i) = sumQ L := by
  by_cases he : endE L i = 0
  · obtain ⟨k, p, d, dp, rfl, hk0, hk, hd, hu, hle, hp1, hp2, hp3, hpk, hq, hnk, hf⟩ := end_form h he
    have hplt : p < L.length := (List.getElem?_eq_some_iff.1 hp2).1
    rw [hf]
    unfold sumQ
    rw [sumL_set _ _ k d _ (by rw [get_set _ _ _ hplt, if_neg (Ne.symm hpk)]; exact hk), sumL_set _ L p dp _ hp2]
    simp [hd, hp3, hle]; omega
  · rw [end_same he]
theorem sumQ_does {root : Int} {L : List ND} (h : TInv root L) (k i n : Int) : sumQ (doesL L k i n) = sumQ L := by
  unfold doesL
  split
  · exact sumQ_child h i n
  · split
    · exact sumQ_charge i n
    · split
      · exact sumQ_credit i n
      · split
        · exact sumQ_end h i
        · rfl
theorem used_le {root : Int} {L : List ND} (h : TInv root L) (hq : sumQ L = root) : sumL ND.used L ≤ root := by
  rw [← hq]
  exact sumL_le _ _ L (fun d hd _ => by obtain ⟨o1, o2, o3, o4⟩ := h.ok d hd; omega)
/-! ### all is given back -/
/-- No container has anything. -/
def Idle (L : List ND) : Prop := ∀ d ∈ L, d.live = true → d.used = 0
theorem credit_all {root : Int} {L : List ND} (h : TInv root L) {x : Int} (hx : x ∈ liveL L 0) :
    creditE L x (getD L x).used = 0 ∧ liveL (creditL L x (getD L x).used) 0 = liveL L 0 ∧ TInv root (creditL L x (getD L x).used) ∧
      (∀ y ∈ liveL L 0, (getD (creditL L x (getD L x).used) y).used = if y = x then 0 else (getD L y).used) := by
  obtain ⟨k, d, rfl, hk, hd, hl, hg⟩ := live_mem hx
  rw [hg]
  have hklt : k < L.length := (List.getElem?_eq_some_iff.1 hk).1
  obtain ⟨o1, o2, o3, o4⟩ := h.ok d (List.mem_of_getElem? hk)
  have e1 : creditE L k d.used = 0 := by unfold creditE; rw [hl]; simp only; rw [if_neg (by omega)]
  have e2 : creditL L k d.used = L.set k { d with used := 0 } := by unfold creditL; rw [hl]; simp only; rw [if_pos e1, Int.toNat_natCast, Int.sub_self]
  have hv : ∀ (L M : List ND) (i : Nat), L.length = M.length → (∀ (j : Nat) (a b : ND), L[j]? = some a → M[j]? = some b → a.live = b.live) → liveL L i = liveL M i := by
    intro L
    induction L with
    | nil => intro M i hl _; cases M with | nil => rfl | cons => simp at hl
    | cons a r ih =>
      intro M i hl hh
      cases M with
      | nil => simp at hl
      | cons b s =>
        have h1 := ih s (i + 1) (by simpa using hl) (fun j a b ha hb => hh (j + 1) a b (by simpa using ha) (by simpa using hb))
        have h2 := hh 0 a b rfl rfl
        unfold liveL
        rw [h1, h2]
  refine ⟨e1, ?_, h.credit k d.used, ?_⟩
  · rw [e2]
    refine hv _ _ 0 (by simp) (fun j a b ha hb => ?_)
    rw [get_set _ _ _ hklt] at ha
    split at ha
    · rename_i hj
      subst hj
      rw [hk] at hb
      cases ha
      cases hb
      rfl
    · rw [ha] at hb
      cases hb
      rfl
  · intro y hy
    obtain ⟨j, e, rfl, hj, he, hlj, hgj⟩ := live_mem hy
    rw [hgj, e2]
    by_cases hjk : j = k
    · subst hjk
      rw [if_pos rfl]
      have : liveAt (L.set j { d with used := 0 }) (j : Int) = some { d with used := 0 } := liveAt_nat (by rw [get_set _ _ _ hklt, if_pos rfl]) hd
      unfold getD
      rw [this]
    · rw [if_neg (by omega)]
      have : liveAt (L.set k { d with used := 0 }) (j : Int) = some e := liveAt_nat (by rw [get_set _ _ _ hklt, if_neg hjk]; exact hj) he
      unfold getD
      rw [this]
theorem idle_of {L : List ND} (h : ∀ y ∈ liveL L 0, (getD L y).used = 0) : Idle L := by
  intro d hd hl
  obtain ⟨k, hk⟩ := List.mem_iff_getElem?.1 hd
  have h1 := h k ((mem_liveL L 0 k).2 ⟨k, d, hk, hl, by simp⟩)
  unfold getD at h1
  rw [liveAt_nat hk hl] at h1
  exact h1
/-! ### rounds of ends -/
theorem end_sub {root : Int} {L : List ND} (h : TInv root L) (i : Int) (m : Nat) (e : ND) (hm : (endL L i)[m]? = some e) (hl : e.live = true) : ∃ e0 : ND, L[m]? = some e0 ∧ e0.live = true ∧ e0.parent = e.parent ∧ e0.used = e.used := by
  by_cases he : endE L i = 0
  · obtain ⟨k, p, d, dp, rfl, hk0, hk, hd, hu, hle, hp1, hp2, hp3, hpk, hq, hnk, hf⟩ := end_form h he
    have hplt : p < L.length := (List.getElem?_eq_some_iff.1 hp2).1
    have hklt : k < L.length := (List.getElem?_eq_some_iff.1 hk).1
    rw [hf, get_set _ _ _ (by simpa using hklt), get_set _ _ _ hplt] at hm
    split at hm
    · cases hm; cases hl
    · split at hm
      · rename_i hmp
        subst hmp
        cases hm
        exact ⟨dp, hp2, hp3, rfl, rfl⟩
      · exact ⟨e, hm, hl, rfl, rfl⟩
  · rw [end_same he] at hm
    exact ⟨e, hm, hl, rfl, rfl⟩
theorem end_idle {root : Int} {L : List ND} (h : TInv root L) (hi : Idle L) (i : Int) : Idle (endL L i) := by
  intro d hd hl
  obtain ⟨m, hm⟩ := List.mem_iff_getElem?.1 hd
  obtain ⟨e0, h1, h2, _, h4⟩ := end_sub h i m d hm hl
  rw [← h4]
  exact hi e0 (List.mem_of_getElem? h1) h2
theorem end_cnt {root : Int} {L : List ND} (h : TInv root L) (i : Int) : cnt (endL L i) = if endE L i = 0 then cnt L - 1 else cnt L := by
  by_cases he : endE L i = 0
  · obtain ⟨k, p, d, dp, rfl, hk0, hk, hd, hu, hle, hp1, hp2, hp3, hpk, hq, hnk, hf⟩ := end_form h he
    have hplt : p < L.length := (List.getElem?_eq_some_iff.1 hp2).1
    rw [if_pos he, hf]
    have h1 := cnt_set L p dp { dp with lent := dp.lent - d.quota } hp2
    have h2 := cnt_set (L.set p { dp with lent := dp.lent - d.quota }) k d ⟨0, 0, 0, 0, false⟩ (by rw [get_set _ _ _ hplt, if_neg (Ne.symm hpk)]; exact hk)
    have h1' : cnt (L.set p { dp with lent := dp.lent - d.quota }) = cnt L := Nat.add_right_cancel h1
    rw [if_pos hd, if_neg (by simp)] at h2
    omega
  · rw [if_neg he, end_same he]
/-- Where there are two there is one without children. -/
theorem leaf_of {root : Int} {L : List ND} (h : TInv root L) (hc : 1 < cnt L) : ∃ (k : Nat) (d : ND), k ≠ 0 ∧ L[k]? = some d ∧ d.live = true ∧ ∀ e ∈ L, e.live = true → e.parent ≠ k := by
  obtain ⟨r, hr⟩ := h.rank
  have mx : ∀ (l : List Nat), l ≠ [] → ∃ m ∈ l, ∀ x ∈ l, r x ≤ r m := by
    intro l
    induction l with
    | nil => intro h; exact absurd rfl h
    | cons a s ih =>
      intro _
      by_cases hs : s = []
      · subst hs
        exact ⟨a, by simp, fun x hx => by simp at hx; rw [hx]; exact Nat.le_refl _⟩
      · obtain ⟨m, hm, hx⟩ := ih hs
        by_cases hle : r m ≤ r a
        · exact ⟨a, by simp, fun x hxx => by
            rcases List.mem_cons.1 hxx with rfl | h2
            · exact Nat.le_refl _
            · exact Nat.le_trans (hx x h2) hle⟩
        · exact ⟨m, by simp [hm], fun x hxx => by
            rcases List.mem_cons.1 hxx with rfl | h2
            · omega
            · exact hx x h2⟩
  have hmem : ∀ m, m ∈ (List.range L.length).filter (fun k => decide (k ≠ 0) && (L[k]?).any ND.live) ↔ m ≠ 0 ∧ ∃ d, L[m]? = some d ∧ d.live = true := by
    intro m
    simp only [List.mem_filter, List.mem_range, Bool.and_eq_true, decide_eq_true_eq]
    constructor
    · rintro ⟨h1, h2, h3⟩
      refine ⟨h2, ?_⟩
      cases hm : L[m]? with
      | none => rw [hm] at h3; cases h3
      | some d => rw [hm] at h3; exact ⟨d, rfl, by simpa using h3⟩
    · rintro ⟨h2, d, hm, hd⟩
      exact ⟨(List.getElem?_eq_some_iff.1 hm).1, h2, by rw [hm]; simpa using hd⟩
  obtain ⟨u, l, h0⟩ := h.hd
  have hne : (List.range L.length).filter (fun k => decide (k ≠ 0) && (L[k]?).any ND.live) ≠ [] := by
    cases L with
    | nil => simp at h0
    | cons a s =>
      simp at h0
      subst h0
      simp only [cnt] at hc
      obtain ⟨k, d, h1, h2⟩ := cnt_pos s (by simpa using hc)
      intro hnil
      have := (hmem (k + 1)).2 ⟨by omega, d, by simpa using h1, h2⟩
      rw [hnil] at this
      cases this
  obtain ⟨m, hm, hx⟩ := mx _ hne
  obtain ⟨hm0, d, hmd, hdl⟩ := (hmem m).1 hm
  refine ⟨m, d, hm0, hmd, hdl, fun e he hel hp => ?_⟩
  obtain ⟨j, hj⟩ := List.mem_iff_getElem?.1 he
  have hj0 : j ≠ 0 := by
    rintro rfl
    rw [h0] at hj
    cases hj
    simp at hp
  have h1 := hr j e m hj hel hj0 hp
  have h2 := hx j ((hmem j).2 ⟨hj0, e, hj, hel⟩)
  omega
def endsL (L : List ND) (ks : List Int) : List ND := ks.foldl endL L
/-- A round: what holds behind the first ends of it. -/
structure Rnd (root : Int) (L M : List ND) (done : List Int) : Prop where
  inv : TInv root M
  idle : Idle M
  sub : ∀ (m : Nat) (e : ND), M[m]? = some e → e.live = true → ∃ e0 : ND, L[m]? = some e0 ∧ e0.live = true ∧ e0.parent = e.parent
  le : cnt M ≤ cnt L
  gone : ∀ (k : Nat) (d : ND), k ≠ 0 → L[k]? = some d → d.live = true → (∀ e ∈ L, e.live = true → e.parent ≠ k) → (∀ e, M[k]? = some e → e.live = false) → cnt M < cnt L
  dead : ∀ (k : Nat) (d : ND), (k : Int) ∈ done → k ≠ 0 → L[k]? = some d → d.live = true → (∀ e ∈ L, e.live = true → e.parent ≠ k) → ∀ e, M[k]? = some e → e.live = false
theorem Rnd.start {root : Int} {L : List ND} (h : TInv root L) (hi : Idle L) : Rnd root L L [] := by
  refine ⟨h, hi, fun m e h1 h2 => ⟨e, h1, h2, rfl⟩, Nat.le_refl _, ?_, ?_⟩
  · intro k d _ h1 h2 _ h3
    rw [h3 d h1] at h2
    cases h2
  · intro k d h1
    simp at h1
theorem Rnd.step {root : Int} {L M : List ND} {done : List Int} (h : Rnd root L M done) (x : Int) : Rnd root L (endL M x) (done ++ [x]) := by
  have hsub : ∀ (m : Nat) (e : ND), (endL M x)[m]? = some e → e.live = true → ∃ e0 : ND, M[m]? = some e0 ∧ e0.live = true ∧ e0.parent = e.parent := fun m e h1 h2 => by
    obtain ⟨e0, h3, h4, h5, _⟩ := end_sub h.inv x m e h1 h2
    exact ⟨e0, h3, h4, h5⟩
  have hc := end_cnt h.inv x
  have hpos : endE M x = 0 → 0 < cnt M := fun he => by
    obtain ⟨k, p, d, dp, rfl, hk0, hk, hd, _⟩ := end_form h.inv he
    have := cnt_set M k d ⟨0, 0, 0, 0, false⟩ hk
    simp [hd] at this
    omega
  refine ⟨h.inv.ends x, end_idle h.inv h.idle x, ?_, ?_, ?_, ?_⟩
  · intro m e h1 h2
    obtain ⟨e0, h3, h4, h5⟩ := hsub m e h1 h2
    obtain ⟨e1, h6, h7, h8⟩ := h.sub m e0 h3 h4
    exact ⟨e1, h6, h7, h8.trans h5⟩
  · rw [hc]
    have := h.le
    split <;> omega
  · intro k d hk0 hk hd hleaf hdead
    rw [hc]
    by_cases he : endE M x = 0
    · rw [if_pos he]
      have := h.le
      have := hpos he
      omega
    · rw [if_neg he]
      rw [end_same he] at hdead
      exact h.gone k d hk0 hk hd hleaf hdead
  · intro k d hm hk0 hk hd hleaf e hke
    cases hle : e.live with
    | false => rfl
    | true =>
      exfalso
      obtain ⟨e0, h3, h4, h5⟩ := hsub k e hke hle
      have hnk : ∀ a ∈ M, a.live = true → a.parent ≠ k := by
        intro a ha hal
        obtain ⟨j, hj⟩ := List.mem_iff_getElem?.1 ha
        obtain ⟨a0, g1, g2, g3⟩ := h.sub j a hj hal
        rw [← g3]
        exact hleaf a0 (List.mem_of_getElem? g1) g2
      rcases List.mem_append.1 hm with hm | hm
      · have := h.dead k d hm hk0 hk hd hleaf e0 h3
        rw [this] at h4
        cases h4
      · simp at hm
        subst hm
        have hz := h.idle e0 (List.mem_of_getElem? h3) h4
        have he : endE M (k : Int) = 0 := by
          unfold endE
          rw [liveAt_nat h3 h4]
          simp only
          rw [if_neg (by omega), if_neg]
          rintro (h6 | h6)
          · omega
          · rcases kidF_spec k M 0 with ⟨h7, _⟩ | ⟨_, a, g1, g2, g3⟩
            · omega
            · exact hnk a g1 g2 g3
        obtain ⟨k', p, d', dp, hkk, hk0', hk', hd', hu, hle', hp1, hp2, hp3, hpk, hq, hnk', hf⟩ := end_form h.inv he
        have : k' = k := by omega
        subst this
        have hplt : p < M.length := (List.getElem?_eq_some_iff.1 hp2).1
        have hklt : k' < M.length := (List.getElem?_eq_some_iff.1 hk').1
        rw [hf, get_set _ _ _ (by simpa using hklt), if_pos rfl] at hke
        cases hke
        cases hle
/-- A round leaves fewer, where there are two. -/
theorem Rnd.fewer {root : Int} {L M : List ND} (h0 : TInv root L) (h : Rnd root L M (liveL L 0)) : 1 < cnt L → cnt M < cnt L := by
  intro hc
  obtain ⟨k, d, hk0, hk, hd, hleaf⟩ := leaf_of h0 hc
  exact h.gone k d hk0 hk hd hleaf (fun e he => h.dead k d ((mem_liveL L 0 k).2 ⟨k, d, hk, hd, by simp⟩) hk0 hk hd hleaf e he)
/-- The root alone is left. -/
theorem alone {root : Int} {L : List ND} (h : TInv root L) (hi : Idle L) (hc : cnt L ≤ 1) : (liveL L 0).length = 1 ∧ roomF L 0 = root := by
  obtain ⟨u, l, h0⟩ := h.hd
  have hu : u = 0 := hi ⟨-1, root, u, l, true⟩ (List.mem_of_getElem? h0) rfl
  have hlv := liveAt_nat h0 rfl
  have hall : ∀ d ∈ L, d.live = true → d.parent ≠ 0 := by
    intro d hd hl
    obtain ⟨j, hj⟩ := List.mem_iff_getElem?.1 hd
    by_cases hj0 : j = 0
    · subst hj0
      rw [h0] at hj
      cases hj
      simp
    · exfalso
      have h1 := cnt_set L 0 ⟨-1, root, u, l, true⟩ ⟨0, 0, 0, 0, false⟩ h0
      have h2 := cnt_set (L.set 0 ⟨0, 0, 0, 0, false⟩) j d ⟨0, 0, 0, 0, false⟩ (by rw [get_set _ _ _ (List.getElem?_eq_some_iff.1 h0).1, if_neg hj0]; exact hj)
      simp [hl] at h1 h2
      omega
  have hl0 : l = 0 := by
    have := h.lent 0 _ h0 rfl
    rw [show ((0 : Nat) : Int) = 0 from rfl, lentF_zero L 0 hall] at this
    exact this
  constructor
  · rw [liveL_length]
    have h1 := cnt_set L 0 ⟨-1, root, u, l, true⟩ ⟨0, 0, 0, 0, false⟩ h0
    simp at h1
    omega
  · unfold roomF
    rw [show (0 : Int) = ((0 : Nat) : Int) from rfl, hlv]
    simp only
    omega
end Go.Proofs.Ytgnkgfejnnkkaaa
