/- Trees of containers, told plainly: what calls make of them, and what holds of them behind any calls. No condition. -/
import Derived.Test.YtgnkgfejnnkkaaaQuoM
namespace Go.Proofs.Ytgnkgfejnnkkaaa
open Go.ChangeShapes Go.WideShapes Go.ChangeAt Go.RowKit
set_option linter.unusedVariables false
set_option linter.unusedSimpArgs false
def cF (d : ND) (x : Int) : Int := if d.live && (d.parent == x) then d.quota else 0
def lentF : List ND → Int → Int
  | [], _ => 0
  | d :: r, x => cF d x + lentF r x
theorem get_set {α : Type} (L : List α) (k : Nat) (d : α) (hk : k < L.length) (j : Nat) : (L.set k d)[j]? = if j = k then some d else L[j]? := by
  by_cases h : j = k
  · subst h; simp [hk]
  · simp [h, Ne.symm h]
theorem lentF_set : ∀ (L : List ND) (k : Nat) (d d' : ND) (x : Int), L[k]? = some d → lentF (L.set k d') x = lentF L x - cF d x + cF d' x
  | [], k, d, d', x, h => by simp at h
  | y :: r, 0, d, d', x, h => by simp at h; subst h; simp only [List.set_cons_zero, lentF]; omega
  | y :: r, k + 1, d, d', x, h => by
    have := lentF_set r k d d' x (by simpa using h)
    simp only [List.set_cons_succ, lentF]; omega
theorem lentF_append : ∀ (L : List ND) (d : ND) (x : Int), lentF (L ++ [d]) x = lentF L x + cF d x
  | [], d, x => by simp [lentF]
  | y :: r, d, x => by
    have := lentF_append r d x
    simp only [List.cons_append, lentF]; omega
theorem lentF_nonneg : ∀ (L : List ND) (x : Int), (∀ d ∈ L, 0 ≤ d.quota) → 0 ≤ lentF L x
  | [], x, h => by simp [lentF]
  | y :: r, x, h => by
    have h1 := lentF_nonneg r x (fun d hd => h d (by simp [hd]))
    have h2 := h y (by simp)
    simp only [lentF, cF]; split <;> omega
theorem lentF_zero : ∀ (L : List ND) (x : Int), (∀ d ∈ L, d.live = true → d.parent ≠ x) → lentF L x = 0
  | [], x, h => by simp [lentF]
  | y :: r, x, h => by
    have h1 := lentF_zero r x (fun d hd => h d (by simp [hd]))
    have h2 := h y (by simp)
    simp only [lentF, cF, h1]
    cases hl : y.live with
    | false => simp
    | true => simp [h2 hl]
theorem kidF_spec (i : Int) : ∀ (L : List ND) (k : Nat), (kidF i L k = -1 ∧ ∀ d ∈ L, d.live = true → d.parent ≠ i) ∨ (0 ≤ kidF i L k ∧ ∃ d ∈ L, d.live = true ∧ d.parent = i)
  | [], k => .inl ⟨rfl, by simp⟩
  | y :: r, k => by
    unfold kidF
    cases hl : (y.live && (y.parent == i)) with
    | true =>
      right
      simp only [if_true]
      simp at hl
      exact ⟨by omega, y, by simp, hl.1, hl.2⟩
    | false =>
      simp only [Bool.false_eq_true, if_false]
      rcases kidF_spec i r (k + 1) with ⟨h1, h2⟩ | ⟨h1, d, h2, h3⟩
      · refine .inl ⟨h1, fun d hd hlv => ?_⟩
        rcases List.mem_cons.1 hd with rfl | hd
        · intro e; simp [hlv, e] at hl
        · exact h2 d hd hlv
      · exact .inr ⟨h1, d, by simp [h2], h3⟩
theorem freeF_spec : ∀ (L : List ND) (k : Nat), (freeF L k = -1 ∧ ∀ d ∈ L, d.live = true) ∨ ∃ f : Nat, freeF L k = ((k + f : Nat) : Int) ∧ f < L.length ∧ (∃ d, L[f]? = some d ∧ d.live = false) ∧ ∀ j, j < f → ∃ d, L[j]? = some d ∧ d.live = true
  | [], k => .inl ⟨rfl, by simp⟩
  | y :: r, k => by
    unfold freeF
    cases hl : y.live with
    | false =>
      right
      simp only [Bool.false_eq_true, if_false]
      exact ⟨0, by simp, by simp, ⟨y, by simp, hl⟩, fun j hj => by omega⟩
    | true =>
      simp only [if_true]
      rcases freeF_spec r (k + 1) with ⟨h1, h2⟩ | ⟨f, h1, h2, ⟨d, h3, h4⟩, h5⟩
      · refine .inl ⟨h1, fun d hd => ?_⟩
        rcases List.mem_cons.1 hd with rfl | hd
        · exact hl
        · exact h2 d hd
      · refine .inr ⟨f + 1, by rw [h1]; congr 1; omega, by simp; omega, ⟨d, by simpa using h3, h4⟩, fun j hj => ?_⟩
        cases j with
        | zero => exact ⟨y, by simp, hl⟩
        | succ j => simpa using h5 j (by omega)
theorem liveAt_nat {L : List ND} {k : Nat} {d : ND} (h : L[k]? = some d) (hd : d.live = true) : liveAt L (k : Int) = some d := by
  unfold liveAt; rw [if_pos (Int.natCast_nonneg _), Int.toNat_natCast, h]; simp [hd]
def roomD (d : ND) : Int := d.quota - d.used - d.lent
def childE (L : List ND) (i n : Int) : Int := match liveAt L i with | none => 5 | some d => if n < 0 then 1 else if roomD d < n then 8 else if freeF L 0 < 0 ∧ 64 ≤ L.length then 4 else 0
def childN (L : List ND) (i n : Int) : Int := if childE L i n = 0 then (if freeF L 0 < 0 then (L.length : Int) else freeF L 0) else 0
def childL (L : List ND) (i n : Int) : List ND := match liveAt L i with
  | none => L
  | some d => if childE L i n = 0 then (if freeF L 0 < 0 then L.set i.toNat { d with lent := d.lent + n } ++ [⟨i, n, 0, 0, true⟩] else (L.set i.toNat { d with lent := d.lent + n }).set (freeF L 0).toNat ⟨i, n, 0, 0, true⟩) else L
def chargeE (L : List ND) (i n : Int) : Int := match liveAt L i with | none => 5 | some d => if n < 0 then 1 else if roomD d < n then 8 else 0
def chargeL (L : List ND) (i n : Int) : List ND := match liveAt L i with | none => L | some d => if chargeE L i n = 0 then L.set i.toNat { d with used := d.used + n } else L
def creditE (L : List ND) (i n : Int) : Int := match liveAt L i with | none => 5 | some d => if n < 0 ∨ d.used < n then 1 else 0
def creditL (L : List ND) (i n : Int) : List ND := match liveAt L i with | none => L | some d => if creditE L i n = 0 then L.set i.toNat { d with used := d.used - n } else L
def endE (L : List ND) (i : Int) : Int := match liveAt L i with | none => 5 | some d => if i = 0 then 5 else if 0 < d.used ∨ 0 ≤ kidF i L 0 then 11 else 0
def endL (L : List ND) (i : Int) : List ND := match liveAt L i with
  | none => L
  | some d => if endE L i = 0 then (match L[d.parent.toNat]? with | none => L | some dp => (L.set d.parent.toNat { dp with lent := dp.lent - d.quota }).set i.toNat ⟨0, 0, 0, 0, false⟩) else L
/-- What holds of a tree behind any calls. -/
structure TInv (root : Int) (L : List ND) : Prop where
  ok : ∀ d ∈ L, d.ok
  hd : ∃ u l, L[0]? = some ⟨-1, root, u, l, true⟩
  len : L.length ≤ 64
  lent : ∀ (k : Nat) (d : ND), L[k]? = some d → d.live = true → d.lent = lentF L k
  par : ∀ (k : Nat) (d : ND), L[k]? = some d → d.live = true → k ≠ 0 → ∃ (p : Nat) (dp : ND), d.parent = p ∧ L[p]? = some dp ∧ dp.live = true
  rank : ∃ f : Nat → Nat, ∀ (k : Nat) (d : ND) (p : Nat), L[k]? = some d → d.live = true → k ≠ 0 → d.parent = p → f p < f k
theorem TInv.new {root : Int} (h0 : 0 ≤ root) (h1 : root ≤ 1048576) : TInv root [⟨-1, root, 0, 0, true⟩] := by
  refine ⟨?_, ⟨0, 0, rfl⟩, by simp, ?_, ?_, ⟨fun _ => 0, ?_⟩⟩
  · intro d hd
    simp at hd
    subst hd
    exact ⟨by simp, by simp, by simpa using h0, by simpa using h1⟩
  · intro k d hk hl
    cases k with
    | zero => simp at hk; subst hk; simp [lentF, cF]
    | succ k => simp at hk
  · intro k d hk hl h
    cases k with
    | zero => exact absurd rfl h
    | succ k => simp at hk
  · intro k d p hk hl h
    cases k with
    | zero => exact absurd rfl h
    | succ k => simp at hk
/-- A number that has no container has no child. -/
theorem TInv.nokid {root : Int} {L : List ND} (h : TInv root L) {f : Nat} (hf : ∀ d, L[f]? = some d → d.live = false) : ∀ d ∈ L, d.live = true → d.parent ≠ f := by
  intro d hd hl e
  obtain ⟨k, hk⟩ := List.mem_iff_getElem?.1 hd
  by_cases h0 : k = 0
  · subst h0
    obtain ⟨u, l, h1⟩ := h.hd
    rw [h1] at hk
    cases hk
    simp at e
  · obtain ⟨p, dp, h1, h2, h3⟩ := h.par k d hk hl h0
    have : p = f := by omega
    subst this
    rw [hf dp h2] at h3
    cases h3
theorem TInv.add {root : Int} {L L' : List ND} (h : TInv root L) {k : Nat} {d : ND} (hk : L[k]? = some d) (hd : d.live = true) {n : Int} (h0 : 0 ≤ n) (h1 : n ≤ roomD d) {f : Nat} (hfk : f ≠ k)
    (hv : ∀ j : Nat, L'[j]? = if j = f then some ⟨k, n, 0, 0, true⟩ else if j = k then some { d with lent := d.lent + n } else L[j]?) (hf : ∀ d, L[f]? = some d → d.live = false)
    (hl : ∀ x, lentF L' x = lentF L x + if x = k then n else 0) (hlen : L'.length ≤ 64) : TInv root L' := by
  have hokd := h.ok d (List.mem_of_getElem? hk)
  obtain ⟨o1, o2, o3, o4⟩ := hokd
  unfold roomD at h1
  have hnk := h.nokid hf
  refine ⟨?_, ?_, hlen, ?_, ?_, ?_⟩
  · intro e he
    obtain ⟨j, hj⟩ := List.mem_iff_getElem?.1 he
    rw [hv] at hj
    split at hj
    · cases hj; exact ⟨by simp, by simp, by simpa using h0, by simp; omega⟩
    · split at hj
      · cases hj; exact ⟨o1, by simp; omega, by simp; omega, o4⟩
      · exact h.ok e (List.mem_of_getElem? hj)
  · obtain ⟨u, l, h2⟩ := h.hd
    have h3 : (0 : Nat) ≠ f := by
      rintro rfl
      have := hf _ h2
      cases this
    rw [hv, if_neg h3]
    split
    · rename_i h4
      subst h4
      rw [h2] at hk
      cases hk
      exact ⟨_, _, rfl⟩
    · exact ⟨u, l, h2⟩
  · intro j e hj hle
    rw [hv] at hj
    rw [hl]
    split at hj
    · rename_i h2
      subst h2
      cases hj
      rw [lentF_zero L j hnk, if_neg (by omega)]
      rfl
    · split at hj
      · rename_i h2
        subst h2
        cases hj
        rw [if_pos rfl, ← h.lent j d hk hd]
      · rename_i h2
        rw [if_neg (by omega), ← h.lent j e hj hle]
        omega
  · intro j e hj hle hj0
    rw [hv] at hj
    have key : ∀ (p : Nat) (dp : ND), L[p]? = some dp → dp.live = true → ∃ dp' : ND, L'[p]? = some dp' ∧ dp'.live = true := by
      intro p dp hp hpl
      rw [hv]
      split
      · exact ⟨_, rfl, rfl⟩
      · split
        · exact ⟨_, rfl, hd⟩
        · exact ⟨dp, hp, hpl⟩
    split at hj
    · cases hj
      obtain ⟨dp', h2, h3⟩ := key k d hk hd
      exact ⟨k, dp', rfl, h2, h3⟩
    · split at hj
      · rename_i h2
        subst h2
        cases hj
        obtain ⟨p, dp, h3, h4, h5⟩ := h.par j d hk hd hj0
        obtain ⟨dp', h6, h7⟩ := key p dp h4 h5
        exact ⟨p, dp', h3, h6, h7⟩
      · obtain ⟨p, dp, h3, h4, h5⟩ := h.par j e hj hle hj0
        obtain ⟨dp', h6, h7⟩ := key p dp h4 h5
        exact ⟨p, dp', h3, h6, h7⟩
  · obtain ⟨r, hr⟩ := h.rank
    refine ⟨fun j => if j = f then r k + 1 else r j, ?_⟩
    intro j e p hj hle hj0 hp
    rw [hv] at hj
    have key : ∀ e', L[j]? = some e' → e'.live = true → e'.parent = p → j ≠ f → (if p = f then r k + 1 else r p) < (if j = f then r k + 1 else r j) := by
      intro e' h2 h3 h4 h5
      have h6 : p ≠ f := fun h7 => hnk e' (List.mem_of_getElem? h2) h3 (by rw [h4, h7])
      rw [if_neg h6, if_neg h5]
      exact hr j e' p h2 h3 hj0 h4
    split at hj
    · rename_i h2
      subst h2
      cases hj
      simp only at hp
      have : p = k := by omega
      subst this
      simp only [if_pos]
      rw [if_neg (Ne.symm hfk)]
      omega
    · rename_i h5
      split at hj
      · rename_i h2
        subst h2
        cases hj
        exact key d hk hd hp h5
      · exact key e hj hle hp h5
theorem TInv.child {root : Int} {L : List ND} (h : TInv root L) (i n : Int) : TInv root (childL L i n) := by
  unfold childL
  cases hl : liveAt L i with
  | none => exact h
  | some d =>
    obtain ⟨k, rfl, hk, hd⟩ := live_some hl
    have hklt : k < L.length := (List.getElem?_eq_some_iff.1 hk).1
    simp only
    split
    · rename_i he
      unfold childE at he
      rw [hl] at he
      simp only at he
      split at he
      · omega
      · split at he
        · omega
        · rename_i h0 h1
          split at he
          · omega
          · rename_i h2
            rw [Int.toNat_natCast]
            rcases freeF_spec L 0 with ⟨hf, hall⟩ | ⟨f, hf, hfl, ⟨df, h3, h4⟩, _⟩
            · rw [if_pos (by omega)]
              refine h.add hk hd (n := n) (by omega) (by omega) (f := L.length) (by omega) ?_ ?_ ?_ ?_
              · intro j
                rw [List.getElem?_append]
                simp only [List.length_set]
                split
                · rename_i h3
                  rw [if_neg (by omega), get_set _ _ _ hklt]
                · rename_i h3
                  split
                  · rename_i h4; subst h4; simp
                  · rename_i h4
                    rw [if_neg (by omega), List.getElem?_eq_none (by simp; omega), List.getElem?_eq_none (by omega)]
              · intro d' hd'
                rw [List.getElem?_eq_none (by omega)] at hd'
                cases hd'
              · intro x
                rw [lentF_append, lentF_set L k d _ x hk]
                simp only [cF]
                by_cases hx : x = k
                · subst hx; simp [hd]
                · have : ((k : Int) == x) = false := by simp; omega
                  simp [this, hx]
              · simp; omega
            · rw [Nat.zero_add] at hf
              have hfk : f ≠ k := by rintro rfl; rw [hk] at h3; cases h3; rw [hd] at h4; cases h4
              rw [if_neg (by omega), hf, Int.toNat_natCast]
              refine h.add hk hd (n := n) (by omega) (by omega) (f := f) hfk ?_ ?_ ?_ ?_
              · intro j
                rw [get_set _ _ _ (by simpa using hfl), get_set _ _ _ hklt]
              · intro d' hd'
                rw [h3] at hd'
                cases hd'
                exact h4
              · intro x
                rw [lentF_set _ f df _ x (by rw [get_set _ _ _ hklt, if_neg hfk]; exact h3), lentF_set L k d _ x hk]
                simp only [cF]
                by_cases hx : x = k
                · subst hx; simp [hd, h4]
                · have : ((k : Int) == x) = false := by simp; omega
                  simp [this, hx, h4]
              · simp; exact h.len
    · exact h
theorem TInv.used {root : Int} {L : List ND} (h : TInv root L) {k : Nat} {d : ND} (hk : L[k]? = some d) (u : Int) (h0 : 0 ≤ u) (h1 : u + d.lent ≤ d.quota) : TInv root (L.set k { d with used := u }) := by
  have hklt : k < L.length := (List.getElem?_eq_some_iff.1 hk).1
  obtain ⟨o1, o2, o3, o4⟩ := h.ok d (List.mem_of_getElem? hk)
  have hv : ∀ (j : Nat) (e : ND), (L.set k { d with used := u })[j]? = some e → ∃ e0 : ND, L[j]? = some e0 ∧ e.live = e0.live ∧ e.parent = e0.parent ∧ e.lent = e0.lent ∧ e.quota = e0.quota := by
    intro j e hj
    rw [get_set _ _ _ hklt] at hj
    split at hj
    · rename_i h2
      subst h2
      cases hj
      exact ⟨d, hk, rfl, rfl, rfl, rfl⟩
    · exact ⟨e, hj, rfl, rfl, rfl, rfl⟩
  have hl : ∀ x, lentF (L.set k { d with used := u }) x = lentF L x := fun x => by
    rw [lentF_set L k d _ x hk]; simp only [cF]; omega
  refine ⟨?_, ?_, by simpa using h.len, ?_, ?_, ?_⟩
  · intro e he
    obtain ⟨j, hj⟩ := List.mem_iff_getElem?.1 he
    rw [get_set _ _ _ hklt] at hj
    split at hj
    · cases hj
      exact ⟨h0, o2, h1, o4⟩
    · exact h.ok e (List.mem_of_getElem? hj)
  · obtain ⟨v, l, h2⟩ := h.hd
    rw [get_set _ _ _ hklt]
    split
    · rename_i h3
      subst h3
      rw [h2] at hk
      cases hk
      exact ⟨_, _, rfl⟩
    · exact ⟨v, l, h2⟩
  · intro j e hj hle
    obtain ⟨e0, g1, g2, g3, g4, g5⟩ := hv j e hj
    rw [hl, g4]
    exact h.lent j e0 g1 (g2 ▸ hle)
  · intro j e hj hle hj0
    obtain ⟨e0, g1, g2, g3, g4, g5⟩ := hv j e hj
    obtain ⟨p, dp, h3, h4, h5⟩ := h.par j e0 g1 (g2 ▸ hle) hj0
    by_cases hp : p = k
    · subst hp
      rw [hk] at h4
      cases h4
      exact ⟨p, { d with used := u }, g3.trans h3, by rw [get_set _ _ _ hklt, if_pos rfl], h5⟩
    · exact ⟨p, dp, g3.trans h3, by rw [get_set _ _ _ hklt, if_neg hp]; exact h4, h5⟩
  · obtain ⟨r, hr⟩ := h.rank
    refine ⟨r, fun j e p hj hle hj0 hp => ?_⟩
    obtain ⟨e0, g1, g2, g3, g4, g5⟩ := hv j e hj
    exact hr j e0 p g1 (g2 ▸ hle) hj0 (g3 ▸ hp)
theorem TInv.charge {root : Int} {L : List ND} (h : TInv root L) (i n : Int) : TInv root (chargeL L i n) := by
  unfold chargeL
  cases hl : liveAt L i with
  | none => exact h
  | some d =>
    obtain ⟨k, rfl, hk, hd⟩ := live_some hl
    simp only
    split
    · rename_i he
      unfold chargeE at he
      rw [hl] at he
      simp only at he
      obtain ⟨o1, o2, o3, o4⟩ := h.ok d (List.mem_of_getElem? hk)
      rw [Int.toNat_natCast]
      by_cases h0 : n < 0
      · rw [if_pos h0] at he; omega
      · rw [if_neg h0] at he
        by_cases h1 : roomD d < n
        · rw [if_pos h1] at he; omega
        · unfold roomD at h1
          exact h.used hk _ (by omega) (by omega)
    · exact h
theorem TInv.credit {root : Int} {L : List ND} (h : TInv root L) (i n : Int) : TInv root (creditL L i n) := by
  unfold creditL
  cases hl : liveAt L i with
  | none => exact h
  | some d =>
    obtain ⟨k, rfl, hk, hd⟩ := live_some hl
    simp only
    split
    · rename_i he
      unfold creditE at he
      rw [hl] at he
      simp only at he
      obtain ⟨o1, o2, o3, o4⟩ := h.ok d (List.mem_of_getElem? hk)
      rw [Int.toNat_natCast]
      split at he
      · omega
      · exact h.used hk _ (by omega) (by omega)
    · exact h
/-- What End finds: the container, its parent. -/
theorem TInv.endAt {root : Int} {L : List ND} (h : TInv root L) {k : Nat} {d : ND} (hk : L[k]? = some d) (hd : d.live = true) (hk0 : k ≠ 0) :
    ∃ (p : Nat) (dp : ND), d.parent = p ∧ L[p]? = some dp ∧ dp.live = true ∧ p ≠ k ∧ d.quota ≤ dp.lent := by
  obtain ⟨p, dp, h1, h2, h3⟩ := h.par k d hk hd hk0
  obtain ⟨r, hr⟩ := h.rank
  have h4 := hr k d p hk hd hk0 h1
  refine ⟨p, dp, h1, h2, h3, by rintro rfl; omega, ?_⟩
  rw [h.lent p dp h2 h3]
  have h5 := lentF_set L k d ⟨0, 0, 0, 0, false⟩ p hk
  have h6 := lentF_nonneg (L.set k ⟨0, 0, 0, 0, false⟩) p (fun e he => by
    rcases List.mem_or_eq_of_mem_set he with h7 | h7
    · obtain ⟨o1, o2, o3, o4⟩ := h.ok e h7; omega
    · subst h7; simp)
  simp [cF, hd, h1] at h5
  omega
theorem TInv.ends {root : Int} {L : List ND} (h : TInv root L) (i : Int) : TInv root (endL L i) := by
  unfold endL
  cases hl : liveAt L i with
  | none => exact h
  | some d =>
    obtain ⟨k, rfl, hk, hd⟩ := live_some hl
    have hklt : k < L.length := (List.getElem?_eq_some_iff.1 hk).1
    simp only
    split
    · rename_i he
      unfold endE at he
      rw [hl] at he
      simp only at he
      split at he
      · omega
      · rename_i hk0
        split at he
        · omega
        · rename_i hbz
          obtain ⟨p, dp, hp1, hp2, hp3, hpk, hq⟩ := h.endAt hk hd (by omega)
          have hplt : p < L.length := (List.getElem?_eq_some_iff.1 hp2).1
          have hnk : ∀ e ∈ L, e.live = true → e.parent ≠ k := by
            rcases kidF_spec k L 0 with ⟨_, h2⟩ | ⟨h2, _⟩
            · exact h2
            · exact absurd (.inr h2) hbz
          rw [hp1, Int.toNat_natCast, Int.toNat_natCast, hp2]
          simp only
          have hv : ∀ j : Nat, ((L.set p { dp with lent := dp.lent - d.quota }).set k ⟨0, 0, 0, 0, false⟩)[j]? = if j = k then some ⟨0, 0, 0, 0, false⟩ else if j = p then some { dp with lent := dp.lent - d.quota } else L[j]? := by
            intro j
            rw [get_set _ _ _ (by simpa using hklt), get_set _ _ _ hplt]
          have hlf : ∀ x, lentF ((L.set p { dp with lent := dp.lent - d.quota }).set k ⟨0, 0, 0, 0, false⟩) x = lentF L x - if x = p then d.quota else 0 := by
            intro x
            rw [lentF_set _ k d _ x (by rw [get_set _ _ _ hplt, if_neg (Ne.symm hpk)]; exact hk), lentF_set L p dp _ x hp2]
            simp only [cF]
            by_cases hx : x = p
            · subst hx; simp [hd, hp1]
            · have : ((p : Int) == x) = false := by simp; omega
              simp [this, hx, hp1]
          have hvl : ∀ (j : Nat) (e : ND), ((L.set p { dp with lent := dp.lent - d.quota }).set k ⟨0, 0, 0, 0, false⟩)[j]? = some e → e.live = true → j ≠ k ∧ ∃ e0 : ND, L[j]? = some e0 ∧ e0.live = true ∧ e.parent = e0.parent := by
            intro j e hj hle
            rw [hv] at hj
            split at hj
            · cases hj; cases hle
            · rename_i h6
              refine ⟨h6, ?_⟩
              split at hj
              · rename_i h7
                subst h7
                cases hj
                exact ⟨dp, hp2, hp3, rfl⟩
              · exact ⟨e, hj, hle, rfl⟩
          obtain ⟨q1, q2, q3, q4⟩ := h.ok dp (List.mem_of_getElem? hp2)
          obtain ⟨r1, r2, r3, r4⟩ := h.ok d (List.mem_of_getElem? hk)
          refine ⟨?_, ?_, by simpa using h.len, ?_, ?_, ?_⟩
          · intro e he
            obtain ⟨j, hj⟩ := List.mem_iff_getElem?.1 he
            rw [hv] at hj
            split at hj
            · cases hj; exact ⟨by simp, by simp, by simp, by simp⟩
            · split at hj
              · cases hj; exact ⟨q1, by simp; omega, by simp; omega, q4⟩
              · exact h.ok e (List.mem_of_getElem? hj)
          · obtain ⟨u, l, h2⟩ := h.hd
            rw [hv, if_neg (by omega)]
            split
            · rename_i h4
              subst h4
              rw [h2] at hp2
              cases hp2
              exact ⟨_, _, rfl⟩
            · exact ⟨u, l, h2⟩
          · intro j e hj hle
            rw [hlf]
            rw [hv] at hj
            split at hj
            · cases hj; cases hle
            · split at hj
              · rename_i h7
                subst h7
                cases hj
                rw [if_pos rfl, ← h.lent j dp hp2 hp3]
              · rename_i h7
                rw [if_neg (by omega), ← h.lent j e hj hle]
                omega
          · intro j e hj hle hj0
            obtain ⟨h6, e0, g1, g2, g3⟩ := hvl j e hj hle
            obtain ⟨q, dq, h8, h9, h10⟩ := h.par j e0 g1 g2 hj0
            have h11 : q ≠ k := fun h12 => hnk e0 (List.mem_of_getElem? g1) g2 (by rw [h8, h12])
            rw [g3, h8]
            by_cases h12 : q = p
            · exact ⟨q, { dp with lent := dp.lent - d.quota }, rfl, by rw [hv, if_neg h11, if_pos h12], hp3⟩
            · exact ⟨q, dq, rfl, by rw [hv, if_neg h11, if_neg h12]; exact h9, h10⟩
          · obtain ⟨r, hr⟩ := h.rank
            refine ⟨r, fun j e q hj hle hj0 hq => ?_⟩
            obtain ⟨h6, e0, g1, g2, g3⟩ := hvl j e hj hle
            exact hr j e0 q g1 g2 hj0 (g3 ▸ hq)
    · exact h
end Go.Proofs.Ytgnkgfejnnkkaaa
