/- The plain law of lists of regions: which page is used how; two merged lists that say the same are one; what Add, Cut and Protect do page by page. No program in sight. -/
import Derived.Test.YtoodjhomekeekaaRgT
namespace Go.Proofs.Ytoodjhomekeekaa
set_option linter.unusedVariables false
set_option linter.unusedSimpArgs false
def useR (d : RG) : Bool × Bool × Bool × Int := (d.w, d.u, d.x, d.k)
def pf (L : List RG) (p : Int) : Option (Bool × Bool × Bool × Int) := (findL L p).map useR
theorem pf_nil (p : Int) : pf [] p = none := rfl
theorem hasB_iff {d : RG} {p : Int} : hasB d p = true ↔ d.a ≤ p ∧ p < d.b := by
  unfold hasB; simp only [Bool.and_eq_true, decide_eq_true_eq]
theorem pf_in {d : RG} {L : List RG} {p : Int} (h : d.a ≤ p ∧ p < d.b) : pf (d :: L) p = some (useR d) := by
  unfold pf findL; rw [if_pos (hasB_iff.2 h)]; rfl
theorem pf_out {d : RG} {L : List RG} {p : Int} (h : ¬ (d.a ≤ p ∧ p < d.b)) : pf (d :: L) p = pf L p := by
  unfold pf; rw [findL, if_neg (fun e => h (hasB_iff.1 e))]
theorem pf_app : ∀ (L M : List RG) (p : Int), pf (L ++ M) p = (pf L p).or (pf M p)
  | [], M, p => by simp [pf_nil]
  | d :: L, M, p => by
    rw [List.cons_append]
    by_cases h : d.a ≤ p ∧ p < d.b
    · rw [pf_in h, pf_in h]; rfl
    · rw [pf_out h, pf_out h, pf_app L M p]
theorem pf_none : ∀ {L : List RG} {p : Int}, (∀ d ∈ L, ¬ (d.a ≤ p ∧ p < d.b)) → pf L p = none
  | [], p, h => rfl
  | d :: L, p, h => by
    rw [pf_out (h d (by simp))]
    exact pf_none (fun e he => h e (by simp [he]))
theorem pf_some : ∀ {L : List RG} {p : Int} {u}, pf L p = some u → ∃ d ∈ L, d.a ≤ p ∧ p < d.b ∧ useR d = u
  | [], p, u, h => by simp [pf_nil] at h
  | d :: L, p, u, h => by
    by_cases hh : d.a ≤ p ∧ p < d.b
    · rw [pf_in hh] at h
      exact ⟨d, by simp, hh.1, hh.2, by simpa using h⟩
    · rw [pf_out hh] at h
      obtain ⟨e, he, h1⟩ := pf_some h
      exact ⟨e, by simp [he], h1⟩
theorem okB_iff {d : RG} : okB d = true ↔ 0 ≤ d.a ∧ d.a < d.b ∧ d.b ≤ 34359738368 := by
  unfold okB; simp only [Bool.and_eq_true, decide_eq_true_eq]; omega
theorem joinB_iff {a d : RG} : joinB a d = true ↔ a.b = d.a ∧ useR a = useR d := by
  unfold joinB useR
  simp only [Bool.and_eq_true, beq_iff_eq, Prod.mk.injEq]
  constructor
  · rintro ⟨⟨h1, ⟨h2, h3⟩, h4⟩, h5⟩; exact ⟨h1, h2, h3, h4, h5⟩
  · rintro ⟨h1, h2, h3, h4, h5⟩; exact ⟨⟨h1, ⟨h2, h3⟩, h4⟩, h5⟩
theorem joinB_no {a d : RG} (h : a.b ≠ d.a) : joinB a d = false := by
  cases e : joinB a d
  · rfl
  · exact absurd (joinB_iff.1 e).1 h
def Srt (L : List RG) : Prop := (∀ d ∈ L, okB d = true) ∧ L.Pairwise (fun a b => a.b ≤ b.a)
def Can (L : List RG) : Prop := (∀ d ∈ L, okB d = true) ∧ L.Pairwise (fun a b => a.b ≤ b.a ∧ joinB a b = false)
theorem Can.srt {L : List RG} (h : Can L) : Srt L := ⟨h.1, h.2.imp (fun h => h.1)⟩
theorem can_nil : Can [] := ⟨by simp, List.Pairwise.nil⟩
theorem Can.tail {d : RG} {L : List RG} (h : Can (d :: L)) : Can L := ⟨fun e he => h.1 e (by simp [he]), (List.pairwise_cons.1 h.2).2⟩
theorem Can.ok {d : RG} {L : List RG} (h : Can (d :: L)) : 0 ≤ d.a ∧ d.a < d.b ∧ d.b ≤ 34359738368 := okB_iff.1 (h.1 d (by simp))
theorem Can.low {d : RG} {L : List RG} (h : Can (d :: L)) : ∀ e ∈ L, d.b ≤ e.a ∧ joinB d e = false := (List.pairwise_cons.1 h.2).1
theorem can_lt {c d : RG} {r s : List RG} (hR : Can (c :: r)) (hS : Can (d :: s)) (h : ∀ p, pf (c :: r) p = pf (d :: s) p) : ¬ c.a < d.a := fun hl => by
  have h1 := h c.a
  have := hR.ok
  have hd := hS.ok
  rw [pf_in ⟨Int.le_refl _, by omega⟩, pf_none] at h1
  · cases h1
  · intro e he
    rcases List.mem_cons.1 he with rfl | he
    · omega
    · have := (hS.low e he).1; omega
theorem can_end {c d : RG} {r s : List RG} (hR : Can (c :: r)) (hS : Can (d :: s)) (h : ∀ p, pf (c :: r) p = pf (d :: s) p) (ha : c.a = d.a) (hu : useR c = useR d) : ¬ c.b < d.b := fun hl => by
  have h1 := h c.b
  have hc := hR.ok
  rw [pf_in (d := d) (by omega), pf_out (by omega)] at h1
  obtain ⟨e, he, e1, e2, e3⟩ := pf_some h1
  obtain ⟨l1, l2⟩ := hR.low e he
  rw [joinB_iff.2 ⟨by omega, hu.trans e3.symm⟩] at l2
  cases l2
theorem can_unique : ∀ {R S : List RG}, Can R → Can S → (∀ p, pf R p = pf S p) → R = S
  | [], [], _, _, _ => rfl
  | [], d :: s, _, hS, h => by
    have h1 := h d.a
    have := hS.ok
    rw [pf_in ⟨Int.le_refl _, by omega⟩] at h1
    cases h1
  | c :: r, [], hR, _, h => by
    have h1 := h c.a
    have := hR.ok
    rw [pf_in ⟨Int.le_refl _, by omega⟩] at h1
    cases h1
  | c :: r, d :: s, hR, hS, h => by
    have e1 : c.a = d.a := by
      have := can_lt hR hS h
      have := can_lt hS hR (fun p => (h p).symm)
      omega
    have hc := hR.ok
    have hd := hS.ok
    have eu : useR c = useR d := by
      have h1 := h c.a
      rw [pf_in ⟨Int.le_refl _, by omega⟩, pf_in (by omega)] at h1
      exact Option.some.inj h1
    have e2 : c.b = d.b := by
      have := can_end hR hS h e1 eu
      have := can_end hS hR (fun p => (h p).symm) e1.symm eu.symm
      omega
    have ecd : c = d := by
      unfold useR at eu
      simp only [Prod.mk.injEq] at eu
      exact RG.ext_ e1 e2 eu.1 eu.2.1 eu.2.2.1 eu.2.2.2
    subst ecd
    have ht : r = s := can_unique hR.tail hS.tail (fun p => by
      by_cases hp : c.a ≤ p ∧ p < c.b
      · rw [pf_none (fun e he => by have := (hR.low e he).1; omega), pf_none (fun e he => by have := (hS.low e he).1; omega)]
      · have := h p
        rwa [pf_out hp, pf_out hp] at this)
    rw [ht]
/-! ### merged -/
theorem step_spec {O : List RG} {r : RG} (hO : Can O) (hr : okB r = true) (hl : ∀ a ∈ O, a.b ≤ r.a) :
    Can (mstep O r) ∧ (∀ c : Int, r.b ≤ c → (∀ a ∈ O, a.b ≤ c) → ∀ a ∈ mstep O r, a.b ≤ c) ∧ (∀ p, pf (mstep O r) p = (pf O p).or (pf [r] p)) ∧ ∀ f t, cntL f t (mstep O r) = cntL f t O + cnt1 f t r := by
  have hr' := okB_iff.1 hr
  rcases List.eq_nil_or_concat O with rfl | ⟨O1, a, rfl⟩
  · rw [mstep_nil]
    exact ⟨⟨by simpa using hr, by simp⟩, fun c hc _ x hx => by simp at hx; subst hx; exact hc, fun p => rfl, fun f t => by simp [cntL]⟩
  · rw [List.concat_eq_append] at *
    obtain ⟨p1, p2, p3⟩ := List.pairwise_append.1 hO.2
    have ha := okB_iff.1 (hO.1 a (by simp))
    have har := hl a (by simp)
    cases hj : joinB a r
    · rw [mstep_not hj]
      refine ⟨⟨fun d hd => ?_, List.pairwise_append.2 ⟨hO.2, by simp, fun x hx y hy => ?_⟩⟩, fun c hc hc2 x hx => ?_, fun p => pf_app _ _ _, fun f t => by rw [cntL_app]; simp [cntL]⟩
      · rcases List.mem_append.1 hd with h | h
        · exact hO.1 d h
        · simp at h; subst h; exact hr
      · obtain rfl : y = r := by simpa using hy
        refine ⟨hl x hx, ?_⟩
        rcases List.mem_append.1 hx with h | h
        · have h1 := (p3 x h a (by simp)).1
          exact joinB_no (by omega)
        · obtain rfl : x = a := by simpa using h
          exact hj
      · rcases List.mem_append.1 hx with h | h
        · exact hc2 x h
        · simp at h; subst h; exact hc
    · rw [mstep_join hj]
      obtain ⟨j1, j2⟩ := joinB_iff.1 hj
      refine ⟨⟨fun d hd => ?_, List.pairwise_append.2 ⟨p1, by simp, fun x hx y hy => ?_⟩⟩, fun c hc hc2 x hx => ?_, fun p => ?_, fun f t => ?_⟩
      · rcases List.mem_append.1 hd with h | h
        · exact hO.1 d (by simp [h])
        · simp at h; subst h; exact okB_iff.2 ⟨by simp only; omega, by simp only; omega, by simp only; omega⟩
      · obtain rfl : y = ⟨a.a, r.b, a.w, a.u, a.x, a.k⟩ := by simpa using hy
        exact p3 x hx a (by simp)
      · rcases List.mem_append.1 hx with h | h
        · exact hc2 x (by simp [h])
        · simp at h; subst h; exact hc
      · rw [pf_app, pf_app, Option.or_assoc]
        congr 1
        by_cases h1 : a.a ≤ p ∧ p < a.b
        · rw [pf_in (d := a) h1, pf_in (by simp only; omega)]; rfl
        · rw [pf_out (d := a) h1, pf_nil, Option.none_or]
          by_cases h2 : r.a ≤ p ∧ p < r.b
          · rw [pf_in (d := r) h2, pf_in (by simp only; omega)]
            exact congrArg some j2
          · rw [pf_out (d := r) h2, pf_out (by simp only; omega)]
      · rw [cntL_app, cntL_app]
        simp only [cntL, cnt1]
        omega
theorem fold_spec : ∀ (L O : List RG), Can O → Srt L → (∀ a ∈ O, ∀ b ∈ L, a.b ≤ b.a) → Can (L.foldl mstep O) ∧ (∀ p, pf (L.foldl mstep O) p = (pf O p).or (pf L p)) ∧ ∀ f t, cntL f t (L.foldl mstep O) = cntL f t O + cntL f t L
  | [], O, hO, _, _ => ⟨hO, fun p => by simp [pf_nil], fun f t => by simp [cntL]⟩
  | r :: L, O, hO, hL, hb => by
    obtain ⟨s1, s2, s3, s4⟩ := step_spec hO (hL.1 r (by simp)) (fun a ha => hb a ha r (by simp))
    obtain ⟨q1, q2⟩ := List.pairwise_cons.1 hL.2
    have hr := okB_iff.1 (hL.1 r (by simp))
    obtain ⟨i1, i2, i3⟩ := fold_spec L (mstep O r) s1 ⟨fun d hd => hL.1 d (by simp [hd]), q2⟩ (fun a ha b hbL => s2 b.a (q1 b hbL) (fun x hx => hb x hx b (by simp [hbL])) a ha)
    refine ⟨i1, fun p => ?_, fun f t => ?_⟩
    · rw [List.foldl_cons, i2, s3, Option.or_assoc]
      congr 1
      exact (pf_app [r] L p).symm
    · rw [List.foldl_cons, i3, s4]; simp only [cntL]; omega
theorem merge_spec {L : List RG} (h : Srt L) : Can (mergeL L) ∧ (∀ p, pf (mergeL L) p = pf L p) ∧ ∀ f t, cntL f t (mergeL L) = cntL f t L := by
  obtain ⟨h1, h2, h3⟩ := fold_spec L [] can_nil h (by simp)
  exact ⟨h1, fun p => by rw [mergeL, h2, pf_nil]; rfl, fun f t => by rw [mergeL, h3]; simp [cntL]⟩
/-! ### Good -/
theorem good_adj {R : List RG} (h : goodB R = true) : ∀ (j i : Nat) (hj : j < R.length) (hi : i < j), (R[i]'(by omega)).b ≤ R[j].a ∧ joinB (R[i]'(by omega)) R[j] = false := by
  have hl : ∀ (p : Nat) (hp : p + 1 < R.length), linkB (R[p]'(by omega)) R[p + 1] = true := fun p hp => by
    have := (of_decide_eq_true h).2 (p + 1) hp
    rw [goodAt_s hp, Bool.and_eq_true] at this
    exact this.2
  have hok := goodB_ok h
  have hstep : ∀ (j i : Nat) (hj : j < R.length) (hi : i < j), (R[i]'(by omega)).b ≤ R[j].a := by
    intro j
    induction j with
    | zero => intro i hj hi; omega
    | succ p ih =>
      intro i hj hi
      have h1 := hl p hj
      unfold linkB at h1
      simp only [Bool.and_eq_true, decide_eq_true_eq] at h1
      by_cases e : i = p
      · subst e; exact h1.1
      · have h2 := ih i (by omega) (by omega)
        have h3 := okB_iff.1 (hok R[p] (List.getElem_mem _))
        omega
  intro j i hj hi
  refine ⟨hstep j i hj hi, ?_⟩
  by_cases e : j = i + 1
  · subst e
    have h1 := hl i hj
    unfold linkB at h1
    simp only [Bool.and_eq_true, Bool.not_eq_true'] at h1
    exact h1.2
  · obtain ⟨p, rfl⟩ : ∃ p, j = p + 1 := ⟨j - 1, by omega⟩
    have h2 := hstep p i (by omega) (by omega)
    have h3 := okB_iff.1 (hok R[p] (List.getElem_mem _))
    have h4 := hstep (p + 1) p hj (by omega)
    exact joinB_no (by omega)
theorem good_can {R : List RG} (h : goodB R = true) : Can R :=
  ⟨goodB_ok h, List.pairwise_iff_getElem.2 fun i j hi hj hij => good_adj h j i hj hij⟩
theorem can_good {R : List RG} (h : Can R) (hl : R.length ≤ 64) : goodB R = true := by
  refine decide_eq_true ⟨hl, fun j hj => ?_⟩
  cases j with
  | zero => rw [goodAt_0 hj]; exact h.1 _ (List.getElem_mem _)
  | succ p =>
    rw [goodAt_s hj, h.1 _ (List.getElem_mem _)]
    obtain ⟨h1, h2⟩ := List.pairwise_iff_getElem.1 h.2 p (p + 1) (by omega) hj (by omega)
    unfold linkB
    rw [decide_eq_true h1, h2]
    rfl
/-! ### Add -/
theorem atL_none {d : RG} : ∀ {R : List RG} (i a : Nat), (∀ x ∈ R, ¬ x.b ≤ d.a) → atL d R i a = a
  | [], i, a, h => rfl
  | x :: r, i, a, h => by
    rw [atL, if_neg (h x (by simp))]
    exact atL_none (i + 1) a (fun y hy => h y (by simp [hy]))
theorem at_parts {d : RG} : ∀ {R : List RG} (i a : Nat), Srt R → thereB R d = false → ∃ L M, R = L ++ M ∧ (∀ x ∈ L, x.b ≤ d.a) ∧ (∀ x ∈ M, d.b ≤ x.a) ∧ atL d R i a = if L = [] then a else i + L.length
  | [], i, a, _, _ => ⟨[], [], rfl, by simp, by simp, rfl⟩
  | x :: r, i, a, hs, ht => by
    obtain ⟨q1, q2⟩ := List.pairwise_cons.1 hs.2
    have hx := okB_iff.1 (hs.1 x (by simp))
    unfold thereB at ht
    rw [List.any_cons, Bool.or_eq_false_iff] at ht
    by_cases h : x.b ≤ d.a
    · obtain ⟨L, M, e, h1, h2, h3⟩ := at_parts (i + 1) (i + 1) ⟨fun y hy => hs.1 y (by simp [hy]), q2⟩ ht.2
      refine ⟨x :: L, M, by rw [e]; rfl, fun y hy => ?_, h2, ?_⟩
      · rcases List.mem_cons.1 hy with rfl | hy
        · exact h
        · exact h1 y hy
      · rw [atL, if_pos h, h3, if_neg (show ¬ (x :: L = []) from by simp)]
        split
        · rename_i hL; subst hL; rfl
        · simp only [List.length_cons]; omega
    · have h0 : d.b ≤ x.a := by
        have := ht.1
        rw [decide_eq_false h] at this
        simp at this
        omega
      refine ⟨[], x :: r, rfl, by simp, fun y hy => ?_, ?_⟩
      · rcases List.mem_cons.1 hy with rfl | hy
        · exact h0
        · have := q1 y hy; omega
      · rw [if_pos rfl]
        exact atL_none i a (fun y hy => by
          rcases List.mem_cons.1 hy with rfl | hy
          · exact h
          · have h1 := q1 y hy
            have h2 := okB_iff.1 (hs.1 y (by simp [hy]))
            omega)
theorem right_ok {d : RG} (h : rightB d.a d.b = true) : 0 ≤ d.a ∧ d.a < d.b ∧ d.b ≤ 34359738368 := by
  unfold rightB at h
  simp only [Bool.and_eq_true, decide_eq_true_eq] at h
  omega
theorem add_spec {R : List RG} {d : RG} (hR : Can R) (hd : rightB d.a d.b = true) (ht : thereB R d = false) :
    Can (addR R d) ∧ (∀ p, pf (addR R d) p = if d.a ≤ p ∧ p < d.b then some (useR d) else pf R p) ∧ (∀ p, d.a ≤ p ∧ p < d.b → pf R p = none) ∧ cntL d.a d.b (addR R d) = d.b - d.a ∧ (addR R d).length ≤ R.length + 1 := by
  obtain ⟨L, M, e, h1, h2, h3⟩ := at_parts (d := d) 0 0 hR.srt ht
  have hat : atL d R 0 0 = L.length := by
    rw [h3]; split
    · rename_i hL; rw [hL]; rfl
    · omega
  have hok := right_ok hd
  have eL : R.take L.length = L := by rw [e]; exact List.take_left' rfl
  have eM : R.drop L.length = M := by rw [e]; exact List.drop_left' rfl
  have hadd : addR R d = mergeL (L ++ d :: M) := by unfold addR; rw [hat, eL, eM]
  have hs := hR.srt
  rw [e] at hs
  obtain ⟨p1, p2, p3⟩ := List.pairwise_append.1 hs.2
  have hS : Srt (L ++ d :: M) := by
    refine ⟨fun x hx => ?_, List.pairwise_append.2 ⟨p1, List.pairwise_cons.2 ⟨fun y hy => h2 y hy, p2⟩, fun x hx y hy => ?_⟩⟩
    · rcases List.mem_append.1 hx with h | h
      · exact hs.1 x (by simp [h])
      · rcases List.mem_cons.1 h with rfl | h
        · exact okB_iff.2 hok
        · exact hs.1 x (by simp [h])
    · rcases List.mem_cons.1 hy with rfl | hy
      · exact h1 x hx
      · exact p3 x hx y hy
  obtain ⟨m1, m2, m3⟩ := merge_spec hS
  rw [hadd]
  have hnL : ∀ p, d.a ≤ p ∧ p < d.b → pf L p = none := fun p hp => pf_none (fun x hx => by have := h1 x hx; omega)
  have hnM : ∀ p, d.a ≤ p ∧ p < d.b → pf M p = none := fun p hp => pf_none (fun x hx => by have := h2 x hx; omega)
  have z0 : ∀ (K : List RG), (∀ x ∈ K, cnt1 d.a d.b x = 0) → cntL d.a d.b K = 0 := by
    intro K
    induction K with
    | nil => intro _; rfl
    | cons x K ih => intro h; rw [cntL, h x (by simp), ih (fun y hy => h y (by simp [hy]))]; rfl
  refine ⟨m1, fun p => ?_, fun p hp => ?_, ?_, ?_⟩
  · rw [m2, pf_app, e, pf_app]
    by_cases hp : d.a ≤ p ∧ p < d.b
    · rw [if_pos hp, hnL p hp, pf_in hp]; rfl
    · rw [if_neg hp, pf_out hp]
  · rw [e, pf_app, hnL p hp, hnM p hp]; rfl
  · rw [m3, cntL_app, cntL, z0 L (fun x hx => by have := h1 x hx; unfold cnt1; omega), z0 M (fun x hx => by have := h2 x hx; unfold cnt1; omega)]
    unfold cnt1
    omega
  · refine Nat.le_trans (mergeL_len _) ?_
    rw [e]; simp only [List.length_append, List.length_cons]; omega
end Go.Proofs.Ytoodjhomekeekaa
