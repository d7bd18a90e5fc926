/- The plain law of the document's Change and Error. No program in sight. -/
import Derived.Test.YtoodjhomekeekaaRgC1
namespace Go.Proofs.Ytoodjhomekeekaa
set_option linter.unusedVariables false
set_option linter.unusedSimpArgs false
/-! ### the ends -/
theorem insL_mem {n x : Int} : ∀ {l : List Int}, x ∈ insL n l ↔ x = n ∨ x ∈ l
  | [] => by simp [insL]
  | y :: r => by
    unfold insL
    by_cases h1 : n ≤ y
    · rw [if_pos h1]
      by_cases h2 : n < y
      · rw [if_pos h2]; simp
      · rw [if_neg h2]
        have : n = y := by omega
        subst this
        simp
    · rw [if_neg h1]
      simp only [List.mem_cons, insL_mem (l := r)]
      constructor
      · rintro (h | h | h)
        · exact Or.inr (Or.inl h)
        · exact Or.inl h
        · exact Or.inr (Or.inr h)
      · rintro (h | h | h)
        · exact Or.inr (Or.inl h)
        · exact Or.inl h
        · exact Or.inr (Or.inr h)
theorem insL_rise {n : Int} : ∀ {l : List Int}, l.Pairwise (· < ·) → (insL n l).Pairwise (· < ·)
  | [], _ => by simp [insL]
  | y :: r, h => by
    obtain ⟨q1, q2⟩ := List.pairwise_cons.1 h
    unfold insL
    by_cases h1 : n ≤ y
    · rw [if_pos h1]
      by_cases h2 : n < y
      · rw [if_pos h2]
        refine List.pairwise_cons.2 ⟨fun z hz => ?_, h⟩
        rcases List.mem_cons.1 hz with rfl | hz
        · exact h2
        · have := q1 z hz; omega
      · rw [if_neg h2]; exact h
    · rw [if_neg h1]
      refine List.pairwise_cons.2 ⟨fun z hz => ?_, insL_rise q2⟩
      rcases insL_mem.1 hz with rfl | hz
      · omega
      · exact q1 z hz
theorem fold_ins : ∀ (a o : List Int), o.Pairwise (· < ·) → (a.foldl (fun o n => insL n o) o).Pairwise (· < ·) ∧ ∀ x, x ∈ a.foldl (fun o n => insL n o) o ↔ x ∈ a ∨ x ∈ o
  | [], o, h => ⟨h, fun x => by simp⟩
  | n :: a, o, h => by
    obtain ⟨h1, h2⟩ := fold_ins a (insL n o) (insL_rise h)
    refine ⟨h1, fun x => ?_⟩
    rw [List.foldl_cons, h2, insL_mem, List.mem_cons]
    constructor
    · rintro (h | h | h)
      · exact Or.inl (Or.inr h)
      · exact Or.inl (Or.inl h)
      · exact Or.inr h
    · rintro ((h | h) | h)
      · exact Or.inr (Or.inl h)
      · exact Or.inl h
      · exact Or.inr (Or.inr h)
theorem ends_rise (R : List RG) (f t : Int) : (endsL R f t).Pairwise (· < ·) := (fold_ins (allE R f t) [] List.Pairwise.nil).1
theorem ends_mem {R : List RG} {f t x : Int} : x ∈ endsL R f t ↔ x ∈ allE R f t := by
  unfold endsL
  rw [(fold_ins (allE R f t) [] List.Pairwise.nil).2]
  simp
theorem allE_mem {R : List RG} {f t x : Int} : x ∈ allE R f t ↔ x = f ∨ x = t ∨ ∃ d ∈ R, x = d.a ∨ x = d.b := by
  unfold allE
  simp only [List.mem_append, List.mem_cons, List.mem_flatMap, List.not_mem_nil, or_false]
  constructor
  · rintro ((h | h) | h)
    · exact Or.inl h
    · exact Or.inr (Or.inl h)
    · exact Or.inr (Or.inr h)
  · rintro (h | h | h)
    · exact Or.inl (Or.inl h)
    · exact Or.inl (Or.inr h)
    · exact Or.inr h
/-! ### the stretches between ends -/
def ConsU (U : Int → Option Use) : List Int → Prop
  | a :: b :: r => (∀ p, a ≤ p → p < b → U p = U a) ∧ ConsU U (b :: r)
  | _ => True
theorem cons_of {U : Int → Option Use} {K : List Int} (hU : ∀ a b p : Int, a ≤ p → p < b → (∀ x ∈ K, x ≤ a ∨ b ≤ x) → U p = U a) :
    ∀ (l : List Int), l.Pairwise (· < ·) → (∀ x ∈ K, x ∈ l ∨ ∀ y ∈ l, x < y) → ConsU U l
  | [], _, _ => trivial
  | [_], _, _ => trivial
  | a :: b :: r, hl, hK => by
    obtain ⟨q1, q2⟩ := List.pairwise_cons.1 hl
    obtain ⟨q3, _⟩ := List.pairwise_cons.1 q2
    refine ⟨fun p h1 h2 => hU a b p h1 h2 (fun x hx => ?_), cons_of hU (b :: r) q2 (fun x hx => ?_)⟩
    · rcases hK x hx with h | h
      · rcases List.mem_cons.1 h with rfl | h
        · exact Or.inl (Int.le_refl _)
        · rcases List.mem_cons.1 h with rfl | h
          · exact Or.inr (Int.le_refl _)
          · exact Or.inr (Int.le_of_lt (q3 x h))
      · exact Or.inl (Int.le_of_lt (h a (by simp)))
    · rcases hK x hx with h | h
      · rcases List.mem_cons.1 h with rfl | h
        · exact Or.inr (fun y hy => q1 y hy)
        · exact Or.inl h
      · exact Or.inr (fun y hy => h y (by simp [hy]))
theorem segs_cons {U : Int → Option Use} {a b : Int} {r : List Int} : segs U (a :: b :: r) = (match U a with | some u => [⟨a, b, u.1, u.2.1, u.2.2.1, u.2.2.2⟩] | none => []) ++ segs U (b :: r) := rfl
theorem segs_mem {U : Int → Option Use} : ∀ {l : List Int}, l.Pairwise (· < ·) → ∀ e ∈ segs U l, e.a ∈ l ∧ e.b ∈ l ∧ e.a < e.b
  | [], _, e, he => by simp [segs] at he
  | [_], _, e, he => by simp [segs] at he
  | a :: b :: r, hl, e, he => by
    obtain ⟨q1, q2⟩ := List.pairwise_cons.1 hl
    rw [segs_cons] at he
    rcases List.mem_append.1 he with h | h
    · cases hu : U a with
      | none => rw [hu] at h; simp at h
      | some u =>
        rw [hu] at h
        simp only [List.mem_cons, List.not_mem_nil, or_false] at h
        subst h
        exact ⟨by simp, by simp, q1 b (by simp)⟩
    · obtain ⟨h1, h2, h3⟩ := segs_mem q2 e h
      exact ⟨by simp only [List.mem_cons] at h1 ⊢; exact Or.inr h1, by simp only [List.mem_cons] at h2 ⊢; exact Or.inr h2, h3⟩
theorem segs_pair {U : Int → Option Use} : ∀ {l : List Int}, l.Pairwise (· < ·) → (segs U l).Pairwise (fun a b => a.b ≤ b.a)
  | [], _ => by simp [segs]
  | [_], _ => by simp [segs]
  | a :: b :: r, hl => by
    obtain ⟨q1, q2⟩ := List.pairwise_cons.1 hl
    obtain ⟨q3, _⟩ := List.pairwise_cons.1 q2
    rw [segs_cons]
    refine List.pairwise_append.2 ⟨by cases U a <;> simp, segs_pair q2, fun x hx y hy => ?_⟩
    cases hu : U a with
    | none => rw [hu] at hx; simp at hx
    | some u =>
      rw [hu] at hx
      simp only [List.mem_cons, List.not_mem_nil, or_false] at hx
      subst hx
      have h1 := (segs_mem q2 y hy).1
      simp only
      rcases List.mem_cons.1 h1 with h | h
      · omega
      · have := q3 _ h; omega
theorem segs_pf {U : Int → Option Use} : ∀ {l : List Int}, l.Pairwise (· < ·) → ConsU U l → ∀ p, pf (segs U l) p = if (∃ a ∈ l, a ≤ p) ∧ (∃ b ∈ l, p < b) then U p else none
  | [], _, _, p => by simp [segs, pf_nil]
  | [a], _, _, p => by
    rw [if_neg]
    · rfl
    · rintro ⟨⟨x, hx, h1⟩, ⟨y, hy, h2⟩⟩
      simp at hx hy
      omega
  | a :: b :: r, hl, hc, p => by
    obtain ⟨q1, q2⟩ := List.pairwise_cons.1 hl
    obtain ⟨q3, _⟩ := List.pairwise_cons.1 q2
    obtain ⟨c1, c2⟩ := hc
    have ih := segs_pf q2 c2 p
    rw [segs_cons, pf_app, ih]
    by_cases hp : a ≤ p ∧ p < b
    · rw [if_pos (show (∃ x ∈ a :: b :: r, x ≤ p) ∧ (∃ y ∈ a :: b :: r, p < y) from ⟨⟨a, by simp, hp.1⟩, ⟨b, by simp, hp.2⟩⟩), c1 p hp.1 hp.2]
      cases hu : U a with
      | none =>
        simp only [pf_nil, Option.none_or]
        rw [if_neg]
        rintro ⟨⟨x, hx, h1⟩, _⟩
        rcases List.mem_cons.1 hx with h | h
        · omega
        · have := q3 x h; omega
      | some u => simp only; rw [pf_in (by simp only; exact hp)]; rfl
    · have hX : pf (match U a with | some u => [(⟨a, b, u.1, u.2.1, u.2.2.1, u.2.2.2⟩ : RG)] | none => []) p = none := by
        cases U a with
        | none => rfl
        | some u => exact pf_out (by simp only; exact hp)
      rw [hX, Option.none_or]
      by_cases hq : (∃ x ∈ b :: r, x ≤ p) ∧ (∃ y ∈ b :: r, p < y)
      · obtain ⟨⟨x, hx, h1⟩, ⟨y, hy, h2⟩⟩ := hq
        rw [if_pos ⟨⟨x, hx, h1⟩, ⟨y, hy, h2⟩⟩, if_pos ⟨⟨x, List.mem_cons_of_mem _ hx, h1⟩, ⟨y, List.mem_cons_of_mem _ hy, h2⟩⟩]
      · rw [if_neg hq, if_neg]
        rintro ⟨⟨x, hx, h1⟩, ⟨y, hy, h2⟩⟩
        apply hq
        have ha : a ≤ p := by
          rcases List.mem_cons.1 hx with h | h
          · omega
          · have := q1 x h; omega
        have hb : b ≤ p := by omega
        have hab := q1 b (by simp)
        refine ⟨⟨b, by simp, hb⟩, ⟨y, ?_, h2⟩⟩
        rcases List.mem_cons.1 hy with h | h
        · omega
        · exact h
theorem find_same {a b p : Int} (h1 : a ≤ p) (h2 : p < b) : ∀ {R : List RG}, (∀ d ∈ R, (d.a ≤ a ∨ b ≤ d.a) ∧ (d.b ≤ a ∨ b ≤ d.b)) → pf R p = pf R a
  | [], _ => rfl
  | d :: r, h => by
    have hd := h d (by simp)
    have ih := find_same h1 h2 (R := r) (fun e he => h e (by simp [he]))
    by_cases hp : d.a ≤ p ∧ p < d.b
    · rw [pf_in hp, pf_in (by omega)]
    · rw [pf_out hp, pf_out (by omega), ih]
theorem change_spec {R : List RG} (hR : Can R) {f t : Int} (hr : rightB f t = true) (how : Int) (x : RG) :
    Can (changeL R f t how x) ∧ ∀ p, pf (changeL R f t how x) p = chU R f t how x p := by
  have hft := right_lt hr
  have hE := ends_rise R f t
  have hcons : ConsU (chU R f t how x) (endsL R f t) := cons_of (K := allE R f t) (fun a b p h1 h2 hx => by
    have hf := hx f (allE_mem.2 (Or.inl rfl))
    have ht := hx t (allE_mem.2 (Or.inr (Or.inl rfl)))
    have hp := find_same (R := R) h1 h2 (fun d hd => ⟨hx d.a (allE_mem.2 (Or.inr (Or.inr ⟨d, hd, Or.inl rfl⟩))), hx d.b (allE_mem.2 (Or.inr (Or.inr ⟨d, hd, Or.inr rfl⟩)))⟩)
    unfold chU
    rw [hp]
    by_cases hq : f ≤ p ∧ p < t
    · rw [if_pos hq, if_pos (show f ≤ a ∧ a < t by omega)]
    · rw [if_neg hq, if_neg (show ¬ (f ≤ a ∧ a < t) by omega)]) _ hE (fun y hy => Or.inl (ends_mem.2 hy))
  have hbd : ∀ y ∈ endsL R f t, 0 ≤ y ∧ y ≤ 34359738368 := fun y hy => by
    rcases allE_mem.1 (ends_mem.1 hy) with rfl | rfl | ⟨d, hd, rfl | rfl⟩
    · omega
    · omega
    · have := okB_iff.1 (hR.1 d hd); omega
    · have := okB_iff.1 (hR.1 d hd); omega
  have hS : Srt (segs (chU R f t how x) (endsL R f t)) := ⟨fun e he => by
    obtain ⟨h1, h2, h3⟩ := segs_mem hE e he
    have := hbd _ h1
    have := hbd _ h2
    exact okB_iff.2 (by omega), segs_pair hE⟩
  obtain ⟨m1, m2, _⟩ := merge_spec hS
  refine ⟨m1, fun p => ?_⟩
  unfold changeL
  rw [m2, segs_pf hE hcons]
  by_cases hq : (∃ a ∈ endsL R f t, a ≤ p) ∧ (∃ b ∈ endsL R f t, p < b)
  · rw [if_pos hq]
  · rw [if_neg hq]
    unfold chU
    rw [if_neg (fun h => hq ⟨⟨f, ends_mem.2 (allE_mem.2 (Or.inl rfl)), h.1⟩, ⟨t, ends_mem.2 (allE_mem.2 (Or.inr (Or.inl rfl))), h.2⟩⟩)]
    exact (pf_none (fun d hd h => hq ⟨⟨d.a, ends_mem.2 (allE_mem.2 (Or.inr (Or.inr ⟨d, hd, Or.inl rfl⟩))), h.1⟩, ⟨d.b, ends_mem.2 (allE_mem.2 (Or.inr (Or.inr ⟨d, hd, Or.inr rfl⟩))), h.2⟩⟩)).symm
theorem change_add {R : List RG} (hR : Can R) {x : RG} (hr : rightB x.a x.b = true) (ht : thereB R x = false) : changeL R x.a x.b 1 x = addR R x := by
  obtain ⟨c1, c2⟩ := change_spec hR hr 1 x
  obtain ⟨a1, a2, _⟩ := add_spec hR hr ht
  refine can_unique c1 a1 (fun p => ?_)
  rw [c2, a2]
  unfold chU
  rfl
theorem change_cut {R : List RG} (hR : Can R) {f t : Int} (hr : rightB f t = true) (x : RG) : changeL R f t 2 x = splitL cutC f t R := by
  obtain ⟨c1, c2⟩ := change_spec hR hr 2 x
  obtain ⟨a1, a2⟩ := split_spec fits_cut (right_lt hr).2.1 hR.srt
  refine can_unique c1 a1 (fun p => ?_)
  rw [c2, a2]
  unfold chU
  by_cases hp : f ≤ p ∧ p < t
  · rw [if_pos hp, if_pos hp]
    cases pf R p <;> rfl
  · rw [if_neg hp, if_neg hp]
theorem change_pro {R : List RG} (hR : Can R) {f t : Int} (hr : rightB f t = true) (x : RG) : changeL R f t 3 x = splitL (proC x.w x.u x.x) f t R := by
  obtain ⟨c1, c2⟩ := change_spec hR hr 3 x
  obtain ⟨a1, a2⟩ := split_spec (fits_pro x.w x.u x.x) (right_lt hr).2.1 hR.srt
  refine can_unique c1 a1 (fun p => ?_)
  rw [c2, a2]
  unfold chU
  by_cases hp : f ≤ p ∧ p < t
  · rw [if_pos hp, if_pos hp]
    cases pf R p <;> rfl
  · rw [if_neg hp, if_neg hp]
/-! ### the error -/
def errL (R : List RG) (f t how : Int) (x : RG) : Int :=
  if !rightB f t then 1 else if !goodB R then 3 else if how = 1 ∧ 0 < cntL f t R then 6 else if how = 3 ∧ cntL f t R ≠ t - f then 5 else if 64 < (changeL R f t how x).length then 4 else 0
theorem there_cnt {d : RG} (hd : d.a < d.b) : ∀ {R : List RG}, (∀ x ∈ R, okB x = true) → (thereB R d = true ↔ 0 < cntL d.a d.b R)
  | [], _ => by simp [thereB, cntL]
  | x :: r, h => by
    have ih := there_cnt hd (R := r) (fun y hy => h y (by simp [hy]))
    have hx := okB_iff.1 (h x (by simp))
    have h0 : 0 ≤ cntL d.a d.b r := by
      clear ih h hx
      induction r with
      | nil => simp [cntL]
      | cons y r ih => simp only [cntL]; unfold cnt1; omega
    unfold thereB at ih ⊢
    rw [List.any_cons, Bool.or_eq_true, ih]
    simp only [cntL, Bool.and_eq_true, Bool.not_eq_true', decide_eq_false_iff_not, decide_eq_true_eq]
    unfold cnt1
    omega
theorem err_act {R : List RG} {f t how : Int} {x : RG} (ha : x.a = f) (hb : x.b = t) (hh : how = 1 ∨ how = 2 ∨ how = 3) :
    errL R f t how x = actE R how x ∧ (actE R how x = 0 → changeL R f t how x = actN R how x) ∧ (actE R how x ≠ 0 → actN R how x = []) := by
  subst ha hb
  rcases hr : rightB x.a x.b with _ | _
  · have he : errL R x.a x.b how x = 1 := by unfold errL; rw [hr]; rfl
    rcases hh with rfl | rfl | rfl
    · have h1 := addE_1 (R := R) hr
      exact ⟨he.trans h1.1.symm, fun e => absurd (h1.1.symm.trans e) (by decide), fun _ => h1.2⟩
    · have h1 := cutE_1 (R := R) hr
      exact ⟨he.trans h1.1.symm, fun e => absurd (h1.1.symm.trans e) (by decide), fun _ => h1.2⟩
    · have h1 := proE_1 (R := R) (mw := x.w) (mu := x.u) (mx := x.x) hr
      exact ⟨he.trans h1.1.symm, fun e => absurd (h1.1.symm.trans e) (by decide), fun _ => h1.2⟩
  rcases hg : goodB R with _ | _
  · have he : errL R x.a x.b how x = 3 := by unfold errL; rw [hr, hg]; rfl
    rcases hh with rfl | rfl | rfl
    · have h1 := addE_3 hr hg
      exact ⟨he.trans h1.1.symm, fun e => absurd (h1.1.symm.trans e) (by decide), fun _ => h1.2⟩
    · have h1 := cutE_3 hr hg
      exact ⟨he.trans h1.1.symm, fun e => absurd (h1.1.symm.trans e) (by decide), fun _ => h1.2⟩
    · have h1 := proE_3 (mw := x.w) (mu := x.u) (mx := x.x) hr hg
      exact ⟨he.trans h1.1.symm, fun e => absurd (h1.1.symm.trans e) (by decide), fun _ => h1.2⟩
  have hC := good_can hg
  have hlt := (right_lt hr).2.1
  rcases hh with rfl | rfl | rfl
  · rcases ht : thereB R x with _ | _
    · have hc := change_add hC hr ht
      have hn : ¬ 0 < cntL x.a x.b R := fun e => by have := (there_cnt hlt hC.1).2 e; rw [ht] at this; cases this
      by_cases h64 : 64 < (addR R x).length
      · have h1 := addE_4 hr hg ht h64
        refine ⟨?_, fun e => ?_, fun _ => h1.2⟩
        · unfold errL; rw [hr, hg, if_neg (by simp), if_neg (by simp), if_neg (fun e => hn e.2), if_neg (by simp), hc, if_pos h64]; exact h1.1.symm
        · exact absurd (h1.1.symm.trans e) (by decide)
      · have h1 := addE_0 hr hg ht h64
        refine ⟨?_, fun e => ?_, fun e => absurd h1.1 e⟩
        · unfold errL; rw [hr, hg, if_neg (by simp), if_neg (by simp), if_neg (fun e => hn e.2), if_neg (by simp), hc, if_neg h64]; exact h1.1.symm
        · rw [hc]; exact h1.2.symm
    · have h1 := addE_6 hr hg ht
      have hp : 0 < cntL x.a x.b R := (there_cnt hlt hC.1).1 ht
      refine ⟨?_, fun e => ?_, fun _ => h1.2⟩
      · unfold errL; rw [hr, hg, if_neg (by simp), if_neg (by simp), if_pos ⟨rfl, hp⟩]; exact h1.1.symm
      · exact absurd (h1.1.symm.trans e) (by decide)
  · have hc := change_cut hC hr x
    by_cases h64 : 64 < (splitL cutC x.a x.b R).length
    · have h1 := cutE_4 hr hg h64
      refine ⟨?_, fun e => ?_, fun _ => h1.2⟩
      · unfold errL; rw [hr, hg, if_neg (by simp), if_neg (by simp), if_neg (by simp), if_neg (by simp), hc, if_pos h64]; exact h1.1.symm
      · exact absurd (h1.1.symm.trans e) (by decide)
    · have h1 := cutE_0 hr hg h64
      refine ⟨?_, fun e => ?_, fun e => absurd h1.1 e⟩
      · unfold errL; rw [hr, hg, if_neg (by simp), if_neg (by simp), if_neg (by simp), if_neg (by simp), hc, if_neg h64]; exact h1.1.symm
      · rw [hc]; exact h1.2.symm
  · have hc := change_pro hC hr x
    by_cases hn : cntL x.a x.b R = x.b - x.a
    · by_cases h64 : 64 < (splitL (proC x.w x.u x.x) x.a x.b R).length
      · have h1 := proE_4 hr hg hn h64
        refine ⟨?_, fun e => ?_, fun _ => h1.2⟩
        · unfold errL; rw [hr, hg, if_neg (by simp), if_neg (by simp), if_neg (by simp), if_neg (fun e => e.2 hn), hc, if_pos h64]; exact h1.1.symm
        · exact absurd (h1.1.symm.trans e) (by decide)
      · have h1 := proE_0 hr hg hn h64
        refine ⟨?_, fun e => ?_, fun e => absurd h1.1 e⟩
        · unfold errL; rw [hr, hg, if_neg (by simp), if_neg (by simp), if_neg (by simp), if_neg (fun e => e.2 hn), hc, if_neg h64]; exact h1.1.symm
        · rw [hc]; exact h1.2.symm
    · have h1 := proE_5 (mw := x.w) (mu := x.u) (mx := x.x) hr hg hn
      refine ⟨?_, fun e => ?_, fun _ => h1.2⟩
      · unfold errL; rw [hr, hg, if_neg (by simp), if_neg (by simp), if_neg (by simp), if_pos ⟨rfl, hn⟩]; exact h1.1.symm
      · exact absurd (h1.1.symm.trans e) (by decide)
end Go.Proofs.Ytoodjhomekeekaa
