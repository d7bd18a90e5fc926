/- The plain law of Cut and Protect, page by page. No program in sight. -/
import Derived.Test.YtoodjhomekeekaaRgU
namespace Go.Proofs.Ytoodjhomekeekaa
set_option linter.unusedVariables false
set_option linter.unusedSimpArgs false
abbrev Use := Bool × Bool × Bool × Int
/-- A change that turns no page's place: what it does to a use. -/
def Fits (ch : RG → RG × Bool) (G : Use → Option Use) : Prop :=
  ∀ d, (ch d).1.a = d.a ∧ (ch d).1.b = d.b ∧ (if (ch d).2 then some (useR (ch d).1) else none) = G (useR d)
theorem fits_cut : Fits cutC (fun _ => none) := fun d => ⟨rfl, rfl, rfl⟩
theorem fits_pro (mw mu mx : Bool) : Fits (proC mw mu mx) (fun u => some (mw, mu, mx, u.2.2.2)) := fun d => ⟨rfl, rfl, rfl⟩
theorem pf_opt (c : RG) (p : Int) : pf (if c.a < c.b then [c] else []) p = if c.a ≤ p ∧ p < c.b then some (useR c) else none := by
  by_cases h : c.a < c.b
  · rw [if_pos h]
    by_cases h2 : c.a ≤ p ∧ p < c.b
    · rw [if_pos h2, pf_in h2]
    · rw [if_neg h2, pf_out h2]; rfl
  · rw [if_neg h, if_neg (by omega)]; rfl
theorem cnt_opt (f t : Int) (c : RG) : cntL f t (if c.a < c.b then [c] else []) = cnt1 f t c := by
  by_cases h : c.a < c.b
  · rw [if_pos h]; simp [cntL]
  · rw [if_neg h]; simp only [cntL, cnt1]; omega
theorem mem_opt {P : Prop} [Decidable P] {c e : RG} (h : e ∈ (if P then [c] else [])) : P ∧ e = c := by
  split at h
  · rename_i hp; exact ⟨hp, by simpa using h⟩
  · cases h
theorem pieces_spec {ch : RG → RG × Bool} {G : Use → Option Use} (hch : Fits ch G) {f t : Int} (hft : f < t) {d : RG} (hd : okB d = true) :
    (∀ e ∈ pieces ch f t d, okB e = true ∧ d.a ≤ e.a ∧ e.b ≤ d.b) ∧ (pieces ch f t d).Pairwise (fun a b => a.b ≤ b.a) ∧
    (∀ p, pf (pieces ch f t d) p = if d.a ≤ p ∧ p < d.b then (if f ≤ p ∧ p < t then G (useR d) else some (useR d)) else none) := by
  have hok := okB_iff.1 hd
  obtain ⟨c1, c2, c3⟩ := hch (inR d f t)
  have ia : (inR d f t).a = max d.a f := rfl
  have ib : (inR d f t).b = min d.b t := rfl
  have iu : useR (inR d f t) = useR d := rfl
  have aa : (aheadR d f t).a = d.a := rfl
  have ab : (aheadR d f t).b = min d.b f := rfl
  have au : useR (aheadR d f t) = useR d := rfl
  have ba : (behindR d f t).a = max d.a t := rfl
  have bb : (behindR d f t).b = d.b := rfl
  have bu : useR (behindR d f t) = useR d := rfl
  rw [ia] at c1
  rw [ib] at c2
  rw [iu] at c3
  unfold pieces
  by_cases hin : (inR d f t).b ≤ (inR d f t).a
  · rw [if_pos hin]
    rw [ia, ib] at hin
    refine ⟨fun e he => ?_, by simp, fun p => ?_⟩
    · obtain rfl : e = d := by simpa using he
      exact ⟨hd, Int.le_refl _, Int.le_refl _⟩
    · by_cases hp : d.a ≤ p ∧ p < d.b
      · rw [pf_in hp, if_pos hp, if_neg (by omega)]
      · rw [pf_out hp, if_neg hp]; rfl
  · rw [if_neg hin]
    rw [ia, ib] at hin
    refine ⟨fun e he => ?_, ?_, fun p => ?_⟩
    · rcases List.mem_append.1 he with h | h
      · obtain ⟨h1, rfl⟩ := mem_opt h
        rw [okB_iff, aa, ab] at *
        omega
      rcases List.mem_append.1 h with h | h
      · obtain ⟨h1, rfl⟩ := mem_opt h
        rw [okB_iff, c1, c2]
        omega
      · obtain ⟨h1, rfl⟩ := mem_opt h
        rw [okB_iff, ba, bb] at *
        omega
    · refine List.pairwise_append.2 ⟨by split <;> simp, List.pairwise_append.2 ⟨by split <;> simp, by split <;> simp, fun x hx y hy => ?_⟩, fun x hx y hy => ?_⟩
      · obtain ⟨h1, rfl⟩ := mem_opt hx
        obtain ⟨h2, rfl⟩ := mem_opt hy
        rw [c2, ba]; omega
      · obtain ⟨h1, rfl⟩ := mem_opt hx
        rcases List.mem_append.1 hy with h | h
        · obtain ⟨h2, rfl⟩ := mem_opt h
          rw [ab, c1]; omega
        · obtain ⟨h2, rfl⟩ := mem_opt h
          rw [ab, ba]; omega
    · rw [pf_app, pf_app, pf_opt, pf_opt, aa, ab, au, ba, bb, bu]
      have hmid : pf (if (ch (inR d f t)).2 = true then [(ch (inR d f t)).1] else []) p = if max d.a f ≤ p ∧ p < min d.b t then G (useR d) else none := by
        rw [← c3]
        by_cases hk : (ch (inR d f t)).2 = true
        · rw [if_pos hk, if_pos hk]
          by_cases h2 : max d.a f ≤ p ∧ p < min d.b t
          · rw [if_pos h2, pf_in (by rw [c1, c2]; exact h2)]
          · rw [if_neg h2, pf_out (by rw [c1, c2]; exact h2)]; rfl
        · rw [if_neg hk, if_neg hk]
          split <;> rfl
      rw [hmid]
      by_cases hp : d.a ≤ p ∧ p < d.b
      · rw [if_pos hp]
        by_cases hq : f ≤ p ∧ p < t
        · rw [if_pos hq, if_neg (by omega), if_pos (by omega), if_neg (by omega)]
          simp
        · rw [if_neg hq]
          by_cases hr : p < f
          · rw [if_pos (by omega)]; rfl
          · rw [if_neg (by omega), if_neg (by omega), if_pos (by omega)]; rfl
      · rw [if_neg hp, if_neg (by omega), if_neg (by omega), if_neg (by omega)]; rfl
theorem flat_spec {ch : RG → RG × Bool} {G : Use → Option Use} (hch : Fits ch G) {f t : Int} (hft : f < t) : ∀ {R : List RG}, Srt R →
    Srt (R.flatMap (pieces ch f t)) ∧ (∀ e ∈ R.flatMap (pieces ch f t), ∃ d ∈ R, d.a ≤ e.a ∧ e.b ≤ d.b) ∧ ∀ p, pf (R.flatMap (pieces ch f t)) p = if f ≤ p ∧ p < t then (pf R p).bind G else pf R p
  | [], _ => ⟨⟨by simp, List.Pairwise.nil⟩, by simp, fun p => by simp [pf_nil]⟩
  | d :: r, hs => by
    obtain ⟨q1, q2⟩ := List.pairwise_cons.1 hs.2
    obtain ⟨i1, i2, i3⟩ := flat_spec hch hft (R := r) ⟨fun e he => hs.1 e (by simp [he]), q2⟩
    have hd := hs.1 d (by simp)
    have hok := okB_iff.1 hd
    obtain ⟨p1, p2, p3⟩ := pieces_spec hch hft hd
    rw [List.flatMap_cons]
    refine ⟨⟨fun e he => ?_, List.pairwise_append.2 ⟨p2, i1.2, fun x hx y hy => ?_⟩⟩, fun e he => ?_, fun p => ?_⟩
    · rcases List.mem_append.1 he with h | h
      · exact (p1 e h).1
      · exact i1.1 e h
    · obtain ⟨e, he, e1, e2⟩ := i2 y hy
      have h1 := p1 x hx
      have h2 := q1 e he
      omega
    · rcases List.mem_append.1 he with h | h
      · exact ⟨d, by simp, (p1 e h).2⟩
      · obtain ⟨x, hx, h1⟩ := i2 e h
        exact ⟨x, by simp [hx], h1⟩
    · rw [pf_app, p3, i3]
      by_cases hp : d.a ≤ p ∧ p < d.b
      · rw [if_pos hp, pf_in hp]
        have hn : pf r p = none := pf_none (fun x hx => by have := q1 x hx; omega)
        rw [hn]
        by_cases hq : f ≤ p ∧ p < t
        · rw [if_pos hq, if_pos hq, if_pos hq]; simp
        · rw [if_neg hq, if_neg hq, if_neg hq]; rfl
      · rw [if_neg hp, pf_out hp]; rfl
theorem split_spec {ch : RG → RG × Bool} {G : Use → Option Use} (hch : Fits ch G) {f t : Int} (hft : f < t) {R : List RG} (hR : Srt R) :
    Can (splitL ch f t R) ∧ ∀ p, pf (splitL ch f t R) p = if f ≤ p ∧ p < t then (pf R p).bind G else pf R p := by
  obtain ⟨h1, _, h3⟩ := flat_spec hch hft hR
  obtain ⟨m1, m2, _⟩ := merge_spec h1
  exact ⟨m1, fun p => by unfold splitL; rw [m2, h3]⟩
theorem cnt_flat {f t : Int} {P : RG → List RG} (hp : ∀ d, okB d = true → cntL f t (P d) = cnt1 f t d) : ∀ {R : List RG}, (∀ d ∈ R, okB d = true) → cntL f t (R.flatMap P) = cntL f t R
  | [], _ => rfl
  | d :: r, h => by
    rw [List.flatMap_cons, cntL_app, hp d (h d (by simp)), cnt_flat hp (fun e he => h e (by simp [he]))]
    rfl
/-- Protect turns no page's having. -/
theorem pro_count (mw mu mx : Bool) {f t : Int} (hft : f < t) {R : List RG} (hR : Srt R) : cntL f t (splitL (proC mw mu mx) f t R) = cntL f t R := by
  obtain ⟨h1, _, _⟩ := flat_spec (fits_pro mw mu mx) hft hR
  obtain ⟨_, _, m3⟩ := merge_spec h1
  unfold splitL
  rw [m3]
  have hp : ∀ d, okB d = true → cntL f t (pieces (proC mw mu mx) f t d) = cnt1 f t d := fun d hd => by
    have hok := okB_iff.1 hd
    unfold pieces
    by_cases hin : (inR d f t).b ≤ (inR d f t).a
    · rw [if_pos hin]; simp [cntL]
    · rw [if_neg hin, cntL_app, cntL_app, cnt_opt, cnt_opt]
      simp only [proC, if_true, cntL, cnt1, inR, aheadR, behindR] at *
      omega
  exact cnt_flat hp hR.1
end Go.Proofs.Ytoodjhomekeekaa
