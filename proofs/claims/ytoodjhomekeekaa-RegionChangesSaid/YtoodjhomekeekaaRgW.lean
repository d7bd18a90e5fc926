/- The plain laws of changes of good lists: they stay good; added and cut again; added in either order; protected twice. No program in sight. -/
import Derived.Test.YtoodjhomekeekaaRgV
namespace Go.Proofs.Ytoodjhomekeekaa
set_option linter.unusedVariables false
set_option linter.unusedSimpArgs false
theorem addE_zero {R : List RG} {d : RG} (h : addE R d = 0) : rightB d.a d.b = true ∧ goodB R = true ∧ thereB R d = false ∧ ¬ 64 < (addR R d).length ∧ addO R d = addR R d := by
  rcases h1 : rightB d.a d.b with _ | _
  · rw [(addE_1 h1).1] at h; cases h
  rcases h2 : goodB R with _ | _
  · rw [(addE_3 h1 h2).1] at h; cases h
  rcases h3 : thereB R d with _ | _
  · by_cases h4 : 64 < (addR R d).length
    · rw [(addE_4 h1 h2 h3 h4).1] at h; cases h
    · exact ⟨rfl, rfl, rfl, h4, (addE_0 h1 h2 h3 h4).2⟩
  · rw [(addE_6 h1 h2 h3).1] at h; cases h
theorem cutE_zero {R : List RG} {f t : Int} (h : cutE R f t = 0) : rightB f t = true ∧ goodB R = true ∧ ¬ 64 < (splitL cutC f t R).length ∧ cutO R f t = splitL cutC f t R := by
  rcases h1 : rightB f t with _ | _
  · rw [(cutE_1 h1).1] at h; cases h
  rcases h2 : goodB R with _ | _
  · rw [(cutE_3 h1 h2).1] at h; cases h
  by_cases h4 : 64 < (splitL cutC f t R).length
  · rw [(cutE_4 h1 h2 h4).1] at h; cases h
  · exact ⟨rfl, rfl, h4, (cutE_0 h1 h2 h4).2⟩
theorem proE_zero {R : List RG} {f t : Int} {mw mu mx : Bool} (h : proE R f t mw mu mx = 0) : rightB f t = true ∧ goodB R = true ∧ cntL f t R = t - f ∧ ¬ 64 < (splitL (proC mw mu mx) f t R).length ∧ proO R f t mw mu mx = splitL (proC mw mu mx) f t R := by
  rcases h1 : rightB f t with _ | _
  · rw [(proE_1 h1).1] at h; cases h
  rcases h2 : goodB R with _ | _
  · rw [(proE_3 h1 h2).1] at h; cases h
  by_cases h3 : cntL f t R = t - f
  · by_cases h4 : 64 < (splitL (proC mw mu mx) f t R).length
    · rw [(proE_4 h1 h2 h3 h4).1] at h; cases h
    · exact ⟨rfl, rfl, h3, h4, (proE_0 h1 h2 h3 h4).2⟩
  · rw [(proE_5 h1 h2 h3).1] at h; cases h
theorem right_lt {f t : Int} (h : rightB f t = true) : 0 ≤ f ∧ f < t ∧ t ≤ 34359738368 := by
  unfold rightB at h
  simp only [Bool.and_eq_true, decide_eq_true_eq] at h
  omega
theorem act_good {R : List RG} (h : goodB R = true) (how : Int) (d : RG) : goodB (actO R how d) = true := by
  unfold actO
  by_cases he : actE R how d = 0
  · rw [if_pos he]
    unfold actE at he
    unfold actN
    by_cases h1 : how = 1
    · rw [if_pos h1] at he ⊢
      obtain ⟨q1, q2, q3, q4, q5⟩ := addE_zero he
      rw [q5]
      exact can_good (add_spec (good_can h) q1 q3).1 (by omega)
    rw [if_neg h1] at he ⊢
    by_cases h2 : how = 2
    · rw [if_pos h2] at he ⊢
      obtain ⟨q1, q2, q4, q5⟩ := cutE_zero he
      rw [q5]
      exact can_good (split_spec fits_cut (right_lt q1).2.1 (good_can h).srt).1 (by omega)
    rw [if_neg h2] at he ⊢
    by_cases h3 : how = 3
    · rw [if_pos h3] at he
      obtain ⟨q1, q2, q3, q4, q5⟩ := proE_zero he
      rw [q5]
      exact can_good (split_spec (fits_pro _ _ _) (right_lt q1).2.1 (good_can h).srt).1 (by omega)
    · rw [if_neg h3] at he; cases he
  · rw [if_neg he]; exact h
theorem act_1 (R : List RG) (d : RG) : actE R 1 d = addE R d := rfl
theorem actO_1 {R : List RG} {d : RG} (h : addE R d = 0) : actO R 1 d = addR R d := by
  unfold actO
  rw [act_1, if_pos h]
  exact (addE_zero h).2.2.2.2
/-- Added and cut again. -/
theorem back_law {L : List RG} (hg : goodB L = true) {d : RG} (h : addE L d = 0) :
    goodB (addR L d) = true ∧ cutE (addR L d) d.a d.b = 0 ∧ cutO (addR L d) d.a d.b = L ∧ cntL d.a d.b (addR L d) = d.b - d.a := by
  obtain ⟨q1, q2, q3, q4, q5⟩ := addE_zero h
  obtain ⟨a1, a2, a3, a4, a5⟩ := add_spec (good_can hg) q1 q3
  have hgm := can_good a1 (by omega)
  obtain ⟨s1, s2⟩ := split_spec fits_cut (right_lt q1).2.1 a1.srt
  have hl := goodB_len hg
  have he : splitL cutC d.a d.b (addR L d) = L := can_unique s1 (good_can hg) (fun p => by
    rw [s2, a2]
    by_cases hp : d.a ≤ p ∧ p < d.b
    · rw [if_pos hp, if_pos hp, a3 p hp]; rfl
    · rw [if_neg hp, if_neg hp])
  obtain ⟨c1, c2⟩ := cutE_0 q1 hgm (by rw [he]; omega)
  exact ⟨hgm, c1, by rw [c2, he], a4⟩
/-- In either order. -/
theorem order_law {L : List RG} (hg : goodB L = true) {a b : RG} (h1 : addE L a = 0) (h2 : addE (addR L a) b = 0) (h3 : addE L b = 0) (h4 : addE (addR L b) a = 0) :
    addR (addR L a) b = addR (addR L b) a ∧ (addR (addR L a) b).length ≤ L.length + 2 ∧ goodB (addR (addR L a) b) = true := by
  obtain ⟨r1, _, t1, l1, _⟩ := addE_zero h1
  obtain ⟨r2, g2, t2, l2, _⟩ := addE_zero h2
  obtain ⟨r3, _, t3, l3, _⟩ := addE_zero h3
  obtain ⟨r4, g4, t4, l4, _⟩ := addE_zero h4
  obtain ⟨a1, a2, a3, _, a5⟩ := add_spec (good_can hg) r1 t1
  obtain ⟨b1, b2, b3, _, b5⟩ := add_spec (good_can g2) r2 t2
  obtain ⟨c1, c2, c3, _, c5⟩ := add_spec (good_can hg) r3 t3
  obtain ⟨d1, d2, d3, _, d5⟩ := add_spec (good_can g4) r4 t4
  refine ⟨can_unique b1 d1 (fun p => ?_), by omega, can_good b1 (by omega)⟩
  rw [b2, d2, a2, c2]
  by_cases hb : b.a ≤ p ∧ p < b.b
  · by_cases ha : a.a ≤ p ∧ p < a.b
    · have := b3 p hb
      rw [a2, if_pos ha] at this
      cases this
    · rw [if_pos hb, if_neg ha, if_pos hb]
  · rw [if_neg hb]
    by_cases ha : a.a ≤ p ∧ p < a.b
    · rw [if_pos ha, if_pos ha]
    · rw [if_neg ha, if_neg ha, if_neg hb]
/-- Protected twice. -/
theorem twice_law {L : List RG} {f t : Int} {aw au ax bw bu bx : Bool} (h : proE L f t aw au ax = 0) :
    let X := proO L f t aw au ax
    let Z := proO L f t bw bu bx
    proE X f t bw bu bx = proE L f t bw bu bx ∧ proO X f t bw bu bx = Z ∧ (proE L f t bw bu bx = 0 ∨ proE L f t bw bu bx = 4) ∧
      (proE L f t bw bu bx = 0 → proE Z f t bw bu bx = 0 ∧ proO Z f t bw bu bx = Z) := by
  obtain ⟨q1, q2, q3, q4, q5⟩ := proE_zero h
  have hlt := (right_lt q1).2.1
  have hs := (good_can q2).srt
  intro X Z
  obtain ⟨x1, x2⟩ := split_spec (fits_pro aw au ax) hlt hs
  have eX : X = splitL (proC aw au ax) f t L := q5
  have gX : goodB X = true := by rw [eX]; exact can_good x1 (by omega)
  have cX : cntL f t X = t - f := by rw [eX, pro_count aw au ax hlt hs]; exact q3
  obtain ⟨y1, y2⟩ := split_spec (fits_pro bw bu bx) hlt (good_can gX).srt
  obtain ⟨z1, z2⟩ := split_spec (fits_pro bw bu bx) hlt hs
  have eYZ : splitL (proC bw bu bx) f t X = splitL (proC bw bu bx) f t L := can_unique y1 z1 (fun p => by
    rw [y2, z2, eX, x2]
    by_cases hp : f ≤ p ∧ p < t
    · rw [if_pos hp, if_pos hp, if_pos hp]
      cases pf L p <;> rfl
    · rw [if_neg hp, if_neg hp, if_neg hp])
  by_cases h64 : 64 < (splitL (proC bw bu bx) f t L).length
  · obtain ⟨l1, l2⟩ := proE_4 q1 q2 q3 h64
    obtain ⟨m1, m2⟩ := proE_4 (mw := bw) (mu := bu) (mx := bx) q1 gX cX (by rw [eYZ]; exact h64)
    exact ⟨m1.trans l1.symm, m2.trans l2.symm, Or.inr l1, fun e => by rw [l1] at e; cases e⟩
  · obtain ⟨l1, l2⟩ := proE_0 q1 q2 q3 h64
    obtain ⟨m1, m2⟩ := proE_0 (mw := bw) (mu := bu) (mx := bx) q1 gX cX (by rw [eYZ]; exact h64)
    have eZ : Z = splitL (proC bw bu bx) f t L := l2
    refine ⟨m1.trans l1.symm, by rw [m2, eYZ]; exact eZ.symm, Or.inl l1, fun _ => ?_⟩
    have gZ : goodB Z = true := by rw [eZ]; exact can_good z1 (by omega)
    have cZ : cntL f t Z = t - f := by rw [eZ, pro_count bw bu bx hlt hs]; exact q3
    obtain ⟨v1, v2⟩ := split_spec (fits_pro bw bu bx) hlt (good_can gZ).srt
    have eW : splitL (proC bw bu bx) f t Z = Z := can_unique v1 (good_can gZ) (fun p => by
      rw [v2, eZ, z2]
      by_cases hp : f ≤ p ∧ p < t
      · rw [if_pos hp, if_pos hp]
        cases pf L p <;> rfl
      · rw [if_neg hp, if_neg hp])
    have hlZ := goodB_len gZ
    obtain ⟨n1, n2⟩ := proE_0 (mw := bw) (mu := bu) (mx := bx) q1 gZ cZ (by rw [eW]; omega)
    exact ⟨n1, by rw [n2, eW]⟩
theorem proO_bad {R : List RG} {f t : Int} {mw mu mx : Bool} (h : proE R f t mw mu mx ≠ 0) : proO R f t mw mu mx = [] := by
  unfold proO; rw [if_neg h]
end Go.Proofs.Ytoodjhomekeekaa
