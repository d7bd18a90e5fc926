/- FltRanks: numbers stand in one order; the lesser of two isn't above the greater, and both are among them. No condition. -/
import Derived.Test.YtbidpdgjlcmhhaaFltG
namespace Go.Proofs.Ytbidpdgjlcmhhaa
open Go.ChangeShapes Go.WideShapes Go.ChangeAt Go.RowKit
set_option linter.unusedVariables false
set_option linter.unusedSimpArgs false

theorem key_neg (x : Nat) (hx : x < 18446744073709551616) : keyN (negN x) = -keyN x := by
  unfold keyN skey
  rw [rg_neg, sg_neg x hx]
  cases sg x <;> simp
theorem fcmp_num {x y : Nat} (h1 : nanN x = false) (h2 : nanN y = false) : fcmp x y = if keyN x < keyN y then -1 else if keyN y < keyN x then 1 else 0 := by
  unfold fcmp; rw [h1, h2]; rfl
theorem less_great {x y : Nat} (hx : x < 18446744073709551616) (hy : y < 18446744073709551616) (h1 : nanN x = false) (h2 : nanN y = false) :
    (lessF x y = x ∧ negN (lessF (negN x) (negN y)) = y ∧ fcmp x y ≤ 0) ∨ (lessF x y = y ∧ negN (lessF (negN x) (negN y)) = x ∧ fcmp y x ≤ 0) := by
  unfold lessF
  rw [fcmp_num h1 h2, fcmp_num h2 h1, fcmp_num (by rw [nan_neg]; exact h1) (by rw [nan_neg]; exact h2), key_neg x hx, key_neg y hy]
  by_cases c1 : keyN x < keyN y
  · rw [if_pos c1, if_neg (show ¬ -keyN x < -keyN y by omega), if_pos (show -keyN y < -keyN x by omega)]
    left
    simp [neg_neg_ y hy]
  · rw [if_neg c1]
    by_cases c2 : keyN y < keyN x
    · rw [if_pos c2, if_pos (show -keyN x < -keyN y by omega)]
      right
      rw [if_pos c2]
      simp [neg_neg_ x hx]
    · rw [if_neg c2, if_neg (show ¬ -keyN x < -keyN y by omega), if_neg (show ¬ -keyN y < -keyN x by omega)]
      simp only [Int.lt_irrefl, if_false, if_true]
      by_cases c3 : x / 9223372036854775808 = 1
      · left
        rw [if_pos c3, if_neg (show ¬ negN x / 9223372036854775808 = 1 by unfold negN; omega)]
        exact ⟨rfl, neg_neg_ y hy, Int.le_refl _⟩
      · right
        rw [if_neg c3, if_pos (show negN x / 9223372036854775808 = 1 by unfold negN; omega)]
        exact ⟨rfl, neg_neg_ x hx, by rw [if_neg c2, if_neg c1]; exact Int.le_refl _⟩
theorem not_four {x : Nat} (h : nanN x = false) : fcls x ≠ 4 := fun e => by rw [(cls_nan x).2 e] at h; cases h
theorem sig_false {x : Nat} (h : nanN x = false) : sigB x = false := by unfold sigB; rw [show (fcls x == 4) = false from beq_false_of_ne (not_four h)]; rfl
theorem do_pick (op : Int) (x y r : Nat) (ho : op ≠ 4) (h1 : nanN x = false) (h2 : nanN y = false) (hr : rawF op x y = some r) (hm : r = x ∨ r = y) : doV op x y = .tuple #[.int .u64 r, .int .i64 0, .int .i64 0] := by
  have hn : fcls r ≠ 4 := by rcases hm with rfl | rfl; exact not_four h1; exact not_four h2
  unfold doV
  rw [hr, show outF (some r) = r from if_neg hn, sig_false h1, sig_false h2]
  have hf : flagF op (fcls x) (fcls y) (clsO (some r)) false false = 0 := by
    unfold flagF clsO
    rw [show (op == 4) = false from beq_false_of_ne ho, show (fcls r == 4) = false from beq_false_of_ne hn]
    by_cases h3 : fcls r = 3
    · rcases hm with rfl | rfl <;> simp [h3]
    · simp [h3]
  rw [hf]
theorem raw_5 {x y : Nat} (h1 : nanN x = false) (h2 : nanN y = false) : rawF 5 x y = some (lessF x y) := by
  show (if nanN x || nanN y then none else some (lessF x y)) = _
  rw [h1, h2]; rfl
theorem raw_6 {x y : Nat} (h1 : nanN x = false) (h2 : nanN y = false) : rawF 6 x y = some (negN (lessF (negN x) (negN y))) := by
  show (if nanN x || nanN y then none else some (negN (lessF (negN x) (negN y)))) = _
  rw [h1, h2]; rfl
set_option maxHeartbeats 4000000 in
theorem ranks_none (x y z cx cy cz : Int) (ho : cx = 4 ∨ cy = 4 ∨ cz = 4) (ca : ∀ W, Calls Try.prog 12 #[.int .u64 x] W fun e w' => e = .returned (.int .i64 cx) ∧ w' = W) (cb : ∀ W, Calls Try.prog 12 #[.int .u64 y] W fun e w' => e = .returned (.int .i64 cy) ∧ w' = W) (cc : ∀ W, Calls Try.prog 12 #[.int .u64 z] W fun e w' => e = .returned (.int .i64 cz) ∧ w' = W) (w : World) :
    Calls Try.prog 6 #[.int .u64 x, .int .u64 y, .int .u64 z] w fun e w' => e = .returned (.bool true) ∧ Below w.heap.size w w' := by
  have CA := Lib.hid ca
  have CB := Lib.hid cb
  have CC := Lib.hid cc
  have HO := Lib.hid ho
  clear ca cb cc ho
  by_cases h1 : cx = 4
  · subst h1
    go_enter Try.func6, Try.ntmps6
    go_wp2_with (first | (go_at_call 12; ((with_reducible refine (CA.out _).mono ?_); rintro e w9 ⟨rfl, hw⟩; obtain rfl := hw.symm; clear hw)))
    refine (awake_true _).mono ?_
    rintro e v1 ⟨rfl, hb⟩
    go_wp2_with fail
    go_returns
    exact ⟨rfl, hb⟩
  have t1 : (cx == 4) = false := beq_false_of_ne h1
  by_cases h2 : cy = 4
  · subst h2
    clear h1
    go_enter Try.func6, Try.ntmps6
    go_wp2_with (first | (go_at_call 12; ((with_reducible refine (CA.out _).mono ?_); rintro e w9 ⟨rfl, hw⟩; obtain rfl := hw.symm; clear hw)) | (go_at_call 12; ((with_reducible refine (CB.out _).mono ?_); rintro e w9 ⟨rfl, hw⟩; obtain rfl := hw.symm; clear hw)))
    refine (awake_true _).mono ?_
    rintro e v1 ⟨rfl, hb⟩
    go_wp2_with fail
    go_returns
    exact ⟨rfl, hb⟩
  have t2 : (cy == 4) = false := beq_false_of_ne h2
  obtain rfl : cz = 4 := by have := HO.out; omega
  clear h1 h2 HO
  go_enter Try.func6, Try.ntmps6
  go_wp2_with (first | (go_at_call 12; ((with_reducible refine (CA.out _).mono ?_); rintro e w9 ⟨rfl, hw⟩; obtain rfl := hw.symm; clear hw)) | (go_at_call 12; ((with_reducible refine (CB.out _).mono ?_); rintro e w9 ⟨rfl, hw⟩; obtain rfl := hw.symm; clear hw)) | (go_at_call 12; ((with_reducible refine (CC.out _).mono ?_); rintro e w9 ⟨rfl, hw⟩; obtain rfl := hw.symm; clear hw)))
  refine (awake_true _).mono ?_
  rintro e v1 ⟨rfl, hb⟩
  go_wp2_with fail
  go_returns
  exact ⟨rfl, hb⟩
set_option maxRecDepth 100000 in
set_option maxHeartbeats 8000000 in
theorem ranks_some (x y z cx cy cz p q r p' lo hi m : Int) (t1 : (cx == 4) = false) (t2 : (cy == 4) = false) (t3 : (cz == 4) = false) (ca : ∀ W, Calls Try.prog 12 #[.int .u64 x] W fun e w' => e = .returned (.int .i64 cx) ∧ w' = W) (cb : ∀ W, Calls Try.prog 12 #[.int .u64 y] W fun e w' => e = .returned (.int .i64 cy) ∧ w' = W) (cc : ∀ W, Calls Try.prog 12 #[.int .u64 z] W fun e w' => e = .returned (.int .i64 cz) ∧ w' = W)
    (pab : ∀ W, Calls Try.prog 14 #[.int .u64 x, .int .u64 y] W fun e w' => e = .returned (.int .i64 p) ∧ w' = W) (pbc : ∀ W, Calls Try.prog 14 #[.int .u64 y, .int .u64 z] W fun e w' => e = .returned (.int .i64 q) ∧ w' = W) (pac : ∀ W, Calls Try.prog 14 #[.int .u64 x, .int .u64 z] W fun e w' => e = .returned (.int .i64 r) ∧ w' = W) (pba : ∀ W, Calls Try.prog 14 #[.int .u64 y, .int .u64 x] W fun e w' => e = .returned (.int .i64 p') ∧ w' = W) (hp : wrap64 (-p') = p) (htr : p ≤ 0 → q ≤ 0 → r ≤ 0) (dlo : ∀ W, Calls Try.prog 16 #[.int .i64 5, .int .u64 x, .int .u64 y] W fun e w' => e = .returned (.tuple #[.int .u64 lo, .int .i64 0, .int .i64 0]) ∧ Below W.heap.size W w') (dhi : ∀ W, Calls Try.prog 16 #[.int .i64 6, .int .u64 x, .int .u64 y] W fun e w' => e = .returned (.tuple #[.int .u64 hi, .int .i64 0, .int .i64 0]) ∧ Below W.heap.size W w') (plh : ∀ W, Calls Try.prog 14 #[.int .u64 lo, .int .u64 hi] W fun e w' => e = .returned (.int .i64 m) ∧ w' = W) (hm : m ≤ 0) (hlh : lo = x ∧ hi = y ∨ lo = y ∧ hi = x) (hxy : x = y → p = 0 ∧ p' = 0 ∧ m = 0 ∧ r = q) (w : World) :
    Calls Try.prog 6 #[.int .u64 x, .int .u64 y, .int .u64 z] w fun e w' => e = .returned (.bool true) ∧ Below w.heap.size w w' := by
  have CA := Lib.hid ca
  have CB := Lib.hid cb
  have CC := Lib.hid cc
  have PAB := Lib.hid pab
  have PBC := Lib.hid pbc
  have PAC := Lib.hid pac
  have PBA := Lib.hid pba
  have PLH := Lib.hid plh
  have DLO := Lib.hid dlo
  have DHI := Lib.hid dhi
  have dm : decide (m ≤ 0) = true := decide_eq_true hm
  have hd : (decide (p ≤ 0) = false) ∨ (decide (p ≤ 0) = true ∧ decide (q ≤ 0) = false) ∨ (decide (p ≤ 0) = true ∧ decide (q ≤ 0) = true ∧ decide (0 < r) = false) := by
    by_cases h1 : p ≤ 0
    · by_cases h2 : q ≤ 0
      · exact .inr (.inr ⟨decide_eq_true h1, decide_eq_true h2, decide_eq_false (by have := htr h1 h2; omega)⟩)
      · exact .inr (.inl ⟨decide_eq_true h1, decide_eq_false h2⟩)
    · exact .inl (decide_eq_false h1)
  clear ca cb cc pab pbc pac pba plh dlo dhi htr hm
  have hx3 : (x = y ∧ lo = x ∧ hi = x ∧ p = 0 ∧ p' = 0 ∧ m = 0 ∧ r = q) ∨ ((lo = x ∧ hi = y) ∧ (x == y) = false ∧ (y == x) = false) ∨ ((lo = y ∧ hi = x) ∧ (x == y) = false ∧ (y == x) = false) := by
    by_cases h : x = y
    · have h0 := hxy h
      subst h
      exact .inl ⟨rfl, by rcases hlh with ⟨h1, h2⟩ | ⟨h1, h2⟩ <;> exact ⟨h1, h2, h0⟩⟩
    · have e1 : (x == y) = false := beq_false_of_ne h
      have e2 : (y == x) = false := beq_false_of_ne (fun e => h e.symm)
      rcases hlh with h1 | h1
      · exact .inr (.inl ⟨h1, e1, e2⟩)
      · exact .inr (.inr ⟨h1, e1, e2⟩)
  clear hlh hxy
  have w00 : wrap64 0 = 0 := by unfold wrap64; omega
  rcases hd with d1 | ⟨d1, d2⟩ | ⟨d1, d2, d3⟩
  all_goals
    rcases hx3 with ⟨rfl, rfl, rfl, rfl, rfl, rfl, rfl⟩ | ⟨⟨rfl, rfl⟩, e1, e2⟩ | ⟨⟨rfl, rfl⟩, e1, e2⟩
    all_goals try exact absurd d1 (by decide)
    all_goals try exact absurd d2 (by decide)
    all_goals
      go_enter Try.func6, Try.ntmps6
      go_wp2_with (first | (go_at_call 12; ((with_reducible refine (CA.out _).mono ?_); rintro e w9 ⟨rfl, hw⟩; obtain rfl := hw.symm; clear hw)) | (go_at_call 12; ((with_reducible refine (CB.out _).mono ?_); rintro e w9 ⟨rfl, hw⟩; obtain rfl := hw.symm; clear hw)) | (go_at_call 12; ((with_reducible refine (CC.out _).mono ?_); rintro e w9 ⟨rfl, hw⟩; obtain rfl := hw.symm; clear hw)) | (go_at_call 14; ((with_reducible refine (PAB.out _).mono ?_); rintro e w9 ⟨rfl, hw⟩; obtain rfl := hw.symm; clear hw)) | (go_at_call 14; ((with_reducible refine (PBC.out _).mono ?_); rintro e w9 ⟨rfl, hw⟩; obtain rfl := hw.symm; clear hw)) | (go_at_call 14; ((with_reducible refine (PAC.out _).mono ?_); rintro e w9 ⟨rfl, hw⟩; obtain rfl := hw.symm; clear hw)) | (go_at_call 14; ((with_reducible refine (PBA.out _).mono ?_); rintro e w9 ⟨rfl, hw⟩; obtain rfl := hw.symm; clear hw)) | (go_at_call 14; ((with_reducible refine (PLH.out _).mono ?_); rintro e w9 ⟨rfl, hw⟩; obtain rfl := hw.symm; clear hw)))
      refine (DLO.out _).mono ?_
      rintro e v1 ⟨rfl, hb1⟩
      go_wp2_with fail
      refine (DHI.out _).mono ?_
      rintro e v2 ⟨rfl, hb2⟩
      go_wp2_with fail
      refine (awake_true _).mono ?_
      rintro e v3 ⟨rfl, hb3⟩
      go_wp2_with (first | (go_at_call 14; ((with_reducible refine (PLH.out _).mono ?_); rintro e w9 ⟨rfl, hw⟩; obtain rfl := hw.symm; clear hw)))
      all_goals
        go_returns
        exact ⟨ret_v (by simp [*]), b_then (b_then hb1 hb2) hb3⟩
theorem u64_natR {x : Int} (h : (Lit.int .u64 x).wf = true) : ∃ n : Nat, x = n ∧ n < 18446744073709551616 := by
  simp [Lit.wf, IntKind.min, IntKind.max, IntKind.signed, IntKind.bits] at h
  exact ⟨x.toNat, by omega, by omega⟩
theorem walk_FltRanks (a0 : Int) (a1 : Int) (a2 : Int) (w : World) (w0 : (Lit.int .u64 a0).wf = true) (w1 : (Lit.int .u64 a1).wf = true) (w2 : (Lit.int .u64 a2).wf = true) :
    Calls Try.prog 6 #[.int .u64 a0, .int .u64 a1, .int .u64 a2] w fun e w' => e = .returned (.bool true) ∧ Below w.heap.size w w' := by
  obtain ⟨x, rfl, hx⟩ := u64_natR w0
  obtain ⟨y, rfl, hy⟩ := u64_natR w1
  obtain ⟨z, rfl, hz⟩ := u64_natR w2
  by_cases ho : fcls x = 4 ∨ fcls y = 4 ∨ fcls z = 4
  · exact ranks_none _ _ _ _ _ _ ho (class_any x hx) (class_any y hy) (class_any z hz) w
  have n1 : nanN x = false := by cases h : nanN x; rfl; exact absurd (.inl ((cls_nan x).1 h)) ho
  have n2 : nanN y = false := by cases h : nanN y; rfl; exact absurd (.inr (.inl ((cls_nan y).1 h))) ho
  have n3 : nanN z = false := by cases h : nanN z; rfl; exact absurd (.inr (.inr ((cls_nan z).1 h))) ho
  have t1 : (fcls x == 4) = false := beq_false_of_ne (by omega)
  have t2 : (fcls y == 4) = false := beq_false_of_ne (by omega)
  have t3 : (fcls z == 4) = false := beq_false_of_ne (by omega)
  have d5 := do_arith 5 (by omega) x y hx hy
  have d6 := do_arith 6 (by omega) x y hx hy
  have hp : wrap64 (-fcmp y x) = fcmp x y := by
    rw [fcmp_num n1 n2, fcmp_num n2 n1]
    by_cases c1 : keyN x < keyN y
    · rw [if_neg (show ¬ keyN y < keyN x by omega), if_pos c1, if_pos c1]; unfold wrap64; omega
    · by_cases c2 : keyN y < keyN x
      · rw [if_pos c2, if_neg c1, if_pos c2]; unfold wrap64; omega
      · rw [if_neg c2, if_neg c1, if_neg c1, if_neg c2]; unfold wrap64; omega
  have htr : fcmp x y ≤ 0 → fcmp y z ≤ 0 → fcmp x z ≤ 0 := by
    rw [fcmp_num n1 n2, fcmp_num n2 n3, fcmp_num n1 n3]
    generalize keyN x = i
    generalize keyN y = j
    generalize keyN z = k
    (repeat' split) <;> omega
  have hxy : (x : Int) = (y : Int) → fcmp x y = 0 ∧ fcmp y x = 0 ∧ fcmp x y = 0 ∧ fcmp x z = fcmp y z := by
    intro e
    obtain rfl : x = y := Int.ofNat.inj e
    have : fcmp x x = 0 := by rw [fcmp_num n1 n1]; simp
    exact ⟨this, this, this, rfl⟩
  rcases less_great hx hy n1 n2 with ⟨e1, e2, e3⟩ | ⟨e1, e2, e3⟩
  · rw [do_pick 5 x y x (by omega) n1 n2 (by rw [raw_5 n1 n2, e1]) (.inl rfl)] at d5
    rw [do_pick 6 x y y (by omega) n1 n2 (by rw [raw_6 n1 n2, e2]) (.inr rfl)] at d6
    exact ranks_some _ _ _ _ _ _ _ _ _ _ _ _ _ t1 t2 t3 (class_any x hx) (class_any y hy) (class_any z hz) (compare_any x y) (compare_any y z) (compare_any x z) (compare_any y x) hp htr d5 d6 (compare_any x y) e3 (.inl ⟨rfl, rfl⟩) hxy w
  · rw [do_pick 5 x y y (by omega) n1 n2 (by rw [raw_5 n1 n2, e1]) (.inr rfl)] at d5
    rw [do_pick 6 x y x (by omega) n1 n2 (by rw [raw_6 n1 n2, e2]) (.inl rfl)] at d6
    exact ranks_some _ _ _ _ _ _ _ _ _ _ _ _ _ t1 t2 t3 (class_any x hx) (class_any y hy) (class_any z hz) (compare_any x y) (compare_any y z) (compare_any x z) (compare_any y x) hp htr d5 d6 (compare_any y x) e3 (.inr ⟨rfl, rfl⟩) (fun e => ⟨(hxy e).1, (hxy e).2.1, (hxy e).2.1, (hxy e).2.2.2⟩) w
end Go.Proofs.Ytbidpdgjlcmhhaa
