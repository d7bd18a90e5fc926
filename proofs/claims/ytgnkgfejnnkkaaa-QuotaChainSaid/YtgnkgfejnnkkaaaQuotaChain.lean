/- QuotaChain answers true: its walk. No condition. -/
import Derived.Test.YtgnkgfejnnkkaaaQuoO
namespace Go.Proofs.Ytgnkgfejnnkkaaa
open Go.ChangeShapes Go.WideShapes Go.ChangeAt Go.RowKit
set_option linter.unusedVariables false
set_option linter.unusedSimpArgs false
def lastC (root lent : Int) : Nat → ND
  | 0 => ⟨-1, root, 0, 0, true⟩
  | i + 1 => ⟨(i : Nat), lent, 0, 0, true⟩
def lentC (root lent : Int) (i : Nat) : ND := { lastC root lent i with lent := lent }
def headC (root lent : Int) : Nat → List ND
  | 0 => []
  | i + 1 => headC root lent i ++ [lentC root lent i]
def chainC (root lent : Int) (i : Nat) : List ND := headC root lent i ++ [lastC root lent i]
section
variable {root lent : Int}
theorem headC_length (i : Nat) : (headC root lent i).length = i := by
  induction i with
  | zero => rfl
  | succ i ih => simp [headC, ih]
theorem chainC_length (i : Nat) : (chainC root lent i).length = i + 1 := by simp [chainC, headC_length]
theorem lastC_live (i : Nat) : (lastC root lent i).live = true := by cases i <;> rfl
theorem headC_live (i : Nat) : ∀ d ∈ headC root lent i, d.live = true := by
  induction i with
  | zero => simp [headC]
  | succ i ih =>
    intro d hd
    simp only [headC, List.mem_append, List.mem_singleton] at hd
    rcases hd with hd | rfl
    · exact ih d hd
    · exact lastC_live i
theorem chainC_free (i : Nat) : freeF (chainC root lent i) 0 = -1 := by
  rcases freeF_spec (chainC root lent i) 0 with ⟨h, _⟩ | ⟨f, _, _, ⟨d, h1, h2⟩, _⟩
  · exact h
  · have h3 := List.mem_of_getElem? h1
    simp only [chainC, List.mem_append, List.mem_singleton] at h3
    rcases h3 with h3 | rfl
    · rw [headC_live i d h3] at h2; cases h2
    · rw [lastC_live] at h2; cases h2
theorem chainC_last (i : Nat) : (chainC root lent i)[i]? = some (lastC root lent i) := by
  unfold chainC
  rw [List.getElem?_append_right (by rw [headC_length]; omega), headC_length]
  simp
theorem headC_at : ∀ (i j : Nat), j < i → (headC root lent i)[j]? = some (lentC root lent j)
  | 0, j, h => by omega
  | i + 1, j, h => by
    unfold headC
    by_cases hj : j = i
    · subst hj
      rw [List.getElem?_append_right (by rw [headC_length]; omega), headC_length]
      simp
    · rw [List.getElem?_append_left (by rw [headC_length]; omega)]
      exact headC_at i j (by omega)
theorem chainC_at (i j : Nat) (h : j < i) : (chainC root lent i)[j]? = some (lentC root lent j) := by
  unfold chainC
  rw [List.getElem?_append_left (by rw [headC_length]; omega)]
  exact headC_at i j h
theorem chainC_liveAt (i : Nat) : liveAt (chainC root lent i) (i : Int) = some (lastC root lent i) := liveAt_nat (chainC_last i) (lastC_live i)
theorem chainC_lentAt (i j : Nat) (h : j < i) : liveAt (chainC root lent i) (j : Int) = some (lentC root lent j) := liveAt_nat (chainC_at i j h) (lastC_live j)
theorem lastC_room (i : Nat) : roomD (lastC root lent i) = if i = 0 then root else lent := by
  cases i <;> simp [lastC, roomD]
theorem chainC_err (h0 : 0 ≤ lent) (h1 : lent ≤ root) (i : Nat) (hi : i < 60) : childE (chainC root lent i) i lent = 0 := by
  unfold childE
  rw [chainC_liveAt]
  simp only
  rw [if_neg (by omega), lastC_room, if_neg (by split <;> omega), if_neg (by rw [chainC_length]; omega)]
theorem chainC_num (h0 : 0 ≤ lent) (h1 : lent ≤ root) (i : Nat) (hi : i < 60) : childN (chainC root lent i) i lent = (i : Int) + 1 := by
  unfold childN
  rw [if_pos (chainC_err h0 h1 i hi), if_pos (by rw [chainC_free]; omega), chainC_length]
  omega
theorem chainC_next (h0 : 0 ≤ lent) (h1 : lent ≤ root) (i : Nat) (hi : i < 60) : childL (chainC root lent i) i lent = chainC root lent (i + 1) := by
  unfold childL
  rw [chainC_liveAt]
  simp only
  rw [if_pos (chainC_err h0 h1 i hi), if_pos (by rw [chainC_free]; omega), Int.toNat_natCast]
  have h2 : (chainC root lent i).set i { lastC root lent i with lent := (lastC root lent i).lent + lent } = headC root lent (i + 1) := by
    have h3 : (lastC root lent i).lent = 0 := by cases i <;> rfl
    have h4 : headC root lent (i + 1) = headC root lent i ++ [lentC root lent i] := rfl
    rw [h4, h3, Int.zero_add]
    unfold chainC
    rw [List.set_append_right _ _ (by rw [headC_length]; omega), headC_length, Nat.sub_self]
    rfl
  rw [h2]
  rfl
theorem chainC_inv (hr : 0 ≤ root) (hr1 : root ≤ 1048576) (h0 : 0 ≤ lent) (h1 : lent ≤ root) : ∀ (i : Nat), i ≤ 60 → TInv root (chainC root lent i)
  | 0, _ => TInv.new hr hr1
  | i + 1, h => by
    rw [← chainC_next h0 h1 i (by omega)]
    exact (chainC_inv hr hr1 h0 h1 i (by omega)).child _ _
theorem chainC_roomb (i : Nat) : roomF (chainC root lent (i + 1)) i = if i = 0 then root - lent else 0 := by
  unfold roomF
  rw [chainC_lentAt (i + 1) i (by omega)]
  cases i with
  | zero => simp [lentC, lastC]
  | succ i => simp only [lentC, lastC]; rw [if_neg (by omega)]; omega
theorem chargeE_last (n : Nat) (hn : 1 ≤ n) (use : Int) (hu : 0 ≤ use) : chargeE (chainC root lent n) n use = if use ≤ lent then 0 else 8 := by
  unfold chargeE
  rw [chainC_liveAt]
  simp only
  have h1 : roomD (lastC root lent n) = lent := by rw [lastC_room, if_neg (by omega)]
  rw [if_neg (by omega), h1]
  by_cases h : use ≤ lent
  · rw [if_pos h, if_neg (by omega)]
  · rw [if_neg h, if_pos (by omega)]
def finC (root lent : Int) (n : Nat) (use : Int) : List ND := if use ≤ lent then (chainC root lent n).set n { lastC root lent n with used := use } else chainC root lent n
theorem finC_eq (n : Nat) (hn : 1 ≤ n) (use : Int) (hu : 0 ≤ use) : chargeL (chainC root lent n) n use = finC root lent n use := by
  unfold chargeL finC
  rw [chainC_liveAt]
  simp only
  rw [chargeE_last n hn use hu]
  by_cases h : use ≤ lent
  · rw [if_pos h, if_pos h, if_pos rfl, Int.toNat_natCast]
    have h3 : (lastC root lent n).used = 0 := by cases n <;> rfl
    rw [h3, Int.zero_add]
  · rw [if_neg h, if_neg h, if_neg (by omega)]
theorem finC_at (n : Nat) (use : Int) : liveAt (finC root lent n use) n = some (if use ≤ lent then { lastC root lent n with used := use } else lastC root lent n) := by
  unfold finC
  by_cases h : use ≤ lent
  · rw [if_pos h, if_pos h]
    exact liveAt_nat (by rw [get_set _ _ _ (by rw [chainC_length]; omega), if_pos rfl]) (lastC_live n)
  · rw [if_neg h, if_neg h]; exact chainC_liveAt n
theorem finC_lt (n j : Nat) (hj : j < n) (use : Int) : liveAt (finC root lent n use) j = some (lentC root lent j) := by
  unfold finC
  by_cases h : use ≤ lent
  · rw [if_pos h]
    exact liveAt_nat (by rw [get_set _ _ _ (by rw [chainC_length]; omega), if_neg (by omega)]; exact chainC_at n j hj) (lastC_live j)
  · rw [if_neg h]; exact chainC_lentAt n j hj
theorem finC_room (n : Nat) (hn : 1 ≤ n) (use : Int) : roomF (finC root lent n use) n = if use ≤ lent then lent - use else lent := by
  unfold roomF
  rw [finC_at]
  cases n with
  | zero => omega
  | succ n =>
    by_cases h : use ≤ lent
    · simp [h, lastC]
    · simp [h, lastC]
theorem finC_room0 (n : Nat) (hn : 1 ≤ n) (use : Int) : roomF (finC root lent n use) 0 = root - lent := by
  unfold roomF
  rw [show (0 : Int) = ((0 : Nat) : Int) from rfl, finC_lt n 0 (by omega)]
  simp [lentC, lastC]
theorem finC_one (n : Nat) (hn : 2 ≤ n) (use : Int) : chargeE (finC root lent n use) 1 1 = 8 := by
  unfold chargeE
  rw [show (1 : Int) = ((1 : Nat) : Int) from rfl, finC_lt n 1 (by omega)]
  simp [lentC, lastC, roomD]
end
set_option maxHeartbeats 4000000 in
theorem walk_QuotaChain (a0 : Int) (a1 : Int) (a2 : Int) (a3 : Int) (w : World) (w0 : (Lit.int .i64 a0).wf = true) (w1 : (Lit.int .i64 a1).wf = true) (w2 : (Lit.int .i64 a2).wf = true) (w3 : (Lit.int .i64 a3).wf = true) :
    Calls Try.prog 3 #[.int .i64 a0, .int .i64 a1, .int .i64 a2, .int .i64 a3] w fun e w' => e = .returned (.bool true) ∧ Below w.heap.size w w' := by
  by_cases hg : a0 < 0 ∨ 1048576 < a0 ∨ a1 < 0 ∨ a0 < a1 ∨ a2 < 1 ∨ 60 < a2 ∨ a3 < 0
  · have HG := Lib.hid hg
    clear hg w0 w1 w2 w3
    go_enter Try.func3, Try.ntmps3
    go_wp2_with fail
    all_goals first
      | (refine awake_true.mono ?_
         rintro e w1 ⟨rfl, hb1⟩
         go_wp2
         go_returns
         exact ⟨rfl, hb1⟩)
      | (exfalso; have := HG.out; omega)
  · obtain ⟨n, rfl⟩ : ∃ n : Nat, a2 = n := ⟨a2.toNat, by omega⟩
    have g1 : 0 ≤ a0 := by omega
    have g2 : a0 ≤ 1048576 := by omega
    have g3 : 0 ≤ a1 := by omega
    have g4 : a1 ≤ a0 := by omega
    have g5 : 1 ≤ n := by omega
    have g6 : n ≤ 60 := by omega
    have g7 : 0 ≤ a3 := by omega
    have d1 : decide (a0 < 0) = false := decide_eq_false (by omega)
    have d2 : decide (1048576 < a0) = false := decide_eq_false (by omega)
    have d3 : decide (a1 < 0) = false := decide_eq_false (by omega)
    have d4 : decide (a0 < a1) = false := decide_eq_false (by omega)
    have d5 : decide ((n : Int) < 1) = false := decide_eq_false (by omega)
    have d6 : decide (60 < (n : Int)) = false := decide_eq_false (by omega)
    have d7 : decide (a3 < 0) = false := decide_eq_false (by omega)
    have A0 := Lib.hid (fun (W : World) => new_good (w := W) a0 g1 g2)
    have A1 : Hid (∀ (k : Nat), k < 60 → ∀ (W : World) (base t : Nat) (v : Value), TreeAt W base t v (chainC a0 a1 k) → Calls Try.prog 10 #[.pointer (some ⟨t, 0, none⟩), .int .i64 k, .int .i64 a1] W fun e w' => e = .returned (.tuple #[.int .i64 ((k : Int) + 1), .int .i64 0]) ∧ Upd base W w' ∧ ∃ v', TreeAt w' base t v' (chainC a0 a1 (k + 1))) := Lib.hid (fun k hk W base t v h => by
      have := child_any h (chainC_inv g1 g2 g3 g4 k (by omega)) k a1
      rwa [chainC_num g3 g4 k hk, chainC_err g3 g4 k hk, chainC_next g3 g4 k hk] at this)
    have A2 : Hid (∀ (k : Nat), k < 60 → ∀ (W : World) (base t : Nat) (v : Value), TreeAt W base t v (chainC a0 a1 (k + 1)) → Calls Try.prog 11 #[.pointer (some ⟨t, 0, none⟩), .int .i64 k] W fun e w' => e = .returned (.int .i64 (if k = 0 then a0 - a1 else 0)) ∧ Below W.heap.size W w') := Lib.hid (fun k hk W base t v h => by
      have := room_any h (chainC_inv g1 g2 g3 g4 (k + 1) (by omega)).ok k
      rwa [chainC_roomb] at this)
    clear hg w0 w1 w2 w3
    go_enter Try.func3, Try.ntmps3
    go_wp2_with fail
    refine (A0.out _).mono ?_
    rintro e w1 ⟨t, v1, rfl, h1, hb1⟩
    have H1 := Lib.hid h1
    have HB1 := Lib.hid hb1
    clear h1 hb1
    go_wp2_with fail
    go_loopw [11, 12] (fun a i wr => ∃ (k : Nat) (v : Value), a = .int .i64 k ∧ i = .int .i64 k ∧ k ≤ n ∧ Hid (TreeAt wr w.heap.size t v (chainC a0 a1 k)) ∧ Hid (Below w.heap.size w wr)) (fun _ i _ => n - (intOf i).toNat)
    case atStart => exact ⟨0, v1, rfl, rfl, by omega, H1, HB1⟩
    case round =>
      obtain ⟨k, v, rfl, rfl, hle, HT, HB⟩ := hrel
      by_cases hlt : k < n
      · have f0 : decide ((k : Int) < (n : Int)) = true := decide_eq_true (by omega)
        have f0b : decide (k < n) = true := decide_eq_true (by omega)
        go_wp2_with fail
        refine (A1.out k (by omega) _ _ _ _ HT.out).mono ?_
        rintro e w2 ⟨rfl, hu2, v2, h2⟩
        have H2 := Lib.hid h2
        have HB2 := Lib.hid (hu2.below HB.out (Nat.le_refl _))
        clear h2 hu2
        go_wp2_with fail
        refine (A2.out k (by omega) _ _ _ _ H2.out).mono ?_
        by_cases hk : k = 0
        · subst hk
          rw [if_pos rfl]
          rintro e w3 ⟨rfl, hb3⟩
          have H3 := Lib.hid (H2.out.below hb3)
          have HB3 := Lib.hid (b_then HB2.out hb3)
          clear hb3
          generalize a0 - a1 = rm
          rcases Bool.eq_false_or_eq_true (rm != 0) with hr | hr
          all_goals
            go_wp2
            go_roundw
            case rel => exact ⟨1, v2, by go_num, by go_num, by omega, H3, HB3⟩
            case measure => simp [intOf]; omega
        · rw [if_neg hk]
          rintro e w3 ⟨rfl, hb3⟩
          have H3 := Lib.hid (H2.out.below hb3)
          have HB3 := Lib.hid (b_then HB2.out hb3)
          clear hb3
          go_wp2
          go_roundw
          case rel => exact ⟨k + 1, v2, by go_num, by go_num, by omega, H3, HB3⟩
          case measure => simp [intOf]; omega
      · have f0 : decide ((k : Int) < (n : Int)) = false := decide_eq_false (by omega)
        have f0b : decide (k < n) = false := decide_eq_false (by omega)
        obtain rfl : k = n := by omega
        have iF : TInv a0 (finC a0 a1 k a3) := by rw [← finC_eq k g5 a3 g7]; exact (chainC_inv g1 g2 g3 g4 k g6).charge _ _
        have c1 := charge_any HT.out (chainC_inv g1 g2 g3 g4 k g6) k a3
        rw [chargeE_last k g5 a3 g7, finC_eq k g5 a3 g7] at c1
        have C1 := Lib.hid c1
        have C2 : Hid (∀ (W : World) (base t : Nat) (v : Value), TreeAt W base t v (finC a0 a1 k a3) → Calls Try.prog 11 #[.pointer (some ⟨t, 0, none⟩), .int .i64 k] W fun e w' => e = .returned (.int .i64 (if a3 ≤ a1 then a1 - a3 else a1)) ∧ Below W.heap.size W w') := Lib.hid (fun W base t v h => by
          have := room_any h iF.ok k
          rwa [finC_room k g5] at this)
        have C3 : Hid (∀ (W : World) (base t : Nat) (v : Value), TreeAt W base t v (finC a0 a1 k a3) → Calls Try.prog 11 #[.pointer (some ⟨t, 0, none⟩), .int .i64 0] W fun e w' => e = .returned (.int .i64 (a0 - a1)) ∧ Below W.heap.size W w') := Lib.hid (fun W base t v h => by
          have := room_any h iF.ok 0
          rwa [finC_room0 k g5] at this)
        have C4 : Hid (2 ≤ k → ∀ (W : World) (base t : Nat) (v : Value), TreeAt W base t v (finC a0 a1 k a3) → Calls Try.prog 12 #[.pointer (some ⟨t, 0, none⟩), .int .i64 1, .int .i64 1] W fun e w' => e = .returned (.int .i64 8) ∧ Upd base W w') := Lib.hid (fun hk W base t v h => by
          have := charge_any h iF 1 1
          rw [finC_one k hk] at this
          exact this.mono fun e w' ⟨h1, h2, _⟩ => ⟨h1, h2⟩)
        have s1 : IntKind.i64.wrap (a0 - a1) = a0 - a1 := by rw [IntKind.wrap_i64]; omega
        clear c1 iF
        by_cases hle : a3 ≤ a1
        all_goals
          first
          | rw [if_pos hle] at C1 C2
            have d8 : decide (a3 ≤ a1) = true := decide_eq_true hle
            have s2 : IntKind.i64.wrap (a1 - a3) = a1 - a3 := by rw [IntKind.wrap_i64]; omega
          | rw [if_neg hle] at C1 C2
            have d8 : decide (a3 ≤ a1) = false := decide_eq_false hle
          clear hle
          go_wp2_with fail
          refine C1.out.mono ?_
          rintro e w2 ⟨rfl, hu2, v2, h2⟩
          have H2 := Lib.hid h2
          have HB2 := Lib.hid (hu2.below HB.out (Nat.le_refl _))
          clear h2 hu2
          go_wp2_with fail
          refine awake_true.mono ?_
          rintro e w3 ⟨rfl, hb3⟩
          have H3 := Lib.hid (H2.out.below hb3)
          have HB3 := Lib.hid (b_then HB2.out hb3)
          clear hb3
          go_wp2_with fail
          refine (C2.out _ _ _ _ H3.out).mono ?_
          rintro e w4 ⟨rfl, hb4⟩
          have H4 := Lib.hid (H3.out.below hb4)
          have HB4 := Lib.hid (b_then HB3.out hb4)
          clear hb4
          go_wp2_with fail
          refine (C3.out _ _ _ _ H4.out).mono ?_
          rintro e w5 ⟨rfl, hb5⟩
          have H5 := Lib.hid (H4.out.below hb5)
          have HB5 := Lib.hid (b_then HB4.out hb5)
          clear hb5
          by_cases hk2 : 2 ≤ k
          · have d9 : decide ((k : Int) < 2) = false := decide_eq_false (by omega)
            go_wp2_with fail
            refine (C4.out hk2 _ _ _ _ H5.out).mono ?_
            rintro e w6 ⟨rfl, hu6⟩
            have HB6 := Lib.hid (hu6.below HB5.out (Nat.le_refl _))
            clear hu6
            go_wp2_with fail
            go_returns
            exact ⟨rfl, HB6.out⟩
          · have d9 : decide ((k : Int) < 2) = true := decide_eq_true (by omega)
            go_wp2_with fail
            go_returns
            exact ⟨rfl, HB5.out⟩
end Go.Proofs.Ytgnkgfejnnkkaaa
