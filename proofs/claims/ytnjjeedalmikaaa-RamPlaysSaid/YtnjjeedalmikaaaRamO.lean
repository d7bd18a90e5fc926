/- few, and the reference's Check and Has, for every list. No condition but bounds on lengths. -/
import Derived.Test.YtnjjeedalmikaaaRamN
namespace Go.Proofs.Ytnjjeedalmikaaa
open Go.ChangeShapes Go.WideShapes Go.ChangeAt Go.RowKit
set_option linter.unusedVariables false
set_option linter.unusedSimpArgs false
set_option maxHeartbeats 1000000 in
theorem few_any {w : World} {A : Option Addr} {len cap : Nat} (r : Rows_ w [.i .i64, .i .i64] A len) (hcap : len ≤ cap) :
    Calls Try.prog 13 #[.slice A len cap] w fun e w' => ∃ v hs, e = .returned v ∧ HL w' w.heap.size v hs ∧ hs.length ≤ 70 ∧ Below w.heap.size w w' := by
  have hl := r.1
  by_cases h : 70 < len
  · have d1 : decide (70 < len) = true := decide_eq_true h
    have d2 : decide ((70 : Int) < (len : Int)) = true := decide_eq_true (by omega)
    obtain ⟨hs0, b, off, _, rfl, _, _⟩ := rows_hs r (by omega)
    obtain ⟨v, hs, w', happ, h1, h2, h3⟩ := few_laid r 70 cap (by omega) (by omega)
    have hsl : ∀ W, (Instr.sliceAt 34 (.slice (some ⟨b, off, none⟩) len cap) none (some (.int .i64 70)) none).run Try.prog W = .ok (.slice (some ⟨b, off, none⟩) 70 cap) W := by
      intro W
      have g1 : (70 : Int) ≤ (cap : Int) := by omega
      have g2 : ¬ cap = 0 := by omega
      have g3 : 70 ≤ cap := by omega
      go_simp
    have HA := Lib.hid happ
    have HH := Lib.hid (And.intro h1 (And.intro h2 h3))
    clear happ h1 h2 h3 h hcap hl r
    go_enter Try.func13, Try.ntmps13
    go_wp2_with (at_builtin; refine wpList_app rfl (.tmp 8) (.tmp 9) 34 rfl rfl rfl HA.out ?_)
    go_returns
    exact ⟨_, hs, rfl, HH.out⟩
  · have d1 : decide (70 < len) = false := decide_eq_false h
    have d2 : decide ((70 : Int) < (len : Int)) = false := decide_eq_false (by omega)
    obtain ⟨v, hs, w', happ, h1, h2, h3⟩ := few_laid r len cap (Nat.le_refl _) (by omega)
    have HA := Lib.hid happ
    have HH := Lib.hid (And.intro h1 (And.intro h2 h3))
    clear happ h1 h2 h3 h hcap hl r
    go_enter Try.func13, Try.ntmps13
    go_wp2_with (at_builtin; refine wpList_app rfl (.tmp 8) (.tmp 9) 34 rfl rfl rfl HA.out ?_)
    go_returns
    exact ⟨_, hs, rfl, HH.out⟩
set_option maxHeartbeats 1000000 in
theorem rCheck_any {w : World} {v : Value} {hs : Hs} (h : HL w 0 v hs) (hl : hs.length < 4611686018427387904) (n : Int) :
    Calls Try.prog 14 #[.int .i64 n, v] w fun e w' => e = .returned (.int .i64 (checkF n hs)) ∧ Below w.heap.size w w' := by
  obtain ⟨A, cap, rfl⟩ := HL.form h
  by_cases h1 : n < 1
  · have d1 : decide (n < 1) = true := decide_eq_true h1
    have hr : Hid (checkF n hs = 1) := Lib.hid (if_pos h1)
    clear h1 h
    obtain ⟨len, hn⟩ : ∃ n, n = hs.length := ⟨_, rfl⟩
    rw [← hn] at hl ⊢
    clear hn
    go_enter Try.func14, Try.ntmps14
    go_wp2
    go_returns
    exact ⟨ret_v (by rw [hr.out]; rfl), by go_grown⟩
  · have d1 : decide (n < 1) = false := decide_eq_false h1
    by_cases h2 : 1048576 < n ∨ 64 < hs.length
    · have hr : Hid (checkF n hs = 4) := Lib.hid (by unfold checkF; rw [if_neg h1, if_pos h2])
      obtain ⟨len, hn⟩ : ∃ n, n = hs.length := ⟨_, rfl⟩
      rw [← hn] at hl h2 ⊢
      clear hn h
      by_cases h3 : 1048576 < n
      · have d2 : decide (1048576 < n) = true := decide_eq_true h3
        clear h1 h2 h3
        go_enter Try.func14, Try.ntmps14
        go_wp2
        go_returns
        exact ⟨ret_v (by rw [hr.out]; rfl), by go_grown⟩
      · have d2 : decide (1048576 < n) = false := decide_eq_false h3
        have d3 : decide ((64 : Int) < (len : Int)) = true := decide_eq_true (by omega)
        have d4 : decide (64 < len) = true := decide_eq_true (by omega)
        clear h1 h2 h3
        go_enter Try.func14, Try.ntmps14
        go_wp2
        go_returns
        exact ⟨ret_v (by rw [hr.out]; rfl), by go_grown⟩
    · have d2 : decide (1048576 < n) = false := decide_eq_false (by omega)
      have d3 : decide ((64 : Int) < (hs.length : Int)) = false := decide_eq_false (by omega)
      have d4 : decide (64 < hs.length) = false := decide_eq_false (by omega)
      have hr : Hid (checkF n hs = if hs.any (badH n) then 3 else 0) := Lib.hid (by unfold checkF; rw [if_neg h1, if_neg h2])
      have hl64 : hs.length ≤ 64 := by omega
      have H := Lib.hid h
      clear h1 h2 h
      go_enter Try.func14, Try.ntmps14
      go_wp2_with fail
      go_loopw [18] (fun i wr => ∃ k : Nat, i = .int .i64 k ∧ k ≤ hs.length ∧ Below w.heap.size w wr ∧ Hid (hs.any (badH n) = (hs.drop k).any (badH n))) (fun i _ => hs.length - (intOf i).toNat)
      case atStart => exact ⟨0, rfl, by omega, by go_grown, Lib.hid rfl⟩
      case round =>
        obtain ⟨k, rfl, hle, hB, HF⟩ := hrel
        have hsz := hB.size
        by_cases hlt : k < hs.length
        · have f0 : decide (k < hs.length) = true := decide_eq_true hlt
          obtain ⟨b', cap', hv, hbb, hbw', e0, e1⟩ := HL.cell H.out (List.getElem?_eq_getElem hlt)
          obtain ⟨hc1, hf1⟩ := bcell hB
          have e0' := (hc1 b' (k * 2) hbw').trans e0
          have e1' := (hc1 b' (k * 2 + 1) hbw').trans e1
          obtain ⟨rfl, _, rfl⟩ : A = some ⟨b', 0, none⟩ ∧ hs.length = hs.length ∧ cap = cap' := by simpa using hv
          have hd : (hs.drop k).any (badH n) = (badH n hs[k] || (hs.drop (k + 1)).any (badH n)) := by
            rw [List.drop_eq_getElem_cons hlt]; rfl
          generalize hs[k] = g at e0' e1' hd
          obtain ⟨p, q⟩ := g
          have HD := Lib.hid hd
          obtain ⟨len, hn⟩ : ∃ n, n = hs.length := ⟨_, rfl⟩
          rw [← hn] at hlt hle hl hl64 f0 d3 d4 ⊢
          have HN := Lib.hid hn
          clear hc1 hf1 e0 e1 hv hn hd
          have HBK : ∀ t, badH n (p, q) = t → Hid ((hs.any (badH n)) = (t || (hs.drop (k + 1)).any (badH n))) := fun t ht => Lib.hid (HF.out.trans (HD.out.trans (by rw [ht])))
          have HBK' := Lib.hid HBK
          clear HBK
          by_cases t1 : p < 0
          · have u1 : decide (p < 0) = true := decide_eq_true t1
            have HT := Lib.hid t1
            clear t1
            go_wp2
            go_returns
            have := (HBK'.out true (by simp [badH, HT.out])).out
            exact ⟨ret_v (by rw [hr.out, this]; rfl), by go_grown⟩
          · have u1 : decide (p < 0) = false := decide_eq_false t1
            by_cases t2 : q < p
            · have u2 : decide (q < p) = true := decide_eq_true t2
              have HT := Lib.hid t2
              clear t1 t2
              go_wp2
              go_returns
              have := (HBK'.out true (by simp [badH, HT.out])).out
              exact ⟨ret_v (by rw [hr.out, this]; rfl), by go_grown⟩
            · have u2 : decide (q < p) = false := decide_eq_false t2
              by_cases t3 : n < q
              · have u3 : decide (n < q) = true := decide_eq_true t3
                have HT := Lib.hid t3
                clear t1 t2 t3
                go_wp2
                go_returns
                have := (HBK'.out true (by simp [badH, HT.out])).out
                exact ⟨ret_v (by rw [hr.out, this]; rfl), by go_grown⟩
              · have u3 : decide (n < q) = false := decide_eq_false t3
                have HT : Hid (¬ p < 0 ∧ ¬ q < p ∧ ¬ n < q) := Lib.hid ⟨t1, t2, t3⟩
                clear t1 t2 t3
                go_wp2
                go_roundw
                case rel => exact ⟨k + 1, rfl, by omega, by go_grown, Lib.hid ((HBK'.out false (by simp only [badH]; rw [decide_eq_false HT.out.1, decide_eq_false HT.out.2.1, decide_eq_false HT.out.2.2]; rfl)).out.trans (Bool.false_or _))⟩
                case measure => simp [intOf]; omega
        · have f0 : decide (k < hs.length) = false := decide_eq_false hlt
          have hres : hs.any (badH n) = false := by rw [HF.out, List.drop_eq_nil_of_le (by omega)]; rfl
          have HR : Hid (checkF n hs = 0) := Lib.hid (by rw [hr.out, hres]; rfl)
          obtain ⟨len, hn⟩ : ∃ n, n = hs.length := ⟨_, rfl⟩
          rw [← hn] at hlt hle hl hl64 f0 d3 d4 ⊢
          clear hn hres
          go_wp2
          go_returns
          exact ⟨ret_v (by rw [HR.out]; rfl), by go_grown⟩
set_option maxHeartbeats 1000000 in
theorem rHas_any {w : World} {v mv : Value} {hs : Hs} (h : HL w 0 v hs) (hl : hs.length < 4611686018427387904) (n f : Int) (hmv : mv.oneCell' = true) :
    Calls Try.prog 17 #[.agg #[.int .i64 n, v, mv], .int .i64 f] w fun e w' => e = .returned (.bool (hasF n hs f)) ∧ Below w.heap.size w w' := by
  obtain ⟨A, cap, rfl⟩ := HL.form h
  have H := Lib.hid h
  obtain ⟨b1, hb1⟩ : ∃ b, b = decide (0 ≤ f) := ⟨_, rfl⟩
  obtain ⟨b2, hb2⟩ : ∃ b, b = decide (f < n) := ⟨_, rfl⟩
  have d1 := hb1.symm
  have d2 := hb2.symm
  have HH : Hid (hasF n hs f = ((b1 && b2) && allH f hs)) := Lib.hid (by rw [hb1, hb2]; unfold hasF allH; rw [Bool.and_assoc])
  clear h hb1 hb2
  go_enter Try.func17, Try.ntmps17
  cases b1
  · skip
    go_wp2_with fail
    go_loopw [5, 19] (fun t5 i wr => ∃ (k : Nat) (t : Bool), i = .int .i64 k ∧ k ≤ hs.length ∧ t5 = .bool t ∧ Below w.heap.size w wr ∧ Hid (hasF n hs f = (t && allH f (hs.drop k)))) (fun _ i _ => hs.length - (intOf i).toNat)
    case atStart => exact ⟨0, _, rfl, by omega, rfl, by go_grown, Lib.hid (by rw [HH.out]; rfl)⟩
    case round =>
      clear HH d1 d2
      obtain ⟨k, t, rfl, hle, rfl, hB, HF⟩ := hrel
      have hsz := hB.size
      by_cases hlt : k < hs.length
      · have f0 : decide (k < hs.length) = true := decide_eq_true hlt
        obtain ⟨b', cap', hv, hbb, hbw', e0, e1⟩ := HL.cell H.out (List.getElem?_eq_getElem hlt)
        obtain ⟨hc1, hf1⟩ := bcell hB
        have e0' := (hc1 b' (k * 2) hbw').trans e0
        have e1' := (hc1 b' (k * 2 + 1) hbw').trans e1
        obtain ⟨rfl, _, rfl⟩ : A = some ⟨b', 0, none⟩ ∧ hs.length = hs.length ∧ cap = cap' := by simpa using hv
        have hd : allH f (hs.drop k) = ((!inH f hs[k]) && allH f (hs.drop (k + 1))) := by
          rw [List.drop_eq_getElem_cons hlt]; rfl
        generalize hs[k] = g at e0' e1' hd
        obtain ⟨p, q⟩ := g
        have HD := Lib.hid hd
        obtain ⟨len, hn⟩ : ∃ n, n = hs.length := ⟨_, rfl⟩
        rw [← hn] at hlt hle hl f0 ⊢
        have HN := Lib.hid hn
        clear hc1 hf1 e0 e1 hv hn hd
        cases t
        · go_wp2
          go_roundw
          case rel => exact ⟨k + 1, false, by go_num, by omega, rfl, by go_grown, Lib.hid (by rw [HF.out]; rfl)⟩
          case measure => simp [intOf]; omega
        · by_cases t1 : p ≤ f
          · have q1 : decide (p ≤ f) = true := decide_eq_true t1
            by_cases t2 : f < q
            · have q2 : decide (f < q) = true := decide_eq_true t2
              have HT : Hid (p ≤ f ∧ f < q) := Lib.hid ⟨t1, t2⟩
              clear t1 t2
              go_wp2
              go_roundw
              case rel => exact ⟨k + 1, false, by go_num, by omega, rfl, by go_grown, Lib.hid (by rw [HF.out, HD.out]; simp [inH, HT.out.1, HT.out.2])⟩
              case measure => simp [intOf]; omega
            · have q2 : decide (f < q) = false := decide_eq_false t2
              have HT : Hid (¬ f < q) := Lib.hid t2
              clear t1 t2
              go_wp2
              go_roundw
              case rel => exact ⟨k + 1, true, by go_num, by omega, rfl, by go_grown, Lib.hid (by rw [HF.out, HD.out]; simp [inH, HT.out])⟩
              case measure => simp [intOf]; omega
          · have q1 : decide (p ≤ f) = false := decide_eq_false t1
            have HT : Hid (¬ p ≤ f) := Lib.hid t1
            clear t1
            go_wp2
            go_roundw
            case rel => exact ⟨k + 1, true, by go_num, by omega, rfl, by go_grown, Lib.hid (by rw [HF.out, HD.out]; simp [inH, HT.out])⟩
            case measure => simp [intOf]; omega
      · have f0 : decide (k < hs.length) = false := decide_eq_false hlt
        have HT : Hid (hasF n hs f = t) := Lib.hid (by rw [HF.out, List.drop_eq_nil_of_le (by omega)]; cases t <;> rfl)
        obtain ⟨len, hn⟩ : ∃ n, n = hs.length := ⟨_, rfl⟩
        rw [← hn] at hlt hle hl f0 ⊢
        clear hn HF
        go_wp2
        go_returns
        exact ⟨ret_v (by rw [HT.out]; rfl), by go_grown⟩
  · cases b2
    · skip
      go_wp2_with fail
      go_loopw [5, 19] (fun t5 i wr => ∃ (k : Nat) (t : Bool), i = .int .i64 k ∧ k ≤ hs.length ∧ t5 = .bool t ∧ Below w.heap.size w wr ∧ Hid (hasF n hs f = (t && allH f (hs.drop k)))) (fun _ i _ => hs.length - (intOf i).toNat)
      case atStart => exact ⟨0, _, rfl, by omega, rfl, by go_grown, Lib.hid (by rw [HH.out]; rfl)⟩
      case round =>
        clear HH d1 d2
        obtain ⟨k, t, rfl, hle, rfl, hB, HF⟩ := hrel
        have hsz := hB.size
        by_cases hlt : k < hs.length
        · have f0 : decide (k < hs.length) = true := decide_eq_true hlt
          obtain ⟨b', cap', hv, hbb, hbw', e0, e1⟩ := HL.cell H.out (List.getElem?_eq_getElem hlt)
          obtain ⟨hc1, hf1⟩ := bcell hB
          have e0' := (hc1 b' (k * 2) hbw').trans e0
          have e1' := (hc1 b' (k * 2 + 1) hbw').trans e1
          obtain ⟨rfl, _, rfl⟩ : A = some ⟨b', 0, none⟩ ∧ hs.length = hs.length ∧ cap = cap' := by simpa using hv
          have hd : allH f (hs.drop k) = ((!inH f hs[k]) && allH f (hs.drop (k + 1))) := by
            rw [List.drop_eq_getElem_cons hlt]; rfl
          generalize hs[k] = g at e0' e1' hd
          obtain ⟨p, q⟩ := g
          have HD := Lib.hid hd
          obtain ⟨len, hn⟩ : ∃ n, n = hs.length := ⟨_, rfl⟩
          rw [← hn] at hlt hle hl f0 ⊢
          have HN := Lib.hid hn
          clear hc1 hf1 e0 e1 hv hn hd
          cases t
          · go_wp2
            go_roundw
            case rel => exact ⟨k + 1, false, by go_num, by omega, rfl, by go_grown, Lib.hid (by rw [HF.out]; rfl)⟩
            case measure => simp [intOf]; omega
          · by_cases t1 : p ≤ f
            · have q1 : decide (p ≤ f) = true := decide_eq_true t1
              by_cases t2 : f < q
              · have q2 : decide (f < q) = true := decide_eq_true t2
                have HT : Hid (p ≤ f ∧ f < q) := Lib.hid ⟨t1, t2⟩
                clear t1 t2
                go_wp2
                go_roundw
                case rel => exact ⟨k + 1, false, by go_num, by omega, rfl, by go_grown, Lib.hid (by rw [HF.out, HD.out]; simp [inH, HT.out.1, HT.out.2])⟩
                case measure => simp [intOf]; omega
              · have q2 : decide (f < q) = false := decide_eq_false t2
                have HT : Hid (¬ f < q) := Lib.hid t2
                clear t1 t2
                go_wp2
                go_roundw
                case rel => exact ⟨k + 1, true, by go_num, by omega, rfl, by go_grown, Lib.hid (by rw [HF.out, HD.out]; simp [inH, HT.out])⟩
                case measure => simp [intOf]; omega
            · have q1 : decide (p ≤ f) = false := decide_eq_false t1
              have HT : Hid (¬ p ≤ f) := Lib.hid t1
              clear t1
              go_wp2
              go_roundw
              case rel => exact ⟨k + 1, true, by go_num, by omega, rfl, by go_grown, Lib.hid (by rw [HF.out, HD.out]; simp [inH, HT.out])⟩
              case measure => simp [intOf]; omega
        · have f0 : decide (k < hs.length) = false := decide_eq_false hlt
          have HT : Hid (hasF n hs f = t) := Lib.hid (by rw [HF.out, List.drop_eq_nil_of_le (by omega)]; cases t <;> rfl)
          obtain ⟨len, hn⟩ : ∃ n, n = hs.length := ⟨_, rfl⟩
          rw [← hn] at hlt hle hl f0 ⊢
          clear hn HF
          go_wp2
          go_returns
          exact ⟨ret_v (by rw [HT.out]; rfl), by go_grown⟩
    · skip
      go_wp2_with fail
      go_loopw [5, 19] (fun t5 i wr => ∃ (k : Nat) (t : Bool), i = .int .i64 k ∧ k ≤ hs.length ∧ t5 = .bool t ∧ Below w.heap.size w wr ∧ Hid (hasF n hs f = (t && allH f (hs.drop k)))) (fun _ i _ => hs.length - (intOf i).toNat)
      case atStart => exact ⟨0, _, rfl, by omega, rfl, by go_grown, Lib.hid (by rw [HH.out]; rfl)⟩
      case round =>
        clear HH d1 d2
        obtain ⟨k, t, rfl, hle, rfl, hB, HF⟩ := hrel
        have hsz := hB.size
        by_cases hlt : k < hs.length
        · have f0 : decide (k < hs.length) = true := decide_eq_true hlt
          obtain ⟨b', cap', hv, hbb, hbw', e0, e1⟩ := HL.cell H.out (List.getElem?_eq_getElem hlt)
          obtain ⟨hc1, hf1⟩ := bcell hB
          have e0' := (hc1 b' (k * 2) hbw').trans e0
          have e1' := (hc1 b' (k * 2 + 1) hbw').trans e1
          obtain ⟨rfl, _, rfl⟩ : A = some ⟨b', 0, none⟩ ∧ hs.length = hs.length ∧ cap = cap' := by simpa using hv
          have hd : allH f (hs.drop k) = ((!inH f hs[k]) && allH f (hs.drop (k + 1))) := by
            rw [List.drop_eq_getElem_cons hlt]; rfl
          generalize hs[k] = g at e0' e1' hd
          obtain ⟨p, q⟩ := g
          have HD := Lib.hid hd
          obtain ⟨len, hn⟩ : ∃ n, n = hs.length := ⟨_, rfl⟩
          rw [← hn] at hlt hle hl f0 ⊢
          have HN := Lib.hid hn
          clear hc1 hf1 e0 e1 hv hn hd
          cases t
          · go_wp2
            go_roundw
            case rel => exact ⟨k + 1, false, by go_num, by omega, rfl, by go_grown, Lib.hid (by rw [HF.out]; rfl)⟩
            case measure => simp [intOf]; omega
          · by_cases t1 : p ≤ f
            · have q1 : decide (p ≤ f) = true := decide_eq_true t1
              by_cases t2 : f < q
              · have q2 : decide (f < q) = true := decide_eq_true t2
                have HT : Hid (p ≤ f ∧ f < q) := Lib.hid ⟨t1, t2⟩
                clear t1 t2
                go_wp2
                go_roundw
                case rel => exact ⟨k + 1, false, by go_num, by omega, rfl, by go_grown, Lib.hid (by rw [HF.out, HD.out]; simp [inH, HT.out.1, HT.out.2])⟩
                case measure => simp [intOf]; omega
              · have q2 : decide (f < q) = false := decide_eq_false t2
                have HT : Hid (¬ f < q) := Lib.hid t2
                clear t1 t2
                go_wp2
                go_roundw
                case rel => exact ⟨k + 1, true, by go_num, by omega, rfl, by go_grown, Lib.hid (by rw [HF.out, HD.out]; simp [inH, HT.out])⟩
                case measure => simp [intOf]; omega
            · have q1 : decide (p ≤ f) = false := decide_eq_false t1
              have HT : Hid (¬ p ≤ f) := Lib.hid t1
              clear t1
              go_wp2
              go_roundw
              case rel => exact ⟨k + 1, true, by go_num, by omega, rfl, by go_grown, Lib.hid (by rw [HF.out, HD.out]; simp [inH, HT.out])⟩
              case measure => simp [intOf]; omega
        · have f0 : decide (k < hs.length) = false := decide_eq_false hlt
          have HT : Hid (hasF n hs f = t) := Lib.hid (by rw [HF.out, List.drop_eq_nil_of_le (by omega)]; cases t <;> rfl)
          obtain ⟨len, hn⟩ : ∃ n, n = hs.length := ⟨_, rfl⟩
          rw [← hn] at hlt hle hl f0 ⊢
          clear hn HF
          go_wp2
          go_returns
          exact ⟨ret_v (by rw [HT.out]; rfl), by go_grown⟩
end Go.Proofs.Ytnjjeedalmikaaa
