/- New of the memory, for every list of holes. No condition. -/
import Derived.Test.YtnjjeedalmikaaaRamF
namespace Go.Proofs.Ytnjjeedalmikaaa
open Go.ChangeShapes Go.WideShapes Go.ChangeAt Go.RowKit
open Go.ChangeMaps (setBlock heap_setBlock_same heap_setBlock_other)
set_option linter.unusedVariables false
set_option linter.unusedSimpArgs false
def badH (n : Int) (h : Int × Int) : Bool := decide (h.1 < 0) || (decide (h.2 < h.1) || decide (n < h.2))
def checkF (n : Int) (hs : Hs) : Int := if n < 1 then 1 else if 1048576 < n ∨ 64 < hs.length then 4 else if hs.any (badH n) then 3 else 0
theorem info33 : (Try.prog.info? 33).map (fun i => (i.zero, i.size, i.bytes)) = some (some (.agg #[.int .i64 0, .int .i64 0]), 2, 16) := by kernel_rfl
theorem under34 : Try.prog.underlying 34 = some (.slice 33) := by kernel_rfl
/-- What New lays: the holes copied, an empty map, the header. -/
theorem new_laid {w wr : World} {v : Value} {hs : Hs} (hB : Below w.heap.size w wr) (h : HL w 0 v hs) (hl : hs.length ≤ 64) (n : Int) (h0 : 0 < n) (h1 : n ≤ 1048576) :
    ∃ A c w2, (Builtin.append_ #[34, 34] 34 #[.slice none 0 0, v]).run Try.prog wr = .ok (.slice A hs.length c) w2 ∧ Below w.heap.size w w2 ∧
      RamAt ((w2.alloc (.map #[] 0)).alloc (.cells #[.int .i64 n, .slice A hs.length c, .map (some w2.heap.size)] 60)) w.heap.size (w2.heap.size + 1) w2.heap.size n hs (fun _ => 0) := by
  obtain ⟨i, hi, hz0, hz1, hz2⟩ := info_parts info33
  have r0 : Rd wr 2 v hs.length (pcells hs) := Rd.own (HL.below h hB)
  have o0 : wr.ownsRow w.heap.size 33 2 (.slice none 0 0) 0 [] := World.ownsRow_nil _ _ _ _
  obtain ⟨v1, w2, a1, o1, g1⟩ := run_app (P := Try.prog) w.heap.size 34 34 33 under34 hi hz0 hz1 hz2 rfl (by decide) o0 r0 (pcells_one hs) (by simp [maxLen]; omega) (by omega) hB.size
  rw [Nat.zero_add, List.nil_append] at o1
  have o1' : HL w2 w.heap.size v1 hs := o1
  obtain ⟨A, c, rfl⟩ := HL.form o1'
  have B1 : Below w.heap.size w w2 := Below.grown hB g1 hB.size (fun k e => by simp [Value.ownBlock] at e)
  refine ⟨A, c, w2, a1, B1, ?_⟩
  have hsz := B1.size
  refine RamX.at (v := .slice A hs.length c) (L := []) ⟨?_, ?_, ?_, by simp [keys], fun k g hk => (by cases hk), fun f _ i _ => rfl, fun k k' g hk => (by cases hk), hsz, hl, h0, h1, fun _ => by omega⟩
  · have := heap_new (w2.alloc (.map #[] 0)) (.cells #[.int .i64 n, .slice A hs.length c, .map (some w2.heap.size)] 60)
    rwa [World.size_alloc] at this
  · exact HL.below (HL.below o1' ((Below.refl _ _).alloc (Nat.le_refl _) _)) ((Below.refl _ _).alloc (Nat.le_refl _) _)
  · exact (MapAL.made w2).alloc _
set_option maxHeartbeats 1000000 in
theorem new_any {w : World} {v : Value} {hs : Hs} (h : HL w 0 v hs) (hl : hs.length < 4611686018427387904) (n : Int) :
    Calls Try.prog 9 #[.int .i64 n, v] w fun e w' => ((checkF n hs ≠ 0 ∧ e = .returned (.tuple #[.pointer none, .int .i64 (checkF n hs)])) ∨ (checkF n hs = 0 ∧ ∃ b m, e = .returned (.tuple #[ptr b, .int .i64 0]) ∧ RamAt w' w.heap.size b m n hs (fun _ => 0))) ∧ Below w.heap.size w w' := by
  obtain ⟨A, cap, rfl⟩ := HL.form h
  by_cases h1 : n < 1
  · have d1 : decide (n < 1) = true := decide_eq_true h1
    have hr : Hid (checkF n hs = 1) := Lib.hid (if_pos h1)
    clear h1 h
    obtain ⟨len, hn⟩ : ∃ n, n = hs.length := ⟨_, rfl⟩
    rw [← hn] at hl ⊢
    clear hn
    go_enter Try.func9, Try.ntmps9
    go_wp2
    go_returns
    exact ⟨.inl ⟨by rw [hr.out]; decide, ret_v (by rw [hr.out]; rfl)⟩, by go_grown⟩
  · have d1 : decide (n < 1) = false := decide_eq_false h1
    by_cases h2 : 1048576 < n ∨ 64 < hs.length
    · have hr : Hid (checkF n hs = 4) := Lib.hid (by unfold checkF; rw [if_neg h1, if_pos h2])
      obtain ⟨len, hn⟩ : ∃ n, n = hs.length := ⟨_, rfl⟩
      rw [← hn] at hl h2 ⊢
      clear hn h
      by_cases h3 : 1048576 < n
      · have d2 : decide (1048576 < n) = true := decide_eq_true h3
        clear h1 h2 h3
        go_enter Try.func9, Try.ntmps9
        go_wp2
        go_returns
        exact ⟨.inl ⟨by rw [hr.out]; decide, ret_v (by rw [hr.out]; rfl)⟩, by go_grown⟩
      · have d2 : decide (1048576 < n) = false := decide_eq_false h3
        have d3 : decide ((64 : Int) < (len : Int)) = true := decide_eq_true (by omega)
        have d4 : decide (64 < len) = true := decide_eq_true (by omega)
        clear h1 h2 h3
        go_enter Try.func9, Try.ntmps9
        go_wp2
        go_returns
        exact ⟨.inl ⟨by rw [hr.out]; decide, ret_v (by rw [hr.out]; rfl)⟩, by go_grown⟩
    · have d2 : decide (1048576 < n) = false := decide_eq_false (by omega)
      have d3 : decide ((64 : Int) < (hs.length : Int)) = false := decide_eq_false (by omega)
      have d4 : decide (64 < hs.length) = false := decide_eq_false (by omega)
      have hr : Hid (checkF n hs = if hs.any (badH n) then 3 else 0) := Lib.hid (by unfold checkF; rw [if_neg h1, if_neg h2])
      have hl64 : hs.length ≤ 64 := by omega
      have hn0 : 0 < n ∧ n ≤ 1048576 := by omega
      have HN0 := Lib.hid hn0
      have H := Lib.hid h
      clear h1 h2 h hn0
      go_enter Try.func9, Try.ntmps9
      go_wp2_with fail
      go_loopw [19] (fun i wr => ∃ k : Nat, i = .int .i64 k ∧ k ≤ hs.length ∧ Below w.heap.size w wr ∧ Hid (hs.any (badH n) = (hs.drop k).any (badH n))) (fun i _ => hs.length - (intOf i).toNat)
      case atStart => exact ⟨0, rfl, by omega, by go_grown, Lib.hid rfl⟩
      case round =>
        obtain ⟨k, rfl, hle, hB, HF⟩ := hrel
        have hsz := hB.size
        by_cases hlt : k < hs.length
        · have f0 : decide (k < hs.length) = true := decide_eq_true hlt
          obtain ⟨b', cap', hv, hbb, hbw', e0, e1⟩ := HL.cell H.out (List.getElem?_eq_getElem hlt)
          obtain ⟨hc1, hf1⟩ := bcell hB
          have e0' := (hc1 b' (k * 2) hbw').trans e0
          have e1' := (hc1 b' (k * 2 + 1) hbw').trans e1
          obtain ⟨rfl, _, rfl⟩ : A = some ⟨b', 0, none⟩ ∧ hs.length = hs.length ∧ cap = cap' := by simpa using hv
          have hd : (hs.drop k).any (badH n) = (badH n hs[k] || (hs.drop (k + 1)).any (badH n)) := by
            rw [List.drop_eq_getElem_cons hlt]; rfl
          generalize hs[k] = g at e0' e1' hd
          obtain ⟨p, q⟩ := g
          have HD := Lib.hid hd
          obtain ⟨len, hn⟩ : ∃ n, n = hs.length := ⟨_, rfl⟩
          rw [← hn] at hlt hle hl hl64 f0 d3 d4 ⊢
          have HN := Lib.hid hn
          clear hc1 hf1 e0 e1 hv hn hd
          have HBK : ∀ t, badH n (p, q) = t → Hid ((hs.any (badH n)) = (t || (hs.drop (k + 1)).any (badH n))) := fun t ht => Lib.hid (HF.out.trans (HD.out.trans (by rw [ht])))
          have HBK' := Lib.hid HBK
          clear HBK
          by_cases t1 : p < 0
          · have u1 : decide (p < 0) = true := decide_eq_true t1
            have HT := Lib.hid t1
            clear t1
            go_wp2
            go_returns
            have := (HBK'.out true (by simp [badH, HT.out])).out
            exact ⟨.inl ⟨by rw [hr.out, this]; simp, ret_v (by rw [hr.out, this]; rfl)⟩, by go_grown⟩
          · have u1 : decide (p < 0) = false := decide_eq_false t1
            by_cases t2 : q < p
            · have u2 : decide (q < p) = true := decide_eq_true t2
              have HT := Lib.hid t2
              clear t1 t2
              go_wp2
              go_returns
              have := (HBK'.out true (by simp [badH, HT.out])).out
              exact ⟨.inl ⟨by rw [hr.out, this]; simp, ret_v (by rw [hr.out, this]; rfl)⟩, by go_grown⟩
            · have u2 : decide (q < p) = false := decide_eq_false t2
              by_cases t3 : n < q
              · have u3 : decide (n < q) = true := decide_eq_true t3
                have HT := Lib.hid t3
                clear t1 t2 t3
                go_wp2
                go_returns
                have := (HBK'.out true (by simp [badH, HT.out])).out
                exact ⟨.inl ⟨by rw [hr.out, this]; simp, ret_v (by rw [hr.out, this]; rfl)⟩, by go_grown⟩
              · have u3 : decide (n < q) = false := decide_eq_false t3
                have HT : Hid (¬ p < 0 ∧ ¬ q < p ∧ ¬ n < q) := Lib.hid ⟨t1, t2, t3⟩
                clear t1 t2 t3
                go_wp2
                go_roundw
                case rel => exact ⟨k + 1, rfl, by omega, by go_grown, Lib.hid ((HBK'.out false (by simp only [badH]; rw [decide_eq_false HT.out.1, decide_eq_false HT.out.2.1, decide_eq_false HT.out.2.2]; rfl)).out.trans (Bool.false_or _))⟩
                case measure => simp [intOf]; omega
        · have f0 : decide (k < hs.length) = false := decide_eq_false hlt
          obtain ⟨A2, c2, w2, happ, hB2, hRam⟩ := new_laid hB H.out hl64 n HN0.out.1 HN0.out.2
          have hres : hs.any (badH n) = false := by rw [HF.out, List.drop_eq_nil_of_le (by omega)]; rfl
          obtain ⟨len, hn⟩ : ∃ n, n = hs.length := ⟨_, rfl⟩
          have HR : Hid (checkF n hs = 0) := Lib.hid (by rw [hr.out, hres]; rfl)
          rw [← hn] at hlt hle hl hl64 f0 d3 d4 happ hRam ⊢
          have HN := Lib.hid hn
          have HRAM := Lib.hid hRam
          have HA := Lib.hid happ
          have HBB := Lib.hid hB2
          clear hn hres hRam happ hB2
          have hmm := @run_makeMap Try.prog
          go_wp2_with (at_builtin; refine wpList_app rfl (.const (.slice none 0 0)) (.tmp 41) 34 rfl rfl rfl HA.out ?_)
          go_returns
          exact ⟨.inr ⟨HR.out, _, _, rfl, HRAM.out⟩, (HBB.out.alloc HBB.out.size _).alloc (Nat.le_trans HBB.out.size (by rw [World.size_alloc]; omega)) _⟩
end Go.Proofs.Ytnjjeedalmikaaa
