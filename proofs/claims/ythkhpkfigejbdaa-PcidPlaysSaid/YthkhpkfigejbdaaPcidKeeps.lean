/- PcidKeeps: as long as there are no more spaces than tags each keeps its own. No condition. -/
import Derived.Test.YthkhpkfigejbdaaTagSt
namespace Go.Proofs.Ythkhpkfigejbdaa
open Go.ChangeShapes Go.WideShapes Go.ChangeAt Go.RowKit
open Go.ChangeMaps (setBlock heap_setBlock_same heap_setBlock_other)
set_option linter.unusedVariables false
set_option linter.unusedSimpArgs false

theorem run_len_al {P : Program} {w : World} {b : Nat} {l : AL} {T K E ty : TypeId} (hT : P.underlying T = some (.map K E)) (h : MapAL w b l) :
    (Builtin.len_ #[T] ty #[.map (some b)]).run P w = .ok (.int .i64 l.length) w := by
  obtain ⟨es, clock, hb, he, _⟩ := h
  have := he.length
  simp only [Array.length_toList] at this
  simp [Builtin.len_, run_underlying hT, MapKept.run_getObj_map hb, Result.andThen, goInt, this]
theorem kput_same : ∀ {l : List (Int × Int)} {k v : Int}, kget l k = some v → kput l k v = l
  | [], k, v, h => by cases h
  | (a, u) :: r, k, v, h => by
    unfold kget at h
    unfold kput
    split at h
    · rename_i e; rw [if_pos e, Option.some.inj h]
    · rename_i e; rw [if_neg e, kput_same h]
theorem kput_length : ∀ {l : List (Int × Int)} {k v : Int}, kget l k = none → (kput l k v).length = l.length + 1
  | [], k, v, h => rfl
  | (a, u) :: r, k, v, h => by
    unfold kget at h
    unfold kput
    split at h
    · cases h
    · rename_i e; rw [if_neg e, List.length_cons, kput_length h]; rfl
theorem int_row {w : World} {A : Option Addr} {len : Nat} (h : Rows_ w [.i .i64] A len) {i : Nat} (hi : i < len) : ∃ b off, A = some ⟨b, off, none⟩ ∧ b < w.heap.size ∧ ∃ (s : Int), w.cell? ⟨b, off + i, none⟩ = some (.int .i64 s) := by
  obtain ⟨_, h2⟩ := h
  obtain ⟨b, off, R, rfl, hb, hr⟩ := h2 (by omega)
  obtain ⟨h3, h4⟩ := hr i hi
  generalize hR : R i = cs at h3 h4
  obtain ⟨_, c1, rfl, ⟨s, rfl, _⟩, h6⟩ := h3
  exact ⟨b, off, rfl, hb, s, by simpa using h4 0 (by simp)⟩
theorem keep_step {most : Int} {st : St} (hi : Inv most st) (hn : st.next = st.T.length + 1) (hg : st.gen = 0) (s : Int) (hc : kget st.T s = none → (st.T.length : Int) < most) :
    ∃ st' x, getSt most st s = (st', x, false) ∧ st'.T = kput st.T s x ∧ st'.next = st'.T.length + 1 ∧ st'.gen = 0 ∧ kget st'.O x = some s ∧ (kget st.T s = none → x = st.T.length + 1) ∧ (∀ y, kget st.T s = some y → x = y) := by
  cases hs : kget st.T s with
  | some x =>
    refine ⟨st, x, by unfold getSt; rw [hs], (kput_same hs).symm, hn, hg, (hi.inv s x).1 hs, (fun h => by cases h), fun y h => Option.some.inj h⟩
  | none =>
    have h1 := hc hs
    have h2 : ¬ most < st.next := by omega
    refine ⟨⟨st.next + 1, st.gen, kput st.O st.next s, kput st.T s st.next⟩, st.next, by unfold getSt; rw [hs]; simp [h2], rfl, ?_, hg, ?_, fun _ => hn, fun y h => by cases h⟩
    · show st.next + 1 = (kput st.T s st.next).length + 1
      rw [kput_length hs, hn]; omega
    · show kget (kput st.O st.next s) st.next = _
      rw [kget_put, if_pos rfl]
theorem get_at {w : World} {p : Nat} {A : Nat → Prop} {most : Int} {st st' : St} {x : Int} {over : Bool} (h : Q w p A most st) (hi : Inv most st) (hm : 1 ≤ most) (hm2 : most ≤ 4095) (hg : 0 ≤ st.gen) (hg2 : st.gen < 4611686018427387904) (s : Int) (e : getSt most st s = (st', x, over)) :
    Calls Try.prog 10 #[.pointer (some ⟨p, 0, none⟩), .int .i64 s] w fun e w' => e = .returned (.tuple #[.int .i64 x, .bool over]) ∧ Touch A w w' ∧ Q w' p (fun k => A k ∨ w.heap.size ≤ k) most st' ∧ Inv most st' := by
  refine (get_q h hi hm hm2 hg hg2 s).mono ?_
  have hi' := hi.get hm s
  rw [e] at hi' ⊢
  rintro e w' ⟨rfl, ht, hq⟩
  exact ⟨rfl, ht, hq, hi'⟩
theorem Touch.cell {S : Nat → Prop} {w w1 : World} (h : Touch S w w1) {b : Nat} (hb : b < w.heap.size) (hn : ¬ S b) (o : Nat) : w1.cell? ⟨b, o, none⟩ = w.cell? ⟨b, o, none⟩ := by
  have := h.block b hb hn
  simp [World.cell?, this]
theorem set_q {w : World} {p m : Nat} {A : Nat → Prop} {most : Int} {st : St} (h : Q w p A most st) (hA : ∀ k, A k → k ≠ m) (o : Obj) : Q (setBlock w m o) p A most st :=
  h.touch ((Touch.refl (fun k => k = m) w).setBlock (.inl rfl) o) hA
theorem set_below {w0 w : World} {m : Nat} (h : Below w0.heap.size w0 w) (hm : w0.heap.size ≤ m) (o : Obj) : Below w0.heap.size w0 (setBlock w m o) :=
  Below.touch h ((Touch.refl (fun k => k = m) w).setBlock (.inl rfl) o) (Nat.le_refl _) (fun k e => e ▸ hm)
set_option maxHeartbeats 1000000 in
set_option maxRecDepth 10000 in
theorem walk_PcidKeeps (a0 : Int) (A1 : Option Addr) (len1 cap1 : Nat) (w : World) (w0 : (Lit.int .i64 a0).wf = true) (r1 : Rows_ w [.i .i64] A1 len1) :
    Calls Try.prog 4 #[.int .i64 a0, .slice A1 len1 cap1] w fun e w' => e = .returned (.bool true) ∧ Below w.heap.size w w' := by
  by_cases hm : 1 ≤ a0 ∧ a0 ≤ 4095
  · obtain ⟨hm1, hm2⟩ := hm
    have hmm := @run_makeMap Try.prog
    go_enter Try.func4, Try.ntmps4
    go_wp2_with fail
    refine (new_q a0 hm1 hm2 _).mono ?_
    rintro e w1 ⟨p, rfl, hb1, hq1⟩
    go_wp2_with fail
    have hsz := hb1.size
    have hm0 := MapAL.made w1
    obtain ⟨m, hmd⟩ : ∃ m, m = w1.heap.size := ⟨_, rfl⟩
    have hq0 : Q (w1.alloc (.map #[] 0)) p (fun k => w.heap.size ≤ k ∧ k ≠ m) a0 st0 := (hq1.mono (fun k h h2 => ⟨h, by omega⟩)).below ((Below.refl _ _).alloc (Nat.le_refl _) _)
    have hB0 : Below w.heap.size w (w1.alloc (.map #[] 0)) := hb1.alloc hb1.size _
    rw [← hmd] at hm0 ⊢
    have hwm : w.heap.size ≤ m := by omega
    clear hmm hmd hsz hb1 hq1
    go_loopw [8] (fun i wr => ∃ (k : Nat) (st : St), i = .int .i64 k ∧ k ≤ len1 ∧ k ≤ 60 ∧ st.gen = 0 ∧ st.next = st.T.length + 1 ∧ Below w.heap.size w wr ∧ Q wr p (fun k => w.heap.size ≤ k ∧ k ≠ m) a0 st ∧ Inv a0 st ∧ MapAL wr m (enc iv st.T)) (fun i _ => (60 - intOf i).toNat)
    case atStart => exact ⟨0, st0, rfl, by omega, by omega, rfl, rfl, hB0, hq0, Inv.zero hm1, hm0⟩
    case round =>
      obtain ⟨k, st, rfl, hle, hle2, hg, hn, hB, hq, hi, hM⟩ := hrel
      clear hB0 hq0 hm0
      by_cases hlt : k < len1 ∧ k < 60
      · obtain ⟨hl1, hl2⟩ := hlt
        obtain ⟨b, off, hA, hbs, s, e0⟩ := int_row r1 hl1
        have f0 : decide (k < len1) = true := decide_eq_true (by omega)
        have f1 : decide ((k : Int) < 60) = true := decide_eq_true (by omega)
        have hlk := look_iv hM s
        have hln := run_len_al (ty := 3) under32 hM
        subst hA
        by_cases hfull : kget st.T s = none ∧ a0 ≤ (st.T.length : Int)
        · obtain ⟨hs, hf⟩ := hfull
          rw [hs] at hlk
          simp only [Option.getD_none, Option.isSome_none] at hlk
          have hln' : (enc iv st.T).length = st.T.length := by simp [enc]
          rw [hln'] at hln
          have dg : decide (a0 ≤ (st.T.length : Int)) = true := decide_eq_true hf
          obtain ⟨hc1, hf1⟩ := bcell hB
          have e0' := (hc1 b (off + k) hbs).trans e0
          clear hc1 hf1 e0
          have HS := Lib.hid hs
          have HG := Lib.hid hg
          have HN := Lib.hid hn
          clear hs hg hn hln'
          go_wp2_with fail
          refine (awake_true _).mono ?_
          rintro e w2 ⟨rfl, hb2⟩
          go_wp2
          go_returns
          exact ⟨rfl, b_then hB hb2⟩
        · obtain ⟨st', x, hst, hT', hn', hg', hO', hx1, hx2⟩ := keep_step hi hn hg s (fun h => by
            apply Classical.byContradiction
            intro h2; exact hfull ⟨h, by omega⟩)
          obtain ⟨hc1, hf1⟩ := bcell hB
          have e0' := (hc1 b (off + k) hbs).trans e0
          clear hc1 hf1 e0
          have hln' : (enc iv st.T).length = st.T.length := by simp [enc]
          rw [hln'] at hln
          obtain ⟨n, hnl⟩ : ∃ n : Nat, n = st.T.length := ⟨_, rfl⟩
          rw [← hnl] at hln hx1 hn
          have hnb : (n : Int) ≤ a0 := by have := hi.next1; omega
          have HST := Lib.hid hst
          have HT := Lib.hid hT'
          have HN := Lib.hid hn'
          have HG := Lib.hid hg'
          have HO := Lib.hid hO'
          have HN0 := Lib.hid hn
          have HG0 := Lib.hid hg
          have HNL := Lib.hid hnl
          clear hst hT' hn' hg' hO' hn hg hnl hln'
          have hgg : 0 ≤ st.gen ∧ st.gen < 4611686018427387904 := by rw [HG0.out]; omega
          cases hs : kget st.T s with
          | none =>
            rw [hs] at hlk
            simp only [Option.getD_none, Option.isSome_none] at hlk
            have hx : x = n + 1 := hx1 hs
            have dg : decide (a0 ≤ (n : Int)) = false := decide_eq_false (fun h => hfull ⟨hs, by rw [← HNL.out]; exact h⟩)
            have v1 : IntKind.i64.wrap ((n : Int) + 1) = n + 1 := IntWalk.i64_in _ (by omega)
            have HX := Lib.hid hx
            have HS := Lib.hid hs
            have HX1 := Lib.hid hx1
            have HX2 := Lib.hid hx2
            have HF := Lib.hid hfull
            clear hx hs hx1 hx2 hfull
            go_wp2_with fail
            refine (get_at hq hi hm1 hm2 hgg.1 hgg.2 s HST.out).mono ?_
            rintro e w4 ⟨rfl, ht4, hq4, hi4⟩
            have hmlt := hM.lt
            have hbsz := hB.size
            replace hq4 := hq4.mono (A' := fun k => w.heap.size ≤ k ∧ k ≠ m) (fun k h _ => h.elim id (fun h => ⟨by omega, by omega⟩))
            have hM4 := hM.touch ht4 (fun h => h.2 rfl)
            have hB4 := Below.touch hB ht4 (Nat.le_refl _) (fun k h => h.1)
            have e4 := (ht4.cell (by omega) (fun h => by have := h.1; omega) (off + k)).trans e0'
            have hln4 := run_len_al (ty := 3) under32 hM4
            rw [show (enc iv st.T).length = n by rw [HNL.out]; simp [enc]] at hln4
            obtain ⟨o, hmu, hM5⟩ := run_mapUpdate_al (P := Try.prog) under32 under3 hM4 s (iv x)
            rw [aput_enc, ← HT.out] at hM5
            simp only [iv] at hmu
            have e5 : (setBlock w4 m o).cell? ⟨b, off + k, none⟩ = _ := (set_cell (show b ≠ m by omega)).trans e4
            have hq5 := set_q hq4 (fun k h => h.2) o
            have hB5 := set_below hB4 hwm o
            have HMU := Lib.hid hmu
            have HLN4 := Lib.hid hln4
            clear hmu hln4 hln hlk ht4
            have hmu := HMU.out
            have hln4 := HLN4.out
            obtain rfl := HX.out
            have v1' : wrap64 ((n : Int) + 1) = n + 1 := IntWalk.wrap64_in _ (by omega)
            go_wp2_with fail
            refine (owner_q hq5 _).mono ?_
            rw [HO.out]
            simp only [Option.getD_some, Option.isSome_some]
            rintro e w6 ⟨rfl, rfl⟩
            go_wp2
            go_roundw
            case rel => exact ⟨k + 1, st', rfl, by omega, by omega, HG.out, HN.out, hB5, hq5, hi4, hM5⟩
            case measure => simp [intOf]; omega
          | some y =>
            rw [hs] at hlk
            simp only [Option.getD_some, Option.isSome_some] at hlk
            obtain rfl : x = y := hx2 y hs
            have HS := Lib.hid hs
            clear hs hx1 hx2 hfull
            go_wp2_with fail
            refine (get_at hq hi hm1 hm2 hgg.1 hgg.2 s HST.out).mono ?_
            rintro e w4 ⟨rfl, ht4, hq4, hi4⟩
            have hmlt := hM.lt
            have hbsz := hB.size
            replace hq4 := hq4.mono (A' := fun k => w.heap.size ≤ k ∧ k ≠ m) (fun k h _ => h.elim id (fun h => ⟨by omega, by omega⟩))
            have hM4 := hM.touch ht4 (fun h => h.2 rfl)
            have hB4 := Below.touch hB ht4 (Nat.le_refl _) (fun k h => h.1)
            have e4 := (ht4.cell (by omega) (fun h => by have := h.1; omega) (off + k)).trans e0'
            have hln4 := run_len_al (ty := 3) under32 hM4
            rw [show (enc iv st.T).length = n by rw [HNL.out]; simp [enc]] at hln4
            obtain ⟨o, hmu, hM5⟩ := run_mapUpdate_al (P := Try.prog) under32 under3 hM4 s (iv x)
            rw [aput_enc, ← HT.out] at hM5
            simp only [iv] at hmu
            have e5 : (setBlock w4 m o).cell? ⟨b, off + k, none⟩ = _ := (set_cell (show b ≠ m by omega)).trans e4
            have hq5 := set_q hq4 (fun k h => h.2) o
            have hB5 := set_below hB4 hwm o
            have HMU := Lib.hid hmu
            have HLN4 := Lib.hid hln4
            clear hmu hln4 hln hlk ht4
            have hmu := HMU.out
            have hln4 := HLN4.out
            go_wp2_with fail
            refine (owner_q hq5 _).mono ?_
            rw [HO.out]
            simp only [Option.getD_some, Option.isSome_some]
            rintro e w6 ⟨rfl, rfl⟩
            go_wp2
            go_roundw
            case rel => exact ⟨k + 1, st', rfl, by omega, by omega, HG.out, HN.out, hB5, hq5, hi4, hM5⟩
            case measure => simp [intOf]; omega
      · have hdec : decide (k < len1) = false ∨ (decide (k < len1) = true ∧ decide ((k : Int) < 60) = false) := by
          by_cases h1 : k < len1
          · exact .inr ⟨decide_eq_true (by omega), decide_eq_false (by omega)⟩
          · exact .inl (decide_eq_false (by omega))
        have HG := Lib.hid hg
        clear hg hn hlt
        rcases hdec with f0 | ⟨f0, f1⟩
        all_goals
          go_wp2_with fail
          refine (awake_true _).mono ?_
          rintro e w2 ⟨rfl, hb2⟩
          have hq2 := hq.below hb2
          go_wp2_with fail
          refine (generation_q hq2).mono ?_
          rw [HG.out]
          rintro e w3 ⟨rfl, rfl⟩
          go_wp2
          go_returns
          exact ⟨rfl, b_then hB hb2⟩
  · go_enter Try.func4, Try.ntmps4
    go_wp2_with fail
    refine (new_bad a0 hm _).mono ?_
    rintro e w1 ⟨rfl, hb1⟩
    go_wp2_with fail
    refine (awake_true _).mono ?_
    rintro e w2 ⟨rfl, hb2⟩
    go_wp2
    go_returns
    exact ⟨rfl, b_then hb1 hb2⟩
end Go.Proofs.Ythkhpkfigejbdaa
