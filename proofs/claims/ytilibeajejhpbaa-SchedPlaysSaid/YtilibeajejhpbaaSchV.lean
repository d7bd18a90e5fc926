/- The document's queue (layer 16): Yield, Tick, for every list. No condition but bounds. -/
import Derived.Test.YtilibeajejhpbaaSchQ
namespace Go.Proofs.Ytilibeajejhpbaa
open Go.ChangeShapes Go.WideShapes Go.ChangeAt Go.RowKit
set_option linter.unusedVariables false
set_option linter.unusedSimpArgs false
attribute [local go_sem ↓] Go.wp_at_zero Go.wp_at_succ
section
variable {w0 : World} {base : Nat} {qn tk : Int} {v : Value} {l : List Int}
set_option maxHeartbeats 4000000 in
theorem rYield_any (h : IRow w0 base v l) (hb : base ≤ w0.heap.size) (hl : l.length ≤ 900) :
    Calls Try.prog 20 #[.agg #[.int .i64 qn, .int .i64 tk, v]] w0 fun e w' => ∃ v', e = .returned (.agg #[.int .i64 qn, .int .i64 0, v']) ∧ Below w0.heap.size w0 w' ∧ IRow w' base v' (rotL l) := by
  obtain ⟨A, c, rfl⟩ := row_form h
  obtain ⟨w, hw⟩ : ∃ W, W = (w0.alloc (.cells #[.int .i64 qn, .int .i64 0, .slice A l.length c] 40)).alloc (.cells #[.int .i64 0, .int .i64 0, .slice none 0 0] 40) := ⟨_, rfl⟩
  have hbw : Below w0.heap.size w0 w := by rw [hw]; go_grown
  have hf0 : w.heap[w0.heap.size]? = some (.cells #[.int .i64 qn, .int .i64 0, .slice A l.length c] 40 (0, 0)) := by rw [hw]; exact heap_old _ _ _ (heap_new _ _)
  have hf1 : w.heap[w0.heap.size + 1]? = some (.cells #[.int .i64 0, .int .i64 0, .slice none 0 0] 40 (0, 0)) := by
    rw [hw]
    have := heap_new (w0.alloc (.cells #[.int .i64 qn, .int .i64 0, .slice A l.length c] 40)) (.cells #[.int .i64 0, .int .i64 0, .slice none 0 0] 40)
    rwa [World.size_alloc] at this
  have hsw : w0.heap.size + 1 + 1 = w.heap.size := by rw [hw]; simp
  have HR1 : Hid (IRow w base (.slice A l.length c) l) := Lib.hid (row_below h hbw)
  have HL0 : Hid (IRow (w.alloc (.cells #[] 3)) w.heap.size (.slice (some ⟨w.heap.size, 0, none⟩) 0 0) []) := Lib.hid (World.ownsRow_lit (base := w.heap.size) (e := 3) (size := 1) w #[] 0 (Nat.le_refl _) (by simp [maxLen]) (by simp))
  have HF0 := Lib.hid hf0
  have HF1 := Lib.hid hf1
  have HBW := Lib.hid hbw
  have HW := Lib.hid hw
  have HSW := Lib.hid hsw
  have HBA := Lib.hid hb
  clear hf0 hf1 hbw hw hsw h hb
  go_enter Try.func20, Try.ntmps20
  go_wp2_with fail
  rw [HSW.out, ← HW.out]
  go_loopw [3, 10] (fun o i wr => ∃ (k : Nat) (L : List Int) (A2 : Option Addr) (c2 : Nat), o = .slice A2 L.length c2 ∧ i = .int .i64 k ∧ k ≤ l.length ∧ Hid (Below w.heap.size w wr) ∧ Hid (IRow wr w.heap.size (.slice A2 L.length c2) L) ∧ Hid (L = (rotL l).take k)) (fun _ i _ => l.length - (intOf i).toNat)
  case atStart => exact ⟨0, [], _, _, rfl, rfl, by omega, Lib.hid ((Below.refl _ _).alloc (Nat.le_refl _) _), HL0, Lib.hid rfl⟩
  case round =>
    obtain ⟨k, L, A2, c2, rfl, rfl, hle, HB, HR, HFL⟩ := hrel
    have hLl : L.length ≤ k := by rw [HFL.out, List.length_take]; omega
    by_cases hlt : k < l.length
    · have f0 : decide (k < l.length) = true := decide_eq_true hlt
      have hjl : (k + 1) % l.length < l.length := Nat.mod_lt _ (by omega)
      obtain ⟨j, hj⟩ : ∃ j, j = (k + 1) % l.length := ⟨_, rfl⟩
      have hjm : Int.tmod ((k : Int) + 1) (l.length : Int) = (j : Int) := by
        rw [hj, Int.tmod_eq_emod_of_nonneg (by omega), Int.natCast_emod]
        rfl
      have hrj : (rotL l)[k]'(by rw [rotL_len]; exact hlt) = l[j]'(by rw [hj]; exact hjl) := by
        rw [rotL_at l k hlt]
        simp only [hj]
      rw [← hj] at hjl
      obtain ⟨b, cap, hv, hbb, hbw, hc⟩ := HR1.out.cell j hjl
      obtain ⟨rfl, _, rfl⟩ : A = some ⟨b, 0, none⟩ ∧ l.length = l.length ∧ c = cap := by simpa using hv
      have hta : (rotL l).take (k + 1) = L ++ [l[j]] := by
        rw [HFL.out, List.take_succ_eq_append_getElem (by rw [rotL_len]; exact hlt), hrj]
      generalize l[j] = y at hc hta
      have c0 := (HB.out.cell (p := ⟨b, j, none⟩) hbw).trans hc
      have m0 := heap_below HB.out HF0.out
      have c1 : wr.cell? ⟨w0.heap.size, 2, none⟩ = some (.slice (some ⟨b, 0, none⟩) l.length c) := cell_heap m0 2
      have g1 : (j : Int) < (l.length : Int) := by omega
      have g2 : (0 : Int) ≤ (j : Int) := by omega
      have hbr : b < wr.heap.size := Nat.lt_of_lt_of_le hbw HB.out.size
      have hbw0 := hbw
      have hw0r : w0.heap.size < wr.heap.size := heap_lt m0
      obtain ⟨n, hn⟩ : ∃ n, n = l.length := ⟨_, rfl⟩
      rw [← hn] at hlt hle hl f0 g1 hjm c1 ⊢
      have g3 : ¬ (n : Int) = 0 := by omega
      have g5 : ¬ n = 0 := by omega
      have g4 : ((n : Int) == 0) = false := by simp; omega
      have s1 : IntKind.i64.wrap ((k : Int) + 1) = (k : Int) + 1 := by rw [IntKind.wrap_i64]; omega
      have HTA := Lib.hid hta
      have HN := Lib.hid hn
      have hL9 : L.length ≤ 1000 := by omega
      clear hn hv hbb hc hta hj hjl hrj m0
      go_wp2_with fail
      have hbr0 := HR.out
      have hlt5 := hbr0.lt
      have hwr := HB.out.size
      have HBS : Hid (b < w.heap.size) := Lib.hid hbw0
      have HS : Hid (∀ W : World, Below wr.heap.size wr W → W.cell? ⟨w0.heap.size, 2, none⟩ = some (.slice (some ⟨b, 0, none⟩) n c) ∧ W.cell? ⟨b, j, none⟩ = some (.int .i64 y)) := Lib.hid (fun W hW => ⟨(hW.cell (p := ⟨w0.heap.size, 2, none⟩) hw0r).trans c1, (hW.cell (p := ⟨b, j, none⟩) hbr).trans c0⟩)
      go_region_held3 (fun W : World => W.cell? ⟨w0.heap.size, 2, none⟩ = some (.slice (some ⟨b, 0, none⟩) n c) ∧ W.cell? ⟨b, j, none⟩ = some (.int .i64 y)) (first | (go_keep; done) | (exact HS5.out))
        ((refine wp_app_int (.tmp 13) (.tmp 24) rfl rfl rfl (l := L) (u := y) (base := w.heap.size) (World.ownsRow.alloc (by first | exact HR.out | exact row_below HR.out ((Below.refl _ _).drew)) _) (by first | exact Rd.lit _ 1 #[.int .i64 y] 3 1 1 rfl) hL9 (by have := HB.out.size; simp; omega) ?_; intro A3 c3 w5 hR5 hg5; have HS5 : Hid (w5.cell? ⟨w0.heap.size, 2, none⟩ = some (.slice (some ⟨b, 0, none⟩) n c) ∧ w5.cell? ⟨b, j, none⟩ = some (.int .i64 y)) := Lib.hid ⟨(World.cell?_of_block ((hg5.block w0.heap.size (by have := heap_lt (heap_below HB.out HF0.out); simp; omega) (fun e => by have h1 := hlt5 _ e.symm; have h2 := HSW.out; omega)).trans (by simp; exact Below.heap_alloc _ _ _ hw0r))).trans c1, (World.cell?_of_block ((hg5.block b (by simp; omega) (fun e => by have h1 := hlt5 _ e.symm; have h2 := HBS.out; omega)).trans (by simp; exact Below.heap_alloc _ _ _ hbr))).trans c0⟩))
      all_goals
        have HB5 : Hid (Below w.heap.size w w5) := Lib.hid (Below.grown (by first | exact HB.out.drew.alloc (by have := HB.out.size; simp; omega) _ | exact HB.out.alloc HB.out.size _) hg5 (by have := HB.out.size; simp; omega) (fun k e => (hlt5 k e).1))
        have HR5 : Hid (IRow w5 w.heap.size (.slice A3 (L ++ [y]).length c3) (L ++ [y])) := Lib.hid (by rw [List.length_append]; exact hR5)
        clear hR5 hg5 HS5 HS c0 c1
        go_wp2_with fail
        go_roundw
        case rel =>
          first
          | exact ⟨k + 1, L ++ [y], A3, c3, by simp, by go_num, by omega, HB5, HR5, Lib.hid HTA.out.symm⟩
          | exact ⟨_, _, _, ⟨k + 1, L ++ [y], A3, c3, by rw [List.length_append]; rfl, rfl, by omega, HR5, Lib.hid HTA.out.symm⟩, rfl, rfl, by go_num⟩
        case measure => simp [intOf]; omega
    · have f0 : decide (k < l.length) = false := decide_eq_false hlt
      have HE2 : Hid (L = rotL l) := Lib.hid (by rw [HFL.out, List.take_of_length_le (by rw [rotL_len]; omega)])
      have m0 := heap_below HB.out HF0.out
      have m1 := heap_below HB.out HF1.out
      have c0 : wr.cell? ⟨w0.heap.size, 0, none⟩ = some (.int .i64 qn) := cell_heap m0 0
      have c1 : wr.cell? ⟨w0.heap.size, 1, none⟩ = some (.int .i64 0) := cell_heap m0 1
      have c2' : wr.cell? ⟨w0.heap.size, 2, none⟩ = some (.slice A l.length c) := cell_heap m0 2
      have q0 : wr.cell? ⟨w0.heap.size + 1, 0, none⟩ = some (.int .i64 0) := cell_heap m1 0
      have q1 : wr.cell? ⟨w0.heap.size + 1, 1, none⟩ = some (.int .i64 0) := cell_heap m1 1
      have q2 : wr.cell? ⟨w0.heap.size + 1, 2, none⟩ = some (.slice none 0 0) := cell_heap m1 2
      have z0 : wr.frozen? ⟨w0.heap.size + 1, 0, none⟩ = false := frozen_heap m1 0
      have z1 : wr.frozen? ⟨w0.heap.size + 1, 1, none⟩ = false := frozen_heap m1 1
      have z2 : wr.frozen? ⟨w0.heap.size + 1, 2, none⟩ = false := frozen_heap m1 2
      have z3 : wr.frozen? ⟨w0.heap.size, 2, none⟩ = false := frozen_heap m0 2
      have hg1 : w0.heap.size + 1 < wr.heap.size := heap_lt m1
      have hg0 : w0.heap.size < wr.heap.size := heap_lt m0
      have HX : Hid (w0.heap.size + 1 < w.heap.size ∧ base ≤ w.heap.size) := Lib.hid ⟨heap_lt HF1.out, Nat.le_trans HBA.out HBW.out.size⟩
      have HBR := Lib.hid (b_then HBW.out HB.out)
      obtain ⟨m, hm⟩ : ∃ m, m = l.length := ⟨_, rfl⟩
      rw [← hm] at hlt hle hl f0 c2' ⊢
      clear hm m0 m1
      go_wp2_with fail
      refine bodyPost_ret (by simp [results, Try.results20, go_sem, q0, q1, q2, hg1, hg0, Nat.ne_of_lt hg1]; try rfl) rfl ?_
      refine ⟨_, rfl, by have q3 := HBR.out; go_grown, ?_⟩
      rw [← HE2.out]
      exact row_mono (irow_far (irow_far (irow_far (irow_far HR.out (by have := HX.out; show w0.heap.size < _; omega) _) HX.out.1 _) HX.out.1 _) HX.out.1 _) HX.out.2
/-- What a tick does to the document's queue. -/
theorem rTick_any (h : IRow w0 base v l) (hb : base ≤ w0.heap.size) (hl : l.length ≤ 900) (h0 : 0 ≤ tk) (h1 : tk ≤ 1000) :
    Calls Try.prog 21 #[.agg #[.int .i64 qn, .int .i64 tk, v]] w0 fun e w' => ∃ v', e = .returned (.tuple #[.agg #[.int .i64 qn, .int .i64 (tickQ qn (tk, l)).1.1, v'], .bool (tickQ qn (tk, l)).2]) ∧ Below w0.heap.size w0 w' ∧ IRow w' base v' (tickQ qn (tk, l)).1.2 := by
  unfold tickQ
  obtain ⟨A, c, rfl⟩ := row_form h
  by_cases hn : l = []
  · subst hn
    have HR : Hid (∀ W, Below w0.heap.size w0 W → IRow W base (.slice A 0 c) []) := Lib.hid (fun W hW => row_below h hW)
    simp only [if_true, List.length_nil]
    clear h hb
    go_enter Try.func21, Try.ntmps21
    go_wp2
    go_returns
    exact ⟨_, rfl, by go_grown, HR.out _ (by go_grown)⟩
  · have hlp : 0 < l.length := List.length_pos_iff.2 hn
    simp only [if_neg hn]
    have HRY : Hid (∀ W tk2, Below w0.heap.size w0 W → Calls Try.prog 20 #[.agg #[.int .i64 qn, .int .i64 tk2, .slice A l.length c]] W fun e w' => ∃ v', e = .returned (.agg #[.int .i64 qn, .int .i64 0, v']) ∧ Below W.heap.size W w' ∧ IRow w' base v' (rotL l)) := Lib.hid (fun W tk2 hW => rYield_any (row_below h hW) (Nat.le_trans hb hW.size) hl)
    have HR : Hid (∀ W, Below w0.heap.size w0 W → IRow W base (.slice A l.length c) l) := Lib.hid (fun W hW => row_below h hW)
    have s1 : IntKind.i64.wrap (tk + 1) = tk + 1 := by rw [IntKind.wrap_i64]; omega
    obtain ⟨n, hnn⟩ : ∃ n, n = l.length := ⟨_, rfl⟩
    rw [← hnn] at HRY HR hl hlp
    have g1 : ((n : Int) == 0) = false := by simp; omega
    by_cases hq : tk + 1 < qn
    · have d1 : decide (tk + 1 < qn) = true := decide_eq_true hq
      simp only [if_pos hq]
      rw [← hnn]
      have HH := Lib.hid h
      clear h hb hn hq hnn
      go_enter Try.func21, Try.ntmps21
      go_wp2
      go_returns
      exact ⟨_, rfl, by go_grown, HR.out _ (by go_grown)⟩
    · have d1 : decide (tk + 1 < qn) = false := decide_eq_false hq
      simp only [if_neg hq]
      rw [← hnn]
      clear h hb hn hq hnn
      go_enter Try.func21, Try.ntmps21
      go_wp2_with fail
      have hB0 : Below w0.heap.size w0 ((w0.alloc (.cells #[.int .i64 qn, .int .i64 (tk + 1), .slice A n c] 40)).alloc (.cells #[.int .i64 0, .int .i64 0, .slice none 0 0] 40)) := by go_grown
      have k1 := heap_new (w0.alloc (.cells #[.int .i64 qn, .int .i64 (tk + 1), .slice A n c] 40)) (.cells #[.int .i64 0, .int .i64 0, .slice none 0 0] 40)
      rw [World.size_alloc] at k1
      have HB0 := Lib.hid hB0
      have K1 := Lib.hid k1
      clear hB0 k1
      refine (HRY.out _ _ HB0.out).mono ?_
      rintro e w1 ⟨v', rfl, hb1, hr1⟩
      obtain ⟨A', c', rfl⟩ := row_form hr1
      have m1 := heap_below hb1 K1.out
      have q0 : w1.cell? ⟨w0.heap.size + 1, 0, none⟩ = some (.int .i64 0) := cell_heap m1 0
      have q1 : w1.cell? ⟨w0.heap.size + 1, 1, none⟩ = some (.int .i64 0) := cell_heap m1 1
      have q2 : w1.cell? ⟨w0.heap.size + 1, 2, none⟩ = some (.slice none 0 0) := cell_heap m1 2
      have z0 : w1.frozen? ⟨w0.heap.size + 1, 0, none⟩ = false := frozen_heap m1 0
      have z1 : w1.frozen? ⟨w0.heap.size + 1, 1, none⟩ = false := frozen_heap m1 1
      have z2 : w1.frozen? ⟨w0.heap.size + 1, 2, none⟩ = false := frozen_heap m1 2
      have hg1 : w0.heap.size + 1 < w1.heap.size := heap_lt m1
      have HB1 := Lib.hid (b_then HB0.out hb1)
      have HM1 := Lib.hid m1
      have HR1 := Lib.hid hr1
      clear hb1 m1 hr1
      go_wp2_with fail
      refine bodyPost_ret (by simp [results, Try.results21, go_sem, q0, q1, q2, hg1, Nat.ne_of_lt hg1]; try rfl) rfl ?_
      refine ⟨_, rfl, by have q3 := HB1.out; go_grown, ?_⟩
      have hne : ∀ b, (Value.slice A' (rotL l).length c').ownBlock = some b → b ≠ w0.heap.size + 1 := by
        rintro b e rfl
        rcases HR1.out.2 with ⟨h1, _⟩ | ⟨g, cp, cur, h1, _, hg, _⟩
        · rw [h1] at e; cases e
        · rw [h1] at e
          have : g = w0.heap.size + 1 := by simpa [Value.ownBlock] using e
          subst this
          rw [HM1.out] at hg
          simp only [Option.some.injEq, Obj.cells.injEq] at hg
          exact absurd hg.2.1 (by decide)
      have keep : ∀ (W : World) (o : Nat) (u : Value), IRow W base (.slice A' (rotL l).length c') (rotL l) → IRow (W.setCell ⟨w0.heap.size + 1, o, none⟩ u) base (.slice A' (rotL l).length c') (rotL l) := by
        intro W o u hr
        refine ⟨hr.1, ?_⟩
        rcases hr.2 with h1 | ⟨b, cap, cur, h1, h2, hg, h3⟩
        · exact .inl h1
        · refine .inr ⟨b, cap, cur, h1, h2, ?_, h3⟩
          rw [Below.heap_setCell W _ u b (hne b (by rw [h1]; rfl))]
          exact hg
      exact keep _ _ _ (keep _ _ _ (keep _ _ _ HR1.out))
end
end Go.Proofs.Ytilibeajejhpbaa
