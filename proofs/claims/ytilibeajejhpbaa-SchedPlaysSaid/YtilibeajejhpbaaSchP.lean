/- The document's queue (layer 16): Has, Add, Remove, Yield, Tick, for every list. No condition but bounds. -/
import Derived.Test.YtilibeajejhpbaaSchR
import Derived.Test.YtilibeajejhpbaaSchS
import Derived.Test.YtilibeajejhpbaaSchedGone
namespace Go.Proofs.Ytilibeajejhpbaa
open Go.ChangeShapes Go.WideShapes Go.ChangeAt Go.RowKit
set_option linter.unusedVariables false
set_option linter.unusedSimpArgs false
theorem irow_far {w : World} {B : Nat} {v : Value} {l : List Int} (h : IRow w B v l) {a : Addr} (ha : a.block < B) (u : Value) : IRow (w.setCell a u) B v l := by
  refine ⟨h.1, ?_⟩
  rcases h.2 with h1 | ⟨b, cap, cur, rfl, h2, hg, h3⟩
  · exact .inl h1
  · refine .inr ⟨b, cap, cur, rfl, h2, ?_, h3⟩
    rw [Below.heap_setCell w a u b (by omega)]
    exact hg
section
variable {w : World} {base : Nat} {qn tk : Int} {v : Value} {l : List Int}
set_option maxHeartbeats 1000000 in
theorem rHas_any (h : IRow w base v l) (hl : l.length ≤ 1000) (x : Int) :
    Calls Try.prog 26 #[.agg #[.int .i64 qn, .int .i64 tk, v], .int .i64 x] w fun e w' => e = .returned (.bool (decide (x ∈ l))) ∧ Below w.heap.size w w' := by
  obtain ⟨A, c, rfl⟩ := row_form h
  obtain ⟨W0, hW0⟩ : ∃ W, W = w.alloc (.cells #[.int .i64 qn, .int .i64 tk, .slice A l.length c] 40) := ⟨_, rfl⟩
  have hb0 : Below w.heap.size w W0 := by rw [hW0]; exact (Below.refl _ _).alloc (Nat.le_refl _) _
  have H : Hid (IRow W0 base (.slice A l.length c) l) := Lib.hid (row_below h hb0)
  have HB0 := Lib.hid hb0
  have HW0 := Lib.hid hW0
  clear h hb0 hW0
  go_enter Try.func26, Try.ntmps26
  go_wp2_with fail
  rw [← HW0.out]
  go_loopw [10] (fun i wr => ∃ k : Nat, i = .int .i64 k ∧ k ≤ l.length ∧ Hid (Below W0.heap.size W0 wr) ∧ Hid (decide (x ∈ l) = decide (x ∈ l.drop k))) (fun i _ => l.length - (intOf i).toNat)
  case atStart => exact ⟨0, rfl, by omega, Lib.hid (Below.refl _ _), Lib.hid rfl⟩
  case round =>
    obtain ⟨k, rfl, hle, HB, HF⟩ := hrel
    by_cases hlt : k < l.length
    · have f0 : decide (k < l.length) = true := decide_eq_true hlt
      have f1 : (k : Int) < (l.length : Int) := by omega
      obtain ⟨b, cap, hv, hbb, hbw, hc⟩ := H.out.cell k hlt
      obtain ⟨rfl, _, rfl⟩ : A = some ⟨b, 0, none⟩ ∧ l.length = l.length ∧ c = cap := by simpa using hv
      have c0 := (HB.out.cell (p := ⟨b, k, none⟩) hbw).trans hc
      have hd : decide (x ∈ l.drop k) = (decide (l[k] = x) || decide (x ∈ l.drop (k + 1))) := by
        rw [List.drop_eq_getElem_cons hlt]
        generalize l[k] = y
        generalize l.drop (k + 1) = r
        by_cases h1 : y = x
        · simp [h1]
        · have : ¬ x = y := fun h => h1 h.symm
          simp [h1, this]
      generalize l[k] = y at c0 hd
      obtain ⟨n, hn⟩ : ∃ n, n = l.length := ⟨_, rfl⟩
      rw [← hn] at hlt hle hl f0 f1 ⊢
      have HD := Lib.hid hd
      clear hn hv hbb hc hd
      by_cases e : y = x
      · have e1 : (y == x) = true := by simp [e]
        have HE : Hid (decide (x ∈ l) = true) := Lib.hid (by rw [HF.out, HD.out]; simp [e])
        clear e
        go_wp2
        go_returns
        exact ⟨ret_v (by rw [HE.out]; rfl), b_then HB0.out HB.out⟩
      · have e1 : (y == x) = false := by simp [e]
        have HE := Lib.hid e
        clear e
        go_wp2
        go_roundw
        case rel => exact ⟨k + 1, by go_num, by omega, HB, Lib.hid (by rw [HF.out, HD.out, show decide (y = x) = false from decide_eq_false HE.out, Bool.false_or])⟩
        case measure => simp [intOf]; omega
    · have f0 : decide (k < l.length) = false := decide_eq_false hlt
      have HE : Hid (decide (x ∈ l) = false) := Lib.hid (by rw [HF.out, List.drop_eq_nil_of_le (by omega)]; simp)
      obtain ⟨n, hn⟩ : ∃ n, n = l.length := ⟨_, rfl⟩
      rw [← hn] at hlt hle hl f0 ⊢
      clear hn
      go_wp2
      go_returns
      exact ⟨ret_v (by rw [HE.out]; rfl), b_then HB0.out HB.out⟩
theorem app_laid (w0 : World) {W : World} {u : Value} {m : List Int} (hown : IRow W w0.heap.size u m) (hB : Below w0.heap.size w0 W) (k : Int) (hl : m.length ≤ 1000) :
    ∃ A c w', (Builtin.append_ #[31, 31] 31 #[u, .slice (some ⟨W.heap.size, 0, none⟩) 1 1]).run Try.prog (W.alloc (.cells #[.int .i64 k] 3)) = .ok (.slice A (m.length + 1) c) w' ∧ IRow w' w0.heap.size (.slice A (m.length + 1) c) (m ++ [k]) ∧ Below w0.heap.size w0 w' := by
  obtain ⟨i0, hi, hz0, hz1, hz2⟩ := info_parts info3
  obtain ⟨A, c, w', h1, h2, h3⟩ := app_one (P := Try.prog) w0 31 31 3 under31 hi hz0 hz1 hz2 rfl (by decide) hown hB #[.int .i64 k] rfl (by simp [Value.oneCell']) (by unfold maxLen; omega) (by omega)
  refine ⟨A, c, w', h1, ?_, h3⟩
  unfold IRow
  rw [List.length_append, ivs, List.map_append]
  exact h2
/-- A copy of the row behind a new empty one. -/
theorem copy_laid (h : IRow w base v l) (hl : l.length ≤ 1000) : ∃ A c w', (Builtin.append_ #[31, 31] 31 #[.slice (some ⟨w.heap.size, 0, none⟩) 0 0, v]).run Try.prog (w.alloc (.cells #[] 3)) = .ok (.slice A l.length c) w' ∧ IRow w' w.heap.size (.slice A l.length c) l ∧ Below w.heap.size w w' := by
  obtain ⟨i0, hi, hz0, hz1, hz2⟩ := info_parts info3
  have o0 := World.ownsRow_lit (base := w.heap.size) (e := 3) (size := 1) w #[] 0 (Nat.le_refl _) (by simp [maxLen]) (by simp)
  have B0 : Below w.heap.size w (w.alloc (.cells #[] 3)) := (Below.refl w.heap.size w).alloc (Nat.le_refl _) _
  have r0 : Rd (w.alloc (.cells #[] 3)) 1 v l.length (ivs l) := Rd.own (row_below h B0)
  obtain ⟨v1, w2, a1, o1, g1⟩ := run_app (P := Try.prog) w.heap.size 31 31 3 under31 hi hz0 hz1 hz2 rfl (by decide) o0 r0 (ivs_one l) (by simp [maxLen]; omega) (by omega) (by rw [World.size_alloc]; omega)
  rw [Nat.zero_add] at o1
  obtain ⟨A, c, rfl⟩ := row_form o1
  exact ⟨A, c, w2, a1, o1, Below.grown B0 g1 (by rw [World.size_alloc]; omega) (fun k e => by simp [Value.ownBlock] at e; omega)⟩
set_option maxHeartbeats 2000000 in
theorem rAdd_any (h : IRow w base v l) (hb : base ≤ w.heap.size) (hl : l.length ≤ 900) (x : Int) :
    Calls Try.prog 18 #[.agg #[.int .i64 qn, .int .i64 tk, v], .int .i64 x] w fun e w' => ∃ v', e = .returned (.tuple #[.agg #[.int .i64 qn, .int .i64 tk, v'], .int .i64 (addE l x)]) ∧ Below w.heap.size w w' ∧ IRow w' base v' (addQ l x) := by
  obtain ⟨A, c, rfl⟩ := row_form h
  obtain ⟨n, hn⟩ : ∃ n, n = l.length := ⟨_, rfl⟩
  have HN := Lib.hid hn
  rw [← hn] at h hl ⊢
  clear hn
  have HR : Hid (∀ W, Below w.heap.size w W → IRow W base (.slice A n c) l) := Lib.hid (fun W hW => row_below h hW)
  by_cases h0 : x < 0 ∨ 15 < x
  · have e1 : addE l x = 1 := by unfold addE; rw [if_pos h0]
    have e2 : addQ l x = l := by unfold addQ; rw [if_pos h0]
    rw [e1, e2]
    have H0 := Lib.hid h0
    clear h h0 e1 e2
    go_enter Try.func18, Try.ntmps18
    go_wp2_with fail
    all_goals first
      | (exfalso; have := H0.out; omega)
      | (go_returns; exact ⟨.slice A n c, rfl, by go_grown, HR.out _ (by go_grown)⟩)
  · have d1 : decide (x < 0) = false := decide_eq_false (by omega)
    have d2 : decide (15 < x) = false := decide_eq_false (by omega)
    have HHA : Hid (∀ W, Below w.heap.size w W → Calls Try.prog 26 #[.agg #[.int .i64 qn, .int .i64 tk, .slice A n c], .int .i64 x] W fun e w' => e = .returned (.bool (decide (x ∈ l))) ∧ Below W.heap.size W w') := Lib.hid (fun W hW => by have := rHas_any (qn := qn) (tk := tk) (row_below (HN.out ▸ h) hW) (by have := HN.out; omega) x; rwa [← HN.out] at this)
    by_cases hx : x ∈ l
    · have e1 : addE l x = 6 := by unfold addE; rw [if_neg h0, if_pos hx]
      have e2 : addQ l x = l := by unfold addQ; rw [if_neg h0, if_pos hx]
      rw [e1, e2]
      rw [show decide (x ∈ l) = true from decide_eq_true hx] at HHA
      clear h h0 hx e1 e2
      go_enter Try.func18, Try.ntmps18
      go_wp2_with fail
      have HB0 : Hid (Below w.heap.size w ((w.alloc (.cells #[.int .i64 qn, .int .i64 tk, .slice A n c] 40)).alloc (.cells #[.int .i64 0, .int .i64 0, .slice none 0 0] 40))) := Lib.hid (by go_grown)
      have k0 := heap_old _ (.cells #[.int .i64 0, .int .i64 0, .slice none 0 0] 40) _ (heap_new w (.cells #[.int .i64 qn, .int .i64 tk, .slice A n c] 40))
      have k1 := heap_new (w.alloc (.cells #[.int .i64 qn, .int .i64 tk, .slice A n c] 40)) (.cells #[.int .i64 0, .int .i64 0, .slice none 0 0] 40)
      rw [World.size_alloc] at k1
      have K0 := Lib.hid k0
      have K1 := Lib.hid k1
      clear k0 k1
      refine (HHA.out _ HB0.out).mono ?_
      rintro e w1 ⟨rfl, hb1⟩
      have m0 := heap_below hb1 K0.out
      have m1 := heap_below hb1 K1.out
      have c0 : w1.cell? ⟨w.heap.size, 0, none⟩ = some (.int .i64 qn) := cell_heap m0 0
      have c1 : w1.cell? ⟨w.heap.size, 1, none⟩ = some (.int .i64 tk) := cell_heap m0 1
      have c2 : w1.cell? ⟨w.heap.size, 2, none⟩ = some (.slice A n c) := cell_heap m0 2
      have q0 : w1.cell? ⟨w.heap.size + 1, 0, none⟩ = some (.int .i64 0) := cell_heap m1 0
      have q1 : w1.cell? ⟨w.heap.size + 1, 1, none⟩ = some (.int .i64 0) := cell_heap m1 1
      have q2 : w1.cell? ⟨w.heap.size + 1, 2, none⟩ = some (.slice none 0 0) := cell_heap m1 2
      have z0 : w1.frozen? ⟨w.heap.size + 1, 0, none⟩ = false := frozen_heap m1 0
      have z1 : w1.frozen? ⟨w.heap.size + 1, 1, none⟩ = false := frozen_heap m1 1
      have z2 : w1.frozen? ⟨w.heap.size + 1, 2, none⟩ = false := frozen_heap m1 2
      have hgw : w.heap.size + 1 < w1.heap.size := heap_lt m1
      have HB1 := Lib.hid (b_then HB0.out hb1)
      clear m0 m1 hb1
      go_wp2_with fail
      refine bodyPost_ret (by simp [results, Try.results18, go_sem, q0, q1, q2, hgw, Nat.ne_of_lt hgw]; try rfl) rfl ?_
      have hbf : Below w.heap.size w (((w1.setCell ⟨w.heap.size + 1, 0, none⟩ (.int .i64 qn)).setCell ⟨w.heap.size + 1, 1, none⟩ (.int .i64 tk)).setCell ⟨w.heap.size + 1, 2, none⟩ (.slice A n c)) := by have q1 := HB1.out; go_grown
      exact ⟨.slice A n c, rfl, hbf, HR.out _ hbf⟩
    · have e1 : addE l x = 0 := by unfold addE; rw [if_neg h0, if_neg hx]
      have e2 : addQ l x = l ++ [x] := by unfold addQ; rw [if_neg h0, if_neg hx]
      rw [e1, e2]
      rw [show decide (x ∈ l) = false from decide_eq_false hx] at HHA
      clear h h0 hx e1 e2
      go_enter Try.func18, Try.ntmps18
      go_wp2_with fail
      have HB0 : Hid (Below w.heap.size w ((w.alloc (.cells #[.int .i64 qn, .int .i64 tk, .slice A n c] 40)).alloc (.cells #[.int .i64 0, .int .i64 0, .slice none 0 0] 40))) := Lib.hid (by go_grown)
      have k0 := heap_old _ (.cells #[.int .i64 0, .int .i64 0, .slice none 0 0] 40) _ (heap_new w (.cells #[.int .i64 qn, .int .i64 tk, .slice A n c] 40))
      have k1 := heap_new (w.alloc (.cells #[.int .i64 qn, .int .i64 tk, .slice A n c] 40)) (.cells #[.int .i64 0, .int .i64 0, .slice none 0 0] 40)
      rw [World.size_alloc] at k1
      have K0 := Lib.hid k0
      have K1 := Lib.hid k1
      clear k0 k1
      refine (HHA.out _ HB0.out).mono ?_
      rintro e w1 ⟨rfl, hb1⟩
      have hB1 := b_then HB0.out hb1
      obtain ⟨A2, c2, w2, a2, o2, b2⟩ := copy_laid (HR.out _ hB1) (by have := HN.out; omega)
      obtain ⟨A3, c3, w3, a3, o3, b3⟩ := app_laid w1 o2 b2 x (by have := HN.out; omega)
      rw [← HN.out] at a2 a3 o3
      have m0 := heap_below hb1 K0.out
      have m1 := heap_below hb1 K1.out
      have c0 : w1.cell? ⟨w.heap.size, 2, none⟩ = some (.slice A n c) := cell_heap m0 2
      have m03 := heap_below b3 m0
      have m13 := heap_below b3 m1
      have f2 : w2.heap[w.heap.size]? = _ := heap_below b2 m0
      have c4 : w2.cell? ⟨w.heap.size, 2, none⟩ = some (.slice A n c) := cell_heap f2 2
      have d0 : w3.cell? ⟨w.heap.size, 0, none⟩ = some (.int .i64 qn) := cell_heap m03 0
      have d1 : w3.cell? ⟨w.heap.size, 1, none⟩ = some (.int .i64 tk) := cell_heap m03 1
      have d2 : w3.cell? ⟨w.heap.size, 2, none⟩ = some (.slice A n c) := cell_heap m03 2
      have q0 : w3.cell? ⟨w.heap.size + 1, 0, none⟩ = some (.int .i64 0) := cell_heap m13 0
      have q1 : w3.cell? ⟨w.heap.size + 1, 1, none⟩ = some (.int .i64 0) := cell_heap m13 1
      have q2 : w3.cell? ⟨w.heap.size + 1, 2, none⟩ = some (.slice none 0 0) := cell_heap m13 2
      have z0 : w3.frozen? ⟨w.heap.size + 1, 0, none⟩ = false := frozen_heap m13 0
      have z1 : w3.frozen? ⟨w.heap.size + 1, 1, none⟩ = false := frozen_heap m13 1
      have z2 : w3.frozen? ⟨w.heap.size + 1, 2, none⟩ = false := frozen_heap m13 2
      have z3 : w3.frozen? ⟨w.heap.size, 2, none⟩ = false := frozen_heap m03 2
      have hgw : w.heap.size + 1 < w3.heap.size := heap_lt m13
      have hgw0 : w.heap.size < w3.heap.size := by omega
      have hgw1 : w.heap.size < w1.heap.size := heap_lt m0
      have hgw2 : w.heap.size < w2.heap.size := heap_lt f2
      have HB3 := Lib.hid (b_then hB1 b3)
      have HO3 := Lib.hid o3
      have HA2 := Lib.hid a2
      have HA3 := Lib.hid a3
      have HSZ := Lib.hid (show base ≤ w1.heap.size from Nat.le_trans hb hB1.size)
      have HWW : Hid (w.heap.size + 1 < w1.heap.size) := Lib.hid (heap_lt m1)
      clear m0 m1 hb1 hB1 a2 o2 b2 a3 o3 b3 m03 m13 f2 hb
      go_wp2_with (at_builtin; first | refine wpList_app rfl (.tmp 17) (.tmp 19) 31 rfl rfl rfl HA2.out ?_ | refine wpList_app rfl (.tmp 20) (.tmp 22) 31 rfl rfl rfl HA3.out ?_)
      refine bodyPost_ret (by simp [results, Try.results18, go_sem, q0, q1, q2, hgw, hgw0, Nat.ne_of_lt hgw]; try rfl) rfl ?_
      have hq := HSZ.out
      have hs3 := HB3.out.size
      refine ⟨_, rfl, ?_, row_mono (irow_far (irow_far (irow_far (irow_far HO3.out hgw1 _) ?_ _) ?_ _) ?_ _) hq⟩
      · have q1 := HB3.out
        go_grown
      all_goals (have := HWW.out; exact this)
end
end Go.Proofs.Ytilibeajejhpbaa
