/- The document's queue (layer 16): Remove, Yield, Tick, for every list. No condition but bounds. -/
import Derived.Test.YtilibeajejhpbaaSchP
import Derived.Deep.RegionHeld3
import Derived.Deep.DrawnRows
namespace Go.Proofs.Ytilibeajejhpbaa
open Go.ChangeShapes Go.WideShapes Go.ChangeAt Go.RowKit
set_option linter.unusedVariables false
set_option linter.unusedSimpArgs false
attribute [local go_sem ↓] Go.wp_at_zero Go.wp_at_succ
def outL (l : List Int) (x : Int) : List Int := l.filter fun y => y != x
theorem outL_erase {l : List Int} (h : l.Nodup) (x : Int) : outL l x = l.erase x := by
  unfold outL
  rw [List.Nodup.erase_eq_filter h]
theorem rotL_at (l : List Int) (k : Nat) (hk : k < l.length) : (rotL l)[k]'(by rw [rotL_len]; exact hk) = l[(k + 1) % l.length]'(Nat.mod_lt _ (by omega)) := by
  cases l with
  | nil => simp at hk
  | cons x r =>
    simp only [rotL]
    simp only [List.length_cons] at hk
    by_cases h : k < r.length
    · rw [List.getElem_append_left h]
      simp only [List.length_cons, Nat.mod_eq_of_lt (show k + 1 < r.length + 1 by omega), List.getElem_cons_succ]
    · have : k = r.length := by omega
      subst this
      rw [List.getElem_append_right (Nat.le_refl _)]
      simp
section
variable {w : World} {base : Nat} {qn tk : Int} {v : Value} {l : List Int}
theorem rRem_none (h : IRow w base v l) (hl : l.length ≤ 900) (x : Int) (hx : x ∉ l) :
    Calls Try.prog 19 #[.agg #[.int .i64 qn, .int .i64 tk, v], .int .i64 x] w fun e w' => e = .returned (.tuple #[.agg #[.int .i64 qn, .int .i64 tk, v], .int .i64 5]) ∧ Below w.heap.size w w' := by
  obtain ⟨A, c, rfl⟩ := row_form h
  obtain ⟨n, hn⟩ : ∃ n, n = l.length := ⟨_, rfl⟩
  rw [← hn] at h hl ⊢
  have HHA : Hid (∀ W, Below w.heap.size w W → Calls Try.prog 26 #[.agg #[.int .i64 qn, .int .i64 tk, .slice A n c], .int .i64 x] W fun e w' => e = .returned (.bool false) ∧ Below W.heap.size W w') := Lib.hid (fun W hW => by have := rHas_any (qn := qn) (tk := tk) (row_below (hn ▸ h) hW) (by omega) x; rwa [← hn, show decide (x ∈ l) = false from decide_eq_false hx] at this)
  have HB0 : Hid (Below w.heap.size w ((w.alloc (.cells #[.int .i64 qn, .int .i64 tk, .slice A n c] 40)).alloc (.cells #[.int .i64 0, .int .i64 0, .slice none 0 0] 40))) := Lib.hid (by go_grown)
  have k0 := heap_old _ (.cells #[.int .i64 0, .int .i64 0, .slice none 0 0] 40) _ (heap_new w (.cells #[.int .i64 qn, .int .i64 tk, .slice A n c] 40))
  have k1 := heap_new (w.alloc (.cells #[.int .i64 qn, .int .i64 tk, .slice A n c] 40)) (.cells #[.int .i64 0, .int .i64 0, .slice none 0 0] 40)
  rw [World.size_alloc] at k1
  have K0 := Lib.hid k0
  have K1 := Lib.hid k1
  clear k0 k1 h hx hn hl
  go_enter Try.func19, Try.ntmps19
  go_wp2_with fail
  refine (HHA.out _ HB0.out).mono ?_
  rintro e w1 ⟨rfl, hb1⟩
  have m0 := heap_below hb1 K0.out
  have m1 := heap_below hb1 K1.out
  have c0 : w1.cell? ⟨w.heap.size, 0, none⟩ = some (.int .i64 qn) := cell_heap m0 0
  have c1 : w1.cell? ⟨w.heap.size, 1, none⟩ = some (.int .i64 tk) := cell_heap m0 1
  have c2 : w1.cell? ⟨w.heap.size, 2, none⟩ = some (.slice A n c) := cell_heap m0 2
  have q0 : w1.cell? ⟨w.heap.size + 1, 0, none⟩ = some (.int .i64 0) := cell_heap m1 0
  have q1 : w1.cell? ⟨w.heap.size + 1, 1, none⟩ = some (.int .i64 0) := cell_heap m1 1
  have q2 : w1.cell? ⟨w.heap.size + 1, 2, none⟩ = some (.slice none 0 0) := cell_heap m1 2
  have z0 : w1.frozen? ⟨w.heap.size + 1, 0, none⟩ = false := frozen_heap m1 0
  have z1 : w1.frozen? ⟨w.heap.size + 1, 1, none⟩ = false := frozen_heap m1 1
  have z2 : w1.frozen? ⟨w.heap.size + 1, 2, none⟩ = false := frozen_heap m1 2
  have hgw : w.heap.size + 1 < w1.heap.size := heap_lt m1
  have HB1 := Lib.hid (b_then HB0.out hb1)
  clear m0 m1 hb1
  go_wp2_with fail
  refine bodyPost_ret (by simp [results, Try.results19, go_sem, q0, q1, q2, hgw, Nat.ne_of_lt hgw]; try rfl) rfl ?_
  exact ⟨rfl, by have q1 := HB1.out; go_grown⟩
set_option maxHeartbeats 4000000 in
theorem rRem_some (h : IRow w base v l) (hb : base ≤ w.heap.size) (hl : l.length ≤ 900) (x : Int) (hx : x ∈ l) :
    Calls Try.prog 19 #[.agg #[.int .i64 qn, .int .i64 tk, v], .int .i64 x] w fun e w' => ∃ v', e = .returned (.tuple #[.agg #[.int .i64 qn, .int .i64 (remQ (tk, l) x).1, v'], .int .i64 0]) ∧ Below w.heap.size w w' ∧ IRow w' base v' (outL l x) := by
  obtain ⟨A, c, rfl⟩ := row_form h
  obtain ⟨T, hT⟩ : ∃ T, T = (remQ (tk, l) x).1 := ⟨_, rfl⟩
  rw [← hT]
  have hn0 : 0 < l.length := List.length_pos_of_mem hx
  obtain ⟨y, hy⟩ : ∃ y : Int, l[0] = y := ⟨_, rfl⟩
  have hT2 : T = if y = x then 0 else tk := by
    rw [hT, ← hy]
    unfold remQ
    simp only
    rw [if_pos hx]
    simp only
    have : l.head? = some l[0] := by cases l with | nil => simp at hn0 | cons a r => rfl
    rw [this]
    by_cases h1 : l[0] = x
    · rw [if_pos h1, if_pos (by rw [h1])]
    · rw [if_neg h1, if_neg (fun h => h1 (Option.some.inj h))]
  have HHA : Hid (∀ W, Below w.heap.size w W → Calls Try.prog 26 #[.agg #[.int .i64 qn, .int .i64 tk, .slice A l.length c], .int .i64 x] W fun e w' => e = .returned (.bool true) ∧ Below W.heap.size W w') := Lib.hid (fun W hW => by have := rHas_any (qn := qn) (tk := tk) (row_below h hW) (by omega) x; rwa [show decide (x ∈ l) = true from decide_eq_true hx] at this)
  have HB0 : Hid (Below w.heap.size w ((w.alloc (.cells #[.int .i64 qn, .int .i64 tk, .slice A l.length c] 40)).alloc (.cells #[.int .i64 0, .int .i64 0, .slice none 0 0] 40))) := Lib.hid (by go_grown)
  have k0 := heap_old _ (.cells #[.int .i64 0, .int .i64 0, .slice none 0 0] 40) _ (heap_new w (.cells #[.int .i64 qn, .int .i64 tk, .slice A l.length c] 40))
  have k1 := heap_new (w.alloc (.cells #[.int .i64 qn, .int .i64 tk, .slice A l.length c] 40)) (.cells #[.int .i64 0, .int .i64 0, .slice none 0 0] 40)
  rw [World.size_alloc] at k1
  have K0 := Lib.hid k0
  have K1 := Lib.hid k1
  have H := Lib.hid h
  have HBA := Lib.hid hb
  have HN0 := Lib.hid hn0
  have HT2 := Lib.hid hT2
  have HY := Lib.hid hy
  clear k0 k1 h hx hT hT2 hb hy
  go_enter Try.func19, Try.ntmps19
  go_wp2_with fail
  refine (HHA.out _ HB0.out).mono ?_
  rintro e w1 ⟨rfl, hb1⟩
  have m0 := heap_below hb1 K0.out
  have m1 := heap_below hb1 K1.out
  have hB1 := b_then HB0.out hb1
  -- the head
  obtain ⟨b, cap, hv, hbb, hbw, hc0⟩ := H.out.cell 0 hn0
  obtain ⟨rfl, _, rfl⟩ : A = some ⟨b, 0, none⟩ ∧ l.length = l.length ∧ c = cap := by simpa using hv
  have hd0 : w1.cell? ⟨b, 0, none⟩ = some (.int .i64 y) := (hB1.cell (p := ⟨b, 0, none⟩) hbw).trans (hc0.trans (by rw [HY.out]))
  have c1 : w1.cell? ⟨w.heap.size, 1, none⟩ = some (.int .i64 tk) := cell_heap m0 1
  have c2 : w1.cell? ⟨w.heap.size, 2, none⟩ = some (.slice (some ⟨b, 0, none⟩) l.length c) := cell_heap m0 2
  have z1 : w1.frozen? ⟨w.heap.size, 1, none⟩ = false := frozen_heap m0 1
  have hgw : w.heap.size < w1.heap.size := heap_lt m0
  have hl0 : (0 : Int) < (l.length : Int) := by omega
  have hbw1 : b < w1.heap.size := Nat.lt_of_lt_of_le hbw hB1.size
  have HM0 := Lib.hid m0
  have HM1 := Lib.hid m1
  have HB1 := Lib.hid hB1
  clear m0 m1 hb1 hB1 hv hbb hc0
  obtain ⟨W1, hW1⟩ : ∃ W : World, W = if y = x then w1.setCell ⟨w.heap.size, 1, none⟩ (.int .i64 0) else w1 := ⟨_, rfl⟩
  have hf0 : W1.heap[w.heap.size]? = some (.cells #[.int .i64 qn, .int .i64 T, .slice (some ⟨b, 0, none⟩) l.length c] 40 (0, 0)) := by
    rw [hW1, HT2.out]
    by_cases e : y = x
    · rw [if_pos e, if_pos e]; exact heap_set HM0.out 1 _
    · rw [if_neg e, if_neg e]; exact HM0.out
  have hf1 : W1.heap[w.heap.size + 1]? = some (.cells #[.int .i64 0, .int .i64 0, .slice none 0 0] 40 (0, 0)) := by
    rw [hW1]
    by_cases e : y = x
    · rw [if_pos e]; exact heap_far HM1.out (by simp) _
    · rw [if_neg e]; exact HM1.out
  have hbW : Below w.heap.size w W1 := by
    rw [hW1]
    by_cases e : y = x
    · rw [if_pos e]; have q1 := HB1.out; go_grown
    · rw [if_neg e]; exact HB1.out
  have HR1 : Hid (IRow W1 base (.slice (some ⟨b, 0, none⟩) l.length c) l) := Lib.hid (row_below H.out hbW)
  have HF0 := Lib.hid hf0
  have HF1 := Lib.hid hf1
  have HBW := Lib.hid hbW
  have HW1 := Lib.hid hW1
  have hl0w := World.ownsRow_lit (base := W1.heap.size) (e := 3) (size := 1) W1 #[] 0 (Nat.le_refl _) (by simp [maxLen]) (by simp)
  have HL0 : Hid (IRow (W1.alloc (.cells #[] 3)) W1.heap.size (.slice (some ⟨W1.heap.size, 0, none⟩) 0 0) []) := Lib.hid hl0w
  have HSW : Hid (W1.heap.size = w1.heap.size) := Lib.hid (by
    rw [hW1]
    by_cases e : y = x
    · rw [if_pos e]; simp
    · rw [if_neg e])
  clear hf0 hf1 hbW hW1 hl0w
  have hyx : y = x ∨ ¬ y = x := Classical.em _
  rcases hyx with e | e
  all_goals
    first
    | (have e1 : (y == x) = true := by simp [e]
       have hWW := HW1.out
       rw [if_pos e] at hWW
       have HE := Lib.hid e
       have HWW := Lib.hid hWW
       clear e hWW
       go_wp2_with fail)
    | (have e1 : (y == x) = false := by simp [e]
       have hWW := HW1.out
       rw [if_neg e] at hWW
       have HE := Lib.hid e
       have HWW := Lib.hid hWW
       clear e hWW
       go_wp2_with fail)
    rw [← HSW.out, ← HWW.out]
    clear c1 c2 hd0 z1 e1
    go_loopw [6, 25] (fun o i wr => ∃ (k : Nat) (L : List Int) (A2 : Option Addr) (c2 : Nat), o = .slice A2 L.length c2 ∧ i = .int .i64 k ∧ k ≤ l.length ∧ L.length ≤ k ∧ Hid (Below W1.heap.size W1 wr) ∧ Hid (IRow wr W1.heap.size (.slice A2 L.length c2) L) ∧ Hid (L ++ outL (l.drop k) x = outL l x)) (fun _ i _ => l.length - (intOf i).toNat)
    case atStart => exact ⟨0, [], _, _, rfl, rfl, by omega, by simp, Lib.hid ((Below.refl _ _).alloc (Nat.le_refl _) _), HL0, Lib.hid rfl⟩
    case round =>
      obtain ⟨k, L, A2, c2, rfl, rfl, hle, hlk, HB, HR, HFL⟩ := hrel
      have hsz := HB.out.size
      by_cases hlt : k < l.length
      · have f0 : decide (k < l.length) = true := decide_eq_true hlt
        have f1 : (k : Int) < (l.length : Int) := by omega
        obtain ⟨b', cap', hv, hbb, hbw', hc⟩ := HR1.out.cell k hlt
        obtain rfl : b = b' := by injection hv with h1 h2 h3; simpa using h1
        have c0 := (HB.out.cell (p := ⟨b, k, none⟩) hbw').trans hc
        have hd : outL (l.drop k) x = if l[k] != x then l[k] :: outL (l.drop (k + 1)) x else outL (l.drop (k + 1)) x := by
          rw [List.drop_eq_getElem_cons hlt]
          unfold outL
          rw [List.filter_cons]
        generalize l[k] = z at c0 hd
        obtain ⟨A3, c3, w3, ha, hr3, hb3⟩ := app_laid W1 HR.out HB.out z (by omega)
        have HA := Lib.hid ha
        have HR3 := Lib.hid hr3
        have HB3 := Lib.hid hb3
        have HD := Lib.hid hd
        obtain ⟨m, hm⟩ : ∃ m, m = l.length := ⟨_, rfl⟩
        rw [← hm] at hlt hle hl f0 f1 ⊢
        clear hm hv hbb hc ha hr3 hb3 hd
        rcases Bool.eq_false_or_eq_true (z != x) with t | t
        · go_wp2_with (at_builtin; refine wpList_app rfl (.tmp 32) (.tmp 34) 31 rfl rfl rfl HA.out ?_)
          go_roundw
          case rel =>
            first
            | exact ⟨k + 1, L ++ [z], A3, c3, by simp, by go_num, by omega, by simp; omega, HB3, Lib.hid (by rw [List.length_append]; exact HR3.out), Lib.hid (by rw [← HFL.out, HD.out, if_pos t]; simp)⟩
            | exact ⟨_, _, _, ⟨k + 1, L ++ [z], A3, c3, by rw [List.length_append]; rfl, rfl, by omega, by simp; omega, Lib.hid (by rw [List.length_append]; exact HR3.out), Lib.hid (by rw [← HFL.out, HD.out, if_pos t]; simp)⟩, rfl, rfl, by go_num⟩
          case measure => simp [intOf]; omega
        · go_wp2_with fail
          go_roundw
          case rel => exact ⟨k + 1, L, A2, _, rfl, by go_num, by omega, by omega, HB, HR, Lib.hid (by rw [← HFL.out, HD.out, if_neg (by simp [t])])⟩
          case measure => simp [intOf]; omega
      · have f0 : decide (k < l.length) = false := decide_eq_false hlt
        have HE2 : Hid (L = outL l x) := Lib.hid (by rw [← HFL.out, List.drop_eq_nil_of_le (by omega)]; simp [outL])
        have m0 := heap_below HB.out HF0.out
        have m1 := heap_below HB.out HF1.out
        have c0 : wr.cell? ⟨w.heap.size, 0, none⟩ = some (.int .i64 qn) := cell_heap m0 0
        have c1 : wr.cell? ⟨w.heap.size, 1, none⟩ = some (.int .i64 T) := cell_heap m0 1
        have c2' : wr.cell? ⟨w.heap.size, 2, none⟩ = some (.slice (some ⟨b, 0, none⟩) l.length c) := cell_heap m0 2
        have q0 : wr.cell? ⟨w.heap.size + 1, 0, none⟩ = some (.int .i64 0) := cell_heap m1 0
        have q1 : wr.cell? ⟨w.heap.size + 1, 1, none⟩ = some (.int .i64 0) := cell_heap m1 1
        have q2 : wr.cell? ⟨w.heap.size + 1, 2, none⟩ = some (.slice none 0 0) := cell_heap m1 2
        have z0 : wr.frozen? ⟨w.heap.size + 1, 0, none⟩ = false := frozen_heap m1 0
        have z1 : wr.frozen? ⟨w.heap.size + 1, 1, none⟩ = false := frozen_heap m1 1
        have z2 : wr.frozen? ⟨w.heap.size + 1, 2, none⟩ = false := frozen_heap m1 2
        have z3 : wr.frozen? ⟨w.heap.size, 2, none⟩ = false := frozen_heap m0 2
        have hg1 : w.heap.size + 1 < wr.heap.size := heap_lt m1
        have hg0 : w.heap.size < wr.heap.size := heap_lt m0
        have HX : Hid (w.heap.size + 1 < W1.heap.size ∧ base ≤ W1.heap.size) := Lib.hid ⟨heap_lt HF1.out, Nat.le_trans HBA.out HBW.out.size⟩
        have HBR := Lib.hid (b_then HBW.out HB.out)
        obtain ⟨m, hm⟩ : ∃ m, m = l.length := ⟨_, rfl⟩
        rw [← hm] at hlt hle hl f0 c2' ⊢
        clear hm m0 m1
        go_wp2_with fail
        refine bodyPost_ret (by simp [results, Try.results19, go_sem, q0, q1, q2, hg1, hg0, Nat.ne_of_lt hg1]; try rfl) rfl ?_
        refine ⟨_, rfl, by have q3 := HBR.out; go_grown, ?_⟩
        rw [← HE2.out]
        exact row_mono (irow_far (irow_far (irow_far (irow_far HR.out (by have := HX.out; show w.heap.size < _; omega) _) HX.out.1 _) HX.out.1 _) HX.out.1 _) HX.out.2
end
end Go.Proofs.Ytilibeajejhpbaa
