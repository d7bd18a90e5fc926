/- Count of lists of regions, the program's and the document's. Condition: numbers of at most 2^41. Printed by gen/rgcount.py. -/
import Derived.Test.YtoodjhomekeekaaRgD
import Derived.Deep.DeepCutAuto
import Derived.Laws.Rows
import Derived.Laws.Tables
namespace Go.Proofs.Ytoodjhomekeekaa
open Go.ChangeShapes Go.WideShapes Go.ChangeAt Go.RowKit
set_option linter.unusedVariables false
set_option linter.unusedSimpArgs false
def cnt1 (f t : Int) (d : RG) : Int := max 0 (min d.b t - max d.a f)
def cntL (f t : Int) : List RG → Int
  | [] => 0
  | d :: r => cnt1 f t d + cntL f t r
theorem cntL_app (f t : Int) : ∀ (L M : List RG), cntL f t (L ++ M) = cntL f t L + cntL f t M
  | [], M => by simp [cntL]
  | d :: r, M => by simp [cntL, cntL_app f t r M]; omega
/-- numbers of at most 2^41 -/
def sml (x : Int) : Prop := -2199023255552 ≤ x ∧ x ≤ 2199023255552
def smlL (R : List RG) : Prop := ∀ d ∈ R, sml d.a ∧ sml d.b
theorem cnt1_le {f t : Int} {d : RG} (hf : sml f) (ht : sml t) (hd : sml d.a ∧ sml d.b) : 0 ≤ cnt1 f t d ∧ cnt1 f t d ≤ 4398046511104 := by
  unfold sml at *; unfold cnt1; omega
theorem cntL_le {f t : Int} (hf : sml f) (ht : sml t) : ∀ {R : List RG}, smlL R → 0 ≤ cntL f t R ∧ cntL f t R ≤ 4398046511104 * R.length
  | [], _ => by simp [cntL]
  | d :: r, h => by
    have h1 := cnt1_le hf ht (h d (by simp))
    have h2 := cntL_le hf ht (R := r) (fun x hx => h x (by simp [hx]))
    simp only [cntL, List.length_cons]
    omega
theorem cntL_take {f t : Int} {R : List RG} {k : Nat} (hk : k < R.length) : cntL f t (R.take (k + 1)) = cntL f t (R.take k) + cnt1 f t R[k] := by
  rw [List.take_succ_eq_append_getElem hk, cntL_app]
  simp [cntL]
theorem cnt_slot (ya yb f t m : Int) (s1 : IntKind.i64.wrap (min yb t - max ya f) = min yb t - max ya f) (s2 : IntKind.i64.wrap (m + max 0 (min yb t - max ya f)) = m + max 0 (min yb t - max ya f)) :
    wrap64 (m + if 0 < wrap64 ((if t < yb then t else yb) - if ya < f then f else ya) then wrap64 ((if t < yb then t else yb) - if ya < f then f else ya) else 0) = m + max 0 (min yb t - max ya f) := by
  have e1 : (if t < yb then t else yb) = min yb t := by split <;> omega
  have e2 : (if ya < f then f else ya) = max ya f := by split <;> omega
  have e3 : wrap64 (min yb t - max ya f) = min yb t - max ya f := by rw [← IntWalk.i64_left]; exact s1
  have e4 : (if 0 < min yb t - max ya f then min yb t - max ya f else 0) = max 0 (min yb t - max ya f) := by split <;> omega
  rw [e1, e2, e3, e4, ← IntWalk.i64_left]
  exact s2
set_option maxHeartbeats 4000000 in
theorem count_any {w : World} {base : Nat} {v : Value} {R : List RG} (h : rgL w base v R) (hl : R.length ≤ 1000) (hs : smlL R) (f t : Int) (hf : sml f) (ht : sml t) :
    Calls Try.prog 16 #[v, .agg #[.int .i64 f, .int .i64 t]] w fun e w' => e = .returned (.int .i64 (cntL f t R)) ∧ Below w.heap.size w w' := by
  obtain ⟨A, cap, rfl⟩ := h.form
  have H := Lib.hid h
  have HS := Lib.hid hs
  have HSF := Lib.hid hf
  have HST := Lib.hid ht
  clear h hs hf ht
  obtain ⟨g, hg⟩ : ∃ g, g = w.heap.size := ⟨_, rfl⟩
  have h0 := heap_new w (.cells #[.int .i64 f, .int .i64 t] 27)
  rw [← hg] at h0
  have HG := Lib.hid hg
  clear hg
  go_enter Try.func16, Try.ntmps16
  go_wp2_with fail
  rw [← HG.out]
  have HB0 : Below w.heap.size w (w.alloc (.cells #[.int .i64 f, .int .i64 t] 27)) := (Below.refl _ _).alloc (Nat.le_refl _) _
  go_loopw [5, 10] (fun x0 x wr => ∃ (k : Nat) (m : Int), x = .int .i64 k ∧ x0 = .int .i64 m ∧ k ≤ R.length ∧ Below w.heap.size w wr ∧ wr.heap[g]? = some (.cells #[.int .i64 f, .int .i64 t] 27 (0, 0)) ∧ Hid (m = cntL f t (R.take k))) (fun _ x _ => R.length - (intOf x).toNat)
  case atStart => exact ⟨0, 0, rfl, rfl, by omega, HB0, h0, Lib.hid (by simp [cntL])⟩
  case round =>
    clear h0 HB0
    obtain ⟨k, m, rfl, rfl, hle, hB, hcg, HF⟩ := hrel
    have hsz := hB.size
    have q0 : wr.cell? ⟨g, 0, none⟩ = some (.int .i64 f) := cell_heap hcg 0
    have q1 : wr.cell? ⟨g, 1, none⟩ = some (.int .i64 t) := cell_heap hcg 1
    have hgw : g < wr.heap.size := heap_lt hcg
    have hgo : w.heap.size ≤ g := by have := HG.out; omega
    have HCG := Lib.hid hcg
    have HB := Lib.hid hB
    by_cases hlt : k < R.length
    · have f0 : decide (k < R.length) = true := decide_eq_true hlt
      have f3 : (k : Int) < (R.length : Int) := by omega
      have hsy := HS.out R[k] (List.getElem_mem hlt)
      have hm := cntL_take (f := f) (t := t) hlt
      have hm1 := cnt1_le HSF.out HST.out hsy
      have hm2 := cntL_le HSF.out HST.out (R := R.take k) (fun d hd => HS.out d (List.mem_of_mem_take hd))
      rw [← HF.out] at hm hm2
      rw [List.length_take] at hm2
      obtain ⟨b, cap1, hv, hb, hbw, e0, e1, e2, e3, e4, e5⟩ := H.out.cell (List.getElem?_eq_getElem hlt)
      obtain ⟨hc1, hf1⟩ := bcell hB
      have c0 := (hc1 b _ hbw).trans e0
      have c1 := (hc1 b _ hbw).trans e1
      have c2 := (hc1 b _ hbw).trans e2
      have c3 := (hc1 b _ hbw).trans e3
      have c4 := (hc1 b _ hbw).trans e4
      have c5 := (hc1 b _ hbw).trans e5
      obtain ⟨rfl, _, rfl⟩ : A = some ⟨b, 0, none⟩ ∧ R.length = R.length ∧ cap = cap1 := by simpa using hv
      obtain ⟨n, hn⟩ : ∃ n, n = R.length := ⟨_, rfl⟩
      rw [← hn] at hlt hle hl f0 f3 hm2 ⊢
      generalize R[k] = y at c0 c1 c2 c3 c4 c5 hm hm1 hsy
      obtain ⟨ya, yb, yw, yu, yx, yk⟩ := y
      simp only [cnt1] at c0 c1 c2 c3 c4 c5 hm hm1 hsy
      have s1 : IntKind.i64.wrap (min yb t - max ya f) = min yb t - max ya f := by
        have := HSF.out; have := HST.out; unfold sml at *; rw [IntKind.wrap_i64]; omega
      have s2 : IntKind.i64.wrap (m + max 0 (min yb t - max ya f)) = m + max 0 (min yb t - max ya f) := by
        rw [IntKind.wrap_i64]; omega
      have HN := Lib.hid hn
      have HM := Lib.hid hm
      clear hc1 hf1 e0 e1 e2 e3 e4 e5 hv hn hm hm1 hm2 hsy hb hB hcg
      have HQ2 := Lib.hid (heap_new wr (.cells #[.int .i64 0, .int .i64 0, .bool false, .bool false, .bool false, .int .i64 0] 31))
      have HAL : Hid ((#[.int .i64 ya, .int .i64 yb, .bool yw, .bool yu, .bool yx, .int .i64 yk] : Array Value).all (·.oneCell') = true) := Lib.hid (by simp [Value.oneCell'])
      go_wp2_with (first | ((refine wpList_store_row rfl 31 (.tmp 7) (.tmp 13) rfl wr.heap.size #[.int .i64 ya, .int .i64 yb, .bool yw, .bool yu, .bool yx, .int .i64 yk] rfl rfl 31 #[.int .i64 0, .int .i64 0, .bool false, .bool false, .bool false, .int .i64 0] HQ2.out sz_rg rfl HAL.out ?_); rw [World.setRow_alloc_new]))
      go_roundw
      case rel => exact ⟨k + 1, _, by go_num, rfl, by omega, by have := HB.out; go_grown, heap_old _ _ _ HCG.out, Lib.hid ((cnt_slot ya yb f t m s1 s2).trans HM.out.symm)⟩
      case measure => simp [intOf]; omega
    · have f0 : decide (k < R.length) = false := decide_eq_false hlt
      have HR : Hid (m = cntL f t R) := Lib.hid (by rw [HF.out, List.take_of_length_le (by omega)])
      obtain ⟨n, hn⟩ : ∃ n, n = R.length := ⟨_, rfl⟩
      rw [← hn] at hlt hle hl f0 ⊢
      clear hn hB hcg
      go_wp2_with fail
      go_returns
      exact ⟨ret_v (by rw [HR.out]; rfl), by have := HB.out; go_grown⟩
set_option maxHeartbeats 4000000 in
theorem rCount_any {w : World} {base : Nat} {v : Value} {R : List RG} (h : rfL w base v R) (hl : R.length ≤ 1000) (hs : smlL R) (f t : Int) (hf : sml f) (ht : sml t) :
    Calls Try.prog 17 #[v, .int .i64 f, .int .i64 t] w fun e w' => e = .returned (.int .i64 (cntL f t R)) ∧ Below w.heap.size w w' := by
  obtain ⟨A, cap, rfl⟩ := h.form
  have H := Lib.hid h
  have HS := Lib.hid hs
  have HSF := Lib.hid hf
  have HST := Lib.hid ht
  clear h hs hf ht
  go_enter Try.func17, Try.ntmps17
  go_wp2_with fail
  have HB0 : Below w.heap.size w w := Below.refl _ _
  go_loopw [7, 14] (fun x0 x wr => ∃ (k : Nat) (m : Int), x = .int .i64 k ∧ x0 = .int .i64 m ∧ k ≤ R.length ∧ Below w.heap.size w wr ∧ Hid (m = cntL f t (R.take k))) (fun _ x _ => R.length - (intOf x).toNat)
  case atStart => exact ⟨0, 0, rfl, rfl, by omega, HB0, Lib.hid (by simp [cntL])⟩
  case round =>
    clear HB0
    obtain ⟨k, m, rfl, rfl, hle, hB, HF⟩ := hrel
    have hsz := hB.size
    have HB := Lib.hid hB
    by_cases hlt : k < R.length
    · have f0 : decide (k < R.length) = true := decide_eq_true hlt
      have f3 : (k : Int) < (R.length : Int) := by omega
      have hsy := HS.out R[k] (List.getElem_mem hlt)
      have hm := cntL_take (f := f) (t := t) hlt
      have hm1 := cnt1_le HSF.out HST.out hsy
      have hm2 := cntL_le HSF.out HST.out (R := R.take k) (fun d hd => HS.out d (List.mem_of_mem_take hd))
      rw [← HF.out] at hm hm2
      rw [List.length_take] at hm2
      obtain ⟨b, cap1, hv, hb, hbw, e0, e1, e2, e3, e4, e5⟩ := H.out.cell (List.getElem?_eq_getElem hlt)
      obtain ⟨hc1, hf1⟩ := bcell hB
      have c0 := (hc1 b _ hbw).trans e0
      have c1 := (hc1 b _ hbw).trans e1
      have c2 := (hc1 b _ hbw).trans e2
      have c3 := (hc1 b _ hbw).trans e3
      have c4 := (hc1 b _ hbw).trans e4
      have c5 := (hc1 b _ hbw).trans e5
      obtain ⟨rfl, _, rfl⟩ : A = some ⟨b, 0, none⟩ ∧ R.length = R.length ∧ cap = cap1 := by simpa using hv
      obtain ⟨n, hn⟩ : ∃ n, n = R.length := ⟨_, rfl⟩
      rw [← hn] at hlt hle hl f0 f3 hm2 ⊢
      generalize R[k] = y at c0 c1 c2 c3 c4 c5 hm hm1 hsy
      obtain ⟨ya, yb, yw, yu, yx, yk⟩ := y
      simp only [cnt1] at c0 c1 c2 c3 c4 c5 hm hm1 hsy
      have s1 : IntKind.i64.wrap (min yb t - max ya f) = min yb t - max ya f := by
        have := HSF.out; have := HST.out; unfold sml at *; rw [IntKind.wrap_i64]; omega
      have s2 : IntKind.i64.wrap (m + max 0 (min yb t - max ya f)) = m + max 0 (min yb t - max ya f) := by
        rw [IntKind.wrap_i64]; omega
      have HN := Lib.hid hn
      have HM := Lib.hid hm
      clear hc1 hf1 e0 e1 e2 e3 e4 e5 hv hn hm hm1 hm2 hsy hb hB
      have HQ2 := Lib.hid (heap_new wr (.cells #[.int .i64 0, .int .i64 0, .bool false, .bool false, .bool false, .int .i64 0] 36))
      have HAL : Hid ((#[.int .i64 ya, .int .i64 yb, .bool yw, .bool yu, .bool yx, .int .i64 yk] : Array Value).all (·.oneCell') = true) := Lib.hid (by simp [Value.oneCell'])
      have HSM := Lib.hid s2
      clear s2
      obtain ⟨yA, hyA⟩ : ∃ z : Int, z = max ya f := ⟨_, rfl⟩
      obtain ⟨yB, hyB⟩ : ∃ z : Int, z = min yb t := ⟨_, rfl⟩
      have e1 : (if t < yb then t else yb) = yB := by rw [hyB]; split <;> omega
      have e2 : (if ya < f then f else ya) = yA := by rw [hyA]; split <;> omega
      have HYA := Lib.hid hyA
      have HYB := Lib.hid hyB
      have HS1 := Lib.hid s1
      clear s1 hyA hyB
      rcases Bool.eq_false_or_eq_true (decide (yA < yB)) with t1 | t1
      · have s3 : IntKind.i64.wrap (yB - yA) = yB - yA := by rw [HYA.out, HYB.out]; exact HS1.out
        have s4 : IntKind.i64.wrap (m + (yB - yA)) = m + (yB - yA) := by
          have e := HSM.out; rw [← HYA.out, ← HYB.out] at e
          rwa [show max 0 (yB - yA) = yB - yA from by have := of_decide_eq_true t1; omega] at e
        go_wp2_with (first | ((refine wpList_store_row rfl 36 (.tmp 9) (.tmp 17) rfl wr.heap.size #[.int .i64 ya, .int .i64 yb, .bool yw, .bool yu, .bool yx, .int .i64 yk] rfl rfl 36 #[.int .i64 0, .int .i64 0, .bool false, .bool false, .bool false, .int .i64 0] HQ2.out sz_rf rfl HAL.out ?_); rw [World.setRow_alloc_new]))
        go_region
        go_wp2_with fail
        go_roundw
        case rel => exact ⟨k + 1, _, by go_num, rfl, by omega, by have := HB.out; go_grown, Lib.hid (by rw [HM.out, ← HYA.out, ← HYB.out, show max 0 (yB - yA) = yB - yA from by have := of_decide_eq_true t1; omega])⟩
        case measure => simp [intOf]; omega
      · go_wp2_with (first | ((refine wpList_store_row rfl 36 (.tmp 9) (.tmp 17) rfl wr.heap.size #[.int .i64 ya, .int .i64 yb, .bool yw, .bool yu, .bool yx, .int .i64 yk] rfl rfl 36 #[.int .i64 0, .int .i64 0, .bool false, .bool false, .bool false, .int .i64 0] HQ2.out sz_rf rfl HAL.out ?_); rw [World.setRow_alloc_new]))
        go_region
        go_wp2_with fail
        go_roundw
        case rel => exact ⟨k + 1, _, by go_num, rfl, by omega, by have := HB.out; go_grown, Lib.hid (by rw [HM.out, ← HYA.out, ← HYB.out, show max 0 (yB - yA) = 0 from by have := of_decide_eq_false t1; omega]; omega)⟩
        case measure => simp [intOf]; omega
    · have f0 : decide (k < R.length) = false := decide_eq_false hlt
      have HR : Hid (m = cntL f t R) := Lib.hid (by rw [HF.out, List.take_of_length_le (by omega)])
      obtain ⟨n, hn⟩ : ∃ n, n = R.length := ⟨_, rfl⟩
      rw [← hn] at hlt hle hl f0 ⊢
      clear hn hB
      go_wp2_with fail
      go_returns
      exact ⟨ret_v (by rw [HR.out]; rfl), by have := HB.out; go_grown⟩
end Go.Proofs.Ytoodjhomekeekaa
