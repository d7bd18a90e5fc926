/- The reference of layer 5: Find, for every list of lines. No condition but bounds on its length. -/
import Derived.Test.YthnojhldpbjkoaaTlbR
import Derived.Test.YthnojhldpbjkoaaApp2
namespace Go.Proofs.Ythnojhldpbjkoaa
open Go.ChangeShapes Go.WideShapes Go.ChangeAt Go.RowKit
set_option linter.unusedVariables false
set_option linter.unusedSimpArgs false

def findR : List RL → Int → Int → RL × Bool
  | [], _, _ => (zrl, false)
  | x :: r, tag, page => if rfits x tag page then (x, true) else findR r tag page
set_option maxRecDepth 100000 in
set_option maxHeartbeats 4000000 in
theorem rfind_any {w : World} {base : Nat} {v : Value} {L : List RL} (h : RRow w base v L) (hl : L.length ≤ 1000) (tag page : Int) :
    Calls Try.prog 17 #[v, .int .i64 tag, .int .i64 page] w fun e w' => e = .returned (.tuple #[(findR L tag page).1.val, .bool (findR L tag page).2]) ∧ Below w.heap.size w w' := by
  obtain ⟨A, cap, rfl⟩ := row_form h
  go_enter Try.func17, Try.ntmps17
  go_wp2_with fail
  have hz := heap_new w (.cells #[.int .i64 0, .int .i64 0, .int .i64 0, .int .i64 0, .bool false, .bool false, .bool false, .bool false, .bool false] 50)
  go_loopw [12] (fun i wr => ∃ k : Nat, i = .int .i64 k ∧ k ≤ L.length ∧ Below w.heap.size w wr ∧ wr.heap[w.heap.size]? = some (.cells #[.int .i64 0, .int .i64 0, .int .i64 0, .int .i64 0, .bool false, .bool false, .bool false, .bool false, .bool false] 50 (0, 0)) ∧ Hid (findR L tag page = findR (L.drop k) tag page)) (fun i _ => L.length - (intOf i).toNat)
  case atStart => exact ⟨0, rfl, by omega, by go_grown, hz, Lib.hid rfl⟩
  case round =>
    clear hz
    obtain ⟨k, rfl, hle, hB, hZ, HF⟩ := hrel
    have hsz := hB.size
    have r0 : wr.cell? ⟨w.heap.size, 0, none⟩ = some (.int .i64 0) := cell_heap hZ 0
    have r1 : wr.cell? ⟨w.heap.size, 1, none⟩ = some (.int .i64 0) := cell_heap hZ 1
    have r2 : wr.cell? ⟨w.heap.size, 2, none⟩ = some (.int .i64 0) := cell_heap hZ 2
    have r3 : wr.cell? ⟨w.heap.size, 3, none⟩ = some (.int .i64 0) := cell_heap hZ 3
    have r4 : wr.cell? ⟨w.heap.size, 4, none⟩ = some (.bool false) := cell_heap hZ 4
    have r5 : wr.cell? ⟨w.heap.size, 5, none⟩ = some (.bool false) := cell_heap hZ 5
    have r6 : wr.cell? ⟨w.heap.size, 6, none⟩ = some (.bool false) := cell_heap hZ 6
    have r7 : wr.cell? ⟨w.heap.size, 7, none⟩ = some (.bool false) := cell_heap hZ 7
    have r8 : wr.cell? ⟨w.heap.size, 8, none⟩ = some (.bool false) := cell_heap hZ 8
    have hzl := heap_lt hZ
    have hfr : ∀ o, wr.frozen? ⟨w.heap.size, o, none⟩ = false := fun o => frozen_heap hZ o
    have HZ := Lib.hid hZ
    clear hZ
    by_cases hlt : k < L.length
    · have f0 : decide (k < L.length) = true := decide_eq_true hlt
      obtain ⟨bl, cap', hv, hbb, hbw, e0, e1, e2, e3, e4, e5, e6, e7, e8⟩ := h.cell (List.getElem?_eq_getElem hlt)
      obtain ⟨hc1, hf1⟩ := bcell hB
      obtain ⟨rfl, _, rfl⟩ : A = some ⟨bl, 0, none⟩ ∧ L.length = L.length ∧ cap = cap' := by simpa using hv
      have hd : findR (L.drop k) tag page = if rfits L[k] tag page then (L[k], true) else findR (L.drop (k + 1)) tag page := by
        rw [List.drop_eq_getElem_cons hlt]; rfl
      have HD := Lib.hid hd
      clear hd
      generalize L[k] = y at e0 e1 e2 e3 e4 e5 e6 e7 e8 HD
      obtain ⟨yw, yt, yp, yf, ya, yb, yc, yg, yd⟩ := y
      simp only [] at e0 e1 e2 e3 e4 e5 e6 e7 e8
      obtain ⟨n, hn⟩ : ∃ n, n = L.length := ⟨_, rfl⟩
      rw [← hn] at hlt hle hl f0 ⊢
      have HN := Lib.hid hn
      clear hn hv h
      have hcall := fun W => rfits_any ⟨yw, yt, yp, yf, ya, yb, yc, yg, yd⟩ tag page W
      have HB := Lib.hid hB
      cases hg : rfits ⟨yw, yt, yp, yf, ya, yb, yc, yg, yd⟩ tag page with
      | false =>
        rw [hg] at hcall HD
        clear hg
        go_wp2_with fail
        refine (hcall _).mono ?_
        rintro e w3 ⟨rfl, hb3⟩
        have hB3 := b_then (w := w) HB.out (b_then (by go_grown) hb3)
        have hZ3 := heap_below (b_then (W := wr.alloc (.cells #[.int .i64 yw, .int .i64 yt, .int .i64 yp, .int .i64 yf, .bool ya, .bool yb, .bool yc, .bool yg, .bool yd] 50)) (by go_grown) hb3) HZ.out
        have HZ3 := Lib.hid hZ3
        clear hZ3 r0 r1 r2 r3 r4 r5 r6 r7 r8 hb3 hB hc1 hf1 e0 e1 e2 e3 e4 e5 e6 e7 e8
        go_wp2_with fail
        go_roundw
        case rel => exact ⟨k + 1, by go_num, by omega, hB3, HZ3.out, Lib.hid (HF.out.trans (by rw [HD.out, if_neg (by simp)]))⟩
        case measure => simp [intOf]; omega
      | true =>
        rw [hg] at hcall HD
        clear hg
        go_wp2_with fail
        refine (hcall _).mono ?_
        rintro e w3 ⟨rfl, hb3⟩
        have hB3 := b_then (w := w) HB.out (b_then (by go_grown) hb3)
        obtain ⟨hc3, hf3⟩ := bcell hb3
        have hz3 := hb3.size
        rw [World.size_alloc] at hz3
        have z0 : w.heap.size < w3.heap.size := by omega
        have z1 : wr.heap.size < w3.heap.size := by omega
        have n0 : w.heap.size ≠ wr.heap.size := by omega
        clear hb3 hB HB e0 e1 e2 e3 e4 e5 e6 e7 e8
        have c0 : w3.cell? ⟨w.heap.size, 0, none⟩ = some (.int .i64 0) := by rw [hc3 _ _ (by rw [World.size_alloc]; omega)]; go_simp
        have c1 : w3.cell? ⟨w.heap.size, 1, none⟩ = some (.int .i64 0) := by rw [hc3 _ _ (by rw [World.size_alloc]; omega)]; go_simp
        have c2 : w3.cell? ⟨w.heap.size, 2, none⟩ = some (.int .i64 0) := by rw [hc3 _ _ (by rw [World.size_alloc]; omega)]; go_simp
        have c3 : w3.cell? ⟨w.heap.size, 3, none⟩ = some (.int .i64 0) := by rw [hc3 _ _ (by rw [World.size_alloc]; omega)]; go_simp
        have c4 : w3.cell? ⟨w.heap.size, 4, none⟩ = some (.bool false) := by rw [hc3 _ _ (by rw [World.size_alloc]; omega)]; go_simp
        have c5 : w3.cell? ⟨w.heap.size, 5, none⟩ = some (.bool false) := by rw [hc3 _ _ (by rw [World.size_alloc]; omega)]; go_simp
        have c6 : w3.cell? ⟨w.heap.size, 6, none⟩ = some (.bool false) := by rw [hc3 _ _ (by rw [World.size_alloc]; omega)]; go_simp
        have c7 : w3.cell? ⟨w.heap.size, 7, none⟩ = some (.bool false) := by rw [hc3 _ _ (by rw [World.size_alloc]; omega)]; go_simp
        have c8 : w3.cell? ⟨w.heap.size, 8, none⟩ = some (.bool false) := by rw [hc3 _ _ (by rw [World.size_alloc]; omega)]; go_simp
        go_wp2_with fail
        refine bodyPost_ret (by simp [results, Try.results17, go_sem, c0, c1, c2, c3, c4, c5, c6, c7, c8]; try rfl) rfl ?_
        exact ⟨ret_v (by rw [HF.out, HD.out]; rfl), by go_grown⟩
    · have f0 : decide (k < L.length) = false := decide_eq_false hlt
      obtain ⟨n, hn⟩ : ∃ n, n = L.length := ⟨_, rfl⟩
      rw [← hn] at hlt hle hl f0 ⊢
      have HN := Lib.hid hn
      clear hn
      go_wp2
      refine bodyPost_ret (by simp [results, Try.results17, go_sem, r0, r1, r2, r3, r4, r5, r6, r7, r8]; try rfl) rfl ?_
      exact ⟨ret_v (by rw [HF.out, List.drop_eq_nil_of_le (by rw [← HN.out]; omega)]; rfl), by go_grown⟩
end Go.Proofs.Ythnojhldpbjkoaa
