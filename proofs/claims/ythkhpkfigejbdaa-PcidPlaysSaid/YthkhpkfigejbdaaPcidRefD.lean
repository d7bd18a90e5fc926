/- The reference of layer 11: Drop, for every list. -/
import Derived.Test.YthkhpkfigejbdaaPcidRef
namespace Go.Proofs.Ythkhpkfigejbdaa
open Go.ChangeShapes Go.WideShapes Go.ChangeAt Go.RowKit
set_option linter.unusedVariables false
set_option linter.unusedSimpArgs false

def dropL (L : List (Int × Bool)) (s : Int) : List (Int × Bool) := L.map fun g => if g.1 = s then (g.1, false) else g
theorem dropL_take (L : List (Int × Bool)) (s : Int) (k : Nat) (h : k < L.length) : dropL (L.take (k + 1)) s = dropL (L.take k) s ++ [if L[k].1 = s then (L[k].1, false) else L[k]] := by
  unfold dropL
  rw [List.take_succ_eq_append_getElem h, List.map_append]; rfl
theorem dropL_len (L : List (Int × Bool)) (s : Int) (k : Nat) (h : k ≤ L.length) : (dropL (L.take k) s).length = k := by
  unfold dropL
  rw [List.length_map, List.length_take]; omega
/-- One more at the end of a list of one's own. -/
theorem one_app {w : World} {base : Nat} {A : Option Addr} {c n : Nat} {L : List (Int × Bool)} (h : GL w base (.slice A n c) L) (hn : n = L.length) (hb : base ≤ w.heap.size) (hl : n < 1000000) (g : Int × Bool) :
    ∃ A2 c2 w3, (Builtin.append_ #[40, 40] 40 #[.slice A n c, .slice (some ⟨w.heap.size, 0, none⟩) 1 1]).run Try.prog (w.alloc (.cells #[.int .i64 g.1, .bool g.2] 48)) = .ok (.slice A2 (n + 1) c2) w3 ∧
      Below base w w3 ∧ GL w3 base (.slice A2 (n + 1) c2) (L ++ [g]) := by
  obtain ⟨i, hi, hz0, hz1, hz2⟩ := info_parts info48
  have r1 := Rd.lit w 2 #[.int .i64 g.1, .bool g.2] 48 1 1 rfl
  subst hn
  have hlt := World.ownsRow.lt h
  obtain ⟨v2, w3, a2, o2, g2⟩ := run_app (P := Try.prog) base 40 40 48 under40 hi hz0 hz1 hz2 rfl (by decide) (World.ownsRow.alloc h _) r1 (by simp [Value.oneCell']) (by simp [maxLen]; omega) (by omega) (by rw [World.size_alloc]; omega)
  obtain ⟨A2, c2, rfl⟩ := own_form o2
  refine ⟨A2, c2, w3, a2, Below.grown ((Below.refl base w).alloc hb _) g2 (by rw [World.size_alloc]; omega) (fun k e => (hlt k e).1), ?_⟩
  have e1 : gcells (L ++ [g]) = gcells L ++ [.int .i64 g.1, .bool g.2] := by rw [gcells_append]; rfl
  have e2 : (L ++ [g]).length = L.length + 1 := by simp
  unfold GL
  rw [e1, e2]
  exact o2
set_option maxHeartbeats 1000000 in
theorem rDrop_any {w : World} {base : Nat} {v : Value} {L : List (Int × Bool)} (h : GL w base v L) (hb : base ≤ w.heap.size) (hl : L.length < 1000000) (most gen s : Int) :
    Calls Try.prog 15 #[.agg #[.int .i64 most, .int .i64 gen, v], .int .i64 s] w fun e w' => ∃ v', e = .returned (.agg #[.int .i64 most, .int .i64 gen, v']) ∧ Below w.heap.size w w' ∧ GL w' base v' (dropL L s) := by
  obtain ⟨A, cap, rfl⟩ := h.form
  go_enter Try.func15, Try.ntmps15
  go_wp2_with fail
  have B0 := two_below w #[.int .i64 most, .int .i64 gen, .slice A L.length cap] #[.int .i64 0, .int .i64 0, .slice none 0 0] 42 42
  have hsz : ((w.alloc (.cells #[.int .i64 most, .int .i64 gen, .slice A L.length cap] 42)).alloc (.cells #[.int .i64 0, .int .i64 0, .slice none 0 0] 42)).heap.size = w.heap.size + 2 := by simp
  have o0 := World.ownsRow_lit (base := w.heap.size + 2) (e := 48) (size := 2) ((w.alloc (.cells #[.int .i64 most, .int .i64 gen, .slice A L.length cap] 42)).alloc (.cells #[.int .i64 0, .int .i64 0, .slice none 0 0] 42)) #[] 0 (by omega) (by simp [maxLen]) (by simp)
  rw [hsz] at o0
  have q0 := heap_old _ (.cells #[] 48) _ B0.2.1
  have q1 := heap_old _ (.cells #[] 48) _ B0.2.2
  have hB0 := B0.1.alloc B0.1.size (.cells #[] 48)
  clear B0 hsz
  go_loopw [5, 12] (fun v i wr => ∃ (k : Nat) (A2 : Option Addr) (c2 : Nat), i = .int .i64 k ∧ v = .slice A2 k c2 ∧ k ≤ L.length ∧ Below w.heap.size w wr ∧ GL wr (w.heap.size + 2) (.slice A2 k c2) (dropL (L.take k) s) ∧
      wr.heap[w.heap.size]? = some (.cells #[.int .i64 most, .int .i64 gen, .slice A L.length cap] 42 (0, 0)) ∧ wr.heap[w.heap.size + 1]? = some (.cells #[.int .i64 0, .int .i64 0, .slice none 0 0] 42 (0, 0))) (fun _ i _ => L.length - (intOf i).toNat)
  case atStart => exact ⟨0, _, 0, rfl, rfl, by omega, hB0, o0, q0, q1⟩
  case round =>
    clear q0 q1 hB0 o0
    obtain ⟨k, A2, c2, rfl, rfl, hle, hB, hG, q0, q1⟩ := hrel
    have s1 := heap_lt q1
    by_cases hlt : k < L.length
    · have f0 : decide (k < L.length) = true := decide_eq_true hlt
      obtain ⟨b, cap', hv, hbb, hbw, e0, e1⟩ := h.cell (List.getElem?_eq_getElem hlt)
      obtain ⟨hc1, hf1⟩ := bcell hB
      have e0' := (hc1 b (k * 2) hbw).trans e0
      have e1' := (hc1 b (k * 2 + 1) hbw).trans e1
      obtain ⟨rfl, _, rfl⟩ : A = some ⟨b, 0, none⟩ ∧ L.length = L.length ∧ cap = cap' := by simpa using hv
      have hd := dropL_take L s k hlt
      have hk := dropL_len L s k hle
      generalize L[k] = g at e0' e1' hd
      obtain ⟨p, q⟩ := g
      by_cases hs : p = s
      · subst hs
        rw [if_pos rfl] at hd
        have al : Below wr.heap.size wr (wr.alloc (.cells #[.int .i64 p, .bool false] 48)) := by go_grown
        obtain ⟨A3, c3, w3, ha, hB3, hG3⟩ := one_app (hG.below al) hk.symm (by rw [World.size_alloc]; omega) (by omega) (p, false)
        rw [World.size_alloc] at ha
        rw [← hd] at hG3
        have HA := Lib.hid ha
        have HD := Lib.hid hd
        have hBw := (b_then hB al).trans (hB3.mono (show w.heap.size ≤ w.heap.size + 2 by omega))
        have Q0 := (hB3.block w.heap.size (by omega)).trans (heap_old wr (.cells #[.int .i64 p, .bool false] 48) _ q0)
        have Q1 := (hB3.block (w.heap.size + 1) (by omega)).trans (heap_old wr (.cells #[.int .i64 p, .bool false] 48) _ q1)
        have HQ0 := Lib.hid Q0
        have HQ1 := Lib.hid Q1
        have HK := Lib.hid hk
        clear hd ha hk hc1 hf1 e0 e1 hv Q0 Q1 q0 q1
        go_wp2_with (at_builtin; refine wpList_app rfl (.tmp 21) (.tmp 23) 40 rfl rfl rfl HA.out ?_)
        go_roundw
        case rel => exact ⟨k + 1, A3, c3, rfl, rfl, by omega, hBw, hG3, HQ0.out, HQ1.out⟩
        case measure => simp [intOf]; omega
      · have ds : (p == s) = false := by simp [hs]
        rw [if_neg hs] at hd
        have al : Below wr.heap.size wr (wr.alloc (.cells #[.int .i64 p, .bool q] 48)) := by go_grown
        obtain ⟨A3, c3, w3, ha, hB3, hG3⟩ := one_app (hG.below al) hk.symm (by rw [World.size_alloc]; omega) (by omega) (p, q)
        rw [World.size_alloc] at ha
        rw [← hd] at hG3
        have HA := Lib.hid ha
        have HD := Lib.hid hd
        have HS := Lib.hid hs
        have hBw := (b_then hB al).trans (hB3.mono (show w.heap.size ≤ w.heap.size + 2 by omega))
        have Q0 := (hB3.block w.heap.size (by omega)).trans (heap_old wr (.cells #[.int .i64 p, .bool q] 48) _ q0)
        have Q1 := (hB3.block (w.heap.size + 1) (by omega)).trans (heap_old wr (.cells #[.int .i64 p, .bool q] 48) _ q1)
        have HQ0 := Lib.hid Q0
        have HQ1 := Lib.hid Q1
        have HK := Lib.hid hk
        clear hd hs ha hk hc1 hf1 e0 e1 hv Q0 Q1 q0 q1
        go_wp2_with (at_builtin; refine wpList_app rfl (.tmp 21) (.tmp 23) 40 rfl rfl rfl HA.out ?_)
        go_roundw
        case rel => exact ⟨k + 1, A3, c3, rfl, rfl, by omega, hBw, hG3, HQ0.out, HQ1.out⟩
        case measure => simp [intOf]; omega
    · have f0 : decide (k < L.length) = false := decide_eq_false hlt
      have c00 := cell_heap q0 0
      have c01 := cell_heap q0 1
      have c02 := cell_heap q0 2
      have c10 := cell_heap q1 0
      have c11 := cell_heap q1 1
      have c12 := cell_heap q1 2
      have f02 := frozen_heap q0 2
      have f10 := frozen_heap q1 0
      have f11 := frozen_heap q1 1
      have f12 := frozen_heap q1 2
      have s0 := heap_lt q0
      have hke : k = L.length := by omega
      have HK := Lib.hid hke
      clear q0 q1 hke
      go_wp2
      refine bodyPost_ret (v := .agg #[.int .i64 most, .int .i64 gen, .slice A2 k c2]) (by simp [results, Try.results15, go_sem, c10, c11, c12]) rfl ⟨.slice A2 k c2, rfl, by go_grown, ?_⟩
      have hG' : GL wr (w.heap.size + 2) (.slice A2 k c2) (dropL L s) := by rw [HK.out, List.take_length] at hG; rw [HK.out]; exact hG
      exact ((((hG'.far (a := ⟨w.heap.size, 2, none⟩) (by simp) _).far (a := ⟨w.heap.size + 1, 0, none⟩) (by simp) _).far (a := ⟨w.heap.size + 1, 1, none⟩) (by simp) _).far (a := ⟨w.heap.size + 1, 2, none⟩) (by simp) _).mono (by omega)
end Go.Proofs.Ythkhpkfigejbdaa
