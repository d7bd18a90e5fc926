/- The numbers of the containers that live; has a container a child (ContainsFunc). No condition but a bound on the list's length. -/
import Derived.Test.YtgnkgfejnnkkaaaQuoI
namespace Go.Proofs.Ytgnkgfejnnkkaaa
open Go.ChangeShapes Go.WideShapes Go.ChangeAt Go.RowKit
set_option linter.unusedVariables false
set_option linter.unusedSimpArgs false
def liveL : List ND → Nat → List Int
  | [], _ => []
  | d :: r, k => if d.live then (k : Int) :: liveL r (k + 1) else liveL r (k + 1)
theorem app_int {w0 W : World} {base : Nat} {v : Value} {l : List Int} (hown : IRow W w0.heap.size v l) (hB : Below w0.heap.size w0 W) (k : Int) (hl : l.length ≤ 1000) :
    ∃ A c w', (Builtin.append_ #[45, 45] 45 #[v, .slice (some ⟨W.heap.size, 0, none⟩) 1 1]).run Try.prog (W.alloc (.cells #[.int .i64 k] 3)) = .ok (.slice A (l.length + 1) c) w' ∧ IRow w' w0.heap.size (.slice A (l.length + 1) c) (l ++ [k]) ∧ Below w0.heap.size w0 w' := by
  obtain ⟨i0, hi, hz0, hz1, hz2⟩ := info_parts info3
  obtain ⟨A, c, w', h1, h2, h3⟩ := app_one (P := Try.prog) w0 45 45 3 under31 hi hz0 hz1 hz2 rfl (by decide) hown hB #[.int .i64 k] rfl (by simp [Value.oneCell']) (by unfold maxLen; omega) (by omega)
  refine ⟨A, c, w', h1, ?_, h3⟩
  unfold IRow
  rw [List.length_append, ivs, List.map_append]
  exact h2
set_option maxHeartbeats 1000000 in
theorem live_any {w : World} {base t : Nat} {v : Value} {L : List ND} (h : TreeAt w base t v L) (hl : L.length ≤ 900) :
    Calls Try.prog 16 #[.pointer (some ⟨t, 0, none⟩)] w fun e w' => ∃ v', e = .returned v' ∧ Below w.heap.size w w' ∧ IRow w' w.heap.size v' (liveL L 0) := by
  obtain ⟨A, cap, rfl⟩ := NL.form h.l
  have c0 : w.cell? ⟨t, 0, none⟩ = some (.slice A L.length cap) := cell_heap h.h 0
  have H := Lib.hid h.l
  clear h
  go_enter Try.func16, Try.ntmps16
  go_wp2_with fail
  go_loopw [3, 11] (fun o i wr => ∃ (k : Nat) (l : List Int) (A2 : Option Addr) (c2 : Nat), o = .slice A2 l.length c2 ∧ i = .int .i64 k ∧ k ≤ L.length ∧ Below w.heap.size w wr ∧ Hid (IRow wr w.heap.size (.slice A2 l.length c2) l) ∧ Hid (l ++ liveL (L.drop k) k = liveL L 0) ∧ l.length ≤ k) (fun _ i _ => L.length - (intOf i).toNat)
  case atStart => exact ⟨0, [], none, 0, rfl, rfl, by omega, by go_grown, Lib.hid (IRow.nil _ _), Lib.hid rfl, by simp⟩
  case round =>
    obtain ⟨k, l, A2, c2, rfl, rfl, hle, hB, HR, HF, hlk⟩ := hrel
    have hsz := hB.size
    by_cases hlt : k < L.length
    · have f0 : decide (k < L.length) = true := decide_eq_true hlt
      have f3 : (k : Int) < (L.length : Int) := by omega
      obtain ⟨b, cap', hv, hb, hbw, e0, e1, e2, e3, e4⟩ := NL.cell H.out (List.getElem?_eq_getElem hlt)
      obtain ⟨hc1, hf1⟩ := bcell hB
      have g0 := (hc1 b _ hbw).trans e0
      have g1 := (hc1 b _ hbw).trans e1
      have g2 := (hc1 b _ hbw).trans e2
      have g3 := (hc1 b _ hbw).trans e3
      have g4 := (hc1 b _ hbw).trans e4
      obtain ⟨rfl, _, rfl⟩ : A = some ⟨b, 0, none⟩ ∧ L.length = L.length ∧ cap = cap' := by simpa using hv
      have hd : liveL (L.drop k) k = if L[k].live then (k : Int) :: liveL (L.drop (k + 1)) (k + 1) else liveL (L.drop (k + 1)) (k + 1) := by
        rw [List.drop_eq_getElem_cons hlt]; rfl
      generalize L[k] = g at g0 g1 g2 g3 g4 hd
      obtain ⟨p, q, u, ln, live⟩ := g
      obtain ⟨n, hn⟩ : ∃ n, n = L.length := ⟨_, rfl⟩
      rw [← hn] at hlt hle hl f0 f3 ⊢
      simp only at g0 g1 g2 g3 g4 hd
      have HN := Lib.hid hn
      have HD := Lib.hid hd
      have HB := Lib.hid hB
      have hB1 : Below w.heap.size w (wr.alloc (.cells #[.int .i64 p, .int .i64 q, .int .i64 u, .int .i64 ln, .bool live] 39)) := by go_grown
      obtain ⟨A3, c3, w3, ha, hr, hb3⟩ := app_int (base := w.heap.size) (World.ownsRow.alloc HR.out _) hB1 (k : Int) (by omega)
      rw [World.size_alloc] at ha
      have HA := Lib.hid ha
      have HR3 := Lib.hid hr
      have HB1 := Lib.hid hB1
      have HB3 := Lib.hid hb3
      clear hc1 hf1 e0 e1 e2 e3 e4 hv hn hd hb hB ha hr hb3 hB1
      cases live
      · go_wp2
        go_roundw
        case rel => exact ⟨k + 1, l, A2, c2, rfl, by go_num, by omega, HB1.out, Lib.hid (World.ownsRow.alloc HR.out _), Lib.hid (by rw [← HF.out, HD.out]; rfl), by omega⟩
        case measure => simp [intOf]; omega
      · go_wp2_with (at_builtin; refine wpList_app rfl (.tmp 18) (.tmp 20) 45 rfl rfl rfl HA.out ?_)
        go_roundw
        case rel => exact ⟨k + 1, l ++ [(k : Int)], A3, c3, by simp, by go_num, by omega, HB3.out, Lib.hid (by rw [List.length_append]; exact HR3.out), Lib.hid (by rw [← HF.out, HD.out]; simp), by simp; omega⟩
        case measure => simp [intOf]; omega
    · have f0 : decide (k < L.length) = false := decide_eq_false hlt
      have HE : Hid (l = liveL L 0) := Lib.hid (by rw [← HF.out, List.drop_eq_nil_of_le (by omega)]; simp [liveL])
      obtain ⟨n, hn⟩ : ∃ n, n = L.length := ⟨_, rfl⟩
      rw [← hn] at hlt hle hl f0 ⊢
      clear hn
      go_wp2
      go_returns
      exact ⟨_, rfl, by go_grown, HE.out ▸ HR.out⟩
theorem has_kid {w : World} {base : Nat} {v : Value} {L : List ND} (h : NL w base v L) (hl : L.length < 1000000) (bi : Nat) (ix : Int) (hci : w.cell? ⟨bi, 0, none⟩ = some (.int .i64 ix)) (hbi : bi < w.heap.size) :
    Calls Try.prog 31 #[v, .func (.func 30) #[] #[.pointer (some ⟨bi, 0, none⟩)]] w fun e w' => e = .returned (.bool (decide (0 ≤ kidF ix L 0))) ∧ Below w.heap.size w w' := by
  have HK := Lib.hid (kid_index h hl bi ix hci hbi)
  generalize kidF ix L 0 = m at HK
  clear h hl hci hbi
  go_enter Try.func31, Try.ntmps31
  go_wp2_with fail
  refine HK.out.mono ?_
  rintro e w1 ⟨rfl, hb1⟩
  go_wp2
  go_returns
  exact ⟨rfl, hb1⟩
end Go.Proofs.Ytgnkgfejnnkkaaa
