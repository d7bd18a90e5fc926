/- Has a container a child: ContainsFunc with the closure of End. No condition but a bound on the list's length. -/
import Derived.Test.YtgnkgfejnnkkaaaQuoG
namespace Go.Proofs.Ytgnkgfejnnkkaaa
open Go.ChangeShapes Go.WideShapes Go.ChangeAt Go.RowKit
set_option linter.unusedVariables false
set_option linter.unusedSimpArgs false
theorem childof (p q u l : Int) (b : Bool) (bi : Nat) (i : Int) (W : World) (h : W.cell? ⟨bi, 0, none⟩ = some (.int .i64 i)) (hb : bi < W.heap.size) : Calls Try.prog 30 #[.agg #[.int .i64 p, .int .i64 q, .int .i64 u, .int .i64 l, .bool b], .pointer (some ⟨bi, 0, none⟩)] W fun e w' => e = .returned (.bool (b && (p == i))) ∧ Below W.heap.size W w' := by
  cases b
  all_goals
    go_enter Try.func30, Try.ntmps30
    go_wp2
    go_returns
    exact ⟨rfl, by go_grown⟩
def kidF (i : Int) : List ND → Nat → Int
  | [], _ => -1
  | d :: r, k => if d.live && (d.parent == i) then (k : Int) else kidF i r (k + 1)
set_option maxHeartbeats 1000000 in
theorem kid_index {w : World} {base : Nat} {v : Value} {L : List ND} (h : NL w base v L) (hl : L.length < 1000000) (bi : Nat) (ix : Int) (hci : w.cell? ⟨bi, 0, none⟩ = some (.int .i64 ix)) (hbi : bi < w.heap.size) :
    Calls Try.prog 21 #[v, .func (.func 30) #[] #[.pointer (some ⟨bi, 0, none⟩)]] w fun e w' => e = .returned (.int .i64 (kidF ix L 0)) ∧ Below w.heap.size w w' := by
  obtain ⟨A, cap, rfl⟩ := NL.form h
  have H := Lib.hid h
  have HCI := Lib.hid hci
  clear h hci
  go_enter Try.func21, Try.ntmps21
  go_wp2_with fail
  go_loopw [8] (fun i wr => ∃ k : Nat, i = .int .i64 k ∧ k ≤ L.length ∧ Below w.heap.size w wr ∧ Hid (kidF ix L 0 = kidF ix (L.drop k) k)) (fun i _ => L.length - (intOf i).toNat)
  case atStart => exact ⟨0, rfl, by omega, by go_grown, Lib.hid rfl⟩
  case round =>
    obtain ⟨k, rfl, hle, hB, HF⟩ := hrel
    have hsz := hB.size
    by_cases hlt : k < L.length
    · have f0 : decide (k < L.length) = true := decide_eq_true hlt
      have f3 : (k : Int) < (L.length : Int) := by omega
      obtain ⟨b, cap', hv, hb, hbw, e0, e1, e2, e3, e4⟩ := NL.cell H.out (List.getElem?_eq_getElem hlt)
      obtain ⟨hc1, hf1⟩ := bcell hB
      have c0 := (hc1 b _ hbw).trans e0
      have c1 := (hc1 b _ hbw).trans e1
      have c2 := (hc1 b _ hbw).trans e2
      have c3 := (hc1 b _ hbw).trans e3
      have c4 := (hc1 b _ hbw).trans e4
      obtain ⟨rfl, _, rfl⟩ : A = some ⟨b, 0, none⟩ ∧ L.length = L.length ∧ cap = cap' := by simpa using hv
      have hd : kidF ix (L.drop k) k = if L[k].live && (L[k].parent == ix) then (k : Int) else kidF ix (L.drop (k + 1)) (k + 1) := by
        rw [List.drop_eq_getElem_cons hlt]; rfl
      generalize L[k] = g at c0 c1 c2 c3 c4 hd
      obtain ⟨p, q, u, l, live⟩ := g
      obtain ⟨n, hn⟩ : ∃ n, n = L.length := ⟨_, rfl⟩
      rw [← hn] at hlt hle hl f0 f3 ⊢
      have HN := Lib.hid hn
      have HD := Lib.hid hd
      have HB := Lib.hid hB
      clear hc1 hf1 e0 e1 e2 e3 e4 hv hn hd hb hB
      simp only at c0 c1 c2 c3 c4
      go_wp2_with fail
      refine (childof p q u l live bi ix _ (HB.out.cell (p := ⟨bi, 0, none⟩) hbi ▸ HCI.out) (Nat.lt_of_lt_of_le hbi HB.out.size)).mono ?_
      rintro e w1 ⟨rfl, hb1⟩
      have HB1 := Lib.hid (b_then HB.out hb1)
      clear hb1 c0 c1 c2 c3 c4
      obtain ⟨bb, hbb⟩ : ∃ bb, bb = (live && (p == ix)) := ⟨_, rfl⟩
      rw [← hbb] at HD ⊢
      clear hbb
      cases bb
      · go_wp2
        go_roundw
        case rel => exact ⟨k + 1, by go_num, by omega, HB1.out, Lib.hid (HF.out.trans HD.out)⟩
        case measure => simp [intOf]; omega
      · go_wp2
        go_returns
        exact ⟨ret_v (by rw [HF.out, HD.out]; rfl), HB1.out⟩
    · have f0 : decide (k < L.length) = false := decide_eq_false hlt
      have HR : Hid (kidF ix L 0 = -1) := Lib.hid (by rw [HF.out, List.drop_eq_nil_of_le (by omega)]; rfl)
      obtain ⟨n, hn⟩ : ∃ n, n = L.length := ⟨_, rfl⟩
      rw [← hn] at hlt hle hl f0 ⊢
      clear hn
      go_wp2
      go_returns
      exact ⟨ret_v (by rw [HR.out]; rfl), by go_grown⟩
end Go.Proofs.Ytgnkgfejnnkkaaa
