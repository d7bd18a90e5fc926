/- The least number that is free. No condition but a bound on the list's length. -/
import Derived.Test.YtgnkgfejnnkkaaaQuoC
namespace Go.Proofs.Ytgnkgfejnnkkaaa
open Go.ChangeShapes Go.WideShapes Go.ChangeAt Go.RowKit
set_option linter.unusedVariables false
set_option linter.unusedSimpArgs false
theorem notlive (p q u l : Int) (b : Bool) (W : World) : Calls Try.prog 22 #[.agg #[.int .i64 p, .int .i64 q, .int .i64 u, .int .i64 l, .bool b]] W fun e w' => e = .returned (.bool (!b)) ∧ Below W.heap.size W w' := by
  go_enter Try.func22, Try.ntmps22
  go_wp2
  go_returns
  exact ⟨rfl, by go_grown⟩
def freeF : List ND → Nat → Int
  | [], _ => -1
  | d :: r, i => if d.live then freeF r (i + 1) else i
theorem NL.below {w w' : World} {base : Nat} {v : Value} {L : List ND} (h : NL w base v L) (hb : Below w.heap.size w w') : NL w' base v L := by
  refine ⟨h.1, ?_⟩
  rcases h.2 with h1 | ⟨b, cap, cur, rfl, h2, hg, h3⟩
  · exact .inl h1
  · exact .inr ⟨b, cap, cur, rfl, h2, (hb.block b (heap_lt hg)).trans hg, h3⟩
set_option maxHeartbeats 1000000 in
theorem free_any {w : World} {base : Nat} {v : Value} {L : List ND} (h : NL w base v L) (hl : L.length < 1000000) :
    Calls Try.prog 21 #[v, .func (.func 22) #[] #[]] w fun e w' => e = .returned (.int .i64 (freeF L 0)) ∧ Below w.heap.size w w' := by
  obtain ⟨A, cap, rfl⟩ := NL.form h
  have H := Lib.hid h
  clear h
  go_enter Try.func21, Try.ntmps21
  go_wp2_with fail
  go_loopw [8] (fun i wr => ∃ k : Nat, i = .int .i64 k ∧ k ≤ L.length ∧ Below w.heap.size w wr ∧ Hid (freeF L 0 = freeF (L.drop k) k)) (fun i _ => L.length - (intOf i).toNat)
  case atStart => exact ⟨0, rfl, by omega, by go_grown, Lib.hid rfl⟩
  case round =>
    obtain ⟨k, rfl, hle, hB, HF⟩ := hrel
    have hsz := hB.size
    by_cases hlt : k < L.length
    · have f0 : decide (k < L.length) = true := decide_eq_true hlt
      have f3 : (k : Int) < (L.length : Int) := by omega
      obtain ⟨b, cap', hv, hb, hbw, e0, e1, e2, e3, e4⟩ := NL.cell H.out (List.getElem?_eq_getElem hlt)
      obtain ⟨hc1, hf1⟩ := bcell hB
      have c0 := (hc1 b _ hbw).trans e0
      have c1 := (hc1 b _ hbw).trans e1
      have c2 := (hc1 b _ hbw).trans e2
      have c3 := (hc1 b _ hbw).trans e3
      have c4 := (hc1 b _ hbw).trans e4
      obtain ⟨rfl, _, rfl⟩ : A = some ⟨b, 0, none⟩ ∧ L.length = L.length ∧ cap = cap' := by simpa using hv
      have hd : freeF (L.drop k) k = if L[k].live then freeF (L.drop (k + 1)) (k + 1) else k := by
        rw [List.drop_eq_getElem_cons hlt]; rfl
      generalize L[k] = g at c0 c1 c2 c3 c4 hd
      obtain ⟨p, q, u, l, live⟩ := g
      obtain ⟨n, hn⟩ : ∃ n, n = L.length := ⟨_, rfl⟩
      rw [← hn] at hlt hle hl f0 f3 ⊢
      have HN := Lib.hid hn
      have HD := Lib.hid hd
      have HB := Lib.hid hB
      clear hc1 hf1 e0 e1 e2 e3 e4 hv hn hd hb hB
      simp only at c0 c1 c2 c3 c4
      go_wp2_with fail
      refine (notlive p q u l live _).mono ?_
      rintro e w1 ⟨rfl, hb1⟩
      have HB1 := Lib.hid (b_then HB.out hb1)
      clear hb1 c0 c1 c2 c3 c4
      cases live
      · go_wp2
        go_returns
        exact ⟨ret_v (by rw [HF.out, HD.out]; rfl), HB1.out⟩
      · go_wp2
        go_roundw
        case rel => exact ⟨k + 1, by go_num, by omega, HB1.out, Lib.hid (HF.out.trans HD.out)⟩
        case measure => simp [intOf]; omega
    · have f0 : decide (k < L.length) = false := decide_eq_false hlt
      have HR : Hid (freeF L 0 = -1) := Lib.hid (by rw [HF.out, List.drop_eq_nil_of_le (by omega)]; rfl)
      obtain ⟨n, hn⟩ : ∃ n, n = L.length := ⟨_, rfl⟩
      rw [← hn] at hlt hle hl f0 ⊢
      clear hn
      go_wp2
      go_returns
      exact ⟨ret_v (by rw [HR.out]; rfl), by go_grown⟩
end Go.Proofs.Ytgnkgfejnnkkaaa
