/- Has and check of the memory, for every list of holes. No condition. -/
import Derived.Test.YtnjjeedalmikaaaRam
import Derived.Deep.QuietTactic
import Derived.BigQuiet
namespace Go.Proofs.Ytnjjeedalmikaaa
open Go.ChangeShapes Go.WideShapes Go.ChangeAt Go.RowKit
open Go.ChangeMaps (setBlock heap_setBlock_same heap_setBlock_other)
set_option linter.unusedVariables false
set_option linter.unusedSimpArgs false
/-- The header of a memory. -/
structure RHd (W : World) (b m : Nat) (n : Int) (v : Value) (hs : Hs) : Prop where
  h : W.heap[b]? = some (.cells #[.int .i64 n, v, .map (some m)] 60 (0, 0))
  l : HL W 0 v hs
  len : hs.length ≤ 64
theorem RamAt.hd {W : World} {base b m : Nat} {n : Int} {hs : Hs} {mem : Nat → Nat} (h : RamAt W base b m n hs mem) : ∃ v, RHd W b m n v hs := by
  obtain ⟨v, L, h1, h2, h3⟩ := h.ex
  exact ⟨v, h1, HL.mono h2 (Nat.zero_le _), h.len⟩
theorem RHd.below {W W' : World} {b m : Nat} {n : Int} {v : Value} {hs : Hs} (h : RHd W b m n v hs) (hb : Below W.heap.size W W') : RHd W' b m n v hs := ⟨(hb.block _ (heap_lt h.h)).trans h.h, HL.below h.l hb, h.len⟩
def allH (f : Int) (hs : Hs) : Bool := hs.all (fun h => !inH f h)
set_option maxHeartbeats 1000000 in
theorem has_any {w : World} {b m : Nat} {n : Int} {v : Value} {hs : Hs} (h : RHd w b m n v hs) (f : Int) :
    Calls Try.prog 16 #[ptr b, .int .i64 f] w fun e w' => e = .returned (.bool (hasF n hs f)) ∧ Below w.heap.size w w' := by
  obtain ⟨A, cap, rfl⟩ := HL.form h.l
  have c0 : w.cell? ⟨b, 0, none⟩ = some (.int .i64 n) := cell_heap h.h 0
  have c1 : w.cell? ⟨b, 1, none⟩ = some (.slice A hs.length cap) := cell_heap h.h 1
  have hbw := heap_lt h.h
  have hL := Lib.hid h.l
  have hl := h.len
  clear h
  by_cases hf : 0 ≤ f ∧ f < n
  · obtain ⟨hf1, hf2⟩ := hf
    have d1 : decide (f < 0) = false := decide_eq_false (by omega)
    have d2 : decide (n ≤ f) = false := decide_eq_false (by omega)
    have hr : Hid (hasF n hs f = allH f hs) := Lib.hid (by simp [hasF, allH, hf1, hf2])
    clear hf1 hf2
    go_enter Try.func16, Try.ntmps16
    go_wp2_with fail
    go_loopw [22] (fun i wr => ∃ k : Nat, i = .int .i64 k ∧ k ≤ hs.length ∧ Below w.heap.size w wr ∧ Hid (allH f hs = allH f (hs.drop k))) (fun i _ => hs.length - (intOf i).toNat)
    case atStart => exact ⟨0, rfl, by omega, by go_grown, Lib.hid rfl⟩
    case round =>
      obtain ⟨k, rfl, hle, hB, HF⟩ := hrel
      have hsz := hB.size
      by_cases hlt : k < hs.length
      · have f0 : decide (k < hs.length) = true := decide_eq_true hlt
        obtain ⟨b', cap', hv, hbb, hbw', e0, e1⟩ := HL.cell hL.out (List.getElem?_eq_getElem hlt)
        obtain ⟨hc1, hf1⟩ := bcell hB
        have e0' := (hc1 b' (k * 2) hbw').trans e0
        have e1' := (hc1 b' (k * 2 + 1) hbw').trans e1
        obtain ⟨rfl, _, rfl⟩ : A = some ⟨b', 0, none⟩ ∧ hs.length = hs.length ∧ cap = cap' := by simpa using hv
        have hd : allH f (hs.drop k) = ((!inH f hs[k]) && allH f (hs.drop (k + 1))) := by
          rw [List.drop_eq_getElem_cons hlt]; rfl
        generalize hs[k] = g at e0' e1' hd
        obtain ⟨p, q⟩ := g
        have HD := Lib.hid hd
        obtain ⟨len, hn⟩ : ∃ n, n = hs.length := ⟨_, rfl⟩
        rw [← hn] at hlt hle hl f0 c1 ⊢
        have HN := Lib.hid hn
        clear hc1 hf1 e0 e1 hv hn hd c0 c1
        by_cases t1 : p ≤ f
        · have q1 : decide (p ≤ f) = true := decide_eq_true t1
          by_cases t2 : f < q
          · have q2 : decide (f < q) = true := decide_eq_true t2
            have HT : Hid (p ≤ f ∧ f < q) := Lib.hid ⟨t1, t2⟩
            clear t1 t2
            go_wp2
            go_returns
            exact ⟨ret_v (by rw [hr.out, HF.out, HD.out]; simp [inH, HT.out.1, HT.out.2]), by go_grown⟩
          · have q2 : decide (f < q) = false := decide_eq_false t2
            have HT : Hid (¬ f < q) := Lib.hid t2
            clear t1 t2
            go_wp2
            go_roundw
            case rel => exact ⟨k + 1, rfl, by omega, by go_grown, Lib.hid (HF.out.trans (HD.out.trans (by simp [inH, HT.out])))⟩
            case measure => simp [intOf]; omega
        · have q1 : decide (p ≤ f) = false := decide_eq_false t1
          have HT : Hid (¬ p ≤ f) := Lib.hid t1
          clear t1
          go_wp2
          go_roundw
          case rel => exact ⟨k + 1, rfl, by omega, by go_grown, Lib.hid (HF.out.trans (HD.out.trans (by simp [inH, HT.out])))⟩
          case measure => simp [intOf]; omega
      · have f0 : decide (k < hs.length) = false := decide_eq_false hlt
        obtain ⟨len, hn⟩ : ∃ n, n = hs.length := ⟨_, rfl⟩
        rw [← hn] at hlt hle hl f0 c1 ⊢
        have HN := Lib.hid hn
        clear hn
        go_wp2
        go_returns
        exact ⟨ret_v (by rw [hr.out, HF.out, List.drop_eq_nil_of_le (by rw [← HN.out]; omega)]; rfl), by go_grown⟩
  · by_cases hf1 : f < 0
    · have d1 : decide (f < 0) = true := decide_eq_true hf1
      have hr : Hid (hasF n hs f = false) := Lib.hid (by simp only [hasF]; rw [decide_eq_false (by omega)]; rfl)
      clear hf hf1
      go_enter Try.func16, Try.ntmps16
      go_wp2
      go_returns
      exact ⟨ret_v (by rw [hr.out]; rfl), by go_grown⟩
    · have d1 : decide (f < 0) = false := decide_eq_false hf1
      have d2 : decide (n ≤ f) = true := decide_eq_true (by omega)
      have hr : Hid (hasF n hs f = false) := Lib.hid (by simp only [hasF]; rw [decide_eq_false (show ¬ f < n by omega), Bool.false_and, Bool.and_false])
      clear hf hf1
      go_enter Try.func16, Try.ntmps16
      go_wp2
      go_returns
      exact ⟨ret_v (by rw [hr.out]; rfl), by go_grown⟩
end Go.Proofs.Ytnjjeedalmikaaa
