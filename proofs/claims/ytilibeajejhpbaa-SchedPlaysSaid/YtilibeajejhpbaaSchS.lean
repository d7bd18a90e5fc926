/- The law's same (layer 16): two readable rows of one list are the same. No condition but a bound on the list. -/
import Derived.Test.YtilibeajejhpbaaInts
import Derived.Deep.QuietTactic
import Derived.BigQuiet
namespace Go.Proofs.Ytilibeajejhpbaa
open Go.ChangeShapes Go.WideShapes Go.ChangeAt Go.RowKit
set_option linter.unusedVariables false
set_option linter.unusedSimpArgs false

theorem IRd.get {w : World} {A : Option Addr} {l : List Int} (h : IRd w A l) {k : Nat} (hk : k < l.length) : ∃ b off, A = some ⟨b, off, none⟩ ∧ w.cell? ⟨b, off + k, none⟩ = some (.int .i64 l[k]) := by
  rcases h with ⟨_, rfl⟩ | ⟨b, off, rfl, _, hc⟩
  · simp at hk
  · exact ⟨b, off, rfl, hc k hk⟩
set_option maxHeartbeats 2000000 in
theorem same_eq {w : World} {A B : Option Addr} {l : List Int} (h1 : IRd w A l) (h2 : IRd w B l) (hl : l.length ≤ 1000000) (ca cb : Nat) :
    Calls Try.prog 17 #[.slice A l.length ca, .slice B l.length cb] w fun e w' => e = .returned (.bool true) ∧ Below w.heap.size w w' := by
  obtain ⟨n, hn⟩ : ∃ n, n = l.length := ⟨_, rfl⟩
  have HN := Lib.hid hn
  rw [← hn] at hl ⊢
  have H1 := Lib.hid h1
  have H2 := Lib.hid h2
  clear h1 h2 hn
  go_enter Try.func17, Try.ntmps17
  go_wp2_with fail
  go_loopw [13] (fun i wr => ∃ k : Nat, i = .int .i64 k ∧ k ≤ n ∧ Below w.heap.size w wr) (fun i _ => n - (intOf i).toNat)
  case atStart => exact ⟨0, rfl, by omega, Below.refl _ _⟩
  case round =>
    obtain ⟨k, rfl, hk, hB⟩ := hrel
    by_cases hlt : k < n
    · have f0 : decide (k < n) = true := decide_eq_true hlt
      obtain ⟨b1, o1, rfl, e1⟩ := (H1.out.below hB).get (k := k) (by rw [← HN.out]; exact hlt)
      obtain ⟨b2, o2, rfl, e2⟩ := (H2.out.below hB).get (k := k) (by rw [← HN.out]; exact hlt)
      generalize l[k]'(by rw [← HN.out]; exact hlt) = y at e1 e2
      have HB := Lib.hid hB
      clear hB
      go_wp2_with fail
      go_quiet (fail)
      go_wp2_with fail
      go_roundw
      case rel => exact ⟨k + 1, by go_num, by omega, below_drewN HB.out _⟩
      case measure => simp [intOf]; omega
    · have f0 : decide (k < n) = false := decide_eq_false hlt
      go_wp2
      go_returns
      exact ⟨rfl, hB⟩
end Go.Proofs.Ytilibeajejhpbaa
