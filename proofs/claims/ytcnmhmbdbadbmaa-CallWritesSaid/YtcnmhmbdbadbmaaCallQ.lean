/- The document's Read (layer 15): pages, spot. PRINTED by gen/callref.py. No condition but that the words are numbers of 64 bits. -/
import Derived.Test.YtcnmhmbdbadbmaaCallT
import Derived.Deep.DeepCutAuto
import Derived.Laws.Rows
import Derived.Laws.Tables
namespace Go.Proofs.Ytcnmhmbdbadbmaa
open Go.ChangeShapes Go.WideShapes Go.ChangeAt Go.RowKit
set_option linter.unusedVariables false
set_option linter.unusedSimpArgs false


theorem results_cell_tmp {fn : Func} {p q : Tmp} {ty : TypeId} (h : fn.results = #[.cell p ty, .tmp q]) (tmps : Array Value) (w : World) (g : Nat) (t : TypeId) (cs : Array Value) (fr : Nat × Nat) (fs : Array Field) (v : Value)
    (hp : tmps.getD p undef = .pointer (some ⟨g, 0, none⟩)) (hq : tmps.getD q undef = v) (hg : w.heap[g]? = some (.cells cs t fr))
    (hu : Try.prog.underlying ty = some (.struct fs)) (hi : (Try.prog.info? ty).map (·.size) = some cs.size) :
    (results fn tmps).run Try.prog w = .ok (.tuple #[.agg cs, v]) w := by
  have hp' : tmps[p]?.getD undef = .pointer (some ⟨g, 0, none⟩) := by simpa using hp
  have hq' : tmps[q]?.getD undef = v := by simpa using hq
  simp [results, h, hp', hq', asAddr, run_loadVar_row w g t ty cs fr (.struct fs) hg hu rfl hi]
theorem underR : ∃ fs, Try.prog.underlying 35 = some (.struct fs) := by
  have h : (match Try.prog.underlying 35 with | some (.struct _) => true | _ => false) = true := by kernel_rfl
  revert h
  split
  · rename_i fs hf; exact fun _ => ⟨fs, hf⟩
  · intro h; cases h
theorem infoR : (Try.prog.info? 35).map (·.size) = some 13 := by kernel_rfl
theorem setRow_touch {S : Nat → Prop} {w w1 : World} (h : Touch S w w1) {g : Nat} (hg : S g ∨ w.heap.size ≤ g) (cs : Array Value) : Touch S w (w1.setRow g cs) :=
  ⟨h.os, h.tape, h.output, by have := h.size; simpa using this, fun k hk hn => (setRow_other w1 g k cs (fun e => by subst e; rcases hg with h1 | h1; exact hn h1; omega)).trans (h.block k hk hn)⟩
theorem below_row {B : Nat} {w w1 : World} (h : Below B w w1) {g : Nat} (hg : B ≤ g) (cs : Array Value) : Below B w (w1.setRow g cs) :=
  ⟨h.os, h.tape, h.output, by have := h.size; simpa using this, fun k hk => (setRow_other w1 g k cs (by omega)).trans (h.block k hk)⟩
section
variable {x1 x2 : Int}
theorem refpages_t (h1 : 0 ≤ x1) (h2 : 0 ≤ x2) (u1 : x1 < 18446744073709551616) (u2 : x2 < 18446744073709551616) (h : (x1 < 34359738368 ∧ 1 ≤ x2 ∧ x2 ≤ 65536 ∧ x1 + x2 ≤ 34359738368)) (w : World) :
    Calls Try.prog 16 #[.int .u64 x1, .int .u64 x2] w fun e w' => e = .returned (.bool true) ∧ w' = w := by
  obtain ⟨a, b, c, d⟩ := h
  go_enter Try.func16, Try.ntmps16
  go_wp2
  go_returns
  exact ⟨rfl, rfl⟩
theorem refpages_f (h1 : 0 ≤ x1) (h2 : 0 ≤ x2) (u1 : x1 < 18446744073709551616) (u2 : x2 < 18446744073709551616) (h : ¬ (x1 < 34359738368 ∧ 1 ≤ x2 ∧ x2 ≤ 65536 ∧ x1 + x2 ≤ 34359738368)) (w : World) :
    Calls Try.prog 16 #[.int .u64 x1, .int .u64 x2] w fun e w' => e = .returned (.bool false) ∧ w' = w := by
  have H := Lib.hid h
  clear h
  by_cases a : x1 < 34359738368
  · by_cases b : 1 ≤ x2
    · by_cases c : x2 ≤ 65536
      · have d : decide (x1 + x2 ≤ 34359738368) = false := decide_eq_false (fun d => H.out ⟨a, b, c, d⟩)
        clear H
        go_enter Try.func16, Try.ntmps16
        go_wp2
        go_returns
        exact ⟨rfl, rfl⟩
      · have d : decide (x2 ≤ 65536) = false := decide_eq_false c
        clear H c
        go_enter Try.func16, Try.ntmps16
        go_wp2
        go_returns
        exact ⟨rfl, rfl⟩
    · obtain rfl : x2 = 0 := by omega
      clear H b
      go_enter Try.func16, Try.ntmps16
      go_wp2
      go_returns
      exact ⟨rfl, rfl⟩
  · have d : decide (x1 < 34359738368) = false := decide_eq_false a
    clear H a
    go_enter Try.func16, Try.ntmps16
    go_wp2
    go_returns
    exact ⟨rfl, rfl⟩
theorem refspot_t (h1 : 0 ≤ x1) (h2 : 0 ≤ x2) (u1 : x1 < 18446744073709551616) (u2 : x2 < 18446744073709551616) (h : (x1 < 140737488355328 ∧ (x2 = 1 ∨ x2 = 2 ∨ x2 = 4 ∨ x2 = 8) ∧ x1 % x2 = 0)) (w : World) :
    Calls Try.prog 17 #[.int .u64 x1, .int .u64 x2] w fun e w' => e = .returned (.bool true) ∧ w' = w := by
  obtain ⟨a, b, c⟩ := h
  rcases b with rfl | rfl | rfl | rfl
  all_goals
    go_enter Try.func17, Try.ntmps17
    go_wp2
    go_returns
    exact ⟨rfl, rfl⟩
theorem refspot_f (h1 : 0 ≤ x1) (h2 : 0 ≤ x2) (u1 : x1 < 18446744073709551616) (u2 : x2 < 18446744073709551616) (h : ¬ (x1 < 140737488355328 ∧ (x2 = 1 ∨ x2 = 2 ∨ x2 = 4 ∨ x2 = 8) ∧ x1 % x2 = 0)) (w : World) :
    Calls Try.prog 17 #[.int .u64 x1, .int .u64 x2] w fun e w' => e = .returned (.bool false) ∧ w' = w := by
  have H := Lib.hid h
  clear h
  by_cases a : x1 < 140737488355328
  · by_cases b : x2 = 1 ∨ x2 = 2 ∨ x2 = 4 ∨ x2 = 8
    · have H2 := Lib.hid (fun c => H.out ⟨a, b, c⟩)
      clear H
      rcases b with rfl | rfl | rfl | rfl
      · exact absurd (Int.emod_one x1) H2.out
      · have m : ((x1 % 2) == 0) = false := beq_false_of_ne H2.out
        clear H2
        go_enter Try.func17, Try.ntmps17
        go_wp2
        go_returns
        exact ⟨rfl, rfl⟩
      · have m : ((x1 % 4) == 0) = false := beq_false_of_ne H2.out
        clear H2
        go_enter Try.func17, Try.ntmps17
        go_wp2
        go_returns
        exact ⟨rfl, rfl⟩
      · have m : ((x1 % 8) == 0) = false := beq_false_of_ne H2.out
        clear H2
        go_enter Try.func17, Try.ntmps17
        go_wp2
        go_returns
        exact ⟨rfl, rfl⟩
    · have e1 : (x2 == 1) = false := beq_false_of_ne (by omega)
      have e2 : (x2 == 2) = false := beq_false_of_ne (by omega)
      have e4 : (x2 == 4) = false := beq_false_of_ne (by omega)
      have e8 : (x2 == 8) = false := beq_false_of_ne (by omega)
      clear b H
      go_enter Try.func17, Try.ntmps17
      go_wp2
      go_returns
      exact ⟨rfl, rfl⟩
  · have d : decide (x1 < 140737488355328) = false := decide_eq_false a
    clear H a
    go_enter Try.func17, Try.ntmps17
    go_wp2
    go_returns
    exact ⟨rfl, rfl⟩
end
end Go.Proofs.Ytcnmhmbdbadbmaa
