/- check of the memory. No condition. -/
import Derived.Test.YtnjjeedalmikaaaRamA
namespace Go.Proofs.Ytnjjeedalmikaaa
open Go.ChangeShapes Go.WideShapes Go.ChangeAt Go.RowKit
open Go.ChangeMaps (setBlock heap_setBlock_same heap_setBlock_other)
set_option linter.unusedVariables false
set_option linter.unusedSimpArgs false
theorem wrapq (x : Int) (h0 : 0 ≤ x) (h1 : x < 18446744073709551616) : IntKind.u64.wrap (x.tdiv 4096) = x / 4096 := by
  rw [IntKind.wrap_u64, Int.tdiv_eq_ediv_of_nonneg h0]; omega
theorem wrapl (addr size : Int) (h0 : 0 ≤ addr) (h1 : addr < 18446744073709551616) (h2 : 1 ≤ size) (h3 : size ≤ 8) :
    IntKind.u64.wrap (IntKind.u64.wrap (addr + size) - 1) = if addr + size - 1 < 18446744073709551616 then addr + size - 1 else addr + size - 1 - 18446744073709551616 := by
  rw [IntKind.wrap_u64, IntKind.wrap_u64]; split <;> omega
theorem errF_size {n : Int} {hs : Hs} {addr size : Int} (h : ¬ (size = 1 ∨ size = 2 ∨ size = 4 ∨ size = 8)) : errF n hs addr size = 1 := if_neg h
set_option maxHeartbeats 4000000 in
theorem check_any {w : World} {b m : Nat} {n : Int} {v : Value} {hs : Hs} (h : RHd w b m n v hs) (addr size : Int) (h0 : 0 ≤ addr) (h1 : addr < 18446744073709551616) (hn0 : 0 < n) (hn1 : n ≤ 1048576) :
    Calls Try.prog 27 #[ptr b, .int .u64 addr, .int .i64 size] w fun e w' => e = .returned (.int .i64 (errF n hs addr size)) ∧ Below w.heap.size w w' := by
  have c0 : w.cell? ⟨b, 0, none⟩ = some (.int .i64 n) := cell_heap h.h 0
  have hbw := heap_lt h.h
  have HH := Lib.hid h
  clear h
  by_cases hz : size = 1 ∨ size = 2 ∨ size = 4 ∨ size = 8
  · have hw := wrapl addr size h0 h1 (by omega) (by omega)
    have hwn : IntKind.u64.wrap n = n := by rw [IntKind.wrap_u64]; omega
    have hE : Hid (errF n hs addr size = (if addr + size - 1 < 18446744073709551616 ∧ (addr + size - 1) / 4096 < n ∧ hasF n hs (addr / 4096) = true ∧ hasF n hs ((addr + size - 1) / 4096) = true then 0 else 2)) := Lib.hid (if_pos hz)
    have hwi : ∀ x : Int, 0 ≤ x → x < 18446744073709551616 → wrap64 (x / 4096) = x / 4096 := fun x a b => by unfold wrap64; omega
    by_cases ho : addr + size - 1 < 18446744073709551616
    · rw [if_pos ho] at hw
      obtain ⟨last, hlast⟩ : ∃ last, last = addr + size - 1 := ⟨_, rfl⟩
      rw [← hlast] at hw ho hE
      have hl0 : addr ≤ last := by omega
      have hq := wrapq last (by omega) ho
      have hqa := wrapq addr h0 h1
      have hi1 := hwi addr h0 h1
      have hi2 := hwi last (by omega) ho
      have d1 : decide (last < addr) = false := decide_eq_false (by omega)
      clear hlast hwi
      have HZ := Lib.hid hz
      by_cases hc : last / 4096 < n
      · have d2 : decide (n ≤ last / 4096) = false := decide_eq_false (by omega)
        have H1 : Hid (∀ W, Below w.heap.size w W → Calls Try.prog 16 #[ptr b, .int .i64 (addr / 4096)] W fun e w' => e = .returned (.bool (hasF n hs (addr / 4096))) ∧ Below W.heap.size W w') := Lib.hid fun W hb => has_any (HH.out.below hb) _
        have H2 : Hid (∀ W, Below w.heap.size w W → Calls Try.prog 16 #[ptr b, .int .i64 (last / 4096)] W fun e w' => e = .returned (.bool (hasF n hs (last / 4096))) ∧ Below W.heap.size W w') := Lib.hid fun W hb => has_any (HH.out.below hb) _
        have HC := Lib.hid hc
        have HO := Lib.hid ho
        clear HH hc ho
        cases ha : hasF n hs (addr / 4096)
        · rw [ha] at H1
          rcases hz with rfl | rfl | rfl | rfl
          all_goals
            go_enter Try.func27, Try.ntmps27
            go_wp2_with fail
            refine (H1.out _ (Below.refl _ _)).mono ?_
            rintro e w1 ⟨rfl, hb1⟩
            go_wp2
            go_returns
            exact ⟨ret_v (by rw [hE.out, if_neg (fun h => by rw [ha] at h; exact absurd h.2.2.1 (by decide))]; rfl), by go_grown⟩
        · rw [ha] at H1
          cases hb : hasF n hs (last / 4096)
          · rw [hb] at H2
            rcases hz with rfl | rfl | rfl | rfl
            all_goals
              go_enter Try.func27, Try.ntmps27
              go_wp2_with fail
              refine (H1.out _ (Below.refl _ _)).mono ?_
              rintro e w1 ⟨rfl, hb1⟩
              go_wp2_with fail
              refine (H2.out _ hb1).mono ?_
              rintro e w2 ⟨rfl, hb2⟩
              have hB := b_then hb1 hb2
              clear hb1 hb2
              go_wp2
              go_returns
              exact ⟨ret_v (by rw [hE.out, if_neg (fun h => by rw [hb] at h; exact absurd h.2.2.2 (by decide))]; rfl), hB⟩
          · rw [hb] at H2
            rcases hz with rfl | rfl | rfl | rfl
            all_goals
              go_enter Try.func27, Try.ntmps27
              go_wp2_with fail
              refine (H1.out _ (Below.refl _ _)).mono ?_
              rintro e w1 ⟨rfl, hb1⟩
              go_wp2_with fail
              refine (H2.out _ hb1).mono ?_
              rintro e w2 ⟨rfl, hb2⟩
              have hB := b_then hb1 hb2
              clear hb1 hb2
              go_wp2
              go_returns
              exact ⟨ret_v (by rw [hE.out, if_pos ⟨HO.out, HC.out, ha, hb⟩]; rfl), hB⟩
      · have d2 : decide (n ≤ last / 4096) = true := decide_eq_true (by omega)
        have HC := Lib.hid hc
        clear hc HH
        rcases hz with rfl | rfl | rfl | rfl
        all_goals
          go_enter Try.func27, Try.ntmps27
          go_wp2
          go_returns
          exact ⟨ret_v (by rw [hE.out, if_neg (fun h => absurd h.2.1 (by have := HC.out; omega))]; rfl), by go_grown⟩
    · rw [if_neg ho] at hw
      obtain ⟨last, hlast⟩ : ∃ last, last = addr + size - 1 - 18446744073709551616 := ⟨_, rfl⟩
      rw [← hlast] at hw
      have d1 : decide (last < addr) = true := decide_eq_true (by omega)
      clear hlast hwi HH
      have HO := Lib.hid ho
      clear ho
      rcases hz with rfl | rfl | rfl | rfl
      all_goals
        go_enter Try.func27, Try.ntmps27
        go_wp2
        go_returns
        exact ⟨ret_v (by rw [hE.out, if_neg (fun h => absurd h.1 (by have := HO.out; omega))]; rfl), by go_grown⟩
  · have e1 : (size == 1) = false := beq_false_of_ne fun e => hz (.inl e)
    have e2 : (size == 2) = false := beq_false_of_ne fun e => hz (.inr (.inl e))
    have e4 : (size == 4) = false := beq_false_of_ne fun e => hz (.inr (.inr (.inl e)))
    have e8 : (size == 8) = false := beq_false_of_ne fun e => hz (.inr (.inr (.inr e)))
    have HZ := Lib.hid hz
    clear hz
    go_enter Try.func27, Try.ntmps27
    go_wp2
    go_returns
    exact ⟨ret_v (by rw [errF_size HZ.out]; rfl), by go_grown⟩
end Go.Proofs.Ytnjjeedalmikaaa
