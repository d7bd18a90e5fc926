/- The reference of layer 1: Error. No condition but bounds on lengths. -/
import Derived.Test.YtnjjeedalmikaaaRamO
import Derived.Test.YtnjjeedalmikaaaRamHoles
import Derived.Test.YtnjjeedalmikaaaMapU
namespace Go.Proofs.Ytnjjeedalmikaaa
open Go.ChangeShapes Go.WideShapes Go.ChangeAt Go.RowKit
open Go.ChangeMaps (setBlock heap_setBlock_same heap_setBlock_other)
set_option linter.unusedVariables false
set_option linter.unusedSimpArgs false
def goodI (n : Int) (hs : Hs) (addr i : Nat) : Prop := addr + i < 18446744073709551616 ∧ hasF n hs (((addr + i) / 4096 : Nat) : Int) = true
theorem hasF_lt {n : Int} {hs : Hs} {f : Int} (h : hasF n hs f = true) : f < n := by
  unfold hasF at h
  simp only [Bool.and_eq_true, decide_eq_true_eq] at h
  exact h.2.1
theorem err_all {n : Int} {hs : Hs} {addr s : Nat} (hn : n ≤ 1048576) (hs' : s = 1 ∨ s = 2 ∨ s = 4 ∨ s = 8) (h : ∀ i, i < s → goodI n hs addr i) : errF n hs addr s = 0 := by
  obtain ⟨a1, a2⟩ := h 0 (by omega)
  obtain ⟨b1, b2⟩ := h (s - 1) (by omega)
  rw [Nat.add_zero] at a2
  have e2 : hasF n hs ((addr : Int) / 4096) = true := a2
  have e3 : hasF n hs (((addr : Int) + s - 1) / 4096) = true := by
    rw [show ((addr : Int) + s - 1) / 4096 = (((addr + (s - 1)) / 4096 : Nat) : Int) by omega]; exact b2
  unfold errF
  rw [if_pos (by omega), if_pos ⟨by omega, hasF_lt e3, e2, e3⟩]
theorem err_bad {n : Int} {hs : Hs} {addr s i : Nat} (hs' : s = 1 ∨ s = 2 ∨ s = 4 ∨ s = 8) (hi : i < s) (h : ¬ goodI n hs addr i) : errF n hs addr s = 2 := by
  rcases errF_cases n hs addr s with e | e | e
  · exfalso
    obtain ⟨_, h2, h3, h4, h5⟩ := errF_good e
    apply h
    refine ⟨by omega, ?_⟩
    have c : (((addr + i) / 4096 : Nat) : Int) = (addr : Int) / 4096 ∨ (((addr + i) / 4096 : Nat) : Int) = ((addr : Int) + s - 1) / 4096 := by omega
    rcases c with c | c <;> rw [c] <;> assumption
  · exfalso
    unfold errF at e
    rw [if_pos (by omega)] at e
    split at e <;> simp at e
  · exact e
abbrev rV (n : Int) (v : Value) (mb : Nat) : Value := .agg #[.int .i64 n, v, .map (some mb)]
set_option maxRecDepth 10000 in
set_option maxHeartbeats 1000000 in
theorem rError1 {w : World} {A : Option Addr} {cap mb : Nat} {hs : Hs} (h : HL w 0 (.slice A hs.length cap) hs) (hl : hs.length < 4611686018427387904) (n : Int) (hn0 : 0 < n) (hn1 : n ≤ 1048576) (addr : Nat) (ha : addr < 18446744073709551616) :
    Calls Try.prog 18 #[rV n (.slice A hs.length cap) mb, .int .u64 addr, .int .i64 1] w fun e w' => e = .returned (.int .i64 (errF n hs addr 1)) ∧ Below w.heap.size w w' := by
  have H := Lib.hid h
  have HLN := Lib.hid hl
  have HA := Lib.hid ha
  have kn : IntKind.u64.wrap n = n := by rw [IntKind.wrap_u64]; omega
  have HHas := Lib.hid (fun (W : World) (hb : Below w.heap.size w W) (g : Int) => rHas_any (mv := .map (some mb)) (HL.below h hb) hl n g rfl)
  have HN1 := Lib.hid hn1
  have HALL := Lib.hid (err_all (n := n) (hs := hs) (addr := addr) (s := 1) hn1 (by omega))
  have HBAD := Lib.hid (fun i => err_bad (n := n) (hs := hs) (addr := addr) (s := 1) (i := i) (by omega))
  obtain ⟨len, hlen⟩ : ∃ l, l = hs.length := ⟨_, rfl⟩
  rw [← hlen] at HHas ⊢
  clear h hl ha hn1 hlen
  go_enter Try.func18, Try.ntmps18
  go_wp2_with fail
  obtain ⟨w1, hw1⟩ : ∃ w1, w1 = w.alloc (.cells #[.int .i64 n, .slice A len cap, .map (some mb)] 40) := ⟨_, rfl⟩
  have k3 : w1.heap[w.heap.size]? = some (.cells #[.int .i64 n, .slice A len cap, .map (some mb)] 40 (0, 0)) := by rw [hw1]; exact heap_new _ _
  have hB1 : Below w.heap.size w w1 := by rw [hw1]; exact (Below.refl _ _).alloc (Nat.le_refl _) _
  rw [← hw1]
  clear hw1
  go_loopw [7] (fun i wr => ∃ k : Nat, i = .int .i64 k ∧ k ≤ 1 ∧ Below w.heap.size w wr ∧ wr.heap[w.heap.size]? = some (.cells #[.int .i64 n, .slice A len cap, .map (some mb)] 40 (0, 0)) ∧ Hid (∀ i, i < k → goodI n hs addr i)) (fun i _ => 1 - (intOf i).toNat)
  case atStart => exact ⟨0, rfl, by omega, hB1, k3, Lib.hid fun i hi => by omega⟩
  case round =>
    clear k3 hB1
    obtain ⟨k, rfl, hle, hB, k3, HG⟩ := hrel
    by_cases hlt : k < 1
    · have f0 : decide ((k : Int) < 1) = true := decide_eq_true (by omega)
      have f1 : decide (k < 1) = true := decide_eq_true hlt
      have q0 : IntKind.u64.wrap (k : Int) = k := by rw [IntKind.wrap_u64]; omega
      have c0 : wr.cell? ⟨w.heap.size, 0, none⟩ = some (.int .i64 n) := cell_heap k3 0
      have c1 : wr.cell? ⟨w.heap.size, 1, none⟩ = some (.slice A len cap) := cell_heap k3 1
      have c2 : wr.cell? ⟨w.heap.size, 2, none⟩ = some (.map (some mb)) := cell_heap k3 2
      have hsz := heap_lt k3
      have K3 := Lib.hid k3
      have HB := Lib.hid hB
      clear k3
      by_cases ho : addr + k < 18446744073709551616
      · obtain ⟨an, han⟩ : ∃ an, an = addr + k := ⟨_, rfl⟩
        have q1 : IntKind.u64.wrap ((addr : Int) + k) = (an : Int) := by rw [IntKind.wrap_u64]; omega
        have q1b : IntKind.u64.wrap (an : Int) = (an : Int) := by rw [IntKind.wrap_u64]; omega
        have q2 : decide ((an : Int) < (addr : Int)) = false := decide_eq_false (by omega)
        have q2b : decide (an < addr) = false := decide_eq_false (by omega)
        obtain ⟨f, hf, q3, q4, q8, q9, q10, q11, q5, q6, q7⟩ := page_parts an (by omega)
        have HGI : Hid (goodI n hs addr k ↔ hasF n hs (f : Int) = true) := Lib.hid (by unfold goodI; rw [← han, ← hf]; exact ⟨fun h => h.2, fun h => ⟨han ▸ ho, h⟩⟩)
        clear ho han hf q9 q10 q8
        by_cases t1 : (f : Int) < n
        · have u1 : decide (n ≤ (f : Int)) = false := decide_eq_false (Int.not_le.2 t1)
          have HC_ := HHas.out wr hB (f : Int)
          cases hh : hasF n hs (f : Int)
          · rw [hh] at HC_
            have HC := Lib.hid HC_
            have HR : Hid (errF n hs addr 1 = 2) := Lib.hid (HBAD.out k hlt (fun h => by rw [HGI.out, hh] at h; cases h))
            clear HC_ hh t1 hB
            go_wp2_with fail
            refine HC.out.mono ?_
            rintro e w2 ⟨rfl, hb2⟩
            have hB2 := Lib.hid (b_then HB.out hb2)
            clear hb2
            go_wp2
            go_returns
            exact ⟨ret_v (by rw [HR.out]; rfl), hB2.out⟩
          · rw [hh] at HC_
            have HC := Lib.hid HC_
            have HG' : Hid (∀ i, i < k + 1 → goodI n hs addr i) := Lib.hid fun i hi => by
              by_cases hik : i < k
              · exact HG.out i hik
              · obtain rfl : i = k := Nat.le_antisymm (Nat.lt_succ_iff.1 hi) (Nat.not_lt.1 hik)
                exact HGI.out.2 hh
            clear HC_ hh t1 hB
            go_wp2_with fail
            refine HC.out.mono ?_
            rintro e w2 ⟨rfl, hb2⟩
            have hB2 := Lib.hid (b_then HB.out hb2)
            have K3' := Lib.hid (heap_below hb2 K3.out)
            clear hb2
            go_wp2
            go_roundw
            case rel => exact ⟨k + 1, by go_num, by omega, hB2.out, K3'.out, HG'⟩
            case measure => simp [intOf]; omega
        · have u1 : decide (n ≤ (f : Int)) = true := decide_eq_true (Int.not_lt.1 t1)
          have HR : Hid (errF n hs addr 1 = 2) := Lib.hid (HBAD.out k hlt (fun h => t1 (hasF_lt (HGI.out.1 h))))
          clear t1 hB
          go_wp2
          go_returns
          exact ⟨ret_v (by rw [HR.out]; rfl), HB.out⟩
      · have ho2 : addr + k - 18446744073709551616 < addr := by have := HA.out; omega
        obtain ⟨an, han⟩ : ∃ an, an = addr + k - 18446744073709551616 := ⟨_, rfl⟩
        have q1 : IntKind.u64.wrap ((addr : Int) + k) = (an : Int) := by rw [IntKind.wrap_u64]; have := HA.out; omega
        have q2 : decide ((an : Int) < (addr : Int)) = true := decide_eq_true (by omega)
        have q2b : decide (an < addr) = true := decide_eq_true (by omega)
        have HR : Hid (errF n hs addr 1 = 2) := Lib.hid (HBAD.out k hlt (fun h => ho h.1))
        clear ho ho2 han hB
        go_wp2
        go_returns
        exact ⟨ret_v (by rw [HR.out]; rfl), HB.out⟩
    · have f0 : decide ((k : Int) < 1) = false := decide_eq_false (by omega)
      have f1 : decide (k < 1) = false := decide_eq_false hlt
      obtain rfl : k = 1 := by omega
      have HR : Hid (errF n hs addr 1 = 0) := Lib.hid (HALL.out HG.out)
      have HB := Lib.hid hB
      clear k3 hB
      go_wp2
      go_returns
      exact ⟨ret_v (by rw [HR.out]; rfl), HB.out⟩
set_option maxRecDepth 10000 in
set_option maxHeartbeats 1000000 in
theorem rError2 {w : World} {A : Option Addr} {cap mb : Nat} {hs : Hs} (h : HL w 0 (.slice A hs.length cap) hs) (hl : hs.length < 4611686018427387904) (n : Int) (hn0 : 0 < n) (hn1 : n ≤ 1048576) (addr : Nat) (ha : addr < 18446744073709551616) :
    Calls Try.prog 18 #[rV n (.slice A hs.length cap) mb, .int .u64 addr, .int .i64 2] w fun e w' => e = .returned (.int .i64 (errF n hs addr 2)) ∧ Below w.heap.size w w' := by
  have H := Lib.hid h
  have HLN := Lib.hid hl
  have HA := Lib.hid ha
  have kn : IntKind.u64.wrap n = n := by rw [IntKind.wrap_u64]; omega
  have HHas := Lib.hid (fun (W : World) (hb : Below w.heap.size w W) (g : Int) => rHas_any (mv := .map (some mb)) (HL.below h hb) hl n g rfl)
  have HN1 := Lib.hid hn1
  have HALL := Lib.hid (err_all (n := n) (hs := hs) (addr := addr) (s := 2) hn1 (by omega))
  have HBAD := Lib.hid (fun i => err_bad (n := n) (hs := hs) (addr := addr) (s := 2) (i := i) (by omega))
  obtain ⟨len, hlen⟩ : ∃ l, l = hs.length := ⟨_, rfl⟩
  rw [← hlen] at HHas ⊢
  clear h hl ha hn1 hlen
  go_enter Try.func18, Try.ntmps18
  go_wp2_with fail
  obtain ⟨w1, hw1⟩ : ∃ w1, w1 = w.alloc (.cells #[.int .i64 n, .slice A len cap, .map (some mb)] 40) := ⟨_, rfl⟩
  have k3 : w1.heap[w.heap.size]? = some (.cells #[.int .i64 n, .slice A len cap, .map (some mb)] 40 (0, 0)) := by rw [hw1]; exact heap_new _ _
  have hB1 : Below w.heap.size w w1 := by rw [hw1]; exact (Below.refl _ _).alloc (Nat.le_refl _) _
  rw [← hw1]
  clear hw1
  go_loopw [7] (fun i wr => ∃ k : Nat, i = .int .i64 k ∧ k ≤ 2 ∧ Below w.heap.size w wr ∧ wr.heap[w.heap.size]? = some (.cells #[.int .i64 n, .slice A len cap, .map (some mb)] 40 (0, 0)) ∧ Hid (∀ i, i < k → goodI n hs addr i)) (fun i _ => 2 - (intOf i).toNat)
  case atStart => exact ⟨0, rfl, by omega, hB1, k3, Lib.hid fun i hi => by omega⟩
  case round =>
    clear k3 hB1
    obtain ⟨k, rfl, hle, hB, k3, HG⟩ := hrel
    by_cases hlt : k < 2
    · have f0 : decide ((k : Int) < 2) = true := decide_eq_true (by omega)
      have f1 : decide (k < 2) = true := decide_eq_true hlt
      have q0 : IntKind.u64.wrap (k : Int) = k := by rw [IntKind.wrap_u64]; omega
      have c0 : wr.cell? ⟨w.heap.size, 0, none⟩ = some (.int .i64 n) := cell_heap k3 0
      have c1 : wr.cell? ⟨w.heap.size, 1, none⟩ = some (.slice A len cap) := cell_heap k3 1
      have c2 : wr.cell? ⟨w.heap.size, 2, none⟩ = some (.map (some mb)) := cell_heap k3 2
      have hsz := heap_lt k3
      have K3 := Lib.hid k3
      have HB := Lib.hid hB
      clear k3
      by_cases ho : addr + k < 18446744073709551616
      · obtain ⟨an, han⟩ : ∃ an, an = addr + k := ⟨_, rfl⟩
        have q1 : IntKind.u64.wrap ((addr : Int) + k) = (an : Int) := by rw [IntKind.wrap_u64]; omega
        have q1b : IntKind.u64.wrap (an : Int) = (an : Int) := by rw [IntKind.wrap_u64]; omega
        have q2 : decide ((an : Int) < (addr : Int)) = false := decide_eq_false (by omega)
        have q2b : decide (an < addr) = false := decide_eq_false (by omega)
        obtain ⟨f, hf, q3, q4, q8, q9, q10, q11, q5, q6, q7⟩ := page_parts an (by omega)
        have HGI : Hid (goodI n hs addr k ↔ hasF n hs (f : Int) = true) := Lib.hid (by unfold goodI; rw [← han, ← hf]; exact ⟨fun h => h.2, fun h => ⟨han ▸ ho, h⟩⟩)
        clear ho han hf q9 q10 q8
        by_cases t1 : (f : Int) < n
        · have u1 : decide (n ≤ (f : Int)) = false := decide_eq_false (Int.not_le.2 t1)
          have HC_ := HHas.out wr hB (f : Int)
          cases hh : hasF n hs (f : Int)
          · rw [hh] at HC_
            have HC := Lib.hid HC_
            have HR : Hid (errF n hs addr 2 = 2) := Lib.hid (HBAD.out k hlt (fun h => by rw [HGI.out, hh] at h; cases h))
            clear HC_ hh t1 hB
            go_wp2_with fail
            refine HC.out.mono ?_
            rintro e w2 ⟨rfl, hb2⟩
            have hB2 := Lib.hid (b_then HB.out hb2)
            clear hb2
            go_wp2
            go_returns
            exact ⟨ret_v (by rw [HR.out]; rfl), hB2.out⟩
          · rw [hh] at HC_
            have HC := Lib.hid HC_
            have HG' : Hid (∀ i, i < k + 1 → goodI n hs addr i) := Lib.hid fun i hi => by
              by_cases hik : i < k
              · exact HG.out i hik
              · obtain rfl : i = k := Nat.le_antisymm (Nat.lt_succ_iff.1 hi) (Nat.not_lt.1 hik)
                exact HGI.out.2 hh
            clear HC_ hh t1 hB
            go_wp2_with fail
            refine HC.out.mono ?_
            rintro e w2 ⟨rfl, hb2⟩
            have hB2 := Lib.hid (b_then HB.out hb2)
            have K3' := Lib.hid (heap_below hb2 K3.out)
            clear hb2
            go_wp2
            go_roundw
            case rel => exact ⟨k + 1, by go_num, by omega, hB2.out, K3'.out, HG'⟩
            case measure => simp [intOf]; omega
        · have u1 : decide (n ≤ (f : Int)) = true := decide_eq_true (Int.not_lt.1 t1)
          have HR : Hid (errF n hs addr 2 = 2) := Lib.hid (HBAD.out k hlt (fun h => t1 (hasF_lt (HGI.out.1 h))))
          clear t1 hB
          go_wp2
          go_returns
          exact ⟨ret_v (by rw [HR.out]; rfl), HB.out⟩
      · have ho2 : addr + k - 18446744073709551616 < addr := by have := HA.out; omega
        obtain ⟨an, han⟩ : ∃ an, an = addr + k - 18446744073709551616 := ⟨_, rfl⟩
        have q1 : IntKind.u64.wrap ((addr : Int) + k) = (an : Int) := by rw [IntKind.wrap_u64]; have := HA.out; omega
        have q2 : decide ((an : Int) < (addr : Int)) = true := decide_eq_true (by omega)
        have q2b : decide (an < addr) = true := decide_eq_true (by omega)
        have HR : Hid (errF n hs addr 2 = 2) := Lib.hid (HBAD.out k hlt (fun h => ho h.1))
        clear ho ho2 han hB
        go_wp2
        go_returns
        exact ⟨ret_v (by rw [HR.out]; rfl), HB.out⟩
    · have f0 : decide ((k : Int) < 2) = false := decide_eq_false (by omega)
      have f1 : decide (k < 2) = false := decide_eq_false hlt
      obtain rfl : k = 2 := by omega
      have HR : Hid (errF n hs addr 2 = 0) := Lib.hid (HALL.out HG.out)
      have HB := Lib.hid hB
      clear k3 hB
      go_wp2
      go_returns
      exact ⟨ret_v (by rw [HR.out]; rfl), HB.out⟩
set_option maxRecDepth 10000 in
set_option maxHeartbeats 1000000 in
theorem rError4 {w : World} {A : Option Addr} {cap mb : Nat} {hs : Hs} (h : HL w 0 (.slice A hs.length cap) hs) (hl : hs.length < 4611686018427387904) (n : Int) (hn0 : 0 < n) (hn1 : n ≤ 1048576) (addr : Nat) (ha : addr < 18446744073709551616) :
    Calls Try.prog 18 #[rV n (.slice A hs.length cap) mb, .int .u64 addr, .int .i64 4] w fun e w' => e = .returned (.int .i64 (errF n hs addr 4)) ∧ Below w.heap.size w w' := by
  have H := Lib.hid h
  have HLN := Lib.hid hl
  have HA := Lib.hid ha
  have kn : IntKind.u64.wrap n = n := by rw [IntKind.wrap_u64]; omega
  have HHas := Lib.hid (fun (W : World) (hb : Below w.heap.size w W) (g : Int) => rHas_any (mv := .map (some mb)) (HL.below h hb) hl n g rfl)
  have HN1 := Lib.hid hn1
  have HALL := Lib.hid (err_all (n := n) (hs := hs) (addr := addr) (s := 4) hn1 (by omega))
  have HBAD := Lib.hid (fun i => err_bad (n := n) (hs := hs) (addr := addr) (s := 4) (i := i) (by omega))
  obtain ⟨len, hlen⟩ : ∃ l, l = hs.length := ⟨_, rfl⟩
  rw [← hlen] at HHas ⊢
  clear h hl ha hn1 hlen
  go_enter Try.func18, Try.ntmps18
  go_wp2_with fail
  obtain ⟨w1, hw1⟩ : ∃ w1, w1 = w.alloc (.cells #[.int .i64 n, .slice A len cap, .map (some mb)] 40) := ⟨_, rfl⟩
  have k3 : w1.heap[w.heap.size]? = some (.cells #[.int .i64 n, .slice A len cap, .map (some mb)] 40 (0, 0)) := by rw [hw1]; exact heap_new _ _
  have hB1 : Below w.heap.size w w1 := by rw [hw1]; exact (Below.refl _ _).alloc (Nat.le_refl _) _
  rw [← hw1]
  clear hw1
  go_loopw [7] (fun i wr => ∃ k : Nat, i = .int .i64 k ∧ k ≤ 4 ∧ Below w.heap.size w wr ∧ wr.heap[w.heap.size]? = some (.cells #[.int .i64 n, .slice A len cap, .map (some mb)] 40 (0, 0)) ∧ Hid (∀ i, i < k → goodI n hs addr i)) (fun i _ => 4 - (intOf i).toNat)
  case atStart => exact ⟨0, rfl, by omega, hB1, k3, Lib.hid fun i hi => by omega⟩
  case round =>
    clear k3 hB1
    obtain ⟨k, rfl, hle, hB, k3, HG⟩ := hrel
    by_cases hlt : k < 4
    · have f0 : decide ((k : Int) < 4) = true := decide_eq_true (by omega)
      have f1 : decide (k < 4) = true := decide_eq_true hlt
      have q0 : IntKind.u64.wrap (k : Int) = k := by rw [IntKind.wrap_u64]; omega
      have c0 : wr.cell? ⟨w.heap.size, 0, none⟩ = some (.int .i64 n) := cell_heap k3 0
      have c1 : wr.cell? ⟨w.heap.size, 1, none⟩ = some (.slice A len cap) := cell_heap k3 1
      have c2 : wr.cell? ⟨w.heap.size, 2, none⟩ = some (.map (some mb)) := cell_heap k3 2
      have hsz := heap_lt k3
      have K3 := Lib.hid k3
      have HB := Lib.hid hB
      clear k3
      by_cases ho : addr + k < 18446744073709551616
      · obtain ⟨an, han⟩ : ∃ an, an = addr + k := ⟨_, rfl⟩
        have q1 : IntKind.u64.wrap ((addr : Int) + k) = (an : Int) := by rw [IntKind.wrap_u64]; omega
        have q1b : IntKind.u64.wrap (an : Int) = (an : Int) := by rw [IntKind.wrap_u64]; omega
        have q2 : decide ((an : Int) < (addr : Int)) = false := decide_eq_false (by omega)
        have q2b : decide (an < addr) = false := decide_eq_false (by omega)
        obtain ⟨f, hf, q3, q4, q8, q9, q10, q11, q5, q6, q7⟩ := page_parts an (by omega)
        have HGI : Hid (goodI n hs addr k ↔ hasF n hs (f : Int) = true) := Lib.hid (by unfold goodI; rw [← han, ← hf]; exact ⟨fun h => h.2, fun h => ⟨han ▸ ho, h⟩⟩)
        clear ho han hf q9 q10 q8
        by_cases t1 : (f : Int) < n
        · have u1 : decide (n ≤ (f : Int)) = false := decide_eq_false (Int.not_le.2 t1)
          have HC_ := HHas.out wr hB (f : Int)
          cases hh : hasF n hs (f : Int)
          · rw [hh] at HC_
            have HC := Lib.hid HC_
            have HR : Hid (errF n hs addr 4 = 2) := Lib.hid (HBAD.out k hlt (fun h => by rw [HGI.out, hh] at h; cases h))
            clear HC_ hh t1 hB
            go_wp2_with fail
            refine HC.out.mono ?_
            rintro e w2 ⟨rfl, hb2⟩
            have hB2 := Lib.hid (b_then HB.out hb2)
            clear hb2
            go_wp2
            go_returns
            exact ⟨ret_v (by rw [HR.out]; rfl), hB2.out⟩
          · rw [hh] at HC_
            have HC := Lib.hid HC_
            have HG' : Hid (∀ i, i < k + 1 → goodI n hs addr i) := Lib.hid fun i hi => by
              by_cases hik : i < k
              · exact HG.out i hik
              · obtain rfl : i = k := Nat.le_antisymm (Nat.lt_succ_iff.1 hi) (Nat.not_lt.1 hik)
                exact HGI.out.2 hh
            clear HC_ hh t1 hB
            go_wp2_with fail
            refine HC.out.mono ?_
            rintro e w2 ⟨rfl, hb2⟩
            have hB2 := Lib.hid (b_then HB.out hb2)
            have K3' := Lib.hid (heap_below hb2 K3.out)
            clear hb2
            go_wp2
            go_roundw
            case rel => exact ⟨k + 1, by go_num, by omega, hB2.out, K3'.out, HG'⟩
            case measure => simp [intOf]; omega
        · have u1 : decide (n ≤ (f : Int)) = true := decide_eq_true (Int.not_lt.1 t1)
          have HR : Hid (errF n hs addr 4 = 2) := Lib.hid (HBAD.out k hlt (fun h => t1 (hasF_lt (HGI.out.1 h))))
          clear t1 hB
          go_wp2
          go_returns
          exact ⟨ret_v (by rw [HR.out]; rfl), HB.out⟩
      · have ho2 : addr + k - 18446744073709551616 < addr := by have := HA.out; omega
        obtain ⟨an, han⟩ : ∃ an, an = addr + k - 18446744073709551616 := ⟨_, rfl⟩
        have q1 : IntKind.u64.wrap ((addr : Int) + k) = (an : Int) := by rw [IntKind.wrap_u64]; have := HA.out; omega
        have q2 : decide ((an : Int) < (addr : Int)) = true := decide_eq_true (by omega)
        have q2b : decide (an < addr) = true := decide_eq_true (by omega)
        have HR : Hid (errF n hs addr 4 = 2) := Lib.hid (HBAD.out k hlt (fun h => ho h.1))
        clear ho ho2 han hB
        go_wp2
        go_returns
        exact ⟨ret_v (by rw [HR.out]; rfl), HB.out⟩
    · have f0 : decide ((k : Int) < 4) = false := decide_eq_false (by omega)
      have f1 : decide (k < 4) = false := decide_eq_false hlt
      obtain rfl : k = 4 := by omega
      have HR : Hid (errF n hs addr 4 = 0) := Lib.hid (HALL.out HG.out)
      have HB := Lib.hid hB
      clear k3 hB
      go_wp2
      go_returns
      exact ⟨ret_v (by rw [HR.out]; rfl), HB.out⟩
set_option maxRecDepth 10000 in
set_option maxHeartbeats 1000000 in
theorem rError8 {w : World} {A : Option Addr} {cap mb : Nat} {hs : Hs} (h : HL w 0 (.slice A hs.length cap) hs) (hl : hs.length < 4611686018427387904) (n : Int) (hn0 : 0 < n) (hn1 : n ≤ 1048576) (addr : Nat) (ha : addr < 18446744073709551616) :
    Calls Try.prog 18 #[rV n (.slice A hs.length cap) mb, .int .u64 addr, .int .i64 8] w fun e w' => e = .returned (.int .i64 (errF n hs addr 8)) ∧ Below w.heap.size w w' := by
  have H := Lib.hid h
  have HLN := Lib.hid hl
  have HA := Lib.hid ha
  have kn : IntKind.u64.wrap n = n := by rw [IntKind.wrap_u64]; omega
  have HHas := Lib.hid (fun (W : World) (hb : Below w.heap.size w W) (g : Int) => rHas_any (mv := .map (some mb)) (HL.below h hb) hl n g rfl)
  have HN1 := Lib.hid hn1
  have HALL := Lib.hid (err_all (n := n) (hs := hs) (addr := addr) (s := 8) hn1 (by omega))
  have HBAD := Lib.hid (fun i => err_bad (n := n) (hs := hs) (addr := addr) (s := 8) (i := i) (by omega))
  obtain ⟨len, hlen⟩ : ∃ l, l = hs.length := ⟨_, rfl⟩
  rw [← hlen] at HHas ⊢
  clear h hl ha hn1 hlen
  go_enter Try.func18, Try.ntmps18
  go_wp2_with fail
  obtain ⟨w1, hw1⟩ : ∃ w1, w1 = w.alloc (.cells #[.int .i64 n, .slice A len cap, .map (some mb)] 40) := ⟨_, rfl⟩
  have k3 : w1.heap[w.heap.size]? = some (.cells #[.int .i64 n, .slice A len cap, .map (some mb)] 40 (0, 0)) := by rw [hw1]; exact heap_new _ _
  have hB1 : Below w.heap.size w w1 := by rw [hw1]; exact (Below.refl _ _).alloc (Nat.le_refl _) _
  rw [← hw1]
  clear hw1
  go_loopw [7] (fun i wr => ∃ k : Nat, i = .int .i64 k ∧ k ≤ 8 ∧ Below w.heap.size w wr ∧ wr.heap[w.heap.size]? = some (.cells #[.int .i64 n, .slice A len cap, .map (some mb)] 40 (0, 0)) ∧ Hid (∀ i, i < k → goodI n hs addr i)) (fun i _ => 8 - (intOf i).toNat)
  case atStart => exact ⟨0, rfl, by omega, hB1, k3, Lib.hid fun i hi => by omega⟩
  case round =>
    clear k3 hB1
    obtain ⟨k, rfl, hle, hB, k3, HG⟩ := hrel
    by_cases hlt : k < 8
    · have f0 : decide ((k : Int) < 8) = true := decide_eq_true (by omega)
      have f1 : decide (k < 8) = true := decide_eq_true hlt
      have q0 : IntKind.u64.wrap (k : Int) = k := by rw [IntKind.wrap_u64]; omega
      have c0 : wr.cell? ⟨w.heap.size, 0, none⟩ = some (.int .i64 n) := cell_heap k3 0
      have c1 : wr.cell? ⟨w.heap.size, 1, none⟩ = some (.slice A len cap) := cell_heap k3 1
      have c2 : wr.cell? ⟨w.heap.size, 2, none⟩ = some (.map (some mb)) := cell_heap k3 2
      have hsz := heap_lt k3
      have K3 := Lib.hid k3
      have HB := Lib.hid hB
      clear k3
      by_cases ho : addr + k < 18446744073709551616
      · obtain ⟨an, han⟩ : ∃ an, an = addr + k := ⟨_, rfl⟩
        have q1 : IntKind.u64.wrap ((addr : Int) + k) = (an : Int) := by rw [IntKind.wrap_u64]; omega
        have q1b : IntKind.u64.wrap (an : Int) = (an : Int) := by rw [IntKind.wrap_u64]; omega
        have q2 : decide ((an : Int) < (addr : Int)) = false := decide_eq_false (by omega)
        have q2b : decide (an < addr) = false := decide_eq_false (by omega)
        obtain ⟨f, hf, q3, q4, q8, q9, q10, q11, q5, q6, q7⟩ := page_parts an (by omega)
        have HGI : Hid (goodI n hs addr k ↔ hasF n hs (f : Int) = true) := Lib.hid (by unfold goodI; rw [← han, ← hf]; exact ⟨fun h => h.2, fun h => ⟨han ▸ ho, h⟩⟩)
        clear ho han hf q9 q10 q8
        by_cases t1 : (f : Int) < n
        · have u1 : decide (n ≤ (f : Int)) = false := decide_eq_false (Int.not_le.2 t1)
          have HC_ := HHas.out wr hB (f : Int)
          cases hh : hasF n hs (f : Int)
          · rw [hh] at HC_
            have HC := Lib.hid HC_
            have HR : Hid (errF n hs addr 8 = 2) := Lib.hid (HBAD.out k hlt (fun h => by rw [HGI.out, hh] at h; cases h))
            clear HC_ hh t1 hB
            go_wp2_with fail
            refine HC.out.mono ?_
            rintro e w2 ⟨rfl, hb2⟩
            have hB2 := Lib.hid (b_then HB.out hb2)
            clear hb2
            go_wp2
            go_returns
            exact ⟨ret_v (by rw [HR.out]; rfl), hB2.out⟩
          · rw [hh] at HC_
            have HC := Lib.hid HC_
            have HG' : Hid (∀ i, i < k + 1 → goodI n hs addr i) := Lib.hid fun i hi => by
              by_cases hik : i < k
              · exact HG.out i hik
              · obtain rfl : i = k := Nat.le_antisymm (Nat.lt_succ_iff.1 hi) (Nat.not_lt.1 hik)
                exact HGI.out.2 hh
            clear HC_ hh t1 hB
            go_wp2_with fail
            refine HC.out.mono ?_
            rintro e w2 ⟨rfl, hb2⟩
            have hB2 := Lib.hid (b_then HB.out hb2)
            have K3' := Lib.hid (heap_below hb2 K3.out)
            clear hb2
            go_wp2
            go_roundw
            case rel => exact ⟨k + 1, by go_num, by omega, hB2.out, K3'.out, HG'⟩
            case measure => simp [intOf]; omega
        · have u1 : decide (n ≤ (f : Int)) = true := decide_eq_true (Int.not_lt.1 t1)
          have HR : Hid (errF n hs addr 8 = 2) := Lib.hid (HBAD.out k hlt (fun h => t1 (hasF_lt (HGI.out.1 h))))
          clear t1 hB
          go_wp2
          go_returns
          exact ⟨ret_v (by rw [HR.out]; rfl), HB.out⟩
      · have ho2 : addr + k - 18446744073709551616 < addr := by have := HA.out; omega
        obtain ⟨an, han⟩ : ∃ an, an = addr + k - 18446744073709551616 := ⟨_, rfl⟩
        have q1 : IntKind.u64.wrap ((addr : Int) + k) = (an : Int) := by rw [IntKind.wrap_u64]; have := HA.out; omega
        have q2 : decide ((an : Int) < (addr : Int)) = true := decide_eq_true (by omega)
        have q2b : decide (an < addr) = true := decide_eq_true (by omega)
        have HR : Hid (errF n hs addr 8 = 2) := Lib.hid (HBAD.out k hlt (fun h => ho h.1))
        clear ho ho2 han hB
        go_wp2
        go_returns
        exact ⟨ret_v (by rw [HR.out]; rfl), HB.out⟩
    · have f0 : decide ((k : Int) < 8) = false := decide_eq_false (by omega)
      have f1 : decide (k < 8) = false := decide_eq_false hlt
      obtain rfl : k = 8 := by omega
      have HR : Hid (errF n hs addr 8 = 0) := Lib.hid (HALL.out HG.out)
      have HB := Lib.hid hB
      clear k3 hB
      go_wp2
      go_returns
      exact ⟨ret_v (by rw [HR.out]; rfl), HB.out⟩
set_option maxRecDepth 10000 in
set_option maxHeartbeats 1000000 in
theorem rError_any {w : World} {v : Value} {mb : Nat} {hs : Hs} (h : HL w 0 v hs) (hl : hs.length < 4611686018427387904) (n : Int) (hn0 : 0 < n) (hn1 : n ≤ 1048576) (addr : Nat) (ha : addr < 18446744073709551616) (size : Int) :
    Calls Try.prog 18 #[rV n v mb, .int .u64 addr, .int .i64 size] w fun e w' => e = .returned (.int .i64 (errF n hs addr size)) ∧ Below w.heap.size w w' := by
  obtain ⟨A, cap, rfl⟩ := HL.form h
  by_cases h1 : size = 1
  · subst h1; exact rError1 h hl n hn0 hn1 addr ha
  by_cases h2 : size = 2
  · subst h2; exact rError2 h hl n hn0 hn1 addr ha
  by_cases h4 : size = 4
  · subst h4; exact rError4 h hl n hn0 hn1 addr ha
  by_cases h8 : size = 8
  · subst h8; exact rError8 h hl n hn0 hn1 addr ha
  have d1 : (size != 1) = true := by simpa using h1
  have d2 : (size != 2) = true := by simpa using h2
  have d4 : (size != 4) = true := by simpa using h4
  have d8 : (size != 8) = true := by simpa using h8
  have HR : Hid (errF n hs addr size = 1) := Lib.hid (errF_size (by omega))
  obtain ⟨len, hlen⟩ : ∃ l, l = hs.length := ⟨_, rfl⟩
  rw [← hlen]
  clear h1 h2 h4 h8 hlen h hl
  go_enter Try.func18, Try.ntmps18
  go_wp2
  go_returns
  exact ⟨ret_v (by rw [HR.out]; rfl), by go_grown⟩
end Go.Proofs.Ytnjjeedalmikaaa
