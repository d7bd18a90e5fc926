/- RamFrames: a frame that is zeroed or copied over has nothing of its own left. No condition. -/
import Derived.Test.YtnjjeedalmikaaaRamL
namespace Go.Proofs.Ytnjjeedalmikaaa
open Go.ChangeShapes Go.WideShapes Go.ChangeAt Go.RowKit
set_option linter.unusedVariables false
set_option linter.unusedSimpArgs false
theorem store_in {w : World} {base b m : Nat} {n : Int} {mem : Nat → Nat} (h : RamAt w base b m n [] mem) (addr x : Nat) (s : Nat) (hs : s = 1 ∨ s = 2 ∨ s = 4 ∨ s = 8) (h1 : (addr : Int) + s ≤ n * 4096) (hx : x < 18446744073709551616) :
    Calls Try.prog 10 #[ptr b, .int .u64 addr, .int .i64 s, .int .u64 x] w fun e w' => e = .returned (.int .i64 0) ∧ RT base m w w' ∧ RamAt w' base b m n [] (storeF mem addr s x) := by
  have := h.n1
  have hE : errF n [] (addr : Int) (s : Int) = 0 := errF_in (by omega) (by omega) h1 h.n1
  have := store_any h addr x s (by omega) hx
  rwa [hE, if_pos rfl, Int.toNat_natCast] at this
theorem load_in {w : World} {base b m : Nat} {n : Int} {mem : Nat → Nat} (h : RamAt w base b m n [] mem) (addr : Nat) (s : Nat) (hs : s = 1 ∨ s = 2 ∨ s = 4 ∨ s = 8) (h1 : (addr : Int) + s ≤ n * 4096) :
    Calls Try.prog 11 #[ptr b, .int .u64 addr, .int .i64 s] w fun e w' => e = .returned (.tuple #[.int .u64 (loadF mem addr s : Nat), .int .i64 0]) ∧ Below w.heap.size w w' := by
  have := h.n1
  have hE : errF n [] (addr : Int) (s : Int) = 0 := errF_in (by omega) (by omega) h1 h.n1
  have := load_any h addr s (by omega)
  unfold loadR at this
  rwa [hE, if_pos rfl, Int.toNat_natCast] at this
theorem store8 {w : World} {base b m : Nat} {n : Int} {mem : Nat → Nat} (h : RamAt w base b m n [] mem) (addr x : Nat) (h1 : (addr : Int) + 8 ≤ n * 4096) (hx : x < 18446744073709551616) :
    Calls Try.prog 10 #[ptr b, .int .u64 addr, .int .i64 8, .int .u64 x] w fun e w' => e = .returned (.int .i64 0) ∧ RT base m w w' ∧ RamAt w' base b m n [] (storeF mem addr 8 x) := store_in h addr x 8 (by omega) h1 hx
theorem load8 {w : World} {base b m : Nat} {n : Int} {mem : Nat → Nat} (h : RamAt w base b m n [] mem) (addr : Nat) (h1 : (addr : Int) + 8 ≤ n * 4096) :
    Calls Try.prog 11 #[ptr b, .int .u64 addr, .int .i64 8] w fun e w' => e = .returned (.tuple #[.int .u64 (loadF mem addr 8 : Nat), .int .i64 0]) ∧ Below w.heap.size w w' := load_in h addr 8 (by omega) h1
theorem nat_beq0 (z : Nat) : ((z : Int) == 0) = (z == 0) := by
  by_cases h : z = 0
  · subst h; rfl
  · rw [beq_false_of_ne h, beq_false_of_ne (by omega)]
def frF (p x y z : Nat) : Nat → Nat := storeF (storeF (storeF (fun _ => 0) p 8 x) (4096 + p) 8 y) (8192 + p) 8 z
theorem frF_2 (p x y z : Nat) (hp : p + 8 ≤ 4096) (i : Nat) (hi : i < 4096) : frF p x y z (2 * 4096 + i) = if p ≤ i ∧ i < p + 8 then z / 256 ^ (i - p) % 256 else 0 := by
  unfold frF
  rw [storeF]
  by_cases h : p ≤ i ∧ i < p + 8
  · rw [if_pos h, if_pos (by omega), show 2 * 4096 + i - (8192 + p) = i - p by omega]
  · rw [if_neg h, if_neg (by omega), storeF, if_neg (by omega), storeF, if_neg (by omega)]
set_option maxRecDepth 10000 in
set_option maxHeartbeats 2000000 in
theorem frames_ok (an x y : Nat) (c : Bool) (han : an ≤ 511) (hx : x < 18446744073709551616) (hy : y < 18446744073709551616) (w : World) :
    Calls Try.prog 8 #[.int .i64 an, .int .u64 x, .int .u64 y, .bool c] w fun e w' => e = .returned (.bool true) ∧ Below w.heap.size w w' := by
  have HN := Lib.hid (fun W : World => new_good (HL.nil W 0) (by decide) 3 (by decide))
  have d1 : decide ((an : Int) < 0) = false := decide_eq_false (by omega)
  have d2 : decide (511 < (an : Int)) = false := decide_eq_false (by omega)
  obtain ⟨p, hp⟩ : ∃ p, p = 8 * an := ⟨_, rfl⟩
  have k1 : IntKind.i64.wrap (8 * (an : Int)) = (p : Int) := by rw [IntKind.wrap_i64]; omega
  have k1b : 8 * (an : Int) = (p : Int) := by omega
  have k2 : IntKind.u64.wrap (p : Int) = p := by rw [IntKind.wrap_u64]; omega
  have k5 : wrap64 (p : Int) = p := by unfold wrap64; omega
  have k6 : IntKind.i64.wrap (p : Int) = p := by rw [IntKind.wrap_i64]; omega
  have k3 : IntKind.u64.wrap (4096 + (p : Int)) = ((4096 + p : Nat) : Int) := by rw [IntKind.wrap_u64]; omega
  have k4 : IntKind.u64.wrap (8192 + (p : Int)) = ((8192 + p : Nat) : Int) := by rw [IntKind.wrap_u64]; omega
  obtain ⟨p1, hp1⟩ : ∃ q, q = 4096 + p := ⟨_, rfl⟩
  obtain ⟨p2, hp2⟩ : ∃ q, q = 8192 + p := ⟨_, rfl⟩
  rw [← hp1] at k3
  rw [← hp2] at k4
  obtain ⟨z, hz, hz2⟩ : ∃ z : Nat, IntKind.u64.wrap ((x : Int) + y) = (z : Int) ∧ z < 18446744073709551616 := ⟨(x + y) % 18446744073709551616, by rw [IntKind.wrap_u64]; omega, by omega⟩
  have HP : Hid (p + 8 ≤ 4096) := Lib.hid (by omega)
  have HP1 := Lib.hid hp1
  have HP2 := Lib.hid hp2
  have HXB := Lib.hid hx
  have HYB := Lib.hid hy
  have HZB := Lib.hid hz2
  clear hp hp1 hp2 hx hy hz2 han
  go_enter Try.func8, Try.ntmps8
  go_wp2_with fail
  refine (HN.out _).mono ?_
  rintro e w1 ⟨b, m, rfl, hR, hb1⟩
  have HS := Lib.hid (store8 hR p x (by have := HP.out; omega) HXB.out)
  clear hR
  go_wp2_with fail
  refine HS.out.mono ?_
  rintro e w2 ⟨rfl, hT, hR⟩
  have hB2 := Lib.hid (hT.below hb1 (Nat.le_refl _))
  have HS2 := Lib.hid (store8 hR p1 y (by have := HP.out; have := HP1.out; omega) HYB.out)
  clear hR hT hb1 HS
  go_wp2_with fail
  refine HS2.out.mono ?_
  rintro e w3 ⟨rfl, hT, hR⟩
  have hB3 := Lib.hid (hT.below hB2.out (Nat.le_refl _))
  have HS3 := Lib.hid (store8 hR p2 z (by have := HP.out; have := HP2.out; omega) HZB.out)
  clear hR hT hB2 HS2
  go_wp2_with fail
  refine HS3.out.mono ?_
  rintro e w4 ⟨rfl, hT, hR⟩
  have hB4 := Lib.hid (hT.below hB3.out (Nat.le_refl _))
  have hf : storeF (storeF (storeF (fun _ => 0) p 8 x) p1 8 y) p2 8 z = frF p x y z := by rw [HP1.out, HP2.out]; rfl
  rw [hf] at hR
  clear hT hB3 HS3 hf
  cases c
  · have HZ := Lib.hid (zero_any hR 1 (by decide))
    rw [show hasF 3 [] 1 = true by decide, if_pos rfl, if_pos rfl] at HZ
    clear hR
    go_wp2_with fail
    refine HZ.out.mono ?_
    rintro e w5 ⟨rfl, hT, hR⟩
    have hB5 := Lib.hid (hT.below hB4.out (Nat.le_refl _))
    obtain ⟨M, hM⟩ : ∃ M, M = zeroF (frF p x y z) (1 : Int).toNat := ⟨_, rfl⟩
    rw [← hM] at hR
    have v0 : loadF M p 8 = x := by
      have := HP.out
      rw [hM, show (1 : Int).toNat = 1 from rfl, load_zeroF_far _ _ _ _ (by omega), frF, load_far _ _ _ _ _ _ (by omega), load_far _ _ _ _ _ _ (by omega), load_same, Nat.mod_eq_of_lt HXB.out]
    have v1 : loadF M p1 8 = 0 := by
      have := HP.out
      rw [hM, show (1 : Int).toNat = 1 from rfl, HP1.out, load_zeroF _ _ _ _ (by omega) (by omega)]
    have v2 : loadF M p2 8 = z := by
      have := HP.out
      rw [hM, show (1 : Int).toNat = 1 from rfl, HP2.out, load_zeroF_far _ _ _ _ (by omega), frF, load_same, Nat.mod_eq_of_lt HZB.out]
    have v3 : clearF M 1 = true := by rw [hM]; exact clear_zeroF _ _
    have H1 := Lib.hid (load8 hR p (by have := HP.out; omega))
    rw [v0] at H1
    have hR5 := Lib.hid hR
    clear hT hB4 HZ hM hR
    go_wp2_with fail
    refine H1.out.mono ?_
    rintro e w6 ⟨rfl, hb6⟩
    have H2 := Lib.hid (load8 (hR5.out.below hb6) p1 (by have := HP.out; have := HP1.out; omega))
    rw [v1] at H2
    have hB6 := Lib.hid (b_then hB5.out hb6)
    have hR6 := Lib.hid (hR5.out.below hb6)
    clear hb6 H1 hB5 hR5
    go_wp2_with fail
    refine H2.out.mono ?_
    rintro e w7 ⟨rfl, hb7⟩
    have H3 := Lib.hid (load8 (hR6.out.below hb7) p2 (by have := HP.out; have := HP2.out; omega))
    rw [v2] at H3
    have hB7 := Lib.hid (b_then hB6.out hb7)
    have hR7 := Lib.hid (hR6.out.below hb7)
    clear hb7 H2 hB6 hR6
    go_wp2_with fail
    refine H3.out.mono ?_
    rintro e w8 ⟨rfl, hb8⟩
    have hB8 := Lib.hid (b_then hB7.out hb8)
    have hR8 := Lib.hid (hR7.out.below hb8)
    clear hb8 H3 hB7 hR7
    go_wp2_with fail
    refine (awake_any _).mono ?_
    rintro e w9 ⟨rfl, hb9⟩
    have hB9 := Lib.hid (b_then hB8.out hb9)
    have H4 := Lib.hid (clear_any (hR8.out.below hb9) 1 (by decide))
    rw [v3] at H4
    clear hb9 hB8 hR8 v0 v1 v2 v3
    go_wp2_with fail
    refine H4.out.mono ?_
    rintro e wa ⟨rfl, hba⟩
    have hBa := Lib.hid (b_then hB9.out hba)
    clear hba hB9 H4
    go_wp2
    go_returns
    exact ⟨ret_v (by simp), hBa.out⟩
  · have HZ := Lib.hid (copy_any hR 1 2)
    rw [show (hasF 3 [] 1 && hasF 3 [] 2) = true by decide, if_pos rfl, if_pos rfl] at HZ
    clear hR
    go_wp2_with fail
    refine HZ.out.mono ?_
    rintro e w5 ⟨rfl, hT, hR⟩
    have hB5 := Lib.hid (hT.below hB4.out (Nat.le_refl _))
    obtain ⟨M, hM⟩ : ∃ M, M = copyF (frF p x y z) (1 : Int).toNat (2 : Int).toNat := ⟨_, rfl⟩
    rw [← hM] at hR
    have v0 : loadF M p 8 = x := by
      have := HP.out
      rw [hM, show (1 : Int).toNat = 1 from rfl, load_copyF_far _ _ _ _ _ (by omega), frF, load_far _ _ _ _ _ _ (by omega), load_far _ _ _ _ _ _ (by omega), load_same, Nat.mod_eq_of_lt HXB.out]
    have v1 : loadF M p1 8 = z := by
      have := HP.out
      rw [hM, show (1 : Int).toNat = 1 from rfl, show (2 : Int).toNat = 2 from rfl, HP1.out, show 4096 + p = 1 * 4096 + p by omega, load_copyF _ _ _ _ _ (by omega), show 2 * 4096 + p = 8192 + p by omega, frF, load_same, Nat.mod_eq_of_lt HZB.out]
    have v2 : loadF M p2 8 = z := by
      have := HP.out
      rw [hM, show (1 : Int).toNat = 1 from rfl, HP2.out, load_copyF_far _ _ _ _ _ (by omega), frF, load_same, Nat.mod_eq_of_lt HZB.out]
    have v3 : clearF M 1 = (z == 0) := by
      rw [hM, show (1 : Int).toNat = 1 from rfl, show (2 : Int).toNat = 2 from rfl]
      have hp := HP.out
      refine (clear_one _ 1 p 8 z hp (fun i hi => ?_)).trans (by rw [Nat.mod_eq_of_lt HZB.out])
      unfold copyF
      rw [if_pos (by omega), show (1 * 4096 + i) % 4096 = i by omega, frF_2 p x y z hp i hi]
    have H1 := Lib.hid (load8 hR p (by have := HP.out; omega))
    rw [v0] at H1
    have hR5 := Lib.hid hR
    clear hT hB4 HZ hM hR
    go_wp2_with fail
    refine H1.out.mono ?_
    rintro e w6 ⟨rfl, hb6⟩
    have H2 := Lib.hid (load8 (hR5.out.below hb6) p1 (by have := HP.out; have := HP1.out; omega))
    rw [v1] at H2
    have hB6 := Lib.hid (b_then hB5.out hb6)
    have hR6 := Lib.hid (hR5.out.below hb6)
    clear hb6 H1 hB5 hR5
    go_wp2_with fail
    refine H2.out.mono ?_
    rintro e w7 ⟨rfl, hb7⟩
    have H3 := Lib.hid (load8 (hR6.out.below hb7) p2 (by have := HP.out; have := HP2.out; omega))
    rw [v2] at H3
    have hB7 := Lib.hid (b_then hB6.out hb7)
    have hR7 := Lib.hid (hR6.out.below hb7)
    clear hb7 H2 hB6 hR6
    go_wp2_with fail
    refine H3.out.mono ?_
    rintro e w8 ⟨rfl, hb8⟩
    have hB8 := Lib.hid (b_then hB7.out hb8)
    have hR8 := Lib.hid (hR7.out.below hb8)
    clear hb8 H3 hB7 hR7
    go_wp2_with fail
    refine (awake_any _).mono ?_
    rintro e w9 ⟨rfl, hb9⟩
    have hB9 := Lib.hid (b_then hB8.out hb9)
    have H4 := Lib.hid (clear_any (hR8.out.below hb9) 1 (by decide))
    rw [v3] at H4
    clear hb9 hB8 hR8 v0 v1 v2 v3
    go_wp2_with fail
    refine H4.out.mono ?_
    rintro e wa ⟨rfl, hba⟩
    have hBa := Lib.hid (b_then hB9.out hba)
    clear hba hB9 H4
    go_wp2
    go_returns
    exact ⟨ret_v (by simp [nat_beq0 z]), hBa.out⟩
theorem walk_RamFrames (a0 : Int) (a1 : Int) (a2 : Int) (a3 : Bool) (w : World) (w0 : (Lit.int .i64 a0).wf = true) (w1 : (Lit.int .u64 a1).wf = true) (w2 : (Lit.int .u64 a2).wf = true) :
    Calls Try.prog 8 #[.int .i64 a0, .int .u64 a1, .int .u64 a2, .bool a3] w fun e w' => e = .returned (.bool true) ∧ Below w.heap.size w w' := by
  by_cases h1 : a0 < 0
  · have d1 : decide (a0 < 0) = true := decide_eq_true h1
    clear h1
    go_enter Try.func8, Try.ntmps8
    go_wp2_with fail
    refine (awake_any _).mono ?_
    rintro e wa ⟨rfl, hb⟩
    go_wp2
    go_returns
    exact ⟨rfl, hb⟩
  by_cases h2 : 511 < a0
  · have d1 : decide (a0 < 0) = false := decide_eq_false h1
    have d2 : decide (511 < a0) = true := decide_eq_true h2
    clear h1 h2
    go_enter Try.func8, Try.ntmps8
    go_wp2_with fail
    refine (awake_any _).mono ?_
    rintro e wa ⟨rfl, hb⟩
    go_wp2
    go_returns
    exact ⟨rfl, hb⟩
  have b1 := u64_bd w1
  have b2 := u64_bd w2
  obtain ⟨an, rfl⟩ : ∃ n : Nat, a0 = n := ⟨a0.toNat, by omega⟩
  obtain ⟨x, rfl⟩ : ∃ n : Nat, a1 = n := ⟨a1.toNat, by have := b1.1; omega⟩
  obtain ⟨y, rfl⟩ : ∃ n : Nat, a2 = n := ⟨a2.toNat, by have := b2.1; omega⟩
  exact frames_ok an x y a3 (by omega) (by have := b1.2; omega) (by have := b2.2; omega) w
end Go.Proofs.Ytnjjeedalmikaaa
