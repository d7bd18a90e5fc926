/- RamBack: what was stored is loaded again, and bytes beside it stay. No condition. -/
import Derived.Test.YtnjjeedalmikaaaRamFrames
namespace Go.Proofs.Ytnjjeedalmikaaa
open Go.ChangeShapes Go.WideShapes Go.ChangeAt Go.RowKit
set_option linter.unusedVariables false
set_option linter.unusedSimpArgs false
theorem load1_in {w : World} {base b m : Nat} {n : Int} {mem : Nat → Nat} (h : RamAt w base b m n [] mem) (addr : Nat) (h1 : (addr : Int) + 1 ≤ n * 4096) :
    Calls Try.prog 11 #[ptr b, .int .u64 addr, .int .i64 1] w fun e w' => e = .returned (.tuple #[.int .u64 (mem addr : Nat), .int .i64 0]) ∧ Below w.heap.size w w' := by
  have := load_in h addr 1 (by omega) h1
  have e : loadF mem addr 1 = mem addr := by simp [loadF]
  rw [e] at this
  exact this
theorem load1_out {w : World} {base b m : Nat} {n : Int} {mem : Nat → Nat} (h : RamAt w base b m n [] mem) (addr : Nat) (h1 : n * 4096 ≤ addr) (h2 : addr < 18446744073709551616) :
    Calls Try.prog 11 #[ptr b, .int .u64 addr, .int .i64 1] w fun e w' => e = .returned (.tuple #[.int .u64 0, .int .i64 2]) ∧ Below w.heap.size w w' := by
  have hE : errF n [] (addr : Int) 1 = 2 := by
    unfold errF
    rw [if_pos (.inl rfl), if_neg (by intro h; omega)]
  have := load_any h addr 1 h2
  unfold loadR at this
  rwa [hE] at this
theorem shr_byte (x k : Nat) : (x : Int) / 2 ^ (8 * (k : Int)).toNat = ((x / 256 ^ k : Nat) : Int) := shift_nat x k
theorem addr_wrap {addr k : Nat} (h : addr + k < 18446744073709551616) : IntKind.u64.wrap ((addr : Int) + k) = ((addr + k : Nat) : Int) := by rw [IntKind.wrap_u64]; omega
set_option maxRecDepth 10000 in
set_option maxHeartbeats 2000000 in
theorem back_err (addr x o : Nat) (size : Int) (ha : addr < 18446744073709551616) (hx : x < 18446744073709551616) (he : errF 4 [] addr size ≠ 0) (w : World) :
    Calls Try.prog 3 #[.int .u64 addr, .int .i64 size, .int .u64 x, .int .u64 o] w fun e w' => e = .returned (.bool true) ∧ Below w.heap.size w w' := by
  have HN := Lib.hid (fun W : World => new_good (HL.nil W 0) (by decide) 4 (by decide))
  obtain ⟨er, her⟩ : ∃ er, er = errF 4 [] addr size := ⟨_, rfl⟩
  have hne : (er != 0) = true := by rw [her]; simpa using he
  have HE := Lib.hid he
  have HER := Lib.hid her
  have HA := Lib.hid ha
  have HXB := Lib.hid hx
  clear he her ha hx
  go_enter Try.func3, Try.ntmps3
  go_wp2_with fail
  refine (HN.out _).mono ?_
  rintro e w1 ⟨b, m, rfl, hR, hb1⟩
  have HS_ := store_any hR addr x size HA.out HXB.out
  rw [if_neg HE.out, ← HER.out] at HS_
  have HS := Lib.hid HS_
  clear HS_
  clear hR
  go_wp2_with fail
  refine HS.out.mono ?_
  rintro e w2 ⟨rfl, hT, hR⟩
  have hB2 := Lib.hid (hT.below hb1 (Nat.le_refl _))
  have HL_ := load_any hR addr size HA.out
  unfold loadR at HL_
  rw [if_neg HE.out, ← HER.out] at HL_
  have HL := Lib.hid HL_
  clear HL_
  clear hR hT hb1 HS
  go_wp2_with fail
  refine HL.out.mono ?_
  rintro e w3 ⟨rfl, hb3⟩
  have hB3 := Lib.hid (b_then hB2.out hb3)
  clear hb3 hB2 HL
  have hee : (er != er) = false := by simp
  go_wp2_with fail
  refine (awake_any _).mono ?_
  rintro e w4 ⟨rfl, hb4⟩
  have hB4 := Lib.hid (b_then hB3.out hb4)
  clear hb4
  go_wp2
  go_returns
  exact ⟨rfl, hB4.out⟩
set_option maxRecDepth 10000 in
set_option maxHeartbeats 4000000 in
theorem back_ok (addr x o s : Nat) (hs : s = 1 ∨ s = 2 ∨ s = 4 ∨ s = 8) (hin : addr + s ≤ 16384) (hx : x < 18446744073709551616) (ho : o < 18446744073709551616) (w : World) :
    Calls Try.prog 3 #[.int .u64 addr, .int .i64 (s : Int), .int .u64 x, .int .u64 o] w fun e w' => e = .returned (.bool true) ∧ Below w.heap.size w w' := by
  have HN := Lib.hid (fun W : World => new_good (HL.nil W 0) (by decide) 4 (by decide))
  have HIN := Lib.hid hin
  have HXB := Lib.hid hx
  have HOB := Lib.hid ho
  have HS := Lib.hid hs
  obtain ⟨M, hM⟩ : ∃ M, M = storeF (fun _ => 0) addr s x := ⟨_, rfl⟩
  have HM := Lib.hid hM
  obtain ⟨v, hv⟩ : ∃ v, v = x % 256 ^ s := ⟨_, rfl⟩
  have HV := Lib.hid hv
  have HMB : Hid (∀ k, k < s → M (addr + k) = x / 256 ^ k % 256) := Lib.hid fun k hk => by
    rw [hM]; unfold storeF; rw [if_pos (by omega), Nat.add_sub_cancel_left]
  have HMO : Hid (o < addr ∨ addr + s ≤ o → M o = 0) := Lib.hid fun h => by
    rw [hM]; unfold storeF; rw [if_neg (by omega)]
  have e1 : IntKind.u64.wrap ((addr : Int) + (s : Int)) = ((addr + s : Nat) : Int) := addr_wrap (by omega)
  obtain ⟨ae, has⟩ : ∃ ae, ae = addr + s := ⟨_, rfl⟩
  rw [← has] at e1
  have HAS := Lib.hid has
  have r1 : s = 8 → v = x := fun h => by rw [hv, h]; exact Nat.mod_eq_of_lt hx
  have r2 : s = 1 → (x : Int) % 256 = (v : Int) := fun h => by rw [hv, h]; rfl
  have r3 : s = 2 → (x : Int) % 65536 = (v : Int) := fun h => by rw [hv, h]; rfl
  have r4 : s = 4 → (x : Int) % 4294967296 = (v : Int) := fun h => by rw [hv, h]; rfl
  have HR1 := Lib.hid r1
  have HR2 := Lib.hid r2
  have HR3 := Lib.hid r3
  have HR4 := Lib.hid r4
  have vb : v < 18446744073709551616 := by rw [hv]; exact Nat.lt_of_le_of_lt (Nat.mod_le _ _) hx
  have k1 : IntKind.u64.wrap (v : Int) = v := by rw [IntKind.wrap_u64]; omega
  have HVB := Lib.hid vb
  clear hin hx ho hM hv has r1 r2 r3 r4 vb hs
  go_enter Try.func3, Try.ntmps3
  go_wp2_with fail
  refine (HN.out _).mono ?_
  rintro e w1 ⟨b, m, rfl, hR, hb1⟩
  have HSt := Lib.hid (store_in hR addr x s HS.out (by have := HIN.out; omega) HXB.out)
  rw [← HM.out] at HSt
  clear hR
  go_wp2_with fail
  refine HSt.out.mono ?_
  rintro e w2 ⟨rfl, hT, hR⟩
  have hB2 := Lib.hid (hT.below hb1 (Nat.le_refl _))
  have HL_ := load_in hR addr s HS.out (by have := HIN.out; omega)
  rw [HM.out, load_same, ← HV.out] at HL_
  have HL := Lib.hid HL_
  clear HL_
  have hR2 := Lib.hid hR
  clear hR hT hb1 HSt
  go_wp2_with fail
  refine HL.out.mono ?_
  rintro e w3 ⟨rfl, hb3⟩
  have hB3 := Lib.hid (b_then hB2.out hb3)
  have hR3 := Lib.hid (hR2.out.below hb3)
  clear hb3 hB2 HL hR2
  rcases HS.out with rfl | rfl | rfl | rfl
  · have q := HR2.out rfl
    have e2 : IntKind.u64.wrap ((addr : Int) + 1) = (ae : Int) := by rw [HAS.out, IntKind.wrap_u64]; have := HIN.out; omega
    have e3 : (addr : Int) + 1 = (ae : Int) := by rw [HAS.out]; omega
    have e4 : IntKind.u64.wrap (ae : Int) = (ae : Int) := by rw [IntKind.wrap_u64]; have := HIN.out; have := HAS.out; omega
    clear e1
    go_wp2_with fail
    clear q
    go_loopw [15] (fun i wr => ∃ k : Nat, i = .int .i64 k ∧ k ≤ 1 ∧ Below w.heap.size w wr ∧ Hid (RamAt wr w.heap.size b m 4 [] M)) (fun i _ => 1 - (intOf i).toNat)
    case atStart => exact ⟨0, rfl, by omega, hB3.out, hR3⟩
    case round =>
      clear hB3 hR3
      obtain ⟨k, rfl, hle, hB, hR⟩ := hrel
      by_cases hlt : k < 1
      · have f0 : decide ((k : Int) < 1) = true := decide_eq_true (by omega)
        have f1 : decide (k < 1) = true := decide_eq_true hlt
        obtain ⟨at_, hat⟩ : ∃ at_, at_ = addr + k := ⟨_, rfl⟩
        have q1 : IntKind.u64.wrap (k : Int) = k := by rw [IntKind.wrap_u64]; omega
        have q2 : IntKind.u64.wrap ((addr : Int) + k) = (at_ : Int) := by rw [hat]; exact addr_wrap (by have := HIN.out; omega)
        obtain ⟨qq, hq⟩ : ∃ q, q = x / 256 ^ k := ⟨_, rfl⟩
        obtain ⟨bx, hbx⟩ : ∃ bx, bx = qq % 256 := ⟨_, rfl⟩
        have hs2 : (x : Int) / 2 ^ (8 * (k : Int)).toNat = (qq : Int) := by rw [hq]; exact shr_byte x k
        have q4 : IntKind.i64.wrap (8 * (k : Int)) = 8 * (k : Int) := mul8 (by omega)
        have q3 : (qq : Int) % 256 = (bx : Int) := by rw [hbx]; rfl
        have q5 : IntKind.u64.wrap (bx : Int) = bx := by rw [IntKind.wrap_u64]; have := byte_lt hbx; omega
        have HL_ := load1_in hR.out at_ (by have := HIN.out; omega)
        rw [hat, HMB.out k hlt, ← hq, ← hbx, ← hat] at HL_
        have HL := Lib.hid HL_
        clear HL_
        have hB' := Lib.hid hB
        clear hat hq hbx hB
        go_wp2_with fail
        refine HL.out.mono ?_
        rintro e w4 ⟨rfl, hb4⟩
        have hB4 := Lib.hid (b_then hB'.out hb4)
        have hR4 := Lib.hid (hR.out.below hb4)
        clear hb4 HL hR hB'
        go_wp2
        go_roundw
        case rel => exact ⟨k + 1, by go_num, by omega, hB4.out, hR4⟩
        case measure => simp [intOf]; omega
      · have f0 : decide ((k : Int) < 1) = false := decide_eq_false (by omega)
        have f1 : decide (k < 1) = false := decide_eq_false hlt
        have hB' := Lib.hid hB
        clear hB
        by_cases ho : o < 16384
        · have HL := Lib.hid (load1_in hR.out o (by omega))
          by_cases hbe : o < addr ∨ addr + 1 ≤ o
          · have hz := HMO.out hbe
            rw [hz] at HL
            have HO := Lib.hid ho
            by_cases h1 : o < addr
            · have g1 : decide (o < addr) = true := decide_eq_true h1
              have g2 : decide ((o : Int) < (addr : Int)) = true := decide_eq_true (by omega)
              clear h1 hbe ho hz
              go_wp2_with fail
              refine HL.out.mono ?_
              rintro e w4 ⟨rfl, hb4⟩
              have hB4 := Lib.hid (b_then hB'.out hb4)
              clear hb4 HL hR hB'
              go_wp2_with fail
              refine (awake_any _).mono ?_
              rintro e w5 ⟨rfl, hb5⟩
              have hB5 := Lib.hid (b_then hB4.out hb5)
              clear hb5 hB4
              go_wp2
              go_returns
              exact ⟨rfl, hB5.out⟩
            · have g1 : decide (o < addr) = false := decide_eq_false h1
              have g2 : decide ((o : Int) < (addr : Int)) = false := decide_eq_false (by omega)
              have g3 : decide (ae ≤ o) = true := decide_eq_true (by have := HAS.out; omega)
              have g4 : decide ((ae : Int) ≤ (o : Int)) = true := decide_eq_true (by have := HAS.out; omega)
              clear h1 hbe ho hz
              go_wp2_with fail
              refine HL.out.mono ?_
              rintro e w4 ⟨rfl, hb4⟩
              have hB4 := Lib.hid (b_then hB'.out hb4)
              clear hb4 HL hR hB'
              go_wp2_with fail
              refine (awake_any _).mono ?_
              rintro e w5 ⟨rfl, hb5⟩
              have hB5 := Lib.hid (b_then hB4.out hb5)
              clear hb5 hB4
              go_wp2
              go_returns
              exact ⟨rfl, hB5.out⟩
          · have g1 : decide (o < addr) = false := decide_eq_false (by omega)
            have g2 : decide ((o : Int) < (addr : Int)) = false := decide_eq_false (by omega)
            have g3 : decide (ae ≤ o) = false := decide_eq_false (by have := HAS.out; omega)
            have g4 : decide ((ae : Int) ≤ (o : Int)) = false := decide_eq_false (by have := HAS.out; omega)
            obtain ⟨mo, hmo⟩ : ∃ mo, mo = M o := ⟨_, rfl⟩
            rw [← hmo] at HL
            clear hbe ho hmo
            go_wp2_with fail
            refine HL.out.mono ?_
            rintro e w4 ⟨rfl, hb4⟩
            have hB4 := Lib.hid (b_then hB'.out hb4)
            clear hb4 HL hR hB'
            go_wp2_with fail
            refine (awake_any _).mono ?_
            rintro e w5 ⟨rfl, hb5⟩
            have hB5 := Lib.hid (b_then hB4.out hb5)
            clear hb5 hB4
            go_wp2
            go_returns
            exact ⟨rfl, hB5.out⟩
        · have HL := Lib.hid (load1_out hR.out o (by omega) HOB.out)
          have g5 : decide (16384 ≤ o) = true := decide_eq_true (by omega)
          have g6 : decide ((16384 : Int) ≤ (o : Int)) = true := decide_eq_true (by omega)
          have g3 : decide (ae ≤ o) = true := decide_eq_true (by have := HAS.out; have := HIN.out; omega)
          have g4 : decide ((ae : Int) ≤ (o : Int)) = true := decide_eq_true (by have := HAS.out; have := HIN.out; omega)
          have g1 : decide (o < addr) = false := decide_eq_false (by have := HIN.out; omega)
          have g2 : decide ((o : Int) < (addr : Int)) = false := decide_eq_false (by have := HIN.out; omega)
          clear ho
          go_wp2_with fail
          refine HL.out.mono ?_
          rintro e w4 ⟨rfl, hb4⟩
          have hB4 := Lib.hid (b_then hB'.out hb4)
          clear hb4 HL hR hB'
          go_wp2_with fail
          refine (awake_any _).mono ?_
          rintro e w5 ⟨rfl, hb5⟩
          have hB5 := Lib.hid (b_then hB4.out hb5)
          clear hb5 hB4
          go_wp2
          go_returns
          exact ⟨rfl, hB5.out⟩
  · have q := HR3.out rfl
    have e2 : IntKind.u64.wrap ((addr : Int) + 2) = (ae : Int) := by rw [HAS.out, IntKind.wrap_u64]; have := HIN.out; omega
    have e3 : (addr : Int) + 2 = (ae : Int) := by rw [HAS.out]; omega
    have e4 : IntKind.u64.wrap (ae : Int) = (ae : Int) := by rw [IntKind.wrap_u64]; have := HIN.out; have := HAS.out; omega
    clear e1
    go_wp2_with fail
    clear q
    go_loopw [15] (fun i wr => ∃ k : Nat, i = .int .i64 k ∧ k ≤ 2 ∧ Below w.heap.size w wr ∧ Hid (RamAt wr w.heap.size b m 4 [] M)) (fun i _ => 2 - (intOf i).toNat)
    case atStart => exact ⟨0, rfl, by omega, hB3.out, hR3⟩
    case round =>
      clear hB3 hR3
      obtain ⟨k, rfl, hle, hB, hR⟩ := hrel
      by_cases hlt : k < 2
      · have f0 : decide ((k : Int) < 2) = true := decide_eq_true (by omega)
        have f1 : decide (k < 2) = true := decide_eq_true hlt
        obtain ⟨at_, hat⟩ : ∃ at_, at_ = addr + k := ⟨_, rfl⟩
        have q1 : IntKind.u64.wrap (k : Int) = k := by rw [IntKind.wrap_u64]; omega
        have q2 : IntKind.u64.wrap ((addr : Int) + k) = (at_ : Int) := by rw [hat]; exact addr_wrap (by have := HIN.out; omega)
        obtain ⟨qq, hq⟩ : ∃ q, q = x / 256 ^ k := ⟨_, rfl⟩
        obtain ⟨bx, hbx⟩ : ∃ bx, bx = qq % 256 := ⟨_, rfl⟩
        have hs2 : (x : Int) / 2 ^ (8 * (k : Int)).toNat = (qq : Int) := by rw [hq]; exact shr_byte x k
        have q4 : IntKind.i64.wrap (8 * (k : Int)) = 8 * (k : Int) := mul8 (by omega)
        have q3 : (qq : Int) % 256 = (bx : Int) := by rw [hbx]; rfl
        have q5 : IntKind.u64.wrap (bx : Int) = bx := by rw [IntKind.wrap_u64]; have := byte_lt hbx; omega
        have HL_ := load1_in hR.out at_ (by have := HIN.out; omega)
        rw [hat, HMB.out k hlt, ← hq, ← hbx, ← hat] at HL_
        have HL := Lib.hid HL_
        clear HL_
        have hB' := Lib.hid hB
        clear hat hq hbx hB
        go_wp2_with fail
        refine HL.out.mono ?_
        rintro e w4 ⟨rfl, hb4⟩
        have hB4 := Lib.hid (b_then hB'.out hb4)
        have hR4 := Lib.hid (hR.out.below hb4)
        clear hb4 HL hR hB'
        go_wp2
        go_roundw
        case rel => exact ⟨k + 1, by go_num, by omega, hB4.out, hR4⟩
        case measure => simp [intOf]; omega
      · have f0 : decide ((k : Int) < 2) = false := decide_eq_false (by omega)
        have f1 : decide (k < 2) = false := decide_eq_false hlt
        have hB' := Lib.hid hB
        clear hB
        by_cases ho : o < 16384
        · have HL := Lib.hid (load1_in hR.out o (by omega))
          by_cases hbe : o < addr ∨ addr + 2 ≤ o
          · have hz := HMO.out hbe
            rw [hz] at HL
            have HO := Lib.hid ho
            by_cases h1 : o < addr
            · have g1 : decide (o < addr) = true := decide_eq_true h1
              have g2 : decide ((o : Int) < (addr : Int)) = true := decide_eq_true (by omega)
              clear h1 hbe ho hz
              go_wp2_with fail
              refine HL.out.mono ?_
              rintro e w4 ⟨rfl, hb4⟩
              have hB4 := Lib.hid (b_then hB'.out hb4)
              clear hb4 HL hR hB'
              go_wp2_with fail
              refine (awake_any _).mono ?_
              rintro e w5 ⟨rfl, hb5⟩
              have hB5 := Lib.hid (b_then hB4.out hb5)
              clear hb5 hB4
              go_wp2
              go_returns
              exact ⟨rfl, hB5.out⟩
            · have g1 : decide (o < addr) = false := decide_eq_false h1
              have g2 : decide ((o : Int) < (addr : Int)) = false := decide_eq_false (by omega)
              have g3 : decide (ae ≤ o) = true := decide_eq_true (by have := HAS.out; omega)
              have g4 : decide ((ae : Int) ≤ (o : Int)) = true := decide_eq_true (by have := HAS.out; omega)
              clear h1 hbe ho hz
              go_wp2_with fail
              refine HL.out.mono ?_
              rintro e w4 ⟨rfl, hb4⟩
              have hB4 := Lib.hid (b_then hB'.out hb4)
              clear hb4 HL hR hB'
              go_wp2_with fail
              refine (awake_any _).mono ?_
              rintro e w5 ⟨rfl, hb5⟩
              have hB5 := Lib.hid (b_then hB4.out hb5)
              clear hb5 hB4
              go_wp2
              go_returns
              exact ⟨rfl, hB5.out⟩
          · have g1 : decide (o < addr) = false := decide_eq_false (by omega)
            have g2 : decide ((o : Int) < (addr : Int)) = false := decide_eq_false (by omega)
            have g3 : decide (ae ≤ o) = false := decide_eq_false (by have := HAS.out; omega)
            have g4 : decide ((ae : Int) ≤ (o : Int)) = false := decide_eq_false (by have := HAS.out; omega)
            obtain ⟨mo, hmo⟩ : ∃ mo, mo = M o := ⟨_, rfl⟩
            rw [← hmo] at HL
            clear hbe ho hmo
            go_wp2_with fail
            refine HL.out.mono ?_
            rintro e w4 ⟨rfl, hb4⟩
            have hB4 := Lib.hid (b_then hB'.out hb4)
            clear hb4 HL hR hB'
            go_wp2_with fail
            refine (awake_any _).mono ?_
            rintro e w5 ⟨rfl, hb5⟩
            have hB5 := Lib.hid (b_then hB4.out hb5)
            clear hb5 hB4
            go_wp2
            go_returns
            exact ⟨rfl, hB5.out⟩
        · have HL := Lib.hid (load1_out hR.out o (by omega) HOB.out)
          have g5 : decide (16384 ≤ o) = true := decide_eq_true (by omega)
          have g6 : decide ((16384 : Int) ≤ (o : Int)) = true := decide_eq_true (by omega)
          have g3 : decide (ae ≤ o) = true := decide_eq_true (by have := HAS.out; have := HIN.out; omega)
          have g4 : decide ((ae : Int) ≤ (o : Int)) = true := decide_eq_true (by have := HAS.out; have := HIN.out; omega)
          have g1 : decide (o < addr) = false := decide_eq_false (by have := HIN.out; omega)
          have g2 : decide ((o : Int) < (addr : Int)) = false := decide_eq_false (by have := HIN.out; omega)
          clear ho
          go_wp2_with fail
          refine HL.out.mono ?_
          rintro e w4 ⟨rfl, hb4⟩
          have hB4 := Lib.hid (b_then hB'.out hb4)
          clear hb4 HL hR hB'
          go_wp2_with fail
          refine (awake_any _).mono ?_
          rintro e w5 ⟨rfl, hb5⟩
          have hB5 := Lib.hid (b_then hB4.out hb5)
          clear hb5 hB4
          go_wp2
          go_returns
          exact ⟨rfl, hB5.out⟩
  · have q := HR4.out rfl
    have e2 : IntKind.u64.wrap ((addr : Int) + 4) = (ae : Int) := by rw [HAS.out, IntKind.wrap_u64]; have := HIN.out; omega
    have e3 : (addr : Int) + 4 = (ae : Int) := by rw [HAS.out]; omega
    have e4 : IntKind.u64.wrap (ae : Int) = (ae : Int) := by rw [IntKind.wrap_u64]; have := HIN.out; have := HAS.out; omega
    clear e1
    go_wp2_with fail
    clear q
    go_loopw [15] (fun i wr => ∃ k : Nat, i = .int .i64 k ∧ k ≤ 4 ∧ Below w.heap.size w wr ∧ Hid (RamAt wr w.heap.size b m 4 [] M)) (fun i _ => 4 - (intOf i).toNat)
    case atStart => exact ⟨0, rfl, by omega, hB3.out, hR3⟩
    case round =>
      clear hB3 hR3
      obtain ⟨k, rfl, hle, hB, hR⟩ := hrel
      by_cases hlt : k < 4
      · have f0 : decide ((k : Int) < 4) = true := decide_eq_true (by omega)
        have f1 : decide (k < 4) = true := decide_eq_true hlt
        obtain ⟨at_, hat⟩ : ∃ at_, at_ = addr + k := ⟨_, rfl⟩
        have q1 : IntKind.u64.wrap (k : Int) = k := by rw [IntKind.wrap_u64]; omega
        have q2 : IntKind.u64.wrap ((addr : Int) + k) = (at_ : Int) := by rw [hat]; exact addr_wrap (by have := HIN.out; omega)
        obtain ⟨qq, hq⟩ : ∃ q, q = x / 256 ^ k := ⟨_, rfl⟩
        obtain ⟨bx, hbx⟩ : ∃ bx, bx = qq % 256 := ⟨_, rfl⟩
        have hs2 : (x : Int) / 2 ^ (8 * (k : Int)).toNat = (qq : Int) := by rw [hq]; exact shr_byte x k
        have q4 : IntKind.i64.wrap (8 * (k : Int)) = 8 * (k : Int) := mul8 (by omega)
        have q3 : (qq : Int) % 256 = (bx : Int) := by rw [hbx]; rfl
        have q5 : IntKind.u64.wrap (bx : Int) = bx := by rw [IntKind.wrap_u64]; have := byte_lt hbx; omega
        have HL_ := load1_in hR.out at_ (by have := HIN.out; omega)
        rw [hat, HMB.out k hlt, ← hq, ← hbx, ← hat] at HL_
        have HL := Lib.hid HL_
        clear HL_
        have hB' := Lib.hid hB
        clear hat hq hbx hB
        go_wp2_with fail
        refine HL.out.mono ?_
        rintro e w4 ⟨rfl, hb4⟩
        have hB4 := Lib.hid (b_then hB'.out hb4)
        have hR4 := Lib.hid (hR.out.below hb4)
        clear hb4 HL hR hB'
        go_wp2
        go_roundw
        case rel => exact ⟨k + 1, by go_num, by omega, hB4.out, hR4⟩
        case measure => simp [intOf]; omega
      · have f0 : decide ((k : Int) < 4) = false := decide_eq_false (by omega)
        have f1 : decide (k < 4) = false := decide_eq_false hlt
        have hB' := Lib.hid hB
        clear hB
        by_cases ho : o < 16384
        · have HL := Lib.hid (load1_in hR.out o (by omega))
          by_cases hbe : o < addr ∨ addr + 4 ≤ o
          · have hz := HMO.out hbe
            rw [hz] at HL
            have HO := Lib.hid ho
            by_cases h1 : o < addr
            · have g1 : decide (o < addr) = true := decide_eq_true h1
              have g2 : decide ((o : Int) < (addr : Int)) = true := decide_eq_true (by omega)
              clear h1 hbe ho hz
              go_wp2_with fail
              refine HL.out.mono ?_
              rintro e w4 ⟨rfl, hb4⟩
              have hB4 := Lib.hid (b_then hB'.out hb4)
              clear hb4 HL hR hB'
              go_wp2_with fail
              refine (awake_any _).mono ?_
              rintro e w5 ⟨rfl, hb5⟩
              have hB5 := Lib.hid (b_then hB4.out hb5)
              clear hb5 hB4
              go_wp2
              go_returns
              exact ⟨rfl, hB5.out⟩
            · have g1 : decide (o < addr) = false := decide_eq_false h1
              have g2 : decide ((o : Int) < (addr : Int)) = false := decide_eq_false (by omega)
              have g3 : decide (ae ≤ o) = true := decide_eq_true (by have := HAS.out; omega)
              have g4 : decide ((ae : Int) ≤ (o : Int)) = true := decide_eq_true (by have := HAS.out; omega)
              clear h1 hbe ho hz
              go_wp2_with fail
              refine HL.out.mono ?_
              rintro e w4 ⟨rfl, hb4⟩
              have hB4 := Lib.hid (b_then hB'.out hb4)
              clear hb4 HL hR hB'
              go_wp2_with fail
              refine (awake_any _).mono ?_
              rintro e w5 ⟨rfl, hb5⟩
              have hB5 := Lib.hid (b_then hB4.out hb5)
              clear hb5 hB4
              go_wp2
              go_returns
              exact ⟨rfl, hB5.out⟩
          · have g1 : decide (o < addr) = false := decide_eq_false (by omega)
            have g2 : decide ((o : Int) < (addr : Int)) = false := decide_eq_false (by omega)
            have g3 : decide (ae ≤ o) = false := decide_eq_false (by have := HAS.out; omega)
            have g4 : decide ((ae : Int) ≤ (o : Int)) = false := decide_eq_false (by have := HAS.out; omega)
            obtain ⟨mo, hmo⟩ : ∃ mo, mo = M o := ⟨_, rfl⟩
            rw [← hmo] at HL
            clear hbe ho hmo
            go_wp2_with fail
            refine HL.out.mono ?_
            rintro e w4 ⟨rfl, hb4⟩
            have hB4 := Lib.hid (b_then hB'.out hb4)
            clear hb4 HL hR hB'
            go_wp2_with fail
            refine (awake_any _).mono ?_
            rintro e w5 ⟨rfl, hb5⟩
            have hB5 := Lib.hid (b_then hB4.out hb5)
            clear hb5 hB4
            go_wp2
            go_returns
            exact ⟨rfl, hB5.out⟩
        · have HL := Lib.hid (load1_out hR.out o (by omega) HOB.out)
          have g5 : decide (16384 ≤ o) = true := decide_eq_true (by omega)
          have g6 : decide ((16384 : Int) ≤ (o : Int)) = true := decide_eq_true (by omega)
          have g3 : decide (ae ≤ o) = true := decide_eq_true (by have := HAS.out; have := HIN.out; omega)
          have g4 : decide ((ae : Int) ≤ (o : Int)) = true := decide_eq_true (by have := HAS.out; have := HIN.out; omega)
          have g1 : decide (o < addr) = false := decide_eq_false (by have := HIN.out; omega)
          have g2 : decide ((o : Int) < (addr : Int)) = false := decide_eq_false (by have := HIN.out; omega)
          clear ho
          go_wp2_with fail
          refine HL.out.mono ?_
          rintro e w4 ⟨rfl, hb4⟩
          have hB4 := Lib.hid (b_then hB'.out hb4)
          clear hb4 HL hR hB'
          go_wp2_with fail
          refine (awake_any _).mono ?_
          rintro e w5 ⟨rfl, hb5⟩
          have hB5 := Lib.hid (b_then hB4.out hb5)
          clear hb5 hB4
          go_wp2
          go_returns
          exact ⟨rfl, hB5.out⟩
  · have q8 : x = v := (HR1.out rfl).symm
    subst q8
    have e2 : IntKind.u64.wrap ((addr : Int) + 8) = (ae : Int) := by rw [HAS.out, IntKind.wrap_u64]; have := HIN.out; omega
    have e3 : (addr : Int) + 8 = (ae : Int) := by rw [HAS.out]; omega
    have e4 : IntKind.u64.wrap (ae : Int) = (ae : Int) := by rw [IntKind.wrap_u64]; have := HIN.out; have := HAS.out; omega
    clear e1
    go_wp2_with fail
    go_loopw [15] (fun i wr => ∃ k : Nat, i = .int .i64 k ∧ k ≤ 8 ∧ Below w.heap.size w wr ∧ Hid (RamAt wr w.heap.size b m 4 [] M)) (fun i _ => 8 - (intOf i).toNat)
    case atStart => exact ⟨0, rfl, by omega, hB3.out, hR3⟩
    case round =>
      clear hB3 hR3
      obtain ⟨k, rfl, hle, hB, hR⟩ := hrel
      by_cases hlt : k < 8
      · have f0 : decide ((k : Int) < 8) = true := decide_eq_true (by omega)
        have f1 : decide (k < 8) = true := decide_eq_true hlt
        obtain ⟨at_, hat⟩ : ∃ at_, at_ = addr + k := ⟨_, rfl⟩
        have q1 : IntKind.u64.wrap (k : Int) = k := by rw [IntKind.wrap_u64]; omega
        have q2 : IntKind.u64.wrap ((addr : Int) + k) = (at_ : Int) := by rw [hat]; exact addr_wrap (by have := HIN.out; omega)
        obtain ⟨qq, hq⟩ : ∃ q, q = x / 256 ^ k := ⟨_, rfl⟩
        obtain ⟨bx, hbx⟩ : ∃ bx, bx = qq % 256 := ⟨_, rfl⟩
        have hs2 : (x : Int) / 2 ^ (8 * (k : Int)).toNat = (qq : Int) := by rw [hq]; exact shr_byte x k
        have q4 : IntKind.i64.wrap (8 * (k : Int)) = 8 * (k : Int) := mul8 (by omega)
        have q3 : (qq : Int) % 256 = (bx : Int) := by rw [hbx]; rfl
        have q5 : IntKind.u64.wrap (bx : Int) = bx := by rw [IntKind.wrap_u64]; have := byte_lt hbx; omega
        have HL_ := load1_in hR.out at_ (by have := HIN.out; omega)
        rw [hat, HMB.out k hlt, ← hq, ← hbx, ← hat] at HL_
        have HL := Lib.hid HL_
        clear HL_
        have hB' := Lib.hid hB
        clear hat hq hbx hB
        go_wp2_with fail
        refine HL.out.mono ?_
        rintro e w4 ⟨rfl, hb4⟩
        have hB4 := Lib.hid (b_then hB'.out hb4)
        have hR4 := Lib.hid (hR.out.below hb4)
        clear hb4 HL hR hB'
        go_wp2
        go_roundw
        case rel => exact ⟨k + 1, by go_num, by omega, hB4.out, hR4⟩
        case measure => simp [intOf]; omega
      · have f0 : decide ((k : Int) < 8) = false := decide_eq_false (by omega)
        have f1 : decide (k < 8) = false := decide_eq_false hlt
        have hB' := Lib.hid hB
        clear hB
        by_cases ho : o < 16384
        · have HL := Lib.hid (load1_in hR.out o (by omega))
          by_cases hbe : o < addr ∨ addr + 8 ≤ o
          · have hz := HMO.out hbe
            rw [hz] at HL
            have HO := Lib.hid ho
            by_cases h1 : o < addr
            · have g1 : decide (o < addr) = true := decide_eq_true h1
              have g2 : decide ((o : Int) < (addr : Int)) = true := decide_eq_true (by omega)
              clear h1 hbe ho hz
              go_wp2_with fail
              refine HL.out.mono ?_
              rintro e w4 ⟨rfl, hb4⟩
              have hB4 := Lib.hid (b_then hB'.out hb4)
              clear hb4 HL hR hB'
              go_wp2_with fail
              refine (awake_any _).mono ?_
              rintro e w5 ⟨rfl, hb5⟩
              have hB5 := Lib.hid (b_then hB4.out hb5)
              clear hb5 hB4
              go_wp2
              go_returns
              exact ⟨rfl, hB5.out⟩
            · have g1 : decide (o < addr) = false := decide_eq_false h1
              have g2 : decide ((o : Int) < (addr : Int)) = false := decide_eq_false (by omega)
              have g3 : decide (ae ≤ o) = true := decide_eq_true (by have := HAS.out; omega)
              have g4 : decide ((ae : Int) ≤ (o : Int)) = true := decide_eq_true (by have := HAS.out; omega)
              clear h1 hbe ho hz
              go_wp2_with fail
              refine HL.out.mono ?_
              rintro e w4 ⟨rfl, hb4⟩
              have hB4 := Lib.hid (b_then hB'.out hb4)
              clear hb4 HL hR hB'
              go_wp2_with fail
              refine (awake_any _).mono ?_
              rintro e w5 ⟨rfl, hb5⟩
              have hB5 := Lib.hid (b_then hB4.out hb5)
              clear hb5 hB4
              go_wp2
              go_returns
              exact ⟨rfl, hB5.out⟩
          · have g1 : decide (o < addr) = false := decide_eq_false (by omega)
            have g2 : decide ((o : Int) < (addr : Int)) = false := decide_eq_false (by omega)
            have g3 : decide (ae ≤ o) = false := decide_eq_false (by have := HAS.out; omega)
            have g4 : decide ((ae : Int) ≤ (o : Int)) = false := decide_eq_false (by have := HAS.out; omega)
            obtain ⟨mo, hmo⟩ : ∃ mo, mo = M o := ⟨_, rfl⟩
            rw [← hmo] at HL
            clear hbe ho hmo
            go_wp2_with fail
            refine HL.out.mono ?_
            rintro e w4 ⟨rfl, hb4⟩
            have hB4 := Lib.hid (b_then hB'.out hb4)
            clear hb4 HL hR hB'
            go_wp2_with fail
            refine (awake_any _).mono ?_
            rintro e w5 ⟨rfl, hb5⟩
            have hB5 := Lib.hid (b_then hB4.out hb5)
            clear hb5 hB4
            go_wp2
            go_returns
            exact ⟨rfl, hB5.out⟩
        · have HL := Lib.hid (load1_out hR.out o (by omega) HOB.out)
          have g5 : decide (16384 ≤ o) = true := decide_eq_true (by omega)
          have g6 : decide ((16384 : Int) ≤ (o : Int)) = true := decide_eq_true (by omega)
          have g3 : decide (ae ≤ o) = true := decide_eq_true (by have := HAS.out; have := HIN.out; omega)
          have g4 : decide ((ae : Int) ≤ (o : Int)) = true := decide_eq_true (by have := HAS.out; have := HIN.out; omega)
          have g1 : decide (o < addr) = false := decide_eq_false (by have := HIN.out; omega)
          have g2 : decide ((o : Int) < (addr : Int)) = false := decide_eq_false (by have := HIN.out; omega)
          clear ho
          go_wp2_with fail
          refine HL.out.mono ?_
          rintro e w4 ⟨rfl, hb4⟩
          have hB4 := Lib.hid (b_then hB'.out hb4)
          clear hb4 HL hR hB'
          go_wp2_with fail
          refine (awake_any _).mono ?_
          rintro e w5 ⟨rfl, hb5⟩
          have hB5 := Lib.hid (b_then hB4.out hb5)
          clear hb5 hB4
          go_wp2
          go_returns
          exact ⟨rfl, hB5.out⟩
theorem walk_RamBack (a0 : Int) (a1 : Int) (a2 : Int) (a3 : Int) (w : World) (w0 : (Lit.int .u64 a0).wf = true) (w1 : (Lit.int .i64 a1).wf = true) (w2 : (Lit.int .u64 a2).wf = true) (w3 : (Lit.int .u64 a3).wf = true) :
    Calls Try.prog 3 #[.int .u64 a0, .int .i64 a1, .int .u64 a2, .int .u64 a3] w fun e w' => e = .returned (.bool true) ∧ Below w.heap.size w w' := by
  have b0 := u64_bd w0
  have b2 := u64_bd w2
  have b3 := u64_bd w3
  obtain ⟨addr, rfl⟩ : ∃ n : Nat, a0 = n := ⟨a0.toNat, by have := b0.1; omega⟩
  obtain ⟨x, rfl⟩ : ∃ n : Nat, a2 = n := ⟨a2.toNat, by have := b2.1; omega⟩
  obtain ⟨o, rfl⟩ : ∃ n : Nat, a3 = n := ⟨a3.toNat, by have := b3.1; omega⟩
  by_cases he : errF 4 [] addr a1 = 0
  · obtain ⟨h1, h2, h3, _, _⟩ := errF_good he
    obtain ⟨s, rfl⟩ : ∃ n : Nat, a1 = n := ⟨a1.toNat, by omega⟩
    exact back_ok addr x o s (by omega) (by omega) (by have := b2.2; omega) (by have := b3.2; omega) w
  · exact back_err addr x o a1 (by have := b0.2; omega) (by have := b2.2; omega) he w
end Go.Proofs.Ytnjjeedalmikaaa
