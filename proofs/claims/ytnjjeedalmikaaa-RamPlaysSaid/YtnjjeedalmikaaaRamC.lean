/- Load of the memory. No condition. -/
import Derived.Test.YtnjjeedalmikaaaRamB
import Derived.Deep.DeepCutAuto
namespace Go.Proofs.Ytnjjeedalmikaaa
open Go.ChangeShapes Go.WideShapes Go.ChangeAt Go.RowKit
open Go.ChangeMaps (setBlock heap_setBlock_same heap_setBlock_other)
set_option linter.unusedVariables false
set_option linter.unusedSimpArgs false
def loadR (n : Int) (hs : Hs) (mem : Nat → Nat) (addr : Nat) (size : Int) : Int := if errF n hs addr size = 0 then (loadF mem addr size.toNat : Int) else 0
theorem addr_parts (an : Nat) : ∃ f : Nat, (an : Int) / 4096 = (f : Int) ∧ f * 4096 + an % 4096 = an ∧ an % 4096 < 4096 := ⟨an / 4096, by omega, by omega, by omega⟩
theorem rem_parts (an : Nat) (h : an < 18446744073709551616) : IntKind.u64.wrap ((an : Int) % 4096) = ((an % 4096 : Nat) : Int) := by
  rw [IntKind.wrap_u64]; omega
theorem key_parts {f f' an : Nat} (h : (an : Int) / 4096 = (f : Int)) (h' : (an : Int) / 4096 = (f' : Int)) : f' = f := by omega
theorem cellsB : Try.prog.cellsOf 5 = 1 := by kernel_rfl
theorem infoB : (Try.prog.info? 5).map (·.size) = some 1 := by kernel_rfl
theorem lenP : Try.prog.arrayLen 65 = 4096 := by kernel_rfl
theorem elemP : Try.prog.elem 65 = 5 := by kernel_rfl
theorem size_uint8 (W : World) : (sizeOf 5).run Try.prog W = .ok 1 W := by kernel_rfl
theorem index_page (g r : Nat) (h : r < 4096) (W : World) : (Instr.indexAt 65 (.pointer (some ⟨g, 0, none⟩)) (.int .u64 (r : Int))).run Try.prog W = .ok (.pointer (some ⟨g, r, none⟩)) W := by
  have h1 : (0 : Int) ≤ (r : Int) ∧ (r : Int) < ((4096 : Nat) : Int) := ⟨Int.natCast_nonneg _, Int.ofNat_lt.2 h⟩
  have hq := run_indexAt_array (P := Try.prog) (w := W) 65 ⟨g, 0, none⟩ .u64 (r : Int) (by rw [lenP, elemP]; exact underP)
  rw [lenP, elemP, if_pos h1, size_uint8] at hq
  refine hq.trans ?_
  show Result.ok (Value.pointer (some (Addr.add ⟨g, 0, none⟩ ((r : Int).toNat * 1)))) W = _
  rw [Int.toNat_natCast, Nat.mul_one]
  cases r with
  | zero => rfl
  | succ r => unfold Addr.add; rw [if_neg (by omega)]; simp
theorem or_bytes (x mb : Nat) (hx : 256 * x + 255 < 18446744073709551616) (hm : mb < 256) : bits .or .u64 ((x : Int) * 256) (IntKind.u64.wrap (mb : Int)) = ((mb + 256 * x : Nat) : Int) := by
  rw [show IntKind.u64.wrap (mb : Int) = (mb : Int) by rw [IntKind.wrap_u64]; omega, or_join 8 _ _ (by omega) (by omega) (by omega) (by omega) (by omega) (by omega)]; omega
theorem loadF_lt (mem : Nat → Nat) (hm : ∀ a, mem a < 256) : ∀ (s a : Nat), loadF mem a s < 256 ^ s
  | 0, a => by simp [loadF]
  | s + 1, a => by
    have h1 := loadF_lt mem hm s (a + 1)
    have h2 := hm a
    unfold loadF
    rw [Nat.pow_succ]; omega
theorem errF_good {n : Int} {hs : Hs} {addr size : Int} (h : errF n hs addr size = 0) : (size = 1 ∨ size = 2 ∨ size = 4 ∨ size = 8) ∧ addr + size - 1 < 18446744073709551616 ∧ (addr + size - 1) / 4096 < n ∧ hasF n hs (addr / 4096) = true ∧ hasF n hs ((addr + size - 1) / 4096) = true := by
  unfold errF at h
  split at h
  · rename_i h1
    split at h
    · rename_i h2; exact ⟨h1, h2⟩
    · simp at h
  · simp at h
theorem errF_cases (n : Int) (hs : Hs) (addr size : Int) : errF n hs addr size = 0 ∨ errF n hs addr size = 1 ∨ errF n hs addr size = 2 := by
  unfold errF
  split
  · split
    · exact .inl rfl
    · exact .inr (.inr rfl)
  · exact .inr (.inl rfl)
set_option maxHeartbeats 1000000 in
theorem load_any {w : World} {base b m : Nat} {n : Int} {hs : Hs} {mem : Nat → Nat} (h : RamAt w base b m n hs mem) (addr : Nat) (size : Int) (h1 : addr < 18446744073709551616) :
    Calls Try.prog 11 #[ptr b, .int .u64 addr, .int .i64 size] w fun e w' => e = .returned (.tuple #[.int .u64 (loadR n hs mem addr size), .int .i64 (errF n hs addr size)]) ∧ Below w.heap.size w w' := by
  obtain ⟨vv, L, hh, hl, hm, hnd, hp, hz, hi⟩ := h.ex
  have HC := Lib.hid (check_any ⟨hh, HL.mono hl (Nat.zero_le _), h.len⟩ addr size (by omega) (by omega) h.n0 h.n1)
  have hbw := heap_lt hh
  have hmw := hm.lt
  have c2 : w.cell? ⟨b, 2, none⟩ = some (.map (some m)) := cell_heap hh 2
  have HM := Lib.hid hm
  have HP := Lib.hid hp
  have HZ := Lib.hid hz
  have HB := Lib.hid h.byte
  clear hh hl hm hnd hp hz hi h
  by_cases he : errF n hs addr size = 0
  · obtain ⟨hs1, hs2, hs3, hs4, hs5⟩ := errF_good he
    rw [he] at HC
    obtain ⟨s, rfl⟩ : ∃ s : Nat, size = s := ⟨size.toNat, by omega⟩
    have hR : Hid (loadR n hs mem addr s = loadF mem addr s) := Lib.hid (by rw [loadR, if_pos he, Int.toNat_natCast])
    have HE := Lib.hid he
    have hs0 : 1 ≤ s ∧ s ≤ 8 := by omega
    have hadd : addr + s ≤ 18446744073709551616 := by omega
    clear he hs1 hs2 hs3 hs4 hs5
    go_enter Try.func11, Try.ntmps11
    go_wp2_with fail
    refine HC.out.mono ?_
    rintro e w1 ⟨rfl, hb1⟩
    have hm1 : MapAL w1 m (enc ptr L) := HM.out.below hb1
    obtain ⟨hc1, hf1⟩ := bcell hb1
    have c2' := (hc1 _ _ hbw).trans c2
    clear hc1 c2
    go_wp2_with fail
    go_loopw [9, 10] (fun x i wr => ∃ j : Nat, i = .int .i64 ((j : Int) - 1) ∧ j ≤ s ∧ wr = w1 ∧ x = .int .u64 (loadF mem (addr + j) (s - j) : Nat)) (fun _ i _ => (intOf i + 1).toNat)
    case atStart => exact ⟨s, rfl, by omega, rfl, by rw [Nat.sub_self]; rfl⟩
    case round =>
      obtain ⟨j, rfl, hle, rfl, rfl⟩ := hrel
      by_cases hj : 0 < j
      · obtain ⟨k, rfl⟩ : ∃ k, j = k + 1 := ⟨j - 1, by omega⟩
        rw [show (((k + 1 : Nat) : Int) - 1) = (k : Int) by omega]
        obtain ⟨an, han⟩ : ∃ an, an = addr + k := ⟨_, rfl⟩
        have hlt := loadF_lt mem HB.out (s - (k + 1)) (addr + (k + 1))
        have hnx : loadF mem (addr + k) (s - k) = mem an + 256 * loadF mem (addr + (k + 1)) (s - (k + 1)) := by
          rw [show s - k = (s - (k + 1)) + 1 by omega, han]; rfl
        have hlt2 : 256 * loadF mem (addr + (k + 1)) (s - (k + 1)) + 255 < 18446744073709551616 := by
          have : 256 ^ (s - (k + 1)) ≤ 256 ^ 7 := Nat.pow_le_pow_right (by omega) (by omega)
          omega
        have hmb := HB.out an
        obtain ⟨x, hx⟩ : ∃ x, x = loadF mem (addr + (k + 1)) (s - (k + 1)) := ⟨_, rfl⟩
        rw [← hx] at hlt hnx hlt2 ⊢
        have d0 : decide ((0 : Int) ≤ (k : Int)) = true := decide_eq_true (by omega)
        have g1 : IntKind.u64.wrap (k : Int) = k := by rw [IntKind.wrap_u64]; omega
        have g2 : IntKind.u64.wrap ((addr : Int) + k) = (an : Int) := by rw [IntKind.wrap_u64]; omega
        have g8 : IntKind.u64.wrap ((x : Int) * 256) = (x : Int) * 256 := by rw [IntKind.wrap_u64]; omega
        have HNX := Lib.hid hnx
        have HAN := Lib.hid han
        have HX := Lib.hid hx
        clear hx
        have g3 : IntKind.u64.wrap ((an : Int) / 4096) = (an : Int) / 4096 := by rw [IntKind.wrap_u64]; omega
        have g4 : wrap64 ((an : Int) / 4096) = (an : Int) / 4096 := by unfold wrap64; omega
        have hlk := run_lookup_al (P := Try.prog) underPages underInt (zeroPtr wr) hm1 ((an : Int) / 4096) false
        rw [aget_enc] at hlk
        obtain ⟨f, hfi, han2, hr4⟩ := addr_parts an
        cases hg : kget L ((an : Int) / 4096) with
        | none =>
          rw [hg] at hlk
          have hm0 : mem an = 0 := by rw [← han2]; exact HZ.out f (by rw [← hfi]; exact hg) _ hr4
          clear hg hnx hfi han2 hr4 hmb hm1 hlt han
          go_wp2
          go_roundw
          case rel => exact ⟨k, rfl, by omega, trivial, by rw [HNX.out, hm0]; congr 1; omega⟩
          case measure => simp [intOf]
        | some g =>
          rw [hg] at hlk
          obtain ⟨f', hf', hbg, hpg⟩ := HP.out _ _ hg
          obtain ⟨cs, hpc, hps, hpb⟩ := hpg.ex
          have hcell : w.cell? ⟨g, an % 4096, none⟩ = some (.int .u8 (mem an)) := by
            rw [cell_of_row w g _ cs _ _ hpc, hpb _ hr4, key_parts hfi hf', han2]
          have hcell1 := ((bcell hb1).1 _ _ (heap_lt hpc)).trans hcell
          have g5 : IntKind.u64.wrap ((an : Int) % 4096) = ((an % 4096 : Nat) : Int) := rem_parts an (by omega)
          obtain ⟨r, hr⟩ : ∃ r, r = an % 4096 := ⟨_, rfl⟩
          rw [← hr] at g5 hr4 hcell1
          have g5b : (an : Int).tmod 4096 = (r : Int) := by rw [hr, Int.tmod_eq_emod_of_nonneg (Int.natCast_nonneg _)]; rfl
          have g5c : (an : Int) % 4096 = (r : Int) := by rw [hr]; rfl
          obtain ⟨mb, hmbe⟩ : ∃ mb, mb = mem an := ⟨_, rfl⟩
          rw [← hmbe] at hcell1 hmb
          have HMB := Lib.hid hmbe
          have HL2 := Lib.hid hlt2
          have g6 : ((r : Int) < 4096) := Int.ofNat_lt.2 hr4
          clear hg hnx hfi han2 hlt han hcell hpc hps hpb hpg hf' hm1 hr hmbe
          have hix : ∀ W, (Instr.indexAt 65 (.pointer (some ⟨g, 0, none⟩)) (.int .u64 (r : Int))).run Try.prog W = .ok (.pointer (some ⟨g, r, none⟩)) W := index_page g r hr4
          clear g6 hlt2 hmb hr4
          go_wp2
          go_roundw
          case rel => exact ⟨k, rfl, by omega, trivial, by rw [HNX.out, ← HMB.out]; exact congrArg _ (or_bytes x mb HL2.out (by rw [HMB.out]; exact HB.out an))⟩
          case measure => simp [intOf]
      · obtain rfl : j = 0 := by omega
        rw [show (((0 : Nat) : Int) - 1) = -1 from rfl, Nat.add_zero, Nat.sub_zero]
        obtain ⟨x, hx⟩ : ∃ x, x = loadF mem addr s := ⟨_, rfl⟩
        rw [← hx] at hR ⊢
        clear hx hj hle hm1
        go_wp2
        go_returns
        exact ⟨ret_v (by rw [hR.out, HE.out]; rfl), hb1⟩
  · obtain ⟨er, her⟩ : ∃ er, er = errF n hs addr size := ⟨_, rfl⟩
    have hR : Hid (loadR n hs mem addr size = 0) := Lib.hid (if_neg he)
    rw [← her] at HC he ⊢
    have hne : (er != 0) = true := by simpa using he
    clear her he
    go_enter Try.func11, Try.ntmps11
    go_wp2_with fail
    refine HC.out.mono ?_
    rintro e w1 ⟨rfl, hb1⟩
    go_wp2
    go_returns
    exact ⟨ret_v (by rw [hR.out]; rfl), hb1⟩
end Go.Proofs.Ytnjjeedalmikaaa
