/- Zero, Copy, Clear and Frames of the memory. No condition. -/
import Derived.Test.YtnjjeedalmikaaaRamF
namespace Go.Proofs.Ytnjjeedalmikaaa
open Go.ChangeShapes Go.WideShapes Go.ChangeAt Go.RowKit
open Go.ChangeMaps (setBlock heap_setBlock_same heap_setBlock_other)
set_option linter.unusedVariables false
set_option linter.unusedSimpArgs false
def zeroF (mem : Nat → Nat) (f : Nat) : Nat → Nat := fun a => if a / 4096 = f then 0 else mem a
def copyF (mem : Nat → Nat) (dst frm : Nat) : Nat → Nat := fun a => if a / 4096 = dst then mem (frm * 4096 + a % 4096) else mem a
def clearF (mem : Nat → Nat) (f : Nat) : Bool := (List.range 4096).all fun i => mem (f * 4096 + i) == 0
section
variable {W : World} {base b m : Nat} {n : Int} {hs : Hs} {mem : Nat → Nat} {v : Value} {L : Pg}
/-- A page is taken away. -/
theorem RamX.del (h : RamX W base b m n hs mem v L) (f : Nat) {o : Obj} (hm : MapAL (setBlock W m o) m (enc ptr (kdel L f))) :
    RamX (setBlock W m o) base b m n hs (zeroF mem f) v (kdel L f) ∧ RT base m W (setBlock W m o) := by
  have far : ∀ (k : Nat) (ob : Obj), W.heap[k]? = some ob → k ≠ m → (setBlock W m o).heap[k]? = some ob := fun k ob hk hne => by
    rw [setBlock_far hne]; exact hk
  refine ⟨⟨far _ _ h.hd (mapNe h.mp h.hd (by simp)), HL.heap h.hl fun k cur hk => far _ _ hk (mapNe h.mp hk (by simp)), hm, nodup_del _ _ h.nd, fun k g hk => ?_, fun f' hk i hi => ?_, fun k k' g hk hk' => ?_, h.baseM, h.len, h.n0, h.n1, fun a => ?_⟩, ⟨(Touch.refl _ _).setBlock (.inl ⟨h.baseM, .inl rfl⟩) _⟩⟩
  · rw [kget_del _ h.nd] at hk
    by_cases hkf : k = f
    · rw [if_pos hkf] at hk; cases hk
    · rw [if_neg hkf] at hk
      obtain ⟨f', e1, e2, e3⟩ := h.pg k g hk
      obtain ⟨cs, h1, h2, h3⟩ := e3.ex
      refine ⟨f', e1, e2, ⟨cs, far _ _ h1 (e3.not_map h.mp), h2, fun i hi => ?_⟩⟩
      rw [h3 i hi]
      have : ¬ (f' * 4096 + i) / 4096 = f := by omega
      simp [zeroF, this]
  · rw [kget_del _ h.nd] at hk
    by_cases hkf : (f' : Int) = f
    · have : (f' * 4096 + i) / 4096 = f := by omega
      simp [zeroF, this]
    · rw [if_neg hkf] at hk
      unfold zeroF
      split
      · rfl
      · exact h.no f' hk i hi
  · rw [kget_del _ h.nd] at hk hk'
    by_cases hkf : k = f
    · rw [if_pos hkf] at hk; cases hk
    · by_cases hkf' : k' = f
      · rw [if_pos hkf'] at hk'; cases hk'
      · rw [if_neg hkf] at hk; rw [if_neg hkf'] at hk'; exact h.inj k k' g hk hk'
  · unfold zeroF; split
    · omega
    · exact h.byte a
end
theorem run_keys_del : True := trivial
set_option maxRecDepth 10000 in
set_option maxHeartbeats 1000000 in
theorem zero_any {w : World} {base b m : Nat} {n : Int} {hs : Hs} {mem : Nat → Nat} (h : RamAt w base b m n hs mem) (f : Int) (hf63 : f < 9223372036854775808) :
    Calls Try.prog 21 #[ptr b, .int .i64 f] w fun e w' => e = .returned (.int .i64 (if hasF n hs f then 0 else 2)) ∧ RT base m w w' ∧ RamAt w' base b m n hs (if hasF n hs f then zeroF mem f.toNat else mem) := by
  obtain ⟨v0, HDD⟩ := h.hd
  have HC := Lib.hid (has_any HDD f)
  clear HDD
  obtain ⟨v, L, hX⟩ := h.x
  cases hh : hasF n hs f
  · rw [hh] at HC
    have H := Lib.hid h
    clear h hX
    go_enter Try.func21, Try.ntmps21
    go_wp2_with fail
    refine HC.out.mono ?_
    rintro e w1 ⟨rfl, hb1⟩
    go_wp2
    go_returns
    exact ⟨rfl, RT.of_below hb1, H.out.below hb1⟩
  · rw [hh] at HC
    obtain ⟨fn, rfl⟩ : ∃ fn : Nat, f = fn := ⟨f.toNat, by
      have : 0 ≤ f := by
        unfold hasF at hh
        simp only [Bool.and_eq_true, decide_eq_true_eq] at hh
        exact hh.1
      omega⟩
    have HX := Lib.hid hX
    clear h hX
    go_enter Try.func21, Try.ntmps21
    go_wp2_with fail
    refine HC.out.mono ?_
    rintro e w1 ⟨rfl, hb1⟩
    have hX1 := HX.out.below hb1
    have c2 : w1.cell? ⟨b, 2, none⟩ = some (.map (some m)) := cell_heap hX1.hd 2
    obtain ⟨o, hd, hM⟩ := run_delete_al (P := Try.prog) (ty := 0) underPages underInt hX1.mp (fn : Int)
    rw [adel_enc] at hM
    have HM := Lib.hid (hX1.del fn hM)
    have HR := Lib.hid (RT.of_below (base := base) (m := m) hb1)
    clear hM hX1 hb1 hh hf63
    go_wp2_with fail
    go_returns
    exact ⟨rfl, HR.out.trans HM.out.2, HM.out.1.at⟩
theorem frames_any {w : World} {base b m : Nat} {n : Int} {hs : Hs} {mem : Nat → Nat} (h : RamAt w base b m n hs mem) :
    Calls Try.prog 15 #[ptr b] w fun e w' => e = .returned (.int .i64 n) ∧ Below w.heap.size w w' := by
  obtain ⟨v0, HDD⟩ := h.hd
  have c0 : w.cell? ⟨b, 0, none⟩ = some (.int .i64 n) := cell_heap HDD.h 0
  clear HDD h
  go_enter Try.func15, Try.ntmps15
  go_wp2
  go_returns
  exact ⟨rfl, by go_grown⟩
end Go.Proofs.Ytnjjeedalmikaaa
