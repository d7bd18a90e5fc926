/- awake of layer 1; one number behind a store. No condition. -/
import Derived.Test.YtnjjeedalmikaaaRamG
import Derived.Test.YtnjjeedalmikaaaRamI
import Derived.Test.YtnjjeedalmikaaaRamJ
namespace Go.Proofs.Ytnjjeedalmikaaa
open Go.ChangeShapes Go.WideShapes Go.ChangeAt Go.RowKit
set_option linter.unusedVariables false
set_option linter.unusedSimpArgs false
theorem HL.nil (w : World) (base : Nat) : HL w base (.slice none 0 0) [] := World.ownsRow_nil _ _ _ _
theorem new_good {w : World} {v : Value} {hs : Hs} (h : HL w 0 v hs) (hl : hs.length < 4611686018427387904) (n : Int) (hc : checkF n hs = 0) :
    Calls Try.prog 9 #[.int .i64 n, v] w fun e w' => ∃ b m, e = .returned (.tuple #[ptr b, .int .i64 0]) ∧ RamAt w' w.heap.size b m n hs (fun _ => 0) ∧ Below w.heap.size w w' :=
  (new_any h hl n).mono fun e w' h => by
    rcases h with ⟨⟨h1, _⟩ | ⟨_, b, m, h2, h3⟩, h4⟩
    · exact absurd hc h1
    · exact ⟨b, m, h2, h3, h4⟩
theorem awake_num : loadR 2 [] (if errF 2 [] ((4094 : Nat) : Int) 4 = 0 then storeF (fun _ => 0) 4094 (4 : Int).toNat 287454020 else fun _ => 0) 4094 2 = 13124 := by decide
set_option maxRecDepth 10000 in
set_option maxHeartbeats 1000000 in
theorem awake_any (w : World) : Calls Try.prog 12 #[] w fun e w' => e = .returned (.bool true) ∧ Below w.heap.size w w' := by
  have HN := Lib.hid (fun W : World => new_good (HL.nil W 0) (by decide) 2 (by decide))
  go_enter Try.func12, Try.ntmps12
  go_wp2_with fail
  refine (HN.out _).mono ?_
  rintro e w1 ⟨b, m, rfl, hR, hb1⟩
  have HS := Lib.hid (store_any hR 4094 287454020 4 (by decide) (by decide))
  have hE : errF 2 [] ((4094 : Nat) : Int) 4 = 0 := by decide
  rw [hE, if_pos rfl] at HS
  clear hE hR
  go_wp2_with fail
  refine HS.out.mono ?_
  rintro e w2 ⟨rfl, hT, hR⟩
  have hB2 := hT.below hb1 (Nat.le_refl _)
  have hB2' := Lib.hid hB2
  have HL1 := Lib.hid (load_any hR 4094 2 (by decide))
  have hR2 := Lib.hid hR
  have hv : loadR 2 [] (storeF (fun _ => 0) 4094 (4 : Int).toNat 287454020) 4094 2 = 13124 := by decide
  have hE : errF 2 [] ((4094 : Nat) : Int) 2 = 0 := by decide
  rw [hv, hE] at HL1
  clear hv hE hT hR hB2 hb1 HS
  go_wp2_with fail
  refine HL1.out.mono ?_
  rintro e w3 ⟨rfl, hb3⟩
  have hR3 := hR2.out.below hb3
  have HL2 := Lib.hid (load_any hR3 0 3 (by decide))
  have hE : errF 2 [] ((0 : Nat) : Int) 3 = 1 := by decide
  have hv : loadR 2 [] (storeF (fun _ => 0) 4094 (4 : Int).toNat 287454020) 0 3 = 0 := by decide
  have hB3 := Lib.hid (b_then hB2'.out hb3)
  rw [hv, hE] at HL2
  clear hv hE hR3 hb3 HL1 hR2
  go_wp2_with fail
  refine HL2.out.mono ?_
  rintro e w4 ⟨rfl, hb4⟩
  have hB4 := Lib.hid (b_then hB3.out hb4)
  clear hb4
  go_wp2
  go_returns
  exact ⟨rfl, hB4.out⟩
end Go.Proofs.Ytnjjeedalmikaaa
