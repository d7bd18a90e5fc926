/- RegionLooks: good lists are told, pages found and counted. No condition. Printed by gen/rglooks.py. -/
import Derived.Test.YtoodjhomekeekaaRgR
import Derived.Deep.RegionHeld3
import Derived.Deep.DeepCutAuto
import Derived.Deep.WholeRow
import Derived.Laws.Rows
import Derived.Laws.Tables
namespace Go.Proofs.Ytoodjhomekeekaa
open Go.ChangeShapes Go.WideShapes Go.ChangeAt Go.RowKit
set_option linter.unusedVariables false
set_option linter.unusedSimpArgs false
set_option maxHeartbeats 8000000 in
theorem walk_RegionLooks (A0 : Option Addr) (len0 cap0 : Nat) (a1 : Int) (a2 : Int) (a3 : Int) (w : World) (r0 : Rows_ w [.i .i64, .i .i64, .b, .b, .b, .i .i64] A0 len0) (w1 : (Lit.int .i64 a1).wf = true) (w2 : (Lit.int .i64 a2).wf = true) (w3 : (Lit.int .i64 a3).wf = true) :
    Calls Try.prog 3 #[.slice A0 len0 cap0, .int .i64 a1, .int .i64 a2, .int .i64 a3] w fun e w' => e = .returned (.bool true) ∧ Below w.heap.size w w' := by
  have c0 := told_any (cap := cap0) r0
  clear r0 w1 w2 w3
  have k1 := tm40 a1
  have k2 := tm40 a2
  have k3 := tm40 a3
  have s1 : IntKind.i64.wrap (a1.tmod 1099511627776) = a1.tmod 1099511627776 := by rw [IntKind.wrap_i64]; omega
  have s2 : IntKind.i64.wrap (a2.tmod 1099511627776) = a2.tmod 1099511627776 := by rw [IntKind.wrap_i64]; omega
  have s3 : IntKind.i64.wrap (a3.tmod 1099511627776) = a3.tmod 1099511627776 := by rw [IntKind.wrap_i64]; omega
  have m2 := sml_tmod a2
  have m3 := sml_tmod a3
  have HM2 := Lib.hid m2
  have HM3 := Lib.hid m3
  clear k1 k2 k3 m2 m3
  go_enter Try.func3, Try.ntmps3
  go_wp2_with fail
  refine c0.mono ?_
  rintro e w1 ⟨A1, cp1, R, rfl, hr1, hb1, hl1, hs1⟩
  have HR := Lib.hid hr1
  have HB1 := Lib.hid hb1
  have HS := Lib.hid hs1
  clear c0 hr1 hb1 hs1
  obtain ⟨n, hn⟩ : ∃ n, n = R.length := ⟨_, rfl⟩
  have hof : ∀ W, Below w1.heap.size w1 W → Calls Try.prog 10 #[.slice A1 R.length cp1] W fun e w' => ∃ A c, e = .returned (.slice A R.length c) ∧ rgL w' W.heap.size (.slice A R.length c) R ∧ Below W.heap.size W w' := fun W hW => of_any (HR.out.below hW) (by omega)
  have hfi : ∀ W B A c, rgL W B (.slice A R.length c) R → ∀ i, Calls Try.prog 9 #[.slice A R.length c, .int .i64 i] W fun e w' => e = .returned (.tuple #[(fL R i).val, .bool (findL R i).isSome]) ∧ Below W.heap.size W w' := fun W B A c q i => find_any q (by omega) i
  have hrf : ∀ W, Below w1.heap.size w1 W → ∀ i, Calls Try.prog 11 #[.slice A1 R.length cp1, .int .i64 i] W fun e w' => e = .returned (.tuple #[(fL R i).val, .bool (findL R i).isSome]) ∧ Below W.heap.size W w' := fun W hW i => rFind_any (HR.out.below hW) (by omega) i
  have hgo : ∀ W B A c, rgL W B (.slice A R.length c) R → Calls Try.prog 13 #[.slice A R.length c] W fun e w' => e = .returned (.bool (goodB R)) ∧ Below W.heap.size W w' := fun W B A c q => good_any q (by omega)
  have hrg : ∀ W, Below w1.heap.size w1 W → Calls Try.prog 14 #[.slice A1 R.length cp1] W fun e w' => e = .returned (.bool (goodB R)) ∧ Below W.heap.size W w' := fun W hW => rGood_any (HR.out.below hW) (by omega)
  have hct : ∀ W B A c, rgL W B (.slice A R.length c) R → Calls Try.prog 16 #[.slice A R.length c, .agg #[.int .i64 (a2.tmod 1099511627776), .int .i64 (a3.tmod 1099511627776)]] W fun e w' => e = .returned (.int .i64 (cntL (a2.tmod 1099511627776) (a3.tmod 1099511627776) R)) ∧ Below W.heap.size W w' := fun W B A c q => count_any q (by omega) HS.out _ _ HM2.out HM3.out
  have hrc : ∀ W, Below w1.heap.size w1 W → Calls Try.prog 17 #[.slice A1 R.length cp1, .int .i64 (a2.tmod 1099511627776), .int .i64 (a3.tmod 1099511627776)] W fun e w' => e = .returned (.int .i64 (cntL (a2.tmod 1099511627776) (a3.tmod 1099511627776) R)) ∧ Below W.heap.size W w' := fun W hW => rCount_any (HR.out.below hW) (by omega) HS.out _ _ HM2.out HM3.out
  obtain ⟨gb, hgb⟩ : ∃ gb, gb = goodB R := ⟨_, rfl⟩
  obtain ⟨cn, hcn⟩ : ∃ cn, cn = cntL (a2.tmod 1099511627776) (a3.tmod 1099511627776) R := ⟨_, rfl⟩
  obtain ⟨fs, hfs⟩ : ∃ fs, fs = (findL R (a1.tmod 1099511627776)).isSome := ⟨_, rfl⟩
  obtain ⟨⟨fa, fb, fw, fu, fx, fk⟩, hfl⟩ : ∃ z, z = fL R (a1.tmod 1099511627776) := ⟨_, rfl⟩
  have hfi1 : ∀ W B A c, rgL W B (.slice A R.length c) R → Calls Try.prog 9 #[.slice A R.length c, .int .i64 (a1.tmod 1099511627776)] W fun e w' => e = .returned (.tuple #[.agg #[.int .i64 fa, .int .i64 fb, .bool fw, .bool fu, .bool fx, .int .i64 fk], .bool fs]) ∧ Below W.heap.size W w' := fun W B A c q => by
    have := hfi W B A c q (a1.tmod 1099511627776)
    rw [← hfl, ← hfs] at this
    exact this
  have hrf1 : ∀ W, Below w1.heap.size w1 W → Calls Try.prog 11 #[.slice A1 R.length cp1, .int .i64 (a1.tmod 1099511627776)] W fun e w' => e = .returned (.tuple #[.agg #[.int .i64 fa, .int .i64 fb, .bool fw, .bool fu, .bool fx, .int .i64 fk], .bool fs]) ∧ Below W.heap.size W w' := fun W hW => by
    have := hrf W hW (a1.tmod 1099511627776)
    rw [← hfl, ← hfs] at this
    exact this
  have hon : ∀ W, Calls Try.prog 15 #[.agg #[.int .i64 fa, .int .i64 fb, .bool fw, .bool fu, .bool fx, .int .i64 fk]] W fun e w' => e = .returned (.agg #[.int .i64 fa, .int .i64 fb, .bool fw, .bool fu, .bool fx, .int .i64 fk]) ∧ Below W.heap.size W w' := fun W => one_any W ⟨fa, fb, fw, fu, fx, fk⟩
  rw [← hgb] at hgo hrg
  rw [← hcn] at hct hrc
  rw [← hn] at hof hfi1 hrf1 hgo hrg hct hrc hl1 ⊢
  have HOF := Lib.hid hof
  have HFI := Lib.hid hfi1
  have HRF := Lib.hid hrf1
  have HGO := Lib.hid hgo
  have HRG := Lib.hid hrg
  have HCT := Lib.hid hct
  have HRC := Lib.hid hrc
  have HON := Lib.hid hon
  clear hof hfi hfi1 hrf hrf1 hgo hrg hct hrc hon hgb hcn hfs hfl hn
  go_wp2_with fail
  refine (HOF.out w1 (Below.refl _ _)).mono ?_
  rintro e w2 ⟨A2, cp2, rfl, hr2, hb2⟩
  have HB2 := Lib.hid hb2
  have HR2 := Lib.hid (rgL.mono hr2 (Nat.zero_le _))
  clear hr2 hb2
  go_wp2_with fail
  refine (HFI.out w2 0 A2 cp2 HR2.out).mono ?_
  rintro e w3 ⟨rfl, hb3⟩
  have HB3 := Lib.hid (b_then HB2.out hb3)
  have HQ3 := Lib.hid (heap_new w3 (.cells #[.int .i64 0, .int .i64 0, .bool false, .bool false, .bool false, .int .i64 0] 31))
  have HAL : Hid ((#[.int .i64 fa, .int .i64 fb, .bool fw, .bool fu, .bool fx, .int .i64 fk] : Array Value).all (·.oneCell') = true) := Lib.hid (by simp [Value.oneCell'])
  clear hb3
  go_upto_region 4 with (first | ((refine wpList_store_row rfl 31 (.tmp 10) (.tmp 27) rfl w3.heap.size #[.int .i64 fa, .int .i64 fb, .bool fw, .bool fu, .bool fx, .int .i64 fk] rfl rfl 31 #[.int .i64 0, .int .i64 0, .bool false, .bool false, .bool false, .int .i64 0] HQ3.out sz_rg rfl HAL.out ?_); rw [World.setRow_alloc_new]))
  try simp only [putNone]
  obtain ⟨g, hg⟩ : ∃ g, g = w3.heap.size := ⟨_, rfl⟩
  obtain ⟨W3, hW3⟩ : ∃ W, W = w3.alloc (.cells #[.int .i64 fa, .int .i64 fb, .bool fw, .bool fu, .bool fx, .int .i64 fk] 31) := ⟨_, rfl⟩
  have hh3 := heap_new w3 (.cells #[.int .i64 fa, .int .i64 fb, .bool fw, .bool fu, .bool fx, .int .i64 fk] 31)
  have hB3 : Below w1.heap.size w1 W3 := by rw [hW3]; exact HB3.out.alloc HB3.out.size _
  rw [← hW3, ← hg] at hh3 ⊢
  have HH3 := Lib.hid hh3
  have HB4 := Lib.hid hB3
  clear hh3 hB3 hW3 hg HQ3
  go_wp2_with fail
  refine (HRF.out W3 HB4.out).mono ?_
  rintro e w4 ⟨rfl, hb4⟩
  have HB5 := Lib.hid (b_then HB4.out hb4)
  have HH4 := Lib.hid (heap_below hb4 HH3.out)
  have HQ4 := Lib.hid (heap_new w4 (.cells #[.int .i64 0, .int .i64 0, .bool false, .bool false, .bool false, .int .i64 0] 36))
  clear hb4
  go_upto_region 5 with (first | ((refine wpList_store_row rfl 36 (.tmp 12) (.tmp 33) rfl w4.heap.size #[.int .i64 fa, .int .i64 fb, .bool fw, .bool fu, .bool fx, .int .i64 fk] rfl rfl 36 #[.int .i64 0, .int .i64 0, .bool false, .bool false, .bool false, .int .i64 0] HQ4.out sz_rf rfl HAL.out ?_); rw [World.setRow_alloc_new]))
  try simp only [putNone]
  obtain ⟨g2, hg2⟩ : ∃ g, g = w4.heap.size := ⟨_, rfl⟩
  obtain ⟨V, hV⟩ : ∃ W, W = w4.alloc (.cells #[.int .i64 fa, .int .i64 fb, .bool fw, .bool fu, .bool fx, .int .i64 fk] 36) := ⟨_, rfl⟩
  have hv2 := heap_new w4 (.cells #[.int .i64 fa, .int .i64 fb, .bool fw, .bool fu, .bool fx, .int .i64 fk] 36)
  have hv1 := heap_old w4 (.cells #[.int .i64 fa, .int .i64 fb, .bool fw, .bool fu, .bool fx, .int .i64 fk] 36) _ HH4.out
  have hBV : Below w1.heap.size w1 V := by rw [hV]; exact HB5.out.alloc HB5.out.size _
  rw [← hV, ← hg2] at hv2 ⊢
  rw [← hV] at hv1
  have hs : ∀ W, Below V.heap.size V W → W.cell? ⟨g, 0, none⟩ = some (.int .i64 fa) ∧ W.cell? ⟨g, 1, none⟩ = some (.int .i64 fb) ∧ W.cell? ⟨g, 2, none⟩ = some (.bool fw) ∧ W.cell? ⟨g, 3, none⟩ = some (.bool fu) ∧ W.cell? ⟨g, 4, none⟩ = some (.bool fx) ∧ W.cell? ⟨g, 5, none⟩ = some (.int .i64 fk) ∧ W.cell? ⟨g2, 0, none⟩ = some (.int .i64 fa) ∧ W.cell? ⟨g2, 1, none⟩ = some (.int .i64 fb) ∧ W.cell? ⟨g2, 2, none⟩ = some (.bool fw) ∧ W.cell? ⟨g2, 3, none⟩ = some (.bool fu) ∧ W.cell? ⟨g2, 4, none⟩ = some (.bool fx) ∧ W.cell? ⟨g2, 5, none⟩ = some (.int .i64 fk) ∧ g < W.heap.size ∧ g2 < W.heap.size := fun W hW => by
    have h1 := heap_below hW hv1
    have h2 := heap_below hW hv2
    refine ⟨?_, ?_, ?_, ?_, ?_, ?_, ?_, ?_, ?_, ?_, ?_, ?_, heap_lt h1, heap_lt h2⟩
    all_goals first | (have := cell_heap h1 0; simpa using this; done) | (have := cell_heap h1 1; simpa using this; done) | (have := cell_heap h1 2; simpa using this; done) | (have := cell_heap h1 3; simpa using this; done) | (have := cell_heap h1 4; simpa using this; done) | (have := cell_heap h1 5; simpa using this; done) | (have := cell_heap h2 0; simpa using this; done) | (have := cell_heap h2 1; simpa using this; done) | (have := cell_heap h2 2; simpa using this; done) | (have := cell_heap h2 3; simpa using this; done) | (have := cell_heap h2 4; simpa using this; done) | (have := cell_heap h2 5; simpa using this; done)
  have HSS := Lib.hid hs
  have HBV := Lib.hid hBV
  obtain ⟨x0, x1, x2, x3, x4, x5, y0, y1, y2, y3, y4, y5, z1, z2⟩ := hs V (Below.refl _ _)
  clear hs hBV hV hg2 hv1 hv2 HH3 HH4 HQ4 HAL HB3 HB5
  go_cut [55] (fun s wx => s = .bool false ∧ Below V.heap.size V wx)
  case first =>
    go_region_held3 (fun W : World => W.cell? ⟨g, 0, none⟩ = some (.int .i64 fa) ∧ W.cell? ⟨g, 1, none⟩ = some (.int .i64 fb) ∧ W.cell? ⟨g, 2, none⟩ = some (.bool fw) ∧ W.cell? ⟨g, 3, none⟩ = some (.bool fu) ∧ W.cell? ⟨g, 4, none⟩ = some (.bool fx) ∧ W.cell? ⟨g, 5, none⟩ = some (.int .i64 fk) ∧ W.cell? ⟨g2, 0, none⟩ = some (.int .i64 fa) ∧ W.cell? ⟨g2, 1, none⟩ = some (.int .i64 fb) ∧ W.cell? ⟨g2, 2, none⟩ = some (.bool fw) ∧ W.cell? ⟨g2, 3, none⟩ = some (.bool fu) ∧ W.cell? ⟨g2, 4, none⟩ = some (.bool fx) ∧ W.cell? ⟨g2, 5, none⟩ = some (.int .i64 fk)) (go_keep)
      ((first
        | (go_at_call 12; refine (awake_any _).mono ?_; rintro e w5 ⟨rfl, hb5⟩; have hB5 : Below V.heap.size V w5 := (b_then (by go_grown) hb5); obtain ⟨vx0, vx1, vx2, vx3, vx4, vx5, vy0, vy1, vy2, vy3, vy4, vy5, zz1, zz2⟩ := HSS.out w5 hB5)
        | (go_at_call 10; refine (HOF.out _ (b_then HBV.out (by go_grown))).mono ?_; rintro e w6 ⟨A6, c6, rfl, hr6, hb6⟩; have hB6 : Below V.heap.size V w6 := (b_then (by go_grown) hb6); obtain ⟨vx0, vx1, vx2, vx3, vx4, vx5, vy0, vy1, vy2, vy3, vy4, vy5, zz1, zz2⟩ := HSS.out w6 hB6)
        | (go_at_call 13; refine (HGO.out _ _ _ _ (by first | exact hr6 | exact hr6.below (by go_grown))).mono ?_; rintro e w7 ⟨rfl, hb7⟩; have hB7 : Below V.heap.size V w7 := (b_then (by go_grown) hb7); obtain ⟨vx0, vx1, vx2, vx3, vx4, vx5, vy0, vy1, vy2, vy3, vy4, vy5, zz1, zz2⟩ := HSS.out w7 hB7)
        | (go_at_call 14; refine (HRG.out _ (b_then HBV.out (by go_grown))).mono ?_; rintro e w8 ⟨rfl, hb8⟩; have hB8 : Below V.heap.size V w8 := (b_then (by go_grown) hb8); obtain ⟨vx0, vx1, vx2, vx3, vx4, vx5, vy0, vy1, vy2, vy3, vy4, vy5, zz1, zz2⟩ := HSS.out w8 hB8)
        | (go_at_call 15; refine (HON.out _).mono ?_; rintro e w9 ⟨rfl, hb9⟩; have hB9 : Below V.heap.size V w9 := (b_then (by go_grown) hb9); obtain ⟨vx0, vx1, vx2, vx3, vx4, vx5, vy0, vy1, vy2, vy3, vy4, vy5, zz1, zz2⟩ := HSS.out w9 hB9)))
    all_goals
      go_wp2_with fail
      go_meet
      exact ⟨rfl, by go_grown⟩
  case rest =>
    obtain ⟨rfl, hbc⟩ := hcut
    have HBC := Lib.hid (b_then HBV.out hbc)
    clear x0 x1 x2 x3 x4 x5 y0 y1 y2 y3 y4 y5 z1 z2 hbc
    go_wp2_with fail
    refine (HOF.out wc HBC.out).mono ?_
    rintro e v2 ⟨A7, c7, rfl, hr7, hb7⟩
    have HR7 := Lib.hid hr7
    have HB7 := Lib.hid (b_then HBC.out hb7)
    clear hr7 hb7
    go_wp2_with fail
    refine (HCT.out v2 _ A7 c7 HR7.out).mono ?_
    rintro e v3 ⟨rfl, hb8⟩
    have HB8 := Lib.hid (b_then HB7.out hb8)
    clear hb8
    go_wp2_with fail
    refine (HRC.out v3 HB8.out).mono ?_
    rintro e v4 ⟨rfl, hb9⟩
    have HB9 := Lib.hid (b_then HB1.out (b_then HB8.out hb9))
    clear hb9
    go_wp2_with fail
    go_returns
    exact ⟨rfl, HB9.out⟩
end Go.Proofs.Ytoodjhomekeekaa
