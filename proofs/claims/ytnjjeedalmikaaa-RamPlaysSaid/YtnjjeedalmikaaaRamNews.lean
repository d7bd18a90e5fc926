/- RamNews: a memory has just the frames that aren't in holes. No condition. -/
import Derived.Test.YtnjjeedalmikaaaRamO
namespace Go.Proofs.Ytnjjeedalmikaaa
open Go.ChangeShapes Go.WideShapes Go.ChangeAt Go.RowKit
set_option linter.unusedVariables false
set_option linter.unusedSimpArgs false
theorem hasF_neg (n : Int) (hs : Hs) : hasF n hs (-1) = false := by unfold hasF; rfl
theorem hasF_end (n : Int) (hs : Hs) : hasF n hs n = false := by unfold hasF; rw [decide_eq_false (show ¬ n < n by omega), Bool.false_and, Bool.and_false]
theorem checkF_pos {n : Int} {hs : Hs} (h : checkF n hs = 0) : 0 < n ∧ n ≤ 1048576 ∧ hs.length ≤ 64 := by
  unfold checkF at h
  split at h
  · simp at h
  · split at h
    · simp at h
    · omega
set_option maxRecDepth 10000 in
set_option maxHeartbeats 4000000 in
theorem walk_RamNews (n : Int) (A1 : Option Addr) (len1 cap1 : Nat) (f : Int) (w : World) (w0 : (Lit.int .i64 n).wf = true) (r1 : Rows_ w [.i .i64, .i .i64] A1 len1) (c1 : len1 ≤ cap1) (w2 : (Lit.int .i64 f).wf = true) :
    Calls Try.prog 5 #[.int .i64 n, .slice A1 len1 cap1, .int .i64 f] w fun e w' => e = .returned (.bool true) ∧ Below w.heap.size w w' := by
  have HFEW := Lib.hid (few_any r1 c1)
  clear r1 c1 w0 w2
  go_enter Try.func5, Try.ntmps5
  go_wp2_with fail
  refine HFEW.out.mono ?_
  rintro e wa ⟨v, hs, rfl, hl, hlen, hba⟩
  have HL_ := Lib.hid (HL.mono hl (Nat.zero_le _))
  have HLEN : Hid (hs.length < 4611686018427387904) := Lib.hid (by omega)
  have HNEW := Lib.hid (new_any HL_.out HLEN.out n)
  have HBA := Lib.hid hba
  clear hl hlen hba HFEW
  go_wp2_with fail
  refine HNEW.out.mono ?_
  rintro e wb ⟨hcase, hbb⟩
  have HB1 := Lib.hid (b_then HBA.out hbb)
  have HCK := Lib.hid (rCheck_any (HL.below HL_.out hbb) HLEN.out n)
  have HL1 := Lib.hid (HL.below HL_.out hbb)
  clear hbb HNEW HBA HL_
  rcases hcase with ⟨hne, rfl⟩ | ⟨heq, b, m, rfl, hR⟩
  · obtain ⟨ck, hck⟩ : ∃ c, c = checkF n hs := ⟨_, rfl⟩
    rw [← hck] at HCK hne ⊢
    have k1 : (ck != 0) = true := by simpa using hne
    clear hck hne
    go_wp2_with fail
    refine HCK.out.mono ?_
    rintro e wc ⟨rfl, hbc⟩
    have HB2 := Lib.hid (b_then HB1.out hbc)
    clear hbc HCK HB1 HL1
    go_wp2_with fail
    refine (awake_any _).mono ?_
    rintro e wd ⟨rfl, hbd⟩
    have HB3 := Lib.hid (b_then HB2.out hbd)
    clear hbd HB2
    go_wp2
    go_returns
    exact ⟨rfl, HB3.out⟩
  · obtain ⟨hn0, hn1, hlen⟩ := checkF_pos heq
    have HR1 := Lib.hid hR
    rw [heq] at HCK
    clear heq hR
    go_wp2_with fail
    refine HCK.out.mono ?_
    rintro e wc ⟨rfl, hbc⟩
    have HB2 := Lib.hid (b_then HB1.out hbc)
    have HR2 := Lib.hid (HR1.out.below hbc)
    have HL2 := Lib.hid (HL.below HL1.out hbc)
    clear hbc HCK HB1 HL1 HR1
    go_wp2_with fail
    refine (awake_any _).mono ?_
    rintro e wd ⟨rfl, hbd⟩
    have HB3 := Lib.hid (b_then HB2.out hbd)
    have HR3 := Lib.hid (HR2.out.below hbd)
    have HL3 := Lib.hid (HL.below HL2.out hbd)
    clear hbd HB2 HL2 HR2
    have HV1 : Hid (v.oneCell' = true) := Lib.hid (by obtain ⟨A, c, rfl⟩ := HL.form HL3.out; rfl)
    have hv1 := HV1.out
    obtain ⟨A, cp, hv⟩ := HL.form HL3.out
    subst hv
    go_upto_region 9 with fail
    obtain ⟨W0, hW0⟩ : ∃ W0, W0 = wd.alloc (.cells #[.int .i64 n, .slice A hs.length cp, .map none] 40) := ⟨_, rfl⟩
    rw [← hW0]
    have HB4 : Hid (Below w.heap.size w W0) := Lib.hid (by rw [hW0]; exact HB3.out.alloc HB3.out.size _)
    have hstep : Below wd.heap.size wd W0 := by rw [hW0]; exact (Below.refl _ _).alloc (Nat.le_refl _) _
    have HR4 := Lib.hid (HR3.out.below hstep)
    have HL4 := Lib.hid (HL.below HL3.out hstep)
    have k10 : W0.heap[wd.heap.size]? = some (.cells #[.int .i64 n, .slice A hs.length cp, .map none] 40 (0, 0)) := by rw [hW0]; exact heap_new _ _
    have hb10 := heap_lt k10
    have c0 : W0.cell? ⟨wd.heap.size, 0, none⟩ = some (.int .i64 n) := cell_heap k10 0
    have c1 : W0.cell? ⟨wd.heap.size, 1, none⟩ = some (.slice A hs.length cp) := cell_heap k10 1
    have c2 : W0.cell? ⟨wd.heap.size, 2, none⟩ = some (.map none) := cell_heap k10 2
    obtain ⟨vH, HHD_⟩ := HR4.out.hd
    have HHD := Lib.hid HHD_
    obtain ⟨nm, hnm⟩ : ∃ x, x = n - 1 := ⟨_, rfl⟩
    have HF1 := Lib.hid (fun x : Abv W0 => frames_any (HR4.out.below x.ok))
    have HH1 := Lib.hid (fun (x : Abv W0) (g : Int) => has_any (HHD.out.below x.ok) g)
    have HQ1_ := fun (x : Abv W0) (g : Int) => rHas_any (mv := .map none) (HL.below HL4.out x.ok) HLEN.out n g rfl
    have hneg := hasF_neg n hs
    have hend := hasF_end n hs
    obtain ⟨len, hlen2⟩ : ∃ l, l = hs.length := ⟨_, rfl⟩
    rw [← hlen2] at c1 HQ1_ ⊢
    have HQ1 := Lib.hid HQ1_
    have e1 : IntKind.i64.wrap nm = nm := by rw [IntKind.wrap_i64]; omega
    have e5 : wrap64 nm = nm := by unfold wrap64; omega
    have e4 : n - 1 = nm := hnm.symm
    clear hnm
    have e2 : (hasF n hs f == hasF n hs f) = true := by simp
    have e3 : (hasF n hs nm == hasF n hs nm) = true := by simp
    have hab := @Abv.cell W0
    clear HQ1_ HHD_ hW0 hstep k10 hlen2 hv1 hlen
    refine wp_region_abv (by kernel_rfl) (by kernel_rfl) ?_
    repeat (first | go_big_quiet_skip | (go_big_quiet_want; go_big_quiet_op; first | go_big_quiet_on | go_big_quiet_call ((first | (go_at_call 15; exact abv_call (HF1.out _)) | (go_at_call 16; exact abv_call (HH1.out _ _)) | (go_at_call 17; exact abv_call (HQ1.out _ _))))))
    refine wpQuiet_nil ?_
    rintro W9 ⟨⟨_, hb9⟩, rfl⟩
    go_wp2
    go_returns
    exact ⟨rfl, b_then HB4.out hb9⟩
end Go.Proofs.Ytnjjeedalmikaaa
