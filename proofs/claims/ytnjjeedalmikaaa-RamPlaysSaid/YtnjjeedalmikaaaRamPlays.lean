/- RamPlays: behind any calls each byte is the one that was stored last. No condition. -/
import Derived.Test.YtnjjeedalmikaaaRamT
import Derived.Test.YtnjjeedalmikaaaRamNews
namespace Go.Proofs.Ytnjjeedalmikaaa
open Go.ChangeShapes Go.WideShapes Go.ChangeAt Go.RowKit
set_option linter.unusedVariables false
set_option linter.unusedSimpArgs false
set_option maxRecDepth 10000 in
set_option maxHeartbeats 16000000 in
theorem walk_RamPlays (n : Int) (A1 : Option Addr) (len1 cap1 : Nat) (A2 : Option Addr) (len2 cap2 : Nat) (w : World) (w0 : (Lit.int .i64 n).wf = true) (r1 : Rows_ w [.i .i64, .i .i64] A1 len1) (c1 : len1 ≤ cap1) (r2 : Rows_ w [.i .i64, .i .u64, .i .i64, .i .u64, .i .i64, .i .i64] A2 len2) (c2 : len2 ≤ cap2) :
    Calls Try.prog 6 #[.int .i64 n, .slice A1 len1 cap1, .slice A2 len2 cap2] w fun e w' => e = .returned (.bool true) ∧ Below w.heap.size w w' := by
  have HFEW := Lib.hid (few_any r1 c1)
  have hl2 := r2.1
  clear r1 c1 w0 c2
  go_enter Try.func6, Try.ntmps6
  go_wp2_with fail
  refine HFEW.out.mono ?_
  rintro e wa ⟨v, hs, rfl, hl, hlen, hba⟩
  have HL_ := Lib.hid (HL.mono hl (Nat.zero_le _))
  have HLEN : Hid (hs.length < 4611686018427387904) := Lib.hid (by omega)
  have HNEW := Lib.hid (new_any HL_.out HLEN.out n)
  have HBA := Lib.hid hba
  clear hl hlen hba HFEW
  go_wp2_with fail
  refine HNEW.out.mono ?_
  rintro e wb ⟨hcase, hbb⟩
  have HB1 := Lib.hid (b_then HBA.out hbb)
  have HCK := Lib.hid (rCheck_any (HL.below HL_.out hbb) HLEN.out n)
  have HL1 := Lib.hid (HL.below HL_.out hbb)
  have HBS : Hid (w.heap.size ≤ wa.heap.size) := Lib.hid HBA.out.size
  clear hbb HNEW HBA HL_
  rcases hcase with ⟨hne, rfl⟩ | ⟨heq, b, m, rfl, hR⟩
  · obtain ⟨ck, hck⟩ : ∃ c, c = checkF n hs := ⟨_, rfl⟩
    rw [← hck] at HCK hne ⊢
    have k1 : (ck != 0) = true := by simpa using hne
    clear hck hne
    go_wp2_with fail
    refine HCK.out.mono ?_
    rintro e wc ⟨rfl, hbc⟩
    have HB2 := Lib.hid (b_then HB1.out hbc)
    clear hbc HCK HB1 HL1
    go_wp2_with fail
    refine (awake_any _).mono ?_
    rintro e wd ⟨rfl, hbd⟩
    have HB3 := Lib.hid (b_then HB2.out hbd)
    clear hbd HB2
    go_wp2
    go_returns
    exact ⟨rfl, HB3.out⟩
  obtain ⟨hn0, hn1, hlen⟩ := checkF_pos heq
  have HR1 := Lib.hid hR
  rw [heq] at HCK
  clear heq hR
  go_wp2_with fail
  refine HCK.out.mono ?_
  rintro e wc ⟨rfl, hbc⟩
  have HB2 := Lib.hid (b_then HB1.out hbc)
  have HR2 := Lib.hid (HR1.out.below hbc)
  have HL2 := Lib.hid (HL.below HL1.out hbc)
  clear hbc HCK HB1 HL1 HR1
  go_wp2_with fail
  refine (awake_any _).mono ?_
  rintro e wd ⟨rfl, hbd⟩
  have HB3 := Lib.hid (b_then HB2.out hbd)
  have HR3 := Lib.hid (HR2.out.below hbd)
  have HL3 := Lib.hid (HL.below HL2.out hbd)
  clear hbd HB2 HL2 HR2
  obtain ⟨A, cp, hv⟩ := HL.form HL3.out
  subst hv
  have hmm := @run_makeMap Try.prog
  go_upto_region 8 with fail
  obtain ⟨base, hbase⟩ : ∃ B, B = wa.heap.size := ⟨_, rfl⟩
  rw [← hbase] at HR3 HBS
  obtain ⟨W0, hW0⟩ : ∃ W, W = (wd.alloc (.map #[] 0)).alloc (.cells #[.int .i64 n, .slice A hs.length cp, .map (some wd.heap.size)] 40) := ⟨_, rfl⟩
  rw [← hW0]
  obtain ⟨bx, hbx⟩ : ∃ x, x = wd.heap.size + 1 := ⟨_, rfl⟩
  rw [← hbx]
  have hst : Below wd.heap.size wd W0 := by rw [hW0]; exact ((Below.refl _ _).alloc (Nat.le_refl _) _).alloc (by rw [World.size_alloc]; omega) _
  have hrb : RB W0 wd.heap.size (fun _ => 0) := by rw [hW0]; exact ⟨[], (MapU.made wd).alloc _, by simp [keys], fun a => rfl⟩
  have hkx : W0.heap[bx]? = some (.cells #[.int .i64 n, .slice A hs.length cp, .map (some wd.heap.size)] 40 (0, 0)) := by
    rw [hW0, hbx]
    have := heap_new (wd.alloc (.map #[] 0)) (.cells #[.int .i64 n, .slice A hs.length cp, .map (some wd.heap.size)] 40)
    rwa [World.size_alloc] at this
  obtain ⟨mb, hmb⟩ : ∃ x, x = wd.heap.size := ⟨_, rfl⟩
  have hS0 : ST w base b m mb n (.slice A hs.length cp) hs [(bx, #[.int .i64 n, .slice A hs.length cp, .map (some mb)], 40)] W0 (fun _ => 0) (fun _ => 0) := by
    rw [hmb]
    refine ⟨b_then HB3.out hst, HR3.out.below hst, hrb, HL.below HL3.out hst, fun p hp => ?_, HBS.out, HB3.out.size, fun e => by have := HR3.out.ltm; omega⟩
    rw [List.mem_singleton.1 hp]
    exact ⟨hkx, (by decide : 40 ≠ 65)⟩
  rw [← hmb]
  have HS0 := Lib.hid hS0
  clear hst hrb hkx hS0 hmb hbx hW0 hbase HB3 HR3 HL3 HBS hmm
  go_wp2_with fail
  go_loopw [10] (fun i wr => ∃ (k : Nat) (M : Nat → Nat), i = .int .i64 k ∧ k ≤ len2 ∧ k ≤ 40 ∧ ST w base b m mb n (.slice A hs.length cp) hs [(bx, #[.int .i64 n, .slice A hs.length cp, .map (some mb)], 40)] wr M M) (fun i _ => (40 - intOf i).toNat)
  case atStart => exact ⟨0, _, rfl, by omega, by omega, HS0.out⟩
  case round =>
    clear HS0
    obtain ⟨k, M, rfl, hle, hle2, hST⟩ := hrel
    by_cases hlt : k < len2 ∧ k < 40
    · obtain ⟨hl1, hl3⟩ := hlt
      obtain ⟨bl, off, hA0, hbs, kd, addr, size, x, t, f, haddr, hxx, ht63, g0, g1, g2, g3, g4, g5⟩ := act_row6 r2 hl1
      have f0 : decide (k < len2) = true := decide_eq_true hl1
      have f1 : decide ((k : Int) < 40) = true := decide_eq_true (by omega)
      subst hA0
      obtain ⟨hcB, hfB⟩ := bcell hST.bl
      have a0 := (hcB bl _ hbs).trans g0
      have a1 := (hcB bl _ hbs).trans g1
      have a2 := (hcB bl _ hbs).trans g2
      have a3 := (hcB bl _ hbs).trans g3
      have a4 := (hcB bl _ hbs).trans g4
      have a5 := (hcB bl _ hbs).trans g5
      have hblw : bl < wr.heap.size := Nat.lt_of_lt_of_le hbs hST.bl.size
      obtain ⟨er, her⟩ : ∃ er, er = errF n hs addr size := ⟨_, rfl⟩
      have hS1 := hST.more #[.int .i64 kd, .int .u64 addr, .int .i64 size, .int .u64 x, .int .i64 t, .int .i64 f] 47 (by decide)
      have HE_ := rError_any (mb := mb) hS1.hl HLEN.out n hn0 hn1 addr haddr size
      rw [← her] at HE_
      have HEC := Lib.hid HE_
      have HER := Lib.hid her
      have HS1 := Lib.hid hS1
      have HAD := Lib.hid haddr
      have HXX := Lib.hid hxx
      have HT63 := Lib.hid ht63
      obtain ⟨y, hy⟩ : ∃ y, y = wr.heap.size := ⟨_, rfl⟩
      have x0 : (wr.alloc (.cells #[.int .i64 kd, .int .u64 addr, .int .i64 size, .int .u64 x, .int .i64 t, .int .i64 f] 47)).cell? ⟨bx, 0, none⟩ = some (.int .i64 n) := cell_heap (hS1.kp _ (List.mem_cons_of_mem _ List.mem_cons_self)).1 0
      have x1 : (wr.alloc (.cells #[.int .i64 kd, .int .u64 addr, .int .i64 size, .int .u64 x, .int .i64 t, .int .i64 f] 47)).cell? ⟨bx, 1, none⟩ = some (.slice A hs.length cp) := cell_heap (hS1.kp _ (List.mem_cons_of_mem _ List.mem_cons_self)).1 1
      have x2 : (wr.alloc (.cells #[.int .i64 kd, .int .u64 addr, .int .i64 size, .int .u64 x, .int .i64 t, .int .i64 f] 47)).cell? ⟨bx, 2, none⟩ = some (.map (some mb)) := cell_heap (hS1.kp _ (List.mem_cons_of_mem _ List.mem_cons_self)).1 2
      clear g0 g1 g2 g3 g4 g5 hcB hfB her hS1 HE_ hST haddr hxx ht63 hy
      go_wp2_with fail
      refine HEC.out.mono ?_
      rintro e wz ⟨rfl, hb⟩
      have S := Lib.hid (HS1.out.below hb)
      clear hb HEC HS1 x0 x1 x2 a0 a1 a2 a3 a4 a5
      have y0 : wz.cell? ⟨wr.heap.size, 0, none⟩ = some (.int .i64 kd) := cell_heap (S.out.kp _ List.mem_cons_self).1 0
      have y1 : wz.cell? ⟨wr.heap.size, 1, none⟩ = some (.int .u64 addr) := cell_heap (S.out.kp _ List.mem_cons_self).1 1
      have y2 : wz.cell? ⟨wr.heap.size, 2, none⟩ = some (.int .i64 size) := cell_heap (S.out.kp _ List.mem_cons_self).1 2
      have y3 : wz.cell? ⟨wr.heap.size, 3, none⟩ = some (.int .u64 x) := cell_heap (S.out.kp _ List.mem_cons_self).1 3
      have y4 : wz.cell? ⟨wr.heap.size, 4, none⟩ = some (.int .i64 t) := cell_heap (S.out.kp _ List.mem_cons_self).1 4
      have y5 : wz.cell? ⟨wr.heap.size, 5, none⟩ = some (.int .i64 f) := cell_heap (S.out.kp _ List.mem_cons_self).1 5
      have x0 : wz.cell? ⟨bx, 0, none⟩ = some (.int .i64 n) := cell_heap (S.out.kp _ (List.mem_cons_of_mem _ List.mem_cons_self)).1 0
      have x1 : wz.cell? ⟨bx, 1, none⟩ = some (.slice A hs.length cp) := cell_heap (S.out.kp _ (List.mem_cons_of_mem _ List.mem_cons_self)).1 1
      have x2 : wz.cell? ⟨bx, 2, none⟩ = some (.map (some mb)) := cell_heap (S.out.kp _ (List.mem_cons_of_mem _ List.mem_cons_self)).1 2
      have sy := heap_lt (S.out.kp _ List.mem_cons_self).1
      have sx := heap_lt (S.out.kp _ (List.mem_cons_of_mem _ List.mem_cons_self)).1
      by_cases k1 : kd = 1
      · subst k1
        by_cases hz : er = 0
        · as_aux_lemma =>
          subst hz
          have hE := HER.out.symm
          obtain ⟨z1, z2, z3, _, _⟩ := errF_good hE
          obtain ⟨s, rfl⟩ : ∃ s : Nat, size = s := ⟨size.toNat, by omega⟩
          have HSS : Hid (s ≤ 8 ∧ addr + s ≤ 18446744073709551616) := Lib.hid (by omega)
          clear z1 z2 z3
          have H1_ := store_any S.out.ram addr x s HAD.out HXX.out
          rw [hE, if_pos rfl, Int.toNat_natCast] at H1_
          have H1 := Lib.hid H1_
          clear H1_
          clear hE
          go_wp2_with fail
          refine H1.out.mono ?_
          rintro e wq1 ⟨rfl, hT, hR⟩
          have S_ := Lib.hid (S.out.rt hT hR)
          clear H1 y0 y1 y2 y3 y4 y5 x0 x1 x2 sy sx S
          have S := S_
          clear S_ hT hR
          have y0 : wq1.cell? ⟨wr.heap.size, 0, none⟩ = some (.int .i64 1) := cell_heap (S.out.kp _ List.mem_cons_self).1 0
          have y1 : wq1.cell? ⟨wr.heap.size, 1, none⟩ = some (.int .u64 addr) := cell_heap (S.out.kp _ List.mem_cons_self).1 1
          have y2 : wq1.cell? ⟨wr.heap.size, 2, none⟩ = some (.int .i64 (s : Nat)) := cell_heap (S.out.kp _ List.mem_cons_self).1 2
          have y3 : wq1.cell? ⟨wr.heap.size, 3, none⟩ = some (.int .u64 x) := cell_heap (S.out.kp _ List.mem_cons_self).1 3
          have y4 : wq1.cell? ⟨wr.heap.size, 4, none⟩ = some (.int .i64 t) := cell_heap (S.out.kp _ List.mem_cons_self).1 4
          have y5 : wq1.cell? ⟨wr.heap.size, 5, none⟩ = some (.int .i64 f) := cell_heap (S.out.kp _ List.mem_cons_self).1 5
          have x0 : wq1.cell? ⟨bx, 0, none⟩ = some (.int .i64 n) := cell_heap (S.out.kp _ (List.mem_cons_of_mem _ List.mem_cons_self)).1 0
          have x1 : wq1.cell? ⟨bx, 1, none⟩ = some (.slice A hs.length cp) := cell_heap (S.out.kp _ (List.mem_cons_of_mem _ List.mem_cons_self)).1 1
          have x2 : wq1.cell? ⟨bx, 2, none⟩ = some (.map (some mb)) := cell_heap (S.out.kp _ (List.mem_cons_of_mem _ List.mem_cons_self)).1 2
          have sy := heap_lt (S.out.kp _ List.mem_cons_self).1
          have sx := heap_lt (S.out.kp _ (List.mem_cons_of_mem _ List.mem_cons_self)).1
          have H2 := Lib.hid (rStore_any (v := .slice A hs.length cp) S.out.rb rfl n addr s x HSS.out.1 HSS.out.2 HXX.out)
          go_wp2_with fail
          refine H2.out.mono ?_
          rintro e wq2 ⟨rfl, hT, hR⟩
          have S_ := Lib.hid (S.out.tm hT hR)
          clear H2 y0 y1 y2 y3 y4 y5 x0 x1 x2 sy sx S
          have S := S_
          clear S_ hT hR
          have y0 : wq2.cell? ⟨wr.heap.size, 0, none⟩ = some (.int .i64 1) := cell_heap (S.out.kp _ List.mem_cons_self).1 0
          have y1 : wq2.cell? ⟨wr.heap.size, 1, none⟩ = some (.int .u64 addr) := cell_heap (S.out.kp _ List.mem_cons_self).1 1
          have y2 : wq2.cell? ⟨wr.heap.size, 2, none⟩ = some (.int .i64 (s : Nat)) := cell_heap (S.out.kp _ List.mem_cons_self).1 2
          have y3 : wq2.cell? ⟨wr.heap.size, 3, none⟩ = some (.int .u64 x) := cell_heap (S.out.kp _ List.mem_cons_self).1 3
          have y4 : wq2.cell? ⟨wr.heap.size, 4, none⟩ = some (.int .i64 t) := cell_heap (S.out.kp _ List.mem_cons_self).1 4
          have y5 : wq2.cell? ⟨wr.heap.size, 5, none⟩ = some (.int .i64 f) := cell_heap (S.out.kp _ List.mem_cons_self).1 5
          have x0 : wq2.cell? ⟨bx, 0, none⟩ = some (.int .i64 n) := cell_heap (S.out.kp _ (List.mem_cons_of_mem _ List.mem_cons_self)).1 0
          have x1 : wq2.cell? ⟨bx, 1, none⟩ = some (.slice A hs.length cp) := cell_heap (S.out.kp _ (List.mem_cons_of_mem _ List.mem_cons_self)).1 1
          have x2 : wq2.cell? ⟨bx, 2, none⟩ = some (.map (some mb)) := cell_heap (S.out.kp _ (List.mem_cons_of_mem _ List.mem_cons_self)).1 2
          have sy := heap_lt (S.out.kp _ List.mem_cons_self).1
          have sx := heap_lt (S.out.kp _ (List.mem_cons_of_mem _ List.mem_cons_self)).1
          by_cases u1 : 0 ≤ t
          · have v1 : decide (0 ≤ t) = true := decide_eq_true u1
            by_cases u2 : t < n
            · have v2 : decide (t < n) = true := decide_eq_true u2
              obtain ⟨tn, rfl⟩ : ∃ k : Nat, t = k := ⟨t.toNat, by omega⟩
              have HCa_ := fun X : Abv wq2 => clear_any (S.out.ram.below X.ok) tn (by omega)
              have HCb_ := fun X : Abv wq2 => rClear_any (v := .slice A hs.length cp) (S.out.rb.below X.ok) rfl n tn (by omega)
              generalize hcc : clearF (storeF M addr s x) tn = cc at HCa_ HCb_
              have ec : (cc != cc) = false := by cases cc <;> rfl
              have HCa := Lib.hid HCa_
              have HCb := Lib.hid HCb_
              clear HCa_ HCb_ hcc u2
              have hab := @Abv.cell wq2
              go_upto_region 35 with fail
              refine wp_region_abv (by kernel_rfl) (by kernel_rfl) ?_
              repeat (first | go_big_quiet_skip | (go_big_quiet_want; go_big_quiet_op; first | go_big_quiet_on | go_big_quiet_call ((first | (go_at_call 25; exact abv_call (HCa.out _)) | (go_at_call 26; exact abv_call (HCb.out _))))))
              refine wpQuiet_nil ?_
              rintro wt3 ⟨⟨_, hb9⟩, rfl⟩
              have S9 := Lib.hid (S.out.below hb9).less
              clear S hb9 y0 y1 y2 y3 y4 y5 x0 x1 x2 sy sx hab
              go_wp2_with fail
              go_roundw
              case rel => exact ⟨k + 1, _, by go_num, by omega, by omega, S9.out⟩
              case measure => simp [intOf]; omega
            · have v2 : decide (t < n) = false := decide_eq_false u2
              clear u2
              have hab := @Abv.cell wq2
              go_upto_region 35 with fail
              refine wp_region_abv (by kernel_rfl) (by kernel_rfl) ?_
              repeat (first | go_big_quiet_skip | (go_big_quiet_want; go_big_quiet_op; first | go_big_quiet_on | go_big_quiet_call ((fail))))
              refine wpQuiet_nil ?_
              rintro wt4 ⟨⟨_, hb9⟩, rfl⟩
              have S9 := Lib.hid (S.out.below hb9).less
              clear S hb9 y0 y1 y2 y3 y4 y5 x0 x1 x2 sy sx hab
              go_wp2_with fail
              go_roundw
              case rel => exact ⟨k + 1, _, by go_num, by omega, by omega, S9.out⟩
              case measure => simp [intOf]; omega
          · have v1 : decide (0 ≤ t) = false := decide_eq_false u1
            clear u1
            have hab := @Abv.cell wq2
            go_upto_region 35 with fail
            refine wp_region_abv (by kernel_rfl) (by kernel_rfl) ?_
            repeat (first | go_big_quiet_skip | (go_big_quiet_want; go_big_quiet_op; first | go_big_quiet_on | go_big_quiet_call ((fail))))
            refine wpQuiet_nil ?_
            rintro wt5 ⟨⟨_, hb9⟩, rfl⟩
            have S9 := Lib.hid (S.out.below hb9).less
            clear S hb9 y0 y1 y2 y3 y4 y5 x0 x1 x2 sy sx hab
            go_wp2_with fail
            go_roundw
            case rel => exact ⟨k + 1, _, by go_num, by omega, by omega, S9.out⟩
            case measure => simp [intOf]; omega
        · as_aux_lemma =>
          have hz1 : (er == 0) = false := by simpa using hz
          have H1_ := store_any S.out.ram addr x size HAD.out HXX.out
          rw [← HER.out, if_neg hz] at H1_
          have H1 := Lib.hid H1_
          clear H1_
          clear hz
          go_wp2_with fail
          refine H1.out.mono ?_
          rintro e wq6 ⟨rfl, hT, hR⟩
          have S_ := Lib.hid (S.out.rt hT hR)
          clear H1 y0 y1 y2 y3 y4 y5 x0 x1 x2 sy sx S
          have S := S_
          clear S_ hT hR
          have y0 : wq6.cell? ⟨wr.heap.size, 0, none⟩ = some (.int .i64 1) := cell_heap (S.out.kp _ List.mem_cons_self).1 0
          have y1 : wq6.cell? ⟨wr.heap.size, 1, none⟩ = some (.int .u64 addr) := cell_heap (S.out.kp _ List.mem_cons_self).1 1
          have y2 : wq6.cell? ⟨wr.heap.size, 2, none⟩ = some (.int .i64 size) := cell_heap (S.out.kp _ List.mem_cons_self).1 2
          have y3 : wq6.cell? ⟨wr.heap.size, 3, none⟩ = some (.int .u64 x) := cell_heap (S.out.kp _ List.mem_cons_self).1 3
          have y4 : wq6.cell? ⟨wr.heap.size, 4, none⟩ = some (.int .i64 t) := cell_heap (S.out.kp _ List.mem_cons_self).1 4
          have y5 : wq6.cell? ⟨wr.heap.size, 5, none⟩ = some (.int .i64 f) := cell_heap (S.out.kp _ List.mem_cons_self).1 5
          have x0 : wq6.cell? ⟨bx, 0, none⟩ = some (.int .i64 n) := cell_heap (S.out.kp _ (List.mem_cons_of_mem _ List.mem_cons_self)).1 0
          have x1 : wq6.cell? ⟨bx, 1, none⟩ = some (.slice A hs.length cp) := cell_heap (S.out.kp _ (List.mem_cons_of_mem _ List.mem_cons_self)).1 1
          have x2 : wq6.cell? ⟨bx, 2, none⟩ = some (.map (some mb)) := cell_heap (S.out.kp _ (List.mem_cons_of_mem _ List.mem_cons_self)).1 2
          have sy := heap_lt (S.out.kp _ List.mem_cons_self).1
          have sx := heap_lt (S.out.kp _ (List.mem_cons_of_mem _ List.mem_cons_self)).1
          by_cases u1 : 0 ≤ t
          · have v1 : decide (0 ≤ t) = true := decide_eq_true u1
            by_cases u2 : t < n
            · have v2 : decide (t < n) = true := decide_eq_true u2
              obtain ⟨tn, rfl⟩ : ∃ k : Nat, t = k := ⟨t.toNat, by omega⟩
              have HCa_ := fun X : Abv wq6 => clear_any (S.out.ram.below X.ok) tn (by omega)
              have HCb_ := fun X : Abv wq6 => rClear_any (v := .slice A hs.length cp) (S.out.rb.below X.ok) rfl n tn (by omega)
              generalize hcc : clearF M tn = cc at HCa_ HCb_
              have ec : (cc != cc) = false := by cases cc <;> rfl
              have HCa := Lib.hid HCa_
              have HCb := Lib.hid HCb_
              clear HCa_ HCb_ hcc u2
              have hab := @Abv.cell wq6
              go_upto_region 35 with fail
              refine wp_region_abv (by kernel_rfl) (by kernel_rfl) ?_
              repeat (first | go_big_quiet_skip | (go_big_quiet_want; go_big_quiet_op; first | go_big_quiet_on | go_big_quiet_call ((first | (go_at_call 25; exact abv_call (HCa.out _)) | (go_at_call 26; exact abv_call (HCb.out _))))))
              refine wpQuiet_nil ?_
              rintro wt7 ⟨⟨_, hb9⟩, rfl⟩
              have S9 := Lib.hid (S.out.below hb9).less
              clear S hb9 y0 y1 y2 y3 y4 y5 x0 x1 x2 sy sx hab
              go_wp2_with fail
              go_roundw
              case rel => exact ⟨k + 1, _, by go_num, by omega, by omega, S9.out⟩
              case measure => simp [intOf]; omega
            · have v2 : decide (t < n) = false := decide_eq_false u2
              clear u2
              have hab := @Abv.cell wq6
              go_upto_region 35 with fail
              refine wp_region_abv (by kernel_rfl) (by kernel_rfl) ?_
              repeat (first | go_big_quiet_skip | (go_big_quiet_want; go_big_quiet_op; first | go_big_quiet_on | go_big_quiet_call ((fail))))
              refine wpQuiet_nil ?_
              rintro wt8 ⟨⟨_, hb9⟩, rfl⟩
              have S9 := Lib.hid (S.out.below hb9).less
              clear S hb9 y0 y1 y2 y3 y4 y5 x0 x1 x2 sy sx hab
              go_wp2_with fail
              go_roundw
              case rel => exact ⟨k + 1, _, by go_num, by omega, by omega, S9.out⟩
              case measure => simp [intOf]; omega
          · have v1 : decide (0 ≤ t) = false := decide_eq_false u1
            clear u1
            have hab := @Abv.cell wq6
            go_upto_region 35 with fail
            refine wp_region_abv (by kernel_rfl) (by kernel_rfl) ?_
            repeat (first | go_big_quiet_skip | (go_big_quiet_want; go_big_quiet_op; first | go_big_quiet_on | go_big_quiet_call ((fail))))
            refine wpQuiet_nil ?_
            rintro wt9 ⟨⟨_, hb9⟩, rfl⟩
            have S9 := Lib.hid (S.out.below hb9).less
            clear S hb9 y0 y1 y2 y3 y4 y5 x0 x1 x2 sy sx hab
            go_wp2_with fail
            go_roundw
            case rel => exact ⟨k + 1, _, by go_num, by omega, by omega, S9.out⟩
            case measure => simp [intOf]; omega
      by_cases k2 : kd = 2
      · subst k2
        by_cases hz : er = 0
        · as_aux_lemma =>
          subst hz
          have hE := HER.out.symm
          obtain ⟨z1, z2, z3, _, _⟩ := errF_good hE
          obtain ⟨s, rfl⟩ : ∃ s : Nat, size = s := ⟨size.toNat, by omega⟩
          have HSS : Hid (s ≤ 8 ∧ addr + s ≤ 18446744073709551616) := Lib.hid (by omega)
          clear z1 z2 z3
          have hlr : loadR n hs M addr (s : Int) = (loadF M addr s : Nat) := by unfold loadR; rw [if_pos hE, Int.toNat_natCast]
          have H1_ := load_any S.out.ram addr s HAD.out
          rw [hE, hlr] at H1_
          have H1 := Lib.hid H1_
          clear H1_
          clear hE hlr
          obtain ⟨lv, hlv⟩ : ∃ lv, lv = loadF M addr s := ⟨_, rfl⟩
          rw [← hlv] at H1
          have HBY := Lib.hid S.out.ram.byte
          go_wp2_with fail
          refine H1.out.mono ?_
          rintro e wq10 ⟨rfl, hb⟩
          have S_ := Lib.hid (S.out.below hb)
          clear H1 y0 y1 y2 y3 y4 y5 x0 x1 x2 sy sx S
          have S := S_
          clear S_ hb
          have y0 : wq10.cell? ⟨wr.heap.size, 0, none⟩ = some (.int .i64 2) := cell_heap (S.out.kp _ List.mem_cons_self).1 0
          have y1 : wq10.cell? ⟨wr.heap.size, 1, none⟩ = some (.int .u64 addr) := cell_heap (S.out.kp _ List.mem_cons_self).1 1
          have y2 : wq10.cell? ⟨wr.heap.size, 2, none⟩ = some (.int .i64 (s : Nat)) := cell_heap (S.out.kp _ List.mem_cons_self).1 2
          have y3 : wq10.cell? ⟨wr.heap.size, 3, none⟩ = some (.int .u64 x) := cell_heap (S.out.kp _ List.mem_cons_self).1 3
          have y4 : wq10.cell? ⟨wr.heap.size, 4, none⟩ = some (.int .i64 t) := cell_heap (S.out.kp _ List.mem_cons_self).1 4
          have y5 : wq10.cell? ⟨wr.heap.size, 5, none⟩ = some (.int .i64 f) := cell_heap (S.out.kp _ List.mem_cons_self).1 5
          have x0 : wq10.cell? ⟨bx, 0, none⟩ = some (.int .i64 n) := cell_heap (S.out.kp _ (List.mem_cons_of_mem _ List.mem_cons_self)).1 0
          have x1 : wq10.cell? ⟨bx, 1, none⟩ = some (.slice A hs.length cp) := cell_heap (S.out.kp _ (List.mem_cons_of_mem _ List.mem_cons_self)).1 1
          have x2 : wq10.cell? ⟨bx, 2, none⟩ = some (.map (some mb)) := cell_heap (S.out.kp _ (List.mem_cons_of_mem _ List.mem_cons_self)).1 2
          have sy := heap_lt (S.out.kp _ List.mem_cons_self).1
          have sx := heap_lt (S.out.kp _ (List.mem_cons_of_mem _ List.mem_cons_self)).1
          have H2_ := rLoad_any (v := .slice A hs.length cp) S.out.rb HBY.out rfl n addr s HSS.out.1 HSS.out.2 HAD.out
          rw [← hlv] at H2_
          have H2 := Lib.hid H2_
          clear H2_
          clear hlv
          go_wp2_with fail
          refine H2.out.mono ?_
          rintro e wq11 ⟨rfl, hb⟩
          have S_ := Lib.hid (S.out.below hb)
          clear H2 y0 y1 y2 y3 y4 y5 x0 x1 x2 sy sx S
          have S := S_
          clear S_ hb
          have y0 : wq11.cell? ⟨wr.heap.size, 0, none⟩ = some (.int .i64 2) := cell_heap (S.out.kp _ List.mem_cons_self).1 0
          have y1 : wq11.cell? ⟨wr.heap.size, 1, none⟩ = some (.int .u64 addr) := cell_heap (S.out.kp _ List.mem_cons_self).1 1
          have y2 : wq11.cell? ⟨wr.heap.size, 2, none⟩ = some (.int .i64 (s : Nat)) := cell_heap (S.out.kp _ List.mem_cons_self).1 2
          have y3 : wq11.cell? ⟨wr.heap.size, 3, none⟩ = some (.int .u64 x) := cell_heap (S.out.kp _ List.mem_cons_self).1 3
          have y4 : wq11.cell? ⟨wr.heap.size, 4, none⟩ = some (.int .i64 t) := cell_heap (S.out.kp _ List.mem_cons_self).1 4
          have y5 : wq11.cell? ⟨wr.heap.size, 5, none⟩ = some (.int .i64 f) := cell_heap (S.out.kp _ List.mem_cons_self).1 5
          have x0 : wq11.cell? ⟨bx, 0, none⟩ = some (.int .i64 n) := cell_heap (S.out.kp _ (List.mem_cons_of_mem _ List.mem_cons_self)).1 0
          have x1 : wq11.cell? ⟨bx, 1, none⟩ = some (.slice A hs.length cp) := cell_heap (S.out.kp _ (List.mem_cons_of_mem _ List.mem_cons_self)).1 1
          have x2 : wq11.cell? ⟨bx, 2, none⟩ = some (.map (some mb)) := cell_heap (S.out.kp _ (List.mem_cons_of_mem _ List.mem_cons_self)).1 2
          have sy := heap_lt (S.out.kp _ List.mem_cons_self).1
          have sx := heap_lt (S.out.kp _ (List.mem_cons_of_mem _ List.mem_cons_self)).1
          by_cases u1 : 0 ≤ t
          · have v1 : decide (0 ≤ t) = true := decide_eq_true u1
            by_cases u2 : t < n
            · have v2 : decide (t < n) = true := decide_eq_true u2
              obtain ⟨tn, rfl⟩ : ∃ k : Nat, t = k := ⟨t.toNat, by omega⟩
              have HCa_ := fun X : Abv wq11 => clear_any (S.out.ram.below X.ok) tn (by omega)
              have HCb_ := fun X : Abv wq11 => rClear_any (v := .slice A hs.length cp) (S.out.rb.below X.ok) rfl n tn (by omega)
              generalize hcc : clearF M tn = cc at HCa_ HCb_
              have ec : (cc != cc) = false := by cases cc <;> rfl
              have HCa := Lib.hid HCa_
              have HCb := Lib.hid HCb_
              clear HCa_ HCb_ hcc u2
              have hab := @Abv.cell wq11
              go_upto_region 35 with fail
              refine wp_region_abv (by kernel_rfl) (by kernel_rfl) ?_
              repeat (first | go_big_quiet_skip | (go_big_quiet_want; go_big_quiet_op; first | go_big_quiet_on | go_big_quiet_call ((first | (go_at_call 25; exact abv_call (HCa.out _)) | (go_at_call 26; exact abv_call (HCb.out _))))))
              refine wpQuiet_nil ?_
              rintro wt12 ⟨⟨_, hb9⟩, rfl⟩
              have S9 := Lib.hid (S.out.below hb9).less
              clear S hb9 y0 y1 y2 y3 y4 y5 x0 x1 x2 sy sx hab
              go_wp2_with fail
              go_roundw
              case rel => exact ⟨k + 1, _, by go_num, by omega, by omega, S9.out⟩
              case measure => simp [intOf]; omega
            · have v2 : decide (t < n) = false := decide_eq_false u2
              clear u2
              have hab := @Abv.cell wq11
              go_upto_region 35 with fail
              refine wp_region_abv (by kernel_rfl) (by kernel_rfl) ?_
              repeat (first | go_big_quiet_skip | (go_big_quiet_want; go_big_quiet_op; first | go_big_quiet_on | go_big_quiet_call ((fail))))
              refine wpQuiet_nil ?_
              rintro wt13 ⟨⟨_, hb9⟩, rfl⟩
              have S9 := Lib.hid (S.out.below hb9).less
              clear S hb9 y0 y1 y2 y3 y4 y5 x0 x1 x2 sy sx hab
              go_wp2_with fail
              go_roundw
              case rel => exact ⟨k + 1, _, by go_num, by omega, by omega, S9.out⟩
              case measure => simp [intOf]; omega
          · have v1 : decide (0 ≤ t) = false := decide_eq_false u1
            clear u1
            have hab := @Abv.cell wq11
            go_upto_region 35 with fail
            refine wp_region_abv (by kernel_rfl) (by kernel_rfl) ?_
            repeat (first | go_big_quiet_skip | (go_big_quiet_want; go_big_quiet_op; first | go_big_quiet_on | go_big_quiet_call ((fail))))
            refine wpQuiet_nil ?_
            rintro wt14 ⟨⟨_, hb9⟩, rfl⟩
            have S9 := Lib.hid (S.out.below hb9).less
            clear S hb9 y0 y1 y2 y3 y4 y5 x0 x1 x2 sy sx hab
            go_wp2_with fail
            go_roundw
            case rel => exact ⟨k + 1, _, by go_num, by omega, by omega, S9.out⟩
            case measure => simp [intOf]; omega
        · as_aux_lemma =>
          have hz1 : (er == 0) = false := by simpa using hz
          have hz2 : (er != 0) = true := by simpa using hz
          have hz3 : (er != er) = false := by simp
          have hlr : loadR n hs M addr size = 0 := by unfold loadR; rw [← HER.out, if_neg hz]
          have H1_ := load_any S.out.ram addr size HAD.out
          rw [← HER.out, hlr] at H1_
          have H1 := Lib.hid H1_
          clear H1_
          clear hz hlr
          go_wp2_with fail
          refine H1.out.mono ?_
          rintro e wq15 ⟨rfl, hb⟩
          have S_ := Lib.hid (S.out.below hb)
          clear H1 y0 y1 y2 y3 y4 y5 x0 x1 x2 sy sx S
          have S := S_
          clear S_ hb
          have y0 : wq15.cell? ⟨wr.heap.size, 0, none⟩ = some (.int .i64 2) := cell_heap (S.out.kp _ List.mem_cons_self).1 0
          have y1 : wq15.cell? ⟨wr.heap.size, 1, none⟩ = some (.int .u64 addr) := cell_heap (S.out.kp _ List.mem_cons_self).1 1
          have y2 : wq15.cell? ⟨wr.heap.size, 2, none⟩ = some (.int .i64 size) := cell_heap (S.out.kp _ List.mem_cons_self).1 2
          have y3 : wq15.cell? ⟨wr.heap.size, 3, none⟩ = some (.int .u64 x) := cell_heap (S.out.kp _ List.mem_cons_self).1 3
          have y4 : wq15.cell? ⟨wr.heap.size, 4, none⟩ = some (.int .i64 t) := cell_heap (S.out.kp _ List.mem_cons_self).1 4
          have y5 : wq15.cell? ⟨wr.heap.size, 5, none⟩ = some (.int .i64 f) := cell_heap (S.out.kp _ List.mem_cons_self).1 5
          have x0 : wq15.cell? ⟨bx, 0, none⟩ = some (.int .i64 n) := cell_heap (S.out.kp _ (List.mem_cons_of_mem _ List.mem_cons_self)).1 0
          have x1 : wq15.cell? ⟨bx, 1, none⟩ = some (.slice A hs.length cp) := cell_heap (S.out.kp _ (List.mem_cons_of_mem _ List.mem_cons_self)).1 1
          have x2 : wq15.cell? ⟨bx, 2, none⟩ = some (.map (some mb)) := cell_heap (S.out.kp _ (List.mem_cons_of_mem _ List.mem_cons_self)).1 2
          have sy := heap_lt (S.out.kp _ List.mem_cons_self).1
          have sx := heap_lt (S.out.kp _ (List.mem_cons_of_mem _ List.mem_cons_self)).1
          by_cases u1 : 0 ≤ t
          · have v1 : decide (0 ≤ t) = true := decide_eq_true u1
            by_cases u2 : t < n
            · have v2 : decide (t < n) = true := decide_eq_true u2
              obtain ⟨tn, rfl⟩ : ∃ k : Nat, t = k := ⟨t.toNat, by omega⟩
              have HCa_ := fun X : Abv wq15 => clear_any (S.out.ram.below X.ok) tn (by omega)
              have HCb_ := fun X : Abv wq15 => rClear_any (v := .slice A hs.length cp) (S.out.rb.below X.ok) rfl n tn (by omega)
              generalize hcc : clearF M tn = cc at HCa_ HCb_
              have ec : (cc != cc) = false := by cases cc <;> rfl
              have HCa := Lib.hid HCa_
              have HCb := Lib.hid HCb_
              clear HCa_ HCb_ hcc u2
              have hab := @Abv.cell wq15
              go_upto_region 35 with fail
              refine wp_region_abv (by kernel_rfl) (by kernel_rfl) ?_
              repeat (first | go_big_quiet_skip | (go_big_quiet_want; go_big_quiet_op; first | go_big_quiet_on | go_big_quiet_call ((first | (go_at_call 25; exact abv_call (HCa.out _)) | (go_at_call 26; exact abv_call (HCb.out _))))))
              refine wpQuiet_nil ?_
              rintro wt16 ⟨⟨_, hb9⟩, rfl⟩
              have S9 := Lib.hid (S.out.below hb9).less
              clear S hb9 y0 y1 y2 y3 y4 y5 x0 x1 x2 sy sx hab
              go_wp2_with fail
              go_roundw
              case rel => exact ⟨k + 1, _, by go_num, by omega, by omega, S9.out⟩
              case measure => simp [intOf]; omega
            · have v2 : decide (t < n) = false := decide_eq_false u2
              clear u2
              have hab := @Abv.cell wq15
              go_upto_region 35 with fail
              refine wp_region_abv (by kernel_rfl) (by kernel_rfl) ?_
              repeat (first | go_big_quiet_skip | (go_big_quiet_want; go_big_quiet_op; first | go_big_quiet_on | go_big_quiet_call ((fail))))
              refine wpQuiet_nil ?_
              rintro wt17 ⟨⟨_, hb9⟩, rfl⟩
              have S9 := Lib.hid (S.out.below hb9).less
              clear S hb9 y0 y1 y2 y3 y4 y5 x0 x1 x2 sy sx hab
              go_wp2_with fail
              go_roundw
              case rel => exact ⟨k + 1, _, by go_num, by omega, by omega, S9.out⟩
              case measure => simp [intOf]; omega
          · have v1 : decide (0 ≤ t) = false := decide_eq_false u1
            clear u1
            have hab := @Abv.cell wq15
            go_upto_region 35 with fail
            refine wp_region_abv (by kernel_rfl) (by kernel_rfl) ?_
            repeat (first | go_big_quiet_skip | (go_big_quiet_want; go_big_quiet_op; first | go_big_quiet_on | go_big_quiet_call ((fail))))
            refine wpQuiet_nil ?_
            rintro wt18 ⟨⟨_, hb9⟩, rfl⟩
            have S9 := Lib.hid (S.out.below hb9).less
            clear S hb9 y0 y1 y2 y3 y4 y5 x0 x1 x2 sy sx hab
            go_wp2_with fail
            go_roundw
            case rel => exact ⟨k + 1, _, by go_num, by omega, by omega, S9.out⟩
            case measure => simp [intOf]; omega
      by_cases k3 : kd = 3
      · subst k3
        cases hB : hasF n hs t
        · as_aux_lemma =>
          skip
          have H1_ := zero_any S.out.ram t HT63.out
          rw [hB, if_neg (by decide), if_neg (by decide)] at H1_
          have H1 := Lib.hid H1_
          clear H1_
          go_wp2_with fail
          refine H1.out.mono ?_
          rintro e wq19 ⟨rfl, hT, hR⟩
          have S_ := Lib.hid (S.out.rt hT hR)
          clear H1 y0 y1 y2 y3 y4 y5 x0 x1 x2 sy sx S
          have S := S_
          clear S_ hT hR
          have y0 : wq19.cell? ⟨wr.heap.size, 0, none⟩ = some (.int .i64 3) := cell_heap (S.out.kp _ List.mem_cons_self).1 0
          have y1 : wq19.cell? ⟨wr.heap.size, 1, none⟩ = some (.int .u64 addr) := cell_heap (S.out.kp _ List.mem_cons_self).1 1
          have y2 : wq19.cell? ⟨wr.heap.size, 2, none⟩ = some (.int .i64 size) := cell_heap (S.out.kp _ List.mem_cons_self).1 2
          have y3 : wq19.cell? ⟨wr.heap.size, 3, none⟩ = some (.int .u64 x) := cell_heap (S.out.kp _ List.mem_cons_self).1 3
          have y4 : wq19.cell? ⟨wr.heap.size, 4, none⟩ = some (.int .i64 t) := cell_heap (S.out.kp _ List.mem_cons_self).1 4
          have y5 : wq19.cell? ⟨wr.heap.size, 5, none⟩ = some (.int .i64 f) := cell_heap (S.out.kp _ List.mem_cons_self).1 5
          have x0 : wq19.cell? ⟨bx, 0, none⟩ = some (.int .i64 n) := cell_heap (S.out.kp _ (List.mem_cons_of_mem _ List.mem_cons_self)).1 0
          have x1 : wq19.cell? ⟨bx, 1, none⟩ = some (.slice A hs.length cp) := cell_heap (S.out.kp _ (List.mem_cons_of_mem _ List.mem_cons_self)).1 1
          have x2 : wq19.cell? ⟨bx, 2, none⟩ = some (.map (some mb)) := cell_heap (S.out.kp _ (List.mem_cons_of_mem _ List.mem_cons_self)).1 2
          have sy := heap_lt (S.out.kp _ List.mem_cons_self).1
          have sx := heap_lt (S.out.kp _ (List.mem_cons_of_mem _ List.mem_cons_self)).1
          have H2_ := rHas_any (mv := .map (some mb)) S.out.hl HLEN.out n t rfl
          rw [hB] at H2_
          have H2 := Lib.hid H2_
          clear H2_
          clear hB
          go_wp2_with fail
          refine H2.out.mono ?_
          rintro e wq20 ⟨rfl, hb⟩
          have S_ := Lib.hid (S.out.below hb)
          clear H2 y0 y1 y2 y3 y4 y5 x0 x1 x2 sy sx S
          have S := S_
          clear S_ hb
          have y0 : wq20.cell? ⟨wr.heap.size, 0, none⟩ = some (.int .i64 3) := cell_heap (S.out.kp _ List.mem_cons_self).1 0
          have y1 : wq20.cell? ⟨wr.heap.size, 1, none⟩ = some (.int .u64 addr) := cell_heap (S.out.kp _ List.mem_cons_self).1 1
          have y2 : wq20.cell? ⟨wr.heap.size, 2, none⟩ = some (.int .i64 size) := cell_heap (S.out.kp _ List.mem_cons_self).1 2
          have y3 : wq20.cell? ⟨wr.heap.size, 3, none⟩ = some (.int .u64 x) := cell_heap (S.out.kp _ List.mem_cons_self).1 3
          have y4 : wq20.cell? ⟨wr.heap.size, 4, none⟩ = some (.int .i64 t) := cell_heap (S.out.kp _ List.mem_cons_self).1 4
          have y5 : wq20.cell? ⟨wr.heap.size, 5, none⟩ = some (.int .i64 f) := cell_heap (S.out.kp _ List.mem_cons_self).1 5
          have x0 : wq20.cell? ⟨bx, 0, none⟩ = some (.int .i64 n) := cell_heap (S.out.kp _ (List.mem_cons_of_mem _ List.mem_cons_self)).1 0
          have x1 : wq20.cell? ⟨bx, 1, none⟩ = some (.slice A hs.length cp) := cell_heap (S.out.kp _ (List.mem_cons_of_mem _ List.mem_cons_self)).1 1
          have x2 : wq20.cell? ⟨bx, 2, none⟩ = some (.map (some mb)) := cell_heap (S.out.kp _ (List.mem_cons_of_mem _ List.mem_cons_self)).1 2
          have sy := heap_lt (S.out.kp _ List.mem_cons_self).1
          have sx := heap_lt (S.out.kp _ (List.mem_cons_of_mem _ List.mem_cons_self)).1
          by_cases u1 : 0 ≤ t
          · have v1 : decide (0 ≤ t) = true := decide_eq_true u1
            by_cases u2 : t < n
            · have v2 : decide (t < n) = true := decide_eq_true u2
              obtain ⟨tn, rfl⟩ : ∃ k : Nat, t = k := ⟨t.toNat, by omega⟩
              have HCa_ := fun X : Abv wq20 => clear_any (S.out.ram.below X.ok) tn (by omega)
              have HCb_ := fun X : Abv wq20 => rClear_any (v := .slice A hs.length cp) (S.out.rb.below X.ok) rfl n tn (by omega)
              generalize hcc : clearF M tn = cc at HCa_ HCb_
              have ec : (cc != cc) = false := by cases cc <;> rfl
              have HCa := Lib.hid HCa_
              have HCb := Lib.hid HCb_
              clear HCa_ HCb_ hcc u2
              have hab := @Abv.cell wq20
              go_upto_region 35 with fail
              refine wp_region_abv (by kernel_rfl) (by kernel_rfl) ?_
              repeat (first | go_big_quiet_skip | (go_big_quiet_want; go_big_quiet_op; first | go_big_quiet_on | go_big_quiet_call ((first | (go_at_call 25; exact abv_call (HCa.out _)) | (go_at_call 26; exact abv_call (HCb.out _))))))
              refine wpQuiet_nil ?_
              rintro wt21 ⟨⟨_, hb9⟩, rfl⟩
              have S9 := Lib.hid (S.out.below hb9).less
              clear S hb9 y0 y1 y2 y3 y4 y5 x0 x1 x2 sy sx hab
              go_wp2_with fail
              go_roundw
              case rel => exact ⟨k + 1, _, by go_num, by omega, by omega, S9.out⟩
              case measure => simp [intOf]; omega
            · have v2 : decide (t < n) = false := decide_eq_false u2
              clear u2
              have hab := @Abv.cell wq20
              go_upto_region 35 with fail
              refine wp_region_abv (by kernel_rfl) (by kernel_rfl) ?_
              repeat (first | go_big_quiet_skip | (go_big_quiet_want; go_big_quiet_op; first | go_big_quiet_on | go_big_quiet_call ((fail))))
              refine wpQuiet_nil ?_
              rintro wt22 ⟨⟨_, hb9⟩, rfl⟩
              have S9 := Lib.hid (S.out.below hb9).less
              clear S hb9 y0 y1 y2 y3 y4 y5 x0 x1 x2 sy sx hab
              go_wp2_with fail
              go_roundw
              case rel => exact ⟨k + 1, _, by go_num, by omega, by omega, S9.out⟩
              case measure => simp [intOf]; omega
          · have v1 : decide (0 ≤ t) = false := decide_eq_false u1
            clear u1
            have hab := @Abv.cell wq20
            go_upto_region 35 with fail
            refine wp_region_abv (by kernel_rfl) (by kernel_rfl) ?_
            repeat (first | go_big_quiet_skip | (go_big_quiet_want; go_big_quiet_op; first | go_big_quiet_on | go_big_quiet_call ((fail))))
            refine wpQuiet_nil ?_
            rintro wt23 ⟨⟨_, hb9⟩, rfl⟩
            have S9 := Lib.hid (S.out.below hb9).less
            clear S hb9 y0 y1 y2 y3 y4 y5 x0 x1 x2 sy sx hab
            go_wp2_with fail
            go_roundw
            case rel => exact ⟨k + 1, _, by go_num, by omega, by omega, S9.out⟩
            case measure => simp [intOf]; omega
        · as_aux_lemma =>
          obtain ⟨tn, rfl, htn⟩ := hasF_nat hB
          have H1_ := zero_any S.out.ram tn HT63.out
          rw [hB, if_pos rfl, if_pos rfl, Int.toNat_natCast] at H1_
          have H1 := Lib.hid H1_
          clear H1_
          go_wp2_with fail
          refine H1.out.mono ?_
          rintro e wq24 ⟨rfl, hT, hR⟩
          have S_ := Lib.hid (S.out.rt hT hR)
          clear H1 y0 y1 y2 y3 y4 y5 x0 x1 x2 sy sx S
          have S := S_
          clear S_ hT hR
          have y0 : wq24.cell? ⟨wr.heap.size, 0, none⟩ = some (.int .i64 3) := cell_heap (S.out.kp _ List.mem_cons_self).1 0
          have y1 : wq24.cell? ⟨wr.heap.size, 1, none⟩ = some (.int .u64 addr) := cell_heap (S.out.kp _ List.mem_cons_self).1 1
          have y2 : wq24.cell? ⟨wr.heap.size, 2, none⟩ = some (.int .i64 size) := cell_heap (S.out.kp _ List.mem_cons_self).1 2
          have y3 : wq24.cell? ⟨wr.heap.size, 3, none⟩ = some (.int .u64 x) := cell_heap (S.out.kp _ List.mem_cons_self).1 3
          have y4 : wq24.cell? ⟨wr.heap.size, 4, none⟩ = some (.int .i64 (tn : Nat)) := cell_heap (S.out.kp _ List.mem_cons_self).1 4
          have y5 : wq24.cell? ⟨wr.heap.size, 5, none⟩ = some (.int .i64 f) := cell_heap (S.out.kp _ List.mem_cons_self).1 5
          have x0 : wq24.cell? ⟨bx, 0, none⟩ = some (.int .i64 n) := cell_heap (S.out.kp _ (List.mem_cons_of_mem _ List.mem_cons_self)).1 0
          have x1 : wq24.cell? ⟨bx, 1, none⟩ = some (.slice A hs.length cp) := cell_heap (S.out.kp _ (List.mem_cons_of_mem _ List.mem_cons_self)).1 1
          have x2 : wq24.cell? ⟨bx, 2, none⟩ = some (.map (some mb)) := cell_heap (S.out.kp _ (List.mem_cons_of_mem _ List.mem_cons_self)).1 2
          have sy := heap_lt (S.out.kp _ List.mem_cons_self).1
          have sx := heap_lt (S.out.kp _ (List.mem_cons_of_mem _ List.mem_cons_self)).1
          have H2_ := rHas_any (mv := .map (some mb)) S.out.hl HLEN.out n tn rfl
          rw [hB] at H2_
          have H2 := Lib.hid H2_
          clear H2_
          clear hB
          go_wp2_with fail
          refine H2.out.mono ?_
          rintro e wq25 ⟨rfl, hb⟩
          have S_ := Lib.hid (S.out.below hb)
          clear H2 y0 y1 y2 y3 y4 y5 x0 x1 x2 sy sx S
          have S := S_
          clear S_ hb
          have y0 : wq25.cell? ⟨wr.heap.size, 0, none⟩ = some (.int .i64 3) := cell_heap (S.out.kp _ List.mem_cons_self).1 0
          have y1 : wq25.cell? ⟨wr.heap.size, 1, none⟩ = some (.int .u64 addr) := cell_heap (S.out.kp _ List.mem_cons_self).1 1
          have y2 : wq25.cell? ⟨wr.heap.size, 2, none⟩ = some (.int .i64 size) := cell_heap (S.out.kp _ List.mem_cons_self).1 2
          have y3 : wq25.cell? ⟨wr.heap.size, 3, none⟩ = some (.int .u64 x) := cell_heap (S.out.kp _ List.mem_cons_self).1 3
          have y4 : wq25.cell? ⟨wr.heap.size, 4, none⟩ = some (.int .i64 (tn : Nat)) := cell_heap (S.out.kp _ List.mem_cons_self).1 4
          have y5 : wq25.cell? ⟨wr.heap.size, 5, none⟩ = some (.int .i64 f) := cell_heap (S.out.kp _ List.mem_cons_self).1 5
          have x0 : wq25.cell? ⟨bx, 0, none⟩ = some (.int .i64 n) := cell_heap (S.out.kp _ (List.mem_cons_of_mem _ List.mem_cons_self)).1 0
          have x1 : wq25.cell? ⟨bx, 1, none⟩ = some (.slice A hs.length cp) := cell_heap (S.out.kp _ (List.mem_cons_of_mem _ List.mem_cons_self)).1 1
          have x2 : wq25.cell? ⟨bx, 2, none⟩ = some (.map (some mb)) := cell_heap (S.out.kp _ (List.mem_cons_of_mem _ List.mem_cons_self)).1 2
          have sy := heap_lt (S.out.kp _ List.mem_cons_self).1
          have sx := heap_lt (S.out.kp _ (List.mem_cons_of_mem _ List.mem_cons_self)).1
          have H3 := Lib.hid (rZero_any (v := .slice A hs.length cp) S.out.rb rfl n tn (by omega))
          go_wp2_with fail
          refine H3.out.mono ?_
          rintro e wq26 ⟨rfl, hT, hR⟩
          have S_ := Lib.hid (S.out.tm hT hR)
          clear H3 y0 y1 y2 y3 y4 y5 x0 x1 x2 sy sx S
          have S := S_
          clear S_ hT hR
          have y0 : wq26.cell? ⟨wr.heap.size, 0, none⟩ = some (.int .i64 3) := cell_heap (S.out.kp _ List.mem_cons_self).1 0
          have y1 : wq26.cell? ⟨wr.heap.size, 1, none⟩ = some (.int .u64 addr) := cell_heap (S.out.kp _ List.mem_cons_self).1 1
          have y2 : wq26.cell? ⟨wr.heap.size, 2, none⟩ = some (.int .i64 size) := cell_heap (S.out.kp _ List.mem_cons_self).1 2
          have y3 : wq26.cell? ⟨wr.heap.size, 3, none⟩ = some (.int .u64 x) := cell_heap (S.out.kp _ List.mem_cons_self).1 3
          have y4 : wq26.cell? ⟨wr.heap.size, 4, none⟩ = some (.int .i64 (tn : Nat)) := cell_heap (S.out.kp _ List.mem_cons_self).1 4
          have y5 : wq26.cell? ⟨wr.heap.size, 5, none⟩ = some (.int .i64 f) := cell_heap (S.out.kp _ List.mem_cons_self).1 5
          have x0 : wq26.cell? ⟨bx, 0, none⟩ = some (.int .i64 n) := cell_heap (S.out.kp _ (List.mem_cons_of_mem _ List.mem_cons_self)).1 0
          have x1 : wq26.cell? ⟨bx, 1, none⟩ = some (.slice A hs.length cp) := cell_heap (S.out.kp _ (List.mem_cons_of_mem _ List.mem_cons_self)).1 1
          have x2 : wq26.cell? ⟨bx, 2, none⟩ = some (.map (some mb)) := cell_heap (S.out.kp _ (List.mem_cons_of_mem _ List.mem_cons_self)).1 2
          have sy := heap_lt (S.out.kp _ List.mem_cons_self).1
          have sx := heap_lt (S.out.kp _ (List.mem_cons_of_mem _ List.mem_cons_self)).1
          · have v1 : decide ((0 : Int) ≤ (tn : Int)) = true := decide_eq_true (Int.natCast_nonneg _)
            have u2 : (tn : Int) < n := htn
            have v2 : decide ((tn : Int) < n) = true := decide_eq_true u2
            have HCa_ := fun X : Abv wq26 => clear_any (S.out.ram.below X.ok) tn (by omega)
            have HCb_ := fun X : Abv wq26 => rClear_any (v := .slice A hs.length cp) (S.out.rb.below X.ok) rfl n tn (by omega)
            generalize hcc : clearF (zeroF M tn) tn = cc at HCa_ HCb_
            have ec : (cc != cc) = false := by cases cc <;> rfl
            have HCa := Lib.hid HCa_
            have HCb := Lib.hid HCb_
            clear HCa_ HCb_ hcc u2
            have hab := @Abv.cell wq26
            go_upto_region 35 with fail
            refine wp_region_abv (by kernel_rfl) (by kernel_rfl) ?_
            repeat (first | go_big_quiet_skip | (go_big_quiet_want; go_big_quiet_op; first | go_big_quiet_on | go_big_quiet_call ((first | (go_at_call 25; exact abv_call (HCa.out _)) | (go_at_call 26; exact abv_call (HCb.out _))))))
            refine wpQuiet_nil ?_
            rintro wt27 ⟨⟨_, hb9⟩, rfl⟩
            have S9 := Lib.hid (S.out.below hb9).less
            clear S hb9 y0 y1 y2 y3 y4 y5 x0 x1 x2 sy sx hab
            go_wp2_with fail
            go_roundw
            case rel => exact ⟨k + 1, _, by go_num, by omega, by omega, S9.out⟩
            case measure => simp [intOf]; omega
      by_cases k4 : kd = 4
      · subst k4
        cases hB : hasF n hs t
        · as_aux_lemma =>
          skip
          have H1_ := copy_any S.out.ram t f
          rw [hB, Bool.false_and, if_neg (by decide), if_neg (by decide)] at H1_
          have H1 := Lib.hid H1_
          clear H1_
          go_wp2_with fail
          refine H1.out.mono ?_
          rintro e wq28 ⟨rfl, hT, hR⟩
          have S_ := Lib.hid (S.out.rt hT hR)
          clear H1 y0 y1 y2 y3 y4 y5 x0 x1 x2 sy sx S
          have S := S_
          clear S_ hT hR
          have y0 : wq28.cell? ⟨wr.heap.size, 0, none⟩ = some (.int .i64 4) := cell_heap (S.out.kp _ List.mem_cons_self).1 0
          have y1 : wq28.cell? ⟨wr.heap.size, 1, none⟩ = some (.int .u64 addr) := cell_heap (S.out.kp _ List.mem_cons_self).1 1
          have y2 : wq28.cell? ⟨wr.heap.size, 2, none⟩ = some (.int .i64 size) := cell_heap (S.out.kp _ List.mem_cons_self).1 2
          have y3 : wq28.cell? ⟨wr.heap.size, 3, none⟩ = some (.int .u64 x) := cell_heap (S.out.kp _ List.mem_cons_self).1 3
          have y4 : wq28.cell? ⟨wr.heap.size, 4, none⟩ = some (.int .i64 t) := cell_heap (S.out.kp _ List.mem_cons_self).1 4
          have y5 : wq28.cell? ⟨wr.heap.size, 5, none⟩ = some (.int .i64 f) := cell_heap (S.out.kp _ List.mem_cons_self).1 5
          have x0 : wq28.cell? ⟨bx, 0, none⟩ = some (.int .i64 n) := cell_heap (S.out.kp _ (List.mem_cons_of_mem _ List.mem_cons_self)).1 0
          have x1 : wq28.cell? ⟨bx, 1, none⟩ = some (.slice A hs.length cp) := cell_heap (S.out.kp _ (List.mem_cons_of_mem _ List.mem_cons_self)).1 1
          have x2 : wq28.cell? ⟨bx, 2, none⟩ = some (.map (some mb)) := cell_heap (S.out.kp _ (List.mem_cons_of_mem _ List.mem_cons_self)).1 2
          have sy := heap_lt (S.out.kp _ List.mem_cons_self).1
          have sx := heap_lt (S.out.kp _ (List.mem_cons_of_mem _ List.mem_cons_self)).1
          have H2_ := rHas_any (mv := .map (some mb)) S.out.hl HLEN.out n t rfl
          rw [hB] at H2_
          have H2 := Lib.hid H2_
          clear H2_
          clear hB
          go_wp2_with fail
          refine H2.out.mono ?_
          rintro e wq29 ⟨rfl, hb⟩
          have S_ := Lib.hid (S.out.below hb)
          clear H2 y0 y1 y2 y3 y4 y5 x0 x1 x2 sy sx S
          have S := S_
          clear S_ hb
          have y0 : wq29.cell? ⟨wr.heap.size, 0, none⟩ = some (.int .i64 4) := cell_heap (S.out.kp _ List.mem_cons_self).1 0
          have y1 : wq29.cell? ⟨wr.heap.size, 1, none⟩ = some (.int .u64 addr) := cell_heap (S.out.kp _ List.mem_cons_self).1 1
          have y2 : wq29.cell? ⟨wr.heap.size, 2, none⟩ = some (.int .i64 size) := cell_heap (S.out.kp _ List.mem_cons_self).1 2
          have y3 : wq29.cell? ⟨wr.heap.size, 3, none⟩ = some (.int .u64 x) := cell_heap (S.out.kp _ List.mem_cons_self).1 3
          have y4 : wq29.cell? ⟨wr.heap.size, 4, none⟩ = some (.int .i64 t) := cell_heap (S.out.kp _ List.mem_cons_self).1 4
          have y5 : wq29.cell? ⟨wr.heap.size, 5, none⟩ = some (.int .i64 f) := cell_heap (S.out.kp _ List.mem_cons_self).1 5
          have x0 : wq29.cell? ⟨bx, 0, none⟩ = some (.int .i64 n) := cell_heap (S.out.kp _ (List.mem_cons_of_mem _ List.mem_cons_self)).1 0
          have x1 : wq29.cell? ⟨bx, 1, none⟩ = some (.slice A hs.length cp) := cell_heap (S.out.kp _ (List.mem_cons_of_mem _ List.mem_cons_self)).1 1
          have x2 : wq29.cell? ⟨bx, 2, none⟩ = some (.map (some mb)) := cell_heap (S.out.kp _ (List.mem_cons_of_mem _ List.mem_cons_self)).1 2
          have sy := heap_lt (S.out.kp _ List.mem_cons_self).1
          have sx := heap_lt (S.out.kp _ (List.mem_cons_of_mem _ List.mem_cons_self)).1
          by_cases u1 : 0 ≤ t
          · have v1 : decide (0 ≤ t) = true := decide_eq_true u1
            by_cases u2 : t < n
            · have v2 : decide (t < n) = true := decide_eq_true u2
              obtain ⟨tn, rfl⟩ : ∃ k : Nat, t = k := ⟨t.toNat, by omega⟩
              have HCa_ := fun X : Abv wq29 => clear_any (S.out.ram.below X.ok) tn (by omega)
              have HCb_ := fun X : Abv wq29 => rClear_any (v := .slice A hs.length cp) (S.out.rb.below X.ok) rfl n tn (by omega)
              generalize hcc : clearF M tn = cc at HCa_ HCb_
              have ec : (cc != cc) = false := by cases cc <;> rfl
              have HCa := Lib.hid HCa_
              have HCb := Lib.hid HCb_
              clear HCa_ HCb_ hcc u2
              have hab := @Abv.cell wq29
              go_upto_region 35 with fail
              refine wp_region_abv (by kernel_rfl) (by kernel_rfl) ?_
              repeat (first | go_big_quiet_skip | (go_big_quiet_want; go_big_quiet_op; first | go_big_quiet_on | go_big_quiet_call ((first | (go_at_call 25; exact abv_call (HCa.out _)) | (go_at_call 26; exact abv_call (HCb.out _))))))
              refine wpQuiet_nil ?_
              rintro wt30 ⟨⟨_, hb9⟩, rfl⟩
              have S9 := Lib.hid (S.out.below hb9).less
              clear S hb9 y0 y1 y2 y3 y4 y5 x0 x1 x2 sy sx hab
              go_wp2_with fail
              go_roundw
              case rel => exact ⟨k + 1, _, by go_num, by omega, by omega, S9.out⟩
              case measure => simp [intOf]; omega
            · have v2 : decide (t < n) = false := decide_eq_false u2
              clear u2
              have hab := @Abv.cell wq29
              go_upto_region 35 with fail
              refine wp_region_abv (by kernel_rfl) (by kernel_rfl) ?_
              repeat (first | go_big_quiet_skip | (go_big_quiet_want; go_big_quiet_op; first | go_big_quiet_on | go_big_quiet_call ((fail))))
              refine wpQuiet_nil ?_
              rintro wt31 ⟨⟨_, hb9⟩, rfl⟩
              have S9 := Lib.hid (S.out.below hb9).less
              clear S hb9 y0 y1 y2 y3 y4 y5 x0 x1 x2 sy sx hab
              go_wp2_with fail
              go_roundw
              case rel => exact ⟨k + 1, _, by go_num, by omega, by omega, S9.out⟩
              case measure => simp [intOf]; omega
          · have v1 : decide (0 ≤ t) = false := decide_eq_false u1
            clear u1
            have hab := @Abv.cell wq29
            go_upto_region 35 with fail
            refine wp_region_abv (by kernel_rfl) (by kernel_rfl) ?_
            repeat (first | go_big_quiet_skip | (go_big_quiet_want; go_big_quiet_op; first | go_big_quiet_on | go_big_quiet_call ((fail))))
            refine wpQuiet_nil ?_
            rintro wt32 ⟨⟨_, hb9⟩, rfl⟩
            have S9 := Lib.hid (S.out.below hb9).less
            clear S hb9 y0 y1 y2 y3 y4 y5 x0 x1 x2 sy sx hab
            go_wp2_with fail
            go_roundw
            case rel => exact ⟨k + 1, _, by go_num, by omega, by omega, S9.out⟩
            case measure => simp [intOf]; omega
        · obtain ⟨tn, rfl, htn⟩ := hasF_nat hB
          cases hB2 : hasF n hs f
          · as_aux_lemma =>
            skip
            have H1_ := copy_any S.out.ram tn f
            rw [hB, hB2, Bool.and_false, if_neg (by decide), if_neg (by decide)] at H1_
            have H1 := Lib.hid H1_
            clear H1_
            go_wp2_with fail
            refine H1.out.mono ?_
            rintro e wq33 ⟨rfl, hT, hR⟩
            have S_ := Lib.hid (S.out.rt hT hR)
            clear H1 y0 y1 y2 y3 y4 y5 x0 x1 x2 sy sx S
            have S := S_
            clear S_ hT hR
            have y0 : wq33.cell? ⟨wr.heap.size, 0, none⟩ = some (.int .i64 4) := cell_heap (S.out.kp _ List.mem_cons_self).1 0
            have y1 : wq33.cell? ⟨wr.heap.size, 1, none⟩ = some (.int .u64 addr) := cell_heap (S.out.kp _ List.mem_cons_self).1 1
            have y2 : wq33.cell? ⟨wr.heap.size, 2, none⟩ = some (.int .i64 size) := cell_heap (S.out.kp _ List.mem_cons_self).1 2
            have y3 : wq33.cell? ⟨wr.heap.size, 3, none⟩ = some (.int .u64 x) := cell_heap (S.out.kp _ List.mem_cons_self).1 3
            have y4 : wq33.cell? ⟨wr.heap.size, 4, none⟩ = some (.int .i64 (tn : Nat)) := cell_heap (S.out.kp _ List.mem_cons_self).1 4
            have y5 : wq33.cell? ⟨wr.heap.size, 5, none⟩ = some (.int .i64 f) := cell_heap (S.out.kp _ List.mem_cons_self).1 5
            have x0 : wq33.cell? ⟨bx, 0, none⟩ = some (.int .i64 n) := cell_heap (S.out.kp _ (List.mem_cons_of_mem _ List.mem_cons_self)).1 0
            have x1 : wq33.cell? ⟨bx, 1, none⟩ = some (.slice A hs.length cp) := cell_heap (S.out.kp _ (List.mem_cons_of_mem _ List.mem_cons_self)).1 1
            have x2 : wq33.cell? ⟨bx, 2, none⟩ = some (.map (some mb)) := cell_heap (S.out.kp _ (List.mem_cons_of_mem _ List.mem_cons_self)).1 2
            have sy := heap_lt (S.out.kp _ List.mem_cons_self).1
            have sx := heap_lt (S.out.kp _ (List.mem_cons_of_mem _ List.mem_cons_self)).1
            have H2_ := rHas_any (mv := .map (some mb)) S.out.hl HLEN.out n tn rfl
            rw [hB] at H2_
            have H2 := Lib.hid H2_
            clear H2_
            go_wp2_with fail
            refine H2.out.mono ?_
            rintro e wq34 ⟨rfl, hb⟩
            have S_ := Lib.hid (S.out.below hb)
            clear H2 y0 y1 y2 y3 y4 y5 x0 x1 x2 sy sx S
            have S := S_
            clear S_ hb
            have y0 : wq34.cell? ⟨wr.heap.size, 0, none⟩ = some (.int .i64 4) := cell_heap (S.out.kp _ List.mem_cons_self).1 0
            have y1 : wq34.cell? ⟨wr.heap.size, 1, none⟩ = some (.int .u64 addr) := cell_heap (S.out.kp _ List.mem_cons_self).1 1
            have y2 : wq34.cell? ⟨wr.heap.size, 2, none⟩ = some (.int .i64 size) := cell_heap (S.out.kp _ List.mem_cons_self).1 2
            have y3 : wq34.cell? ⟨wr.heap.size, 3, none⟩ = some (.int .u64 x) := cell_heap (S.out.kp _ List.mem_cons_self).1 3
            have y4 : wq34.cell? ⟨wr.heap.size, 4, none⟩ = some (.int .i64 (tn : Nat)) := cell_heap (S.out.kp _ List.mem_cons_self).1 4
            have y5 : wq34.cell? ⟨wr.heap.size, 5, none⟩ = some (.int .i64 f) := cell_heap (S.out.kp _ List.mem_cons_self).1 5
            have x0 : wq34.cell? ⟨bx, 0, none⟩ = some (.int .i64 n) := cell_heap (S.out.kp _ (List.mem_cons_of_mem _ List.mem_cons_self)).1 0
            have x1 : wq34.cell? ⟨bx, 1, none⟩ = some (.slice A hs.length cp) := cell_heap (S.out.kp _ (List.mem_cons_of_mem _ List.mem_cons_self)).1 1
            have x2 : wq34.cell? ⟨bx, 2, none⟩ = some (.map (some mb)) := cell_heap (S.out.kp _ (List.mem_cons_of_mem _ List.mem_cons_self)).1 2
            have sy := heap_lt (S.out.kp _ List.mem_cons_self).1
            have sx := heap_lt (S.out.kp _ (List.mem_cons_of_mem _ List.mem_cons_self)).1
            have H3_ := rHas_any (mv := .map (some mb)) S.out.hl HLEN.out n f rfl
            rw [hB2] at H3_
            have H3 := Lib.hid H3_
            clear H3_
            clear hB hB2
            go_wp2_with fail
            refine H3.out.mono ?_
            rintro e wq35 ⟨rfl, hb⟩
            have S_ := Lib.hid (S.out.below hb)
            clear H3 y0 y1 y2 y3 y4 y5 x0 x1 x2 sy sx S
            have S := S_
            clear S_ hb
            have y0 : wq35.cell? ⟨wr.heap.size, 0, none⟩ = some (.int .i64 4) := cell_heap (S.out.kp _ List.mem_cons_self).1 0
            have y1 : wq35.cell? ⟨wr.heap.size, 1, none⟩ = some (.int .u64 addr) := cell_heap (S.out.kp _ List.mem_cons_self).1 1
            have y2 : wq35.cell? ⟨wr.heap.size, 2, none⟩ = some (.int .i64 size) := cell_heap (S.out.kp _ List.mem_cons_self).1 2
            have y3 : wq35.cell? ⟨wr.heap.size, 3, none⟩ = some (.int .u64 x) := cell_heap (S.out.kp _ List.mem_cons_self).1 3
            have y4 : wq35.cell? ⟨wr.heap.size, 4, none⟩ = some (.int .i64 (tn : Nat)) := cell_heap (S.out.kp _ List.mem_cons_self).1 4
            have y5 : wq35.cell? ⟨wr.heap.size, 5, none⟩ = some (.int .i64 f) := cell_heap (S.out.kp _ List.mem_cons_self).1 5
            have x0 : wq35.cell? ⟨bx, 0, none⟩ = some (.int .i64 n) := cell_heap (S.out.kp _ (List.mem_cons_of_mem _ List.mem_cons_self)).1 0
            have x1 : wq35.cell? ⟨bx, 1, none⟩ = some (.slice A hs.length cp) := cell_heap (S.out.kp _ (List.mem_cons_of_mem _ List.mem_cons_self)).1 1
            have x2 : wq35.cell? ⟨bx, 2, none⟩ = some (.map (some mb)) := cell_heap (S.out.kp _ (List.mem_cons_of_mem _ List.mem_cons_self)).1 2
            have sy := heap_lt (S.out.kp _ List.mem_cons_self).1
            have sx := heap_lt (S.out.kp _ (List.mem_cons_of_mem _ List.mem_cons_self)).1
            · have v1 : decide ((0 : Int) ≤ (tn : Int)) = true := decide_eq_true (Int.natCast_nonneg _)
              have u2 : (tn : Int) < n := htn
              have v2 : decide ((tn : Int) < n) = true := decide_eq_true u2
              have HCa_ := fun X : Abv wq35 => clear_any (S.out.ram.below X.ok) tn (by omega)
              have HCb_ := fun X : Abv wq35 => rClear_any (v := .slice A hs.length cp) (S.out.rb.below X.ok) rfl n tn (by omega)
              generalize hcc : clearF M tn = cc at HCa_ HCb_
              have ec : (cc != cc) = false := by cases cc <;> rfl
              have HCa := Lib.hid HCa_
              have HCb := Lib.hid HCb_
              clear HCa_ HCb_ hcc u2
              have hab := @Abv.cell wq35
              go_upto_region 35 with fail
              refine wp_region_abv (by kernel_rfl) (by kernel_rfl) ?_
              repeat (first | go_big_quiet_skip | (go_big_quiet_want; go_big_quiet_op; first | go_big_quiet_on | go_big_quiet_call ((first | (go_at_call 25; exact abv_call (HCa.out _)) | (go_at_call 26; exact abv_call (HCb.out _))))))
              refine wpQuiet_nil ?_
              rintro wt36 ⟨⟨_, hb9⟩, rfl⟩
              have S9 := Lib.hid (S.out.below hb9).less
              clear S hb9 y0 y1 y2 y3 y4 y5 x0 x1 x2 sy sx hab
              go_wp2_with fail
              go_roundw
              case rel => exact ⟨k + 1, _, by go_num, by omega, by omega, S9.out⟩
              case measure => simp [intOf]; omega
          · as_aux_lemma =>
            obtain ⟨fn, rfl, hfn⟩ := hasF_nat hB2
            have H1_ := copy_any S.out.ram tn fn
            rw [hB, hB2, Bool.and_true, if_pos rfl, if_pos rfl, Int.toNat_natCast, Int.toNat_natCast] at H1_
            have H1 := Lib.hid H1_
            clear H1_
            have HBY := Lib.hid S.out.ram.byte
            go_wp2_with fail
            refine H1.out.mono ?_
            rintro e wq37 ⟨rfl, hT, hR⟩
            have S_ := Lib.hid (S.out.rt hT hR)
            clear H1 y0 y1 y2 y3 y4 y5 x0 x1 x2 sy sx S
            have S := S_
            clear S_ hT hR
            have y0 : wq37.cell? ⟨wr.heap.size, 0, none⟩ = some (.int .i64 4) := cell_heap (S.out.kp _ List.mem_cons_self).1 0
            have y1 : wq37.cell? ⟨wr.heap.size, 1, none⟩ = some (.int .u64 addr) := cell_heap (S.out.kp _ List.mem_cons_self).1 1
            have y2 : wq37.cell? ⟨wr.heap.size, 2, none⟩ = some (.int .i64 size) := cell_heap (S.out.kp _ List.mem_cons_self).1 2
            have y3 : wq37.cell? ⟨wr.heap.size, 3, none⟩ = some (.int .u64 x) := cell_heap (S.out.kp _ List.mem_cons_self).1 3
            have y4 : wq37.cell? ⟨wr.heap.size, 4, none⟩ = some (.int .i64 (tn : Nat)) := cell_heap (S.out.kp _ List.mem_cons_self).1 4
            have y5 : wq37.cell? ⟨wr.heap.size, 5, none⟩ = some (.int .i64 (fn : Nat)) := cell_heap (S.out.kp _ List.mem_cons_self).1 5
            have x0 : wq37.cell? ⟨bx, 0, none⟩ = some (.int .i64 n) := cell_heap (S.out.kp _ (List.mem_cons_of_mem _ List.mem_cons_self)).1 0
            have x1 : wq37.cell? ⟨bx, 1, none⟩ = some (.slice A hs.length cp) := cell_heap (S.out.kp _ (List.mem_cons_of_mem _ List.mem_cons_self)).1 1
            have x2 : wq37.cell? ⟨bx, 2, none⟩ = some (.map (some mb)) := cell_heap (S.out.kp _ (List.mem_cons_of_mem _ List.mem_cons_self)).1 2
            have sy := heap_lt (S.out.kp _ List.mem_cons_self).1
            have sx := heap_lt (S.out.kp _ (List.mem_cons_of_mem _ List.mem_cons_self)).1
            have H2_ := rHas_any (mv := .map (some mb)) S.out.hl HLEN.out n tn rfl
            rw [hB] at H2_
            have H2 := Lib.hid H2_
            clear H2_
            go_wp2_with fail
            refine H2.out.mono ?_
            rintro e wq38 ⟨rfl, hb⟩
            have S_ := Lib.hid (S.out.below hb)
            clear H2 y0 y1 y2 y3 y4 y5 x0 x1 x2 sy sx S
            have S := S_
            clear S_ hb
            have y0 : wq38.cell? ⟨wr.heap.size, 0, none⟩ = some (.int .i64 4) := cell_heap (S.out.kp _ List.mem_cons_self).1 0
            have y1 : wq38.cell? ⟨wr.heap.size, 1, none⟩ = some (.int .u64 addr) := cell_heap (S.out.kp _ List.mem_cons_self).1 1
            have y2 : wq38.cell? ⟨wr.heap.size, 2, none⟩ = some (.int .i64 size) := cell_heap (S.out.kp _ List.mem_cons_self).1 2
            have y3 : wq38.cell? ⟨wr.heap.size, 3, none⟩ = some (.int .u64 x) := cell_heap (S.out.kp _ List.mem_cons_self).1 3
            have y4 : wq38.cell? ⟨wr.heap.size, 4, none⟩ = some (.int .i64 (tn : Nat)) := cell_heap (S.out.kp _ List.mem_cons_self).1 4
            have y5 : wq38.cell? ⟨wr.heap.size, 5, none⟩ = some (.int .i64 (fn : Nat)) := cell_heap (S.out.kp _ List.mem_cons_self).1 5
            have x0 : wq38.cell? ⟨bx, 0, none⟩ = some (.int .i64 n) := cell_heap (S.out.kp _ (List.mem_cons_of_mem _ List.mem_cons_self)).1 0
            have x1 : wq38.cell? ⟨bx, 1, none⟩ = some (.slice A hs.length cp) := cell_heap (S.out.kp _ (List.mem_cons_of_mem _ List.mem_cons_self)).1 1
            have x2 : wq38.cell? ⟨bx, 2, none⟩ = some (.map (some mb)) := cell_heap (S.out.kp _ (List.mem_cons_of_mem _ List.mem_cons_self)).1 2
            have sy := heap_lt (S.out.kp _ List.mem_cons_self).1
            have sx := heap_lt (S.out.kp _ (List.mem_cons_of_mem _ List.mem_cons_self)).1
            have H3_ := rHas_any (mv := .map (some mb)) S.out.hl HLEN.out n fn rfl
            rw [hB2] at H3_
            have H3 := Lib.hid H3_
            clear H3_
            clear hB hB2
            go_wp2_with fail
            refine H3.out.mono ?_
            rintro e wq39 ⟨rfl, hb⟩
            have S_ := Lib.hid (S.out.below hb)
            clear H3 y0 y1 y2 y3 y4 y5 x0 x1 x2 sy sx S
            have S := S_
            clear S_ hb
            have y0 : wq39.cell? ⟨wr.heap.size, 0, none⟩ = some (.int .i64 4) := cell_heap (S.out.kp _ List.mem_cons_self).1 0
            have y1 : wq39.cell? ⟨wr.heap.size, 1, none⟩ = some (.int .u64 addr) := cell_heap (S.out.kp _ List.mem_cons_self).1 1
            have y2 : wq39.cell? ⟨wr.heap.size, 2, none⟩ = some (.int .i64 size) := cell_heap (S.out.kp _ List.mem_cons_self).1 2
            have y3 : wq39.cell? ⟨wr.heap.size, 3, none⟩ = some (.int .u64 x) := cell_heap (S.out.kp _ List.mem_cons_self).1 3
            have y4 : wq39.cell? ⟨wr.heap.size, 4, none⟩ = some (.int .i64 (tn : Nat)) := cell_heap (S.out.kp _ List.mem_cons_self).1 4
            have y5 : wq39.cell? ⟨wr.heap.size, 5, none⟩ = some (.int .i64 (fn : Nat)) := cell_heap (S.out.kp _ List.mem_cons_self).1 5
            have x0 : wq39.cell? ⟨bx, 0, none⟩ = some (.int .i64 n) := cell_heap (S.out.kp _ (List.mem_cons_of_mem _ List.mem_cons_self)).1 0
            have x1 : wq39.cell? ⟨bx, 1, none⟩ = some (.slice A hs.length cp) := cell_heap (S.out.kp _ (List.mem_cons_of_mem _ List.mem_cons_self)).1 1
            have x2 : wq39.cell? ⟨bx, 2, none⟩ = some (.map (some mb)) := cell_heap (S.out.kp _ (List.mem_cons_of_mem _ List.mem_cons_self)).1 2
            have sy := heap_lt (S.out.kp _ List.mem_cons_self).1
            have sx := heap_lt (S.out.kp _ (List.mem_cons_of_mem _ List.mem_cons_self)).1
            have H4 := Lib.hid (rCopy_any (v := .slice A hs.length cp) S.out.rb HBY.out rfl n tn fn (by omega) (by omega))
            go_wp2_with fail
            refine H4.out.mono ?_
            rintro e wq40 ⟨rfl, hT, hR⟩
            have S_ := Lib.hid (S.out.tm hT hR)
            clear H4 y0 y1 y2 y3 y4 y5 x0 x1 x2 sy sx S
            have S := S_
            clear S_ hT hR
            have y0 : wq40.cell? ⟨wr.heap.size, 0, none⟩ = some (.int .i64 4) := cell_heap (S.out.kp _ List.mem_cons_self).1 0
            have y1 : wq40.cell? ⟨wr.heap.size, 1, none⟩ = some (.int .u64 addr) := cell_heap (S.out.kp _ List.mem_cons_self).1 1
            have y2 : wq40.cell? ⟨wr.heap.size, 2, none⟩ = some (.int .i64 size) := cell_heap (S.out.kp _ List.mem_cons_self).1 2
            have y3 : wq40.cell? ⟨wr.heap.size, 3, none⟩ = some (.int .u64 x) := cell_heap (S.out.kp _ List.mem_cons_self).1 3
            have y4 : wq40.cell? ⟨wr.heap.size, 4, none⟩ = some (.int .i64 (tn : Nat)) := cell_heap (S.out.kp _ List.mem_cons_self).1 4
            have y5 : wq40.cell? ⟨wr.heap.size, 5, none⟩ = some (.int .i64 (fn : Nat)) := cell_heap (S.out.kp _ List.mem_cons_self).1 5
            have x0 : wq40.cell? ⟨bx, 0, none⟩ = some (.int .i64 n) := cell_heap (S.out.kp _ (List.mem_cons_of_mem _ List.mem_cons_self)).1 0
            have x1 : wq40.cell? ⟨bx, 1, none⟩ = some (.slice A hs.length cp) := cell_heap (S.out.kp _ (List.mem_cons_of_mem _ List.mem_cons_self)).1 1
            have x2 : wq40.cell? ⟨bx, 2, none⟩ = some (.map (some mb)) := cell_heap (S.out.kp _ (List.mem_cons_of_mem _ List.mem_cons_self)).1 2
            have sy := heap_lt (S.out.kp _ List.mem_cons_self).1
            have sx := heap_lt (S.out.kp _ (List.mem_cons_of_mem _ List.mem_cons_self)).1
            · have v1 : decide ((0 : Int) ≤ (tn : Int)) = true := decide_eq_true (Int.natCast_nonneg _)
              have u2 : (tn : Int) < n := htn
              have v2 : decide ((tn : Int) < n) = true := decide_eq_true u2
              have HCa_ := fun X : Abv wq40 => clear_any (S.out.ram.below X.ok) tn (by omega)
              have HCb_ := fun X : Abv wq40 => rClear_any (v := .slice A hs.length cp) (S.out.rb.below X.ok) rfl n tn (by omega)
              generalize hcc : clearF (copyF M tn fn) tn = cc at HCa_ HCb_
              have ec : (cc != cc) = false := by cases cc <;> rfl
              have HCa := Lib.hid HCa_
              have HCb := Lib.hid HCb_
              clear HCa_ HCb_ hcc u2
              have hab := @Abv.cell wq40
              go_upto_region 35 with fail
              refine wp_region_abv (by kernel_rfl) (by kernel_rfl) ?_
              repeat (first | go_big_quiet_skip | (go_big_quiet_want; go_big_quiet_op; first | go_big_quiet_on | go_big_quiet_call ((first | (go_at_call 25; exact abv_call (HCa.out _)) | (go_at_call 26; exact abv_call (HCb.out _))))))
              refine wpQuiet_nil ?_
              rintro wt41 ⟨⟨_, hb9⟩, rfl⟩
              have S9 := Lib.hid (S.out.below hb9).less
              clear S hb9 y0 y1 y2 y3 y4 y5 x0 x1 x2 sy sx hab
              go_wp2_with fail
              go_roundw
              case rel => exact ⟨k + 1, _, by go_num, by omega, by omega, S9.out⟩
              case measure => simp [intOf]; omega
      have j1 : (kd == 1) = false := beq_false_of_ne k1
      have j2 : (kd == 2) = false := beq_false_of_ne k2
      have j3 : (kd == 3) = false := beq_false_of_ne k3
      have j4 : (kd == 4) = false := beq_false_of_ne k4
      clear k1 k2 k3 k4
      by_cases u1 : 0 ≤ t
      · have v1 : decide (0 ≤ t) = true := decide_eq_true u1
        by_cases u2 : t < n
        · have v2 : decide (t < n) = true := decide_eq_true u2
          obtain ⟨tn, rfl⟩ : ∃ k : Nat, t = k := ⟨t.toNat, by omega⟩
          have HCa_ := fun X : Abv wz => clear_any (S.out.ram.below X.ok) tn (by omega)
          have HCb_ := fun X : Abv wz => rClear_any (v := .slice A hs.length cp) (S.out.rb.below X.ok) rfl n tn (by omega)
          generalize hcc : clearF M tn = cc at HCa_ HCb_
          have ec : (cc != cc) = false := by cases cc <;> rfl
          have HCa := Lib.hid HCa_
          have HCb := Lib.hid HCb_
          clear HCa_ HCb_ hcc u2
          have hab := @Abv.cell wz
          go_upto_region 35 with fail
          refine wp_region_abv (by kernel_rfl) (by kernel_rfl) ?_
          repeat (first | go_big_quiet_skip | (go_big_quiet_want; go_big_quiet_op; first | go_big_quiet_on | go_big_quiet_call ((first | (go_at_call 25; exact abv_call (HCa.out _)) | (go_at_call 26; exact abv_call (HCb.out _))))))
          refine wpQuiet_nil ?_
          rintro wt42 ⟨⟨_, hb9⟩, rfl⟩
          have S9 := Lib.hid (S.out.below hb9).less
          clear S hb9 y0 y1 y2 y3 y4 y5 x0 x1 x2 sy sx hab
          go_wp2_with fail
          go_roundw
          case rel => exact ⟨k + 1, _, by go_num, by omega, by omega, S9.out⟩
          case measure => simp [intOf]; omega
        · have v2 : decide (t < n) = false := decide_eq_false u2
          clear u2
          have hab := @Abv.cell wz
          go_upto_region 35 with fail
          refine wp_region_abv (by kernel_rfl) (by kernel_rfl) ?_
          repeat (first | go_big_quiet_skip | (go_big_quiet_want; go_big_quiet_op; first | go_big_quiet_on | go_big_quiet_call ((fail))))
          refine wpQuiet_nil ?_
          rintro wt43 ⟨⟨_, hb9⟩, rfl⟩
          have S9 := Lib.hid (S.out.below hb9).less
          clear S hb9 y0 y1 y2 y3 y4 y5 x0 x1 x2 sy sx hab
          go_wp2_with fail
          go_roundw
          case rel => exact ⟨k + 1, _, by go_num, by omega, by omega, S9.out⟩
          case measure => simp [intOf]; omega
      · have v1 : decide (0 ≤ t) = false := decide_eq_false u1
        clear u1
        have hab := @Abv.cell wz
        go_upto_region 35 with fail
        refine wp_region_abv (by kernel_rfl) (by kernel_rfl) ?_
        repeat (first | go_big_quiet_skip | (go_big_quiet_want; go_big_quiet_op; first | go_big_quiet_on | go_big_quiet_call ((fail))))
        refine wpQuiet_nil ?_
        rintro wt44 ⟨⟨_, hb9⟩, rfl⟩
        have S9 := Lib.hid (S.out.below hb9).less
        clear S hb9 y0 y1 y2 y3 y4 y5 x0 x1 x2 sy sx hab
        go_wp2_with fail
        go_roundw
        case rel => exact ⟨k + 1, _, by go_num, by omega, by omega, S9.out⟩
        case measure => simp [intOf]; omega
    · by_cases h1 : k < len2
      · have f0 : decide (k < len2) = true := decide_eq_true h1
        have f1 : decide ((k : Int) < 40) = false := decide_eq_false (by omega)
        have HB' := Lib.hid hST.bl
        clear hlt hST
        go_wp2_with fail
        go_returns
        exact ⟨rfl, HB'.out⟩
      · have f0 : decide (k < len2) = false := decide_eq_false h1
        have HB' := Lib.hid hST.bl
        clear hlt hST
        go_wp2_with fail
        go_returns
        exact ⟨rfl, HB'.out⟩
end Go.Proofs.Ytnjjeedalmikaaa
