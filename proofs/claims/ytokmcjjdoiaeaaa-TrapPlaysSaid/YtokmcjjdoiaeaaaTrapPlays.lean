/- TrapPlays: registers and faults are as the document says, whatever the state. No condition. -/
import Derived.Test.YtokmcjjdoiaeaaaTrapWr
import Derived.Test.YtokmcjjdoiaeaaaTrapA
import Derived.StillTailTactics
namespace Go.Proofs.Ytokmcjjdoiaeaaa
open Go.ChangeShapes Go.WideShapes Go.ChangeAt Go.RowKit
set_option linter.unusedVariables false
set_option linter.unusedSimpArgs false
set_option maxRecDepth 100000 in
set_option maxHeartbeats 8000000 in
theorem plays_any (s : St) (hs : s.wf) (A1 : Option Addr) (len1 cap1 : Nat) (w : World) (r1 : Rows_ w [.i .i64, .i .i64, .i .i64, .i .i64, .i .i64, .i .u64, .i .u64, .i .i64] A1 len1) :
    Calls Try.prog 4 #[s.val, .slice A1 len1 cap1] w fun e w' => e = .returned (.bool true) ∧ Below w.heap.size w w' := by
  have hl0 := r1.1
  obtain ⟨fsT, hfsT⟩ := underT
  obtain ⟨fs, hfs⟩ := underR
  have HFT := Lib.hid hfsT
  have HFS := Lib.hid hfs
  have HP := Lib.hid (one_cell s)
  have HT := Lib.hid (fun W => told_any s.r0 s.r1 s.r2 s.r3 s.t s.en s.fa s.fc s.s0 s.s1 s.s2 s.s3 s.i W)
  clear hfs hfsT
  go_enter Try.func4, Try.ntmps4
  go_wp2_with fail
  refine (HT.out _).mono ?_
  rintro e w1 ⟨rfl, hb1⟩
  have k2 := heap_below hb1 (heap_new w (.cells s.cs 28))
  have hB1 : Below w.heap.size w w1 := b_then (by go_grown) hb1
  have hz1 : w.heap.size < w1.heap.size := heap_lt k2
  have H2 := Lib.hid (row_far (g := w1.heap.size) (cs := s.cs) (heap_old w1 (.cells #[.int .u64 0, .int .u64 0, .int .u64 0, .int .u64 0, .int .i64 0, .int .u64 0, .bool false, .int .u64 0, .int .i64 0, .int .u64 0, .int .u64 0, .int .u64 0, .int .u64 0] 38) _ k2) (by omega))
  have H5 := Lib.hid (setRow_heap (w1.alloc (.cells #[.int .u64 0, .int .u64 0, .int .u64 0, .int .u64 0, .int .i64 0, .int .u64 0, .bool false, .int .u64 0, .int .i64 0, .int .u64 0, .int .u64 0, .int .u64 0, .int .u64 0] 38)) w1.heap.size _ s.cs _ _ (heap_new w1 (.cells #[.int .u64 0, .int .u64 0, .int .u64 0, .int .u64 0, .int .i64 0, .int .u64 0, .bool false, .int .u64 0, .int .i64 0, .int .u64 0, .int .u64 0, .int .u64 0, .int .u64 0] 38)))
  have HB := Lib.hid (below_row (hB1.alloc (Nat.le_of_lt hz1) (.cells #[.int .u64 0, .int .u64 0, .int .u64 0, .int .u64 0, .int .i64 0, .int .u64 0, .bool false, .int .u64 0, .int .i64 0, .int .u64 0, .int .u64 0, .int .u64 0, .int .u64 0] 38)) (g := w1.heap.size) (by omega) s.cs)
  clear hb1 k2 hB1 HT
  go_wp2_with (first | (refine wpList_store_row rfl 38 (.tmp 5) (.tmp 11) rfl w1.heap.size s.cs rfl rfl 38 #[.int .u64 0, .int .u64 0, .int .u64 0, .int .u64 0, .int .i64 0, .int .u64 0, .bool false, .int .u64 0, .int .i64 0, .int .u64 0, .int .u64 0, .int .u64 0, .int .u64 0] (heap_new _ _) infoR rfl HP.out ?_))
  refine (awake_any _).mono ?_
  rintro e w2 ⟨rfl, hb2⟩
  have k2 := heap_below hb2 H2.out
  have k5 := heap_below hb2 H5.out
  have hB := b_then HB.out hb2
  obtain ⟨p, hp⟩ : ∃ p, p = w1.heap.size := ⟨_, rfl⟩
  rw [← hp] at k5 hz1 ⊢
  clear hb2 H2 H5 HB hp
  go_wp2_with fail
  go_loopw [6] (fun i wr => ∃ (k : Nat) (z : St), i = .int .i64 k ∧ k ≤ len1 ∧ k ≤ 60 ∧ z.wf ∧ Below w.heap.size w wr ∧ wr.heap[w.heap.size]? = some (.cells z.cs 28 (0, 0)) ∧ wr.heap[p]? = some (.cells z.cs 38 (0, 0))) (fun i _ => (60 - intOf i).toNat)
  case atStart => exact ⟨0, s, rfl, by omega, by omega, hs, hB, k2, k5⟩
  case round =>
    clear k2 k5 hB HP
    obtain ⟨k, z, rfl, hle, hle2, hzw, hB, k2, k5⟩ := hrel
    by_cases hlt : k < len1 ∧ k < 60
    · obtain ⟨hl1, hl2⟩ := hlt
      obtain ⟨bl, off, hA0, hbs, kd, op, a, b, c, x, fa, fc, hx, hf, g0, g1, g2, g3, g4, g5, g6, g7⟩ := act_row r1 hl1
      have f0 : decide (k < len1) = true := decide_eq_true hl1
      have f1 : decide ((k : Int) < 60) = true := decide_eq_true (by omega)
      subst hA0
      obtain ⟨z', hzw', hd⟩ := does_same z hzw kd op a b c x fa fc hx hf
      have HD := Lib.hid hd
      have HW := Lib.hid hzw'
      have HP := Lib.hid (one_cell z')
      obtain ⟨hc1, hf1⟩ := bcell hB
      have HK2 := Lib.hid k2
      have HK5 := Lib.hid k5
      clear hd hzw' hzw hx hf k2 k5
      go_wp2_with fail
      refine wp_region_stagedN (fun W => Below wr.heap.size wr W) (plF z' wr.heap.size) (plR z z' wr.heap.size k bl off len1 cap1 (.agg #[.int .i64 kd, .int .i64 op, .int .i64 a, .int .i64 b, .int .i64 c, .int .u64 x, .int .u64 fa, .int .i64 fc])) plX plR_some (by intro j oj t h1 h2; unfold plX at h2; (split at h2 <;> first | (cases h2; exact (Option.some.inj h1) ▸ (by decide)) | (cases h2; done))) (by kernel_rfl) (by kernel_rfl) ((Below.refl _ _).drew) ?_
      refine wpStn_do (wanted_plain rfl) (nOp_load 28 (.tmp 2) rfl (w.heap.size) (by first | (simp [ev_put, put_none, size_put, ev_const]; done) | (simp only [ev_put, put_none, size_put, ev_const]; rfl) | rfl) 28 z.cs (0, 0) (.struct fsT) HFT.out rfl infoT rfl (fun _ => trivial) (fun W hb => heap_below hb HK2.out)) ?_
      rintro v0 ⟨⟩
      refine wpStn_do (wanted_plain rfl) (nOp_load 38 (.tmp 5) rfl (p) (by first | (simp [ev_put, put_none, size_put, ev_const]; done) | (simp only [ev_put, put_none, size_put, ev_const]; rfl) | rfl) 38 z.cs (0, 0) (.struct fs) HFS.out rfl infoR rfl (fun _ => trivial) (fun W hb => heap_below hb HK5.out)) ?_
      rintro v1 ⟨⟩
      refine wpStn_do (wanted_plain rfl) (nOp_move (.tmp 1) (.inl rfl) (by first | (simp [ev_put, put_none, size_put, ev_const]; done) | (simp only [ev_put, put_none, size_put, ev_const]; rfl) | rfl) rfl (fun _ => trivial)) ?_
      rintro v2 ⟨⟩
      refine wpStn_do (wanted_plain rfl) (nOp_move (.tmp 6) (.inl rfl) (by first | (simp [ev_put, put_none, size_put, ev_const]; done) | (simp only [ev_put, put_none, size_put, ev_const]; rfl) | rfl) rfl (fun _ => trivial)) ?_
      rintro v3 ⟨⟩
      refine wpStn_do (wanted_plain rfl) (nOp_same (v := .pointer (some ⟨bl, off + k * 8, none⟩)) rfl (fun _ => trivial) (fun W hb => by go_simp)) ?_
      rintro v4 ⟨⟩
      refine wpStn_do (wanted_plain rfl) (nOp_same (v := .agg #[.int .i64 kd, .int .i64 op, .int .i64 a, .int .i64 b, .int .i64 c, .int .u64 x, .int .u64 fa, .int .i64 fc]) rfl (fun _ => trivial) (fun W hb => by have q0 : W.cell? ⟨bl, off + k * 8, none⟩ = some (.int .i64 kd) := bkeep hb _ _ _ ((hc1 _ _ hbs).trans g0); have q1 : W.cell? ⟨bl, off + k * 8 + 1, none⟩ = some (.int .i64 op) := bkeep hb _ _ _ ((hc1 _ _ hbs).trans g1); have q2 : W.cell? ⟨bl, off + k * 8 + 2, none⟩ = some (.int .i64 a) := bkeep hb _ _ _ ((hc1 _ _ hbs).trans g2); have q3 : W.cell? ⟨bl, off + k * 8 + 3, none⟩ = some (.int .i64 b) := bkeep hb _ _ _ ((hc1 _ _ hbs).trans g3); have q4 : W.cell? ⟨bl, off + k * 8 + 4, none⟩ = some (.int .i64 c) := bkeep hb _ _ _ ((hc1 _ _ hbs).trans g4); have q5 : W.cell? ⟨bl, off + k * 8 + 5, none⟩ = some (.int .u64 x) := bkeep hb _ _ _ ((hc1 _ _ hbs).trans g5); have q6 : W.cell? ⟨bl, off + k * 8 + 6, none⟩ = some (.int .u64 fa) := bkeep hb _ _ _ ((hc1 _ _ hbs).trans g6); have q7 : W.cell? ⟨bl, off + k * 8 + 7, none⟩ = some (.int .i64 fc) := bkeep hb _ _ _ ((hc1 _ _ hbs).trans g7); go_simp)) ?_
      rintro v5 ⟨⟩
      refine wpStn_do (wanted_plain rfl) (nOp_call (v := .tuple #[z'.val, z'.val, .bool true]) rfl (fun W => run_does z.val z.val (.agg #[.int .i64 kd, .int .i64 op, .int .i64 a, .int .i64 b, .int .i64 c, .int .u64 x, .int .u64 fa, .int .i64 fc]) (.tmp 25) (.tmp 26) (.tmp 30) rfl (by first | (simp [ev_put, put_none, size_put, ev_const]; done) | (simp only [ev_put, put_none, size_put, ev_const]; rfl) | rfl) (by first | (simp [ev_put, put_none, size_put, ev_const]; done) | (simp only [ev_put, put_none, size_put, ev_const]; rfl) | rfl) (by first | (simp [ev_put, put_none, size_put, ev_const]; done) | (simp only [ev_put, put_none, size_put, ev_const]; rfl) | rfl) W) (fun W hb => (HD.out W).mono fun e W' ⟨he, hb'⟩ => ⟨he, b_then hb hb', trivial, fun j u hF => plF_keep (fun g o hg => heap_below hb' hg) j u hF⟩)) ?_
      rintro v6 ⟨⟩
      refine wpStn_do (wanted_plain rfl) (nOp_move (.tmp 31) (.inl rfl) (by first | (simp [ev_put, put_none, size_put, ev_const]; done) | (simp only [ev_put, put_none, size_put, ev_const]; rfl) | rfl) rfl (fun _ => trivial)) ?_
      rintro v7 ⟨⟩
      refine wpStn_do (wanted_plain rfl) (nOp_extract (.tmp 24) 0 rfl (by first | (simp [ev_put, put_none, size_put, ev_const]; done) | (simp only [ev_put, put_none, size_put, ev_const]; rfl) | rfl) rfl rfl (fun _ => trivial)) ?_
      rintro v8 ⟨⟩
      refine wpStn_do (wanted_plain rfl) (nOp_extract (.tmp 24) 1 rfl (by first | (simp [ev_put, put_none, size_put, ev_const]; done) | (simp only [ev_put, put_none, size_put, ev_const]; rfl) | rfl) rfl rfl (fun _ => trivial)) ?_
      rintro v9 ⟨⟩
      refine wpStn_do (wanted_plain rfl) (nOp_extract (.tmp 24) 2 rfl (by first | (simp [ev_put, put_none, size_put, ev_const]; done) | (simp only [ev_put, put_none, size_put, ev_const]; rfl) | rfl) rfl rfl (fun _ => trivial)) ?_
      rintro v10 ⟨⟩
      refine wpStn_do (wanted_plain rfl) (nOp_run (fun W hb => ⟨W.heap.size, hb.size, rfl⟩) (fun W hb => run_alloc 28 _ rfl zeroT W) (fun W hb => ⟨hb.alloc hb.size _, ⟨_, rfl, hb.size, _, rfl, heap_new _ _⟩, fun j u hF => plF_keep (fun g o hg => heap_old _ _ _ hg) j u hF⟩)) ?_
      rintro v11 ⟨g7, hg7, rfl⟩
      refine wpStn_do (wanted_plain rfl) (nOp_run (fun W hb => ⟨W.heap.size, hb.size, rfl⟩) (fun W hb => run_alloc 38 _ rfl zeroR W) (fun W hb => ⟨hb.alloc hb.size _, ⟨_, rfl, hb.size, _, rfl, heap_new _ _⟩, fun j u hF => plF_keep (fun g o hg => heap_old _ _ _ hg) j u hF⟩)) ?_
      rintro v12 ⟨g8, hg8, rfl⟩
      refine wpStn_do (wanted_plain rfl) (nOp_store 28 (.tmp 7) (.tmp 32) rfl g7 z'.cs (by first | (simp [ev_put, put_none, size_put, ev_const]; done) | (simp only [ev_put, put_none, size_put, ev_const]; rfl) | rfl) (by first | (simp [ev_put, put_none, size_put, ev_const]; done) | (simp only [ev_put, put_none, size_put, ev_const]; rfl) | rfl) 28 infoT HP.out (.pointer (some ⟨g7, 0, none⟩)) rfl ?hR13 ?hA13 ?hB13) ?hC13
      case hR13 => (simp [plR, plX, ev_put, put_none, size_put, ev_const]; done)
      case hA13 => intro W hb hk; have h : plF z' wr.heap.size 11 (.pointer (some ⟨g7, 0, none⟩)) W := (by simpa [upd] using hk ⟨11, .data⟩ (by simp) (by rfl)); obtain ⟨q, e, _, old, h2, h3⟩ := h; cases e; exact ⟨old, h2, h3⟩
      case hB13 => intro W hb hk; have h : plF z' wr.heap.size 11 (.pointer (some ⟨g7, 0, none⟩)) W := (by simpa [upd] using hk ⟨11, .data⟩ (by simp) (by rfl)); obtain ⟨q, e, _, old, h2, h3⟩ := h; cases e; exact ⟨below_row hb (by omega) _, ⟨_, rfl, by omega, setRow_heap _ _ _ _ _ _ h3⟩, fun j u hF => plF_store7 h3 j u hF⟩
      intro v13 h13
      replace h13 : v13 = .pointer (some ⟨g7, 0, none⟩) := (by simp [plR, plX, ev_put, put_none, size_put, ev_const] at h13; exact h13)
      subst h13
      refine wpStn_do (wanted_plain rfl) (nOp_store 38 (.tmp 8) (.tmp 33) rfl g8 z'.cs (by first | (simp [ev_put, put_none, size_put, ev_const]; done) | (simp only [ev_put, put_none, size_put, ev_const]; rfl) | rfl) (by first | (simp [ev_put, put_none, size_put, ev_const]; done) | (simp only [ev_put, put_none, size_put, ev_const]; rfl) | rfl) 38 infoR HP.out (.pointer (some ⟨g8, 0, none⟩)) rfl ?hR14 ?hA14 ?hB14) ?hC14
      case hR14 => (simp [plR, plX, ev_put, put_none, size_put, ev_const]; done)
      case hA14 => intro W hb hk; have h : plF z' wr.heap.size 12 (.pointer (some ⟨g8, 0, none⟩)) W := (by simpa [upd] using hk ⟨12, .data⟩ (by simp) (by rfl)); obtain ⟨q, e, _, old, h2, h3⟩ := h; cases e; exact ⟨old, h2, h3⟩
      case hB14 => intro W hb hk; have h : plF z' wr.heap.size 12 (.pointer (some ⟨g8, 0, none⟩)) W := (by simpa [upd] using hk ⟨12, .data⟩ (by simp) (by rfl)); obtain ⟨q, e, _, old, h2, h3⟩ := h; cases e; exact ⟨below_row hb (by omega) _, ⟨_, rfl, by omega, setRow_heap _ _ _ _ _ _ h3⟩, fun j u hF => plF_store8 h3 j u hF⟩
      intro v14 h14
      replace h14 : v14 = .pointer (some ⟨g8, 0, none⟩) := (by simp [plR, plX, ev_put, put_none, size_put, ev_const] at h14; exact h14)
      subst h14
      refine wpStn_do (wanted_plain rfl) (nOp_move (.tmp 34) (.inr rfl) (by first | (simp [ev_put, put_none, size_put, ev_const]; done) | (simp only [ev_put, put_none, size_put, ev_const]; rfl) | rfl) rfl (fun _ => trivial)) ?_
      rintro v15 ⟨⟩
      refine wpStn_nil ?_
      intro w3 hb3 hF3
      have h7 : w3.heap[g7]? = some (.cells z'.cs 28 (0, 0)) := by obtain ⟨q, e, _, h⟩ := (show plF z' wr.heap.size 13 (.pointer (some ⟨g7, 0, none⟩)) w3 from hF3 13 (by decide)); cases e; exact h
      have h8 : w3.heap[g8]? = some (.cells z'.cs 38 (0, 0)) := by obtain ⟨q, e, _, h⟩ := (show plF z' wr.heap.size 14 (.pointer (some ⟨g8, 0, none⟩)) w3 from hF3 14 (by decide)); cases e; exact h
      clear hF3
      have z2 := heap_lt HK2.out
      have z5 := heap_lt HK5.out
      have Q2 := heap_below hb3 HK2.out
      have Q5 := heap_below hb3 HK5.out
      have R8 : (w3.setRow w.heap.size z'.cs).heap[g8]? = some (.cells z'.cs 38 (0, 0)) := row_far h8 (by omega)
      have R5 : (w3.setRow w.heap.size z'.cs).heap[p]? = some (.cells z.cs 38 (0, 0)) := row_far Q5 (by omega)
      have R2 : (w3.setRow w.heap.size z'.cs).heap[w.heap.size]? = some (.cells z'.cs 28 (0, 0)) := setRow_heap _ _ _ _ _ _ Q2
      have S5 := Lib.hid (setRow_heap _ _ _ z'.cs _ _ R5)
      have S2 := Lib.hid (row_far (g := p) (cs := z'.cs) R2 (by omega))
      have HB3 := Lib.hid (below_row (below_row (b_then hB hb3) (Nat.le_refl _) z'.cs) (g := p) (by omega) z'.cs)
      have H7 := Lib.hid h7
      have G8 := Lib.hid R8
      have G5 := Lib.hid R5
      have G2 := Lib.hid Q2
      clear z2 z5 Q2 Q5 R8 R5 R2 hb3 h7 h8 hB HD g0 g1 g2 g3 g4 g5 g6 hc1 hf1 f0 f1 hg7 hg8
      go_wp2_with (first
        | (refine wpList_load_row rfl 28 (.tmp 7) rfl g7 (by first | (simp [ev_put, put_none, size_put, ev_const]; done) | (simp only [ev_put, put_none, size_put, ev_const]; rfl) | rfl) 28 z'.cs (0, 0) (.struct fsT) H7.out HFT.out rfl infoT ?_)
        | (refine wpList_store_row rfl 28 (.tmp 2) (.tmp 35) rfl w.heap.size z'.cs (by first | (simp [ev_put, put_none, size_put, ev_const]; done) | (simp only [ev_put, put_none, size_put, ev_const]; rfl) | rfl) (by first | (simp [ev_put, put_none, size_put, ev_const]; done) | (simp only [ev_put, put_none, size_put, ev_const]; rfl) | rfl) 28 z.cs G2.out infoT rfl HP.out ?_)
        | (refine wpList_load_row rfl 38 (.tmp 8) rfl g8 (by first | (simp [ev_put, put_none, size_put, ev_const]; done) | (simp only [ev_put, put_none, size_put, ev_const]; rfl) | rfl) 38 z'.cs (0, 0) (.struct fs) G8.out HFS.out rfl infoR ?_)
        | (refine wpList_store_row rfl 38 (.tmp 5) (.tmp 36) rfl p z'.cs (by first | (simp [ev_put, put_none, size_put, ev_const]; done) | (simp only [ev_put, put_none, size_put, ev_const]; rfl) | rfl) (by first | (simp [ev_put, put_none, size_put, ev_const]; done) | (simp only [ev_put, put_none, size_put, ev_const]; rfl) | rfl) 38 z.cs G5.out infoR rfl HP.out ?_))
      go_roundw
      case rel => exact ⟨k + 1, z', by go_num, by omega, by omega, HW.out, HB3.out, S2.out, S5.out⟩
      case measure => simp [intOf]; omega
    · have hB' := Lib.hid hB
      clear k2 k5 hB
      by_cases h1 : k < len1
      · have f0 : decide (k < len1) = true := decide_eq_true h1
        have f1 : decide ((k : Int) < 60) = false := decide_eq_false (by omega)
        clear hlt
        go_wp2_with fail
        go_returns
        exact ⟨rfl, hB'.out⟩
      · have f0 : decide (k < len1) = false := decide_eq_false h1
        clear hlt
        go_wp2_with fail
        go_returns
        exact ⟨rfl, hB'.out⟩
theorem walk_TrapPlays (a0_0 : Int) (a0_1 : Int) (a0_2 : Int) (a0_3 : Int) (a0_4 : Int) (a0_5 : Int) (a0_6 : Bool) (a0_7 : Int) (a0_8 : Int) (a0_9 : Int) (a0_10 : Int) (a0_11 : Int) (a0_12 : Int) (A1 : Option Addr) (len1 cap1 : Nat) (w : World) (w0_0 : (Lit.int .u64 a0_0).wf = true) (w0_1 : (Lit.int .u64 a0_1).wf = true) (w0_2 : (Lit.int .u64 a0_2).wf = true) (w0_3 : (Lit.int .u64 a0_3).wf = true) (w0_4 : (Lit.int .i64 a0_4).wf = true) (w0_5 : (Lit.int .u64 a0_5).wf = true) (w0_7 : (Lit.int .u64 a0_7).wf = true) (w0_8 : (Lit.int .i64 a0_8).wf = true) (w0_9 : (Lit.int .u64 a0_9).wf = true) (w0_10 : (Lit.int .u64 a0_10).wf = true) (w0_11 : (Lit.int .u64 a0_11).wf = true) (w0_12 : (Lit.int .u64 a0_12).wf = true) (r1 : Rows_ w [.i .i64, .i .i64, .i .i64, .i .i64, .i .i64, .i .u64, .i .u64, .i .i64] A1 len1) :
    Calls Try.prog 4 #[.agg #[.int .u64 a0_0, .int .u64 a0_1, .int .u64 a0_2, .int .u64 a0_3, .int .i64 a0_4, .int .u64 a0_5, .bool a0_6, .int .u64 a0_7, .int .i64 a0_8, .int .u64 a0_9, .int .u64 a0_10, .int .u64 a0_11, .int .u64 a0_12], .slice A1 len1 cap1] w fun e w' => e = .returned (.bool true) ∧ Below w.heap.size w w' :=
  plays_any ⟨a0_0, a0_1, a0_2, a0_3, a0_4, a0_5, a0_6, a0_7, a0_8, a0_9, a0_10, a0_11, a0_12⟩ ⟨u64_bd w0_0, u64_bd w0_1, u64_bd w0_2, u64_bd w0_3, u64_bd w0_9, u64_bd w0_10, u64_bd w0_11, u64_bd w0_12, (i64_bd w0_4).1, (i64_bd w0_4).2⟩ A1 len1 cap1 w r1
end Go.Proofs.Ytokmcjjdoiaeaaa
