/- Copy of the memory, for every two frames. No condition. -/
import Derived.Test.YtnjjeedalmikaaaRamH
namespace Go.Proofs.Ytnjjeedalmikaaa
open Go.ChangeShapes Go.WideShapes Go.ChangeAt Go.RowKit
open Go.ChangeMaps (setBlock heap_setBlock_same heap_setBlock_other)
set_option linter.unusedVariables false
set_option linter.unusedSimpArgs false
theorem copyF_same (mem : Nat → Nat) (t frm : Nat) : copyF (copyF mem t frm) t frm = copyF mem t frm := by
  funext a
  unfold copyF
  by_cases h : a / 4096 = t
  · rw [if_pos h, if_pos h]
    by_cases h2 : (frm * 4096 + a % 4096) / 4096 = t
    · rw [if_pos h2, show (frm * 4096 + a % 4096) % 4096 = a % 4096 by omega]
    · rw [if_neg h2]
  · rw [if_neg h]
theorem copyF_frm (mem : Nat → Nat) (t frm i : Nat) (hi : i < 4096) : copyF mem t frm (frm * 4096 + i) = mem (frm * 4096 + i) := by
  unfold copyF
  split
  · congr 1; omega
  · rfl
section
variable {W : World} {base b m : Nat} {n : Int} {hs : Hs} {mem : Nat → Nat} {v : Value} {L : Pg}
theorem RamX.row (h : RamX W base b m n hs mem v L) {t frm g : Nat} (hf : kget L t = some g) {cs : Array Value} (hsz : cs.size = 4096) (hc : ∀ i, i < 4096 → cs[i]? = some (.int .u8 (mem (frm * 4096 + i)))) :
    RamX (W.setRow g cs) base b m n hs (copyF mem t frm) v L ∧ RT base m W (W.setRow g cs) := by
  obtain ⟨f0, e1, e2, e3⟩ := h.pg t g hf
  obtain rfl : t = f0 := by omega
  obtain ⟨cs0, p1, p2, p3⟩ := e3.ex
  have far : ∀ (k : Nat) (ob : Obj), W.heap[k]? = some ob → k ≠ g → (W.setRow g cs).heap[k]? = some ob := fun k ob hk hne => (setRow_other W g k cs hne).trans hk
  have ne : ∀ (k : Nat) (ob : Obj), W.heap[k]? = some ob → (∀ cs, ob ≠ .cells cs 65 (0, 0)) → k ≠ g := fun k ob hk ho e => by
    subst e; rw [p1] at hk; exact ho _ (Option.some.inj hk).symm
  refine ⟨⟨far _ _ h.hd (ne _ _ h.hd (by simp)), HL.heap h.hl fun k cur hk => far _ _ hk (ne _ _ hk (by simp)), h.mp.of (setRow_other W g m cs (fun e => e3.not_map h.mp e.symm)), h.nd, fun k g' hk => ?_, fun f' hk j hj => ?_, h.inj, h.baseM, h.len, h.n0, h.n1, fun a => ?_⟩, ⟨rfl, rfl, rfl, by simp, fun k hk hn => setRow_other W g k cs (fun e => hn (by subst e; exact ⟨e2, .inr ⟨cs0, p1⟩⟩))⟩⟩
  · obtain ⟨f', q1, q2, q3⟩ := h.pg k g' hk
    refine ⟨f', q1, q2, ?_⟩
    by_cases hgg : g' = g
    · subst hgg
      have := h.inj k t g' hk hf
      obtain rfl : f' = t := by omega
      refine ⟨cs, setRow_heap _ _ _ _ _ _ p1, hsz, fun j hj => ?_⟩
      rw [hc j hj]
      unfold copyF
      rw [if_pos (by omega)]
      congr 4
      omega
    · have hff : f' ≠ t := fun e => by subst e; rw [q1, hf] at hk; exact hgg (Option.some.inj hk).symm
      obtain ⟨cs', r1, r2, r3⟩ := q3.ex
      refine ⟨cs', far _ _ r1 hgg, r2, fun j hj => ?_⟩
      rw [r3 j hj]
      unfold copyF
      rw [if_neg (by omega)]
  · have hff : f' ≠ t := fun e => by subst e; rw [hf] at hk; cases hk
    unfold copyF
    rw [if_neg (by omega)]
    exact h.no f' hk j hj
  · unfold copyF; split
    · exact h.byte _
    · exact h.byte a
end
section
variable (W0 : World) (base b m : Nat) (n : Int) (hs : Hs) (mem : Nat → Nat) (v : Value) (t frm gp : Nat)
def TwoC (m' : Nat → Nat) : Prop := m' = mem ∨ m' = copyF mem t frm
structure CB (W : World) : Prop where
  rt : RT base m W0 W
  ex : ∃ L m', TwoC mem t frm m' ∧ RamX W base b m n hs m' v L ∧ kget L frm = some gp
structure CG (g : Nat) (W : World) : Prop where
  ex : ∃ L m', TwoC mem t frm m' ∧ RamX W base b m n hs m' v L ∧ kget L t = some g
structure CF (W : World) : Prop where
  ex : ∃ L, RamX W base b m n hs (copyF mem t frm) v L
variable {W0 base b m n hs mem v t frm gp}
theorem TwoC.from_ {m' : Nat → Nat} (h : TwoC mem t frm m') (i : Nat) (hi : i < 4096) : m' (frm * 4096 + i) = mem (frm * 4096 + i) := by
  rcases h with rfl | rfl
  · rfl
  · exact copyF_frm mem t frm i hi
theorem TwoC.copy_ {m' : Nat → Nat} (h : TwoC mem t frm m') : copyF m' t frm = copyF mem t frm := by
  rcases h with rfl | rfl
  · rfl
  · exact copyF_same mem t frm
theorem cells_ext {cs cs' : Array Value} (h : cs.size = 4096) (h' : cs'.size = 4096) (he : ∀ i, i < 4096 → cs[i]? = cs'[i]?) : cs = cs' := by
  apply Array.ext_getElem?
  intro i
  by_cases hi : i < 4096
  · exact he i hi
  · rw [Array.getElem?_eq_none (by omega), Array.getElem?_eq_none (by omega)]
theorem CB.page {W : World} (hb : CB W0 base b m n hs mem v t frm gp W) {cs : Array Value} (hsz : cs.size = 4096) (hc : ∀ i, i < 4096 → cs[i]? = some (.int .u8 (mem (frm * 4096 + i)))) : W.heap[gp]? = some (.cells cs 65 (0, 0)) := by
  obtain ⟨L, m', e1, e2, e3⟩ := hb.ex
  obtain ⟨f', q1, q2, ⟨cs', p1, p2, p3⟩⟩ := e2.pg _ _ e3
  obtain rfl : frm = f' := by omega
  rw [p1, cells_ext hsz p2 (fun i hi => by rw [hc i hi, p3 i hi, TwoC.from_ e1 i hi])]
theorem CG.old {W : World} {g : Nat} (h : CG base b m n hs mem v t frm g W) : ∃ old : Array Value, W.heap[g]? = some (.cells old 65 (0, 0)) ∧ old.size = 4096 := by
  obtain ⟨L, m', e1, e2, e3⟩ := h.ex
  obtain ⟨f', q1, q2, ⟨cs', p1, p2, p3⟩⟩ := e2.pg _ _ e3
  exact ⟨cs', p1, p2⟩
theorem CB.own {W W' : World} {L L' : Pg} {m' : Nat → Nat} {g : Nat} (hb : CB W0 base b m n hs mem v t frm gp W) (h2 : TwoC mem t frm m') (h : RamX W base b m n hs m' v L) (h' : RamX W' base b m n hs m' v L') (hg : kget L' t = some g) (hr : RT base m W W') (hk : ∀ k g, kget L k = some g → kget L' k = some g) :
    CB W0 base b m n hs mem v t frm gp W' ∧ CG base b m n hs mem v t frm g W' ∧ (∀ g', CG base b m n hs mem v t frm g' W → CG base b m n hs mem v t frm g' W') ∧ (CF base b m n hs mem v t frm W → CF base b m n hs mem v t frm W') := by
  refine ⟨⟨hb.rt.trans hr, ?_⟩, ⟨⟨L', m', h2, h', hg⟩⟩, fun g' hs' => ?_, fun hs' => ?_⟩
  · obtain ⟨L1, m1, e1, e2, e3⟩ := hb.ex
    obtain ⟨rfl, rfl⟩ := h.uniq e2
    exact ⟨L', _, h2, h', hk _ _ e3⟩
  · obtain ⟨L1, m1, e1, e2, e3⟩ := hs'.ex
    obtain ⟨rfl, rfl⟩ := h.uniq e2
    exact ⟨⟨L', _, h2, h', hk _ _ e3⟩⟩
  · obtain ⟨L1, e2⟩ := hs'.ex
    obtain ⟨rfl, rfl⟩ := h.uniq e2
    exact ⟨⟨L', h'⟩⟩
theorem CB.store {W : World} {g : Nat} (hb : CB W0 base b m n hs mem v t frm gp W) (h : CG base b m n hs mem v t frm g W) {cs : Array Value} (hsz : cs.size = 4096) (hc : ∀ i, i < 4096 → cs[i]? = some (.int .u8 (mem (frm * 4096 + i)))) :
    CB W0 base b m n hs mem v t frm gp (W.setRow g cs) ∧ CF base b m n hs mem v t frm (W.setRow g cs) ∧ (∀ g', CG base b m n hs mem v t frm g' W → CG base b m n hs mem v t frm g' (W.setRow g cs)) := by
  obtain ⟨L, m', e1, e2, e3⟩ := h.ex
  obtain ⟨q1, q2⟩ := e2.row (frm := frm) e3 hsz (fun i hi => by rw [hc i hi, TwoC.from_ e1 i hi])
  rw [TwoC.copy_ e1] at q1
  refine ⟨⟨hb.rt.trans q2, ?_⟩, ⟨⟨L, q1⟩⟩, fun g' hs' => ?_⟩
  · obtain ⟨L1, m1, d1, d2, d3⟩ := hb.ex
    obtain ⟨_, rfl⟩ := e2.uniq d2
    exact ⟨L, _, .inr rfl, q1, d3⟩
  · obtain ⟨L1, m1, d1, d2, d3⟩ := hs'.ex
    obtain ⟨_, rfl⟩ := e2.uniq d2
    exact ⟨⟨L, _, .inr rfl, q1, d3⟩⟩
end
def cpR (b t gp : Nat) (cs : Array Value) : Nat → Value → Value → Prop
  | 0, _, u => u = ptr b
  | 1, _, u => u = .int .i64 (t : Nat)
  | 2, _, u => ∃ g, u = ptr g
  | 3, _, u => u = ptr gp
  | 4, _, u => u = ptr gp
  | 5, _, u => u = .agg cs
  | 6, y, u => u = y
  | _, _, _ => True
theorem cpR_some (b t gp : Nat) (cs : Array Value) : ∀ (i : Nat) (y : Value), ∃ u, cpR b t gp cs i y u
  | 0, _ => ⟨_, rfl⟩
  | 1, _ => ⟨_, rfl⟩
  | 2, _ => ⟨_, 0, rfl⟩
  | 3, _ => ⟨_, rfl⟩
  | 4, _ => ⟨_, rfl⟩
  | 5, _ => ⟨_, rfl⟩
  | 6, _ => ⟨_, rfl⟩
  | _ + 7, _ => ⟨undef, trivial⟩
def cpX : Nat → Operand
  | 6 => .tmp 28
  | _ => .const undef
def cpF (base b m : Nat) (n : Int) (hs : Hs) (mem : Nat → Nat) (v : Value) (t frm : Nat) : Nat → Value → World → Prop
  | 2, u, W => ∃ g, u = ptr g ∧ CG base b m n hs mem v t frm g W
  | 6, u, W => ∃ g, u = ptr g ∧ CG base b m n hs mem v t frm g W
  | 7, _, W => CF base b m n hs mem v t frm W
  | _, _, _ => True
theorem cpF_keep {base b m : Nat} {n : Int} {hs : Hs} {mem : Nat → Nat} {v : Value} {t frm : Nat} {W W' : World} (h1 : ∀ g', CG base b m n hs mem v t frm g' W → CG base b m n hs mem v t frm g' W') (h2 : CF base b m n hs mem v t frm W → CF base b m n hs mem v t frm W') (j : Nat) (u : Value) (hF : cpF base b m n hs mem v t frm j u W) : cpF base b m n hs mem v t frm j u W' := by
  unfold cpF at *
  split at hF
  · obtain ⟨g, e, h⟩ := hF; exact ⟨g, e, h1 g h⟩
  · obtain ⟨g, e, h⟩ := hF; exact ⟨g, e, h1 g h⟩
  · exact h2 hF
  · trivial
theorem copy_call {y : Value} {W0 : World} {base b m : Nat} {n : Int} {hs : Hs} {mem : Nat → Nat} {v : Value} {t frm gp : Nat} {cs : Array Value} {W : World} (hb : CB W0 base b m n hs mem v t frm gp W) (hf63 : t < 9223372036854775808) :
    Calls Try.prog 28 #[ptr b, .int .i64 (t : Nat)] W fun e w' => ∃ u, e = .returned u ∧ cpR b t gp cs 2 y u ∧ NPost (CB W0 base b m n hs mem v t frm gp) (cpF base b m n hs mem v t frm) 2 u W w' := by
  obtain ⟨L, m', e1, e2, e3⟩ := hb.ex
  refine (own_any e2 t hf63).mono ?_
  rintro e w' ⟨g, L', rfl, h1, h2, h3, h4⟩
  obtain ⟨q1, q2, q3, q4⟩ := hb.own e1 e2 h1 h2 h3 h4
  exact ⟨_, rfl, ⟨g, rfl⟩, q1, ⟨g, rfl, q2⟩, fun j u hF => cpF_keep q3 q4 j u hF⟩
theorem cells_one {cs : Array Value} {c : Nat → Nat} (hsz : cs.size = 4096) (hc : ∀ i, i < 4096 → cs[i]? = some (.int .u8 (c i))) : cs.all (·.oneCell') = true := by
  rw [Array.all_eq_true]
  intro i hi
  have := hc i (by omega)
  rw [Array.getElem?_eq_getElem hi] at this
  rw [Option.some.inj this]
  rfl
theorem hasF_nat {n : Int} {hs : Hs} {f : Int} (h : hasF n hs f = true) : ∃ k : Nat, f = k ∧ (k : Int) < n := by
  unfold hasF at h
  simp only [Bool.and_eq_true, decide_eq_true_eq] at h
  exact ⟨f.toNat, by omega, by omega⟩
set_option maxRecDepth 100000 in
set_option maxHeartbeats 1000000 in
theorem copy_any {w : World} {base b m : Nat} {n : Int} {hs : Hs} {mem : Nat → Nat} (h : RamAt w base b m n hs mem) (t frm : Int) :
    Calls Try.prog 23 #[ptr b, .int .i64 t, .int .i64 frm] w fun e w' => e = .returned (.int .i64 (if hasF n hs t && hasF n hs frm then 0 else 2)) ∧ RT base m w w' ∧ RamAt w' base b m n hs (if hasF n hs t && hasF n hs frm then copyF mem t.toNat frm.toNat else mem) := by
  obtain ⟨v0, HDD⟩ := h.hd
  have HC := Lib.hid (fun W (hb : Below w.heap.size w W) => has_any (HDD.below hb) t)
  have HD := Lib.hid (fun W (hb : Below w.heap.size w W) => has_any (HDD.below hb) frm)
  clear HDD
  obtain ⟨v, L, hX⟩ := h.x
  cases hh : hasF n hs t
  · rw [hh] at HC
    have H := Lib.hid h
    clear h hX
    go_enter Try.func23, Try.ntmps23
    go_wp2_with fail
    refine (HC.out _ (Below.refl _ _)).mono ?_
    rintro e w1 ⟨rfl, hb1⟩
    go_wp2
    go_returns
    exact ⟨rfl, RT.of_below hb1, H.out.below hb1⟩
  cases hh2 : hasF n hs frm
  · rw [hh] at HC
    rw [hh2] at HD
    have H := Lib.hid h
    clear h hX
    go_enter Try.func23, Try.ntmps23
    go_wp2_with fail
    refine (HC.out _ (Below.refl _ _)).mono ?_
    rintro e w1 ⟨rfl, hb1⟩
    go_wp2_with fail
    refine (HD.out _ hb1).mono ?_
    rintro e w2 ⟨rfl, hb2⟩
    have hB := Lib.hid (b_then hb1 hb2)
    clear hb1 hb2
    go_wp2
    go_returns
    exact ⟨rfl, RT.of_below hB.out, H.out.below hB.out⟩
  rw [hh] at HC
  rw [hh2] at HD
  obtain ⟨t, rfl, ht1⟩ := hasF_nat hh
  obtain ⟨frm, rfl, hf1⟩ := hasF_nat hh2
  have HF63 : Hid (t < 9223372036854775808) := Lib.hid (by have := h.n1; omega)
  have HX := Lib.hid hX
  clear h hX hh hh2
  go_enter Try.func23, Try.ntmps23
  go_wp2_with fail
  refine (HC.out _ (Below.refl _ _)).mono ?_
  rintro e w0 ⟨rfl, hb0⟩
  go_wp2_with fail
  refine (HD.out _ hb0).mono ?_
  rintro e w1 ⟨rfl, hb1⟩
  have hB := b_then hb0 hb1
  have hX1 := HX.out.below hB
  have HR := Lib.hid (RT.of_below (base := base) (m := m) hB)
  have c2 : w1.cell? ⟨b, 2, none⟩ = some (.map (some m)) := cell_heap hX1.hd 2
  have hlk := run_lookup_al (P := Try.prog) underPages underInt (zeroPtr w1) hX1.mp (frm : Int) false
  rw [aget_enc] at hlk
  clear hb0 hb1 hB HC HD
  cases hg : kget L (frm : Int) with
  | none =>
    rw [hg] at hlk
    obtain ⟨o, hd, hM⟩ := run_delete_al (P := Try.prog) (ty := 0) underPages underInt hX1.mp (t : Int)
    rw [adel_enc] at hM
    have hz : zeroF mem t = copyF mem t frm := by
      funext a
      unfold zeroF copyF
      split
      · exact (hX1.no frm hg (a % 4096) (by omega)).symm
      · rfl
    have HM := Lib.hid (hX1.del t hM)
    rw [hz] at HM
    clear hM hX1 hg ht1 hf1
    go_wp2_with fail
    go_returns
    exact ⟨rfl, HR.out.trans HM.out.2, HM.out.1.at⟩
  | some gp =>
    rw [hg] at hlk
    obtain ⟨f', e1, e2, ⟨cs, p1, p2, p3⟩⟩ := hX1.pg _ _ hg
    obtain rfl : frm = f' := by omega
    have HCS := Lib.hid (And.intro p2 p3)
    have HONE := Lib.hid (cells_one p2 p3)
    have HCB : Hid (CB w1 base b m n hs mem v t frm gp w1.drew) := Lib.hid ⟨RT.of_below (Below.refl _ _).drew, L, _, .inl rfl, hX1.below (Below.refl _ _).drew, hg⟩
    clear hX1 hg ht1 hf1 p1 p2 p3 e1 e2
    go_upto_region 5 with fail
    refine wp_region_stagedN (CB w1 base b m n hs mem v t frm gp) (cpF base b m n hs mem v t frm) (cpR b t gp cs) cpX (cpR_some b t gp cs) (by intro j oj t h1 h2; unfold cpX at h2; (split at h2 <;> first | (cases h2; exact (Option.some.inj h1) ▸ (by decide)) | (cases h2; done))) (by kernel_rfl) (by kernel_rfl) HCB.out ?_
    refine wpStn_do (wanted_plain rfl) (nOp_move (.tmp 0) (.inl rfl) (by first | (simp [ev_put, put_none, size_put, ev_const]; done) | (simp only [ev_put, put_none, size_put, ev_const]; rfl) | rfl) rfl (fun _ => trivial)) ?_
    rintro v0 ⟨⟩
    refine wpStn_do (wanted_plain rfl) (nOp_move (.tmp 1) (.inl rfl) (by first | (simp [ev_put, put_none, size_put, ev_const]; done) | (simp only [ev_put, put_none, size_put, ev_const]; rfl) | rfl) rfl (fun _ => trivial)) ?_
    rintro v1 ⟨⟩
    refine wpStn_do (wanted_plain rfl) (nOp_callE (fun W => run_own (ptr b) (.int .i64 (t : Nat)) (.tmp 26) (.tmp 27) rfl (by first | (simp [ev_put, put_none, size_put, ev_const]; done) | (simp only [ev_put, put_none, size_put, ev_const]; rfl) | rfl) (by first | (simp [ev_put, put_none, size_put, ev_const]; done) | (simp only [ev_put, put_none, size_put, ev_const]; rfl) | rfl) W) (fun W hb => copy_call hb HF63.out)) ?_
    rintro v2 ⟨g, rfl⟩
    refine wpStn_do (wanted_plain rfl) (nOp_move (.tmp 7) (.inl rfl) (by first | (simp [ev_put, put_none, size_put, ev_const]; done) | (simp only [ev_put, put_none, size_put, ev_const]; rfl) | rfl) rfl (fun _ => trivial)) ?_
    rintro v3 ⟨⟩
    refine wpStn_do (wanted_plain rfl) (nOp_same (v := ptr gp) rfl (fun _ => trivial) (fun W hb => by go_simp)) ?_
    rintro v4 ⟨⟩
    refine wpStn_do (wanted_plain rfl) (nOp_load 65 (.tmp 30) rfl gp (by first | (simp [ev_put, put_none, size_put, ev_const]; done) | (simp only [ev_put, put_none, size_put, ev_const]; rfl) | rfl) 65 cs (0, 0) (.array 4096 5) underP rfl (by rw [HCS.out.1]; exact infoP) rfl (fun _ => trivial) (fun W hb => hb.page HCS.out.1 HCS.out.2)) ?_
    rintro v5 ⟨⟩
    refine wpStn_do (wanted_plain rfl) (nOp_known (v := ptr g) (by simp [cpR, cpX, ev_put, put_none, size_put, ev_const]; done) ?h6F (fun W hb => by go_simp)) ?h6K
    case h6F => intro W hb hk; have h : cpF base b m n hs mem v t frm 2 (ptr g) W := (by simpa [upd] using hk ⟨2, .data⟩ (by simp) (by rfl)); exact h
    intro v6 h6
    replace h6 : v6 = ptr g := (by simp [cpR, cpX, ev_put, put_none, size_put, ev_const] at h6; exact h6)
    subst h6
    refine wpStn_do (wanted_plain rfl) (nOp_store 65 (.tmp 32) (.tmp 31) rfl g cs (by first | (simp [ev_put, put_none, size_put, ev_const]; done) | (simp only [ev_put, put_none, size_put, ev_const]; rfl) | rfl) (by first | (simp [ev_put, put_none, size_put, ev_const]; done) | (simp only [ev_put, put_none, size_put, ev_const]; rfl) | rfl) 65 (by rw [HCS.out.1]; exact infoP) HONE.out undef rfl trivial ?h7S ?h7P) ?h7K
    case h7S => intro W hb hk; have h : cpF base b m n hs mem v t frm 6 (ptr g) W := (by simpa [upd] using hk ⟨6, .data⟩ (by simp) (by rfl)); obtain ⟨g', e, h'⟩ := h; cases e; obtain ⟨old, p1, p2⟩ := h'.old; exact ⟨old, by rw [p2, HCS.out.1], p1⟩
    case h7P => intro W hb hk; have h : cpF base b m n hs mem v t frm 6 (ptr g) W := (by simpa [upd] using hk ⟨6, .data⟩ (by simp) (by rfl)); obtain ⟨g', e, h'⟩ := h; cases e; obtain ⟨q1, q2, q3⟩ := hb.store h' HCS.out.1 HCS.out.2; exact ⟨q1, q2, fun j u hF => cpF_keep q3 (fun _ => q2) j u hF⟩
    rintro v7 -
    refine wpStn_nil ?_
    intro w3 hb3 hF3
    have hS : CF base b m n hs mem v t frm w3 := hF3 7 (by decide)
    clear hF3
    have HS := Lib.hid hS
    have HB3 := Lib.hid hb3
    clear hS hb3
    go_wp2_with fail
    go_returns
    exact ⟨rfl, HR.out.trans HB3.out.rt, by obtain ⟨L', hL'⟩ := HS.out.ex; exact hL'.at⟩
end Go.Proofs.Ytnjjeedalmikaaa
