/- TlbGone: behind a page's, a tag's or all lines' end none of them is found, and others are, behind any calls. No condition. -/
import Derived.Test.YthnojhldpbjkoaaTlbOne
namespace Go.Proofs.Ythnojhldpbjkoaa
open Go.ChangeShapes Go.WideShapes Go.ChangeAt Go.RowKit
set_option linter.unusedVariables false
set_option linter.unusedSimpArgs false

theorem four_tlbs (w : World) : ∃ w0, w0 = (((w.alloc (.cells (lcells zeroL).toArray 29)).alloc (.cells (lcells zeroL).toArray 29)).alloc (.cells (lcells zeroL).toArray 29)).alloc (.cells (lcells zeroL).toArray 29) ∧ Below w.heap.size w w0 ∧
    TlbAt w0 (w.heap.size) zeroL ∧ TlbAt w0 (w.heap.size + 1) zeroL ∧ TlbAt w0 (w.heap.size + 1 + 1) zeroL ∧ TlbAt w0 (w.heap.size + 1 + 1 + 1) zeroL := by
  refine ⟨_, rfl, by go_grown, ⟨heap_old _ _ _ (heap_old _ _ _ (heap_old _ _ _ (heap_new _ _))), zeroL_len⟩, ⟨heap_old _ _ _ (heap_old _ _ _ ?_), zeroL_len⟩, ⟨heap_old _ _ _ ?_, zeroL_len⟩, ⟨?_, zeroL_len⟩⟩
  · have := heap_new (w.alloc (.cells (lcells zeroL).toArray 29)) (.cells (lcells zeroL).toArray 29)
    rwa [World.size_alloc] at this
  · have := heap_new ((w.alloc (.cells (lcells zeroL).toArray 29)).alloc (.cells (lcells zeroL).toArray 29)) (.cells (lcells zeroL).toArray 29)
    rwa [World.size_alloc, World.size_alloc] at this
  · have := heap_new (((w.alloc (.cells (lcells zeroL).toArray 29)).alloc (.cells (lcells zeroL).toArray 29)).alloc (.cells (lcells zeroL).toArray 29)) (.cells (lcells zeroL).toArray 29)
    rwa [World.size_alloc, World.size_alloc, World.size_alloc] at this
theorem findT_eq (L L' : List Ln) (tag page : Int) (h0 : fitsB (at_ L (2 * setOf page)) tag page = fitsB (at_ L' (2 * setOf page)) tag page) (h1 : fitsB (at_ L (2 * setOf page + 1)) tag page = fitsB (at_ L' (2 * setOf page + 1)) tag page)
    (e0 : fitsB (at_ L (2 * setOf page)) tag page = true → at_ L (2 * setOf page) = at_ L' (2 * setOf page)) (e1 : fitsB (at_ L (2 * setOf page + 1)) tag page = true → at_ L (2 * setOf page + 1) = at_ L' (2 * setOf page + 1)) : findT L tag page = findT L' tag page := by
  unfold findT
  rw [← h0, ← h1]
  by_cases a : fitsB (at_ L (2 * setOf page)) tag page = true
  · rw [if_pos a, if_pos a, e0 a]
  · rw [if_neg a, if_neg a]
    by_cases b : fitsB (at_ L (2 * setOf page + 1)) tag page = true
    · rw [if_pos b, if_pos b, e1 b]
    · rw [if_neg b, if_neg b]
theorem findT_fits (L : List Ln) (tag page : Int) (h : (findT L tag page).2 = true) : fitsB (findT L tag page).1 tag page = true ∧ ((findT L tag page).1 = at_ L (2 * setOf page) ∨ (findT L tag page).1 = at_ L (2 * setOf page + 1)) := by
  unfold findT at h ⊢
  by_cases a : fitsB (at_ L (2 * setOf page)) tag page = true
  · rw [if_pos a]; exact ⟨a, .inl rfl⟩
  · rw [if_neg a] at h ⊢
    by_cases b : fitsB (at_ L (2 * setOf page + 1)) tag page = true
    · rw [if_pos b]; exact ⟨b, .inr rfl⟩
    · rw [if_neg b] at h; cases h
/-- What the law asks, plainly. -/
theorem gone_pure {L : List Ln} (h : Inv L) (tag page other : Int) :
    (findT (dropT (fun x => fitsB x tag page) L) tag page).2 = false ∧
    ((findT (dropT (fun x => x.tag == tag && !x.gl) L) tag other).2 = true → (findT (dropT (fun x => x.tag == tag && !x.gl) L) tag other).1.gl = true) ∧
    ((findT (dropT (fun x => !true || !x.gl) L) tag other).2 = true → (findT (dropT (fun x => !true || !x.gl) L) tag other).1.gl = true) ∧
    (other ≠ page → findT (dropT (fun x => fitsB x tag page) L) tag other = findT L tag other) ∧
    ((findT L tag other).2 = true → (findT L tag other).1.tag = tag → (findT (dropT (fun x => x.tag == tag && !x.gl) L) tag other).2 = (findT L tag other).1.gl) ∧
    (linesT (dropT (fun x => !false || !x.gl) L)).length = 0 := by
  have hl := h.len
  have hd : ∀ (f : Ln → Bool) (q : Int), at_ (dropT f L) (2 * setOf q) = (if f (at_ L (2 * setOf q)) then zln else at_ L (2 * setOf q)) ∧ at_ (dropT f L) (2 * setOf q + 1) = (if f (at_ L (2 * setOf q + 1)) then zln else at_ L (2 * setOf q + 1)) := by
    intro f q
    have := setOf_lt q
    exact ⟨at_dropT f L _ (by omega), at_dropT f L _ (by omega)⟩
  have hz : ∀ (f : Ln → Bool) (x : Ln) (t q : Int), fitsB (if f x then zln else x) t q = true → f x = false ∧ fitsB x t q = true := by
    intro f x t q hf
    cases hx : f x
    · rw [hx] at hf; exact ⟨rfl, hf⟩
    · rw [hx] at hf; cases hf
  have hgood : ∀ (f : Ln → Bool) (t q : Int), (findT (dropT f L) t q).2 = true → f (findT (dropT f L) t q).1 = false ∧ fitsB (findT (dropT f L) t q).1 t q = true := by
    intro f t q hf
    obtain ⟨h1, h2⟩ := findT_fits _ t q hf
    obtain ⟨d0, d1⟩ := hd f q
    rcases h2 with e | e
    · rw [e, d0] at h1 ⊢
      obtain ⟨a, b⟩ := hz f _ t q h1
      rw [a]; exact ⟨a, b⟩
    · rw [e, d1] at h1 ⊢
      obtain ⟨a, b⟩ := hz f _ t q h1
      rw [a]; exact ⟨a, b⟩
  refine ⟨?_, fun hf => ?_, fun hf => ?_, fun hne => ?_, fun hf ht => ?_, ?_⟩
  · cases hf : (findT (dropT (fun x => fitsB x tag page) L) tag page).2
    · rfl
    · obtain ⟨a, b⟩ := hgood _ tag page hf
      rw [show fitsB _ _ _ = false from a] at b; cases b
  · obtain ⟨a, b⟩ := hgood _ tag other hf
    generalize (findT (dropT (fun x => x.tag == tag && !x.gl) L) tag other).1 = x at a b
    simp only [fitsB, Bool.and_eq_true, Bool.or_eq_true] at b
    rcases b.2 with e | e
    · rw [e] at a; simpa using a
    · exact e
  · obtain ⟨a, _⟩ := hgood _ tag other hf
    simpa using a
  · obtain ⟨d0, d1⟩ := hd (fun x => fitsB x tag page) other
    have hn : ∀ x : Ln, fitsB x tag other = true → fitsB x tag page = false := by
      intro x hx
      simp only [fitsB, Bool.and_eq_true, beq_iff_eq] at hx
      exact fits_page _ _ _ (by rw [hx.1.2]; exact hne)
    have hs : ∀ x : Ln, fitsB (if fitsB x tag page then zln else x) tag other = fitsB x tag other := by
      intro x
      cases hx : fitsB x tag page
      · rfl
      · cases hy : fitsB x tag other
        · rfl
        · rw [hn x hy] at hx; cases hx
    refine findT_eq _ _ tag other (by rw [d0]; exact hs _) (by rw [d1]; exact hs _) (fun hf => ?_) (fun hf => ?_)
    · rw [d0] at hf ⊢
      rw [hs] at hf
      rw [hn _ hf]; rfl
    · rw [d1] at hf ⊢
      rw [hs] at hf
      rw [hn _ hf]; rfl
  · have hs := setOf_lt other
    obtain ⟨h1, h2⟩ := findT_fits _ tag other hf
    obtain ⟨d0, d1⟩ := hd (fun x => x.tag == tag && !x.gl) other
    cases hg : (findT L tag other).1.gl
    · -- it goes, and no other one fits
      cases hf2 : (findT (dropT (fun x => x.tag == tag && !x.gl) L) tag other).2
      · rfl
      · exfalso
        obtain ⟨a, b⟩ := hgood _ tag other hf2
        obtain ⟨_, h4⟩ := findT_fits _ tag other hf2
        generalize (findT L tag other).1 = z at *
        have nb := not_both h tag other (2 * setOf other) (2 * setOf other + 1) (by omega) (by omega) (by omega)
        have nb' := not_both h tag other (2 * setOf other + 1) (2 * setOf other) (by omega) (by omega) (by omega)
        have hzd : (z.tag == tag && !z.gl) = true := by simp [ht, hg]
        rcases h2 with e | e <;> rcases h4 with e4 | e4
        · rw [e4, d0, ← e, hzd] at b; cases b
        · rw [e4, d1] at b
          obtain ⟨_, b2⟩ := hz (fun x => x.tag == tag && !x.gl) _ _ _ b
          rw [nb (by rw [← e]; exact h1)] at b2; cases b2
        · rw [e4, d0] at b
          obtain ⟨_, b2⟩ := hz (fun x => x.tag == tag && !x.gl) _ _ _ b
          rw [nb' (by rw [← e]; exact h1)] at b2; cases b2
        · rw [e4, d1, ← e, hzd] at b; cases b
    · -- it stays
      have hzd : ((findT L tag other).1.tag == tag && !(findT L tag other).1.gl) = false := by simp [hg]
      rcases h2 with e | e
      · have : fitsB (at_ (dropT (fun x => x.tag == tag && !x.gl) L) (2 * setOf other)) tag other = true := by rw [d0, ← e, hzd]; exact h1
        unfold findT; rw [if_pos this]
      · have : fitsB (at_ (dropT (fun x => x.tag == tag && !x.gl) L) (2 * setOf other + 1)) tag other = true := by rw [d1, ← e, hzd]; exact h1
        unfold findT
        by_cases c : fitsB (at_ (dropT (fun x => x.tag == tag && !x.gl) L) (2 * setOf other)) tag other = true
        · rw [if_pos c]
        · rw [if_neg c, if_pos this]
  · unfold linesT dropT
    rw [List.length_eq_zero_iff, List.filter_eq_nil_iff]
    intro x hx
    obtain ⟨y, _, rfl⟩ := List.mem_map.1 hx
    simp [zln]
set_option maxRecDepth 100000 in
set_option maxHeartbeats 16000000 in
theorem walk_TlbGone (A0 : Option Addr) (len0 cap0 : Nat) (a1 : Int) (a2 : Int) (a3 : Int) (w : World) (r0 : Rows_ w [.i .i64, .i .i64, .i .i64, .b, .i .i64, .i .i64, .i .i64, .b, .b, .b, .b, .b] A0 len0) (w1 : (Lit.int .i64 a1).wf = true) (w2 : (Lit.int .i64 a2).wf = true) (w3 : (Lit.int .i64 a3).wf = true) :
    Calls Try.prog 8 #[.slice A0 len0 cap0, .int .i64 a1, .int .i64 a2, .int .i64 a3] w fun e w' => e = .returned (.bool true) ∧ Below w.heap.size w w' := by
  clear w1 w2 w3
  have hz := tlb_zero
  have hl0 := r0.1
  obtain ⟨w0, hw0, hB0, hN0, hN1, hN2, hN3⟩ := four_tlbs w
  have HW := Lib.hid hw0
  clear hw0
  go_enter Try.func8, Try.ntmps8
  go_wp2_with fail
  rw [← HW.out]
  go_loopw [13] (fun i wr => ∃ (k : Nat) (L : List Ln), i = .int .i64 k ∧ k ≤ len0 ∧ k ≤ 60 ∧ Below w.heap.size w wr ∧ TlbAt wr (w.heap.size) L ∧ TlbAt wr (w.heap.size + 1) L ∧ TlbAt wr (w.heap.size + 1 + 1) L ∧ TlbAt wr (w.heap.size + 1 + 1 + 1) L ∧ Inv L) (fun i _ => (60 - intOf i).toNat)
  case atStart => exact ⟨0, zeroL, rfl, by omega, by omega, hB0, hN0, hN1, hN2, hN3, Inv.zero⟩
  case round =>
    clear hB0 hN0 hN1 hN2 hN3
    obtain ⟨k, L, rfl, hle, hle2, hB0, hA00, hA10, hA20, hA30, hI⟩ := hrel
    by_cases hlt : k < len0 ∧ k < 60
    · obtain ⟨hl1, hl2⟩ := hlt
      obtain ⟨b, off, hA0, hbs, kind, x, y, lv, lt, lp, lf, lw, lu, lx, lg, ld, e0, e1, e2, e3, e4, e5, e6, e7, e8, e9, e10, e11⟩ := act_row r0 hl1
      have f0 : decide (k < len0) = true := decide_eq_true hl1
      have f1 : decide ((k : Int) < 60) = true := decide_eq_true (by omega)
      subst hA0
      have hI1 := Lib.hid (hI.does kind x y ⟨lv, lt, lp, lf, lw, lu, lx, lg, ld⟩)
      clear hI
      obtain ⟨hc0, hf0⟩ := bcell hB0
      have hbs0 := hB0.size
      have HDO0 := Lib.hid (does_any (base := wr.heap.size) (v := .slice none 0 0) (M := []) ⟨hA00, World.ownsRow_nil _ _ _ _, Nat.le_refl _, by simp, by simp⟩ kind x y lv lt lp lf lw lu lx lg ld)
      go_wp2_with fail
      refine HDO0.out.mono ?_
      rintro e v1 ⟨v', rfl, ht, hA01, _⟩
      have hB1 := Below.touch hB0 ht (Nat.le_refl _) (fun k e => by omega)
      have hA11 := TlbAt.touch hA10 ht (show ¬ w.heap.size + 1 = w.heap.size by omega)
      have hA21 := TlbAt.touch hA20 ht (show ¬ w.heap.size + 1 + 1 = w.heap.size by omega)
      have hA31 := TlbAt.touch hA30 ht (show ¬ w.heap.size + 1 + 1 + 1 = w.heap.size by omega)
      clear ht hc0 hf0 hB0 HDO0 hbs0 hA00 hA10 hA20 hA30
      obtain ⟨hc1, hf1⟩ := bcell hB1
      have hbs1 := hB1.size
      have HDO1 := Lib.hid (does_any (base := v1.heap.size) (v := .slice none 0 0) (M := []) ⟨hA11, World.ownsRow_nil _ _ _ _, Nat.le_refl _, by simp, by simp⟩ kind x y lv lt lp lf lw lu lx lg ld)
      go_wp2_with fail
      refine HDO1.out.mono ?_
      rintro e v2 ⟨v', rfl, ht, hA12, _⟩
      have hB2 := Below.touch hB1 ht (Nat.le_refl _) (fun k e => by omega)
      have hA02 := TlbAt.touch hA01 ht (show ¬ w.heap.size = w.heap.size + 1 by omega)
      have hA22 := TlbAt.touch hA21 ht (show ¬ w.heap.size + 1 + 1 = w.heap.size + 1 by omega)
      have hA32 := TlbAt.touch hA31 ht (show ¬ w.heap.size + 1 + 1 + 1 = w.heap.size + 1 by omega)
      clear ht hc1 hf1 hB1 HDO1 hbs1 hA01 hA11 hA21 hA31
      obtain ⟨hc2, hf2⟩ := bcell hB2
      have hbs2 := hB2.size
      have HDO2 := Lib.hid (does_any (base := v2.heap.size) (v := .slice none 0 0) (M := []) ⟨hA22, World.ownsRow_nil _ _ _ _, Nat.le_refl _, by simp, by simp⟩ kind x y lv lt lp lf lw lu lx lg ld)
      go_wp2_with fail
      refine HDO2.out.mono ?_
      rintro e v3 ⟨v', rfl, ht, hA23, _⟩
      have hB3 := Below.touch hB2 ht (Nat.le_refl _) (fun k e => by omega)
      have hA03 := TlbAt.touch hA02 ht (show ¬ w.heap.size = w.heap.size + 1 + 1 by omega)
      have hA13 := TlbAt.touch hA12 ht (show ¬ w.heap.size + 1 = w.heap.size + 1 + 1 by omega)
      have hA33 := TlbAt.touch hA32 ht (show ¬ w.heap.size + 1 + 1 + 1 = w.heap.size + 1 + 1 by omega)
      clear ht hc2 hf2 hB2 HDO2 hbs2 hA02 hA12 hA22 hA32
      obtain ⟨hc3, hf3⟩ := bcell hB3
      have hbs3 := hB3.size
      have HDO3 := Lib.hid (does_any (base := v3.heap.size) (v := .slice none 0 0) (M := []) ⟨hA33, World.ownsRow_nil _ _ _ _, Nat.le_refl _, by simp, by simp⟩ kind x y lv lt lp lf lw lu lx lg ld)
      go_wp2_with fail
      refine HDO3.out.mono ?_
      rintro e v4 ⟨v', rfl, ht, hA34, _⟩
      have hB4 := Below.touch hB3 ht (Nat.le_refl _) (fun k e => by omega)
      have hA04 := TlbAt.touch hA03 ht (show ¬ w.heap.size = w.heap.size + 1 + 1 + 1 by omega)
      have hA14 := TlbAt.touch hA13 ht (show ¬ w.heap.size + 1 = w.heap.size + 1 + 1 + 1 by omega)
      have hA24 := TlbAt.touch hA23 ht (show ¬ w.heap.size + 1 + 1 = w.heap.size + 1 + 1 + 1 by omega)
      clear ht hc3 hf3 hB3 HDO3 hbs3 hA03 hA13 hA23 hA33
      go_wp2_with fail
      go_roundw
      case rel => exact ⟨k + 1, _, by go_num, by omega, by omega, hB4, hA04, hA14, hA24, hA34, hI1.out⟩
      case measure => simp [intOf]; omega
    · have HC := Lib.hid hlt
      clear hlt
      obtain ⟨g1, g2, g3, g4, g5, g6⟩ := gone_pure hI a1 a2 a3
      have HI := Lib.hid hI
      clear hI
      obtain ⟨U, hU⟩ : ∃ U, U = dropT (fun x => fitsB x a1 a2) L := ⟨_, rfl⟩
      obtain ⟨V, hV⟩ : ∃ U, U = dropT (fun x => x.tag == a1 && !x.gl) L := ⟨_, rfl⟩
      obtain ⟨X, hX⟩ : ∃ U, U = dropT (fun x => !true || !x.gl) L := ⟨_, rfl⟩
      obtain ⟨E, hE⟩ : ∃ U, U = dropT (fun x => !false || !x.gl) L := ⟨_, rfl⟩
      rw [← hU] at g1 g4
      rw [← hV] at g2 g5
      rw [← hX] at g3
      rw [← hE] at g6
      have HU := Lib.hid hU
      have HV := Lib.hid hV
      have HX := Lib.hid hX
      have HE := Lib.hid hE
      clear hU hV hX hE
      obtain ⟨u1, u2, hfu⟩ : ∃ z ok, findT U a1 a2 = (z, ok) := ⟨_, _, rfl⟩
      obtain ⟨x, b, hfx⟩ : ∃ z ok, findT V a1 a3 = (z, ok) := ⟨_, _, rfl⟩
      obtain ⟨y, c, hfy⟩ : ∃ z ok, findT X a1 a3 = (z, ok) := ⟨_, _, rfl⟩
      obtain ⟨z, d, hfz⟩ : ∃ z ok, findT L a1 a3 = (z, ok) := ⟨_, _, rfl⟩
      obtain ⟨q, e, hfq⟩ : ∃ z ok, findT U a1 a3 = (z, ok) := ⟨_, _, rfl⟩
      rw [hfu] at g1
      have G4 := Lib.hid g4
      clear g4
      rw [hfx] at g2 g5
      rw [hfy] at g3
      rw [hfz] at g5
      simp only [] at g1 g2 g3 g5
      subst g1
      have HFU := Lib.hid hfu
      have HFX := Lib.hid hfx
      have HFY := Lib.hid hfy
      have HFZ := Lib.hid hfz
      have HFQ := Lib.hid hfq
      clear hfu hfx hfy hfz hfq
      obtain ⟨xv, xt, xp, xf, xw, xu, xe, xg, xd⟩ := x
      obtain ⟨yv, yt, yp, yf, yw, yu, ye, yg, yd⟩ := y
      obtain ⟨zv, zt, zp, zf, zw, zu, ze, zg, zd⟩ := z
      obtain ⟨qv, qt, qp, qf, qw, qu, qe, qg, qd⟩ := q
      obtain ⟨uv, ut, up, uf, uw, uu, ue, ug, ud⟩ := u1
      simp only [] at g2 g3 g5
      have G2 := Lib.hid g2
      have G3 := Lib.hid g3
      have G6 := Lib.hid g6
      clear g2 g3 g6
      have hcase : (a3 = a2) ∨ (a3 ≠ a2) := Classical.em _
      have hsz := hB0.size
      have q0 := hA30.lt
      go_upto_region 3 with fail
      go_cut [33] (fun s33 wx => s33 = .bool false ∧ wx = wr)
      case first =>
        go_wp2_with fail
        all_goals first
          | (exfalso; have := HC.out; omega)
          | (go_meet; exact ⟨by first | rfl | (simp; done) | (have := HC.out; simp; omega), rfl⟩)
      case rest =>
        obtain ⟨rfl, rfl⟩ := hcut
        rcases hcase with he | hne
        · have EB : (a3 == a2) = true := by simp [he]
          clear he
          cases d with
          | false =>
            clear g5
            go_wp2_with fail
            refine (page_any hA10 a1 a2).mono ?_
            rintro e v1 ⟨rfl, ht, hT11⟩
            have hB1' := Below.touch hB0 ht (Nat.le_refl _) (fun k e => by omega)
            have hT01 := TlbAt.touch hA00 ht (show ¬ w.heap.size = w.heap.size + 1 by omega)
            have hT21 := TlbAt.touch hA20 ht (show ¬ w.heap.size + 1 + 1 = w.heap.size + 1 by omega)
            have hT31 := TlbAt.touch hA30 ht (show ¬ w.heap.size + 1 + 1 + 1 = w.heap.size + 1 by omega)
            obtain ⟨hc1, _⟩ := tcell ht
            have hz1 := ht.size
            try simp only [World.size_alloc] at hz1
            clear ht hA00 hA10 hA20 hA30
            rw [← HU.out] at hT11
            go_wp2_with fail
            refine (tag_any hT21 a1).mono ?_
            rintro e v2 ⟨rfl, ht, hT22⟩
            have hB2' := Below.touch hB1' ht (Nat.le_refl _) (fun k e => by omega)
            have hT02 := TlbAt.touch hT01 ht (show ¬ w.heap.size = w.heap.size + 1 + 1 by omega)
            have hT12 := TlbAt.touch hT11 ht (show ¬ w.heap.size + 1 = w.heap.size + 1 + 1 by omega)
            have hT32 := TlbAt.touch hT31 ht (show ¬ w.heap.size + 1 + 1 + 1 = w.heap.size + 1 + 1 by omega)
            obtain ⟨hc2, _⟩ := tcell ht
            have hz2 := ht.size
            try simp only [World.size_alloc] at hz2
            clear ht hT01 hT11 hT21 hT31
            rw [← HV.out] at hT22
            go_wp2_with fail
            refine (all_any hT32 true).mono ?_
            rintro e v3 ⟨rfl, ht, hT33⟩
            have hB3' := Below.touch hB2' ht (Nat.le_refl _) (fun k e => by omega)
            have hT03 := TlbAt.touch hT02 ht (show ¬ w.heap.size = w.heap.size + 1 + 1 + 1 by omega)
            have hT13 := TlbAt.touch hT12 ht (show ¬ w.heap.size + 1 = w.heap.size + 1 + 1 + 1 by omega)
            have hT23 := TlbAt.touch hT22 ht (show ¬ w.heap.size + 1 + 1 = w.heap.size + 1 + 1 + 1 by omega)
            obtain ⟨hc3, _⟩ := tcell ht
            have hz3 := ht.size
            try simp only [World.size_alloc] at hz3
            clear ht hT02 hT12 hT22 hT32
            rw [← HX.out] at hT33
            go_wp2_with fail
            refine (find_any hT13 a1 a2).mono ?_
            rw [HFU.out]
            rintro e v4 ⟨rfl, hb⟩
            have hB4' := b_then (w := w) hB3' hb
            have hT04 := hT03.below hb
            have hT14 := hT13.below hb
            have hT24 := hT23.below hb
            have hT34 := hT33.below hb
            obtain ⟨hc4, _⟩ := bcell hb
            have hz4 := hb.size
            try simp only [World.size_alloc] at hz4
            clear hb hT03 hT13 hT23 hT33
            go_wp2_with fail
            refine (find_any (hT24.below (by go_grown)) a1 a3).mono ?_
            rw [HFX.out]
            rintro e v5 ⟨rfl, hb⟩
            have hB5' := b_then (w := w) (b_then (w := w) hB4' (by go_grown)) hb
            have hT05 := hT04.below (b_then (by go_grown) hb)
            have hT15 := hT14.below (b_then (by go_grown) hb)
            have hT25 := hT24.below (b_then (by go_grown) hb)
            have hT35 := hT34.below (b_then (by go_grown) hb)
            obtain ⟨hc5, _⟩ := bcell hb
            have hz5 := hb.size
            try simp only [World.size_alloc] at hz5
            have zbA5 : v4.heap.size < v5.heap.size := by omega
            clear hb hT04 hT14 hT24 hT34
            go_wp2_with fail
            refine (find_any (hT35.below (by go_grown)) a1 a3).mono ?_
            rw [HFY.out]
            rintro e v6 ⟨rfl, hb⟩
            have hB6' := b_then (w := w) (b_then (w := w) hB5' (by go_grown)) hb
            have hT06 := hT05.below (b_then (by go_grown) hb)
            have hT16 := hT15.below (b_then (by go_grown) hb)
            have hT26 := hT25.below (b_then (by go_grown) hb)
            have hT36 := hT35.below (b_then (by go_grown) hb)
            obtain ⟨hc6, _⟩ := bcell hb
            have hz6 := hb.size
            try simp only [World.size_alloc] at hz6
            have zbA6 : v4.heap.size < v6.heap.size := by omega
            have zbB6 : v5.heap.size < v6.heap.size := by omega
            clear hb hT05 hT15 hT25 hT35
            go_upto_region 15 with fail
            go_cut [96] (fun s96 wx => s96 = .bool false ∧ wx = v6.alloc (.cells #[.bool yv, .int .i64 yt, .int .i64 yp, .int .i64 yf, .bool yw, .bool yu, .bool ye, .bool yg, .bool yd] 25))
            case first =>
              cases b <;> cases c
              · go_wp2_with fail; go_meet; exact ⟨rfl, rfl⟩
              · obtain rfl : yg = true := G3.out rfl; go_wp2_with fail; go_meet; exact ⟨rfl, rfl⟩
              · obtain rfl : xg = true := G2.out rfl; go_wp2_with fail; go_meet; exact ⟨rfl, rfl⟩
              · obtain rfl : xg = true := G2.out rfl; obtain rfl : yg = true := G3.out rfl; go_wp2_with fail; go_meet; exact ⟨rfl, rfl⟩
            case rest =>
              obtain ⟨rfl, rfl⟩ := hcut
              go_wp2_with fail
              refine (find_any (hT06.below (by go_grown)) a1 a3).mono ?_
              rw [HFZ.out]
              rintro e v7 ⟨rfl, hb⟩
              have hB7' := b_then (w := w) (b_then (w := w) hB6' (by go_grown)) hb
              have hT07 := hT06.below (b_then (by go_grown) hb)
              have hT17 := hT16.below (b_then (by go_grown) hb)
              have hT27 := hT26.below (b_then (by go_grown) hb)
              have hT37 := hT36.below (b_then (by go_grown) hb)
              obtain ⟨hc7, _⟩ := bcell hb
              have hz7 := hb.size
              try simp only [World.size_alloc] at hz7
              have zbA7 : v4.heap.size < v7.heap.size := by omega
              have zbB7 : v5.heap.size < v7.heap.size := by omega
              have zbC7 : v6.heap.size < v7.heap.size := by omega
              clear hb hT06 hT16 hT26 hT36
              go_wp2_with fail
              refine (find_any (hT17.below (by go_grown)) a1 a3).mono ?_
              rw [HFQ.out]
              rintro e v8 ⟨rfl, hb⟩
              have hB8' := b_then (w := w) (b_then (w := w) hB7' (by go_grown)) hb
              have hT08 := hT07.below (b_then (by go_grown) hb)
              have hT18 := hT17.below (b_then (by go_grown) hb)
              have hT28 := hT27.below (b_then (by go_grown) hb)
              have hT38 := hT37.below (b_then (by go_grown) hb)
              obtain ⟨hc8, _⟩ := bcell hb
              have hz8 := hb.size
              try simp only [World.size_alloc] at hz8
              have zbA8 : v4.heap.size < v8.heap.size := by omega
              have zbB8 : v5.heap.size < v8.heap.size := by omega
              have zbC8 : v6.heap.size < v8.heap.size := by omega
              have zbD8 : v7.heap.size < v8.heap.size := by omega
              clear hb hT07 hT17 hT27 hT37
              go_wp2_with fail
              refine (find_any (hT28.below (by go_grown)) a1 a3).mono ?_
              rw [HFX.out]
              rintro e v9 ⟨rfl, hb⟩
              have hB9' := b_then (w := w) (b_then (w := w) hB8' (by go_grown)) hb
              have hT09 := hT08.below (b_then (by go_grown) hb)
              have hT19 := hT18.below (b_then (by go_grown) hb)
              have hT29 := hT28.below (b_then (by go_grown) hb)
              have hT39 := hT38.below (b_then (by go_grown) hb)
              obtain ⟨hc9, _⟩ := bcell hb
              have hz9 := hb.size
              try simp only [World.size_alloc] at hz9
              have zbA9 : v4.heap.size < v9.heap.size := by omega
              have zbB9 : v5.heap.size < v9.heap.size := by omega
              have zbC9 : v6.heap.size < v9.heap.size := by omega
              have zbD9 : v7.heap.size < v9.heap.size := by omega
              have zbE9 : v8.heap.size < v9.heap.size := by omega
              clear hb hT08 hT18 hT28 hT38
              go_wp2_with fail
              refine (all_any (hT09.below (by go_grown)) false).mono ?_
              rintro e v10 ⟨rfl, ht, hT010⟩
              have hB10' := Below.touch (b_then (w := w) hB9' (by go_grown)) ht (Nat.le_refl _) (fun k e => by omega)
              have hT110 := TlbAt.touch (hT19.below (by go_grown)) ht (show ¬ w.heap.size + 1 = w.heap.size by omega)
              have hT210 := TlbAt.touch (hT29.below (by go_grown)) ht (show ¬ w.heap.size + 1 + 1 = w.heap.size by omega)
              have hT310 := TlbAt.touch (hT39.below (by go_grown)) ht (show ¬ w.heap.size + 1 + 1 + 1 = w.heap.size by omega)
              obtain ⟨hc10, _⟩ := tcell ht
              have hz10 := ht.size
              try simp only [World.size_alloc] at hz10
              have zbA10 : v4.heap.size < v10.heap.size := by omega
              have nbA10 : v4.heap.size ≠ w.heap.size := by omega
              have zbB10 : v5.heap.size < v10.heap.size := by omega
              have nbB10 : v5.heap.size ≠ w.heap.size := by omega
              have zbC10 : v6.heap.size < v10.heap.size := by omega
              have nbC10 : v6.heap.size ≠ w.heap.size := by omega
              have zbD10 : v7.heap.size < v10.heap.size := by omega
              have nbD10 : v7.heap.size ≠ w.heap.size := by omega
              have zbE10 : v8.heap.size < v10.heap.size := by omega
              have nbE10 : v8.heap.size ≠ w.heap.size := by omega
              clear ht hT09 hT19 hT29 hT39
              rw [← HE.out] at hT010
              go_wp2_with fail
              refine (awake_true _).mono ?_
              rintro e v11 ⟨rfl, hb⟩
              have hB11' := b_then (w := w) hB10' hb
              have hT011 := hT010.below hb
              have hT111 := hT110.below hb
              have hT211 := hT210.below hb
              have hT311 := hT310.below hb
              obtain ⟨hc11, _⟩ := bcell hb
              have hz11 := hb.size
              try simp only [World.size_alloc] at hz11
              have zbA11 : v4.heap.size < v11.heap.size := by omega
              have zbB11 : v5.heap.size < v11.heap.size := by omega
              have zbC11 : v6.heap.size < v11.heap.size := by omega
              have zbD11 : v7.heap.size < v11.heap.size := by omega
              have zbE11 : v8.heap.size < v11.heap.size := by omega
              clear hb hT010 hT110 hT210 hT310
              go_wp2_with fail
              all_goals
                refine (lines_any hT011).mono ?_
                rintro e vl ⟨v, rfl, hbl, hrl⟩
                obtain ⟨Al, cl, rfl⟩ := row_form hrl
                rw [G6.out]
                go_wp2
                go_returns
                exact ⟨rfl, b_then hB11' hbl⟩
          | true =>
            by_cases ht : zt = a1
            · obtain rfl : b = zg := g5 rfl ht
              have HT := Lib.hid ht
              clear ht g5
              go_wp2_with fail
              refine (page_any hA10 a1 a2).mono ?_
              rintro e v1 ⟨rfl, ht, hT11⟩
              have hB1' := Below.touch hB0 ht (Nat.le_refl _) (fun k e => by omega)
              have hT01 := TlbAt.touch hA00 ht (show ¬ w.heap.size = w.heap.size + 1 by omega)
              have hT21 := TlbAt.touch hA20 ht (show ¬ w.heap.size + 1 + 1 = w.heap.size + 1 by omega)
              have hT31 := TlbAt.touch hA30 ht (show ¬ w.heap.size + 1 + 1 + 1 = w.heap.size + 1 by omega)
              obtain ⟨hc1, _⟩ := tcell ht
              have hz1 := ht.size
              try simp only [World.size_alloc] at hz1
              clear ht hA00 hA10 hA20 hA30
              rw [← HU.out] at hT11
              go_wp2_with fail
              refine (tag_any hT21 a1).mono ?_
              rintro e v2 ⟨rfl, ht, hT22⟩
              have hB2' := Below.touch hB1' ht (Nat.le_refl _) (fun k e => by omega)
              have hT02 := TlbAt.touch hT01 ht (show ¬ w.heap.size = w.heap.size + 1 + 1 by omega)
              have hT12 := TlbAt.touch hT11 ht (show ¬ w.heap.size + 1 = w.heap.size + 1 + 1 by omega)
              have hT32 := TlbAt.touch hT31 ht (show ¬ w.heap.size + 1 + 1 + 1 = w.heap.size + 1 + 1 by omega)
              obtain ⟨hc2, _⟩ := tcell ht
              have hz2 := ht.size
              try simp only [World.size_alloc] at hz2
              clear ht hT01 hT11 hT21 hT31
              rw [← HV.out] at hT22
              go_wp2_with fail
              refine (all_any hT32 true).mono ?_
              rintro e v3 ⟨rfl, ht, hT33⟩
              have hB3' := Below.touch hB2' ht (Nat.le_refl _) (fun k e => by omega)
              have hT03 := TlbAt.touch hT02 ht (show ¬ w.heap.size = w.heap.size + 1 + 1 + 1 by omega)
              have hT13 := TlbAt.touch hT12 ht (show ¬ w.heap.size + 1 = w.heap.size + 1 + 1 + 1 by omega)
              have hT23 := TlbAt.touch hT22 ht (show ¬ w.heap.size + 1 + 1 = w.heap.size + 1 + 1 + 1 by omega)
              obtain ⟨hc3, _⟩ := tcell ht
              have hz3 := ht.size
              try simp only [World.size_alloc] at hz3
              clear ht hT02 hT12 hT22 hT32
              rw [← HX.out] at hT33
              go_wp2_with fail
              refine (find_any hT13 a1 a2).mono ?_
              rw [HFU.out]
              rintro e v4 ⟨rfl, hb⟩
              have hB4' := b_then (w := w) hB3' hb
              have hT04 := hT03.below hb
              have hT14 := hT13.below hb
              have hT24 := hT23.below hb
              have hT34 := hT33.below hb
              obtain ⟨hc4, _⟩ := bcell hb
              have hz4 := hb.size
              try simp only [World.size_alloc] at hz4
              clear hb hT03 hT13 hT23 hT33
              go_wp2_with fail
              refine (find_any (hT24.below (by go_grown)) a1 a3).mono ?_
              rw [HFX.out]
              rintro e v5 ⟨rfl, hb⟩
              have hB5' := b_then (w := w) (b_then (w := w) hB4' (by go_grown)) hb
              have hT05 := hT04.below (b_then (by go_grown) hb)
              have hT15 := hT14.below (b_then (by go_grown) hb)
              have hT25 := hT24.below (b_then (by go_grown) hb)
              have hT35 := hT34.below (b_then (by go_grown) hb)
              obtain ⟨hc5, _⟩ := bcell hb
              have hz5 := hb.size
              try simp only [World.size_alloc] at hz5
              have zbA5 : v4.heap.size < v5.heap.size := by omega
              clear hb hT04 hT14 hT24 hT34
              go_wp2_with fail
              refine (find_any (hT35.below (by go_grown)) a1 a3).mono ?_
              rw [HFY.out]
              rintro e v6 ⟨rfl, hb⟩
              have hB6' := b_then (w := w) (b_then (w := w) hB5' (by go_grown)) hb
              have hT06 := hT05.below (b_then (by go_grown) hb)
              have hT16 := hT15.below (b_then (by go_grown) hb)
              have hT26 := hT25.below (b_then (by go_grown) hb)
              have hT36 := hT35.below (b_then (by go_grown) hb)
              obtain ⟨hc6, _⟩ := bcell hb
              have hz6 := hb.size
              try simp only [World.size_alloc] at hz6
              have zbA6 : v4.heap.size < v6.heap.size := by omega
              have zbB6 : v5.heap.size < v6.heap.size := by omega
              clear hb hT05 hT15 hT25 hT35
              go_upto_region 15 with fail
              go_cut [96] (fun s96 wx => s96 = .bool false ∧ wx = v6.alloc (.cells #[.bool yv, .int .i64 yt, .int .i64 yp, .int .i64 yf, .bool yw, .bool yu, .bool ye, .bool yg, .bool yd] 25))
              case first =>
                cases b <;> cases c
                · go_wp2_with fail; go_meet; exact ⟨rfl, rfl⟩
                · obtain rfl : yg = true := G3.out rfl; go_wp2_with fail; go_meet; exact ⟨rfl, rfl⟩
                · obtain rfl : xg = true := G2.out rfl; go_wp2_with fail; go_meet; exact ⟨rfl, rfl⟩
                · obtain rfl : xg = true := G2.out rfl; obtain rfl : yg = true := G3.out rfl; go_wp2_with fail; go_meet; exact ⟨rfl, rfl⟩
              case rest =>
                obtain ⟨rfl, rfl⟩ := hcut
                go_wp2_with fail
                refine (find_any (hT06.below (by go_grown)) a1 a3).mono ?_
                rw [HFZ.out]
                rintro e v7 ⟨rfl, hb⟩
                have hB7' := b_then (w := w) (b_then (w := w) hB6' (by go_grown)) hb
                have hT07 := hT06.below (b_then (by go_grown) hb)
                have hT17 := hT16.below (b_then (by go_grown) hb)
                have hT27 := hT26.below (b_then (by go_grown) hb)
                have hT37 := hT36.below (b_then (by go_grown) hb)
                obtain ⟨hc7, _⟩ := bcell hb
                have hz7 := hb.size
                try simp only [World.size_alloc] at hz7
                have zbA7 : v4.heap.size < v7.heap.size := by omega
                have zbB7 : v5.heap.size < v7.heap.size := by omega
                have zbC7 : v6.heap.size < v7.heap.size := by omega
                clear hb hT06 hT16 hT26 hT36
                go_wp2_with fail
                refine (find_any (hT17.below (by go_grown)) a1 a3).mono ?_
                rw [HFQ.out]
                rintro e v8 ⟨rfl, hb⟩
                have hB8' := b_then (w := w) (b_then (w := w) hB7' (by go_grown)) hb
                have hT08 := hT07.below (b_then (by go_grown) hb)
                have hT18 := hT17.below (b_then (by go_grown) hb)
                have hT28 := hT27.below (b_then (by go_grown) hb)
                have hT38 := hT37.below (b_then (by go_grown) hb)
                obtain ⟨hc8, _⟩ := bcell hb
                have hz8 := hb.size
                try simp only [World.size_alloc] at hz8
                have zbA8 : v4.heap.size < v8.heap.size := by omega
                have zbB8 : v5.heap.size < v8.heap.size := by omega
                have zbC8 : v6.heap.size < v8.heap.size := by omega
                have zbD8 : v7.heap.size < v8.heap.size := by omega
                clear hb hT07 hT17 hT27 hT37
                go_wp2_with fail
                refine (find_any (hT28.below (by go_grown)) a1 a3).mono ?_
                rw [HFX.out]
                rintro e v9 ⟨rfl, hb⟩
                have hB9' := b_then (w := w) (b_then (w := w) hB8' (by go_grown)) hb
                have hT09 := hT08.below (b_then (by go_grown) hb)
                have hT19 := hT18.below (b_then (by go_grown) hb)
                have hT29 := hT28.below (b_then (by go_grown) hb)
                have hT39 := hT38.below (b_then (by go_grown) hb)
                obtain ⟨hc9, _⟩ := bcell hb
                have hz9 := hb.size
                try simp only [World.size_alloc] at hz9
                have zbA9 : v4.heap.size < v9.heap.size := by omega
                have zbB9 : v5.heap.size < v9.heap.size := by omega
                have zbC9 : v6.heap.size < v9.heap.size := by omega
                have zbD9 : v7.heap.size < v9.heap.size := by omega
                have zbE9 : v8.heap.size < v9.heap.size := by omega
                clear hb hT08 hT18 hT28 hT38
                go_wp2_with fail
                refine (all_any (hT09.below (by go_grown)) false).mono ?_
                rintro e v10 ⟨rfl, ht, hT010⟩
                have hB10' := Below.touch (b_then (w := w) hB9' (by go_grown)) ht (Nat.le_refl _) (fun k e => by omega)
                have hT110 := TlbAt.touch (hT19.below (by go_grown)) ht (show ¬ w.heap.size + 1 = w.heap.size by omega)
                have hT210 := TlbAt.touch (hT29.below (by go_grown)) ht (show ¬ w.heap.size + 1 + 1 = w.heap.size by omega)
                have hT310 := TlbAt.touch (hT39.below (by go_grown)) ht (show ¬ w.heap.size + 1 + 1 + 1 = w.heap.size by omega)
                obtain ⟨hc10, _⟩ := tcell ht
                have hz10 := ht.size
                try simp only [World.size_alloc] at hz10
                have zbA10 : v4.heap.size < v10.heap.size := by omega
                have nbA10 : v4.heap.size ≠ w.heap.size := by omega
                have zbB10 : v5.heap.size < v10.heap.size := by omega
                have nbB10 : v5.heap.size ≠ w.heap.size := by omega
                have zbC10 : v6.heap.size < v10.heap.size := by omega
                have nbC10 : v6.heap.size ≠ w.heap.size := by omega
                have zbD10 : v7.heap.size < v10.heap.size := by omega
                have nbD10 : v7.heap.size ≠ w.heap.size := by omega
                have zbE10 : v8.heap.size < v10.heap.size := by omega
                have nbE10 : v8.heap.size ≠ w.heap.size := by omega
                clear ht hT09 hT19 hT29 hT39
                rw [← HE.out] at hT010
                go_wp2_with fail
                refine (awake_true _).mono ?_
                rintro e v11 ⟨rfl, hb⟩
                have hB11' := b_then (w := w) hB10' hb
                have hT011 := hT010.below hb
                have hT111 := hT110.below hb
                have hT211 := hT210.below hb
                have hT311 := hT310.below hb
                obtain ⟨hc11, _⟩ := bcell hb
                have hz11 := hb.size
                try simp only [World.size_alloc] at hz11
                have zbA11 : v4.heap.size < v11.heap.size := by omega
                have zbB11 : v5.heap.size < v11.heap.size := by omega
                have zbC11 : v6.heap.size < v11.heap.size := by omega
                have zbD11 : v7.heap.size < v11.heap.size := by omega
                have zbE11 : v8.heap.size < v11.heap.size := by omega
                clear hb hT010 hT110 hT210 hT310
                go_wp2_with fail
                all_goals
                  refine (lines_any hT011).mono ?_
                  rintro e vl ⟨v, rfl, hbl, hrl⟩
                  obtain ⟨Al, cl, rfl⟩ := row_form hrl
                  rw [G6.out]
                  go_wp2
                  go_returns
                  exact ⟨rfl, b_then hB11' hbl⟩
            · have ez : (zt != a1) = true := by simp [ht]
              clear ht g5
              go_wp2_with fail
              refine (page_any hA10 a1 a2).mono ?_
              rintro e v1 ⟨rfl, ht, hT11⟩
              have hB1' := Below.touch hB0 ht (Nat.le_refl _) (fun k e => by omega)
              have hT01 := TlbAt.touch hA00 ht (show ¬ w.heap.size = w.heap.size + 1 by omega)
              have hT21 := TlbAt.touch hA20 ht (show ¬ w.heap.size + 1 + 1 = w.heap.size + 1 by omega)
              have hT31 := TlbAt.touch hA30 ht (show ¬ w.heap.size + 1 + 1 + 1 = w.heap.size + 1 by omega)
              obtain ⟨hc1, _⟩ := tcell ht
              have hz1 := ht.size
              try simp only [World.size_alloc] at hz1
              clear ht hA00 hA10 hA20 hA30
              rw [← HU.out] at hT11
              go_wp2_with fail
              refine (tag_any hT21 a1).mono ?_
              rintro e v2 ⟨rfl, ht, hT22⟩
              have hB2' := Below.touch hB1' ht (Nat.le_refl _) (fun k e => by omega)
              have hT02 := TlbAt.touch hT01 ht (show ¬ w.heap.size = w.heap.size + 1 + 1 by omega)
              have hT12 := TlbAt.touch hT11 ht (show ¬ w.heap.size + 1 = w.heap.size + 1 + 1 by omega)
              have hT32 := TlbAt.touch hT31 ht (show ¬ w.heap.size + 1 + 1 + 1 = w.heap.size + 1 + 1 by omega)
              obtain ⟨hc2, _⟩ := tcell ht
              have hz2 := ht.size
              try simp only [World.size_alloc] at hz2
              clear ht hT01 hT11 hT21 hT31
              rw [← HV.out] at hT22
              go_wp2_with fail
              refine (all_any hT32 true).mono ?_
              rintro e v3 ⟨rfl, ht, hT33⟩
              have hB3' := Below.touch hB2' ht (Nat.le_refl _) (fun k e => by omega)
              have hT03 := TlbAt.touch hT02 ht (show ¬ w.heap.size = w.heap.size + 1 + 1 + 1 by omega)
              have hT13 := TlbAt.touch hT12 ht (show ¬ w.heap.size + 1 = w.heap.size + 1 + 1 + 1 by omega)
              have hT23 := TlbAt.touch hT22 ht (show ¬ w.heap.size + 1 + 1 = w.heap.size + 1 + 1 + 1 by omega)
              obtain ⟨hc3, _⟩ := tcell ht
              have hz3 := ht.size
              try simp only [World.size_alloc] at hz3
              clear ht hT02 hT12 hT22 hT32
              rw [← HX.out] at hT33
              go_wp2_with fail
              refine (find_any hT13 a1 a2).mono ?_
              rw [HFU.out]
              rintro e v4 ⟨rfl, hb⟩
              have hB4' := b_then (w := w) hB3' hb
              have hT04 := hT03.below hb
              have hT14 := hT13.below hb
              have hT24 := hT23.below hb
              have hT34 := hT33.below hb
              obtain ⟨hc4, _⟩ := bcell hb
              have hz4 := hb.size
              try simp only [World.size_alloc] at hz4
              clear hb hT03 hT13 hT23 hT33
              go_wp2_with fail
              refine (find_any (hT24.below (by go_grown)) a1 a3).mono ?_
              rw [HFX.out]
              rintro e v5 ⟨rfl, hb⟩
              have hB5' := b_then (w := w) (b_then (w := w) hB4' (by go_grown)) hb
              have hT05 := hT04.below (b_then (by go_grown) hb)
              have hT15 := hT14.below (b_then (by go_grown) hb)
              have hT25 := hT24.below (b_then (by go_grown) hb)
              have hT35 := hT34.below (b_then (by go_grown) hb)
              obtain ⟨hc5, _⟩ := bcell hb
              have hz5 := hb.size
              try simp only [World.size_alloc] at hz5
              have zbA5 : v4.heap.size < v5.heap.size := by omega
              clear hb hT04 hT14 hT24 hT34
              go_wp2_with fail
              refine (find_any (hT35.below (by go_grown)) a1 a3).mono ?_
              rw [HFY.out]
              rintro e v6 ⟨rfl, hb⟩
              have hB6' := b_then (w := w) (b_then (w := w) hB5' (by go_grown)) hb
              have hT06 := hT05.below (b_then (by go_grown) hb)
              have hT16 := hT15.below (b_then (by go_grown) hb)
              have hT26 := hT25.below (b_then (by go_grown) hb)
              have hT36 := hT35.below (b_then (by go_grown) hb)
              obtain ⟨hc6, _⟩ := bcell hb
              have hz6 := hb.size
              try simp only [World.size_alloc] at hz6
              have zbA6 : v4.heap.size < v6.heap.size := by omega
              have zbB6 : v5.heap.size < v6.heap.size := by omega
              clear hb hT05 hT15 hT25 hT35
              go_upto_region 15 with fail
              go_cut [96] (fun s96 wx => s96 = .bool false ∧ wx = v6.alloc (.cells #[.bool yv, .int .i64 yt, .int .i64 yp, .int .i64 yf, .bool yw, .bool yu, .bool ye, .bool yg, .bool yd] 25))
              case first =>
                cases b <;> cases c
                · go_wp2_with fail; go_meet; exact ⟨rfl, rfl⟩
                · obtain rfl : yg = true := G3.out rfl; go_wp2_with fail; go_meet; exact ⟨rfl, rfl⟩
                · obtain rfl : xg = true := G2.out rfl; go_wp2_with fail; go_meet; exact ⟨rfl, rfl⟩
                · obtain rfl : xg = true := G2.out rfl; obtain rfl : yg = true := G3.out rfl; go_wp2_with fail; go_meet; exact ⟨rfl, rfl⟩
              case rest =>
                obtain ⟨rfl, rfl⟩ := hcut
                go_wp2_with fail
                refine (find_any (hT06.below (by go_grown)) a1 a3).mono ?_
                rw [HFZ.out]
                rintro e v7 ⟨rfl, hb⟩
                have hB7' := b_then (w := w) (b_then (w := w) hB6' (by go_grown)) hb
                have hT07 := hT06.below (b_then (by go_grown) hb)
                have hT17 := hT16.below (b_then (by go_grown) hb)
                have hT27 := hT26.below (b_then (by go_grown) hb)
                have hT37 := hT36.below (b_then (by go_grown) hb)
                obtain ⟨hc7, _⟩ := bcell hb
                have hz7 := hb.size
                try simp only [World.size_alloc] at hz7
                have zbA7 : v4.heap.size < v7.heap.size := by omega
                have zbB7 : v5.heap.size < v7.heap.size := by omega
                have zbC7 : v6.heap.size < v7.heap.size := by omega
                clear hb hT06 hT16 hT26 hT36
                go_wp2_with fail
                refine (find_any (hT17.below (by go_grown)) a1 a3).mono ?_
                rw [HFQ.out]
                rintro e v8 ⟨rfl, hb⟩
                have hB8' := b_then (w := w) (b_then (w := w) hB7' (by go_grown)) hb
                have hT08 := hT07.below (b_then (by go_grown) hb)
                have hT18 := hT17.below (b_then (by go_grown) hb)
                have hT28 := hT27.below (b_then (by go_grown) hb)
                have hT38 := hT37.below (b_then (by go_grown) hb)
                obtain ⟨hc8, _⟩ := bcell hb
                have hz8 := hb.size
                try simp only [World.size_alloc] at hz8
                have zbA8 : v4.heap.size < v8.heap.size := by omega
                have zbB8 : v5.heap.size < v8.heap.size := by omega
                have zbC8 : v6.heap.size < v8.heap.size := by omega
                have zbD8 : v7.heap.size < v8.heap.size := by omega
                clear hb hT07 hT17 hT27 hT37
                go_wp2_with fail
                refine (find_any (hT28.below (by go_grown)) a1 a3).mono ?_
                rw [HFX.out]
                rintro e v9 ⟨rfl, hb⟩
                have hB9' := b_then (w := w) (b_then (w := w) hB8' (by go_grown)) hb
                have hT09 := hT08.below (b_then (by go_grown) hb)
                have hT19 := hT18.below (b_then (by go_grown) hb)
                have hT29 := hT28.below (b_then (by go_grown) hb)
                have hT39 := hT38.below (b_then (by go_grown) hb)
                obtain ⟨hc9, _⟩ := bcell hb
                have hz9 := hb.size
                try simp only [World.size_alloc] at hz9
                have zbA9 : v4.heap.size < v9.heap.size := by omega
                have zbB9 : v5.heap.size < v9.heap.size := by omega
                have zbC9 : v6.heap.size < v9.heap.size := by omega
                have zbD9 : v7.heap.size < v9.heap.size := by omega
                have zbE9 : v8.heap.size < v9.heap.size := by omega
                clear hb hT08 hT18 hT28 hT38
                go_wp2_with fail
                refine (all_any (hT09.below (by go_grown)) false).mono ?_
                rintro e v10 ⟨rfl, ht, hT010⟩
                have hB10' := Below.touch (b_then (w := w) hB9' (by go_grown)) ht (Nat.le_refl _) (fun k e => by omega)
                have hT110 := TlbAt.touch (hT19.below (by go_grown)) ht (show ¬ w.heap.size + 1 = w.heap.size by omega)
                have hT210 := TlbAt.touch (hT29.below (by go_grown)) ht (show ¬ w.heap.size + 1 + 1 = w.heap.size by omega)
                have hT310 := TlbAt.touch (hT39.below (by go_grown)) ht (show ¬ w.heap.size + 1 + 1 + 1 = w.heap.size by omega)
                obtain ⟨hc10, _⟩ := tcell ht
                have hz10 := ht.size
                try simp only [World.size_alloc] at hz10
                have zbA10 : v4.heap.size < v10.heap.size := by omega
                have nbA10 : v4.heap.size ≠ w.heap.size := by omega
                have zbB10 : v5.heap.size < v10.heap.size := by omega
                have nbB10 : v5.heap.size ≠ w.heap.size := by omega
                have zbC10 : v6.heap.size < v10.heap.size := by omega
                have nbC10 : v6.heap.size ≠ w.heap.size := by omega
                have zbD10 : v7.heap.size < v10.heap.size := by omega
                have nbD10 : v7.heap.size ≠ w.heap.size := by omega
                have zbE10 : v8.heap.size < v10.heap.size := by omega
                have nbE10 : v8.heap.size ≠ w.heap.size := by omega
                clear ht hT09 hT19 hT29 hT39
                rw [← HE.out] at hT010
                go_wp2_with fail
                refine (awake_true _).mono ?_
                rintro e v11 ⟨rfl, hb⟩
                have hB11' := b_then (w := w) hB10' hb
                have hT011 := hT010.below hb
                have hT111 := hT110.below hb
                have hT211 := hT210.below hb
                have hT311 := hT310.below hb
                obtain ⟨hc11, _⟩ := bcell hb
                have hz11 := hb.size
                try simp only [World.size_alloc] at hz11
                have zbA11 : v4.heap.size < v11.heap.size := by omega
                have zbB11 : v5.heap.size < v11.heap.size := by omega
                have zbC11 : v6.heap.size < v11.heap.size := by omega
                have zbD11 : v7.heap.size < v11.heap.size := by omega
                have zbE11 : v8.heap.size < v11.heap.size := by omega
                clear hb hT010 hT110 hT210 hT310
                go_wp2_with fail
                all_goals
                  refine (lines_any hT011).mono ?_
                  rintro e vl ⟨v, rfl, hbl, hrl⟩
                  obtain ⟨Al, cl, rfl⟩ := row_form hrl
                  rw [G6.out]
                  go_wp2
                  go_returns
                  exact ⟨rfl, b_then hB11' hbl⟩
        · have EB : (a3 == a2) = false := by simp [hne]
          have HFQ2 := Lib.hid ((G4.out hne).trans HFZ.out)
          clear hne
          cases d with
          | false =>
            clear g5
            go_wp2_with fail
            refine (page_any hA10 a1 a2).mono ?_
            rintro e v1 ⟨rfl, ht, hT11⟩
            have hB1' := Below.touch hB0 ht (Nat.le_refl _) (fun k e => by omega)
            have hT01 := TlbAt.touch hA00 ht (show ¬ w.heap.size = w.heap.size + 1 by omega)
            have hT21 := TlbAt.touch hA20 ht (show ¬ w.heap.size + 1 + 1 = w.heap.size + 1 by omega)
            have hT31 := TlbAt.touch hA30 ht (show ¬ w.heap.size + 1 + 1 + 1 = w.heap.size + 1 by omega)
            obtain ⟨hc1, _⟩ := tcell ht
            have hz1 := ht.size
            try simp only [World.size_alloc] at hz1
            clear ht hA00 hA10 hA20 hA30
            rw [← HU.out] at hT11
            go_wp2_with fail
            refine (tag_any hT21 a1).mono ?_
            rintro e v2 ⟨rfl, ht, hT22⟩
            have hB2' := Below.touch hB1' ht (Nat.le_refl _) (fun k e => by omega)
            have hT02 := TlbAt.touch hT01 ht (show ¬ w.heap.size = w.heap.size + 1 + 1 by omega)
            have hT12 := TlbAt.touch hT11 ht (show ¬ w.heap.size + 1 = w.heap.size + 1 + 1 by omega)
            have hT32 := TlbAt.touch hT31 ht (show ¬ w.heap.size + 1 + 1 + 1 = w.heap.size + 1 + 1 by omega)
            obtain ⟨hc2, _⟩ := tcell ht
            have hz2 := ht.size
            try simp only [World.size_alloc] at hz2
            clear ht hT01 hT11 hT21 hT31
            rw [← HV.out] at hT22
            go_wp2_with fail
            refine (all_any hT32 true).mono ?_
            rintro e v3 ⟨rfl, ht, hT33⟩
            have hB3' := Below.touch hB2' ht (Nat.le_refl _) (fun k e => by omega)
            have hT03 := TlbAt.touch hT02 ht (show ¬ w.heap.size = w.heap.size + 1 + 1 + 1 by omega)
            have hT13 := TlbAt.touch hT12 ht (show ¬ w.heap.size + 1 = w.heap.size + 1 + 1 + 1 by omega)
            have hT23 := TlbAt.touch hT22 ht (show ¬ w.heap.size + 1 + 1 = w.heap.size + 1 + 1 + 1 by omega)
            obtain ⟨hc3, _⟩ := tcell ht
            have hz3 := ht.size
            try simp only [World.size_alloc] at hz3
            clear ht hT02 hT12 hT22 hT32
            rw [← HX.out] at hT33
            go_wp2_with fail
            refine (find_any hT13 a1 a2).mono ?_
            rw [HFU.out]
            rintro e v4 ⟨rfl, hb⟩
            have hB4' := b_then (w := w) hB3' hb
            have hT04 := hT03.below hb
            have hT14 := hT13.below hb
            have hT24 := hT23.below hb
            have hT34 := hT33.below hb
            obtain ⟨hc4, _⟩ := bcell hb
            have hz4 := hb.size
            try simp only [World.size_alloc] at hz4
            clear hb hT03 hT13 hT23 hT33
            go_wp2_with fail
            refine (find_any (hT24.below (by go_grown)) a1 a3).mono ?_
            rw [HFX.out]
            rintro e v5 ⟨rfl, hb⟩
            have hB5' := b_then (w := w) (b_then (w := w) hB4' (by go_grown)) hb
            have hT05 := hT04.below (b_then (by go_grown) hb)
            have hT15 := hT14.below (b_then (by go_grown) hb)
            have hT25 := hT24.below (b_then (by go_grown) hb)
            have hT35 := hT34.below (b_then (by go_grown) hb)
            obtain ⟨hc5, _⟩ := bcell hb
            have hz5 := hb.size
            try simp only [World.size_alloc] at hz5
            have zbA5 : v4.heap.size < v5.heap.size := by omega
            clear hb hT04 hT14 hT24 hT34
            go_wp2_with fail
            refine (find_any (hT35.below (by go_grown)) a1 a3).mono ?_
            rw [HFY.out]
            rintro e v6 ⟨rfl, hb⟩
            have hB6' := b_then (w := w) (b_then (w := w) hB5' (by go_grown)) hb
            have hT06 := hT05.below (b_then (by go_grown) hb)
            have hT16 := hT15.below (b_then (by go_grown) hb)
            have hT26 := hT25.below (b_then (by go_grown) hb)
            have hT36 := hT35.below (b_then (by go_grown) hb)
            obtain ⟨hc6, _⟩ := bcell hb
            have hz6 := hb.size
            try simp only [World.size_alloc] at hz6
            have zbA6 : v4.heap.size < v6.heap.size := by omega
            have zbB6 : v5.heap.size < v6.heap.size := by omega
            clear hb hT05 hT15 hT25 hT35
            go_upto_region 15 with fail
            go_cut [96] (fun s96 wx => s96 = .bool false ∧ wx = v6.alloc (.cells #[.bool yv, .int .i64 yt, .int .i64 yp, .int .i64 yf, .bool yw, .bool yu, .bool ye, .bool yg, .bool yd] 25))
            case first =>
              cases b <;> cases c
              · go_wp2_with fail; go_meet; exact ⟨rfl, rfl⟩
              · obtain rfl : yg = true := G3.out rfl; go_wp2_with fail; go_meet; exact ⟨rfl, rfl⟩
              · obtain rfl : xg = true := G2.out rfl; go_wp2_with fail; go_meet; exact ⟨rfl, rfl⟩
              · obtain rfl : xg = true := G2.out rfl; obtain rfl : yg = true := G3.out rfl; go_wp2_with fail; go_meet; exact ⟨rfl, rfl⟩
            case rest =>
              obtain ⟨rfl, rfl⟩ := hcut
              go_wp2_with fail
              refine (find_any (hT06.below (by go_grown)) a1 a3).mono ?_
              rw [HFZ.out]
              rintro e v7 ⟨rfl, hb⟩
              have hB7' := b_then (w := w) (b_then (w := w) hB6' (by go_grown)) hb
              have hT07 := hT06.below (b_then (by go_grown) hb)
              have hT17 := hT16.below (b_then (by go_grown) hb)
              have hT27 := hT26.below (b_then (by go_grown) hb)
              have hT37 := hT36.below (b_then (by go_grown) hb)
              obtain ⟨hc7, _⟩ := bcell hb
              have hz7 := hb.size
              try simp only [World.size_alloc] at hz7
              have zbA7 : v4.heap.size < v7.heap.size := by omega
              have zbB7 : v5.heap.size < v7.heap.size := by omega
              have zbC7 : v6.heap.size < v7.heap.size := by omega
              clear hb hT06 hT16 hT26 hT36
              go_wp2_with fail
              refine (find_any (hT17.below (by go_grown)) a1 a3).mono ?_
              rw [HFQ2.out]
              rintro e v8 ⟨rfl, hb⟩
              have hB8' := b_then (w := w) (b_then (w := w) hB7' (by go_grown)) hb
              have hT08 := hT07.below (b_then (by go_grown) hb)
              have hT18 := hT17.below (b_then (by go_grown) hb)
              have hT28 := hT27.below (b_then (by go_grown) hb)
              have hT38 := hT37.below (b_then (by go_grown) hb)
              obtain ⟨hc8, _⟩ := bcell hb
              have hz8 := hb.size
              try simp only [World.size_alloc] at hz8
              have zbA8 : v4.heap.size < v8.heap.size := by omega
              have zbB8 : v5.heap.size < v8.heap.size := by omega
              have zbC8 : v6.heap.size < v8.heap.size := by omega
              have zbD8 : v7.heap.size < v8.heap.size := by omega
              clear hb hT07 hT17 hT27 hT37
              go_wp2_with fail
              refine (find_any (hT28.below (by go_grown)) a1 a3).mono ?_
              rw [HFX.out]
              rintro e v9 ⟨rfl, hb⟩
              have hB9' := b_then (w := w) (b_then (w := w) hB8' (by go_grown)) hb
              have hT09 := hT08.below (b_then (by go_grown) hb)
              have hT19 := hT18.below (b_then (by go_grown) hb)
              have hT29 := hT28.below (b_then (by go_grown) hb)
              have hT39 := hT38.below (b_then (by go_grown) hb)
              obtain ⟨hc9, _⟩ := bcell hb
              have hz9 := hb.size
              try simp only [World.size_alloc] at hz9
              have zbA9 : v4.heap.size < v9.heap.size := by omega
              have zbB9 : v5.heap.size < v9.heap.size := by omega
              have zbC9 : v6.heap.size < v9.heap.size := by omega
              have zbD9 : v7.heap.size < v9.heap.size := by omega
              have zbE9 : v8.heap.size < v9.heap.size := by omega
              clear hb hT08 hT18 hT28 hT38
              go_wp2_with fail
              refine (all_any (hT09.below (by go_grown)) false).mono ?_
              rintro e v10 ⟨rfl, ht, hT010⟩
              have hB10' := Below.touch (b_then (w := w) hB9' (by go_grown)) ht (Nat.le_refl _) (fun k e => by omega)
              have hT110 := TlbAt.touch (hT19.below (by go_grown)) ht (show ¬ w.heap.size + 1 = w.heap.size by omega)
              have hT210 := TlbAt.touch (hT29.below (by go_grown)) ht (show ¬ w.heap.size + 1 + 1 = w.heap.size by omega)
              have hT310 := TlbAt.touch (hT39.below (by go_grown)) ht (show ¬ w.heap.size + 1 + 1 + 1 = w.heap.size by omega)
              obtain ⟨hc10, _⟩ := tcell ht
              have hz10 := ht.size
              try simp only [World.size_alloc] at hz10
              have zbA10 : v4.heap.size < v10.heap.size := by omega
              have nbA10 : v4.heap.size ≠ w.heap.size := by omega
              have zbB10 : v5.heap.size < v10.heap.size := by omega
              have nbB10 : v5.heap.size ≠ w.heap.size := by omega
              have zbC10 : v6.heap.size < v10.heap.size := by omega
              have nbC10 : v6.heap.size ≠ w.heap.size := by omega
              have zbD10 : v7.heap.size < v10.heap.size := by omega
              have nbD10 : v7.heap.size ≠ w.heap.size := by omega
              have zbE10 : v8.heap.size < v10.heap.size := by omega
              have nbE10 : v8.heap.size ≠ w.heap.size := by omega
              clear ht hT09 hT19 hT29 hT39
              rw [← HE.out] at hT010
              go_wp2_with fail
              refine (awake_true _).mono ?_
              rintro e v11 ⟨rfl, hb⟩
              have hB11' := b_then (w := w) hB10' hb
              have hT011 := hT010.below hb
              have hT111 := hT110.below hb
              have hT211 := hT210.below hb
              have hT311 := hT310.below hb
              obtain ⟨hc11, _⟩ := bcell hb
              have hz11 := hb.size
              try simp only [World.size_alloc] at hz11
              have zbA11 : v4.heap.size < v11.heap.size := by omega
              have zbB11 : v5.heap.size < v11.heap.size := by omega
              have zbC11 : v6.heap.size < v11.heap.size := by omega
              have zbD11 : v7.heap.size < v11.heap.size := by omega
              have zbE11 : v8.heap.size < v11.heap.size := by omega
              clear hb hT010 hT110 hT210 hT310
              go_wp2_with fail
              all_goals
                refine (lines_any hT011).mono ?_
                rintro e vl ⟨v, rfl, hbl, hrl⟩
                obtain ⟨Al, cl, rfl⟩ := row_form hrl
                rw [G6.out]
                go_wp2
                go_returns
                exact ⟨rfl, b_then hB11' hbl⟩
          | true =>
            by_cases ht : zt = a1
            · obtain rfl : b = zg := g5 rfl ht
              have HT := Lib.hid ht
              clear ht g5
              go_wp2_with fail
              refine (page_any hA10 a1 a2).mono ?_
              rintro e v1 ⟨rfl, ht, hT11⟩
              have hB1' := Below.touch hB0 ht (Nat.le_refl _) (fun k e => by omega)
              have hT01 := TlbAt.touch hA00 ht (show ¬ w.heap.size = w.heap.size + 1 by omega)
              have hT21 := TlbAt.touch hA20 ht (show ¬ w.heap.size + 1 + 1 = w.heap.size + 1 by omega)
              have hT31 := TlbAt.touch hA30 ht (show ¬ w.heap.size + 1 + 1 + 1 = w.heap.size + 1 by omega)
              obtain ⟨hc1, _⟩ := tcell ht
              have hz1 := ht.size
              try simp only [World.size_alloc] at hz1
              clear ht hA00 hA10 hA20 hA30
              rw [← HU.out] at hT11
              go_wp2_with fail
              refine (tag_any hT21 a1).mono ?_
              rintro e v2 ⟨rfl, ht, hT22⟩
              have hB2' := Below.touch hB1' ht (Nat.le_refl _) (fun k e => by omega)
              have hT02 := TlbAt.touch hT01 ht (show ¬ w.heap.size = w.heap.size + 1 + 1 by omega)
              have hT12 := TlbAt.touch hT11 ht (show ¬ w.heap.size + 1 = w.heap.size + 1 + 1 by omega)
              have hT32 := TlbAt.touch hT31 ht (show ¬ w.heap.size + 1 + 1 + 1 = w.heap.size + 1 + 1 by omega)
              obtain ⟨hc2, _⟩ := tcell ht
              have hz2 := ht.size
              try simp only [World.size_alloc] at hz2
              clear ht hT01 hT11 hT21 hT31
              rw [← HV.out] at hT22
              go_wp2_with fail
              refine (all_any hT32 true).mono ?_
              rintro e v3 ⟨rfl, ht, hT33⟩
              have hB3' := Below.touch hB2' ht (Nat.le_refl _) (fun k e => by omega)
              have hT03 := TlbAt.touch hT02 ht (show ¬ w.heap.size = w.heap.size + 1 + 1 + 1 by omega)
              have hT13 := TlbAt.touch hT12 ht (show ¬ w.heap.size + 1 = w.heap.size + 1 + 1 + 1 by omega)
              have hT23 := TlbAt.touch hT22 ht (show ¬ w.heap.size + 1 + 1 = w.heap.size + 1 + 1 + 1 by omega)
              obtain ⟨hc3, _⟩ := tcell ht
              have hz3 := ht.size
              try simp only [World.size_alloc] at hz3
              clear ht hT02 hT12 hT22 hT32
              rw [← HX.out] at hT33
              go_wp2_with fail
              refine (find_any hT13 a1 a2).mono ?_
              rw [HFU.out]
              rintro e v4 ⟨rfl, hb⟩
              have hB4' := b_then (w := w) hB3' hb
              have hT04 := hT03.below hb
              have hT14 := hT13.below hb
              have hT24 := hT23.below hb
              have hT34 := hT33.below hb
              obtain ⟨hc4, _⟩ := bcell hb
              have hz4 := hb.size
              try simp only [World.size_alloc] at hz4
              clear hb hT03 hT13 hT23 hT33
              go_wp2_with fail
              refine (find_any (hT24.below (by go_grown)) a1 a3).mono ?_
              rw [HFX.out]
              rintro e v5 ⟨rfl, hb⟩
              have hB5' := b_then (w := w) (b_then (w := w) hB4' (by go_grown)) hb
              have hT05 := hT04.below (b_then (by go_grown) hb)
              have hT15 := hT14.below (b_then (by go_grown) hb)
              have hT25 := hT24.below (b_then (by go_grown) hb)
              have hT35 := hT34.below (b_then (by go_grown) hb)
              obtain ⟨hc5, _⟩ := bcell hb
              have hz5 := hb.size
              try simp only [World.size_alloc] at hz5
              have zbA5 : v4.heap.size < v5.heap.size := by omega
              clear hb hT04 hT14 hT24 hT34
              go_wp2_with fail
              refine (find_any (hT35.below (by go_grown)) a1 a3).mono ?_
              rw [HFY.out]
              rintro e v6 ⟨rfl, hb⟩
              have hB6' := b_then (w := w) (b_then (w := w) hB5' (by go_grown)) hb
              have hT06 := hT05.below (b_then (by go_grown) hb)
              have hT16 := hT15.below (b_then (by go_grown) hb)
              have hT26 := hT25.below (b_then (by go_grown) hb)
              have hT36 := hT35.below (b_then (by go_grown) hb)
              obtain ⟨hc6, _⟩ := bcell hb
              have hz6 := hb.size
              try simp only [World.size_alloc] at hz6
              have zbA6 : v4.heap.size < v6.heap.size := by omega
              have zbB6 : v5.heap.size < v6.heap.size := by omega
              clear hb hT05 hT15 hT25 hT35
              go_upto_region 15 with fail
              go_cut [96] (fun s96 wx => s96 = .bool false ∧ wx = v6.alloc (.cells #[.bool yv, .int .i64 yt, .int .i64 yp, .int .i64 yf, .bool yw, .bool yu, .bool ye, .bool yg, .bool yd] 25))
              case first =>
                cases b <;> cases c
                · go_wp2_with fail; go_meet; exact ⟨rfl, rfl⟩
                · obtain rfl : yg = true := G3.out rfl; go_wp2_with fail; go_meet; exact ⟨rfl, rfl⟩
                · obtain rfl : xg = true := G2.out rfl; go_wp2_with fail; go_meet; exact ⟨rfl, rfl⟩
                · obtain rfl : xg = true := G2.out rfl; obtain rfl : yg = true := G3.out rfl; go_wp2_with fail; go_meet; exact ⟨rfl, rfl⟩
              case rest =>
                obtain ⟨rfl, rfl⟩ := hcut
                go_wp2_with fail
                refine (find_any (hT06.below (by go_grown)) a1 a3).mono ?_
                rw [HFZ.out]
                rintro e v7 ⟨rfl, hb⟩
                have hB7' := b_then (w := w) (b_then (w := w) hB6' (by go_grown)) hb
                have hT07 := hT06.below (b_then (by go_grown) hb)
                have hT17 := hT16.below (b_then (by go_grown) hb)
                have hT27 := hT26.below (b_then (by go_grown) hb)
                have hT37 := hT36.below (b_then (by go_grown) hb)
                obtain ⟨hc7, _⟩ := bcell hb
                have hz7 := hb.size
                try simp only [World.size_alloc] at hz7
                have zbA7 : v4.heap.size < v7.heap.size := by omega
                have zbB7 : v5.heap.size < v7.heap.size := by omega
                have zbC7 : v6.heap.size < v7.heap.size := by omega
                clear hb hT06 hT16 hT26 hT36
                go_wp2_with fail
                refine (find_any (hT17.below (by go_grown)) a1 a3).mono ?_
                rw [HFQ2.out]
                rintro e v8 ⟨rfl, hb⟩
                have hB8' := b_then (w := w) (b_then (w := w) hB7' (by go_grown)) hb
                have hT08 := hT07.below (b_then (by go_grown) hb)
                have hT18 := hT17.below (b_then (by go_grown) hb)
                have hT28 := hT27.below (b_then (by go_grown) hb)
                have hT38 := hT37.below (b_then (by go_grown) hb)
                obtain ⟨hc8, _⟩ := bcell hb
                have hz8 := hb.size
                try simp only [World.size_alloc] at hz8
                have zbA8 : v4.heap.size < v8.heap.size := by omega
                have zbB8 : v5.heap.size < v8.heap.size := by omega
                have zbC8 : v6.heap.size < v8.heap.size := by omega
                have zbD8 : v7.heap.size < v8.heap.size := by omega
                clear hb hT07 hT17 hT27 hT37
                go_wp2_with fail
                refine (find_any (hT28.below (by go_grown)) a1 a3).mono ?_
                rw [HFX.out]
                rintro e v9 ⟨rfl, hb⟩
                have hB9' := b_then (w := w) (b_then (w := w) hB8' (by go_grown)) hb
                have hT09 := hT08.below (b_then (by go_grown) hb)
                have hT19 := hT18.below (b_then (by go_grown) hb)
                have hT29 := hT28.below (b_then (by go_grown) hb)
                have hT39 := hT38.below (b_then (by go_grown) hb)
                obtain ⟨hc9, _⟩ := bcell hb
                have hz9 := hb.size
                try simp only [World.size_alloc] at hz9
                have zbA9 : v4.heap.size < v9.heap.size := by omega
                have zbB9 : v5.heap.size < v9.heap.size := by omega
                have zbC9 : v6.heap.size < v9.heap.size := by omega
                have zbD9 : v7.heap.size < v9.heap.size := by omega
                have zbE9 : v8.heap.size < v9.heap.size := by omega
                clear hb hT08 hT18 hT28 hT38
                go_wp2_with fail
                refine (all_any (hT09.below (by go_grown)) false).mono ?_
                rintro e v10 ⟨rfl, ht, hT010⟩
                have hB10' := Below.touch (b_then (w := w) hB9' (by go_grown)) ht (Nat.le_refl _) (fun k e => by omega)
                have hT110 := TlbAt.touch (hT19.below (by go_grown)) ht (show ¬ w.heap.size + 1 = w.heap.size by omega)
                have hT210 := TlbAt.touch (hT29.below (by go_grown)) ht (show ¬ w.heap.size + 1 + 1 = w.heap.size by omega)
                have hT310 := TlbAt.touch (hT39.below (by go_grown)) ht (show ¬ w.heap.size + 1 + 1 + 1 = w.heap.size by omega)
                obtain ⟨hc10, _⟩ := tcell ht
                have hz10 := ht.size
                try simp only [World.size_alloc] at hz10
                have zbA10 : v4.heap.size < v10.heap.size := by omega
                have nbA10 : v4.heap.size ≠ w.heap.size := by omega
                have zbB10 : v5.heap.size < v10.heap.size := by omega
                have nbB10 : v5.heap.size ≠ w.heap.size := by omega
                have zbC10 : v6.heap.size < v10.heap.size := by omega
                have nbC10 : v6.heap.size ≠ w.heap.size := by omega
                have zbD10 : v7.heap.size < v10.heap.size := by omega
                have nbD10 : v7.heap.size ≠ w.heap.size := by omega
                have zbE10 : v8.heap.size < v10.heap.size := by omega
                have nbE10 : v8.heap.size ≠ w.heap.size := by omega
                clear ht hT09 hT19 hT29 hT39
                rw [← HE.out] at hT010
                go_wp2_with fail
                refine (awake_true _).mono ?_
                rintro e v11 ⟨rfl, hb⟩
                have hB11' := b_then (w := w) hB10' hb
                have hT011 := hT010.below hb
                have hT111 := hT110.below hb
                have hT211 := hT210.below hb
                have hT311 := hT310.below hb
                obtain ⟨hc11, _⟩ := bcell hb
                have hz11 := hb.size
                try simp only [World.size_alloc] at hz11
                have zbA11 : v4.heap.size < v11.heap.size := by omega
                have zbB11 : v5.heap.size < v11.heap.size := by omega
                have zbC11 : v6.heap.size < v11.heap.size := by omega
                have zbD11 : v7.heap.size < v11.heap.size := by omega
                have zbE11 : v8.heap.size < v11.heap.size := by omega
                clear hb hT010 hT110 hT210 hT310
                go_wp2_with fail
                all_goals
                  refine (lines_any hT011).mono ?_
                  rintro e vl ⟨v, rfl, hbl, hrl⟩
                  obtain ⟨Al, cl, rfl⟩ := row_form hrl
                  rw [G6.out]
                  go_wp2
                  go_returns
                  exact ⟨rfl, b_then hB11' hbl⟩
            · have ez : (zt != a1) = true := by simp [ht]
              clear ht g5
              go_wp2_with fail
              refine (page_any hA10 a1 a2).mono ?_
              rintro e v1 ⟨rfl, ht, hT11⟩
              have hB1' := Below.touch hB0 ht (Nat.le_refl _) (fun k e => by omega)
              have hT01 := TlbAt.touch hA00 ht (show ¬ w.heap.size = w.heap.size + 1 by omega)
              have hT21 := TlbAt.touch hA20 ht (show ¬ w.heap.size + 1 + 1 = w.heap.size + 1 by omega)
              have hT31 := TlbAt.touch hA30 ht (show ¬ w.heap.size + 1 + 1 + 1 = w.heap.size + 1 by omega)
              obtain ⟨hc1, _⟩ := tcell ht
              have hz1 := ht.size
              try simp only [World.size_alloc] at hz1
              clear ht hA00 hA10 hA20 hA30
              rw [← HU.out] at hT11
              go_wp2_with fail
              refine (tag_any hT21 a1).mono ?_
              rintro e v2 ⟨rfl, ht, hT22⟩
              have hB2' := Below.touch hB1' ht (Nat.le_refl _) (fun k e => by omega)
              have hT02 := TlbAt.touch hT01 ht (show ¬ w.heap.size = w.heap.size + 1 + 1 by omega)
              have hT12 := TlbAt.touch hT11 ht (show ¬ w.heap.size + 1 = w.heap.size + 1 + 1 by omega)
              have hT32 := TlbAt.touch hT31 ht (show ¬ w.heap.size + 1 + 1 + 1 = w.heap.size + 1 + 1 by omega)
              obtain ⟨hc2, _⟩ := tcell ht
              have hz2 := ht.size
              try simp only [World.size_alloc] at hz2
              clear ht hT01 hT11 hT21 hT31
              rw [← HV.out] at hT22
              go_wp2_with fail
              refine (all_any hT32 true).mono ?_
              rintro e v3 ⟨rfl, ht, hT33⟩
              have hB3' := Below.touch hB2' ht (Nat.le_refl _) (fun k e => by omega)
              have hT03 := TlbAt.touch hT02 ht (show ¬ w.heap.size = w.heap.size + 1 + 1 + 1 by omega)
              have hT13 := TlbAt.touch hT12 ht (show ¬ w.heap.size + 1 = w.heap.size + 1 + 1 + 1 by omega)
              have hT23 := TlbAt.touch hT22 ht (show ¬ w.heap.size + 1 + 1 = w.heap.size + 1 + 1 + 1 by omega)
              obtain ⟨hc3, _⟩ := tcell ht
              have hz3 := ht.size
              try simp only [World.size_alloc] at hz3
              clear ht hT02 hT12 hT22 hT32
              rw [← HX.out] at hT33
              go_wp2_with fail
              refine (find_any hT13 a1 a2).mono ?_
              rw [HFU.out]
              rintro e v4 ⟨rfl, hb⟩
              have hB4' := b_then (w := w) hB3' hb
              have hT04 := hT03.below hb
              have hT14 := hT13.below hb
              have hT24 := hT23.below hb
              have hT34 := hT33.below hb
              obtain ⟨hc4, _⟩ := bcell hb
              have hz4 := hb.size
              try simp only [World.size_alloc] at hz4
              clear hb hT03 hT13 hT23 hT33
              go_wp2_with fail
              refine (find_any (hT24.below (by go_grown)) a1 a3).mono ?_
              rw [HFX.out]
              rintro e v5 ⟨rfl, hb⟩
              have hB5' := b_then (w := w) (b_then (w := w) hB4' (by go_grown)) hb
              have hT05 := hT04.below (b_then (by go_grown) hb)
              have hT15 := hT14.below (b_then (by go_grown) hb)
              have hT25 := hT24.below (b_then (by go_grown) hb)
              have hT35 := hT34.below (b_then (by go_grown) hb)
              obtain ⟨hc5, _⟩ := bcell hb
              have hz5 := hb.size
              try simp only [World.size_alloc] at hz5
              have zbA5 : v4.heap.size < v5.heap.size := by omega
              clear hb hT04 hT14 hT24 hT34
              go_wp2_with fail
              refine (find_any (hT35.below (by go_grown)) a1 a3).mono ?_
              rw [HFY.out]
              rintro e v6 ⟨rfl, hb⟩
              have hB6' := b_then (w := w) (b_then (w := w) hB5' (by go_grown)) hb
              have hT06 := hT05.below (b_then (by go_grown) hb)
              have hT16 := hT15.below (b_then (by go_grown) hb)
              have hT26 := hT25.below (b_then (by go_grown) hb)
              have hT36 := hT35.below (b_then (by go_grown) hb)
              obtain ⟨hc6, _⟩ := bcell hb
              have hz6 := hb.size
              try simp only [World.size_alloc] at hz6
              have zbA6 : v4.heap.size < v6.heap.size := by omega
              have zbB6 : v5.heap.size < v6.heap.size := by omega
              clear hb hT05 hT15 hT25 hT35
              go_upto_region 15 with fail
              go_cut [96] (fun s96 wx => s96 = .bool false ∧ wx = v6.alloc (.cells #[.bool yv, .int .i64 yt, .int .i64 yp, .int .i64 yf, .bool yw, .bool yu, .bool ye, .bool yg, .bool yd] 25))
              case first =>
                cases b <;> cases c
                · go_wp2_with fail; go_meet; exact ⟨rfl, rfl⟩
                · obtain rfl : yg = true := G3.out rfl; go_wp2_with fail; go_meet; exact ⟨rfl, rfl⟩
                · obtain rfl : xg = true := G2.out rfl; go_wp2_with fail; go_meet; exact ⟨rfl, rfl⟩
                · obtain rfl : xg = true := G2.out rfl; obtain rfl : yg = true := G3.out rfl; go_wp2_with fail; go_meet; exact ⟨rfl, rfl⟩
              case rest =>
                obtain ⟨rfl, rfl⟩ := hcut
                go_wp2_with fail
                refine (find_any (hT06.below (by go_grown)) a1 a3).mono ?_
                rw [HFZ.out]
                rintro e v7 ⟨rfl, hb⟩
                have hB7' := b_then (w := w) (b_then (w := w) hB6' (by go_grown)) hb
                have hT07 := hT06.below (b_then (by go_grown) hb)
                have hT17 := hT16.below (b_then (by go_grown) hb)
                have hT27 := hT26.below (b_then (by go_grown) hb)
                have hT37 := hT36.below (b_then (by go_grown) hb)
                obtain ⟨hc7, _⟩ := bcell hb
                have hz7 := hb.size
                try simp only [World.size_alloc] at hz7
                have zbA7 : v4.heap.size < v7.heap.size := by omega
                have zbB7 : v5.heap.size < v7.heap.size := by omega
                have zbC7 : v6.heap.size < v7.heap.size := by omega
                clear hb hT06 hT16 hT26 hT36
                go_wp2_with fail
                refine (find_any (hT17.below (by go_grown)) a1 a3).mono ?_
                rw [HFQ2.out]
                rintro e v8 ⟨rfl, hb⟩
                have hB8' := b_then (w := w) (b_then (w := w) hB7' (by go_grown)) hb
                have hT08 := hT07.below (b_then (by go_grown) hb)
                have hT18 := hT17.below (b_then (by go_grown) hb)
                have hT28 := hT27.below (b_then (by go_grown) hb)
                have hT38 := hT37.below (b_then (by go_grown) hb)
                obtain ⟨hc8, _⟩ := bcell hb
                have hz8 := hb.size
                try simp only [World.size_alloc] at hz8
                have zbA8 : v4.heap.size < v8.heap.size := by omega
                have zbB8 : v5.heap.size < v8.heap.size := by omega
                have zbC8 : v6.heap.size < v8.heap.size := by omega
                have zbD8 : v7.heap.size < v8.heap.size := by omega
                clear hb hT07 hT17 hT27 hT37
                go_wp2_with fail
                refine (find_any (hT28.below (by go_grown)) a1 a3).mono ?_
                rw [HFX.out]
                rintro e v9 ⟨rfl, hb⟩
                have hB9' := b_then (w := w) (b_then (w := w) hB8' (by go_grown)) hb
                have hT09 := hT08.below (b_then (by go_grown) hb)
                have hT19 := hT18.below (b_then (by go_grown) hb)
                have hT29 := hT28.below (b_then (by go_grown) hb)
                have hT39 := hT38.below (b_then (by go_grown) hb)
                obtain ⟨hc9, _⟩ := bcell hb
                have hz9 := hb.size
                try simp only [World.size_alloc] at hz9
                have zbA9 : v4.heap.size < v9.heap.size := by omega
                have zbB9 : v5.heap.size < v9.heap.size := by omega
                have zbC9 : v6.heap.size < v9.heap.size := by omega
                have zbD9 : v7.heap.size < v9.heap.size := by omega
                have zbE9 : v8.heap.size < v9.heap.size := by omega
                clear hb hT08 hT18 hT28 hT38
                go_wp2_with fail
                refine (all_any (hT09.below (by go_grown)) false).mono ?_
                rintro e v10 ⟨rfl, ht, hT010⟩
                have hB10' := Below.touch (b_then (w := w) hB9' (by go_grown)) ht (Nat.le_refl _) (fun k e => by omega)
                have hT110 := TlbAt.touch (hT19.below (by go_grown)) ht (show ¬ w.heap.size + 1 = w.heap.size by omega)
                have hT210 := TlbAt.touch (hT29.below (by go_grown)) ht (show ¬ w.heap.size + 1 + 1 = w.heap.size by omega)
                have hT310 := TlbAt.touch (hT39.below (by go_grown)) ht (show ¬ w.heap.size + 1 + 1 + 1 = w.heap.size by omega)
                obtain ⟨hc10, _⟩ := tcell ht
                have hz10 := ht.size
                try simp only [World.size_alloc] at hz10
                have zbA10 : v4.heap.size < v10.heap.size := by omega
                have nbA10 : v4.heap.size ≠ w.heap.size := by omega
                have zbB10 : v5.heap.size < v10.heap.size := by omega
                have nbB10 : v5.heap.size ≠ w.heap.size := by omega
                have zbC10 : v6.heap.size < v10.heap.size := by omega
                have nbC10 : v6.heap.size ≠ w.heap.size := by omega
                have zbD10 : v7.heap.size < v10.heap.size := by omega
                have nbD10 : v7.heap.size ≠ w.heap.size := by omega
                have zbE10 : v8.heap.size < v10.heap.size := by omega
                have nbE10 : v8.heap.size ≠ w.heap.size := by omega
                clear ht hT09 hT19 hT29 hT39
                rw [← HE.out] at hT010
                go_wp2_with fail
                refine (awake_true _).mono ?_
                rintro e v11 ⟨rfl, hb⟩
                have hB11' := b_then (w := w) hB10' hb
                have hT011 := hT010.below hb
                have hT111 := hT110.below hb
                have hT211 := hT210.below hb
                have hT311 := hT310.below hb
                obtain ⟨hc11, _⟩ := bcell hb
                have hz11 := hb.size
                try simp only [World.size_alloc] at hz11
                have zbA11 : v4.heap.size < v11.heap.size := by omega
                have zbB11 : v5.heap.size < v11.heap.size := by omega
                have zbC11 : v6.heap.size < v11.heap.size := by omega
                have zbD11 : v7.heap.size < v11.heap.size := by omega
                have zbE11 : v8.heap.size < v11.heap.size := by omega
                clear hb hT010 hT110 hT210 hT310
                go_wp2_with fail
                all_goals
                  refine (lines_any hT011).mono ?_
                  rintro e vl ⟨v, rfl, hbl, hrl⟩
                  obtain ⟨Al, cl, rfl⟩ := row_form hrl
                  rw [G6.out]
                  go_wp2
                  go_returns
                  exact ⟨rfl, b_then hB11' hbl⟩
end Go.Proofs.Ythnojhldpbjkoaa
