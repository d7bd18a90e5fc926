/- Contracts of the package tlb (layer 5): Tag, All, Page, Fill, Evict's refusals. No condition but the branch's. -/
import Derived.Test.YthnojhldpbjkoaaTlbW
import Derived.StillTailTactics
namespace Go.Proofs.Ythnojhldpbjkoaa
open Go.ChangeShapes Go.WideShapes Go.ChangeAt Go.RowKit
set_option linter.unusedVariables false
set_option linter.unusedSimpArgs false

theorem touch_cell {w W : World} {p b o : Nat} {v : Value} (ht : Touch (fun k => k = p) w W) (h : w.cell? ⟨b, o, none⟩ = some v) (hne : b ≠ p) : W.cell? ⟨b, o, none⟩ = some v :=
  (World.cell?_of_block (ht.block b (World.block_lt_of_cell? w _ h) hne)).trans h
theorem tag1_tells (w : World) (p bt : Nat) (tag : Int) (h1 : w.cell? ⟨bt, 0, none⟩ = some (.int .i64 tag)) (hne : bt ≠ p) :
    TellsT w p 24 #[.pointer (some ⟨bt, 0, none⟩)] (fun l => l.tag == tag && !l.gl) := by
  refine ⟨enters_of Try.func24 (by kernel_rfl) rfl, ?_⟩
  intro W l ht
  have c1 := touch_cell ht h1 hne
  have z1 := World.block_lt_of_cell? W _ c1
  simp only at z1
  clear ht h1 hne
  obtain ⟨v, t, q, f, a, b, c, d, e⟩ := l
  go_enter Try.func24, Try.ntmps24
  go_wp2
  all_goals
    go_returns
    refine ⟨ret_v ?_, by go_grown⟩
    simp_all
theorem all1_tells (w : World) (p bt : Nat) (stay : Bool) (h1 : w.cell? ⟨bt, 0, none⟩ = some (.bool stay)) (hne : bt ≠ p) :
    TellsT w p 25 #[.pointer (some ⟨bt, 0, none⟩)] (fun l => !stay || !l.gl) := by
  refine ⟨enters_of Try.func25 (by kernel_rfl) rfl, ?_⟩
  intro W l ht
  have c1 := touch_cell ht h1 hne
  have z1 := World.block_lt_of_cell? W _ c1
  simp only at z1
  clear ht h1 hne
  obtain ⟨v, t, q, f, a, b, c, d, e⟩ := l
  go_enter Try.func25, Try.ntmps25
  go_wp2
  all_goals
    go_returns
    refine ⟨ret_v ?_, by go_grown⟩
    simp_all
theorem page1_tells (w : World) (p bt bp : Nat) (tag page : Int) (h1 : w.cell? ⟨bt, 0, none⟩ = some (.int .i64 tag)) (h2 : w.cell? ⟨bp, 0, none⟩ = some (.int .i64 page)) (hne : bt ≠ p) (hne2 : bp ≠ p) :
    TellsT w p 30 #[.pointer (some ⟨bt, 0, none⟩), .pointer (some ⟨bp, 0, none⟩)] (fun l => fitsB l tag page) := by
  refine ⟨enters_of Try.func30 (by kernel_rfl) rfl, ?_⟩
  intro W l ht
  have c1 := touch_cell ht h1 hne
  have c2 := touch_cell ht h2 hne2
  have z1 := World.block_lt_of_cell? W _ c1
  have z2 := World.block_lt_of_cell? W _ c2
  simp only at z1 z2
  clear ht h1 hne h2 hne2
  go_enter Try.func30, Try.ntmps30
  go_wp2_with fail
  refine (fits_any l tag page _).mono ?_
  rintro e w1 ⟨rfl, hb1⟩
  go_wp2
  go_returns
  exact ⟨rfl, b_then (by go_grown) hb1⟩
theorem tag_any {w : World} {p : Nat} {L : List Ln} (h : TlbAt w p L) (tag : Int) :
    Calls Try.prog 13 #[.pointer (some ⟨p, 0, none⟩), .int .i64 tag] w fun e w' => e = .returned (.tuple #[]) ∧ Touch (fun k => k = p) w w' ∧ TlbAt w' p (dropT (fun l => l.tag == tag && !l.gl) L) := by
  have hlt := h.lt
  go_enter Try.func13, Try.ntmps13
  go_wp2_with fail
  refine (drop_any (h.below ((Below.refl _ _).alloc (Nat.le_refl _) _)) _ _ _ (tag1_tells _ p w.heap.size tag (by go_simp) (by omega))).mono ?_
  rintro e w1 ⟨rfl, ht1, h1⟩
  go_wp2_with fail
  go_returns
  exact ⟨rfl, (Touch.of_below ((Below.refl _ _).alloc (Nat.le_refl _) _) _).trans ht1 (fun k e => .inl e), h1⟩
theorem all_any {w : World} {p : Nat} {L : List Ln} (h : TlbAt w p L) (stay : Bool) :
    Calls Try.prog 14 #[.pointer (some ⟨p, 0, none⟩), .bool stay] w fun e w' => e = .returned (.tuple #[]) ∧ Touch (fun k => k = p) w w' ∧ TlbAt w' p (dropT (fun l => !stay || !l.gl) L) := by
  have hlt := h.lt
  go_enter Try.func14, Try.ntmps14
  go_wp2_with fail
  refine (drop_any (h.below ((Below.refl _ _).alloc (Nat.le_refl _) _)) _ _ _ (all1_tells _ p w.heap.size stay (by go_simp) (by omega))).mono ?_
  rintro e w1 ⟨rfl, ht1, h1⟩
  go_wp2_with fail
  go_returns
  exact ⟨rfl, (Touch.of_below ((Below.refl _ _).alloc (Nat.le_refl _) _) _).trans ht1 (fun k e => .inl e), h1⟩
theorem page_any {w : World} {p : Nat} {L : List Ln} (h : TlbAt w p L) (tag page : Int) :
    Calls Try.prog 18 #[.pointer (some ⟨p, 0, none⟩), .int .i64 tag, .int .i64 page] w fun e w' => e = .returned (.tuple #[]) ∧ Touch (fun k => k = p) w w' ∧ TlbAt w' p (dropT (fun l => fitsB l tag page) L) := by
  have hlt := h.lt
  have hb : Below w.heap.size w ((w.alloc (.cells #[.int .i64 tag] 3)).alloc (.cells #[.int .i64 page] 3)) := by go_grown
  go_enter Try.func18, Try.ntmps18
  go_wp2_with fail
  refine (drop_any (h.below hb) _ _ _ (page1_tells _ p w.heap.size (w.heap.size + 1) tag page (by go_simp) (by go_simp) (by omega) (by omega))).mono ?_
  rintro e w1 ⟨rfl, ht1, h1⟩
  go_wp2_with fail
  go_returns
  exact ⟨rfl, (Touch.of_below hb _).trans ht1 (fun k e => .inl e), h1⟩
theorem evict_bad (w : World) (p : Nat) (s y : Int) (hs : s < 0 ∨ 7 < s ∨ y < 0 ∨ 1 < y) :
    Calls Try.prog 27 #[.pointer (some ⟨p, 0, none⟩), .int .i64 s, .int .i64 y] w fun e w' => e = .returned (.int .i64 1) ∧ w' = w := by
  have HS := Lib.hid hs
  clear hs
  go_enter Try.func27, Try.ntmps27
  go_wp2
  all_goals first | (exfalso; have := HS.out; omega) | (go_returns; exact ⟨rfl, rfl⟩)
/-- What Fill takes. -/
def OkFill (way : Int) (l : Ln) : Prop := 0 ≤ way ∧ way ≤ 1 ∧ 0 ≤ l.tag ∧ l.tag ≤ 4095 ∧ 0 ≤ l.page ∧ 0 ≤ l.frame ∧ l.v = true
theorem fill_bad (w : World) (p : Nat) (way : Int) (l : Ln) (h : ¬ OkFill way l) :
    Calls Try.prog 9 #[.pointer (some ⟨p, 0, none⟩), .int .i64 way, l.val] w fun e w' => e = .returned (.int .i64 1) ∧ Below w.heap.size w w' := by
  have hs : way < 0 ∨ 1 < way ∨ l.tag < 0 ∨ 4095 < l.tag ∨ l.page < 0 ∨ l.frame < 0 ∨ l.v = false := by
    unfold OkFill at h
    rcases Bool.eq_false_or_eq_true l.v with hv | hv
    · have : ¬ (0 ≤ way ∧ way ≤ 1 ∧ 0 ≤ l.tag ∧ l.tag ≤ 4095 ∧ 0 ≤ l.page ∧ 0 ≤ l.frame) := fun ⟨a, b, c, d, e, f⟩ => h ⟨a, b, c, d, e, f, hv⟩
      omega
    · simp [hv]
  clear h
  have HS := Lib.hid hs
  clear hs
  go_enter Try.func9, Try.ntmps9
  go_wp2_with fail
  all_goals first | (go_returns; exact ⟨rfl, by go_grown⟩) | (exfalso; rcases HS.out with h | h | h | h | h | h | h <;> first | omega | simp_all)
/-- Does Fill clear a line? -/
def clrB (l x : Ln) : Bool := fitsB x l.tag l.page || l.gl && x.v && x.page == l.page
def clr (l x : Ln) : Ln := if clrB l x then zln else x
def fillT (L : List Ln) (way : Nat) (l : Ln) : List Ln :=
  ((L.set (2 * setOf l.page) (clr l (at_ L (2 * setOf l.page)))).set (2 * setOf l.page + 1) (clr l (at_ L (2 * setOf l.page + 1)))).set (2 * setOf l.page + way) l
/-- Behind k rounds of Fill's loop. -/
def fillN (L : List Ln) (l : Ln) (s : Nat) : Nat → List Ln
  | 0 => L
  | 1 => L.set (2 * s) (clr l (at_ L (2 * s)))
  | _ => (L.set (2 * s) (clr l (at_ L (2 * s)))).set (2 * s + 1) (clr l (at_ L (2 * s + 1)))
theorem fillN_length (L : List Ln) (l : Ln) (s k : Nat) : (fillN L l s k).length = L.length := by
  match k with
  | 0 => rfl
  | 1 => simp [fillN]
  | k + 2 => simp [fillN]
theorem fillN_at (L : List Ln) (l : Ln) (s k : Nat) (hL : L.length = 16) (hs : s < 8) (hk : k < 2) : at_ (fillN L l s k) (2 * s + k) = at_ L (2 * s + k) := by
  match k, hk with
  | 0, _ => rfl
  | 1, _ => simp only [fillN]; rw [at_set (by omega), if_neg (by omega)]
theorem fillN_succ (L : List Ln) (l : Ln) (s k : Nat) (hL : L.length = 16) (hs : s < 8) (hk : k < 2) : fillN L l s (k + 1) = (fillN L l s k).set (2 * s + k) (clr l (at_ L (2 * s + k))) := by
  match k, hk with
  | 0, _ => rfl
  | 1, _ => rfl
theorem set_at (L : List Ln) (n : Nat) (h : n < L.length) : L.set n (at_ L n) = L := by
  apply List.ext_getElem?
  intro j
  rw [List.getElem?_set]
  by_cases e : n = j
  · subst e; rw [if_pos rfl, if_pos h, at_get h]
  · rw [if_neg e]
theorem fillN_same (L : List Ln) (l : Ln) (s k : Nat) (hL : L.length = 16) (hs : s < 8) (hk : k < 2) (hc : clrB l (at_ L (2 * s + k)) = false) : fillN L l s (k + 1) = fillN L l s k := by
  have e := set_at (fillN L l s k) (2 * s + k) (by rw [fillN_length]; omega)
  rw [fillN_at L l s k hL hs hk] at e
  rw [fillN_succ L l s k hL hs hk]; unfold clr; rw [hc]; exact e
set_option maxHeartbeats 6000000 in
theorem fill_ok {w : World} {p : Nat} {L : List Ln} (h : TlbAt w p L) (way : Nat) (l : Ln) (hok : OkFill way l) :
    Calls Try.prog 9 #[.pointer (some ⟨p, 0, none⟩), .int .i64 way, l.val] w fun e w' => e = .returned (.int .i64 0) ∧ Touch (fun k => k = p) w w' ∧ TlbAt w' p (fillT L way l) := by
  obtain ⟨h1, h2, h3, h4, h5, h6, h7⟩ := hok
  obtain ⟨s, hs⟩ : ∃ s, s = setOf l.page := ⟨_, rfl⟩
  have hs8 : s < 8 := by rw [hs]; exact setOf_lt l.page
  have hset := fun W => set_any l.page W
  rw [← hs] at hset
  have HSET := Lib.hid hset
  have HS := Lib.hid hs
  have i0 : (0 : Int) ≤ s := by omega
  have i1 : (s : Int) < 8 := by omega
  have i2 : (s : Int).toNat = s := by omega
  have hlt := h.lt
  clear hset hs
  go_enter Try.func9, Try.ntmps9
  go_wp2_with fail
  go_quiet ((go_at_call 19; exact Calls.quiet_of_same (HSET.out _)))
  go_wp2_with fail
  obtain ⟨B, hB⟩ : ∃ B, B = w.heap.size := ⟨_, rfl⟩
  have hbb := heap_new w (.cells #[.bool true, .int .i64 l.tag, .int .i64 l.page, .int .i64 l.frame, .bool l.wr, .bool l.us, .bool l.ex, .bool l.gl, .bool l.di] 25)
  rw [← hB] at hbb
  rw [← hB]
  have hBw : w.heap.size ≤ B := by omega
  have HBE := Lib.hid hB
  clear hB
  have hbd : ∀ n, Below w.heap.size w ((w.alloc (.cells #[.bool true, .int .i64 l.tag, .int .i64 l.page, .int .i64 l.frame, .bool l.wr, .bool l.us, .bool l.ex, .bool l.gl, .bool l.di] 25)).drewN n) := fun n => below_drewN (by go_grown) n
  go_loopw [47] (fun i wr => ∃ k : Nat, i = .int .i64 k ∧ k ≤ 2 ∧ Touch (fun k => k = p) w wr ∧ TlbAt wr p (fillN L l s k) ∧ wr.heap[B]? = some (.cells #[.bool true, .int .i64 l.tag, .int .i64 l.page, .int .i64 l.frame, .bool l.wr, .bool l.us, .bool l.ex, .bool l.gl, .bool l.di] 25 (0, 0))) (fun i _ => (2 - intOf i).toNat)
  case atStart => exact ⟨0, rfl, by omega, Touch.of_below (hbd _) _, h.below (hbd _), hbb⟩
  case round =>
    obtain ⟨k, rfl, hle, hT, hA, hbl⟩ := hrel
    have HLEN := Lib.hid h.len
    have HBL := Lib.hid hbl
    by_cases hk : k < 2
    · obtain ⟨c0, c1, c2, c3, c4, c5, c6, c7, c8⟩ := hA.reads (2 * s + k) (s * 18 + k * 9) (by omega) (by omega)
      rw [fillN_at L l s k h.len hs8 hk] at c0 c1 c2 c3 c4 c5 c6 c7 c8
      obtain ⟨x, hx⟩ : ∃ x, at_ L (2 * s + k) = x := ⟨_, rfl⟩
      rw [hx] at c0 c1 c2 c3 c4 c5 c6 c7 c8
      obtain ⟨xv, xt, xp, xf, xw, xu, xe, xg, xd⟩ := x
      simp only [] at c0 c1 c2 c3 c4 c5 c6 c7 c8
      have HXE := Lib.hid hx
      have b1 : wr.cell? ⟨B, 1, none⟩ = some (.int .i64 l.tag) := cell_heap hbl 1
      have b2 : wr.cell? ⟨B, 2, none⟩ = some (.int .i64 l.page) := cell_heap hbl 2
      have b7 : wr.cell? ⟨B, 7, none⟩ = some (.bool l.gl) := cell_heap hbl 7
      have dk : decide ((k : Int) < 2) = true := decide_eq_true (by omega)
      have hltr := hA.lt
      have hltB := heap_lt hbl
      have i3 : (0 : Int) ≤ k := by omega
      have i4 : (k : Int) < 2 := by omega
      have hcall := fun W => fits_any ⟨xv, xt, xp, xf, xw, xu, xe, xg, xd⟩ l.tag l.page W
      clear hbl hx h hbb
      cases hfi : fitsB ⟨xv, xt, xp, xf, xw, xu, xe, xg, xd⟩ l.tag l.page with
      | true =>
        rw [hfi] at hcall
        have HFI := Lib.hid hfi
        clear hfi
        go_wp2_with fail
        have hab := @Abv.cell wr
        refine wp_region_abv (by kernel_rfl) (by kernel_rfl) ?_
        repeat (first | go_big_quiet_skip | (go_big_quiet_want; go_big_quiet_op; first | go_big_quiet_on | go_big_quiet_call ((go_at_call 20; exact abv_call (hcall _)))))
        refine wpQuiet_nil ?_
        rintro w3 ⟨⟨_, hb3⟩, rfl⟩
        have hA3 := hA.below hb3
        have hT3 := hT.trans (Touch.of_below hb3 (fun _ => False)) (fun _ h => h.elim)
        have hbl3 := heap_below hb3 HBL.out
        have HBL3 := Lib.hid hbl3
        clear hbl3 hab c0 c1 c2 c3 c4 c5 c6 c7 c8
        obtain ⟨c0, c1, c2, c3, c4, c5, c6, c7, c8⟩ := hA3.reads (2 * s + k) (s * 18 + k * 9) (by omega) (by omega)
        have fr := hA3.free
        have hT4 := Touch.nine hT3 (p := p) (.inl rfl) (s * 18 + k * 9) (s * 18 + k * 9 + 1) (s * 18 + k * 9 + 2) (s * 18 + k * 9 + 3) (s * 18 + k * 9 + 4) (s * 18 + k * 9 + 5) (s * 18 + k * 9 + 6) (s * 18 + k * 9 + 7) (s * 18 + k * 9 + 8) (.bool false) (.int .i64 0) (.int .i64 0) (.int .i64 0) (.bool false) (.bool false) (.bool false) (.bool false) (.bool false)
        have hA4 := hA3.store (2 * s + k) (s * 18 + k * 9) (by omega) (by omega) zln
        have hN := fillN_succ L l s k HLEN.out hs8 hk
        rw [HXE.out, show clr l _ = zln by unfold clr clrB; rw [HFI.out]; simp] at hN
        rw [← hN] at hA4
        have HN := Lib.hid hN
        clear hN
        have hbl4 := Touch.heap (Touch.nine (Touch.refl (fun k => k = p) w3) (p := p) (.inl rfl) (s * 18 + k * 9) (s * 18 + k * 9 + 1) (s * 18 + k * 9 + 2) (s * 18 + k * 9 + 3) (s * 18 + k * 9 + 4) (s * 18 + k * 9 + 5) (s * 18 + k * 9 + 6) (s * 18 + k * 9 + 7) (s * 18 + k * 9 + 8) (.bool false) (.int .i64 0) (.int .i64 0) (.int .i64 0) (.bool false) (.bool false) (.bool false) (.bool false) (.bool false)) HBL3.out (by omega)
        have HBL4 := Lib.hid hbl4
        clear hbl4
        go_wp2_with fail
        go_roundw
        case rel => exact ⟨k + 1, by go_num, by omega, hT4, hA4, HBL4.out⟩
        case measure => simp [intOf]; omega
      | false =>
        rw [hfi] at hcall
        have HFI := Lib.hid hfi
        clear hfi
        rcases Bool.eq_false_or_eq_true l.gl with hgl | hgl
        rotate_left
        · rw [hgl] at b7
          have HGL := Lib.hid hgl
          clear hgl
          go_wp2_with fail
          have hab := @Abv.cell wr
          refine wp_region_abv (by kernel_rfl) (by kernel_rfl) ?_
          repeat (first | go_big_quiet_skip | (go_big_quiet_want; go_big_quiet_op; first | go_big_quiet_on | go_big_quiet_call ((go_at_call 20; exact abv_call (hcall _)))))
          refine wpQuiet_nil ?_
          rintro w3 ⟨⟨_, hb3⟩, rfl⟩
          have hA3 := hA.below hb3
          have hT3 := hT.trans (Touch.of_below hb3 (fun _ => False)) (fun _ h => h.elim)
          have hbl3 := heap_below hb3 HBL.out
          rw [← fillN_same L l s k HLEN.out hs8 hk (by rw [HXE.out]; unfold clrB; rw [HFI.out]; rw [HGL.out]; rfl)] at hA3
          have HBL3 := Lib.hid hbl3
          clear hbl3 hA hT hb3 hab c0 c1 c2 c3 c4 c5 c6 c7 c8
          go_wp2_with fail
          go_roundw
          case rel => exact ⟨k + 1, by go_num, by omega, hT3, hA3, HBL3.out⟩
          case measure => simp [intOf]; omega
        · rw [hgl] at b7
          have HGL := Lib.hid hgl
          clear hgl
          cases xv
          · go_wp2_with fail
            have hab := @Abv.cell wr
            refine wp_region_abv (by kernel_rfl) (by kernel_rfl) ?_
            repeat (first | go_big_quiet_skip | (go_big_quiet_want; go_big_quiet_op; first | go_big_quiet_on | go_big_quiet_call ((go_at_call 20; exact abv_call (hcall _)))))
            refine wpQuiet_nil ?_
            rintro w3 ⟨⟨_, hb3⟩, rfl⟩
            have hA3 := hA.below hb3
            have hT3 := hT.trans (Touch.of_below hb3 (fun _ => False)) (fun _ h => h.elim)
            have hbl3 := heap_below hb3 HBL.out
            rw [← fillN_same L l s k HLEN.out hs8 hk (by rw [HXE.out]; unfold clrB; rw [HFI.out]; rw [HGL.out]; rfl)] at hA3
            have HBL3 := Lib.hid hbl3
            clear hbl3 hA hT hb3 hab c0 c1 c2 c3 c4 c5 c6 c7 c8
            go_wp2_with fail
            go_roundw
            case rel => exact ⟨k + 1, by go_num, by omega, hT3, hA3, HBL3.out⟩
            case measure => simp [intOf]; omega
          · rcases Bool.eq_false_or_eq_true (xp == l.page) with hpg | hpg
            rotate_left
            · go_wp2_with fail
              have hab := @Abv.cell wr
              refine wp_region_abv (by kernel_rfl) (by kernel_rfl) ?_
              repeat (first | go_big_quiet_skip | (go_big_quiet_want; go_big_quiet_op; first | go_big_quiet_on | go_big_quiet_call ((go_at_call 20; exact abv_call (hcall _)))))
              refine wpQuiet_nil ?_
              rintro w3 ⟨⟨_, hb3⟩, rfl⟩
              have hA3 := hA.below hb3
              have hT3 := hT.trans (Touch.of_below hb3 (fun _ => False)) (fun _ h => h.elim)
              have hbl3 := heap_below hb3 HBL.out
              rw [← fillN_same L l s k HLEN.out hs8 hk (by rw [HXE.out]; unfold clrB; rw [HFI.out]; simp [hpg])] at hA3
              have HBL3 := Lib.hid hbl3
              clear hbl3 hA hT hb3 hab c0 c1 c2 c3 c4 c5 c6 c7 c8
              go_wp2_with fail
              go_roundw
              case rel => exact ⟨k + 1, by go_num, by omega, hT3, hA3, HBL3.out⟩
              case measure => simp [intOf]; omega
            · go_wp2_with fail
              have hab := @Abv.cell wr
              refine wp_region_abv (by kernel_rfl) (by kernel_rfl) ?_
              repeat (first | go_big_quiet_skip | (go_big_quiet_want; go_big_quiet_op; first | go_big_quiet_on | go_big_quiet_call ((go_at_call 20; exact abv_call (hcall _)))))
              refine wpQuiet_nil ?_
              rintro w3 ⟨⟨_, hb3⟩, rfl⟩
              have hA3 := hA.below hb3
              have hT3 := hT.trans (Touch.of_below hb3 (fun _ => False)) (fun _ h => h.elim)
              have hbl3 := heap_below hb3 HBL.out
              have HBL3 := Lib.hid hbl3
              clear hbl3 hab c0 c1 c2 c3 c4 c5 c6 c7 c8
              obtain ⟨c0, c1, c2, c3, c4, c5, c6, c7, c8⟩ := hA3.reads (2 * s + k) (s * 18 + k * 9) (by omega) (by omega)
              have fr := hA3.free
              have hT4 := Touch.nine hT3 (p := p) (.inl rfl) (s * 18 + k * 9) (s * 18 + k * 9 + 1) (s * 18 + k * 9 + 2) (s * 18 + k * 9 + 3) (s * 18 + k * 9 + 4) (s * 18 + k * 9 + 5) (s * 18 + k * 9 + 6) (s * 18 + k * 9 + 7) (s * 18 + k * 9 + 8) (.bool false) (.int .i64 0) (.int .i64 0) (.int .i64 0) (.bool false) (.bool false) (.bool false) (.bool false) (.bool false)
              have hA4 := hA3.store (2 * s + k) (s * 18 + k * 9) (by omega) (by omega) zln
              have hN := fillN_succ L l s k HLEN.out hs8 hk
              rw [HXE.out, show clr l _ = zln by unfold clr clrB; rw [HFI.out]; simp [HGL.out, hpg]] at hN
              rw [← hN] at hA4
              have HN := Lib.hid hN
              clear hN
              have hbl4 := Touch.heap (Touch.nine (Touch.refl (fun k => k = p) w3) (p := p) (.inl rfl) (s * 18 + k * 9) (s * 18 + k * 9 + 1) (s * 18 + k * 9 + 2) (s * 18 + k * 9 + 3) (s * 18 + k * 9 + 4) (s * 18 + k * 9 + 5) (s * 18 + k * 9 + 6) (s * 18 + k * 9 + 7) (s * 18 + k * 9 + 8) (.bool false) (.int .i64 0) (.int .i64 0) (.int .i64 0) (.bool false) (.bool false) (.bool false) (.bool false) (.bool false)) HBL3.out (by omega)
              have HBL4 := Lib.hid hbl4
              clear hbl4
              go_wp2_with fail
              go_roundw
              case rel => exact ⟨k + 1, by go_num, by omega, hT4, hA4, HBL4.out⟩
              case measure => simp [intOf]; omega
    · have : k = 2 := by omega
      subst this
      have dk : decide (((2 : Nat) : Int) < 2) = false := by decide
      have hltr := hA.lt
      have i3 : (0 : Int) ≤ way := by omega
      have i4 : (way : Int) < 2 := by omega
      have hD := (Below.refl wr.heap.size wr).drew
      have hAd := hA.below hD
      have hTd := hT.drew
      have hBLd := heap_below hD hbl
      have hltB := heap_lt hbl
      have a0 : wr.cell? ⟨B, 0, none⟩ = some (.bool true) := cell_heap HBL.out 0
      have a1 : wr.cell? ⟨B, 1, none⟩ = some (.int .i64 l.tag) := cell_heap HBL.out 1
      have a2 : wr.cell? ⟨B, 2, none⟩ = some (.int .i64 l.page) := cell_heap HBL.out 2
      have a3 : wr.cell? ⟨B, 3, none⟩ = some (.int .i64 l.frame) := cell_heap HBL.out 3
      have a4 : wr.cell? ⟨B, 4, none⟩ = some (.bool l.wr) := cell_heap HBL.out 4
      have a5 : wr.cell? ⟨B, 5, none⟩ = some (.bool l.us) := cell_heap HBL.out 5
      have a6 : wr.cell? ⟨B, 6, none⟩ = some (.bool l.ex) := cell_heap HBL.out 6
      have a7 : wr.cell? ⟨B, 7, none⟩ = some (.bool l.gl) := cell_heap HBL.out 7
      have a8 : wr.cell? ⟨B, 8, none⟩ = some (.bool l.di) := cell_heap HBL.out 8
      go_wp2_with fail
      go_still_tail 5, (by kernel_rfl)
      change wpList _ _ _ _ _ wr.drew
      generalize wr.drew = w2 at hAd hTd hBLd ⊢
      obtain ⟨c0, c1, c2, c3, c4, c5, c6, c7, c8⟩ := hAd.reads (2 * s + way) (s * 18 + way * 9) (by omega) (by omega)
      have fr := hAd.free
      have hltr2 := hAd.lt
      have hE := hAd.store (2 * s + way) (s * 18 + way * 9) (by omega) (by omega) l
      have hTE := Touch.nine hTd (p := p) (.inl rfl) (s * 18 + way * 9) (s * 18 + way * 9 + 1) (s * 18 + way * 9 + 2) (s * 18 + way * 9 + 3) (s * 18 + way * 9 + 4) (s * 18 + way * 9 + 5) (s * 18 + way * 9 + 6) (s * 18 + way * 9 + 7) (s * 18 + way * 9 + 8) (.bool l.v) (.int .i64 l.tag) (.int .i64 l.page) (.int .i64 l.frame) (.bool l.wr) (.bool l.us) (.bool l.ex) (.bool l.gl) (.bool l.di)
      have hdef : fillT L way l = (fillN L l s 2).set (2 * s + way) l := by unfold fillT fillN; rw [← HS.out]; rfl
      rw [← hdef, h7] at hE
      rw [h7] at hTE
      have HDEF := Lib.hid hdef
      have HBL2 := Lib.hid hBLd
      clear hdef hBLd hbl a0 a1 a2 a3 a4 a5 a6 a7 a8
      have b0 : w2.cell? ⟨B, 0, none⟩ = some (.bool true) := cell_heap HBL2.out 0
      have b1 : w2.cell? ⟨B, 1, none⟩ = some (.int .i64 l.tag) := cell_heap HBL2.out 1
      have b2 : w2.cell? ⟨B, 2, none⟩ = some (.int .i64 l.page) := cell_heap HBL2.out 2
      have b3 : w2.cell? ⟨B, 3, none⟩ = some (.int .i64 l.frame) := cell_heap HBL2.out 3
      have b4 : w2.cell? ⟨B, 4, none⟩ = some (.bool l.wr) := cell_heap HBL2.out 4
      have b5 : w2.cell? ⟨B, 5, none⟩ = some (.bool l.us) := cell_heap HBL2.out 5
      have b6 : w2.cell? ⟨B, 6, none⟩ = some (.bool l.ex) := cell_heap HBL2.out 6
      have b7 : w2.cell? ⟨B, 7, none⟩ = some (.bool l.gl) := cell_heap HBL2.out 7
      have b8 : w2.cell? ⟨B, 8, none⟩ = some (.bool l.di) := cell_heap HBL2.out 8
      go_wp2_with fail
      go_returns
      exact ⟨rfl, hTE, hE⟩
end Go.Proofs.Ythnojhldpbjkoaa
