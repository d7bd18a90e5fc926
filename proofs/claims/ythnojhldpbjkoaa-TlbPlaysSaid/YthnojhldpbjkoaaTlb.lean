/- Contracts of the package tlb (layer 5). No condition but the branch's. -/
import Derived.Test.YthnojhldpbjkoaaTlbM
import Derived.RegionTactic
import Derived.BigRegion
import Derived.Deep.QuietTactic
import Derived.BigQuiet
import Derived.Lib.Hide
import Derived.LoopN
import Derived.Shelf.Abstract
namespace Go.Proofs.Ythnojhldpbjkoaa
open Go.ChangeShapes Go.WideShapes Go.ChangeAt Go.RowKit
set_option linter.unusedVariables false
set_option linter.unusedSimpArgs false

theorem i64_and7 (n : Int) : bits .and .i64 n 7 = n % 8 := by
  have h7 : (BitVec.ofInt 64 7).toNat = 2 ^ 3 - 1 := by decide
  have key : (BitVec.ofInt 64 n &&& BitVec.ofInt 64 7).toNat = (n % ((2 ^ 64 : Nat) : Int)).toNat % 2 ^ 3 := by
    rw [BitVec.toNat_and, BitVec.toNat_ofInt, h7, Nat.and_two_pow_sub_one_eq_mod]
  show IntKind.i64.wrap ((BitVec.ofInt 64 n &&& BitVec.ofInt 64 7).toNat : Nat) = n % 8
  rw [key, IntKind.wrap_i64]
  omega
theorem set_any (p : Int) (w : World) :
    Calls Try.prog 19 #[.int .i64 p] w fun e w' => e = .returned (.int .i64 (setOf p)) ∧ w' = w := by
  go_enter Try.func19, Try.ntmps19
  go_wp2
  go_returns
  exact ⟨ret_v (by rw [setOf_cast, ← i64_and7]; rfl), rfl⟩
theorem fits_any (l : Ln) (tag page : Int) (w : World) :
    Calls Try.prog 20 #[l.val, .int .i64 tag, .int .i64 page] w fun e w' => e = .returned (.bool (fitsB l tag page)) ∧ Below w.heap.size w w' := by
  obtain ⟨v, t, p, f, a, b, c, d, e⟩ := l
  go_enter Try.func20, Try.ntmps20
  go_wp2
  all_goals
    go_returns
    refine ⟨ret_v ?_, by go_grown⟩
    simp_all [fitsB]
/-- What a closure of one line tells, in whatever world above w. -/
def Tells (w : World) (g : Nat) (cap : Array Value) (f : Ln → Bool) : Prop :=
  (∀ args W, (callFunc g args).run Try.prog W = .ok (.enter g args) W) ∧
  ∀ (W : World) (l : Ln), Below w.heap.size w W → Calls Try.prog g (#[l.val] ++ cap) W fun e w' => e = .returned (.bool (f l)) ∧ Below W.heap.size W w'
theorem find1_tells (w : World) (bt bp : Nat) (tag page : Int) (h1 : w.cell? ⟨bt, 0, none⟩ = some (.int .i64 tag)) (h2 : w.cell? ⟨bp, 0, none⟩ = some (.int .i64 page)) (l1 : bt < w.heap.size) (l2 : bp < w.heap.size) :
    Tells w 22 #[.pointer (some ⟨bt, 0, none⟩), .pointer (some ⟨bp, 0, none⟩)] (fun l => fitsB l tag page) := by
  refine ⟨enters_of Try.func22 (by kernel_rfl) rfl, ?_⟩
  intro W l hb
  have c1 := (hb.cell (p := ⟨bt, 0, none⟩) l1).trans h1
  have c2 := (hb.cell (p := ⟨bp, 0, none⟩) l2).trans h2
  have z := hb.size
  have z1 : bt < W.heap.size := by omega
  have z2 : bp < W.heap.size := by omega
  clear z hb h1 h2 l1 l2
  go_enter Try.func22, Try.ntmps22
  go_wp2_with fail
  refine (fits_any l tag page _).mono ?_
  rintro e w1 ⟨rfl, hb1⟩
  go_wp2
  go_returns
  exact ⟨rfl, b_then (by go_grown) hb1⟩
/-- IndexFunc over two lines. -/
def idx2 (f : Ln → Bool) (x y : Ln) : Int := if f x then 0 else if f y then 1 else -1
theorem index_two (w : World) (b o g : Nat) (cap : Array Value) (f : Ln → Bool) (x y : Ln) (hf : Tells w g cap f) (hb : b < w.heap.size)
    (hx : ∀ j, j < 9 → w.cell? ⟨b, o + j, none⟩ = x.cells[j]?) (hy : ∀ j, j < 9 → w.cell? ⟨b, o + 9 + j, none⟩ = y.cells[j]?) :
    Calls Try.prog 21 #[.slice (some ⟨b, o, none⟩) 2 2, .func (.func g) #[] cap] w fun e w' => e = .returned (.int .i64 (idx2 f x y)) ∧ Below w.heap.size w w' := by
  obtain ⟨eg, hf⟩ := hf
  have hfw := fun l => hf w l (Below.refl _ _)
  have x0 : w.cell? ⟨b, o, none⟩ = some (.bool x.v) := hx 0 (by omega)
  have x1 : w.cell? ⟨b, o + 1, none⟩ = some (.int .i64 x.tag) := hx 1 (by omega)
  have x2 : w.cell? ⟨b, o + 2, none⟩ = some (.int .i64 x.page) := hx 2 (by omega)
  have x3 : w.cell? ⟨b, o + 3, none⟩ = some (.int .i64 x.frame) := hx 3 (by omega)
  have x4 : w.cell? ⟨b, o + 4, none⟩ = some (.bool x.wr) := hx 4 (by omega)
  have x5 : w.cell? ⟨b, o + 5, none⟩ = some (.bool x.us) := hx 5 (by omega)
  have x6 : w.cell? ⟨b, o + 6, none⟩ = some (.bool x.ex) := hx 6 (by omega)
  have x7 : w.cell? ⟨b, o + 7, none⟩ = some (.bool x.gl) := hx 7 (by omega)
  have x8 : w.cell? ⟨b, o + 8, none⟩ = some (.bool x.di) := hx 8 (by omega)
  have y0 : w.cell? ⟨b, o + 9, none⟩ = some (.bool y.v) := hy 0 (by omega)
  have y1 : w.cell? ⟨b, o + 9 + 1, none⟩ = some (.int .i64 y.tag) := hy 1 (by omega)
  have y2 : w.cell? ⟨b, o + 9 + 2, none⟩ = some (.int .i64 y.page) := hy 2 (by omega)
  have y3 : w.cell? ⟨b, o + 9 + 3, none⟩ = some (.int .i64 y.frame) := hy 3 (by omega)
  have y4 : w.cell? ⟨b, o + 9 + 4, none⟩ = some (.bool y.wr) := hy 4 (by omega)
  have y5 : w.cell? ⟨b, o + 9 + 5, none⟩ = some (.bool y.us) := hy 5 (by omega)
  have y6 : w.cell? ⟨b, o + 9 + 6, none⟩ = some (.bool y.ex) := hy 6 (by omega)
  have y7 : w.cell? ⟨b, o + 9 + 7, none⟩ = some (.bool y.gl) := hy 7 (by omega)
  have y8 : w.cell? ⟨b, o + 9 + 8, none⟩ = some (.bool y.di) := hy 8 (by omega)
  have HF := Lib.hid hf
  clear hx hy hf
  cases hfx : f x with
  | true =>
    have hcx := hfw x
    rw [hfx] at hcx
    go_enter Try.func21, Try.ntmps21
    go_wp2_with fail
    go_rounds 3
    go_wp2_with fail
    refine hcx.mono ?_
    rintro e w1 ⟨rfl, hb1⟩
    go_wp2
    go_returns
    exact ⟨ret_v (by unfold idx2; rw [hfx]; rfl), hb1⟩
  | false =>
    have hcx := hfw x
    rw [hfx] at hcx
    go_enter Try.func21, Try.ntmps21
    go_wp2_with fail
    go_rounds 3
    go_wp2_with fail
    refine hcx.mono ?_
    rintro e w1 ⟨rfl, hb1⟩
    obtain ⟨hc1, _⟩ := bcell hb1
    go_wp2_with fail
    have hcy := HF.out _ y hb1
    rw [rounds_succ]
    go_wp2_with fail
    refine hcy.mono ?_
    rintro e w2 ⟨rfl, hb2⟩
    have hB := b_then hb1 hb2
    clear hb1 hb2
    cases hfy : f y with
    | true =>
      go_wp2
      go_returns
      exact ⟨ret_v (by unfold idx2; rw [hfx, hfy]; rfl), hB⟩
    | false =>
      go_wp2
      rw [rounds_succ]
      go_wp2
      go_returns
      exact ⟨ret_v (by unfold idx2; rw [hfx, hfy]; rfl), hB⟩
/-- A TLB: its block, its sixteen places. -/
structure TlbAt (w : World) (p : Nat) (L : List Ln) : Prop where
  cells : w.heap[p]? = some (.cells (lcells L).toArray 29 (0, 0))
  len : L.length = 16
theorem TlbAt.below {w w' : World} {p : Nat} {L : List Ln} (h : TlbAt w p L) (hb : Below w.heap.size w w') : TlbAt w' p L := ⟨heap_below hb h.cells, h.len⟩
theorem TlbAt.lt {w : World} {p : Nat} {L : List Ln} (h : TlbAt w p L) : p < w.heap.size := heap_lt h.cells
theorem TlbAt.at9 {w : World} {p : Nat} {L : List Ln} (h : TlbAt w p L) (k o : Nat) (hk : k < 16) (ho : o = k * 9) : ∀ j, j < 9 → w.cell? ⟨p, o + j, none⟩ = (at_ L k).cells[j]? := by
  intro j hj
  rw [cell_heap h.cells, ho, List.getElem?_toArray]
  exact lcells_at L k _ (at_get (by rw [h.len]; exact hk)) j hj
/-- A line's nine cells. -/
def Reads (w : World) (p o : Nat) (l : Ln) : Prop :=
  w.cell? ⟨p, o, none⟩ = some (.bool l.v) ∧ w.cell? ⟨p, o + 1, none⟩ = some (.int .i64 l.tag) ∧ w.cell? ⟨p, o + 2, none⟩ = some (.int .i64 l.page) ∧ w.cell? ⟨p, o + 3, none⟩ = some (.int .i64 l.frame) ∧ w.cell? ⟨p, o + 4, none⟩ = some (.bool l.wr) ∧
  w.cell? ⟨p, o + 5, none⟩ = some (.bool l.us) ∧ w.cell? ⟨p, o + 6, none⟩ = some (.bool l.ex) ∧ w.cell? ⟨p, o + 7, none⟩ = some (.bool l.gl) ∧ w.cell? ⟨p, o + 8, none⟩ = some (.bool l.di)
theorem TlbAt.reads {w : World} {p : Nat} {L : List Ln} (h : TlbAt w p L) (k o : Nat) (hk : k < 16) (ho : o = k * 9) : Reads w p o (at_ L k) := by
  have c := h.at9 k o hk ho
  exact ⟨c 0 (by omega), c 1 (by omega), c 2 (by omega), c 3 (by omega), c 4 (by omega), c 5 (by omega), c 6 (by omega), c 7 (by omega), c 8 (by omega)⟩
theorem TlbAt.free {w : World} {p : Nat} {L : List Ln} (h : TlbAt w p L) (o : Nat) : w.frozen? ⟨p, o, none⟩ = false := frozen_heap h.cells o
def findT (L : List Ln) (tag page : Int) : Ln × Bool :=
  if fitsB (at_ L (2 * setOf page)) tag page then (at_ L (2 * setOf page), true)
  else if fitsB (at_ L (2 * setOf page + 1)) tag page then (at_ L (2 * setOf page + 1), true) else (zln, false)
theorem find_any {w : World} {p : Nat} {L : List Ln} (h : TlbAt w p L) (tag page : Int) :
    Calls Try.prog 11 #[.pointer (some ⟨p, 0, none⟩), .int .i64 tag, .int .i64 page] w fun e w' => e = .returned (.tuple #[(findT L tag page).1.val, .bool (findT L tag page).2]) ∧ Below w.heap.size w w' := by
  obtain ⟨s, hs⟩ : ∃ s, s = setOf page := ⟨_, rfl⟩
  have hs8 : s < 8 := by rw [hs]; exact setOf_lt page
  have hset := fun W => set_any page W
  rw [← hs] at hset
  have hfe : findT L tag page = if fitsB (at_ L (2 * s)) tag page then (at_ L (2 * s), true)
      else if fitsB (at_ L (2 * s + 1)) tag page then (at_ L (2 * s + 1), true) else (zln, false) := by unfold findT; rw [hs]
  have HFE := Lib.hid hfe
  have HS := Lib.hid hs
  have HSET := Lib.hid hset
  have hlt := h.lt
  have i0 : (0 : Int) ≤ s := by omega
  have i1 : (s : Int) < 8 := by omega
  have i2 : (s : Int).toNat = s := by omega
  clear hfe hs hset
  go_enter Try.func11, Try.ntmps11
  go_wp2_with fail
  go_quiet ((go_at_call 19; exact Calls.quiet_of_same (HSET.out _)))
  go_wp2_with fail
  have hb0 : ∀ (n : Nat), Below w.heap.size w ((((w.alloc (.cells #[.int .i64 tag] 3)).alloc (.cells #[.int .i64 page] 3)).alloc (.cells #[.bool false, .int .i64 0, .int .i64 0, .int .i64 0, .bool false, .bool false, .bool false, .bool false, .bool false] 25)).drewN n) := fun n => below_drewN (by go_grown) n
  have h1 := h.below (hb0 nq)
  refine (index_two _ p (s * 18) 22 _ (fun l => fitsB l tag page) (at_ L (2 * s)) (at_ L (2 * s + 1)) (find1_tells _ _ _ tag page (by go_simp) (by go_simp) (by go_simp) (by go_simp)) h1.lt (h1.at9 (2 * s) _ (by omega) (by omega)) (h1.at9 (2 * s + 1) _ (by omega) (by omega))).mono ?_
  rintro e w1 ⟨rfl, hb1⟩
  have hB := b_then (hb0 nq) hb1
  have h2 := h.below hB
  have hz := hb1.size
  simp only [World.size_alloc, World.drewN] at hz
  have z1 : w.heap.size + 1 + 1 < w1.heap.size := by omega
  have hr := heap_below hb1 (show ((((w.alloc (.cells #[.int .i64 tag] 3)).alloc (.cells #[.int .i64 page] 3)).alloc (.cells #[.bool false, .int .i64 0, .int .i64 0, .int .i64 0, .bool false, .bool false, .bool false, .bool false, .bool false] 25)).drewN nq).heap[w.heap.size + 1 + 1]? = _ from by
    have := heap_new ((w.alloc (.cells #[.int .i64 tag] 3)).alloc (.cells #[.int .i64 page] 3)) (.cells #[.bool false, .int .i64 0, .int .i64 0, .int .i64 0, .bool false, .bool false, .bool false, .bool false, .bool false] 25)
    rwa [World.size_alloc, World.size_alloc] at this)
  obtain ⟨R, hR⟩ : ∃ R, R = w.heap.size + 1 + 1 := ⟨_, rfl⟩
  rw [← hR] at hr z1
  have hRw : w.heap.size ≤ R := by omega
  have fr : ∀ o, w1.frozen? ⟨R, o, none⟩ = false := fun o => frozen_heap hr o
  have r0 : w1.cell? ⟨R, 0, none⟩ = some (.bool false) := cell_heap hr 0
  have r1 : w1.cell? ⟨R, 1, none⟩ = some (.int .i64 0) := cell_heap hr 1
  have r2 : w1.cell? ⟨R, 2, none⟩ = some (.int .i64 0) := cell_heap hr 2
  have r3 : w1.cell? ⟨R, 3, none⟩ = some (.int .i64 0) := cell_heap hr 3
  have r4 : w1.cell? ⟨R, 4, none⟩ = some (.bool false) := cell_heap hr 4
  have r5 : w1.cell? ⟨R, 5, none⟩ = some (.bool false) := cell_heap hr 5
  have r6 : w1.cell? ⟨R, 6, none⟩ = some (.bool false) := cell_heap hr 6
  have r7 : w1.cell? ⟨R, 7, none⟩ = some (.bool false) := cell_heap hr 7
  have r8 : w1.cell? ⟨R, 8, none⟩ = some (.bool false) := cell_heap hr 8
  have HR := Lib.hid hr
  have hR' := Lib.hid hR
  clear hr
  unfold idx2
  by_cases hx : fitsB (at_ L (2 * s)) tag page = true
  · obtain ⟨c0, c1, c2, c3, c4, c5, c6, c7, c8⟩ := h2.reads (2 * s) (s * 18) (by omega) (by omega)
    rw [if_pos hx]
    rw [← hR]
    have hRp : p < R := by omega
    clear hR
    go_wp2_with fail
    refine bodyPost_ret (by simp [results, Try.results11, go_sem, r0, r1, r2, r3, r4, r5, r6, r7, r8]; try rfl) rfl ?_
    exact ⟨ret_v (by rw [HFE.out, if_pos hx]), by go_grown⟩
  · rw [if_neg hx]
    by_cases hy : fitsB (at_ L (2 * s + 1)) tag page = true
    · obtain ⟨c0, c1, c2, c3, c4, c5, c6, c7, c8⟩ := h2.reads (2 * s + 1) (s * 18 + 9) (by omega) (by omega)
      rw [if_pos hy]
      rw [← hR]
      have hRp : p < R := by omega
      clear hR
      go_wp2_with fail
      refine bodyPost_ret (by simp [results, Try.results11, go_sem, r0, r1, r2, r3, r4, r5, r6, r7, r8]; try rfl) rfl ?_
      exact ⟨ret_v (by rw [HFE.out, if_neg hx, if_pos hy]), by go_grown⟩
    · rw [if_neg hy]
      rw [← hR]
      have hRp : p < R := by omega
      clear hR
      go_wp2_with fail
      refine bodyPost_ret (by simp [results, Try.results11, go_sem, r0, r1, r2, r3, r4, r5, r6, r7, r8]; try rfl) rfl ?_
      exact ⟨ret_v (by rw [HFE.out, if_neg hx, if_neg hy]; rfl), by go_grown⟩
end Go.Proofs.Ythnojhldpbjkoaa
