/- The package pcid (layer 11): a Tags object told by numbers and two lists of pairs; begin, New, the look-ups. No condition but the branch's. -/
import Derived.Test.YthkhpkfigejbdaaTouch
import Derived.RegionTactic
import Derived.BigRegion
import Derived.Deep.QuietTactic
import Derived.BigQuiet
import Derived.Lib.Hide
namespace Go.Proofs.Ythkhpkfigejbdaa
open Go.ChangeShapes Go.WideShapes Go.ChangeAt Go.RowKit
open Go.ChangeMaps (setBlock heap_setBlock_same heap_setBlock_other)
set_option linter.unusedVariables false
set_option linter.unusedSimpArgs false

theorem set_heap {w : World} {b p : Nat} {o o' : Obj} (h : w.heap[p]? = some o') (hne : p ≠ b) : (setBlock w b o).heap[p]? = some o' := by
  show (w.heap.setIfInBounds b o)[p]? = _
  rw [Array.getElem?_setIfInBounds_ne (fun e => hne e.symm)]; exact h
theorem set_same {w : World} {b : Nat} {o o' : Obj} (h : w.heap[b]? = some o') : (setBlock w b o).heap[b]? = some o := by
  show (w.heap.setIfInBounds b o)[b]? = _
  rw [Array.getElem?_setIfInBounds_self_of_lt (heap_lt h)]
theorem set_other {w : World} {b p : Nat} {o : Obj} (hne : p ≠ b) : (setBlock w b o).heap[p]? = w.heap[p]? := by
  show (w.heap.setIfInBounds b o)[p]? = _
  rw [Array.getElem?_setIfInBounds_ne (fun e => hne e.symm)]
theorem setCell_other {w : World} {a : Addr} {v : Value} {p : Nat} (hne : p ≠ a.block) : (w.setCell a v).heap[p]? = w.heap[p]? := Below.heap_setCell w a v p hne
theorem set_cell {w : World} {b p k : Nat} {o : Obj} (hne : p ≠ b) : (setBlock w b o).cell? ⟨p, k, none⟩ = w.cell? ⟨p, k, none⟩ := by
  have : (setBlock w b o).heap[p]? = w.heap[p]? := by
    show (w.heap.setIfInBounds b o)[p]? = _
    rw [Array.getElem?_setIfInBounds_ne (fun e => hne e.symm)]
  simp [World.cell?, this]
theorem set_frozen {w : World} {b p k : Nat} {o : Obj} (hne : p ≠ b) : (setBlock w b o).frozen? ⟨p, k, none⟩ = w.frozen? ⟨p, k, none⟩ := by
  have : (setBlock w b o).heap[p]? = w.heap[p]? := by
    show (w.heap.setIfInBounds b o)[p]? = _
    rw [Array.getElem?_setIfInBounds_ne (fun e => hne e.symm)]
  simp [World.frozen?, this]

/-- An int's value. -/
def iv (n : Int) : Value := .int .i64 n
theorem under32 : Try.prog.underlying 32 = some (.map 3 3) := by kernel_rfl
theorem under3 : Try.prog.underlying 3 = some (.int .i64) := by kernel_rfl
theorem zero3 (w : World) : (zeroValue 3).run Try.prog w = .ok (.int .i64 0) w := by rfl

theorem look_iv {w : World} {b : Nat} {L : List (Int × Int)} (h : MapAL w b (enc iv L)) (k : Int) :
    (Instr.lookup 32 (.map (some b)) (.int .i64 k) true).run Try.prog w = .ok (.tuple #[.int .i64 ((kget L k).getD 0), .bool (kget L k).isSome]) w := by
  rw [run_lookup_al under32 under3 (zero3 w) h k true, aget_enc]
  cases kget L k <;> rfl

/-- A Tags object: its block p, its maps' blocks, who owns a tag, a space's tag. -/
structure TagsAt (w : World) (p mo mt : Nat) (most next gen : Int) (O T : List (Int × Int)) : Prop where
  cells : w.heap[p]? = some (.cells #[.int .i64 most, .int .i64 next, .int .i64 gen, .map (some mo), .map (some mt)] 51 (0, 0))
  own : MapAL w mo (enc iv O)
  tag : MapAL w mt (enc iv T)
  ne : mo ≠ mt
  nep : p ≠ mo
  nep' : p ≠ mt
theorem TagsAt.grow {w w' : World} {p mo mt : Nat} {most next gen : Int} {O T : List (Int × Int)} (h : TagsAt w p mo mt most next gen O T) (hb : ∀ k, k < w.heap.size → k = p ∨ k = mo ∨ k = mt → w'.heap[k]? = w.heap[k]?) : TagsAt w' p mo mt most next gen O T :=
  ⟨(hb p (heap_lt h.cells) (.inl rfl)).trans h.cells, h.own.of (hb mo h.own.lt (.inr (.inl rfl))), h.tag.of (hb mt h.tag.lt (.inr (.inr rfl))), h.ne, h.nep, h.nep'⟩
theorem TagsAt.below {w w' : World} {p mo mt : Nat} {most next gen : Int} {O T : List (Int × Int)} (h : TagsAt w p mo mt most next gen O T) (hb : Below w.heap.size w w') : TagsAt w' p mo mt most next gen O T := h.grow fun k hk _ => hb.block k hk
theorem TagsAt.touch {S : Nat → Prop} {w w' : World} {p mo mt : Nat} {most next gen : Int} {O T : List (Int × Int)} (h : TagsAt w p mo mt most next gen O T) (ht : Touch S w w') (h1 : ¬ S p) (h2 : ¬ S mo) (h3 : ¬ S mt) : TagsAt w' p mo mt most next gen O T :=
  h.grow fun k hk e => ht.block k hk (by rcases e with rfl | rfl | rfl <;> assumption)

section
variable {p mo mt : Nat} {most next gen : Int} {O T : List (Int × Int)}
theorem begin_raw (w : World) {v1 v2 : Value} (h : w.heap[p]? = some (.cells #[.int .i64 most, .int .i64 next, .int .i64 gen, v1, v2] 51 (0, 0))) :
    Calls Try.prog 18 #[.pointer (some ⟨p, 0, none⟩)] w fun e w' => e = .returned (.tuple #[]) ∧ Touch (· = p) w w' ∧ TagsAt w' p w.heap.size (w.heap.size + 1) most 1 gen [] [] := by
  have hmm := @run_makeMap Try.prog
  have hc0 := cell_heap h 0
  have hc1 := cell_heap h 1
  have hc2 := cell_heap h 2
  have hc3 := cell_heap h 3
  have hc4 := cell_heap h 4
  have hf1 := frozen_heap h 1
  have hf3 := frozen_heap h 3
  have hf4 := frozen_heap h 4
  have hp := heap_lt h
  go_enter Try.func18, Try.ntmps18
  go_wp2
  go_returns
  have e2 := heap_set h 1 (.int .i64 1)
  have e3 := heap_set e2 3 (.map (some w.heap.size))
  have e4 := heap_old _ (.map #[] 0) _ (heap_old _ (.map #[] 0) _ (heap_set e3 4 (.map (some (w.heap.size + 1)))))
  have hs : (((w.setCell ⟨p, 1, none⟩ (.int .i64 1)).setCell ⟨p, 3, none⟩ (.map (some w.heap.size))).setCell ⟨p, 4, none⟩ (.map (some (w.heap.size + 1)))).heap.size = w.heap.size := by simp
  have m1 := (MapAL.made (((w.setCell ⟨p, 1, none⟩ (.int .i64 1)).setCell ⟨p, 3, none⟩ (.map (some w.heap.size))).setCell ⟨p, 4, none⟩ (.map (some (w.heap.size + 1))))).alloc (.map #[] 0)
  have m2 := MapAL.made ((((w.setCell ⟨p, 1, none⟩ (.int .i64 1)).setCell ⟨p, 3, none⟩ (.map (some w.heap.size))).setCell ⟨p, 4, none⟩ (.map (some (w.heap.size + 1)))).alloc (.map #[] 0))
  rw [World.size_alloc] at m2
  rw [hs] at m1 m2
  have t1 := (Touch.refl (fun k => k = p) w).setCell (a := ⟨p, 1, none⟩) (.inl rfl) (.int .i64 1)
  have t2 := t1.setCell (a := ⟨p, 3, none⟩) (.inl rfl) (.map (some w.heap.size))
  have t3 := t2.setCell (a := ⟨p, 4, none⟩) (.inl rfl) (.map (some (w.heap.size + 1)))
  refine ⟨rfl, (t3.alloc _).alloc _, e4, m1, m2, ?_, ?_, ?_⟩ <;> omega
theorem new_ok (most : Int) (h1 : 1 ≤ most) (h2 : most ≤ 4095) (w : World) :
    Calls Try.prog 8 #[.int .i64 most] w fun e w' => ∃ p, e = .returned (.tuple #[.pointer (some ⟨p, 0, none⟩), .int .i64 0]) ∧ Below w.heap.size w w' ∧ w.heap.size ≤ p ∧ TagsAt w' p (p + 1) (p + 2) most 1 0 [] [] := by
  have d1 : decide (most < 1) = false := decide_eq_false (by omega)
  have d2 : decide (4095 < most) = false := decide_eq_false (by omega)
  go_enter Try.func8, Try.ntmps8
  go_wp2_with fail
  refine (begin_raw (p := w.heap.size) (most := most) (next := 0) (gen := 0) (v1 := .map none) (v2 := .map none) _ (heap_new w _)).mono ?_
  rintro e w1 ⟨rfl, ht1, hT⟩
  rw [show (w.alloc (.cells #[.int .i64 most, .int .i64 0, .int .i64 0, .map none, .map none] 51)).heap.size = w.heap.size + 1 by simp] at hT
  go_wp2
  go_returns
  refine ⟨w.heap.size, rfl, ?_, Nat.le_refl _, hT⟩
  exact Below.touch ((Below.refl _ _).alloc (Nat.le_refl _) _) ht1 (Nat.le_refl _) (by intro k e; omega)
theorem new_bad (most : Int) (h : ¬ (1 ≤ most ∧ most ≤ 4095)) (w : World) :
    Calls Try.prog 8 #[.int .i64 most] w fun e w' => e = .returned (.tuple #[.pointer none, .int .i64 1]) ∧ Below w.heap.size w w' := by
  by_cases h1 : most < 1
  · have d1 : decide (most < 1) = true := decide_eq_true (by omega)
    clear h
    go_enter Try.func8, Try.ntmps8
    go_wp2
    go_returns
    exact ⟨rfl, by go_grown⟩
  · have d1 : decide (most < 1) = false := decide_eq_false (by omega)
    have d2 : decide (4095 < most) = true := decide_eq_true (by omega)
    clear h
    go_enter Try.func8, Try.ntmps8
    go_wp2
    go_returns
    exact ⟨rfl, by go_grown⟩
theorem tag_any (w : World) (h : TagsAt w p mo mt most next gen O T) (s : Int) :
    Calls Try.prog 14 #[.pointer (some ⟨p, 0, none⟩), .int .i64 s] w fun e w' => e = .returned (.tuple #[.int .i64 ((kget T s).getD 0), .bool (kget T s).isSome]) ∧ w' = w := by
  have hc4 := cell_heap h.cells 4
  have hl := look_iv h.tag s
  go_enter Try.func14, Try.ntmps14
  go_wp2
  go_returns
  exact ⟨rfl, rfl⟩
theorem owner_any (w : World) (h : TagsAt w p mo mt most next gen O T) (s : Int) :
    Calls Try.prog 12 #[.pointer (some ⟨p, 0, none⟩), .int .i64 s] w fun e w' => e = .returned (.tuple #[.int .i64 ((kget O s).getD 0), .bool (kget O s).isSome]) ∧ w' = w := by
  have hc4 := cell_heap h.cells 3
  have hl := look_iv h.own s
  go_enter Try.func12, Try.ntmps12
  go_wp2
  go_returns
  exact ⟨rfl, rfl⟩
theorem generation_any (w : World) (h : TagsAt w p mo mt most next gen O T) :
    Calls Try.prog 11 #[.pointer (some ⟨p, 0, none⟩)] w fun e w' => e = .returned (.int .i64 gen) ∧ w' = w := by
  have hc4 := cell_heap h.cells 2
  go_enter Try.func11, Try.ntmps11
  go_wp2
  go_returns
  exact ⟨rfl, rfl⟩
theorem drop_some (w : World) (h : TagsAt w p mo mt most next gen O T) (s x : Int) (hs : kget T s = some x) :
    Calls Try.prog 13 #[.pointer (some ⟨p, 0, none⟩), .int .i64 s] w fun e w' => e = .returned (.tuple #[]) ∧ Touch (fun k => k = mo ∨ k = mt) w w' ∧ TagsAt w' p mo mt most next gen (kdel O x) (kdel T s) := by
  have hc3 := cell_heap h.cells 3
  have hc4 := cell_heap h.cells 4
  have hl := look_iv h.tag s
  rw [hs] at hl
  simp only [Option.getD_some, Option.isSome_some] at hl
  obtain ⟨o1, hd1, m1⟩ := run_delete_al (P := Try.prog) (ty := 0) under32 under3 h.own x
  obtain ⟨o2, hd2, m2⟩ := run_delete_al (P := Try.prog) (ty := 0) under32 under3 (h.tag.other o1 (fun e => h.ne e.symm)) s
  have hc5 : (setBlock w mo o1).cell? ⟨p, 4, none⟩ = _ := (set_cell h.nep).trans hc4
  go_enter Try.func13, Try.ntmps13
  go_wp2
  go_returns
  have m1' := m1.other o2 h.ne
  rw [adel_enc] at m1' m2
  exact ⟨rfl, ((Touch.refl (fun k => k = mo ∨ k = mt) w).setBlock (.inl (.inl rfl)) o1).setBlock (.inl (.inr rfl)) o2, set_heap (set_heap h.cells h.nep) h.nep', m1', m2, h.ne, h.nep, h.nep'⟩
theorem drop_none (w : World) (h : TagsAt w p mo mt most next gen O T) (s : Int) (hs : kget T s = none) :
    Calls Try.prog 13 #[.pointer (some ⟨p, 0, none⟩), .int .i64 s] w fun e w' => e = .returned (.tuple #[]) ∧ w' = w := by
  have hc3 := cell_heap h.cells 3
  have hc4 := cell_heap h.cells 4
  have hl := look_iv h.tag s
  rw [hs] at hl
  simp only [Option.getD_none, Option.isSome_none] at hl
  go_enter Try.func13, Try.ntmps13
  go_wp2
  go_returns
  exact ⟨rfl, rfl⟩
theorem get_have (w : World) (h : TagsAt w p mo mt most next gen O T) (s x : Int) (hs : kget T s = some x) :
    Calls Try.prog 10 #[.pointer (some ⟨p, 0, none⟩), .int .i64 s] w fun e w' => e = .returned (.tuple #[.int .i64 x, .bool false]) ∧ w' = w := by
  have hc4 := cell_heap h.cells 4
  have hl := look_iv h.tag s
  rw [hs] at hl
  simp only [Option.getD_some, Option.isSome_some] at hl
  go_enter Try.func10, Try.ntmps10
  go_wp2
  go_returns
  exact ⟨rfl, rfl⟩
theorem get_new (w : World) (h : TagsAt w p mo mt most next gen O T) (s : Int) (hs : kget T s = none) (ho : kget O next = none) (hle : next ≤ most) (hin : 0 ≤ next) (hlt : next < 4611686018427387904) :
    Calls Try.prog 10 #[.pointer (some ⟨p, 0, none⟩), .int .i64 s] w fun e w' => e = .returned (.tuple #[.int .i64 next, .bool false]) ∧ Touch (fun k => k = p ∨ k = mo ∨ k = mt) w w' ∧ TagsAt w' p mo mt most (next + 1) gen (kput O next s) (kput T s next) := by
  have hc0 := cell_heap h.cells 0
  have hc1 := cell_heap h.cells 1
  have hc2 := cell_heap h.cells 2
  have hc3 := cell_heap h.cells 3
  have hc4 := cell_heap h.cells 4
  have hf1 := frozen_heap h.cells 1
  have hl := look_iv h.tag s
  rw [hs] at hl
  simp only [Option.getD_none, Option.isSome_none] at hl
  have d1 : decide (most < next) = false := decide_eq_false (by omega)
  have hw : wrap64 (next + 1) = next + 1 := by unfold wrap64; omega
  go_enter Try.func10, Try.ntmps10
  go_wp2_with fail
  go_quiet (fail)
  obtain ⟨X0, X1, X2, c, x0, x1, x2, x3⟩ := run_mapEntry_al (P := Try.prog) under32 under3 zero3 h.tag s (by rw [aget_enc, hs]; rfl) (iv next)
  obtain ⟨Y0, Y1, Y2, d, y0, y1, y2, y3⟩ := run_mapEntry_al (P := Try.prog) under32 under3 zero3 h.own next (by rw [aget_enc, ho]; rfl) (iv s)
  have k1 : ∀ (W : World) v, (W.setCell ⟨p, 1, none⟩ v).heap[mt]? = W.heap[mt]? := fun W v => setCell_other h.nep'.symm
  have k2 : ∀ (W : World) v, (W.setCell ⟨p, 1, none⟩ v).heap[mo]? = W.heap[mo]? := fun W v => setCell_other h.nep.symm
  have k3 : ∀ (W : World) o, (setBlock W mt o).heap[mo]? = W.heap[mo]? := fun W o => set_other h.ne
  have k4 : ∀ (W : World), W.heap[mt]? = some X0 → (setBlock W mt X1).heap[mt]? = some X1 := fun W e => set_same e
  have k5 : ∀ (W : World), W.heap[mo]? = some Y0 → (setBlock W mo Y1).heap[mo]? = some Y1 := fun W e => set_same e
  have k6 : ∀ (W : World), W.drew.heap = W.heap := fun _ => rfl
  simp only [iv] at x2 y2
  go_wp2_with fail
  go_region
  go_wp2
  go_returns
  refine ⟨rfl, ?_, ?_⟩
  · have t1 := (((Touch.refl (fun k => k = p ∨ k = mo ∨ k = mt) w).drewN nq).setCell (a := ⟨p, 1, none⟩) (.inl (.inl rfl)) (.int .i64 (next + 1))).drew
    exact (((t1.setBlock (.inl (.inr (.inr rfl))) X1).setBlock (.inl (.inr (.inr rfl))) X2).setBlock (.inl (.inr (.inl rfl))) Y1).setBlock (.inl (.inr (.inl rfl))) Y2
  · have e1 := heap_set (w := w.drewN nq) h.cells 1 (.int .i64 (next + 1))
    have a1 := x3 (setBlock (((w.drewN nq).setCell ⟨p, 1, none⟩ (.int .i64 (next + 1))).drew) mt X1) (by have := h.tag.lt; rw [size_setBlock]; simpa using this)
    have a2 := y3 (setBlock (setBlock (setBlock (((w.drewN nq).setCell ⟨p, 1, none⟩ (.int .i64 (next + 1))).drew) mt X1) mt X2) mo Y1) (by have := h.own.lt; rw [size_setBlock, size_setBlock, size_setBlock]; simpa using this)
    rw [aput_enc] at a1 a2
    exact ⟨set_heap (set_heap (set_heap (set_heap e1 h.nep') h.nep') h.nep) h.nep, a2, (a1.other _ h.ne.symm).other _ h.ne.symm, h.ne, h.nep, h.nep'⟩
theorem get_over (w : World) (h : TagsAt w p mo mt most next gen O T) (s : Int) (hs : kget T s = none) (hle : most < next) (hm : 1 ≤ most) (hg : 0 ≤ gen) (hg2 : gen < 4611686018427387904) :
    Calls Try.prog 10 #[.pointer (some ⟨p, 0, none⟩), .int .i64 s] w fun e w' => e = .returned (.tuple #[.int .i64 1, .bool true]) ∧ Touch (fun k => k = p) w w' ∧ TagsAt w' p w.heap.size (w.heap.size + 1) most 2 (gen + 1) [(1, s)] [(s, 1)] := by
  have hc0 := cell_heap h.cells 0
  have hc1 := cell_heap h.cells 1
  have hc4 := cell_heap h.cells 4
  have hl := look_iv h.tag s
  rw [hs] at hl
  simp only [Option.getD_none, Option.isSome_none] at hl
  have d1 : decide (most < next) = true := decide_eq_true (by omega)
  have hw : wrap64 (gen + 1) = gen + 1 := by unfold wrap64; omega
  go_enter Try.func10, Try.ntmps10
  go_wp2_with fail
  go_quiet (fail)
  go_wp2_with fail
  refine (begin_raw (most := most) (next := next) (gen := gen) (w.drewN nq) h.cells).mono ?_
  rintro e w1 ⟨rfl, ht1, hT⟩
  have b0 := cell_heap hT.cells 0
  have b1 := cell_heap hT.cells 1
  have b2 := cell_heap hT.cells 2
  have b3 := cell_heap hT.cells 3
  have b4 := cell_heap hT.cells 4
  have c1 := frozen_heap hT.cells 1
  have c2 := frozen_heap hT.cells 2
  clear hc0 hc1 hc4 hl
  change TagsAt w1 p w.heap.size (w.heap.size + 1) most 1 gen [] [] at hT
  have hsz := hT.tag.lt
  obtain ⟨mo', hmo⟩ : ∃ m, m = w.heap.size := ⟨_, rfl⟩
  obtain ⟨mt', hmt⟩ : ∃ m, m = w.heap.size + 1 := ⟨_, rfl⟩
  rw [show (w.drewN nq).heap.size = w.heap.size from rfl, ← hmt, ← hmo] at b3 b4
  rw [← hmt, ← hmo] at hT
  have HMO := Lib.hid hmo
  have HMT := Lib.hid hmt
  clear hmo hmt
  obtain ⟨X0, X1, X2, c, x0, x1, x2, x3⟩ := run_mapEntry_al (P := Try.prog) under32 under3 zero3 hT.tag s rfl (iv 1)
  obtain ⟨Y0, Y1, Y2, d, y0, y1, y2, y3⟩ := run_mapEntry_al (P := Try.prog) under32 under3 zero3 hT.own 1 rfl (iv s)
  have k1 : ∀ (W : World) k v, (W.setCell ⟨p, k, none⟩ v).heap[mt']? = W.heap[mt']? := fun W k v => setCell_other hT.nep'.symm
  have k2 : ∀ (W : World) k v, (W.setCell ⟨p, k, none⟩ v).heap[mo']? = W.heap[mo']? := fun W k v => setCell_other hT.nep.symm
  have k3 : ∀ (W : World) o, (setBlock W mt' o).heap[mo']? = W.heap[mo']? := fun W o => set_other hT.ne
  have k4 : ∀ (W : World), W.heap[mt']? = some X0 → (setBlock W mt' X1).heap[mt']? = some X1 := fun W e => set_same e
  have k5 : ∀ (W : World), W.heap[mo']? = some Y0 → (setBlock W mo' Y1).heap[mo']? = some Y1 := fun W e => set_same e
  have k6 : ∀ (W : World), W.drew.heap = W.heap := fun _ => rfl
  simp only [iv] at x2 y2
  go_wp2_with fail
  go_region
  go_wp2
  go_returns
  refine ⟨rfl, ?_, ?_⟩
  · have t0 := ((Touch.refl (fun k => k = p) w).drewN nq).trans ht1 (fun k h => .inl h)
    have hge : w.heap.size ≤ mo' := by have := HMO.out; omega
    have hge' : w.heap.size ≤ mt' := by have := HMT.out; omega
    have q1 := (((t0.setCell (a := ⟨p, 2, none⟩) (.inl rfl) (.int .i64 (gen + 1))).setCell (a := ⟨p, 1, none⟩) (.inl rfl) (.int .i64 2)).drew)
    exact (((q1.setBlock (.inr hge') X1).setBlock (.inr hge') X2).setBlock (.inr hge) Y1).setBlock (.inr hge) Y2
  · have e1 := heap_set (w := w1) hT.cells 2 (.int .i64 (gen + 1))
    have e2 := heap_set e1 1 (.int .i64 2)
    have a1 := x3 (setBlock ((((w1.setCell ⟨p, 2, none⟩ (.int .i64 (gen + 1))).setCell ⟨p, 1, none⟩ (.int .i64 2))).drew) mt' X1) (by have := hT.tag.lt; rw [size_setBlock]; simpa using this)
    have a2 := y3 (setBlock (setBlock (setBlock ((((w1.setCell ⟨p, 2, none⟩ (.int .i64 (gen + 1))).setCell ⟨p, 1, none⟩ (.int .i64 2))).drew) mt' X1) mt' X2) mo' Y1) (by have := hT.own.lt; rw [size_setBlock, size_setBlock, size_setBlock]; simpa using this)
    rw [aput_enc] at a1 a2
    have q : TagsAt (setBlock (setBlock (setBlock (setBlock ((((w1.setCell ⟨p, 2, none⟩ (.int .i64 (gen + 1))).setCell ⟨p, 1, none⟩ (.int .i64 2))).drew) mt' X1) mt' X2) mo' Y1) mo' Y2) p mo' mt' most 2 (gen + 1) [(1, s)] [(s, 1)] := ⟨set_heap (set_heap (set_heap (set_heap e2 hT.nep') hT.nep') hT.nep) hT.nep, a2, (a1.other _ hT.ne.symm).other _ hT.ne.symm, hT.ne, hT.nep, hT.nep'⟩
    rw [HMO.out, HMT.out] at q
    rw [HMO.out, HMT.out]
    exact q
end
end Go.Proofs.Ythkhpkfigejbdaa
