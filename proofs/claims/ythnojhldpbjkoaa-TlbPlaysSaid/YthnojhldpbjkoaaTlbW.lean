/- Contracts of the package tlb (layer 5): what writes. No condition but the branch's. -/
import Derived.Test.YthnojhldpbjkoaaTlb
import Derived.Test.YthnojhldpbjkoaaTch
namespace Go.Proofs.Ythnojhldpbjkoaa
open Go.ChangeShapes Go.WideShapes Go.ChangeAt Go.RowKit
set_option linter.unusedVariables false
set_option linter.unusedSimpArgs false

theorem TlbAt.touch {S : Nat → Prop} {w w' : World} {p : Nat} {L : List Ln} (h : TlbAt w p L) (ht : Touch S w w') (hn : ¬ S p) : TlbAt w' p L := ⟨ht.heap h.cells hn, h.len⟩
/-- Nine stores: one line is another one. -/
theorem TlbAt.store {w : World} {p : Nat} {L : List Ln} (h : TlbAt w p L) (k o : Nat) (hk : k < 16) (ho : o = k * 9) (l : Ln) :
    TlbAt (((((((((w.setCell ⟨p, o, none⟩ (.bool l.v)).setCell ⟨p, o + 1, none⟩ (.int .i64 l.tag)).setCell ⟨p, o + 2, none⟩ (.int .i64 l.page)).setCell ⟨p, o + 3, none⟩ (.int .i64 l.frame)).setCell ⟨p, o + 4, none⟩ (.bool l.wr)).setCell ⟨p, o + 5, none⟩ (.bool l.us)).setCell ⟨p, o + 6, none⟩ (.bool l.ex)).setCell ⟨p, o + 7, none⟩ (.bool l.gl)).setCell ⟨p, o + 8, none⟩ (.bool l.di)) p (L.set k l) := by
  subst ho
  refine ⟨?_, by rw [List.length_set]; exact h.len⟩
  have e := setCell_heap (setCell_heap (setCell_heap (setCell_heap (setCell_heap (setCell_heap (setCell_heap (setCell_heap (setCell_heap h.cells (o := k * 9) (.bool l.v)) (o := k * 9 + 1) (.int .i64 l.tag)) (o := k * 9 + 2) (.int .i64 l.page)) (o := k * 9 + 3) (.int .i64 l.frame)) (o := k * 9 + 4) (.bool l.wr)) (o := k * 9 + 5) (.bool l.us)) (o := k * 9 + 6) (.bool l.ex)) (o := k * 9 + 7) (.bool l.gl)) (o := k * 9 + 8) (.bool l.di)
  rw [lcells_set L k l (by rw [h.len]; exact hk)] at e
  exact e
theorem Touch.nine {S : Nat → Prop} {w w1 : World} (h : Touch S w w1) {p : Nat} (hp : S p ∨ w.heap.size ≤ p) (o0 o1 o2 o3 o4 o5 o6 o7 o8 : Nat) (v0 v1 v2 v3 v4 v5 v6 v7 v8 : Value) :
    Touch S w (((((((((w1.setCell ⟨p, o0, none⟩ v0).setCell ⟨p, o1, none⟩ v1).setCell ⟨p, o2, none⟩ v2).setCell ⟨p, o3, none⟩ v3).setCell ⟨p, o4, none⟩ v4).setCell ⟨p, o5, none⟩ v5).setCell ⟨p, o6, none⟩ v6).setCell ⟨p, o7, none⟩ v7).setCell ⟨p, o8, none⟩ v8) :=
  ((((((((h.setCell (a := ⟨p, o0, none⟩) hp v0).setCell (a := ⟨p, o1, none⟩) hp v1).setCell (a := ⟨p, o2, none⟩) hp v2).setCell (a := ⟨p, o3, none⟩) hp v3).setCell (a := ⟨p, o4, none⟩) hp v4).setCell (a := ⟨p, o5, none⟩) hp v5).setCell (a := ⟨p, o6, none⟩) hp v6).setCell (a := ⟨p, o7, none⟩) hp v7).setCell (a := ⟨p, o8, none⟩) hp v8
def dropT (f : Ln → Bool) (L : List Ln) : List Ln := L.map fun l => if f l then zln else l
/-- What Evict does at a place. -/
theorem evict_ok {w : World} {p : Nat} {L : List Ln} (h : TlbAt w p L) (s y : Nat) (hs : s < 8) (hy : y < 2) :
    Calls Try.prog 27 #[.pointer (some ⟨p, 0, none⟩), .int .i64 s, .int .i64 y] w fun e w' => e = .returned (.int .i64 0) ∧ Touch (· = p) w w' ∧ TlbAt w' p (L.set (2 * s + y) zln) := by
  obtain ⟨c0, c1, c2, c3, c4, c5, c6, c7, c8⟩ := h.reads (2 * s + y) (s * 18 + y * 9) (by omega) (by omega)
  have fr := h.free
  have hlt := h.lt
  have i0 : (0 : Int) ≤ s := by omega
  have i1 : (s : Int) < 8 := by omega
  have i2 : (0 : Int) ≤ y := by omega
  have i3 : (y : Int) < 2 := by omega
  go_enter Try.func27, Try.ntmps27
  go_wp2_with fail
  go_returns
  exact ⟨rfl, Touch.nine (Touch.refl (fun k => k = p) w) (.inl rfl) _ _ _ _ _ _ _ _ _ _ _ _ _ _ _ _ _ _, h.store (2 * s + y) _ (by omega) (by omega) zln⟩
/-- The first n of the places gone over. -/
def dropN (f : Ln → Bool) (n : Nat) (L : List Ln) : List Ln := dropT f (L.take n) ++ L.drop n
theorem dropT_length (f : Ln → Bool) (L : List Ln) : (dropT f L).length = L.length := by unfold dropT; simp
theorem dropN_at (f : Ln → Bool) (n : Nat) (L : List Ln) (h : n < L.length) : at_ (dropN f n L) n = at_ L n := by
  unfold at_ dropN
  rw [List.getD_eq_getElem?_getD, List.getD_eq_getElem?_getD, List.getElem?_append_right (by rw [dropT_length, List.length_take]; omega), dropT_length, List.length_take, List.getElem?_drop]
  congr 2; omega
theorem dropN_succ (f : Ln → Bool) (n : Nat) (L : List Ln) (h : n < L.length) : dropN f (n + 1) L = (dropN f n L).set n (if f (at_ L n) then zln else at_ L n) := by
  unfold dropN
  have e : L.take (n + 1) = L.take n ++ [at_ L n] := by
    rw [List.take_add_one, at_get h]; rfl
  have e2 : L.drop n = at_ L n :: L.drop (n + 1) := by
    have := at_get h
    rw [List.drop_eq_getElem_cons h]
    rw [List.getElem?_eq_getElem h] at this
    congr 1
    simpa using this
  have el : (dropT f (L.take n)).length = n := by rw [dropT_length, List.length_take]; omega
  rw [e2, List.set_append_right _ _ (by omega), el, Nat.sub_self, e]
  show _ = _ ++ (if f (at_ L n) = true then zln else at_ L n) :: L.drop (n + 1)
  unfold dropT
  rw [List.map_append, List.append_assoc]
  rfl
theorem dropN_all (f : Ln → Bool) (L : List Ln) : dropN f L.length L = dropT f L := by unfold dropN; simp
theorem dropN_length (f : Ln → Bool) (n : Nat) (L : List Ln) : (dropN f n L).length = L.length := by unfold dropN; rw [List.length_append, dropT_length, List.length_take, List.length_drop]; omega
theorem dropN_same (f : Ln → Bool) (n : Nat) (L : List Ln) (h : n < L.length) (hf : f (at_ L n) = false) : dropN f (n + 1) L = dropN f n L := by
  rw [dropN_succ f n L h, hf]
  apply List.ext_getElem?
  intro j
  rw [List.getElem?_set]
  by_cases e : n = j
  · subst e
    have := at_get (L := dropN f n L) (k := n) (by rw [dropN_length]; exact h)
    rw [dropN_at f n L h] at this
    rw [if_pos rfl, if_pos (by rw [dropN_length]; exact h), this]; rfl
  · rw [if_neg e]
/-- What a closure of one line tells, while only block p turns. -/
def TellsT (w : World) (p g : Nat) (cap : Array Value) (f : Ln → Bool) : Prop :=
  (∀ args W, (callFunc g args).run Try.prog W = .ok (.enter g args) W) ∧
  ∀ (W : World) (l : Ln), Touch (· = p) w W → Calls Try.prog g (#[l.val] ++ cap) W fun e w' => e = .returned (.bool (f l)) ∧ Below W.heap.size W w'
set_option maxHeartbeats 1000000 in
theorem drop_any {w : World} {p : Nat} {L : List Ln} (h : TlbAt w p L) (g : Nat) (cap : Array Value) (f : Ln → Bool) (hf : TellsT w p g cap f) :
    Calls Try.prog 23 #[.pointer (some ⟨p, 0, none⟩), .func (.func g) #[] cap] w fun e w' => e = .returned (.tuple #[]) ∧ Touch (· = p) w w' ∧ TlbAt w' p (dropT f L) := by
  obtain ⟨eg, hf⟩ := hf
  have HF := Lib.hid hf
  have HL := Lib.hid h.len
  clear hf
  go_enter Try.func23, Try.ntmps23
  go_wp2_with fail
  go_loopw [6] (fun i wr => ∃ k : Nat, i = .int .i64 k ∧ k ≤ 8 ∧ Touch (fun k => k = p) w wr ∧ TlbAt wr p (dropN f (2 * k) L)) (fun i _ => (8 - intOf i).toNat)
  case atStart => exact ⟨0, rfl, by omega, Touch.refl _ _, h⟩
  case round =>
    obtain ⟨k, rfl, hle, hT, hA⟩ := hrel
    by_cases hk : k < 8
    · have dk : decide ((k : Int) < 8) = true := decide_eq_true (by omega)
      go_wp2_with fail
      obtain ⟨wo, rfl⟩ : ∃ wo : World, wo = wr := ⟨_, rfl⟩
      go_loopw [9] (fun i wr => ∃ j : Nat, i = .int .i64 j ∧ j ≤ 2 ∧ Touch (fun k => k = p) w wr ∧ TlbAt wr p (dropN f (2 * k + j) L)) (fun i _ => (2 - intOf i).toNat)
      case atStart => exact ⟨0, rfl, by omega, hT, hA⟩
      case round =>
        clear hT hA
        obtain ⟨j, rfl, hle2, hT, hA⟩ := hrel
        by_cases hj : j < 2
        · obtain ⟨c0, c1, c2, c3, c4, c5, c6, c7, c8⟩ := hA.reads (2 * k + j) (k * 18 + j * 9) (by omega) (by omega)
          rw [dropN_at f _ L (by rw [HL.out]; omega)] at c0 c1 c2 c3 c4 c5 c6 c7 c8
          have hcall := HF.out wr (at_ L (2 * k + j)) hT
          have hlt := hA.lt
          have i0 : (0 : Int) ≤ k := by omega
          have i1 : (k : Int) < 8 := by omega
          have i2 : (0 : Int) ≤ j := by omega
          have i3 : (j : Int) < 2 := by omega
          have hd := dropN_succ f (2 * k + j) L (by rw [HL.out]; omega)
          have hsame := dropN_same f (2 * k + j) L (by rw [HL.out]; omega)
          have HD := Lib.hid hd
          have HS := Lib.hid hsame
          clear hd hsame
          cases hfx : f (at_ L (2 * k + j)) with
          | false =>
            rw [hfx] at hcall
            have HX := Lib.hid hfx
            clear hfx
            go_wp2_with fail
            refine hcall.mono ?_
            rintro e w1 ⟨rfl, hb1⟩
            have hT1 := hT.trans (Touch.of_below hb1 (fun _ => False)) (fun _ h => h.elim)
            have hA1 := hA.below hb1
            rw [← HS.out HX.out] at hA1
            clear hA hT hb1 c0 c1 c2 c3 c4 c5 c6 c7 c8
            go_wp2_with fail
            go_roundw
            case rel => exact ⟨j + 1, by go_num, by omega, hT1, hA1⟩
            case measure => simp [intOf]; omega
          | true =>
            rw [hfx] at hcall
            have HX := Lib.hid hfx
            clear hfx
            go_wp2_with fail
            refine hcall.mono ?_
            rintro e w1 ⟨rfl, hb1⟩
            have hT1 := hT.trans (Touch.of_below hb1 (fun _ => False)) (fun _ h => h.elim)
            have hA1 := hA.below hb1
            clear c0 c1 c2 c3 c4 c5 c6 c7 c8
            obtain ⟨c0, c1, c2, c3, c4, c5, c6, c7, c8⟩ := hA1.reads (2 * k + j) (k * 18 + j * 9) (by omega) (by omega)
            have fr := hA1.free
            have hT2 := Touch.nine hT1 (p := p) (.inl rfl) (k * 18 + j * 9) (k * 18 + j * 9 + 1) (k * 18 + j * 9 + 2) (k * 18 + j * 9 + 3) (k * 18 + j * 9 + 4) (k * 18 + j * 9 + 5) (k * 18 + j * 9 + 6) (k * 18 + j * 9 + 7) (k * 18 + j * 9 + 8) (.bool false) (.int .i64 0) (.int .i64 0) (.int .i64 0) (.bool false) (.bool false) (.bool false) (.bool false) (.bool false)
            have hA2 := hA1.store (2 * k + j) (k * 18 + j * 9) (by omega) (by omega) zln
            have hd2 := HD.out
            rw [HX.out, if_pos rfl] at hd2
            rw [← hd2] at hA2
            have HD2 := Lib.hid hd2
            clear hd2
            go_wp2_with fail
            go_roundw
            case rel => exact ⟨j + 1, by go_num, by omega, hT2, hA2⟩
            case measure => simp [intOf]; omega
        · have : j = 2 := by omega
          subst this
          go_wp2_with fail
          go_roundw
          case rel => exact ⟨k + 1, by go_num, by omega, hT, hA⟩
          case measure => simp [intOf]; omega
    · have : k = 8 := by omega
      subst this
      go_wp2_with fail
      go_returns
      refine ⟨rfl, hT, ?_⟩
      rw [← dropN_all, HL.out]; exact hA
end Go.Proofs.Ythnojhldpbjkoaa
