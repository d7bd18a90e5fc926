/- Slices of ints: rows of one's own; slices.Index, Contains, Clone at []int. No condition but bounds on lengths. -/
import Derived.Test.YtbbohjmkippigaaTch
import Derived.Test.YtbbohjmkippigaaApp2
import Derived.RegionTactic
import Derived.BigRegion
import Derived.Lib.Hide
import Derived.Deep.DeepCutAuto
namespace Go.Proofs.Ytbbohjmkippigaa
open Go.ChangeShapes Go.WideShapes Go.ChangeAt Go.RowKit
set_option linter.unusedVariables false
set_option linter.unusedSimpArgs false

abbrev ivs (l : List Int) : List Value := l.map (Value.int .i64)
theorem ivs_one (l : List Int) : ∀ u ∈ ivs l, u.oneCell' = true := by
  intro u hu
  obtain ⟨x, _, rfl⟩ := List.mem_map.1 hu
  rfl
/-- A list of ints of one's own. -/
def IRow (w : World) (base : Nat) (v : Value) (l : List Int) : Prop := w.ownsRow base 3 1 v l.length (ivs l)
theorem IRow.cell {w : World} {base : Nat} {v : Value} {l : List Int} (h : IRow w base v l) (k : Nat) (hk : k < l.length) :
    ∃ b cap, v = .slice (some ⟨b, 0, none⟩) l.length cap ∧ base ≤ b ∧ b < w.heap.size ∧ w.cell? ⟨b, k, none⟩ = some (.int .i64 l[k]) := by
  obtain ⟨b, cap, hv, hb, hbw, hc⟩ := row_cells h (by omega)
  refine ⟨b, cap, hv, hb, hbw, ?_⟩
  rw [hc k (by simpa using hk), List.getElem?_map, List.getElem?_eq_getElem hk]; rfl
theorem IRow.nil (w : World) (base : Nat) : IRow w base (.slice none 0 0) [] := World.ownsRow_nil _ _ _ _
/-- What can be read as a list of ints. -/
def IRd (w : World) (A : Option Addr) (l : List Int) : Prop := (A = none ∧ l = []) ∨ ∃ b off, A = some ⟨b, off, none⟩ ∧ b < w.heap.size ∧ ∀ k (hk : k < l.length), w.cell? ⟨b, off + k, none⟩ = some (.int .i64 l[k])
theorem IRow.rd {w : World} {base : Nat} {A : Option Addr} {n cap : Nat} {l : List Int} (h : IRow w base (.slice A n cap) l) : IRd w A l := by
  by_cases h0 : 0 < l.length
  · obtain ⟨b, cap', hv, _, hb, _⟩ := h.cell 0 h0
    simp only [Value.slice.injEq] at hv
    refine .inr ⟨b, 0, hv.1, hb, fun k hk => ?_⟩
    obtain ⟨b', cap2, hv', _, _, hc⟩ := h.cell k hk
    rw [hv.1] at hv'
    simp only [Value.slice.injEq, Option.some.injEq, Addr.mk.injEq] at hv'
    rw [Nat.zero_add, hv'.1.1]; exact hc
  · have hl : l = [] := List.eq_nil_of_length_eq_zero (by omega)
    subst hl
    rcases h.2 with ⟨hv, _⟩ | ⟨b, cap', cur, hv, hb, hg, _⟩
    · simp only [Value.slice.injEq] at hv
      exact .inl ⟨hv.1, rfl⟩
    · simp only [Value.slice.injEq] at hv
      exact .inr ⟨b, 0, hv.1, heap_lt hg, fun k hk => by simp at hk⟩
theorem IRd.below {w w' : World} {A : Option Addr} {l : List Int} (h : IRd w A l) (hb : Below w.heap.size w w') : IRd w' A l := by
  rcases h with h | ⟨b, off, hA, hlt, hc⟩
  · exact .inl h
  · exact .inr ⟨b, off, hA, Nat.lt_of_lt_of_le hlt hb.size, fun k hk => (hb.cell (p := ⟨b, off + k, none⟩) hlt).trans (hc k hk)⟩
theorem IRd.touch {w w' : World} {S : Nat → Prop} {A : Option Addr} {l : List Int} (h : IRd w A l) (ht : Touch S w w') (hS : ∀ b off, A = some ⟨b, off, none⟩ → ¬ S b) : IRd w' A l := by
  rcases h with h | ⟨b, off, hA, hlt, hc⟩
  · exact .inl h
  · exact .inr ⟨b, off, hA, Nat.lt_of_lt_of_le hlt ht.size, fun k hk => (World.cell?_of_block (ht.block b hlt (hS b off hA))).trans (hc k hk)⟩
theorem IRd.rdl {w : World} {A : Option Addr} {n cap : Nat} {l : List Int} (h : IRd w A l) (hn : n = l.length) (hc : A = none → cap = 0) : Rd w 1 (.slice A n cap) n (ivs l) := by
  refine ⟨by simp [hn], ?_⟩
  rcases h with ⟨rfl, rfl⟩ | ⟨b, off, rfl, hlt, h⟩
  · left; rw [hc rfl, hn]; exact ⟨rfl, rfl⟩
  · right
    refine ⟨_, cap, rfl, fun j u hj => ?_⟩
    have hjl : j < l.length := by
      have := (List.getElem?_eq_some_iff.1 hj).1
      simpa using this
    rw [List.getElem?_map, List.getElem?_eq_getElem hjl] at hj
    simp only [Option.map_some, Option.some.injEq] at hj
    rw [← hj, ← h j hjl]
    congr 1
    unfold Addr.add
    split <;> simp_all
theorem under31 : Try.prog.underlying 44 = some (.slice 3) := by kernel_rfl
theorem info3 : (Try.prog.info? 3).map (fun i => (i.zero, i.size, i.bytes)) = some (some (.int .i64 0), 1, 8) := by kernel_rfl
/-- The first place of a number, or -1. -/
def idxI : List Int → Int → Int → Int
  | [], _, _ => -1
  | y :: r, x, i => if x = y then i else idxI r x (i + 1)
theorem idxI_spec (x : Int) : ∀ (l : List Int) (i : Nat), (idxI l x i = -1 ∧ x ∉ l) ∨ ∃ k : Nat, idxI l x i = ((i + k : Nat) : Int) ∧ ∃ h : k < l.length, l[k] = x ∧ ∀ j (hj : j < k), l[j]'(by omega) ≠ x
  | [], i => .inl ⟨rfl, by simp⟩
  | y :: r, i => by
    unfold idxI
    by_cases e : x = y
    · rw [if_pos e]
      exact .inr ⟨0, by simp, by simp, by simp [e], fun j hj => by omega⟩
    · rw [if_neg e]
      have ih := idxI_spec x r (i + 1)
      rw [show ((i : Int) + 1) = ((i + 1 : Nat) : Int) by omega]
      rcases ih with ⟨h1, h2⟩ | ⟨k, h1, h2, h3, h4⟩
      · exact .inl ⟨h1, by simp [e, h2]⟩
      · refine .inr ⟨k + 1, by rw [h1]; congr 1; omega, by simp; omega, by simpa using h3, fun j hj => ?_⟩
        cases j with
        | zero => simpa using fun h => e h.symm
        | succ j => simpa using h4 j (by omega)
set_option maxHeartbeats 2000000 in
theorem index_any {w : World} {A : Option Addr} {l : List Int} (h : IRd w A l) (hl : l.length < 4611686018427387904) (cap : Nat) (x : Int) :
    Calls Try.prog 23 #[.slice A l.length cap, .int .i64 x] w fun e w' => e = .returned (.int .i64 (idxI l x 0)) ∧ w' = w := by
  go_enter Try.func23, Try.ntmps23
  go_wp2_with fail
  go_loop [8] (fun i => ∃ k : Nat, i = .int .i64 k ∧ k ≤ l.length ∧ Hid (idxI l x 0 = idxI (l.drop k) x k)) (fun i => l.length - (intOf i).toNat)
  case atStart => exact ⟨0, rfl, by omega, Lib.hid rfl⟩
  case round =>
    obtain ⟨k, rfl, hle, HF⟩ := hrel
    by_cases hlt : k < l.length
    · have f0 : decide (k < l.length) = true := decide_eq_true hlt
      have hd : idxI (l.drop k) x k = if x = l[k] then (k : Int) else idxI (l.drop (k + 1)) x (k + 1) := by
        rw [List.drop_eq_getElem_cons hlt]; rfl
      rcases h with ⟨_, rfl⟩ | ⟨b, off, rfl, hb, hc⟩
      · simp at hlt
      have hck := hc k hlt
      clear hc
      generalize l[k] = y at hck hd
      have HD := Lib.hid hd
      clear hd
      obtain ⟨n, hn⟩ : ∃ n, n = l.length := ⟨_, rfl⟩
      rw [← hn] at hlt hle hl f0 ⊢
      have HN := Lib.hid hn
      clear hn
      by_cases e : x = y
      · have e1 : (x == y) = true := by simp [e]
        have HE := Lib.hid e
        clear e
        go_wp2
        go_ret
        exact ⟨ret_v (by rw [HF.out, HD.out, if_pos HE.out]; rfl), rfl⟩
      · have e1 : (x == y) = false := by simp [e]
        have HE := Lib.hid e
        clear e
        go_wp2
        go_round
        case rel => exact ⟨k + 1, by go_num, by omega, Lib.hid (HF.out.trans (by rw [HD.out, if_neg HE.out]; rfl))⟩
        case measure => simp [intOf]; omega
    · have f0 : decide (k < l.length) = false := decide_eq_false hlt
      have hdr : idxI (l.drop k) x k = -1 := by rw [List.drop_eq_nil_of_le (by omega)]; rfl
      have HDR := Lib.hid hdr
      obtain ⟨n, hn⟩ : ∃ n, n = l.length := ⟨_, rfl⟩
      rw [← hn] at hlt hle hl f0 ⊢
      clear hn hdr
      go_wp2
      go_ret
      exact ⟨ret_v (by rw [HF.out, HDR.out]; rfl), rfl⟩
theorem contains_any {w : World} {A : Option Addr} {l : List Int} (h : IRd w A l) (hl : l.length < 4611686018427387904) (cap : Nat) (x : Int) :
    Calls Try.prog 14 #[.slice A l.length cap, .int .i64 x] w fun e w' => e = .returned (.bool (decide (x ∈ l))) ∧ w' = w := by
  have hi : decide (0 ≤ idxI l x 0) = decide (x ∈ l) := by
    rcases idxI_spec x l 0 with ⟨h1, h2⟩ | ⟨k, h1, h2, h3, _⟩
    · rw [show ((0 : Nat) : Int) = 0 from rfl] at h1
      rw [h1]; simp [h2]
    · rw [show ((0 : Nat) : Int) = 0 from rfl] at h1
      rw [h1]
      have : x ∈ l := by rw [← h3]; exact List.getElem_mem h2
      simp [this]
  have HI := Lib.hid hi
  clear hi
  go_enter Try.func14, Try.ntmps14
  go_wp2_with fail
  refine (index_any h hl cap x).mono ?_
  rintro e w' ⟨rfl, rfl⟩
  go_wp2
  go_returns
  exact ⟨ret_v (by rw [← HI.out]; rfl), rfl⟩
set_option maxHeartbeats 1000000 in
theorem clone_any {w : World} {A : Option Addr} {l : List Int} (h : IRd w A l) (hl : l.length ≤ 1000000) (cap : Nat) (hc : A = none → cap = 0) :
    Calls Try.prog 15 #[.slice A l.length cap] w fun e w' => ∃ v, e = .returned v ∧ Below w.heap.size w w' ∧ IRow w' w.heap.size v l := by
  have hq : ∀ (W : World) (A : Option Addr) (n c : Nat), (binOp .eql 44 (.slice A n c) (.slice none 0 0)).run Try.prog W = .ok (.bool A.isNone) W := fun W A n c => Lib.run_eql_slice_nil W 44 3 A n c 0 0 under31
  cases hA : A with
  | none =>
    subst hA
    have hl0 : l = [] := by
      rcases h with ⟨_, h⟩ | ⟨b, off, hA, _⟩
      · exact h
      · cases hA
    subst hl0
    rw [hc rfl]
    go_enter Try.func15, Try.ntmps15
    go_wp2
    go_returns
    exact ⟨_, rfl, Below.refl _ _, IRow.nil _ _⟩
  | some a =>
    subst hA
    obtain ⟨i0, hi, hz0, hz1, hz2⟩ := info_parts info3
    have hrd := (h.rdl (n := l.length) (cap := cap) rfl (fun e => by cases e)).below ((Below.refl w.heap.size w).alloc (Nat.le_refl _) (.cells #[] 3))
    have ho := World.ownsRow_lit (base := w.heap.size) (e := 3) (size := 1) w #[] 0 (Nat.le_refl _) (by simp [maxLen]) (by simp)
    obtain ⟨v2, w3, ha, ho2, g2⟩ := run_app (P := Try.prog) w.heap.size 44 44 3 under31 hi hz0 hz1 hz2 rfl (by decide) ho hrd (ivs_one l) (by simp [maxLen]; omega) (by omega) (by rw [World.size_alloc]; omega)
    have hB : Below w.heap.size w w3 := Below.grown ((Below.refl w.heap.size w).alloc (Nat.le_refl _) (.cells #[] 3)) g2 (by rw [World.size_alloc]; omega) (fun k e => by simp [Value.ownBlock] at e; omega)
    rw [Nat.zero_add] at ho2
    have HO : Hid (IRow w3 w.heap.size v2 l) := Lib.hid ho2
    have HA := Lib.hid ha
    obtain ⟨n, hn⟩ : ∃ n, n = l.length := ⟨_, rfl⟩
    rw [← hn] at HA ⊢
    clear ha ho ho2 hrd g2 hi hz0 hz1 hz2 hn
    go_enter Try.func15, Try.ntmps15
    go_wp2_with (at_builtin; refine wpList_app rfl (.tmp 5) (.tmp 6) 44 rfl rfl rfl HA.out ?_)
    go_returns
    exact ⟨v2, rfl, hB, HO.out⟩
end Go.Proofs.Ytbbohjmkippigaa
