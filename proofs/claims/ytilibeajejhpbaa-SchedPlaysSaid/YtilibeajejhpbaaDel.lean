/- slices.Delete at []int, in a row of one's own: the row is the list without the piece. No condition but bounds. -/
import Derived.Test.YtilibeajejhpbaaInts
import Derived.Deep.RegionLaw
import Derived.Lib.SliceRun
namespace Go.Proofs.Ytilibeajejhpbaa
open Go.ChangeShapes Go.WideShapes Go.ChangeAt Go.RowKit
set_option linter.unusedVariables false
set_option linter.unusedSimpArgs false

def setL : List Value → Nat → List Value → List Value
  | cs, _, [] => cs
  | cs, o, v :: r => setL (cs.set o v) (o + 1) r
theorem setL_len : ∀ (vs cs : List Value) (o : Nat), (setL cs o vs).length = cs.length
  | [], cs, o => rfl
  | v :: r, cs, o => (setL_len r (cs.set o v) (o + 1)).trans (by simp)
theorem setL_lt : ∀ (vs cs : List Value) (o k : Nat), k < o → (setL cs o vs)[k]? = cs[k]?
  | [], cs, o, k, h => rfl
  | v :: r, cs, o, k, h => (setL_lt r (cs.set o v) (o + 1) k (by omega)).trans (by rw [List.getElem?_set_ne (by omega)])
theorem setL_in : ∀ (vs cs : List Value) (o j : Nat), o + vs.length ≤ cs.length → j < vs.length → (setL cs o vs)[o + j]? = vs[j]?
  | [], cs, o, j, h, hj => by simp at hj
  | v :: r, cs, o, 0, h, hj => (setL_lt r (cs.set o v) (o + 1) o (by omega)).trans (by rw [List.getElem?_set_self (by simp at h; omega)]; rfl)
  | v :: r, cs, o, j + 1, h, hj => by
    have := setL_in r (cs.set o v) (o + 1) j (by simp at h ⊢; omega) (by simpa using hj)
    rw [show o + (j + 1) = o + 1 + j by omega]
    exact this.trans (by simp)
theorem heap_setCells {b : Nat} {t : TypeId} : ∀ (vs cs : List Value) (o : Nat) (w : World), w.heap[b]? = some (.cells cs.toArray t (0, 0)) → (w.setCells b o vs).heap[b]? = some (.cells (setL cs o vs).toArray t (0, 0))
  | [], cs, o, w, h => h
  | v :: r, cs, o, w, h => heap_setCells r (cs.set o v) (o + 1) _ (setCell_heap h v)
theorem Touch.setCells {S : Nat → Prop} {w : World} {b : Nat} (hb : S b) : ∀ (vs : List Value) (o : Nat) {w1 : World}, Touch S w w1 → Touch S w (w1.setCells b o vs)
  | [], _, _, h => h
  | v :: r, o, w1, h => Touch.setCells hb r (o + 1) (h.setCell (a := ⟨b, o, none⟩) (.inl hb) v)
theorem size_setCells (w : World) (b : Nat) (vs : List Value) (o : Nat) : (w.setCells b o vs).heap.size = w.heap.size := by
  induction vs generalizing o w with
  | nil => rfl
  | cons v r ih => show ((w.setCell ⟨b, o, none⟩ v).setCells b (o + 1) r).heap.size = _; rw [ih, World.size_setCell]
theorem zero3 (w : World) : (zeroValue 3).run Try.prog w = .ok (.int .i64 0) w := by go_simp
theorem del_list {l : List Int} {cs : List Value} {i j : Nat} (hcs : cs.take l.length = ivs l) (hij : i < j) (hj : j ≤ l.length) (zs : List Value) :
    (setL (setL cs i ((ivs l).drop j)) (l.length - (j - i)) zs).take (l.length - (j - i)) = ivs (l.take i ++ l.drop j) := by
  have hle : l.length ≤ cs.length := by
    have := congrArg List.length hcs
    simp at this; omega
  have hg : ∀ k, k < l.length → cs[k]? = (ivs l)[k]? := fun k hk => by rw [← hcs, List.getElem?_take_of_lt hk]
  apply List.ext_getElem?
  intro k
  by_cases hk : k < l.length - (j - i)
  · rw [List.getElem?_take_of_lt hk, setL_lt _ _ _ _ hk]
    by_cases hki : k < i
    · rw [setL_lt _ _ _ _ hki, hg k (by omega), ivs, ivs, List.getElem?_map, List.getElem?_map, List.getElem?_append_left (by simp; omega), List.getElem?_take_of_lt hki]
    · obtain ⟨t, rfl⟩ : ∃ t, k = i + t := ⟨k - i, by omega⟩
      rw [setL_in _ _ _ _ (by simp; omega) (by simp; omega), List.getElem?_drop, ivs, ivs, List.getElem?_map, List.getElem?_map, List.getElem?_append_right (by simp; omega), List.getElem?_drop]
      congr 2
      simp only [List.length_take]; omega
  · rw [List.getElem?_eq_none (by simp [setL_len]; omega), List.getElem?_eq_none (by simp; omega)]
set_option maxHeartbeats 4000000 in
theorem delete_any {w : World} {base b cap i j : Nat} {l : List Int} (h : IRow w base (.slice (some ⟨b, 0, none⟩) l.length cap) l) (hij : i < j) (hj : j ≤ l.length) :
    Calls Try.prog 25 #[.slice (some ⟨b, 0, none⟩) l.length cap, .int .i64 i, .int .i64 j] w fun e w' => e = .returned (.slice (some ⟨b, 0, none⟩) (l.length - (j - i)) cap) ∧ Touch (fun k => k = b) w w' ∧ IRow w' base (.slice (some ⟨b, 0, none⟩) (l.length - (j - i)) cap) (l.take i ++ l.drop j) := by
  obtain ⟨i0, hi0, hz0, hz1, hz2⟩ := info_parts info3
  obtain ⟨cs, hb, hg, hcap, hm, hlen, hcs⟩ : ∃ cs : List Value, base ≤ b ∧ w.heap[b]? = some (.cells cs.toArray 3 (0, 0)) ∧ l.length ≤ cap ∧ cap ≤ 9223372036854775807 ∧ cs.length = cap ∧ cs.take l.length = ivs l := by
    rcases h.2 with ⟨h1, _⟩ | ⟨g, cap', cur, h1, hb, hg, h3, h4, h5, h6⟩
    · cases h1
    · simp only [Value.slice.injEq, Option.some.injEq, Addr.mk.injEq] at h1
      obtain ⟨⟨rfl, _, _⟩, _, rfl⟩ := h1
      exact ⟨cur.toList, hb, by simpa using hg, h3, by simpa [maxLen] using h4, by simpa using h5, by simpa using h6⟩
  have hDL := Lib.hid (del_list hcs hij hj)
  obtain ⟨news, hnews⟩ : ∃ news, news = (ivs l).drop j := ⟨_, rfl⟩
  have hnl : news.length = l.length - j := by rw [hnews]; simp
  have hget : ∀ t, t < l.length - j → news[t]? = cs[j + t]? := by
    intro t ht
    rw [hnews, List.getElem?_drop, ← hcs, List.getElem?_take_of_lt (by omega)]
  have hcell : ∀ k, w.drew.cell? ⟨b, k, none⟩ = cs[k]? := fun k => by
    have := cell_heap (w := w.drew) hg k
    simpa using this
  obtain ⟨n, hn⟩ : ∃ n, n = l.length := ⟨_, rfl⟩
  rw [← hn] at hj hcap hcs hDL hnl hget ⊢
  have key : ∀ off : Nat, off = 0 → Calls Try.prog 25 #[.slice (some ⟨b, off, none⟩) n cap, .int .i64 i, .int .i64 j] w fun e w' => e = .returned (.slice (some ⟨b, off, none⟩) (i + (n - j)) cap) ∧ Touch (fun k => k = b) w w' ∧ ∃ zs, w'.heap[b]? = some (.cells (setL (setL cs i news) (n - (j - i)) zs).toArray 3 (0, 0)) := by
    intro off hoff
    obtain ⟨A, hA, hsrc⟩ : ∃ A : Addr, (if cap = j then some (⟨b, off, none⟩ : Addr) else some ⟨b, off + j, none⟩) = some A ∧ Hid (∀ t u, news[t]? = some u → w.drew.cell? (A.add t) = some u) := by
      by_cases h : cap = j
      · refine ⟨⟨b, off, none⟩, by simp [h], fun t u hu => ?_⟩
        have h0 : news.length = 0 := by rw [hnl]; omega
        rw [List.length_eq_zero_iff.1 h0] at hu
        simp at hu
      · refine ⟨⟨b, off + j, none⟩, by simp [h], fun t u hu => ?_⟩
        have ht : t < n - j := by
          have := (List.getElem?_eq_some_iff.1 hu).1
          rwa [hnl] at this
        rw [hget t ht] at hu
        rw [Addr.add_lit, hcell, hoff, Nat.zero_add]
        exact hu
    have s1 : Hid (news.length = (n - j) * 1) := by rw [Nat.mul_one]; exact hnl
    have s2 : Hid (∀ u ∈ news, u.oneCell' = true) := fun u hu => ivs_one l u (List.mem_of_mem_drop (by rw [← hnews]; exact hu))
    have s3 : Hid (∀ t, t < news.length → (w.drew.cell? ⟨b, off + i * 1 + t, none⟩).isSome = true ∧ w.drew.frozen? ⟨b, off + i * 1 + t, none⟩ = false) := by
      intro t ht
      rw [hnl] at ht
      refine ⟨?_, frozen_heap (w := w.drew) hg _⟩
      rw [hcell, hoff, List.getElem?_eq_getElem (by omega)]; rfl
    obtain ⟨W1, hW1⟩ : ∃ W1, W1 = w.drew.setCells b (off + i * 1) news := ⟨_, rfl⟩
    have hT1 : Touch (fun k => k = b) w W1 := by rw [hW1]; exact Touch.setCells (S := fun k => k = b) rfl _ _ (Touch.refl (fun k => k = b) w).drew
    have hg1 : W1.heap[b]? = some (.cells (setL cs i news).toArray 3 (0, 0)) := by rw [hW1, hoff]; simpa using heap_setCells news cs (0 + i * 1) w.drew hg
    have hlm : (setL cs i news).length = cap := by rw [setL_len, hlen]
    have hcl : ∀ ty, (Builtin.clear_ #[31] ty #[.slice (some ⟨b, off + (i + (n - j)), none⟩) (n - (i + (n - j))) (cap - (i + (n - j)))]).run Try.prog W1 = .ok (.tuple #[]) (W1.setCells b (off + (i + (n - j))) (List.replicate (n - (i + (n - j))) (.int .i64 0))) :=
      fun ty => Lib.run_clear_slice W1 _ _ ty _ under31 zero3 rfl rfl b (off + (i + (n - j))) _ _ (by omega) (fun t ht => by rw [cell_heap hg1, hoff]; simp [hlm]; omega) (fun t ht => frozen_heap hg1 _)
    have hW : Hid (W1 = w.drew.setCells b (off + i * 1) news) := hW1
    have hic : i ≤ cap := by omega
    have hjc : j ≤ cap := by omega
    have HG := Lib.hid hg1
    have HT := Lib.hid hT1
    have HO := Lib.hid hoff
    have HL := Lib.hid hlm
    have hjn : ¬ ((i : Int) = (j : Int)) := by omega
    clear hW1 hT1 hg1 hcell hg hnews hget hcs hDL hoff hlm hn hlen hnl h hb
    go_enter Try.func25, Try.ntmps25
    go_wp2_with fail
    go_region_law (refine step_append_room rfl (.tmp 22) (.tmp 25) 31 rfl 3 i0 1 under31 hi0 hz1 b off i cap (by simp [Act.eval, Act.put]) A (n - j) (cap - j) news (by simp [Act.eval, Act.put]) s1.out hsrc.out s2.out (by omega) s3.out ?_; rw [← hW.out])
    all_goals go_wp2
    all_goals go_returns
    all_goals refine ⟨rfl, Touch.setCells (S := fun k => k = b) rfl _ _ HT.out, List.replicate (n - (i + (n - j))) (.int .i64 0), ?_⟩
    all_goals
      rw [HO.out, Nat.zero_add]
      have := heap_setCells (List.replicate (n - (i + (n - j))) (.int .i64 0)) _ (i + (n - j)) W1 HG.out
      rw [show n - (j - i) = i + (n - j) by omega]
      exact this
  refine (key 0 rfl).mono ?_
  rintro e w' ⟨rfl, ht, zs, hg'⟩
  have e1 : i + (n - j) = n - (j - i) := by omega
  rw [e1]
  refine ⟨rfl, ht, by simp [← hn], .inr ⟨b, cap, _, ?_, hb, hg', ?_, by simpa [maxLen] using hm, by simp [setL_len, hlen], ?_⟩⟩
  · rw [show (l.take i ++ l.drop j).length = n - (j - i) by simp [← hn]; omega]
  · simp [← hn]; omega
  · have := hDL.out zs
    rw [show (l.take i ++ l.drop j).length = n - (j - i) by simp [← hn]; omega, Nat.mul_one, hnews]
    exact this
end Go.Proofs.Ytilibeajejhpbaa
