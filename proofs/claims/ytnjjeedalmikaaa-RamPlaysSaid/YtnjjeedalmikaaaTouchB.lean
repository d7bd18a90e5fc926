/- Which blocks a step may have changed; maps over plain lists of pairs; over XTch. No condition. -/
import Derived.Test.YtnjjeedalmikaaaMap
import Derived.Test.YtnjjeedalmikaaaTch
namespace Go.Proofs.Ytnjjeedalmikaaa
open Go.ChangeShapes Go.WideShapes Go.ChangeAt Go.RowKit
open Go.ChangeMaps (setBlock heap_setBlock_same heap_setBlock_other)
set_option linter.unusedVariables false
set_option linter.unusedSimpArgs false

theorem size_setBlock (w : World) (b : Nat) (o : Obj) : (setBlock w b o).heap.size = w.heap.size := by simp [setBlock]
theorem Touch.setBlock {S : Nat → Prop} {w w1 : World} (h : Touch S w w1) {b : Nat} (hb : S b ∨ w.heap.size ≤ b) (o : Obj) : Touch S w (setBlock w1 b o) :=
  ⟨h.os, h.tape, h.output, by rw [size_setBlock]; exact h.size, fun k hk hn => by
    show (w1.heap.setIfInBounds b o)[k]? = _
    rw [Array.getElem?_setIfInBounds_ne (fun e => by subst e; rcases hb with h1 | h1; exact hn h1; omega)]
    exact h.block k hk hn⟩
theorem MapAL.touch {S : Nat → Prop} {w w1 : World} {b : Nat} {l : AL} (h : MapAL w b l) (ht : Touch S w w1) (hn : ¬ S b) : MapAL w1 b l := h.of (ht.block b h.lt hn)

/-! ### pairs of plain values -/
section
variable {α : Type}
def kget : List (Int × α) → Int → Option α
  | [], _ => none
  | (a, v) :: r, k => if k = a then some v else kget r k
def kput : List (Int × α) → Int → α → List (Int × α)
  | [], k, v => [(k, v)]
  | (a, u) :: r, k, v => if k = a then (a, v) :: r else (a, u) :: kput r k v
def kdel : List (Int × α) → Int → List (Int × α)
  | [], _ => []
  | (a, u) :: r, k => if k = a then r else (a, u) :: kdel r k
def enc (g : α → Value) (l : List (Int × α)) : AL := l.map fun p => (p.1, g p.2)
theorem aget_enc (g : α → Value) : ∀ (l : List (Int × α)) (k : Int), aget (enc g l) k = (kget l k).map g
  | [], _ => rfl
  | (a, v) :: r, k => by
    show aget ((a, g v) :: enc g r) k = _
    unfold aget kget
    split
    · rfl
    · exact aget_enc g r k
theorem aput_enc (g : α → Value) : ∀ (l : List (Int × α)) (k : Int) (v : α), aput (enc g l) k (g v) = enc g (kput l k v)
  | [], _, _ => rfl
  | (a, u) :: r, k, v => by
    show aput ((a, g u) :: enc g r) k (g v) = _
    unfold aput kput
    split
    · rfl
    · show (a, g u) :: aput (enc g r) k (g v) = (a, g u) :: enc g (kput r k v)
      rw [aput_enc g r k v]
theorem adel_enc (g : α → Value) : ∀ (l : List (Int × α)) (k : Int), adel (enc g l) k = enc g (kdel l k)
  | [], _ => rfl
  | (a, u) :: r, k => by
    show adel ((a, g u) :: enc g r) k = _
    unfold adel kdel
    split
    · rfl
    · show (a, g u) :: adel (enc g r) k = (a, g u) :: enc g (kdel r k)
      rw [adel_enc g r k]
theorem kget_put : ∀ (l : List (Int × α)) (k : Int) (v : α) (j : Int), kget (kput l k v) j = if j = k then some v else kget l j
  | [], k, v, j => rfl
  | (a, u) :: r, k, v, j => by
    unfold kput
    by_cases h : k = a
    · subst h
      rw [if_pos rfl]
      by_cases hj : j = k <;> simp [kget, hj]
    · rw [if_neg h]
      unfold kget
      rw [kget_put r k v j]
      by_cases hj : j = a
      · subst hj; simp [show ¬ j = k from fun e => h e.symm]
      · simp [hj]
/-- The keys. -/
def keys (l : List (Int × α)) : List Int := l.map (·.1)
theorem kget_none_iff : ∀ (l : List (Int × α)) (k : Int), kget l k = none ↔ k ∉ keys l
  | [], k => by simp [kget, keys]
  | (a, u) :: r, k => by
    unfold kget
    by_cases h : k = a
    · simp [h, keys]
    · have := kget_none_iff r k
      simp [h, this, keys]
theorem kget_del (l : List (Int × α)) (hn : (keys l).Nodup) (k j : Int) : kget (kdel l k) j = if j = k then none else kget l j := by
  induction l with
  | nil => simp [kdel, kget]
  | cons p r ih =>
    obtain ⟨a, u⟩ := p
    have hn' : a ∉ keys r ∧ (keys r).Nodup := by simpa [keys] using hn
    unfold kdel
    by_cases h : k = a
    · subst h
      rw [if_pos rfl]
      by_cases hj : j = k
      · subst hj; rw [if_pos rfl]; exact (kget_none_iff r j).2 hn'.1
      · rw [if_neg hj]; simp [kget, hj]
    · rw [if_neg h]
      unfold kget
      rw [ih hn'.2]
      by_cases hj : j = a
      · subst hj; simp [show ¬ j = k from fun e => h e.symm]
      · simp [hj]
theorem keys_put : ∀ (l : List (Int × α)) (k : Int) (v : α), keys (kput l k v) = if k ∈ keys l then keys l else keys l ++ [k]
  | [], k, v => by simp [kput, keys]
  | (a, u) :: r, k, v => by
    unfold kput
    by_cases h : k = a
    · subst h; simp [keys]
    · rw [if_neg h]
      show a :: keys (kput r k v) = if k ∈ a :: keys r then a :: keys r else (a :: keys r) ++ [k]
      rw [keys_put r k v]
      by_cases h2 : k ∈ keys r
      · rw [if_pos h2, if_pos (List.mem_cons_of_mem _ h2)]
      · rw [if_neg h2, if_neg (by simp [h, h2])]; rfl
theorem nodup_put (l : List (Int × α)) (k : Int) (v : α) (h : (keys l).Nodup) : (keys (kput l k v)).Nodup := by
  rw [keys_put]
  split
  · exact h
  · rename_i hk
    rw [List.nodup_append]
    exact ⟨h, by simp, by simp; intro a ha e; exact hk (e ▸ ha)⟩
theorem nodup_del (l : List (Int × α)) (k : Int) (h : (keys l).Nodup) : (keys (kdel l k)).Nodup := by
  have hs : ∀ l : List (Int × α), (keys (kdel l k)).Sublist (keys l) := by
    intro l
    induction l with
    | nil => exact List.Sublist.refl _
    | cons p r ih =>
      obtain ⟨a, u⟩ := p
      unfold kdel
      split
      · exact List.sublist_cons_self _ _
      · exact ih.cons_cons _
  exact List.Sublist.nodup (hs l) h
end
end Go.Proofs.Ytnjjeedalmikaaa
