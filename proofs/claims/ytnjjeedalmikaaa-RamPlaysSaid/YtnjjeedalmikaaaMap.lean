/- Maps with int keys: a map's block told by a plain list of pairs; what look-ups, stores, deletions and the two halves of a store in a tuple do to it. No condition. -/
import Derived.Test.YtnjjeedalmikaaaH
import Derived.ChangeMaps5
import Derived.Carry
namespace Go.Proofs.Ytnjjeedalmikaaa
open Go.ChangeShapes Go.WideShapes Go.ChangeAt Go.RowKit
open Go.ChangeMaps (setBlock heap_setBlock_same heap_setBlock_other)
set_option linter.unusedVariables false
set_option linter.unusedSimpArgs false

abbrev AL := List (Int × Value)
def aget : AL → Int → Option Value
  | [], _ => none
  | (a, v) :: r, k => if k = a then some v else aget r k
def aput : AL → Int → Value → AL
  | [], k, v => [(k, v)]
  | (a, u) :: r, k, v => if k = a then (a, v) :: r else (a, u) :: aput r k v
def adel : AL → Int → AL
  | [], _ => []
  | (a, u) :: r, k => if k = a then r else (a, u) :: adel r k
def apos : AL → Int → Nat
  | [], _ => 0
  | (a, _) :: r, k => if k = a then 0 else apos r k + 1
/-- The entries of a block are these pairs, in order. -/
def Ent : List MapEntry → AL → Prop
  | [], l => l = []
  | e :: es, l => ∃ k r, l = (k, e.val) :: r ∧ e.key = .int .i64 k ∧ Ent es r
/-- Block b is a map with these pairs. -/
def MapAL (w : World) (b : Nat) (l : AL) : Prop :=
  ∃ es clock, w.heap[b]? = some (.map es clock) ∧ Ent es.toList l ∧ ∀ e ∈ es.toList, e.born < clock

theorem Ent.length : ∀ {es : List MapEntry} {l : AL}, Ent es l → es.length = l.length
  | [], _, h => by rw [h]; rfl
  | _ :: _, _, ⟨_, _, h, _, h2⟩ => by rw [h]; simp [Ent.length h2]
theorem findNow_al {kd : IntKind} : ∀ (es : List MapEntry) (l : AL) (k : Int) (i : Nat), Ent es l →
    Instr.findNow (.int kd) (.int .i64 k) es i = some ((aget l k).map fun v => (i + apos l k, v))
  | [], l, k, i, h => by
    rw [show l = [] from h]; rfl
  | e :: es, l, k, i, ⟨a, r, h, hk, h2⟩ => by
    subst h
    unfold Instr.findNow
    rw [hk]
    have ih := findNow_al (kd := kd) es r k (i + 1) h2
    by_cases hka : k = a
    · subst hka
      simp [Instr.sameNow, aget, apos]
    · have : (k == a) = false := by simp [hka]
      simp only [Instr.sameNow, if_true, this, aget, apos, if_neg hka]
      rw [ih, show i + 1 + apos r k = i + (apos r k + 1) by omega]
theorem apos_lt : ∀ {l : AL} {k : Int} {v : Value}, aget l k = some v → apos l k < l.length
  | [], _, _, h => by cases h
  | (a, u) :: r, k, v, h => by
    unfold aget at h
    unfold apos
    split
    · simp
    · rename_i hne
      rw [if_neg hne] at h
      have := apos_lt h
      simp; omega
theorem Ent.push : ∀ {es : List MapEntry} {l : AL}, Ent es l → ∀ {k : Int} {e : MapEntry}, aget l k = none → e.key = .int .i64 k → Ent (es ++ [e]) (aput l k e.val)
  | [], _, h, k, e, _, he => by rw [show _ = [] from h]; exact ⟨k, [], rfl, he, rfl⟩
  | e0 :: es, _, ⟨a, r, h, hk, h2⟩, k, e, hn, he => by
    subst h
    unfold aget at hn
    split at hn
    · cases hn
    · rename_i hne
      refine ⟨a, aput r k e.val, ?_, hk, Ent.push h2 hn he⟩
      simp [aput, hne]
theorem Ent.put : ∀ {es : List MapEntry} {l : AL}, Ent es l → ∀ {k : Int} {v u : Value}, aget l k = some u → Ent (es.modify (apos l k) fun e => { e with key := .int .i64 k, val := v }) (aput l k v)
  | [], _, h, k, v, u, hs => by rw [show _ = [] from h] at hs; cases hs
  | e0 :: es, _, ⟨a, r, h, hk, h2⟩, k, v, u, hs => by
    subst h
    by_cases hka : k = a
    · subst hka
      simp only [apos, if_true, aput, List.modify_zero_cons]
      exact ⟨k, r, rfl, rfl, h2⟩
    · simp only [aget, if_neg hka] at hs
      simp only [apos, if_neg hka, aput, List.modify_succ_cons]
      exact ⟨a, _, rfl, hk, Ent.put h2 hs⟩
theorem Ent.del : ∀ {es : List MapEntry} {l : AL}, Ent es l → ∀ {k : Int} {u : Value}, aget l k = some u → Ent (es.eraseIdx (apos l k)) (adel l k)
  | [], _, h, k, u, hs => by rw [show _ = [] from h] at hs; cases hs
  | e0 :: es, _, ⟨a, r, h, hk, h2⟩, k, u, hs => by
    subst h
    by_cases hka : k = a
    · subst hka
      simp only [apos, if_true, adel, List.eraseIdx_cons_zero]
      exact h2
    · simp only [aget, if_neg hka] at hs
      simp only [apos, if_neg hka, adel, List.eraseIdx_cons_succ]
      exact ⟨a, _, rfl, hk, Ent.del h2 hs⟩
theorem adel_none : ∀ {l : AL} {k : Int}, aget l k = none → adel l k = l
  | [], _, _ => rfl
  | (a, u) :: r, k, h => by
    unfold aget at h
    split at h
    · cases h
    · rename_i hne; simp [adel, hne, adel_none h]

/-! ### a map's block goes on -/
section
variable {w : World} {b : Nat} {l : AL}
theorem MapAL.lt (h : MapAL w b l) : b < w.heap.size := by obtain ⟨es, c, hb, _⟩ := h; exact heap_lt hb
theorem MapAL.of {w' : World} (h : MapAL w b l) (hb : w'.heap[b]? = w.heap[b]?) : MapAL w' b l := by
  obtain ⟨es, c, h1, h2⟩ := h
  exact ⟨es, c, hb.trans h1, h2⟩
theorem MapAL.alloc (h : MapAL w b l) (o : Obj) : MapAL (w.alloc o) b l := h.of (Below.heap_alloc w o b h.lt)
theorem MapAL.drew (h : MapAL w b l) : MapAL w.drew b l := h
theorem MapAL.drewN (h : MapAL w b l) (n : Nat) : MapAL (w.drewN n) b l := h
theorem MapAL.setCell (h : MapAL w b l) (a : Addr) (v : Value) : MapAL (w.setCell a v) b l := by
  obtain ⟨es, c, h1, h2⟩ := h
  refine ⟨es, c, ?_, h2⟩
  show (w.heap.modify a.block _)[b]? = _
  rw [Array.getElem?_modify]
  split
  · rename_i e; rw [h1]; rfl
  · exact h1
theorem MapAL.below {w' : World} (h : MapAL w b l) (hb : Below w.heap.size w w') : MapAL w' b l := h.of (hb.block b h.lt)
theorem MapAL.other {b' : Nat} (h : MapAL w b l) (o : Obj) (hne : b ≠ b') : MapAL (setBlock w b' o) b l := h.of (by
  show (w.heap.setIfInBounds b' o)[b]? = _
  rw [Array.getElem?_setIfInBounds_ne (fun e => hne e.symm)])
theorem MapAL.made (w : World) : MapAL (w.alloc (.map #[] 0)) w.heap.size [] := ⟨#[], 0, heap_new w _, rfl, by simp⟩
end

theorem modify_end {α : Type} (f : α → α) (x : α) : ∀ l : List α, (l ++ [x]).modify l.length f = l ++ [f x]
  | [] => rfl
  | y :: r => by
    show y :: (r ++ [x]).modify r.length f = _
    rw [modify_end f x r]; rfl

/-! ### what the operations do -/
open Go.MapKept in
section
variable {P : Program} {w : World} {b : Nat} {l : AL} {T K E : TypeId}
theorem run_lookup_al (hT : P.underlying T = some (.map K E)) (hK : P.underlying K = some (.int .i64)) {z : Value} (hz : (zeroValue E).run P w = .ok z w) (h : MapAL w b l) (k : Int) (c : Bool) :
    (Instr.lookup T (.map (some b)) (.int .i64 k) c).run P w = .ok (if c then .tuple #[(aget l k).getD z, .bool (aget l k).isSome] else (aget l k).getD z) w := by
  obtain ⟨es, clock, hb, he, _⟩ := h
  have hf := findNow_al (kd := .i64) es.toList l k 0 he
  have hk : IsKey (.int .i64) (.int .i64 k) := rfl
  cases hg : aget l k with
  | none =>
    rw [hg] at hf
    simp [Instr.lookup, run_underlying hT, MapKept.run_getObj_map hb, MapKept.run_checkKey hK hk, run_findKey hK hf, hz, Result.andThen]
  | some v =>
    rw [hg] at hf
    simp [Instr.lookup, run_underlying hT, MapKept.run_getObj_map hb, MapKept.run_checkKey hK hk, run_findKey hK hf, Result.andThen]
theorem run_mapUpdate_al (hT : P.underlying T = some (.map K E)) (hK : P.underlying K = some (.int .i64)) (h : MapAL w b l) (k : Int) (v : Value) :
    ∃ o, (Instr.mapUpdate T (.map (some b)) (.int .i64 k) v).run P w = .ok () (setBlock w b o) ∧ MapAL (setBlock w b o) b (aput l k v) := by
  obtain ⟨es, clock, hb, he, hc⟩ := h
  have hf := findNow_al (kd := .i64) es.toList l k 0 he
  have hk : IsKey (.int .i64) (.int .i64 k) := rfl
  cases hg : aget l k with
  | none =>
    rw [hg] at hf
    refine ⟨.map (es.push { key := .int .i64 k, val := v, born := clock }) (clock + 1), ?_, ?_⟩
    · simp [Instr.mapUpdate, run_underlying hT, MapKept.run_getObj_map hb, MapKept.run_checkKey hK hk, run_findKey hK hf, run_setObj_map _ hb, Result.andThen, setBlock]
    · refine ⟨_, _, heap_setBlock_same hb _, ?_, ?_⟩
      · rw [Array.toList_push]
        exact he.push (e := { key := .int .i64 k, val := v, born := clock }) hg rfl
      · intro e hm
        rw [Array.toList_push, List.mem_append, List.mem_singleton] at hm
        rcases hm with hm | rfl
        · have := hc e hm; omega
        · show clock < clock + 1; omega
  | some u =>
    rw [hg] at hf
    have hlt := apos_lt hg
    rw [← he.length] at hlt
    have hkey : ((es[apos l k]?).map (·.key)).getD (.int .i64 k) = .int .i64 k := by
      clear hf hc hb
      obtain ⟨el⟩ := es
      simp only at he hlt ⊢
      have : ∀ (el : List MapEntry) (l : AL), Ent el l → aget l k = some u → (el[apos l k]?).map (·.key) = some (.int .i64 k) := by
        intro el
        induction el with
        | nil => intro l h1 h2; rw [show l = [] from h1] at h2; cases h2
        | cons e0 r ih =>
          rintro l ⟨a, s, rfl, h3, h4⟩ h2
          by_cases hka : k = a
          · subst hka; simp [apos, h3]
          · simp only [aget, if_neg hka] at h2
            simp only [apos, if_neg hka, List.getElem?_cons_succ]
            exact ih s h4 h2
      have h5 := this el l he hg
      rw [List.getElem?_toArray, h5]; rfl
    refine ⟨.map (es.modify (apos l k) fun e => { e with key := .int .i64 k, val := v }) clock, ?_, ?_⟩
    · simp [Instr.mapUpdate, run_underlying hT, MapKept.run_getObj_map hb, MapKept.run_checkKey hK hk, run_findKey hK hf, run_setObj_map _ hb, Result.andThen, setBlock, hkey, run_keyThatStays hk]
    · refine ⟨_, _, heap_setBlock_same hb _, ?_, ?_⟩
      · rw [Array.toList_modify]
        exact he.put hg
      · intro e hm
        rw [Array.toList_modify] at hm
        obtain ⟨i, hi, rfl⟩ := List.mem_iff_getElem.1 hm
        rw [List.getElem_modify]
        have h0 : (es.toList[i]'(by simpa using hi)).born < clock := hc _ (List.getElem_mem _)
        split <;> exact h0
theorem run_delete_al {ty : TypeId} (hT : P.underlying T = some (.map K E)) (hK : P.underlying K = some (.int .i64)) (h : MapAL w b l) (k : Int) :
    ∃ o, (Builtin.delete_ #[T, K] ty #[.map (some b), .int .i64 k]).run P w = .ok (.tuple #[]) (setBlock w b o) ∧ MapAL (setBlock w b o) b (adel l k) := by
  obtain ⟨es, clock, hb, he, hc⟩ := h
  have hf := findNow_al (kd := .i64) es.toList l k 0 he
  have hk : IsKey (.int .i64) (.int .i64 k) := rfl
  cases hg : aget l k with
  | none =>
    rw [hg] at hf
    refine ⟨.map es clock, ?_, ?_⟩
    · simp [Builtin.delete_, run_underlying hT, MapKept.run_getObj_map hb, MapKept.run_checkKey hK hk, run_findKey hK hf, run_setObj_map _ hb, Result.andThen, setBlock]
    · rw [adel_none hg]
      exact ⟨_, _, heap_setBlock_same hb _, he, hc⟩
  | some u =>
    rw [hg] at hf
    have hlt := apos_lt hg
    rw [← he.length] at hlt
    have hd : (es.eraseIdxIfInBounds (apos l k)).toList = es.toList.eraseIdx (apos l k) := by
      unfold Array.eraseIdxIfInBounds
      rw [dif_pos (by simpa using hlt)]
      exact Array.toList_eraseIdx ..
    refine ⟨.map (es.eraseIdxIfInBounds (apos l k)) clock, ?_, ?_⟩
    · simp [Builtin.delete_, run_underlying hT, MapKept.run_getObj_map hb, MapKept.run_checkKey hK hk, run_findKey hK hf, run_setObj_map _ hb, Result.andThen, setBlock]
    · refine ⟨_, _, heap_setBlock_same hb _, ?_, ?_⟩
      · rw [hd]; exact he.del hg
      · intro e hm
        rw [hd] at hm
        exact hc e ((List.eraseIdx_sublist _ _).subset hm)
/-- The two halves of a store of a new key in a tuple assignment: X0 the map, X1 it with the new entry, X2 it with the value. -/
theorem run_mapEntry_al (hT : P.underlying T = some (.map K E)) (hK : P.underlying K = some (.int .i64)) {z : Value} (hz : ∀ W, (zeroValue E).run P W = .ok z W) (h : MapAL w b l) (k : Int) (hn : aget l k = none) (v : Value) :
    ∃ X0 X1 X2 : Obj, ∃ clock : Int, w.heap[b]? = some X0 ∧ (∀ W, W.heap[b]? = some X0 → (Instr.mapEntry T (.map (some b)) (.int .i64 k)).run P W = .ok (.tuple #[z, .int .i64 clock]) (setBlock W b X1)) ∧
      (∀ W, W.heap[b]? = some X1 → (Instr.entryStore T (.map (some b)) (.int .i64 clock) v).run P W = .ok () (setBlock W b X2)) ∧ ∀ W, b < W.heap.size → MapAL (setBlock W b X2) b (aput l k v) := by
  obtain ⟨es, clock, hb, he, hc⟩ := h
  have hf := findNow_al (kd := .i64) es.toList l k 0 he
  have hk : IsKey (.int .i64) (.int .i64 k) := rfl
  rw [hn] at hf
  refine ⟨.map es clock, .map (es.push { key := .int .i64 k, val := z, born := clock }) (clock + 1), .map ((es.push { key := .int .i64 k, val := z, born := clock }).modify es.size fun e => { e with val := v }) (clock + 1), (clock : Nat), hb, fun W hb => ?_, fun W hW => ?_, fun W hlt => ?_⟩
  · simp [Instr.mapEntry, run_underlying hT, MapKept.run_getObj_map hb, MapKept.run_checkKey hK hk, run_findKey hK hf, hz, run_setObj_map _ hb, Result.andThen, setBlock, goInt]
  · have hfi : (es.push { key := .int .i64 k, val := z, born := clock }).findIdx? (fun e => (e.born : Int) == (clock : Int)) = some es.size := by
      have e : (es.push { key := Value.int .i64 k, val := z, born := clock }) = (es.toList ++ [({ key := Value.int .i64 k, val := z, born := clock } : MapEntry)]).toArray := by rw [← Array.toList_push, Array.toArray_toList]
      rw [e, List.findIdx?_toArray, List.findIdx?_append]
      have h1 : es.toList.findIdx? (fun e => (e.born : Int) == (clock : Int)) = none := by
        rw [List.findIdx?_eq_none_iff]
        intro x hx
        have := hc x hx
        simp; omega
      rw [h1]
      simp [List.findIdx?_cons]
    simp [Instr.entryStore, MapKept.run_getObj_map hW, asInt, asIntOf, run_setObj_map _ hW, Result.andThen, setBlock, hfi]
  · refine ⟨_, _, (show (W.heap.setIfInBounds b _)[b]? = some _ by rw [Array.getElem?_setIfInBounds_self_of_lt hlt]), ?_, ?_⟩
    · have : ((es.push { key := .int .i64 k, val := z, born := clock }).modify es.size fun e => { e with val := v }).toList = es.toList ++ [{ key := .int .i64 k, val := v, born := clock }] := by
        rw [Array.toList_modify, Array.toList_push, ← Array.length_toList, modify_end]
      rw [this]
      exact he.push (e := { key := .int .i64 k, val := v, born := clock }) hn rfl
    · intro e hm
      rw [Array.toList_modify] at hm
      obtain ⟨i, hi, rfl⟩ := List.mem_iff_getElem.1 hm
      rw [List.getElem_modify]
      have h0 : ∀ x ∈ (es.push { key := .int .i64 k, val := z, born := clock }).toList, x.born < clock + 1 := by
        intro x hx
        rw [Array.toList_push, List.mem_append, List.mem_singleton] at hx
        rcases hx with hx | rfl
        · have := hc x hx; omega
        · show clock < clock + 1; omega
      have h1 := h0 _ (List.getElem_mem (by simpa using hi))
      split <;> exact h1
end
end Go.Proofs.Ytnjjeedalmikaaa
