/- own of the memory; how a store of a cell, or of a page, turns it. No condition. -/
import Derived.Test.YtnjjeedalmikaaaRamC
namespace Go.Proofs.Ytnjjeedalmikaaa
open Go.ChangeShapes Go.WideShapes Go.ChangeAt Go.RowKit
open Go.ChangeMaps (setBlock heap_setBlock_same heap_setBlock_other)
set_option linter.unusedVariables false
set_option linter.unusedSimpArgs false
/-- A memory with its pages told. -/
structure RamX (W : World) (base b m : Nat) (n : Int) (hs : Hs) (mem : Nat → Nat) (v : Value) (L : Pg) : Prop where
  hd : W.heap[b]? = some (.cells #[.int .i64 n, v, .map (some m)] 60 (0, 0))
  hl : HL W base v hs
  mp : MapAL W m (enc ptr L)
  nd : (keys L).Nodup
  pg : ∀ k g, kget L k = some g → ∃ f : Nat, k = f ∧ base ≤ g ∧ Page W g (fun i => mem (f * 4096 + i))
  no : ∀ f : Nat, kget L f = none → ∀ i, i < 4096 → mem (f * 4096 + i) = 0
  inj : ∀ k k' g, kget L k = some g → kget L k' = some g → k = k'
  baseM : base ≤ m
  len : hs.length ≤ 64
  n0 : 0 < n
  n1 : n ≤ 1048576
  byte : ∀ a, mem a < 256
section
variable {W W' : World} {base b m : Nat} {n : Int} {hs : Hs} {mem : Nat → Nat} {v : Value} {L : Pg}
theorem RamX.at (h : RamX W base b m n hs mem v L) : RamAt W base b m n hs mem := ⟨⟨v, L, h.hd, h.hl, h.mp, h.nd, h.pg, h.no, h.inj⟩, h.baseM, h.len, h.n0, h.n1, h.byte⟩
theorem RamAt.x (h : RamAt W base b m n hs mem) : ∃ v L, RamX W base b m n hs mem v L := by
  obtain ⟨v, L, h1, h2, h3, h4, h5, h6, h7⟩ := h.ex
  exact ⟨v, L, h1, h2, h3, h4, h5, h6, h7, h.baseM, h.len, h.n0, h.n1, h.byte⟩
theorem RamX.below (h : RamX W base b m n hs mem v L) (hb : Below W.heap.size W W') : RamX W' base b m n hs mem v L :=
  ⟨(hb.block _ (heap_lt h.hd)).trans h.hd, HL.below h.hl hb, h.mp.below hb, h.nd, fun k g hk => by
    obtain ⟨f, e1, e2, e3⟩ := h.pg k g hk
    exact ⟨f, e1, e2, e3.of_heap (hb.block _ e3.lt)⟩, h.no, h.inj, h.baseM, h.len, h.n0, h.n1, h.byte⟩
theorem mapNe {g : Nat} {o : Obj} {l : AL} (hm : MapAL W m l) (hg : W.heap[g]? = some o) (ho : ∀ es c, o ≠ .map es c) : g ≠ m := by
  rintro rfl
  obtain ⟨es, c, h1, _⟩ := hm
  rw [hg] at h1
  exact ho es c (Option.some.inj h1)
theorem Page.not_map {g : Nat} {c : Nat → Nat} {l : AL} (hm : MapAL W m l) (hg : Page W g c) : g ≠ m := by
  obtain ⟨cs, h1, _⟩ := hg.ex
  exact mapNe hm h1 (by simp)
theorem setBlock_far {b : Nat} {o : Obj} {k : Nat} (h : k ≠ b) : (setBlock W b o).heap[k]? = W.heap[k]? := by
  show (W.heap.setIfInBounds b o)[k]? = _
  rw [Array.getElem?_setIfInBounds_ne (fun e => h e.symm)]
theorem heap_setCell_far {a : Addr} {k : Nat} {u : Value} (h : k ≠ a.block) : (W.setCell a u).heap[k]? = W.heap[k]? := heap_setCell_other W a k u h
/-- A new page. -/
theorem RamX.fresh (h : RamX W base b m n hs mem v L) {f : Nat} (hf : kget L f = none) {o : Obj}
    (hm : MapAL (setBlock (W.alloc (.cells (Array.replicate 4096 (.int .u8 0)) 65)) m o) m (enc ptr (kput L f W.heap.size))) :
    RamX (setBlock (W.alloc (.cells (Array.replicate 4096 (.int .u8 0)) 65)) m o) base b m n hs mem v (kput L f W.heap.size) ∧
      RT base m W (setBlock (W.alloc (.cells (Array.replicate 4096 (.int .u8 0)) 65)) m o) := by
  have hmw := h.mp.lt
  have hmb := h.baseM
  have far : ∀ (k : Nat) (ob : Obj), W.heap[k]? = some ob → k ≠ m → (setBlock (W.alloc (.cells (Array.replicate 4096 (.int .u8 0)) 65)) m o).heap[k]? = some ob := fun k ob hk hne => by
    rw [setBlock_far hne]; exact heap_old _ _ _ hk
  refine ⟨⟨far _ _ h.hd (mapNe h.mp h.hd (by simp)), HL.heap h.hl fun k cur hk => far _ _ hk (mapNe h.mp hk (by simp)), hm, nodup_put _ _ _ h.nd, fun k g hk => ?_, fun f' hk i hi => ?_, fun k k' g hk hk' => ?_, h.baseM, h.len, h.n0, h.n1, h.byte⟩, ?_⟩
  · rw [kget_put] at hk
    by_cases hkf : k = f
    · rw [if_pos hkf] at hk
      cases hk
      refine ⟨f, hkf, by omega, ⟨⟨_, by rw [setBlock_far (show W.heap.size ≠ m by omega)]; exact heap_new _ _, by simp, fun i hi => ?_⟩⟩⟩
      rw [h.no f hf i hi, Array.getElem?_replicate, if_pos hi]
      rfl
    · rw [if_neg hkf] at hk
      obtain ⟨f', e1, e2, e3⟩ := h.pg k g hk
      refine ⟨f', e1, e2, e3.of_heap ?_⟩
      obtain ⟨cs, h1, _⟩ := e3.ex
      rw [h1]
      exact far _ _ h1 (e3.not_map h.mp)
  · rw [kget_put] at hk
    by_cases hkf : (f' : Int) = f
    · rw [if_pos hkf] at hk; cases hk
    · rw [if_neg hkf] at hk; exact h.no f' hk i hi
  · rw [kget_put] at hk hk'
    by_cases hkf : k = f
    · by_cases hkf' : k' = f
      · exact hkf.trans hkf'.symm
      · rw [if_pos hkf] at hk
        rw [if_neg hkf'] at hk'
        cases hk
        obtain ⟨_, _, _, e3⟩ := h.pg k' _ hk'
        exact absurd e3.lt (by omega)
    · rw [if_neg hkf] at hk
      by_cases hkf' : k' = f
      · rw [if_pos hkf'] at hk'
        cases hk'
        obtain ⟨_, _, _, e3⟩ := h.pg k _ hk
        exact absurd e3.lt (by omega)
      · rw [if_neg hkf'] at hk'; exact h.inj k k' g hk hk'
  · exact ⟨((Touch.refl _ _).alloc _).setBlock (.inl ⟨h.baseM, .inl rfl⟩) _⟩
def updB (mem : Nat → Nat) (a x : Nat) : Nat → Nat := fun k => if k = a then x else mem k
/-- A cell of a page is stored. -/
theorem RamX.cell (h : RamX W base b m n hs mem v L) {f g : Nat} (hf : kget L f = some g) {i x : Nat} (hi : i < 4096) (hx : x < 256) :
    RamX (W.setCell ⟨g, i, none⟩ (.int .u8 x)) base b m n hs (updB mem (f * 4096 + i) x) v L ∧ RT base m W (W.setCell ⟨g, i, none⟩ (.int .u8 x)) := by
  obtain ⟨f0, e1, e2, e3⟩ := h.pg f g hf
  obtain rfl : f = f0 := by omega
  obtain ⟨cs, p1, p2, p3⟩ := e3.ex
  have far : ∀ (k : Nat) (ob : Obj), W.heap[k]? = some ob → k ≠ g → (W.setCell ⟨g, i, none⟩ (.int .u8 x)).heap[k]? = some ob := fun k ob hk hne => (heap_setCell_far hne).trans hk
  have ne : ∀ (k : Nat) (ob : Obj), W.heap[k]? = some ob → (∀ cs, ob ≠ .cells cs 65 (0, 0)) → k ≠ g := fun k ob hk ho e => by
    subst e; rw [p1] at hk; exact ho _ (Option.some.inj hk).symm
  refine ⟨⟨far _ _ h.hd (ne _ _ h.hd (by simp)), HL.heap h.hl fun k cur hk => far _ _ hk (ne _ _ hk (by simp)), h.mp.setCell _ _, h.nd, fun k g' hk => ?_, fun f' hk j hj => ?_, h.inj, h.baseM, h.len, h.n0, h.n1, fun a => ?_⟩, ?_⟩
  · obtain ⟨f', q1, q2, q3⟩ := h.pg k g' hk
    refine ⟨f', q1, q2, ?_⟩
    by_cases hgg : g' = g
    · subst hgg
      have := h.inj k f g' hk hf
      obtain rfl : f' = f := by omega
      refine ⟨_, heap_setCell_same W g' i cs _ _ p1, by simpa using p2, fun j hj => ?_⟩
      rw [Array.getElem?_setIfInBounds]
      by_cases hij : i = j
      · subst hij; rw [if_pos rfl, if_pos (by omega)]; simp [updB]
      · rw [if_neg hij, p3 j hj]; simp [updB, show ¬ j = i from fun e => hij e.symm]
    · have hff : f' ≠ f := fun e => by subst e; rw [q1, hf] at hk; exact hgg (Option.some.inj hk).symm
      obtain ⟨cs', r1, r2, r3⟩ := q3.ex
      refine ⟨cs', far _ _ r1 hgg, r2, fun j hj => ?_⟩
      rw [r3 j hj]
      have : ¬ f' * 4096 + j = f * 4096 + i := by omega
      simp [updB, this]
  · have hff : f' ≠ f := fun e => by subst e; rw [hf] at hk; cases hk
    have : ¬ f' * 4096 + j = f * 4096 + i := by omega
    simp only [updB, if_neg this]
    exact h.no f' hk j hj
  · unfold updB; split
    · exact hx
    · exact h.byte a
  · exact ⟨(Touch.refl _ _).setCell (.inl ⟨e2, .inr ⟨cs, p1⟩⟩) _⟩
end
theorem Ent.uniq : ∀ {es : List MapEntry} {l l' : AL}, Ent es l → Ent es l' → l = l'
  | [], _, _, h, h' => by rw [show _ = [] from h, show _ = [] from h']
  | e :: es, _, _, ⟨k, r, h1, h2, h3⟩, ⟨k', r', h1', h2', h3'⟩ => by
    subst h1 h1'
    rw [h2] at h2'
    cases h2'
    rw [Ent.uniq h3 h3']
theorem MapAL.uniq {W : World} {m : Nat} {l l' : AL} (h : MapAL W m l) (h' : MapAL W m l') : l = l' := by
  obtain ⟨es, c, h1, h2, _⟩ := h
  obtain ⟨es', c', h1', h2', _⟩ := h'
  rw [h1] at h1'
  cases h1'
  exact Ent.uniq h2 h2'
theorem enc_ptr_inj : ∀ {L L' : Pg}, enc ptr L = enc ptr L' → L = L'
  | [], [], _ => rfl
  | [], _ :: _, h => by simp [enc] at h
  | _ :: _, [], h => by simp [enc] at h
  | (k, g) :: L, (k', g') :: L', h => by
    have h' : (k, ptr g) :: enc ptr L = (k', ptr g') :: enc ptr L' := h
    simp only [List.cons.injEq, Prod.mk.injEq] at h'
    obtain ⟨⟨rfl, h1⟩, h2⟩ := h'
    cases h1
    rw [enc_ptr_inj h2]
theorem RamX.uniq {W : World} {base b m : Nat} {n : Int} {hs : Hs} {mem mem' : Nat → Nat} {v v' : Value} {L L' : Pg} (h : RamX W base b m n hs mem v L) (h' : RamX W base b m n hs mem' v' L') : mem = mem' ∧ L = L' := by
  have hL := enc_ptr_inj (MapAL.uniq h.mp h'.mp)
  subst hL
  refine ⟨?_, rfl⟩
  funext a
  have ha : a = a / 4096 * 4096 + a % 4096 := by omega
  have hlt : a % 4096 < 4096 := by omega
  cases hg : kget L ((a / 4096 : Nat) : Int) with
  | none => rw [ha, h.no _ hg _ hlt, h'.no _ hg _ hlt]
  | some g =>
    obtain ⟨f1, e1, _, ⟨cs, p1, p2, p3⟩⟩ := h.pg _ _ hg
    obtain ⟨f2, e2, _, ⟨cs', q1, q2, q3⟩⟩ := h'.pg _ _ hg
    rw [p1] at q1
    cases q1
    have r1 := p3 _ hlt
    rw [q3 _ hlt] at r1
    have r2 : (mem' (f2 * 4096 + a % 4096) : Int) = (mem (f1 * 4096 + a % 4096) : Int) := by simpa using r1
    rw [show f2 * 4096 + a % 4096 = a by omega, show f1 * 4096 + a % 4096 = a by omega] at r2
    omega
set_option maxHeartbeats 1000000 in
theorem own_any {w : World} {base b m : Nat} {n : Int} {hs : Hs} {mem : Nat → Nat} {v : Value} {L : Pg} (h : RamX w base b m n hs mem v L) (f : Nat) (hf63 : f < 9223372036854775808) :
    Calls Try.prog 28 #[ptr b, .int .i64 f] w fun e w' => ∃ g L', e = .returned (ptr g) ∧ RamX w' base b m n hs mem v L' ∧ kget L' f = some g ∧ RT base m w w' ∧ ∀ k g, kget L k = some g → kget L' k = some g := by
  have c2 : w.cell? ⟨b, 2, none⟩ = some (.map (some m)) := cell_heap h.hd 2
  have hbw := heap_lt h.hd
  have hmw := h.mp.lt
  have hlk := run_lookup_al (P := Try.prog) underPages underInt (zeroPtr w) h.mp (f : Int) false
  rw [aget_enc] at hlk
  cases hg : kget L f with
  | some g =>
    rw [hg] at hlk
    have H := Lib.hid h
    have HG := Lib.hid hg
    clear h hg
    go_enter Try.func28, Try.ntmps28
    go_wp2
    go_returns
    exact ⟨g, L, rfl, H.out, HG.out, RT.refl _ _ _, fun _ _ h => h⟩
  | none =>
    rw [hg] at hlk
    obtain ⟨Z, hZ⟩ : ∃ Z, Z = Array.replicate 4096 (Value.int .u8 0) := ⟨_, rfl⟩
    have hz : ∀ W, (zeroValue 65).run Try.prog W = .ok (.agg Z) W := fun W => by rw [hZ]; exact zeroP W
    obtain ⟨o, hmu, hM⟩ := run_mapUpdate_al (P := Try.prog) underPages underInt (h.mp.alloc (.cells Z 65)) (f : Int) (ptr w.heap.size)
    have H := Lib.hid h
    have HG := Lib.hid hg
    have HZ := Lib.hid hZ
    have HM := Lib.hid hM
    clear h hg hZ hM
    go_enter Try.func28, Try.ntmps28
    go_wp2
    go_returns
    have hM := HM.out
    rw [aput_enc, HZ.out] at hM
    rw [HZ.out]
    obtain ⟨q1, q2⟩ := H.out.fresh HG.out hM
    exact ⟨w.heap.size, _, rfl, q1, by rw [kget_put, if_pos rfl], q2, fun k g hk => by
      rw [kget_put]
      by_cases hkf : k = f
      · subst hkf; rw [HG.out] at hk; cases hk
      · rw [if_neg hkf]; exact hk⟩
end Go.Proofs.Ytnjjeedalmikaaa
