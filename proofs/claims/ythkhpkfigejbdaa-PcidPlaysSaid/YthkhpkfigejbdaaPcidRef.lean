/- The reference of layer 11: Find, Get, Drop, for every list. The list is told by pairs (space, has). No condition but a bound on its length. -/
import Derived.Test.YthkhpkfigejbdaaApp
import Derived.Laws.OwnMore
import Derived.OwnWalk
import Derived.RegionTactic
import Derived.BigRegion
import Derived.Lib.Hide
namespace Go.Proofs.Ythkhpkfigejbdaa
open Go.ChangeShapes Go.WideShapes Go.ChangeAt Go.RowKit
set_option linter.unusedVariables false
set_option linter.unusedSimpArgs false

def gcells : List (Int × Bool) → List Value
  | [] => []
  | g :: r => .int .i64 g.1 :: .bool g.2 :: gcells r
theorem gcells_length : ∀ L, (gcells L).length = L.length * 2
  | [] => rfl
  | g :: r => by simp [gcells, gcells_length r]; omega
theorem gcells_append : ∀ L M, gcells (L ++ M) = gcells L ++ gcells M
  | [], M => rfl
  | g :: r, M => by simp [gcells, gcells_append r M]
theorem gcells_at : ∀ (L : List (Int × Bool)) (k : Nat) (g : Int × Bool), L[k]? = some g → (gcells L)[k * 2]? = some (.int .i64 g.1) ∧ (gcells L)[k * 2 + 1]? = some (.bool g.2)
  | [], k, g, h => by simp at h
  | x :: r, 0, g, h => by simp at h; subst h; exact ⟨rfl, rfl⟩
  | x :: r, k + 1, g, h => by
    have := gcells_at r k g (by simpa using h)
    rw [show (k + 1) * 2 = k * 2 + 1 + 1 by omega]
    simpa [gcells] using this
/-- v is a slice of its own, with these elements. -/
def GL (w : World) (base : Nat) (v : Value) (L : List (Int × Bool)) : Prop := w.ownsRow base 48 2 v L.length (gcells L)
theorem GL.cell {w : World} {base : Nat} {v : Value} {L : List (Int × Bool)} (h : GL w base v L) {k : Nat} {g : Int × Bool} (hk : L[k]? = some g) :
    ∃ b cap, v = .slice (some ⟨b, 0, none⟩) L.length cap ∧ base ≤ b ∧ b < w.heap.size ∧ w.cell? ⟨b, k * 2, none⟩ = some (.int .i64 g.1) ∧ w.cell? ⟨b, k * 2 + 1, none⟩ = some (.bool g.2) := by
  have hlt : k < L.length := (List.getElem?_eq_some_iff.1 hk).1
  have h' := h
  rcases h.2 with ⟨_, h0⟩ | ⟨b, cap, cur, rfl, hb, hg, _⟩
  · omega
  · obtain ⟨e0, e1⟩ := gcells_at L k g hk
    exact ⟨b, cap, rfl, hb, heap_lt hg, (World.ownsRow.cellAt h' _ (by omega)).trans e0, (World.ownsRow.cellAt h' _ (by omega)).trans e1⟩
theorem GL.form {w : World} {base : Nat} {v : Value} {L : List (Int × Bool)} (h : GL w base v L) : ∃ A cap, v = .slice A L.length cap := by
  rcases h.2 with ⟨h1, h0⟩ | ⟨b, cap, cur, rfl, _⟩
  · rw [h0]; exact ⟨none, 0, h1⟩
  · exact ⟨_, _, rfl⟩
theorem GL.below {w w' : World} {base : Nat} {v : Value} {L : List (Int × Bool)} (h : GL w base v L) (hb : Below w.heap.size w w') : GL w' base v L := by
  refine ⟨h.1, ?_⟩
  rcases h.2 with h1 | ⟨b, cap, cur, rfl, h2, hg, h3⟩
  · exact .inl h1
  · exact .inr ⟨b, cap, cur, rfl, h2, (hb.block b (heap_lt hg)).trans hg, h3⟩
def findL : List (Int × Bool) → Int → Nat → Int
  | [], _, _ => 0
  | g :: r, s, i => if g.2 && g.1 == s then (i : Int) + 1 else findL r s (i + 1)
set_option maxHeartbeats 1000000 in
theorem rFind_any {w : World} {base : Nat} {v : Value} {L : List (Int × Bool)} (h : GL w base v L) (hl : L.length < 4611686018427387904) (most gen s : Int) :
    Calls Try.prog 17 #[.agg #[.int .i64 most, .int .i64 gen, v], .int .i64 s] w fun e w' => e = .returned (.int .i64 (findL L s 0)) ∧ Below w.heap.size w w' := by
  obtain ⟨A, cap, rfl⟩ := h.form
  go_enter Try.func17, Try.ntmps17
  go_wp2_with fail
  go_loopw [10] (fun i wr => ∃ k : Nat, i = .int .i64 k ∧ k ≤ L.length ∧ Below w.heap.size w wr ∧ Hid (findL L s 0 = findL (L.drop k) s k)) (fun i _ => L.length - (intOf i).toNat)
  case atStart => exact ⟨0, rfl, by omega, by go_grown, Lib.hid rfl⟩
  case round =>
    obtain ⟨k, rfl, hle, hB, HF⟩ := hrel
    have hsz := hB.size
    by_cases hlt : k < L.length
    · have f0 : decide (k < L.length) = true := decide_eq_true hlt
      obtain ⟨b, cap', hv, hbb, hbw, e0, e1⟩ := h.cell (List.getElem?_eq_getElem hlt)
      obtain ⟨hc1, hf1⟩ := bcell hB
      have e0' := (hc1 b (k * 2) hbw).trans e0
      have e1' := (hc1 b (k * 2 + 1) hbw).trans e1
      obtain ⟨rfl, _, rfl⟩ : A = some ⟨b, 0, none⟩ ∧ L.length = L.length ∧ cap = cap' := by simpa using hv
      have hd : findL (L.drop k) s k = if L[k].2 && L[k].1 == s then (k : Int) + 1 else findL (L.drop (k + 1)) s (k + 1) := by
        rw [List.drop_eq_getElem_cons hlt]; rfl
      generalize L[k] = g at e0' e1' hd
      obtain ⟨p, q⟩ := g
      obtain ⟨n, hn⟩ : ∃ n, n = L.length := ⟨_, rfl⟩
      rw [← hn] at hlt hle hl f0 ⊢
      have HN := Lib.hid hn
      clear hc1 hf1 e0 e1 hv hn h
      cases q
      · have HD := Lib.hid hd
        clear hd
        go_wp2
        go_roundw
        case rel => exact ⟨k + 1, rfl, by omega, by go_grown, Lib.hid (HF.out.trans HD.out)⟩
        case measure => simp [intOf]; omega
      · by_cases hs : p = s
        · subst hs
          have HD := Lib.hid hd
          clear hd
          go_wp2
          go_returns
          exact ⟨ret_v (by rw [HF.out, HD.out]; simp), by go_grown⟩
        · have ds : (p == s) = false := by simp [hs]
          have HD := Lib.hid hd
          have HS := Lib.hid hs
          clear hd hs
          go_wp2
          go_roundw
          case rel => exact ⟨k + 1, rfl, by omega, by go_grown, Lib.hid (HF.out.trans (by rw [HD.out]; simp [HS.out]))⟩
          case measure => simp [intOf]; omega
    · have f0 : decide (k < L.length) = false := decide_eq_false hlt
      obtain ⟨n, hn⟩ : ∃ n, n = L.length := ⟨_, rfl⟩
      rw [← hn] at hlt hle hl f0 ⊢
      have HN := Lib.hid hn
      clear hn
      go_wp2
      go_returns
      exact ⟨ret_v (by rw [HF.out, List.drop_eq_nil_of_le (by rw [← HN.out]; omega)]; rfl), by go_grown⟩
theorem two_below (w : World) (c0 c1 : Array Value) (t0 t1 : TypeId) : Below w.heap.size w ((w.alloc (.cells c0 t0)).alloc (.cells c1 t1)) ∧
    ((w.alloc (.cells c0 t0)).alloc (.cells c1 t1)).heap[w.heap.size]? = some (.cells c0 t0 (0, 0)) ∧ ((w.alloc (.cells c0 t0)).alloc (.cells c1 t1)).heap[w.heap.size + 1]? = some (.cells c1 t1 (0, 0)) := by
  refine ⟨by go_grown, heap_old _ _ _ (heap_new _ _), ?_⟩
  have := heap_new (w.alloc (.cells c0 t0)) (.cells c1 t1)
  rwa [World.size_alloc] at this
theorem info48 : (Try.prog.info? 48).map (fun i => (i.zero, i.size, i.bytes)) = some (some (.agg #[.int .i64 0, .bool false]), 2, 16) := by kernel_rfl
theorem under40 : Try.prog.underlying 40 = some (.slice 48) := by kernel_rfl
theorem own_form {w : World} {base : Nat} {e : TypeId} {size : Nat} {v : Value} {n : Nat} {xs : List Value} (h : w.ownsRow base e size v n xs) : ∃ A cap, v = .slice A n cap := by
  rcases h.2 with ⟨h1, h0⟩ | ⟨b, cap, cur, rfl, _⟩
  · rw [h0]; exact ⟨none, 0, h1⟩
  · exact ⟨_, _, rfl⟩
theorem gcells_one : ∀ (L : List (Int × Bool)), ∀ u ∈ gcells L, u.oneCell' = true
  | [], u, h => by simp [gcells] at h
  | g :: r, u, h => by
    simp only [gcells, List.mem_cons] at h
    rcases h with rfl | rfl | h
    · rfl
    · rfl
    · exact gcells_one r u h
theorem grown_heap {w w' : World} {row : Option Nat} (h : w.grownBy w' row) {b : Nat} {o : Obj} (hb : w.heap[b]? = some o) (hne : some b ≠ row) : w'.heap[b]? = some o := (h.block b (heap_lt hb) hne).trans hb
/-- A copy of the list with one more. -/
theorem two_apps {w : World} {v : Value} {L : List (Int × Bool)} (h : Rd w 2 v L.length (gcells L)) (hl : L.length < 1000000) (s : Int) :
    ∃ A1 c1 w2 A2 c2 w3, (Builtin.append_ #[40, 40] 40 #[.slice (some ⟨w.heap.size, 0, none⟩) 0 0, v]).run Try.prog (w.alloc (.cells #[] 48)) = .ok (.slice A1 L.length c1) w2 ∧
      (Builtin.append_ #[40, 40] 40 #[.slice A1 L.length c1, .slice (some ⟨w2.heap.size, 0, none⟩) 1 1]).run Try.prog (w2.alloc (.cells #[.int .i64 s, .bool true] 48)) = .ok (.slice A2 (L.length + 1) c2) w3 ∧
      Below w.heap.size w w2 ∧ Below w.heap.size w w3 ∧ GL w3 w.heap.size (.slice A2 (L.length + 1) c2) (L ++ [(s, true)]) := by
  obtain ⟨i, hi, hz0, hz1, hz2⟩ := info_parts info48
  have o0 := World.ownsRow_lit (base := w.heap.size) (e := 48) (size := 2) w #[] 0 (Nat.le_refl _) (by simp [maxLen]) (by simp)
  have r0 := h.below ((Below.refl w.heap.size w).alloc (Nat.le_refl _) (.cells #[] 48))
  obtain ⟨v1, w2, a1, o1, g1⟩ := run_app (P := Try.prog) w.heap.size 40 40 48 under40 hi hz0 hz1 hz2 rfl (by decide) o0 r0 (gcells_one L) (by simp [maxLen]; omega) (by omega) (by rw [World.size_alloc]; omega)
  rw [Nat.zero_add] at o1
  obtain ⟨A1, c1, rfl⟩ := own_form o1
  have B1 : Below w.heap.size w w2 := Below.grown ((Below.refl w.heap.size w).alloc (Nat.le_refl _) (.cells #[] 48)) g1 (by rw [World.size_alloc]; omega) (fun k e => by simp [Value.ownBlock] at e; omega)
  have hlt1 := o1.lt
  have r1 := Rd.lit w2 2 #[.int .i64 s, .bool true] 48 1 1 rfl
  obtain ⟨v2, w3, a2, o2, g2⟩ := run_app (P := Try.prog) w.heap.size 40 40 48 under40 hi hz0 hz1 hz2 rfl (by decide) (o1.alloc _) r1 (by simp [Value.oneCell']) (by simp [maxLen]; omega) (by omega) (by have := B1.size; rw [World.size_alloc]; omega)
  obtain ⟨A2, c2, rfl⟩ := own_form o2
  have B2 : Below w.heap.size w w3 := Below.grown (B1.alloc B1.size (.cells #[.int .i64 s, .bool true] 48)) g2 (by have := B1.size; rw [World.size_alloc]; omega) (fun k e => (hlt1 k e).1)
  refine ⟨A1, c1, w2, A2, c2, w3, a1, a2, B1, B2, ?_⟩
  have e1 : gcells (L ++ [(s, true)]) = ([] : List Value) ++ gcells L ++ [.int .i64 s, .bool true] := by rw [gcells_append]; rfl
  have e2 : (L ++ [(s, true)]).length = L.length + 1 := by simp
  unfold GL
  rw [e1, e2]
  exact o2
theorem GL.mono {w : World} {base base' : Nat} {v : Value} {L : List (Int × Bool)} (h : GL w base v L) (hb : base' ≤ base) : GL w base' v L := by
  refine ⟨h.1, ?_⟩
  rcases h.2 with h1 | ⟨g, cap, cur, h1, h2, h3⟩
  · exact .inl h1
  · exact .inr ⟨g, cap, cur, h1, Nat.le_trans hb h2, h3⟩
theorem GL.far {w : World} {base : Nat} {v : Value} {L : List (Int × Bool)} (h : GL w base v L) {a : Addr} (ha : a.block < base) (u : Value) : GL (w.setCell a u) base v L := by
  refine ⟨h.1, ?_⟩
  rcases h.2 with h1 | ⟨g, cap, cur, h1, h2, hg, h3⟩
  · exact .inl h1
  · exact .inr ⟨g, cap, cur, h1, h2, heap_far hg (by omega) u, h3⟩
theorem findL_nonneg : ∀ (L : List (Int × Bool)) (s : Int) (i : Nat), 0 ≤ findL L s i
  | [], _, _ => Int.le_refl _
  | g :: r, s, i => by
    unfold findL
    split
    · omega
    · exact findL_nonneg r s _
set_option maxHeartbeats 1000000 in
theorem rGet_have {w : World} {base : Nat} {v : Value} {L : List (Int × Bool)} (h : GL w base v L) (hl : L.length < 4611686018427387904) (most gen s : Int) (x : Int) (hx : findL L s 0 = x) (h0 : 0 < x) :
    Calls Try.prog 16 #[.agg #[.int .i64 most, .int .i64 gen, v], .int .i64 s] w fun e w' => e = .returned (.tuple #[.agg #[.int .i64 most, .int .i64 gen, v], .int .i64 x, .bool false]) ∧ Below w.heap.size w w' := by
  have d0 : decide (0 < x) = true := decide_eq_true h0
  have HX := Lib.hid hx
  clear hx
  obtain ⟨A, cap, rfl⟩ := h.form
  obtain ⟨n, hn⟩ : ∃ n, n = L.length := ⟨_, rfl⟩
  rw [← hn] at h ⊢
  have HN := Lib.hid hn
  have HL := Lib.hid hl
  clear hn hl
  go_enter Try.func16, Try.ntmps16
  go_wp2_with fail
  have B0 := two_below w #[.int .i64 most, .int .i64 gen, .slice A n cap] #[.int .i64 0, .int .i64 0, .slice none 0 0] 42 42
  refine (rFind_any (h.below B0.1) HL.out most gen s).mono ?_
  rw [HX.out]
  rintro e w1 ⟨rfl, hb1⟩
  have q0 := heap_below hb1 B0.2.1
  have q1 := heap_below hb1 B0.2.2
  have hB1 := b_then B0.1 hb1
  have c00 := cell_heap q0 0
  have c01 := cell_heap q0 1
  have c02 := cell_heap q0 2
  have c10 := cell_heap q1 0
  have c11 := cell_heap q1 1
  have c12 := cell_heap q1 2
  have f10 := frozen_heap q1 0
  have f11 := frozen_heap q1 1
  have f12 := frozen_heap q1 2
  have s0 := heap_lt q0
  have s1 := heap_lt q1
  clear B0 q0 q1 hb1
  go_wp2
  exact bodyPost_ret (v := .tuple #[.agg #[.int .i64 most, .int .i64 gen, .slice A n cap], .int .i64 x, .bool false]) (by simp [results, Try.results16, go_sem, c10, c11, c12]) rfl ⟨rfl, by go_grown⟩
def getL (most : Int) (L : List (Int × Bool)) (s : Int) : List (Int × Bool) := (if most ≤ L.length then [] else L) ++ [(s, true)]
set_option maxHeartbeats 1000000 in
theorem rGet_new {w : World} {base : Nat} {v : Value} {L : List (Int × Bool)} (h : GL w base v L) (hb : base ≤ w.heap.size) (hl : L.length < 1000000) (most gen s : Int) (hx : findL L s 0 = 0) (hm : ¬ most ≤ L.length) :
    Calls Try.prog 16 #[.agg #[.int .i64 most, .int .i64 gen, v], .int .i64 s] w fun e w' => ∃ v', e = .returned (.tuple #[.agg #[.int .i64 most, .int .i64 gen, v'], .int .i64 (L.length + 1), .bool false]) ∧ Below w.heap.size w w' ∧ GL w' base v' (L ++ [(s, true)]) := by
  have HX := Lib.hid hx
  clear hx
  obtain ⟨A, cap, rfl⟩ := h.form
  obtain ⟨n, hn⟩ : ∃ n, n = L.length := ⟨_, rfl⟩
  rw [← hn] at h hl hm ⊢
  have d1 : decide (most ≤ (n : Int)) = false := decide_eq_false hm
  have HN := Lib.hid hn
  have HL : Hid (L.length < 4611686018427387904) := Lib.hid (by omega)
  clear hn hm
  go_enter Try.func16, Try.ntmps16
  go_wp2_with fail
  have B0 := two_below w #[.int .i64 most, .int .i64 gen, .slice A n cap] #[.int .i64 0, .int .i64 0, .slice none 0 0] 42 42
  refine (rFind_any (h.below B0.1) HL.out most gen s).mono ?_
  rw [HX.out]
  rintro e w1 ⟨rfl, hb1⟩
  have q0 := heap_below hb1 B0.2.1
  have q1 := heap_below hb1 B0.2.2
  have hB1 := b_then B0.1 hb1
  have c00 := cell_heap q0 0
  have c01 := cell_heap q0 1
  have c02 := cell_heap q0 2
  have c10 := cell_heap q1 0
  have c11 := cell_heap q1 1
  have c12 := cell_heap q1 2
  have f02 := frozen_heap q0 2
  have f10 := frozen_heap q1 0
  have f11 := frozen_heap q1 1
  have f12 := frozen_heap q1 2
  have s0 := heap_lt q0
  have s1 := heap_lt q1
  have s2 : w.heap.size < w1.heap.size := by omega
  obtain ⟨A1, C1, w2, A2, C2, w3, ha1, ha2, hB2, hB3, hG⟩ := two_apps (((Rd.own h).below B0.1).below hb1) (by rw [← HN.out]; exact hl) s
  rw [← HN.out] at ha1 ha2 hG
  obtain ⟨x2, y2⟩ := bcell hB2
  obtain ⟨x3, y3⟩ := bcell hB3
  have hB3' := b_then hB1 hB3
  have s3 := hB3.size
  have s4 := hB2.size
  have HA1 := Lib.hid ha1
  have HA2 := Lib.hid ha2
  clear B0 q0 q1 hb1 ha1 ha2
  go_wp2_with (at_builtin; first | refine wpList_app rfl (.tmp 29) (.tmp 31) 40 rfl rfl rfl HA1.out ?_ | refine wpList_app rfl (.tmp 32) (.tmp 35) 40 rfl rfl rfl HA2.out ?_)
  have z00 := (x3 w.heap.size 0 s0).trans c00
  have z01 := (x3 w.heap.size 1 s0).trans c01
  have z02 := (x3 w.heap.size 2 s0).trans c02
  have z10 := (x3 (w.heap.size + 1) 0 s1).trans c10
  have z11 := (x3 (w.heap.size + 1) 1 s1).trans c11
  have z12 := (x3 (w.heap.size + 1) 2 s1).trans c12
  have g02 := (y3 w.heap.size 2 s0).trans f02
  have g10 := (y3 (w.heap.size + 1) 0 s1).trans f10
  have g11 := (y3 (w.heap.size + 1) 1 s1).trans f11
  have g12 := (y3 (w.heap.size + 1) 2 s1).trans f12
  have t0 : w.heap.size < w3.heap.size := by omega
  have t1 : w.heap.size + 1 < w3.heap.size := by omega
  clear x2 y2 x3 y3 c00 c01 c02 c10 c11 c12 f02 f10 f11 f12
  go_region
  go_wp2
  refine bodyPost_ret (v := .tuple #[.agg #[.int .i64 most, .int .i64 gen, .slice A2 (n + 1) C2], .int .i64 ((n : Int) + 1), .bool false]) (by simp [results, Try.results16, go_sem, z10, z11, z12]) rfl ⟨.slice A2 (n + 1) C2, rfl, by go_grown, ?_⟩
  exact (((((hG.far (a := ⟨w.heap.size, 2, none⟩) s0 _).far (a := ⟨w.heap.size + 1, 0, none⟩) s1 _).far (a := ⟨w.heap.size + 1, 1, none⟩) s1 _).far (a := ⟨w.heap.size + 1, 2, none⟩) s1 _)).mono (by omega)
set_option maxHeartbeats 1000000 in
theorem rGet_over {w : World} {base : Nat} {v : Value} {L : List (Int × Bool)} (h : GL w base v L) (hb : base ≤ w.heap.size) (hl : L.length < 1000000) (most gen s : Int) (hx : findL L s 0 = 0) (hm : most ≤ L.length) (hg0 : 0 ≤ gen) (hg1 : gen < 4611686018427387904) :
    Calls Try.prog 16 #[.agg #[.int .i64 most, .int .i64 gen, v], .int .i64 s] w fun e w' => ∃ v', e = .returned (.tuple #[.agg #[.int .i64 most, .int .i64 (gen + 1), v'], .int .i64 1, .bool true]) ∧ Below w.heap.size w w' ∧ GL w' base v' [(s, true)] := by
  have HX := Lib.hid hx
  clear hx
  obtain ⟨A, cap, rfl⟩ := h.form
  obtain ⟨n, hn⟩ : ∃ n, n = L.length := ⟨_, rfl⟩
  rw [← hn] at h hl hm ⊢
  have d1 : decide (most ≤ (n : Int)) = true := decide_eq_true hm
  have HN := Lib.hid hn
  have HL : Hid (L.length < 4611686018427387904) := Lib.hid (by omega)
  clear hn hm
  go_enter Try.func16, Try.ntmps16
  go_wp2_with fail
  have B0 := two_below w #[.int .i64 most, .int .i64 gen, .slice A n cap] #[.int .i64 0, .int .i64 0, .slice none 0 0] 42 42
  refine (rFind_any (h.below B0.1) HL.out most gen s).mono ?_
  rw [HX.out]
  rintro e w1 ⟨rfl, hb1⟩
  have q0 := heap_below hb1 B0.2.1
  have q1 := heap_below hb1 B0.2.2
  have hB1 := b_then B0.1 hb1
  have c00 := cell_heap q0 0
  have c01 := cell_heap q0 1
  have c02 := cell_heap q0 2
  have c10 := cell_heap q1 0
  have c11 := cell_heap q1 1
  have c12 := cell_heap q1 2
  have f02 := frozen_heap q0 2
  have f10 := frozen_heap q1 0
  have f11 := frozen_heap q1 1
  have f12 := frozen_heap q1 2
  have s0 := heap_lt q0
  have s1 := heap_lt q1
  have f00 := frozen_heap q0 0
  have f01 := frozen_heap q0 1
  have v1 : wrap64 (gen + 1) = gen + 1 := IntWalk.wrap64_in _ (by omega)
  have hsz : (((w1.setCell ⟨w.heap.size, 0, none⟩ (.int .i64 most)).setCell ⟨w.heap.size, 1, none⟩ (.int .i64 (gen + 1))).setCell ⟨w.heap.size, 2, none⟩ (.slice none 0 0)).heap.size = w1.heap.size := by simp
  have p0 := heap_set (heap_set (heap_set q0 0 (.int .i64 most)) 1 (.int .i64 (gen + 1))) 2 (.slice none 0 0)
  have p1 := heap_far (heap_far (heap_far q1 (a := ⟨w.heap.size, 0, none⟩) (by simp) (.int .i64 most)) (a := ⟨w.heap.size, 1, none⟩) (by simp) (.int .i64 (gen + 1))) (a := ⟨w.heap.size, 2, none⟩) (by simp) (.slice none 0 0)
  obtain ⟨A1, C1, w2, A2, C2, w3, ha1, ha2, hB2, hB3, hG⟩ := two_apps (w := (((w1.setCell ⟨w.heap.size, 0, none⟩ (.int .i64 most)).setCell ⟨w.heap.size, 1, none⟩ (.int .i64 (gen + 1))).setCell ⟨w.heap.size, 2, none⟩ (.slice none 0 0))) (v := .slice none 0 0) (L := []) ⟨rfl, .inl ⟨rfl, rfl⟩⟩ (by simp) s
  have hBs : Below w.heap.size w (((w1.setCell ⟨w.heap.size, 0, none⟩ (.int .i64 most)).setCell ⟨w.heap.size, 1, none⟩ (.int .i64 (gen + 1))).setCell ⟨w.heap.size, 2, none⟩ (.slice none 0 0)) := by go_grown
  have hB3' := b_then hBs hB3
  have r0 := heap_below hB3 p0
  have r1 := heap_below hB3 p1
  have s3 := hB3.size
  rw [hsz] at ha1 hG s3
  simp only [List.length_nil, Nat.zero_add, List.nil_append] at ha1 ha2 hG
  clear hB2 hB3 p0 p1 hsz hBs
  have HA1 := Lib.hid ha1
  have HA2 := Lib.hid ha2
  clear B0 q0 q1 hb1 ha1 ha2
  have Z00 := Lib.hid (cell_heap r0 0)
  have Z01 := Lib.hid (cell_heap r0 1)
  have Z02 := Lib.hid (cell_heap r0 2)
  have Z10 := Lib.hid (cell_heap r1 0)
  have Z11 := Lib.hid (cell_heap r1 1)
  have Z12 := Lib.hid (cell_heap r1 2)
  have G02 := Lib.hid (frozen_heap r0 2)
  have G10 := Lib.hid (frozen_heap r1 0)
  have G11 := Lib.hid (frozen_heap r1 1)
  have G12 := Lib.hid (frozen_heap r1 2)
  clear r0 r1
  have z00 := Z00.out
  have z01 := Z01.out
  have z02 := Z02.out
  have z10 := Z10.out
  have z11 := Z11.out
  have z12 := Z12.out
  have g02 := G02.out
  have g10 := G10.out
  have g11 := G11.out
  have g12 := G12.out
  have t0 : w.heap.size < w3.heap.size := by omega
  have t1 : w.heap.size + 1 < w3.heap.size := by omega
  go_wp2_with (at_builtin; first | refine wpList_app rfl (.tmp 29) (.tmp 31) 40 rfl rfl rfl HA1.out ?_ | refine wpList_app rfl (.tmp 32) (.tmp 35) 40 rfl rfl rfl HA2.out ?_)
  clear c00 c01 c02 c10 c11 c12 f00 f01 f02 f10 f11 f12
  go_region
  go_wp2
  refine bodyPost_ret (v := .tuple #[.agg #[.int .i64 most, .int .i64 (gen + 1), .slice A2 1 C2], .int .i64 1, .bool true]) (by simp [results, Try.results16, go_sem, z10, z11, z12]) rfl ⟨.slice A2 1 C2, rfl, by go_grown, ?_⟩
  exact (((((hG.far (a := ⟨w.heap.size, 2, none⟩) s0 _).far (a := ⟨w.heap.size + 1, 0, none⟩) s1 _).far (a := ⟨w.heap.size + 1, 1, none⟩) s1 _).far (a := ⟨w.heap.size + 1, 2, none⟩) s1 _)).mono (by omega)
end Go.Proofs.Ythkhpkfigejbdaa
