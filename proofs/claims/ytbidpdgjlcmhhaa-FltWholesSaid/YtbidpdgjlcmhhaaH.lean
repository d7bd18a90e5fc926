/- Helpers of this seat: arguments opened (flat structs, arrays, slices of them), masks and shifts of 64-bit numbers, worlds below a block. No condition. -/
import Derived.Test.YtbidpdgjlcmhhaaRows
import Derived.WalkKit
import Derived.ProofKit
import Derived.OpenShut
import Derived.Handy
import Derived.ChangeOld
import Derived.SizedLaws
import Derived.ShutString
import Derived.WalkLawsBesides
import Derived.WalkSpells
import Derived.Laws.BitsAllLaws
import Derived.Deep.Slices
namespace Go.Proofs.Ytbidpdgjlcmhhaa
open Go.ChangeShapes Go.WideShapes Go.ChangeAt Go.RowKit
set_option linter.unusedVariables false
set_option linter.unusedSimpArgs false

theorem ret_v {a b : Value} (h : a = b) : Ending.returned a = .returned b := by rw [h]

/-! ### masks -/
theorem and_mask (n : Nat) (hn : n ≤ 64) (x : Int) (h0 : 0 ≤ x) (h1 : x < 18446744073709551616) : bits .and .u64 x ((2 ^ n - 1 : Nat) : Int) = x % (2 ^ n : Nat) := by
  have hp : 2 ^ n ≤ 2 ^ 64 := Nat.pow_le_pow_right (by omega) hn
  have hp0 : 0 < 2 ^ n := Nat.two_pow_pos n
  rw [u64_and x _ h0 h1 (by omega) (by omega), Int.toNat_natCast, Nat.and_two_pow_sub_one_eq_mod]
  obtain ⟨y, rfl⟩ := Int.eq_ofNat_of_zero_le h0
  generalize 2 ^ n = m at *
  rw [Int.toNat_natCast, Int.natCast_emod]
theorem and1 (x : Int) (h0 : 0 ≤ x) (h1 : x < 18446744073709551616) : bits .and .u64 x 1 = x % 2 := and_mask 1 (by omega) x h0 h1
theorem and511 (x : Int) (h0 : 0 ≤ x) (h1 : x < 18446744073709551616) : bits .and .u64 x 511 = x % 512 := and_mask 9 (by omega) x h0 h1
theorem and4095 (x : Int) (h0 : 0 ≤ x) (h1 : x < 18446744073709551616) : bits .and .u64 x 4095 = x % 4096 := and_mask 12 (by omega) x h0 h1
theorem and20 (x : Int) (h0 : 0 ≤ x) (h1 : x < 18446744073709551616) : bits .and .u64 x 1048575 = x % 1048576 := and_mask 20 (by omega) x h0 h1

theorem w511 (x : Int) (h0 : 0 ≤ x) (h1 : x < 18446744073709551616) : wrap64 (bits .and .u64 x 511) = x % 512 := by
  rw [and511 x h0 h1]; unfold wrap64; omega
theorem w4095 (x : Int) (h0 : 0 ≤ x) (h1 : x < 18446744073709551616) : wrap64 (bits .and .u64 x 4095) = x % 4096 := by
  rw [and4095 x h0 h1]; unfold wrap64; omega
theorem w20 (x : Int) (h0 : 0 ≤ x) (h1 : x < 18446744073709551616) : wrap64 (bits .and .u64 x 1048575) = x % 1048576 := by
  rw [and20 x h0 h1]; unfold wrap64; omega

/-- '|' of a multiple of 2^i and a number below 2^i is their sum. -/
theorem or_join (i : Nat) (x y : Int) (h0 : 0 ≤ x) (h1 : x < 18446744073709551616) (hx : x % (2 ^ i : Nat) = 0) (h2 : 0 ≤ y) (h3 : y < (2 ^ i : Nat)) (h4 : y < 18446744073709551616) : bits .or .u64 x y = x + y := by
  obtain ⟨x, rfl⟩ := Int.eq_ofNat_of_zero_le h0
  obtain ⟨y, rfl⟩ := Int.eq_ofNat_of_zero_le h2
  have hx' : x % 2 ^ i = 0 := by
    rw [← Int.natCast_emod] at hx
    exact Int.ofNat_eq_zero.1 hx
  rw [u64_or _ _ h0 h1 h2 h4, Int.toNat_natCast, Int.toNat_natCast, nat_join i x y hx' (Int.ofNat_lt.1 h3)]
  omega
theorem or_comm (x y : Int) (h0 : 0 ≤ x) (h1 : x < 18446744073709551616) (h2 : 0 ≤ y) (h4 : y < 18446744073709551616) : bits .or .u64 x y = bits .or .u64 y x := by
  rw [u64_or x y h0 h1 h2 h4, u64_or y x h2 h4 h0 h1, Nat.or_comm]

theorem nat_or_mid (i j x y : Nat) (hij : i ≤ j) (hx : x % 2 ^ j < 2 ^ i) (hy : y % 2 ^ i = 0) (hy2 : y < 2 ^ j) : x ||| y = x + y := by
  have hx1 : x = 2 ^ j * (x / 2 ^ j) + x % 2 ^ j := (Nat.div_add_mod x (2 ^ j)).symm
  generalize x / 2 ^ j = h at hx1
  generalize x % 2 ^ j = l at hx1 hx
  subst hx1
  have hy1 : y = 2 ^ i * (y / 2 ^ i) := by have := Nat.div_add_mod y (2 ^ i); omega
  generalize y / 2 ^ i = m at hy1
  subst hy1
  have hlt : 2 ^ i * m + l < 2 ^ j := by
    have hp : 2 ^ j = 2 ^ i * 2 ^ (j - i) := by rw [← Nat.pow_add]; congr 1; omega
    rw [hp] at hy2 ⊢
    have : m < 2 ^ (j - i) := Nat.lt_of_mul_lt_mul_left hy2
    calc 2 ^ i * m + l < 2 ^ i * m + 2 ^ i := by omega
      _ = 2 ^ i * (m + 1) := by rw [Nat.mul_succ]
      _ ≤ 2 ^ i * 2 ^ (j - i) := Nat.mul_le_mul_left _ this
  have e1 : 2 ^ j * h + l = 2 ^ j * h ||| l := Nat.two_pow_add_eq_or_of_lt (by omega) h
  have e2 : 2 ^ i * m + l = 2 ^ i * m ||| l := Nat.two_pow_add_eq_or_of_lt hx m
  have e3 : 2 ^ j * h + (2 ^ i * m + l) = 2 ^ j * h ||| (2 ^ i * m + l) := Nat.two_pow_add_eq_or_of_lt hlt h
  rw [e1, Nat.or_assoc, Nat.or_comm l, ← e2, ← e3, ← e1]
  omega
/-- '|' of numbers whose bits lie apart is their sum: y's from i to j, x's below i and from j on. -/
theorem or_mid (i j : Nat) (x y : Int) (hij : i ≤ j) (h0 : 0 ≤ x) (h1 : x < 18446744073709551616) (h2 : 0 ≤ y) (h3 : y < 18446744073709551616) (hx : x % (2 ^ j : Nat) < (2 ^ i : Nat)) (hy : y % (2 ^ i : Nat) = 0) (hy2 : y < (2 ^ j : Nat)) : bits .or .u64 x y = x + y := by
  obtain ⟨x, rfl⟩ := Int.eq_ofNat_of_zero_le h0
  obtain ⟨y, rfl⟩ := Int.eq_ofNat_of_zero_le h2
  rw [← Int.natCast_emod] at hx hy
  rw [u64_or _ _ h0 h1 h2 h3, Int.toNat_natCast, Int.toNat_natCast, nat_or_mid i j x y hij (Int.ofNat_lt.1 hx) (Int.ofNat_eq_zero.1 hy) (Int.ofNat_lt.1 hy2)]
  omega
theorem nat_or_bit (j x : Nat) (h : x / 2 ^ j % 2 = 0) : x ||| 2 ^ j = x + 2 ^ j := by
  have hp : 0 < 2 ^ j := Nat.two_pow_pos j
  have hs : 2 ^ (j + 1) = 2 ^ j * 2 := Nat.pow_succ _ _
  have hx : x = 2 ^ (j + 1) * (x / 2 ^ j / 2) + x % 2 ^ j := by
    have h1 := Nat.div_add_mod x (2 ^ j)
    have h2 := Nat.div_add_mod (x / 2 ^ j) 2
    rw [h, Nat.add_zero] at h2
    rw [hs, Nat.mul_assoc, h2, h1]
  have hl : x % 2 ^ j < 2 ^ j := Nat.mod_lt _ hp
  generalize x / 2 ^ j / 2 = a at hx
  generalize x % 2 ^ j = l at hx hl
  subst hx
  have e1 : 2 ^ (j + 1) * a + l = 2 ^ (j + 1) * a ||| l := Nat.two_pow_add_eq_or_of_lt (by omega) a
  have e2 : 2 ^ j * 1 + l = 2 ^ j * 1 ||| l := Nat.two_pow_add_eq_or_of_lt hl 1
  have e3 : 2 ^ (j + 1) * a + (2 ^ j * 1 + l) = 2 ^ (j + 1) * a ||| (2 ^ j * 1 + l) := Nat.two_pow_add_eq_or_of_lt (by omega) a
  rw [Nat.mul_one] at e2 e3
  rw [e1, Nat.or_assoc, Nat.or_comm l, ← e2, ← e3, ← e1]
  omega
/-- '|' of a bit that isn't set is a sum. -/
theorem or_bit (j : Nat) (x : Int) (h0 : 0 ≤ x) (h1 : x < 18446744073709551616) (hj : j < 64) (h : x / (2 ^ j : Nat) % 2 = 0) : bits .or .u64 x ((2 ^ j : Nat) : Int) = x + (2 ^ j : Nat) := by
  obtain ⟨x, rfl⟩ := Int.eq_ofNat_of_zero_le h0
  have hp : 2 ^ j < 2 ^ 64 := Nat.pow_lt_pow_right (by omega) hj
  have hx' : x / 2 ^ j % 2 = 0 := by
    rw [← Int.natCast_ediv] at h
    omega
  rw [u64_or _ _ h0 h1 (Int.natCast_nonneg _) (by omega), Int.toNat_natCast, Int.toNat_natCast, nat_or_bit j x hx']
  omega

/-- '&' with a bit that isn't set is nought. -/
theorem and_bit0 (j : Nat) (x : Int) (h0 : 0 ≤ x) (h1 : x < 18446744073709551616) (hj : j < 64) (h : x / (2 ^ j : Nat) % 2 = 0) : bits .and .u64 x ((2 ^ j : Nat) : Int) = 0 := by
  obtain ⟨x, rfl⟩ := Int.eq_ofNat_of_zero_le h0
  have hp : 2 ^ j < 2 ^ 64 := Nat.pow_lt_pow_right (by omega) hj
  have hx' : x / 2 ^ j % 2 = 0 := by
    rw [← Int.natCast_ediv] at h
    omega
  rw [u64_and _ _ h0 h1 (Int.natCast_nonneg _) (by omega), Int.toNat_natCast, Int.toNat_natCast, nat_bit, hx', Nat.zero_mul]
  rfl

def bi (b : Bool) : Int := if b then 1 else 0
theorem bi_bd (b : Bool) : 0 ≤ bi b ∧ bi b ≤ 1 := by cases b <;> simp [bi]
theorem bi_true : bi true = 1 := rfl
theorem bi_false : bi false = 0 := rfl

/-! ### worlds -/
theorem cell_heap {w : World} {b : Nat} {cs : Array Value} {t : TypeId} {fr : Nat × Nat} (h : w.heap[b]? = some (.cells cs t fr)) (o : Nat) : w.cell? ⟨b, o, none⟩ = cs[o]? := by
  simp [World.cell?, h]
theorem frozen_heap {w : World} {b : Nat} {cs : Array Value} {t : TypeId} (h : w.heap[b]? = some (.cells cs t (0, 0))) (o : Nat) : w.frozen? ⟨b, o, none⟩ = false := by
  simp [World.frozen?, h]
theorem heap_lt {w : World} {b : Nat} {o : Obj} (h : w.heap[b]? = some o) : b < w.heap.size := by
  rcases Nat.lt_or_ge b w.heap.size with h' | h'
  · exact h'
  · rw [Array.getElem?_eq_none h'] at h; cases h
theorem heap_new (w : World) (o : Obj) : (w.alloc o).heap[w.heap.size]? = some o := by show (w.heap.push o)[w.heap.size]? = _; simp
theorem heap_old (w : World) (o o' : Obj) {b : Nat} (h : w.heap[b]? = some o') : (w.alloc o).heap[b]? = some o' := by
  rw [Below.heap_alloc w o b (heap_lt h)]; exact h

theorem heap_set {w : World} {b : Nat} {cs : Array Value} {t : TypeId} {fr : Nat × Nat} (h : w.heap[b]? = some (.cells cs t fr)) (o : Nat) (v : Value) : (w.setCell ⟨b, o, none⟩ v).heap[b]? = some (.cells (cs.setIfInBounds o v) t fr) := by
  show (w.heap.modify b _)[b]? = _
  rw [Array.getElem?_modify, if_pos rfl, h]
  rfl
theorem heap_far {w : World} {b : Nat} {o : Obj} (h : w.heap[b]? = some o) {a : Addr} (hne : b ≠ a.block) (v : Value) : (w.setCell a v).heap[b]? = some o := by
  rw [Below.heap_setCell w a v b hne]; exact h
theorem heap_below {W w1 : World} (hb : Below W.heap.size W w1) {b : Nat} {o : Obj} (h : W.heap[b]? = some o) : w1.heap[b]? = some o := by
  rw [hb.block b (heap_lt h)]; exact h
theorem bcell {W w1 : World} (hb : Below W.heap.size W w1) : (∀ b o, b < W.heap.size → w1.cell? ⟨b, o, none⟩ = W.cell? ⟨b, o, none⟩) ∧ (∀ b o, b < W.heap.size → w1.frozen? ⟨b, o, none⟩ = W.frozen? ⟨b, o, none⟩) :=
  ⟨fun b o h => hb.cell (p := ⟨b, o, none⟩) h, fun b o h => hb.frozen (p := ⟨b, o, none⟩) h⟩

theorem bkeep {W w1 : World} (hb : Below W.heap.size W w1) : ∀ b o v, W.cell? ⟨b, o, none⟩ = some v → w1.cell? ⟨b, o, none⟩ = some v :=
  fun b o v h => (hb.cell (p := ⟨b, o, none⟩) (World.block_lt_of_cell? W ⟨b, o, none⟩ h)).trans h
/-- Two and three steps, each below what was there. -/
theorem b_then {w W w1 : World} (h : Below w.heap.size w W) (hb : Below W.heap.size W w1) : Below w.heap.size w w1 := h.trans (hb.mono h.size)
theorem b_then3 {w W w1 w2 : World} (h : Below w.heap.size w W) (hb : Below W.heap.size W w1) (hb2 : Below w1.heap.size w1 w2) : Below w.heap.size w w2 := b_then (b_then h hb) hb2

/-! ### flat types: structs and arrays of integers and bools -/
inductive K where
  | i (k : IntKind)
  | b
def K.ok : K → Value → Prop
  | .i k, v => ∃ n, v = .int k n ∧ (Lit.int k n).wf = true
  | .b, v => ∃ x, v = .bool x
def AllOK : List K → List Value → Prop
  | [], cs => cs = []
  | k :: l, cs => ∃ v r, cs = v :: r ∧ k.ok v ∧ AllOK l r
theorem AllOK.length : ∀ {l : List K} {cs : List Value}, AllOK l cs → cs.length = l.length
  | [], _, h => by rw [h]; rfl
  | _ :: _, _, ⟨v, r, h, _, h2⟩ => by rw [h]; simp [AllOK.length h2]
theorem AllOK.append : ∀ {l m : List K} {cs ds : List Value}, AllOK l cs → AllOK m ds → AllOK (l ++ m) (cs ++ ds)
  | [], _, _, _, h, h2 => by rw [h]; exact h2
  | _ :: _, _, _, _, ⟨v, r, h, h1, h2⟩, h3 => ⟨v, r ++ _, by rw [h]; rfl, h1, AllOK.append h2 h3⟩
def flatFields (P : Program) (g : TypeId → Option (List K)) : List Field → Nat → Option (List K)
  | [], _ => some []
  | fd :: r, off =>
    if fd.offset = off then
      match g fd.type with
      | some l => if P.cellsOf fd.type = l.length then (flatFields P g r (off + l.length)).map (l ++ ·) else none
      | none => none
    else none
def flat (P : Program) : Nat → TypeId → Option (List K)
  | 0, _ => none
  | f + 1, t =>
    match P.underlying t with
    | some .bool => some [.b]
    | some (.int k) => some [.i k]
    | some (.struct fs) => (flatFields P (flat P f) fs.toList 0).bind fun l => if P.cellsOf t = l.length then some l else none
    | some (.array n e) => (flat P f e).bind fun l => if P.cellsOf e = l.length ∧ P.cellsOf t = n * l.length then some (List.replicate n l).flatten else none
    | _ => none
section
variable {H : Type} {enc : TypeId × Value → H} {P : Program} {w : World} {base : Nat} {spare : Nat → Bool} {held : Bool}
theorem flatFields_ok {g : TypeId → Option (List K)} {n : Nat} (hg : ∀ t l cs x, g t = some l → DataW.trod enc P w base spare held n t cs = some x → AllOK l cs) :
    ∀ (fs : List Field) (off : Nat) (l : List K) (cs : List Value), flatFields P g fs off = some l → cs.length = off + l.length →
      (∀ (i : Nat) (f : Field), fs[i]? = some f → ∃ x, DataW.trod enc P w base spare held n f.type ((cs.drop f.offset).take (P.cellsOf f.type)) = some x) → AllOK l (cs.drop off)
  | [], off, l, cs, h, hl, _ => by
    simp only [flatFields, Option.some.injEq] at h
    subst h
    show cs.drop off = []
    rw [List.drop_eq_nil_iff]
    simp at hl
    omega
  | fd :: r, off, l, cs, h, hl, hf => by
    unfold flatFields at h
    split at h
    · rename_i hoff
      split at h
      · rename_i l1 hl1
        split at h
        · rename_i hc
          rw [Option.map_eq_some_iff] at h
          obtain ⟨l2, h2, rfl⟩ := h
          obtain ⟨x, hx⟩ := hf 0 fd rfl
          have a1 := hg _ _ _ _ hl1 hx
          have a2 := flatFields_ok hg r (off + l1.length) l2 cs h2 (by simp at hl; omega) (fun i f hi => hf (i + 1) f (by simpa using hi))
          have := a1.append a2
          rw [hoff, hc] at this
          rw [← List.drop_drop, List.take_append_drop] at this
          exact this
        · cases h
      · cases h
    · cases h
theorem rep_ok {n : Nat} {l : List K} {cs : List Value} (hl : cs.length = n * l.length) (h : ∀ i, i < n → AllOK l ((cs.drop (i * l.length)).take l.length)) : AllOK (List.replicate n l).flatten cs := by
  induction n generalizing cs with
  | zero => simp at hl; simp [AllOK, hl]
  | succ n ih =>
    rw [List.replicate_succ, List.flatten_cons]
    have h0 := h 0 (by omega)
    simp only [Nat.zero_mul, List.drop_zero] at h0
    have h1 : AllOK (List.replicate n l).flatten (cs.drop l.length) := ih (by rw [List.length_drop, hl, Nat.succ_mul]; omega) (fun i hi => by
      have := h (i + 1) (by omega)
      rw [Nat.succ_mul, Nat.add_comm, ← List.drop_drop] at this
      exact this)
    have := h0.append h1
    rwa [List.take_append_drop] at this
theorem flat_ok : ∀ (f : Nat) (t : TypeId) (l : List K), flat P f t = some l → ∀ (fuel : Nat) (cs : List Value) (x : DataW H × List MemPlace), DataW.trod enc P w base spare held fuel t cs = some x → AllOK l cs
  | 0, _, _, h => by cases h
  | f + 1, t, l, h => fun fuel cs x hx => by
    unfold flat at h
    split at h
    · rename_i hu
      simp only [Option.some.injEq] at h
      subst h
      obtain ⟨b, rfl, _⟩ := DataW.trod_bool hu hx
      exact ⟨_, [], rfl, ⟨_, rfl⟩, rfl⟩
    · rename_i hu
      simp only [Option.some.injEq] at h
      subst h
      obtain ⟨n, rfl, _, hw⟩ := DataW.trod_int hu hx
      exact ⟨_, [], rfl, ⟨n, rfl, hw⟩, rfl⟩
    · rename_i fs hu
      rw [Option.bind_eq_some_iff] at h
      obtain ⟨l1, h1, h2⟩ := h
      split at h2
      · rename_i hc
        simp only [Option.some.injEq] at h2
        subst h2
        obtain ⟨xs, n, _, rfl, hl, hlen, hf⟩ := DataW.trod_struct hu hx
        have := flatFields_ok (enc := enc) (w := w) (base := base) (spare := spare) (held := held) (n := n) (fun t l cs x => fun a b => flat_ok f t l a n cs x b) fs.toList 0 l1 cs h1 (by omega) (fun i fd hi => by
          have hi' : i < xs.length := by
            rw [hlen]
            have := (List.getElem?_eq_some_iff.1 hi).1
            simpa using this
          have := hf i fd (by simpa using hi)
          exact ⟨xs[i], by rw [this, List.getElem?_eq_getElem hi']⟩)
        simpa using this
      · cases h2
    · rename_i n e hu
      rw [Option.bind_eq_some_iff] at h
      obtain ⟨l1, h1, h2⟩ := h
      split at h2
      · rename_i hc
        simp only [Option.some.injEq] at h2
        subst h2
        obtain ⟨xs, m, _, _, hcl, hlen, hf⟩ := DataW.trod_array hu hx
        refine rep_ok (by rw [hcl, hc.2]) (fun i hi => ?_)
        have hy := hf i hi
        rw [hc.1, List.getElem?_eq_getElem (by omega)] at hy
        exact flat_ok f e l1 h1 m _ _ hy
      · cases h2
    · cases h

/-- An argument that is a struct or an array of integers and bools: its cells. -/
theorem open_flat {r : Reach} {b0 : Nat} {t : TypeId} {v : Value} {d : DataW H} {ps : List MemPlace} (f : Nat) {l : List K} (hfl : flat P f t = some l)
    (hag : (match P.underlying t with | some (.struct _) | some (.array _ _) => true | _ => false) = true)
    (hval : Value.okWide P w r b0 t v) (hd : DataW.Trod enc P w base spare held t v d ps) : ∃ cs : List Value, v = .agg cs.toArray ∧ AllOK l cs := by
  obtain ⟨fuel, hf⟩ := hd
  have h : ∃ cs : Array Value, v = .agg cs := by
    unfold Value.okWide at hval
    split at hval
    · obtain ⟨cs, h, _⟩ := hval; exact ⟨cs, h⟩
    · obtain ⟨cs, h, _⟩ := hval; exact ⟨cs, h⟩
    · rename_i h1 h2
      exfalso
      revert hag
      cases hu : P.underlying t with
      | none => simp
      | some k => cases k <;> simp_all
  obtain ⟨cs, rfl⟩ := h
  exact ⟨cs.toList, by simp, flat_ok f t l hfl fuel _ _ (by simpa [Value.cells] using hf)⟩

/-- A slice argument whose elements are such: 'len' elements, element i's cells are 'R i'. -/
def Rows_ (w : World) (l : List K) (A : Option Addr) (len : Nat) : Prop :=
  len ≤ 9223372036854775807 ∧ (0 < len → ∃ (b off : Nat) (R : Nat → List Value), A = some ⟨b, off, none⟩ ∧ b < w.heap.size ∧
    ∀ i, i < len → AllOK l (R i) ∧ ∀ j, j < l.length → w.cell? ⟨b, off + i * l.length + j, none⟩ = (R i)[j]?)
theorem open_rows {r : Reach} {b0 : Nat} {t e : TypeId} {v : Value} {d : DataW H} {ps : List MemPlace} (f : Nat) {l : List K} (hl : 0 < l.length) (hu : P.underlying t = some (.slice e)) (hfl : flat P f e = some l) (hc : P.cellsOf e = l.length)
    (hval : Value.okWide P w r b0 t v) (hd : DataW.Trod enc P w base spare held t v d ps) : ∃ A len cap, v = .slice A len cap ∧ Rows_ w l A len := by
  obtain ⟨A, len, cap, rfl⟩ := okWide_slice hu hval
  obtain ⟨fuel, hf⟩ := hd
  refine ⟨A, len, cap, rfl, ?_⟩
  rcases Go.Deep.open_slice hu hf with ⟨hcs, _⟩ | ⟨a, len', cap', m, n, D, Pl, hcs, _, hlc, hm, hmm, _, hx⟩
  · simp [Value.cells] at hcs
    obtain ⟨rfl, rfl, rfl⟩ := hcs
    exact ⟨by omega, fun h => by omega⟩
  · simp [Value.cells] at hcs
    obtain ⟨rfl, rfl, rfl⟩ := hcs
    refine ⟨by unfold maxLen at hm; omega, fun h0 => ?_⟩
    have hlm : len ≤ m := by rw [hmm]; split <;> omega
    have hR : ∀ i, i < len → ∃ cs, AllOK l cs ∧ ∀ j, j < l.length → w.cell? ((a.add (i * l.length)).add j) = cs[j]? := fun i hi => by
      obtain ⟨cs, h1, h2⟩ := hx i (by omega)
      rw [hc] at h1
      exact ⟨cs, flat_ok f e l hfl n cs _ h2, (World.cells?_some h1).2.2⟩
    obtain ⟨R, hR⟩ := Go.Deep.choose_lt hR
    have hsp : a.spot = none ∧ a.block < w.heap.size := by
      obtain ⟨h1, h2⟩ := hR 0 h0
      have h3 := h2 0 hl
      rw [Nat.zero_mul, Go.Deep.add_add, Nat.zero_add] at h3
      have h4 : a.add 0 = a := rfl
      rw [h4] at h3
      have hlen := h1.length
      rw [List.getElem?_eq_getElem (by omega)] at h3
      refine ⟨?_, World.block_lt_of_cell? w a h3⟩
      unfold World.cell? at h3
      split at h3
      · split at h3
        · cases h3
        · rename_i h5; simpa using h5
      · cases h3
    obtain ⟨b, off, spot⟩ := a
    obtain ⟨h5, h6⟩ := hsp
    simp only at h5
    subst h5
    refine ⟨b, off, R, rfl, h6, fun i hi => ⟨(hR i hi).1, fun j hj => ?_⟩⟩
    rw [← (hR i hi).2 j hj, Go.Deep.add_add]
    congr 1
    unfold Addr.add
    split
    · simp
    · simp [Nat.add_assoc]
end
end Go.Proofs.Ytbidpdgjlcmhhaa
