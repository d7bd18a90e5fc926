/- Store of the memory. No condition. -/
import Derived.Test.YtnjjeedalmikaaaRamD
import Derived.Test.YtnjjeedalmikaaaStnA
namespace Go.Proofs.Ytnjjeedalmikaaa
open Go.ChangeShapes Go.WideShapes Go.ChangeAt Go.RowKit
open Go.ChangeMaps (setBlock heap_setBlock_same heap_setBlock_other)
set_option linter.unusedVariables false
set_option linter.unusedSimpArgs false
section
variable {P : Program} {md : Region.Mode} {B : World → Prop} {F : Nat → Value → World → Prop} {R : Nat → Value → Value → Prop} {X : Nat → Operand} {i : Nat} {o : Oper} {a : Act} {vals : Nat → Value}
theorem nOp_known {v : Value} (hR : R i (a.eval (X i)) v) (hF : ∀ w, B w → Knows md F o vals w → F i v w) (h : ∀ w, B w → (execOp a.eval o).run P w = .ok (.value v) w) : nOp P md B F R X i o a vals := ⟨fun w hb hk => by
  rw [h w hb]; exact ⟨hR, hb, hF w hb hk, fun _ _ h => h⟩⟩
theorem nOp_callE {f : FuncId} {args : Array Value} (h : ∀ w, (execOp a.eval o).run P w = .ok (.enter f args) w)
    (hc : ∀ w, B w → Calls P f args w fun e w' => ∃ v, e = .returned v ∧ R i (a.eval (X i)) v ∧ NPost B F i v w w') : nOp P md B F R X i o a vals := ⟨fun w hb _ => by
  rw [h w]
  exact hc w hb⟩
theorem nOp_skip {u : Value} {w' : World → World} (hd : o.dst = none) (hR : R i (a.eval (X i)) u) (h : ∀ w, B w → Knows md F o vals w → (execOp a.eval o).run P w = .ok .skip (w' w)) (hp : ∀ w, B w → Knows md F o vals w → NPost B F i u w (w' w)) : nOp P md B F R X i o a vals := ⟨fun w hb hk => by
  rw [h w hb hk]; exact ⟨u, hd, hR, hp w hb hk⟩⟩
end
/-- The memory as it was, or with the byte stored. -/
def TwoM (mem : Nat → Nat) (at_ x : Nat) (m' : Nat → Nat) : Prop := m' = mem ∨ m' = updB mem at_ x
theorem updB_same (mem : Nat → Nat) (k x : Nat) : updB (updB mem k x) k x = updB mem k x := by funext j; unfold updB; split <;> rfl
section
variable (W0 : World) (base b m : Nat) (n : Int) (hs : Hs) (mem : Nat → Nat) (v : Value) (f r x : Nat)
structure SB (W : World) : Prop where
  rt : RT base m W0 W
  ex : ∃ L m', TwoM mem (f * 4096 + r) x m' ∧ RamX W base b m n hs m' v L
structure SG (g : Nat) (W : World) : Prop where
  ex : ∃ L m', TwoM mem (f * 4096 + r) x m' ∧ RamX W base b m n hs m' v L ∧ kget L f = some g
structure SF (W : World) : Prop where
  ex : ∃ L, RamX W base b m n hs (updB mem (f * 4096 + r) x) v L
variable {W0 base b m n hs mem v f r x}
/-- The call of own. -/
theorem SB.own {W W' : World} {L L' : Pg} {m' : Nat → Nat} {g : Nat} (hb : SB W0 base b m n hs mem v f r x W) (h2 : TwoM mem (f * 4096 + r) x m') (h : RamX W base b m n hs m' v L) (h' : RamX W' base b m n hs m' v L') (hg : kget L' f = some g) (hr : RT base m W W') (hk : ∀ k g, kget L k = some g → kget L' k = some g) :
    SB W0 base b m n hs mem v f r x W' ∧ SG base b m n hs mem v f r x g W' ∧ (∀ g', SG base b m n hs mem v f r x g' W → SG base b m n hs mem v f r x g' W') ∧ (SF base b m n hs mem v f r x W → SF base b m n hs mem v f r x W') := by
  refine ⟨⟨hb.rt.trans hr, ⟨L', m', h2, h'⟩⟩, ⟨⟨L', m', h2, h', hg⟩⟩, fun g' hs' => ?_, fun hs' => ?_⟩
  · obtain ⟨L1, m1, e1, e2, e3⟩ := hs'.ex
    obtain ⟨rfl, rfl⟩ := h.uniq e2
    exact ⟨⟨L', _, h2, h', hk _ _ e3⟩⟩
  · obtain ⟨L1, e2⟩ := hs'.ex
    obtain ⟨rfl, rfl⟩ := h.uniq e2
    exact ⟨⟨L', h'⟩⟩
/-- The store. -/
theorem SB.store {W : World} {g : Nat} (hb : SB W0 base b m n hs mem v f r x W) (h : SG base b m n hs mem v f r x g W) (hr : r < 4096) (hx : x < 256) :
    SB W0 base b m n hs mem v f r x (W.setCell ⟨g, r, none⟩ (.int .u8 x)) ∧ SF base b m n hs mem v f r x (W.setCell ⟨g, r, none⟩ (.int .u8 x)) ∧ (∀ g', SG base b m n hs mem v f r x g' W → SG base b m n hs mem v f r x g' (W.setCell ⟨g, r, none⟩ (.int .u8 x))) := by
  obtain ⟨L, m', e1, e2, e3⟩ := h.ex
  obtain ⟨q1, q2⟩ := e2.cell e3 hr hx
  have hu : updB m' (f * 4096 + r) x = updB mem (f * 4096 + r) x := by
    rcases e1 with rfl | rfl
    · rfl
    · exact updB_same _ _ _
  rw [hu] at q1
  refine ⟨⟨hb.rt.trans q2, ⟨L, _, .inr rfl, q1⟩⟩, ⟨⟨L, q1⟩⟩, fun g' hs' => ?_⟩
  obtain ⟨L1, m1, d1, d2, d3⟩ := hs'.ex
  obtain ⟨_, rfl⟩ := e2.uniq d2
  exact ⟨⟨L, _, .inr rfl, q1, d3⟩⟩
theorem SG.cell {W : World} {g : Nat} (h : SG base b m n hs mem v f r x g W) (hr : r < 4096) : ∃ old : Nat, W.cell? ⟨g, r, none⟩ = some (.int .u8 old) ∧ W.frozen? ⟨g, r, none⟩ = false := by
  obtain ⟨L, m', e1, e2, e3⟩ := h.ex
  obtain ⟨f', q1, q2, ⟨cs, p1, p2, p3⟩⟩ := e2.pg _ _ e3
  exact ⟨_, (cell_of_row W g r cs _ _ p1).trans (p3 r hr), frozen_of_row W g r cs _ p1⟩
end
section
variable (b an f r xx k q bx : Nat)
def soR : Nat → Value → Value → Prop
  | 0, _, u => u = ptr b
  | 1, _, u => u = .int .u64 an
  | 2, _, u => u = .int .u64 (f : Nat)
  | 3, _, u => u = .int .i64 (f : Nat)
  | 4, _, u => ∃ g, u = ptr g
  | 5, _, u => u = .int .u64 an
  | 6, _, u => u = .int .u64 (r : Nat)
  | 7, _, u => u = .int .u64 (xx : Nat)
  | 8, _, u => u = .int .i64 (k : Nat)
  | 9, _, u => u = .int .i64 (8 * (k : Int))
  | 10, _, u => u = .int .u64 q
  | 11, _, u => u = .int .u8 bx
  | 12, y, u => u = y
  | 13, y, u => ∀ g, y = ptr g → u = .pointer (some ⟨g, r, none⟩)
  | _, _, _ => True
theorem soR_some : ∀ (i : Nat) (y : Value), ∃ u, soR b an f r xx k q bx i y u
  | 0, _ => ⟨_, rfl⟩
  | 1, _ => ⟨_, rfl⟩
  | 2, _ => ⟨_, rfl⟩
  | 3, _ => ⟨_, rfl⟩
  | 4, _ => ⟨_, 0, rfl⟩
  | 5, _ => ⟨_, rfl⟩
  | 6, _ => ⟨_, rfl⟩
  | 7, _ => ⟨_, rfl⟩
  | 8, _ => ⟨_, rfl⟩
  | 9, _ => ⟨_, rfl⟩
  | 10, _ => ⟨_, rfl⟩
  | 11, _ => ⟨_, rfl⟩
  | 12, _ => ⟨_, rfl⟩
  | 13, y => by
    by_cases h : ∃ g, y = ptr g
    · obtain ⟨g, rfl⟩ := h
      exact ⟨.pointer (some ⟨g, r, none⟩), fun g' e => by cases e; rfl⟩
    · exact ⟨undef, fun g e => absurd ⟨g, e⟩ h⟩
  | _ + 14, _ => ⟨undef, trivial⟩
end
def soX : Nat → Operand
  | 12 => .tmp 31
  | 13 => .tmp 39
  | _ => .const undef
def soF (base b m : Nat) (n : Int) (hs : Hs) (mem : Nat → Nat) (v : Value) (f r x : Nat) : Nat → Value → World → Prop
  | 4, u, W => ∃ g, u = ptr g ∧ SG base b m n hs mem v f r x g W
  | 12, u, W => ∃ g, u = ptr g ∧ SG base b m n hs mem v f r x g W
  | 13, u, W => ∃ g, u = .pointer (some ⟨g, r, none⟩) ∧ SG base b m n hs mem v f r x g W
  | 14, _, W => SF base b m n hs mem v f r x W
  | _, _, _ => True
theorem soF_keep {base b m : Nat} {n : Int} {hs : Hs} {mem : Nat → Nat} {v : Value} {f r x : Nat} {W W' : World} (h1 : ∀ g', SG base b m n hs mem v f r x g' W → SG base b m n hs mem v f r x g' W') (h2 : SF base b m n hs mem v f r x W → SF base b m n hs mem v f r x W') (j : Nat) (u : Value) (hF : soF base b m n hs mem v f r x j u W) : soF base b m n hs mem v f r x j u W' := by
  unfold soF at *
  split at hF
  · obtain ⟨g, e, h⟩ := hF; exact ⟨g, e, h1 g h⟩
  · obtain ⟨g, e, h⟩ := hF; exact ⟨g, e, h1 g h⟩
  · obtain ⟨g, e, h⟩ := hF; exact ⟨g, e, h1 g h⟩
  · exact h2 hF
  · trivial
end Go.Proofs.Ytnjjeedalmikaaa
