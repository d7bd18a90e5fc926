/- The laws of layer 17: a call on both states gives the same state and error. No condition but that words have 64 bits. -/
import Derived.Test.YtokmcjjdoiaeaaaTrapF
import Derived.Test.YtokmcjjdoiaeaaaTrapD0
import Derived.Test.YtokmcjjdoiaeaaaTrapD1
import Derived.Test.YtokmcjjdoiaeaaaTrapD2
import Derived.Test.YtokmcjjdoiaeaaaTrapD3
import Derived.Test.YtokmcjjdoiaeaaaTrapD4
import Derived.Test.YtokmcjjdoiaeaaaTrapD5
namespace Go.Proofs.Ytokmcjjdoiaeaaa
open Go.ChangeShapes Go.WideShapes Go.ChangeAt Go.RowKit
set_option linter.unusedVariables false
set_option linter.unusedSimpArgs false
structure St where
  (r0 r1 r2 r3 t en : Int)
  (i : Bool)
  (fa fc s0 s1 s2 s3 : Int)
abbrev u64R (x : Int) : Prop := 0 ≤ x ∧ x < 18446744073709551616
theorem u64_zero : u64R 0 := by constructor <;> decide
structure St.wf (s : St) : Prop where
  r0 : u64R s.r0
  r1 : u64R s.r1
  r2 : u64R s.r2
  r3 : u64R s.r3
  s0 : u64R s.s0
  s1 : u64R s.s1
  s2 : u64R s.s2
  s3 : u64R s.s3
  t0 : -9223372036854775808 ≤ s.t
  t1 : s.t ≤ 9223372036854775807
abbrev St.val (s : St) : Value := stV s.r0 s.r1 s.r2 s.r3 s.t s.en s.i s.fa s.fc s.s0 s.s1 s.s2 s.s3
abbrev St.cs (s : St) : Array Value := #[.int .u64 s.r0, .int .u64 s.r1, .int .u64 s.r2, .int .u64 s.r3, .int .i64 s.t, .int .u64 s.en, .bool s.i, .int .u64 s.fa, .int .i64 s.fc, .int .u64 s.s0, .int .u64 s.s1, .int .u64 s.s2, .int .u64 s.s3]
def St.zero : St := ⟨0, 0, 0, 0, 0, 0, false, 0, 0, 0, 0, 0, 0⟩
theorem St.zero_wf : St.zero.wf := by constructor <;> decide
/-- What a call on a state gives: the same of both packages. -/
def Both (f g : FuncId) (args : Array Value) (s : St) (s' : St) (E : Int) : Prop :=
  (∀ W, Calls Try.prog f (#[s.val] ++ args) W fun e w' => e = .returned (.tuple #[s'.val, .int .i64 E]) ∧ Below W.heap.size W w') ∧ (∀ W, Calls Try.prog g (#[s.val] ++ args) W fun e w' => e = .returned (.tuple #[s'.val, .int .i64 E]) ∧ Below W.heap.size W w')
theorem both_raise (s : St) (h : s.wf) (fa fc : Int) (hf : u64R fa) : ∃ s' E, s'.wf ∧ Both 7 16 #[.agg #[.int .u64 fa, .int .i64 fc]] s s' E := by
  obtain ⟨r0, r1, r2, r3, t, en, i, xa, xc, s0, s1, s2, s3⟩ := s
  by_cases he : en = 0
  · subst he
    exact ⟨_, 5, h, fun W => raise_none r0 r1 r2 r3 t i xa xc s0 s1 s2 s3 fa fc W, fun W => refraise_none r0 r1 r2 r3 t i xa xc s0 s1 s2 s3 fa fc W⟩
  cases i
  · refine ⟨⟨fa, IntKind.u64.wrap fc, 0, 0, t, en, true, fa, fc, r0, r1, r2, r3⟩, 0, ⟨hf, ?_, u64_zero, u64_zero, h.r0, h.r1, h.r2, h.r3, h.t0, h.t1⟩, fun W => raise_ok r0 r1 r2 r3 t en false xa xc s0 s1 s2 s3 fa fc he W, fun W => refraise_ok r0 r1 r2 r3 t en false xa xc s0 s1 s2 s3 fa fc he W⟩
    rw [IntKind.wrap_u64]; constructor <;> simp only [] <;> omega
  · exact ⟨_, 11, h, fun W => raise_busy r0 r1 r2 r3 t en true xa xc s0 s1 s2 s3 fa fc he W, fun W => refraise_busy r0 r1 r2 r3 t en true xa xc s0 s1 s2 s3 fa fc he W⟩
theorem both_return (s : St) (h : s.wf) : ∃ s' E, s'.wf ∧ Both 10 17 #[] s s' E := by
  obtain ⟨r0, r1, r2, r3, t, en, i, xa, xc, s0, s1, s2, s3⟩ := s
  cases i
  · exact ⟨_, 5, h, fun W => return_none r0 r1 r2 r3 t en false xa xc s0 s1 s2 s3 W, fun W => refreturn_none r0 r1 r2 r3 t en false xa xc s0 s1 s2 s3 W⟩
  · exact ⟨⟨s0, s1, s2, s3, t, en, false, 0, 0, 0, 0, 0, 0⟩, 0, ⟨h.s0, h.s1, h.s2, h.s3, u64_zero, u64_zero, u64_zero, u64_zero, h.t0, h.t1⟩, fun W => return_ok r0 r1 r2 r3 t en true xa xc s0 s1 s2 s3 W, fun W => refreturn_ok r0 r1 r2 r3 t en true xa xc s0 s1 s2 s3 W⟩
theorem both_handle (s : St) (h : s.wf) (x : Int) : ∃ s' E, s'.wf ∧ Both 9 18 #[.int .u64 x] s s' E := by
  obtain ⟨r0, r1, r2, r3, t, en, i, xa, xc, s0, s1, s2, s3⟩ := s
  cases i
  · exact ⟨⟨r0, r1, r2, r3, t, x, false, xa, xc, s0, s1, s2, s3⟩, 0, ⟨h.r0, h.r1, h.r2, h.r3, h.s0, h.s1, h.s2, h.s3, h.t0, h.t1⟩, fun W => handle_ok r0 r1 r2 r3 t en false xa xc s0 s1 s2 s3 x W, fun W => refhandle_ok r0 r1 r2 r3 t en false xa xc s0 s1 s2 s3 x W⟩
  · exact ⟨_, 11, h, fun W => handle_busy r0 r1 r2 r3 t en true xa xc s0 s1 s2 s3 x W, fun W => refhandle_busy r0 r1 r2 r3 t en true xa xc s0 s1 s2 s3 x W⟩
theorem putR_ok {k j x r : Int} (hx : u64R x) (hr : u64R r) : u64R (putR k j x r) := by unfold putR; split <;> assumption
/-- Moves and reckonings leave all but the registers and what was told. -/
structure Alike (s s' : St) : Prop where
  en : s'.en = s.en
  i : s'.i = s.i
  fa : s'.fa = s.fa
  fc : s'.fc = s.fc
  s0 : s'.s0 = s.s0
  s1 : s'.s1 = s.s1
  s2 : s'.s2 = s.s2
  s3 : s'.s3 = s.s3
theorem Alike.refl (s : St) : Alike s s := ⟨rfl, rfl, rfl, rfl, rfl, rfl, rfl, rfl⟩
theorem Alike.trans {s u v : St} (h : Alike s u) (k : Alike u v) : Alike s v := ⟨k.en.trans h.en, k.i.trans h.i, k.fa.trans h.fa, k.fc.trans h.fc, k.s0.trans h.s0, k.s1.trans h.s1, k.s2.trans h.s2, k.s3.trans h.s3⟩
theorem both_move (a x : Int) (hx : u64R x) : ∃ E, ∀ s : St, s.wf → ∃ s', s'.wf ∧ Alike s s' ∧ Both 15 19 #[.int .i64 a, .int .u64 x] s s' E := by
  by_cases ha : a < 0 ∨ 3 < a
  · exact ⟨1, fun s h => ⟨s, h, Alike.refl s, fun W => move_out s.r0 s.r1 s.r2 s.r3 s.t s.en s.i s.fa s.fc s.s0 s.s1 s.s2 s.s3 a x ha W, fun W => refmove_out s.r0 s.r1 s.r2 s.r3 s.t s.en s.i s.fa s.fc s.s0 s.s1 s.s2 s.s3 a x ha W⟩⟩
  · exact ⟨0, fun s h => ⟨⟨putR a 0 x s.r0, putR a 1 x s.r1, putR a 2 x s.r2, putR a 3 x s.r3, s.t, s.en, s.i, s.fa, s.fc, s.s0, s.s1, s.s2, s.s3⟩, ⟨putR_ok hx h.r0, putR_ok hx h.r1, putR_ok hx h.r2, putR_ok hx h.r3, h.s0, h.s1, h.s2, h.s3, h.t0, h.t1⟩, ⟨rfl, rfl, rfl, rfl, rfl, rfl, rfl, rfl⟩, fun W => move_in s.r0 s.r1 s.r2 s.r3 s.t s.en s.i s.fa s.fc s.s0 s.s1 s.s2 s.s3 a x (by omega) (by omega) W, fun W => refmove_in s.r0 s.r1 s.r2 s.r3 s.t s.en s.i s.fa s.fc s.s0 s.s1 s.s2 s.s3 a x (by omega) (by omega) W⟩⟩
theorem getR_ok {k r0 r1 r2 r3 : Int} (h0 : u64R r0) (h1 : u64R r1) (h2 : u64R r2) (h3 : u64R r3) : u64R (getR k r0 r1 r2 r3) := by
  unfold getR; (repeat' split) <;> assumption
theorem both_reckon (op a b c : Int) : ∃ E, ∀ s : St, s.wf → ∃ s', s'.wf ∧ Alike s s' ∧ Both 13 20 #[.int .i64 op, .int .i64 a, .int .i64 b, .int .i64 c] s s' E := by
  by_cases ha : (a < 0 ∨ 3 < a) ∨ (b < 0 ∨ 3 < b) ∨ (c < 0 ∨ 3 < c)
  · exact ⟨1, fun s h => ⟨s, h, Alike.refl s, fun W => reckon_reg s.r0 s.r1 s.r2 s.r3 s.t s.en s.i s.fa s.fc s.s0 s.s1 s.s2 s.s3 op a b c ha W, fun W => refreckon_reg s.r0 s.r1 s.r2 s.r3 s.t s.en s.i s.fa s.fc s.s0 s.s1 s.s2 s.s3 op a b c ha W⟩⟩
  · refine ⟨dE op, fun s h => ?_⟩
    have g := fun k => getR_ok (k := k) h.r0 h.r1 h.r2 h.r3
    have hd := dX_bd op (getR a s.r0 s.r1 s.r2 s.r3) (getR b s.r0 s.r1 s.r2 s.r3) (g a).1 (g a).2 (g b).1 (g b).2
    have c1 := fun W => reckon_any s.r0 s.r1 s.r2 s.r3 s.t s.en s.i s.fa s.fc s.s0 s.s1 s.s2 s.s3 op a b c (by omega) (by omega) (by omega) (by omega) (by omega) (by omega) h.r0 h.r1 h.r2 h.r3 _ _ rfl rfl W
    have c2 := fun W => refreckon_any s.r0 s.r1 s.r2 s.r3 s.t s.en s.i s.fa s.fc s.s0 s.s1 s.s2 s.s3 op a b c (by omega) (by omega) (by omega) (by omega) (by omega) (by omega) h.t0 h.t1 h.r0 h.r1 h.r2 h.r3 _ _ rfl rfl W
    generalize dX op (getR a s.r0 s.r1 s.r2 s.r3) (getR b s.r0 s.r1 s.r2 s.r3) = X at hd c1 c2
    generalize dF op (getR a s.r0 s.r1 s.r2 s.r3) (getR b s.r0 s.r1 s.r2 s.r3) = F at c1 c2
    by_cases hE : dE op = 0
    · have e : recV s.r0 s.r1 s.r2 s.r3 s.t s.en s.i s.fa s.fc s.s0 s.s1 s.s2 s.s3 (dE op) X F c = (⟨putR c 0 X s.r0, putR c 1 X s.r1, putR c 2 X s.r2, putR c 3 X s.r3, bits .or .i64 s.t F, s.en, s.i, s.fa, s.fc, s.s0, s.s1, s.s2, s.s3⟩ : St).val := by unfold recV; rw [if_pos hE]
      rw [e] at c1 c2
      exact ⟨⟨putR c 0 X s.r0, putR c 1 X s.r1, putR c 2 X s.r2, putR c 3 X s.r3, bits .or .i64 s.t F, s.en, s.i, s.fa, s.fc, s.s0, s.s1, s.s2, s.s3⟩, ⟨putR_ok hd h.r0, putR_ok hd h.r1, putR_ok hd h.r2, putR_ok hd h.r3, h.s0, h.s1, h.s2, h.s3, (or_bd _ _).1, (or_bd _ _).2⟩, ⟨rfl, rfl, rfl, rfl, rfl, rfl, rfl, rfl⟩, c1, c2⟩
    · have e : recV s.r0 s.r1 s.r2 s.r3 s.t s.en s.i s.fa s.fc s.s0 s.s1 s.s2 s.s3 (dE op) X F c = s.val := by unfold recV; rw [if_neg hE]
      rw [e] at c1 c2
      exact ⟨s, h, Alike.refl s, c1, c2⟩
theorem does_same (s : St) (h : s.wf) (k op a b c x fa fc : Int) (hx : u64R x) (hf : u64R fa) : ∃ s' : St, s'.wf ∧ ∀ w, Calls Try.prog 12 #[s.val, s.val, .agg #[.int .i64 k, .int .i64 op, .int .i64 a, .int .i64 b, .int .i64 c, .int .u64 x, .int .u64 fa, .int .i64 fc]] w fun e w' => e = .returned (.tuple #[s'.val, s'.val, .bool true]) ∧ Below w.heap.size w w' := by
  have fin : ∀ {s' : St} {w : World}, Calls Try.prog 12 #[s.val, s.val, .agg #[.int .i64 k, .int .i64 op, .int .i64 a, .int .i64 b, .int .i64 c, .int .u64 x, .int .u64 fa, .int .i64 fc]] w (fun e w' => (∃ B : Bool, (s'.cs = s'.cs → B = true) ∧ e = .returned (.tuple #[s'.val, s'.val, .bool B])) ∧ Below w.heap.size w w') →
      Calls Try.prog 12 #[s.val, s.val, .agg #[.int .i64 k, .int .i64 op, .int .i64 a, .int .i64 b, .int .i64 c, .int .u64 x, .int .u64 fa, .int .i64 fc]] w fun e w' => e = .returned (.tuple #[s'.val, s'.val, .bool true]) ∧ Below w.heap.size w w' := fun hc => hc.mono fun e w' ⟨⟨B, hB, he⟩, hb⟩ => ⟨by rw [he, hB rfl], hb⟩
  by_cases k1 : k = 1
  · subst k1
    obtain ⟨s', E, hw, c1, c2⟩ := both_raise s h fa fc hf
    exact ⟨s', hw, fun w => fin (does_1 op a b c x fa fc E s.r0 s.r1 s.r2 s.r3 s.t s.en s.fa s.fc s.s0 s.s1 s.s2 s.s3 s.i s.r0 s.r1 s.r2 s.r3 s.t s.en s.fa s.fc s.s0 s.s1 s.s2 s.s3 s.i s'.r0 s'.r1 s'.r2 s'.r3 s'.t s'.en s'.fa s'.fc s'.s0 s'.s1 s'.s2 s'.s3 s'.i s'.r0 s'.r1 s'.r2 s'.r3 s'.t s'.en s'.fa s'.fc s'.s0 s'.s1 s'.s2 s'.s3 s'.i c1 c2 w)⟩
  by_cases k2 : k = 2
  · subst k2
    obtain ⟨s', E, hw, c1, c2⟩ := both_return s h
    exact ⟨s', hw, fun w => fin (does_2 op a b c x fa fc E s.r0 s.r1 s.r2 s.r3 s.t s.en s.fa s.fc s.s0 s.s1 s.s2 s.s3 s.i s.r0 s.r1 s.r2 s.r3 s.t s.en s.fa s.fc s.s0 s.s1 s.s2 s.s3 s.i s'.r0 s'.r1 s'.r2 s'.r3 s'.t s'.en s'.fa s'.fc s'.s0 s'.s1 s'.s2 s'.s3 s'.i s'.r0 s'.r1 s'.r2 s'.r3 s'.t s'.en s'.fa s'.fc s'.s0 s'.s1 s'.s2 s'.s3 s'.i c1 c2 w)⟩
  by_cases k3 : k = 3
  · subst k3
    obtain ⟨s', E, hw, c1, c2⟩ := both_handle s h x
    exact ⟨s', hw, fun w => fin (does_3 op a b c x fa fc E s.r0 s.r1 s.r2 s.r3 s.t s.en s.fa s.fc s.s0 s.s1 s.s2 s.s3 s.i s.r0 s.r1 s.r2 s.r3 s.t s.en s.fa s.fc s.s0 s.s1 s.s2 s.s3 s.i s'.r0 s'.r1 s'.r2 s'.r3 s'.t s'.en s'.fa s'.fc s'.s0 s'.s1 s'.s2 s'.s3 s'.i s'.r0 s'.r1 s'.r2 s'.r3 s'.t s'.en s'.fa s'.fc s'.s0 s'.s1 s'.s2 s'.s3 s'.i c1 c2 w)⟩
  by_cases k4 : k = 4
  · subst k4
    obtain ⟨E, hE⟩ := both_move a x hx
    obtain ⟨s', hw, _, c1, c2⟩ := hE s h
    exact ⟨s', hw, fun w => fin (does_4 op a b c x fa fc E s.r0 s.r1 s.r2 s.r3 s.t s.en s.fa s.fc s.s0 s.s1 s.s2 s.s3 s.i s.r0 s.r1 s.r2 s.r3 s.t s.en s.fa s.fc s.s0 s.s1 s.s2 s.s3 s.i s'.r0 s'.r1 s'.r2 s'.r3 s'.t s'.en s'.fa s'.fc s'.s0 s'.s1 s'.s2 s'.s3 s'.i s'.r0 s'.r1 s'.r2 s'.r3 s'.t s'.en s'.fa s'.fc s'.s0 s'.s1 s'.s2 s'.s3 s'.i c1 c2 w)⟩
  by_cases k5 : k = 5
  · subst k5
    obtain ⟨E, hE⟩ := both_reckon op a b c
    obtain ⟨s', hw, _, c1, c2⟩ := hE s h
    exact ⟨s', hw, fun w => fin (does_5 op a b c x fa fc E s.r0 s.r1 s.r2 s.r3 s.t s.en s.fa s.fc s.s0 s.s1 s.s2 s.s3 s.i s.r0 s.r1 s.r2 s.r3 s.t s.en s.fa s.fc s.s0 s.s1 s.s2 s.s3 s.i s'.r0 s'.r1 s'.r2 s'.r3 s'.t s'.en s'.fa s'.fc s'.s0 s'.s1 s'.s2 s'.s3 s'.i s'.r0 s'.r1 s'.r2 s'.r3 s'.t s'.en s'.fa s'.fc s'.s0 s'.s1 s'.s2 s'.s3 s'.i c1 c2 w)⟩
  exact ⟨s, h, fun w => fin (does_0 k op a b c x fa fc k1 k2 k3 k4 k5 s.r0 s.r1 s.r2 s.r3 s.t s.en s.fa s.fc s.s0 s.s1 s.s2 s.s3 s.i s.r0 s.r1 s.r2 s.r3 s.t s.en s.fa s.fc s.s0 s.s1 s.s2 s.s3 s.i w)⟩
theorem does_two (k : Int) (hk : k = 4 ∨ k = 5) (s z : St) (h : s.wf) (hz : z.wf) (op a b c x fa fc : Int) (hx : u64R x) : ∃ s' z' : St, s'.wf ∧ Alike s s' ∧ ∀ w, Calls Try.prog 12 #[s.val, z.val, .agg #[.int .i64 k, .int .i64 op, .int .i64 a, .int .i64 b, .int .i64 c, .int .u64 x, .int .u64 fa, .int .i64 fc]] w fun e w' => (∃ B : Bool, e = .returned (.tuple #[s'.val, z'.val, .bool B])) ∧ Below w.heap.size w w' := by
  rcases hk with rfl | rfl
  · obtain ⟨E, hE⟩ := both_move a x hx
    obtain ⟨s', hw, ha, c1, _⟩ := hE s h
    obtain ⟨z', _, _, _, d2⟩ := hE z hz
    exact ⟨s', z', hw, ha, fun w => (does_4 op a b c x fa fc E s.r0 s.r1 s.r2 s.r3 s.t s.en s.fa s.fc s.s0 s.s1 s.s2 s.s3 s.i z.r0 z.r1 z.r2 z.r3 z.t z.en z.fa z.fc z.s0 z.s1 z.s2 z.s3 z.i s'.r0 s'.r1 s'.r2 s'.r3 s'.t s'.en s'.fa s'.fc s'.s0 s'.s1 s'.s2 s'.s3 s'.i z'.r0 z'.r1 z'.r2 z'.r3 z'.t z'.en z'.fa z'.fc z'.s0 z'.s1 z'.s2 z'.s3 z'.i c1 d2 w).mono fun e w' ⟨⟨B, _, he⟩, hb⟩ => ⟨⟨B, he⟩, hb⟩⟩
  · obtain ⟨E, hE⟩ := both_reckon op a b c
    obtain ⟨s', hw, ha, c1, _⟩ := hE s h
    obtain ⟨z', _, _, _, d2⟩ := hE z hz
    exact ⟨s', z', hw, ha, fun w => (does_5 op a b c x fa fc E s.r0 s.r1 s.r2 s.r3 s.t s.en s.fa s.fc s.s0 s.s1 s.s2 s.s3 s.i z.r0 z.r1 z.r2 z.r3 z.t z.en z.fa z.fc z.s0 z.s1 z.s2 z.s3 z.i s'.r0 s'.r1 s'.r2 s'.r3 s'.t s'.en s'.fa s'.fc s'.s0 s'.s1 s'.s2 s'.s3 s'.i z'.r0 z'.r1 z'.r2 z'.r3 z'.t z'.en z'.fa z'.fc z'.s0 z'.s1 z'.s2 z'.s3 z'.i c1 d2 w).mono fun e w' ⟨⟨B, _, he⟩, hb⟩ => ⟨⟨B, he⟩, hb⟩⟩
end Go.Proofs.Ytokmcjjdoiaeaaa
