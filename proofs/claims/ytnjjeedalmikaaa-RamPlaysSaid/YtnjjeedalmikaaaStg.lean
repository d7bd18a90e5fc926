/- Regions that draw their order and hold stores next to reads and calls: one walk of the text's order serves every order, where each operation yields one value in every world of a class, keeps the class and the facts laid so far, and lays its own fact. No condition. -/
import Derived.Test.YtnjjeedalmikaaaTch
import Derived.Laws.Tables
import Derived.Laws.Rows
namespace Go.Proofs.Ytnjjeedalmikaaa
open Go.ChangeShapes Go.WideShapes Go.ChangeAt Go.RowKit
set_option linter.unusedVariables false
set_option linter.unusedSimpArgs false
section
variable {P : Program} {ops : Array Oper} {md : Region.Mode} {B : World → Prop} {F : Nat → World → Prop}
/-- The world behind operation i: of the class; i's fact holds; the facts that held hold on. -/
def StPost (B : World → Prop) (F : Nat → World → Prop) (i : Nat) (w w' : World) : Prop := B w' ∧ F i w' ∧ ∀ k, F k w → F k w'
def stUpon (P : Program) (B : World → Prop) (F : Nat → World → Prop) (i : Nat) (w : World) (v : Value) : Result Next → Prop
  | .ok (.value u) w' => u = v ∧ StPost B F i w w'
  | .ok .skip w' => v = undef ∧ StPost B F i w w'
  | .ok (.enter f args) w' => Calls P f args w' fun e w'' => e = .returned v ∧ StPost B F i w w''
  | _ => False
structure stOp (P : Program) (B : World → Prop) (F : Nat → World → Prop) (i : Nat) (o : Oper) (a : Act) (v : Value) : Prop where
  at_ : ∀ w, B w → stUpon P B F i w v ((execOp a.eval o).run P w)
def wpStg (P : Program) (ops : Array Oper) (B : World → Prop) (F : Nat → World → Prop) (Q : Act → Prop) : List Oper → Nat → Act → Prop
  | [], _, a => Q a
  | o :: rest, k, a => if Region.wanted o (yielded ops a.tmps) then ∃ v, stOp P B F k o a v ∧ wpStg P ops B F Q rest (k + 1) (a.put o.dst v) else (∀ w, B w → F k w) ∧ wpStg P ops B F Q rest (k + 1) (a.put o.dst undef)
structure WpStg (P : Program) (ops : Array Oper) (B : World → Prop) (F : Nat → World → Prop) (Q : Act → Prop) (l : List Oper) (k : Nat) (a : Act) : Prop where
  at_ : wpStg P ops B F Q l k a
theorem wpStg_nil {Q : Act → Prop} {a : Act} {k : Nat} (h : Q a) : WpStg P ops B F Q [] k a := ⟨h⟩
theorem wpStg_do {Q : Act → Prop} {a : Act} {o : Oper} {rest : List Oper} {k : Nat} (v : Value) (hw : Region.wanted o (yielded ops a.tmps) = true) (h : stOp P B F k o a v) (hK : WpStg P ops B F Q rest (k + 1) (a.put o.dst v)) : WpStg P ops B F Q (o :: rest) k a := ⟨by
  unfold wpStg; rw [if_pos hw]; exact ⟨v, h, hK.at_⟩⟩
def sOp (P : Program) (ops : Array Oper) (B : World → Prop) (F : Nat → World → Prop) (i : Nat) (K : Act → Prop) (a : Act) : Prop :=
  match ops[i]? with
  | none => False
  | some o => if Region.wanted o (yielded ops a.tmps) then ∃ v, stOp P B F i o a v ∧ K (a.put o.dst v) else (∀ w, B w → F i w) ∧ K (a.put o.dst undef)
theorem sOp_mono {i : Nat} {a : Act} {K K' : Act → Prop} (h : ∀ a, K a → K' a) (hh : sOp P ops B F i K a) : sOp P ops B F i K' a := by
  unfold sOp at *
  split
  · rename_i ho; simp only [ho] at hh
  · rename_i o ho
    simp only [ho] at hh
    split
    · rename_i hw
      rw [if_pos hw] at hh
      obtain ⟨v, h1, h2⟩ := hh
      exact ⟨v, h1, h _ h2⟩
    · rename_i hw
      rw [if_neg hw] at hh
      exact ⟨hh.1, h _ hh.2⟩
def AllIn (ops : Array Oper) (listed : Array Bool) : Prop := ∀ j, j < ops.size → listed.getD j false = true
def Staged (B : World → Prop) (F : Nat → World → Prop) (listed : Array Bool) (w : World) : Prop := B w ∧ ∀ k, listed.getD k false = true → F k w
theorem Staged.next {i : Nat} {listed : Array Bool} {w w' : World} (h : Staged B F listed w) (hp : StPost B F i w w') : Staged B F (listed.setIfInBounds i true) w' :=
  ⟨hp.1, fun k hk => by
    by_cases hik : i = k
    · subst hik; exact hp.2.1
    · rw [getD_set_ne false hik] at hk; exact hp.2.2 k (h.2 k hk)⟩
def wpAnyS (P : Program) (md : Region.Mode) (ops : Array Oper) (B : World → Prop) (F : Nat → World → Prop) (Q : Act → Prop) : Nat → Array Bool → Act → Prop
  | 0, listed, a => Region.ready md ops listed = [] ∧ AllIn ops listed ∧ Q a
  | fuel + 1, listed, a =>
    (Region.ready md ops listed = [] → AllIn ops listed ∧ Q a) ∧
    ∀ i ∈ Region.ready md ops listed, sOp P ops B F i (wpAnyS P md ops B F Q fuel (listed.setIfInBounds i true)) a
theorem wpOp_of_sOp {i : Nat} {a : Act} {K : Act → Prop} {K' : Act → World → Prop} {Q' : Exit → Act → World → Prop} {listed : Array Bool} {w : World} (hC : Staged B F listed w)
    (h : ∀ a w', Staged B F (listed.setIfInBounds i true) w' → K a → K' a w') (hh : sOp P ops B F i K a) : wpOp P ops Q' i K' a w := by
  unfold sOp at hh
  unfold wpOp
  split
  · rename_i ho; simp only [ho] at hh
  · rename_i o ho
    simp only [ho] at hh
    split
    · rename_i hw
      rw [if_pos hw] at hh
      obtain ⟨v, h1, h2⟩ := hh
      refine .inl ?_
      have h3 := h1.at_ w hC.1
      unfold Oper.wp
      generalize (execOp a.eval o).run P w = r at *
      cases r with
      | ok n w' =>
        cases n <;> simp only [stUpon] at h3 <;> simp only [Oper.upon]
        case value u =>
          obtain ⟨rfl, h4⟩ := h3
          exact h _ _ (hC.next h4) h2
        case skip =>
          obtain ⟨rfl, h4⟩ := h3
          exact h _ _ (hC.next h4) h2
        case enter f args =>
          exact h3.mono fun e w'' ⟨he, hw''⟩ => by subst he; exact h _ _ (hC.next hw'') h2
      | halt x w' => simp only [stUpon] at h3
    · rename_i hw
      rw [if_neg hw] at hh
      exact h _ _ (hC.next ⟨hC.1, hh.1 _ hC.1, fun _ h => h⟩) hh.2
theorem wpAny_of_staged {Q : Act → Prop} {Q' : Exit → Act → World → Prop} (hQ : ∀ a w, B w → (∀ k, k < ops.size → F k w) → Q a → Q' .normal a w) : ∀ (fuel : Nat) (listed : Array Bool) (a : Act) (w : World), Staged B F listed w →
    wpAnyS P md ops B F Q fuel listed a → wpAny P md ops Q' fuel listed a w
  | 0, _, _, _, hw, h => ⟨h.1, hQ _ _ hw.1 (fun k hk => hw.2 k (h.2.1 k hk)) h.2.2⟩
  | fuel + 1, _, _, _, hw, h => ⟨fun h0 => hQ _ _ hw.1 (fun k hk => hw.2 k ((h.1 h0).1 k hk)) (h.1 h0).2, fun i hi => wpOp_of_sOp hw (fun a' w' hw' => wpAny_of_staged hQ fuel _ a' w' hw') (h.2 i hi)⟩
def YieldsS (P : Program) (ops : Array Oper) (B : World → Prop) (F : Nat → World → Prop) (i : Nat) (o : Oper) (v : Value) (a : Act) : Prop :=
  (Region.wanted o (yielded ops a.tmps) = true ∧ stOp P B F i o a v) ∨ (Region.wanted o (yielded ops a.tmps) = false ∧ v = undef ∧ ∀ w, B w → F i w)
theorem YieldsS.sOp {i : Nat} {o : Oper} {v : Value} {a : Act} (hi : ops[i]? = some o) (hy : YieldsS P ops B F i o v a) {K : Act → Prop} (h : K (a.put o.dst v)) : sOp P ops B F i K a := by
  unfold Proofs.Ytnjjeedalmikaaa.sOp
  simp only [hi]
  rcases hy with ⟨hw, hv⟩ | ⟨hw, rfl, hv⟩
  · rw [if_pos hw]; exact ⟨v, hv, h⟩
  · rw [if_neg (by rw [hw]; decide)]; exact ⟨hv, h⟩
theorem YieldsS.of_same {i : Nat} {o : Oper} {v : Value} {a a' : Act} (hy : YieldsS P ops B F i o v a) (he : execOp a'.eval o = execOp a.eval o)
    (hw : Region.wanted o (yielded ops a'.tmps) = Region.wanted o (yielded ops a.tmps)) : YieldsS P ops B F i o v a' := by
  unfold YieldsS at *
  rw [hw]
  rcases hy with ⟨h1, h2⟩ | h
  · exact .inl ⟨h1, ⟨fun w hb => by rw [he]; exact h2.at_ w hb⟩⟩
  · exact .inr h
theorem yieldsS_of_sOp {i : Nat} {o : Oper} {a : Act} {K : Act → Prop} (hi : ops[i]? = some o) (h : sOp P ops B F i K a) : ∃ v, YieldsS P ops B F i o v a ∧ K (a.put o.dst v) := by
  unfold sOp at h
  simp only [hi] at h
  by_cases hw : Region.wanted o (yielded ops a.tmps) = true
  · rw [if_pos hw] at h
    obtain ⟨v, h1, h2⟩ := h
    exact ⟨v, .inl ⟨hw, h1⟩, h2⟩
  · rw [if_neg hw] at h
    exact ⟨undef, .inr ⟨by simpa using hw, rfl, h.1⟩, h.2⟩
theorem sOp_put {i j : Nat} {oi oj : Oper} {v : Value} (hj : ops[j]? = some oj) (hap : oi.apart ops oj = true)
    (hsi : ∀ cs b, oi.op ≠ .select cs b) (hsj : ∀ cs b, oj.op ≠ .select cs b) {K : Act → Prop} {a : Act}
    (hy : YieldsS P ops B F i oi v a) (h : sOp P ops B F j K (a.put oi.dst v)) :
    sOp P ops B F j (fun a' => YieldsS P ops B F i oi v a' ∧ K (a'.put oi.dst v)) a := by
  obtain ⟨h1, h2, h3⟩ := Oper.apart_spec hap
  have keep : ∀ (a : Act), YieldsS P ops B F i oi v a → ∀ u, YieldsS P ops B F i oi v (a.put oj.dst u) := fun a hy u =>
    hy.of_same (execOp_put oi hsi a oj.dst u h3) (wanted_put oi a oj.dst u h3)
  unfold sOp at *
  simp only [hj] at *
  rw [wanted_put oj a oi.dst v h1] at h
  split
  · rename_i hw
    rw [if_pos hw] at h
    obtain ⟨u, hu, hn⟩ := h
    refine ⟨u, ⟨fun w hw' => ?_⟩, keep a hy u, by rw [← Act.put_comm a v u h2]; exact hn⟩
    have := hu.at_ w hw'
    rwa [execOp_put oj hsj a oi.dst v h1] at this
  · rename_i hw
    rw [if_neg hw] at h
    exact ⟨h.1, keep a hy _, by rw [← Act.put_comm a v undef h2]; exact h.2⟩
theorem wpAnyS_first {Q : Act → Prop} {i : Nat} {oi : Oper} {v : Value} (hi : ops[i]? = some oi) (hsel : ∀ (j : Nat) (o : Oper) cs b, ops[j]? = some o → o.op ≠ .select cs b) :
    ∀ (fuel : Nat) (listed : Array Bool) (a : Act),
      (∀ j oj, ops[j]? = some oj → j ≠ i → listed.getD j true = false → (∀ e ∈ oj.after, Region.binds md e = true → e.on ≠ i) → oi.apart ops oj = true) →
      i ∈ Region.ready md ops listed → YieldsS P ops B F i oi v a →
      wpAnyS P md ops B F Q fuel (listed.setIfInBounds i true) (a.put oi.dst v) → wpAnyS P md ops B F Q (fuel + 1) listed a := by
  intro fuel
  induction fuel with
  | zero =>
    intro listed a _ hr hy H
    refine ⟨fun h => (by rw [h] at hr; cases hr), fun j hj => ?_⟩
    by_cases hji : j = i
    · subst hji; exact hy.sOp hi H
    · have := ready_mono hj hji
      rw [H.1] at this
      cases this
  | succ fuel ih =>
    intro listed a hfree hr hy H
    refine ⟨fun h => (by rw [h] at hr; cases hr), fun j hj => ?_⟩
    by_cases hji : j = i
    · subst hji; exact hy.sOp hi H
    · have h1 := H.2 j (ready_mono hj hji)
      obtain ⟨hjun, oj, hoj, hall⟩ := mem_ready.1 hj
      have hnot : ∀ e ∈ oj.after, Region.binds md e = true → e.on ≠ i := fun e he hb heq => by
        have h1 := hall e he hb
        have h0 := (mem_ready.1 hr).1
        rw [heq] at h1
        rcases Nat.lt_or_ge i listed.size with h' | h'
        · simp [h'] at h0 h1; rw [h0] at h1; cases h1
        · simp [Array.getElem?_eq_none h'] at h1
      have h2 := sOp_put hoj (hfree j oj hoj hji hjun hnot) (fun cs b => hsel i oi cs b hi) (fun cs b => hsel j oj cs b hoj) hy h1
      have hfree' : ∀ k ok, ops[k]? = some ok → k ≠ i → (listed.setIfInBounds j true).getD k true = false →
          (∀ e ∈ ok.after, Region.binds md e = true → e.on ≠ i) → oi.apart ops ok = true := fun k ok hk hki hun hno => by
        refine hfree k ok hk hki ?_ hno
        by_cases hjk : j = k
        · subst hjk; exact hjun
        · rw [getD_set_ne true hjk] at hun; exact hun
      refine sOp_mono (fun a' h3 => ih (listed.setIfInBounds j true) a' hfree' (ready_mono hr (Ne.symm hji)) h3.1 ?_) h2
      rw [Array.setIfInBounds_comm _ _ hji]
      exact h3.2
theorem wpAnyS_lex {Q : Act → Prop} (hs : Region.noSelect ops = true) : ∀ (l : List Oper) (k : Nat) (listed : Array Bool) (a : Act), (∀ j, l[j]? = ops[k + j]?) → k + l.length = ops.size → listed.size = ops.size → (∀ j, j < k → listed.getD j false = true) →
    Region.lexFrom md ops l.length k listed = true → wpStg P ops B F Q l k a → wpAnyS P md ops B F Q l.length listed a
  | [], k, listed, _, _, hk, _, hd, hB, h => ⟨by simpa [Region.lexFrom] using hB, fun j hj => hd j (by simp at hk; omega), h⟩
  | o :: l, k, listed, a, hl, hk, hsz, hd, hB, h => by
    have h0 : ops[k]? = some o := by simpa using (hl 0).symm
    have hlt : k < ops.size := (Array.getElem?_eq_some_iff.1 h0).1
    simp only [List.length_cons, Region.lexFrom, Bool.and_eq_true] at hB
    obtain ⟨⟨hr, hf⟩, hB'⟩ := hB
    have hst : sOp P ops B F k (wpStg P ops B F Q l (k + 1)) a := by unfold sOp; simp only [h0]; exact h
    obtain ⟨v, hy, hK⟩ := yieldsS_of_sOp h0 hst
    refine wpAnyS_first h0 (Region.noSelect_spec hs) l.length listed a (Region.free_spec h0 hf) (by simpa using hr) hy
      (wpAnyS_lex hs l (k + 1) _ _ (fun j => by have := hl (j + 1); simpa [Nat.add_assoc, Nat.add_comm 1 j] using this) (by simp at hk; omega) (by simpa using hsz) (fun j hj => ?_) hB' hK)
    by_cases hjk : k = j
    · subst hjk
      simp [hsz, hlt]
    · rw [getD_set_ne false hjk]; exact hd j (by omega)
theorem wp_region_staged {id : Nat} {Q : Exit → Act → World → Prop} {a : Act} {w : World} {l : List Oper} (B : World → Prop) (F : Nat → World → Prop) (hm : P.follows .mixedOrders = true) (hB : Region.lexB .any l.toArray = true) (hC : B w.drew)
    (h : WpStg P l.toArray B F (fun a' => ∀ w', B w' → (∀ k, k < l.length → F k w') → Q .normal a' w') l 0 a) : (Code.region id l.toArray true).wp P Q a w := by
  simp only [Region.lexB, Bool.and_eq_true] at hB
  refine wp_region_any hm (wpAny_of_staged (B := B) (F := F) (Q := fun a' => ∀ w', B w' → (∀ k, k < l.length → F k w') → Q .normal a' w') (fun _ w' hb hf h => h w' hb (fun k hk => hf k (by simpa using hk))) _ _ _ _ ⟨hC, fun k hk => ?_⟩ ?_)
  · exfalso
    simp [Array.getElem?_replicate] at hk
    split at hk <;> simp_all
  · have := wpAnyS_lex (B := B) (F := F) (md := .any) hB.1 l 0 (Array.replicate l.toArray.size false) a (by simp) (by simp) (by simp) (fun j hj => by omega) (by simpa using hB.2) h.at_
    simpa using this
/-- An operation that leaves the world. -/
theorem stOp_same {i : Nat} {o : Oper} {a : Act} {v : Value} (hF : ∀ w, F i w) (h : ∀ w, B w → (execOp a.eval o).run P w = .ok (.value v) w) : stOp P B F i o a v := ⟨fun w hb => by
  rw [h w hb]; exact ⟨rfl, hb, hF w, fun _ h => h⟩⟩
theorem stOp_load {i : Nat} {o : Oper} {a : Act} (ty : TypeId) (x : Operand) (ho : o.op = .load ty x) (g : Nat) (hx : a.eval x = .pointer (some ⟨g, 0, none⟩)) (t : TypeId) (cs : Array Value) (fr : Nat × Nat) (d : TypeDesc)
    (hu : P.underlying ty = some d) (hd : (match d with | .struct _ | .array _ _ => true | _ => false) = true) (hi : (P.info? ty).map (·.size) = some cs.size) (hF : ∀ w, F i w) (hg : ∀ w, B w → w.heap[g]? = some (.cells cs t fr)) : stOp P B F i o a (.agg cs) :=
  stOp_same hF fun w hb => by
    unfold execOp
    simp only [ho, hx, Instr.loadAt, Instr.sureAddr, Sem.run_bind, Sem.run_pure, Result.andThen_ok, run_loadVar_row w g t ty cs fr d (hg w hb) hu hd hi]
theorem stOp_store {i : Nat} {o : Oper} {a : Act} (ty : TypeId) (x y : Operand) (ho : o.op = .store ty x y) (g : Nat) (cells : Array Value) (hx : a.eval x = .pointer (some ⟨g, 0, none⟩)) (hy : a.eval y = .agg cells) (t : TypeId)
    (hi : (P.info? ty).map (·.size) = some cells.size) (h1 : cells.all (·.oneCell') = true) (hg : ∀ w, B w → ∃ old : Array Value, old.size = cells.size ∧ w.heap[g]? = some (.cells old t (0, 0)))
    (hp : ∀ w, B w → StPost B F i w (w.setRow g cells)) : stOp P B F i o a undef := ⟨fun w hb => by
  obtain ⟨old, hold, hg'⟩ := hg w hb
  have : (execOp a.eval o).run P w = .ok .skip (w.setRow g cells) := by
    unfold execOp
    simp only [ho, hx, hy, Instr.storeAt, Instr.sureAddr, Sem.run_bind, Sem.run_pure, Result.andThen_ok, run_storeVar_row w g t ty old cells hg' hi hold h1]
  rw [this]
  exact ⟨rfl, hp w hb⟩⟩
/-! ### frames told by what their slots hold -/
theorem ev_put {a : Act} {e d : Nat} {v : Value} : (a.put (some e) v).eval (.tmp d) = if e = d ∧ e < a.tmps.size then v else a.eval (.tmp d) := by
  show (a.tmps.setIfInBounds e v).getD d undef = _
  by_cases h : e = d
  · subst h
    by_cases h2 : e < a.tmps.size
    · simp [h2]
    · simp [Act.eval, h2]
  · simp [Act.eval, h, Array.getElem?_setIfInBounds_ne h]
theorem getD_of {a : Act} {d : Nat} {v : Value} (h : a.eval (.tmp d) = v) : a.tmps.getD d undef = v := h
theorem put_none {a : Act} {v : Value} : a.put none v = a := rfl
theorem size_put {a : Act} {x : Option Tmp} {v : Value} : (a.put x v).tmps.size = a.tmps.size := by cases x <;> simp [Act.put]
theorem ev_const {a : Act} {v : Value} : a.eval (.const v) = v := rfl
theorem stg_abs {a : Act} (Z : Act → Prop) (E : List (Nat × Value)) (n : Nat) (hE : ∀ p ∈ E, a.eval (.tmp p.1) = p.2) (hn : a.tmps.size = n) (hd : a.defers = []) (h : ∀ A : Act, (∀ p ∈ E, A.eval (.tmp p.1) = p.2) → A.tmps.size = n → A.defers = [] → Z A) : Z a := h a hE hn hd
theorem put_defers {a : Act} {x : Option Tmp} {v : Value} : (a.put x v).defers = a.defers := by cases x <;> rfl
theorem wanted_plain {o : Oper} {a : Act} (hg : o.guard = none) : Region.wanted o (yielded ops a.tmps) = true := by unfold Region.wanted; rw [hg]
theorem wanted_bool {o : Oper} {a : Act} {j d : Nat} {b : Bool} (hg : o.guard = some (j, b)) (hd : (ops[j]?).bind (·.dst) = some d) (hb : d < a.tmps.size) (he : a.eval (.tmp d) = .bool b) : Region.wanted o (yielded ops a.tmps) = true := by
  have h2 : a.tmps[d]? = some (.bool b) := by
    have : a.tmps.getD d undef = .bool b := he
    rw [Array.getD_eq_getD_getElem?, Array.getElem?_eq_getElem hb] at this
    rw [Array.getElem?_eq_getElem hb]
    exact congrArg some this
  unfold Region.wanted yielded
  simp [hg, hd, h2]
theorem stOp_move {i : Nat} {o : Oper} {a : Act} {v : Value} (x : Operand) (ho : o.op = .move x ∨ o.op = .assign x) (hx : a.eval x = v) (hF : ∀ w, F i w) : stOp P B F i o a v := stOp_same hF fun w hb => by
  unfold execOp
  rcases ho with ho | ho <;> simp only [ho, hx] <;> rfl
theorem stOp_pick {i : Nat} {o : Oper} {a : Act} {v : Value} (c x y : Operand) (b : Bool) (ho : o.op = .pick c x y) (hc : a.eval c = .bool b) (hx : (if b then a.eval x else a.eval y) = v) (hF : ∀ w, F i w) : stOp P B F i o a v := stOp_same hF fun w hb => by
  unfold execOp
  subst hx
  simp only [ho, hc]
  cases b <;> rfl
theorem stOp_bin {i : Nat} {o : Oper} {a : Act} {v x y : Value} (op : BinOp) (t s : TypeId) (X Y : Operand) (ho : o.op = .binOp op t X Y s) (hx : a.eval X = x) (hy : a.eval Y = y) (hg : ∀ w, (eqGuard op t X Y x y).run P w = .ok () w) (hr : ∀ w, (binOp op t x y).run P w = .ok v w) (hF : ∀ w, F i w) : stOp P B F i o a v := stOp_same hF fun w hb => by
  unfold execOp
  simp only [ho, hx, hy, Sem.run_bind, Sem.run_pure, Result.andThen_ok, hg, hr]
end
end Go.Proofs.Ytnjjeedalmikaaa
