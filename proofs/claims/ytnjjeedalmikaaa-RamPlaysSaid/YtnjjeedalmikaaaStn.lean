/- Regions that draw their order and hold stores, allocations, reads and calls: as XStg, but an operation may yield any value of a set, and may use the facts of those it waits for. No condition. -/
import Derived.Test.YtnjjeedalmikaaaStg
import Derived.Laws.Tables
import Derived.Laws.Rows
namespace Go.Proofs.Ytnjjeedalmikaaa
open Go.ChangeShapes Go.WideShapes Go.ChangeAt Go.RowKit
set_option linter.unusedVariables false
set_option linter.unusedSimpArgs false
section
variable {P : Program} {ops : Array Oper} {md : Region.Mode} {B : World → Prop} {F : Nat → Value → World → Prop} {R : Nat → Value → Value → Prop} {X : Nat → Operand}
def NPost (B : World → Prop) (F : Nat → Value → World → Prop) (i : Nat) (v : Value) (w w' : World) : Prop := B w' ∧ F i v w' ∧ ∀ k u, F k u w → F k u w'
def upd (vals : Nat → Value) (i : Nat) (v : Value) : Nat → Value := fun k => if k = i then v else vals k
theorem upd_self {vals : Nat → Value} {i : Nat} {v : Value} : upd vals i v i = v := if_pos rfl
theorem upd_ne {vals : Nat → Value} {i k : Nat} {v : Value} (h : k ≠ i) : upd vals i v k = vals k := if_neg h
theorem upd_comm {vals : Nat → Value} {i j : Nat} {u v : Value} (h : i ≠ j) : upd (upd vals i u) j v = upd (upd vals j v) i u := by
  funext k
  unfold upd
  by_cases h1 : k = j
  · subst h1; rw [if_pos rfl, if_neg (fun e => h e.symm), if_pos rfl]
  · rw [if_neg h1]
    by_cases h2 : k = i
    · rw [if_pos h2, if_pos h2]
    · rw [if_neg h2, if_neg h2, if_neg h1]
def Knows (md : Region.Mode) (F : Nat → Value → World → Prop) (o : Oper) (vals : Nat → Value) (w : World) : Prop := ∀ e ∈ o.after, Region.binds md e = true → F e.on (vals e.on) w
def nUpon (P : Program) (B : World → Prop) (F : Nat → Value → World → Prop) (R : Nat → Value → Value → Prop) (i : Nat) (o : Oper) (y : Value) (w : World) : Result Next → Prop
  | .ok (.value u) w' => R i y u ∧ NPost B F i u w w'
  | .ok .skip w' => ∃ u, o.dst = none ∧ R i y u ∧ NPost B F i u w w'
  | .ok (.enter f args) w' => Calls P f args w' fun e w'' => ∃ u, e = .returned u ∧ R i y u ∧ NPost B F i u w w''
  | _ => False
structure nOp (P : Program) (md : Region.Mode) (B : World → Prop) (F : Nat → Value → World → Prop) (R : Nat → Value → Value → Prop) (X : Nat → Operand) (i : Nat) (o : Oper) (a : Act) (vals : Nat → Value) : Prop where
  at_ : ∀ w, B w → Knows md F o vals w → nUpon P B F R i o (a.eval (X i)) w ((execOp a.eval o).run P w)
def sOpN (P : Program) (md : Region.Mode) (ops : Array Oper) (B : World → Prop) (F : Nat → Value → World → Prop) (R : Nat → Value → Value → Prop) (X : Nat → Operand) (i : Nat) (K : (Nat → Value) → Act → Prop) (vals : Nat → Value) (a : Act) : Prop :=
  match ops[i]? with
  | none => False
  | some o => if Region.wanted o (yielded ops a.tmps) then nOp P md B F R X i o a vals ∧ ∀ v, R i (a.eval (X i)) v → K (upd vals i v) (a.put o.dst v) else (∀ w, B w → F i undef w) ∧ K (upd vals i undef) (a.put o.dst undef)
theorem sOpN_mono {i : Nat} {a : Act} {vals : Nat → Value} {K K' : (Nat → Value) → Act → Prop} (h : ∀ vals a, K vals a → K' vals a) (hh : sOpN P md ops B F R X i K vals a) : sOpN P md ops B F R X i K' vals a := by
  unfold sOpN at *
  split
  · rename_i ho; simp only [ho] at hh
  · rename_i o ho
    simp only [ho] at hh
    split
    · rename_i hw; rw [if_pos hw] at hh; exact ⟨hh.1, fun v hv => h _ _ (hh.2 v hv)⟩
    · rename_i hw; rw [if_neg hw] at hh; exact ⟨hh.1, h _ _ hh.2⟩
def StagedN (B : World → Prop) (F : Nat → Value → World → Prop) (listed : Array Bool) (vals : Nat → Value) (w : World) : Prop := B w ∧ ∀ k, listed.getD k false = true → F k (vals k) w
theorem StagedN.next {i : Nat} {listed : Array Bool} {vals : Nat → Value} {v : Value} {w w' : World} (h : StagedN B F listed vals w) (hp : NPost B F i v w w') : StagedN B F (listed.setIfInBounds i true) (upd vals i v) w' :=
  ⟨hp.1, fun k hk => by
    by_cases hik : k = i
    · subst hik; rw [upd_self]; exact hp.2.1
    · rw [getD_set_ne false (Ne.symm hik)] at hk; rw [upd_ne hik]; exact hp.2.2 k _ (h.2 k hk)⟩
def wpAnyN (P : Program) (md : Region.Mode) (ops : Array Oper) (B : World → Prop) (F : Nat → Value → World → Prop) (R : Nat → Value → Value → Prop) (X : Nat → Operand) (Q : (Nat → Value) → Act → Prop) : Nat → Array Bool → (Nat → Value) → Act → Prop
  | 0, listed, vals, a => Region.ready md ops listed = [] ∧ AllIn ops listed ∧ Q vals a
  | fuel + 1, listed, vals, a =>
    (Region.ready md ops listed = [] → AllIn ops listed ∧ Q vals a) ∧
    ∀ i ∈ Region.ready md ops listed, sOpN P md ops B F R X i (wpAnyN P md ops B F R X Q fuel (listed.setIfInBounds i true)) vals a
theorem wpOp_of_sOpN {i : Nat} {a : Act} {vals : Nat → Value} {K : (Nat → Value) → Act → Prop} {K' : Act → World → Prop} {Q' : Exit → Act → World → Prop} {listed : Array Bool} {w : World} (hr : i ∈ Region.ready md ops listed) (hC : StagedN B F listed vals w)
    (h : ∀ vals' a w', StagedN B F (listed.setIfInBounds i true) vals' w' → K vals' a → K' a w') (hh : sOpN P md ops B F R X i K vals a) : wpOp P ops Q' i K' a w := by
  unfold sOpN at hh
  unfold wpOp
  split
  · rename_i ho; simp only [ho] at hh
  · rename_i o ho
    simp only [ho] at hh
    split
    · rename_i hw
      rw [if_pos hw] at hh
      obtain ⟨h1, h2⟩ := hh
      refine .inl ?_
      have hk : Knows md F o vals w := fun e he hb => by
        obtain ⟨_, o', ho', hall⟩ := mem_ready.1 hr
        rw [ho] at ho'
        cases ho'
        exact hC.2 _ (hall e he hb)
      have h3 := h1.at_ w hC.1 hk
      unfold Oper.wp
      generalize (execOp a.eval o).run P w = r at *
      cases r with
      | ok n w' =>
        cases n <;> simp only [nUpon] at h3 <;> simp only [Oper.upon]
        case value u => exact h _ _ _ (hC.next h3.2) (h2 u h3.1)
        case skip =>
          obtain ⟨u, hd, hu, hp⟩ := h3
          have := h _ _ _ (hC.next hp) (h2 u hu)
          rw [hd] at this ⊢
          exact this
        case enter f args => exact h3.mono fun e w'' ⟨u, he, hR, hp⟩ => by subst he; exact h _ _ _ (hC.next hp) (h2 u hR)
      | halt x w' => simp only [nUpon] at h3
    · rename_i hw
      rw [if_neg hw] at hh
      exact h _ _ _ (hC.next ⟨hC.1, hh.1 _ hC.1, fun _ _ h => h⟩) hh.2
theorem wpAny_of_stagedN {Q : (Nat → Value) → Act → Prop} {Q' : Exit → Act → World → Prop} (hQ : ∀ vals a w, B w → (∀ k, k < ops.size → F k (vals k) w) → Q vals a → Q' .normal a w) : ∀ (fuel : Nat) (listed : Array Bool) (vals : Nat → Value) (a : Act) (w : World), StagedN B F listed vals w →
    wpAnyN P md ops B F R X Q fuel listed vals a → wpAny P md ops Q' fuel listed a w
  | 0, _, _, _, _, hw, h => ⟨h.1, hQ _ _ _ hw.1 (fun k hk => hw.2 k (h.2.1 k hk)) h.2.2⟩
  | fuel + 1, _, _, _, _, hw, h => ⟨fun h0 => hQ _ _ _ hw.1 (fun k hk => hw.2 k ((h.1 h0).1 k hk)) (h.1 h0).2, fun i hi => wpOp_of_sOpN hi hw (fun vals' a' w' hw' => wpAny_of_stagedN hQ fuel _ vals' a' w' hw') (h.2 i hi)⟩
/-- What i may yield here. -/
def NVal (ops : Array Oper) (R : Nat → Value → Value → Prop) (X : Nat → Operand) (i : Nat) (o : Oper) (a : Act) (v : Value) : Prop := if Region.wanted o (yielded ops a.tmps) = true then R i (a.eval (X i)) v else v = undef
def YieldsN (P : Program) (md : Region.Mode) (ops : Array Oper) (B : World → Prop) (F : Nat → Value → World → Prop) (R : Nat → Value → Value → Prop) (X : Nat → Operand) (i : Nat) (o : Oper) (a : Act) (vals : Nat → Value) : Prop :=
  if Region.wanted o (yielded ops a.tmps) = true then nOp P md B F R X i o a vals else ∀ w, B w → F i undef w
theorem YieldsN.sOp {i : Nat} {o : Oper} {a : Act} {vals : Nat → Value} (hi : ops[i]? = some o) (hy : YieldsN P md ops B F R X i o a vals) {K : (Nat → Value) → Act → Prop} (h : ∀ v, NVal ops R X i o a v → K (upd vals i v) (a.put o.dst v)) : sOpN P md ops B F R X i K vals a := by
  unfold sOpN
  unfold YieldsN at hy
  unfold NVal at h
  simp only [hi]
  split
  · rename_i hw
    rw [if_pos hw] at hy
    simp only [hw, if_true] at h
    exact ⟨hy, h⟩
  · rename_i hw
    rw [if_neg hw] at hy
    exact ⟨hy, h _ (by rw [if_neg hw])⟩
theorem nOp_of_same {i j : Nat} {o : Oper} {a a' : Act} {vals : Nat → Value} {u : Value} (hy : nOp P md B F R X i o a vals) (he : execOp a'.eval o = execOp a.eval o) (hx : a'.eval (X i) = a.eval (X i)) (hj : ∀ e ∈ o.after, Region.binds md e = true → e.on ≠ j) : nOp P md B F R X i o a' (upd vals j u) :=
  ⟨fun w hb hk => by rw [he, hx]; exact hy.at_ w hb (fun e h1 h2 => by have := hk e h1 h2; rwa [upd_ne (hj e h1 h2)] at this)⟩
theorem nOp_back {i j : Nat} {o : Oper} {a a' : Act} {vals : Nat → Value} {u : Value} (hy : nOp P md B F R X i o a (upd vals j u)) (he : execOp a'.eval o = execOp a.eval o) (hx : a'.eval (X i) = a.eval (X i)) (hj : ∀ e ∈ o.after, Region.binds md e = true → e.on ≠ j) : nOp P md B F R X i o a' vals :=
  ⟨fun w hb hk => by rw [he, hx]; exact hy.at_ w hb (fun e h1 h2 => by rw [upd_ne (hj e h1 h2)]; exact hk e h1 h2)⟩
theorem sOpN_put {i j : Nat} {oi oj : Oper} (hij : i ≠ j) (hi : ops[i]? = some oi) (hR : ∀ i y, ∃ v, R i y v) (hX : ∀ j oj t, ops[j]? = some oj → X j = .tmp t → t ∈ oj.looksAt ops) (hj : ops[j]? = some oj) (hap : oi.apart ops oj = true) (hnj : ∀ e ∈ oj.after, Region.binds md e = true → e.on ≠ i) (hni : ∀ e ∈ oi.after, Region.binds md e = true → e.on ≠ j)
    (hsi : ∀ cs b, oi.op ≠ .select cs b) (hsj : ∀ cs b, oj.op ≠ .select cs b) {K : (Nat → Value) → Act → Prop} {a : Act} {vals : Nat → Value}
    (hy : YieldsN P md ops B F R X i oi a vals) (h : ∀ v, NVal ops R X i oi a v → sOpN P md ops B F R X j K (upd vals i v) (a.put oi.dst v)) :
    sOpN P md ops B F R X j (fun vals' a' => YieldsN P md ops B F R X i oi a' vals' ∧ (∀ v, NVal ops R X i oi a' v → K (upd vals' i v) (a'.put oi.dst v))) vals a := by
  obtain ⟨h1, h2, h3⟩ := Oper.apart_spec hap
  have xi : ∀ u, (a.put oj.dst u).eval (X i) = a.eval (X i) := fun u => Act.eval_put fun d hd e => h3 d hd (hX i oi d hi e)
  have xj : ∀ u, (a.put oi.dst u).eval (X j) = a.eval (X j) := fun u => Act.eval_put fun d hd e => h1 d hd (hX j oj d hj e)
  have keepW : ∀ u, Region.wanted oi (yielded ops (a.put oj.dst u).tmps) = Region.wanted oi (yielded ops a.tmps) := fun u => wanted_put oi a oj.dst u h3
  have keep : ∀ u, YieldsN P md ops B F R X i oi (a.put oj.dst u) (upd vals j u) := fun u => by
    unfold YieldsN at *
    rw [keepW u]
    split
    · rename_i hw; rw [if_pos hw] at hy; exact nOp_of_same hy (execOp_put oi hsi a oj.dst u h3) (xi u) hni
    · rename_i hw; rw [if_neg hw] at hy; exact hy
  have keepV : ∀ u v, NVal ops R X i oi (a.put oj.dst u) v → NVal ops R X i oi a v := fun u v hv => by unfold NVal at *; rwa [keepW u, xi u] at hv
  obtain ⟨v0, hv0⟩ : ∃ v, NVal ops R X i oi a v := by
    unfold NVal
    split
    · exact hR i _
    · exact ⟨_, rfl⟩
  unfold sOpN at *
  simp only [hj] at *
  have hwj : ∀ v, Region.wanted oj (yielded ops (a.put oi.dst v).tmps) = Region.wanted oj (yielded ops a.tmps) := fun v => wanted_put oj a oi.dst v h1
  split
  · rename_i hw
    have g := h v0 hv0
    rw [hwj v0, if_pos hw] at g
    refine ⟨nOp_back g.1 (execOp_put oj hsj a oi.dst v0 h1).symm (xj v0).symm hnj, fun u hu => ⟨keep u, fun v hv => ?_⟩⟩
    have g2 := h v (keepV u v hv)
    rw [hwj v, if_pos hw] at g2
    have g3 := g2.2 u (by rw [xj v]; exact hu)
    rw [upd_comm hij, Act.put_comm a v u h2] at g3
    exact g3
  · rename_i hw
    have g := h v0 hv0
    rw [hwj v0, if_neg hw] at g
    refine ⟨g.1, keep _, fun v hv => ?_⟩
    have g2 := h v (keepV _ v hv)
    rw [hwj v, if_neg hw] at g2
    have g3 := g2.2
    rw [upd_comm hij, Act.put_comm a v undef h2] at g3
    exact g3
theorem wpAnyN_first (hR : ∀ i y, ∃ v, R i y v) (hX : ∀ j oj t, ops[j]? = some oj → X j = .tmp t → t ∈ oj.looksAt ops) {Q : (Nat → Value) → Act → Prop} {i : Nat} {oi : Oper} (hi : ops[i]? = some oi) (hsel : ∀ (j : Nat) (o : Oper) cs b, ops[j]? = some o → o.op ≠ .select cs b) :
    ∀ (fuel : Nat) (listed : Array Bool) (vals : Nat → Value) (a : Act),
      (∀ j oj, ops[j]? = some oj → j ≠ i → listed.getD j true = false → (∀ e ∈ oj.after, Region.binds md e = true → e.on ≠ i) → oi.apart ops oj = true) →
      i ∈ Region.ready md ops listed → YieldsN P md ops B F R X i oi a vals →
      (∀ v, NVal ops R X i oi a v → wpAnyN P md ops B F R X Q fuel (listed.setIfInBounds i true) (upd vals i v) (a.put oi.dst v)) → wpAnyN P md ops B F R X Q (fuel + 1) listed vals a := by
  intro fuel
  induction fuel with
  | zero =>
    intro listed vals a _ hr hy H
    refine ⟨fun h => (by rw [h] at hr; cases hr), fun j hj => ?_⟩
    by_cases hji : j = i
    · subst hji; exact hy.sOp hi H
    · obtain ⟨v0, hv0⟩ : ∃ v, NVal ops R X i oi a v := by
        unfold NVal
        split
        · exact hR i _
        · exact ⟨_, rfl⟩
      have := ready_mono hj hji
      rw [(H v0 hv0).1] at this
      cases this
  | succ fuel ih =>
    intro listed vals a hfree hr hy H
    refine ⟨fun h => (by rw [h] at hr; cases hr), fun j hj => ?_⟩
    by_cases hji : j = i
    · subst hji; exact hy.sOp hi H
    · have h1 := fun v hv => (H v hv).2 j (ready_mono hj hji)
      obtain ⟨hjun, oj, hoj, hall⟩ := mem_ready.1 hj
      obtain ⟨hiun, oi', hoi', halli⟩ := mem_ready.1 hr
      rw [hi] at hoi'
      cases hoi'
      have apartOf : ∀ (x y : Nat), listed.getD y true = false → listed.getD x false = true → x ≠ y := fun x y hy0 hx0 e => by
        subst e
        rcases Nat.lt_or_ge x listed.size with h' | h'
        · simp [h'] at hy0 hx0; rw [hy0] at hx0; cases hx0
        · simp [Array.getElem?_eq_none h'] at hx0
      have hnot : ∀ e ∈ oj.after, Region.binds md e = true → e.on ≠ i := fun e he hb => apartOf _ _ hiun (hall e he hb)
      have hnoti : ∀ e ∈ oi.after, Region.binds md e = true → e.on ≠ j := fun e he hb => apartOf _ _ hjun (halli e he hb)
      have h2 := sOpN_put (fun e => hji e.symm) hi hR hX hoj (hfree j oj hoj hji hjun hnot) hnot hnoti (fun cs b => hsel i oi cs b hi) (fun cs b => hsel j oj cs b hoj) hy h1
      have hfree' : ∀ k ok, ops[k]? = some ok → k ≠ i → (listed.setIfInBounds j true).getD k true = false →
          (∀ e ∈ ok.after, Region.binds md e = true → e.on ≠ i) → oi.apart ops ok = true := fun k ok hk hki hun hno => by
        refine hfree k ok hk hki ?_ hno
        by_cases hjk : j = k
        · subst hjk; exact hjun
        · rw [getD_set_ne true hjk] at hun; exact hun
      refine sOpN_mono (fun vals' a' h3 => ih (listed.setIfInBounds j true) vals' a' hfree' (ready_mono hr (Ne.symm hji)) h3.1 (fun v hv => ?_)) h2
      rw [Array.setIfInBounds_comm _ _ hji]
      exact h3.2 v hv
/-- The walk in the text's order. -/
def wpStn (P : Program) (ops : Array Oper) (B : World → Prop) (F : Nat → Value → World → Prop) (R : Nat → Value → Value → Prop) (X : Nat → Operand) (Q : (Nat → Value) → Act → Prop) : List Oper → Nat → (Nat → Value) → Act → Prop
  | [], _, vals, a => Q vals a
  | o :: rest, k, vals, a => if Region.wanted o (yielded ops a.tmps) then nOp P .any B F R X k o a vals ∧ ∀ v, R k (a.eval (X k)) v → wpStn P ops B F R X Q rest (k + 1) (upd vals k v) (a.put o.dst v) else (∀ w, B w → F k undef w) ∧ wpStn P ops B F R X Q rest (k + 1) (upd vals k undef) (a.put o.dst undef)
theorem wpAnyN_lex (hR : ∀ i y, ∃ v, R i y v) (hX : ∀ j oj t, ops[j]? = some oj → X j = .tmp t → t ∈ oj.looksAt ops) {Q : (Nat → Value) → Act → Prop} (hs : Region.noSelect ops = true) : ∀ (l : List Oper) (k : Nat) (listed : Array Bool) (vals : Nat → Value) (a : Act), (∀ j, l[j]? = ops[k + j]?) → k + l.length = ops.size → listed.size = ops.size → (∀ j, j < k → listed.getD j false = true) →
    Region.lexFrom .any ops l.length k listed = true → wpStn P ops B F R X Q l k vals a → wpAnyN P .any ops B F R X Q l.length listed vals a
  | [], k, listed, _, _, _, hk, _, hd, hB, h => ⟨by simpa [Region.lexFrom] using hB, fun j hj => hd j (by simp at hk; omega), h⟩
  | o :: l, k, listed, vals, a, hl, hk, hsz, hd, hB, h => by
    have h0 : ops[k]? = some o := by simpa using (hl 0).symm
    have hlt : k < ops.size := (Array.getElem?_eq_some_iff.1 h0).1
    simp only [List.length_cons, Region.lexFrom, Bool.and_eq_true] at hB
    obtain ⟨⟨hr, hf⟩, hB'⟩ := hB
    have hy : YieldsN P .any ops B F R X k o a vals := by
      unfold wpStn at h
      unfold YieldsN
      split
      · rename_i hw; rw [if_pos hw] at h; exact h.1
      · rename_i hw; rw [if_neg hw] at h; exact h.1
    have hK : ∀ v, NVal ops R X k o a v → wpStn P ops B F R X Q l (k + 1) (upd vals k v) (a.put o.dst v) := by
      unfold wpStn at h
      intro v hv
      unfold NVal at hv
      split at hv
      · rename_i hw; rw [if_pos hw] at h; exact h.2 v hv
      · rename_i hw; rw [if_neg hw] at h; subst hv; exact h.2
    refine wpAnyN_first hR hX h0 (Region.noSelect_spec hs) l.length listed vals a (Region.free_spec h0 hf) (by simpa using hr) hy
      (fun v hv => wpAnyN_lex hR hX hs l (k + 1) _ _ _ (fun j => by have := hl (j + 1); simpa [Nat.add_assoc, Nat.add_comm 1 j] using this) (by simp at hk; omega) (by simpa using hsz) (fun j hj => ?_) hB' (hK v hv))
    by_cases hjk : k = j
    · subst hjk
      simp [hsz, hlt]
    · rw [getD_set_ne false hjk]; exact hd j (by omega)
structure WpStn (P : Program) (ops : Array Oper) (B : World → Prop) (F : Nat → Value → World → Prop) (R : Nat → Value → Value → Prop) (X : Nat → Operand) (Q : (Nat → Value) → Act → Prop) (l : List Oper) (k : Nat) (vals : Nat → Value) (a : Act) : Prop where
  at_ : wpStn P ops B F R X Q l k vals a
theorem wpStn_nil {Q : (Nat → Value) → Act → Prop} {vals : Nat → Value} {a : Act} {k : Nat} (h : Q vals a) : WpStn P ops B F R X Q [] k vals a := ⟨h⟩
theorem wpStn_do {Q : (Nat → Value) → Act → Prop} {a : Act} {o : Oper} {rest : List Oper} {k : Nat} {vals : Nat → Value} (hw : Region.wanted o (yielded ops a.tmps) = true) (h : nOp P .any B F R X k o a vals) (hK : ∀ v, R k (a.eval (X k)) v → WpStn P ops B F R X Q rest (k + 1) (upd vals k v) (a.put o.dst v)) : WpStn P ops B F R X Q (o :: rest) k vals a := ⟨by
  unfold wpStn; rw [if_pos hw]; exact ⟨h, fun v hv => (hK v hv).at_⟩⟩
theorem wp_region_stagedN {id : Nat} {Q : Exit → Act → World → Prop} {a : Act} {w : World} {l : List Oper} (B : World → Prop) (F : Nat → Value → World → Prop) (R : Nat → Value → Value → Prop) (X : Nat → Operand) (hR : ∀ i y, ∃ v, R i y v) (hX : ∀ j oj t, l.toArray[j]? = some oj → X j = .tmp t → t ∈ oj.looksAt l.toArray) (hm : P.follows .mixedOrders = true) (hB : Region.lexB .any l.toArray = true) (hC : B w.drew)
    (h : WpStn P l.toArray B F R X (fun vals a' => ∀ w', B w' → (∀ k, k < l.length → F k (vals k) w') → Q .normal a' w') l 0 (fun _ => undef) a) : (Code.region id l.toArray true).wp P Q a w := by
  simp only [Region.lexB, Bool.and_eq_true] at hB
  refine wp_region_any hm (wpAny_of_stagedN (B := B) (F := F) (R := R) (X := X) (Q := fun vals a' => ∀ w', B w' → (∀ k, k < l.length → F k (vals k) w') → Q .normal a' w') (fun vals _ w' hb hf h => h w' hb (fun k hk => hf k (by simpa using hk))) _ _ (fun _ => undef) _ _ ⟨hC, fun k hk => ?_⟩ ?_)
  · exfalso
    simp [Array.getElem?_replicate] at hk
    split at hk <;> simp_all
  · have := wpAnyN_lex (B := B) (F := F) (R := R) (X := X) hR hX hB.1 l 0 (Array.replicate l.toArray.size false) (fun _ => undef) a (by simp) (by simp) (by simp) (fun j hj => by omega) (by simpa using hB.2) h.at_
    simpa using this
end
end Go.Proofs.Ytnjjeedalmikaaa
