/- A copy of the nodes; the error of Credit. No condition but bounds. -/
import Derived.Test.YtgnkgfejnnkkaaaQuoD
namespace Go.Proofs.Ytgnkgfejnnkkaaa
open Go.ChangeShapes Go.WideShapes Go.ChangeAt Go.RowKit
set_option linter.unusedVariables false
set_option linter.unusedSimpArgs false
theorem infoN : (Try.prog.info? 39).map (fun i => (i.zero, i.size, i.bytes)) = some (some (.agg #[.int .i64 0, .int .i64 0, .int .i64 0, .int .i64 0, .bool false]), 5, 40) := by kernel_rfl
theorem underN : Try.prog.underlying 50 = some (.slice 39) := by kernel_rfl
theorem ncells_one : ∀ (L : List ND), ∀ u ∈ ncells L, u.oneCell' = true
  | [], u, h => by simp [ncells] at h
  | g :: r, u, h => by
    simp only [ncells, List.mem_cons] at h
    rcases h with rfl | rfl | rfl | rfl | rfl | h
    all_goals first | rfl | exact ncells_one r u h
theorem clone_laid {w : World} {v : Value} {L : List ND} (h : NL w 0 v L) (hl : L.length < 1000000) :
    ∃ v' w', (Builtin.append_ #[50, 50] 50 #[.slice (some ⟨w.heap.size, 0, none⟩) 0 0, v]).run Try.prog (w.alloc (.cells #[] 39)) = .ok v' w' ∧ NL w' w.heap.size v' L ∧ Below w.heap.size w w' := by
  obtain ⟨i, hi, hz0, hz1, hz2⟩ := info_parts infoN
  have o0 := World.ownsRow_lit (base := w.heap.size) (e := 39) (size := 5) w #[] 0 (Nat.le_refl _) (by simp [maxLen]) (by simp)
  have B0 : Below w.heap.size w (w.alloc (.cells #[] 39)) := (Below.refl w.heap.size w).alloc (Nat.le_refl _) _
  have r0 : Rd (w.alloc (.cells #[] 39)) 5 v L.length (ncells L) := Rd.own (NL.below h B0)
  obtain ⟨v1, w2, a1, o1, g1⟩ := run_app (P := Try.prog) w.heap.size 50 50 39 underN hi hz0 hz1 hz2 rfl (by decide) o0 r0 (ncells_one L) (by simp [maxLen]; omega) (by omega) (by rw [World.size_alloc]; omega)
  rw [Nat.zero_add] at o1
  exact ⟨v1, w2, a1, o1, Below.grown B0 g1 (by rw [World.size_alloc]; omega) (fun k e => by simp [Value.ownBlock] at e; omega)⟩
theorem not_nil (A : Addr) (n c : Nat) (W : World) : (binOp .eql 50 (.slice (some A) n c) (.slice none 0 0)).run Try.prog W = .ok (.bool false) W := by
  have h : (Op.equalIn (9999 + 1) 50 (.slice (some A) n c) (.slice none 0 0)).run Try.prog W = .ok false W := by
    unfold Op.equalIn
    simp [Sem.run_bind, run_underlying underN]
  simp [binOp, Op.equal, Op.maxDepth, Sem.run_bind, h]
set_option maxHeartbeats 1000000 in
theorem clone_any {w : World} {A : Addr} {cap : Nat} {L : List ND} (h : NL w 0 (.slice (some A) L.length cap) L) (hl : L.length < 1000000) :
    Calls Try.prog 23 #[.slice (some A) L.length cap] w fun e w' => ∃ v', e = .returned v' ∧ NL w' w.heap.size v' L ∧ Below w.heap.size w w' := by
  obtain ⟨v', w', happ, h1, h2⟩ := clone_laid h hl
  have HA := Lib.hid happ
  have HH := Lib.hid (And.intro h1 h2)
  have hnn := not_nil A L.length cap
  clear h happ h1 h2
  go_enter Try.func23, Try.ntmps23
  go_wp2_with (at_builtin; refine wpList_app rfl (.tmp 5) (.tmp 6) 50 rfl rfl rfl HA.out ?_)
  go_returns
  exact ⟨_, rfl, HH.out⟩
set_option maxHeartbeats 1000000 in
theorem credit_err {w : World} {base t b cap : Nat} {L : List ND} (h : TreeAt w base t (.slice (some ⟨b, 0, none⟩) L.length cap) L) {k : Nat} {d : ND} (hk : L[k]? = some d) (hd : d.live = true) (n : Int) (h0 : n < 0 ∨ d.used < n) :
    Calls Try.prog 15 #[.pointer (some ⟨t, 0, none⟩), .int .i64 k, .int .i64 n] w fun e w' => e = .returned (.int .i64 1) ∧ w' = w := by
  have HA := Lib.hid (at_some h k d hk hd)
  obtain ⟨b', cap', hv, hb, hbw, e0, e1, e2, e3, e4⟩ := NL.cell h.l hk
  obtain rfl : b = b' := by injection hv with h1 h2 h3; simpa using h1
  clear h hk hd hv hb e0 e1 e3 e4
  by_cases hn : n < 0
  · have d1 : decide (n < 0) = true := decide_eq_true hn
    clear hn h0
    go_enter Try.func15, Try.ntmps15
    go_wp2_with fail
    refine HA.out.mono ?_
    rintro e w1 ⟨b', cap', rfl, hv', hw⟩
    obtain rfl := hw.symm
    clear hw hv'
    go_wp2
    go_returns
    exact ⟨rfl, rfl⟩
  · have d1 : decide (n < 0) = false := decide_eq_false hn
    have d2 : decide (d.used < n) = true := decide_eq_true (by omega)
    clear hn h0
    go_enter Try.func15, Try.ntmps15
    go_wp2_with fail
    refine HA.out.mono ?_
    rintro e w1 ⟨b', cap', rfl, hv', hw⟩
    obtain rfl := hw.symm
    obtain rfl : b = b' := by injection hv' with h1 h2 h3; simpa using h1
    clear hw hv'
    go_wp2
    go_returns
    exact ⟨rfl, rfl⟩
end Go.Proofs.Ytgnkgfejnnkkaaa
