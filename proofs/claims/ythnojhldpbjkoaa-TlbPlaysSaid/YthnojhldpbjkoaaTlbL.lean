/- Contracts of the package tlb (layer 5): Lines. No condition. -/
import Derived.Test.YthnojhldpbjkoaaTlbX
import Derived.Test.YthnojhldpbjkoaaApp1
import Derived.Deep.WholeRow
namespace Go.Proofs.Ythnojhldpbjkoaa
open Go.ChangeShapes Go.WideShapes Go.ChangeAt Go.RowKit
set_option linter.unusedVariables false
set_option linter.unusedSimpArgs false

/-- An element of an array value that is itself a struct or an array. -/
theorem run_index_agg {P : Program} (t e : TypeId) (n sz : Nat) (cs : Array Value) (k : IntKind) (i : Int) (h : P.underlying t = some (.array n e)) (ha : ∀ w, (isAgg e).run P w = .ok true w) (hs : ∀ w, (Go.sizeOf e).run P w = .ok sz w) (h0 : 0 ≤ i) (h1 : i < n) (w : World) :
    (Instr.index t (.agg cs) (.int k i)).run P w = .ok (.agg (cs.extract (i.toNat * sz) (i.toNat * sz + sz))) w := by
  simp [Instr.index, asIntOf, run_underlying h, h0, h1, hs, part, ha]
theorem lcells_extract (L : List Ln) (k m : Nat) (h : k + m ≤ L.length) : ((lcells L).toArray.extract (k * 9) (k * 9 + m * 9)) = (lcells ((L.drop k).take m)).toArray := by
  rw [List.extract_toArray, List.extract_eq_take_drop]
  congr 1
  rw [show k * 9 + m * 9 - k * 9 = m * 9 by omega]
  have h1 : ∀ (L : List Ln) (k : Nat), k ≤ L.length → (lcells L).drop (k * 9) = lcells (L.drop k) := by
    intro L
    induction L with
    | nil => intro k hk; simp [lcells]
    | cons x r ih =>
      intro k hk
      cases k with
      | zero => simp
      | succ k =>
        show (x.cells ++ lcells r).drop ((k + 1) * 9) = _
        rw [List.drop_append, List.drop_eq_nil_of_le (by rw [Ln.cells_length]; omega), Ln.cells_length, show (k + 1) * 9 - 9 = k * 9 by omega, List.nil_append]
        exact ih k (by simpa using hk)
  have h2 : ∀ (L : List Ln) (k : Nat), k ≤ L.length → (lcells L).take (k * 9) = lcells (L.take k) := by
    intro L
    induction L with
    | nil => intro k hk; simp [lcells]
    | cons x r ih =>
      intro k hk
      cases k with
      | zero => simp [lcells]
      | succ k =>
        show (x.cells ++ lcells r).take ((k + 1) * 9) = x.cells ++ lcells (r.take k)
        rw [List.take_append, List.take_of_length_le (by rw [Ln.cells_length]; omega), Ln.cells_length, show (k + 1) * 9 - 9 = k * 9 by omega, ih k (by simpa using hk)]
  rw [h1 L k (by omega), h2 _ m (by rw [List.length_drop]; omega)]
theorem drop_two (L : List Ln) (k : Nat) (h : k + 1 < L.length) : (L.drop k).take 2 = [at_ L k, at_ L (k + 1)] := by
  have e1 := at_get (L := L) (k := k) (by omega)
  have e2 := at_get (L := L) (k := k + 1) h
  rw [List.drop_eq_getElem_cons (by omega), List.drop_eq_getElem_cons h]
  rw [List.getElem?_eq_getElem (by omega)] at e1 e2
  simp only [Option.some.injEq] at e1 e2
  rw [e1, e2]; rfl
/-- What is kept. -/
def linesT (L : List Ln) : List Ln := L.filter fun l => l.v
theorem linesT_step (L : List Ln) (n : Nat) (h : n < L.length) : linesT (L.take (n + 1)) = linesT (L.take n) ++ (if (at_ L n).v then [at_ L n] else []) := by
  rw [List.take_add_one, at_get h]
  unfold linesT
  rw [List.filter_append]
  cases hv : (at_ L n).v <;> simp [hv]
theorem lcells_one : ∀ (L : List Ln), ∀ u ∈ lcells L, u.oneCell' = true
  | [], u, h => by simp [lcells] at h
  | l :: r, u, h => by
    simp only [lcells, Ln.cells, List.cons_append, List.nil_append, List.mem_cons] at h
    rcases h with rfl | rfl | rfl | rfl | rfl | rfl | rfl | rfl | rfl | h
    all_goals first | rfl | exact lcells_one r u h
theorem info25 : (Try.prog.info? 25).map (fun i => (i.zero, i.size, i.bytes)) = some (some (.agg #[.bool false, .int .i64 0, .int .i64 0, .int .i64 0, .bool false, .bool false, .bool false, .bool false, .bool false]), 9, 40) := by kernel_rfl
/-- A list of lines of one's own. -/
def LnRow (w : World) (base : Nat) (v : Value) (L : List Ln) : Prop := w.ownsRow base 25 9 v L.length (lcells L)
theorem two_of (way : Nat) (h : way < 2) : way = 0 ∨ way = 1 := by omega
set_option maxRecDepth 100000 in
set_option maxHeartbeats 2000000 in
theorem lines_any {w : World} {p : Nat} {L : List Ln} (h : TlbAt w p L) :
    Calls Try.prog 12 #[.pointer (some ⟨p, 0, none⟩)] w fun e w' => ∃ v, e = .returned v ∧ Below w.heap.size w w' ∧ LnRow w' w.heap.size v (linesT L) := by
  have HC := Lib.hid h.cells
  have HL := Lib.hid h.len
  have hix : ∀ (k : Nat) (W : World), k < 8 → (Instr.index 27 (.agg (lcells L).toArray) (.int .i64 k)).run Try.prog W = .ok (.agg (lcells [at_ L (2 * k), at_ L (2 * k + 1)]).toArray) W := by
    intro k W hk
    rw [run_index_agg 27 26 8 18 _ _ _ (by kernel_rfl) (fun _ => by kernel_rfl) (fun _ => by kernel_rfl) (by omega) (by omega)]
    have e := lcells_extract L (2 * k) 2 (by have := HL.out; omega)
    rw [drop_two L (2 * k) (by have := HL.out; omega)] at e
    rw [show (k : Int).toNat * 18 = 2 * k * 9 by omega, show 2 * k * 9 + 18 = 2 * k * 9 + 2 * 9 by omega, e]
  have HIX := Lib.hid hix
  have HU : Try.prog.underlying 27 = some (.array 8 26) := by kernel_rfl
  have HI : (Try.prog.info? 27).map (·.size) = some (lcells L).toArray.size := by rw [List.size_toArray, lcells_length, HL.out]; kernel_rfl
  clear hix
  go_enter Try.func12, Try.ntmps12
  go_wp2_with (refine wpList_load_row rfl 27 (.tmp 10) rfl p rfl 29 (lcells L).toArray (0, 0) (.array 8 26) HC.out HU rfl HI ?_)
  go_loopw [3, 12] (fun v i wr => ∃ k : Nat, i = .int .i64 k ∧ k ≤ 8 ∧ Below w.heap.size w wr ∧ LnRow wr w.heap.size v (linesT (L.take (2 * k)))) (fun _ i _ => (8 - intOf i).toNat)
  case atStart => exact ⟨0, rfl, by omega, Below.refl _ _, World.ownsRow_nil _ _ _ _⟩
  case round =>
    obtain ⟨k, rfl, hle, hB, hR⟩ := hrel
    have hsz := hB.size
    by_cases hk : k < 8
    · have dk : decide ((k : Int) < 8) = true := decide_eq_true (by omega)
      have hix := fun W => HIX.out k W hk
      obtain ⟨X, hX⟩ : ∃ X, X = (lcells [at_ L (2 * k), at_ L (2 * k + 1)]).toArray := ⟨_, rfl⟩
      rw [← hX] at hix
      have HXS : X.size = 18 := by rw [hX]; rfl
      have HX1 : X.all (·.oneCell') = true := by rw [hX]; exact Array.all_eq_true_iff_forall_mem.2 (fun v hv => lcells_one _ v (by simpa using hv))
      have hix2 : ∀ (j : Nat) (W : World), j < 2 → (Instr.index 26 (.agg X) (.int .i64 j)).run Try.prog W = .ok (at_ L (2 * k + j)).val W := by
        intro j W hj
        rw [run_index_agg 26 25 2 9 _ _ _ (by kernel_rfl) (fun _ => by kernel_rfl) (fun _ => by kernel_rfl) (by omega) (by omega), hX]
        rcases two_of j hj with rfl | rfl <;> rfl
      have HIX2 := Lib.hid hix2
      have HU2 : Try.prog.underlying 26 = some (.array 2 25) := by kernel_rfl
      have HI2 : (Try.prog.info? 26).map (·.size) = some X.size := by rw [HXS]; kernel_rfl
      have HS := Lib.hid HXS
      clear hix2 hX HXS
      go_wp2_with (first
        | (refine wpList_store_row rfl 26 (.tmp 5) (.tmp 14) rfl wr.heap.size X rfl rfl 26 _ (heap_new _ _) HI2 (by rw [HS.out]; rfl) HX1 ?_; rw [World.setRow_alloc_new])
        | (refine wpList_load_row rfl 26 (.tmp 5) rfl wr.heap.size rfl 26 X (0, 0) (.array 2 25) (heap_new _ _) HU2 rfl HI2 ?_))
      have hB2 := hB.alloc hB.size (.cells X 26)
      have hR2 : LnRow (wr.alloc (.cells X 26)) w.heap.size _ (linesT (L.take (2 * k))) := World.ownsRow.alloc hR _
      generalize wr.alloc (.cells X 26) = wo at hB2 hR2 ⊢
      go_loopw [3, 16] (fun v i wr => ∃ j : Nat, i = .int .i64 j ∧ j ≤ 2 ∧ Below w.heap.size w wr ∧ LnRow wr w.heap.size v (linesT (L.take (2 * k + j)))) (fun _ i _ => (2 - intOf i).toNat)
      case atStart => exact ⟨0, rfl, by omega, hB2, hR2⟩
      case round =>
        clear hB2 hR2 hB hR hix
        obtain ⟨j, rfl, hle2, hB3, hR3⟩ := hrel
        by_cases hj : j < 2
        · have dj : decide ((j : Int) < 2) = true := decide_eq_true (by omega)
          have hjx := fun W => HIX2.out j W hj
          have hst := linesT_step L (2 * k + j) (by have := HL.out; omega)
          have hln : (linesT (L.take (2 * k + j))).length ≤ 16 := Nat.le_trans (List.length_filter_le _ _) (by rw [List.length_take]; have := HL.out; omega)
          obtain ⟨A, c, rfl⟩ := row_form hR3
          have HST := Lib.hid hst
          clear hst
          generalize at_ L (2 * k + j) = x at hjx HST
          obtain ⟨xv, xt, xp, xf, xw, xu, xe, xg, xd⟩ := x
          generalize linesT (L.take (2 * k + j)) = M at hln HST hR3 ⊢
          cases xv
          · have hB4 := hB3.alloc hB3.size (.cells #[.bool false, .int .i64 xt, .int .i64 xp, .int .i64 xf, .bool xw, .bool xu, .bool xe, .bool xg, .bool xd] 25)
            have hR4 := World.ownsRow.alloc hR3 (.cells #[.bool false, .int .i64 xt, .int .i64 xp, .int .i64 xf, .bool xw, .bool xu, .bool xe, .bool xg, .bool xd] 25)
            have HR4 : LnRow (wr.alloc (.cells #[.bool false, .int .i64 xt, .int .i64 xp, .int .i64 xf, .bool xw, .bool xu, .bool xe, .bool xg, .bool xd] 25)) w.heap.size (.slice A M.length c) (linesT (L.take (2 * k + (j + 1)))) := by
              have e := HST.out
              rw [if_neg (by simp), List.append_nil] at e
              rw [show 2 * k + (j + 1) = 2 * k + j + 1 by omega, e]; exact hR4
            clear hR4
            go_wp2_with fail
            go_roundw
            case rel => exact ⟨j + 1, by go_num, by omega, hB4, HR4⟩
            case measure => simp [intOf]; omega
          · obtain ⟨i0, hi, hz0, hz1, hz2⟩ := info_parts info25
            have hB4 := hB3.alloc hB3.size (.cells #[.bool true, .int .i64 xt, .int .i64 xp, .int .i64 xf, .bool xw, .bool xu, .bool xe, .bool xg, .bool xd] 25)
            have hR4 := World.ownsRow.alloc hR3 (.cells #[.bool true, .int .i64 xt, .int .i64 xp, .int .i64 xf, .bool xw, .bool xu, .bool xe, .bool xg, .bool xd] 25)
            obtain ⟨A2, c2, w5, ha, hR5, hB5⟩ := app_one (P := Try.prog) w 35 35 25 (by kernel_rfl) hi hz0 hz1 hz2 rfl (by decide) hR4 hB4 #[.bool true, .int .i64 xt, .int .i64 xp, .int .i64 xf, .bool xw, .bool xu, .bool xe, .bool xg, .bool xd] rfl (by simp [Value.oneCell']) (by unfold maxLen; omega) (by omega)
            rw [World.size_alloc] at ha
            have HA := Lib.hid ha
            have HR6 : LnRow w5 w.heap.size (.slice A2 (M.length + 1) c2) (linesT (L.take (2 * k + (j + 1)))) := by
              have e := HST.out
              rw [if_pos rfl] at e
              unfold LnRow
              rw [show 2 * k + (j + 1) = 2 * k + j + 1 by omega, e, List.length_append, lcells_append]
              exact hR5
            clear ha hR5 hR4 hi hz0 hz1 hz2
            go_wp2_with (at_builtin; refine wpList_app rfl (.tmp 21) (.tmp 23) 35 rfl rfl rfl HA.out ?_)
            go_roundw
            case rel => exact ⟨j + 1, by go_num, by omega, hB5, HR6⟩
            case measure => simp [intOf]; omega
        · have : j = 2 := by omega
          subst this
          go_wp2_with fail
          go_roundw
          case rel => exact ⟨k + 1, by go_num, by omega, hB3, hR3⟩
          case measure => simp [intOf]; omega
    · have : k = 8 := by omega
      subst this
      go_wp2_with fail
      go_returns
      refine ⟨_, rfl, hB, ?_⟩
      rw [show 2 * 8 = L.length by rw [HL.out], List.take_length] at hR
      exact hR
end Go.Proofs.Ythnojhldpbjkoaa
