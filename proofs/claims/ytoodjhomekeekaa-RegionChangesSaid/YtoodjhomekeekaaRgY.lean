/- ends: where something begins or ends, rising, each once. Condition: at most 100 regions. Printed by gen/rgends.py. -/
import Derived.Test.YtoodjhomekeekaaRgX
import Derived.Test.YtoodjhomekeekaaIntB
import Derived.Deep.RegionWith
import Derived.Deep.AppendLies
import Derived.Deep.DeepCutAuto
import Derived.Deep.WholeRow
import Derived.Laws.Rows
import Derived.Laws.Tables
namespace Go.Proofs.Ytoodjhomekeekaa
open Go.ChangeShapes Go.WideShapes Go.ChangeAt Go.RowKit
set_option linter.unusedVariables false
set_option linter.unusedSimpArgs false
def insL (n : Int) : List Int → List Int
  | [] => [n]
  | x :: r => if n ≤ x then (if n < x then n :: x :: r else x :: r) else x :: insL n r
def allE (R : List RG) (f t : Int) : List Int := [f, t] ++ R.flatMap (fun d => [d.a, d.b])
def endsL (R : List RG) (f t : Int) : List Int := (allE R f t).foldl (fun o n => insL n o) []
theorem insL_len (n : Int) : ∀ l, (insL n l).length ≤ l.length + 1
  | [] => by simp [insL]
  | x :: r => by
    unfold insL
    split
    · split <;> simp
    · have := insL_len n r; simp; omega
theorem fold_ins_len : ∀ (a o : List Int), (a.foldl (fun o n => insL n o) o).length ≤ o.length + a.length
  | [], o => by simp
  | n :: a, o => by
    have h1 := fold_ins_len a (insL n o)
    have h2 := insL_len n o
    simp only [List.foldl_cons, List.length_cons]; omega
theorem allE_len (R : List RG) (f t : Int) : (allE R f t).length = 2 * R.length + 2 := by
  have : ∀ R : List RG, (R.flatMap (fun d => [d.a, d.b])).length = 2 * R.length := by
    intro R
    induction R with
    | nil => rfl
    | cons d r ih => rw [List.flatMap_cons, List.length_append, ih]; simp; omega
  unfold allE
  rw [List.length_append, this]; simp; omega
theorem app_int {w0 W : World} {v : Value} {l : List Int} (hown : IRow W w0.heap.size v l) (hB : Below w0.heap.size w0 W) (k : Int) (hl : l.length ≤ 1000) :
    ∃ A c w', (Builtin.append_ #[69, 69] 69 #[v, .slice (some ⟨W.heap.size, 0, none⟩) 1 1]).run Try.prog (W.alloc (.cells #[.int .i64 k] 3)) = .ok (.slice A (l.length + 1) c) w' ∧ IRow w' w0.heap.size (.slice A (l.length + 1) c) (l ++ [k]) ∧ Below w0.heap.size w0 w' := by
  obtain ⟨i0, hi, hz0, hz1, hz2⟩ := info_parts info3
  obtain ⟨A, c, w', h1, h2, h3⟩ := app_one (P := Try.prog) w0 69 69 3 under31 hi hz0 hz1 hz2 rfl (by decide) hown hB #[.int .i64 k] rfl (by simp [Value.oneCell']) (by unfold maxLen; omega) (by omega)
  refine ⟨A, c, w', h1, ?_, h3⟩
  unfold IRow
  rw [List.length_append, ivs, List.map_append]
  exact h2
theorem rd_i {W : World} {p : Nat} {u : Int} (h : W.heap[p]? = some (.cells #[.int .i64 u] 3 (0, 0))) : Rd W 1 (.slice (some ⟨p, 0, none⟩) 1 1) 1 [.int .i64 u] :=
  ⟨rfl, .inr ⟨_, 1, rfl, fun j x hj => by
    rw [add_at, Nat.zero_add]
    have := cell_heap h j
    rw [this, ← hj]; simp⟩⟩
theorem irow_lit0 (w : World) : IRow (w.alloc (.cells #[] 3)) w.heap.size (.slice (some ⟨w.heap.size, 0, none⟩) 0 0) [] :=
  World.ownsRow_lit (base := w.heap.size) (e := 3) (size := 1) w #[] 0 (Nat.le_refl _) (by simp [maxLen]) (by simp)
theorem irow_lit2 (w : World) (base : Nat) (hb : base ≤ w.heap.size) (a b : Int) : IRow (w.alloc (.cells #[.int .i64 a, .int .i64 b] 3)) base (.slice (some ⟨w.heap.size, 0, none⟩) 2 2) [a, b] :=
  World.ownsRow_lit (base := base) (e := 3) (size := 1) w #[.int .i64 a, .int .i64 b] 2 hb (by simp [maxLen]) (by simp)
theorem irow_below {w w' : World} {base : Nat} {v : Value} {l : List Int} (h : IRow w base v l) (hb : Below w.heap.size w w') : IRow w' base v l := row_below h hb
theorem irow_mono {w : World} {base base' : Nat} {v : Value} {l : List Int} (h : IRow w base v l) (hb : base' ≤ base) : IRow w base' v l := row_mono h hb
theorem irow_form {w : World} {base : Nat} {v : Value} {l : List Int} (h : IRow w base v l) : ∃ A cap, v = .slice A l.length cap := row_form h
theorem irow_own {w : World} {base : Nat} {A : Option Addr} {n c : Nat} {l : List Int} (h : IRow w base (.slice A n c) l) : ∀ k, (Value.slice A n c).ownBlock = some k → base ≤ k := by
  intro k e
  rcases h.2 with ⟨h1, _⟩ | ⟨g, cap, cur, h1, hb, _⟩
  · rw [h1] at e; simp [Value.ownBlock] at e
  · rw [h1] at e; simp [Value.ownBlock] at e; omega
set_option maxHeartbeats 8000000 in
theorem ends_any {w : World} {base : Nat} {v : Value} {R : List RG} (h : rfL w base v R) (hl : R.length ≤ 100) (f t : Int) :
    Calls Try.prog 35 #[v, .int .i64 f, .int .i64 t] w fun e w' => ∃ A c, e = .returned (.slice A (endsL R f t).length c) ∧ IRow w' w.heap.size (.slice A (endsL R f t).length c) (endsL R f t) ∧ Below w.heap.size w w' := by
  obtain ⟨A, cap, rfl⟩ := h.form
  have H := Lib.hid h
  clear h
  go_enter Try.func35, Try.ntmps35
  go_wp2_with fail
  obtain ⟨g0, hg0⟩ : ∃ g0, g0 = w.heap.size := ⟨_, rfl⟩
  obtain ⟨Wb, hWb⟩ : ∃ W, W = w.alloc (.cells #[] 3) := ⟨_, rfl⟩
  have hbs : Wb.heap.size = w.heap.size + 1 := by rw [hWb, World.size_alloc]
  obtain ⟨W0, hW0⟩ : ∃ W, W = Wb.alloc (.cells #[.int .i64 f, .int .i64 t] 3) := ⟨_, rfl⟩
  have HI0 : Hid (IRow W0 Wb.heap.size (.slice (some ⟨Wb.heap.size, 0, none⟩) 2 2) [f, t]) := Lib.hid (by
    rw [hW0]; exact irow_lit2 Wb Wb.heap.size (Nat.le_refl _) f t)
  have HI1 : Hid (IRow Wb g0 (.slice (some ⟨g0, 0, none⟩) 0 0) []) := Lib.hid (by rw [hWb, hg0]; exact irow_lit0 w)
  have HBB : Hid (Below w.heap.size w Wb) := Lib.hid (by rw [hWb]; exact (Below.refl _ _).alloc (Nat.le_refl _) _)
  have HB0 : Hid (Below Wb.heap.size Wb W0) := Lib.hid (by rw [hW0]; exact (Below.refl _ _).alloc (Nat.le_refl _) _)
  rw [← hWb, ← hW0, ← hbs, ← hg0]
  have HX0 := Lib.hid hW0
  have HX1 := Lib.hid hWb
  have HX2 := Lib.hid hg0
  have HX3 := Lib.hid hbs
  clear hW0 hWb hg0 hbs
  go_loopw [8, 23] (fun x8 x wr => ∃ (k : Nat) (l : List Int) (A3 : Option Addr) (c3 : Nat), x = .int .i64 k ∧ x8 = .slice A3 l.length c3 ∧ k ≤ R.length ∧ l.length = 2 * k + 2 ∧ Hid (Below Wb.heap.size Wb wr) ∧ Hid (IRow wr Wb.heap.size (.slice A3 l.length c3) l) ∧ Hid (W0.heap.size ≤ wr.heap.size) ∧ Hid (allE R f t = l ++ (R.drop k).flatMap (fun d => [d.a, d.b]))) (fun _ x _ => R.length - (intOf x).toNat)
  case atStart => exact ⟨0, [f, t], _, 2, rfl, rfl, by omega, by simp, HB0, HI0, Lib.hid (Nat.le_refl _), Lib.hid rfl⟩
  case round =>
    obtain ⟨k, l, A3, c3, rfl, rfl, hle, hok, HB, HO, HSZ, HF⟩ := hrel
    have hB := b_then HBB.out HB.out
    have hsz := hB.size
    by_cases hlt : k < R.length
    · have f0 : decide (k < R.length) = true := decide_eq_true hlt
      have f3 : (k : Int) < (R.length : Int) := by omega
      have hd : (R.drop k).flatMap (fun d => [d.a, d.b]) = [R[k].a, R[k].b] ++ (R.drop (k + 1)).flatMap (fun d => [d.a, d.b]) := by
        rw [List.drop_eq_getElem_cons hlt]; rfl
      obtain ⟨b, cap1, hv, hb, hbw, e0, e1, e2, e3, e4, e5⟩ := H.out.cell (List.getElem?_eq_getElem hlt)
      obtain ⟨hc1, hf1⟩ := bcell hB
      have c0 := (hc1 b _ hbw).trans e0
      have c1 := (hc1 b _ hbw).trans e1
      have c2 := (hc1 b _ hbw).trans e2
      have c3_ := (hc1 b _ hbw).trans e3
      have c4 := (hc1 b _ hbw).trans e4
      have c5 := (hc1 b _ hbw).trans e5
      obtain ⟨rfl, _, rfl⟩ : A = some ⟨b, 0, none⟩ ∧ R.length = R.length ∧ cap = cap1 := by simpa using hv
      obtain ⟨n, hn⟩ : ∃ n, n = R.length := ⟨_, rfl⟩
      rw [← hn] at hlt hle hl f0 f3 ⊢
      generalize R[k] = y at c0 c1 c2 c3_ c4 c5 hd
      obtain ⟨ya, yb, yw, yu, yx, yk⟩ := y
      simp only at c0 c1 c2 c3_ c4 c5 hd
      have HD := Lib.hid hd
      have HN := Lib.hid hn
      have hbw3 : b < wr.heap.size := by omega
      have hl1 : l.length ≤ 1000 := by omega
      have HL1 := Lib.hid hl1
      have HK := Lib.hid hok
      clear hc1 hf1 e0 e1 e2 e3 e4 e5 hv hn hb hB hd hl1 hok
      have HQ2 := Lib.hid (heap_new wr (.cells #[.int .i64 0, .int .i64 0, .bool false, .bool false, .bool false, .int .i64 0] 36))
      have HAL : Hid ((#[.int .i64 ya, .int .i64 yb, .bool yw, .bool yu, .bool yx, .int .i64 yk] : Array Value).all (·.oneCell') = true) := Lib.hid (by simp [Value.oneCell'])
      go_upto_region 6 with (first | ((refine wpList_store_row rfl 36 (.tmp 10) (.tmp 26) rfl wr.heap.size #[.int .i64 ya, .int .i64 yb, .bool yw, .bool yu, .bool yx, .int .i64 yk] rfl rfl 36 #[.int .i64 0, .int .i64 0, .bool false, .bool false, .bool false, .int .i64 0] HQ2.out sz_rf rfl HAL.out ?_); rw [World.setRow_alloc_new]))
      try simp only [putNone]
      obtain ⟨q, hq⟩ : ∃ q, q = wr.heap.size := ⟨_, rfl⟩
      obtain ⟨V, hV⟩ : ∃ W, W = wr.alloc (.cells #[.int .i64 ya, .int .i64 yb, .bool yw, .bool yu, .bool yx, .int .i64 yk] 36) := ⟨_, rfl⟩
      have hy := heap_new wr (.cells #[.int .i64 ya, .int .i64 yb, .bool yw, .bool yu, .bool yx, .int .i64 yk] 36)
      have hB1 : Below wr.heap.size wr V := by rw [hV]; exact (Below.refl _ _).alloc (Nat.le_refl _) _
      rw [← hV, ← hq] at hy ⊢
      have y0 : V.cell? ⟨q, 0, none⟩ = some (.int .i64 ya) := by have := cell_heap hy 0; simpa using this
      have y1 : V.cell? ⟨q, 1, none⟩ = some (.int .i64 yb) := by have := cell_heap hy 1; simpa using this
      have hqw : q < V.heap.size := heap_lt hy
      have HY := Lib.hid hy
      have HOV := Lib.hid (irow_below HO.out hB1)
      have HBV := Lib.hid (b_then HB.out hB1)
      have HNE : Hid (∀ k, wr.heap.size ≤ k → some k ≠ (Value.slice A3 l.length c3).ownBlock) := Lib.hid (fun k hk => own_ne HO.out (Or.inr hk))
      have HQW : Hid (wr.heap.size ≤ q ∧ q < V.heap.size) := Lib.hid ⟨by omega, hqw⟩
      have HVS : Hid (Wb.heap.size ≤ V.heap.size) := Lib.hid HBV.out.size
      have HOWN : Hid (∀ k, (Value.slice A3 l.length c3).ownBlock = some k → Wb.heap.size ≤ k) := Lib.hid (irow_own HO.out)
      have mixed : Try.prog.follows .mixedOrders = true := by kernel_rfl
      clear hV hq hy hB1 c0 c1 c2 c3_ c4 c5 HQ2 HAL hbw3
      go_region_law (first
        | (refine wp_app_int (.tmp 27) (.tmp 30) rfl rfl rfl (l := l) (u := ya) (base := Wb.heap.size) (irow_below HOV.out (by go_grown)) (by first | exact rd_i (heap_new _ _) | exact rd_i (heap_two _ _ _) | exact rd_i (heap_old _ _ _ (heap_new _ _))) HL1.out (by have := HVS.out; first | omega | (simp; omega)) ?_; intro A5 c5 w5 hR5 hg5; have hq5 := (hg5.block q (by have := HQW.out; simp; omega) (HNE.out q HQW.out.1)).trans (by first | exact heap_old _ _ _ HY.out | exact heap_old _ _ _ (heap_old _ _ _ HY.out)); have y0 : w5.cell? ⟨q, 0, none⟩ = some (.int .i64 ya) := (by have := cell_heap hq5 0; simpa using this); have y1 : w5.cell? ⟨q, 1, none⟩ = some (.int .i64 yb) := (by have := cell_heap hq5 1; simpa using this); have hqw5 : q < w5.heap.size := heap_lt hq5; have hB5 : Below Wb.heap.size Wb w5 := Below.grown (b_then HBV.out (by go_grown)) hg5 (by have := HVS.out; first | omega | (simp; omega)) HOWN.out; have hs5 := hg5.size; have hV5 : V.heap.size ≤ w5.heap.size := (by have := hs5; first | omega | (simp at this; omega)))
        | (refine wp_app_int (.tmp 31) (.tmp 34) rfl rfl rfl (l := l ++ [ya]) (u := yb) (base := Wb.heap.size) (by first | exact hR5 | exact World.ownsRow.alloc hR5 _) (by first | exact rd_i (heap_new _ _) | exact rd_i ((hg5.block _ (by first | (simp; done) | (simp; omega)) (HNE.out _ (by have := HQW.out; first | omega | (simp; omega)))).trans (by first | exact heap_two _ _ _ | exact heap_old _ _ _ (heap_new _ _)))) (by have := HL1.out; have := HK.out; rw [List.length_append]; simp; omega) (by have := HVS.out; first | omega | (simp; omega)) ?_; intro A6 c6 w6 hR6 hg6; have hB6 : Below Wb.heap.size Wb w6 := Below.grown (by first | exact hB5 | exact hB5.alloc hB5.size _) hg6 (by have := HVS.out; first | omega | (simp; omega)) (irow_own (by first | exact hR5 | exact World.ownsRow.alloc hR5 _)); have hs6 := hg6.size; have hV6 : V.heap.size ≤ w6.heap.size := (by have := hs6; first | omega | (simp at this; omega))))
      all_goals
        go_wp2_with fail
        go_roundw
        case rel => exact ⟨k + 1, l ++ [ya] ++ [yb], A6, c6, by go_num, by simp, by omega, by rw [List.length_append, List.length_append]; have := HK.out; simp; omega, Lib.hid hB6, Lib.hid (by have := hR6; simp at this ⊢; exact this), Lib.hid (by have := HSZ.out; have := HQW.out; omega), Lib.hid (by rw [HF.out, HD.out]; simp)⟩
        case measure => simp [intOf]; omega
    · have f0 : decide (k < R.length) = false := decide_eq_false hlt
      have hE : allE R f t = l := by have := HF.out; rw [List.drop_of_length_le (by omega)] at this; simpa using this
      have HE := Lib.hid hE
      obtain ⟨V, hV⟩ : ∃ W, W = wr := ⟨_, rfl⟩
      subst hV
      obtain ⟨ml, hml⟩ : ∃ ml, ml = l.length := ⟨_, rfl⟩
      have hm202 : ml ≤ 202 := by omega
      have HOI : Hid (IRow V g0 (.slice (some ⟨g0, 0, none⟩) 0 0) []) := Lib.hid (irow_below HI1.out HB.out)
      rw [← hml] at HO ⊢
      have HML := Lib.hid hml
      clear hB hE hml hok
      go_wp2_with fail
      have HII : Hid (Below V.heap.size V V) := Lib.hid (Below.refl _ _)
      go_loopw [7, 39] (fun x7 x wr => ∃ (k : Nat) (O : List Int) (Ao : Option Addr) (co : Nat), x = .int .i64 k ∧ x7 = .slice Ao O.length co ∧ k ≤ ml ∧ O.length ≤ k ∧ Hid (Below V.heap.size V wr) ∧ Hid (IRow wr g0 (.slice Ao O.length co) O) ∧ Hid (endsL R f t = (l.drop k).foldl (fun o n => insL n o) O)) (fun _ x _ => ml - (intOf x).toNat)
      case atStart => exact ⟨0, [], _, 0, rfl, rfl, by omega, by simp, HII, HOI, Lib.hid (by unfold endsL; rw [HE.out]; rfl)⟩
      case round =>
        clear HII
        obtain ⟨k, O, Ao, co, rfl, rfl, hkle, hOk, HBV, HOO, HFO⟩ := hrel
        by_cases hk : k < ml
        · have f1 : decide (k < ml) = true := decide_eq_true hk
          have f4 : (k : Int) < (ml : Int) := by omega
          have hkl : k < l.length := by rw [← HML.out]; exact hk
          have hd : (l.drop k).foldl (fun o n => insL n o) O = (l.drop (k + 1)).foldl (fun o n => insL n o) (insL l[k] O) := by
            rw [List.drop_eq_getElem_cons hkl]; rfl
          obtain ⟨bl, cl, hvl, _, hblw, ecl⟩ := IRow.cell (irow_below HO.out HBV.out) k hkl
          obtain ⟨rfl, rfl⟩ : A3 = some ⟨bl, 0, none⟩ ∧ c3 = cl := by injection hvl with i1 _ i3; exact ⟨i1, i3⟩
          generalize l[k] = n at ecl hd
          have HD := Lib.hid hd
          obtain ⟨Wr, hWr⟩ : ∃ W, W = wr := ⟨_, rfl⟩
          subst hWr
          obtain ⟨mo, hmo⟩ : ∃ mo, mo = O.length := ⟨_, rfl⟩
          rw [← hmo] at hOk HOO ⊢
          have HMO := Lib.hid hmo
          clear hd hvl hkl hmo
          go_wp2_with fail
          have HIN := Lib.hid (irow_lit0 Wr)
          have HIB : Hid (Below Wr.heap.size Wr (Wr.alloc (.cells #[] 3))) := Lib.hid ((Below.refl _ _).alloc (Nat.le_refl _) _)
          clear ecl
          go_loopw [13, 14, 46] (fun x13 x14 x wr => ∃ (j : Nat) (N : List Int) (An : Option Addr) (cN : Nat) (dn : Bool), x = .int .i64 j ∧ x13 = .slice An N.length cN ∧ x14 = .bool dn ∧ j ≤ mo ∧ (dn = false → N.length = j) ∧ N.length ≤ j + 1 ∧ Hid (Below Wr.heap.size Wr wr) ∧ Hid (IRow wr Wr.heap.size (.slice An N.length cN) N) ∧ Hid (insL n O = if dn = true then N ++ O.drop j else N ++ insL n (O.drop j))) (fun _ _ x _ => mo - (intOf x).toNat)
          case atStart => exact ⟨0, [], _, 0, false, rfl, rfl, rfl, by omega, fun _ => rfl, by simp, HIB, HIN, Lib.hid (by simp)⟩
          case round =>
            clear HIB HIN
            obtain ⟨j, N, An, cN, dn, rfl, rfl, rfl, hjle, hdn, hNl, HBI, HN2, HFI⟩ := hrel
            by_cases hj : j < mo
            · have f1 : decide (j < mo) = true := decide_eq_true hj
              have f4 : (j : Int) < (mo : Int) := by omega
              have hjl : j < O.length := by rw [← HMO.out]; exact hj
              have hdr : O.drop j = O[j] :: O.drop (j + 1) := List.drop_eq_getElem_cons hjl
              obtain ⟨bo, cO, hvo, _, hbow, eco⟩ := IRow.cell (irow_below HOO.out HBI.out) j hjl
              obtain ⟨rfl, rfl⟩ : Ao = some ⟨bo, 0, none⟩ ∧ co = cO := by injection hvo with i1 _ i3; exact ⟨i1, i3⟩
              generalize O[j] = x at eco hdr
              have hf := HFI.out
              rw [hdr] at hf
              have HFX := Lib.hid hf
              have HDN := Lib.hid hdn
              have HNL := Lib.hid hNl
              clear hvo hjl hdr hf HFI hdn hNl
              cases dn
              · rcases Bool.eq_false_or_eq_true (decide (n ≤ x)) with t1 | t1
                · rcases Bool.eq_false_or_eq_true (decide (n < x)) with t2 | t2
                  · obtain ⟨A4, k4, w4, ha4, hr4, hb4⟩ := app_int HN2.out HBI.out n (by have := HNL.out; omega)
                    obtain ⟨A5, k5, w5, ha5, hr5, hb5⟩ := app_int hr4 hb4 x (by rw [List.length_append]; have := HNL.out; simp; omega)
                    rw [show (N ++ [n]).length = N.length + 1 by simp] at ha5
                    have HA4 := Lib.hid ha4
                    have HA5 := Lib.hid ha5
                    have HR5 := Lib.hid hr5
                    have HB5 := Lib.hid hb5
                    have HT1 := Lib.hid (of_decide_eq_true t1)
                    have HT2 := Lib.hid (of_decide_eq_true t2)
                    clear ha4 hr4 hb4 ha5 hr5 hb5
                    go_wp2_with (first | (at_builtin; first | refine wpList_app rfl (.tmp 60) (.tmp 62) 69 rfl rfl rfl HA4.out ?_ | refine wpList_app rfl (.tmp 64) (.tmp 66) 69 rfl rfl rfl HA5.out ?_))
                    go_roundw
                    case rel => exact ⟨j + 1, N ++ [n] ++ [x], A5, k5, true, by go_num, by simp, rfl, by omega, by (intro e; cases e), by (have := HDN.out rfl; simp; omega), HB5, Lib.hid (by have := HR5.out; simp at this ⊢; exact this), Lib.hid (by rw [HFX.out, insL, if_pos HT1.out, if_pos HT2.out]; simp)⟩
                    case measure => simp [intOf]; omega
                  · obtain ⟨A5, k5, w5, ha5, hr5, hb5⟩ := app_int HN2.out HBI.out x (by have := HNL.out; omega)
                    have HA5 := Lib.hid ha5
                    have HR5 := Lib.hid hr5
                    have HB5 := Lib.hid hb5
                    have HT1 := Lib.hid (of_decide_eq_true t1)
                    have HT2 := Lib.hid (show ¬ n < x from of_decide_eq_false t2)
                    clear ha5 hr5 hb5
                    go_wp2_with (at_builtin; refine wpList_app rfl (.tmp 64) (.tmp 66) 69 rfl rfl rfl HA5.out ?_)
                    go_roundw
                    case rel => exact ⟨j + 1, N ++ [x], A5, k5, true, by go_num, by simp, rfl, by omega, by (intro e; cases e), by (have := HDN.out rfl; simp; omega), HB5, Lib.hid (by have := HR5.out; simp at this ⊢; exact this), Lib.hid (by rw [HFX.out, insL, if_pos HT1.out, if_neg (show ¬ n < x from by have := HT2.out; omega)]; simp)⟩
                    case measure => simp [intOf]; omega
                · obtain ⟨A5, k5, w5, ha5, hr5, hb5⟩ := app_int HN2.out HBI.out x (by have := HNL.out; omega)
                  have HA5 := Lib.hid ha5
                  have HR5 := Lib.hid hr5
                  have HB5 := Lib.hid hb5
                  have HT1 := Lib.hid (show ¬ n ≤ x from of_decide_eq_false t1)
                  clear ha5 hr5 hb5
                  go_wp2_with (at_builtin; refine wpList_app rfl (.tmp 64) (.tmp 66) 69 rfl rfl rfl HA5.out ?_)
                  go_roundw
                  case rel => exact ⟨j + 1, N ++ [x], A5, k5, false, by go_num, by simp, rfl, by omega, by (intro _; have := HDN.out rfl; simp; omega), by (have := HDN.out rfl; simp; omega), HB5, Lib.hid (by have := HR5.out; simp at this ⊢; exact this), Lib.hid (by rw [HFX.out, insL, if_neg (show ¬ n ≤ x from by have := HT1.out; omega)]; simp)⟩
                  case measure => simp [intOf]; omega
              · obtain ⟨A5, k5, w5, ha5, hr5, hb5⟩ := app_int HN2.out HBI.out x (by have := HNL.out; omega)
                have HA5 := Lib.hid ha5
                have HR5 := Lib.hid hr5
                have HB5 := Lib.hid hb5
                clear ha5 hr5 hb5
                go_wp2_with (at_builtin; refine wpList_app rfl (.tmp 64) (.tmp 66) 69 rfl rfl rfl HA5.out ?_)
                go_roundw
                case rel => exact ⟨j + 1, N ++ [x], A5, k5, true, by go_num, by simp, rfl, by omega, by (intro e; cases e), by (have := HNL.out; simp; omega), HB5, Lib.hid (by have := HR5.out; simp at this ⊢; exact this), Lib.hid (by rw [HFX.out]; simp)⟩
                case measure => simp [intOf]; omega
            · have f1 : decide (j < mo) = false := decide_eq_false hj
              have hdr : O.drop j = [] := List.drop_eq_nil_of_le (by rw [← HMO.out]; omega)
              have hf := HFI.out
              rw [hdr] at hf
              have HFX := Lib.hid hf
              have HNL := Lib.hid hNl
              have HGS : Hid (g0 ≤ Wr.heap.size) := Lib.hid (by have := HX2.out; have := HBB.out.size; have := HB.out.size; have := HBV.out.size; omega)
              have HBV2 := Lib.hid (b_then HBV.out HBI.out)
              have HDN := Lib.hid hdn
              clear hdr hf hNl HFI hdn
              cases dn
              · obtain ⟨A5, k5, w5, ha5, hr5, hb5⟩ := app_int HN2.out HBI.out n (by have := HNL.out; omega)
                have HA5 := Lib.hid ha5
                have HR5 := Lib.hid hr5
                have HB5 := Lib.hid (b_then HBV.out hb5)
                clear ha5 hr5 hb5
                go_wp2_with (at_builtin; refine wpList_app rfl (.tmp 71) (.tmp 73) 69 rfl rfl rfl HA5.out ?_)
                go_roundw
                case rel => exact ⟨k + 1, N ++ [n], A5, k5, by go_num, by simp, by omega, by (have := HDN.out rfl; simp; omega), HB5, Lib.hid (by have := irow_mono HR5.out HGS.out; simp at this ⊢; exact this), Lib.hid (by rw [HFO.out, HD.out, HFX.out]; simp [insL])⟩
                case measure => simp [intOf]; omega
              · go_wp2_with fail
                go_roundw
                case rel => exact ⟨k + 1, N, An, cN, by go_num, rfl, by omega, by (have := HNL.out; omega), HBV2, Lib.hid (irow_mono HN2.out HGS.out), Lib.hid (by rw [HFO.out, HD.out, HFX.out]; simp)⟩
                case measure => simp [intOf]; omega
        · have f1 : decide (k < ml) = false := decide_eq_false hk
          have HX : Hid (endsL R f t = O) := Lib.hid (by rw [HFO.out, List.drop_of_length_le (by rw [← HML.out]; omega)]; rfl)
          go_wp2_with fail
          go_returns
          exact ⟨Ao, co, ret_v (by rw [HX.out]; rfl), by rw [HX.out, ← HX2.out]; exact HOO.out, b_then (b_then HBB.out HB.out) HBV.out⟩
end Go.Proofs.Ytoodjhomekeekaa
