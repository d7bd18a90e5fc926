/- The document's quota: Add, for every list. No condition but bounds. -/
import Derived.Test.YtgnkgfejnnkkaaaQuoT
namespace Go.Proofs.Ytgnkgfejnnkkaaa
open Go.ChangeShapes Go.WideShapes Go.ChangeAt Go.RowKit
set_option linter.unusedVariables false
set_option linter.unusedSimpArgs false
def addD (i n : Int) (d : BX) : BX := if d.num == i then { d with used := d.used + n } else d
def addB (R : List BX) (i n : Int) : List BX := R.map (addD i n)
/-- One more behind a block that holds a copy. -/
theorem bxapp2 {w wr : World} {A2 : Option Addr} {c2 : Nat} {L : List BX} (HR : bxL wr w.heap.size (.slice A2 L.length c2) L) (HB : Below w.heap.size w wr) (y d : BX) (hl : L.length ≤ 1000) :
    ∃ A c w', (Builtin.append_ #[33, 33] 33 #[.slice A2 L.length c2, .slice (some ⟨wr.heap.size + 1, 0, none⟩) 1 1]).run Try.prog ((wr.alloc (.cells #[.int .i64 y.num, .int .i64 y.parent, .int .i64 y.quota, .int .i64 y.used] 44)).alloc (.cells #[.int .i64 d.num, .int .i64 d.parent, .int .i64 d.quota, .int .i64 d.used] 44)) = .ok (.slice A (L.length + 1) c) w' ∧ bxL w' w.heap.size (.slice A (L.length + 1) c) (L ++ [d]) ∧ Below w.heap.size w w' := by
  have hsz := HB.size
  obtain ⟨A, c, w', h1, h2, h3, _⟩ := bxapp w.heap.size w (Nat.le_refl _) (W := wr.alloc (.cells #[.int .i64 y.num, .int .i64 y.parent, .int .i64 y.quota, .int .i64 y.used] 44)) (HR.below ((Below.refl _ _).alloc (Nat.le_refl _) _)) (HB.alloc hsz _) d (by omega)
  rw [World.size_alloc] at h1
  exact ⟨A, c, w', h1, h2, h3⟩
set_option maxHeartbeats 1000000 in
theorem rAdd_any {w : World} {base : Nat} {v : Value} {R : List BX} (h : bxL w base v R) (hl : R.length ≤ 900) (i n : Int) (hs : ∀ d ∈ R, d.num = i → IntKind.i64.wrap (d.used + n) = d.used + n) :
    Calls Try.prog 26 #[v, .int .i64 i, .int .i64 n] w fun e w' => ∃ v', e = .returned v' ∧ bxL w' w.heap.size v' (addB R i n) ∧ Below w.heap.size w w' := by
  obtain ⟨A, cap, rfl⟩ := h.form
  have H := Lib.hid h
  have HS := Lib.hid hs
  clear h hs
  have h0 := bxlit0 w w.heap.size (Nat.le_refl _)
  have H0 := Lib.hid h0
  clear h0
  go_enter Try.func26, Try.ntmps26
  go_wp2_with fail
  go_loopw [7, 13] (fun o x wr => ∃ (k : Nat) (L : List BX) (A2 : Option Addr) (c2 : Nat), o = .slice A2 L.length c2 ∧ x = .int .i64 k ∧ k ≤ R.length ∧ L.length ≤ k ∧ Hid (Below w.heap.size w wr) ∧ Hid (bxL wr w.heap.size (.slice A2 L.length c2) L) ∧ Hid (L ++ (R.drop k).map (addD i n) = addB R i n)) (fun _ x _ => R.length - (intOf x).toNat)
  case atStart => exact ⟨0, [], _, _, rfl, rfl, by omega, by simp, Lib.hid (by go_grown), H0, Lib.hid rfl⟩
  case round =>
    obtain ⟨k, L, A2, c2, rfl, rfl, hle, hlk, HB, HR, HF⟩ := hrel
    have hsz := HB.out.size
    by_cases hlt : k < R.length
    · have f0 : decide (k < R.length) = true := decide_eq_true hlt
      have f3 : (k : Int) < (R.length : Int) := by omega
      obtain ⟨b, cap', hv, hb, hbw, e0, e1, e2, e3⟩ := H.out.cell (List.getElem?_eq_getElem hlt)
      have hc1 := fun b o (h : b < w.heap.size) => HB.out.cell (p := ⟨b, o, none⟩) h
      have c0 := (hc1 b _ hbw).trans e0
      have c1 := (hc1 b _ hbw).trans e1
      have c2 := (hc1 b _ hbw).trans e2
      have c3 := (hc1 b _ hbw).trans e3
      obtain ⟨rfl, _, rfl⟩ : A = some ⟨b, 0, none⟩ ∧ R.length = R.length ∧ cap = cap' := by simpa using hv
      have hd : (R.drop k).map (addD i n) = addD i n R[k] :: (R.drop (k + 1)).map (addD i n) := by
        rw [List.drop_eq_getElem_cons hlt]; rfl
      have hw := HS.out R[k] (List.getElem_mem hlt)
      generalize R[k] = y at c0 c1 c2 c3 hd hw
      rcases Bool.eq_false_or_eq_true (y.num == i) with t | t
      · obtain ⟨A3, c3', w3, ha, hr, hb3⟩ := bxapp2 HR.out HB.out { y with used := y.used + n } { y with used := y.used + n } (by omega)
        have e5 : addD i n y = { y with used := y.used + n } := by unfold addD; rw [if_pos t]
        rw [e5] at hd
        have s1 := hw (by simpa using t)
        obtain ⟨p, q, u, x⟩ := y
        obtain ⟨m, hm⟩ : ∃ m, m = R.length := ⟨_, rfl⟩
        rw [← hm] at hlt hle hl f0 f3 ⊢
        simp only at c0 c1 c2 c3 hd t s1 ha hr
        have HA := Lib.hid ha
        have HR3 := Lib.hid hr
        have HB3 := Lib.hid hb3
        have HD := Lib.hid hd
        clear hc1 e0 e1 e2 e3 hv hd hb ha hr hb3 hm hw e5
        go_wp2_with (at_builtin; refine wpList_app rfl (.tmp 26) (.tmp 28) 33 rfl rfl rfl HA.out ?_)
        go_roundw
        case rel => exact ⟨k + 1, L ++ [⟨p, q, u, x + n⟩], A3, c3', by simp, by go_num, by omega, by simp; omega, HB3, Lib.hid (by rw [List.length_append]; exact HR3.out), Lib.hid (by rw [← HF.out, HD.out]; simp)⟩
        case measure => simp [intOf]; omega
      · obtain ⟨A3, c3', w3, ha, hr, hb3⟩ := bxapp2 HR.out HB.out y y (by omega)
        have e5 : addD i n y = y := by unfold addD; rw [if_neg (by simp [t])]
        rw [e5] at hd
        obtain ⟨p, q, u, x⟩ := y
        obtain ⟨m, hm⟩ : ∃ m, m = R.length := ⟨_, rfl⟩
        rw [← hm] at hlt hle hl f0 f3 ⊢
        simp only at c0 c1 c2 c3 hd t ha hr
        have HA := Lib.hid ha
        have HR3 := Lib.hid hr
        have HB3 := Lib.hid hb3
        have HD := Lib.hid hd
        clear hc1 e0 e1 e2 e3 hv hd hb ha hr hb3 hm hw e5
        go_wp2_with (at_builtin; refine wpList_app rfl (.tmp 26) (.tmp 28) 33 rfl rfl rfl HA.out ?_)
        go_roundw
        case rel => exact ⟨k + 1, L ++ [⟨p, q, u, x⟩], A3, c3', by simp, by go_num, by omega, by simp; omega, HB3, Lib.hid (by rw [List.length_append]; exact HR3.out), Lib.hid (by rw [← HF.out, HD.out]; simp)⟩
        case measure => simp [intOf]; omega
    · have f0 : decide (k < R.length) = false := decide_eq_false hlt
      have HE : Hid (L = addB R i n) := Lib.hid (by rw [← HF.out, List.drop_eq_nil_of_le (by omega)]; simp)
      obtain ⟨m, hm⟩ : ∃ m, m = R.length := ⟨_, rfl⟩
      rw [← hm] at hlt hle hl f0 ⊢
      clear hm
      go_wp2
      go_returns
      exact ⟨_, rfl, HE.out ▸ HR.out, HB.out⟩
end Go.Proofs.Ytgnkgfejnnkkaaa
