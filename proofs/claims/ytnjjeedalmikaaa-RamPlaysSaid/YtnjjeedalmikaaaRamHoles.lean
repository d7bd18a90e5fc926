/- RamHoles: a number that reaches into a hole is neither loaded nor stored. No condition. -/
import Derived.Test.YtnjjeedalmikaaaRamFrames
namespace Go.Proofs.Ytnjjeedalmikaaa
open Go.ChangeShapes Go.WideShapes Go.ChangeAt Go.RowKit
set_option linter.unusedVariables false
set_option linter.unusedSimpArgs false
theorem RT.below' {B base m : Nat} {W0 W W' : World} (h0 : Below B W0 W) (hB : B ≤ W0.heap.size) (hb : B ≤ base) (h : RT base m W W') : Below B W0 W' := Below.touch h0 h.t hB fun k hk => Nat.le_trans hb hk.1
theorem HL.one (W : World) (p q : Int) : HL (W.alloc (.cells #[.int .i64 p, .int .i64 q] 33)) 0 (.slice (some ⟨W.heap.size, 0, none⟩) 1 1) [(p, q)] := World.ownsRow_lit (base := 0) (e := 33) (size := 2) W #[.int .i64 p, .int .i64 q] 1 (Nat.zero_le _) (by simp [maxLen]) (by simp)
def gB (n p q : Int) (addr i : Nat) : Bool := decide (addr + i < 18446744073709551616) && (decide (((addr + i) / 4096 : Nat) < n) && !(decide (p ≤ ((addr + i) / 4096 : Nat)) && decide ((((addr + i) / 4096 : Nat) : Int) < q)))
def gAll (n p q : Int) (addr k : Nat) : Bool := (List.range k).all (gB n p q addr)
theorem gAll_succ (n p q : Int) (addr k : Nat) : gAll n p q addr (k + 1) = (gAll n p q addr k && gB n p q addr k) := by
  unfold gAll; rw [List.range_succ, List.all_append]; simp
theorem page_parts (an : Nat) (h : an < 18446744073709551616) : ∃ f : Nat, f = an / 4096 ∧ IntKind.u64.wrap ((an : Int) / 4096) = (f : Int) ∧ (an : Int) / 4096 = (f : Int) ∧ an % 4096 < 4096 ∧ (an : Int) % 4096 = ((an % 4096 : Nat) : Int) ∧ (an : Int).tmod 4096 = ((an % 4096 : Nat) : Int) ∧ (an : Int).tdiv 4096 = (f : Int) ∧ wrap64 (f : Int) = f ∧ IntKind.u64.wrap (f : Int) = f ∧ IntKind.i64.wrap (f : Int) = f := by
  obtain ⟨h1, h2, h3, h4, h5, h6, h7, h8⟩ := an_parts (an := an) (f := an / 4096) (r := an % 4096) (by omega) (by omega) h
  exact ⟨_, rfl, h1, h2, by omega, h3, h4, h5, h6, h7, h8⟩
theorem hasF_one (n p q f : Int) (h0 : 0 ≤ f) : hasF n [(p, q)] f = (decide (f < n) && !(decide (p ≤ f) && decide (f < q))) := by
  simp [hasF, inH, h0]
theorem gAll_err (n p q : Int) (addr s : Nat) (hn : n ≤ 1048576) (hs : s = 1 ∨ s = 2 ∨ s = 4 ∨ s = 8) : gAll n p q addr s = (errF n [(p, q)] addr s == 0) := by
  by_cases he : errF n [(p, q)] addr s = 0
  · obtain ⟨_, h2, h3, h4, h5⟩ := errF_good he
    rw [he]
    refine List.all_eq_true.2 fun i hi => ?_
    have hi := List.mem_range.1 hi
    rw [hasF_one _ _ _ _ (by omega)] at h4 h5
    have c : (((addr + i) / 4096 : Nat) : Int) = (addr : Int) / 4096 ∨ (((addr + i) / 4096 : Nat) : Int) = ((addr : Int) + s - 1) / 4096 := by omega
    unfold gB
    rw [decide_eq_true (show addr + i < 18446744073709551616 by omega), Bool.true_and]
    rcases c with c | c <;> rw [c] <;> assumption
  · rw [beq_false_of_ne he]
    cases hg : gAll n p q addr s with
    | false => rfl
    | true =>
      exfalso
      have hall := List.all_eq_true.1 hg
      have g0 := hall 0 (List.mem_range.2 (by omega))
      have g1 := hall (s - 1) (List.mem_range.2 (by omega))
      unfold gB at g0 g1
      rw [Bool.and_eq_true, decide_eq_true_eq] at g0 g1
      apply he
      have e1 := g1.2
      rw [Bool.and_eq_true, decide_eq_true_eq] at e1
      have e2 : hasF n [(p, q)] ((addr : Int) / 4096) = true := by
        rw [hasF_one _ _ _ _ (by omega), show (addr : Int) / 4096 = (((addr + 0) / 4096 : Nat) : Int) by omega]
        exact g0.2
      have e3 : hasF n [(p, q)] (((addr : Int) + s - 1) / 4096) = true := by
        rw [hasF_one _ _ _ _ (by omega), show ((addr : Int) + s - 1) / 4096 = (((addr + (s - 1)) / 4096 : Nat) : Int) by omega]
        exact g1.2
      have e4 : ((addr : Int) + s - 1) / 4096 < n := by have := e1.1; omega
      unfold errF
      rw [if_pos (by omega), if_pos ⟨by omega, e4, e2, e3⟩]
set_option maxRecDepth 10000 in
set_option maxHeartbeats 1000000 in
theorem holes_e1 (n p q a size x : Int) (d1 : decide (n < 1) = true) (w : World) :
    Calls Try.prog 4 #[.int .i64 n, .agg #[.int .i64 p, .int .i64 q], .int .u64 a, .int .i64 size, .int .u64 x] w fun e w' => e = .returned (.bool true) ∧ Below w.heap.size w w' := by
  go_enter Try.func4, Try.ntmps4
  go_wp2_with fail
  refine (awake_any _).mono ?_
  rintro e w1 ⟨rfl, hb1⟩
  have hB : Below w.heap.size w w1 := b_then (by go_grown) hb1
  clear hb1
  go_wp2
  go_returns
  exact ⟨rfl, hB⟩
set_option maxRecDepth 10000 in
set_option maxHeartbeats 1000000 in
theorem holes_e2 (n p q a size x : Int) (d1 : decide (n < 1) = false) (d2 : decide (8 < n) = true) (w : World) :
    Calls Try.prog 4 #[.int .i64 n, .agg #[.int .i64 p, .int .i64 q], .int .u64 a, .int .i64 size, .int .u64 x] w fun e w' => e = .returned (.bool true) ∧ Below w.heap.size w w' := by
  go_enter Try.func4, Try.ntmps4
  go_wp2_with fail
  refine (awake_any _).mono ?_
  rintro e w1 ⟨rfl, hb1⟩
  have hB : Below w.heap.size w w1 := b_then (by go_grown) hb1
  clear hb1
  go_wp2
  go_returns
  exact ⟨rfl, hB⟩
set_option maxRecDepth 10000 in
set_option maxHeartbeats 1000000 in
theorem holes_e3 (n p q a size x : Int) (d1 : decide (n < 1) = false) (d2 : decide (8 < n) = false) (d3 : decide (p < 0) = true) (w : World) :
    Calls Try.prog 4 #[.int .i64 n, .agg #[.int .i64 p, .int .i64 q], .int .u64 a, .int .i64 size, .int .u64 x] w fun e w' => e = .returned (.bool true) ∧ Below w.heap.size w w' := by
  go_enter Try.func4, Try.ntmps4
  go_wp2_with fail
  refine (awake_any _).mono ?_
  rintro e w1 ⟨rfl, hb1⟩
  have hB : Below w.heap.size w w1 := b_then (by go_grown) hb1
  clear hb1
  go_wp2
  go_returns
  exact ⟨rfl, hB⟩
set_option maxRecDepth 10000 in
set_option maxHeartbeats 1000000 in
theorem holes_e4 (n p q a size x : Int) (d1 : decide (n < 1) = false) (d2 : decide (8 < n) = false) (d3 : decide (p < 0) = false) (d4 : decide (q < p) = true) (w : World) :
    Calls Try.prog 4 #[.int .i64 n, .agg #[.int .i64 p, .int .i64 q], .int .u64 a, .int .i64 size, .int .u64 x] w fun e w' => e = .returned (.bool true) ∧ Below w.heap.size w w' := by
  go_enter Try.func4, Try.ntmps4
  go_wp2_with fail
  refine (awake_any _).mono ?_
  rintro e w1 ⟨rfl, hb1⟩
  have hB : Below w.heap.size w w1 := b_then (by go_grown) hb1
  clear hb1
  go_wp2
  go_returns
  exact ⟨rfl, hB⟩
set_option maxRecDepth 10000 in
set_option maxHeartbeats 1000000 in
theorem holes_e5 (n p q a size x : Int) (d1 : decide (n < 1) = false) (d2 : decide (8 < n) = false) (d3 : decide (p < 0) = false) (d4 : decide (q < p) = false) (d5 : decide (n < q) = true) (w : World) :
    Calls Try.prog 4 #[.int .i64 n, .agg #[.int .i64 p, .int .i64 q], .int .u64 a, .int .i64 size, .int .u64 x] w fun e w' => e = .returned (.bool true) ∧ Below w.heap.size w w' := by
  go_enter Try.func4, Try.ntmps4
  go_wp2_with fail
  refine (awake_any _).mono ?_
  rintro e w1 ⟨rfl, hb1⟩
  have hB : Below w.heap.size w w1 := b_then (by go_grown) hb1
  clear hb1
  go_wp2
  go_returns
  exact ⟨rfl, hB⟩
set_option maxRecDepth 10000 in
set_option maxHeartbeats 1000000 in
theorem holes_e6 (n p q a size x : Int) (d1 : decide (n < 1) = false) (d2 : decide (8 < n) = false) (d3 : decide (p < 0) = false) (d4 : decide (q < p) = false) (d5 : decide (n < q) = false) (d6 : (size != 1) = true) (d7 : (size != 2) = true) (d8 : (size != 4) = true) (d9 : (size != 8) = true) (w : World) :
    Calls Try.prog 4 #[.int .i64 n, .agg #[.int .i64 p, .int .i64 q], .int .u64 a, .int .i64 size, .int .u64 x] w fun e w' => e = .returned (.bool true) ∧ Below w.heap.size w w' := by
  go_enter Try.func4, Try.ntmps4
  go_wp2_with fail
  refine (awake_any _).mono ?_
  rintro e w1 ⟨rfl, hb1⟩
  have hB : Below w.heap.size w w1 := b_then (by go_grown) hb1
  clear hb1
  go_wp2
  go_returns
  exact ⟨rfl, hB⟩
set_option maxRecDepth 10000 in
set_option maxHeartbeats 4000000 in
theorem holes_ok1 (n p q : Int) (addr x : Nat) (h1 : ¬ n < 1) (h2 : ¬ 8 < n) (h3 : ¬ p < 0) (h4 : ¬ q < p) (h5 : ¬ n < q) (ha : addr < 18446744073709551616) (hx : x < 18446744073709551616) (w : World) :
    Calls Try.prog 4 #[.int .i64 n, .agg #[.int .i64 p, .int .i64 q], .int .u64 addr, .int .i64 1, .int .u64 x] w fun e w' => e = .returned (.bool true) ∧ Below w.heap.size w w' := by
  have d1 : decide (n < 1) = false := decide_eq_false h1
  have d2 : decide (8 < n) = false := decide_eq_false h2
  have d3 : decide (p < 0) = false := decide_eq_false h3
  have d4 : decide (q < p) = false := decide_eq_false h4
  have d5 : decide (n < q) = false := decide_eq_false h5
  have hc : checkF n [(p, q)] = 0 := by
    unfold checkF
    rw [if_neg h1, if_neg (by simp; omega)]
    simp [badH]; omega
  have HN := Lib.hid (fun W : World => new_good (HL.one W p q) (by simp) n hc)
  have HG := Lib.hid (gAll_err n p q addr 1 (by omega) (by omega))
  have HA := Lib.hid ha
  have HXB := Lib.hid hx
  have H1 : Hid (1 ≤ n ∧ n ≤ 8 ∧ 0 ≤ p ∧ p ≤ q ∧ q ≤ n) := Lib.hid (by omega)
  have kn : IntKind.u64.wrap n = n := by rw [IntKind.wrap_u64]; omega
  clear h1 h2 h3 h4 h5 hc ha hx
  go_enter Try.func4, Try.ntmps4
  have HN1_ := HN.out (w.alloc (.cells #[.int .i64 p, .int .i64 q] 33))
  rw [World.size_alloc] at HN1_
  have HN1 := Lib.hid HN1_
  clear HN1_ HN
  go_wp2_with fail
  refine HN1.out.mono ?_
  rintro e w1 ⟨b, m, rfl, hR, hb1⟩
  have k6 := heap_below hb1 (heap_old _ (.cells #[.int .i64 p, .int .i64 q] 33) _ (heap_new w (.cells #[.int .i64 p, .int .i64 q] 33)))
  have c0 : w1.cell? ⟨w.heap.size, 0, none⟩ = some (.int .i64 p) := cell_heap k6 0
  have c1 : w1.cell? ⟨w.heap.size, 1, none⟩ = some (.int .i64 q) := cell_heap k6 1
  have hB1 : Hid (Below w.heap.size w w1) := Lib.hid (b_then (by go_grown) hb1)
  have HBS : Hid (w.heap.size ≤ ((w.alloc (.cells #[.int .i64 p, .int .i64 q] 33)).alloc (.cells #[.int .i64 p, .int .i64 q] 33)).heap.size) := Lib.hid (by rw [World.size_alloc, World.size_alloc]; omega)
  obtain ⟨base, hbase⟩ : ∃ B, B = ((w.alloc (.cells #[.int .i64 p, .int .i64 q] 33)).alloc (.cells #[.int .i64 p, .int .i64 q] 33)).heap.size := ⟨_, rfl⟩
  rw [← hbase] at hR HBS
  have HR := Lib.hid hR
  clear hb1 hR hbase k6
  go_wp2_with fail
  go_loopw [13, 14] (fun g i wr => ∃ k : Nat, i = .int .i64 k ∧ k ≤ 1 ∧ wr = w1 ∧ g = .bool (gAll n p q addr k)) (fun _ i _ => 1 - (intOf i).toNat)
  case atStart => exact ⟨0, rfl, by omega, rfl, rfl⟩
  case round =>
    obtain ⟨k, rfl, hle, rfl, rfl⟩ := hrel
    by_cases hlt : k < 1
    · have f0 : decide ((k : Int) < 1) = true := decide_eq_true (by omega)
      have f1 : decide (k < 1) = true := decide_eq_true hlt
      have hsucc := Lib.hid (gAll_succ n p q addr k)
      have q0 : IntKind.u64.wrap (k : Int) = k := by rw [IntKind.wrap_u64]; omega
      cases hg : gAll n p q addr k with
      | false =>
        have HG0 := Lib.hid hg
        obtain ⟨az, haz⟩ : ∃ az, IntKind.u64.wrap ((addr : Int) + k) = az := ⟨_, rfl⟩
        obtain ⟨fz, hfz⟩ : ∃ fz, IntKind.u64.wrap (az / 4096) = fz := ⟨_, rfl⟩
        obtain ⟨fz2, hfz2⟩ : ∃ fz, IntKind.u64.wrap (az.tdiv 4096) = fz := ⟨_, rfl⟩
        clear hg
        go_wp2
        go_roundw
        case rel => exact ⟨k + 1, by go_num, by omega, trivial, by rw [hsucc.out, HG0.out]; rfl⟩
        case measure => simp [intOf]; omega
      | true =>
        have HG0 := Lib.hid hg
        clear hg
        by_cases ho : addr + k < 18446744073709551616
        · obtain ⟨an, han⟩ : ∃ an, an = addr + k := ⟨_, rfl⟩
          have q1 : IntKind.u64.wrap ((addr : Int) + k) = (an : Int) := by rw [IntKind.wrap_u64]; omega
          have q2 : decide ((addr : Int) ≤ (an : Int)) = true := decide_eq_true (by omega)
          have q2b : decide (addr ≤ an) = true := decide_eq_true (by omega)
          obtain ⟨f, hf, q3, q4, q8, q9, q10, q11, q5, q6, q7⟩ := page_parts an (by omega)
          have HB0 : Hid (gB n p q addr k = (decide ((f : Int) < n) && !(decide (p ≤ (f : Int)) && decide ((f : Int) < q)))) := Lib.hid (by
            unfold gB; rw [decide_eq_true ho, Bool.true_and, ← han, ← hf])
          clear ho han hf q9 q10
          by_cases t1 : (f : Int) < n
          · have u1 : decide ((f : Int) < n) = true := decide_eq_true t1
            by_cases t2 : p ≤ (f : Int)
            · have u2 : decide (p ≤ (f : Int)) = true := decide_eq_true t2
              by_cases t3 : (f : Int) < q
              · have u3 : decide ((f : Int) < q) = true := decide_eq_true t3
                have HB1 : Hid (gB n p q addr k = false) := Lib.hid (by rw [HB0.out, u1, u2, u3]; rfl)
                clear t1 t2 t3
                go_wp2
                go_roundw
                case rel => exact ⟨k + 1, by go_num, by omega, trivial, by rw [hsucc.out, HG0.out, HB1.out]; rfl⟩
                case measure => simp [intOf]; omega
              · have u3 : decide ((f : Int) < q) = false := decide_eq_false t3
                have HB1 : Hid (gB n p q addr k = true) := Lib.hid (by rw [HB0.out, u1, u2, u3]; rfl)
                clear t1 t2 t3
                go_wp2
                go_roundw
                case rel => exact ⟨k + 1, by go_num, by omega, trivial, by rw [hsucc.out, HG0.out, HB1.out]; rfl⟩
                case measure => simp [intOf]; omega
            · have u2 : decide (p ≤ (f : Int)) = false := decide_eq_false t2
              have HB1 : Hid (gB n p q addr k = true) := Lib.hid (by rw [HB0.out, u1, u2]; rfl)
              clear t1 t2
              go_wp2
              go_roundw
              case rel => exact ⟨k + 1, by go_num, by omega, trivial, by rw [hsucc.out, HG0.out, HB1.out]; rfl⟩
              case measure => simp [intOf]; omega
          · have u1 : decide ((f : Int) < n) = false := decide_eq_false t1
            have HB1 : Hid (gB n p q addr k = false) := Lib.hid (by rw [HB0.out, u1]; rfl)
            clear t1
            go_wp2
            go_roundw
            case rel => exact ⟨k + 1, by go_num, by omega, trivial, by rw [hsucc.out, HG0.out, HB1.out]; rfl⟩
            case measure => simp [intOf]; omega
        · have ho2 : addr + k - 18446744073709551616 < addr := by have := HA.out; omega
          obtain ⟨an, han⟩ : ∃ an, an = addr + k - 18446744073709551616 := ⟨_, rfl⟩
          have q1 : IntKind.u64.wrap ((addr : Int) + k) = (an : Int) := by rw [IntKind.wrap_u64]; have := HA.out; omega
          have q2 : decide ((addr : Int) ≤ (an : Int)) = false := decide_eq_false (by omega)
          have q2b : decide (addr ≤ an) = false := decide_eq_false (by omega)
          obtain ⟨fz, hfz⟩ : ∃ fz, IntKind.u64.wrap ((an : Int) / 4096) = fz := ⟨_, rfl⟩
          have HB1 : Hid (gB n p q addr k = false) := Lib.hid (by unfold gB; rw [decide_eq_false ho]; rfl)
          clear ho ho2 han
          go_wp2
          go_roundw
          case rel => exact ⟨k + 1, by go_num, by omega, trivial, by rw [hsucc.out, HG0.out, HB1.out]; rfl⟩
          case measure => simp [intOf]; omega
    · have f0 : decide ((k : Int) < 1) = false := decide_eq_false (by omega)
      have f1 : decide (k < 1) = false := decide_eq_false hlt
      obtain rfl : k = 1 := by omega
      have HS_ := store_any HR.out addr x 1 HA.out HXB.out
      have HG1 : Hid (gAll n p q addr 1 = (errF n [(p, q)] addr 1 == 0)) := HG
      obtain ⟨er, her⟩ : ∃ er, er = errF n [(p, q)] addr 1 := ⟨_, rfl⟩
      have hcs := errF_cases n [(p, q)] addr 1
      have hn1 : er ≠ 1 := by
        rw [her]; unfold errF; rw [if_pos (by omega)]; split <;> decide
      rw [← her] at HS_ HG1 hcs
      have HS := Lib.hid HS_
      have HERR := Lib.hid her
      have HER : Hid (er = 0 ∨ er = 2) := Lib.hid (by omega)
      clear HS_ f0 f1 c0 c1 her hcs hn1
      go_wp2_with fail
      refine HS.out.mono ?_
      rintro e w2 ⟨rfl, hT, hR2⟩
      have hB2 := Lib.hid (RT.below' hB1.out (Nat.le_refl _) HBS.out hT)
      have HL_ := load_any hR2 addr 1 HA.out
      rw [← HERR.out] at HL_
      obtain ⟨lv, hlv⟩ : ∃ lv, lv = loadR n [(p, q)] (if er = 0 then storeF (fun _ => 0) addr (1 : Int).toNat x else fun _ => 0) addr 1 := ⟨_, rfl⟩
      rw [← hlv] at HL_
      have HL := Lib.hid HL_
      clear HL_ hT hR2 HS hlv
      go_wp2_with fail
      refine HL.out.mono ?_
      rintro e w3 ⟨rfl, hb3⟩
      have hB3 := Lib.hid (b_then hB2.out hb3)
      clear hb3 HL hB2
      go_wp2_with fail
      refine (awake_any _).mono ?_
      rintro e w4 ⟨rfl, hb4⟩
      have hB4 := Lib.hid (b_then hB3.out hb4)
      clear hb4 hB3
      have HG2 := HG1.out
      rcases HER.out with rfl | rfl
      · rw [HG2]
        clear HG2 HG1 HG HER
        go_wp2
        go_returns
        exact ⟨rfl, hB4.out⟩
      · rw [HG2]
        clear HG2 HG1 HG HER
        go_wp2
        go_returns
        exact ⟨rfl, hB4.out⟩
set_option maxRecDepth 10000 in
set_option maxHeartbeats 4000000 in
theorem holes_ok2 (n p q : Int) (addr x : Nat) (h1 : ¬ n < 1) (h2 : ¬ 8 < n) (h3 : ¬ p < 0) (h4 : ¬ q < p) (h5 : ¬ n < q) (ha : addr < 18446744073709551616) (hx : x < 18446744073709551616) (w : World) :
    Calls Try.prog 4 #[.int .i64 n, .agg #[.int .i64 p, .int .i64 q], .int .u64 addr, .int .i64 2, .int .u64 x] w fun e w' => e = .returned (.bool true) ∧ Below w.heap.size w w' := by
  have d1 : decide (n < 1) = false := decide_eq_false h1
  have d2 : decide (8 < n) = false := decide_eq_false h2
  have d3 : decide (p < 0) = false := decide_eq_false h3
  have d4 : decide (q < p) = false := decide_eq_false h4
  have d5 : decide (n < q) = false := decide_eq_false h5
  have hc : checkF n [(p, q)] = 0 := by
    unfold checkF
    rw [if_neg h1, if_neg (by simp; omega)]
    simp [badH]; omega
  have HN := Lib.hid (fun W : World => new_good (HL.one W p q) (by simp) n hc)
  have HG := Lib.hid (gAll_err n p q addr 2 (by omega) (by omega))
  have HA := Lib.hid ha
  have HXB := Lib.hid hx
  have H2 : Hid (1 ≤ n ∧ n ≤ 8 ∧ 0 ≤ p ∧ p ≤ q ∧ q ≤ n) := Lib.hid (by omega)
  have kn : IntKind.u64.wrap n = n := by rw [IntKind.wrap_u64]; omega
  clear h1 h2 h3 h4 h5 hc ha hx
  go_enter Try.func4, Try.ntmps4
  have HN1_ := HN.out (w.alloc (.cells #[.int .i64 p, .int .i64 q] 33))
  rw [World.size_alloc] at HN1_
  have HN1 := Lib.hid HN1_
  clear HN1_ HN
  go_wp2_with fail
  refine HN1.out.mono ?_
  rintro e w1 ⟨b, m, rfl, hR, hb1⟩
  have k6 := heap_below hb1 (heap_old _ (.cells #[.int .i64 p, .int .i64 q] 33) _ (heap_new w (.cells #[.int .i64 p, .int .i64 q] 33)))
  have c0 : w1.cell? ⟨w.heap.size, 0, none⟩ = some (.int .i64 p) := cell_heap k6 0
  have c1 : w1.cell? ⟨w.heap.size, 1, none⟩ = some (.int .i64 q) := cell_heap k6 1
  have hB1 : Hid (Below w.heap.size w w1) := Lib.hid (b_then (by go_grown) hb1)
  have HBS : Hid (w.heap.size ≤ ((w.alloc (.cells #[.int .i64 p, .int .i64 q] 33)).alloc (.cells #[.int .i64 p, .int .i64 q] 33)).heap.size) := Lib.hid (by rw [World.size_alloc, World.size_alloc]; omega)
  obtain ⟨base, hbase⟩ : ∃ B, B = ((w.alloc (.cells #[.int .i64 p, .int .i64 q] 33)).alloc (.cells #[.int .i64 p, .int .i64 q] 33)).heap.size := ⟨_, rfl⟩
  rw [← hbase] at hR HBS
  have HR := Lib.hid hR
  clear hb1 hR hbase k6
  go_wp2_with fail
  go_loopw [13, 14] (fun g i wr => ∃ k : Nat, i = .int .i64 k ∧ k ≤ 2 ∧ wr = w1 ∧ g = .bool (gAll n p q addr k)) (fun _ i _ => 2 - (intOf i).toNat)
  case atStart => exact ⟨0, rfl, by omega, rfl, rfl⟩
  case round =>
    obtain ⟨k, rfl, hle, rfl, rfl⟩ := hrel
    by_cases hlt : k < 2
    · have f0 : decide ((k : Int) < 2) = true := decide_eq_true (by omega)
      have f1 : decide (k < 2) = true := decide_eq_true hlt
      have hsucc := Lib.hid (gAll_succ n p q addr k)
      have q0 : IntKind.u64.wrap (k : Int) = k := by rw [IntKind.wrap_u64]; omega
      cases hg : gAll n p q addr k with
      | false =>
        have HG0 := Lib.hid hg
        obtain ⟨az, haz⟩ : ∃ az, IntKind.u64.wrap ((addr : Int) + k) = az := ⟨_, rfl⟩
        obtain ⟨fz, hfz⟩ : ∃ fz, IntKind.u64.wrap (az / 4096) = fz := ⟨_, rfl⟩
        obtain ⟨fz2, hfz2⟩ : ∃ fz, IntKind.u64.wrap (az.tdiv 4096) = fz := ⟨_, rfl⟩
        clear hg
        go_wp2
        go_roundw
        case rel => exact ⟨k + 1, by go_num, by omega, trivial, by rw [hsucc.out, HG0.out]; rfl⟩
        case measure => simp [intOf]; omega
      | true =>
        have HG0 := Lib.hid hg
        clear hg
        by_cases ho : addr + k < 18446744073709551616
        · obtain ⟨an, han⟩ : ∃ an, an = addr + k := ⟨_, rfl⟩
          have q1 : IntKind.u64.wrap ((addr : Int) + k) = (an : Int) := by rw [IntKind.wrap_u64]; omega
          have q2 : decide ((addr : Int) ≤ (an : Int)) = true := decide_eq_true (by omega)
          have q2b : decide (addr ≤ an) = true := decide_eq_true (by omega)
          obtain ⟨f, hf, q3, q4, q8, q9, q10, q11, q5, q6, q7⟩ := page_parts an (by omega)
          have HB0 : Hid (gB n p q addr k = (decide ((f : Int) < n) && !(decide (p ≤ (f : Int)) && decide ((f : Int) < q)))) := Lib.hid (by
            unfold gB; rw [decide_eq_true ho, Bool.true_and, ← han, ← hf])
          clear ho han hf q9 q10
          by_cases t1 : (f : Int) < n
          · have u1 : decide ((f : Int) < n) = true := decide_eq_true t1
            by_cases t2 : p ≤ (f : Int)
            · have u2 : decide (p ≤ (f : Int)) = true := decide_eq_true t2
              by_cases t3 : (f : Int) < q
              · have u3 : decide ((f : Int) < q) = true := decide_eq_true t3
                have HB1 : Hid (gB n p q addr k = false) := Lib.hid (by rw [HB0.out, u1, u2, u3]; rfl)
                clear t1 t2 t3
                go_wp2
                go_roundw
                case rel => exact ⟨k + 1, by go_num, by omega, trivial, by rw [hsucc.out, HG0.out, HB1.out]; rfl⟩
                case measure => simp [intOf]; omega
              · have u3 : decide ((f : Int) < q) = false := decide_eq_false t3
                have HB1 : Hid (gB n p q addr k = true) := Lib.hid (by rw [HB0.out, u1, u2, u3]; rfl)
                clear t1 t2 t3
                go_wp2
                go_roundw
                case rel => exact ⟨k + 1, by go_num, by omega, trivial, by rw [hsucc.out, HG0.out, HB1.out]; rfl⟩
                case measure => simp [intOf]; omega
            · have u2 : decide (p ≤ (f : Int)) = false := decide_eq_false t2
              have HB1 : Hid (gB n p q addr k = true) := Lib.hid (by rw [HB0.out, u1, u2]; rfl)
              clear t1 t2
              go_wp2
              go_roundw
              case rel => exact ⟨k + 1, by go_num, by omega, trivial, by rw [hsucc.out, HG0.out, HB1.out]; rfl⟩
              case measure => simp [intOf]; omega
          · have u1 : decide ((f : Int) < n) = false := decide_eq_false t1
            have HB1 : Hid (gB n p q addr k = false) := Lib.hid (by rw [HB0.out, u1]; rfl)
            clear t1
            go_wp2
            go_roundw
            case rel => exact ⟨k + 1, by go_num, by omega, trivial, by rw [hsucc.out, HG0.out, HB1.out]; rfl⟩
            case measure => simp [intOf]; omega
        · have ho2 : addr + k - 18446744073709551616 < addr := by have := HA.out; omega
          obtain ⟨an, han⟩ : ∃ an, an = addr + k - 18446744073709551616 := ⟨_, rfl⟩
          have q1 : IntKind.u64.wrap ((addr : Int) + k) = (an : Int) := by rw [IntKind.wrap_u64]; have := HA.out; omega
          have q2 : decide ((addr : Int) ≤ (an : Int)) = false := decide_eq_false (by omega)
          have q2b : decide (addr ≤ an) = false := decide_eq_false (by omega)
          obtain ⟨fz, hfz⟩ : ∃ fz, IntKind.u64.wrap ((an : Int) / 4096) = fz := ⟨_, rfl⟩
          have HB1 : Hid (gB n p q addr k = false) := Lib.hid (by unfold gB; rw [decide_eq_false ho]; rfl)
          clear ho ho2 han
          go_wp2
          go_roundw
          case rel => exact ⟨k + 1, by go_num, by omega, trivial, by rw [hsucc.out, HG0.out, HB1.out]; rfl⟩
          case measure => simp [intOf]; omega
    · have f0 : decide ((k : Int) < 2) = false := decide_eq_false (by omega)
      have f1 : decide (k < 2) = false := decide_eq_false hlt
      obtain rfl : k = 2 := by omega
      have HS_ := store_any HR.out addr x 2 HA.out HXB.out
      have HG1 : Hid (gAll n p q addr 2 = (errF n [(p, q)] addr 2 == 0)) := HG
      obtain ⟨er, her⟩ : ∃ er, er = errF n [(p, q)] addr 2 := ⟨_, rfl⟩
      have hcs := errF_cases n [(p, q)] addr 2
      have hn1 : er ≠ 1 := by
        rw [her]; unfold errF; rw [if_pos (by omega)]; split <;> decide
      rw [← her] at HS_ HG1 hcs
      have HS := Lib.hid HS_
      have HERR := Lib.hid her
      have HER : Hid (er = 0 ∨ er = 2) := Lib.hid (by omega)
      clear HS_ f0 f1 c0 c1 her hcs hn1
      go_wp2_with fail
      refine HS.out.mono ?_
      rintro e w2 ⟨rfl, hT, hR2⟩
      have hB2 := Lib.hid (RT.below' hB1.out (Nat.le_refl _) HBS.out hT)
      have HL_ := load_any hR2 addr 2 HA.out
      rw [← HERR.out] at HL_
      obtain ⟨lv, hlv⟩ : ∃ lv, lv = loadR n [(p, q)] (if er = 0 then storeF (fun _ => 0) addr (2 : Int).toNat x else fun _ => 0) addr 2 := ⟨_, rfl⟩
      rw [← hlv] at HL_
      have HL := Lib.hid HL_
      clear HL_ hT hR2 HS hlv
      go_wp2_with fail
      refine HL.out.mono ?_
      rintro e w3 ⟨rfl, hb3⟩
      have hB3 := Lib.hid (b_then hB2.out hb3)
      clear hb3 HL hB2
      go_wp2_with fail
      refine (awake_any _).mono ?_
      rintro e w4 ⟨rfl, hb4⟩
      have hB4 := Lib.hid (b_then hB3.out hb4)
      clear hb4 hB3
      have HG2 := HG1.out
      rcases HER.out with rfl | rfl
      · rw [HG2]
        clear HG2 HG1 HG HER
        go_wp2
        go_returns
        exact ⟨rfl, hB4.out⟩
      · rw [HG2]
        clear HG2 HG1 HG HER
        go_wp2
        go_returns
        exact ⟨rfl, hB4.out⟩
set_option maxRecDepth 10000 in
set_option maxHeartbeats 4000000 in
theorem holes_ok4 (n p q : Int) (addr x : Nat) (h1 : ¬ n < 1) (h2 : ¬ 8 < n) (h3 : ¬ p < 0) (h4 : ¬ q < p) (h5 : ¬ n < q) (ha : addr < 18446744073709551616) (hx : x < 18446744073709551616) (w : World) :
    Calls Try.prog 4 #[.int .i64 n, .agg #[.int .i64 p, .int .i64 q], .int .u64 addr, .int .i64 4, .int .u64 x] w fun e w' => e = .returned (.bool true) ∧ Below w.heap.size w w' := by
  have d1 : decide (n < 1) = false := decide_eq_false h1
  have d2 : decide (8 < n) = false := decide_eq_false h2
  have d3 : decide (p < 0) = false := decide_eq_false h3
  have d4 : decide (q < p) = false := decide_eq_false h4
  have d5 : decide (n < q) = false := decide_eq_false h5
  have hc : checkF n [(p, q)] = 0 := by
    unfold checkF
    rw [if_neg h1, if_neg (by simp; omega)]
    simp [badH]; omega
  have HN := Lib.hid (fun W : World => new_good (HL.one W p q) (by simp) n hc)
  have HG := Lib.hid (gAll_err n p q addr 4 (by omega) (by omega))
  have HA := Lib.hid ha
  have HXB := Lib.hid hx
  have H4 : Hid (1 ≤ n ∧ n ≤ 8 ∧ 0 ≤ p ∧ p ≤ q ∧ q ≤ n) := Lib.hid (by omega)
  have kn : IntKind.u64.wrap n = n := by rw [IntKind.wrap_u64]; omega
  clear h1 h2 h3 h4 h5 hc ha hx
  go_enter Try.func4, Try.ntmps4
  have HN1_ := HN.out (w.alloc (.cells #[.int .i64 p, .int .i64 q] 33))
  rw [World.size_alloc] at HN1_
  have HN1 := Lib.hid HN1_
  clear HN1_ HN
  go_wp2_with fail
  refine HN1.out.mono ?_
  rintro e w1 ⟨b, m, rfl, hR, hb1⟩
  have k6 := heap_below hb1 (heap_old _ (.cells #[.int .i64 p, .int .i64 q] 33) _ (heap_new w (.cells #[.int .i64 p, .int .i64 q] 33)))
  have c0 : w1.cell? ⟨w.heap.size, 0, none⟩ = some (.int .i64 p) := cell_heap k6 0
  have c1 : w1.cell? ⟨w.heap.size, 1, none⟩ = some (.int .i64 q) := cell_heap k6 1
  have hB1 : Hid (Below w.heap.size w w1) := Lib.hid (b_then (by go_grown) hb1)
  have HBS : Hid (w.heap.size ≤ ((w.alloc (.cells #[.int .i64 p, .int .i64 q] 33)).alloc (.cells #[.int .i64 p, .int .i64 q] 33)).heap.size) := Lib.hid (by rw [World.size_alloc, World.size_alloc]; omega)
  obtain ⟨base, hbase⟩ : ∃ B, B = ((w.alloc (.cells #[.int .i64 p, .int .i64 q] 33)).alloc (.cells #[.int .i64 p, .int .i64 q] 33)).heap.size := ⟨_, rfl⟩
  rw [← hbase] at hR HBS
  have HR := Lib.hid hR
  clear hb1 hR hbase k6
  go_wp2_with fail
  go_loopw [13, 14] (fun g i wr => ∃ k : Nat, i = .int .i64 k ∧ k ≤ 4 ∧ wr = w1 ∧ g = .bool (gAll n p q addr k)) (fun _ i _ => 4 - (intOf i).toNat)
  case atStart => exact ⟨0, rfl, by omega, rfl, rfl⟩
  case round =>
    obtain ⟨k, rfl, hle, rfl, rfl⟩ := hrel
    by_cases hlt : k < 4
    · have f0 : decide ((k : Int) < 4) = true := decide_eq_true (by omega)
      have f1 : decide (k < 4) = true := decide_eq_true hlt
      have hsucc := Lib.hid (gAll_succ n p q addr k)
      have q0 : IntKind.u64.wrap (k : Int) = k := by rw [IntKind.wrap_u64]; omega
      cases hg : gAll n p q addr k with
      | false =>
        have HG0 := Lib.hid hg
        obtain ⟨az, haz⟩ : ∃ az, IntKind.u64.wrap ((addr : Int) + k) = az := ⟨_, rfl⟩
        obtain ⟨fz, hfz⟩ : ∃ fz, IntKind.u64.wrap (az / 4096) = fz := ⟨_, rfl⟩
        obtain ⟨fz2, hfz2⟩ : ∃ fz, IntKind.u64.wrap (az.tdiv 4096) = fz := ⟨_, rfl⟩
        clear hg
        go_wp2
        go_roundw
        case rel => exact ⟨k + 1, by go_num, by omega, trivial, by rw [hsucc.out, HG0.out]; rfl⟩
        case measure => simp [intOf]; omega
      | true =>
        have HG0 := Lib.hid hg
        clear hg
        by_cases ho : addr + k < 18446744073709551616
        · obtain ⟨an, han⟩ : ∃ an, an = addr + k := ⟨_, rfl⟩
          have q1 : IntKind.u64.wrap ((addr : Int) + k) = (an : Int) := by rw [IntKind.wrap_u64]; omega
          have q2 : decide ((addr : Int) ≤ (an : Int)) = true := decide_eq_true (by omega)
          have q2b : decide (addr ≤ an) = true := decide_eq_true (by omega)
          obtain ⟨f, hf, q3, q4, q8, q9, q10, q11, q5, q6, q7⟩ := page_parts an (by omega)
          have HB0 : Hid (gB n p q addr k = (decide ((f : Int) < n) && !(decide (p ≤ (f : Int)) && decide ((f : Int) < q)))) := Lib.hid (by
            unfold gB; rw [decide_eq_true ho, Bool.true_and, ← han, ← hf])
          clear ho han hf q9 q10
          by_cases t1 : (f : Int) < n
          · have u1 : decide ((f : Int) < n) = true := decide_eq_true t1
            by_cases t2 : p ≤ (f : Int)
            · have u2 : decide (p ≤ (f : Int)) = true := decide_eq_true t2
              by_cases t3 : (f : Int) < q
              · have u3 : decide ((f : Int) < q) = true := decide_eq_true t3
                have HB1 : Hid (gB n p q addr k = false) := Lib.hid (by rw [HB0.out, u1, u2, u3]; rfl)
                clear t1 t2 t3
                go_wp2
                go_roundw
                case rel => exact ⟨k + 1, by go_num, by omega, trivial, by rw [hsucc.out, HG0.out, HB1.out]; rfl⟩
                case measure => simp [intOf]; omega
              · have u3 : decide ((f : Int) < q) = false := decide_eq_false t3
                have HB1 : Hid (gB n p q addr k = true) := Lib.hid (by rw [HB0.out, u1, u2, u3]; rfl)
                clear t1 t2 t3
                go_wp2
                go_roundw
                case rel => exact ⟨k + 1, by go_num, by omega, trivial, by rw [hsucc.out, HG0.out, HB1.out]; rfl⟩
                case measure => simp [intOf]; omega
            · have u2 : decide (p ≤ (f : Int)) = false := decide_eq_false t2
              have HB1 : Hid (gB n p q addr k = true) := Lib.hid (by rw [HB0.out, u1, u2]; rfl)
              clear t1 t2
              go_wp2
              go_roundw
              case rel => exact ⟨k + 1, by go_num, by omega, trivial, by rw [hsucc.out, HG0.out, HB1.out]; rfl⟩
              case measure => simp [intOf]; omega
          · have u1 : decide ((f : Int) < n) = false := decide_eq_false t1
            have HB1 : Hid (gB n p q addr k = false) := Lib.hid (by rw [HB0.out, u1]; rfl)
            clear t1
            go_wp2
            go_roundw
            case rel => exact ⟨k + 1, by go_num, by omega, trivial, by rw [hsucc.out, HG0.out, HB1.out]; rfl⟩
            case measure => simp [intOf]; omega
        · have ho2 : addr + k - 18446744073709551616 < addr := by have := HA.out; omega
          obtain ⟨an, han⟩ : ∃ an, an = addr + k - 18446744073709551616 := ⟨_, rfl⟩
          have q1 : IntKind.u64.wrap ((addr : Int) + k) = (an : Int) := by rw [IntKind.wrap_u64]; have := HA.out; omega
          have q2 : decide ((addr : Int) ≤ (an : Int)) = false := decide_eq_false (by omega)
          have q2b : decide (addr ≤ an) = false := decide_eq_false (by omega)
          obtain ⟨fz, hfz⟩ : ∃ fz, IntKind.u64.wrap ((an : Int) / 4096) = fz := ⟨_, rfl⟩
          have HB1 : Hid (gB n p q addr k = false) := Lib.hid (by unfold gB; rw [decide_eq_false ho]; rfl)
          clear ho ho2 han
          go_wp2
          go_roundw
          case rel => exact ⟨k + 1, by go_num, by omega, trivial, by rw [hsucc.out, HG0.out, HB1.out]; rfl⟩
          case measure => simp [intOf]; omega
    · have f0 : decide ((k : Int) < 4) = false := decide_eq_false (by omega)
      have f1 : decide (k < 4) = false := decide_eq_false hlt
      obtain rfl : k = 4 := by omega
      have HS_ := store_any HR.out addr x 4 HA.out HXB.out
      have HG1 : Hid (gAll n p q addr 4 = (errF n [(p, q)] addr 4 == 0)) := HG
      obtain ⟨er, her⟩ : ∃ er, er = errF n [(p, q)] addr 4 := ⟨_, rfl⟩
      have hcs := errF_cases n [(p, q)] addr 4
      have hn1 : er ≠ 1 := by
        rw [her]; unfold errF; rw [if_pos (by omega)]; split <;> decide
      rw [← her] at HS_ HG1 hcs
      have HS := Lib.hid HS_
      have HERR := Lib.hid her
      have HER : Hid (er = 0 ∨ er = 2) := Lib.hid (by omega)
      clear HS_ f0 f1 c0 c1 her hcs hn1
      go_wp2_with fail
      refine HS.out.mono ?_
      rintro e w2 ⟨rfl, hT, hR2⟩
      have hB2 := Lib.hid (RT.below' hB1.out (Nat.le_refl _) HBS.out hT)
      have HL_ := load_any hR2 addr 4 HA.out
      rw [← HERR.out] at HL_
      obtain ⟨lv, hlv⟩ : ∃ lv, lv = loadR n [(p, q)] (if er = 0 then storeF (fun _ => 0) addr (4 : Int).toNat x else fun _ => 0) addr 4 := ⟨_, rfl⟩
      rw [← hlv] at HL_
      have HL := Lib.hid HL_
      clear HL_ hT hR2 HS hlv
      go_wp2_with fail
      refine HL.out.mono ?_
      rintro e w3 ⟨rfl, hb3⟩
      have hB3 := Lib.hid (b_then hB2.out hb3)
      clear hb3 HL hB2
      go_wp2_with fail
      refine (awake_any _).mono ?_
      rintro e w4 ⟨rfl, hb4⟩
      have hB4 := Lib.hid (b_then hB3.out hb4)
      clear hb4 hB3
      have HG2 := HG1.out
      rcases HER.out with rfl | rfl
      · rw [HG2]
        clear HG2 HG1 HG HER
        go_wp2
        go_returns
        exact ⟨rfl, hB4.out⟩
      · rw [HG2]
        clear HG2 HG1 HG HER
        go_wp2
        go_returns
        exact ⟨rfl, hB4.out⟩
set_option maxRecDepth 10000 in
set_option maxHeartbeats 4000000 in
theorem holes_ok8 (n p q : Int) (addr x : Nat) (h1 : ¬ n < 1) (h2 : ¬ 8 < n) (h3 : ¬ p < 0) (h4 : ¬ q < p) (h5 : ¬ n < q) (ha : addr < 18446744073709551616) (hx : x < 18446744073709551616) (w : World) :
    Calls Try.prog 4 #[.int .i64 n, .agg #[.int .i64 p, .int .i64 q], .int .u64 addr, .int .i64 8, .int .u64 x] w fun e w' => e = .returned (.bool true) ∧ Below w.heap.size w w' := by
  have d1 : decide (n < 1) = false := decide_eq_false h1
  have d2 : decide (8 < n) = false := decide_eq_false h2
  have d3 : decide (p < 0) = false := decide_eq_false h3
  have d4 : decide (q < p) = false := decide_eq_false h4
  have d5 : decide (n < q) = false := decide_eq_false h5
  have hc : checkF n [(p, q)] = 0 := by
    unfold checkF
    rw [if_neg h1, if_neg (by simp; omega)]
    simp [badH]; omega
  have HN := Lib.hid (fun W : World => new_good (HL.one W p q) (by simp) n hc)
  have HG := Lib.hid (gAll_err n p q addr 8 (by omega) (by omega))
  have HA := Lib.hid ha
  have HXB := Lib.hid hx
  have H8 : Hid (1 ≤ n ∧ n ≤ 8 ∧ 0 ≤ p ∧ p ≤ q ∧ q ≤ n) := Lib.hid (by omega)
  have kn : IntKind.u64.wrap n = n := by rw [IntKind.wrap_u64]; omega
  clear h1 h2 h3 h4 h5 hc ha hx
  go_enter Try.func4, Try.ntmps4
  have HN1_ := HN.out (w.alloc (.cells #[.int .i64 p, .int .i64 q] 33))
  rw [World.size_alloc] at HN1_
  have HN1 := Lib.hid HN1_
  clear HN1_ HN
  go_wp2_with fail
  refine HN1.out.mono ?_
  rintro e w1 ⟨b, m, rfl, hR, hb1⟩
  have k6 := heap_below hb1 (heap_old _ (.cells #[.int .i64 p, .int .i64 q] 33) _ (heap_new w (.cells #[.int .i64 p, .int .i64 q] 33)))
  have c0 : w1.cell? ⟨w.heap.size, 0, none⟩ = some (.int .i64 p) := cell_heap k6 0
  have c1 : w1.cell? ⟨w.heap.size, 1, none⟩ = some (.int .i64 q) := cell_heap k6 1
  have hB1 : Hid (Below w.heap.size w w1) := Lib.hid (b_then (by go_grown) hb1)
  have HBS : Hid (w.heap.size ≤ ((w.alloc (.cells #[.int .i64 p, .int .i64 q] 33)).alloc (.cells #[.int .i64 p, .int .i64 q] 33)).heap.size) := Lib.hid (by rw [World.size_alloc, World.size_alloc]; omega)
  obtain ⟨base, hbase⟩ : ∃ B, B = ((w.alloc (.cells #[.int .i64 p, .int .i64 q] 33)).alloc (.cells #[.int .i64 p, .int .i64 q] 33)).heap.size := ⟨_, rfl⟩
  rw [← hbase] at hR HBS
  have HR := Lib.hid hR
  clear hb1 hR hbase k6
  go_wp2_with fail
  go_loopw [13, 14] (fun g i wr => ∃ k : Nat, i = .int .i64 k ∧ k ≤ 8 ∧ wr = w1 ∧ g = .bool (gAll n p q addr k)) (fun _ i _ => 8 - (intOf i).toNat)
  case atStart => exact ⟨0, rfl, by omega, rfl, rfl⟩
  case round =>
    obtain ⟨k, rfl, hle, rfl, rfl⟩ := hrel
    by_cases hlt : k < 8
    · have f0 : decide ((k : Int) < 8) = true := decide_eq_true (by omega)
      have f1 : decide (k < 8) = true := decide_eq_true hlt
      have hsucc := Lib.hid (gAll_succ n p q addr k)
      have q0 : IntKind.u64.wrap (k : Int) = k := by rw [IntKind.wrap_u64]; omega
      cases hg : gAll n p q addr k with
      | false =>
        have HG0 := Lib.hid hg
        obtain ⟨az, haz⟩ : ∃ az, IntKind.u64.wrap ((addr : Int) + k) = az := ⟨_, rfl⟩
        obtain ⟨fz, hfz⟩ : ∃ fz, IntKind.u64.wrap (az / 4096) = fz := ⟨_, rfl⟩
        obtain ⟨fz2, hfz2⟩ : ∃ fz, IntKind.u64.wrap (az.tdiv 4096) = fz := ⟨_, rfl⟩
        clear hg
        go_wp2
        go_roundw
        case rel => exact ⟨k + 1, by go_num, by omega, trivial, by rw [hsucc.out, HG0.out]; rfl⟩
        case measure => simp [intOf]; omega
      | true =>
        have HG0 := Lib.hid hg
        clear hg
        by_cases ho : addr + k < 18446744073709551616
        · obtain ⟨an, han⟩ : ∃ an, an = addr + k := ⟨_, rfl⟩
          have q1 : IntKind.u64.wrap ((addr : Int) + k) = (an : Int) := by rw [IntKind.wrap_u64]; omega
          have q2 : decide ((addr : Int) ≤ (an : Int)) = true := decide_eq_true (by omega)
          have q2b : decide (addr ≤ an) = true := decide_eq_true (by omega)
          obtain ⟨f, hf, q3, q4, q8, q9, q10, q11, q5, q6, q7⟩ := page_parts an (by omega)
          have HB0 : Hid (gB n p q addr k = (decide ((f : Int) < n) && !(decide (p ≤ (f : Int)) && decide ((f : Int) < q)))) := Lib.hid (by
            unfold gB; rw [decide_eq_true ho, Bool.true_and, ← han, ← hf])
          clear ho han hf q9 q10
          by_cases t1 : (f : Int) < n
          · have u1 : decide ((f : Int) < n) = true := decide_eq_true t1
            by_cases t2 : p ≤ (f : Int)
            · have u2 : decide (p ≤ (f : Int)) = true := decide_eq_true t2
              by_cases t3 : (f : Int) < q
              · have u3 : decide ((f : Int) < q) = true := decide_eq_true t3
                have HB1 : Hid (gB n p q addr k = false) := Lib.hid (by rw [HB0.out, u1, u2, u3]; rfl)
                clear t1 t2 t3
                go_wp2
                go_roundw
                case rel => exact ⟨k + 1, by go_num, by omega, trivial, by rw [hsucc.out, HG0.out, HB1.out]; rfl⟩
                case measure => simp [intOf]; omega
              · have u3 : decide ((f : Int) < q) = false := decide_eq_false t3
                have HB1 : Hid (gB n p q addr k = true) := Lib.hid (by rw [HB0.out, u1, u2, u3]; rfl)
                clear t1 t2 t3
                go_wp2
                go_roundw
                case rel => exact ⟨k + 1, by go_num, by omega, trivial, by rw [hsucc.out, HG0.out, HB1.out]; rfl⟩
                case measure => simp [intOf]; omega
            · have u2 : decide (p ≤ (f : Int)) = false := decide_eq_false t2
              have HB1 : Hid (gB n p q addr k = true) := Lib.hid (by rw [HB0.out, u1, u2]; rfl)
              clear t1 t2
              go_wp2
              go_roundw
              case rel => exact ⟨k + 1, by go_num, by omega, trivial, by rw [hsucc.out, HG0.out, HB1.out]; rfl⟩
              case measure => simp [intOf]; omega
          · have u1 : decide ((f : Int) < n) = false := decide_eq_false t1
            have HB1 : Hid (gB n p q addr k = false) := Lib.hid (by rw [HB0.out, u1]; rfl)
            clear t1
            go_wp2
            go_roundw
            case rel => exact ⟨k + 1, by go_num, by omega, trivial, by rw [hsucc.out, HG0.out, HB1.out]; rfl⟩
            case measure => simp [intOf]; omega
        · have ho2 : addr + k - 18446744073709551616 < addr := by have := HA.out; omega
          obtain ⟨an, han⟩ : ∃ an, an = addr + k - 18446744073709551616 := ⟨_, rfl⟩
          have q1 : IntKind.u64.wrap ((addr : Int) + k) = (an : Int) := by rw [IntKind.wrap_u64]; have := HA.out; omega
          have q2 : decide ((addr : Int) ≤ (an : Int)) = false := decide_eq_false (by omega)
          have q2b : decide (addr ≤ an) = false := decide_eq_false (by omega)
          obtain ⟨fz, hfz⟩ : ∃ fz, IntKind.u64.wrap ((an : Int) / 4096) = fz := ⟨_, rfl⟩
          have HB1 : Hid (gB n p q addr k = false) := Lib.hid (by unfold gB; rw [decide_eq_false ho]; rfl)
          clear ho ho2 han
          go_wp2
          go_roundw
          case rel => exact ⟨k + 1, by go_num, by omega, trivial, by rw [hsucc.out, HG0.out, HB1.out]; rfl⟩
          case measure => simp [intOf]; omega
    · have f0 : decide ((k : Int) < 8) = false := decide_eq_false (by omega)
      have f1 : decide (k < 8) = false := decide_eq_false hlt
      obtain rfl : k = 8 := by omega
      have HS_ := store_any HR.out addr x 8 HA.out HXB.out
      have HG1 : Hid (gAll n p q addr 8 = (errF n [(p, q)] addr 8 == 0)) := HG
      obtain ⟨er, her⟩ : ∃ er, er = errF n [(p, q)] addr 8 := ⟨_, rfl⟩
      have hcs := errF_cases n [(p, q)] addr 8
      have hn1 : er ≠ 1 := by
        rw [her]; unfold errF; rw [if_pos (by omega)]; split <;> decide
      rw [← her] at HS_ HG1 hcs
      have HS := Lib.hid HS_
      have HERR := Lib.hid her
      have HER : Hid (er = 0 ∨ er = 2) := Lib.hid (by omega)
      clear HS_ f0 f1 c0 c1 her hcs hn1
      go_wp2_with fail
      refine HS.out.mono ?_
      rintro e w2 ⟨rfl, hT, hR2⟩
      have hB2 := Lib.hid (RT.below' hB1.out (Nat.le_refl _) HBS.out hT)
      have HL_ := load_any hR2 addr 8 HA.out
      rw [← HERR.out] at HL_
      obtain ⟨lv, hlv⟩ : ∃ lv, lv = loadR n [(p, q)] (if er = 0 then storeF (fun _ => 0) addr (8 : Int).toNat x else fun _ => 0) addr 8 := ⟨_, rfl⟩
      rw [← hlv] at HL_
      have HL := Lib.hid HL_
      clear HL_ hT hR2 HS hlv
      go_wp2_with fail
      refine HL.out.mono ?_
      rintro e w3 ⟨rfl, hb3⟩
      have hB3 := Lib.hid (b_then hB2.out hb3)
      clear hb3 HL hB2
      go_wp2_with fail
      refine (awake_any _).mono ?_
      rintro e w4 ⟨rfl, hb4⟩
      have hB4 := Lib.hid (b_then hB3.out hb4)
      clear hb4 hB3
      have HG2 := HG1.out
      rcases HER.out with rfl | rfl
      · rw [HG2]
        clear HG2 HG1 HG HER
        go_wp2
        go_returns
        exact ⟨rfl, hB4.out⟩
      · rw [HG2]
        clear HG2 HG1 HG HER
        go_wp2
        go_returns
        exact ⟨rfl, hB4.out⟩
theorem walk_RamHoles (a0 : Int) (a1_0 : Int) (a1_1 : Int) (a2 : Int) (a3 : Int) (a4 : Int) (w : World) (w0 : (Lit.int .i64 a0).wf = true) (w1_0 : (Lit.int .i64 a1_0).wf = true) (w1_1 : (Lit.int .i64 a1_1).wf = true) (w2 : (Lit.int .u64 a2).wf = true) (w3 : (Lit.int .i64 a3).wf = true) (w4 : (Lit.int .u64 a4).wf = true) :
    Calls Try.prog 4 #[.int .i64 a0, .agg #[.int .i64 a1_0, .int .i64 a1_1], .int .u64 a2, .int .i64 a3, .int .u64 a4] w fun e w' => e = .returned (.bool true) ∧ Below w.heap.size w w' := by
  by_cases h1 : a0 < 1
  · exact holes_e1 a0 a1_0 a1_1 a2 a3 a4 (decide_eq_true h1) w
  by_cases h2 : 8 < a0
  · exact holes_e2 a0 a1_0 a1_1 a2 a3 a4 (decide_eq_false h1) (decide_eq_true h2) w
  by_cases h3 : a1_0 < 0
  · exact holes_e3 a0 a1_0 a1_1 a2 a3 a4 (decide_eq_false h1) (decide_eq_false h2) (decide_eq_true h3) w
  by_cases h4 : a1_1 < a1_0
  · exact holes_e4 a0 a1_0 a1_1 a2 a3 a4 (decide_eq_false h1) (decide_eq_false h2) (decide_eq_false h3) (decide_eq_true h4) w
  by_cases h5 : a0 < a1_1
  · exact holes_e5 a0 a1_0 a1_1 a2 a3 a4 (decide_eq_false h1) (decide_eq_false h2) (decide_eq_false h3) (decide_eq_false h4) (decide_eq_true h5) w
  by_cases h6 : a3 = 1 ∨ a3 = 2 ∨ a3 = 4 ∨ a3 = 8
  · have b2 := u64_bd w2
    have b4 := u64_bd w4
    obtain ⟨addr, rfl⟩ : ∃ n : Nat, a2 = n := ⟨a2.toNat, by have := b2.1; omega⟩
    obtain ⟨x, rfl⟩ : ∃ n : Nat, a4 = n := ⟨a4.toNat, by have := b4.1; omega⟩
    have hb2 : addr < 18446744073709551616 := by have := b2.2; omega
    have hb4 : x < 18446744073709551616 := by have := b4.2; omega
    rcases h6 with rfl | rfl | rfl | rfl
    · exact holes_ok1 a0 a1_0 a1_1 addr x h1 h2 h3 h4 h5 hb2 hb4 w
    · exact holes_ok2 a0 a1_0 a1_1 addr x h1 h2 h3 h4 h5 hb2 hb4 w
    · exact holes_ok4 a0 a1_0 a1_1 addr x h1 h2 h3 h4 h5 hb2 hb4 w
    · exact holes_ok8 a0 a1_0 a1_1 addr x h1 h2 h3 h4 h5 hb2 hb4 w
  · exact holes_e6 a0 a1_0 a1_1 a2 a3 a4 (decide_eq_false h1) (decide_eq_false h2) (decide_eq_false h3) (decide_eq_false h4) (decide_eq_false h5) (by simp; omega) (by simp; omega) (by simp; omega) (by simp; omega) w
end Go.Proofs.Ytnjjeedalmikaaa
