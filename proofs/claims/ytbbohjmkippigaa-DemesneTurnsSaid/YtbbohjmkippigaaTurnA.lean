/- Words written back; the queue's list come round. No condition but bounds. -/
import Derived.Test.YtbbohjmkippigaaCallVb
import Derived.Test.YtbbohjmkippigaaSchTb
namespace Go.Proofs.Ytbbohjmkippigaa
open Go.ChangeShapes Go.WideShapes Go.ChangeAt Go.RowKit
set_option linter.unusedVariables false
set_option linter.unusedSimpArgs false
theorem write_back (x0 x1 x2 x3 x4 x5 : Int) (l0 : 0 ≤ x0) (l1 : 0 ≤ x1) (l2 : 0 ≤ x2) (l3 : 0 ≤ x3) (l4 : 0 ≤ x4) (l5 : 0 ≤ x5) (u1 : x1 < 18446744073709551616) (u2 : x2 < 18446744073709551616) (u3 : x3 < 18446744073709551616) (u4 : x4 < 18446744073709551616) (u5 : x5 < 18446744073709551616) (hg : goodF x0 x1 x2 x3 x4 x5) (w : World) :
    Calls Try.prog 8 #[(valF x0 x1 x2 x3 x4 x5).val] w fun e w' => e = .returned (.tuple #[.agg #[.int .u64 x0, .int .u64 x1, .int .u64 x2, .int .u64 x3, .int .u64 x4, .int .u64 x5], .int .i64 0]) ∧ Below w.heap.size w w' := by
  have hw := words_back hg l1 l2 l3 l4 l5 u1 u2 u3 u4 u5
  have h := write_any (valF x0 x1 x2 x3 x4 x5) (by rw [hw]; exact fun W => call_read x0 x1 x2 x3 x4 x5 l0 l1 l2 l3 l4 l5 u1 u2 u3 u4 u5 W) w
  rw [hw] at h
  refine h.mono ?_
  rintro e w' ⟨⟨_, he⟩ | ⟨hn, _⟩, hb⟩
  · exact ⟨he, hb⟩
  · exact absurd (readF_some hg) hn
theorem infoU : ∃ i, Try.prog.info? 27 = some i := Option.isSome_iff_exists.1 (by kernel_rfl)
theorem eqWords (k : Nat) (w : World) (a b c d e f a' b' c' d' e' f' : Int) : (Op.equalIn (k + 2) 34 (.agg #[.int .u64 a, .int .u64 b, .int .u64 c, .int .u64 d, .int .u64 e, .int .u64 f]) (.agg #[.int .u64 a', .int .u64 b', .int .u64 c', .int .u64 d', .int .u64 e', .int .u64 f'])).run Try.prog w
    = .ok (a == a' && (b == b' && (c == c' && (d == d' && (e == e' && f == f'))))) w := by
  obtain ⟨i, hi⟩ := infoU
  have hc : Try.prog.cellsOf 27 = 1 := by kernel_rfl
  have hu : Try.prog.underlying 34 = some (.array 6 27) := by kernel_rfl
  rw [run_equalIn_array (i := i) w (k + 1) _ _ hu hi]
  rw [show List.range 6 = [0, 1, 2, 3, 4, 5] from rfl, hc]
  simp only [Op.eqItems]
  go_simp
  by_cases h1 : a = a' <;> by_cases h2 : b = b' <;> by_cases h3 : c = c' <;> by_cases h4 : d = d' <;> by_cases h5 : e = e' <;> by_cases h6 : f = f' <;> simp [h1, h2, h3, h4, h5, h6]
theorem neq_words (a b c d e f : Int) (w : World) : (binOp .neq 34 (.agg #[.int .u64 a, .int .u64 b, .int .u64 c, .int .u64 d, .int .u64 e, .int .u64 f]) (.agg #[.int .u64 a, .int .u64 b, .int .u64 c, .int .u64 d, .int .u64 e, .int .u64 f])).run Try.prog w = .ok (.bool false) w := by
  have h := eqWords 9998 w a b c d e f a b c d e f
  simp only [Nat.reduceAdd] at h
  go_simp
def ql (n : Nat) : List Int := (List.range n).map (fun j : Nat => (j : Int))
def qr (n t : Nat) : List Int := (List.range n).map (fun j : Nat => (((j + t) % n : Nat) : Int))
theorem ql_len (n : Nat) : (ql n).length = n := by simp [ql]
theorem qr_len (n t : Nat) : (qr n t).length = n := by simp [qr]
theorem qr_zero (n : Nat) : qr n 0 = ql n := by
  unfold qr ql
  refine List.map_congr_left (fun j hj => ?_)
  rw [Nat.add_zero, Nat.mod_eq_of_lt (List.mem_range.1 hj)]
theorem qr_at {n t j : Nat} (h : j < n) : (qr n t)[j]? = some ((((j + t) % n : Nat) : Int)) := by
  unfold qr; rw [List.getElem?_map, List.getElem?_range h]; rfl
theorem qr_cons {n t : Nat} (h : 0 < n) : ∃ r, qr n t = (((t % n : Nat) : Int)) :: r := by
  have h1 := qr_at (t := t) h
  rw [Nat.zero_add] at h1
  cases hl : qr n t with
  | nil => rw [hl] at h1; simp at h1
  | cons x r => rw [hl] at h1; simp only [List.getElem?_cons_zero, Option.some.injEq] at h1; exact ⟨r, by rw [h1]⟩
theorem rot_qr {n t : Nat} (h : 0 < n) : rotL (qr n t) = qr n (t + 1) := by
  obtain ⟨r, hr⟩ := qr_cons (t := t) h
  have hl := qr_len n t
  have ha := fun j (hj : j < n) => qr_at (t := t) hj
  rw [hr] at hl ha ⊢
  simp only [List.length_cons] at hl
  show r ++ [_] = _
  apply List.ext_getElem?
  intro j
  by_cases h1 : j < r.length
  · rw [List.getElem?_append_left h1, qr_at (by omega)]
    have := ha (j + 1) (by omega)
    rw [List.getElem?_cons_succ] at this
    rw [this, show j + 1 + t = j + (t + 1) by omega]
  · rw [List.getElem?_append_right (by omega)]
    by_cases h2 : j = r.length
    · rw [qr_at (by omega), h2, Nat.sub_self, show r.length + (t + 1) = t + n by omega, Nat.add_mod_right]
      rfl
    · rw [List.getElem?_eq_none (by simp; omega), List.getElem?_eq_none (by rw [qr_len]; omega)]
theorem ql_add {k : Nat} (h : k ≤ 8) : addQ (ql k) (k : Int) = ql (k + 1) := by
  unfold addQ
  rw [if_neg (by omega), if_neg]
  · unfold ql; rw [List.range_succ, List.map_append]; rfl
  · unfold ql
    intro hm
    obtain ⟨j, hj, e⟩ := List.mem_map.1 hm
    have := List.mem_range.1 hj
    omega
theorem row6u {w : World} {A : Option Addr} {len : Nat} (r : Rows_ w [.i .u64, .i .u64, .i .u64, .i .u64, .i .u64, .i .u64] A len) {k : Nat} (h : k < len) :
    ∃ (b off : Nat), A = some ⟨b, off, none⟩ ∧ b < w.heap.size ∧ ∃ (x0 x1 x2 x3 x4 x5 : Int), (0 ≤ x0 ∧ 0 ≤ x1 ∧ 0 ≤ x2 ∧ 0 ≤ x3 ∧ 0 ≤ x4 ∧ 0 ≤ x5) ∧ (x0 < 18446744073709551616 ∧ x1 < 18446744073709551616 ∧ x2 < 18446744073709551616 ∧ x3 < 18446744073709551616 ∧ x4 < 18446744073709551616 ∧ x5 < 18446744073709551616) ∧ w.cell? ⟨b, off + k * 6, none⟩ = some (.int .u64 x0) ∧ w.cell? ⟨b, off + k * 6 + 1, none⟩ = some (.int .u64 x1) ∧ w.cell? ⟨b, off + k * 6 + 2, none⟩ = some (.int .u64 x2) ∧ w.cell? ⟨b, off + k * 6 + 3, none⟩ = some (.int .u64 x3) ∧ w.cell? ⟨b, off + k * 6 + 4, none⟩ = some (.int .u64 x4) ∧ w.cell? ⟨b, off + k * 6 + 5, none⟩ = some (.int .u64 x5) := by
  obtain ⟨_, h2⟩ := r
  obtain ⟨b, off, R, hA, hb, hR⟩ := h2 (by omega)
  obtain ⟨ok, hc⟩ := hR k h
  obtain ⟨_, r0, e, ⟨x0, rfl, u0⟩, ok⟩ := ok
  obtain ⟨_, r1, rfl, ⟨x1, rfl, u1⟩, ok⟩ := ok
  obtain ⟨_, r2, rfl, ⟨x2, rfl, u2⟩, ok⟩ := ok
  obtain ⟨_, r3, rfl, ⟨x3, rfl, u3⟩, ok⟩ := ok
  obtain ⟨_, r4, rfl, ⟨x4, rfl, u4⟩, ok⟩ := ok
  obtain ⟨_, r5, rfl, ⟨x5, rfl, u5⟩, ok⟩ := ok
  rw [e] at hc
  have u0 := u64_bd u0
  have u1 := u64_bd u1
  have u2 := u64_bd u2
  have u3 := u64_bd u3
  have u4 := u64_bd u4
  have u5 := u64_bd u5
  exact ⟨b, off, hA, hb, x0, x1, x2, x3, x4, x5, ⟨u0.1, u1.1, u2.1, u3.1, u4.1, u5.1⟩, ⟨u0.2, u1.2, u2.2, u3.2, u4.2, u5.2⟩, hc 0 (by simp), hc 1 (by simp), hc 2 (by simp), hc 3 (by simp), hc 4 (by simp), hc 5 (by simp)⟩
theorem sz_call : (Try.prog.info? 29).map (·.size) = some 13 := by kernel_rfl
theorem sz_words : (Try.prog.info? 34).map (·.size) = some 6 := by kernel_rfl
end Go.Proofs.Ytbbohjmkippigaa
