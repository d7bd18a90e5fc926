/- Calls are spelled in one way (layer 15): the words of a call, plain; no program in sight. No condition. -/
import Derived.Test.YtbbohjmkippigaaCallTb
namespace Go.Proofs.Ytbbohjmkippigaa
open Go.ChangeShapes Go.WideShapes Go.ChangeAt Go.RowKit
set_option linter.unusedVariables false
set_option linter.unusedSimpArgs false


def uW (x : Int) : Int := IntKind.u64.wrap x
def orP (p q : Bool) : Int := bits .or .u64 (if p then 1 else 0) (if q then 2 else 0)
structure WV where
  w0 : Int
  w1 : Int
  w2 : Int
  w3 : Int
  w4 : Int
  w5 : Int
/-- The words of a call. -/
def wordsF (c : CV) : WV :=
  if c.op = 1 ∨ c.op = 3 then ⟨uW c.op, uW c.f, uW (wrap64 (c.t - c.f)), orP c.wr c.ex, 0, 0⟩ else
  if c.op = 2 then ⟨uW c.op, uW c.f, uW (wrap64 (c.t - c.f)), 0, 0, 0⟩ else
  if c.op = 4 then ⟨uW c.op, c.addr, uW c.size, 0, 0, 0⟩ else
  if c.op = 5 then ⟨uW c.op, c.addr, uW c.size, c.x, 0, 0⟩ else
  if c.op = 6 then ⟨uW c.op, uW c.f, uW c.id, (if c.wr then 1 else 0), 0, 0⟩ else
  if c.op = 7 then ⟨uW c.op, uW c.id, uW c.f, 0, 0, 0⟩ else
  if c.op = 8 ∨ c.op = 9 ∨ c.op = 12 then ⟨uW c.op, uW c.id, 0, 0, 0, 0⟩ else
  if c.op = 10 then ⟨uW c.op, c.addr, 0, 0, 0, 0⟩ else
  if c.op = 15 then ⟨uW c.op, uW (wrap64 (c.id - 1)), uW c.a, uW c.b, uW c.d, 0⟩ else
  if c.op = 16 then ⟨uW c.op, uW c.id, c.x, 0, 0, 0⟩ else
  ⟨uW c.op, 0, 0, 0, 0, 0⟩
theorem uW_in {x : Int} (h : 0 ≤ x) (h2 : x < 18446744073709551616) : uW x = x := by
  unfold uW IntKind.wrap; simp [IntKind.signed, IntKind.bits]; omega
theorem w64_in {x : Int} (h : -1000000000000000000 ≤ x) (h2 : x ≤ 1000000000000000000) : wrap64 x = x := IntWalk.wrap64_in _ (by omega)
/-- The words of the call that good words are are these words. -/
theorem words_back {o x1 x2 x3 x4 x5 : Int} (h : goodF o x1 x2 x3 x4 x5) (h1 : 0 ≤ x1) (h2 : 0 ≤ x2) (h3 : 0 ≤ x3) (h4 : 0 ≤ x4) (h5 : 0 ≤ x5) (u1 : x1 < 18446744073709551616) (u2 : x2 < 18446744073709551616) (u3 : x3 < 18446744073709551616) (u4 : x4 < 18446744073709551616) (u5 : x5 < 18446744073709551616) :
    wordsF (valF o x1 x2 x3 x4 x5) = ⟨o, x1, x2, x3, x4, x5⟩ := by
  have ho := good_op h
  rcases ho with rfl | rfl | rfl | rfl | rfl | rfl | rfl | rfl | rfl | rfl | rfl | rfl | rfl | rfl | rfl | rfl
  · rw [goodF_1] at h
    rw [valF_1]
    have hx : x3 = 0 ∨ x3 = 1 ∨ x3 = 2 ∨ x3 = 3 := by omega
    obtain ⟨_, _, _, _, rfl, rfl⟩ := h
    have e1 : wrap64 (x1 + x2 - x1) = x2 := by rw [w64_in (by omega) (by omega)]; omega
    rcases hx with rfl | rfl | rfl | rfl <;> simp [wordsF, e1, uW_in h1 u1, uW_in h2 u2] <;> (first | rfl | decide | exact ⟨by decide, by decide⟩)
  · rw [goodF_2] at h
    rw [valF_2]
    obtain ⟨_, _, _, rfl, rfl, rfl⟩ := h
    have e1 : wrap64 (x1 + x2 - x1) = x2 := by rw [w64_in (by omega) (by omega)]; omega
    simp [wordsF, e1, uW_in h1 u1, uW_in h2 u2]; (first | rfl | decide | (trace_state; fail))
  · rw [goodF_3] at h
    rw [valF_3]
    have hx : x3 = 0 ∨ x3 = 1 ∨ x3 = 2 ∨ x3 = 3 := by omega
    obtain ⟨_, _, _, _, rfl, rfl⟩ := h
    have e1 : wrap64 (x1 + x2 - x1) = x2 := by rw [w64_in (by omega) (by omega)]; omega
    rcases hx with rfl | rfl | rfl | rfl <;> simp [wordsF, e1, uW_in h1 u1, uW_in h2 u2] <;> (first | rfl | decide | exact ⟨by decide, by decide⟩)
  · rw [goodF_4] at h
    rw [valF_4]
    obtain ⟨_, _, _, rfl, rfl, rfl⟩ := h
    simp [wordsF, uW_in h1 u1, uW_in h2 u2]; (first | rfl | decide | (trace_state; fail))
  · rw [goodF_5] at h
    rw [valF_5]
    obtain ⟨_, _, _, rfl, rfl⟩ := h
    simp [wordsF, uW_in h1 u1, uW_in h2 u2]; (first | rfl | decide | (trace_state; fail))
  · rw [goodF_6] at h
    rw [valF_6]
    have hx : x3 = 0 ∨ x3 = 1 := by omega
    obtain ⟨_, _, _, rfl, rfl⟩ := h
    rcases hx with rfl | rfl <;> simp [wordsF, uW_in h1 u1, uW_in h2 u2] <;> (first | rfl | decide | (trace_state; fail))
  · rw [goodF_7] at h
    rw [valF_7]
    obtain ⟨_, _, rfl, rfl, rfl⟩ := h
    simp [wordsF, uW_in h1 u1, uW_in h2 u2]; (first | rfl | decide | (trace_state; fail))
  · rw [goodF_8] at h
    rw [valF_8]
    obtain ⟨_, rfl, rfl, rfl, rfl⟩ := h
    simp [wordsF, uW_in h1 u1]; (first | rfl | decide | (trace_state; fail))
  · rw [goodF_9] at h
    rw [valF_9]
    obtain ⟨_, rfl, rfl, rfl, rfl⟩ := h
    simp [wordsF, uW_in h1 u1]; (first | rfl | decide | (trace_state; fail))
  · rw [goodF_10] at h
    rw [valF_10]
    obtain ⟨_, rfl, rfl, rfl, rfl⟩ := h
    simp [wordsF]; (first | rfl | decide | (trace_state; fail))
  · rw [goodF_11] at h
    rw [valF_11]
    obtain ⟨rfl, rfl, rfl, rfl, rfl⟩ := h
    simp [wordsF]; (first | rfl | decide | (trace_state; fail))
  · rw [goodF_12] at h
    rw [valF_12]
    obtain ⟨_, rfl, rfl, rfl, rfl⟩ := h
    simp [wordsF, uW_in h1 u1]; (first | rfl | decide | (trace_state; fail))
  · rw [goodF_13] at h
    rw [valF_13]
    obtain ⟨rfl, rfl, rfl, rfl, rfl⟩ := h
    simp [wordsF]; (first | rfl | decide | (trace_state; fail))
  · rw [goodF_14] at h
    rw [valF_14]
    obtain ⟨rfl, rfl, rfl, rfl, rfl⟩ := h
    simp [wordsF]; (first | rfl | decide | (trace_state; fail))
  · rw [goodF_15] at h
    rw [valF_15]
    obtain ⟨_, _, _, _, rfl⟩ := h
    have e1 : wrap64 (1 + x1 - 1) = x1 := by rw [w64_in (by omega) (by omega)]; omega
    simp [wordsF, e1, uW_in h1 u1, uW_in h2 u2, uW_in h3 u3, uW_in h4 u4]; (first | rfl | decide | (trace_state; fail))
  · rw [goodF_16] at h
    rw [valF_16]
    obtain ⟨_, rfl, rfl, rfl⟩ := h
    simp [wordsF, uW_in h1 u1]; (first | rfl | decide | (trace_state; fail))
theorem CV.ext_of {c d : CV} (h0 : d.op = c.op) (h1 : d.f = c.f) (h2 : d.t = c.t) (h3 : d.wr = c.wr) (h4 : d.us = c.us) (h5 : d.ex = c.ex) (h6 : d.addr = c.addr) (h7 : d.size = c.size) (h8 : d.x = c.x) (h9 : d.id = c.id) (h10 : d.a = c.a) (h11 : d.b = c.b) (h12 : d.d = c.d) : d = c := by
  cases d; cases c; simp_all
theorem neq_call (c d : CV) (h : d ≠ c) (w : World) : (binOp .neq 29 (.agg #[.int .i64 d.op, .int .i64 d.f, .int .i64 d.t, .bool d.wr, .bool d.us, .bool d.ex, .int .u64 d.addr, .int .i64 d.size, .int .u64 d.x, .int .i64 d.id, .int .i64 d.a, .int .i64 d.b, .int .i64 d.d]) (.agg #[.int .i64 c.op, .int .i64 c.f, .int .i64 c.t, .bool c.wr, .bool c.us, .bool c.ex, .int .u64 c.addr, .int .i64 c.size, .int .u64 c.x, .int .i64 c.id, .int .i64 c.a, .int .i64 c.b, .int .i64 c.d])).run Try.prog w = .ok (.bool true) w := by
  have H := Lib.hid h
  clear h
  go_simp
  intro h0 h1 h2 h3 h4 h5 h6 h7 h8 h9 h10 h11 h12
  exact H.out (CV.ext_of h0 h1 h2 h3 h4 h5 h6 h7 h8 h9 h10 h11 h12)
end Go.Proofs.Ytbbohjmkippigaa
