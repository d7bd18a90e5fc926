/- The document's Read (layer 15): any words. PRINTED by gen/callzz.py. No condition but that the words are numbers of 64 bits. -/
import Derived.Test.YtcnmhmbdbadbmaaCallQa
import Derived.Test.YtcnmhmbdbadbmaaCallQb
import Derived.Test.YtcnmhmbdbadbmaaCallQg
import Derived.Test.YtcnmhmbdbadbmaaCallQc
import Derived.Test.YtcnmhmbdbadbmaaCallQd
import Derived.Test.YtcnmhmbdbadbmaaCallQe
import Derived.Test.YtcnmhmbdbadbmaaCallQf
namespace Go.Proofs.Ytcnmhmbdbadbmaa
open Go.ChangeShapes Go.WideShapes Go.ChangeAt Go.RowKit
set_option linter.unusedVariables false
set_option linter.unusedSimpArgs false

theorem ref_1 (x1 x2 x3 x4 x5 : Int) (h1 : 0 ≤ x1) (u1 : x1 < 18446744073709551616) (h2 : 0 ≤ x2) (u2 : x2 < 18446744073709551616) (h3 : 0 ≤ x3) (u3 : x3 < 18446744073709551616) (h4 : 0 ≤ x4) (u4 : x4 < 18446744073709551616) (h5 : 0 ≤ x5) (u5 : x5 < 18446744073709551616) (w : World) :
    Calls Try.prog 9 #[.agg #[.int .u64 1, .int .u64 x1, .int .u64 x2, .int .u64 x3, .int .u64 x4, .int .u64 x5]] w fun e w' => e = .returned (.tuple #[(rvF (readF 1 x1 x2 x3 x4 x5)).val, .bool (readF 1 x1 x2 x3 x4 x5).isSome]) ∧ Below w.heap.size w w' := by
  by_cases ht : Tail [1, x1, x2, x3, x4, x5] 4
  · obtain ⟨rfl, rfl⟩ := (tail_4 _ _ _ _ _ _).1 ht
    rcases (Classical.em ((x1 < 34359738368 ∧ 1 ≤ x2 ∧ x2 ≤ 65536 ∧ x1 + x2 ≤ 34359738368))).symm with b0 | b0
    · exact (ref_1_bad0 h1 u1 h2 u2 h3 u3 b0 w).mono (fun e w' ⟨he, hb⟩ => ⟨by rw [readF_none (by rw [goodF_1]; omega)]; exact he, hb⟩)
    rcases (Classical.em (x3 < 4)).symm with b1 | b1
    · exact (ref_1_bad1 h1 u1 h2 u2 h3 u3 b0 b1 w).mono (fun e w' ⟨he, hb⟩ => ⟨by rw [readF_none (by rw [goodF_1]; omega)]; exact he, hb⟩)
    exact (ref_1_ok h1 u1 h2 u2 h3 u3 b0 b1 w).mono (fun e w' ⟨he, hb⟩ => ⟨by rw [readF_some ((goodF_1 _ _ _ _ _).2 (by omega)), valF_1]; exact he, hb⟩)
  · exact (ref_1_tail h1 u1 h2 u2 h3 u3 h4 u4 h5 u5 ht w).mono fun e w' ⟨he, hb⟩ => ⟨by rw [readF_none (fun hg => ht ((tail_4 _ _ _ _ _ _).2 (by rw [goodF_1] at hg; omega)))]; exact he, hb⟩
theorem ref_2 (x1 x2 x3 x4 x5 : Int) (h1 : 0 ≤ x1) (u1 : x1 < 18446744073709551616) (h2 : 0 ≤ x2) (u2 : x2 < 18446744073709551616) (h3 : 0 ≤ x3) (u3 : x3 < 18446744073709551616) (h4 : 0 ≤ x4) (u4 : x4 < 18446744073709551616) (h5 : 0 ≤ x5) (u5 : x5 < 18446744073709551616) (w : World) :
    Calls Try.prog 9 #[.agg #[.int .u64 2, .int .u64 x1, .int .u64 x2, .int .u64 x3, .int .u64 x4, .int .u64 x5]] w fun e w' => e = .returned (.tuple #[(rvF (readF 2 x1 x2 x3 x4 x5)).val, .bool (readF 2 x1 x2 x3 x4 x5).isSome]) ∧ Below w.heap.size w w' := by
  by_cases ht : Tail [2, x1, x2, x3, x4, x5] 3
  · obtain ⟨rfl, rfl, rfl⟩ := (tail_3 _ _ _ _ _ _).1 ht
    rcases (Classical.em ((x1 < 34359738368 ∧ 1 ≤ x2 ∧ x2 ≤ 65536 ∧ x1 + x2 ≤ 34359738368))).symm with b0 | b0
    · exact (ref_2_bad0 h1 u1 h2 u2 b0 w).mono (fun e w' ⟨he, hb⟩ => ⟨by rw [readF_none (by rw [goodF_2]; omega)]; exact he, hb⟩)
    exact (ref_2_ok h1 u1 h2 u2 b0 w).mono (fun e w' ⟨he, hb⟩ => ⟨by rw [readF_some ((goodF_2 _ _ _ _ _).2 (by omega)), valF_2]; exact he, hb⟩)
  · exact (ref_2_tail h1 u1 h2 u2 h3 u3 h4 u4 h5 u5 ht w).mono fun e w' ⟨he, hb⟩ => ⟨by rw [readF_none (fun hg => ht ((tail_3 _ _ _ _ _ _).2 (by rw [goodF_2] at hg; omega)))]; exact he, hb⟩
theorem ref_3 (x1 x2 x3 x4 x5 : Int) (h1 : 0 ≤ x1) (u1 : x1 < 18446744073709551616) (h2 : 0 ≤ x2) (u2 : x2 < 18446744073709551616) (h3 : 0 ≤ x3) (u3 : x3 < 18446744073709551616) (h4 : 0 ≤ x4) (u4 : x4 < 18446744073709551616) (h5 : 0 ≤ x5) (u5 : x5 < 18446744073709551616) (w : World) :
    Calls Try.prog 9 #[.agg #[.int .u64 3, .int .u64 x1, .int .u64 x2, .int .u64 x3, .int .u64 x4, .int .u64 x5]] w fun e w' => e = .returned (.tuple #[(rvF (readF 3 x1 x2 x3 x4 x5)).val, .bool (readF 3 x1 x2 x3 x4 x5).isSome]) ∧ Below w.heap.size w w' := by
  by_cases ht : Tail [3, x1, x2, x3, x4, x5] 4
  · obtain ⟨rfl, rfl⟩ := (tail_4 _ _ _ _ _ _).1 ht
    rcases (Classical.em ((x1 < 34359738368 ∧ 1 ≤ x2 ∧ x2 ≤ 65536 ∧ x1 + x2 ≤ 34359738368))).symm with b0 | b0
    · exact (ref_3_bad0 h1 u1 h2 u2 h3 u3 b0 w).mono (fun e w' ⟨he, hb⟩ => ⟨by rw [readF_none (by rw [goodF_3]; omega)]; exact he, hb⟩)
    rcases (Classical.em (x3 < 4)).symm with b1 | b1
    · exact (ref_3_bad1 h1 u1 h2 u2 h3 u3 b0 b1 w).mono (fun e w' ⟨he, hb⟩ => ⟨by rw [readF_none (by rw [goodF_3]; omega)]; exact he, hb⟩)
    exact (ref_3_ok h1 u1 h2 u2 h3 u3 b0 b1 w).mono (fun e w' ⟨he, hb⟩ => ⟨by rw [readF_some ((goodF_3 _ _ _ _ _).2 (by omega)), valF_3]; exact he, hb⟩)
  · exact (ref_3_tail h1 u1 h2 u2 h3 u3 h4 u4 h5 u5 ht w).mono fun e w' ⟨he, hb⟩ => ⟨by rw [readF_none (fun hg => ht ((tail_4 _ _ _ _ _ _).2 (by rw [goodF_3] at hg; omega)))]; exact he, hb⟩
theorem ref_4 (x1 x2 x3 x4 x5 : Int) (h1 : 0 ≤ x1) (u1 : x1 < 18446744073709551616) (h2 : 0 ≤ x2) (u2 : x2 < 18446744073709551616) (h3 : 0 ≤ x3) (u3 : x3 < 18446744073709551616) (h4 : 0 ≤ x4) (u4 : x4 < 18446744073709551616) (h5 : 0 ≤ x5) (u5 : x5 < 18446744073709551616) (w : World) :
    Calls Try.prog 9 #[.agg #[.int .u64 4, .int .u64 x1, .int .u64 x2, .int .u64 x3, .int .u64 x4, .int .u64 x5]] w fun e w' => e = .returned (.tuple #[(rvF (readF 4 x1 x2 x3 x4 x5)).val, .bool (readF 4 x1 x2 x3 x4 x5).isSome]) ∧ Below w.heap.size w w' := by
  by_cases ht : Tail [4, x1, x2, x3, x4, x5] 3
  · obtain ⟨rfl, rfl, rfl⟩ := (tail_3 _ _ _ _ _ _).1 ht
    by_cases b0 : (x1 < 140737488355328 ∧ (x2 = 1 ∨ x2 = 2 ∨ x2 = 4 ∨ x2 = 8) ∧ x1 % x2 = 0)
    · have hy := b0.2.1
      rcases hy with rfl | rfl | rfl | rfl
      · exact (ref_4_1_ok h1 u1 h2 u2 b0 w).mono (fun e w' ⟨he, hb⟩ => ⟨by rw [readF_some ((goodF_4 _ _ _ _ _).2 (by omega)), valF_4]; exact he, hb⟩)
      · exact (ref_4_2_ok h1 u1 h2 u2 b0 w).mono (fun e w' ⟨he, hb⟩ => ⟨by rw [readF_some ((goodF_4 _ _ _ _ _).2 (by omega)), valF_4]; exact he, hb⟩)
      · exact (ref_4_4_ok h1 u1 h2 u2 b0 w).mono (fun e w' ⟨he, hb⟩ => ⟨by rw [readF_some ((goodF_4 _ _ _ _ _).2 (by omega)), valF_4]; exact he, hb⟩)
      · exact (ref_4_8_ok h1 u1 h2 u2 b0 w).mono (fun e w' ⟨he, hb⟩ => ⟨by rw [readF_some ((goodF_4 _ _ _ _ _).2 (by omega)), valF_4]; exact he, hb⟩)
    · exact (ref_4_bad0 h1 u1 h2 u2 b0 w).mono (fun e w' ⟨he, hb⟩ => ⟨by rw [readF_none (by rw [goodF_4]; omega)]; exact he, hb⟩)
  · exact (ref_4_tail h1 u1 h2 u2 h3 u3 h4 u4 h5 u5 ht w).mono fun e w' ⟨he, hb⟩ => ⟨by rw [readF_none (fun hg => ht ((tail_3 _ _ _ _ _ _).2 (by rw [goodF_4] at hg; omega)))]; exact he, hb⟩
theorem ref_5 (x1 x2 x3 x4 x5 : Int) (h1 : 0 ≤ x1) (u1 : x1 < 18446744073709551616) (h2 : 0 ≤ x2) (u2 : x2 < 18446744073709551616) (h3 : 0 ≤ x3) (u3 : x3 < 18446744073709551616) (h4 : 0 ≤ x4) (u4 : x4 < 18446744073709551616) (h5 : 0 ≤ x5) (u5 : x5 < 18446744073709551616) (w : World) :
    Calls Try.prog 9 #[.agg #[.int .u64 5, .int .u64 x1, .int .u64 x2, .int .u64 x3, .int .u64 x4, .int .u64 x5]] w fun e w' => e = .returned (.tuple #[(rvF (readF 5 x1 x2 x3 x4 x5)).val, .bool (readF 5 x1 x2 x3 x4 x5).isSome]) ∧ Below w.heap.size w w' := by
  by_cases ht : Tail [5, x1, x2, x3, x4, x5] 4
  · obtain ⟨rfl, rfl⟩ := (tail_4 _ _ _ _ _ _).1 ht
    by_cases b0 : (x1 < 140737488355328 ∧ (x2 = 1 ∨ x2 = 2 ∨ x2 = 4 ∨ x2 = 8) ∧ x1 % x2 = 0)
    · have hy := b0.2.1
      rcases hy with rfl | rfl | rfl | rfl
      · by_cases b1 : x3 < 256
        · exact (ref_5_1_ok h1 u1 h2 u2 h3 u3 b0 b1 w).mono (fun e w' ⟨he, hb⟩ => ⟨by rw [readF_some ((goodF_5 _ _ _ _ _).2 (by omega)), valF_5]; exact he, hb⟩)
        · exact (ref_5_1_bad1 h1 u1 h2 u2 h3 u3 b0 b1 w).mono (fun e w' ⟨he, hb⟩ => ⟨by rw [readF_none (by rw [goodF_5]; omega)]; exact he, hb⟩)
      · by_cases b1 : x3 < 65536
        · exact (ref_5_2_ok h1 u1 h2 u2 h3 u3 b0 b1 w).mono (fun e w' ⟨he, hb⟩ => ⟨by rw [readF_some ((goodF_5 _ _ _ _ _).2 (by omega)), valF_5]; exact he, hb⟩)
        · exact (ref_5_2_bad1 h1 u1 h2 u2 h3 u3 b0 b1 w).mono (fun e w' ⟨he, hb⟩ => ⟨by rw [readF_none (by rw [goodF_5]; omega)]; exact he, hb⟩)
      · by_cases b1 : x3 < 4294967296
        · exact (ref_5_4_ok h1 u1 h2 u2 h3 u3 b0 b1 w).mono (fun e w' ⟨he, hb⟩ => ⟨by rw [readF_some ((goodF_5 _ _ _ _ _).2 (by omega)), valF_5]; exact he, hb⟩)
        · exact (ref_5_4_bad1 h1 u1 h2 u2 h3 u3 b0 b1 w).mono (fun e w' ⟨he, hb⟩ => ⟨by rw [readF_none (by rw [goodF_5]; omega)]; exact he, hb⟩)
      · exact (ref_5_8_ok h1 u1 h2 u2 h3 u3 b0 w).mono (fun e w' ⟨he, hb⟩ => ⟨by rw [readF_some ((goodF_5 _ _ _ _ _).2 (by omega)), valF_5]; exact he, hb⟩)
    · exact (ref_5_bad0 h1 u1 h2 u2 h3 u3 b0 w).mono (fun e w' ⟨he, hb⟩ => ⟨by rw [readF_none (by rw [goodF_5]; omega)]; exact he, hb⟩)
  · exact (ref_5_tail h1 u1 h2 u2 h3 u3 h4 u4 h5 u5 ht w).mono fun e w' ⟨he, hb⟩ => ⟨by rw [readF_none (fun hg => ht ((tail_4 _ _ _ _ _ _).2 (by rw [goodF_5] at hg; omega)))]; exact he, hb⟩
theorem ref_6 (x1 x2 x3 x4 x5 : Int) (h1 : 0 ≤ x1) (u1 : x1 < 18446744073709551616) (h2 : 0 ≤ x2) (u2 : x2 < 18446744073709551616) (h3 : 0 ≤ x3) (u3 : x3 < 18446744073709551616) (h4 : 0 ≤ x4) (u4 : x4 < 18446744073709551616) (h5 : 0 ≤ x5) (u5 : x5 < 18446744073709551616) (w : World) :
    Calls Try.prog 9 #[.agg #[.int .u64 6, .int .u64 x1, .int .u64 x2, .int .u64 x3, .int .u64 x4, .int .u64 x5]] w fun e w' => e = .returned (.tuple #[(rvF (readF 6 x1 x2 x3 x4 x5)).val, .bool (readF 6 x1 x2 x3 x4 x5).isSome]) ∧ Below w.heap.size w w' := by
  by_cases ht : Tail [6, x1, x2, x3, x4, x5] 4
  · obtain ⟨rfl, rfl⟩ := (tail_4 _ _ _ _ _ _).1 ht
    rcases (Classical.em (x1 < 34359738368)).symm with b0 | b0
    · exact (ref_6_bad0 h1 u1 h2 u2 h3 u3 b0 w).mono (fun e w' ⟨he, hb⟩ => ⟨by rw [readF_none (by rw [goodF_6]; omega)]; exact he, hb⟩)
    rcases (Classical.em (x2 < 16)).symm with b1 | b1
    · exact (ref_6_bad1 h1 u1 h2 u2 h3 u3 b0 b1 w).mono (fun e w' ⟨he, hb⟩ => ⟨by rw [readF_none (by rw [goodF_6]; omega)]; exact he, hb⟩)
    rcases (Classical.em (x3 < 2)).symm with b2 | b2
    · exact (ref_6_bad2 h1 u1 h2 u2 h3 u3 b0 b1 b2 w).mono (fun e w' ⟨he, hb⟩ => ⟨by rw [readF_none (by rw [goodF_6]; omega)]; exact he, hb⟩)
    exact (ref_6_ok h1 u1 h2 u2 h3 u3 b0 b1 b2 w).mono (fun e w' ⟨he, hb⟩ => ⟨by rw [readF_some ((goodF_6 _ _ _ _ _).2 (by omega)), valF_6]; exact he, hb⟩)
  · exact (ref_6_tail h1 u1 h2 u2 h3 u3 h4 u4 h5 u5 ht w).mono fun e w' ⟨he, hb⟩ => ⟨by rw [readF_none (fun hg => ht ((tail_4 _ _ _ _ _ _).2 (by rw [goodF_6] at hg; omega)))]; exact he, hb⟩
theorem ref_7 (x1 x2 x3 x4 x5 : Int) (h1 : 0 ≤ x1) (u1 : x1 < 18446744073709551616) (h2 : 0 ≤ x2) (u2 : x2 < 18446744073709551616) (h3 : 0 ≤ x3) (u3 : x3 < 18446744073709551616) (h4 : 0 ≤ x4) (u4 : x4 < 18446744073709551616) (h5 : 0 ≤ x5) (u5 : x5 < 18446744073709551616) (w : World) :
    Calls Try.prog 9 #[.agg #[.int .u64 7, .int .u64 x1, .int .u64 x2, .int .u64 x3, .int .u64 x4, .int .u64 x5]] w fun e w' => e = .returned (.tuple #[(rvF (readF 7 x1 x2 x3 x4 x5)).val, .bool (readF 7 x1 x2 x3 x4 x5).isSome]) ∧ Below w.heap.size w w' := by
  by_cases ht : Tail [7, x1, x2, x3, x4, x5] 3
  · obtain ⟨rfl, rfl, rfl⟩ := (tail_3 _ _ _ _ _ _).1 ht
    rcases (Classical.em (x1 < 256)).symm with b0 | b0
    · exact (ref_7_bad0 h1 u1 h2 u2 b0 w).mono (fun e w' ⟨he, hb⟩ => ⟨by rw [readF_none (by rw [goodF_7]; omega)]; exact he, hb⟩)
    rcases (Classical.em (x2 < 34359738368)).symm with b1 | b1
    · exact (ref_7_bad1 h1 u1 h2 u2 b0 b1 w).mono (fun e w' ⟨he, hb⟩ => ⟨by rw [readF_none (by rw [goodF_7]; omega)]; exact he, hb⟩)
    exact (ref_7_ok h1 u1 h2 u2 b0 b1 w).mono (fun e w' ⟨he, hb⟩ => ⟨by rw [readF_some ((goodF_7 _ _ _ _ _).2 (by omega)), valF_7]; exact he, hb⟩)
  · exact (ref_7_tail h1 u1 h2 u2 h3 u3 h4 u4 h5 u5 ht w).mono fun e w' ⟨he, hb⟩ => ⟨by rw [readF_none (fun hg => ht ((tail_3 _ _ _ _ _ _).2 (by rw [goodF_7] at hg; omega)))]; exact he, hb⟩
theorem ref_8 (x1 x2 x3 x4 x5 : Int) (h1 : 0 ≤ x1) (u1 : x1 < 18446744073709551616) (h2 : 0 ≤ x2) (u2 : x2 < 18446744073709551616) (h3 : 0 ≤ x3) (u3 : x3 < 18446744073709551616) (h4 : 0 ≤ x4) (u4 : x4 < 18446744073709551616) (h5 : 0 ≤ x5) (u5 : x5 < 18446744073709551616) (w : World) :
    Calls Try.prog 9 #[.agg #[.int .u64 8, .int .u64 x1, .int .u64 x2, .int .u64 x3, .int .u64 x4, .int .u64 x5]] w fun e w' => e = .returned (.tuple #[(rvF (readF 8 x1 x2 x3 x4 x5)).val, .bool (readF 8 x1 x2 x3 x4 x5).isSome]) ∧ Below w.heap.size w w' := by
  by_cases ht : Tail [8, x1, x2, x3, x4, x5] 2
  · obtain ⟨rfl, rfl, rfl, rfl⟩ := (tail_2 _ _ _ _ _ _).1 ht
    rcases (Classical.em (x1 < 256)).symm with b0 | b0
    · exact (ref_8_bad0 h1 u1 b0 w).mono (fun e w' ⟨he, hb⟩ => ⟨by rw [readF_none (by rw [goodF_8]; omega)]; exact he, hb⟩)
    exact (ref_8_ok h1 u1 b0 w).mono (fun e w' ⟨he, hb⟩ => ⟨by rw [readF_some ((goodF_8 _ _ _ _ _).2 (by omega)), valF_8]; exact he, hb⟩)
  · exact (ref_8_tail h1 u1 h2 u2 h3 u3 h4 u4 h5 u5 ht w).mono fun e w' ⟨he, hb⟩ => ⟨by rw [readF_none (fun hg => ht ((tail_2 _ _ _ _ _ _).2 (by rw [goodF_8] at hg; omega)))]; exact he, hb⟩
theorem ref_9 (x1 x2 x3 x4 x5 : Int) (h1 : 0 ≤ x1) (u1 : x1 < 18446744073709551616) (h2 : 0 ≤ x2) (u2 : x2 < 18446744073709551616) (h3 : 0 ≤ x3) (u3 : x3 < 18446744073709551616) (h4 : 0 ≤ x4) (u4 : x4 < 18446744073709551616) (h5 : 0 ≤ x5) (u5 : x5 < 18446744073709551616) (w : World) :
    Calls Try.prog 9 #[.agg #[.int .u64 9, .int .u64 x1, .int .u64 x2, .int .u64 x3, .int .u64 x4, .int .u64 x5]] w fun e w' => e = .returned (.tuple #[(rvF (readF 9 x1 x2 x3 x4 x5)).val, .bool (readF 9 x1 x2 x3 x4 x5).isSome]) ∧ Below w.heap.size w w' := by
  by_cases ht : Tail [9, x1, x2, x3, x4, x5] 2
  · obtain ⟨rfl, rfl, rfl, rfl⟩ := (tail_2 _ _ _ _ _ _).1 ht
    rcases (Classical.em (x1 < 256)).symm with b0 | b0
    · exact (ref_9_bad0 h1 u1 b0 w).mono (fun e w' ⟨he, hb⟩ => ⟨by rw [readF_none (by rw [goodF_9]; omega)]; exact he, hb⟩)
    exact (ref_9_ok h1 u1 b0 w).mono (fun e w' ⟨he, hb⟩ => ⟨by rw [readF_some ((goodF_9 _ _ _ _ _).2 (by omega)), valF_9]; exact he, hb⟩)
  · exact (ref_9_tail h1 u1 h2 u2 h3 u3 h4 u4 h5 u5 ht w).mono fun e w' ⟨he, hb⟩ => ⟨by rw [readF_none (fun hg => ht ((tail_2 _ _ _ _ _ _).2 (by rw [goodF_9] at hg; omega)))]; exact he, hb⟩
theorem ref_10 (x1 x2 x3 x4 x5 : Int) (h1 : 0 ≤ x1) (u1 : x1 < 18446744073709551616) (h2 : 0 ≤ x2) (u2 : x2 < 18446744073709551616) (h3 : 0 ≤ x3) (u3 : x3 < 18446744073709551616) (h4 : 0 ≤ x4) (u4 : x4 < 18446744073709551616) (h5 : 0 ≤ x5) (u5 : x5 < 18446744073709551616) (w : World) :
    Calls Try.prog 9 #[.agg #[.int .u64 10, .int .u64 x1, .int .u64 x2, .int .u64 x3, .int .u64 x4, .int .u64 x5]] w fun e w' => e = .returned (.tuple #[(rvF (readF 10 x1 x2 x3 x4 x5)).val, .bool (readF 10 x1 x2 x3 x4 x5).isSome]) ∧ Below w.heap.size w w' := by
  by_cases ht : Tail [10, x1, x2, x3, x4, x5] 2
  · obtain ⟨rfl, rfl, rfl, rfl⟩ := (tail_2 _ _ _ _ _ _).1 ht
    rcases (Classical.em (x1 < 140737488355328)).symm with b0 | b0
    · exact (ref_10_bad0 h1 u1 b0 w).mono (fun e w' ⟨he, hb⟩ => ⟨by rw [readF_none (by rw [goodF_10]; omega)]; exact he, hb⟩)
    exact (ref_10_ok h1 u1 b0 w).mono (fun e w' ⟨he, hb⟩ => ⟨by rw [readF_some ((goodF_10 _ _ _ _ _).2 (by omega)), valF_10]; exact he, hb⟩)
  · exact (ref_10_tail h1 u1 h2 u2 h3 u3 h4 u4 h5 u5 ht w).mono fun e w' ⟨he, hb⟩ => ⟨by rw [readF_none (fun hg => ht ((tail_2 _ _ _ _ _ _).2 (by rw [goodF_10] at hg; omega)))]; exact he, hb⟩
theorem ref_11 (x1 x2 x3 x4 x5 : Int) (h1 : 0 ≤ x1) (u1 : x1 < 18446744073709551616) (h2 : 0 ≤ x2) (u2 : x2 < 18446744073709551616) (h3 : 0 ≤ x3) (u3 : x3 < 18446744073709551616) (h4 : 0 ≤ x4) (u4 : x4 < 18446744073709551616) (h5 : 0 ≤ x5) (u5 : x5 < 18446744073709551616) (w : World) :
    Calls Try.prog 9 #[.agg #[.int .u64 11, .int .u64 x1, .int .u64 x2, .int .u64 x3, .int .u64 x4, .int .u64 x5]] w fun e w' => e = .returned (.tuple #[(rvF (readF 11 x1 x2 x3 x4 x5)).val, .bool (readF 11 x1 x2 x3 x4 x5).isSome]) ∧ Below w.heap.size w w' := by
  by_cases ht : Tail [11, x1, x2, x3, x4, x5] 1
  · obtain ⟨rfl, rfl, rfl, rfl, rfl⟩ := (tail_1 _ _ _ _ _ _).1 ht
    exact (ref_11_ok   w).mono (fun e w' ⟨he, hb⟩ => ⟨by rw [readF_some ((goodF_11 _ _ _ _ _).2 (by omega)), valF_11]; exact he, hb⟩)
  · exact (ref_11_tail h1 u1 h2 u2 h3 u3 h4 u4 h5 u5 ht w).mono fun e w' ⟨he, hb⟩ => ⟨by rw [readF_none (fun hg => ht ((tail_1 _ _ _ _ _ _).2 (by rw [goodF_11] at hg; omega)))]; exact he, hb⟩
theorem ref_12 (x1 x2 x3 x4 x5 : Int) (h1 : 0 ≤ x1) (u1 : x1 < 18446744073709551616) (h2 : 0 ≤ x2) (u2 : x2 < 18446744073709551616) (h3 : 0 ≤ x3) (u3 : x3 < 18446744073709551616) (h4 : 0 ≤ x4) (u4 : x4 < 18446744073709551616) (h5 : 0 ≤ x5) (u5 : x5 < 18446744073709551616) (w : World) :
    Calls Try.prog 9 #[.agg #[.int .u64 12, .int .u64 x1, .int .u64 x2, .int .u64 x3, .int .u64 x4, .int .u64 x5]] w fun e w' => e = .returned (.tuple #[(rvF (readF 12 x1 x2 x3 x4 x5)).val, .bool (readF 12 x1 x2 x3 x4 x5).isSome]) ∧ Below w.heap.size w w' := by
  by_cases ht : Tail [12, x1, x2, x3, x4, x5] 2
  · obtain ⟨rfl, rfl, rfl, rfl⟩ := (tail_2 _ _ _ _ _ _).1 ht
    rcases (Classical.em (x1 ≤ 1048576)).symm with b0 | b0
    · exact (ref_12_bad0 h1 u1 b0 w).mono (fun e w' ⟨he, hb⟩ => ⟨by rw [readF_none (by rw [goodF_12]; omega)]; exact he, hb⟩)
    exact (ref_12_ok h1 u1 b0 w).mono (fun e w' ⟨he, hb⟩ => ⟨by rw [readF_some ((goodF_12 _ _ _ _ _).2 (by omega)), valF_12]; exact he, hb⟩)
  · exact (ref_12_tail h1 u1 h2 u2 h3 u3 h4 u4 h5 u5 ht w).mono fun e w' ⟨he, hb⟩ => ⟨by rw [readF_none (fun hg => ht ((tail_2 _ _ _ _ _ _).2 (by rw [goodF_12] at hg; omega)))]; exact he, hb⟩
theorem ref_13 (x1 x2 x3 x4 x5 : Int) (h1 : 0 ≤ x1) (u1 : x1 < 18446744073709551616) (h2 : 0 ≤ x2) (u2 : x2 < 18446744073709551616) (h3 : 0 ≤ x3) (u3 : x3 < 18446744073709551616) (h4 : 0 ≤ x4) (u4 : x4 < 18446744073709551616) (h5 : 0 ≤ x5) (u5 : x5 < 18446744073709551616) (w : World) :
    Calls Try.prog 9 #[.agg #[.int .u64 13, .int .u64 x1, .int .u64 x2, .int .u64 x3, .int .u64 x4, .int .u64 x5]] w fun e w' => e = .returned (.tuple #[(rvF (readF 13 x1 x2 x3 x4 x5)).val, .bool (readF 13 x1 x2 x3 x4 x5).isSome]) ∧ Below w.heap.size w w' := by
  by_cases ht : Tail [13, x1, x2, x3, x4, x5] 1
  · obtain ⟨rfl, rfl, rfl, rfl, rfl⟩ := (tail_1 _ _ _ _ _ _).1 ht
    exact (ref_13_ok   w).mono (fun e w' ⟨he, hb⟩ => ⟨by rw [readF_some ((goodF_13 _ _ _ _ _).2 (by omega)), valF_13]; exact he, hb⟩)
  · exact (ref_13_tail h1 u1 h2 u2 h3 u3 h4 u4 h5 u5 ht w).mono fun e w' ⟨he, hb⟩ => ⟨by rw [readF_none (fun hg => ht ((tail_1 _ _ _ _ _ _).2 (by rw [goodF_13] at hg; omega)))]; exact he, hb⟩
theorem ref_14 (x1 x2 x3 x4 x5 : Int) (h1 : 0 ≤ x1) (u1 : x1 < 18446744073709551616) (h2 : 0 ≤ x2) (u2 : x2 < 18446744073709551616) (h3 : 0 ≤ x3) (u3 : x3 < 18446744073709551616) (h4 : 0 ≤ x4) (u4 : x4 < 18446744073709551616) (h5 : 0 ≤ x5) (u5 : x5 < 18446744073709551616) (w : World) :
    Calls Try.prog 9 #[.agg #[.int .u64 14, .int .u64 x1, .int .u64 x2, .int .u64 x3, .int .u64 x4, .int .u64 x5]] w fun e w' => e = .returned (.tuple #[(rvF (readF 14 x1 x2 x3 x4 x5)).val, .bool (readF 14 x1 x2 x3 x4 x5).isSome]) ∧ Below w.heap.size w w' := by
  by_cases ht : Tail [14, x1, x2, x3, x4, x5] 1
  · obtain ⟨rfl, rfl, rfl, rfl, rfl⟩ := (tail_1 _ _ _ _ _ _).1 ht
    exact (ref_14_ok   w).mono (fun e w' ⟨he, hb⟩ => ⟨by rw [readF_some ((goodF_14 _ _ _ _ _).2 (by omega)), valF_14]; exact he, hb⟩)
  · exact (ref_14_tail h1 u1 h2 u2 h3 u3 h4 u4 h5 u5 ht w).mono fun e w' ⟨he, hb⟩ => ⟨by rw [readF_none (fun hg => ht ((tail_1 _ _ _ _ _ _).2 (by rw [goodF_14] at hg; omega)))]; exact he, hb⟩
theorem ref_15 (x1 x2 x3 x4 x5 : Int) (h1 : 0 ≤ x1) (u1 : x1 < 18446744073709551616) (h2 : 0 ≤ x2) (u2 : x2 < 18446744073709551616) (h3 : 0 ≤ x3) (u3 : x3 < 18446744073709551616) (h4 : 0 ≤ x4) (u4 : x4 < 18446744073709551616) (h5 : 0 ≤ x5) (u5 : x5 < 18446744073709551616) (w : World) :
    Calls Try.prog 9 #[.agg #[.int .u64 15, .int .u64 x1, .int .u64 x2, .int .u64 x3, .int .u64 x4, .int .u64 x5]] w fun e w' => e = .returned (.tuple #[(rvF (readF 15 x1 x2 x3 x4 x5)).val, .bool (readF 15 x1 x2 x3 x4 x5).isSome]) ∧ Below w.heap.size w w' := by
  by_cases ht : Tail [15, x1, x2, x3, x4, x5] 5
  · obtain rfl := (tail_5 _ _ _ _ _ _).1 ht
    rcases (Classical.em (x1 < 8)).symm with b0 | b0
    · exact (ref_15_bad0 h1 u1 h2 u2 h3 u3 h4 u4 b0 w).mono (fun e w' ⟨he, hb⟩ => ⟨by rw [readF_none (by rw [goodF_15]; omega)]; exact he, hb⟩)
    rcases (Classical.em (x2 < 4)).symm with b1 | b1
    · exact (ref_15_bad1 h1 u1 h2 u2 h3 u3 h4 u4 b0 b1 w).mono (fun e w' ⟨he, hb⟩ => ⟨by rw [readF_none (by rw [goodF_15]; omega)]; exact he, hb⟩)
    rcases (Classical.em (x3 < 4)).symm with b2 | b2
    · exact (ref_15_bad2 h1 u1 h2 u2 h3 u3 h4 u4 b0 b1 b2 w).mono (fun e w' ⟨he, hb⟩ => ⟨by rw [readF_none (by rw [goodF_15]; omega)]; exact he, hb⟩)
    rcases (Classical.em (x4 < 4)).symm with b3 | b3
    · exact (ref_15_bad3 h1 u1 h2 u2 h3 u3 h4 u4 b0 b1 b2 b3 w).mono (fun e w' ⟨he, hb⟩ => ⟨by rw [readF_none (by rw [goodF_15]; omega)]; exact he, hb⟩)
    exact (ref_15_ok h1 u1 h2 u2 h3 u3 h4 u4 b0 b1 b2 b3 w).mono (fun e w' ⟨he, hb⟩ => ⟨by rw [readF_some ((goodF_15 _ _ _ _ _).2 (by omega)), valF_15, Int.add_comm 1]; exact he, hb⟩)
  · exact (ref_15_tail h1 u1 h2 u2 h3 u3 h4 u4 h5 u5 ht w).mono fun e w' ⟨he, hb⟩ => ⟨by rw [readF_none (fun hg => ht ((tail_5 _ _ _ _ _ _).2 (by rw [goodF_15] at hg; omega)))]; exact he, hb⟩
theorem ref_16 (x1 x2 x3 x4 x5 : Int) (h1 : 0 ≤ x1) (u1 : x1 < 18446744073709551616) (h2 : 0 ≤ x2) (u2 : x2 < 18446744073709551616) (h3 : 0 ≤ x3) (u3 : x3 < 18446744073709551616) (h4 : 0 ≤ x4) (u4 : x4 < 18446744073709551616) (h5 : 0 ≤ x5) (u5 : x5 < 18446744073709551616) (w : World) :
    Calls Try.prog 9 #[.agg #[.int .u64 16, .int .u64 x1, .int .u64 x2, .int .u64 x3, .int .u64 x4, .int .u64 x5]] w fun e w' => e = .returned (.tuple #[(rvF (readF 16 x1 x2 x3 x4 x5)).val, .bool (readF 16 x1 x2 x3 x4 x5).isSome]) ∧ Below w.heap.size w w' := by
  by_cases ht : Tail [16, x1, x2, x3, x4, x5] 3
  · obtain ⟨rfl, rfl, rfl⟩ := (tail_3 _ _ _ _ _ _).1 ht
    rcases (Classical.em (x1 < 4)).symm with b0 | b0
    · exact (ref_16_bad0 h1 u1 h2 u2 b0 w).mono (fun e w' ⟨he, hb⟩ => ⟨by rw [readF_none (by rw [goodF_16]; omega)]; exact he, hb⟩)
    exact (ref_16_ok h1 u1 h2 u2 b0 w).mono (fun e w' ⟨he, hb⟩ => ⟨by rw [readF_some ((goodF_16 _ _ _ _ _).2 (by omega)), valF_16]; exact he, hb⟩)
  · exact (ref_16_tail h1 u1 h2 u2 h3 u3 h4 u4 h5 u5 ht w).mono fun e w' ⟨he, hb⟩ => ⟨by rw [readF_none (fun hg => ht ((tail_3 _ _ _ _ _ _).2 (by rw [goodF_16] at hg; omega)))]; exact he, hb⟩
set_option maxRecDepth 100000 in
set_option maxHeartbeats 8000000 in
theorem ref_none (o x1 x2 x3 x4 x5 : Int) (h0 : 0 ≤ o) (ho : o < 1 ∨ 16 < o) (w : World) :
    Calls Try.prog 9 #[.agg #[.int .u64 o, .int .u64 x1, .int .u64 x2, .int .u64 x3, .int .u64 x4, .int .u64 x5]] w fun e w' => e = .returned (.tuple #[CV.zero.val, .bool false]) ∧ Below w.heap.size w w' := by
  have hu : usedF o = -1 := by unfold usedF; rw [if_neg (by omega), if_neg (by omega), if_neg (by omega), if_neg (by omega), if_neg (by omega)]
  have HU : Hid (∀ W : World, Calls Try.prog 12 #[.int .u64 o] W fun e w' => e = .returned (.int .i64 (-1)) ∧ Below W.heap.size W w') := Lib.hid (fun W => by have h := used_any o h0 W; rw [hu] at h; exact h.mono fun e w' ⟨a, b⟩ => ⟨a, b ▸ Below.refl _ _⟩)
  clear hu ho
  have hB0 : Below w.heap.size w ((w.alloc (.cells #[.int .u64 o, .int .u64 x1, .int .u64 x2, .int .u64 x3, .int .u64 x4, .int .u64 x5] 23)).alloc (.cells #[.int .i64 0, .int .i64 0, .int .i64 0, .bool false, .bool false, .bool false, .int .u64 0, .int .i64 0, .int .u64 0, .int .i64 0, .int .i64 0, .int .i64 0, .int .i64 0] 35)) := by go_grown
  have hw0 := heap_old (w.alloc (.cells #[.int .u64 o, .int .u64 x1, .int .u64 x2, .int .u64 x3, .int .u64 x4, .int .u64 x5] 23)) (.cells #[.int .i64 0, .int .i64 0, .int .i64 0, .bool false, .bool false, .bool false, .int .u64 0, .int .i64 0, .int .u64 0, .int .i64 0, .int .i64 0, .int .i64 0, .int .i64 0] 35) _ (heap_new w (.cells #[.int .u64 o, .int .u64 x1, .int .u64 x2, .int .u64 x3, .int .u64 x4, .int .u64 x5] 23))
  have hq0 := heap_new (w.alloc (.cells #[.int .u64 o, .int .u64 x1, .int .u64 x2, .int .u64 x3, .int .u64 x4, .int .u64 x5] 23)) (.cells #[.int .i64 0, .int .i64 0, .int .i64 0, .bool false, .bool false, .bool false, .int .u64 0, .int .i64 0, .int .u64 0, .int .i64 0, .int .i64 0, .int .i64 0, .int .i64 0] 35)
  rw [World.size_alloc] at hq0
  go_enter Try.func9, Try.ntmps9
  go_wp2_with fail
  refine (HU.out _).mono ?_
  rintro e v1 ⟨rfl, hb1⟩
  have hw1 := heap_below hb1 hw0
  have hq1 := heap_below hb1 hq0
  have hB1 := b_then hB0 hb1
  have hz1 := heap_lt hw1
  have hz2 := heap_lt hq1
  have c0 : v1.cell? ⟨w.heap.size, 0, none⟩ = some (.int .u64 o) := cell_heap hw1 0
  have c1 : v1.cell? ⟨w.heap.size, 1, none⟩ = some (.int .u64 x1) := cell_heap hw1 1
  have c2 : v1.cell? ⟨w.heap.size, 2, none⟩ = some (.int .u64 x2) := cell_heap hw1 2
  have c3 : v1.cell? ⟨w.heap.size, 3, none⟩ = some (.int .u64 x3) := cell_heap hw1 3
  have c4 : v1.cell? ⟨w.heap.size, 4, none⟩ = some (.int .u64 x4) := cell_heap hw1 4
  have c5 : v1.cell? ⟨w.heap.size, 5, none⟩ = some (.int .u64 x5) := cell_heap hw1 5
  have q0 : v1.cell? ⟨w.heap.size + 1, 0, none⟩ = some (.int .i64 0) := cell_heap hq1 0
  have f0 : v1.frozen? ⟨w.heap.size + 1, 0, none⟩ = false := frozen_heap hq1 0
  have q1 : v1.cell? ⟨w.heap.size + 1, 1, none⟩ = some (.int .i64 0) := cell_heap hq1 1
  have f1 : v1.frozen? ⟨w.heap.size + 1, 1, none⟩ = false := frozen_heap hq1 1
  have q2 : v1.cell? ⟨w.heap.size + 1, 2, none⟩ = some (.int .i64 0) := cell_heap hq1 2
  have f2 : v1.frozen? ⟨w.heap.size + 1, 2, none⟩ = false := frozen_heap hq1 2
  have q3 : v1.cell? ⟨w.heap.size + 1, 3, none⟩ = some (.bool false) := cell_heap hq1 3
  have f3 : v1.frozen? ⟨w.heap.size + 1, 3, none⟩ = false := frozen_heap hq1 3
  have q4 : v1.cell? ⟨w.heap.size + 1, 4, none⟩ = some (.bool false) := cell_heap hq1 4
  have f4 : v1.frozen? ⟨w.heap.size + 1, 4, none⟩ = false := frozen_heap hq1 4
  have q5 : v1.cell? ⟨w.heap.size + 1, 5, none⟩ = some (.bool false) := cell_heap hq1 5
  have f5 : v1.frozen? ⟨w.heap.size + 1, 5, none⟩ = false := frozen_heap hq1 5
  have q6 : v1.cell? ⟨w.heap.size + 1, 6, none⟩ = some (.int .u64 0) := cell_heap hq1 6
  have f6 : v1.frozen? ⟨w.heap.size + 1, 6, none⟩ = false := frozen_heap hq1 6
  have q7 : v1.cell? ⟨w.heap.size + 1, 7, none⟩ = some (.int .i64 0) := cell_heap hq1 7
  have f7 : v1.frozen? ⟨w.heap.size + 1, 7, none⟩ = false := frozen_heap hq1 7
  have q8 : v1.cell? ⟨w.heap.size + 1, 8, none⟩ = some (.int .u64 0) := cell_heap hq1 8
  have f8 : v1.frozen? ⟨w.heap.size + 1, 8, none⟩ = false := frozen_heap hq1 8
  have q9 : v1.cell? ⟨w.heap.size + 1, 9, none⟩ = some (.int .i64 0) := cell_heap hq1 9
  have f9 : v1.frozen? ⟨w.heap.size + 1, 9, none⟩ = false := frozen_heap hq1 9
  have q10 : v1.cell? ⟨w.heap.size + 1, 10, none⟩ = some (.int .i64 0) := cell_heap hq1 10
  have f10 : v1.frozen? ⟨w.heap.size + 1, 10, none⟩ = false := frozen_heap hq1 10
  have q11 : v1.cell? ⟨w.heap.size + 1, 11, none⟩ = some (.int .i64 0) := cell_heap hq1 11
  have f11 : v1.frozen? ⟨w.heap.size + 1, 11, none⟩ = false := frozen_heap hq1 11
  have q12 : v1.cell? ⟨w.heap.size + 1, 12, none⟩ = some (.int .i64 0) := cell_heap hq1 12
  have f12 : v1.frozen? ⟨w.heap.size + 1, 12, none⟩ = false := frozen_heap hq1 12
  have HQ := Lib.hid hq1
  clear hw1 hw0 hq0 hb1 hB0 hq1 HU c0 c1 c2 c3 c4 c5
  have HALL : Hid ((#[.int .i64 0, .int .i64 0, .int .i64 0, .bool false, .bool false, .bool false, .int .u64 0, .int .i64 0, .int .u64 0, .int .i64 0, .int .i64 0, .int .i64 0, .int .i64 0] : Array Value).all (·.oneCell') = true) := Lib.hid (by simp [Value.oneCell'])
  obtain ⟨fs, hfs⟩ := underR
  have HFS := Lib.hid hfs
  clear hfs
  go_wp2_with (first | (refine wpList_store_row rfl 35 (.tmp 2) (.tmp 13) rfl (w.heap.size + 1) #[.int .i64 0, .int .i64 0, .int .i64 0, .bool false, .bool false, .bool false, .int .u64 0, .int .i64 0, .int .u64 0, .int .i64 0, .int .i64 0, .int .i64 0, .int .i64 0] rfl rfl 35 #[.int .i64 0, .int .i64 0, .int .i64 0, .bool false, .bool false, .bool false, .int .u64 0, .int .i64 0, .int .u64 0, .int .i64 0, .int .i64 0, .int .i64 0, .int .i64 0] HQ.out infoR rfl HALL.out ?_))
  refine bodyPost_ret (results_cell_tmp (p := 2) (q := 3) rfl _ _ (w.heap.size + 1) 35 #[.int .i64 0, .int .i64 0, .int .i64 0, .bool false, .bool false, .bool false, .int .u64 0, .int .i64 0, .int .u64 0, .int .i64 0, .int .i64 0, .int .i64 0, .int .i64 0] (0, 0) fs (.bool false) rfl rfl (setRow_heap _ _ _ _ _ _ HQ.out) HFS.out infoR) rfl ⟨rfl, below_row hB1 (by omega) _⟩
theorem ref_read (o x1 x2 x3 x4 x5 : Int) (h0 : 0 ≤ o) (h1 : 0 ≤ x1) (u1 : x1 < 18446744073709551616) (h2 : 0 ≤ x2) (u2 : x2 < 18446744073709551616) (h3 : 0 ≤ x3) (u3 : x3 < 18446744073709551616) (h4 : 0 ≤ x4) (u4 : x4 < 18446744073709551616) (h5 : 0 ≤ x5) (u5 : x5 < 18446744073709551616) (w : World) :
    Calls Try.prog 9 #[.agg #[.int .u64 o, .int .u64 x1, .int .u64 x2, .int .u64 x3, .int .u64 x4, .int .u64 x5]] w fun e w' => e = .returned (.tuple #[(rvF (readF o x1 x2 x3 x4 x5)).val, .bool (readF o x1 x2 x3 x4 x5).isSome]) ∧ Below w.heap.size w w' := by
  by_cases ho : o < 1 ∨ 16 < o
  · exact (ref_none o x1 x2 x3 x4 x5 h0 ho w).mono fun e w' ⟨he, hb⟩ => ⟨by rw [readF_none (goodF_big _ _ _ _ _ _ ho)]; exact he, hb⟩
  have h : o = 1 ∨ o = 2 ∨ o = 3 ∨ o = 4 ∨ o = 5 ∨ o = 6 ∨ o = 7 ∨ o = 8 ∨ o = 9 ∨ o = 10 ∨ o = 11 ∨ o = 12 ∨ o = 13 ∨ o = 14 ∨ o = 15 ∨ o = 16 := by omega
  rcases h with rfl | rfl | rfl | rfl | rfl | rfl | rfl | rfl | rfl | rfl | rfl | rfl | rfl | rfl | rfl | rfl
  · exact ref_1 x1 x2 x3 x4 x5 h1 u1 h2 u2 h3 u3 h4 u4 h5 u5 w
  · exact ref_2 x1 x2 x3 x4 x5 h1 u1 h2 u2 h3 u3 h4 u4 h5 u5 w
  · exact ref_3 x1 x2 x3 x4 x5 h1 u1 h2 u2 h3 u3 h4 u4 h5 u5 w
  · exact ref_4 x1 x2 x3 x4 x5 h1 u1 h2 u2 h3 u3 h4 u4 h5 u5 w
  · exact ref_5 x1 x2 x3 x4 x5 h1 u1 h2 u2 h3 u3 h4 u4 h5 u5 w
  · exact ref_6 x1 x2 x3 x4 x5 h1 u1 h2 u2 h3 u3 h4 u4 h5 u5 w
  · exact ref_7 x1 x2 x3 x4 x5 h1 u1 h2 u2 h3 u3 h4 u4 h5 u5 w
  · exact ref_8 x1 x2 x3 x4 x5 h1 u1 h2 u2 h3 u3 h4 u4 h5 u5 w
  · exact ref_9 x1 x2 x3 x4 x5 h1 u1 h2 u2 h3 u3 h4 u4 h5 u5 w
  · exact ref_10 x1 x2 x3 x4 x5 h1 u1 h2 u2 h3 u3 h4 u4 h5 u5 w
  · exact ref_11 x1 x2 x3 x4 x5 h1 u1 h2 u2 h3 u3 h4 u4 h5 u5 w
  · exact ref_12 x1 x2 x3 x4 x5 h1 u1 h2 u2 h3 u3 h4 u4 h5 u5 w
  · exact ref_13 x1 x2 x3 x4 x5 h1 u1 h2 u2 h3 u3 h4 u4 h5 u5 w
  · exact ref_14 x1 x2 x3 x4 x5 h1 u1 h2 u2 h3 u3 h4 u4 h5 u5 w
  · exact ref_15 x1 x2 x3 x4 x5 h1 u1 h2 u2 h3 u3 h4 u4 h5 u5 w
  · exact ref_16 x1 x2 x3 x4 x5 h1 u1 h2 u2 h3 u3 h4 u4 h5 u5 w
end Go.Proofs.Ytcnmhmbdbadbmaa
