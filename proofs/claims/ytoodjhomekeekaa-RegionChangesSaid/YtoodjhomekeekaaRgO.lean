/- parts: what of a region lies ahead of pages, within, behind them. No condition. Printed by gen/rgparts.py. -/
import Derived.Test.YtoodjhomekeekaaRgM
import Derived.Deep.DeepCutAuto
import Derived.Deep.WholeRow
import Derived.Laws.Rows
import Derived.Laws.Tables
namespace Go.Proofs.Ytoodjhomekeekaa
open Go.ChangeShapes Go.WideShapes Go.ChangeAt Go.RowKit
set_option linter.unusedVariables false
set_option linter.unusedSimpArgs false
def aheadR (d : RG) (f t : Int) : RG := ⟨d.a, min d.b f, d.w, d.u, d.x, d.k⟩
def inR (d : RG) (f t : Int) : RG := ⟨max d.a f, min d.b t, d.w, d.u, d.x, d.k⟩
def behindR (d : RG) (f t : Int) : RG := ⟨max d.a t, d.b, d.w, d.u, d.x, d.k⟩
theorem heap_two (w : World) (o o2 : Obj) : ((w.alloc o).alloc o2).heap[w.heap.size + 1]? = some o2 := by
  rw [← World.size_alloc w o]; exact heap_new _ _
theorem results_cell3 {fn : Func} {p q r : Tmp} {ty : TypeId} (h : fn.results = #[.cell p ty, .cell q ty, .cell r ty]) (tmps : Array Value) (w : World) (g1 g2 g3 : Nat) (t : TypeId) (c1 c2 c3 : Array Value) (fr : Nat × Nat) (fs : Array Field)
    (hp : tmps.getD p undef = .pointer (some ⟨g1, 0, none⟩)) (hq : tmps.getD q undef = .pointer (some ⟨g2, 0, none⟩)) (hr : tmps.getD r undef = .pointer (some ⟨g3, 0, none⟩))
    (h1 : w.heap[g1]? = some (.cells c1 t fr)) (h2 : w.heap[g2]? = some (.cells c2 t fr)) (h3 : w.heap[g3]? = some (.cells c3 t fr))
    (hu : Try.prog.underlying ty = some (.struct fs)) {k : Nat} (hi : (Try.prog.info? ty).map (·.size) = some k) (e1 : k = c1.size := by rfl) (e2 : k = c2.size := by rfl) (e3 : k = c3.size := by rfl) :
    (results fn tmps).run Try.prog w = .ok (.tuple #[.agg c1, .agg c2, .agg c3]) w := by
  have hp' : tmps[p]?.getD undef = .pointer (some ⟨g1, 0, none⟩) := by simpa using hp
  have hq' : tmps[q]?.getD undef = .pointer (some ⟨g2, 0, none⟩) := by simpa using hq
  have hr' : tmps[r]?.getD undef = .pointer (some ⟨g3, 0, none⟩) := by simpa using hr
  simp [results, h, hp', hq', hr', asAddr, run_loadVar_row w g1 t ty c1 fr (.struct fs) h1 hu rfl (e1 ▸ hi), run_loadVar_row w g2 t ty c2 fr (.struct fs) h2 hu rfl (e2 ▸ hi), run_loadVar_row w g3 t ty c3 fr (.struct fs) h3 hu rfl (e3 ▸ hi)]
set_option maxHeartbeats 8000000 in
theorem parts_any (w : World) (d : RG) (f t : Int) :
    Calls Try.prog 38 #[d.val, .agg #[.int .i64 f, .int .i64 t]] w fun e w' => e = .returned (.tuple #[(aheadR d f t).val, (inR d f t).val, (behindR d f t).val]) ∧ Below w.heap.size w w' := by
  obtain ⟨ya, yb, yw, yu, yx, yk⟩ := d
  unfold RG.val aheadR inR behindR
  simp only
  go_enter Try.func38, Try.ntmps38
  obtain ⟨z1, h1⟩ : ∃ z : Int, z = min yb f := ⟨_, rfl⟩
  obtain ⟨z2, h2⟩ : ∃ z : Int, z = max ya f := ⟨_, rfl⟩
  obtain ⟨z3, h3⟩ : ∃ z : Int, z = min yb t := ⟨_, rfl⟩
  obtain ⟨z4, h4⟩ : ∃ z : Int, z = max ya t := ⟨_, rfl⟩
  have e1 : (if f < yb then f else yb) = z1 := by rw [h1]; split <;> omega
  have e2 : (if ya < f then f else ya) = z2 := by rw [h2]; split <;> omega
  have e3 : (if t < yb then t else yb) = z3 := by rw [h3]; split <;> omega
  have e4 : (if ya < t then t else ya) = z4 := by rw [h4]; split <;> omega
  have H1 := Lib.hid h1
  have H2 := Lib.hid h2
  have H3 := Lib.hid h3
  have H4 := Lib.hid h4
  clear h1 h2 h3 h4
  go_upto_region 1 with fail
  go_region
  go_wp2_with fail
  go_region
  go_wp2_with fail
  obtain ⟨fs, hfs⟩ := st_rg
  obtain ⟨A0, hA0⟩ : ∃ A0, A0 = w.alloc (.cells #[.int .i64 ya, .int .i64 yb, .bool yw, .bool yu, .bool yx, .int .i64 yk] 31) := ⟨_, rfl⟩
  obtain ⟨A1, hA1⟩ : ∃ A1, A1 = A0.alloc (.cells #[.int .i64 f, .int .i64 t] 27) := ⟨_, rfl⟩
  have s0 : A0.heap.size = w.heap.size + 1 := by rw [hA0, World.size_alloc]
  have s1 : A1.heap.size = w.heap.size + 1 + 1 := by rw [hA1, World.size_alloc, s0]
  rw [← hA0, ← hA1, ← s1]
  have k3 := heap_new A1 (.cells #[.int .i64 ya, .int .i64 z1, .bool yw, .bool yu, .bool yx, .int .i64 yk] 31)
  have k4 := heap_two A1 (.cells #[.int .i64 ya, .int .i64 z1, .bool yw, .bool yu, .bool yx, .int .i64 yk] 31) (.cells #[.int .i64 z2, .int .i64 z3, .bool yw, .bool yu, .bool yx, .int .i64 yk] 31)
  have k5 := heap_two (A1.alloc (.cells #[.int .i64 ya, .int .i64 z1, .bool yw, .bool yu, .bool yx, .int .i64 yk] 31)) (.cells #[.int .i64 z2, .int .i64 z3, .bool yw, .bool yu, .bool yx, .int .i64 yk] 31) (.cells #[.int .i64 z4, .int .i64 yb, .bool yw, .bool yu, .bool yx, .int .i64 yk] 31)
  rw [World.size_alloc] at k5
  refine bodyPost_ret (results_cell3 (p := 4) (q := 5) (r := 6) rfl _ _ _ _ _ 31 _ _ _ (0, 0) fs rfl rfl rfl (heap_old _ _ _ (heap_old _ _ _ k3)) (heap_old _ _ _ k4) k5 hfs sz_rg) rfl ⟨ret_v (by rw [H1.out, H2.out, H3.out, H4.out]), ?_⟩
  rw [hA1, hA0]
  go_grown
end Go.Proofs.Ytoodjhomekeekaa
