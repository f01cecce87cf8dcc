/-
  The row's list gives the table: its eight cells hold the limits.
-/
import Derived.Test.YthjkhoblafmibaaDoorLim
import Derived.ProofKit
import Derived.OpenShut
import Derived.Lib.LaidTab
import Derived.MakeChecks
namespace Go.Proofs.YthjkhoblafmibaaDoor
open Go.ChangeShapes Go.WideShapes Go.ChangeAt Go.RowKit
set_option linter.unusedVariables false

theorem gTab : Tryd.prog.globalNamed "passepartout/record.limits" = some 0 := by kernel_rfl
theorem gTabType : (Tryd.prog.globals[0]?).map (·.type) = some 55 := by kernel_rfl
theorem cells55 : Tryd.prog.cellsOf 55 = 8 := by kernel_rfl
theorem cells54 : Tryd.prog.cellsOf 54 = 2 := by kernel_rfl
theorem cells3 : Tryd.prog.cellsOf 3 = 1 := by kernel_rfl

def limCells : Array Value := #[.int .i64 1, .int .i64 1, .int .i64 2, .int .i64 2, .int .i64 1, .int .i64 16384, .int .i64 0, .int .i64 16640]

theorem table_var {W : World} (h : laidMet Tryd.prog [("passepartout/record.limits", Rows.laid_passepartout_record_limits)] W) : W.var? Tryd.prog "passepartout/record.limits" = some limCells := by
  obtain ⟨ps, ⟨g, t, cs, fuel, p, q, hg, ht, hvar, hd, _, _⟩, _⟩ := h
  obtain rfl := Option.some.inj (gTab.symm.trans hg)
  obtain rfl := Option.some.inj (gTabType.symm.trans ht)
  rw [hvar]
  congr 1
  obtain ⟨xs, m, rfl, hx, hcl, hxl, hi⟩ := DataW.trod_array Tryd.underlying55 hd
  rw [cells55] at hcl
  have i0 := hi 0 (by omega)
  have i1 := hi 1 (by omega)
  have i2 := hi 2 (by omega)
  have i3 := hi 3 (by omega)
  rw [cells54] at i0 i1 i2 i3
  match xs, hxl with
  | [y0, y1, y2, y3], _ =>
  simp only [Rows.laid_passepartout_record_limits, Prod.mk.injEq, List.map_cons, List.map_nil, DataW.agg.injEq, List.cons.injEq, and_true] at hx
  obtain ⟨⟨e0, e1, e2, e3⟩, _⟩ := hx
  obtain ⟨d0, p0⟩ := y0
  obtain ⟨d1, p1⟩ := y1
  obtain ⟨d2, p2⟩ := y2
  obtain ⟨d3, p3⟩ := y3
  simp only at e0 e1 e2 e3
  subst e0 e1 e2 e3
  have k0 := Lib.cells_of_tab (zs := [1, 1]) Tryd.underlying54 Tryd.underlying3 cells3 cells54 (by simpa [Lib.tabData] using i0)
  have k1 := Lib.cells_of_tab (zs := [2, 2]) Tryd.underlying54 Tryd.underlying3 cells3 cells54 (by simpa [Lib.tabData] using i1)
  have k2 := Lib.cells_of_tab (zs := [1, 16384]) Tryd.underlying54 Tryd.underlying3 cells3 cells54 (by simpa [Lib.tabData] using i2)
  have k3 := Lib.cells_of_tab (zs := [0, 16640]) Tryd.underlying54 Tryd.underlying3 cells3 cells54 (by simpa [Lib.tabData] using i3)
  obtain ⟨l⟩ := cs
  match l, hcl with
  | [c0, c1, c2, c3, c4, c5, c6, c7], _ =>
  simp at k0 k1 k2 k3
  obtain ⟨rfl, rfl⟩ := k0
  obtain ⟨rfl, rfl⟩ := k1
  obtain ⟨rfl, rfl⟩ := k2
  obtain ⟨rfl, rfl⟩ := k3
  rfl

theorem table {W : World} (h : laidMet Tryd.prog [("passepartout/record.limits", Rows.laid_passepartout_record_limits)] W) : Lim W := by
  have hv := table_var h
  exact ⟨World.var?_cell gTab hv 0, World.var?_cell gTab hv 1, World.var?_cell gTab hv 2, World.var?_cell gTab hv 3, World.var?_cell gTab hv 4, World.var?_cell gTab hv 5, World.var?_cell gTab hv 6, World.var?_cell gTab hv 7⟩
end Go.Proofs.YthjkhoblafmibaaDoor
