/- What the listed variables give. -/
import Derived.Test.YtljhjhfnoalhkaaDoorRows
import Derived.Test.YtljhjhfnoalhkaaDoorFN
import Derived.Lib.LaidTab
import Derived.Stop.LaidErr
import Derived.MakeChecks
namespace Go.Proofs.YtljhjhfnoalhkaaDoor.Fl
open Go.RowKit Go.Maps
set_option linter.unusedVariables false
theorem row82 (u : TypeId) (h : Tryd.prog.typeName? 3 u = some "*errors.errorString") : u = 96 := typeName_ptr_named (nm := "errors.errorString") (by kernel_rfl) (by kernel_rfl) (by decide) u (show Tryd.prog.typeName? 3 u = some ("*" ++ "errors.errorString") from h)
theorem gl_of_laid {W : World} (h : laidMetH Tryd.prog Rows.floatAsksRow.laid W) : Gl W := by
  rw [MakeChecks.laidMetH_plain _ _ _ (by kernel_rfl)] at h
  have h1 := laidMet.tail h
  have hT := Lib.tabIs_of_head (P := Tryd.prog) (k := .u8) (g := 6) (t := 100) (e := 5) (n := 64) (zs := [0, 1, 56, 2, 57, 49, 28, 3, 61, 58, 42, 50, 38, 29, 17, 4, 62, 47, 59, 36, 45, 43, 51, 22, 53, 39, 33, 30, 24, 18, 12, 5, 63, 55, 48, 27, 60, 41, 37, 16, 46, 35, 44, 21, 52, 32, 23, 11, 54, 26, 40, 15, 34, 20, 31, 10, 25, 14, 19, 9, 13, 8, 7, 6]) (by kernel_rfl) (by kernel_rfl) Tryd.underlying100 Tryd.underlying5 (by kernel_rfl) (by kernel_rfl) h1
  have h2 := laidMet.tail (laidMet.tail h1)
  obtain ⟨a0, s0, hv0, _, _, _⟩ := laid_sentinel (P := Tryd.prog) (g := 3) (ti := 53) (tp := 96) (te := 98) (ts := 9) h2 (by kernel_rfl) (by kernel_rfl) Tryd.underlying53 row82 Tryd.underlying96 Tryd.underlying98 rfl rfl Tryd.underlying9 (by kernel_rfl) (by kernel_rfl)
  have h3 := laidMet.tail h2
  obtain ⟨a1, s1, hv1, _, _, _⟩ := laid_sentinel (P := Tryd.prog) (g := 2) (ti := 53) (tp := 96) (te := 98) (ts := 9) h3 (by kernel_rfl) (by kernel_rfl) Tryd.underlying53 row82 Tryd.underlying96 Tryd.underlying98 rfl rfl Tryd.underlying9 (by kernel_rfl) (by kernel_rfl)
  have c := hT.cell (g := 6) (by kernel_rfl) 15 (by decide)
  have c0 := World.var?_cell (P := Tryd.prog) (g := 3) (by kernel_rfl) hv0 0
  have c1 := World.var?_cell (P := Tryd.prog) (g := 2) (by kernel_rfl) hv1 0
  exact ⟨c, ⟨_, _, c1⟩, ⟨_, _, c0⟩⟩
end Go.Proofs.YtljhjhfnoalhkaaDoor.Fl
