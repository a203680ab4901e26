/- The table of powers of ten, as a row's condition lays it. No conditions. -/
import Derived.Test.YtlnbkmlidmgbaaaDoorHTab10
import Derived.Lib.LaidU8
namespace Go.Proofs.YtlnbkmlidmgbaaaDoor.P
open Go Go.RowKit Go.Shelf Go.Lib Go.Proofs
theorem tabs_of_laid {w : World} (h : Lib.VarReads Tryd.prog w "internal/strconv.uint64pow10" (tabData .u64 pow10Tab)) : Tabs w := by
  obtain ⟨g, t, cs, fuel, p, hg, hty, hvar, hd⟩ := h
  have hg2 : Tryd.prog.globalNamed "internal/strconv.uint64pow10" = some 5 := by kernel_rfl
  have hty2 : (Tryd.prog.globals[5]?).map (·.type) = some 128 := by kernel_rfl
  obtain rfl := Option.some.inj (hg2.symm.trans hg)
  obtain rfl := Option.some.inj (hty2.symm.trans hty)
  have ht : Tryd.prog.underlying 128 = some (.array 20 104) := by kernel_rfl
  have he : Tryd.prog.underlying 104 = some (.int .u64) := by kernel_rfl
  have hce : Tryd.prog.cellsOf 104 = 1 := by kernel_rfl
  have hct : Tryd.prog.cellsOf 128 = 20 := by kernel_rfl
  refine ⟨?_⟩
  unfold Lib.TabIs
  rw [hvar, ← cells_of_tab ht he hce hct hd]
end Go.Proofs.YtlnbkmlidmgbaaaDoor.P
