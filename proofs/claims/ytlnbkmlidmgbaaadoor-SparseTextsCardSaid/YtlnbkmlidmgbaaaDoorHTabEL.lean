/- The table of powers of ten and the two error variables, as a row's condition lays them. No conditions. -/
import Derived.Test.YtlnbkmlidmgbaaaDoorHTabE
import Derived.Lib.LaidU8
import Derived.Stop.LaidErr
import Derived.LaidLaws
namespace Go.Proofs.YtlnbkmlidmgbaaaDoor.P
open Go Go.RowKit Go.Shelf Go.Lib Go.Proofs
theorem star_err : "*" ++ "errors.errorString" = "*errors.errorString" := by decide
theorem err_row (u : TypeId) (h : Tryd.prog.typeName? 3 u = some "*errors.errorString") : u = 136 :=
  typeName_ptr_named (nm := "errors.errorString") (by rw [star_err]; kernel_rfl) (by kernel_rfl) (by decide) u (by rw [star_err]; exact h)
theorem tabs_of_laid {w : World} {r1 r2 : List (String × DataW Unit)} {t1 t2 : List UInt8} (h : Lib.VarReads Tryd.prog w "internal/strconv.uint64pow10" (tabData .u64 pow10Tab))
    (hs : laidMet Tryd.prog (("strconv.ErrSyntax", .iface "*errors.errorString" (.ptr (.agg [.lit (.string t1)]))) :: r1) w) (hr : laidMet Tryd.prog (("strconv.ErrRange", .iface "*errors.errorString" (.ptr (.agg [.lit (.string t2)]))) :: r2) w) : Tabs w := by
  obtain ⟨g, t, cs, fuel, p, hg, hty, hvar, hd⟩ := h
  have hg2 : Tryd.prog.globalNamed "internal/strconv.uint64pow10" = some 5 := by kernel_rfl
  have hty2 : (Tryd.prog.globals[5]?).map (·.type) = some 128 := by kernel_rfl
  obtain rfl := Option.some.inj (hg2.symm.trans hg)
  obtain rfl := Option.some.inj (hty2.symm.trans hty)
  have ht : Tryd.prog.underlying 128 = some (.array 20 104) := by kernel_rfl
  have he : Tryd.prog.underlying 104 = some (.int .u64) := by kernel_rfl
  have hce : Tryd.prog.cellsOf 104 = 1 := by kernel_rfl
  have hct : Tryd.prog.cellsOf 128 = 20 := by kernel_rfl
  obtain ⟨a1, s1, v1, _⟩ := laid_sentinel hs (g := 3) (ti := 77) (te := 138) (ts := 9) (by kernel_rfl) (by kernel_rfl) Tryd.underlying77 err_row Tryd.underlying136 Tryd.underlying138 rfl rfl Tryd.underlying9 (by kernel_rfl) (by kernel_rfl)
  obtain ⟨a2, s2, v2, _⟩ := laid_sentinel hr (g := 4) (ti := 77) (te := 138) (ts := 9) (by kernel_rfl) (by kernel_rfl) Tryd.underlying77 err_row Tryd.underlying136 Tryd.underlying138 rfl rfl Tryd.underlying9 (by kernel_rfl) (by kernel_rfl)
  refine ⟨?_, ⟨_, _, v1⟩, ⟨_, _, v2⟩⟩
  unfold Lib.TabIs
  rw [hvar, ← cells_of_tab ht he hce hct hd]
end Go.Proofs.YtlnbkmlidmgbaaaDoor.P
