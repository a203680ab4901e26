/- What the calls of this seat ask of the world: internal/strconv's table of powers of ten holds what its text lays. No conditions. -/
import Derived.Test.YtlnbkmlidmgbaaaDoorHLay
import Derived.Test.YtlnbkmlidmgbaaaDoorPx0
import Derived.Lib.LaidTab
namespace Go.Proofs.YtlnbkmlidmgbaaaDoor.P
open Go Go.RowKit Go.Shelf Go.Lib Go.Proofs

structure Tabs (w : World) : Prop where
  u : Lib.TabIs Tryd.prog w "internal/strconv.uint64pow10" .u64 Lib.pow10Tab
theorem Tabs.below {w w' : World} (h : Tabs w) (hb : Below w.heap.size w w') : Tabs w' := by
  refine ⟨?_⟩
  have hu := h.u
  have hgn : Tryd.prog.globalNamed "internal/strconv.uint64pow10" = some 5 := by kernel_rfl
  unfold Lib.TabIs World.var? at hu ⊢
  rw [hgn] at hu ⊢
  simp only [Option.bind_some] at hu ⊢
  have hlt : 5 < w.heap.size := by
    rcases Nat.lt_or_ge 5 w.heap.size with h' | h'
    · exact h'
    · rw [Array.getElem?_eq_none h'] at hu; cases hu
  rw [hb.block _ hlt]
  exact hu
end Go.Proofs.YtlnbkmlidmgbaaaDoor.P
