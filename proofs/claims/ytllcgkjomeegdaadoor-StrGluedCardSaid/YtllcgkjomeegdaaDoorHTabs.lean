/- What the calls of this seat ask of the world: unicode/utf8's two tables hold what their text lays. No conditions. -/
import Derived.Test.YtllcgkjomeegdaaDoorHLay
import Derived.Test.YtllcgkjomeegdaaDoorPx0
import Derived.Lib.LaidU8
namespace Go.Proofs.YtllcgkjomeegdaaDoor.P
open Go Go.RowKit Go.Shelf Go.Lib Go.Proofs

structure Tabs (w : World) : Prop where
  u : Lib.Utf8Tabs 0 1 w
theorem cell_lies {w : World} {a : Addr} {v : Value} (h : w.cell? a = some v) : a.block < w.heap.size := by
  cases hb : w.heap[a.block]? with
  | none => simp [World.cell?, hb] at h
  | some o => exact (Array.getElem?_eq_some_iff.1 hb).1
theorem Tabs.below {w w' : World} (h : Tabs w) (hb : Below w.heap.size w w') : Tabs w' := by
  refine ⟨⟨fun c hc => ?_, fun i hi => ⟨?_, ?_⟩⟩⟩
  · have := h.u.1 c hc
    exact (hb.cell (cell_lies this)).trans this
  · have := (h.u.2 i hi).1
    exact (hb.cell (cell_lies this)).trans this
  · have := (h.u.2 i hi).2
    exact (hb.cell (cell_lies this)).trans this
theorem tabs_of_laid {w : World} (h3 : Lib.VarReads Tryd.prog w "unicode/utf8.first" Lib.firstData) (h4 : Lib.VarReads Tryd.prog w "unicode/utf8.acceptRanges" Lib.acceptData) : Tabs w :=
  ⟨utf8Tabs_of_reads { Tryd.lays197 with } ⟨by kernel_rfl, by kernel_rfl, by kernel_rfl, by kernel_rfl, by kernel_rfl, by kernel_rfl, by kernel_rfl⟩ h3 h4⟩
end Go.Proofs.YtllcgkjomeegdaaDoor.P
