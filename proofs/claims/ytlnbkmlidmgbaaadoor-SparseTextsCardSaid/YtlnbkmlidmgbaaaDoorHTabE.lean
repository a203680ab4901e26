/- What the calls of this seat ask of the world: internal/strconv's table of powers of ten holds what its text lays, and strconv's two error variables hold errors. No conditions. -/
import Derived.Test.YtlnbkmlidmgbaaaDoorHLay
import Derived.Test.YtlnbkmlidmgbaaaDoorPx0
import Derived.Lib.LaidTab
namespace Go.Proofs.YtlnbkmlidmgbaaaDoor.P
open Go Go.RowKit Go.Shelf Go.Lib Go.Proofs

structure Tabs (w : World) : Prop where
  u : Lib.TabIs Tryd.prog w "internal/strconv.uint64pow10" .u64 Lib.pow10Tab
  syn : ∃ tp p, w.var? Tryd.prog "strconv.ErrSyntax" = some #[.iface tp p]
  rng : ∃ tp p, w.var? Tryd.prog "strconv.ErrRange" = some #[.iface tp p]
theorem var_below {w w' : World} {n : String} {g : Nat} {cs : Array Value} (hgn : Tryd.prog.globalNamed n = some g) (h : w.var? Tryd.prog n = some cs) (hb : Below w.heap.size w w') : w'.var? Tryd.prog n = some cs := by
  unfold World.var? at h ⊢
  rw [hgn] at h ⊢
  simp only [Option.bind_some] at h ⊢
  have hlt : g < w.heap.size := by
    rcases Nat.lt_or_ge g w.heap.size with h' | h'
    · exact h'
    · rw [Array.getElem?_eq_none h'] at h; cases h
  rw [hb.block _ hlt]
  exact h
theorem Tabs.below {w w' : World} (h : Tabs w) (hb : Below w.heap.size w w') : Tabs w' := by
  obtain ⟨tp, p, h1⟩ := h.syn
  obtain ⟨tq, q, h2⟩ := h.rng
  refine ⟨?_, ⟨tp, p, var_below (g := 3) (by kernel_rfl) h1 hb⟩, ⟨tq, q, var_below (g := 4) (by kernel_rfl) h2 hb⟩⟩
  have hu := h.u
  unfold Lib.TabIs at hu ⊢
  exact var_below (g := 5) (by kernel_rfl) hu hb
end Go.Proofs.YtlnbkmlidmgbaaaDoor.P
