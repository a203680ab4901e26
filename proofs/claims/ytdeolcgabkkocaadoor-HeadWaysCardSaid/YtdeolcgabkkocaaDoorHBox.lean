/- A header in a box of the call's own. -/
import Derived.Test.YtdeolcgabkkocaaDoorHHeader
namespace Go.Proofs.YtdeolcgabkkocaaDoor.P
open Go Go.RowKit Go.Proofs.YtdeolcgabkkocaaDoorW.PrintWords Go.Proofs.YtdeolcgabkkocaaDoorW.PrintLast Go.Proofs.YtdeolcgabkkocaaDoorW.PrintMore
set_option linter.unusedVariables false
set_option linter.unusedSimpArgs false

theorem addr0 (b i : Nat) : Addr.add ⟨b, 0, none⟩ i = ⟨b, i, none⟩ := by
  simp [Addr.add]
  try (intro h; omega)
/-- A header in a box of the call's own. -/
structure HB (w : World) (g : Nat) (h : S25) (v : Value) (W : World) : Prop where
  bk : W.heap[g]? = some (.cells (cells25 h v) 25 (0, 0))
  r : Kd.R k49 49 W w.heap.size (fun k => k < g) v h.f14
  b : Below w.heap.size w W
  lo : w.heap.size ≤ g
theorem HB.below {w W W' : World} {g : Nat} {h : S25} {v : Value} (p : HB w g h v W) (hb : Below W.heap.size W W') : HB w g h v W' :=
  ⟨blk_below p.bk hb, Kd.R_below p.r hb, below_step p.b hb, p.lo⟩
theorem HB.set {w W : World} {g : Nat} {h h' : S25} {v : Value} (p : HB w g h v W) (i : Nat) (u : Value) (hc : (cells25 h v).setIfInBounds i u = cells25 h' v) (h14 : h'.f14 = h.f14) : HB w g h' v (W.setCell ⟨g, i, none⟩ u) :=
  ⟨by rw [← hc]; exact blk_set p.bk i u, by rw [h14]; exact Kd.R_grown p.r (grown_setCell0 W g i u) (fun k hk e => by injection e with e; omega), pw_below_grown p.b (some g) p.b.size (grown_setCell0 W g i u) (fun k hk => by injection hk with hk; have := p.lo; omega), p.lo⟩
theorem HB.box {w W : World} {h : S25} {v : Value} {cs : Array Value} (hd : Hdr h v cs) (hr : Kd.R k49 49 W w.heap.size (fun _ => True) v h.f14) (hb : Below w.heap.size w W) : HB w W.heap.size h v ((W.alloc (.cells zeroH 25)).setRow W.heap.size cs) :=
  have hx := box_hdr W cs
  ⟨by rw [← hd.eq]; exact hx.1, Kd.R_below (Kd.R_mono (Kd.R_bound hr) (fun k hk => hk.2.2.1)) hx.2, below_step hb hx.2, hb.size⟩
theorem HB.c0 {w W : World} {g : Nat} {h : S25} {v : Value} (p : HB w g h v W) : W.cell? ⟨g, 0, none⟩ = some (.string h.f0) := (blk_cell p.bk 0).trans rfl
theorem HB.c2 {w W : World} {g : Nat} {h : S25} {v : Value} (p : HB w g h v W) : W.cell? ⟨g, 2, none⟩ = some (.int .i64 h.f2) := (blk_cell p.bk 2).trans rfl
theorem HB.c3 {w W : World} {g : Nat} {h : S25} {v : Value} (p : HB w g h v W) : W.cell? ⟨g, 3, none⟩ = some (.int .i64 h.f3) := (blk_cell p.bk 3).trans rfl
theorem HB.c4 {w W : World} {g : Nat} {h : S25} {v : Value} (p : HB w g h v W) : W.cell? ⟨g, 4, none⟩ = some (.int .i64 h.f4) := (blk_cell p.bk 4).trans rfl
theorem HB.c5 {w W : World} {g : Nat} {h : S25} {v : Value} (p : HB w g h v W) : W.cell? ⟨g, 5, none⟩ = some (.int .i64 h.f5) := (blk_cell p.bk 5).trans rfl
theorem HB.c6 {w W : World} {g : Nat} {h : S25} {v : Value} (p : HB w g h v W) : W.cell? ⟨g, 6, none⟩ = some (.int .u8 h.f6) := (blk_cell p.bk 6).trans rfl
theorem HB.c7 {w W : World} {g : Nat} {h : S25} {v : Value} (p : HB w g h v W) : W.cell? ⟨g, 7, none⟩ = some (.string h.f7) := (blk_cell p.bk 7).trans rfl
theorem HB.c8 {w W : World} {g : Nat} {h : S25} {v : Value} (p : HB w g h v W) : W.cell? ⟨g, 8, none⟩ = some (.int .i64 h.f8) := (blk_cell p.bk 8).trans rfl
theorem HB.c9 {w W : World} {g : Nat} {h : S25} {v : Value} (p : HB w g h v W) : W.cell? ⟨g, 9, none⟩ = some (.string h.f9) := (blk_cell p.bk 9).trans rfl
theorem HB.c10 {w W : World} {g : Nat} {h : S25} {v : Value} (p : HB w g h v W) : W.cell? ⟨g, 10, none⟩ = some (.string h.f10) := (blk_cell p.bk 10).trans rfl
theorem HB.c11 {w W : World} {g : Nat} {h : S25} {v : Value} (p : HB w g h v W) : W.cell? ⟨g, 11, none⟩ = some (.int .i64 h.f11) := (blk_cell p.bk 11).trans rfl
theorem HB.c12 {w W : World} {g : Nat} {h : S25} {v : Value} (p : HB w g h v W) : W.cell? ⟨g, 12, none⟩ = some (.int .i64 h.f12) := (blk_cell p.bk 12).trans rfl
theorem HB.c13 {w W : World} {g : Nat} {h : S25} {v : Value} (p : HB w g h v W) : W.cell? ⟨g, 13, none⟩ = some (.string h.f13) := (blk_cell p.bk 13).trans rfl
theorem bytes_of_wf {l : List Int} (h : ∀ n ∈ l, (Lit.int .u8 n).wf = true) : Bytes l := fun x hx => by
  have := h x hx
  simp [Lit.wf, IntKind.min, IntKind.max, IntKind.signed, IntKind.bits] at this
  omega
end Go.Proofs.YtdeolcgabkkocaaDoor.P
