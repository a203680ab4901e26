/- An image as an argument: a struct of a slice of bytes and a slice of whole numbers, opened. No conditions. -/
import Derived.Test.YtmniedinfepmjaaPx0
import Derived.Test.YtmniedinfepmjaaWSized
import Derived.Lib.SmallJoins
namespace Go.Proofs.Ytmniedinfepmjaa.P
open Go Go.RowKit Go.Joins Go.ChangeShapes Go.WideShapes Go.Deep
section
variable {H : Type} {enc : TypeId × Value → H} {w : World} {base : Nat} {held : Bool}
/-- What is read of a row of whole numbers. -/
def IsRowK (k : IntKind) (w : World) (a : Option Addr) (len cap : Nat) (zs : List Int) : Prop :=
  (a = none ∧ len = 0 ∧ cap = 0 ∧ zs = []) ∨
  ∃ x, a = some x ∧ len ≤ cap ∧ cap ≤ maxLen ∧ zs.length = cap ∧ (∀ i, i < zs.length → w.cell? (x.add i) = some (.int k (zs.getD i 0))) ∧ ∀ n ∈ zs, (Lit.int k n).wf = true
theorem open_row {t e : TypeId} {k : IntKind} {v : Value} {fuel : Nat} {y : DataW H × List MemPlace} (hu : Try.prog.underlying t = some (.slice e)) (he : Try.prog.underlying e = some (.int k)) (hc : Try.prog.cellsOf e = 1)
    (h : DataW.trod enc Try.prog w base (fun _ => true) held fuel t [v] = some y) : ∃ a len cap zs, v = .slice a len cap ∧ IsRowK k w a len cap zs := by
  rcases open_ints hu he hc h with ⟨hcs, _⟩ | ⟨x, l, c, zs, hcs, _, hl, hm, hz, _, hcell, hwz⟩
  · simp at hcs
    subst hcs
    exact ⟨_, _, _, [], rfl, .inl ⟨rfl, rfl, rfl, rfl⟩⟩
  · simp at hcs
    subst hcs
    exact ⟨_, _, _, zs, rfl, .inr ⟨_, rfl, hl, hm, by simpa using hz, hcell, hwz⟩⟩
set_option maxRecDepth 100000 in
theorem open_image {r : Reach} {b0 : Nat} {v : Value} {d : DataW H} {p : List MemPlace} {ts : List TypeId} {ds : List (DataW H)} {j : Nat} (hsz : (DataW.weightsEach Try.prog ts ds).all (· ≤ reachBytes) = true) (ht : ts[j]? = some 27) (hd : ds[j]? = some d)
    (hv : Value.okWide Try.prog w r b0 27 v) (h : DataW.Trod enc Try.prog w base (fun _ => true) held 27 v d p) :
    ∃ a len cap z a' len' cap' z', v = .agg #[.slice a len cap, .slice a' len' cap'] ∧ IsRowK .u8 w a len cap z ∧ len * 1 ≤ 140737488351232 ∧ IsRowK .i64 w a' len' cap' z' ∧ len' * 8 ≤ 140737488351232 := by
  obtain ⟨v0, v1, y0, y1, n, rfl, rfl, rfl, h0, h1⟩ := open_agg2 Try.underlying27 (by kernel_rfl) (by kernel_rfl) hv h
  obtain ⟨a, len, cap, z, rfl, w0⟩ := open_row Try.underlying22 Try.underlying5 (by kernel_rfl) h0
  obtain ⟨a', len', cap', z', rfl, w1⟩ := open_row Try.underlying24 Try.underlying3 (by kernel_rfl) h1
  have hsz2 : (DataW.weightsEach Try.prog [22, 24] [y0.1, y1.1]).all (· ≤ reachBytes) = true := by
    rw [List.all_eq_true] at hsz ⊢
    intro m hm
    refine hsz m (DataW.weights_mem_each ht hd m ?_)
    rw [DataW.weights, Try.underlying27]
    exact hm
  refine ⟨a, len, cap, z, a', len', cap', z', rfl, w0, ?_, w1, ?_⟩
  · exact YtmniedinfepmjaaW.PrintWords.sized_ints hsz2 (j := 0) (t := 22) rfl rfl Try.underlying22 Try.underlying5 (by kernel_rfl) (by kernel_rfl) (ps := y0.2) ⟨n, by simpa [Value.cells] using h0⟩
  · exact YtmniedinfepmjaaW.PrintWords.sized_ints hsz2 (j := 1) (t := 24) rfl rfl Try.underlying24 Try.underlying3 (by kernel_rfl) (by kernel_rfl) (ps := y1.2) ⟨n, by simpa [Value.cells] using h1⟩
end
end Go.Proofs.Ytmniedinfepmjaa.P
