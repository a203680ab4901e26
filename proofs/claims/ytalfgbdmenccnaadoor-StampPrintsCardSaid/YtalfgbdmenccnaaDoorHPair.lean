/- A time as an argument: a struct of two whole numbers, opened and shut. No conditions. -/
import Derived.Test.YtalfgbdmenccnaaDoorPx0
import Derived.Lib.SmallJoins
namespace Go.Proofs.YtalfgbdmenccnaaDoor.P
open Go Go.RowKit Go.Joins Go.ChangeShapes Go.WideShapes Go.Deep
section
variable {H : Type} {enc : TypeId × Value → H} {w : World} {base : Nat} {spare : Nat → Bool} {held : Bool}
set_option maxRecDepth 100000 in
theorem open_pair {r : Reach} {b0 : Nat} {v : Value} {d : DataW H} {p : List MemPlace}
    (hv : Value.okWide Tryd.prog w r b0 25 v) (h : DataW.Trod enc Tryd.prog w base spare held 25 v d p) :
    ∃ n0 n1, v = .agg #[.int .i64 n0, .int .i64 n1] ∧ d = .agg [.lit (.int .i64 n0), .lit (.int .i64 n1)] ∧ p = [] ∧ (Lit.int .i64 n0).wf = true ∧ (Lit.int .i64 n1).wf = true := by
  obtain ⟨v0, v1, y0, y1, n, rfl, rfl, rfl, h0, h1⟩ := open_agg2 Tryd.underlying25 (by kernel_rfl) (by kernel_rfl) hv h
  obtain ⟨a, e0, rfl, w0⟩ := DataW.trod_int Tryd.underlying3 h0
  obtain ⟨b, e1, rfl, w1⟩ := DataW.trod_int Tryd.underlying3 h1
  obtain rfl : v0 = .int .i64 a := by simpa using e0
  obtain rfl : v1 = .int .i64 b := by simpa using e1
  exact ⟨a, b, rfl, rfl, rfl, w0, w1⟩
set_option maxRecDepth 100000 in
theorem shut_pair {n0 n1 : Int} (w0 : (Lit.int .i64 n0).wf = true) (w1 : (Lit.int .i64 n1).wf = true) :
    DataW.Trod enc Tryd.prog w base spare held 25 (.agg #[.int .i64 n0, .int .i64 n1]) (.agg [.lit (.int .i64 n0), .lit (.int .i64 n1)]) [] := by
  have h := shut_agg2 (enc := enc) (w := w) (base := base) (spare := spare) (held := held) (v0 := .int .i64 n0) (v1 := .int .i64 n1) (y0 := (.lit (.int .i64 n0), [])) (y1 := (.lit (.int .i64 n1), []))
    Tryd.underlying25 (by kernel_rfl) (by kernel_rfl) ⟨1, by simp [DataW.trod, Tryd.underlying3, w0]⟩ ⟨1, by simp [DataW.trod, Tryd.underlying3, w1]⟩
  exact h
end
end Go.Proofs.YtalfgbdmenccnaaDoor.P
