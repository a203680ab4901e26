/- Parts as an argument: a slice of structs of two whole numbers, opened. No conditions. -/
import Derived.Test.YtlnbkmlidmgbaaaDoorPx0
import Derived.Deep.SlicePairs
namespace Go.Proofs.YtlnbkmlidmgbaaaDoor.P
open Go Go.RowKit Go.ChangeShapes Go.WideShapes Go.Deep Go.Proofs.YtlnbkmlidmgbaaaDoorW.PrintWords
section
variable {H : Type} {enc : TypeId × Value → H} {w : World} {base : Nat} {spare : Nat → Bool} {held : Bool}
def numOf : Value → Int
  | .int _ x => x
  | _ => 0
/-- What is read of parts. -/
def PartsRow (w : World) (a : Option Addr) (len cap : Nat) (zs : List S40) : Prop :=
  zs.length = len ∧ len ≤ cap ∧ Kd.C k40 w a len zs ∧ ∀ x ∈ zs, (Lit.int .i64 x.f0).wf = true ∧ (Lit.int .i64 x.f1).wf = true
set_option maxRecDepth 100000 in
theorem open_parts {a : Option Addr} {len cap : Nat} {d : DataW H} {p : List MemPlace} (h : DataW.Trod enc Tryd.prog w base spare held 23 (.slice a len cap) d p) :
    ∃ zs : List S40, PartsRow w a len cap zs := by
  obtain ⟨fuel, hf⟩ := h
  rcases open_slice_pairs Tryd.underlying23 Tryd.underlying40 (by kernel_rfl) rfl rfl (by kernel_rfl) (by kernel_rfl) hf with ⟨hcs, _⟩ | ⟨a', l, c, m, n, V0, V1, D0, D1, P0, P1, hcs, _, hl, hm, hmm, _, hx⟩
  · simp [Value.cells] at hcs
    obtain ⟨rfl, rfl, rfl⟩ := hcs
    exact ⟨[], rfl, Nat.le_refl _, ⟨rfl, by omega, fun h => absurd h (by omega)⟩, fun x hx => by cases hx⟩
  · simp [Value.cells] at hcs
    obtain ⟨rfl, rfl, rfl⟩ := hcs
    have hlm : len ≤ m := by rw [hmm]; split <;> omega
    have each : ∀ i, i < len → V0 i = .int .i64 (numOf (V0 i)) ∧ V1 i = .int .i64 (numOf (V1 i)) ∧ (Lit.int .i64 (numOf (V0 i))).wf = true ∧ (Lit.int .i64 (numOf (V1 i))).wf = true := by
      intro i hi
      obtain ⟨_, _, g0, g1⟩ := hx i (by omega)
      obtain ⟨x, e0, _, w0⟩ := DataW.trod_int Tryd.underlying3 g0
      obtain ⟨y, e1, _, w1⟩ := DataW.trod_int Tryd.underlying3 g1
      have e0' : V0 i = .int .i64 x := by simpa using e0
      have e1' : V1 i = .int .i64 y := by simpa using e1
      rw [e0', e1']
      exact ⟨rfl, rfl, w0, w1⟩
    refine ⟨(List.range len).map (fun i => ⟨numOf (V0 i), numOf (V1 i)⟩), by simp, hl, ⟨by simp, by unfold maxLen at hm; omega, fun _ => ⟨a', rfl, fun j q hj => ?_⟩⟩, fun q hq => ?_⟩
    · rw [List.getElem?_map] at hj
      obtain ⟨i, hi, rfl⟩ := Option.map_eq_some_iff.1 hj
      obtain ⟨hil, hie⟩ := List.getElem?_eq_some_iff.1 hi
      rw [List.getElem_range] at hie
      subst hie
      rw [List.length_range] at hil
      obtain ⟨c0, c1, _, _⟩ := hx j (by omega)
      obtain ⟨v0, v1, _, _⟩ := each j hil
      refine ⟨[.int .i64 (numOf (V0 j)), .int .i64 (numOf (V1 j))], rfl, k40_mk w _, fun i u hu => ?_⟩
      match i, hu with
      | 0, hu =>
        obtain rfl := Option.some.inj hu
        rw [← v0]
        exact c0
      | 1, hu =>
        obtain rfl := Option.some.inj hu
        rw [← v1]
        exact c1
    · obtain ⟨i, hi, rfl⟩ := List.mem_map.1 hq
      obtain ⟨_, _, w0, w1⟩ := each i (List.mem_range.1 hi)
      exact ⟨w0, w1⟩
end
end Go.Proofs.YtlnbkmlidmgbaaaDoor.P
