/- Records as an argument: a slice of structs of two strings, opened. No conditions. -/
import Derived.Test.YtcbeehchhhoeeaaDoorPx0
import Derived.Test.YtcbeehchhhoeeaaDoorRows
import Derived.Deep.SlicePairs
namespace Go.Proofs.YtcbeehchhhoeeaaDoor.P
open Go Go.RowKit Go.ChangeShapes Go.WideShapes Go.Deep Go.Proofs.YtcbeehchhhoeeaaDoorW.PrintWords
section
variable {H : Type} {enc : TypeId × Value → H} {w : World} {base : Nat} {spare : Nat → Bool} {held : Bool}
def strOf : Value → ByteArray
  | .string x => x
  | _ => ByteArray.empty
/-- How many letters records have. -/
def recsBulk (l : List S41) : Nat := (l.map fun p => p.f0.size + p.f1.size + 3).sum
/-- What is read of records. -/
def RecsRow (w : World) (a : Option Addr) (len cap : Nat) (zs : List S41) : Prop :=
  zs.length = len ∧ len ≤ cap ∧ Kd.C k41 w a len zs
theorem bulk_le {H : Type} (D0 D1 : Nat → DataW H) (S0 S1 : Nat → ByteArray) : ∀ l : List Nat, (∀ i ∈ l, D0 i = .lit (.string (S0 i).data.toList) ∧ D1 i = .lit (.string (S1 i).data.toList)) →
    recsBulk (l.map fun i => (⟨S0 i, S1 i⟩ : S41)) ≤ Rows.uptoBulkAll (l.map fun i => DataW.agg [D0 i, D1 i])
  | [], _ => by simp [recsBulk]
  | i :: l, h => by
    have ih := bulk_le D0 D1 S0 S1 l (fun j hj => h j (by simp [hj]))
    obtain ⟨e0, e1⟩ := h i (by simp)
    have s0 : (S0 i).size = (S0 i).data.toList.length := by rw [Array.length_toList]; rfl
    have s1 : (S1 i).size = (S1 i).data.toList.length := by rw [Array.length_toList]; rfl
    unfold recsBulk at ih ⊢
    rw [List.map_cons, List.map_cons, List.sum_cons, List.map_cons, Rows.uptoBulkAll, e0, e1]
    simp only [Rows.uptoBulk, Rows.uptoBulkAll]
    omega
set_option maxRecDepth 100000 in
theorem open_recs {a : Option Addr} {len cap : Nat} {d : DataW H} {p : List MemPlace} (h : DataW.Trod enc Tryd.prog w base spare held 23 (.slice a len cap) d p) :
    ∃ zs : List S41, RecsRow w a len cap zs ∧ recsBulk zs ≤ Rows.uptoBulk d := by
  obtain ⟨fuel, hf⟩ := h
  rcases open_slice_pairs Tryd.underlying23 Tryd.underlying41 (by kernel_rfl) rfl rfl (by kernel_rfl) (by kernel_rfl) hf with ⟨hcs, _⟩ | ⟨a', l, c, m, n, V0, V1, D0, D1, P0, P1, hcs, _, hl, hm, hmm, hxx, hx⟩
  · simp [Value.cells] at hcs
    obtain ⟨rfl, rfl, rfl⟩ := hcs
    exact ⟨[], ⟨rfl, Nat.le_refl _, ⟨rfl, by omega, fun h => absurd h (by omega)⟩⟩, Nat.zero_le _⟩
  · simp [Value.cells] at hcs
    obtain ⟨rfl, rfl, rfl⟩ := hcs
    have hlm : len ≤ m := by rw [hmm]; split <;> omega
    have each : ∀ i, i < len → V0 i = .string (strOf (V0 i)) ∧ V1 i = .string (strOf (V1 i)) ∧ D0 i = .lit (.string (strOf (V0 i)).data.toList) ∧ D1 i = .lit (.string (strOf (V1 i)).data.toList) := by
      intro i hi
      obtain ⟨_, _, g0, g1⟩ := hx i (by omega)
      obtain ⟨x, e0, f0, _⟩ := DataW.trod_string Tryd.underlying9 g0
      obtain ⟨y, e1, f1, _⟩ := DataW.trod_string Tryd.underlying9 g1
      have e0' : V0 i = .string x := by simpa using e0
      have e1' : V1 i = .string y := by simpa using e1
      rw [e0', e1']
      exact ⟨rfl, rfl, (Prod.mk.inj f0).1, (Prod.mk.inj f1).1⟩
    refine ⟨(List.range len).map (fun i => ⟨strOf (V0 i), strOf (V1 i)⟩), ⟨by simp, hl, ⟨by simp, by unfold maxLen at hm; omega, fun _ => ⟨a', rfl, fun j q hj => ?_⟩⟩⟩, ?_⟩
    · rw [List.getElem?_map] at hj
      obtain ⟨i, hi, rfl⟩ := Option.map_eq_some_iff.1 hj
      obtain ⟨hil, hie⟩ := List.getElem?_eq_some_iff.1 hi
      rw [List.getElem_range] at hie
      subst hie
      rw [List.length_range] at hil
      obtain ⟨c0, c1, _, _⟩ := hx j (by omega)
      obtain ⟨v0, v1, _, _⟩ := each j hil
      refine ⟨[.string (strOf (V0 j)), .string (strOf (V1 j))], rfl, k41_mk w _, fun i u hu => ?_⟩
      match i, hu with
      | 0, hu =>
        obtain rfl := Option.some.inj hu
        rw [← v0]
        exact c0
      | 1, hu =>
        obtain rfl := Option.some.inj hu
        rw [← v1]
        exact c1
    · have hd := (Prod.mk.inj hxx).1
      rw [hd]
      have hb := bulk_le D0 D1 (fun i => strOf (V0 i)) (fun i => strOf (V1 i)) (List.range len) (fun i hi => ⟨(each i (List.mem_range.1 hi)).2.2.1, (each i (List.mem_range.1 hi)).2.2.2⟩)
      simp only [Rows.uptoBulk]
      omega
end
end Go.Proofs.YtcbeehchhhoeeaaDoor.P
