/- PaxPrints: its one pure statement, and the walk behind it. Its condition: internal/strconv's table of powers of ten holds what its text lays, and strconv's error variables hold errors. -/
import Derived.Test.YtcbeehchhhoeeaaDoorPx7
import Derived.Test.YtcbeehchhhoeeaaDoorHRecs
namespace Go.Proofs.YtcbeehchhhoeeaaDoor.P
open Go Go.RowKit Go.Proofs.YtcbeehchhhoeeaaDoorW.PrintWords Go.Proofs.YtcbeehchhhoeeaaDoorW.PrintLast Go.Proofs.YtcbeehchhhoeeaaDoorW.PrintMore
def mudlarklaw03_PaxPrints.Pure : Prop := ∀ (l0 : List S41) (l1 : List Int), recsBulk l0 ≤ 1048576 → l1.length ≤ maxLen → l1.length * 1 ≤ 140737488351232 → (∀ x ∈ l1, (Lit.int .u8 x).wf = true) → ∃ k, mudlarklaw03_PaxPrints.f k l0 l1 = some true
theorem mudlarklaw03_PaxPrints.walk (P : mudlarklaw03_PaxPrints.Pure) (a0 : Option Addr) (len0 cap0 : Nat) (z0 : List S41) (a1 : Option Addr) (len1 cap1 : Nat) (z1 : List Int) (w : World)
    (w0 : RecsRow w a0 len0 cap0 z0) (g0 : recsBulk z0 ≤ 1048576)
    (w1 : (a1 = none ∧ len1 = 0 ∧ cap1 = 0 ∧ z1 = []) ∨ ∃ x, a1 = some x ∧ len1 ≤ cap1 ∧ cap1 ≤ maxLen ∧ z1.length = cap1 ∧ (∀ i, i < z1.length → w.cell? (x.add i) = some (.int .u8 (z1.getD i 0))) ∧ ∀ n ∈ z1, (Lit.int .u8 n).wf = true) (y1 : len1 * 1 ≤ 140737488351232) (HT_ : Tabs w) :
    Calls Tryd.prog 4 #[.slice a0 len0 cap0, .slice a1 len1 cap1] w fun e w' => e = .returned (.bool true) ∧ Below w.heap.size w w' := by
  obtain ⟨rfl, hc0, hr0⟩ := w0
  obtain ⟨l1, rfl, hr1, hm1, hw1, hc1⟩ := ReadsInt.ofRowC w1
  obtain ⟨k, h⟩ := P z0 l1 g0 hm1 y1 hw1
  refine (mudlarklaw03_PaxPrints.calls k _ _ z0 _ _ l1 true w hr0 hc0 (Kd.C_of_reads (d := (0 : Int)) (h1 := fun _ => rfl) hr1) hc1 h HT_).mono ?_
  rintro e w' ⟨rfl, hd⟩
  exact ⟨rfl, hd⟩
end Go.Proofs.YtcbeehchhhoeeaaDoor.P
