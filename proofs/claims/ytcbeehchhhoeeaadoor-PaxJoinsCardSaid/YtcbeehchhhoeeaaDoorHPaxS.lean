/- A row of records is the same as itself. No conditions. -/
import Derived.Test.YtcbeehchhhoeeaaDoorHPaxV
import Derived.Test.YtcbeehchhhoeeaaDoorPx7
namespace Go.Proofs.YtcbeehchhhoeeaaDoor.P
open Go Go.RowKit Go.Lib Go.Proofs Go.Proofs.YtcbeehchhhoeeaaDoorW.PrintWords Go.Proofs.YtcbeehchhhoeeaaDoorW.PrintLast Go.Proofs.YtcbeehchhhoeeaaDoorW.PrintMore
set_option linter.unusedVariables false
set_option linter.unusedSimpArgs false

theorem same_l0 (l : List S41) (hl : l.length ≤ 1000000000000) : ∀ (m i f : Nat), i + m = l.length → m + 1 ≤ f → mudlarkref03_Same.l0 f l l (i : Int) = some true
  | m, i, 0, h1, h2 => (by omega : False).elim
  | m, i, f + 1, h1, h2 => by
    rw [mudlarkref03_Same.l0]
    cases m with
    | zero => rw [if_neg (by omega)]
    | succ m =>
      rw [if_pos (by omega), if_pos (by omega), if_pos (by omega), if_neg (by rw [beq_self_eq_true, beq_self_eq_true]; simp), next_i i (by omega)]
      exact same_l0 l hl m (i + 1) f (by omega) (by omega)
theorem Same_self (l : List S41) (hl : l.length ≤ 1000000000000) (k : Nat) (hk : l.length + 1 ≤ k) : mudlarkref03_Same.f k l l = some true := by
  unfold mudlarkref03_Same.f
  rw [if_pos rfl]
  exact same_l0 l hl l.length 0 k (by omega) hk
end Go.Proofs.YtcbeehchhhoeeaaDoor.P
