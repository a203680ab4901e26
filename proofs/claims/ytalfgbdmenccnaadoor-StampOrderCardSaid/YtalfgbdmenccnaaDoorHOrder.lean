/- StampOrder: its one pure statement, and the walk behind it. No conditions. -/
import Derived.Test.YtalfgbdmenccnaaDoorHWOrder
import Derived.Test.YtalfgbdmenccnaaDoorHPair
namespace Go.Proofs.YtalfgbdmenccnaaDoor.P
open Go Go.RowKit
def mudlarklaw04_StampOrder.Pure : Prop := ∀ (a0_0 a0_1 a1_0 a1_1 a2_0 a2_1 : Int), ∃ k, mudlarklaw04_StampOrder.f k a0_0 a0_1 a1_0 a1_1 a2_0 a2_1 = some true
theorem mudlarklaw04_StampOrder.walk (P : mudlarklaw04_StampOrder.Pure) (a0_0 a0_1 a1_0 a1_1 a2_0 a2_1 : Int) (w : World) (HT_ : Tabs w) :
    Calls Tryd.prog 8 #[.agg #[.int .i64 a0_0, .int .i64 a0_1], .agg #[.int .i64 a1_0, .int .i64 a1_1], .agg #[.int .i64 a2_0, .int .i64 a2_1]] w fun e w' => e = .returned (.bool true) ∧ Below w.heap.size w w' := by
  obtain ⟨k, h⟩ := P a0_0 a0_1 a1_0 a1_1 a2_0 a2_1
  exact mudlarklaw04_StampOrder.calls k a0_0 a0_1 a1_0 a1_1 a2_0 a2_1 true w h HT_
end Go.Proofs.YtalfgbdmenccnaaDoor.P
