/- StampPrints: its one pure statement, and the walk behind it. No conditions. -/
import Derived.Test.YtalfgbdmenccnaaDoorHWPrints
import Derived.Test.YtalfgbdmenccnaaDoorHPair
namespace Go.Proofs.YtalfgbdmenccnaaDoor.P
open Go Go.RowKit
def mudlarklaw04_StampPrints.Pure : Prop := ∀ (a0_0 a0_1 a1_0 a1_1 a2 a3 : Int), ∃ k, mudlarklaw04_StampPrints.f k a0_0 a0_1 a1_0 a1_1 a2 a3 = some true
theorem mudlarklaw04_StampPrints.walk (P : mudlarklaw04_StampPrints.Pure) (a0_0 a0_1 a1_0 a1_1 a2 a3 : Int) (w : World) (_w2 : (Lit.int .u32 a2).wf = true) (_w3 : (Lit.int .i16 a3).wf = true) (HT_ : Tabs w) :
    Calls Tryd.prog 7 #[.agg #[.int .i64 a0_0, .int .i64 a0_1], .agg #[.int .i64 a1_0, .int .i64 a1_1], .int .u32 a2, .int .i16 a3] w fun e w' => e = .returned (.bool true) ∧ Below w.heap.size w w' := by
  obtain ⟨k, h⟩ := P a0_0 a0_1 a1_0 a1_1 a2 a3
  exact mudlarklaw04_StampPrints.calls k a0_0 a0_1 a1_0 a1_1 a2 a3 true w h HT_
end Go.Proofs.YtalfgbdmenccnaaDoor.P
