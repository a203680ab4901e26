/- The pure statement of HeadParses: the walk tells it whole. No conditions. -/
import Derived.Test.YtkfcfbggojmfkaaGreatDoorHRefPb
namespace Go.Proofs.YtkfcfbggojmfkaaGreatDoor.Pure
open Go.Proofs.YtkfcfbggojmfkaaGreatDoor.P
theorem HeadParses : mudlarklaw08_HeadParses.Pure := trivial
end Go.Proofs.YtkfcfbggojmfkaaGreatDoor.Pure
