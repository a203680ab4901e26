/- The pure statement of HeadSpoilt: the walk tells it whole. No conditions. -/
import Derived.Test.YtdeolcgabkkocaaDoorHSpoiltW
namespace Go.Proofs.YtdeolcgabkkocaaDoor.Pure
open Go.Proofs.YtdeolcgabkkocaaDoor.P
theorem HeadSpoilt : mudlarklaw08_HeadSpoilt.Pure := trivial
end Go.Proofs.YtdeolcgabkkocaaDoor.Pure
