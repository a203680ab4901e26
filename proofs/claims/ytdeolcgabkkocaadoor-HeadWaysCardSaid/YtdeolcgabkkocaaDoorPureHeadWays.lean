/- The pure statement of HeadWays: the walk tells it whole. No conditions. -/
import Derived.Test.YtdeolcgabkkocaaDoorHWaysW
namespace Go.Proofs.YtdeolcgabkkocaaDoor.Pure
open Go.Proofs.YtdeolcgabkkocaaDoor.P
theorem HeadWays : mudlarklaw08_HeadWays.Pure := trivial
end Go.Proofs.YtdeolcgabkkocaaDoor.Pure
