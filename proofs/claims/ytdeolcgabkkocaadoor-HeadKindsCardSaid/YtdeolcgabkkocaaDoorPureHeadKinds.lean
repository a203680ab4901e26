/- The pure statement of HeadKinds: the walk tells it whole. No conditions. -/
import Derived.Test.YtdeolcgabkkocaaDoorHKindsW
namespace Go.Proofs.YtdeolcgabkkocaaDoor.Pure
open Go.Proofs.YtdeolcgabkkocaaDoor.P
theorem HeadKinds : mudlarklaw08_HeadKinds.Pure := trivial
end Go.Proofs.YtdeolcgabkkocaaDoor.Pure
