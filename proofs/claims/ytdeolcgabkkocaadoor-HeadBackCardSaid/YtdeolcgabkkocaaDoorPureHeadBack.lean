/- The pure statement of HeadBack: the walk tells it whole. No conditions. -/
import Derived.Test.YtdeolcgabkkocaaDoorHBackW
namespace Go.Proofs.YtdeolcgabkkocaaDoor.Pure
open Go.Proofs.YtdeolcgabkkocaaDoor.P
theorem HeadBack : mudlarklaw08_HeadBack.Pure := trivial
end Go.Proofs.YtdeolcgabkkocaaDoor.Pure
