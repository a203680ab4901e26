/- The pure statement of HeadParts: the walk tells it whole. No conditions. -/
import Derived.Test.YtdeolcgabkkocaaDoorHPartsW
namespace Go.Proofs.YtdeolcgabkkocaaDoor.Pure
open Go.Proofs.YtdeolcgabkkocaaDoor.P
theorem HeadParts : mudlarklaw08_HeadParts.Pure := trivial
end Go.Proofs.YtdeolcgabkkocaaDoor.Pure
