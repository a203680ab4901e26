/- MediumRest: nothing is left to lists and numbers. No conditions. -/
import Derived.Test.YtmniedinfepmjaaHRestW
namespace Go.Proofs.Ytmniedinfepmjaa.Pure
theorem MediumRest : P.mudlarklaw06_MediumRest.Pure := trivial
end Go.Proofs.Ytmniedinfepmjaa.Pure
