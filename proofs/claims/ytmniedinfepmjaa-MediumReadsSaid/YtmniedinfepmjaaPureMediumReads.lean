/- MediumReads: nothing is left to lists and numbers. No conditions. -/
import Derived.Test.YtmniedinfepmjaaHReadsW
namespace Go.Proofs.Ytmniedinfepmjaa.Pure
theorem MediumReads : P.mudlarklaw06_MediumReads.Pure := trivial
end Go.Proofs.Ytmniedinfepmjaa.Pure
