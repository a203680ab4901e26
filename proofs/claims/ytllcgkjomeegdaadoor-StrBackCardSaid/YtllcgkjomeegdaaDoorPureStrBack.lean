/- StrBack is walked whole (HBack): nothing is left to show here. No conditions. -/
import Derived.Test.YtllcgkjomeegdaaDoorHBack
namespace Go.Proofs.YtllcgkjomeegdaaDoor.Pure
open Go.Proofs.YtllcgkjomeegdaaDoor.P
theorem StrBack : mudlarklaw02_StrBack.Pure := trivial
end Go.Proofs.YtllcgkjomeegdaaDoor.Pure
