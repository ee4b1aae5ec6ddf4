/- Walks: undertoneref07.sealing. -/
import Derived.Test.YtffibiigoikmdaaDoorR2
import Derived.Deep.DeepCutAuto
set_option linter.unusedSimpArgs false
set_option linter.unusedVariables false
namespace Go.Proofs.YtffibiigoikmdaaDoor
open Go.RowKit Go.Sort

end Go.Proofs.YtffibiigoikmdaaDoor
