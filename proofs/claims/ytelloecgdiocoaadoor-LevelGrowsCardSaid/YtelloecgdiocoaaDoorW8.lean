/- Walks: undertoneref05.line and Print. -/
import Derived.Test.YtelloecgdiocoaaDoorText
import Derived.Test.YtelloecgdiocoaaDoorOwn
set_option linter.unusedSimpArgs false
set_option linter.unusedVariables false
namespace Go.Proofs.YtelloecgdiocoaaDoor
open Go.RowKit

theorem drawn_bl {w W : World} (h : Bl w W) (n : Nat) : Bl w (W.drewN n) := h.drewN n

end Go.Proofs.YtelloecgdiocoaaDoor
