/- Walks: valid's state: sealing, of both. -/
import Derived.Test.YtelloecgdiocoaaDoorV2a
import Derived.Test.YtelloecgdiocoaaDoorV2b
set_option linter.unusedSimpArgs false
set_option linter.unusedVariables false
namespace Go.Proofs.YtelloecgdiocoaaDoor
open Go.RowKit Go.Sort

theorem sealing_any (s : St) (who : Int) (hw : who = 0 ∨ who = 1) (B : Nat) (w : World) (hb : BoxAt w B (stV s) 106) :
    Calls Tryd.prog 96 #[.pointer (some ⟨B, 0, none⟩), .int .i64 who] w fun e w' => e = .returned (.int .i64 (sealS s who)) ∧ Bl w w' := by
  rcases hw with rfl | rfl
  · exact sealing0_any s B w hb
  · exact sealing1_any s B w hb
end Go.Proofs.YtelloecgdiocoaaDoor
