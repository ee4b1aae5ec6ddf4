/- Walks: undertoneref07.one. -/
import Derived.Test.YtffibiigoikmdaaDoorR3
set_option linter.unusedSimpArgs false
set_option linter.unusedVariables false
namespace Go.Proofs.YtffibiigoikmdaaDoor
open Go.RowKit Go.Sort

theorem toldN_any (v : Value) (p : Pat) (w : World) (h : SP w v p) (hs : Small p) (who t : Int) (i k : Nat) (hw : who = 0 ∨ who = 1) :
    Calls Tryd.prog 17 #[v, .int .i64 who, .int .i64 t, .int .i64 i, .int .i64 k] w fun e w' => e = .returned (.bool (told1 p (aheadL p i k) who t)) ∧ Bl w w' :=
  told_any' v p w h hs who t i k hw (by omega) (by omega)
theorem metZN_any (v : Value) (p : Pat) (w : World) (h : SP w v p) (hs : Small p) (who t : Int) (i k : Nat) (hz : decide (0 < met1 (aheadL p i k) who t) = false) :
    Calls Tryd.prog 15 #[v, .int .i64 who, .int .i64 t, .int .i64 i, .int .i64 k] w fun e w' => e = .returned (.int .i64 0) ∧ Bl w w' :=
  metZ_any v p w h hs who t i k (by omega) (by omega) hz
theorem metPN_any (v : Value) (p : Pat) (w : World) (h : SP w v p) (hs : Small p) (who t : Int) (i k : Nat) (hz : decide (0 < met1 (aheadL p i k) who t) = true) :
    Calls Tryd.prog 15 #[v, .int .i64 who, .int .i64 t, .int .i64 i, .int .i64 k] w fun e w' => ∃ n : Nat, e = .returned (.int .i64 n) ∧ 0 < n ∧ Bl w w' :=
  metP_any v p w h hs who t i k (by omega) (by omega) hz

end Go.Proofs.YtffibiigoikmdaaDoor
