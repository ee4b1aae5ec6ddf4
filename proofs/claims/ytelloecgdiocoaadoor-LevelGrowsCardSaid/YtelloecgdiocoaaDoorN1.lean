/- Walks: need.Of. -/
import Derived.Test.YtelloecgdiocoaaDoorV9
import Derived.Test.YtelloecgdiocoaaDoorR5
import Derived.Test.YtelloecgdiocoaaDoorLib
import Derived.Deep.RegionHeld3
import Derived.Deep.DeepCutAuto
set_option linter.unusedSimpArgs false
set_option linter.unusedVariables false
namespace Go.Proofs.YtelloecgdiocoaaDoor
open Go.RowKit Go.Sort

/-- which keys there are, or are needed -/
structure Keys where
  s : Bool
  e : Bool
  rs : Bool
  re : Bool
  n : Int
deriving DecidableEq
def keyL (k : Keys) : List Value := [.bool k.s, .bool k.e, .bool k.rs, .bool k.re, .int .i64 k.n]
def keyV (k : Keys) : Value := .agg (keyL k).toArray
def zeroK : Keys := ⟨false, false, false, false, 0⟩
def badRole (r : Int) : Bool := decide (r < 0) || decide (1 < r)
/-- what one of both needs of a pattern that keeps the rules, by these tokens -/
def ofK (p : Pat) (L : List (Int × Int)) (role : Int) : Keys := ⟨told1 p L role 2, (preL p role).contains 1, (preL p (1 - role)).contains 2, (preL p (1 - role)).contains 1, met1 L 2 7⟩
def needE (p : Pat) (role : Int) : Int := if badRole role then 1 else (checkV p).2.2
def needK (p : Pat) (role : Int) : Keys := if needE p role = 0 then ofK p (allL p) role else zeroK

theorem BoxAt.cells5 {w : World} {B : Nat} {a b c d e : Value} {T : TypeId} (h : BoxAt w B [a, b, c, d, e] T) :
    w.cell? ⟨B, 0, none⟩ = some a ∧ w.cell? ⟨B, 1, none⟩ = some b ∧ w.cell? ⟨B, 2, none⟩ = some c ∧ w.cell? ⟨B, 3, none⟩ = some d ∧ w.cell? ⟨B, 4, none⟩ = some e :=
  ⟨h.cell 0 rfl, h.cell 1 rfl, h.cell 2 rfl, h.cell 3 rfl, h.cell 4 rfl⟩

end Go.Proofs.YtelloecgdiocoaaDoor
