/- What the frames of the laws share that reach base patterns: a world that holds the four listed tables; that they read so; keys as an argument. -/
import Derived.Test.YtelloecgdiocoaaDoorFrame
import Derived.Test.YtelloecgdiocoaaDoorOpen
import Derived.Test.YtelloecgdiocoaaDoorB1
import Derived.Test.YtelloecgdiocoaaDoorN1
import Derived.Deep.DeepWitnessRowRef
import Derived.Lib.LaidU8
set_option linter.unusedSimpArgs false
set_option linter.unusedVariables false
namespace Go.Proofs.YtelloecgdiocoaaDoor
open Go.ChangeShapes Go.WideShapes Go.ChangeAt Go.RowKit

theorem tabIs_of_reads {P : Program} {W : World} {name : String} {k : IntKind} {zs : List Int} {g : Nat} {t e : TypeId} {n : Nat}
    (hg : P.globalNamed name = some g) (hty : (P.globals[g]?).map (·.type) = some t) (ht : P.underlying t = some (.array n e)) (he : P.underlying e = some (.int k)) (hce : P.cellsOf e = 1) (hct : P.cellsOf t = n)
    (h : Lib.VarReads P W name (Lib.tabData k zs)) : Lib.TabIs P W name k zs := by
  obtain ⟨g', t', cs, fuel, p, hg', ht', hvar, hd⟩ := h
  obtain rfl := Option.some.inj (hg.symm.trans hg')
  obtain rfl := Option.some.inj (hty.symm.trans ht')
  unfold Lib.TabIs
  rw [hvar, ← Lib.cells_of_tab ht he hce hct hd]
theorem asciiName : Tryd.prog.globalNamed "strings.asciiSpace" = some 0 := by kernel_rfl
theorem asciiType : (Tryd.prog.globals[(0 : Nat)]?).map (·.type) = some 123 := by kernel_rfl
theorem cellsU8 : Tryd.prog.cellsOf 5 = 1 := by kernel_rfl
theorem cellsAscii : Tryd.prog.cellsOf 123 = 256 := by kernel_rfl
theorem asciiData : (Rows.laid_strings_asciiSpace : DataW Unit) = Lib.tabData .u8 Lib.asciiSpaceTab := by kernel_rfl
/-- from the row's list to what the walks ask of the world -/
theorem env_of {W : World} {l : List (String × DataW Unit)} (hE : W.ShapedOpen Tryd.prog) (hL : laidMet Tryd.prog l W) (hm : ("strings.asciiSpace", (Rows.laid_strings_asciiSpace : DataW Unit)) ∈ l) : EnvB W :=
  ⟨hE, tabIs_of_reads asciiName asciiType Tryd.underlying123 Tryd.underlying5 cellsU8 cellsAscii (by rw [← asciiData]; exact Lib.laidMet.reads hL hm)⟩

def whiteCells : Array Value := (([9, 13, 1, 32, 133, 101, 160, 5760, 5600, 8192, 8202, 1, 8232, 8233, 1, 8239, 8287, 48, 12288, 12288, 1] : List Int).map (Value.int .u16)).toArray
def asciiCells : Array Value := (Lib.asciiSpaceTab.map fun z => Value.int .u8 z).toArray
/-- the settled world with two blocks more (the ranges of unicode.White_Space; its table) -/
noncomputable def whiteWorld (os : Os) : World :=
  World.holding Tryd.prog os ⟨#[.cells whiteCells 164, .cells #[.slice (some ⟨(World.settled Tryd.prog os).heap.size, 0, none⟩) 7 7, .slice none 0 0, .int .i64 2] 161], #[], []⟩
/-- the same, the four variables holding what their initialisers lay -/
noncomputable def laidWorldN (os : Os) : World :=
  { whiteWorld os with heap := ((((whiteWorld os).heap.modify 0 (putCells asciiCells)).modify 2 (putCells firstCells)).modify 3 (putCells acceptCells)).modify 1 (putCells #[.pointer (some ⟨(World.settled Tryd.prog os).heap.size + 1, 0, none⟩)]) }

section
variable {H : Type} {enc : TypeId × Value → H} {W : World}
theorem cells_bool : Tryd.prog.cellsOf 4 = 1 := by kernel_rfl
end
end Go.Proofs.YtelloecgdiocoaaDoor
