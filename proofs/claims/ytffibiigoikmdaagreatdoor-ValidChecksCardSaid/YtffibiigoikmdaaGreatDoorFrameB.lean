/- What the frames of the laws need besides that reach names: utf8's two tables, from the row's list. -/
import Derived.Test.YtffibiigoikmdaaGreatDoorFrameN
import Derived.Test.YtffibiigoikmdaaGreatDoorB10
set_option linter.unusedSimpArgs false
set_option linter.unusedVariables false
namespace Go.Proofs.YtffibiigoikmdaaGreatDoor
open Go.ChangeShapes Go.WideShapes Go.ChangeAt Go.RowKit

theorem firstData0 : (Rows.laid_unicode_utf8_first : DataW Unit) = Lib.firstData := by kernel_rfl
theorem acceptData0 : (Rows.laid_unicode_utf8_acceptRanges : DataW Unit) = Lib.acceptData := by kernel_rfl
theorem u8extra : Go.Proofs.U8Extra Tryz.prog Tryz.lays260_ren where
  n3 := by kernel_rfl
  n4 := by kernel_rfl
  y3 := by kernel_rfl
  y4 := by kernel_rfl
  c5 := by kernel_rfl
  c119 := by kernel_rfl
  c138 := by kernel_rfl
/-- from the row's list to what the walks ask of the world -/
theorem envU_of {W : World} {l : List (String × DataW Unit)} (hE : W.ShapedOpen Tryz.prog) (hL : laidMet Tryz.prog l W) (hm : ("strings.asciiSpace", (Rows.laid_strings_asciiSpace : DataW Unit)) ∈ l)
    (h3 : ("unicode/utf8.first", (Rows.laid_unicode_utf8_first : DataW Unit)) ∈ l) (h4 : ("unicode/utf8.acceptRanges", (Rows.laid_unicode_utf8_acceptRanges : DataW Unit)) ∈ l) : Env W :=
  ⟨hE, (env_of hE hL hm).space, Go.Proofs.utf8Tabs_of_reads Tryz.lays260 u8extra (by rw [← firstData0]; exact Lib.laidMet.reads hL h3) (by rw [← acceptData0]; exact Lib.laidMet.reads hL h4)⟩
end Go.Proofs.YtffibiigoikmdaaGreatDoor
