/-
  DERIVED. GIVEN WITH THE SEED: THE CARDS: each row of YtkcmmcgbkihpfaaDoorRows.lean that lists a variable, with what it lists TIED to the program's text (the seventh form; the later family's looks); each row that meets fmt, with fmt's text TOLD by the authors' own Lean function (tested against real Go, not proved from fmt's source: count such statements apart). THE CARD IS WHAT COUNTS. Prove the row's statement (the work); the ties are given (YtkcmmcgbkihpfaaDoorTie.lean); close each card by the builder's one call (the guide's Derived/Test/ToyasCard.lean, 'card_holds'). Laid BY PROGRAM, IN A SANDBOX (cutbox-door.mjs). By AI agents, Wed Nov 11 2026. No macro, syntax, notation, axiom, sorry.
-/
import Derived.Test.YtkcmmcgbkihpfaaDoorRows
import GoSem.ClaimSeven
namespace Go.Proofs.YtkcmmcgbkihpfaaDoor
namespace Rows

/-- THE TIED CARD OF 'undertonelaw05.TokenNames'. -/
def tokenNamesCard : Claim7 := { stood := { row := tokenNamesRow, standIns := [], harness := (true, "5f4aabf362e629dbea725461fb54fb45e76818e515145a1103628660d0ab4f74"), looks := false }, kinds := [], alts := [], laidByText := true, laidKinds := [.data, .pinned], laidTests := true, laidLooks := .later }
def TokenNamesCardSaid : Prop := Claim7.holds Tryd.pinned (.plain (OpenSpec.ofChange tokenNamesSpec)) tokenNamesCard

/-- THE TIED CARD OF 'undertonelaw05.TokenParses'. -/
def tokenParsesCard : Claim7 := { stood := { row := tokenParsesRow, standIns := [], harness := (true, "5f4aabf362e629dbea725461fb54fb45e76818e515145a1103628660d0ab4f74"), looks := false }, kinds := [], alts := [], laidByText := true, laidKinds := [.data, .pinned], laidTests := true, laidLooks := .later }
def TokenParsesCardSaid : Prop := Claim7.holds Tryd.pinned (.plain (OpenSpec.ofChange tokenParsesSpec)) tokenParsesCard

/-- THE TIED CARD OF 'undertonelaw05.TokenSame'. -/
def tokenSameCard : Claim7 := { stood := { row := tokenSameRow, standIns := [], harness := (true, "5f4aabf362e629dbea725461fb54fb45e76818e515145a1103628660d0ab4f74"), looks := false }, kinds := [], alts := [], laidByText := true, laidKinds := [.data, .pinned], laidTests := true, laidLooks := .later }
def TokenSameCardSaid : Prop := Claim7.holds Tryd.pinned (.plain (OpenSpec.ofChange tokenSameSpec)) tokenSameCard

/-- THE TIED CARD OF 'undertonelaw05.TokenApart'. -/
def tokenApartCard : Claim7 := { stood := { row := tokenApartRow, standIns := [], harness := (true, "5f4aabf362e629dbea725461fb54fb45e76818e515145a1103628660d0ab4f74"), looks := false }, kinds := [], alts := [], laidByText := true, laidKinds := [.data, .pinned], laidTests := true, laidLooks := .later }
def TokenApartCardSaid : Prop := Claim7.holds Tryd.pinned (.plain (OpenSpec.ofChange tokenApartSpec)) tokenApartCard

/-- THE TIED CARD OF 'undertonelaw05.TokenEnds'. -/
def tokenEndsCard : Claim7 := { stood := { row := tokenEndsRow, standIns := [], harness := (true, "5f4aabf362e629dbea725461fb54fb45e76818e515145a1103628660d0ab4f74"), looks := false }, kinds := [], alts := [], laidByText := true, laidKinds := [.data, .pinned], laidTests := true, laidLooks := .later }
def TokenEndsCardSaid : Prop := Claim7.holds Tryd.pinned (.plain (OpenSpec.ofChange tokenEndsSpec)) tokenEndsCard

/-- THE TIED CARD OF 'undertonelaw08.NeedKeys'. -/
def needKeysCard : Claim7 := { stood := { row := needKeysRow, standIns := [], harness := (true, "5f4aabf362e629dbea725461fb54fb45e76818e515145a1103628660d0ab4f74"), looks := false }, kinds := [], alts := [], laidByText := true, laidKinds := [.data, .listed, .data, .pinned], laidTests := true, laidLooks := .later }
def NeedKeysCardSaid : Prop := Claim7.holds Tryd.pinned (.plain (OpenSpec.ofChange needKeysSpec)) needKeysCard

/-- THE TIED CARD OF 'undertonelaw08.NeedEnough'. -/
def needEnoughCard : Claim7 := { stood := { row := needEnoughRow, standIns := [], harness := (true, "5f4aabf362e629dbea725461fb54fb45e76818e515145a1103628660d0ab4f74"), looks := false }, kinds := [], alts := [], laidByText := true, laidKinds := [.data, .listed, .data, .pinned], laidTests := true, laidLooks := .later }
def NeedEnoughCardSaid : Prop := Claim7.holds Tryd.pinned (.plain (OpenSpec.ofChange needEnoughSpec)) needEnoughCard

/-- THE TIED CARD OF 'undertonelaw08.NeedBoth'. -/
def needBothCard : Claim7 := { stood := { row := needBothRow, standIns := [], harness := (true, "5f4aabf362e629dbea725461fb54fb45e76818e515145a1103628660d0ab4f74"), looks := false }, kinds := [], alts := [], laidByText := true, laidKinds := [.data, .listed, .data, .pinned], laidTests := true, laidLooks := .later }
def NeedBothCardSaid : Prop := Claim7.holds Tryd.pinned (.plain (OpenSpec.ofChange needBothSpec)) needBothCard

/-- THE TIED CARD OF 'undertonelaw08.NeedLess'. -/
def needLessCard : Claim7 := { stood := { row := needLessRow, standIns := [], harness := (true, "5f4aabf362e629dbea725461fb54fb45e76818e515145a1103628660d0ab4f74"), looks := false }, kinds := [], alts := [], laidByText := true, laidKinds := [.data, .listed, .data, .pinned], laidTests := true, laidLooks := .later }
def NeedLessCardSaid : Prop := Claim7.holds Tryd.pinned (.plain (OpenSpec.ofChange needLessSpec)) needLessCard

/-- THE TIED CARD OF 'undertonelaw08.NeedNames'. -/
def needNamesCard : Claim7 := { stood := { row := needNamesRow, standIns := [], harness := (true, "5f4aabf362e629dbea725461fb54fb45e76818e515145a1103628660d0ab4f74"), looks := false }, kinds := [], alts := [], laidByText := true, laidKinds := [.data, .listed, .data, .pinned], laidTests := true, laidLooks := .later }
def NeedNamesCardSaid : Prop := Claim7.holds Tryd.pinned (.plain (OpenSpec.ofChange needNamesSpec)) needNamesCard

/-- THE TIED CARD OF 'undertonelaw08.NeedMore'. -/
def needMoreCard : Claim7 := { stood := { row := needMoreRow, standIns := [], harness := (true, "5f4aabf362e629dbea725461fb54fb45e76818e515145a1103628660d0ab4f74"), looks := false }, kinds := [], alts := [], laidByText := true, laidKinds := [.data, .listed, .data, .pinned], laidTests := true, laidLooks := .later }
def NeedMoreCardSaid : Prop := Claim7.holds Tryd.pinned (.plain (OpenSpec.ofChange needMoreSpec)) needMoreCard

/-- THE SECOND FORM's CARD OF 'undertonelaw05.TokenNames'. -/
def tokenNamesUptoCard : Claim7 := { stood := { row := tokenNamesUptoRow, standIns := [], harness := (true, "5f4aabf362e629dbea725461fb54fb45e76818e515145a1103628660d0ab4f74"), looks := false }, kinds := [], alts := [], laidByText := true, laidKinds := [.data, .pinned], laidTests := true, laidLooks := .later }
def TokenNamesUptoCardSaid : Prop := Claim7.holds Tryd.pinned (.plain (OpenSpec.upto tokenNamesSpec)) tokenNamesUptoCard

/-- THE SECOND FORM's CARD OF 'undertonelaw05.TokenParses'. -/
def tokenParsesUptoCard : Claim7 := { stood := { row := tokenParsesUptoRow, standIns := [], harness := (true, "5f4aabf362e629dbea725461fb54fb45e76818e515145a1103628660d0ab4f74"), looks := false }, kinds := [], alts := [], laidByText := true, laidKinds := [.data, .pinned], laidTests := true, laidLooks := .later }
def TokenParsesUptoCardSaid : Prop := Claim7.holds Tryd.pinned (.plain (OpenSpec.upto tokenParsesSpec)) tokenParsesUptoCard

/-- THE SECOND FORM's CARD OF 'undertonelaw05.TokenSame'. -/
def tokenSameUptoCard : Claim7 := { stood := { row := tokenSameUptoRow, standIns := [], harness := (true, "5f4aabf362e629dbea725461fb54fb45e76818e515145a1103628660d0ab4f74"), looks := false }, kinds := [], alts := [], laidByText := true, laidKinds := [.data, .pinned], laidTests := true, laidLooks := .later }
def TokenSameUptoCardSaid : Prop := Claim7.holds Tryd.pinned (.plain (OpenSpec.upto tokenSameSpec)) tokenSameUptoCard

/-- THE SECOND FORM's CARD OF 'undertonelaw05.TokenApart'. -/
def tokenApartUptoCard : Claim7 := { stood := { row := tokenApartUptoRow, standIns := [], harness := (true, "5f4aabf362e629dbea725461fb54fb45e76818e515145a1103628660d0ab4f74"), looks := false }, kinds := [], alts := [], laidByText := true, laidKinds := [.data, .pinned], laidTests := true, laidLooks := .later }
def TokenApartUptoCardSaid : Prop := Claim7.holds Tryd.pinned (.plain (OpenSpec.upto tokenApartSpec)) tokenApartUptoCard

/-- THE SECOND FORM's CARD OF 'undertonelaw05.TokenEnds'. -/
def tokenEndsUptoCard : Claim7 := { stood := { row := tokenEndsUptoRow, standIns := [], harness := (true, "5f4aabf362e629dbea725461fb54fb45e76818e515145a1103628660d0ab4f74"), looks := false }, kinds := [], alts := [], laidByText := true, laidKinds := [.data, .pinned], laidTests := true, laidLooks := .later }
def TokenEndsUptoCardSaid : Prop := Claim7.holds Tryd.pinned (.plain (OpenSpec.upto tokenEndsSpec)) tokenEndsUptoCard

/-- THE SECOND FORM's CARD OF 'undertonelaw08.NeedKeys'. -/
def needKeysUptoCard : Claim7 := { stood := { row := needKeysUptoRow, standIns := [], harness := (true, "5f4aabf362e629dbea725461fb54fb45e76818e515145a1103628660d0ab4f74"), looks := false }, kinds := [], alts := [], laidByText := true, laidKinds := [.data, .listed, .data, .pinned], laidTests := true, laidLooks := .later }
def NeedKeysUptoCardSaid : Prop := Claim7.holds Tryd.pinned (.plain (OpenSpec.upto needKeysSpec)) needKeysUptoCard

/-- THE SECOND FORM's CARD OF 'undertonelaw08.NeedEnough'. -/
def needEnoughUptoCard : Claim7 := { stood := { row := needEnoughUptoRow, standIns := [], harness := (true, "5f4aabf362e629dbea725461fb54fb45e76818e515145a1103628660d0ab4f74"), looks := false }, kinds := [], alts := [], laidByText := true, laidKinds := [.data, .listed, .data, .pinned], laidTests := true, laidLooks := .later }
def NeedEnoughUptoCardSaid : Prop := Claim7.holds Tryd.pinned (.plain (OpenSpec.upto needEnoughSpec)) needEnoughUptoCard

/-- THE SECOND FORM's CARD OF 'undertonelaw08.NeedBoth'. -/
def needBothUptoCard : Claim7 := { stood := { row := needBothUptoRow, standIns := [], harness := (true, "5f4aabf362e629dbea725461fb54fb45e76818e515145a1103628660d0ab4f74"), looks := false }, kinds := [], alts := [], laidByText := true, laidKinds := [.data, .listed, .data, .pinned], laidTests := true, laidLooks := .later }
def NeedBothUptoCardSaid : Prop := Claim7.holds Tryd.pinned (.plain (OpenSpec.upto needBothSpec)) needBothUptoCard

/-- THE SECOND FORM's CARD OF 'undertonelaw08.NeedLess'. -/
def needLessUptoCard : Claim7 := { stood := { row := needLessUptoRow, standIns := [], harness := (true, "5f4aabf362e629dbea725461fb54fb45e76818e515145a1103628660d0ab4f74"), looks := false }, kinds := [], alts := [], laidByText := true, laidKinds := [.data, .listed, .data, .pinned], laidTests := true, laidLooks := .later }
def NeedLessUptoCardSaid : Prop := Claim7.holds Tryd.pinned (.plain (OpenSpec.upto needLessSpec)) needLessUptoCard

/-- THE SECOND FORM's CARD OF 'undertonelaw08.NeedNames'. -/
def needNamesUptoCard : Claim7 := { stood := { row := needNamesUptoRow, standIns := [], harness := (true, "5f4aabf362e629dbea725461fb54fb45e76818e515145a1103628660d0ab4f74"), looks := false }, kinds := [], alts := [], laidByText := true, laidKinds := [.data, .listed, .data, .pinned], laidTests := true, laidLooks := .later }
def NeedNamesUptoCardSaid : Prop := Claim7.holds Tryd.pinned (.plain (OpenSpec.upto needNamesSpec)) needNamesUptoCard

/-- THE SECOND FORM's CARD OF 'undertonelaw08.NeedMore'. -/
def needMoreUptoCard : Claim7 := { stood := { row := needMoreUptoRow, standIns := [], harness := (true, "5f4aabf362e629dbea725461fb54fb45e76818e515145a1103628660d0ab4f74"), looks := false }, kinds := [], alts := [], laidByText := true, laidKinds := [.data, .listed, .data, .pinned], laidTests := true, laidLooks := .later }
def NeedMoreUptoCardSaid : Prop := Claim7.holds Tryd.pinned (.plain (OpenSpec.upto needMoreSpec)) needMoreUptoCard
end Rows
end Go.Proofs.YtkcmmcgbkihpfaaDoor
