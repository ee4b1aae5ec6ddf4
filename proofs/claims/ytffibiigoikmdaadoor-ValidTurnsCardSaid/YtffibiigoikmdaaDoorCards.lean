/-
  DERIVED. GIVEN WITH THE SEED: THE CARDS: each row of YtffibiigoikmdaaDoorRows.lean that lists a variable, with what it lists TIED to the program's text (the seventh form; the later family's looks); each row that meets fmt, with fmt's text TOLD by the authors' own Lean function (tested against real Go, not proved from fmt's source: count such statements apart). THE CARD IS WHAT COUNTS. Prove the row's statement (the work); the ties are given (YtffibiigoikmdaaDoorTie.lean); close each card by the builder's one call (the guide's Derived/Test/ToyasCard.lean, 'card_holds'). Laid BY PROGRAM, IN A SANDBOX (cutbox-door.mjs). By AI agents, Wed Nov 11 2026. No macro, syntax, notation, axiom, sorry.
-/
import Derived.Test.YtffibiigoikmdaaDoorRows
import GoSem.ClaimSeven
namespace Go.Proofs.YtffibiigoikmdaaDoor
namespace Rows

/-- THE TIED CARD OF 'undertonelaw07.ValidBases'. -/
def validBasesCard : Claim7 := { stood := { row := validBasesRow, standIns := [], harness := (true, "fd13a3b5e1cab8a2120b146d254eea2d22f789cfebeee8e5d35f74afe94392c3"), looks := false }, kinds := [], alts := [], laidByText := true, laidKinds := [.data, .listed, .data, .pinned], laidTests := true, laidLooks := .later }
def ValidBasesCardSaid : Prop := Claim7.holds Tryd.pinned (.plain (OpenSpec.ofChange validBasesSpec)) validBasesCard

/-- THE TIED CARD OF 'undertonelaw07.ValidMeans'. -/
def validMeansCard : Claim7 := { stood := { row := validMeansRow, standIns := [], harness := (true, "fd13a3b5e1cab8a2120b146d254eea2d22f789cfebeee8e5d35f74afe94392c3"), looks := false }, kinds := [], alts := [], laidByText := true, laidKinds := [.data, .listed, .data, .pinned], laidTests := true, laidLooks := .later }
def ValidMeansCardSaid : Prop := Claim7.holds Tryd.pinned (.plain (OpenSpec.ofChange validMeansSpec)) validMeansCard

/-- THE TIED CARD OF 'undertonelaw07.ValidPre'. -/
def validPreCard : Claim7 := { stood := { row := validPreRow, standIns := [], harness := (true, "fd13a3b5e1cab8a2120b146d254eea2d22f789cfebeee8e5d35f74afe94392c3"), looks := false }, kinds := [], alts := [], laidByText := true, laidKinds := [.data, .listed, .data, .pinned], laidTests := true, laidLooks := .later }
def ValidPreCardSaid : Prop := Claim7.holds Tryd.pinned (.plain (OpenSpec.ofChange validPreSpec)) validPreCard

/-- THE TIED CARD OF 'undertonelaw07.ValidSeals'. -/
def validSealsCard : Claim7 := { stood := { row := validSealsRow, standIns := [], harness := (true, "fd13a3b5e1cab8a2120b146d254eea2d22f789cfebeee8e5d35f74afe94392c3"), looks := false }, kinds := [], alts := [], laidByText := true, laidKinds := [.data, .listed, .data, .pinned], laidTests := true, laidLooks := .later }
def ValidSealsCardSaid : Prop := Claim7.holds Tryd.pinned (.plain (OpenSpec.ofChange validSealsSpec)) validSealsCard

/-- THE TIED CARD OF 'undertonelaw07.ValidTurns'. -/
def validTurnsCard : Claim7 := { stood := { row := validTurnsRow, standIns := [], harness := (true, "fd13a3b5e1cab8a2120b146d254eea2d22f789cfebeee8e5d35f74afe94392c3"), looks := false }, kinds := [], alts := [], laidByText := true, laidKinds := [.data, .listed, .data, .pinned], laidTests := true, laidLooks := .later }
def ValidTurnsCardSaid : Prop := Claim7.holds Tryd.pinned (.plain (OpenSpec.ofChange validTurnsSpec)) validTurnsCard

/-- THE SECOND FORM's CARD OF 'undertonelaw07.ValidBases'. -/
def validBasesUptoCard : Claim7 := { stood := { row := validBasesUptoRow, standIns := [], harness := (true, "fd13a3b5e1cab8a2120b146d254eea2d22f789cfebeee8e5d35f74afe94392c3"), looks := false }, kinds := [], alts := [], laidByText := true, laidKinds := [.data, .listed, .data, .pinned], laidTests := true, laidLooks := .later }
def ValidBasesUptoCardSaid : Prop := Claim7.holds Tryd.pinned (.plain (OpenSpec.upto validBasesSpec)) validBasesUptoCard

/-- THE SECOND FORM's CARD OF 'undertonelaw07.ValidMeans'. -/
def validMeansUptoCard : Claim7 := { stood := { row := validMeansUptoRow, standIns := [], harness := (true, "fd13a3b5e1cab8a2120b146d254eea2d22f789cfebeee8e5d35f74afe94392c3"), looks := false }, kinds := [], alts := [], laidByText := true, laidKinds := [.data, .listed, .data, .pinned], laidTests := true, laidLooks := .later }
def ValidMeansUptoCardSaid : Prop := Claim7.holds Tryd.pinned (.plain (OpenSpec.upto validMeansSpec)) validMeansUptoCard

/-- THE SECOND FORM's CARD OF 'undertonelaw07.ValidPre'. -/
def validPreUptoCard : Claim7 := { stood := { row := validPreUptoRow, standIns := [], harness := (true, "fd13a3b5e1cab8a2120b146d254eea2d22f789cfebeee8e5d35f74afe94392c3"), looks := false }, kinds := [], alts := [], laidByText := true, laidKinds := [.data, .listed, .data, .pinned], laidTests := true, laidLooks := .later }
def ValidPreUptoCardSaid : Prop := Claim7.holds Tryd.pinned (.plain (OpenSpec.upto validPreSpec)) validPreUptoCard

/-- THE SECOND FORM's CARD OF 'undertonelaw07.ValidSeals'. -/
def validSealsUptoCard : Claim7 := { stood := { row := validSealsUptoRow, standIns := [], harness := (true, "fd13a3b5e1cab8a2120b146d254eea2d22f789cfebeee8e5d35f74afe94392c3"), looks := false }, kinds := [], alts := [], laidByText := true, laidKinds := [.data, .listed, .data, .pinned], laidTests := true, laidLooks := .later }
def ValidSealsUptoCardSaid : Prop := Claim7.holds Tryd.pinned (.plain (OpenSpec.upto validSealsSpec)) validSealsUptoCard

/-- THE SECOND FORM's CARD OF 'undertonelaw07.ValidTurns'. -/
def validTurnsUptoCard : Claim7 := { stood := { row := validTurnsUptoRow, standIns := [], harness := (true, "fd13a3b5e1cab8a2120b146d254eea2d22f789cfebeee8e5d35f74afe94392c3"), looks := false }, kinds := [], alts := [], laidByText := true, laidKinds := [.data, .listed, .data, .pinned], laidTests := true, laidLooks := .later }
def ValidTurnsUptoCardSaid : Prop := Claim7.holds Tryd.pinned (.plain (OpenSpec.upto validTurnsSpec)) validTurnsUptoCard
end Rows
end Go.Proofs.YtffibiigoikmdaaDoor
