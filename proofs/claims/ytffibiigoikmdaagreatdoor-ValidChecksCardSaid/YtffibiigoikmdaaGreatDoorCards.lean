/-
  DERIVED. GIVEN WITH THE SEED: THE CARDS: each row of YtffibiigoikmdaaGreatDoorRows.lean that lists a variable, with what it lists TIED to the program's text (the seventh form; the later family's looks); each row that meets fmt, with fmt's text TOLD by the authors' own Lean function (tested against real Go, not proved from fmt's source: count such statements apart). THE CARD IS WHAT COUNTS. Prove the row's statement (the work); the ties are given (YtffibiigoikmdaaGreatDoorTie.lean); close each card by the builder's one call (the guide's Derived/Test/ToyasCard.lean, 'card_holds'). Laid BY PROGRAM, IN A SANDBOX (cutbox-door.mjs). By AI agents, Wed Nov 11 2026. No macro, syntax, notation, axiom, sorry.
-/
import Derived.Test.YtffibiigoikmdaaGreatDoorRows
import GoSem.ClaimSeven
namespace Go.Proofs.YtffibiigoikmdaaGreatDoor
namespace Rows

/-- THE TIED CARD OF 'undertonelaw07.ValidChecks'. -/
def validChecksCard : Claim7 := { stood := { row := validChecksRow, standIns := [], harness := (true, "f4341d8e971f5d53e69739631775f68bda1e5d56f7bb8453fd5f7bda982f05a4"), looks := false }, kinds := [], alts := [], laidByText := true, laidKinds := [.data, .listed, .data, .pinned], laidTests := true, laidLooks := .later }
def ValidChecksCardSaid : Prop := Claim7.holds Tryz.pinned (.plain (OpenSpec.ofChange validChecksSpec)) validChecksCard

/-- THE SECOND FORM's CARD OF 'undertonelaw07.ValidChecks'. -/
def validChecksUptoCard : Claim7 := { stood := { row := validChecksUptoRow, standIns := [], harness := (true, "f4341d8e971f5d53e69739631775f68bda1e5d56f7bb8453fd5f7bda982f05a4"), looks := false }, kinds := [], alts := [], laidByText := true, laidKinds := [.data, .listed, .data, .pinned], laidTests := true, laidLooks := .later }
def ValidChecksUptoCardSaid : Prop := Claim7.holds Tryz.pinned (.plain (OpenSpec.upto validChecksSpec)) validChecksUptoCard
end Rows
end Go.Proofs.YtffibiigoikmdaaGreatDoor
