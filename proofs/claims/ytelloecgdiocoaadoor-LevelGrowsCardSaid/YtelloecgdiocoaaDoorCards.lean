/-
  DERIVED. GIVEN WITH THE SEED: THE CARDS: each row of YtelloecgdiocoaaDoorRows.lean that lists a variable, with what it lists TIED to the program's text (the seventh form; the later family's looks); each row that meets fmt, with fmt's text TOLD by the authors' own Lean function (tested against real Go, not proved from fmt's source: count such statements apart). THE CARD IS WHAT COUNTS. Prove the row's statement (the work); the ties are given (YtelloecgdiocoaaDoorTie.lean); close each card by the builder's one call (the guide's Derived/Test/ToyasCard.lean, 'card_holds'). Laid BY PROGRAM, IN A SANDBOX (cutbox-door.mjs). By AI agents, Wed Nov 11 2026. No macro, syntax, notation, axiom, sorry.
-/
import Derived.Test.YtelloecgdiocoaaDoorRows
import GoSem.ClaimSeven
namespace Go.Proofs.YtelloecgdiocoaaDoor
namespace Rows

/-- THE TIED CARD OF 'undertonelaw09.LevelTable'. -/
def levelTableCard : Claim7 := { stood := { row := levelTableRow, standIns := [], harness := (true, "c2098856bbb951da666a6f5741933bd646c7b6bfc5ee9869ec11ce15370a0b0a"), looks := false }, kinds := [], alts := [], laidByText := true, laidKinds := [.data, .listed, .data, .pinned], laidTests := true, laidLooks := .later }
def LevelTableCardSaid : Prop := Claim7.holds Tryd.pinned (.plain (OpenSpec.ofChange levelTableSpec)) levelTableCard

/-- THE TIED CARD OF 'undertonelaw09.LevelMessages'. -/
def levelMessagesCard : Claim7 := { stood := { row := levelMessagesRow, standIns := [], harness := (true, "c2098856bbb951da666a6f5741933bd646c7b6bfc5ee9869ec11ce15370a0b0a"), looks := false }, kinds := [], alts := [], laidByText := true, laidKinds := [.data, .listed, .data, .pinned], laidTests := true, laidLooks := .later }
def LevelMessagesCardSaid : Prop := Claim7.holds Tryd.pinned (.plain (OpenSpec.ofChange levelMessagesSpec)) levelMessagesCard

/-- THE TIED CARD OF 'undertonelaw09.LevelGrows'. -/
def levelGrowsCard : Claim7 := { stood := { row := levelGrowsRow, standIns := [], harness := (true, "c2098856bbb951da666a6f5741933bd646c7b6bfc5ee9869ec11ce15370a0b0a"), looks := false }, kinds := [], alts := [], laidByText := true, laidKinds := [.data, .listed, .data, .pinned], laidTests := true, laidLooks := .later }
def LevelGrowsCardSaid : Prop := Claim7.holds Tryd.pinned (.plain (OpenSpec.ofChange levelGrowsSpec)) levelGrowsCard

/-- THE TIED CARD OF 'undertonelaw09.LevelMixes'. -/
def levelMixesCard : Claim7 := { stood := { row := levelMixesRow, standIns := [], harness := (true, "c2098856bbb951da666a6f5741933bd646c7b6bfc5ee9869ec11ce15370a0b0a"), looks := false }, kinds := [], alts := [], laidByText := true, laidKinds := [.data, .listed, .data, .pinned], laidTests := true, laidLooks := .later }
def LevelMixesCardSaid : Prop := Claim7.holds Tryd.pinned (.plain (OpenSpec.ofChange levelMixesSpec)) levelMixesCard

/-- THE TIED CARD OF 'undertonelaw09.LevelReach'. -/
def levelReachCard : Claim7 := { stood := { row := levelReachRow, standIns := [], harness := (true, "c2098856bbb951da666a6f5741933bd646c7b6bfc5ee9869ec11ce15370a0b0a"), looks := false }, kinds := [], alts := [], laidByText := true, laidKinds := [.data, .listed, .data, .pinned], laidTests := true, laidLooks := .later }
def LevelReachCardSaid : Prop := Claim7.holds Tryd.pinned (.plain (OpenSpec.ofChange levelReachSpec)) levelReachCard

/-- THE TIED CARD OF 'undertonelaw09.LevelSteps'. -/
def levelStepsCard : Claim7 := { stood := { row := levelStepsRow, standIns := [], harness := (true, "c2098856bbb951da666a6f5741933bd646c7b6bfc5ee9869ec11ce15370a0b0a"), looks := false }, kinds := [], alts := [], laidByText := true, laidKinds := [.data, .listed, .data, .pinned], laidTests := true, laidLooks := .later }
def LevelStepsCardSaid : Prop := Claim7.holds Tryd.pinned (.plain (OpenSpec.ofChange levelStepsSpec)) levelStepsCard

/-- THE TIED CARD OF 'undertonelaw09.LevelEnds'. -/
def levelEndsCard : Claim7 := { stood := { row := levelEndsRow, standIns := [], harness := (true, "c2098856bbb951da666a6f5741933bd646c7b6bfc5ee9869ec11ce15370a0b0a"), looks := false }, kinds := [], alts := [], laidByText := true, laidKinds := [.data, .listed, .data, .pinned], laidTests := true, laidLooks := .later }
def LevelEndsCardSaid : Prop := Claim7.holds Tryd.pinned (.plain (OpenSpec.ofChange levelEndsSpec)) levelEndsCard

/-- THE TIED CARD OF 'undertonelaw06.BasePsks'. -/
def basePsksCard : Claim7 := { stood := { row := basePsksRow, standIns := [], harness := (true, "c2098856bbb951da666a6f5741933bd646c7b6bfc5ee9869ec11ce15370a0b0a"), looks := false }, kinds := [], alts := [], laidByText := true, laidKinds := [.data, .listed, .data, .pinned], laidTests := true, laidLooks := .later }
def BasePsksCardSaid : Prop := Claim7.holds Tryd.pinned (.plain (OpenSpec.ofChange basePsksSpec)) basePsksCard

/-- THE TIED CARD OF 'undertonelaw06.BaseFalls'. -/
def baseFallsCard : Claim7 := { stood := { row := baseFallsRow, standIns := [], harness := (true, "c2098856bbb951da666a6f5741933bd646c7b6bfc5ee9869ec11ce15370a0b0a"), looks := false }, kinds := [], alts := [], laidByText := true, laidKinds := [.data, .listed, .data, .pinned], laidTests := true, laidLooks := .later }
def BaseFallsCardSaid : Prop := Claim7.holds Tryd.pinned (.plain (OpenSpec.ofChange baseFallsSpec)) baseFallsCard

/-- THE TIED CARD OF 'undertonelaw06.BaseRules'. -/
def baseRulesCard : Claim7 := { stood := { row := baseRulesRow, standIns := [], harness := (true, "c2098856bbb951da666a6f5741933bd646c7b6bfc5ee9869ec11ce15370a0b0a"), looks := false }, kinds := [], alts := [], laidByText := true, laidKinds := [.data, .listed, .data, .pinned], laidTests := true, laidLooks := .later }
def BaseRulesCardSaid : Prop := Claim7.holds Tryd.pinned (.plain (OpenSpec.ofChange baseRulesSpec)) baseRulesCard

/-- THE TIED CARD OF 'undertonelaw06.BaseTable'. -/
def baseTableCard : Claim7 := { stood := { row := baseTableRow, standIns := [], harness := (true, "c2098856bbb951da666a6f5741933bd646c7b6bfc5ee9869ec11ce15370a0b0a"), looks := false }, kinds := [], alts := [], laidByText := true, laidKinds := [.data, .listed, .data, .pinned], laidTests := true, laidLooks := .later }
def BaseTableCardSaid : Prop := Claim7.holds Tryd.pinned (.plain (OpenSpec.ofChange baseTableSpec)) baseTableCard

/-- THE TIED CARD OF 'undertonelaw06.BaseLetters'. -/
def baseLettersCard : Claim7 := { stood := { row := baseLettersRow, standIns := [], harness := (true, "c2098856bbb951da666a6f5741933bd646c7b6bfc5ee9869ec11ce15370a0b0a"), looks := false }, kinds := [], alts := [], laidByText := true, laidKinds := [.data, .listed, .data, .pinned], laidTests := true, laidLooks := .later }
def BaseLettersCardSaid : Prop := Claim7.holds Tryd.pinned (.plain (OpenSpec.ofChange baseLettersSpec)) baseLettersCard

/-- THE SECOND FORM's CARD OF 'undertonelaw09.LevelTable'. -/
def levelTableUptoCard : Claim7 := { stood := { row := levelTableUptoRow, standIns := [], harness := (true, "c2098856bbb951da666a6f5741933bd646c7b6bfc5ee9869ec11ce15370a0b0a"), looks := false }, kinds := [], alts := [], laidByText := true, laidKinds := [.data, .listed, .data, .pinned], laidTests := true, laidLooks := .later }
def LevelTableUptoCardSaid : Prop := Claim7.holds Tryd.pinned (.plain (OpenSpec.upto levelTableSpec)) levelTableUptoCard

/-- THE SECOND FORM's CARD OF 'undertonelaw09.LevelMessages'. -/
def levelMessagesUptoCard : Claim7 := { stood := { row := levelMessagesUptoRow, standIns := [], harness := (true, "c2098856bbb951da666a6f5741933bd646c7b6bfc5ee9869ec11ce15370a0b0a"), looks := false }, kinds := [], alts := [], laidByText := true, laidKinds := [.data, .listed, .data, .pinned], laidTests := true, laidLooks := .later }
def LevelMessagesUptoCardSaid : Prop := Claim7.holds Tryd.pinned (.plain (OpenSpec.upto levelMessagesSpec)) levelMessagesUptoCard

/-- THE SECOND FORM's CARD OF 'undertonelaw09.LevelGrows'. -/
def levelGrowsUptoCard : Claim7 := { stood := { row := levelGrowsUptoRow, standIns := [], harness := (true, "c2098856bbb951da666a6f5741933bd646c7b6bfc5ee9869ec11ce15370a0b0a"), looks := false }, kinds := [], alts := [], laidByText := true, laidKinds := [.data, .listed, .data, .pinned], laidTests := true, laidLooks := .later }
def LevelGrowsUptoCardSaid : Prop := Claim7.holds Tryd.pinned (.plain (OpenSpec.upto levelGrowsSpec)) levelGrowsUptoCard

/-- THE SECOND FORM's CARD OF 'undertonelaw09.LevelMixes'. -/
def levelMixesUptoCard : Claim7 := { stood := { row := levelMixesUptoRow, standIns := [], harness := (true, "c2098856bbb951da666a6f5741933bd646c7b6bfc5ee9869ec11ce15370a0b0a"), looks := false }, kinds := [], alts := [], laidByText := true, laidKinds := [.data, .listed, .data, .pinned], laidTests := true, laidLooks := .later }
def LevelMixesUptoCardSaid : Prop := Claim7.holds Tryd.pinned (.plain (OpenSpec.upto levelMixesSpec)) levelMixesUptoCard

/-- THE SECOND FORM's CARD OF 'undertonelaw09.LevelReach'. -/
def levelReachUptoCard : Claim7 := { stood := { row := levelReachUptoRow, standIns := [], harness := (true, "c2098856bbb951da666a6f5741933bd646c7b6bfc5ee9869ec11ce15370a0b0a"), looks := false }, kinds := [], alts := [], laidByText := true, laidKinds := [.data, .listed, .data, .pinned], laidTests := true, laidLooks := .later }
def LevelReachUptoCardSaid : Prop := Claim7.holds Tryd.pinned (.plain (OpenSpec.upto levelReachSpec)) levelReachUptoCard

/-- THE SECOND FORM's CARD OF 'undertonelaw09.LevelSteps'. -/
def levelStepsUptoCard : Claim7 := { stood := { row := levelStepsUptoRow, standIns := [], harness := (true, "c2098856bbb951da666a6f5741933bd646c7b6bfc5ee9869ec11ce15370a0b0a"), looks := false }, kinds := [], alts := [], laidByText := true, laidKinds := [.data, .listed, .data, .pinned], laidTests := true, laidLooks := .later }
def LevelStepsUptoCardSaid : Prop := Claim7.holds Tryd.pinned (.plain (OpenSpec.upto levelStepsSpec)) levelStepsUptoCard

/-- THE SECOND FORM's CARD OF 'undertonelaw09.LevelEnds'. -/
def levelEndsUptoCard : Claim7 := { stood := { row := levelEndsUptoRow, standIns := [], harness := (true, "c2098856bbb951da666a6f5741933bd646c7b6bfc5ee9869ec11ce15370a0b0a"), looks := false }, kinds := [], alts := [], laidByText := true, laidKinds := [.data, .listed, .data, .pinned], laidTests := true, laidLooks := .later }
def LevelEndsUptoCardSaid : Prop := Claim7.holds Tryd.pinned (.plain (OpenSpec.upto levelEndsSpec)) levelEndsUptoCard

/-- THE SECOND FORM's CARD OF 'undertonelaw06.BasePsks'. -/
def basePsksUptoCard : Claim7 := { stood := { row := basePsksUptoRow, standIns := [], harness := (true, "c2098856bbb951da666a6f5741933bd646c7b6bfc5ee9869ec11ce15370a0b0a"), looks := false }, kinds := [], alts := [], laidByText := true, laidKinds := [.data, .listed, .data, .pinned], laidTests := true, laidLooks := .later }
def BasePsksUptoCardSaid : Prop := Claim7.holds Tryd.pinned (.plain (OpenSpec.upto basePsksSpec)) basePsksUptoCard

/-- THE SECOND FORM's CARD OF 'undertonelaw06.BaseFalls'. -/
def baseFallsUptoCard : Claim7 := { stood := { row := baseFallsUptoRow, standIns := [], harness := (true, "c2098856bbb951da666a6f5741933bd646c7b6bfc5ee9869ec11ce15370a0b0a"), looks := false }, kinds := [], alts := [], laidByText := true, laidKinds := [.data, .listed, .data, .pinned], laidTests := true, laidLooks := .later }
def BaseFallsUptoCardSaid : Prop := Claim7.holds Tryd.pinned (.plain (OpenSpec.upto baseFallsSpec)) baseFallsUptoCard

/-- THE SECOND FORM's CARD OF 'undertonelaw06.BaseRules'. -/
def baseRulesUptoCard : Claim7 := { stood := { row := baseRulesUptoRow, standIns := [], harness := (true, "c2098856bbb951da666a6f5741933bd646c7b6bfc5ee9869ec11ce15370a0b0a"), looks := false }, kinds := [], alts := [], laidByText := true, laidKinds := [.data, .listed, .data, .pinned], laidTests := true, laidLooks := .later }
def BaseRulesUptoCardSaid : Prop := Claim7.holds Tryd.pinned (.plain (OpenSpec.upto baseRulesSpec)) baseRulesUptoCard

/-- THE SECOND FORM's CARD OF 'undertonelaw06.BaseTable'. -/
def baseTableUptoCard : Claim7 := { stood := { row := baseTableUptoRow, standIns := [], harness := (true, "c2098856bbb951da666a6f5741933bd646c7b6bfc5ee9869ec11ce15370a0b0a"), looks := false }, kinds := [], alts := [], laidByText := true, laidKinds := [.data, .listed, .data, .pinned], laidTests := true, laidLooks := .later }
def BaseTableUptoCardSaid : Prop := Claim7.holds Tryd.pinned (.plain (OpenSpec.upto baseTableSpec)) baseTableUptoCard

/-- THE SECOND FORM's CARD OF 'undertonelaw06.BaseLetters'. -/
def baseLettersUptoCard : Claim7 := { stood := { row := baseLettersUptoRow, standIns := [], harness := (true, "c2098856bbb951da666a6f5741933bd646c7b6bfc5ee9869ec11ce15370a0b0a"), looks := false }, kinds := [], alts := [], laidByText := true, laidKinds := [.data, .listed, .data, .pinned], laidTests := true, laidLooks := .later }
def BaseLettersUptoCardSaid : Prop := Claim7.holds Tryd.pinned (.plain (OpenSpec.upto baseLettersSpec)) baseLettersUptoCard
end Rows
end Go.Proofs.YtelloecgdiocoaaDoor
