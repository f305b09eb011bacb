/-
  DERIVED. GIVEN WITH THE SEED: THE CARDS: each row of YtencimfeipglaaaDoorRows.lean that lists a variable, with what it lists TIED to the program's text (the seventh form; the later family's looks); each row that meets fmt, with fmt's text TOLD by the authors' own Lean function (tested against real Go, not proved from fmt's source: count such statements apart). THE CARD IS WHAT COUNTS. Prove the row's statement (the work); the ties are given (YtencimfeipglaaaDoorTie.lean); close each card by the builder's one call (the guide's Derived/Test/ToyasCard.lean, 'card_holds'). Laid BY PROGRAM, IN A SANDBOX (cutbox-door.mjs). By AI agents, Wed Nov 11 2026. No macro, syntax, notation, axiom, sorry.
-/
import Derived.Test.YtencimfeipglaaaDoorRows
import GoSem.ClaimSeven
namespace Go.Proofs.YtencimfeipglaaaDoor
namespace Rows

/-- THE TIED CARD OF 'tipstafflaw17.RuleAll'. -/
def ruleAllCard : Claim7 := { stood := { row := ruleAllRow, standIns := [], harness := (true, "0ac46a6f8b0832c90fc4a23968d99f973810c906d2da59c2bacee0b1ca9c7273"), looks := true }, kinds := [], alts := [], laidByText := true, laidKinds := [.data, .data, .data, .data, .sentinel, .sentinel, .pinned], laidTests := true, laidLooks := .later }
def RuleAllCardSaid : Prop := Claim7.holds Tryd.pinned (.plain (OpenSpec.ofChange ruleAllSpec)) ruleAllCard

/-- THE TIED CARD OF 'tipstafflaw17.RuleCommands'. -/
def ruleCommandsCard : Claim7 := { stood := { row := ruleCommandsRow, standIns := [], harness := (true, "0ac46a6f8b0832c90fc4a23968d99f973810c906d2da59c2bacee0b1ca9c7273"), looks := true }, kinds := [], alts := [], laidByText := true, laidKinds := [.data, .data, .data, .data, .sentinel, .sentinel, .pinned], laidTests := true, laidLooks := .later }
def RuleCommandsCardSaid : Prop := Claim7.holds Tryd.pinned (.plain (OpenSpec.ofChange ruleCommandsSpec)) ruleCommandsCard

/-- THE TIED CARD OF 'tipstafflaw17.RulePatterns'. -/
def rulePatternsCard : Claim7 := { stood := { row := rulePatternsRow, standIns := [], harness := (true, "0ac46a6f8b0832c90fc4a23968d99f973810c906d2da59c2bacee0b1ca9c7273"), looks := true }, kinds := [], alts := [], laidByText := true, laidKinds := [.data, .data, .data, .data, .sentinel, .sentinel, .pinned], laidTests := true, laidLooks := .later }
def RulePatternsCardSaid : Prop := Claim7.holds Tryd.pinned (.plain (OpenSpec.ofChange rulePatternsSpec)) rulePatternsCard

/-- THE TIED CARD OF 'tipstafflaw17.RuleRecords'. -/
def ruleRecordsCard : Claim7 := { stood := { row := ruleRecordsRow, standIns := [], harness := (true, "0ac46a6f8b0832c90fc4a23968d99f973810c906d2da59c2bacee0b1ca9c7273"), looks := true }, kinds := [], alts := [], laidByText := true, laidKinds := [.data, .data, .data, .data, .sentinel, .sentinel, .pinned], laidTests := true, laidLooks := .later }
def RuleRecordsCardSaid : Prop := Claim7.holds Tryd.pinned (.plain (OpenSpec.ofChange ruleRecordsSpec)) ruleRecordsCard

/-- THE TIED CARD OF 'tipstafflaw03.MacAll'. -/
def macAllCard : Claim7 := { stood := { row := macAllRow, standIns := [], harness := (true, "0ac46a6f8b0832c90fc4a23968d99f973810c906d2da59c2bacee0b1ca9c7273"), looks := true }, kinds := [], alts := [], laidByText := true, laidKinds := [.data, .data, .data, .data, .sentinel, .sentinel, .pinned], laidTests := true, laidLooks := .later }
def MacAllCardSaid : Prop := Claim7.holds Tryd.pinned (.plain (OpenSpec.ofChange macAllSpec)) macAllCard

/-- THE TIED CARD OF 'tipstafflaw03.MacSame'. -/
def macSameCard : Claim7 := { stood := { row := macSameRow, standIns := [], harness := (true, "0ac46a6f8b0832c90fc4a23968d99f973810c906d2da59c2bacee0b1ca9c7273"), looks := true }, kinds := [], alts := [], laidByText := true, laidKinds := [.data, .data, .data, .data, .sentinel, .sentinel, .pinned], laidTests := true, laidLooks := .later }
def MacSameCardSaid : Prop := Claim7.holds Tryd.pinned (.plain (OpenSpec.ofChange macSameSpec)) macSameCard

/-- THE TIED CARD OF 'tipstafflaw03.MacRounds'. -/
def macRoundsCard : Claim7 := { stood := { row := macRoundsRow, standIns := [], harness := (true, "0ac46a6f8b0832c90fc4a23968d99f973810c906d2da59c2bacee0b1ca9c7273"), looks := true }, kinds := [], alts := [], laidByText := true, laidKinds := [.data, .data, .data, .data, .sentinel, .sentinel, .pinned], laidTests := true, laidLooks := .later }
def MacRoundsCardSaid : Prop := Claim7.holds Tryd.pinned (.plain (OpenSpec.ofChange macRoundsSpec)) macRoundsCard

/-- THE TIED CARD OF 'tipstafflaw03.MacPads'. -/
def macPadsCard : Claim7 := { stood := { row := macPadsRow, standIns := [], harness := (true, "0ac46a6f8b0832c90fc4a23968d99f973810c906d2da59c2bacee0b1ca9c7273"), looks := true }, kinds := [], alts := [], laidByText := true, laidKinds := [.data, .data, .data, .data, .sentinel, .sentinel, .pinned], laidTests := true, laidLooks := .later }
def MacPadsCardSaid : Prop := Claim7.holds Tryd.pinned (.plain (OpenSpec.ofChange macPadsSpec)) macPadsCard

/-- THE TIED CARD OF 'tipstafflaw03.MacRecords'. -/
def macRecordsCard : Claim7 := { stood := { row := macRecordsRow, standIns := [], harness := (true, "0ac46a6f8b0832c90fc4a23968d99f973810c906d2da59c2bacee0b1ca9c7273"), looks := true }, kinds := [], alts := [], laidByText := true, laidKinds := [.data, .data, .data, .data, .sentinel, .sentinel, .pinned], laidTests := true, laidLooks := .later }
def MacRecordsCardSaid : Prop := Claim7.holds Tryd.pinned (.plain (OpenSpec.ofChange macRecordsSpec)) macRecordsCard

/-- THE TIED CARD OF 'tipstafflaw03.MacChecks'. -/
def macChecksCard : Claim7 := { stood := { row := macChecksRow, standIns := [], harness := (true, "0ac46a6f8b0832c90fc4a23968d99f973810c906d2da59c2bacee0b1ca9c7273"), looks := true }, kinds := [], alts := [], laidByText := true, laidKinds := [.data, .data, .data, .data, .sentinel, .sentinel, .pinned], laidTests := true, laidLooks := .later }
def MacChecksCardSaid : Prop := Claim7.holds Tryd.pinned (.plain (OpenSpec.ofChange macChecksSpec)) macChecksCard

/-- THE TIED CARD OF 'tipstafflaw03.MacShapes'. -/
def macShapesCard : Claim7 := { stood := { row := macShapesRow, standIns := [], harness := (true, "0ac46a6f8b0832c90fc4a23968d99f973810c906d2da59c2bacee0b1ca9c7273"), looks := true }, kinds := [], alts := [], laidByText := true, laidKinds := [.data, .data, .data, .data, .sentinel, .sentinel, .pinned], laidTests := true, laidLooks := .later }
def MacShapesCardSaid : Prop := Claim7.holds Tryd.pinned (.plain (OpenSpec.ofChange macShapesSpec)) macShapesCard

/-- THE SECOND FORM's CARD OF 'tipstafflaw17.RuleAll'. -/
def ruleAllUptoCard : Claim7 := { stood := { row := ruleAllUptoRow, standIns := [], harness := (true, "0ac46a6f8b0832c90fc4a23968d99f973810c906d2da59c2bacee0b1ca9c7273"), looks := true }, kinds := [], alts := [], laidByText := true, laidKinds := [.data, .data, .data, .data, .sentinel, .sentinel, .pinned], laidTests := true, laidLooks := .later }
def RuleAllUptoCardSaid : Prop := Claim7.holds Tryd.pinned (.plain (OpenSpec.upto ruleAllSpec)) ruleAllUptoCard

/-- THE SECOND FORM's CARD OF 'tipstafflaw17.RuleCommands'. -/
def ruleCommandsUptoCard : Claim7 := { stood := { row := ruleCommandsUptoRow, standIns := [], harness := (true, "0ac46a6f8b0832c90fc4a23968d99f973810c906d2da59c2bacee0b1ca9c7273"), looks := true }, kinds := [], alts := [], laidByText := true, laidKinds := [.data, .data, .data, .data, .sentinel, .sentinel, .pinned], laidTests := true, laidLooks := .later }
def RuleCommandsUptoCardSaid : Prop := Claim7.holds Tryd.pinned (.plain (OpenSpec.upto ruleCommandsSpec)) ruleCommandsUptoCard

/-- THE SECOND FORM's CARD OF 'tipstafflaw17.RulePatterns'. -/
def rulePatternsUptoCard : Claim7 := { stood := { row := rulePatternsUptoRow, standIns := [], harness := (true, "0ac46a6f8b0832c90fc4a23968d99f973810c906d2da59c2bacee0b1ca9c7273"), looks := true }, kinds := [], alts := [], laidByText := true, laidKinds := [.data, .data, .data, .data, .sentinel, .sentinel, .pinned], laidTests := true, laidLooks := .later }
def RulePatternsUptoCardSaid : Prop := Claim7.holds Tryd.pinned (.plain (OpenSpec.upto rulePatternsSpec)) rulePatternsUptoCard

/-- THE SECOND FORM's CARD OF 'tipstafflaw17.RuleRecords'. -/
def ruleRecordsUptoCard : Claim7 := { stood := { row := ruleRecordsUptoRow, standIns := [], harness := (true, "0ac46a6f8b0832c90fc4a23968d99f973810c906d2da59c2bacee0b1ca9c7273"), looks := true }, kinds := [], alts := [], laidByText := true, laidKinds := [.data, .data, .data, .data, .sentinel, .sentinel, .pinned], laidTests := true, laidLooks := .later }
def RuleRecordsUptoCardSaid : Prop := Claim7.holds Tryd.pinned (.plain (OpenSpec.upto ruleRecordsSpec)) ruleRecordsUptoCard

/-- THE SECOND FORM's CARD OF 'tipstafflaw03.MacAll'. -/
def macAllUptoCard : Claim7 := { stood := { row := macAllUptoRow, standIns := [], harness := (true, "0ac46a6f8b0832c90fc4a23968d99f973810c906d2da59c2bacee0b1ca9c7273"), looks := true }, kinds := [], alts := [], laidByText := true, laidKinds := [.data, .data, .data, .data, .sentinel, .sentinel, .pinned], laidTests := true, laidLooks := .later }
def MacAllUptoCardSaid : Prop := Claim7.holds Tryd.pinned (.plain (OpenSpec.upto macAllSpec)) macAllUptoCard

/-- THE SECOND FORM's CARD OF 'tipstafflaw03.MacSame'. -/
def macSameUptoCard : Claim7 := { stood := { row := macSameUptoRow, standIns := [], harness := (true, "0ac46a6f8b0832c90fc4a23968d99f973810c906d2da59c2bacee0b1ca9c7273"), looks := true }, kinds := [], alts := [], laidByText := true, laidKinds := [.data, .data, .data, .data, .sentinel, .sentinel, .pinned], laidTests := true, laidLooks := .later }
def MacSameUptoCardSaid : Prop := Claim7.holds Tryd.pinned (.plain (OpenSpec.upto macSameSpec)) macSameUptoCard

/-- THE SECOND FORM's CARD OF 'tipstafflaw03.MacRounds'. -/
def macRoundsUptoCard : Claim7 := { stood := { row := macRoundsUptoRow, standIns := [], harness := (true, "0ac46a6f8b0832c90fc4a23968d99f973810c906d2da59c2bacee0b1ca9c7273"), looks := true }, kinds := [], alts := [], laidByText := true, laidKinds := [.data, .data, .data, .data, .sentinel, .sentinel, .pinned], laidTests := true, laidLooks := .later }
def MacRoundsUptoCardSaid : Prop := Claim7.holds Tryd.pinned (.plain (OpenSpec.upto macRoundsSpec)) macRoundsUptoCard

/-- THE SECOND FORM's CARD OF 'tipstafflaw03.MacPads'. -/
def macPadsUptoCard : Claim7 := { stood := { row := macPadsUptoRow, standIns := [], harness := (true, "0ac46a6f8b0832c90fc4a23968d99f973810c906d2da59c2bacee0b1ca9c7273"), looks := true }, kinds := [], alts := [], laidByText := true, laidKinds := [.data, .data, .data, .data, .sentinel, .sentinel, .pinned], laidTests := true, laidLooks := .later }
def MacPadsUptoCardSaid : Prop := Claim7.holds Tryd.pinned (.plain (OpenSpec.upto macPadsSpec)) macPadsUptoCard

/-- THE SECOND FORM's CARD OF 'tipstafflaw03.MacRecords'. -/
def macRecordsUptoCard : Claim7 := { stood := { row := macRecordsUptoRow, standIns := [], harness := (true, "0ac46a6f8b0832c90fc4a23968d99f973810c906d2da59c2bacee0b1ca9c7273"), looks := true }, kinds := [], alts := [], laidByText := true, laidKinds := [.data, .data, .data, .data, .sentinel, .sentinel, .pinned], laidTests := true, laidLooks := .later }
def MacRecordsUptoCardSaid : Prop := Claim7.holds Tryd.pinned (.plain (OpenSpec.upto macRecordsSpec)) macRecordsUptoCard

/-- THE SECOND FORM's CARD OF 'tipstafflaw03.MacChecks'. -/
def macChecksUptoCard : Claim7 := { stood := { row := macChecksUptoRow, standIns := [], harness := (true, "0ac46a6f8b0832c90fc4a23968d99f973810c906d2da59c2bacee0b1ca9c7273"), looks := true }, kinds := [], alts := [], laidByText := true, laidKinds := [.data, .data, .data, .data, .sentinel, .sentinel, .pinned], laidTests := true, laidLooks := .later }
def MacChecksUptoCardSaid : Prop := Claim7.holds Tryd.pinned (.plain (OpenSpec.upto macChecksSpec)) macChecksUptoCard

/-- THE SECOND FORM's CARD OF 'tipstafflaw03.MacShapes'. -/
def macShapesUptoCard : Claim7 := { stood := { row := macShapesUptoRow, standIns := [], harness := (true, "0ac46a6f8b0832c90fc4a23968d99f973810c906d2da59c2bacee0b1ca9c7273"), looks := true }, kinds := [], alts := [], laidByText := true, laidKinds := [.data, .data, .data, .data, .sentinel, .sentinel, .pinned], laidTests := true, laidLooks := .later }
def MacShapesUptoCardSaid : Prop := Claim7.holds Tryd.pinned (.plain (OpenSpec.upto macShapesSpec)) macShapesUptoCard
end Rows
end Go.Proofs.YtencimfeipglaaaDoor
