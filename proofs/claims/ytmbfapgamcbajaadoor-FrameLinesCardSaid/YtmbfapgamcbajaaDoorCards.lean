/-
  DERIVED. GIVEN WITH THE SEED: THE CARDS: each row of YtmbfapgamcbajaaDoorRows.lean that lists a variable, with what it lists TIED to the program's text (the seventh form; the later family's looks); each row that meets fmt, with fmt's text TOLD by the authors' own Lean function (tested against real Go, not proved from fmt's source: count such statements apart). THE CARD IS WHAT COUNTS. Prove the row's statement (the work); the ties are given (YtmbfapgamcbajaaDoorTie.lean); close each card by the builder's one call (the guide's Derived/Test/ToyasCard.lean, 'card_holds'). Laid BY PROGRAM, IN A SANDBOX (cutbox-door.mjs). By AI agents, Wed Nov 11 2026. No macro, syntax, notation, axiom, sorry.
-/
import Derived.Test.YtmbfapgamcbajaaDoorRows
import GoSem.ClaimSeven
namespace Go.Proofs.YtmbfapgamcbajaaDoor
namespace Rows

/-- THE TIED CARD OF 'tipstafflaw06.FrameGrows'. -/
def frameGrowsCard : Claim7 := { stood := { row := frameGrowsRow, standIns := [], harness := (true, "7fc91f8b6b858a97920c47c78c8412b4eb1b5144ba51da1b1d7df7721e47182a"), looks := true }, kinds := [], alts := [], laidByText := true, laidKinds := [.data, .data, .data, .data, .sentinel, .sentinel, .pinned], laidTests := true, laidLooks := .later }
def FrameGrowsCardSaid : Prop := Claim7.holds Tryd.pinned (.plain (OpenSpec.ofChange frameGrowsSpec)) frameGrowsCard

/-- THE TIED CARD OF 'tipstafflaw06.FrameNext'. -/
def frameNextCard : Claim7 := { stood := { row := frameNextRow, standIns := [], harness := (true, "7fc91f8b6b858a97920c47c78c8412b4eb1b5144ba51da1b1d7df7721e47182a"), looks := true }, kinds := [], alts := [], laidByText := true, laidKinds := [.data, .data, .data, .data, .sentinel, .sentinel, .pinned], laidTests := true, laidLooks := .later }
def FrameNextCardSaid : Prop := Claim7.holds Tryd.pinned (.plain (OpenSpec.ofChange frameNextSpec)) frameNextCard

/-- THE TIED CARD OF 'tipstafflaw06.FrameBounds'. -/
def frameBoundsCard : Claim7 := { stood := { row := frameBoundsRow, standIns := [], harness := (true, "7fc91f8b6b858a97920c47c78c8412b4eb1b5144ba51da1b1d7df7721e47182a"), looks := true }, kinds := [], alts := [], laidByText := true, laidKinds := [.data, .data, .data, .data, .sentinel, .sentinel, .pinned], laidTests := true, laidLooks := .later }
def FrameBoundsCardSaid : Prop := Claim7.holds Tryd.pinned (.plain (OpenSpec.ofChange frameBoundsSpec)) frameBoundsCard

/-- THE TIED CARD OF 'tipstafflaw06.FrameReads'. -/
def frameReadsCard : Claim7 := { stood := { row := frameReadsRow, standIns := [], harness := (true, "7fc91f8b6b858a97920c47c78c8412b4eb1b5144ba51da1b1d7df7721e47182a"), looks := true }, kinds := [], alts := [], laidByText := true, laidKinds := [.data, .data, .data, .data, .sentinel, .sentinel, .pinned], laidTests := true, laidLooks := .later }
def FrameReadsCardSaid : Prop := Claim7.holds Tryd.pinned (.plain (OpenSpec.ofChange frameReadsSpec)) frameReadsCard

/-- THE TIED CARD OF 'tipstafflaw06.FrameLines'. -/
def frameLinesCard : Claim7 := { stood := { row := frameLinesRow, standIns := [], harness := (true, "7fc91f8b6b858a97920c47c78c8412b4eb1b5144ba51da1b1d7df7721e47182a"), looks := true }, kinds := [], alts := [], laidByText := true, laidKinds := [.data, .data, .data, .data, .sentinel, .sentinel, .pinned], laidTests := true, laidLooks := .later }
def FrameLinesCardSaid : Prop := Claim7.holds Tryd.pinned (.plain (OpenSpec.ofChange frameLinesSpec)) frameLinesCard

/-- THE TIED CARD OF 'tipstafflaw06.FrameBack'. -/
def frameBackCard : Claim7 := { stood := { row := frameBackRow, standIns := [], harness := (true, "7fc91f8b6b858a97920c47c78c8412b4eb1b5144ba51da1b1d7df7721e47182a"), looks := true }, kinds := [], alts := [], laidByText := true, laidKinds := [.data, .data, .data, .data, .sentinel, .sentinel, .pinned], laidTests := true, laidLooks := .later }
def FrameBackCardSaid : Prop := Claim7.holds Tryd.pinned (.plain (OpenSpec.ofChange frameBackSpec)) frameBackCard

/-- THE SECOND FORM's CARD OF 'tipstafflaw06.FrameGrows'. -/
def frameGrowsUptoCard : Claim7 := { stood := { row := frameGrowsUptoRow, standIns := [], harness := (true, "7fc91f8b6b858a97920c47c78c8412b4eb1b5144ba51da1b1d7df7721e47182a"), looks := true }, kinds := [], alts := [], laidByText := true, laidKinds := [.data, .data, .data, .data, .sentinel, .sentinel, .pinned], laidTests := true, laidLooks := .later }
def FrameGrowsUptoCardSaid : Prop := Claim7.holds Tryd.pinned (.plain (OpenSpec.upto frameGrowsSpec)) frameGrowsUptoCard

/-- THE SECOND FORM's CARD OF 'tipstafflaw06.FrameNext'. -/
def frameNextUptoCard : Claim7 := { stood := { row := frameNextUptoRow, standIns := [], harness := (true, "7fc91f8b6b858a97920c47c78c8412b4eb1b5144ba51da1b1d7df7721e47182a"), looks := true }, kinds := [], alts := [], laidByText := true, laidKinds := [.data, .data, .data, .data, .sentinel, .sentinel, .pinned], laidTests := true, laidLooks := .later }
def FrameNextUptoCardSaid : Prop := Claim7.holds Tryd.pinned (.plain (OpenSpec.upto frameNextSpec)) frameNextUptoCard

/-- THE SECOND FORM's CARD OF 'tipstafflaw06.FrameBounds'. -/
def frameBoundsUptoCard : Claim7 := { stood := { row := frameBoundsUptoRow, standIns := [], harness := (true, "7fc91f8b6b858a97920c47c78c8412b4eb1b5144ba51da1b1d7df7721e47182a"), looks := true }, kinds := [], alts := [], laidByText := true, laidKinds := [.data, .data, .data, .data, .sentinel, .sentinel, .pinned], laidTests := true, laidLooks := .later }
def FrameBoundsUptoCardSaid : Prop := Claim7.holds Tryd.pinned (.plain (OpenSpec.upto frameBoundsSpec)) frameBoundsUptoCard

/-- THE SECOND FORM's CARD OF 'tipstafflaw06.FrameReads'. -/
def frameReadsUptoCard : Claim7 := { stood := { row := frameReadsUptoRow, standIns := [], harness := (true, "7fc91f8b6b858a97920c47c78c8412b4eb1b5144ba51da1b1d7df7721e47182a"), looks := true }, kinds := [], alts := [], laidByText := true, laidKinds := [.data, .data, .data, .data, .sentinel, .sentinel, .pinned], laidTests := true, laidLooks := .later }
def FrameReadsUptoCardSaid : Prop := Claim7.holds Tryd.pinned (.plain (OpenSpec.upto frameReadsSpec)) frameReadsUptoCard

/-- THE SECOND FORM's CARD OF 'tipstafflaw06.FrameLines'. -/
def frameLinesUptoCard : Claim7 := { stood := { row := frameLinesUptoRow, standIns := [], harness := (true, "7fc91f8b6b858a97920c47c78c8412b4eb1b5144ba51da1b1d7df7721e47182a"), looks := true }, kinds := [], alts := [], laidByText := true, laidKinds := [.data, .data, .data, .data, .sentinel, .sentinel, .pinned], laidTests := true, laidLooks := .later }
def FrameLinesUptoCardSaid : Prop := Claim7.holds Tryd.pinned (.plain (OpenSpec.upto frameLinesSpec)) frameLinesUptoCard

/-- THE SECOND FORM's CARD OF 'tipstafflaw06.FrameBack'. -/
def frameBackUptoCard : Claim7 := { stood := { row := frameBackUptoRow, standIns := [], harness := (true, "7fc91f8b6b858a97920c47c78c8412b4eb1b5144ba51da1b1d7df7721e47182a"), looks := true }, kinds := [], alts := [], laidByText := true, laidKinds := [.data, .data, .data, .data, .sentinel, .sentinel, .pinned], laidTests := true, laidLooks := .later }
def FrameBackUptoCardSaid : Prop := Claim7.holds Tryd.pinned (.plain (OpenSpec.upto frameBackSpec)) frameBackUptoCard
end Rows
end Go.Proofs.YtmbfapgamcbajaaDoor
