/-
  DERIVED. GIVEN WITH THE SEED: THE CARDS: each row of YtccgjpfkepamfaaDoorRows.lean that lists a variable, with what it lists TIED to the program's text (the seventh form; the later family's looks); each row that meets fmt, with fmt's text TOLD by the authors' own Lean function (tested against real Go, not proved from fmt's source: count such statements apart). THE CARD IS WHAT COUNTS. Prove the row's statement (the work); the ties are given (YtccgjpfkepamfaaDoorTie.lean); close each card by the builder's one call (the guide's Derived/Test/ToyasCard.lean, 'card_holds'). Laid BY PROGRAM, IN A SANDBOX (cutbox-door.mjs). By AI agents, Wed Nov 11 2026. No macro, syntax, notation, axiom, sorry.
-/
import Derived.Test.YtccgjpfkepamfaaDoorRows
import GoSem.ClaimSeven
namespace Go.Proofs.YtccgjpfkepamfaaDoor
namespace Rows

/-- THE TIED CARD OF 'tipstafflaw01.NumDigits'. -/
def numDigitsCard : Claim7 := { stood := { row := numDigitsRow, standIns := [], harness := (true, "9a2d7f4e3f4277ed4ab5b5bd7c58a241919ca49f00b36b491e413c25e03e3afd"), looks := true }, kinds := [], alts := [], laidByText := true, laidKinds := [.data, .data, .data, .sentinel, .sentinel], laidTests := true, laidLooks := .later }
def NumDigitsCardSaid : Prop := Claim7.holds Tryd.pinned (.plain (OpenSpec.ofChange numDigitsSpec)) numDigitsCard

/-- THE TIED CARD OF 'tipstafflaw01.NumAdds'. -/
def numAddsCard : Claim7 := { stood := { row := numAddsRow, standIns := [], harness := (true, "9a2d7f4e3f4277ed4ab5b5bd7c58a241919ca49f00b36b491e413c25e03e3afd"), looks := true }, kinds := [], alts := [], laidByText := true, laidKinds := [.data, .data, .data, .sentinel, .sentinel], laidTests := true, laidLooks := .later }
def NumAddsCardSaid : Prop := Claim7.holds Tryd.pinned (.plain (OpenSpec.ofChange numAddsSpec)) numAddsCard

/-- THE TIED CARD OF 'tipstafflaw01.NumBack'. -/
def numBackCard : Claim7 := { stood := { row := numBackRow, standIns := [], harness := (true, "9a2d7f4e3f4277ed4ab5b5bd7c58a241919ca49f00b36b491e413c25e03e3afd"), looks := true }, kinds := [], alts := [], laidByText := true, laidKinds := [.data, .data, .data, .sentinel, .sentinel], laidTests := true, laidLooks := .later }
def NumBackCardSaid : Prop := Claim7.holds Tryd.pinned (.plain (OpenSpec.ofChange numBackSpec)) numBackCard

/-- THE TIED CARD OF 'tipstafflaw01.NumLower'. -/
def numLowerCard : Claim7 := { stood := { row := numLowerRow, standIns := [], harness := (true, "9a2d7f4e3f4277ed4ab5b5bd7c58a241919ca49f00b36b491e413c25e03e3afd"), looks := true }, kinds := [], alts := [], laidByText := true, laidKinds := [.data, .data, .data, .sentinel, .sentinel], laidTests := true, laidLooks := .later }
def NumLowerCardSaid : Prop := Claim7.holds Tryd.pinned (.plain (OpenSpec.ofChange numLowerSpec)) numLowerCard

/-- THE TIED CARD OF 'tipstafflaw01.NumWords'. -/
def numWordsCard : Claim7 := { stood := { row := numWordsRow, standIns := [], harness := (true, "9a2d7f4e3f4277ed4ab5b5bd7c58a241919ca49f00b36b491e413c25e03e3afd"), looks := true }, kinds := [], alts := [], laidByText := true, laidKinds := [.data, .data, .data, .sentinel, .sentinel], laidTests := true, laidLooks := .later }
def NumWordsCardSaid : Prop := Claim7.holds Tryd.pinned (.plain (OpenSpec.ofChange numWordsSpec)) numWordsCard

/-- THE TIED CARD OF 'tipstafflaw01.NumAll'. -/
def numAllCard : Claim7 := { stood := { row := numAllRow, standIns := [], harness := (true, "9a2d7f4e3f4277ed4ab5b5bd7c58a241919ca49f00b36b491e413c25e03e3afd"), looks := true }, kinds := [], alts := [], laidByText := true, laidKinds := [.data, .data, .data, .sentinel, .sentinel], laidTests := true, laidLooks := .later }
def NumAllCardSaid : Prop := Claim7.holds Tryd.pinned (.plain (OpenSpec.ofChange numAllSpec)) numAllCard

/-- THE TIED CARD OF 'tipstafflaw01.NumParts'. -/
def numPartsCard : Claim7 := { stood := { row := numPartsRow, standIns := [], harness := (true, "9a2d7f4e3f4277ed4ab5b5bd7c58a241919ca49f00b36b491e413c25e03e3afd"), looks := true }, kinds := [], alts := [], laidByText := true, laidKinds := [.data, .data, .data, .sentinel, .sentinel], laidTests := true, laidLooks := .later }
def NumPartsCardSaid : Prop := Claim7.holds Tryd.pinned (.plain (OpenSpec.ofChange numPartsSpec)) numPartsCard

/-- THE SECOND FORM's CARD OF 'tipstafflaw01.NumDigits'. -/
def numDigitsUptoCard : Claim7 := { stood := { row := numDigitsUptoRow, standIns := [], harness := (true, "9a2d7f4e3f4277ed4ab5b5bd7c58a241919ca49f00b36b491e413c25e03e3afd"), looks := true }, kinds := [], alts := [], laidByText := true, laidKinds := [.data, .data, .data, .sentinel, .sentinel], laidTests := true, laidLooks := .later }
def NumDigitsUptoCardSaid : Prop := Claim7.holds Tryd.pinned (.plain (OpenSpec.upto numDigitsSpec)) numDigitsUptoCard

/-- THE SECOND FORM's CARD OF 'tipstafflaw01.NumAdds'. -/
def numAddsUptoCard : Claim7 := { stood := { row := numAddsUptoRow, standIns := [], harness := (true, "9a2d7f4e3f4277ed4ab5b5bd7c58a241919ca49f00b36b491e413c25e03e3afd"), looks := true }, kinds := [], alts := [], laidByText := true, laidKinds := [.data, .data, .data, .sentinel, .sentinel], laidTests := true, laidLooks := .later }
def NumAddsUptoCardSaid : Prop := Claim7.holds Tryd.pinned (.plain (OpenSpec.upto numAddsSpec)) numAddsUptoCard

/-- THE SECOND FORM's CARD OF 'tipstafflaw01.NumBack'. -/
def numBackUptoCard : Claim7 := { stood := { row := numBackUptoRow, standIns := [], harness := (true, "9a2d7f4e3f4277ed4ab5b5bd7c58a241919ca49f00b36b491e413c25e03e3afd"), looks := true }, kinds := [], alts := [], laidByText := true, laidKinds := [.data, .data, .data, .sentinel, .sentinel], laidTests := true, laidLooks := .later }
def NumBackUptoCardSaid : Prop := Claim7.holds Tryd.pinned (.plain (OpenSpec.upto numBackSpec)) numBackUptoCard

/-- THE SECOND FORM's CARD OF 'tipstafflaw01.NumLower'. -/
def numLowerUptoCard : Claim7 := { stood := { row := numLowerUptoRow, standIns := [], harness := (true, "9a2d7f4e3f4277ed4ab5b5bd7c58a241919ca49f00b36b491e413c25e03e3afd"), looks := true }, kinds := [], alts := [], laidByText := true, laidKinds := [.data, .data, .data, .sentinel, .sentinel], laidTests := true, laidLooks := .later }
def NumLowerUptoCardSaid : Prop := Claim7.holds Tryd.pinned (.plain (OpenSpec.upto numLowerSpec)) numLowerUptoCard

/-- THE SECOND FORM's CARD OF 'tipstafflaw01.NumWords'. -/
def numWordsUptoCard : Claim7 := { stood := { row := numWordsUptoRow, standIns := [], harness := (true, "9a2d7f4e3f4277ed4ab5b5bd7c58a241919ca49f00b36b491e413c25e03e3afd"), looks := true }, kinds := [], alts := [], laidByText := true, laidKinds := [.data, .data, .data, .sentinel, .sentinel], laidTests := true, laidLooks := .later }
def NumWordsUptoCardSaid : Prop := Claim7.holds Tryd.pinned (.plain (OpenSpec.upto numWordsSpec)) numWordsUptoCard

/-- THE SECOND FORM's CARD OF 'tipstafflaw01.NumAll'. -/
def numAllUptoCard : Claim7 := { stood := { row := numAllUptoRow, standIns := [], harness := (true, "9a2d7f4e3f4277ed4ab5b5bd7c58a241919ca49f00b36b491e413c25e03e3afd"), looks := true }, kinds := [], alts := [], laidByText := true, laidKinds := [.data, .data, .data, .sentinel, .sentinel], laidTests := true, laidLooks := .later }
def NumAllUptoCardSaid : Prop := Claim7.holds Tryd.pinned (.plain (OpenSpec.upto numAllSpec)) numAllUptoCard

/-- THE SECOND FORM's CARD OF 'tipstafflaw01.NumParts'. -/
def numPartsUptoCard : Claim7 := { stood := { row := numPartsUptoRow, standIns := [], harness := (true, "9a2d7f4e3f4277ed4ab5b5bd7c58a241919ca49f00b36b491e413c25e03e3afd"), looks := true }, kinds := [], alts := [], laidByText := true, laidKinds := [.data, .data, .data, .sentinel, .sentinel], laidTests := true, laidLooks := .later }
def NumPartsUptoCardSaid : Prop := Claim7.holds Tryd.pinned (.plain (OpenSpec.upto numPartsSpec)) numPartsUptoCard
end Rows
end Go.Proofs.YtccgjpfkepamfaaDoor
