/-
  DERIVED. GIVEN WITH THE SEED: THE CARDS: each row of YtjandmkopeapeaaDoorRows.lean that lists a variable, with what it lists TIED to the program's text (the seventh form; the later family's looks); each row that meets fmt, with fmt's text TOLD by the authors' own Lean function (tested against real Go, not proved from fmt's source: count such statements apart). THE CARD IS WHAT COUNTS. Prove the row's statement (the work); the ties are given (YtjandmkopeapeaaDoorTie.lean); close each card by the builder's one call (the guide's Derived/Test/ToyasCard.lean, 'card_holds'). Laid BY PROGRAM, IN A SANDBOX (cutbox-door.mjs). By AI agents, Wed Nov 11 2026. No macro, syntax, notation, axiom, sorry.
-/
import Derived.Test.YtjandmkopeapeaaDoorRows
import GoSem.ClaimSeven
namespace Go.Proofs.YtjandmkopeapeaaDoor
namespace Rows

/-- THE TIED CARD OF 'noonbelllaw01.NatOrder'. -/
def natOrderCard : Claim7 := { stood := { row := natOrderRow, standIns := [], harness := (true, "b58b815c112390fa0a26be410b3eefee7249067a6d391a497078401f98aef169"), looks := true }, kinds := [], alts := [], laidByText := true, laidKinds := [.data, .data, .data, .data, .sentinel, .sentinel, .pinned], laidTests := true, laidLooks := .later }
def NatOrderCardSaid : Prop := Claim7.holds Tryd.pinned (.plain (OpenSpec.ofChange natOrderSpec)) natOrderCard

/-- THE TIED CARD OF 'noonbelllaw01.NatBits'. -/
def natBitsCard : Claim7 := { stood := { row := natBitsRow, standIns := [], harness := (true, "b58b815c112390fa0a26be410b3eefee7249067a6d391a497078401f98aef169"), looks := true }, kinds := [], alts := [], laidByText := true, laidKinds := [.data, .data, .data, .data, .sentinel, .sentinel, .pinned], laidTests := true, laidLooks := .later }
def NatBitsCardSaid : Prop := Claim7.holds Tryd.pinned (.plain (OpenSpec.ofChange natBitsSpec)) natBitsCard

/-- THE TIED CARD OF 'noonbelllaw01.NatTexts'. -/
def natTextsCard : Claim7 := { stood := { row := natTextsRow, standIns := [], harness := (true, "b58b815c112390fa0a26be410b3eefee7249067a6d391a497078401f98aef169"), looks := true }, kinds := [], alts := [], laidByText := true, laidKinds := [.data, .data, .data, .data, .sentinel, .sentinel, .pinned], laidTests := true, laidLooks := .later }
def NatTextsCardSaid : Prop := Claim7.holds Tryd.pinned (.plain (OpenSpec.ofChange natTextsSpec)) natTextsCard

/-- THE TIED CARD OF 'noonbelllaw01.NatSums'. -/
def natSumsCard : Claim7 := { stood := { row := natSumsRow, standIns := [], harness := (true, "b58b815c112390fa0a26be410b3eefee7249067a6d391a497078401f98aef169"), looks := true }, kinds := [], alts := [], laidByText := true, laidKinds := [.data, .data, .data, .data, .sentinel, .sentinel, .pinned], laidTests := true, laidLooks := .later }
def NatSumsCardSaid : Prop := Claim7.holds Tryd.pinned (.plain (OpenSpec.ofChange natSumsSpec)) natSumsCard

/-- THE TIED CARD OF 'noonbelllaw01.NatLaws'. -/
def natLawsCard : Claim7 := { stood := { row := natLawsRow, standIns := [], harness := (true, "b58b815c112390fa0a26be410b3eefee7249067a6d391a497078401f98aef169"), looks := true }, kinds := [], alts := [], laidByText := true, laidKinds := [.data, .data, .data, .data, .sentinel, .sentinel, .pinned], laidTests := true, laidLooks := .later }
def NatLawsCardSaid : Prop := Claim7.holds Tryd.pinned (.plain (OpenSpec.ofChange natLawsSpec)) natLawsCard

/-- THE TIED CARD OF 'noonbelllaw01.NatSquares'. -/
def natSquaresCard : Claim7 := { stood := { row := natSquaresRow, standIns := [], harness := (true, "b58b815c112390fa0a26be410b3eefee7249067a6d391a497078401f98aef169"), looks := true }, kinds := [], alts := [], laidByText := true, laidKinds := [.data, .data, .data, .data, .sentinel, .sentinel, .pinned], laidTests := true, laidLooks := .later }
def NatSquaresCardSaid : Prop := Claim7.holds Tryd.pinned (.plain (OpenSpec.ofChange natSquaresSpec)) natSquaresCard

/-- THE TIED CARD OF 'noonbelllaw01.NatBack'. -/
def natBackCard : Claim7 := { stood := { row := natBackRow, standIns := [], harness := (true, "b58b815c112390fa0a26be410b3eefee7249067a6d391a497078401f98aef169"), looks := true }, kinds := [], alts := [], laidByText := true, laidKinds := [.data, .data, .data, .data, .sentinel, .sentinel, .pinned], laidTests := true, laidLooks := .later }
def NatBackCardSaid : Prop := Claim7.holds Tryd.pinned (.plain (OpenSpec.ofChange natBackSpec)) natBackCard

/-- THE TIED CARD OF 'noonbelllaw01.NatGcds'. -/
def natGcdsCard : Claim7 := { stood := { row := natGcdsRow, standIns := [], harness := (true, "b58b815c112390fa0a26be410b3eefee7249067a6d391a497078401f98aef169"), looks := true }, kinds := [], alts := [], laidByText := true, laidKinds := [.data, .data, .data, .data, .sentinel, .sentinel, .pinned], laidTests := true, laidLooks := .later }
def NatGcdsCardSaid : Prop := Claim7.holds Tryd.pinned (.plain (OpenSpec.ofChange natGcdsSpec)) natGcdsCard

/-- THE SECOND FORM's CARD OF 'noonbelllaw01.NatOrder'. -/
def natOrderUptoCard : Claim7 := { stood := { row := natOrderUptoRow, standIns := [], harness := (true, "b58b815c112390fa0a26be410b3eefee7249067a6d391a497078401f98aef169"), looks := true }, kinds := [], alts := [], laidByText := true, laidKinds := [.data, .data, .data, .data, .sentinel, .sentinel, .pinned], laidTests := true, laidLooks := .later }
def NatOrderUptoCardSaid : Prop := Claim7.holds Tryd.pinned (.plain (OpenSpec.upto natOrderSpec)) natOrderUptoCard

/-- THE SECOND FORM's CARD OF 'noonbelllaw01.NatBits'. -/
def natBitsUptoCard : Claim7 := { stood := { row := natBitsUptoRow, standIns := [], harness := (true, "b58b815c112390fa0a26be410b3eefee7249067a6d391a497078401f98aef169"), looks := true }, kinds := [], alts := [], laidByText := true, laidKinds := [.data, .data, .data, .data, .sentinel, .sentinel, .pinned], laidTests := true, laidLooks := .later }
def NatBitsUptoCardSaid : Prop := Claim7.holds Tryd.pinned (.plain (OpenSpec.upto natBitsSpec)) natBitsUptoCard

/-- THE SECOND FORM's CARD OF 'noonbelllaw01.NatTexts'. -/
def natTextsUptoCard : Claim7 := { stood := { row := natTextsUptoRow, standIns := [], harness := (true, "b58b815c112390fa0a26be410b3eefee7249067a6d391a497078401f98aef169"), looks := true }, kinds := [], alts := [], laidByText := true, laidKinds := [.data, .data, .data, .data, .sentinel, .sentinel, .pinned], laidTests := true, laidLooks := .later }
def NatTextsUptoCardSaid : Prop := Claim7.holds Tryd.pinned (.plain (OpenSpec.upto natTextsSpec)) natTextsUptoCard

/-- THE SECOND FORM's CARD OF 'noonbelllaw01.NatSums'. -/
def natSumsUptoCard : Claim7 := { stood := { row := natSumsUptoRow, standIns := [], harness := (true, "b58b815c112390fa0a26be410b3eefee7249067a6d391a497078401f98aef169"), looks := true }, kinds := [], alts := [], laidByText := true, laidKinds := [.data, .data, .data, .data, .sentinel, .sentinel, .pinned], laidTests := true, laidLooks := .later }
def NatSumsUptoCardSaid : Prop := Claim7.holds Tryd.pinned (.plain (OpenSpec.upto natSumsSpec)) natSumsUptoCard

/-- THE SECOND FORM's CARD OF 'noonbelllaw01.NatLaws'. -/
def natLawsUptoCard : Claim7 := { stood := { row := natLawsUptoRow, standIns := [], harness := (true, "b58b815c112390fa0a26be410b3eefee7249067a6d391a497078401f98aef169"), looks := true }, kinds := [], alts := [], laidByText := true, laidKinds := [.data, .data, .data, .data, .sentinel, .sentinel, .pinned], laidTests := true, laidLooks := .later }
def NatLawsUptoCardSaid : Prop := Claim7.holds Tryd.pinned (.plain (OpenSpec.upto natLawsSpec)) natLawsUptoCard

/-- THE SECOND FORM's CARD OF 'noonbelllaw01.NatSquares'. -/
def natSquaresUptoCard : Claim7 := { stood := { row := natSquaresUptoRow, standIns := [], harness := (true, "b58b815c112390fa0a26be410b3eefee7249067a6d391a497078401f98aef169"), looks := true }, kinds := [], alts := [], laidByText := true, laidKinds := [.data, .data, .data, .data, .sentinel, .sentinel, .pinned], laidTests := true, laidLooks := .later }
def NatSquaresUptoCardSaid : Prop := Claim7.holds Tryd.pinned (.plain (OpenSpec.upto natSquaresSpec)) natSquaresUptoCard

/-- THE SECOND FORM's CARD OF 'noonbelllaw01.NatBack'. -/
def natBackUptoCard : Claim7 := { stood := { row := natBackUptoRow, standIns := [], harness := (true, "b58b815c112390fa0a26be410b3eefee7249067a6d391a497078401f98aef169"), looks := true }, kinds := [], alts := [], laidByText := true, laidKinds := [.data, .data, .data, .data, .sentinel, .sentinel, .pinned], laidTests := true, laidLooks := .later }
def NatBackUptoCardSaid : Prop := Claim7.holds Tryd.pinned (.plain (OpenSpec.upto natBackSpec)) natBackUptoCard

/-- THE SECOND FORM's CARD OF 'noonbelllaw01.NatGcds'. -/
def natGcdsUptoCard : Claim7 := { stood := { row := natGcdsUptoRow, standIns := [], harness := (true, "b58b815c112390fa0a26be410b3eefee7249067a6d391a497078401f98aef169"), looks := true }, kinds := [], alts := [], laidByText := true, laidKinds := [.data, .data, .data, .data, .sentinel, .sentinel, .pinned], laidTests := true, laidLooks := .later }
def NatGcdsUptoCardSaid : Prop := Claim7.holds Tryd.pinned (.plain (OpenSpec.upto natGcdsSpec)) natGcdsUptoCard
end Rows
end Go.Proofs.YtjandmkopeapeaaDoor
