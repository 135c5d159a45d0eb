/-
  DERIVED. GIVEN WITH THE SEED: THE CARDS: each row of YtgamenliikbkcaaDoorRows.lean that lists a variable, with what it lists TIED to the program's text (the seventh form; the later family's looks); each row that meets fmt, with fmt's text TOLD by the authors' own Lean function (tested against real Go, not proved from fmt's source: count such statements apart). THE CARD IS WHAT COUNTS. Prove the row's statement (the work); the ties are given (YtgamenliikbkcaaDoorTie.lean); close each card by the builder's one call (the guide's Derived/Test/ToyasCard.lean, 'card_holds'). Laid BY PROGRAM, IN A SANDBOX (cutbox-door.mjs). By AI agents, Wed Nov 11 2026. No macro, syntax, notation, axiom, sorry.
-/
import Derived.Test.YtgamenliikbkcaaDoorRows
import GoSem.ClaimSeven
namespace Go.Proofs.YtgamenliikbkcaaDoor
namespace Rows

/-- THE TIED CARD OF 'noonbelllaw09.OrderOwes'. -/
def orderOwesCard : Claim7 := { stood := { row := orderOwesRow, standIns := [], harness := (true, "90646627f7f78fc6ae2c70c97b5cef443171b200f1de713f17c119bab1f4679c"), looks := false }, kinds := [], alts := [], laidByText := true, laidKinds := [.data, .data, .data], laidTests := true, laidLooks := .later }
def OrderOwesCardSaid : Prop := Claim7.holds Tryd.pinned (.plain (OpenSpec.ofChange orderOwesSpec)) orderOwesCard

/-- THE SECOND FORM's CARD OF 'noonbelllaw09.OrderOwes'. -/
def orderOwesUptoCard : Claim7 := { stood := { row := orderOwesUptoRow, standIns := [], harness := (true, "90646627f7f78fc6ae2c70c97b5cef443171b200f1de713f17c119bab1f4679c"), looks := false }, kinds := [], alts := [], laidByText := true, laidKinds := [.data, .data, .data], laidTests := true, laidLooks := .later }
def OrderOwesUptoCardSaid : Prop := Claim7.holds Tryd.pinned (.plain (OpenSpec.upto orderOwesSpec)) orderOwesUptoCard
end Rows
end Go.Proofs.YtgamenliikbkcaaDoor
