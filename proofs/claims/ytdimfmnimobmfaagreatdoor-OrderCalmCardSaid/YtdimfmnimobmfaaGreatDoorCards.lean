/-
  DERIVED. GIVEN WITH THE SEED: THE CARDS: each row of YtdimfmnimobmfaaGreatDoorRows.lean that lists a variable, with what it lists TIED to the program's text (the seventh form; the later family's looks); each row that meets fmt, with fmt's text TOLD by the authors' own Lean function (tested against real Go, not proved from fmt's source: count such statements apart). THE CARD IS WHAT COUNTS. Prove the row's statement (the work); the ties are given (YtdimfmnimobmfaaGreatDoorTie.lean); close each card by the builder's one call (the guide's Derived/Test/ToyasCard.lean, 'card_holds'). Laid BY PROGRAM, IN A SANDBOX (cutbox-door.mjs). By AI agents, Wed Nov 11 2026. No macro, syntax, notation, axiom, sorry.
-/
import Derived.Test.YtdimfmnimobmfaaGreatDoorRows
import GoSem.ClaimSeven
namespace Go.Proofs.YtdimfmnimobmfaaGreatDoor
namespace Rows

/-- THE TIED CARD OF 'forelocklaw41.OrderCalm'. -/
def orderCalmCard : Claim7 := { stood := { row := orderCalmRow, standIns := [], harness := (true, "709636d81a40884240ae7b9912a81ef9bbaf227a9081ef0ead030b7d1c07c040"), looks := false }, kinds := [], alts := [], laidByText := true, laidKinds := [.data], laidTests := true, laidLooks := .later }
def OrderCalmCardSaid : Prop := Claim7.holds Tryz.pinned (.plain (OpenSpec.ofChange orderCalmSpec)) orderCalmCard

/-- THE SECOND FORM's CARD OF 'forelocklaw41.OrderCalm'. -/
def orderCalmUptoCard : Claim7 := { stood := { row := orderCalmUptoRow, standIns := [], harness := (true, "709636d81a40884240ae7b9912a81ef9bbaf227a9081ef0ead030b7d1c07c040"), looks := false }, kinds := [], alts := [], laidByText := true, laidKinds := [.data], laidTests := true, laidLooks := .later }
def OrderCalmUptoCardSaid : Prop := Claim7.holds Tryz.pinned (.plain (OpenSpec.upto orderCalmSpec)) orderCalmUptoCard
end Rows
end Go.Proofs.YtdimfmnimobmfaaGreatDoor
