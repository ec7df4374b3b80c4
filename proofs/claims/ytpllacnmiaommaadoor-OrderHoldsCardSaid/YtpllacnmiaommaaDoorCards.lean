/-
  DERIVED. GIVEN WITH THE SEED: THE CARDS: each row of YtpllacnmiaommaaDoorRows.lean that lists a variable, with what it lists TIED to the program's text (the seventh form; the later family's looks); each row that meets fmt, with fmt's text TOLD by the authors' own Lean function (tested against real Go, not proved from fmt's source: count such statements apart). THE CARD IS WHAT COUNTS. Prove the row's statement (the work); the ties are given (YtpllacnmiaommaaDoorTie.lean); close each card by the builder's one call (the guide's Derived/Test/ToyasCard.lean, 'card_holds'). Laid BY PROGRAM, IN A SANDBOX (cutbox-door.mjs). By AI agents, Wed Nov 11 2026. No macro, syntax, notation, axiom, sorry.
-/
import Derived.Test.YtpllacnmiaommaaDoorRows
import GoSem.ClaimSeven
namespace Go.Proofs.YtpllacnmiaommaaDoor
namespace Rows

/-- THE TIED CARD OF 'forelocklaw41.OrderHolds'. -/
def orderHoldsCard : Claim7 := { stood := { row := orderHoldsRow, standIns := [], harness := (true, "411e4545fd6f6c05b9f4990d7c5a52df8a2dc41a02fca7ec50080e194303c15c"), looks := false }, kinds := [], alts := [], laidByText := true, laidKinds := [.data], laidTests := true, laidLooks := .later }
def OrderHoldsCardSaid : Prop := Claim7.holds Tryd.pinned (.plain (OpenSpec.ofChange orderHoldsSpec)) orderHoldsCard

/-- THE TIED CARD OF 'forelocklaw41.OrderTells'. -/
def orderTellsCard : Claim7 := { stood := { row := orderTellsRow, standIns := [], harness := (true, "411e4545fd6f6c05b9f4990d7c5a52df8a2dc41a02fca7ec50080e194303c15c"), looks := false }, kinds := [], alts := [], laidByText := true, laidKinds := [.data], laidTests := true, laidLooks := .later }
def OrderTellsCardSaid : Prop := Claim7.holds Tryd.pinned (.plain (OpenSpec.ofChange orderTellsSpec)) orderTellsCard

/-- THE SECOND FORM's CARD OF 'forelocklaw41.OrderHolds'. -/
def orderHoldsUptoCard : Claim7 := { stood := { row := orderHoldsUptoRow, standIns := [], harness := (true, "411e4545fd6f6c05b9f4990d7c5a52df8a2dc41a02fca7ec50080e194303c15c"), looks := false }, kinds := [], alts := [], laidByText := true, laidKinds := [.data], laidTests := true, laidLooks := .later }
def OrderHoldsUptoCardSaid : Prop := Claim7.holds Tryd.pinned (.plain (OpenSpec.upto orderHoldsSpec)) orderHoldsUptoCard

/-- THE SECOND FORM's CARD OF 'forelocklaw41.OrderTells'. -/
def orderTellsUptoCard : Claim7 := { stood := { row := orderTellsUptoRow, standIns := [], harness := (true, "411e4545fd6f6c05b9f4990d7c5a52df8a2dc41a02fca7ec50080e194303c15c"), looks := false }, kinds := [], alts := [], laidByText := true, laidKinds := [.data], laidTests := true, laidLooks := .later }
def OrderTellsUptoCardSaid : Prop := Claim7.holds Tryd.pinned (.plain (OpenSpec.upto orderTellsSpec)) orderTellsUptoCard
end Rows
end Go.Proofs.YtpllacnmiaommaaDoor
