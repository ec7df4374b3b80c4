/-
  DERIVED. GIVEN WITH THE SEED: THE CARDS: each row of YtfpkahcfkkhmcaaDoorRows.lean that lists a variable, with what it lists TIED to the program's text (the seventh form; the later family's looks); each row that meets fmt, with fmt's text TOLD by the authors' own Lean function (tested against real Go, not proved from fmt's source: count such statements apart). THE CARD IS WHAT COUNTS. Prove the row's statement (the work); the ties are given (YtfpkahcfkkhmcaaDoorTie.lean); close each card by the builder's one call (the guide's Derived/Test/ToyasCard.lean, 'card_holds'). Laid BY PROGRAM, IN A SANDBOX (cutbox-door.mjs). By AI agents, Wed Nov 11 2026. No macro, syntax, notation, axiom, sorry.
-/
import Derived.Test.YtfpkahcfkkhmcaaDoorRows
import GoSem.ClaimSeven
namespace Go.Proofs.YtfpkahcfkkhmcaaDoor
namespace Rows

/-- THE TIED CARD OF 'forelocklaw24.EventAny'. -/
def eventAnyCard : Claim7 := { stood := { row := eventAnyRow, standIns := [], harness := (true, "f54a180e40430c5e2ec68bce0f431c6aa5046f18507c6c98a6c315aace70928f"), looks := true }, kinds := [], alts := [], laidByText := true, laidKinds := [.data, .data, .data, .data, .sentinel, .sentinel, .pinned], laidTests := true, laidLooks := .later }
def EventAnyCardSaid : Prop := Claim7.holds Tryd.pinned (.plain (OpenSpec.ofChange eventAnySpec)) eventAnyCard

/-- THE TIED CARD OF 'forelocklaw24.EventOf'. -/
def eventOfCard : Claim7 := { stood := { row := eventOfRow, standIns := [], harness := (true, "f54a180e40430c5e2ec68bce0f431c6aa5046f18507c6c98a6c315aace70928f"), looks := true }, kinds := [], alts := [], laidByText := true, laidKinds := [.data, .data, .data, .data, .sentinel, .sentinel, .pinned], laidTests := true, laidLooks := .later }
def EventOfCardSaid : Prop := Claim7.holds Tryd.pinned (.plain (OpenSpec.ofChange eventOfSpec)) eventOfCard

/-- THE TIED CARD OF 'forelocklaw41.OrderHolds'. -/
def orderHoldsCard : Claim7 := { stood := { row := orderHoldsRow, standIns := [], harness := (true, "f54a180e40430c5e2ec68bce0f431c6aa5046f18507c6c98a6c315aace70928f"), looks := true }, kinds := [], alts := [], laidByText := true, laidKinds := [.data], laidTests := true, laidLooks := .later }
def OrderHoldsCardSaid : Prop := Claim7.holds Tryd.pinned (.plain (OpenSpec.ofChange orderHoldsSpec)) orderHoldsCard

/-- THE TIED CARD OF 'forelocklaw41.OrderTells'. -/
def orderTellsCard : Claim7 := { stood := { row := orderTellsRow, standIns := [], harness := (true, "f54a180e40430c5e2ec68bce0f431c6aa5046f18507c6c98a6c315aace70928f"), looks := true }, kinds := [], alts := [], laidByText := true, laidKinds := [.data], laidTests := true, laidLooks := .later }
def OrderTellsCardSaid : Prop := Claim7.holds Tryd.pinned (.plain (OpenSpec.ofChange orderTellsSpec)) orderTellsCard

/-- THE SECOND FORM's CARD OF 'forelocklaw24.EventAny'. -/
def eventAnyUptoCard : Claim7 := { stood := { row := eventAnyUptoRow, standIns := [], harness := (true, "f54a180e40430c5e2ec68bce0f431c6aa5046f18507c6c98a6c315aace70928f"), looks := true }, kinds := [], alts := [], laidByText := true, laidKinds := [.data, .data, .data, .data, .sentinel, .sentinel, .pinned], laidTests := true, laidLooks := .later }
def EventAnyUptoCardSaid : Prop := Claim7.holds Tryd.pinned (.plain (OpenSpec.upto eventAnySpec)) eventAnyUptoCard

/-- THE SECOND FORM's CARD OF 'forelocklaw24.EventOf'. -/
def eventOfUptoCard : Claim7 := { stood := { row := eventOfUptoRow, standIns := [], harness := (true, "f54a180e40430c5e2ec68bce0f431c6aa5046f18507c6c98a6c315aace70928f"), looks := true }, kinds := [], alts := [], laidByText := true, laidKinds := [.data, .data, .data, .data, .sentinel, .sentinel, .pinned], laidTests := true, laidLooks := .later }
def EventOfUptoCardSaid : Prop := Claim7.holds Tryd.pinned (.plain (OpenSpec.upto eventOfSpec)) eventOfUptoCard

/-- THE SECOND FORM's CARD OF 'forelocklaw41.OrderHolds'. -/
def orderHoldsUptoCard : Claim7 := { stood := { row := orderHoldsUptoRow, standIns := [], harness := (true, "f54a180e40430c5e2ec68bce0f431c6aa5046f18507c6c98a6c315aace70928f"), looks := true }, kinds := [], alts := [], laidByText := true, laidKinds := [.data], laidTests := true, laidLooks := .later }
def OrderHoldsUptoCardSaid : Prop := Claim7.holds Tryd.pinned (.plain (OpenSpec.upto orderHoldsSpec)) orderHoldsUptoCard

/-- THE SECOND FORM's CARD OF 'forelocklaw41.OrderTells'. -/
def orderTellsUptoCard : Claim7 := { stood := { row := orderTellsUptoRow, standIns := [], harness := (true, "f54a180e40430c5e2ec68bce0f431c6aa5046f18507c6c98a6c315aace70928f"), looks := true }, kinds := [], alts := [], laidByText := true, laidKinds := [.data], laidTests := true, laidLooks := .later }
def OrderTellsUptoCardSaid : Prop := Claim7.holds Tryd.pinned (.plain (OpenSpec.upto orderTellsSpec)) orderTellsUptoCard
end Rows
end Go.Proofs.YtfpkahcfkkhmcaaDoor
