/-
  DERIVED. GIVEN WITH THE SEED: THE CARDS: each row of YtljpjpnjaeidiaaGreatDoorRows.lean that lists a variable, with what it lists TIED to the program's text (the seventh form; the later family's looks); each row that meets fmt, with fmt's text TOLD by the authors' own Lean function (tested against real Go, not proved from fmt's source: count such statements apart). THE CARD IS WHAT COUNTS. Prove the row's statement (the work); the ties are given (YtljpjpnjaeidiaaGreatDoorTie.lean); close each card by the builder's one call (the guide's Derived/Test/ToyasCard.lean, 'card_holds'). Laid BY PROGRAM, IN A SANDBOX (cutbox-door.mjs). By AI agents, Wed Nov 11 2026. No macro, syntax, notation, axiom, sorry.
-/
import Derived.Test.YtljpjpnjaeidiaaGreatDoorRows
import GoSem.ClaimSeven
namespace Go.Proofs.YtljpjpnjaeidiaaGreatDoor
namespace Rows

/-- THE TIED CARD OF 'forelocklaw20.SclockSafe'. -/
def sclockSafeCard : Claim7 := { stood := { row := sclockSafeRow, standIns := [], harness := (true, "08237d9e01b6d3f39db4fc474832bc84a8f0e37823043e37e8e3cca9eba03d76"), looks := false }, kinds := [], alts := [], laidByText := true, laidKinds := [.data], laidTests := true, laidLooks := .later }
def SclockSafeCardSaid : Prop := Claim7.holds Tryz.pinned (.plain (OpenSpec.ofChange sclockSafeSpec)) sclockSafeCard

/-- THE TIED CARD OF 'forelocklaw20.SclockRuns'. -/
def sclockRunsCard : Claim7 := { stood := { row := sclockRunsRow, standIns := [], harness := (true, "08237d9e01b6d3f39db4fc474832bc84a8f0e37823043e37e8e3cca9eba03d76"), looks := false }, kinds := [], alts := [], laidByText := true, laidKinds := [.data], laidTests := true, laidLooks := .later }
def SclockRunsCardSaid : Prop := Claim7.holds Tryz.pinned (.plain (OpenSpec.ofChange sclockRunsSpec)) sclockRunsCard

/-- THE TIED CARD OF 'forelocklaw20.SclockFair'. -/
def sclockFairCard : Claim7 := { stood := { row := sclockFairRow, standIns := [], harness := (true, "08237d9e01b6d3f39db4fc474832bc84a8f0e37823043e37e8e3cca9eba03d76"), looks := false }, kinds := [], alts := [], laidByText := true, laidKinds := [.data], laidTests := true, laidLooks := .later }
def SclockFairCardSaid : Prop := Claim7.holds Tryz.pinned (.plain (OpenSpec.ofChange sclockFairSpec)) sclockFairCard

/-- THE SECOND FORM's CARD OF 'forelocklaw20.SclockSafe'. -/
def sclockSafeUptoCard : Claim7 := { stood := { row := sclockSafeUptoRow, standIns := [], harness := (true, "08237d9e01b6d3f39db4fc474832bc84a8f0e37823043e37e8e3cca9eba03d76"), looks := false }, kinds := [], alts := [], laidByText := true, laidKinds := [.data], laidTests := true, laidLooks := .later }
def SclockSafeUptoCardSaid : Prop := Claim7.holds Tryz.pinned (.plain (OpenSpec.upto sclockSafeSpec)) sclockSafeUptoCard

/-- THE SECOND FORM's CARD OF 'forelocklaw20.SclockRuns'. -/
def sclockRunsUptoCard : Claim7 := { stood := { row := sclockRunsUptoRow, standIns := [], harness := (true, "08237d9e01b6d3f39db4fc474832bc84a8f0e37823043e37e8e3cca9eba03d76"), looks := false }, kinds := [], alts := [], laidByText := true, laidKinds := [.data], laidTests := true, laidLooks := .later }
def SclockRunsUptoCardSaid : Prop := Claim7.holds Tryz.pinned (.plain (OpenSpec.upto sclockRunsSpec)) sclockRunsUptoCard

/-- THE SECOND FORM's CARD OF 'forelocklaw20.SclockFair'. -/
def sclockFairUptoCard : Claim7 := { stood := { row := sclockFairUptoRow, standIns := [], harness := (true, "08237d9e01b6d3f39db4fc474832bc84a8f0e37823043e37e8e3cca9eba03d76"), looks := false }, kinds := [], alts := [], laidByText := true, laidKinds := [.data], laidTests := true, laidLooks := .later }
def SclockFairUptoCardSaid : Prop := Claim7.holds Tryz.pinned (.plain (OpenSpec.upto sclockFairSpec)) sclockFairUptoCard
end Rows
end Go.Proofs.YtljpjpnjaeidiaaGreatDoor
