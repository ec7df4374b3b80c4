/-
  DERIVED. GIVEN WITH THE SEED: THE CARDS: each row of YtbndlommbpkijaaGreatDoorRows.lean that lists a variable, with what it lists TIED to the program's text (the seventh form; the later family's looks); each row that meets fmt, with fmt's text TOLD by the authors' own Lean function (tested against real Go, not proved from fmt's source: count such statements apart). THE CARD IS WHAT COUNTS. Prove the row's statement (the work); the ties are given (YtbndlommbpkijaaGreatDoorTie.lean); close each card by the builder's one call (the guide's Derived/Test/ToyasCard.lean, 'card_holds'). Laid BY PROGRAM, IN A SANDBOX (cutbox-door.mjs). By AI agents, Wed Nov 11 2026. No macro, syntax, notation, axiom, sorry.
-/
import Derived.Test.YtbndlommbpkijaaGreatDoorRows
import GoSem.ClaimSeven
namespace Go.Proofs.YtbndlommbpkijaaGreatDoor
namespace Rows

/-- THE TIED CARD OF 'forelocklaw12.SetupAny'. -/
def setupAnyCard : Claim7 := { stood := { row := setupAnyRow, standIns := [], harness := (true, "2ef5cfa58eedd2abd180f2ceae6ea123391376401b9617a2690945f35906652d"), looks := true }, kinds := [], alts := [], laidByText := true, laidKinds := [.data, .data, .data, .data, .pinned], laidTests := true, laidLooks := .later }
def SetupAnyCardSaid : Prop := Claim7.holds Tryz.pinned (.plain (OpenSpec.ofChange setupAnySpec)) setupAnyCard

/-- THE TIED CARD OF 'forelocklaw12.SetupBack'. -/
def setupBackCard : Claim7 := { stood := { row := setupBackRow, standIns := [], harness := (true, "2ef5cfa58eedd2abd180f2ceae6ea123391376401b9617a2690945f35906652d"), looks := true }, kinds := [], alts := [], laidByText := true, laidKinds := [.data, .data, .data, .data, .pinned], laidTests := true, laidLooks := .later }
def SetupBackCardSaid : Prop := Claim7.holds Tryz.pinned (.plain (OpenSpec.ofChange setupBackSpec)) setupBackCard

/-- THE TIED CARD OF 'forelocklaw12.SetupSames'. -/
def setupSamesCard : Claim7 := { stood := { row := setupSamesRow, standIns := [], harness := (true, "2ef5cfa58eedd2abd180f2ceae6ea123391376401b9617a2690945f35906652d"), looks := true }, kinds := [], alts := [], laidByText := true, laidKinds := [.data, .data, .data, .data, .pinned], laidTests := true, laidLooks := .later }
def SetupSamesCardSaid : Prop := Claim7.holds Tryz.pinned (.plain (OpenSpec.ofChange setupSamesSpec)) setupSamesCard

/-- THE TIED CARD OF 'forelocklaw14.ScriptAny'. -/
def scriptAnyCard : Claim7 := { stood := { row := scriptAnyRow, standIns := [], harness := (true, "2ef5cfa58eedd2abd180f2ceae6ea123391376401b9617a2690945f35906652d"), looks := true }, kinds := [], alts := [], laidByText := true, laidKinds := [.data, .data, .data, .data, .sentinel, .sentinel, .pinned], laidTests := true, laidLooks := .later }
def ScriptAnyCardSaid : Prop := Claim7.holds Tryz.pinned (.plain (OpenSpec.ofChange scriptAnySpec)) scriptAnyCard

/-- THE TIED CARD OF 'forelocklaw14.ScriptBack'. -/
def scriptBackCard : Claim7 := { stood := { row := scriptBackRow, standIns := [], harness := (true, "2ef5cfa58eedd2abd180f2ceae6ea123391376401b9617a2690945f35906652d"), looks := true }, kinds := [], alts := [], laidByText := true, laidKinds := [.data, .data, .data, .data, .sentinel, .sentinel, .pinned], laidTests := true, laidLooks := .later }
def ScriptBackCardSaid : Prop := Claim7.holds Tryz.pinned (.plain (OpenSpec.ofChange scriptBackSpec)) scriptBackCard

/-- THE TIED CARD OF 'forelocklaw14.ScriptHead'. -/
def scriptHeadCard : Claim7 := { stood := { row := scriptHeadRow, standIns := [], harness := (true, "2ef5cfa58eedd2abd180f2ceae6ea123391376401b9617a2690945f35906652d"), looks := true }, kinds := [], alts := [], laidByText := true, laidKinds := [.data, .data, .data, .data, .sentinel, .sentinel, .pinned], laidTests := true, laidLooks := .later }
def ScriptHeadCardSaid : Prop := Claim7.holds Tryz.pinned (.plain (OpenSpec.ofChange scriptHeadSpec)) scriptHeadCard

/-- THE SECOND FORM's CARD OF 'forelocklaw12.SetupAny'. -/
def setupAnyUptoCard : Claim7 := { stood := { row := setupAnyUptoRow, standIns := [], harness := (true, "2ef5cfa58eedd2abd180f2ceae6ea123391376401b9617a2690945f35906652d"), looks := true }, kinds := [], alts := [], laidByText := true, laidKinds := [.data, .data, .data, .data, .pinned], laidTests := true, laidLooks := .later }
def SetupAnyUptoCardSaid : Prop := Claim7.holds Tryz.pinned (.plain (OpenSpec.upto setupAnySpec)) setupAnyUptoCard

/-- THE SECOND FORM's CARD OF 'forelocklaw12.SetupBack'. -/
def setupBackUptoCard : Claim7 := { stood := { row := setupBackUptoRow, standIns := [], harness := (true, "2ef5cfa58eedd2abd180f2ceae6ea123391376401b9617a2690945f35906652d"), looks := true }, kinds := [], alts := [], laidByText := true, laidKinds := [.data, .data, .data, .data, .pinned], laidTests := true, laidLooks := .later }
def SetupBackUptoCardSaid : Prop := Claim7.holds Tryz.pinned (.plain (OpenSpec.upto setupBackSpec)) setupBackUptoCard

/-- THE SECOND FORM's CARD OF 'forelocklaw12.SetupSames'. -/
def setupSamesUptoCard : Claim7 := { stood := { row := setupSamesUptoRow, standIns := [], harness := (true, "2ef5cfa58eedd2abd180f2ceae6ea123391376401b9617a2690945f35906652d"), looks := true }, kinds := [], alts := [], laidByText := true, laidKinds := [.data, .data, .data, .data, .pinned], laidTests := true, laidLooks := .later }
def SetupSamesUptoCardSaid : Prop := Claim7.holds Tryz.pinned (.plain (OpenSpec.upto setupSamesSpec)) setupSamesUptoCard

/-- THE SECOND FORM's CARD OF 'forelocklaw14.ScriptAny'. -/
def scriptAnyUptoCard : Claim7 := { stood := { row := scriptAnyUptoRow, standIns := [], harness := (true, "2ef5cfa58eedd2abd180f2ceae6ea123391376401b9617a2690945f35906652d"), looks := true }, kinds := [], alts := [], laidByText := true, laidKinds := [.data, .data, .data, .data, .sentinel, .sentinel, .pinned], laidTests := true, laidLooks := .later }
def ScriptAnyUptoCardSaid : Prop := Claim7.holds Tryz.pinned (.plain (OpenSpec.upto scriptAnySpec)) scriptAnyUptoCard

/-- THE SECOND FORM's CARD OF 'forelocklaw14.ScriptBack'. -/
def scriptBackUptoCard : Claim7 := { stood := { row := scriptBackUptoRow, standIns := [], harness := (true, "2ef5cfa58eedd2abd180f2ceae6ea123391376401b9617a2690945f35906652d"), looks := true }, kinds := [], alts := [], laidByText := true, laidKinds := [.data, .data, .data, .data, .sentinel, .sentinel, .pinned], laidTests := true, laidLooks := .later }
def ScriptBackUptoCardSaid : Prop := Claim7.holds Tryz.pinned (.plain (OpenSpec.upto scriptBackSpec)) scriptBackUptoCard

/-- THE SECOND FORM's CARD OF 'forelocklaw14.ScriptHead'. -/
def scriptHeadUptoCard : Claim7 := { stood := { row := scriptHeadUptoRow, standIns := [], harness := (true, "2ef5cfa58eedd2abd180f2ceae6ea123391376401b9617a2690945f35906652d"), looks := true }, kinds := [], alts := [], laidByText := true, laidKinds := [.data, .data, .data, .data, .sentinel, .sentinel, .pinned], laidTests := true, laidLooks := .later }
def ScriptHeadUptoCardSaid : Prop := Claim7.holds Tryz.pinned (.plain (OpenSpec.upto scriptHeadSpec)) scriptHeadUptoCard
end Rows
end Go.Proofs.YtbndlommbpkijaaGreatDoor
