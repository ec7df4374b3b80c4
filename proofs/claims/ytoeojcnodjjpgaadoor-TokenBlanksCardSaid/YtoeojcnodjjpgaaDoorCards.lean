/-
  DERIVED. GIVEN WITH THE SEED: THE CARDS: each row of YtoeojcnodjjpgaaDoorRows.lean that lists a variable, with what it lists TIED to the program's text (the seventh form; the later family's looks); each row that meets fmt, with fmt's text TOLD by the authors' own Lean function (tested against real Go, not proved from fmt's source: count such statements apart). THE CARD IS WHAT COUNTS. Prove the row's statement (the work); the ties are given (YtoeojcnodjjpgaaDoorTie.lean); close each card by the builder's one call (the guide's Derived/Test/ToyasCard.lean, 'card_holds'). Laid BY PROGRAM, IN A SANDBOX (cutbox-door.mjs). By AI agents, Wed Nov 11 2026. No macro, syntax, notation, axiom, sorry.
-/
import Derived.Test.YtoeojcnodjjpgaaDoorRows
import GoSem.ClaimSeven
namespace Go.Proofs.YtoeojcnodjjpgaaDoor
namespace Rows

/-- THE TIED CARD OF 'forelocklaw13.ActsBack'. -/
def actsBackCard : Claim7 := { stood := { row := actsBackRow, standIns := [], harness := (true, "79faac3f72cc6c6ce36fef5a5c5f8563d3fe3c99bd42057791f6b8d47783d6a0"), looks := true }, kinds := [], alts := [], laidByText := true, laidKinds := [.data, .data, .data, .data, .pinned], laidTests := true, laidLooks := .later }
def ActsBackCardSaid : Prop := Claim7.holds Tryd.pinned (.plain (OpenSpec.ofChange actsBackSpec)) actsBackCard

/-- THE TIED CARD OF 'forelocklaw13.ActsAny'. -/
def actsAnyCard : Claim7 := { stood := { row := actsAnyRow, standIns := [], harness := (true, "79faac3f72cc6c6ce36fef5a5c5f8563d3fe3c99bd42057791f6b8d47783d6a0"), looks := true }, kinds := [], alts := [], laidByText := true, laidKinds := [.data, .data, .data, .data, .pinned], laidTests := true, laidLooks := .later }
def ActsAnyCardSaid : Prop := Claim7.holds Tryd.pinned (.plain (OpenSpec.ofChange actsAnySpec)) actsAnyCard

/-- THE TIED CARD OF 'forelocklaw10.ProgAny'. -/
def progAnyCard : Claim7 := { stood := { row := progAnyRow, standIns := [], harness := (true, "79faac3f72cc6c6ce36fef5a5c5f8563d3fe3c99bd42057791f6b8d47783d6a0"), looks := true }, kinds := [], alts := [], laidByText := true, laidKinds := [.data, .data, .data, .data, .pinned], laidTests := true, laidLooks := .later }
def ProgAnyCardSaid : Prop := Claim7.holds Tryd.pinned (.plain (OpenSpec.ofChange progAnySpec)) progAnyCard

/-- THE TIED CARD OF 'forelocklaw10.ProgSames'. -/
def progSamesCard : Claim7 := { stood := { row := progSamesRow, standIns := [], harness := (true, "79faac3f72cc6c6ce36fef5a5c5f8563d3fe3c99bd42057791f6b8d47783d6a0"), looks := true }, kinds := [], alts := [], laidByText := true, laidKinds := [.data, .data, .data, .data, .pinned], laidTests := true, laidLooks := .later }
def ProgSamesCardSaid : Prop := Claim7.holds Tryd.pinned (.plain (OpenSpec.ofChange progSamesSpec)) progSamesCard

/-- THE TIED CARD OF 'forelocklaw10.ProgBack'. -/
def progBackCard : Claim7 := { stood := { row := progBackRow, standIns := [], harness := (true, "79faac3f72cc6c6ce36fef5a5c5f8563d3fe3c99bd42057791f6b8d47783d6a0"), looks := true }, kinds := [], alts := [], laidByText := true, laidKinds := [.data, .data, .data, .data, .pinned], laidTests := true, laidLooks := .later }
def ProgBackCardSaid : Prop := Claim7.holds Tryd.pinned (.plain (OpenSpec.ofChange progBackSpec)) progBackCard

/-- THE TIED CARD OF 'forelocklaw09.TokenBack'. -/
def tokenBackCard : Claim7 := { stood := { row := tokenBackRow, standIns := [], harness := (true, "79faac3f72cc6c6ce36fef5a5c5f8563d3fe3c99bd42057791f6b8d47783d6a0"), looks := true }, kinds := [], alts := [], laidByText := true, laidKinds := [.data, .data, .data, .data, .sentinel, .sentinel, .pinned], laidTests := true, laidLooks := .later }
def TokenBackCardSaid : Prop := Claim7.holds Tryd.pinned (.plain (OpenSpec.ofChange tokenBackSpec)) tokenBackCard

/-- THE TIED CARD OF 'forelocklaw09.TokenAny'. -/
def tokenAnyCard : Claim7 := { stood := { row := tokenAnyRow, standIns := [], harness := (true, "79faac3f72cc6c6ce36fef5a5c5f8563d3fe3c99bd42057791f6b8d47783d6a0"), looks := true }, kinds := [], alts := [], laidByText := true, laidKinds := [.data, .data, .data, .data, .sentinel, .sentinel, .pinned], laidTests := true, laidLooks := .later }
def TokenAnyCardSaid : Prop := Claim7.holds Tryd.pinned (.plain (OpenSpec.ofChange tokenAnySpec)) tokenAnyCard

/-- THE TIED CARD OF 'forelocklaw09.TokenBlanks'. -/
def tokenBlanksCard : Claim7 := { stood := { row := tokenBlanksRow, standIns := [], harness := (true, "79faac3f72cc6c6ce36fef5a5c5f8563d3fe3c99bd42057791f6b8d47783d6a0"), looks := true }, kinds := [], alts := [], laidByText := true, laidKinds := [.data, .data, .data, .data, .sentinel, .sentinel, .pinned], laidTests := true, laidLooks := .later }
def TokenBlanksCardSaid : Prop := Claim7.holds Tryd.pinned (.plain (OpenSpec.ofChange tokenBlanksSpec)) tokenBlanksCard

/-- THE SECOND FORM's CARD OF 'forelocklaw13.ActsBack'. -/
def actsBackUptoCard : Claim7 := { stood := { row := actsBackUptoRow, standIns := [], harness := (true, "79faac3f72cc6c6ce36fef5a5c5f8563d3fe3c99bd42057791f6b8d47783d6a0"), looks := true }, kinds := [], alts := [], laidByText := true, laidKinds := [.data, .data, .data, .data, .pinned], laidTests := true, laidLooks := .later }
def ActsBackUptoCardSaid : Prop := Claim7.holds Tryd.pinned (.plain (OpenSpec.upto actsBackSpec)) actsBackUptoCard

/-- THE SECOND FORM's CARD OF 'forelocklaw13.ActsAny'. -/
def actsAnyUptoCard : Claim7 := { stood := { row := actsAnyUptoRow, standIns := [], harness := (true, "79faac3f72cc6c6ce36fef5a5c5f8563d3fe3c99bd42057791f6b8d47783d6a0"), looks := true }, kinds := [], alts := [], laidByText := true, laidKinds := [.data, .data, .data, .data, .pinned], laidTests := true, laidLooks := .later }
def ActsAnyUptoCardSaid : Prop := Claim7.holds Tryd.pinned (.plain (OpenSpec.upto actsAnySpec)) actsAnyUptoCard

/-- THE SECOND FORM's CARD OF 'forelocklaw10.ProgAny'. -/
def progAnyUptoCard : Claim7 := { stood := { row := progAnyUptoRow, standIns := [], harness := (true, "79faac3f72cc6c6ce36fef5a5c5f8563d3fe3c99bd42057791f6b8d47783d6a0"), looks := true }, kinds := [], alts := [], laidByText := true, laidKinds := [.data, .data, .data, .data, .pinned], laidTests := true, laidLooks := .later }
def ProgAnyUptoCardSaid : Prop := Claim7.holds Tryd.pinned (.plain (OpenSpec.upto progAnySpec)) progAnyUptoCard

/-- THE SECOND FORM's CARD OF 'forelocklaw10.ProgSames'. -/
def progSamesUptoCard : Claim7 := { stood := { row := progSamesUptoRow, standIns := [], harness := (true, "79faac3f72cc6c6ce36fef5a5c5f8563d3fe3c99bd42057791f6b8d47783d6a0"), looks := true }, kinds := [], alts := [], laidByText := true, laidKinds := [.data, .data, .data, .data, .pinned], laidTests := true, laidLooks := .later }
def ProgSamesUptoCardSaid : Prop := Claim7.holds Tryd.pinned (.plain (OpenSpec.upto progSamesSpec)) progSamesUptoCard

/-- THE SECOND FORM's CARD OF 'forelocklaw10.ProgBack'. -/
def progBackUptoCard : Claim7 := { stood := { row := progBackUptoRow, standIns := [], harness := (true, "79faac3f72cc6c6ce36fef5a5c5f8563d3fe3c99bd42057791f6b8d47783d6a0"), looks := true }, kinds := [], alts := [], laidByText := true, laidKinds := [.data, .data, .data, .data, .pinned], laidTests := true, laidLooks := .later }
def ProgBackUptoCardSaid : Prop := Claim7.holds Tryd.pinned (.plain (OpenSpec.upto progBackSpec)) progBackUptoCard

/-- THE SECOND FORM's CARD OF 'forelocklaw09.TokenBack'. -/
def tokenBackUptoCard : Claim7 := { stood := { row := tokenBackUptoRow, standIns := [], harness := (true, "79faac3f72cc6c6ce36fef5a5c5f8563d3fe3c99bd42057791f6b8d47783d6a0"), looks := true }, kinds := [], alts := [], laidByText := true, laidKinds := [.data, .data, .data, .data, .sentinel, .sentinel, .pinned], laidTests := true, laidLooks := .later }
def TokenBackUptoCardSaid : Prop := Claim7.holds Tryd.pinned (.plain (OpenSpec.upto tokenBackSpec)) tokenBackUptoCard

/-- THE SECOND FORM's CARD OF 'forelocklaw09.TokenAny'. -/
def tokenAnyUptoCard : Claim7 := { stood := { row := tokenAnyUptoRow, standIns := [], harness := (true, "79faac3f72cc6c6ce36fef5a5c5f8563d3fe3c99bd42057791f6b8d47783d6a0"), looks := true }, kinds := [], alts := [], laidByText := true, laidKinds := [.data, .data, .data, .data, .sentinel, .sentinel, .pinned], laidTests := true, laidLooks := .later }
def TokenAnyUptoCardSaid : Prop := Claim7.holds Tryd.pinned (.plain (OpenSpec.upto tokenAnySpec)) tokenAnyUptoCard

/-- THE SECOND FORM's CARD OF 'forelocklaw09.TokenBlanks'. -/
def tokenBlanksUptoCard : Claim7 := { stood := { row := tokenBlanksUptoRow, standIns := [], harness := (true, "79faac3f72cc6c6ce36fef5a5c5f8563d3fe3c99bd42057791f6b8d47783d6a0"), looks := true }, kinds := [], alts := [], laidByText := true, laidKinds := [.data, .data, .data, .data, .sentinel, .sentinel, .pinned], laidTests := true, laidLooks := .later }
def TokenBlanksUptoCardSaid : Prop := Claim7.holds Tryd.pinned (.plain (OpenSpec.upto tokenBlanksSpec)) tokenBlanksUptoCard
end Rows
end Go.Proofs.YtoeojcnodjjpgaaDoor
