/-
  DERIVED. GIVEN WITH THE SEED: THE CARDS: each row of YtbndlommbpkijaaDoorRows.lean that lists a variable, with what it lists TIED to the program's text (the seventh form; the later family's looks); each row that meets fmt, with fmt's text TOLD by the authors' own Lean function (tested against real Go, not proved from fmt's source: count such statements apart). THE CARD IS WHAT COUNTS. Prove the row's statement (the work); the ties are given (YtbndlommbpkijaaDoorTie.lean); close each card by the builder's one call (the guide's Derived/Test/ToyasCard.lean, 'card_holds'). Laid BY PROGRAM, IN A SANDBOX (cutbox-door.mjs). By AI agents, Wed Nov 11 2026. No macro, syntax, notation, axiom, sorry.
-/
import Derived.Test.YtbndlommbpkijaaDoorRows
import GoSem.ClaimSeven
namespace Go.Proofs.YtbndlommbpkijaaDoor
namespace Rows

/-- THE TIED CARD OF 'forelocklaw09.TokenAny'. -/
def tokenAnyCard : Claim7 := { stood := { row := tokenAnyRow, standIns := [], harness := (true, "a4bc319c5fbcdcb1c3f253420b0eef6ace81dd454e4222e58bed194c7cd74fac"), looks := true }, kinds := [], alts := [], laidByText := true, laidKinds := [.data, .data, .data, .data, .sentinel, .sentinel, .pinned], laidTests := true, laidLooks := .later }
def TokenAnyCardSaid : Prop := Claim7.holds Tryd.pinned (.plain (OpenSpec.ofChange tokenAnySpec)) tokenAnyCard

/-- THE TIED CARD OF 'forelocklaw24.EventOf'. -/
def eventOfCard : Claim7 := { stood := { row := eventOfRow, standIns := [], harness := (true, "a4bc319c5fbcdcb1c3f253420b0eef6ace81dd454e4222e58bed194c7cd74fac"), looks := true }, kinds := [], alts := [], laidByText := true, laidKinds := [.data, .data, .data, .data, .sentinel, .sentinel, .pinned], laidTests := true, laidLooks := .later }
def EventOfCardSaid : Prop := Claim7.holds Tryd.pinned (.plain (OpenSpec.ofChange eventOfSpec)) eventOfCard

/-- THE TIED CARD OF 'forelocklaw24.EventBack'. -/
def eventBackCard : Claim7 := { stood := { row := eventBackRow, standIns := [], harness := (true, "a4bc319c5fbcdcb1c3f253420b0eef6ace81dd454e4222e58bed194c7cd74fac"), looks := true }, kinds := [], alts := [], laidByText := true, laidKinds := [.data, .data, .data, .data, .sentinel, .sentinel, .pinned], laidTests := true, laidLooks := .later }
def EventBackCardSaid : Prop := Claim7.holds Tryd.pinned (.plain (OpenSpec.ofChange eventBackSpec)) eventBackCard

/-- THE TIED CARD OF 'forelocklaw24.EventAny'. -/
def eventAnyCard : Claim7 := { stood := { row := eventAnyRow, standIns := [], harness := (true, "a4bc319c5fbcdcb1c3f253420b0eef6ace81dd454e4222e58bed194c7cd74fac"), looks := true }, kinds := [], alts := [], laidByText := true, laidKinds := [.data, .data, .data, .data, .sentinel, .sentinel, .pinned], laidTests := true, laidLooks := .later }
def EventAnyCardSaid : Prop := Claim7.holds Tryd.pinned (.plain (OpenSpec.ofChange eventAnySpec)) eventAnyCard

/-- THE TIED CARD OF 'forelocklaw24.EventJoined'. -/
def eventJoinedCard : Claim7 := { stood := { row := eventJoinedRow, standIns := [], harness := (true, "a4bc319c5fbcdcb1c3f253420b0eef6ace81dd454e4222e58bed194c7cd74fac"), looks := true }, kinds := [], alts := [], laidByText := true, laidKinds := [.data, .data, .data, .data, .sentinel, .sentinel, .pinned], laidTests := true, laidLooks := .later }
def EventJoinedCardSaid : Prop := Claim7.holds Tryd.pinned (.plain (OpenSpec.ofChange eventJoinedSpec)) eventJoinedCard

/-- THE TIED CARD OF 'forelocklaw41.OrderHolds'. -/
def orderHoldsCard : Claim7 := { stood := { row := orderHoldsRow, standIns := [], harness := (true, "a4bc319c5fbcdcb1c3f253420b0eef6ace81dd454e4222e58bed194c7cd74fac"), looks := true }, kinds := [], alts := [], laidByText := true, laidKinds := [.data], laidTests := true, laidLooks := .later }
def OrderHoldsCardSaid : Prop := Claim7.holds Tryd.pinned (.plain (OpenSpec.ofChange orderHoldsSpec)) orderHoldsCard

/-- THE TIED CARD OF 'forelocklaw41.OrderTells'. -/
def orderTellsCard : Claim7 := { stood := { row := orderTellsRow, standIns := [], harness := (true, "a4bc319c5fbcdcb1c3f253420b0eef6ace81dd454e4222e58bed194c7cd74fac"), looks := true }, kinds := [], alts := [], laidByText := true, laidKinds := [.data], laidTests := true, laidLooks := .later }
def OrderTellsCardSaid : Prop := Claim7.holds Tryd.pinned (.plain (OpenSpec.ofChange orderTellsSpec)) orderTellsCard

/-- THE SECOND FORM's CARD OF 'forelocklaw09.TokenAny'. -/
def tokenAnyUptoCard : Claim7 := { stood := { row := tokenAnyUptoRow, standIns := [], harness := (true, "a4bc319c5fbcdcb1c3f253420b0eef6ace81dd454e4222e58bed194c7cd74fac"), looks := true }, kinds := [], alts := [], laidByText := true, laidKinds := [.data, .data, .data, .data, .sentinel, .sentinel, .pinned], laidTests := true, laidLooks := .later }
def TokenAnyUptoCardSaid : Prop := Claim7.holds Tryd.pinned (.plain (OpenSpec.upto tokenAnySpec)) tokenAnyUptoCard

/-- THE SECOND FORM's CARD OF 'forelocklaw24.EventOf'. -/
def eventOfUptoCard : Claim7 := { stood := { row := eventOfUptoRow, standIns := [], harness := (true, "a4bc319c5fbcdcb1c3f253420b0eef6ace81dd454e4222e58bed194c7cd74fac"), looks := true }, kinds := [], alts := [], laidByText := true, laidKinds := [.data, .data, .data, .data, .sentinel, .sentinel, .pinned], laidTests := true, laidLooks := .later }
def EventOfUptoCardSaid : Prop := Claim7.holds Tryd.pinned (.plain (OpenSpec.upto eventOfSpec)) eventOfUptoCard

/-- THE SECOND FORM's CARD OF 'forelocklaw24.EventBack'. -/
def eventBackUptoCard : Claim7 := { stood := { row := eventBackUptoRow, standIns := [], harness := (true, "a4bc319c5fbcdcb1c3f253420b0eef6ace81dd454e4222e58bed194c7cd74fac"), looks := true }, kinds := [], alts := [], laidByText := true, laidKinds := [.data, .data, .data, .data, .sentinel, .sentinel, .pinned], laidTests := true, laidLooks := .later }
def EventBackUptoCardSaid : Prop := Claim7.holds Tryd.pinned (.plain (OpenSpec.upto eventBackSpec)) eventBackUptoCard

/-- THE SECOND FORM's CARD OF 'forelocklaw24.EventAny'. -/
def eventAnyUptoCard : Claim7 := { stood := { row := eventAnyUptoRow, standIns := [], harness := (true, "a4bc319c5fbcdcb1c3f253420b0eef6ace81dd454e4222e58bed194c7cd74fac"), looks := true }, kinds := [], alts := [], laidByText := true, laidKinds := [.data, .data, .data, .data, .sentinel, .sentinel, .pinned], laidTests := true, laidLooks := .later }
def EventAnyUptoCardSaid : Prop := Claim7.holds Tryd.pinned (.plain (OpenSpec.upto eventAnySpec)) eventAnyUptoCard

/-- THE SECOND FORM's CARD OF 'forelocklaw24.EventJoined'. -/
def eventJoinedUptoCard : Claim7 := { stood := { row := eventJoinedUptoRow, standIns := [], harness := (true, "a4bc319c5fbcdcb1c3f253420b0eef6ace81dd454e4222e58bed194c7cd74fac"), looks := true }, kinds := [], alts := [], laidByText := true, laidKinds := [.data, .data, .data, .data, .sentinel, .sentinel, .pinned], laidTests := true, laidLooks := .later }
def EventJoinedUptoCardSaid : Prop := Claim7.holds Tryd.pinned (.plain (OpenSpec.upto eventJoinedSpec)) eventJoinedUptoCard

/-- THE SECOND FORM's CARD OF 'forelocklaw41.OrderHolds'. -/
def orderHoldsUptoCard : Claim7 := { stood := { row := orderHoldsUptoRow, standIns := [], harness := (true, "a4bc319c5fbcdcb1c3f253420b0eef6ace81dd454e4222e58bed194c7cd74fac"), looks := true }, kinds := [], alts := [], laidByText := true, laidKinds := [.data], laidTests := true, laidLooks := .later }
def OrderHoldsUptoCardSaid : Prop := Claim7.holds Tryd.pinned (.plain (OpenSpec.upto orderHoldsSpec)) orderHoldsUptoCard

/-- THE SECOND FORM's CARD OF 'forelocklaw41.OrderTells'. -/
def orderTellsUptoCard : Claim7 := { stood := { row := orderTellsUptoRow, standIns := [], harness := (true, "a4bc319c5fbcdcb1c3f253420b0eef6ace81dd454e4222e58bed194c7cd74fac"), looks := true }, kinds := [], alts := [], laidByText := true, laidKinds := [.data], laidTests := true, laidLooks := .later }
def OrderTellsUptoCardSaid : Prop := Claim7.holds Tryd.pinned (.plain (OpenSpec.upto orderTellsSpec)) orderTellsUptoCard
end Rows
end Go.Proofs.YtbndlommbpkijaaDoor
