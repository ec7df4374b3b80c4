/-
  DERIVED. GIVEN WITH THE SEED: THE CARDS: each row of YtpemcncnehhgfaaDoorRows.lean that lists a variable, with what it lists TIED to the program's text (the seventh form; the later family's looks); each row that meets fmt, with fmt's text TOLD by the authors' own Lean function (tested against real Go, not proved from fmt's source: count such statements apart). THE CARD IS WHAT COUNTS. Prove the row's statement (the work); the ties are given (YtpemcncnehhgfaaDoorTie.lean); close each card by the builder's one call (the guide's Derived/Test/ToyasCard.lean, 'card_holds'). Laid BY PROGRAM, IN A SANDBOX (cutbox-door.mjs). By AI agents, Wed Nov 11 2026. No macro, syntax, notation, axiom, sorry.
-/
import Derived.Test.YtpemcncnehhgfaaDoorRows
import GoSem.ClaimSeven
namespace Go.Proofs.YtpemcncnehhgfaaDoor
namespace Rows

/-- THE TIED CARD OF 'forelocklaw06.IdsetOf'. -/
def idsetOfCard : Claim7 := { stood := { row := idsetOfRow, standIns := [], harness := (true, "5d630a61fee6407117155216cf6ca28f09982a2b952683fb048203f9f6804cdd"), looks := false }, kinds := [], alts := [], laidByText := true, laidKinds := [.data], laidTests := true, laidLooks := .later }
def IdsetOfCardSaid : Prop := Claim7.holds Tryd.pinned (.plain (OpenSpec.ofChange idsetOfSpec)) idsetOfCard

/-- THE TIED CARD OF 'forelocklaw06.IdsetCalls'. -/
def idsetCallsCard : Claim7 := { stood := { row := idsetCallsRow, standIns := [], harness := (true, "5d630a61fee6407117155216cf6ca28f09982a2b952683fb048203f9f6804cdd"), looks := false }, kinds := [], alts := [], laidByText := true, laidKinds := [.data], laidTests := true, laidLooks := .later }
def IdsetCallsCardSaid : Prop := Claim7.holds Tryd.pinned (.plain (OpenSpec.ofChange idsetCallsSpec)) idsetCallsCard

/-- THE TIED CARD OF 'forelocklaw06.IdsetTurned'. -/
def idsetTurnedCard : Claim7 := { stood := { row := idsetTurnedRow, standIns := [], harness := (true, "5d630a61fee6407117155216cf6ca28f09982a2b952683fb048203f9f6804cdd"), looks := false }, kinds := [], alts := [], laidByText := true, laidKinds := [.data], laidTests := true, laidLooks := .later }
def IdsetTurnedCardSaid : Prop := Claim7.holds Tryd.pinned (.plain (OpenSpec.ofChange idsetTurnedSpec)) idsetTurnedCard

/-- THE TIED CARD OF 'forelocklaw22.GraphTurned'. -/
def graphTurnedCard : Claim7 := { stood := { row := graphTurnedRow, standIns := [], harness := (true, "5d630a61fee6407117155216cf6ca28f09982a2b952683fb048203f9f6804cdd"), looks := false }, kinds := [], alts := [], laidByText := true, laidKinds := [.data], laidTests := true, laidLooks := .later }
def GraphTurnedCardSaid : Prop := Claim7.holds Tryd.pinned (.plain (OpenSpec.ofChange graphTurnedSpec)) graphTurnedCard

/-- THE TIED CARD OF 'forelocklaw23.InheritBack'. -/
def inheritBackCard : Claim7 := { stood := { row := inheritBackRow, standIns := [], harness := (true, "5d630a61fee6407117155216cf6ca28f09982a2b952683fb048203f9f6804cdd"), looks := false }, kinds := [], alts := [], laidByText := true, laidKinds := [.data], laidTests := true, laidLooks := .later }
def InheritBackCardSaid : Prop := Claim7.holds Tryd.pinned (.plain (OpenSpec.ofChange inheritBackSpec)) inheritBackCard

/-- THE TIED CARD OF 'forelocklaw23.InheritChanges'. -/
def inheritChangesCard : Claim7 := { stood := { row := inheritChangesRow, standIns := [], harness := (true, "5d630a61fee6407117155216cf6ca28f09982a2b952683fb048203f9f6804cdd"), looks := false }, kinds := [], alts := [], laidByText := true, laidKinds := [.data], laidTests := true, laidLooks := .later }
def InheritChangesCardSaid : Prop := Claim7.holds Tryd.pinned (.plain (OpenSpec.ofChange inheritChangesSpec)) inheritChangesCard

/-- THE TIED CARD OF 'forelocklaw23.InheritTells'. -/
def inheritTellsCard : Claim7 := { stood := { row := inheritTellsRow, standIns := [], harness := (true, "5d630a61fee6407117155216cf6ca28f09982a2b952683fb048203f9f6804cdd"), looks := false }, kinds := [], alts := [], laidByText := true, laidKinds := [.data], laidTests := true, laidLooks := .later }
def InheritTellsCardSaid : Prop := Claim7.holds Tryd.pinned (.plain (OpenSpec.ofChange inheritTellsSpec)) inheritTellsCard

/-- THE TIED CARD OF 'forelocklaw22.GraphRuns'. -/
def graphRunsCard : Claim7 := { stood := { row := graphRunsRow, standIns := [], harness := (true, "5d630a61fee6407117155216cf6ca28f09982a2b952683fb048203f9f6804cdd"), looks := false }, kinds := [], alts := [], laidByText := true, laidKinds := [.data], laidTests := true, laidLooks := .later }
def GraphRunsCardSaid : Prop := Claim7.holds Tryd.pinned (.plain (OpenSpec.ofChange graphRunsSpec)) graphRunsCard

/-- THE TIED CARD OF 'forelocklaw22.GraphCycles'. -/
def graphCyclesCard : Claim7 := { stood := { row := graphCyclesRow, standIns := [], harness := (true, "5d630a61fee6407117155216cf6ca28f09982a2b952683fb048203f9f6804cdd"), looks := false }, kinds := [], alts := [], laidByText := true, laidKinds := [.data], laidTests := true, laidLooks := .later }
def GraphCyclesCardSaid : Prop := Claim7.holds Tryd.pinned (.plain (OpenSpec.ofChange graphCyclesSpec)) graphCyclesCard

/-- THE TIED CARD OF 'forelocklaw22.GraphEdges'. -/
def graphEdgesCard : Claim7 := { stood := { row := graphEdgesRow, standIns := [], harness := (true, "5d630a61fee6407117155216cf6ca28f09982a2b952683fb048203f9f6804cdd"), looks := false }, kinds := [], alts := [], laidByText := true, laidKinds := [.data], laidTests := true, laidLooks := .later }
def GraphEdgesCardSaid : Prop := Claim7.holds Tryd.pinned (.plain (OpenSpec.ofChange graphEdgesSpec)) graphEdgesCard

/-- THE SECOND FORM's CARD OF 'forelocklaw06.IdsetOf'. -/
def idsetOfUptoCard : Claim7 := { stood := { row := idsetOfUptoRow, standIns := [], harness := (true, "5d630a61fee6407117155216cf6ca28f09982a2b952683fb048203f9f6804cdd"), looks := false }, kinds := [], alts := [], laidByText := true, laidKinds := [.data], laidTests := true, laidLooks := .later }
def IdsetOfUptoCardSaid : Prop := Claim7.holds Tryd.pinned (.plain (OpenSpec.upto idsetOfSpec)) idsetOfUptoCard

/-- THE SECOND FORM's CARD OF 'forelocklaw06.IdsetCalls'. -/
def idsetCallsUptoCard : Claim7 := { stood := { row := idsetCallsUptoRow, standIns := [], harness := (true, "5d630a61fee6407117155216cf6ca28f09982a2b952683fb048203f9f6804cdd"), looks := false }, kinds := [], alts := [], laidByText := true, laidKinds := [.data], laidTests := true, laidLooks := .later }
def IdsetCallsUptoCardSaid : Prop := Claim7.holds Tryd.pinned (.plain (OpenSpec.upto idsetCallsSpec)) idsetCallsUptoCard

/-- THE SECOND FORM's CARD OF 'forelocklaw06.IdsetTurned'. -/
def idsetTurnedUptoCard : Claim7 := { stood := { row := idsetTurnedUptoRow, standIns := [], harness := (true, "5d630a61fee6407117155216cf6ca28f09982a2b952683fb048203f9f6804cdd"), looks := false }, kinds := [], alts := [], laidByText := true, laidKinds := [.data], laidTests := true, laidLooks := .later }
def IdsetTurnedUptoCardSaid : Prop := Claim7.holds Tryd.pinned (.plain (OpenSpec.upto idsetTurnedSpec)) idsetTurnedUptoCard

/-- THE SECOND FORM's CARD OF 'forelocklaw22.GraphTurned'. -/
def graphTurnedUptoCard : Claim7 := { stood := { row := graphTurnedUptoRow, standIns := [], harness := (true, "5d630a61fee6407117155216cf6ca28f09982a2b952683fb048203f9f6804cdd"), looks := false }, kinds := [], alts := [], laidByText := true, laidKinds := [.data], laidTests := true, laidLooks := .later }
def GraphTurnedUptoCardSaid : Prop := Claim7.holds Tryd.pinned (.plain (OpenSpec.upto graphTurnedSpec)) graphTurnedUptoCard

/-- THE SECOND FORM's CARD OF 'forelocklaw23.InheritBack'. -/
def inheritBackUptoCard : Claim7 := { stood := { row := inheritBackUptoRow, standIns := [], harness := (true, "5d630a61fee6407117155216cf6ca28f09982a2b952683fb048203f9f6804cdd"), looks := false }, kinds := [], alts := [], laidByText := true, laidKinds := [.data], laidTests := true, laidLooks := .later }
def InheritBackUptoCardSaid : Prop := Claim7.holds Tryd.pinned (.plain (OpenSpec.upto inheritBackSpec)) inheritBackUptoCard

/-- THE SECOND FORM's CARD OF 'forelocklaw23.InheritChanges'. -/
def inheritChangesUptoCard : Claim7 := { stood := { row := inheritChangesUptoRow, standIns := [], harness := (true, "5d630a61fee6407117155216cf6ca28f09982a2b952683fb048203f9f6804cdd"), looks := false }, kinds := [], alts := [], laidByText := true, laidKinds := [.data], laidTests := true, laidLooks := .later }
def InheritChangesUptoCardSaid : Prop := Claim7.holds Tryd.pinned (.plain (OpenSpec.upto inheritChangesSpec)) inheritChangesUptoCard

/-- THE SECOND FORM's CARD OF 'forelocklaw23.InheritTells'. -/
def inheritTellsUptoCard : Claim7 := { stood := { row := inheritTellsUptoRow, standIns := [], harness := (true, "5d630a61fee6407117155216cf6ca28f09982a2b952683fb048203f9f6804cdd"), looks := false }, kinds := [], alts := [], laidByText := true, laidKinds := [.data], laidTests := true, laidLooks := .later }
def InheritTellsUptoCardSaid : Prop := Claim7.holds Tryd.pinned (.plain (OpenSpec.upto inheritTellsSpec)) inheritTellsUptoCard

/-- THE SECOND FORM's CARD OF 'forelocklaw22.GraphRuns'. -/
def graphRunsUptoCard : Claim7 := { stood := { row := graphRunsUptoRow, standIns := [], harness := (true, "5d630a61fee6407117155216cf6ca28f09982a2b952683fb048203f9f6804cdd"), looks := false }, kinds := [], alts := [], laidByText := true, laidKinds := [.data], laidTests := true, laidLooks := .later }
def GraphRunsUptoCardSaid : Prop := Claim7.holds Tryd.pinned (.plain (OpenSpec.upto graphRunsSpec)) graphRunsUptoCard

/-- THE SECOND FORM's CARD OF 'forelocklaw22.GraphCycles'. -/
def graphCyclesUptoCard : Claim7 := { stood := { row := graphCyclesUptoRow, standIns := [], harness := (true, "5d630a61fee6407117155216cf6ca28f09982a2b952683fb048203f9f6804cdd"), looks := false }, kinds := [], alts := [], laidByText := true, laidKinds := [.data], laidTests := true, laidLooks := .later }
def GraphCyclesUptoCardSaid : Prop := Claim7.holds Tryd.pinned (.plain (OpenSpec.upto graphCyclesSpec)) graphCyclesUptoCard

/-- THE SECOND FORM's CARD OF 'forelocklaw22.GraphEdges'. -/
def graphEdgesUptoCard : Claim7 := { stood := { row := graphEdgesUptoRow, standIns := [], harness := (true, "5d630a61fee6407117155216cf6ca28f09982a2b952683fb048203f9f6804cdd"), looks := false }, kinds := [], alts := [], laidByText := true, laidKinds := [.data], laidTests := true, laidLooks := .later }
def GraphEdgesUptoCardSaid : Prop := Claim7.holds Tryd.pinned (.plain (OpenSpec.upto graphEdgesSpec)) graphEdgesUptoCard
end Rows
end Go.Proofs.YtpemcncnehhgfaaDoor
