/-
  NARROWER THAN 'FOR EVERY INPUT', by the rows' own cells (each row's printed sentence says how): IdsetOf: laid · IdsetCalls: laid · IdsetTurned: laid · GraphTurned: laid · InheritBack: laid · InheritChanges: laid · InheritTells: laid · GraphRuns: laid · GraphCycles: laid · GraphEdges: laid.
  DERIVED. THE GIVEN ROWS OF THIS SEAT. 10 by the template 'for every input the law returns true; each argument reads behind the call as it read before'; 0 by the template 'total and deterministic' (their statements: YtpemcncnehhgfaaDoorTotals.lean).
  GIVEN WITH THE SEED: the statements are not yours to turn. If you find one false, say at which input.
  Laid BY PROGRAM, IN A SANDBOX (cutbox-rows.mjs): the forced cells as the released guide's own fill.sh prints them over the translation 3fb05b2710f12e90… (all of the seat's roots in one cut). By AI agents, Wed Nov 11 2026. No macro, syntax, notation, axiom, sorry.
-/
import Derived.Test.YtpemcncnehhgfaaDoorChecked
import GoSem.Claim
import GoSem.ClaimJoined
import GoSem.ClaimMapViews
import Derived.JoinedTies
import Derived.KernelRfl
namespace Go.Proofs.YtpemcncnehhgfaaDoor
/- THE CELL 'sum', in the pinned program and in every row, IS THE sha256 OF THE DUMP (.gsa) THAT YtpemcncnehhgfaaDoorProg.lean LOADS. Nothing in Lean hashes anything: it is a label: what it is worth is what the hold of that sum in a sandbox is worth. -/
noncomputable def Tryd.pinned : Pinned := { name := "ytpemcncnehhgfaadoor", sum := "3fb05b2710f12e90e4ca053780a57f9fabefaf2777e0ecf7886ba2fb36f5d7cc", checked := Tryd.checked }
namespace Rows
def none {H : Type} : Left H := { results := [], args := [] }

/- WHAT THE LISTED PACKAGE-LEVEL VARIABLES READ AS WHEN THE CALL BEGINS. Each datum BY PROGRAM (the guide's laid-datum.mjs) off the statement by which the dump's own 'gosem.cut.vars' lays the variable. In a bare row this is a premise. The card (YtpemcncnehhgfaaDoorCards.lean) ties it to the program's text. -/
def laid_math_bits_deBruijn64tab {H : Type} : DataW H := .agg [.lit (.int .u8 0), .lit (.int .u8 1), .lit (.int .u8 56), .lit (.int .u8 2), .lit (.int .u8 57), .lit (.int .u8 49), .lit (.int .u8 28), .lit (.int .u8 3), .lit (.int .u8 61), .lit (.int .u8 58), .lit (.int .u8 42), .lit (.int .u8 50), .lit (.int .u8 38), .lit (.int .u8 29), .lit (.int .u8 17), .lit (.int .u8 4), .lit (.int .u8 62), .lit (.int .u8 47), .lit (.int .u8 59), .lit (.int .u8 36), .lit (.int .u8 45), .lit (.int .u8 43), .lit (.int .u8 51), .lit (.int .u8 22), .lit (.int .u8 53), .lit (.int .u8 39), .lit (.int .u8 33), .lit (.int .u8 30), .lit (.int .u8 24), .lit (.int .u8 18), .lit (.int .u8 12), .lit (.int .u8 5), .lit (.int .u8 63), .lit (.int .u8 55), .lit (.int .u8 48), .lit (.int .u8 27), .lit (.int .u8 60), .lit (.int .u8 41), .lit (.int .u8 37), .lit (.int .u8 16), .lit (.int .u8 46), .lit (.int .u8 35), .lit (.int .u8 44), .lit (.int .u8 21), .lit (.int .u8 52), .lit (.int .u8 32), .lit (.int .u8 23), .lit (.int .u8 11), .lit (.int .u8 54), .lit (.int .u8 26), .lit (.int .u8 40), .lit (.int .u8 15), .lit (.int .u8 34), .lit (.int .u8 20), .lit (.int .u8 31), .lit (.int .u8 10), .lit (.int .u8 25), .lit (.int .u8 14), .lit (.int .u8 19), .lit (.int .u8 9), .lit (.int .u8 13), .lit (.int .u8 8), .lit (.int .u8 7), .lit (.int .u8 6)]

/-- 'forelocklaw06.IdsetOf': WHATEVER THE INPUT: true; the input reads as it did. -/
def idsetOfSpec : ChangeSpec := { name := "idsetOf", fn := fun _ => fun
  | [d1, d2] => { results := [.lit (.bool true)], args := [d1, d2] }
  | _ => none }
def idsetOfRow : OpenClaim := { program := "ytpemcncnehhgfaadoor", sum := "3fb05b2710f12e90e4ca053780a57f9fabefaf2777e0ecf7886ba2fb36f5d7cc", func := "forelock/forelocklaw06.IdsetOf", spec := "idsetOf", unfollowed := true, recurses := true, named := ["math/bits.deBruijn64tab"], apart := false, laid := [("math/bits.deBruijn64tab", laid_math_bits_deBruijn64tab)] }
def IdsetOfSaid : Prop := idsetOfRow.holds Tryd.pinned (OpenSpec.ofChange idsetOfSpec)

/-- ITS FALSE NEIGHBOUR: 'it returns false'. Refute it at one input. -/
def idsetOfWrong : ChangeSpec := { name := "idsetOf", fn := fun _ => fun
  | [d1, d2] => { results := [.lit (.bool false)], args := [d1, d2] }
  | _ => none }
def IdsetOfWrongFalsely : Prop := idsetOfRow.holds Tryd.pinned (OpenSpec.ofChange idsetOfWrong)

/-- 'forelocklaw06.IdsetCalls': WHATEVER THE INPUT: true; the input reads as it did. -/
def idsetCallsSpec : ChangeSpec := { name := "idsetCalls", fn := fun _ => fun
  | [d1, d2, d3] => { results := [.lit (.bool true)], args := [d1, d2, d3] }
  | _ => none }
def idsetCallsRow : OpenClaim := { program := "ytpemcncnehhgfaadoor", sum := "3fb05b2710f12e90e4ca053780a57f9fabefaf2777e0ecf7886ba2fb36f5d7cc", func := "forelock/forelocklaw06.IdsetCalls", spec := "idsetCalls", unfollowed := true, recurses := true, named := ["math/bits.deBruijn64tab"], apart := false, laid := [("math/bits.deBruijn64tab", laid_math_bits_deBruijn64tab)] }
def IdsetCallsSaid : Prop := idsetCallsRow.holds Tryd.pinned (OpenSpec.ofChange idsetCallsSpec)

/-- ITS FALSE NEIGHBOUR: 'it returns false'. Refute it at one input. -/
def idsetCallsWrong : ChangeSpec := { name := "idsetCalls", fn := fun _ => fun
  | [d1, d2, d3] => { results := [.lit (.bool false)], args := [d1, d2, d3] }
  | _ => none }
def IdsetCallsWrongFalsely : Prop := idsetCallsRow.holds Tryd.pinned (OpenSpec.ofChange idsetCallsWrong)

/-- 'forelocklaw06.IdsetTurned': WHATEVER THE INPUT: true; the input reads as it did. -/
def idsetTurnedSpec : ChangeSpec := { name := "idsetTurned", fn := fun _ => fun
  | [d1, d2, d3] => { results := [.lit (.bool true)], args := [d1, d2, d3] }
  | _ => none }
def idsetTurnedRow : OpenClaim := { program := "ytpemcncnehhgfaadoor", sum := "3fb05b2710f12e90e4ca053780a57f9fabefaf2777e0ecf7886ba2fb36f5d7cc", func := "forelock/forelocklaw06.IdsetTurned", spec := "idsetTurned", unfollowed := true, recurses := true, named := ["math/bits.deBruijn64tab"], apart := false, laid := [("math/bits.deBruijn64tab", laid_math_bits_deBruijn64tab)] }
def IdsetTurnedSaid : Prop := idsetTurnedRow.holds Tryd.pinned (OpenSpec.ofChange idsetTurnedSpec)

/-- ITS FALSE NEIGHBOUR: 'it returns false'. Refute it at one input. -/
def idsetTurnedWrong : ChangeSpec := { name := "idsetTurned", fn := fun _ => fun
  | [d1, d2, d3] => { results := [.lit (.bool false)], args := [d1, d2, d3] }
  | _ => none }
def IdsetTurnedWrongFalsely : Prop := idsetTurnedRow.holds Tryd.pinned (OpenSpec.ofChange idsetTurnedWrong)

/-- 'forelocklaw22.GraphTurned': WHATEVER THE INPUT: true; the input reads as it did. -/
def graphTurnedSpec : ChangeSpec := { name := "graphTurned", fn := fun _ => fun
  | [d1, d2, d3] => { results := [.lit (.bool true)], args := [d1, d2, d3] }
  | _ => none }
def graphTurnedRow : OpenClaim := { program := "ytpemcncnehhgfaadoor", sum := "3fb05b2710f12e90e4ca053780a57f9fabefaf2777e0ecf7886ba2fb36f5d7cc", func := "forelock/forelocklaw22.GraphTurned", spec := "graphTurned", named := ["math/bits.deBruijn64tab"], apart := false, laid := [("math/bits.deBruijn64tab", laid_math_bits_deBruijn64tab)] }
def GraphTurnedSaid : Prop := graphTurnedRow.holds Tryd.pinned (OpenSpec.ofChange graphTurnedSpec)

/-- ITS FALSE NEIGHBOUR: 'it returns false'. Refute it at one input. -/
def graphTurnedWrong : ChangeSpec := { name := "graphTurned", fn := fun _ => fun
  | [d1, d2, d3] => { results := [.lit (.bool false)], args := [d1, d2, d3] }
  | _ => none }
def GraphTurnedWrongFalsely : Prop := graphTurnedRow.holds Tryd.pinned (OpenSpec.ofChange graphTurnedWrong)

/-- 'forelocklaw23.InheritBack': WHATEVER THE INPUT: true; the input reads as it did. -/
def inheritBackSpec : ChangeSpec := { name := "inheritBack", fn := fun _ => fun
  | [d1, d2] => { results := [.lit (.bool true)], args := [d1, d2] }
  | _ => none }
def inheritBackRow : OpenClaim := { program := "ytpemcncnehhgfaadoor", sum := "3fb05b2710f12e90e4ca053780a57f9fabefaf2777e0ecf7886ba2fb36f5d7cc", func := "forelock/forelocklaw23.InheritBack", spec := "inheritBack", unfollowed := true, recurses := true, named := ["math/bits.deBruijn64tab"], apart := false, laid := [("math/bits.deBruijn64tab", laid_math_bits_deBruijn64tab)] }
def InheritBackSaid : Prop := inheritBackRow.holds Tryd.pinned (OpenSpec.ofChange inheritBackSpec)

/-- ITS FALSE NEIGHBOUR: 'it returns false'. Refute it at one input. -/
def inheritBackWrong : ChangeSpec := { name := "inheritBack", fn := fun _ => fun
  | [d1, d2] => { results := [.lit (.bool false)], args := [d1, d2] }
  | _ => none }
def InheritBackWrongFalsely : Prop := inheritBackRow.holds Tryd.pinned (OpenSpec.ofChange inheritBackWrong)

/-- 'forelocklaw23.InheritChanges': WHATEVER THE INPUT: true; the input reads as it did. -/
def inheritChangesSpec : ChangeSpec := { name := "inheritChanges", fn := fun _ => fun
  | [d1, d2, d3] => { results := [.lit (.bool true)], args := [d1, d2, d3] }
  | _ => none }
def inheritChangesRow : OpenClaim := { program := "ytpemcncnehhgfaadoor", sum := "3fb05b2710f12e90e4ca053780a57f9fabefaf2777e0ecf7886ba2fb36f5d7cc", func := "forelock/forelocklaw23.InheritChanges", spec := "inheritChanges", unfollowed := true, recurses := true, named := ["math/bits.deBruijn64tab"], apart := false, laid := [("math/bits.deBruijn64tab", laid_math_bits_deBruijn64tab)] }
def InheritChangesSaid : Prop := inheritChangesRow.holds Tryd.pinned (OpenSpec.ofChange inheritChangesSpec)

/-- ITS FALSE NEIGHBOUR: 'it returns false'. Refute it at one input. -/
def inheritChangesWrong : ChangeSpec := { name := "inheritChanges", fn := fun _ => fun
  | [d1, d2, d3] => { results := [.lit (.bool false)], args := [d1, d2, d3] }
  | _ => none }
def InheritChangesWrongFalsely : Prop := inheritChangesRow.holds Tryd.pinned (OpenSpec.ofChange inheritChangesWrong)

/-- 'forelocklaw23.InheritTells': WHATEVER THE INPUT: true; the input reads as it did. -/
def inheritTellsSpec : ChangeSpec := { name := "inheritTells", fn := fun _ => fun
  | [d1, d2, d3] => { results := [.lit (.bool true)], args := [d1, d2, d3] }
  | _ => none }
def inheritTellsRow : OpenClaim := { program := "ytpemcncnehhgfaadoor", sum := "3fb05b2710f12e90e4ca053780a57f9fabefaf2777e0ecf7886ba2fb36f5d7cc", func := "forelock/forelocklaw23.InheritTells", spec := "inheritTells", unfollowed := true, recurses := true, named := ["math/bits.deBruijn64tab"], apart := false, laid := [("math/bits.deBruijn64tab", laid_math_bits_deBruijn64tab)] }
def InheritTellsSaid : Prop := inheritTellsRow.holds Tryd.pinned (OpenSpec.ofChange inheritTellsSpec)

/-- ITS FALSE NEIGHBOUR: 'it returns false'. Refute it at one input. -/
def inheritTellsWrong : ChangeSpec := { name := "inheritTells", fn := fun _ => fun
  | [d1, d2, d3] => { results := [.lit (.bool false)], args := [d1, d2, d3] }
  | _ => none }
def InheritTellsWrongFalsely : Prop := inheritTellsRow.holds Tryd.pinned (OpenSpec.ofChange inheritTellsWrong)

/-- 'forelocklaw22.GraphRuns': WHATEVER THE INPUT: true; the input reads as it did. -/
def graphRunsSpec : ChangeSpec := { name := "graphRuns", fn := fun _ => fun
  | [d] => { results := [.lit (.bool true)], args := [d] }
  | _ => none }
def graphRunsRow : OpenClaim := { program := "ytpemcncnehhgfaadoor", sum := "3fb05b2710f12e90e4ca053780a57f9fabefaf2777e0ecf7886ba2fb36f5d7cc", func := "forelock/forelocklaw22.GraphRuns", spec := "graphRuns", unfollowed := true, recurses := true, named := ["math/bits.deBruijn64tab"], apart := false, laid := [("math/bits.deBruijn64tab", laid_math_bits_deBruijn64tab)] }
def GraphRunsSaid : Prop := graphRunsRow.holds Tryd.pinned (OpenSpec.ofChange graphRunsSpec)

/-- ITS FALSE NEIGHBOUR: 'it returns false'. Refute it at one input. -/
def graphRunsWrong : ChangeSpec := { name := "graphRuns", fn := fun _ => fun
  | [d] => { results := [.lit (.bool false)], args := [d] }
  | _ => none }
def GraphRunsWrongFalsely : Prop := graphRunsRow.holds Tryd.pinned (OpenSpec.ofChange graphRunsWrong)

/-- 'forelocklaw22.GraphCycles': WHATEVER THE INPUT: true; the input reads as it did. -/
def graphCyclesSpec : ChangeSpec := { name := "graphCycles", fn := fun _ => fun
  | [d] => { results := [.lit (.bool true)], args := [d] }
  | _ => none }
def graphCyclesRow : OpenClaim := { program := "ytpemcncnehhgfaadoor", sum := "3fb05b2710f12e90e4ca053780a57f9fabefaf2777e0ecf7886ba2fb36f5d7cc", func := "forelock/forelocklaw22.GraphCycles", spec := "graphCycles", unfollowed := true, recurses := true, named := ["math/bits.deBruijn64tab"], apart := false, laid := [("math/bits.deBruijn64tab", laid_math_bits_deBruijn64tab)] }
def GraphCyclesSaid : Prop := graphCyclesRow.holds Tryd.pinned (OpenSpec.ofChange graphCyclesSpec)

/-- ITS FALSE NEIGHBOUR: 'it returns false'. Refute it at one input. -/
def graphCyclesWrong : ChangeSpec := { name := "graphCycles", fn := fun _ => fun
  | [d] => { results := [.lit (.bool false)], args := [d] }
  | _ => none }
def GraphCyclesWrongFalsely : Prop := graphCyclesRow.holds Tryd.pinned (OpenSpec.ofChange graphCyclesWrong)

/-- 'forelocklaw22.GraphEdges': WHATEVER THE INPUT: true; the input reads as it did. -/
def graphEdgesSpec : ChangeSpec := { name := "graphEdges", fn := fun _ => fun
  | [d1, d2, d3] => { results := [.lit (.bool true)], args := [d1, d2, d3] }
  | _ => none }
def graphEdgesRow : OpenClaim := { program := "ytpemcncnehhgfaadoor", sum := "3fb05b2710f12e90e4ca053780a57f9fabefaf2777e0ecf7886ba2fb36f5d7cc", func := "forelock/forelocklaw22.GraphEdges", spec := "graphEdges", unfollowed := true, recurses := true, named := ["math/bits.deBruijn64tab"], apart := false, laid := [("math/bits.deBruijn64tab", laid_math_bits_deBruijn64tab)] }
def GraphEdgesSaid : Prop := graphEdgesRow.holds Tryd.pinned (OpenSpec.ofChange graphEdgesSpec)

/-- ITS FALSE NEIGHBOUR: 'it returns false'. Refute it at one input. -/
def graphEdgesWrong : ChangeSpec := { name := "graphEdges", fn := fun _ => fun
  | [d1, d2, d3] => { results := [.lit (.bool false)], args := [d1, d2, d3] }
  | _ => none }
def GraphEdgesWrongFalsely : Prop := graphEdgesRow.holds Tryd.pinned (OpenSpec.ofChange graphEdgesWrong)

/- THE SECOND FORM. 'bulk': how many values and letters a reading holds, each counted each time it is reached (what is shared counts as often as it is met; a slice's spare places count too). A statement '..UptoSaid' is the law's where the arguments, and the package variables that the reading takes, are together of bulk at most 1048576: NARROWER than '..Said'. Prove '..Said' where nothing that the law and all that it calls make is longer than what came in: it says more and counts as full. Else prove '..UptoSaid'. A law counts once. -/
mutual
def uptoBulk {H : Type} : DataW H → Nat
  | .lit (.string bytes) => bytes.length + 1
  | .lit _ => 1
  | .nil => 1
  | .ptr d => uptoBulk d + 1
  | .slice elems spare => uptoBulkAll elems + uptoBulkAll spare + 1
  | .agg parts => uptoBulkAll parts + 1
  | .iface _ d => uptoBulk d + 1
  | .map entries => uptoBulkEntries entries + 1
  | .held _ => 1
def uptoBulkAll {H : Type} : List (DataW H) → Nat
  | [] => 0
  | d :: r => uptoBulk d + uptoBulkAll r
def uptoBulkEntries {H : Type} : List (Lit × DataW H) → Nat
  | [] => 0
  | x :: r => uptoBulkEntry x + uptoBulkEntries r
def uptoBulkEntry {H : Type} : Lit × DataW H → Nat
  | (.string bytes, d) => bytes.length + uptoBulk d + 1
  | (_, d) => uptoBulk d + 1
 end
def uptoSmall : (H : Type) → List (DataW H) → Bool := fun _ ds => decide (uptoBulkAll ds ≤ 1048576)
def OpenSpec.upto (s : _root_.Go.ChangeSpec) : _root_.Go.OpenSpec := { _root_.Go.OpenSpec.ofChange s with cond := some uptoSmall }

/-- 'forelocklaw06.IdsetOf', WHERE WHAT IT READS IS OF BULK AT MOST 1048576: true; the input reads as it did. -/
def idsetOfUptoRow : OpenClaim := { program := "ytpemcncnehhgfaadoor", sum := "3fb05b2710f12e90e4ca053780a57f9fabefaf2777e0ecf7886ba2fb36f5d7cc", func := "forelock/forelocklaw06.IdsetOf", spec := "idsetOf", unfollowed := true, recurses := true, named := ["math/bits.deBruijn64tab"], apart := false, laid := [("math/bits.deBruijn64tab", laid_math_bits_deBruijn64tab)], narrowed := true }
def IdsetOfUptoSaid : Prop := idsetOfUptoRow.holds Tryd.pinned (OpenSpec.upto idsetOfSpec)

/-- 'forelocklaw06.IdsetCalls', WHERE WHAT IT READS IS OF BULK AT MOST 1048576: true; the input reads as it did. -/
def idsetCallsUptoRow : OpenClaim := { program := "ytpemcncnehhgfaadoor", sum := "3fb05b2710f12e90e4ca053780a57f9fabefaf2777e0ecf7886ba2fb36f5d7cc", func := "forelock/forelocklaw06.IdsetCalls", spec := "idsetCalls", unfollowed := true, recurses := true, named := ["math/bits.deBruijn64tab"], apart := false, laid := [("math/bits.deBruijn64tab", laid_math_bits_deBruijn64tab)], narrowed := true }
def IdsetCallsUptoSaid : Prop := idsetCallsUptoRow.holds Tryd.pinned (OpenSpec.upto idsetCallsSpec)

/-- 'forelocklaw06.IdsetTurned', WHERE WHAT IT READS IS OF BULK AT MOST 1048576: true; the input reads as it did. -/
def idsetTurnedUptoRow : OpenClaim := { program := "ytpemcncnehhgfaadoor", sum := "3fb05b2710f12e90e4ca053780a57f9fabefaf2777e0ecf7886ba2fb36f5d7cc", func := "forelock/forelocklaw06.IdsetTurned", spec := "idsetTurned", unfollowed := true, recurses := true, named := ["math/bits.deBruijn64tab"], apart := false, laid := [("math/bits.deBruijn64tab", laid_math_bits_deBruijn64tab)], narrowed := true }
def IdsetTurnedUptoSaid : Prop := idsetTurnedUptoRow.holds Tryd.pinned (OpenSpec.upto idsetTurnedSpec)

/-- 'forelocklaw22.GraphTurned', WHERE WHAT IT READS IS OF BULK AT MOST 1048576: true; the input reads as it did. -/
def graphTurnedUptoRow : OpenClaim := { program := "ytpemcncnehhgfaadoor", sum := "3fb05b2710f12e90e4ca053780a57f9fabefaf2777e0ecf7886ba2fb36f5d7cc", func := "forelock/forelocklaw22.GraphTurned", spec := "graphTurned", named := ["math/bits.deBruijn64tab"], apart := false, laid := [("math/bits.deBruijn64tab", laid_math_bits_deBruijn64tab)], narrowed := true }
def GraphTurnedUptoSaid : Prop := graphTurnedUptoRow.holds Tryd.pinned (OpenSpec.upto graphTurnedSpec)

/-- 'forelocklaw23.InheritBack', WHERE WHAT IT READS IS OF BULK AT MOST 1048576: true; the input reads as it did. -/
def inheritBackUptoRow : OpenClaim := { program := "ytpemcncnehhgfaadoor", sum := "3fb05b2710f12e90e4ca053780a57f9fabefaf2777e0ecf7886ba2fb36f5d7cc", func := "forelock/forelocklaw23.InheritBack", spec := "inheritBack", unfollowed := true, recurses := true, named := ["math/bits.deBruijn64tab"], apart := false, laid := [("math/bits.deBruijn64tab", laid_math_bits_deBruijn64tab)], narrowed := true }
def InheritBackUptoSaid : Prop := inheritBackUptoRow.holds Tryd.pinned (OpenSpec.upto inheritBackSpec)

/-- 'forelocklaw23.InheritChanges', WHERE WHAT IT READS IS OF BULK AT MOST 1048576: true; the input reads as it did. -/
def inheritChangesUptoRow : OpenClaim := { program := "ytpemcncnehhgfaadoor", sum := "3fb05b2710f12e90e4ca053780a57f9fabefaf2777e0ecf7886ba2fb36f5d7cc", func := "forelock/forelocklaw23.InheritChanges", spec := "inheritChanges", unfollowed := true, recurses := true, named := ["math/bits.deBruijn64tab"], apart := false, laid := [("math/bits.deBruijn64tab", laid_math_bits_deBruijn64tab)], narrowed := true }
def InheritChangesUptoSaid : Prop := inheritChangesUptoRow.holds Tryd.pinned (OpenSpec.upto inheritChangesSpec)

/-- 'forelocklaw23.InheritTells', WHERE WHAT IT READS IS OF BULK AT MOST 1048576: true; the input reads as it did. -/
def inheritTellsUptoRow : OpenClaim := { program := "ytpemcncnehhgfaadoor", sum := "3fb05b2710f12e90e4ca053780a57f9fabefaf2777e0ecf7886ba2fb36f5d7cc", func := "forelock/forelocklaw23.InheritTells", spec := "inheritTells", unfollowed := true, recurses := true, named := ["math/bits.deBruijn64tab"], apart := false, laid := [("math/bits.deBruijn64tab", laid_math_bits_deBruijn64tab)], narrowed := true }
def InheritTellsUptoSaid : Prop := inheritTellsUptoRow.holds Tryd.pinned (OpenSpec.upto inheritTellsSpec)

/-- 'forelocklaw22.GraphRuns', WHERE WHAT IT READS IS OF BULK AT MOST 1048576: true; the input reads as it did. -/
def graphRunsUptoRow : OpenClaim := { program := "ytpemcncnehhgfaadoor", sum := "3fb05b2710f12e90e4ca053780a57f9fabefaf2777e0ecf7886ba2fb36f5d7cc", func := "forelock/forelocklaw22.GraphRuns", spec := "graphRuns", unfollowed := true, recurses := true, named := ["math/bits.deBruijn64tab"], apart := false, laid := [("math/bits.deBruijn64tab", laid_math_bits_deBruijn64tab)], narrowed := true }
def GraphRunsUptoSaid : Prop := graphRunsUptoRow.holds Tryd.pinned (OpenSpec.upto graphRunsSpec)

/-- 'forelocklaw22.GraphCycles', WHERE WHAT IT READS IS OF BULK AT MOST 1048576: true; the input reads as it did. -/
def graphCyclesUptoRow : OpenClaim := { program := "ytpemcncnehhgfaadoor", sum := "3fb05b2710f12e90e4ca053780a57f9fabefaf2777e0ecf7886ba2fb36f5d7cc", func := "forelock/forelocklaw22.GraphCycles", spec := "graphCycles", unfollowed := true, recurses := true, named := ["math/bits.deBruijn64tab"], apart := false, laid := [("math/bits.deBruijn64tab", laid_math_bits_deBruijn64tab)], narrowed := true }
def GraphCyclesUptoSaid : Prop := graphCyclesUptoRow.holds Tryd.pinned (OpenSpec.upto graphCyclesSpec)

/-- 'forelocklaw22.GraphEdges', WHERE WHAT IT READS IS OF BULK AT MOST 1048576: true; the input reads as it did. -/
def graphEdgesUptoRow : OpenClaim := { program := "ytpemcncnehhgfaadoor", sum := "3fb05b2710f12e90e4ca053780a57f9fabefaf2777e0ecf7886ba2fb36f5d7cc", func := "forelock/forelocklaw22.GraphEdges", spec := "graphEdges", unfollowed := true, recurses := true, named := ["math/bits.deBruijn64tab"], apart := false, laid := [("math/bits.deBruijn64tab", laid_math_bits_deBruijn64tab)], narrowed := true }
def GraphEdgesUptoSaid : Prop := graphEdgesUptoRow.holds Tryd.pinned (OpenSpec.upto graphEdgesSpec)

end Rows
end Go.Proofs.YtpemcncnehhgfaaDoor
