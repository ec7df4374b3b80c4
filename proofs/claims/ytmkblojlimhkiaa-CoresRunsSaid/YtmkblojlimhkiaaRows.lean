/-
  No cell of these rows narrows 'for every input' (looked for: loops, veiled, ifaces, maps, wideKeys, modest, calm, conditions, laid).
  DERIVED. THE GIVEN ROWS OF THIS SEAT. 8 by the template 'for every input the law returns true; each argument reads behind the call as it read before'; 0 by the template 'total and deterministic' (their statements: YtmkblojlimhkiaaTotals.lean).
  GIVEN WITH THE SEED: the statements are not yours to turn. If you find one false, say at which input.
  Laid BY PROGRAM, IN A SANDBOX (cutbox-rows.mjs): the forced cells as the released guide's own fill.sh prints them over the translation 13c25589d7c10207… (all of the seat's roots in one cut). By AI agents, Wed Nov 11 2026. No macro, syntax, notation, axiom, sorry.
-/
import Derived.Test.YtmkblojlimhkiaaChecked
import GoSem.Claim
import GoSem.ClaimJoined
import GoSem.ClaimMapViews
import Derived.JoinedTies
import Derived.KernelRfl
namespace Go.Proofs.Ytmkblojlimhkiaa
/- THE CELL 'sum', in the pinned program and in every row, IS THE sha256 OF THE DUMP (.gsa) THAT YtmkblojlimhkiaaProg.lean LOADS. Nothing in Lean hashes anything: it is a label: what it is worth is what the hold of that sum in a sandbox is worth. -/
noncomputable def Try.pinned : Pinned := { name := "ytmkblojlimhkiaa", sum := "13c25589d7c10207404d2395df91af248b02399e61a323d39688db8b2545f8f2", checked := Try.checked }
namespace Rows
def none {H : Type} : Left H := { results := [], args := [] }

/-- 'forelocklaw16.RunqOnce': WHATEVER THE INPUT: true; the input reads as it did. -/
def runqOnceSpec : ChangeSpec := { name := "runqOnce", fn := fun _ => fun
  | [d1, d2, d3] => { results := [.lit (.bool true)], args := [d1, d2, d3] }
  | _ => none }
def runqOnceRow : OpenClaim := { program := "ytmkblojlimhkiaa", sum := "13c25589d7c10207404d2395df91af248b02399e61a323d39688db8b2545f8f2", func := "forelock/forelocklaw16.RunqOnce", spec := "runqOnce", inPlace := ["math/bits.Add64"], apart := false }
def RunqOnceSaid : Prop := runqOnceRow.holds Try.pinned (OpenSpec.ofChange runqOnceSpec)

/-- ITS FALSE NEIGHBOUR: 'it returns false'. Refute it at one input. -/
def runqOnceWrong : ChangeSpec := { name := "runqOnce", fn := fun _ => fun
  | [d1, d2, d3] => { results := [.lit (.bool false)], args := [d1, d2, d3] }
  | _ => none }
def RunqOnceWrongFalsely : Prop := runqOnceRow.holds Try.pinned (OpenSpec.ofChange runqOnceWrong)

/-- 'forelocklaw16.RunqLag': WHATEVER THE INPUT: true; the input reads as it did. -/
def runqLagSpec : ChangeSpec := { name := "runqLag", fn := fun _ => fun
  | [d1, d2] => { results := [.lit (.bool true)], args := [d1, d2] }
  | _ => none }
def runqLagRow : OpenClaim := { program := "ytmkblojlimhkiaa", sum := "13c25589d7c10207404d2395df91af248b02399e61a323d39688db8b2545f8f2", func := "forelock/forelocklaw16.RunqLag", spec := "runqLag", inPlace := ["math/bits.Add64"], apart := false }
def RunqLagSaid : Prop := runqLagRow.holds Try.pinned (OpenSpec.ofChange runqLagSpec)

/-- ITS FALSE NEIGHBOUR: 'it returns false'. Refute it at one input. -/
def runqLagWrong : ChangeSpec := { name := "runqLag", fn := fun _ => fun
  | [d1, d2] => { results := [.lit (.bool false)], args := [d1, d2] }
  | _ => none }
def RunqLagWrongFalsely : Prop := runqLagRow.holds Try.pinned (OpenSpec.ofChange runqLagWrong)

/-- 'forelocklaw16.RunqFair': WHATEVER THE INPUT: true; the input reads as it did. -/
def runqFairSpec : ChangeSpec := { name := "runqFair", fn := fun _ => fun
  | [d1, d2, d3] => { results := [.lit (.bool true)], args := [d1, d2, d3] }
  | _ => none }
def runqFairRow : OpenClaim := { program := "ytmkblojlimhkiaa", sum := "13c25589d7c10207404d2395df91af248b02399e61a323d39688db8b2545f8f2", func := "forelock/forelocklaw16.RunqFair", spec := "runqFair", inPlace := ["math/bits.Add64", "math/bits.Sub64"], apart := false }
def RunqFairSaid : Prop := runqFairRow.holds Try.pinned (OpenSpec.ofChange runqFairSpec)

/-- ITS FALSE NEIGHBOUR: 'it returns false'. Refute it at one input. -/
def runqFairWrong : ChangeSpec := { name := "runqFair", fn := fun _ => fun
  | [d1, d2, d3] => { results := [.lit (.bool false)], args := [d1, d2, d3] }
  | _ => none }
def RunqFairWrongFalsely : Prop := runqFairRow.holds Try.pinned (OpenSpec.ofChange runqFairWrong)

/-- 'forelocklaw16.RunqRuns': WHATEVER THE INPUT: true; the input reads as it did. -/
def runqRunsSpec : ChangeSpec := { name := "runqRuns", fn := fun _ => fun
  | [d1, d2] => { results := [.lit (.bool true)], args := [d1, d2] }
  | _ => none }
def runqRunsRow : OpenClaim := { program := "ytmkblojlimhkiaa", sum := "13c25589d7c10207404d2395df91af248b02399e61a323d39688db8b2545f8f2", func := "forelock/forelocklaw16.RunqRuns", spec := "runqRuns", inPlace := ["math/bits.Add64"], unfollowed := true, recurses := true, apart := false }
def RunqRunsSaid : Prop := runqRunsRow.holds Try.pinned (OpenSpec.ofChange runqRunsSpec)

/-- ITS FALSE NEIGHBOUR: 'it returns false'. Refute it at one input. -/
def runqRunsWrong : ChangeSpec := { name := "runqRuns", fn := fun _ => fun
  | [d1, d2] => { results := [.lit (.bool false)], args := [d1, d2] }
  | _ => none }
def RunqRunsWrongFalsely : Prop := runqRunsRow.holds Try.pinned (OpenSpec.ofChange runqRunsWrong)

/-- 'forelocklaw16.RunqNobody': WHATEVER THE INPUT: true; the input reads as it did. -/
def runqNobodySpec : ChangeSpec := { name := "runqNobody", fn := fun _ => fun
  | [d1, d2] => { results := [.lit (.bool true)], args := [d1, d2] }
  | _ => none }
def runqNobodyRow : OpenClaim := { program := "ytmkblojlimhkiaa", sum := "13c25589d7c10207404d2395df91af248b02399e61a323d39688db8b2545f8f2", func := "forelock/forelocklaw16.RunqNobody", spec := "runqNobody", inPlace := ["math/bits.Add64"], unfollowed := true, recurses := true, apart := false }
def RunqNobodySaid : Prop := runqNobodyRow.holds Try.pinned (OpenSpec.ofChange runqNobodySpec)

/-- ITS FALSE NEIGHBOUR: 'it returns false'. Refute it at one input. -/
def runqNobodyWrong : ChangeSpec := { name := "runqNobody", fn := fun _ => fun
  | [d1, d2] => { results := [.lit (.bool false)], args := [d1, d2] }
  | _ => none }
def RunqNobodyWrongFalsely : Prop := runqNobodyRow.holds Try.pinned (OpenSpec.ofChange runqNobodyWrong)

/-- 'forelocklaw17.CoresBalance': WHATEVER THE INPUT: true; the input reads as it did. -/
def coresBalanceSpec : ChangeSpec := { name := "coresBalance", fn := fun _ => fun
  | [d1, d2, d3] => { results := [.lit (.bool true)], args := [d1, d2, d3] }
  | _ => none }
def coresBalanceRow : OpenClaim := { program := "ytmkblojlimhkiaa", sum := "13c25589d7c10207404d2395df91af248b02399e61a323d39688db8b2545f8f2", func := "forelock/forelocklaw17.CoresBalance", spec := "coresBalance", inPlace := ["math/bits.Add64"], unfollowed := true, recurses := true, apart := false }
def CoresBalanceSaid : Prop := coresBalanceRow.holds Try.pinned (OpenSpec.ofChange coresBalanceSpec)

/-- ITS FALSE NEIGHBOUR: 'it returns false'. Refute it at one input. -/
def coresBalanceWrong : ChangeSpec := { name := "coresBalance", fn := fun _ => fun
  | [d1, d2, d3] => { results := [.lit (.bool false)], args := [d1, d2, d3] }
  | _ => none }
def CoresBalanceWrongFalsely : Prop := coresBalanceRow.holds Try.pinned (OpenSpec.ofChange coresBalanceWrong)

/-- 'forelocklaw17.CoresNobody': WHATEVER THE INPUT: true; the input reads as it did. -/
def coresNobodySpec : ChangeSpec := { name := "coresNobody", fn := fun _ => fun
  | [d1, d2] => { results := [.lit (.bool true)], args := [d1, d2] }
  | _ => none }
def coresNobodyRow : OpenClaim := { program := "ytmkblojlimhkiaa", sum := "13c25589d7c10207404d2395df91af248b02399e61a323d39688db8b2545f8f2", func := "forelock/forelocklaw17.CoresNobody", spec := "coresNobody", inPlace := ["math/bits.Add64"], unfollowed := true, recurses := true, apart := false }
def CoresNobodySaid : Prop := coresNobodyRow.holds Try.pinned (OpenSpec.ofChange coresNobodySpec)

/-- ITS FALSE NEIGHBOUR: 'it returns false'. Refute it at one input. -/
def coresNobodyWrong : ChangeSpec := { name := "coresNobody", fn := fun _ => fun
  | [d1, d2] => { results := [.lit (.bool false)], args := [d1, d2] }
  | _ => none }
def CoresNobodyWrongFalsely : Prop := coresNobodyRow.holds Try.pinned (OpenSpec.ofChange coresNobodyWrong)

/-- 'forelocklaw17.CoresRuns': WHATEVER THE INPUT: true; the input reads as it did. -/
def coresRunsSpec : ChangeSpec := { name := "coresRuns", fn := fun _ => fun
  | [d1, d2] => { results := [.lit (.bool true)], args := [d1, d2] }
  | _ => none }
def coresRunsRow : OpenClaim := { program := "ytmkblojlimhkiaa", sum := "13c25589d7c10207404d2395df91af248b02399e61a323d39688db8b2545f8f2", func := "forelock/forelocklaw17.CoresRuns", spec := "coresRuns", inPlace := ["math/bits.Add64"], unfollowed := true, recurses := true, apart := false }
def CoresRunsSaid : Prop := coresRunsRow.holds Try.pinned (OpenSpec.ofChange coresRunsSpec)

/-- ITS FALSE NEIGHBOUR: 'it returns false'. Refute it at one input. -/
def coresRunsWrong : ChangeSpec := { name := "coresRuns", fn := fun _ => fun
  | [d1, d2] => { results := [.lit (.bool false)], args := [d1, d2] }
  | _ => none }
def CoresRunsWrongFalsely : Prop := coresRunsRow.holds Try.pinned (OpenSpec.ofChange coresRunsWrong)

/- THE SECOND FORM. 'bulk': how many values and letters a reading holds, each counted each time it is reached (what is shared counts as often as it is met; a slice's spare places count too). A statement '..UptoSaid' is the law's where the arguments, and the package variables that the reading takes, are together of bulk at most 1048576: NARROWER than '..Said'. Prove '..Said' where nothing that the law and all that it calls make is longer than what came in: it says more and counts as full. Else prove '..UptoSaid'. A law counts once. -/
mutual
def uptoBulk {H : Type} : DataW H → Nat
  | .lit (.string bytes) => bytes.length + 1
  | .lit _ => 1
  | .nil => 1
  | .ptr d => uptoBulk d + 1
  | .slice elems spare => uptoBulkAll elems + uptoBulkAll spare + 1
  | .agg parts => uptoBulkAll parts + 1
  | .iface _ d => uptoBulk d + 1
  | .map entries => uptoBulkEntries entries + 1
  | .held _ => 1
def uptoBulkAll {H : Type} : List (DataW H) → Nat
  | [] => 0
  | d :: r => uptoBulk d + uptoBulkAll r
def uptoBulkEntries {H : Type} : List (Lit × DataW H) → Nat
  | [] => 0
  | x :: r => uptoBulkEntry x + uptoBulkEntries r
def uptoBulkEntry {H : Type} : Lit × DataW H → Nat
  | (.string bytes, d) => bytes.length + uptoBulk d + 1
  | (_, d) => uptoBulk d + 1
 end
def uptoSmall : (H : Type) → List (DataW H) → Bool := fun _ ds => decide (uptoBulkAll ds ≤ 1048576)
def OpenSpec.upto (s : _root_.Go.ChangeSpec) : _root_.Go.OpenSpec := { _root_.Go.OpenSpec.ofChange s with cond := some uptoSmall }

/-- 'forelocklaw16.RunqOnce', WHERE WHAT IT READS IS OF BULK AT MOST 1048576: true; the input reads as it did. -/
def runqOnceUptoRow : OpenClaim := { program := "ytmkblojlimhkiaa", sum := "13c25589d7c10207404d2395df91af248b02399e61a323d39688db8b2545f8f2", func := "forelock/forelocklaw16.RunqOnce", spec := "runqOnce", inPlace := ["math/bits.Add64"], apart := false, narrowed := true }
def RunqOnceUptoSaid : Prop := runqOnceUptoRow.holds Try.pinned (OpenSpec.upto runqOnceSpec)

/-- 'forelocklaw16.RunqLag', WHERE WHAT IT READS IS OF BULK AT MOST 1048576: true; the input reads as it did. -/
def runqLagUptoRow : OpenClaim := { program := "ytmkblojlimhkiaa", sum := "13c25589d7c10207404d2395df91af248b02399e61a323d39688db8b2545f8f2", func := "forelock/forelocklaw16.RunqLag", spec := "runqLag", inPlace := ["math/bits.Add64"], apart := false, narrowed := true }
def RunqLagUptoSaid : Prop := runqLagUptoRow.holds Try.pinned (OpenSpec.upto runqLagSpec)

/-- 'forelocklaw16.RunqFair', WHERE WHAT IT READS IS OF BULK AT MOST 1048576: true; the input reads as it did. -/
def runqFairUptoRow : OpenClaim := { program := "ytmkblojlimhkiaa", sum := "13c25589d7c10207404d2395df91af248b02399e61a323d39688db8b2545f8f2", func := "forelock/forelocklaw16.RunqFair", spec := "runqFair", inPlace := ["math/bits.Add64", "math/bits.Sub64"], apart := false, narrowed := true }
def RunqFairUptoSaid : Prop := runqFairUptoRow.holds Try.pinned (OpenSpec.upto runqFairSpec)

/-- 'forelocklaw16.RunqRuns', WHERE WHAT IT READS IS OF BULK AT MOST 1048576: true; the input reads as it did. -/
def runqRunsUptoRow : OpenClaim := { program := "ytmkblojlimhkiaa", sum := "13c25589d7c10207404d2395df91af248b02399e61a323d39688db8b2545f8f2", func := "forelock/forelocklaw16.RunqRuns", spec := "runqRuns", inPlace := ["math/bits.Add64"], unfollowed := true, recurses := true, apart := false, narrowed := true }
def RunqRunsUptoSaid : Prop := runqRunsUptoRow.holds Try.pinned (OpenSpec.upto runqRunsSpec)

/-- 'forelocklaw16.RunqNobody', WHERE WHAT IT READS IS OF BULK AT MOST 1048576: true; the input reads as it did. -/
def runqNobodyUptoRow : OpenClaim := { program := "ytmkblojlimhkiaa", sum := "13c25589d7c10207404d2395df91af248b02399e61a323d39688db8b2545f8f2", func := "forelock/forelocklaw16.RunqNobody", spec := "runqNobody", inPlace := ["math/bits.Add64"], unfollowed := true, recurses := true, apart := false, narrowed := true }
def RunqNobodyUptoSaid : Prop := runqNobodyUptoRow.holds Try.pinned (OpenSpec.upto runqNobodySpec)

/-- 'forelocklaw17.CoresBalance', WHERE WHAT IT READS IS OF BULK AT MOST 1048576: true; the input reads as it did. -/
def coresBalanceUptoRow : OpenClaim := { program := "ytmkblojlimhkiaa", sum := "13c25589d7c10207404d2395df91af248b02399e61a323d39688db8b2545f8f2", func := "forelock/forelocklaw17.CoresBalance", spec := "coresBalance", inPlace := ["math/bits.Add64"], unfollowed := true, recurses := true, apart := false, narrowed := true }
def CoresBalanceUptoSaid : Prop := coresBalanceUptoRow.holds Try.pinned (OpenSpec.upto coresBalanceSpec)

/-- 'forelocklaw17.CoresNobody', WHERE WHAT IT READS IS OF BULK AT MOST 1048576: true; the input reads as it did. -/
def coresNobodyUptoRow : OpenClaim := { program := "ytmkblojlimhkiaa", sum := "13c25589d7c10207404d2395df91af248b02399e61a323d39688db8b2545f8f2", func := "forelock/forelocklaw17.CoresNobody", spec := "coresNobody", inPlace := ["math/bits.Add64"], unfollowed := true, recurses := true, apart := false, narrowed := true }
def CoresNobodyUptoSaid : Prop := coresNobodyUptoRow.holds Try.pinned (OpenSpec.upto coresNobodySpec)

/-- 'forelocklaw17.CoresRuns', WHERE WHAT IT READS IS OF BULK AT MOST 1048576: true; the input reads as it did. -/
def coresRunsUptoRow : OpenClaim := { program := "ytmkblojlimhkiaa", sum := "13c25589d7c10207404d2395df91af248b02399e61a323d39688db8b2545f8f2", func := "forelock/forelocklaw17.CoresRuns", spec := "coresRuns", inPlace := ["math/bits.Add64"], unfollowed := true, recurses := true, apart := false, narrowed := true }
def CoresRunsUptoSaid : Prop := coresRunsUptoRow.holds Try.pinned (OpenSpec.upto coresRunsSpec)

end Rows
end Go.Proofs.Ytmkblojlimhkiaa
