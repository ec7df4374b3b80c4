/-
  No cell of these rows narrows 'for every input' (looked for: loops, veiled, ifaces, maps, wideKeys, modest, calm, conditions, laid).
  DERIVED. THE GIVEN ROWS OF THIS SEAT. 2 by the template 'for every input the law returns true; each argument reads behind the call as it read before'; 0 by the template 'total and deterministic' (their statements: YtkopodpfmdnlcaaTotals.lean).
  GIVEN WITH THE SEED: the statements are not yours to turn. If you find one false, say at which input.
  Laid BY PROGRAM, IN A SANDBOX (cutbox-rows.mjs): the forced cells as the released guide's own fill.sh prints them over the translation eee534e0280e443d… (all of the seat's roots in one cut). By AI agents, Wed Nov 11 2026. No macro, syntax, notation, axiom, sorry.
-/
import Derived.Test.YtkopodpfmdnlcaaChecked
import GoSem.Claim
import GoSem.ClaimJoined
import GoSem.ClaimMapViews
import Derived.JoinedTies
import Derived.KernelRfl
namespace Go.Proofs.Ytkopodpfmdnlcaa
/- THE CELL 'sum', in the pinned program and in every row, IS THE sha256 OF THE DUMP (.gsa) THAT YtkopodpfmdnlcaaProg.lean LOADS. Nothing in Lean hashes anything: it is a label: what it is worth is what the hold of that sum in a sandbox is worth. -/
noncomputable def Try.pinned : Pinned := { name := "ytkopodpfmdnlcaa", sum := "eee534e0280e443d05159006d422d2da0ed263bdc58bdc83a0f992e082f22052", checked := Try.checked }
namespace Rows
def none {H : Type} : Left H := { results := [], args := [] }

/-- 'forelocklaw11.CritChecks': WHATEVER THE INPUT: true; the input reads as it did. -/
def critChecksSpec : ChangeSpec := { name := "critChecks", fn := fun _ => fun
  | [d1, d2, d3] => { results := [.lit (.bool true)], args := [d1, d2, d3] }
  | _ => none }
def critChecksRow : OpenClaim := { program := "ytkopodpfmdnlcaa", sum := "eee534e0280e443d05159006d422d2da0ed263bdc58bdc83a0f992e082f22052", func := "forelock/forelocklaw11.CritChecks", spec := "critChecks", unfollowed := true, recurses := true, apart := false }
def CritChecksSaid : Prop := critChecksRow.holds Try.pinned (OpenSpec.ofChange critChecksSpec)

/-- ITS FALSE NEIGHBOUR: 'it returns false'. Refute it at one input. -/
def critChecksWrong : ChangeSpec := { name := "critChecks", fn := fun _ => fun
  | [d1, d2, d3] => { results := [.lit (.bool false)], args := [d1, d2, d3] }
  | _ => none }
def CritChecksWrongFalsely : Prop := critChecksRow.holds Try.pinned (OpenSpec.ofChange critChecksWrong)

/-- 'forelocklaw11.CritMore': WHATEVER THE INPUT: true; the input reads as it did. -/
def critMoreSpec : ChangeSpec := { name := "critMore", fn := fun _ => fun
  | [d1, d2, d3] => { results := [.lit (.bool true)], args := [d1, d2, d3] }
  | _ => none }
def critMoreRow : OpenClaim := { program := "ytkopodpfmdnlcaa", sum := "eee534e0280e443d05159006d422d2da0ed263bdc58bdc83a0f992e082f22052", func := "forelock/forelocklaw11.CritMore", spec := "critMore", unfollowed := true, recurses := true, apart := false }
def CritMoreSaid : Prop := critMoreRow.holds Try.pinned (OpenSpec.ofChange critMoreSpec)

/-- ITS FALSE NEIGHBOUR: 'it returns false'. Refute it at one input. -/
def critMoreWrong : ChangeSpec := { name := "critMore", fn := fun _ => fun
  | [d1, d2, d3] => { results := [.lit (.bool false)], args := [d1, d2, d3] }
  | _ => none }
def CritMoreWrongFalsely : Prop := critMoreRow.holds Try.pinned (OpenSpec.ofChange critMoreWrong)

/- THE SECOND FORM. 'bulk': how many values and letters a reading holds, each counted each time it is reached (what is shared counts as often as it is met; a slice's spare places count too). A statement '..UptoSaid' is the law's where the arguments, and the package variables that the reading takes, are together of bulk at most 1048576: NARROWER than '..Said'. Prove '..Said' where nothing that the law and all that it calls make is longer than what came in: it says more and counts as full. Else prove '..UptoSaid'. A law counts once. -/
mutual
def uptoBulk {H : Type} : DataW H → Nat
  | .lit (.string bytes) => bytes.length + 1
  | .lit _ => 1
  | .nil => 1
  | .ptr d => uptoBulk d + 1
  | .slice elems spare => uptoBulkAll elems + uptoBulkAll spare + 1
  | .agg parts => uptoBulkAll parts + 1
  | .iface _ d => uptoBulk d + 1
  | .map entries => uptoBulkEntries entries + 1
  | .held _ => 1
def uptoBulkAll {H : Type} : List (DataW H) → Nat
  | [] => 0
  | d :: r => uptoBulk d + uptoBulkAll r
def uptoBulkEntries {H : Type} : List (Lit × DataW H) → Nat
  | [] => 0
  | x :: r => uptoBulkEntry x + uptoBulkEntries r
def uptoBulkEntry {H : Type} : Lit × DataW H → Nat
  | (.string bytes, d) => bytes.length + uptoBulk d + 1
  | (_, d) => uptoBulk d + 1
 end
def uptoSmall : (H : Type) → List (DataW H) → Bool := fun _ ds => decide (uptoBulkAll ds ≤ 1048576)
def OpenSpec.upto (s : _root_.Go.ChangeSpec) : _root_.Go.OpenSpec := { _root_.Go.OpenSpec.ofChange s with cond := some uptoSmall }

/-- 'forelocklaw11.CritChecks', WHERE WHAT IT READS IS OF BULK AT MOST 1048576: true; the input reads as it did. -/
def critChecksUptoRow : OpenClaim := { program := "ytkopodpfmdnlcaa", sum := "eee534e0280e443d05159006d422d2da0ed263bdc58bdc83a0f992e082f22052", func := "forelock/forelocklaw11.CritChecks", spec := "critChecks", unfollowed := true, recurses := true, apart := false, narrowed := true }
def CritChecksUptoSaid : Prop := critChecksUptoRow.holds Try.pinned (OpenSpec.upto critChecksSpec)

/-- 'forelocklaw11.CritMore', WHERE WHAT IT READS IS OF BULK AT MOST 1048576: true; the input reads as it did. -/
def critMoreUptoRow : OpenClaim := { program := "ytkopodpfmdnlcaa", sum := "eee534e0280e443d05159006d422d2da0ed263bdc58bdc83a0f992e082f22052", func := "forelock/forelocklaw11.CritMore", spec := "critMore", unfollowed := true, recurses := true, apart := false, narrowed := true }
def CritMoreUptoSaid : Prop := critMoreUptoRow.holds Try.pinned (OpenSpec.upto critMoreSpec)

end Rows
end Go.Proofs.Ytkopodpfmdnlcaa
