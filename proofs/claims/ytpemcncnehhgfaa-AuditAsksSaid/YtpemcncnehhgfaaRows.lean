/-
  No cell of these rows narrows 'for every input' (looked for: loops, veiled, ifaces, maps, wideKeys, modest, calm, conditions, laid).
  DERIVED. THE GIVEN ROWS OF THIS SEAT. 8 by the template 'for every input the law returns true; each argument reads behind the call as it read before'; 0 by the template 'total and deterministic' (their statements: YtpemcncnehhgfaaTotals.lean).
  GIVEN WITH THE SEED: the statements are not yours to turn. If you find one false, say at which input.
  Laid BY PROGRAM, IN A SANDBOX (cutbox-rows.mjs): the forced cells as the released guide's own fill.sh prints them over the translation 153635eef1931e7c… (all of the seat's roots in one cut). By AI agents, Wed Nov 11 2026. No macro, syntax, notation, axiom, sorry.
-/
import Derived.Test.YtpemcncnehhgfaaChecked
import GoSem.Claim
import GoSem.ClaimJoined
import GoSem.ClaimMapViews
import Derived.JoinedTies
import Derived.KernelRfl
namespace Go.Proofs.Ytpemcncnehhgfaa
/- THE CELL 'sum', in the pinned program and in every row, IS THE sha256 OF THE DUMP (.gsa) THAT YtpemcncnehhgfaaProg.lean LOADS. Nothing in Lean hashes anything: it is a label: what it is worth is what the hold of that sum in a sandbox is worth. -/
noncomputable def Try.pinned : Pinned := { name := "ytpemcncnehhgfaa", sum := "153635eef1931e7cf73966bc42244af25a62e496b5694fc5b79c8124bb73069e", checked := Try.checked }
namespace Rows
def none {H : Type} : Left H := { results := [], args := [] }

/-- 'forelocklaw07.MixCalls': WHATEVER THE INPUT: true; the input reads as it did. -/
def mixCallsSpec : ChangeSpec := { name := "mixCalls", fn := fun _ => fun
  | [d1, d2, d3] => { results := [.lit (.bool true)], args := [d1, d2, d3] }
  | _ => none }
def mixCallsRow : OpenClaim := { program := "ytpemcncnehhgfaa", sum := "153635eef1931e7cf73966bc42244af25a62e496b5694fc5b79c8124bb73069e", func := "forelock/forelocklaw07.MixCalls", spec := "mixCalls", apart := false }
def MixCallsSaid : Prop := mixCallsRow.holds Try.pinned (OpenSpec.ofChange mixCallsSpec)

/-- ITS FALSE NEIGHBOUR: 'it returns false'. Refute it at one input. -/
def mixCallsWrong : ChangeSpec := { name := "mixCalls", fn := fun _ => fun
  | [d1, d2, d3] => { results := [.lit (.bool false)], args := [d1, d2, d3] }
  | _ => none }
def MixCallsWrongFalsely : Prop := mixCallsRow.holds Try.pinned (OpenSpec.ofChange mixCallsWrong)

/-- 'forelocklaw07.MixApart': WHATEVER THE INPUT: true; the input reads as it did. -/
def mixApartSpec : ChangeSpec := { name := "mixApart", fn := fun _ => fun
  | [d1, d2, d3] => { results := [.lit (.bool true)], args := [d1, d2, d3] }
  | _ => none }
def mixApartRow : OpenClaim := { program := "ytpemcncnehhgfaa", sum := "153635eef1931e7cf73966bc42244af25a62e496b5694fc5b79c8124bb73069e", func := "forelock/forelocklaw07.MixApart", spec := "mixApart", apart := false }
def MixApartSaid : Prop := mixApartRow.holds Try.pinned (OpenSpec.ofChange mixApartSpec)

/-- ITS FALSE NEIGHBOUR: 'it returns false'. Refute it at one input. -/
def mixApartWrong : ChangeSpec := { name := "mixApart", fn := fun _ => fun
  | [d1, d2, d3] => { results := [.lit (.bool false)], args := [d1, d2, d3] }
  | _ => none }
def MixApartWrongFalsely : Prop := mixApartRow.holds Try.pinned (OpenSpec.ofChange mixApartWrong)

/-- 'forelocklaw40.RingRuns': WHATEVER THE INPUT: true; the input reads as it did. -/
def ringRunsSpec : ChangeSpec := { name := "ringRuns", fn := fun _ => fun
  | [d1, d2, d3] => { results := [.lit (.bool true)], args := [d1, d2, d3] }
  | _ => none }
def ringRunsRow : OpenClaim := { program := "ytpemcncnehhgfaa", sum := "153635eef1931e7cf73966bc42244af25a62e496b5694fc5b79c8124bb73069e", func := "forelock/forelocklaw40.RingRuns", spec := "ringRuns", unfollowed := true, recurses := true, apart := false }
def RingRunsSaid : Prop := ringRunsRow.holds Try.pinned (OpenSpec.ofChange ringRunsSpec)

/-- ITS FALSE NEIGHBOUR: 'it returns false'. Refute it at one input. -/
def ringRunsWrong : ChangeSpec := { name := "ringRuns", fn := fun _ => fun
  | [d1, d2, d3] => { results := [.lit (.bool false)], args := [d1, d2, d3] }
  | _ => none }
def RingRunsWrongFalsely : Prop := ringRunsRow.holds Try.pinned (OpenSpec.ofChange ringRunsWrong)

/-- 'forelocklaw45.LotteryTells': WHATEVER THE INPUT: true; the input reads as it did. -/
def lotteryTellsSpec : ChangeSpec := { name := "lotteryTells", fn := fun _ => fun
  | [d1, d2, d3] => { results := [.lit (.bool true)], args := [d1, d2, d3] }
  | _ => none }
def lotteryTellsRow : OpenClaim := { program := "ytpemcncnehhgfaa", sum := "153635eef1931e7cf73966bc42244af25a62e496b5694fc5b79c8124bb73069e", func := "forelock/forelocklaw45.LotteryTells", spec := "lotteryTells", unfollowed := true, recurses := true, apart := false }
def LotteryTellsSaid : Prop := lotteryTellsRow.holds Try.pinned (OpenSpec.ofChange lotteryTellsSpec)

/-- ITS FALSE NEIGHBOUR: 'it returns false'. Refute it at one input. -/
def lotteryTellsWrong : ChangeSpec := { name := "lotteryTells", fn := fun _ => fun
  | [d1, d2, d3] => { results := [.lit (.bool false)], args := [d1, d2, d3] }
  | _ => none }
def LotteryTellsWrongFalsely : Prop := lotteryTellsRow.holds Try.pinned (OpenSpec.ofChange lotteryTellsWrong)

/-- 'forelocklaw45.LotteryDraws': WHATEVER THE INPUT: true; the input reads as it did. -/
def lotteryDrawsSpec : ChangeSpec := { name := "lotteryDraws", fn := fun _ => fun
  | [d1, d2, d3] => { results := [.lit (.bool true)], args := [d1, d2, d3] }
  | _ => none }
def lotteryDrawsRow : OpenClaim := { program := "ytpemcncnehhgfaa", sum := "153635eef1931e7cf73966bc42244af25a62e496b5694fc5b79c8124bb73069e", func := "forelock/forelocklaw45.LotteryDraws", spec := "lotteryDraws", unfollowed := true, recurses := true, apart := false }
def LotteryDrawsSaid : Prop := lotteryDrawsRow.holds Try.pinned (OpenSpec.ofChange lotteryDrawsSpec)

/-- ITS FALSE NEIGHBOUR: 'it returns false'. Refute it at one input. -/
def lotteryDrawsWrong : ChangeSpec := { name := "lotteryDraws", fn := fun _ => fun
  | [d1, d2, d3] => { results := [.lit (.bool false)], args := [d1, d2, d3] }
  | _ => none }
def LotteryDrawsWrongFalsely : Prop := lotteryDrawsRow.holds Try.pinned (OpenSpec.ofChange lotteryDrawsWrong)

/-- 'forelocklaw45.LotteryLends': WHATEVER THE INPUT: true; the input reads as it did. -/
def lotteryLendsSpec : ChangeSpec := { name := "lotteryLends", fn := fun _ => fun
  | [d1, d2, d3] => { results := [.lit (.bool true)], args := [d1, d2, d3] }
  | _ => none }
def lotteryLendsRow : OpenClaim := { program := "ytpemcncnehhgfaa", sum := "153635eef1931e7cf73966bc42244af25a62e496b5694fc5b79c8124bb73069e", func := "forelock/forelocklaw45.LotteryLends", spec := "lotteryLends", unfollowed := true, recurses := true, apart := false }
def LotteryLendsSaid : Prop := lotteryLendsRow.holds Try.pinned (OpenSpec.ofChange lotteryLendsSpec)

/-- ITS FALSE NEIGHBOUR: 'it returns false'. Refute it at one input. -/
def lotteryLendsWrong : ChangeSpec := { name := "lotteryLends", fn := fun _ => fun
  | [d1, d2, d3] => { results := [.lit (.bool false)], args := [d1, d2, d3] }
  | _ => none }
def LotteryLendsWrongFalsely : Prop := lotteryLendsRow.holds Try.pinned (OpenSpec.ofChange lotteryLendsWrong)

/-- 'forelocklaw28.AuditStays': WHATEVER THE INPUT: true; the input reads as it did. -/
def auditStaysSpec : ChangeSpec := { name := "auditStays", fn := fun _ => fun
  | [d] => { results := [.lit (.bool true)], args := [d] }
  | _ => none }
def auditStaysRow : OpenClaim := { program := "ytpemcncnehhgfaa", sum := "153635eef1931e7cf73966bc42244af25a62e496b5694fc5b79c8124bb73069e", func := "forelock/forelocklaw28.AuditStays", spec := "auditStays", unfollowed := true, recurses := true, apart := false }
def AuditStaysSaid : Prop := auditStaysRow.holds Try.pinned (OpenSpec.ofChange auditStaysSpec)

/-- ITS FALSE NEIGHBOUR: 'it returns false'. Refute it at one input. -/
def auditStaysWrong : ChangeSpec := { name := "auditStays", fn := fun _ => fun
  | [d] => { results := [.lit (.bool false)], args := [d] }
  | _ => none }
def AuditStaysWrongFalsely : Prop := auditStaysRow.holds Try.pinned (OpenSpec.ofChange auditStaysWrong)

/-- 'forelocklaw28.AuditAsks': WHATEVER THE INPUT: true; the input reads as it did. -/
def auditAsksSpec : ChangeSpec := { name := "auditAsks", fn := fun _ => fun
  | [d1, d2, d3] => { results := [.lit (.bool true)], args := [d1, d2, d3] }
  | _ => none }
def auditAsksRow : OpenClaim := { program := "ytpemcncnehhgfaa", sum := "153635eef1931e7cf73966bc42244af25a62e496b5694fc5b79c8124bb73069e", func := "forelock/forelocklaw28.AuditAsks", spec := "auditAsks", unfollowed := true, recurses := true, apart := false }
def AuditAsksSaid : Prop := auditAsksRow.holds Try.pinned (OpenSpec.ofChange auditAsksSpec)

/-- ITS FALSE NEIGHBOUR: 'it returns false'. Refute it at one input. -/
def auditAsksWrong : ChangeSpec := { name := "auditAsks", fn := fun _ => fun
  | [d1, d2, d3] => { results := [.lit (.bool false)], args := [d1, d2, d3] }
  | _ => none }
def AuditAsksWrongFalsely : Prop := auditAsksRow.holds Try.pinned (OpenSpec.ofChange auditAsksWrong)

/- THE SECOND FORM. 'bulk': how many values and letters a reading holds, each counted each time it is reached (what is shared counts as often as it is met; a slice's spare places count too). A statement '..UptoSaid' is the law's where the arguments, and the package variables that the reading takes, are together of bulk at most 1048576: NARROWER than '..Said'. Prove '..Said' where nothing that the law and all that it calls make is longer than what came in: it says more and counts as full. Else prove '..UptoSaid'. A law counts once. -/
mutual
def uptoBulk {H : Type} : DataW H → Nat
  | .lit (.string bytes) => bytes.length + 1
  | .lit _ => 1
  | .nil => 1
  | .ptr d => uptoBulk d + 1
  | .slice elems spare => uptoBulkAll elems + uptoBulkAll spare + 1
  | .agg parts => uptoBulkAll parts + 1
  | .iface _ d => uptoBulk d + 1
  | .map entries => uptoBulkEntries entries + 1
  | .held _ => 1
def uptoBulkAll {H : Type} : List (DataW H) → Nat
  | [] => 0
  | d :: r => uptoBulk d + uptoBulkAll r
def uptoBulkEntries {H : Type} : List (Lit × DataW H) → Nat
  | [] => 0
  | x :: r => uptoBulkEntry x + uptoBulkEntries r
def uptoBulkEntry {H : Type} : Lit × DataW H → Nat
  | (.string bytes, d) => bytes.length + uptoBulk d + 1
  | (_, d) => uptoBulk d + 1
 end
def uptoSmall : (H : Type) → List (DataW H) → Bool := fun _ ds => decide (uptoBulkAll ds ≤ 1048576)
def OpenSpec.upto (s : _root_.Go.ChangeSpec) : _root_.Go.OpenSpec := { _root_.Go.OpenSpec.ofChange s with cond := some uptoSmall }

/-- 'forelocklaw07.MixCalls', WHERE WHAT IT READS IS OF BULK AT MOST 1048576: true; the input reads as it did. -/
def mixCallsUptoRow : OpenClaim := { program := "ytpemcncnehhgfaa", sum := "153635eef1931e7cf73966bc42244af25a62e496b5694fc5b79c8124bb73069e", func := "forelock/forelocklaw07.MixCalls", spec := "mixCalls", apart := false, narrowed := true }
def MixCallsUptoSaid : Prop := mixCallsUptoRow.holds Try.pinned (OpenSpec.upto mixCallsSpec)

/-- 'forelocklaw07.MixApart', WHERE WHAT IT READS IS OF BULK AT MOST 1048576: true; the input reads as it did. -/
def mixApartUptoRow : OpenClaim := { program := "ytpemcncnehhgfaa", sum := "153635eef1931e7cf73966bc42244af25a62e496b5694fc5b79c8124bb73069e", func := "forelock/forelocklaw07.MixApart", spec := "mixApart", apart := false, narrowed := true }
def MixApartUptoSaid : Prop := mixApartUptoRow.holds Try.pinned (OpenSpec.upto mixApartSpec)

/-- 'forelocklaw40.RingRuns', WHERE WHAT IT READS IS OF BULK AT MOST 1048576: true; the input reads as it did. -/
def ringRunsUptoRow : OpenClaim := { program := "ytpemcncnehhgfaa", sum := "153635eef1931e7cf73966bc42244af25a62e496b5694fc5b79c8124bb73069e", func := "forelock/forelocklaw40.RingRuns", spec := "ringRuns", unfollowed := true, recurses := true, apart := false, narrowed := true }
def RingRunsUptoSaid : Prop := ringRunsUptoRow.holds Try.pinned (OpenSpec.upto ringRunsSpec)

/-- 'forelocklaw45.LotteryTells', WHERE WHAT IT READS IS OF BULK AT MOST 1048576: true; the input reads as it did. -/
def lotteryTellsUptoRow : OpenClaim := { program := "ytpemcncnehhgfaa", sum := "153635eef1931e7cf73966bc42244af25a62e496b5694fc5b79c8124bb73069e", func := "forelock/forelocklaw45.LotteryTells", spec := "lotteryTells", unfollowed := true, recurses := true, apart := false, narrowed := true }
def LotteryTellsUptoSaid : Prop := lotteryTellsUptoRow.holds Try.pinned (OpenSpec.upto lotteryTellsSpec)

/-- 'forelocklaw45.LotteryDraws', WHERE WHAT IT READS IS OF BULK AT MOST 1048576: true; the input reads as it did. -/
def lotteryDrawsUptoRow : OpenClaim := { program := "ytpemcncnehhgfaa", sum := "153635eef1931e7cf73966bc42244af25a62e496b5694fc5b79c8124bb73069e", func := "forelock/forelocklaw45.LotteryDraws", spec := "lotteryDraws", unfollowed := true, recurses := true, apart := false, narrowed := true }
def LotteryDrawsUptoSaid : Prop := lotteryDrawsUptoRow.holds Try.pinned (OpenSpec.upto lotteryDrawsSpec)

/-- 'forelocklaw45.LotteryLends', WHERE WHAT IT READS IS OF BULK AT MOST 1048576: true; the input reads as it did. -/
def lotteryLendsUptoRow : OpenClaim := { program := "ytpemcncnehhgfaa", sum := "153635eef1931e7cf73966bc42244af25a62e496b5694fc5b79c8124bb73069e", func := "forelock/forelocklaw45.LotteryLends", spec := "lotteryLends", unfollowed := true, recurses := true, apart := false, narrowed := true }
def LotteryLendsUptoSaid : Prop := lotteryLendsUptoRow.holds Try.pinned (OpenSpec.upto lotteryLendsSpec)

/-- 'forelocklaw28.AuditStays', WHERE WHAT IT READS IS OF BULK AT MOST 1048576: true; the input reads as it did. -/
def auditStaysUptoRow : OpenClaim := { program := "ytpemcncnehhgfaa", sum := "153635eef1931e7cf73966bc42244af25a62e496b5694fc5b79c8124bb73069e", func := "forelock/forelocklaw28.AuditStays", spec := "auditStays", unfollowed := true, recurses := true, apart := false, narrowed := true }
def AuditStaysUptoSaid : Prop := auditStaysUptoRow.holds Try.pinned (OpenSpec.upto auditStaysSpec)

/-- 'forelocklaw28.AuditAsks', WHERE WHAT IT READS IS OF BULK AT MOST 1048576: true; the input reads as it did. -/
def auditAsksUptoRow : OpenClaim := { program := "ytpemcncnehhgfaa", sum := "153635eef1931e7cf73966bc42244af25a62e496b5694fc5b79c8124bb73069e", func := "forelock/forelocklaw28.AuditAsks", spec := "auditAsks", unfollowed := true, recurses := true, apart := false, narrowed := true }
def AuditAsksUptoSaid : Prop := auditAsksUptoRow.holds Try.pinned (OpenSpec.upto auditAsksSpec)

end Rows
end Go.Proofs.Ytpemcncnehhgfaa
