/- ProgAny, walked. No condition. -/
import Derived.Test.YtbndlommbpkijaaDoorPgmF
set_option linter.unusedVariables false
set_option linter.unusedSimpArgs false
namespace Go.Eng
open Go Go.Proofs Go.RowKit

theorem scanF_len (s : List UInt8) : ∀ (f i : Nat) (last : Int) (out : List Wrd), (scanF f s i last out).1.length ≤ out.length + f
  | 0, i, last, out => Nat.le_refl _
  | f + 1, i, last, out => by
    rw [scanF]
    split
    · show out.length ≤ _; omega
    split
    · have := scanF_len s f (i + 1) last out; omega
    split
    · have := scanF_len s f (i + runL notNl s i) last out; omega
    split
    · exact Nat.zero_le _
    · have := scanF_len s f (oneO s i).2.1 ((oneO s i).2.1 : Nat) (out ++ [(oneO s i).1]); rw [List.length_append, List.length_singleton] at this; omega
theorem scan_len (s : List UInt8) : (scanO s).1.length ≤ s.length := by
  unfold scanO; split
  · exact Nat.zero_le _
  · have := scanF_len s (s.length - 0) 0 (-1) []; unfold scanR; simp only [List.length_nil] at this; omega
end Go.Eng

