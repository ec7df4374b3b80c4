/- The walks of the document's text of words. No condition. -/
import Derived.Test.YtbndlommbpkijaaDoorTokA
set_option linter.unusedVariables false
set_option linter.unusedSimpArgs false
namespace Go.Eng
open Go Go.Proofs Go.RowKit

theorem tw_eq {p : UInt8 → Bool} : ∀ {l : List UInt8}, l.all p = true → (l.takeWhile p).length = l.length
  | [], _ => rfl
  | c :: l, h => by
    rw [List.all_cons, Bool.and_eq_true] at h
    rw [List.takeWhile_cons, if_pos h.1, List.length_cons, List.length_cons, tw_eq h.2]
theorem dig_let (c : UInt8) (h : digB c = true) : letB c = false := by
  unfold digB digN at h; unfold letB letN; simp only [Bool.and_eq_true, decide_eq_true_eq] at h
  simp only [Bool.and_eq_false_iff, decide_eq_false_iff_not]; omega
end Go.Eng

