/- The calculus, thirteenth part: strings, as lists of bytes. No condition. -/
import Derived.Test.YtbndlommbpkijaaDoorEng12
import Derived.Lib.Strings
import Derived.Laws.IdiomStrings
set_option linter.unusedVariables false
set_option linter.unusedSimpArgs false
namespace Go.Eng
open Go Go.RowKit

abbrev bs (l : List UInt8) : ByteArray := ⟨l.toArray⟩
abbrev vS (l : List UInt8) : Value := .string (bs l)
theorem bs_size (l : List UInt8) : (bs l).size = l.length := by rw [Lib.size_eq]
theorem bs_list (l : List UInt8) : (bs l).toList = l := by rw [Lib.toList_data]
theorem bs_of (s : ByteArray) : s = bs s.data.toList := (Lib.mk_data s).symm
section
variable {P : Program} {ty : TypeId} {e : Env} {t u : TypeId} {x y lo hi : Operand} {l a b : List UInt8}
theorem ov_slenL (ht : P.underlying t = some .string) (hx : ev e x = some (vS l)) : OpP P (.call { callee := .builtin .len, args := #[x], argTypes := #[t] }) ty e (.int .i64 l.length) := by
  have := ov_slen (P := P) (ty := ty) ht hx; rwa [bs_size] at this
theorem beq_dec (a b : List UInt8) : (a == b) = decide (a = b) := by rw [Bool.eq_iff_iff]; simp
theorem ov_seqlL (hx : ev e x = some (vS a)) (hy : ev e y = some (vS b)) : OpP P (.binOp .eql t x y u) ty e (.bool (decide (a = b))) := by
  have := ov_seql (P := P) (ty := ty) (t := t) (u := u) hx hy; rwa [bs_list, bs_list, beq_dec] at this
theorem ov_sneqL (hx : ev e x = some (vS a)) (hy : ev e y = some (vS b)) : OpP P (.binOp .neq t x y u) ty e (.bool (decide (a ≠ b))) := by
  have := ov_sneq (P := P) (ty := ty) (t := t) (u := u) hx hy; rw [bs_list, bs_list, beq_dec] at this
  rwa [show (!decide (a = b)) = decide (a ≠ b) by rw [decide_not]] at this
theorem ov_sidxL {k : IntKind} {i : Int} (ht : P.underlying t = some .string) (hx : ev e x = some (vS l)) (hy : ev e y = some (.int k i)) (h : 0 ≤ i ∧ i < l.length) : OpP P (.index t x y) ty e (.int .u8 ((l.getD i.toNat 0).toNat : Nat)) := fun w ρ hρ _ _ _ _ => by
  have h2 : (bs l)[i.toNat]? = some (l.getD i.toNat 0) := by
    have hlt : i.toNat < l.length := by omega
    rw [getElem?_pos (bs l) i.toNat (by rw [bs_size]; exact hlt), List.getD_eq_getElem?_getD, List.getElem?_eq_getElem hlt]
    rfl
  simp only [execOp, Instr.index, asIntOf, hρ x _ hx, hρ y _ hy, Sem.run_bind, Sem.run_pure, Result.andThen, run_underlying ht, if_pos h.1, h2, Sem.run_map]
theorem ov_sidxN {k : IntKind} {i : Nat} (ht : P.underlying t = some .string) (hx : ev e x = some (vS l)) (hy : ev e y = some (.int k (i : Nat))) (h : i < l.length) : OpP P (.index t x y) ty e (.int .u8 ((l.getD i 0).toNat : Nat)) := by
  have := ov_sidxL (P := P) (ty := ty) ht hx hy (by omega); simpa using this
theorem ov_sslcL {k k' : IntKind} {i j : Int} (ht : P.underlying t = some .string) (hx : ev e x = some (vS l)) (hl : ev e lo = some (.int k i)) (hh : ev e hi = some (.int k' j)) (h1 : 0 ≤ i) (h2 : i ≤ j) (h3 : j ≤ l.length) :
    OpP P (.slice t x (some lo) (some hi) none) ty e (vS ((l.drop i.toNat).take (j.toNat - i.toNat))) := fun w ρ hρ _ _ _ _ => by
  have a1 : 0 ≤ j ∧ j ≤ ((bs l).size : Int) := by rw [bs_size]; omega
  have a2 : 0 ≤ i ∧ i ≤ ((j.toNat : Nat) : Int) := by omega
  have h4 : (bs l).extract i.toNat j.toNat = bs ((l.drop i.toNat).take (j.toNat - i.toNat)) := Lib.extract_eq _ _ _
  simp only [execOp, Instr.sliceAt, Instr.slice, Instr.sliceBounds, Instr.sliceBound, asIntOf, hρ x _ hx, hρ lo _ hl, hρ hi _ hh, Sem.run_bind, Sem.run_pure, Result.andThen, run_underlying ht, Option.map_some, Option.map_none, if_pos a1, if_pos a2, h4, Option.isSome_none, Bool.false_eq_true, if_false, Sem.run_map]
end
end Go.Eng
