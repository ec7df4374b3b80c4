/- The calculus, third part: what each operation yields. No condition. -/
import Derived.Test.YtbndlommbpkijaaDoorEng2
import Derived.IntWalk
namespace Go.Eng
open Go Go.RowKit

section
variable {P : Program} {ty : TypeId} {e : Env} {w : World}

theorem wrap_i64 (n : Int) (h : -9223372036854775808 ≤ n ∧ n ≤ 9223372036854775807) : IntKind.i64.wrap n = n := by
  simp only [IntKind.signed, IntKind.bits, IntKind.wrap]; simp; omega
theorem ov_move {x : Operand} {v : Value} (h : ev e x = some v) : OpP P (.move x) ty e v := fun w ρ hρ _ _ _ _ => by
  simp [execOp, hρ x v h]
theorem ov_assign {x : Operand} {v : Value} (h : ev e x = some v) : OpP P (.assign x) ty e v := fun w ρ hρ _ _ _ _ => by
  simp [execOp, hρ x v h]
theorem ov_pickT {c a b : Operand} {v : Value} (hc : ev e c = some (.bool true)) (h : ev e a = some v) : OpP P (.pick c a b) ty e v := fun w ρ hρ _ _ _ _ => by
  simp [execOp, hρ c _ hc, hρ a _ h, asBool]
theorem ov_pickF {c a b : Operand} {v : Value} (hc : ev e c = some (.bool false)) (h : ev e b = some v) : OpP P (.pick c a b) ty e v := fun w ρ hρ _ _ _ _ => by
  simp [execOp, hρ c _ hc, hρ b _ h, asBool]

/-! integers -/
section ints
variable {x y : Operand} {k : IntKind} {a b : Int} {t u : TypeId}
theorem run_eqGuard_int (op : BinOp) (t : TypeId) (x y : Operand) (k k' : IntKind) (a b : Int) (w : World) : (eqGuard op t x y (.int k a) (.int k' b)).run P w = .ok () w := by
  unfold eqGuard; cases op <;> rfl
theorem ov_arith {op : BinOp} {v : Value} (hx : ev e x = some (.int k a)) (hy : ev e y = some (.int k b))
    (h : ∀ w, (binOp op t (.int k a) (.int k b)).run P w = .ok v w) : OpP P (.binOp op t x y u) ty e v := fun w ρ hρ _ _ _ _ => by
  simp [execOp, hρ x _ hx, hρ y _ hy, run_eqGuard_int, h, Result.andThen]
theorem ov_add (hx : ev e x = some (.int k a)) (hy : ev e y = some (.int k b)) : OpP P (.binOp .add t x y u) ty e (.int k (k.wrap (a + b))) := ov_arith hx hy (fun w => by simp [binOp, Op.intArith])
theorem ov_sub (hx : ev e x = some (.int k a)) (hy : ev e y = some (.int k b)) : OpP P (.binOp .sub t x y u) ty e (.int k (k.wrap (a - b))) := ov_arith hx hy (fun w => by simp [binOp, Op.intArith])
theorem ov_mul (hx : ev e x = some (.int k a)) (hy : ev e y = some (.int k b)) : OpP P (.binOp .mul t x y u) ty e (.int k (k.wrap (a * b))) := ov_arith hx hy (fun w => by simp [binOp, Op.intArith])
theorem ov_add64 (hx : ev e x = some (.int .i64 a)) (hy : ev e y = some (.int .i64 b)) (h : -9223372036854775808 ≤ a + b ∧ a + b ≤ 9223372036854775807) : OpP P (.binOp .add t x y u) ty e (.int .i64 (a + b)) := by
  have := ov_add (P := P) (ty := ty) (t := t) (u := u) hx hy; rwa [wrap_i64 _ h] at this
theorem ov_sub64 (hx : ev e x = some (.int .i64 a)) (hy : ev e y = some (.int .i64 b)) (h : -9223372036854775808 ≤ a - b ∧ a - b ≤ 9223372036854775807) : OpP P (.binOp .sub t x y u) ty e (.int .i64 (a - b)) := by
  have := ov_sub (P := P) (ty := ty) (t := t) (u := u) hx hy; rwa [wrap_i64 _ h] at this
theorem ov_mul64 (hx : ev e x = some (.int .i64 a)) (hy : ev e y = some (.int .i64 b)) (h : -9223372036854775808 ≤ a * b ∧ a * b ≤ 9223372036854775807) : OpP P (.binOp .mul t x y u) ty e (.int .i64 (a * b)) := by
  have := ov_mul (P := P) (ty := ty) (t := t) (u := u) hx hy; rwa [wrap_i64 _ h] at this
theorem ov_eql (hx : ev e x = some (.int k a)) (hy : ev e y = some (.int k b)) : OpP P (.binOp .eql t x y u) ty e (.bool (decide (a = b))) := ov_arith hx hy (fun w => by
  have : (a == b) = decide (a = b) := by rw [Bool.eq_iff_iff]; simp
  simp [binOp, Op.intCmp, this])
theorem ov_neq (hx : ev e x = some (.int k a)) (hy : ev e y = some (.int k b)) : OpP P (.binOp .neq t x y u) ty e (.bool (decide (a ≠ b))) := ov_arith hx hy (fun w => by
  have : (a != b) = decide (a ≠ b) := by rw [Bool.eq_iff_iff]; simp
  simp [binOp, Op.intCmp, this])
theorem ov_lss (hx : ev e x = some (.int k a)) (hy : ev e y = some (.int k b)) : OpP P (.binOp .lss t x y u) ty e (.bool (decide (a < b))) := ov_arith hx hy (fun w => by simp [binOp, Op.intCmp])
theorem ov_leq (hx : ev e x = some (.int k a)) (hy : ev e y = some (.int k b)) : OpP P (.binOp .leq t x y u) ty e (.bool (decide (a ≤ b))) := ov_arith hx hy (fun w => by simp [binOp, Op.intCmp])
theorem ov_gtr (hx : ev e x = some (.int k a)) (hy : ev e y = some (.int k b)) : OpP P (.binOp .gtr t x y u) ty e (.bool (decide (b < a))) := ov_arith hx hy (fun w => by simp [binOp, Op.intCmp])
theorem ov_geq (hx : ev e x = some (.int k a)) (hy : ev e y = some (.int k b)) : OpP P (.binOp .geq t x y u) ty e (.bool (decide (b ≤ a))) := ov_arith hx hy (fun w => by simp [binOp, Op.intCmp])
end ints

/-! 64 bits -/
section bits
variable {x y : Operand} {a b : BitVec 64} {t u : TypeId} {n : Int}
theorem ov_conv {s d : TypeId} {k k' : IntKind} (hs : P.underlying s = some (.int k)) (hd : P.underlying d = some (.int k')) (hx : ev e x = some (.int k n)) : OpP P (.convert s d x) ty e (.int k' (k'.wrap n)) := fun w ρ hρ _ _ _ _ => by
  simp [execOp, hρ x _ hx, convert, run_underlying hs, run_underlying hd, Conv.intToInt, Result.andThen]
end bits

theorem ov_to64 {x : Operand} {s d : TypeId} {k : IntKind} {n : Int} (hs : P.underlying s = some (.int k)) (hd : P.underlying d = some (.int .i64)) (hx : ev e x = some (.int k n)) (h : -9223372036854775808 ≤ n ∧ n ≤ 9223372036854775807) : OpP P (.convert s d x) ty e (.int .i64 n) := by
  have := ov_conv (P := P) (ty := ty) hs hd hx; rwa [wrap_i64 _ h] at this

/-! bools -/
section bools
variable {x y : Operand} {t u : TypeId}
theorem ov_not {b : Bool} (hx : ev e x = some (.bool b)) : OpP P (.unOp .not t x) ty e (.bool (!b)) := fun w ρ hρ _ _ _ _ => by
  simp [execOp, hρ x _ hx, Op.unary]
theorem ov_notD {p : Prop} [Decidable p] (hx : ev e x = some (.bool (decide p))) : OpP P (.unOp .not t x) ty e (.bool (decide (¬ p))) := fun w ρ hρ _ _ _ _ => by
  simp [execOp, hρ x _ hx, Op.unary]
end bools

/-! built-ins, tuples, functions -/
section misc
variable {x y : Operand} {t u : TypeId}
theorem ov_len {ad : Option Addr} {n c : Nat} {E : TypeId} (ht : P.underlying t = some (.slice E)) (hx : ev e x = some (.slice ad n c)) : OpP P (.call { callee := .builtin .len, args := #[x], argTypes := #[t] }) ty e (.int .i64 n) := fun w ρ hρ _ _ _ _ => by
  simp [execOp, resolve, invoke, builtin, Builtin.len_, hρ x _ hx, run_underlying ht, goInt, Result.andThen]
theorem ov_slen {s : ByteArray} (ht : P.underlying t = some .string) (hx : ev e x = some (.string s)) : OpP P (.call { callee := .builtin .len, args := #[x], argTypes := #[t] }) ty e (.int .i64 s.size) := fun w ρ hρ _ _ _ _ => by
  simp [execOp, resolve, invoke, builtin, Builtin.len_, hρ x _ hx, run_underlying ht, goInt, Result.andThen]
theorem ov_extract {vs : Array Value} {i : Nat} {v : Value} (hx : ev e x = some (.tuple vs)) (hi : vs[i]? = some v) : OpP P (.extract x i) ty e v := fun w ρ hρ _ _ _ _ => by
  simp [execOp, Instr.extract, hρ x _ hx, hi]
theorem ov_nilCheck {ad : Addr} (hx : ev e x = some (.pointer (some ad))) : OpP P (.nilCheck x) ty e (.pointer (some ad)) := fun w ρ hρ _ _ _ _ => by
  simp [execOp, hρ x _ hx]
def evs (e : Env) : List Operand → Option (List Value)
  | [] => some []
  | x :: l => match ev e x, evs e l with | some v, some vs => some (v :: vs) | _, _ => none
theorem evs_map {ρ : Operand → Value} (hρ : ∀ x u, ev e x = some u → ρ x = u) : ∀ {l : List Operand} {vs : List Value}, evs e l = some vs → l.map ρ = vs
  | [], vs, h => by simp only [evs, Option.some.injEq] at h; subst h; rfl
  | x :: l, vs, h => by
    simp only [evs] at h
    cases hx : ev e x with
    | none => rw [hx] at h; cases h
    | some v =>
      cases hl : evs e l with
      | none => rw [hx, hl] at h; cases h
      | some us =>
        rw [hx, hl] at h
        obtain rfl := Option.some.inj h
        simp [hρ x v hx, evs_map hρ hl]
/-- A function that has a body is entered. -/
def Enters (P : Program) (f : FuncId) : Prop := ∀ args w, (callFunc f args).run P w = .ok (.enter f args) w
theorem enters_fn {P : Program} {f : FuncId} {fn : Func} {c : Code} (hf : P.funcs[f]? = some fn) (hn : (fn.name == "runtime.NumGoroutine") = false) (hb : fn.body = some c) : Enters P f := fun args w => by
  have h1 : fn.name ≠ "runtime.NumGoroutine" := by simpa using hn
  simp [callFunc, hf, h1, hb, Result.andThen]
theorem oc_call {f : FuncId} {l : List Operand} {vs : List Value} {ats : Array TypeId} (hE : Enters P f) (h : evs e l = some vs) (w : World) : OpC P (.call { callee := .value (.func f), args := l.toArray, argTypes := ats }) ty e w f vs.toArray := fun ρ hρ _ _ _ _ => by
  simp [execOp, resolve, hρ (.func f) _ rfl, Deferred.ofValue, invoke, evs_map hρ h]
  exact hE _ _
end misc
end
end Go.Eng
