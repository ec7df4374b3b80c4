/- The calculus, tenth part: iterators that have memory of their own. No condition. -/
import Derived.Test.YtbndlommbpkijaaDoorEng9
set_option linter.unusedVariables false
namespace Go.Eng
open Go Go.RowKit

/-- What is known between two rounds: k have come; the iterator's own blocks are m. -/
structure JL (n : Nat) (J : Nat → Mem0 → World → Prop) (Jx : World → Prop) : Prop where
  le : ∀ k m w, J k m w → n ≤ w.heap.size
  mem : ∀ k m w, J k m w → Mem w m
  upd : ∀ k m m' w w', J k m w → Chg (fun b => ∃ q ∈ m, q.1 = b) w w' → Mem w' m' → (∀ p ∈ m', (w.heap.size ≤ p.1 ∨ ∃ q ∈ m, q.1 = p.1) ∧ wlk p.2 = false) → J k m' w'
  bk : ∀ k m w w', J k m w → Bk n w w' → J k m w'
  bkx : ∀ w w', Jx w → Bk n w w' → Jx w'
/-- An iterator's contract, that has memory of its own. -/
def SeqCP (P : Program) (g : FuncId) (lb : Array Value) (A : List (Array Value)) (Rd : World → Prop) (fin : Prop) : Prop :=
  ∀ (l : Nat) (J : Nat → Mem0 → World → Prop) (Jx : World → Prop) (W : World), (fin ∨ ∀ m w, ¬ J A.length m w) → (∀ k m w, J k m w → Rd w) → JL W.heap.size J Jx →
    (∀ k a m w1, A[k]? = some a → J k m w1 → YR P l a w1 (fun b w2 => ((b = true ∧ J (k + 1) m w2) ∨ (b = false ∧ Jx w2)) ∧ KW W.heap.size w1 w2)) →
    J 0 [] W → Ret P g (#[.func (.yield l) #[] #[]] ++ lb) W (fun _ w' => J A.length [] w' ∨ Jx w')
theorem JL.rd {n : Nat} {J : Nat → Mem0 → World → Prop} {Jx : World → Prop} (h : JL n J Jx) {Rd : World → Prop} (hr : ∀ k m w, J k m w → Rd w) {k : Nat} {m : Mem0} {w1 w : World} (hj : J k m w1) (hc : Chg (fun b => ∃ q ∈ m, q.1 = b) w1 w) : Rd w :=
  hr k [] w (h.upd k m [] w1 w hj hc (Mem.nil w) (fun p hp => by cases hp))
theorem KW.trans {n n' : Nat} {a b c : World} (h : KW n' a b) (k : KW n b c) (hn : n ≤ n') : KW n' a c :=
  ⟨k.os.trans h.os, k.tape.trans h.tape, k.output.trans h.output, Nat.le_trans h.size k.size, fun x o hx ho hw => k.same x o (by omega) (h.same x o hx ho hw) hw⟩

section
variable {P : Program} {ty : TypeId} {e : Env} {t u : TypeId} {x y : Operand}
theorem ov_remJ {k : IntKind} {a b : Int} (hx : ev e x = some (.int k a)) (hy : ev e y = some (.int k b)) (ha : 0 ≤ a) (h : 0 < b) : OpP P (.binOp .rem t x y u) ty e (.int k (a % b)) := ov_arith hx hy (fun w => by
  have hb : ¬ b = 0 := by omega
  have hd : a.tmod b = a % b := Int.tmod_eq_emod_of_nonneg ha
  simp [binOp, Op.intDiv, hb, hd])
end

/-! ### Open and closed -/
section
variable {P : Program} {r : Option Nat} {N : Nat} {Q : Exit → Act → World → Prop} {e : Env} {ds : List Nat} {M m : Mem0} {w0 w1 : World} {n k : Nat} {J : Nat → Mem0 → World → Prop} {Jx K : World → Prop}
variable {ops : Array Oper} {rest : List Oper} {ty : TypeId} {pos : String} {after : Array Edge} {d : Nat}
abbrev all0 : Nat → Prop := fun _ => True
end

/-! ### ... in a round of a loop of the iterator's own -/
section
variable {P : Program} {r : Option Nat} {N : Nat} {Q : Exit → Act → World → Prop} {e : Env} {ds : List Nat} {M m : Mem0} {w0 w1 : World} {n k : Nat} {J : Nat → Mem0 → World → Prop} {Jx K K2 : World → Prop}
end

/-! ### A loop whose rounds leave marks -/
section
variable {P : Program} {r : Option Nat} {N : Nat} {Q : Exit → Act → World → Prop} {e : Env} {ds : List Nat} {M : Mem0} {S : Nat → Prop} {w0 : World} {G : World → Prop}
end
instance {M M1 : Mem0} {ds : List Nat} [h : Spl M (dM ds) M1] : SplD M ds M1 := ⟨h.perm⟩
theorem hd_nil {w0 : World} : ∀ D ∈ ([] : List Nat), w0.heap.size ≤ D := fun D h => by cases h

/-- An iterator's contract out of its body. -/
theorem SeqCP.enter {P : Program} {f : FuncId} {fn : Func} {c : Code} {lb : List Value} {A : List (Array Value)} {Rd : World → Prop} {fin : Prop}
    (hf : P.funcs[f]? = some fn) (hb : fn.body = some c) {N : Nat} (hN : fn.ntmps = N) (hl : Nat.ble (lb.length + 1) N = true)
    (h : ∀ (l n : Nat) (J : Nat → Mem0 → World → Prop) (Jx : World → Prop) (w0 : World), n = w0.heap.size → (fin ∨ ∀ m w, ¬ J A.length m w) → (∀ k m w, J k m w → Rd w) → JL n J Jx →
      (∀ k a m w, A[k]? = some a → J k m w → YR P l a w (fun b w2 => ((b = true ∧ J (k + 1) m w2) ∨ (b = false ∧ Jx w2)) ∧ KW n w w2)) →
      wpM P none N c (fnPost P fn (fun _ w' => J A.length [] w' ∨ Jx w')) (args0 0 (.func (.yield l) #[] #[] :: lb)) [] [] all0 w0 (fun w => J 0 [] w ∧ top w)) : SeqCP P f lb.toArray A Rd fin := fun l J Jx W hfin hJr hL hy h0 => by
  have h1 : (#[Value.func (.yield l) #[] #[]] ++ lb.toArray) = (Value.func (.yield l) #[] #[] :: lb).toArray := by simp
  rw [h1]
  refine Ret.enterG hf hb hN (by simpa using hl) [] all0 (fun w => J 0 [] w ∧ top w) (Mem.nil W) ⟨h0, trivial⟩ ?_
  exact h l W.heap.size J Jx W rfl hfin hJr hL hy

/-! ### A call that changes one block among what may be carried out early or late -/
def AltO (b : Nat) (Mc : Mem0) (os : List Obj) (w : World) : Prop := ∃ o ∈ os, Mem w ((b, o) :: Mc)
instance (b : Nat) (Mc : Mem0) (os : List Obj) {G : World → Prop} [GS G] : GS (fun w => G w ∧ AltO b Mc os w) where
  ext := fun w w' ⟨h, o, ho, hm⟩ k => ⟨GS.ext w w' h k, o, ho, hm.ext k⟩
section
variable {P : Program} {r : Option Nat} {N : Nat} {Q : Exit → Act → World → Prop} {e : Env} {ds : List Nat} {M : Mem0} {S : Nat → Prop} {w0 : World} {G : World → Prop}
variable {ops : Array Oper} {lo : List Oper} {l : List (Nat × Nat)} {op : Op} {ty : TypeId} {pos : String} {after : Array Edge} {d i : Nat}
end

/-! ### A new slice, as a slice of the call's own -/
section
variable {P : Program} {r : Option Nat} {N : Nat} {Q : Exit → Act → World → Prop} {e : Env} {ds : List Nat} {M : Mem0} {S : Nat → Prop} {w0 : World} {G : World → Prop}
variable {ops : Array Oper} {l : List Oper} {ty : TypeId} {pos : String} {after : Array Edge} {d : Nat} {t : TypeId} {x y : Operand}
end

section range
variable {P : Program} {N : Nat} {Q : Exit → Act → World → Prop} {e : Env} {ds : List Nat} {M : Mem0} {S : Nat → Prop} {w0 : World} {G : World → Prop}
variable {g : Operand} {ps : Array Tmp} {assign body : Code} {gf : FuncId} {lb : Array Value} {A : List (Array Value)} {Rd : World → Prop} {fin : Prop} {α β : Type}

end range
end Go.Eng
