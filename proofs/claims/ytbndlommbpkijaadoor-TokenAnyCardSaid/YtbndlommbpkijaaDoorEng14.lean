/- The calculus, fourteenth part: a strings.Builder of the call's own, by the shelf's contracts. No condition. -/
import Derived.Test.YtbndlommbpkijaaDoorEng13
import Derived.Lib.OthersKept
import Derived.Lib.FrozenHead
import Derived.Lib.UnsafeStr
import Derived.Lib.AppendStr
import Derived.Lib.AppendIntMem
set_option linter.unusedVariables false
set_option linter.unusedSimpArgs false
namespace Go.Eng
open Go Go.RowKit

def Bld (T e n0 b : Nat) (l : List UInt8) (m : Mem0) : Prop :=
  n0 ≤ b ∧ ∃ p v, (p = Value.pointer none ∨ p = Value.pointer (some ⟨b, 0, none⟩)) ∧
    ((v = Value.slice none 0 0 ∧ l = [] ∧ m = [(b, .cells #[p, v] T (0, 0))]) ∨
     ∃ g cap cur fz, v = Value.slice (some ⟨g, 0, none⟩) l.length cap ∧ n0 ≤ g ∧ g ≠ b ∧ m = [(b, .cells #[p, v] T (0, 0)), (g, .cells cur e fz)] ∧ fz.2 ≤ l.length ∧ l.length ≤ cap ∧ cap ≤ maxLen ∧ cur.size = cap ∧ cur.toList.take l.length = Lib.byteCells l)
theorem Bld.new {T e n0 b : Nat} (h : n0 ≤ b) : Bld T e n0 b [] [(b, .cells #[.pointer none, .slice none 0 0] T (0, 0))] := ⟨h, _, _, .inl rfl, .inl ⟨rfl, rfl, rfl⟩⟩
theorem Bld.is {T e n0 b : Nat} {l : List UInt8} {m : Mem0} {w : World} (h : Bld T e n0 b l m) (hm : Mem w m) : Lib.IsBuilderF T e n0 b (Lib.byteCells l) w := by
  obtain ⟨hb, p, v, hp, h⟩ := h
  have key : Lib.BuilderAtF T e n0 b p (Lib.byteCells l) w := by
    rcases h with ⟨rfl, rfl, rfl⟩ | ⟨g, cap, cur, fz, rfl, hg, hgb, rfl, h1, h2, h3, h4, h5⟩
    · exact ⟨hb, _, hm.get (i := 0) rfl, ⟨rfl, .inl ⟨rfl, rfl⟩⟩, by simp [Value.ownBlock]⟩
    · refine ⟨hb, _, hm.get (i := 0) rfl, ⟨by simp [Lib.byteCells_length], .inr ⟨g, cap, cur, fz, by rw [Lib.byteCells_length], hg, hm.get (i := 1) rfl, ?_⟩⟩, by simp [Value.ownBlock]; exact hgb⟩
      rw [Lib.byteCells_length, Nat.mul_one, Nat.mul_one]; exact ⟨h1, h2, h3, h4, h5⟩
  rcases hp with rfl | rfl
  · exact .inl key
  · exact .inr key
theorem Bld.of {T e n0 b : Nat} {l : List UInt8} {w : World} (h : Lib.IsBuilderF T e n0 b (Lib.byteCells l) w) : ∃ m, Bld T e n0 b l m ∧ Mem w m ∧ ∀ p ∈ m, p.1 = b ∨ ∃ cur fz, p.2 = .cells cur e fz := by
  obtain ⟨p, hp, h⟩ : ∃ p, (p = Value.pointer none ∨ p = Value.pointer (some ⟨b, 0, none⟩)) ∧ Lib.BuilderAtF T e n0 b p (Lib.byteCells l) w := by
    rcases h with h | h
    · exact ⟨_, .inl rfl, h⟩
    · exact ⟨_, .inr rfl, h⟩
  obtain ⟨hb, v, h1, ⟨_, h2⟩, h3⟩ := h
  rw [Lib.byteCells_length, Nat.mul_one] at h2
  rcases h2 with ⟨rfl, h0⟩ | ⟨g, cap, cur, fz, rfl, hg, h4, h5, h6, h7, h8, h9⟩
  · have : l = [] := List.eq_nil_of_length_eq_zero h0
    subst this
    refine ⟨_, ⟨hb, p, _, hp, .inl ⟨rfl, rfl, rfl⟩⟩, ⟨by simp, fun q hq => ?_⟩, fun q hq => ?_⟩
    · rw [List.mem_singleton] at hq; subst hq; exact h1
    · rw [List.mem_singleton] at hq; subst hq; exact .inl rfl
  · have hgb : g ≠ b := fun q => h3 (by simp [Value.ownBlock, q])
    refine ⟨_, ⟨hb, p, _, hp, .inr ⟨g, cap, cur, fz, rfl, hg, hgb, rfl, h5, h6, h7, by omega, h9⟩⟩, ⟨by simp; exact fun q => hgb q.symm, fun q hq => ?_⟩, fun q hq => ?_⟩
    · simp only [List.mem_cons, List.not_mem_nil, or_false] at hq
      rcases hq with rfl | rfl
      · exact h1
      · exact h4
    · simp only [List.mem_cons, List.not_mem_nil, or_false] at hq
      rcases hq with rfl | rfl
      · exact .inl rfl
      · exact .inr ⟨_, _, rfl⟩
def NoRow (e : Nat) (M : Mem0) : Prop := ∀ p ∈ M, ∀ c fz, p.2 ≠ .cells c e fz
theorem nr_nil {e : Nat} : NoRow e [] := fun p h => by cases h
theorem nr_cons {e b : Nat} {o : Obj} {M : Mem0} (h : ∀ c fz, o ≠ .cells c e fz) (k : NoRow e M) : NoRow e ((b, o) :: M) := fun p hp => by
  rcases List.mem_cons.1 hp with rfl | hp
  · exact h
  · exact k p hp
section
variable {P : Program} {r : Option Nat} {N : Nat} {Q : Exit → Act → World → Prop} {e : Env} {ds : List Nat} {M : Mem0} {S : Nat → Prop} {w0 : World} {G : World → Prop}
variable {ops : Array Oper} {l : List Oper} {op : Op} {ty : TypeId} {pos : String} {after : Array Edge} {d : Nat}
/-- a call that writes to a builder of one's own -/
theorem LM.cB {T u b : Nat} {s s' : List UInt8} {m M2 : Mem0} {f : FuncId} {args : Array Value} {v : Value} (hB : Bld T u w0.heap.size b s m) [hM : Spl M m M2] (hG : ∀ w, G w) (hr : NoRow u M2) (hc : ∀ w, OpC P op ty e w f args)
    (h : ∀ w, Lib.IsBuilderF T u w0.heap.size b (Lib.byteCells s) w → w0.heap.size ≤ w.heap.size → Calls P f args w (fun en w' => en = .returned v ∧ (Lib.IsBuilderF T u w0.heap.size b (Lib.byteCells s') w' ∧ Below w0.heap.size w w' ∧ Lib.OthersKept u (some b) w w')))
    (hk : ∀ m', Bld T u w0.heap.size b s' m' → LM P r N ops Q l ((d, v) :: e) ds (m' ++ M2) S w0 G) (hnd : nd op = true := by rfl) (hd : Nat.blt d N = true := by rfl) :
    LM P r N ops Q (⟨some d, op, ty, pos, after, none⟩ :: l) e ds M S w0 G :=
  .call (R := fun w v' w' => v' = v ∧ (Lib.IsBuilderF T u w0.heap.size b (Lib.byteCells s') w' ∧ Below w0.heap.size w w' ∧ Lib.OthersKept u (some b) w w')) hc
    (fun w hm hcg hg => (h w (hB.is (hM.mem hm)) hcg.size).mono (fun en w' ⟨h1, h2⟩ => ⟨v, h1, rfl, h2⟩))
    (fun w v' w' hm hcg hg ⟨hv, hi, hbl, hok⟩ => by
      subst hv
      obtain ⟨m', hB', hm', hrow⟩ := Bld.of hi
      have hmm := hm.perm hM.perm
      have hbm : ∃ q ∈ m, q.1 = b := by
        obtain ⟨_, p, v, _, h3⟩ := hB
        rcases h3 with ⟨_, _, rfl⟩ | ⟨g, cap, cur, fz, _, _, _, rfl, _⟩
        · exact ⟨_, List.mem_singleton.2 rfl, rfl⟩
        · exact ⟨_, List.mem_cons_self .., rfl⟩
      have hnb : ∀ q ∈ M2, q.1 ≠ b := fun q hq hqb => by
        obtain ⟨p, hp, hpb⟩ := hbm
        have hnd := hmm.1
        rw [List.map_append, List.nodup_append] at hnd
        exact hnd.2.2 _ (List.mem_map_of_mem hp) _ (List.mem_map_of_mem hq) (hpb.trans hqb.symm)
      have h2 : ∀ q ∈ M2, w'.heap[q.1]? = some q.2 := fun q hq => hok q.1 q.2 (hmm.2 q (List.mem_append_right _ hq)) (fun he => hnb q hq (Option.some.inj he)) (hr q hq)
      have hnd2 := hmm.1
      rw [List.map_append, List.nodup_append] at hnd2
      have hfin : Mem w' (m' ++ M2) := by
        refine ⟨?_, fun q hq => ?_⟩
        · rw [List.map_append, List.nodup_append]
          refine ⟨hm'.1, hnd2.2.1, ?_⟩
          intro x hx y hy hxy
          obtain ⟨p, hp, rfl⟩ := List.mem_map.1 hx
          obtain ⟨q, hq, rfl⟩ := List.mem_map.1 hy
          rcases hrow p hp with h3 | ⟨cur, fz, h3⟩
          · exact hnb q hq (by rw [← hxy, h3])
          · have h4 := hm'.2 p hp
            rw [hxy, h2 q hq, h3] at h4
            exact hr q hq _ _ (Option.some.inj h4)
        · rcases List.mem_append.1 hq with hq | hq
          · exact hm'.2 q hq
          · exact h2 q hq
      exact hk m' hB' w' hfin ⟨hbl.os.trans hcg.os, hbl.tape.trans hcg.tape, hbl.output.trans hcg.output, Nat.le_trans hcg.size hbl.size, fun k hk1 hk2 => (hbl.block k hk1).trans (hcg.block k hk1 hk2)⟩ (hG w')) hnd hd
end
end Go.Eng
