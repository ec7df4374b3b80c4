/- The calculus, second part: what the memory holds is a list of (block, object); what may have been changed is a set of blocks. No condition. -/
import Derived.Test.YtbndlommbpkijaaDoorEng1
import Derived.Laws.Entries
import Derived.Laws.AppendOwn
import Derived.Laws.Sem
namespace Go.Eng
open Go Go.RowKit

abbrev Mem0 := List (Nat × Obj)

def Mem (w : World) (M : Mem0) : Prop := (M.map (·.1)).Nodup ∧ ∀ p ∈ M, w.heap[p.1]? = some p.2

/-- From w to w' no block has gone, and of the blocks of w those outside S are as they were. -/
structure Chg (S : Nat → Prop) (w w' : World) : Prop where
  os : w'.os = w.os
  tape : w'.tape = w.tape
  output : w'.output = w.output
  size : w.heap.size ≤ w'.heap.size
  block : ∀ b, b < w.heap.size → ¬ S b → w'.heap[b]? = w.heap[b]?

def no : Nat → Prop := fun _ => False
abbrev Ext (w w' : World) : Prop := Chg no w w'

theorem Chg.refl (S : Nat → Prop) (w : World) : Chg S w w := ⟨rfl, rfl, rfl, Nat.le_refl _, fun _ _ _ => rfl⟩
theorem Chg.trans {S : Nat → Prop} {a b c : World} (h : Chg S a b) (k : Chg S b c) : Chg S a c :=
  ⟨k.os.trans h.os, k.tape.trans h.tape, k.output.trans h.output, Nat.le_trans h.size k.size, fun x hx hs => (k.block x (Nat.lt_of_lt_of_le hx h.size) hs).trans (h.block x hx hs)⟩
theorem Chg.mono {S T : Nat → Prop} {w w' : World} (h : Chg S w w') (hs : ∀ b, b < w.heap.size → S b → T b) : Chg T w w' :=
  ⟨h.os, h.tape, h.output, h.size, fun x hx ht => h.block x hx (fun q => ht (hs x hx q))⟩
theorem Ext.chg {S : Nat → Prop} {w w' : World} (h : Ext w w') : Chg S w w' := h.mono (fun _ _ q => q.elim)
/-- A step that changes T alone, behind steps that change S. -/
theorem Chg.step {S T : Nat → Prop} {a b c : World} (h : Chg S a b) (k : Chg T b c) (hs : ∀ x, x < a.heap.size → T x → S x) : Chg S a c :=
  ⟨k.os.trans h.os, k.tape.trans h.tape, k.output.trans h.output, Nat.le_trans h.size k.size, fun x hx hn => (k.block x (Nat.lt_of_lt_of_le hx h.size) (fun q => hn (hs x hx q))).trans (h.block x hx hn)⟩
theorem Ext.below {w w' : World} (h : Ext w w') : Below w.heap.size w w' := ⟨h.os, h.tape, h.output, h.size, fun k hk => h.block k hk (fun q => q)⟩
theorem Ext.of_below {w w' : World} (h : Below w.heap.size w w') : Ext w w' := ⟨h.os, h.tape, h.output, h.size, fun k hk _ => h.block k hk⟩
theorem Ext.get {w w' : World} (h : Ext w w') {b : Nat} {o : Obj} (hb : w.heap[b]? = some o) : w'.heap[b]? = some o := by
  rw [h.block b (Array.getElem?_eq_some_iff.1 hb).1 (fun q => q)]; exact hb
theorem Chg.get {S : Nat → Prop} {w w' : World} (h : Chg S w w') {b : Nat} {o : Obj} (hb : w.heap[b]? = some o) (hn : ¬ S b) : w'.heap[b]? = some o := by
  rw [h.block b (Array.getElem?_eq_some_iff.1 hb).1 hn]; exact hb
theorem Chg.drew (S : Nat → Prop) (w : World) : Chg S w { w with drawn := w.drawn + 1 } := ⟨rfl, rfl, rfl, Nat.le_refl _, fun _ _ _ => rfl⟩

theorem Mem.get {w : World} {M : Mem0} (h : Mem w M) {i b : Nat} {o : Obj} (hi : M[i]? = some (b, o)) : w.heap[b]? = some o := h.2 _ (List.mem_of_getElem? hi)
theorem Mem.lt {w : World} {M : Mem0} (h : Mem w M) {p : Nat × Obj} (hp : p ∈ M) : p.1 < w.heap.size := (Array.getElem?_eq_some_iff.1 (h.2 p hp)).1
theorem Mem.nil (w : World) : Mem w [] := ⟨List.nodup_nil, fun _ h => by cases h⟩
theorem Mem.ext {w w' : World} {M : Mem0} (h : Mem w M) (k : Ext w w') : Mem w' M := ⟨h.1, fun p hp => k.get (h.2 p hp)⟩
theorem Mem.keep {S : Nat → Prop} {w w' : World} {M : Mem0} (h : Mem w M) (k : Chg S w w') (hn : ∀ p ∈ M, ¬ S p.1) : Mem w' M := ⟨h.1, fun p hp => k.get (h.2 p hp) (hn p hp)⟩
theorem Mem.cons {w : World} {M : Mem0} (h : Mem w M) {b : Nat} {o : Obj} (hb : w.heap[b]? = some o) (hn : ∀ p ∈ M, p.1 ≠ b) : Mem w ((b, o) :: M) := by
  refine ⟨?_, fun p hp => ?_⟩
  · simp only [List.map_cons, List.nodup_cons]
    refine ⟨fun hm => ?_, h.1⟩
    obtain ⟨p, hp, he⟩ := List.mem_map.1 hm
    exact hn p hp he
  · rcases List.mem_cons.1 hp with rfl | hp
    · exact hb
    · exact h.2 p hp
theorem Mem.tail {w : World} {M : Mem0} {p : Nat × Obj} (h : Mem w (p :: M)) : Mem w M := ⟨(List.nodup_cons.1 h.1).2, fun q hq => h.2 q (List.mem_cons_of_mem _ hq)⟩
theorem Mem.sub {w : World} {M M' : Mem0} (h : Mem w M) (hs : List.Sublist M' M) : Mem w M' := ⟨h.1.sublist (hs.map _), fun p hp => h.2 p (hs.subset hp)⟩
theorem Mem.perm {w : World} {M M' : Mem0} (h : Mem w M) (hs : M.Perm M') : Mem w M' := ⟨(hs.map _).nodup_iff.1 h.1, fun p hp => h.2 p (hs.mem_iff.2 hp)⟩
/-- One block of the list has become another. -/
theorem Mem.set {w w' : World} {M : Mem0} (h : Mem w M) {i b : Nat} {o o' : Obj} (hi : M[i]? = some (b, o)) (hb : w'.heap[b]? = some o') (k : Chg (fun x => x = b) w w') : Mem w' (M.set i (b, o')) := by
  have hlt : i < M.length := (List.getElem?_eq_some_iff.1 hi).1
  have hget : M[i] = (b, o) := (List.getElem?_eq_some_iff.1 hi).2
  have hmap : (M.set i (b, o')).map (·.1) = M.map (·.1) := by
    apply List.ext_getElem?
    intro j
    simp only [List.getElem?_map, List.getElem?_set]
    by_cases hij : i = j
    · subst hij; simp [hlt, hget]
    · simp [hij]
  refine ⟨by rw [hmap]; exact h.1, fun p hp => ?_⟩
  obtain ⟨j, hj⟩ := List.getElem?_of_mem hp
  rw [List.getElem?_set] at hj
  by_cases hij : i = j
  · subst hij; simp [hlt] at hj; subst hj; exact hb
  · simp only [hij, if_false] at hj
    have hpm : p ∈ M := List.mem_of_getElem? hj
    refine k.get (h.2 p hpm) (fun hpb => hij ?_)
    have hnd := h.1
    have e1 : (M.map (·.1))[i]? = some b := by simp [hi]
    have e2 : (M.map (·.1))[j]? = some b := by simp [hj, hpb]
    exact (List.nodup_iff_injective_get? hnd e1 e2)
where
  List.nodup_iff_injective_get? {l : List Nat} (h : l.Nodup) {i j x : Nat} (h1 : l[i]? = some x) (h2 : l[j]? = some x) : i = j := by
    induction l generalizing i j with
    | nil => simp at h1
    | cons a l ih =>
      rw [List.nodup_cons] at h
      cases i with
      | zero =>
        cases j with
        | zero => rfl
        | succ j => simp at h1 h2; subst h1; exact absurd (List.mem_of_getElem? h2) h.1
      | succ i =>
        cases j with
        | zero => simp at h1 h2; subst h2; exact absurd (List.mem_of_getElem? h1) h.1
        | succ j => simp at h1 h2; rw [ih h.2 h1 h2]

section defs
variable (P : Program) (r : Option Nat) (N : Nat)
def wpM (c : Code) (Q : Exit → Act → World → Prop) (e : Env) (ds : List Nat) (M : Mem0) (S : Nat → Prop) (w0 : World) (G : World → Prop) : Prop := ∀ w, Mem w M → Chg S w0 w → G w → wpE P r N c Q e ds w
def LM (ops : Array Oper) (Q : Exit → Act → World → Prop) (l : List Oper) (e : Env) (ds : List Nat) (M : Mem0) (S : Nat → Prop) (w0 : World) (G : World → Prop) : Prop := ∀ w, Mem w M → Chg S w0 w → G w → LE P r N ops Q l e ds w
def QM (Q : Exit → Act → World → Prop) (x : Exit) (e : Env) (ds : List Nat) (M : Mem0) (S : Nat → Prop) (w0 : World) (G : World → Prop) : Prop := ∀ w, Mem w M → Chg S w0 w → G w → QE N Q x e ds w
/-- The objects of loops over functions. -/
def wlk : Obj → Bool
  | .loop _ => true
  | .deferred _ => true
  | _ => false
/-- Those are kept. -/
def KeepW (w w' : World) : Prop := ∀ (b : Nat) (o : Obj), w.heap[b]? = some o → wlk o = true → w'.heap[b]? = some o
theorem KeepW.one {w w' : World} {b : Nat} {o : Obj} (h : Chg (fun x => x = b) w w') (hb : w.heap[b]? = some o) (hw : wlk o = false) : KeepW w w' := fun k u hk hu => by
  refine h.get hk (fun e => ?_)
  subst e
  rw [hk] at hb; cases hb
  rw [hu] at hw; cases hw
/-- Whatever else is known of the world: it stands when blocks are laid; when one is changed. -/
class GS (G : World → Prop) : Prop where
  ext : ∀ w w', G w → Ext w w' → G w'
class GT (G : World → Prop) : Prop extends GS G where
  chg : ∀ S w w', G w → Chg S w w' → KeepW w w' → G w'
def top : World → Prop := fun _ => True
instance : GT top where
  ext := fun _ _ _ _ => trivial
  chg := fun _ _ _ _ _ _ => trivial
end defs

section
variable {P : Program} {r : Option Nat} {N : Nat} {Q : Exit → Act → World → Prop} {e : Env} {ds : List Nat} {M : Mem0} {S : Nat → Prop} {w0 : World} {G : World → Prop}

theorem wpM.sub {c : Code} {e' : Env} (hs : Sub e e') (h : wpM P r N c Q e' ds M S w0 G) : wpM P r N c Q e ds M S w0 G := fun w hm hc hg => (h w hm hc hg).sub hs
theorem QM.sub {x : Exit} {e' : Env} (hs : Sub e e') (h : QM N Q x e' ds M S w0 G) : QM N Q x e ds M S w0 G := fun w hm hc hg => (h w hm hc hg).sub hs
theorem LM.sub {ops : Array Oper} {l : List Oper} {e' : Env} (hs : Sub e e') (h : LM P r N ops Q l e' ds M S w0 G) : LM P r N ops Q l e ds M S w0 G := fun w hm hc hg => (h w hm hc hg).sub hs
theorem wpM.mem {c : Code} {M' : Mem0} (hs : ∀ w, Mem w M → Mem w M') (h : wpM P r N c Q e ds M' S w0 G) : wpM P r N c Q e ds M S w0 G := fun w hm hc hg => h w (hs w hm) hc hg
theorem QM.mem {x : Exit} {M' : Mem0} (hs : ∀ w, Mem w M → Mem w M') (h : QM N Q x e ds M' S w0 G) : QM N Q x e ds M S w0 G := fun w hm hc hg => h w (hs w hm) hc hg
theorem LM.mem {ops : Array Oper} {l : List Oper} {M' : Mem0} (hs : ∀ w, Mem w M → Mem w M') (h : LM P r N ops Q l e ds M' S w0 G) : LM P r N ops Q l e ds M S w0 G := fun w hm hc hg => h w (hs w hm) hc hg

theorem wpM.seq {x y : Code} (h : wpM P r N x (Exit.then (y.wpIn (Wd r) 0 P Q) Q) e ds M S w0 G) : wpM P r N (.seq x y) Q e ds M S w0 G := fun w hm hc hg => .seq (h w hm hc hg)
theorem wpM.skip (h : QM N Q .normal e ds M S w0 G) : wpM P r N .skip Q e ds M S w0 G := fun w hm hc hg => .skip (h w hm hc hg)
theorem wpM.exit {id : Nat} (h : QM N Q (.exit id) e ds M S w0 G) : wpM P r N (.exit id) Q e ds M S w0 G := fun w hm hc hg => .exit (h w hm hc hg)
theorem wpM.ret (h : QM N Q .ret e ds M S w0 G) : wpM P r N .ret Q e ds M S w0 G := fun w hm hc hg => .ret (h w hm hc hg)
theorem wpM.block {id : Nat} {c : Code} (h : wpM P r N c (Exit.inBlock id Q) e ds M S w0 G) : wpM P r N (.block id c) Q e ds M S w0 G := fun w hm hc hg => .block (h w hm hc hg)
theorem wpM.region {id : Nat} {l : List Oper} (h : LM P r N l.toArray Q l e ds M S w0 G) : wpM P r N (.region id l.toArray false) Q e ds M S w0 G := fun w hm hc hg => .region (h w hm hc hg)
theorem wpM.condF {c : Operand} {x y : Code} (hc : ev e c = some (.bool false)) (h : wpM P r N y Q e ds M S w0 G) : wpM P r N (.cond c x y) Q e ds M S w0 G := fun w hm hcg hg => .condF hc (h w hm hcg hg)
theorem wpM.condD {p : Prop} [Decidable p] {c : Operand} {x y : Code} (hc : ev e c = some (.bool (decide p))) (h1 : p → wpM P r N x Q e ds M S w0 G) (h2 : ¬ p → wpM P r N y Q e ds M S w0 G) :
    wpM P r N (.cond c x y) Q e ds M S w0 G := fun w hm hcg hg => .condD hc (fun hp => h1 hp w hm hcg hg) (fun hp => h2 hp w hm hcg hg)
theorem wpM.condB {b : Bool} {c : Operand} {x y : Code} (hc : ev e c = some (.bool b)) (h1 : b = true → wpM P r N x Q e ds M S w0 G) (h2 : b = false → wpM P r N y Q e ds M S w0 G) :
    wpM P r N (.cond c x y) Q e ds M S w0 G := fun w hm hcg hg => .condB hc (fun hp => h1 hp w hm hcg hg) (fun hp => h2 hp w hm hcg hg)

theorem QM.then {y : Code} (h : wpM P r N y Q e ds M S w0 G) : QM N (Exit.then (y.wpIn (Wd r) 0 P Q) Q) .normal e ds M S w0 G := h
theorem QM.then_exit {K : Act → World → Prop} {id : Nat} (h : QM N Q (.exit id) e ds M S w0 G) : QM N (Exit.then K Q) (.exit id) e ds M S w0 G := h
theorem QM.then_ret {K : Act → World → Prop} (h : QM N Q .ret e ds M S w0 G) : QM N (Exit.then K Q) .ret e ds M S w0 G := h
theorem QM.block_normal {id : Nat} (h : QM N Q .normal e ds M S w0 G) : QM N (Exit.inBlock id Q) .normal e ds M S w0 G := h
theorem QM.block_ret {id : Nat} (h : QM N Q .ret e ds M S w0 G) : QM N (Exit.inBlock id Q) .ret e ds M S w0 G := h
theorem QM.block_hit {id : Nat} (h : QM N Q .normal e ds M S w0 G) : QM N (Exit.inBlock id Q) (.exit id) e ds M S w0 G := fun w hm hc hg => .block_hit (h w hm hc hg)
/-- A loop: its state is a value of a type; the frame's list, the memory's list, what else is known, a relation, a measure. -/
def agQ (N : Nat) (ds : List Nat) (S : Nat → Prop) (w0 : World) {α : Type} (E : α → Env) (MM : α → Mem0) (GG : α → World → Prop) (I : α → Prop) (μ : α → Nat) (x : α) (a' : Act) (w' : World) : Prop :=
  ∃ y, Fr N (E y) a' ∧ Dm ds a' ∧ (Mem w' (MM y) ∧ Chg S w0 w' ∧ GG y w' ∧ I y) ∧ μ y < μ x
theorem wpM.loopG {α : Type} {c : Code} (E : α → Env) (MM : α → Mem0) (GG : α → World → Prop) (I : α → Prop) (μ : α → Nat) (x0 : α) (hs : Sub e (E x0)) (hM : ∀ w, Mem w M → Mem w (MM x0)) (hG : ∀ w, G w → GG x0 w) (h0 : I x0)
    (round : ∀ x, I x → wpM P r N c (Exit.then (agQ N ds S w0 E MM GG I μ x) Q) (E x) ds (MM x) S w0 (GG x)) :
    wpM P r N (.loop c) Q e ds M S w0 G := fun w hm hc hg =>
  wpE.loop E (fun x w => Mem w (MM x) ∧ Chg S w0 w ∧ GG x w ∧ I x) μ x0 hs ⟨hM w hm, hc, hG w hg, h0⟩ (fun x w ⟨h1, h2, h3, h4⟩ => round x h4 w h1 h2 h3)
theorem wpM.loop {α : Type} {c : Code} (E : α → Env) (MM : α → Mem0) (I : α → Prop) (μ : α → Nat) (x0 : α) (hs : Sub e (E x0)) (hM : ∀ w, Mem w M → Mem w (MM x0)) (h0 : I x0)
    (round : ∀ x, I x → wpM P r N c (Exit.then (agQ N ds S w0 E MM (fun _ => G) I μ x) Q) (E x) ds (MM x) S w0 G) :
    wpM P r N (.loop c) Q e ds M S w0 G := .loopG E MM (fun _ => G) I μ x0 hs hM (fun _ h => h) h0 round
theorem QM.againG {α : Type} {E : α → Env} {MM : α → Mem0} {GG : α → World → Prop} {I : α → Prop} {μ : α → Nat} {x : α} (y : α) (hs : Sub e (E y)) (hM : ∀ w, Mem w M → Mem w (MM y)) (hG : ∀ w, G w → GG y w) (hI : I y) (hm : μ y < μ x) :
    QM N (Exit.then (agQ N ds S w0 E MM GG I μ x) Q) .normal e ds M S w0 G := fun w hw hc hg _ hf hd => ⟨y, hf.sub hs, hd, ⟨hM w hw, hc, hG w hg, hI⟩, hm⟩
/-! ### Operations -/
section ops
variable {ops : Array Oper} {l : List Oper} {op : Op} {ty : TypeId} {pos : String} {after : Array Edge} {d : Nat} {v : Value}

/-- The operation yields v, in whatever world, and leaves it as it is. -/
def OpP (P : Program) (op : Op) (ty : TypeId) (e : Env) (v : Value) : Prop := ∀ w, OpV P op ty e w v w

theorem LM.nil (h : QM N Q .normal e ds M S w0 G) : LM P r N ops Q [] e ds M S w0 G := fun w hm hc hg => .nil (h w hm hc hg)
theorem LM.val (hv : OpP P op ty e v) (h : LM P r N ops Q l ((d, v) :: e) ds M S w0 G) (hnd : nd op = true := by rfl) (hd : Nat.blt d N = true := by rfl) :
    LM P r N ops Q (⟨some d, op, ty, pos, after, none⟩ :: l) e ds M S w0 G := fun w hm hc hg => .val (hv w) (h w hm hc hg) hnd hd
/-- An operation that reads the memory. -/
theorem LM.rd (hv : ∀ w, Mem w M → OpV P op ty e w v w) (h : LM P r N ops Q l ((d, v) :: e) ds M S w0 G) (hnd : nd op = true := by rfl) (hd : Nat.blt d N = true := by rfl) :
    LM P r N ops Q (⟨some d, op, ty, pos, after, none⟩ :: l) e ds M S w0 G := fun w hm hc hg => .val (hv w hm) (h w hm hc hg) hnd hd
/-- An operation that reads what lay there at the function's beginning, too. -/
theorem LM.rdC (hv : ∀ w, Mem w M → Chg S w0 w → G w → OpV P op ty e w v w) (h : LM P r N ops Q l ((d, v) :: e) ds M S w0 G) (hnd : nd op = true := by rfl) (hd : Nat.blt d N = true := by rfl) :
    LM P r N ops Q (⟨some d, op, ty, pos, after, none⟩ :: l) e ds M S w0 G := fun w hm hc hg => .val (hv w hm hc hg) (h w hm hc hg) hnd hd
theorem LM.strip {o : Oper} {j t : Nat} {b : Bool} (hj : (ops[j]?).bind (·.dst) = some t) (ht : look e t = some (.bool b)) (ho : o.guard = some (j, b))
    (h : LM P r N ops Q ({ o with guard := none } :: l) e ds M S w0 G) : LM P r N ops Q (o :: l) e ds M S w0 G := fun w hm hc hg => .strip hj ht ho (h w hm hc hg)
theorem LM.drop {j t : Nat} {b c : Bool} (hj : (ops[j]?).bind (·.dst) = some t) (ht : look e t = some (.bool c)) (hbc : (c == b) = false) 
    (h : LM P r N ops Q l e ds M S w0 G) (hd : Nat.blt d N = true := by rfl) (hfresh : look e d = none := by rfl) : LM P r N ops Q (⟨some d, op, ty, pos, after, some (j, b)⟩ :: l) e ds M S w0 G := fun w hm hc hg =>
  .drop hj ht hbc (LE.sub_fresh hfresh (h w hm hc hg)) hd
where
  LE.sub_fresh {P : Program} {r : Option Nat} {N : Nat} {ops : Array Oper} {Q : Exit → Act → World → Prop} {l : List Oper} {e : Env} {ds : List Nat} {w : World} {d : Nat} {u : Value} (hd : look e d = none)
      (h : LE P r N ops Q l e ds w) : LE P r N ops Q l ((d, u) :: e) ds w := fun a hf hdm => h a ⟨hf.1, fun t v hv => hf.2 t v (by
        rw [look_cons]
        by_cases hdt : d = t
        · subst hdt; rw [hd] at hv; cases hv
        · rw [if_neg hdt]; exact hv)⟩ hdm
theorem LM.splitD {t : Nat} {p : Prop} [Decidable p] (ht : look e t = some (.bool (decide p))) (h1 : p → LM P r N ops Q l ((t, .bool true) :: e) ds M S w0 G) (h2 : ¬ p → LM P r N ops Q l ((t, .bool false) :: e) ds M S w0 G) :
    LM P r N ops Q l e ds M S w0 G := fun w hm hc hg => .splitD ht (fun hp => h1 hp w hm hc hg) (fun hp => h2 hp w hm hc hg)
theorem LM.splitB {t : Nat} {b : Bool} (ht : look e t = some (.bool b)) (h1 : b = true → LM P r N ops Q l ((t, .bool true) :: e) ds M S w0 G) (h2 : b = false → LM P r N ops Q l ((t, .bool false) :: e) ds M S w0 G) :
    LM P r N ops Q l e ds M S w0 G := fun w hm hc hg => .splitB ht (fun hp => h1 hp w hm hc hg) (fun hp => h2 hp w hm hc hg)

/-- A call. -/
theorem LM.call {f : FuncId} {args : Array Value} {R : World → Value → World → Prop} (hc : ∀ w, OpC P op ty e w f args) (h : ∀ w, Mem w M → Chg S w0 w → G w → Ret P f args w (R w))
    (hk : ∀ w v w', Mem w M → Chg S w0 w → G w → R w v w' → LE P r N ops Q l ((d, v) :: e) ds w') (hnd : nd op = true := by rfl) (hd : Nat.blt d N = true := by rfl) :
    LM P r N ops Q (⟨some d, op, ty, pos, after, none⟩ :: l) e ds M S w0 G := fun w hm hcg hg => .call (hc w) (h w hm hcg hg) (fun v w' hR => hk w v w' hm hcg hg hR) hnd hd
/-- A call that changes nothing that was there, and whose value is known. -/
theorem LM.callE [GS G] {f : FuncId} {args : Array Value} {v : Value} (hc : ∀ w, OpC P op ty e w f args) (h : ∀ w, Mem w M → Chg S w0 w → G w → Ret P f args w (fun u w' => u = v ∧ Ext w w'))
    (hk : LM P r N ops Q l ((d, v) :: e) ds M S w0 G) (hnd : nd op = true := by rfl) (hd : Nat.blt d N = true := by rfl) :
    LM P r N ops Q (⟨some d, op, ty, pos, after, none⟩ :: l) e ds M S w0 G :=
  .call hc (fun w hm hcg hg => h w hm hcg hg) (fun w _ w' hm hcg hg ⟨hu, he⟩ => by rw [hu]; exact hk w' (hm.ext he) (hcg.step he (fun _ _ q => q.elim)) (GS.ext w w' hg he)) hnd hd
/-- A call that changes one block of the list. -/
theorem LM.callW [GT G] {f : FuncId} {args : Array Value} {v : Value} (i : Nat) {b : Nat} {o o' : Obj} (hM : M[i]? = some (b, o)) (hw : wlk o = false) (hb : b < w0.heap.size → S b) (hc : ∀ w, OpC P op ty e w f args)
    (h : ∀ w, Mem w M → Chg S w0 w → G w → Ret P f args w (fun u w' => u = v ∧ Chg (fun x => x = b) w w' ∧ w'.heap[b]? = some o'))
    (hk : LM P r N ops Q l ((d, v) :: e) ds (M.set i (b, o')) S w0 G) (hnd : nd op = true := by rfl) (hd : Nat.blt d N = true := by rfl) :
    LM P r N ops Q (⟨some d, op, ty, pos, after, none⟩ :: l) e ds M S w0 G :=
  .call hc (fun w hm hcg hg => h w hm hcg hg) (fun w _ w' hm hcg hg ⟨hu, he, ho⟩ => by
    rw [hu]; exact hk w' (hm.set hM ho he) (hcg.step he (fun k hlt hkb => by subst hkb; exact hb hlt)) (GT.chg _ w w' hg he (.one he (hm.get hM) hw))) hnd hd
/-- A call that changes nothing that was there; its value is whatever 'T' says with the blocks that hold it. -/
theorem LM.callT [GS G] {f : FuncId} {args : Array Value} {T : Nat → Value → Mem0 → Prop} (hc : ∀ w, OpC P op ty e w f args) (hmono : ∀ n n' u m, n' ≤ n → T n u m → T n' u m)
    (h : ∀ w, Mem w M → Chg S w0 w → G w → Ret P f args w (fun u w' => Ext w w' ∧ ∃ m, T w.heap.size u m ∧ Mem w' m ∧ ∀ p ∈ m, w.heap.size ≤ p.1))
    (hk : ∀ u m, T w0.heap.size u m → (∀ p ∈ m, w0.heap.size ≤ p.1) → LM P r N ops Q l ((d, u) :: e) ds (m ++ M) S w0 G) (hnd : nd op = true := by rfl) (hd : Nat.blt d N = true := by rfl) :
    LM P r N ops Q (⟨some d, op, ty, pos, after, none⟩ :: l) e ds M S w0 G :=
  .call hc (fun w hm hcg hg => h w hm hcg hg) (fun w u w' hm hcg hg ⟨he, m, hT, hm', hge⟩ => by
    refine hk u m (hmono _ _ u m hcg.size hT) (fun p hp => Nat.le_trans hcg.size (hge p hp)) w' ?_ (hcg.step he (fun _ _ q => q.elim)) (GS.ext w w' hg he)
    refine ⟨?_, fun p hp => ?_⟩
    · rw [List.map_append]
      refine List.nodup_append.2 ⟨hm'.1, hm.1, ?_⟩
      intro x hx y hy hxy
      obtain ⟨p, hp, rfl⟩ := List.mem_map.1 hx
      obtain ⟨q, hq, rfl⟩ := List.mem_map.1 hy
      have := hge p hp
      have := hm.lt hq
      omega
    · rcases List.mem_append.1 hp with hp | hp
      · exact hm'.2 p hp
      · exact he.get (hm.2 p hp)) hnd hd
end ops
end

/-! ### A function's contract out of its body -/
theorem Ret.enterM {P : Program} {f : FuncId} {fn : Func} {c : Code} {l : List Value} {w : World} {R : Value → World → Prop}
    (hf : P.funcs[f]? = some fn) (hb : fn.body = some c) {N : Nat} (hN : fn.ntmps = N) (hl : Nat.ble l.length N = true) (M : Mem0) (S : Nat → Prop) (hM : Mem w M)
    (h : wpM P none N c (fnPost P fn R) (args0 0 l) [] M S w top) : Ret P f l.toArray w R :=
  .enter hf hb hN.symm hl (h w hM (.refl _ _) trivial)
/-- ... where more is known of the world. -/
theorem Ret.enterG {P : Program} {f : FuncId} {fn : Func} {c : Code} {l : List Value} {w : World} {R : Value → World → Prop}
    (hf : P.funcs[f]? = some fn) (hb : fn.body = some c) {N : Nat} (hN : fn.ntmps = N) (hl : Nat.ble l.length N = true) (M : Mem0) (S : Nat → Prop) (G : World → Prop) (hM : Mem w M) (hG : G w)
    (h : wpM P none N c (fnPost P fn R) (args0 0 l) [] M S w G) : Ret P f l.toArray w R :=
  .enter hf hb hN.symm hl (h w hM (.refl _ _) hG)

section
variable {P : Program} {fn : Func} {N : Nat} {e : Env} {ds : List Nat} {M : Mem0} {S : Nat → Prop} {w0 : World} {G : World → Prop} {R : Value → World → Prop} {vs : List Value}
theorem QM.leave {x : Exit} (hx : x = .ret ∨ x = .normal) (rs : List ResultVar) (hr : fn.results = rs.toArray) (h : resE e rs = some vs) (hR : ∀ w, Mem w M → Chg S w0 w → G w → R (resV vs) w) : QM N (fnPost P fn R) x e [] M S w0 G := fun w hm hc hg => by
  rcases hx with rfl | rfl
  · exact .leave rs hr h trivial (hR w hm hc hg)
  · exact .leaveN rs hr h trivial (hR w hm hc hg)
end
end Go.Eng
