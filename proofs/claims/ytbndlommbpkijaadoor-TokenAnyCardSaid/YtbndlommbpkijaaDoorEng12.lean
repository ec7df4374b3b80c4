/- The calculus, twelfth part: regions that draw, in which only a part of the memory is read early or late; all else stands alone. No condition. -/
import Derived.Test.YtbndlommbpkijaaDoorEng11
set_option linter.unusedVariables false
set_option linter.unusedSimpArgs false
namespace Go.Eng
open Go Go.RowKit

/-- An order: an operation and what follows; or two that may both be next, each with what follows. -/
inductive OT where
  | nil : OT
  | one : Nat → Nat → OT → OT
  | fork : Nat → OT → Nat → OT → OT
  | last : Nat → OT
def OT.size : OT → Nat
  | .nil => 0
  | .one _ _ t => t.size + 1
  | .fork _ t _ _ => t.size + 1
  | .last _ => 1
section
variable {P : Program} {r : Option Nat} {ops : Array Oper}
/-- The walk in one order; the class D is kept throughout. -/
def LDK (P : Program) (r : Option Nat) (ops : Array Oper) (Q : Exit → Act → World → Prop) (D : World → Prop) : (World → Prop) → OT → Act → Prop
  | C, .nil, a => ∀ w, C w → Q .normal a w
  | C, .last i, a => ∀ w, C w → wpOpIn (Wd r) 0 P ops (Qn Q) i (Q .normal) a w
  | C, .fork i t j s, a => (∀ w, C w → wpOpIn (Wd r) 0 P ops (Qn Q) i (fun a' w' => ∃ C' : World → Prop, (∀ w, C' w → D w) ∧ C' w' ∧ LDK P r ops Q D C' t a') a w) ∧
      ∀ w, C w → wpOpIn (Wd r) 0 P ops (Qn Q) j (fun a' w' => ∃ C' : World → Prop, (∀ w, C' w → D w) ∧ C' w' ∧ LDK P r ops Q D C' s a') a w
  | C, .one i k l, a =>
    match ops[i]? with
    | none => False
    | some o =>
      match k with
      | 0 => ∃ v, YA P ops (fun _ => True) o v a ∧ LDK P r ops Q D C l (a.put o.dst v)
      | 1 => ∃ v, YA P ops D o v a ∧ LDK P r ops Q D C l (a.put o.dst v)
      | _ => ∀ w, C w → wpOpIn (Wd r) 0 P ops (Qn Q) i (fun a' w' => ∃ C' : World → Prop, (∀ w, C' w → D w) ∧ C' w' ∧ LDK P r ops Q D C' l a') a w

/-- z: the last one, behind which nothing is kept (or no operation's number) -/
def chkK (ops : Array Oper) (z : Nat) : OT → Array Bool → Bool
  | .nil, listed => Region.ready .any ops listed == []
  | .last i, listed => Region.ready .any ops listed == [i] && (i == z) && decide (i < listed.size) && Region.ready .any ops (listed.setIfInBounds i true) == []
  | .fork i t j s, listed => Region.ready .any ops listed == [i, j] && t.size == s.size && (i != z) && (j != z) && chkK ops z t (listed.setIfInBounds i true) && chkK ops z s (listed.setIfInBounds j true)
  | .one i k l, listed =>
    (match k with
      | 0 => Region.free .any ops listed i && (Region.ready .any ops listed).contains i
      | 1 => Region.free .any ops listed i && (Region.ready .any ops listed).contains i && (decide (ops.size ≤ z) || depOf ops 40 z i)
      | _ => Region.ready .any ops listed == [i]) && (i != z) &&
    chkK ops z l (listed.setIfInBounds i true)

def isZ (z : Nat) : Nat → Bool := fun q => q == z
theorem ws_of_ldk {Q : Exit → Act → World → Prop} {D : World → Prop} {z : Nat} (hsel : Region.noSelect ops = true) (hnd : noDefer ops = true) :
    ∀ (l : OT) (C : World → Prop) (listed : Array Bool) (a : Act) (w : World), chkK ops z l listed = true → Closed ops listed → listed.getD z false = false → (∀ w, C w → D w) → C w → LDK P r ops Q D C l a → WS P r ops Q D (isZ z) l.size listed a w
  | .nil, C, listed, a, w, hc, _, _, hCD, hC, h => by
    simp only [chkK, beq_iff_eq] at hc
    exact ⟨fun _ => hCD w hC, hc, h w hC⟩
  | .last i, C, listed, a, w, hc, hcl, hz, hCD, hC, h => by
    simp only [chkK, Bool.and_eq_true, beq_iff_eq, decide_eq_true_eq] at hc
    obtain ⟨⟨⟨hr, rfl⟩, hlt⟩, hr2⟩ := hc
    simp only [LDK] at h
    refine ⟨fun _ => hCD w hC, fun h0 => (by rw [hr] at h0; cases h0), fun q hq => ?_⟩
    rw [hr] at hq
    obtain rfl : q = i := by simpa using hq
    exact wpOpIn_mono (fun a' w' hq' => ⟨fun ht => absurd (ht q (by simp [isZ])) (by simp [hlt]), hr2, hq'⟩) (h w hC)
  | .fork i t j s, C, listed, a, w, hc, hcl, hz, hCD, hC, h => by
    simp only [chkK, Bool.and_eq_true, beq_iff_eq, bne_iff_ne] at hc
    obtain ⟨⟨⟨⟨⟨hr, hsz⟩, hiz⟩, hjz⟩, hct⟩, hcs⟩ := hc
    simp only [LDK] at h
    refine ⟨fun _ => hCD w hC, fun h0 => (by rw [hr] at h0; cases h0), fun q hq => ?_⟩
    have hq' := hq
    rw [hr] at hq'
    simp only [List.mem_cons, List.not_mem_nil, or_false] at hq'
    rcases hq' with rfl | rfl
    · exact wpOpIn_mono (fun a' w' ⟨C', hsubC, hC', hl⟩ => ws_of_ldk hsel hnd t C' _ a' w' hct (hcl.set hq) (unlisted_set (Ne.symm hiz) hz) hsubC hC' hl) (h.1 w hC)
    · exact wpOpIn_mono (fun a' w' ⟨C', hsubC, hC', hl⟩ => by have := ws_of_ldk hsel hnd s C' _ a' w' hcs (hcl.set hq) (unlisted_set (Ne.symm hjz) hz) hsubC hC' hl; rw [← hsz] at this; exact this) (h.2 w hC)
  | .one i k l, C, listed, a, w, hc, hcl, hz, hCD, hC, h => by
    simp only [LDK] at h
    cases ho : ops[i]? with
    | none => rw [ho] at h; exact h.elim
    | some o =>
      rw [ho] at h
      simp only at h
      have hnd' : ∀ (j : Nat) (o : Oper), ops[j]? = some o → nd o.op = true := fun j o hj => (Array.all_eq_true_iff_forall_mem.1 hnd) o (Array.mem_of_getElem? hj)
      have hun : ∀ q, isZ z q = true → listed.getD q false = false := fun q hq => by unfold isZ at hq; rw [beq_iff_eq] at hq; subst hq; exact hz
      have hti : i ≠ z → isZ z i = false := fun h => beq_eq_false_iff_ne.2 h
      match k, h, hc with
      | 0, ⟨v, hy, hl⟩, hc =>
        simp only [chkK, Bool.and_eq_true, bne_iff_ne] at hc
        obtain ⟨⟨⟨hf, hr⟩, hiz⟩, hc⟩ := hc
        exact WS.first (tl := isZ z) ho (hti hiz) (Region.noSelect_spec hsel) hnd' (D := fun _ => True) (.inl fun _ => trivial) l.size listed a w hcl (hCD w hC) hun (Region.free_spec ho hf) (by simpa using hr) hy
          (ws_of_ldk hsel hnd l C _ _ w hc (hcl.set (by simpa using hr)) (unlisted_set (Ne.symm hiz) hz) hCD hC hl)
      | 1, ⟨v, hy, hl⟩, hc =>
        simp only [chkK, Bool.and_eq_true, bne_iff_ne, Bool.or_eq_true, decide_eq_true_eq] at hc
        obtain ⟨⟨⟨⟨hf, hr⟩, hdep⟩, hiz⟩, hc⟩ := hc
        exact WS.first (tl := isZ z) ho (hti hiz) (Region.noSelect_spec hsel) hnd' (D := D) (.inr ⟨fun _ h => h, fun j oj hj htj => by
            unfold isZ at htj; rw [beq_iff_eq] at htj; subst htj
            rcases hdep with hd | hd
            · have := (Array.getElem?_eq_some_iff.1 hj).1; omega
            · exact .inr hd⟩) l.size listed a w hcl (hCD w hC) hun (Region.free_spec ho hf) (by simpa using hr) hy
          (ws_of_ldk hsel hnd l C _ _ w hc (hcl.set (by simpa using hr)) (unlisted_set (Ne.symm hiz) hz) hCD hC hl)
      | k + 2, h, hc =>
        simp only [chkK, Bool.and_eq_true, beq_iff_eq, bne_iff_ne] at hc
        obtain ⟨⟨hr, hiz⟩, hc⟩ := hc
        refine ⟨fun _ => hCD w hC, fun h0 => (by rw [hr] at h0; cases h0), fun j hj => ?_⟩
        rw [hr] at hj
        obtain rfl : j = i := by simpa using hj
        exact wpOpIn_mono (fun a' w' ⟨C', hsubC, hC', hl⟩ => ws_of_ldk hsel hnd l C' _ a' w' hc (hcl.set (by rw [hr]; simp)) (unlisted_set (Ne.symm hiz) hz) hsubC hC' hl) (h w hC)
end
def OT.z (n : Nat) : OT → Nat
  | .nil => n
  | .one _ _ t => t.z n
  | .fork _ t _ _ => t.z n
  | .last i => i
def chkKAll (ops : Array Oper) (ord : OT) : Bool :=
  Region.noSelect ops && noDefer ops && (ord.size == ops.size) && chkK ops (ord.z ops.size) ord (Array.replicate ops.size false)
section
variable {P : Program} {r : Option Nat} {N : Nat} {Q : Exit → Act → World → Prop} {e : Env} {ds : List Nat} {M : Mem0} {S : Nat → Prop} {w0 : World} {G : World → Prop}
def KD (P : Program) (r : Option Nat) (N : Nat) (ops : Array Oper) (Q : Exit → Act → World → Prop) (MD : Mem0) (GD : World → Prop) (ord : OT) (e : Env) (ds : List Nat) (M : Mem0) (S : Nat → Prop) (w0 : World) (G : World → Prop) : Prop :=
  ∀ a, Fr N e a → Dm ds a → LDK P r ops Q (Cls MD S w0 GD) (Cls M S w0 G) ord a
theorem wpM.keep [GS G] {id : Nat} {ops : Array Oper} (MD : Mem0) (GD : World → Prop) (ord : OT) (hm : P.follows .mixedOrders = true) (hc : chkKAll ops ord = true) (hM : SubM M MD) (hG : ∀ w, G w → GD w) (h : KD P r N ops Q MD GD ord e ds M S w0 G) : wpM P r N (.region id ops true) Q e ds M S w0 G := fun w hw hcg hg a hf hd => by
  simp only [chkKAll, Bool.and_eq_true, beq_iff_eq] at hc
  obtain ⟨⟨⟨h1, h2⟩, h3⟩, h6⟩ := hc
  refine wpIn_mono (wpIn_region_any (Q := Qn Q) hm ?_) (fun x a w hq => ?_)
  · rw [← h3]
    exact WS.any _ _ a _ (ws_of_ldk h1 h2 ord _ _ a _ (h3 ▸ h6) (fun q o hq _ => by rw [Array.getD_eq_getD_getElem?, Array.getElem?_replicate] at hq; split at hq <;> cases hq) (by rw [Array.getD_eq_getD_getElem?, Array.getElem?_replicate]; split <;> rfl) (fun w hw => ⟨hM.mem w hw.1, hw.2.1, hG w hw.2.2⟩)
      ⟨hw.ext (Chg.drew no w), hcg.trans (Chg.drew S w), GS.ext w _ hg (Chg.drew no w)⟩ (h a hf hd))
  · cases x <;> first | exact hq | exact hq.elim
variable {ops : Array Oper} {l : OT} {op : Op} {ty : TypeId} {pos : String} {after : Array Edge} {d : Nat} {v : Value} {i : Nat} {MD : Mem0} {GD : World → Prop}
theorem KD.nil (h : QM N Q .normal e ds M S w0 G) : KD P r N ops Q MD GD .nil e ds M S w0 G := fun a hf hd w hw => h w hw.1 hw.2.1 hw.2.2 a hf hd
theorem KD.val {g : Option (Nat × Bool)} (hi : ops[i]? = some ⟨some d, op, ty, pos, after, g⟩) (hg : Wtd ops e g true) (hv : OpP P op ty e v) (h : KD P r N ops Q MD GD l ((d, v) :: e) ds M S w0 G) (hnd : nd op = true := by rfl) (hd : Nat.blt d N = true := by rfl) :
    KD P r N ops Q MD GD (.one i 0 l) e ds M S w0 G := fun a hf hdm => by
  simp only [LDK, hi]
  exact ⟨v, .inl ⟨hg.wanted hf, hnd, fun w _ => hv w a.eval (fun x u hx => hf.eval hx) _ _ _ _⟩, h _ (hf.put hd v) hdm⟩
theorem KD.rd {g : Option (Nat × Bool)} (hi : ops[i]? = some ⟨some d, op, ty, pos, after, g⟩) (hg : Wtd ops e g true) (hv : ∀ w, Mem w MD → OpV P op ty e w v w) (h : KD P r N ops Q MD GD l ((d, v) :: e) ds M S w0 G) (hnd : nd op = true := by rfl) (hd : Nat.blt d N = true := by rfl) :
    KD P r N ops Q MD GD (.one i 1 l) e ds M S w0 G := fun a hf hdm => by
  simp only [LDK, hi]
  exact ⟨v, .inl ⟨hg.wanted hf, hnd, fun w hw => hv w hw.1 a.eval (fun x u hx => hf.eval hx) _ _ _ _⟩, h _ (hf.put hd v) hdm⟩
theorem KD.rdC {g : Option (Nat × Bool)} (hi : ops[i]? = some ⟨some d, op, ty, pos, after, g⟩) (hg : Wtd ops e g true) (hv : ∀ w, Mem w MD → Chg S w0 w → GD w → OpV P op ty e w v w) (h : KD P r N ops Q MD GD l ((d, v) :: e) ds M S w0 G) (hnd : nd op = true := by rfl) (hd : Nat.blt d N = true := by rfl) :
    KD P r N ops Q MD GD (.one i 1 l) e ds M S w0 G := fun a hf hdm => by
  simp only [LDK, hi]
  exact ⟨v, .inl ⟨hg.wanted hf, hnd, fun w hw => hv w hw.1 hw.2.1 hw.2.2 a.eval (fun x u hx => hf.eval hx) _ _ _ _⟩, h _ (hf.put hd v) hdm⟩
theorem KD.dropU {g : Option (Nat × Bool)} {k : Nat} (hk : Nat.blt k 2 = true) (hi : ops[i]? = some ⟨some d, op, ty, pos, after, g⟩) (hg : Wtd ops e g false) (h : KD P r N ops Q MD GD l ((d, undef) :: e) ds M S w0 G) (hd : Nat.blt d N = true := by rfl) :
    KD P r N ops Q MD GD (.one i k l) e ds M S w0 G := fun a hf hdm => by
  have hY : ∀ D, YA P ops D ⟨some d, op, ty, pos, after, g⟩ undef a := fun D => .inr ⟨hg.wanted (o := ⟨some d, op, ty, pos, after, g⟩) hf, rfl⟩
  match k, hk with
  | 0, _ => simp only [LDK, hi]; exact ⟨undef, hY _, h _ (hf.put hd undef) hdm⟩
  | 1, _ => simp only [LDK, hi]; exact ⟨undef, hY _, h _ (hf.put hd undef) hdm⟩
theorem KD.drop {g : Option (Nat × Bool)} {k : Nat} (hk : Nat.blt k 2 = true) (hi : ops[i]? = some ⟨some d, op, ty, pos, after, g⟩) (hg : Wtd ops e g false) (h : KD P r N ops Q MD GD l e ds M S w0 G) (hd : Nat.blt d N = true := by rfl) (hfresh : look e d = none := by rfl) :
    KD P r N ops Q MD GD (.one i k l) e ds M S w0 G := .dropU hk hi hg (fun a hf hdm => h a ⟨hf.1, fun t u hu => hf.2 t u (by
      rw [look_cons]
      by_cases hdt : d = t
      · subst hdt; rw [hfresh] at hu; cases hu
      · rw [if_neg hdt]; exact hu)⟩ hdm) hd
theorem KD.splitD {t : Nat} {p : Prop} [Decidable p] (ht : look e t = some (.bool (decide p))) (h1 : p → KD P r N ops Q MD GD l ((t, .bool true) :: e) ds M S w0 G) (h2 : ¬ p → KD P r N ops Q MD GD l ((t, .bool false) :: e) ds M S w0 G) :
    KD P r N ops Q MD GD l e ds M S w0 G := fun a hf hdm => by
  by_cases hp : p
  · exact h1 hp a (hf.know ht (decide_eq_true hp)) hdm
  · exact h2 hp a (hf.know ht (decide_eq_false hp)) hdm
theorem KD.splitB {t : Nat} {b : Bool} (ht : look e t = some (.bool b)) (h1 : b = true → KD P r N ops Q MD GD l ((t, .bool true) :: e) ds M S w0 G) (h2 : b = false → KD P r N ops Q MD GD l ((t, .bool false) :: e) ds M S w0 G) :
    KD P r N ops Q MD GD l e ds M S w0 G := fun a hf hdm => by
  cases hb : b with
  | true => exact h1 hb a (hf.know ht hb) hdm
  | false => exact h2 hb a (hf.know ht hb) hdm
theorem wpIn_mono2 {F : Fence} {n : Nat} {o : Oper} {a : Act} {w : World} {K K' : Act → World → Prop} {Q Q' : Exit → Act → World → Prop} (h : ∀ a w, K a w → K' a w) (hQ : ∀ c a w, Q (.panic c) a w → Q' (.panic c) a w) (hL : LetsOut Q → LetsOut Q')
    (hh : o.wpIn F n P a w K Q) : o.wpIn F n P a w K' Q' := by
  unfold Oper.wpIn at *
  refine ⟨hh.1, ?_⟩
  have hh := hh.2
  generalize (o.semAt F.round a.eval).run P w = r at *
  cases r with
  | ok x w' =>
    cases x <;> simp only [Oper.uponIn] at hh ⊢ <;>
      first
        | exact h _ _ hh
        | exact ⟨hh.1, CallsIn.mono hh.2 (fun e w'' he => by cases e <;> first | exact h _ _ he | exact hQ _ _ _ he | exact hL he)⟩
        | exact ⟨hh.1, RowsIn.mono hh.2 (fun _ _ he => h _ _ he)⟩
        | exact ⟨hh.1, RoundIn.mono hh.2 (fun e w'' he => by cases e <;> first | exact h _ _ he | exact hQ _ _ _ he | exact hL he)⟩
  | halt x w' => cases x <;> simp only [Oper.uponIn] at hh ⊢ <;> first | exact hQ _ _ _ hh | exact hh
/-- What stands alone: one operation, as ever; what is kept must hold behind it. -/
def KQ (P : Program) (r : Option Nat) (N : Nat) (ops : Array Oper) (Q : Exit → Act → World → Prop) (D : World → Prop) (l : OT) : Exit → Act → World → Prop := fun x a w => x = .normal ∧ ∃ C' : World → Prop, (∀ w, C' w → D w) ∧ C' w ∧ LDK P r ops Q D C' l a
theorem KD.one {o : Oper} {k : Nat} (ho : ops[i]? = some o) (h : LM P r N ops (KQ P r N ops Q (Cls MD S w0 GD) l) [o] e ds M S w0 G) : KD P r N ops Q MD GD (.one i (k + 2) l) e ds M S w0 G := fun a hf hdm => by
  simp only [LDK, ho]
  intro w hw
  have h3 := h w hw.1 hw.2.1 hw.2.2 a hf hdm
  unfold wpOpIn
  rw [ho]
  unfold wpListIn at h3
  simp only
  split
  · rename_i hq; rw [if_pos hq] at h3
    exact wpIn_mono2 (fun a w h => h.2) (fun c a w h => by cases h.1) (fun ⟨a, w, h⟩ => by cases h.1) h3
  · rename_i hq; rw [if_neg hq] at h3
    exact ⟨fun _ _ => trivial, h3.2.2⟩
theorem KD.last {o : Oper} (ho : ops[i]? = some o) (h : LM P r N ops (Qn Q) [o] e ds M S w0 G) : KD P r N ops Q MD GD (.last i) e ds M S w0 G := fun a hf hdm => by
  simp only [LDK]
  intro w hw
  have h3 := h w hw.1 hw.2.1 hw.2.2 a hf hdm
  unfold wpOpIn
  rw [ho]
  unfold wpListIn at h3
  simp only
  split
  · rename_i hq; rw [if_pos hq] at h3; exact Oper.wpIn_mono (fun a w h => h) h3
  · rename_i hq; rw [if_neg hq] at h3; exact h3
theorem KD.fork {o o2 : Oper} {j : Nat} {s : OT} (ho : ops[i]? = some o) (ho2 : ops[j]? = some o2) (h : LM P r N ops (KQ P r N ops Q (Cls MD S w0 GD) l) [o] e ds M S w0 G) (h2 : LM P r N ops (KQ P r N ops Q (Cls MD S w0 GD) s) [o2] e ds M S w0 G) : KD P r N ops Q MD GD (.fork i l j s) e ds M S w0 G := fun a hf hdm => by
  have k1 := KD.one (k := 0) ho h a hf hdm
  have k2 := KD.one (k := 0) ho2 h2 a hf hdm
  simp only [LDK, ho] at k1
  simp only [LDK, ho2] at k2
  simp only [LDK]
  exact ⟨k1, k2⟩
theorem QM.one (hM : SubM M MD) (hG : ∀ w, G w → GD w) (h : KD P r N ops Q MD GD l e ds M S w0 G) : QM N (KQ P r N ops Q (Cls MD S w0 GD) l) .normal e ds M S w0 G := fun w hm hc hg a hf hd =>
  ⟨rfl, Cls M S w0 G, fun w hw => ⟨hM.mem w hw.1, hw.2.1, hG w hw.2.2⟩, ⟨hm, hc, hg⟩, h a hf hd⟩
end
end Go.Eng
