/- Red and black trees: taking out keeps what a tree says; no program text in sight. No condition. -/
import Derived.Test.YtmkblojlimhkiaaM2
import Derived.Test.YtmkblojlimhkiaaRows
set_option linter.unusedVariables false
set_option linter.unusedSimpArgs false
namespace Go.Eng
open Go Go.RowKit
variable {I : List Nat}
theorem okc_of : ∀ (c : Cx) (t : Tr) (H : Nat), Ok (plug c t) H → (plug c t).red = false → (∃ g, Ok t g ∧ Okc c g) ∧ (t.red = true → c.red = false ∧ c ≠ .top) := by
  intro c
  induction c with
  | top => intro t H h1 h2; exact ⟨⟨H, h1, trivial⟩, fun q => by rw [show t.red = false from h2] at q; cases q⟩
  | dn s i e col sib k ih =>
    intro t H h1 h2
    obtain ⟨⟨g, g1, g2⟩, g3⟩ := ih (mkR s i e col t sib) H h1 h2
    cases col with
    | true =>
      have := okR.1 g1
      obtain ⟨r1, r2⟩ := g3 (mkR_red ..)
      refine ⟨⟨g, this.1, ?_⟩, fun q => by rw [this.2.2.1] at q; cases q⟩
      simp only [Okc, if_true]; exact ⟨this.2.1, this.2.2.2, r1, r2, g2⟩
    | false =>
      obtain ⟨g', rfl, g5, g6⟩ := okB0 g1
      refine ⟨⟨g', g5, ?_⟩, fun _ => ⟨rfl, fun q => by cases q⟩⟩
      simp only [Okc, Bool.false_eq_true, if_false]; exact ⟨g6, g2⟩
def cutF (f : Nat) (S : Ns) (i : Nat) : Option Ns :=
  (if (gN S.1 i).red = true then some (swpF S (gN S.1 i).up i (if (gN S.1 i).l = 0 then (gN S.1 i).r else (gN S.1 i).l))
   else shrF f (swpF S (gN S.1 i).up i (if (gN S.1 i).l = 0 then (gN S.1 i).r else (gN S.1 i).l)) (if (gN S.1 i).l = 0 then (gN S.1 i).r else (gN S.1 i).l)).map (fun S2 => (S2.1.set 0 default, S2.2))
theorem cut_wf {n f : Nat} {S S' : Ns} {i : Nat} (h : cutF f S i = some S') (hw : WfS S n) (hi : i < n) : WfS S' n := by
  have hc : (if (gN S.1 i).l = 0 then (gN S.1 i).r else (gN S.1 i).l) < n := by split; exact r_wf hw i; exact l_wf hw i
  have h1 := swp_wf hw (up := (gN S.1 i).up) (was := i) (up_wf hw i) hc
  have fin : ∀ S2 : Ns, WfS S2 n → WfS (S2.1.set 0 default, S2.2) n := fun S2 w => by
    have h0 : 0 < S2.1.length := by rw [w.len]; omega
    exact ⟨wf_set w.wf h0 h0 h0, by rw [List.length_set]; exact w.len, w.rt⟩
  unfold cutF at h
  rw [Option.map_eq_some_iff] at h
  obtain ⟨S2, h2, rfl⟩ := h
  refine fin S2 ?_
  split at h2
  · cases h2; exact h1
  · exact shr_wf f _ _ _ h2 h1
def Cut (J : List Nat) (S S' : Ns) (l : List (Nat × Kv)) : Prop := ∃ t', Ly J S' t' ∧ t'.ord = l ∧ (∃ H, Ok t' H) ∧ t'.red = false ∧ S'.1.length = S.1.length ∧ S'.1[0]? = some default ∧ ∀ j, j ≠ 0 → j ∉ J → S'.1[j]? = S.1[j]?
theorem cut_ly {S : Ns} {c : Cx} {i : Nat} {e : Kv} {col : Bool} {l r : Tr} (hL : Ly I S (plug c (.nd i e col l r))) (hlr : l = .lf ∨ r = .lf) (hz : S.1[0]? = some default) {H : Nat} (hok : Ok (plug c (.nd i e col l r)) H) (hb : (plug c (.nd i e col l r)).red = false)
    {f : Nat} (hf : c.len + 3 ≤ f) : ∃ S', cutF f S i = some S' ∧ Cut (c.ixs ++ (l.ixs ++ r.ixs)) S S' (c.lo ++ (l.ord ++ r.ord) ++ c.hi) := by
  obtain ⟨N, root⟩ := S
  have hi0 : i ≠ 0 := nz_ix (s := true) (k := c) (a := l) (b := r) hL
  have hg : gN N i = mkN true e l.ix r.ix c.ix col := gN_of ((Has.mk (s := true)).1 (ly_split (t := mkR true i e col l r) hL).2.1).1
  obtain ⟨hk, ht, nk, nt, nkt, zk, zt⟩ := ly_split hL
  simp only [Tr.ents, Has.cons, Has.app] at ht
  -- the one below
  obtain ⟨ch, hch, hchr, hcho, hchi, hchn, hchOk⟩ : ∃ ch : Tr, (if (gN N i).l = 0 then (gN N i).r else (gN N i).l) = ch.ix ∧ Has N (ch.ents i) ∧ l.ord ++ r.ord = ch.ord ∧ l.ixs ++ r.ixs = ch.ixs ∧ ch.ixs.Nodup ∧ (∀ g, Ok l g → Ok r g → Ok ch g ∧ (l.red = false → r.red = false → ch.red = false)) := by
    have e1 : (gN N i).l = l.ix := by rw [hg]; rfl
    have e2 : (gN N i).r = r.ix := by rw [hg]; rfl
    rw [e1, e2]
    simp only [Tr.ixs, List.nodup_cons] at nt
    rcases hlr with rfl | rfl
    · exact ⟨r, if_pos rfl, ht.2.2, rfl, rfl, (nodup_app nt.2).2.1, fun g _ h => ⟨h, fun _ q => q⟩⟩
    · refine ⟨l, ?_, ht.2.1, by simp [Tr.ord], by simp [Tr.ixs], (nodup_app nt.2).1, fun g h _ => ⟨h, fun q _ => q⟩⟩
      by_cases q : l.ix = 0
      · rw [if_pos q, q]; rfl
      · rw [if_neg q]
  have hup : (gN N i).up = c.ix := by rw [hg]; rfl
  have hcol : (gN N i).red = col := by rw [hg]; rfl
  have hit : ∀ x ∈ ch.ixs, x ∈ (Tr.nd i e col l r).ixs := fun x hx => by simp only [Tr.ixs]; rw [hchi]; exact List.mem_cons_of_mem _ hx
  have hichn : i ∉ ch.ixs := fun q => by simp only [Tr.ixs, List.nodup_cons] at nt; rw [hchi] at nt; exact nt.1 q
  have zch : 0 ∉ ch.ixs := fun q => zt (hit 0 q)
  have chk : ∀ x, x ∈ c.ixs → x ∈ ch.ixs → False := fun x a b => nkt x a (hit x b)
  have hchix : ch.ix ∉ c.ixs := fun q => by
    by_cases z : ch.ix = 0
    · rw [z] at q; exact zk q
    · exact chk _ q (Tr.ix_mem z)
  have hk0 : Has N (c.ents i) := hk
  obtain ⟨hk1, f1, at1, r1, len1⟩ := swp_cx (N := N) (root := root) (is := ch.ix) hk0 nk zk hi0 (fun q => nkt i q (List.mem_cons_self ..)) hchix
  have hJ : 0 ∉ c.ixs ++ (l.ixs ++ r.ixs) := by
    rw [hchi, List.mem_append]; rintro (q | q)
    · exact zk q
    · exact zch q
  have hcix : ∀ x, x ∈ ch.ixs → x ≠ c.ix := fun x hx q => by
    by_cases z : c.ix = 0
    · exact zch (by rw [← z, ← q]; exact hx)
    · exact chk c.ix (Cx.ix_mem z) (by rw [← q]; exact hx)
  generalize hS1 : swpF (N, root) c.ix i ch.ix = S1 at *
  have hL1 : Ly (c.ixs ++ (l.ixs ++ r.ixs)) S1 (plug c ch) := by
    refine ly_join hk1 ?_ ?_ nk hchn chk (fun x hx => List.mem_append_left _ hx) (fun x hx => by rw [hchi]; exact List.mem_append_right _ hx) hJ
    · cases ch with
      | lf => exact Has.nil _
      | nd j je jc jl jr =>
        simp only [Tr.ents, Has.cons, Has.app] at hchr ⊢
        obtain ⟨q1, q2, q3⟩ := hchr
        simp only [Tr.ixs, List.nodup_cons, List.mem_append] at hchn
        refine ⟨?_, q2.frame (ents_ixs _ _) (fun x hx => f1 x (fun w => hchn.1 (.inl (by rw [← show x = j from w]; exact hx))) (hcix x (by simp only [Tr.ixs, List.mem_cons, List.mem_append]; exact .inr (.inl hx)))), q3.frame (ents_ixs _ _) (fun x hx => f1 x (fun w => hchn.1 (.inr (by rw [← show x = j from w]; exact hx))) (hcix x (by simp only [Tr.ixs, List.mem_cons, List.mem_append]; exact .inr (.inr hx))))⟩
        rw [show (Tr.nd j je jc jl jr).ix = j from rfl] at at1
        rw [at1, q1]; rfl
    · rw [r1]; exact root_swap zk hL.root
  obtain ⟨⟨g, g1, g2⟩, g3⟩ := okc_of c (.nd i e col l r) H hok hb
  have hord : (plug c ch).ord = c.lo ++ (l.ord ++ r.ord) ++ c.hi := by rw [plug_ord, hcho]
  have h01 : ∃ x, S1.1[0]? = some x ∧ x.red = false := by
    by_cases z : ch.ix = 0
    · rw [z] at at1; rw [at1, hz]; exact ⟨_, rfl, rfl⟩
    · by_cases zc : c.ix = 0
      · have hc0 := Cx.ix_zero zk zc
        subst hc0
        rw [← hS1]
        refine ⟨default, ?_, rfl⟩
        show (nU N ch.ix 0)[0]? = _
        rw [nU_ne z]; exact hz
      · rw [f1 0 (fun q => z q.symm) (fun q => zc q.symm), hz]; exact ⟨_, rfl, rfl⟩
  have hz1 : Z0 (c.ixs ++ (l.ixs ++ r.ixs)) S1.1 := ⟨hJ, h01⟩
  have fin : ∀ S2 : Ns, Grown (c.ixs ++ (l.ixs ++ r.ixs)) S1 S2 (c.lo ++ (l.ord ++ r.ord) ++ c.hi) → Cut (c.ixs ++ (l.ixs ++ r.ixs)) (N, root) (S2.1.set 0 default, S2.2) (c.lo ++ (l.ord ++ r.ord) ++ c.hi) := by
    rintro S2 ⟨t', a1, a2, a3, a4, a5, a6⟩
    have h0l : 0 < S2.1.length := by
      rw [a5, len1]; obtain ⟨h, _⟩ := List.getElem?_eq_some_iff.1 hz; exact h
    have hset : ∀ j, j ≠ 0 → (S2.1.set 0 default)[j]? = S2.1[j]? := fun j hj => by rw [List.getElem?_set, if_neg (fun q => hj q.symm)]
    refine ⟨t', ⟨a1.has.frame (ents_ixs _ _) (fun x hx => hset x (fun q => a1.nz (a1.sub _ (q ▸ hx)))), a1.root, a1.nd, a1.sub, a1.nz⟩, a2, a3, a4, ?_, ?_, fun j hj hJ' => ?_⟩
    · show (S2.1.set 0 default).length = N.length
      rw [List.length_set, a5, len1]
    · show (S2.1.set 0 default)[0]? = _
      rw [List.getElem?_set, if_pos rfl, if_pos h0l]
    · show (S2.1.set 0 default)[j]? = N[j]?
      rw [hset j hj, a6 j hJ']
      refine f1 j (fun q => ?_) (fun q => ?_)
      · have : ch.ix ≠ 0 := by rw [← q]; exact hj
        exact hJ' (List.mem_append_right _ (by rw [hchi, q]; exact Tr.ix_mem this))
      · have : c.ix ≠ 0 := by rw [← q]; exact hj
        exact hJ' (List.mem_append_left _ (by rw [q]; exact Cx.ix_mem this))
  unfold cutF
  simp only [hcol, hup, hch, hS1]
  cases col with
  | true =>
    rw [if_pos rfl]
    have hx := okR.1 (show Ok (mkR true i e true l r) g from g1)
    have hy := hchOk g hx.1 hx.2.1
    obtain ⟨o1, o2⟩ := okc_plug g2 hy.1 (fun q => by rw [hy.2 hx.2.2.1 hx.2.2.2] at q; cases q)
    exact ⟨_, rfl, fin S1 ⟨_, hL1, hord, o1, o2, rfl, FrC.refl _⟩⟩
  | false =>
    rw [if_neg (by simp)]
    obtain ⟨g', rfl, hx1, hx2⟩ := okB0 (show Ok (mkR true i e false l r) g from g1)
    have hy := hchOk g' hx1 hx2
    have hI : ShI ch g' := by
      cases q : ch.red with
      | false => exact .inr ⟨q, hy.1⟩
      | true =>
        refine .inl ⟨q, ?_⟩
        obtain ⟨j, je, a, b, rfl⟩ := red_nd q true
        have := okR.1 hy.1
        exact (okB (s := true)).2 ⟨this.1, this.2.1⟩
    obtain ⟨S', e1, e2⟩ := shr_ly f S1 c ch g' hL1 hz1 hI g2 (fun z zc => by
      rw [z] at at1
      unfold gN; rw [List.getD_eq_getElem?_getD, at1, hz]; rfl) (by split <;> omega)
    rw [hord] at e2
    exact ⟨_, by rw [e1]; rfl, fin S' e2⟩
theorem left_split : ∀ (t : Tr), t ≠ .lf → ∃ (s : Nat) (se : Kv) (sc : Bool) (rr : Tr) (g : Cx → Cx), (∀ c, plug c t = plug (g c) (.nd s se sc .lf rr) ∧ (g c).lo = c.lo ∧ rr.ord ++ (g c).hi = t.ord.tail ++ c.hi) ∧ t.ord = (s, se) :: t.ord.tail
  | .lf, h => absurd rfl h
  | .nd i e col .lf r, _ => ⟨i, e, col, r, id, fun c => ⟨rfl, rfl, rfl⟩, rfl⟩
  | .nd i e col (.nd j je jc jl jr) r, _ => by
    obtain ⟨s, se, sc, rr, g, h1, h2⟩ := left_split (.nd j je jc jl jr) (fun q => by cases q)
    refine ⟨s, se, sc, rr, fun c => g (.dn true i e col r c), fun c => ?_, ?_⟩
    · obtain ⟨a, b, d⟩ := h1 (.dn true i e col r c)
      refine ⟨a, b, ?_⟩
      rw [d]
      simp only [Cx.hi, if_true]
      rw [show (Tr.nd i e col (Tr.nd j je jc jl jr) r).ord = (Tr.nd j je jc jl jr).ord ++ (i, e) :: r.ord from rfl, h2]
      simp
    · rw [show (Tr.nd i e col (Tr.nd j je jc jl jr) r).ord = (Tr.nd j je jc jl jr).ord ++ (i, e) :: r.ord from rfl, h2]
      simp
theorem rekey {S : Ns} {c : Cx} {i : Nat} {e : Kv} {col : Bool} {l r : Tr} (h : Ly I S (plug c (.nd i e col l r))) (e' : Kv) : Ly I (S.1.set i { gN S.1 i with e := e' }, S.2) (plug c (.nd i e' col l r)) := by
  obtain ⟨hk, ht, nk, nt, nkt, zk, zt⟩ := ly_split h
  have mi : i ∈ (Tr.nd i e col l r).ixs := List.mem_cons_self ..
  have hne : ∀ j, j ≠ i → (S.1.set i { gN S.1 i with e := e' })[j]? = S.1[j]? := fun j hj => by rw [List.getElem?_set, if_neg (fun q => hj q.symm)]
  have nt1 := nt
  simp only [Tr.ixs, List.nodup_cons, List.mem_append] at nt1
  simp only [Tr.ents, Has.cons, Has.app] at ht
  obtain ⟨h1, h2, h3⟩ := ht
  refine ly_join ?_ ?_ ?_ nk nt nkt (ly_sub h).1 (ly_sub h).2 h.nz
  · exact hk.frame (cents_ixs _ _) (fun x hx => hne x (fun q => nkt x hx (by rw [q]; exact mi)))
  · simp only [Tr.ents, Has.cons, Has.app]
    refine ⟨?_, h2.frame (ents_ixs _ _) (fun x hx => hne x (fun q => nt1.1 (.inl (by rw [← q]; exact hx)))), h3.frame (ents_ixs _ _) (fun x hx => hne x (fun q => nt1.1 (.inr (by rw [← q]; exact hx))))⟩
    have := set_at S.1 i (fun x => { x with e := e' }) i
    rw [if_pos rfl, h1] at this
    exact this
  · show S.2 = _
    rw [h.root]; exact plug_ix_same c rfl
def vicF (S : Ns) (i s : Nat) : Ns × Nat := if (gN S.1 i).l ≠ 0 ∧ (gN S.1 i).r ≠ 0 then ((S.1.set i { gN S.1 i with e := (gN S.1 s).e }, S.2), s) else (S, i)
def fstF (N : List Nd) (first i s : Nat) : Nat := if (gN N i).l ≠ 0 ∧ (gN N i).r ≠ 0 then (if (if first = i then s else first) = s then i else (if first = i then s else first)) else (if first = i then s else first)
theorem vic_wf {S : Ns} {n i s : Nat} (h : WfS S n) (hi : i < n) (hs : s < n) : WfS (vicF S i s).1 n ∧ (vicF S i s).2 < n := by
  unfold vicF; split
  · exact ⟨⟨wf_set h.wf (h.wf i).1 (h.wf i).2.1 (h.wf i).2.2, by rw [List.length_set]; exact h.len, h.rt⟩, hs⟩
  · exact ⟨h, hi⟩
theorem del_ly {s : RbS} {L : List Kv} {k : Kv} (h : RbI s L) {t : Tr} {fl : List Nat} {c : Cx} {i : Nat} {e : Kv} {col : Bool} {l r : Tr} (hT : t = plug c (.nd i e col l r)) (hke : yEq k e)
    (hL : Ly t.ixs (s.N, s.root) t) (ho : t.ord.map (·.2) = L) (hok : ∃ H, Ok t H) (hb : t.red = false) (hfst : s.first = hdI t.ord) (hF : FrL s.N s.free fl) (hfn : fl.Nodup) (hfa : ∀ j ∈ fl, j ∉ t.ixs) (hlen : s.N.length = 1 + t.size + fl.length)
    {f : Nat} (hf : s.N.length + 3 ≤ f) : ∃ nx, nxtF s.N f i = some nx ∧ nx < s.N.length ∧ (nx = 0 → ¬ ((gN s.N i).l ≠ 0 ∧ (gN s.N i).r ≠ 0)) ∧
      ∃ S', cutF f (vicF (s.N, s.root) i nx).1 (vicF (s.N, s.root) i nx).2 = some S' ∧ (vicF (s.N, s.root) i nx).2 < s.N.length ∧
      RbI ⟨s.most, S'.1.set (vicF (s.N, s.root) i nx).2 { (default : Nd) with l := s.free }, S'.2, fstF s.N s.first i nx, (vicF (s.N, s.root) i nx).2, s.n - 1⟩ (delK L k) := by
  have hL' := hL
  have ho' := ho
  rw [hT] at hL'
  have hmi : i ∈ t.ixs := by rw [hT, (plug_ixs c _).mem_iff]; exact List.mem_append_right _ (List.mem_cons_self ..)
  have hilt := hL.lt hmi
  have hsz : t.size ≤ s.N.length := by omega
  have hnx := nxt_ly (f := f) hL' (by rw [← hT]; omega)
  have hg : gN s.N i = mkN true e l.ix r.ix c.ix col := gN_of ((Has.mk (s := true)).1 (ly_split (t := mkR true i e col l r) hL').2.1).1
  have hgl : (gN s.N i).l = l.ix := by rw [hg]; rfl
  have hgr : (gN s.N i).r = r.ix := by rw [hg]; rfl
  have hordT : t.ord = (c.lo ++ l.ord) ++ (i, e) :: (r.ord ++ c.hi) := by rw [hT, plug_ord]; simp [Tr.ord]
  have hLs : L = (c.lo ++ l.ord).map (·.2) ++ e :: (r.ord ++ c.hi).map (·.2) := by rw [← ho, hordT, List.map_append, List.map_cons]
  have hdel : delK L k = (c.lo ++ l.ord).map (·.2) ++ (r.ord ++ c.hi).map (·.2) := by
    have hs := h.srt; rw [hLs] at hs
    rw [hLs]; exact delK_split hs hke
  have hsrt : Srt (delK L k) := by
    have hs := h.srt; rw [hLs] at hs
    rw [hdel]; exact srt_del hs
  have hLlen : L.length = t.size := by rw [← ho, List.length_map, Tr.size_ord]
  have hDlen : (delK L k).length + 1 = L.length := by rw [hdel, hLs]; simp; omega
  have hnd := ord_nodup hL.nd
  rw [hordT, List.map_append, List.map_cons] at hnd
  have hndA : ∀ p ∈ c.lo ++ l.ord, p.1 ≠ i := fun p hp q => by
    rw [List.nodup_append] at hnd
    exact hnd.2.2 p.1 (List.mem_map_of_mem hp) i (List.mem_cons_self ..) q
  have hndB : ∀ p ∈ r.ord ++ c.hi, p.1 ≠ i := fun p hp q => by
    rw [List.nodup_append, List.nodup_cons] at hnd
    exact hnd.2.1.1 (List.mem_map.2 ⟨p, hp, q⟩)
  have hndAB : ∀ p ∈ c.lo ++ l.ord, ∀ q ∈ r.ord ++ c.hi, p.1 ≠ q.1 := fun p hp q hq w => by
    rw [List.nodup_append] at hnd
    exact hnd.2.2 p.1 (List.mem_map_of_mem hp) q.1 (List.mem_cons_of_mem _ (List.mem_map_of_mem hq)) w
  have hmem : ∀ p ∈ t.ord, p.1 ∈ t.ixs := fun p hp => (ord_ixs t p.1).1 (List.mem_map_of_mem hp)
  have hpos : 0 < s.N.length := by have := h.wf.rt; omega
  obtain ⟨H, hok⟩ := hok
  have hclen : ∀ (c : Cx) (t2 : Tr), plug c t2 = t → c.len + 3 ≤ f := fun c t2 q => by
    have h1 := Cx.len_ixs c
    have : c.ixs.length ≤ t.size := by rw [← q, Tr.size_plug]; omega
    omega
  -- the end, alike for both
  have fin : ∀ (S0 S' : Ns) (v : Nat) (J : List Nat) (l2 : List (Nat × Kv)) (first' : Nat), Cut J S0 S' l2 → cutF f S0 v = some S' → WfS S0 s.N.length → (∀ j, j ∉ t.ixs → S0.1[j]? = s.N[j]?) → v ∈ t.ixs → v ∉ J → (∀ j ∈ J, j ∈ t.ixs) → l2.map (·.2) = delK L k → first' = hdI l2 →
      RbI ⟨s.most, S'.1.set v { (default : Nd) with l := s.free }, S'.2, first', v, s.n - 1⟩ (delK L k) := by
    intro S0 S' v J l2 first' hC hcut hw0 hsame hv hvJ hJt hl2 hf'
    obtain ⟨t', a1, a2, a3, a4, a5, a6, a7⟩ := hC
    have hw' := cut_wf hcut hw0 (by have := hL.lt hv; exact this)
    have hv0 : v ≠ 0 := fun q => hL.nz (by rw [← q]; exact hv)
    have hvlt : v < S'.1.length := by rw [hw'.len]; exact hL.lt hv
    have hset : ∀ j, j ≠ v → (S'.1.set v { (default : Nd) with l := s.free })[j]? = S'.1[j]? := fun j hj => by rw [List.getElem?_set, if_neg (fun q => hj q.symm)]
    have hLy : Ly J (S'.1.set v { (default : Nd) with l := s.free }, S'.2) t' := ⟨a1.has.frame (ents_ixs _ _) (fun x hx => hset x (fun q => hvJ (by rw [← q]; exact a1.sub x hx))), a1.root, a1.nd, a1.sub, a1.nz⟩
    have hfree : s.free < s.N.length := by
      cases fl with
      | nil => rw [show s.free = 0 from hF]; exact hpos
      | cons j fl => rw [hF.1]; exact hF.2.2.1
    have hFr : ∀ j ∈ fl, S'.1[j]? = s.N[j]? := fun j hj => by
      have hj' := hfa j hj
      have hj0 : j ≠ 0 := by
        have hz : ∀ {fl : List Nat} {i : Nat}, FrL s.N i fl → 0 ∉ fl := by
          intro fl
          induction fl with
          | nil => intro i _ q; cases q
          | cons j fl ih => intro i ⟨_, h2, _, h4⟩ q; rcases List.mem_cons.1 q with q | q; exact h2 q.symm; exact ih h4 q
        exact fun q => hz hF (by rw [← q]; exact hj)
      rw [a7 j hj0 (fun q => hj' (hJt j q)), hsame j hj']
    refine ⟨⟨t', v :: fl, hLy.own, by rw [a2]; exact hl2, a3, a4, by rw [a2]; exact hf', ?_, ?_, ?_, ?_⟩, hsrt, ?_, ?_, ?_, ?_, ?_⟩
    · refine ⟨rfl, hv0, by rw [List.length_set]; exact hvlt, ?_⟩
      have e : gN (S'.1.set v { (default : Nd) with l := s.free }) v = { (default : Nd) with l := s.free } := by rw [gN_set, if_pos ⟨rfl, hvlt⟩]
      show FrL _ (gN (S'.1.set v { (default : Nd) with l := s.free }) v).l fl
      rw [e]
      exact hF.same (fun j hj => by rw [hset j (fun q => hfa j hj (by rw [q]; exact hv)), hFr j hj])
    · rw [List.nodup_cons]; exact ⟨fun q => hfa v q hv, hfn⟩
    · intro j hj
      rcases List.mem_cons.1 hj with rfl | hj
      · exact fun q => hvJ (a1.sub _ q)
      · exact fun q => hfa j hj (hJt j (a1.sub _ q))
    · show (S'.1.set v _).length = _
      rw [List.length_set, hw'.len, hlen, List.length_cons]
      have : t'.size = (delK L k).length := by rw [← Tr.size_ord, a2, ← hl2, List.length_map]
      omega
    · show (S'.1.set v _)[0]? = _
      rw [hset 0 (fun q => hv0 q.symm)]; exact a6
    · show WfS _ _
      have hl2 : (S'.1.set v { (default : Nd) with l := s.free }).length = S'.1.length := List.length_set
      rw [hl2]
      refine ⟨wf_set hw'.wf ?_ ?_ ?_, hl2, by have := hw'.rt; rw [hw'.len]; exact this⟩
      · show s.free < _; rw [hw'.len]; exact hfree
      · show 0 < _; omega
      · show 0 < _; omega
    · show s.n - 1 = _
      rw [h.n]; omega
    · show (delK L k).length ≤ s.most
      have := h.most; omega
    · show (S'.1.set v _).length ≤ s.most + 1
      rw [List.length_set, hw'.len]; exact h.len
  have hhd : ∀ (A B : List (Nat × Kv)), (∀ p ∈ A, p.1 ≠ i) → hdI (A ++ (i, e) :: B) = if A = [] then i else hdI A := fun A B hA => by
    cases A with
    | nil => rfl
    | cons p A => rw [if_neg (by simp)]; rfl
  have hfirst : s.first = if c.lo ++ l.ord = [] then i else hdI (c.lo ++ l.ord) := by rw [hfst, hordT]; exact hhd _ _ hndA
  have hfirst_ne : c.lo ++ l.ord ≠ [] → s.first ≠ i ∧ s.first = hdI (c.lo ++ l.ord) := fun q => by
    rw [hfirst, if_neg q]
    refine ⟨?_, rfl⟩
    cases hA : c.lo ++ l.ord with
    | nil => exact absurd hA q
    | cons p A => exact hndA p (by rw [hA]; exact List.mem_cons_self ..)
  refine ⟨_, hnx, ?_, ?_, ?_⟩
  · cases hB : r.ord ++ c.hi with
    | nil => exact hpos
    | cons p B => exact hL.lt (hmem p (by rw [hordT, hB]; simp))
  · intro q
    rw [hgl, hgr]
    rintro ⟨_, q2⟩
    cases r with
    | lf => exact q2 rfl
    | nd j je jc jl jr =>
      obtain ⟨s2, se, sc, rr, g, _, h2⟩ := left_split (.nd j je jc jl jr) (fun q => by cases q)
      rw [h2] at q
      have : (s2, se) ∈ t.ord := by rw [hordT, h2]; simp
      exact hL.nz (by have := hmem _ this; rw [show s2 = 0 from q] at this; exact this)
  · by_cases two : l.ix ≠ 0 ∧ r.ix ≠ 0
    · -- two below it
      have hv : vicF (s.N, s.root) i (hdI (r.ord ++ c.hi)) = ((s.N.set i { gN s.N i with e := (gN s.N (hdI (r.ord ++ c.hi))).e }, s.root), hdI (r.ord ++ c.hi)) := by
        unfold vicF; rw [if_pos (by show (gN s.N i).l ≠ 0 ∧ (gN s.N i).r ≠ 0; rw [hgl, hgr]; exact two)]
      have hrne : r ≠ .lf := fun q => two.2 (by rw [q]; rfl)
      obtain ⟨s2, se, sc, rr, g, hsp, hro⟩ := left_split r hrne
      have hh : hdI (r.ord ++ c.hi) = s2 := by rw [hro]; rfl
      have hs2m : (s2, se) ∈ t.ord := by rw [hordT, hro]; simp
      have hkey : (gN s.N s2).e = se := hL.key hs2m
      rw [hv, hh, hkey]
      have hL2 := rekey hL' se
      obtain ⟨p1, p2, p3⟩ := hsp (.dn false i se col l c)
      obtain ⟨p1', _, _⟩ := hsp (.dn false i e col l c)
      have hT2 : plug c (.nd i se col l r) = plug (g (.dn false i se col l c)) (.nd s2 se sc .lf rr) := p1
      rw [hT2] at hL2
      have hokr : ∀ (c : Cx) (H : Nat), Ok (plug c (.nd i e col l r)) H → Ok (plug c (.nd i se col l r)) H ∧ (plug c (.nd i e col l r)).red = (plug c (.nd i se col l r)).red := by
        have key : ∀ (c : Cx) (a b : Tr) (H : Nat), (∀ H, Ok a H → Ok b H) → a.red = b.red → Ok (plug c a) H → Ok (plug c b) H ∧ (plug c a).red = (plug c b).red := by
          intro c
          induction c with
          | top => intro a b H h1 h2 h3; exact ⟨h1 H h3, h2⟩
          | dn s j je jc sib k ih =>
            intro a b H h1 h2 h3
            refine ih (mkR s j je jc a sib) (mkR s j je jc b sib) H (fun H hh => ?_) (by rw [mkR_red, mkR_red]) h3
            cases jc with
            | true => have := okR.1 hh; exact okR.2 ⟨h1 _ this.1, this.2.1, by rw [← h2]; exact this.2.2.1, this.2.2.2⟩
            | false => obtain ⟨g, rfl, x1, x2⟩ := okB0 hh; exact okB.2 ⟨h1 _ x1, x2⟩
        intro c H hh
        exact key c _ _ H (fun H q => q) rfl hh
      have hok2 := hokr c H (by rw [← hT]; exact hok)
      rw [hT2] at hok2
      obtain ⟨S', e1, hC⟩ := cut_ly (f := f) hL2 (.inl rfl) (by
        show (s.N.set i _)[0]? = _
        have hi0 : i ≠ 0 := fun q => hL.nz (by rw [← q]; exact hmi)
        rw [List.getElem?_set, if_neg hi0]; exact h.zero) hok2.1 (by rw [← hok2.2, ← hT]; exact hb) (by
        have h1 := Cx.len_ixs (g (.dn false i se col l c))
        have h2 : (g (.dn false i se col l c)).ixs.length ≤ t.size := by
          have e2 : (plug c (.nd i se col l r)).size = t.size := by rw [hT, Tr.size_plug, Tr.size_plug]; rfl
          rw [← e2, hT2, Tr.size_plug]; omega
        omega)
      refine ⟨S', e1, hL.lt (hmem _ hs2m), fin _ S' s2 _ _ _ hC e1 ⟨wf_set h.wf.wf (h.wf.wf i).1 (h.wf.wf i).2.1 (h.wf.wf i).2.2, by show (s.N.set i _).length = _; rw [List.length_set], h.wf.rt⟩ (fun j hj => ?_) (hmem _ hs2m) (fun q => ?_) (fun j hj => ?_) ?_ ?_⟩
      · show (s.N.set i _)[j]? = _
        rw [List.getElem?_set, if_neg (fun q => hj (by rw [← q]; exact hmi))]
      · -- its own node is not among those that stay
        obtain ⟨_, _, _, nt, nkt, _, _⟩ := ly_split hL2
        rcases List.mem_append.1 q with q | q
        · exact nkt s2 q (List.mem_cons_self ..)
        · simp only [Tr.ixs, List.nodup_cons] at nt; exact nt.1 q
      · have hsub := ly_sub hL2
        have : ∀ x, x ∈ (plug c (.nd i se col l r)).ixs → x ∈ t.ixs := fun x hx => by
          rw [hT, (plug_ixs c _).mem_iff]; rw [(plug_ixs c _).mem_iff] at hx; exact hx
        refine this j ?_
        rw [hT2, (plug_ixs _ _).mem_iff]
        rcases List.mem_append.1 hj with hj | hj
        · exact List.mem_append_left _ hj
        · exact List.mem_append_right _ (List.mem_cons_of_mem _ hj)
      · rw [hdel]
        have : (g (.dn false i se col l c)).lo ++ (Tr.lf.ord ++ rr.ord) ++ (g (.dn false i se col l c)).hi = c.lo ++ l.ord ++ (i, se) :: (r.ord.tail ++ c.hi) := by
          rw [p2]; simp only [Tr.ord, List.nil_append, Cx.lo, Bool.false_eq_true, if_false]
          rw [List.append_assoc, p3]
          simp [Cx.hi]
        rw [this, hro]
        simp
      · have : (g (.dn false i se col l c)).lo ++ (Tr.lf.ord ++ rr.ord) ++ (g (.dn false i se col l c)).hi = c.lo ++ l.ord ++ (i, se) :: (r.ord.tail ++ c.hi) := by
          rw [p2]; simp only [Tr.ord, List.nil_append, Cx.lo, Bool.false_eq_true, if_false]
          rw [List.append_assoc, p3]
          simp [Cx.hi]
        rw [this]
        have hAne : c.lo ++ l.ord ≠ [] := by
          cases l with
          | lf => exact absurd rfl two.1
          | nd => simp [Tr.ord]
        obtain ⟨f1, f2⟩ := hfirst_ne hAne
        unfold fstF
        rw [if_pos (by rw [hgl, hgr]; exact two), if_neg f1]
        have hns : s.first ≠ s2 := by
          rw [f2]
          cases hA : c.lo ++ l.ord with
          | nil => exact absurd hA hAne
          | cons p A => exact hndAB p (by rw [hA]; exact List.mem_cons_self ..) (s2, se) (by rw [hro]; simp)
        rw [if_neg hns, f2, hdI_app hAne]
    · -- at most one
      have hv : vicF (s.N, s.root) i (hdI (r.ord ++ c.hi)) = ((s.N, s.root), i) := by
        unfold vicF; rw [if_neg (by show ¬ ((gN s.N i).l ≠ 0 ∧ (gN s.N i).r ≠ 0); rw [hgl, hgr]; exact two)]
      rw [hv]
      have hlr : l = .lf ∨ r = .lf := by
        cases l with
        | lf => exact .inl rfl
        | nd j je jc jl jr =>
          cases r with
          | lf => exact .inr rfl
          | nd u ue uc ul ur =>
            exfalso; apply two
            have zt := (ly_split hL').2.2.2.2.2.2
            exact ⟨fun q => zt (by simp only [Tr.ixs]; rw [← show j = 0 from q]; simp), fun q => zt (by simp only [Tr.ixs]; rw [← show u = 0 from q]; simp)⟩
      obtain ⟨S', e1, hC⟩ := cut_ly (f := f) hL' hlr h.zero (by rw [← hT]; exact hok) (by rw [← hT]; exact hb) (hclen c _ hT.symm)
      refine ⟨S', e1, hilt, fin _ S' i _ _ _ hC e1 h.wf (fun j _ => rfl) hmi (fun q => ?_) (fun j hj => ?_) ?_ ?_⟩
      · obtain ⟨_, _, _, nt, nkt, _, _⟩ := ly_split hL'
        rcases List.mem_append.1 q with q | q
        · exact nkt i q (List.mem_cons_self ..)
        · simp only [Tr.ixs, List.nodup_cons] at nt; exact nt.1 q
      · rw [hT, (plug_ixs c _).mem_iff]
        rcases List.mem_append.1 hj with hj | hj
        · exact List.mem_append_left _ hj
        · exact List.mem_append_right _ (List.mem_cons_of_mem _ hj)
      · rw [hdel]; simp
      · unfold fstF
        rw [if_neg (by rw [hgl, hgr]; exact two)]
        by_cases hA : c.lo ++ l.ord = []
        · have hfi : s.first = i := by rw [hfirst, if_pos hA]
          rw [if_pos hfi]
          have : c.lo ++ (l.ord ++ r.ord) ++ c.hi = r.ord ++ c.hi := by
            rw [← List.append_assoc, hA]; rfl
          rw [this]
        · obtain ⟨f1, f2⟩ := hfirst_ne hA
          rw [if_neg f1, f2]
          have : c.lo ++ (l.ord ++ r.ord) ++ c.hi = (c.lo ++ l.ord) ++ (r.ord ++ c.hi) := by simp
          rw [this, hdI_app hA]
end Go.Eng
namespace Go.Eng
open Go Go.Proofs Go.RowKit
def fNd (x : Nd) : List Value := [U x.e.V, .int .i64 x.e.id, .int .i64 x.e.x, .int .i64 (x.l : Nat), .int .i64 (x.r : Nat), .int .i64 (x.up : Nat), .bool x.red]
abbrev rtB (b most bn n cap root first free cnt : Nat) : Nat × Obj := (b, .cells #[.int .i64 (most : Nat), .slice (some ⟨bn, 0, none⟩) n cap, .int .i64 (root : Nat), .int .i64 (first : Nat), .int .i64 (free : Nat), .int .i64 (cnt : Nat)] 131 (0, 0))
abbrev NdS (n0 bn n cap : Nat) (N : List Nd) (m : Mem0) : Prop := Sl fNd 136 7 n0 N (.slice (some ⟨bn, 0, none⟩) n cap) m
def RtT (n0 b most bn n cap root first free cnt : Nat) (N : List Nd) (u : Value) (m' : Mem0) : Prop := u = .tuple #[] ∧ ∃ ms, m' = rtB b most bn n cap root first free cnt :: ms ∧ NdS n0 bn n cap N ms
theorem rt_leaf {n0 b most bn n cap root first free cnt root' first' free' cnt' : Nat} {N N' : List Nd} {ms ms' M : Mem0} {w w' : World} (h : NdS n0 bn n cap N ms) (h' : NdS n0 bn n cap N' ms') (hm : Mem w' M) (hs : SubM M (rtB b most bn n cap root' first' free' cnt' :: (ms' ++ []))) (hc : Chg (fun x => x = b ∨ x = bn) w w') :
    Upd (rtB b most bn n cap root first free cnt :: ms) (RtT n0 b most bn n cap root' first' free' cnt' N') w (.tuple #[]) w' := by
  rw [List.append_nil] at hs
  obtain ⟨o, rfl⟩ := h.has_bn
  refine ⟨hc.mono (fun x _ hx => ?_), _, ⟨rfl, ms', rfl, h'⟩, hs.mem w' hm, fun p hp => .inr ?_⟩
  · rcases hx with rfl | rfl
    · exact ⟨_, List.mem_cons_self .., rfl⟩
    · exact ⟨_, List.mem_cons_of_mem _ (List.mem_cons_self ..), rfl⟩
  · rcases List.mem_cons.1 hp with rfl | hp
    · exact ⟨_, List.mem_cons_self .., rfl⟩
    · exact ⟨_, List.mem_cons_of_mem _ (List.mem_cons_self ..), (h'.at_bn p hp).symm⟩
theorem rt_wlk {n0 b most bn n cap root first free cnt : Nat} {N : List Nd} {ms : Mem0} (h : NdS n0 bn n cap N ms) : ∀ p ∈ rtB b most bn n cap root first free cnt :: ms, wlk p.2 = false := fun p hp => by
  rcases List.mem_cons.1 hp with rfl | hp
  · rfl
  · exact h.wlk p hp
theorem rt_hS {n0 b most bn n cap root first free cnt : Nat} {N : List Nd} {ms : Mem0} {k : Nat} (h : NdS n0 bn n cap N ms) : ∀ p ∈ rtB b most bn n cap root first free cnt :: ms, p.1 < k → (fun x => x = b ∨ x = bn) p.1 := fun p hp _ => by
  rcases List.mem_cons.1 hp with rfl | hp
  · exact .inl rfl
  · exact .inr (h.at_bn p hp)
set_option maxRecDepth 100000 in
theorem nanU_spec (x : BitVec 64) (w : World) : Ret Try.prog 121 #[U x] w (fun v w' => v = .bool false ∧ Ext w w') := by
 refine Ret.enterM (l := [U x]) Try.func121 rfl Try.ntmps121 rfl ([]) (no) (Mem.nil w) ?_
 refine wpM.seq (wpM.region ?_)
 refine LM.as rfl ?_
 refine LM.nil (QM.sub (e' := [(0, _)]) ⟨rfl, trivial⟩ (QM.then (wpM.seq (wpM.region ?_))))
 refine LM.mv rfl (LM.mv rfl ?_)
 refine LM.val (ov_uneq rfl rfl) ?_
 refine LM.as rfl ?_
 refine LM.nil (QM.sub (e' := [(2, _)]) ⟨rfl, trivial⟩ (QM.then ?_))
 refine wpM.ret ?_
 refine QM.leave (.inl rfl) [.tmp 2] Try.results121 rfl ?_
 intro w' hm' hc' hg'
 refine ⟨?_, hc'⟩; show Value.bool (decide (x ≠ x)) = _; rw [decide_eq_false (fun h => h rfl)]
set_option maxRecDepth 100000 in
theorem nanI_spec (x : Int) (w : World) : Ret Try.prog 122 #[.int .i64 x] w (fun v w' => v = .bool false ∧ Ext w w') := by
 refine Ret.enterM (l := [.int .i64 x]) Try.func122 rfl Try.ntmps122 rfl ([]) (no) (Mem.nil w) ?_
 refine wpM.seq (wpM.region ?_)
 refine LM.as rfl ?_
 refine LM.nil (QM.sub (e' := [(0, _)]) ⟨rfl, trivial⟩ (QM.then (wpM.seq (wpM.region ?_))))
 refine LM.mv rfl (LM.mv rfl ?_)
 refine LM.val (ov_neq rfl rfl) ?_
 refine LM.as rfl ?_
 refine LM.nil (QM.sub (e' := [(2, _)]) ⟨rfl, trivial⟩ (QM.then ?_))
 refine wpM.ret ?_
 refine QM.leave (.inl rfl) [.tmp 2] Try.results122 rfl ?_
 intro w' hm' hc' hg'
 refine ⟨?_, hc'⟩; show Value.bool (decide (x ≠ x)) = _; rw [decide_eq_false (fun h => h rfl)]
def cmpU (x y : BitVec 64) : Int := if x.toNat < y.toNat then -1 else if y.toNat < x.toNat then 1 else 0
def cmpI (x y : Int) : Int := if x < y then -1 else if y < x then 1 else 0
set_option maxRecDepth 100000 in
theorem cmpU_spec (x y : BitVec 64) (w : World) : Ret Try.prog 110 #[U x, U y] w (fun v w' => v = .int .i64 (cmpU x y) ∧ Ext w w') := by
 refine Ret.enterM (l := [U x, U y]) Try.func110 rfl Try.ntmps110 rfl ([]) (no) (Mem.nil w) ?_
 refine wpM.seq (wpM.region ?_)
 refine LM.as rfl ?_
 refine LM.nil (QM.sub (e' := [(0, _), (1, _)]) au9 (QM.then (wpM.seq (wpM.region ?_))))
 refine LM.mv rfl ?_
 refine LM.callE (oc_call (enters_fn Try.func121 (by kernel_rfl) rfl) rfl) (fun w hm hc hg => nanU_spec _ w) ?_
 refine LM.as rfl ?_
 refine LM.nil (QM.sub (e' := [(0, _), (1, _), (5, _)]) au9 (QM.then (wpM.seq (wpM.region ?_))))
 refine LM.mv rfl ?_
 refine LM.callE (oc_call (enters_fn Try.func121 (by kernel_rfl) rfl) rfl) (fun w hm hc hg => nanU_spec _ w) ?_
 refine LM.as rfl ?_
 refine LM.nil (QM.sub (e' := [(0, _), (1, _), (5, _), (6, _)]) au9 (QM.then ?_))
 refine wpM.seq ?_
 refine wpM.seq (wpM.region ?_)
 refine LM.mv rfl ?_
 refine LM.nil (QM.sub (e' := [(0, _), (1, _), (6, _), (11, _)]) au9 (QM.then ?_))
 first | refine wpM.condD rfl (fun h1 => ?_) (fun h1 => ?_) | refine wpM.condB rfl (fun h1 => ?_) (fun h1 => ?_)
 ·
  cases h1
 refine wpM.skip ?_
 refine QM.then ?_
 refine wpM.seq ?_
 refine wpM.seq (wpM.region ?_)
 refine LM.mv rfl ?_
 refine LM.nil (QM.sub (e' := [(0, _), (1, _), (13, _)]) au9 (QM.then ?_))
 first | refine wpM.condD rfl (fun h2 => ?_) (fun h2 => ?_) | refine wpM.condB rfl (fun h2 => ?_) (fun h2 => ?_)
 ·
  cases h2
 refine wpM.skip ?_
 refine QM.then ?_
 refine wpM.seq ?_
 refine wpM.seq (wpM.region ?_)
 refine LM.mv rfl (LM.mv rfl ?_)
 refine LM.val (ov_ulss rfl rfl) ?_
 refine LM.nil (QM.sub (e' := [(0, _), (1, _), (16, _)]) au9 (QM.then ?_))
 refine wpM.condD rfl (fun h3 => ?_) (fun h3 => ?_)
 ·
  refine wpM.seq (wpM.region ?_)
  refine LM.as rfl ?_
  refine LM.nil (QM.sub (e' := [(4, _)]) ⟨rfl, trivial⟩ (QM.then ?_))
  refine wpM.ret ?_
  refine QM.then_ret ?_
  refine QM.leave (.inl rfl) [.tmp 4] Try.results110 rfl ?_
  intro w' hm' hc' hg'
  refine ⟨?_, hc'⟩; unfold cmpU; rw [if_pos h3]; rfl
 refine wpM.skip ?_
 refine QM.then ?_
 refine wpM.seq ?_
 refine wpM.seq (wpM.region ?_)
 refine LM.mv rfl (LM.mv rfl ?_)
 refine LM.val (ov_ugtr rfl rfl) ?_
 refine LM.nil (QM.sub (e' := [(19, _)]) ⟨rfl, trivial⟩ (QM.then ?_))
 refine wpM.condD rfl (fun h4 => ?_) (fun h4 => ?_)
 ·
  refine wpM.seq (wpM.region ?_)
  refine LM.as rfl ?_
  refine LM.nil (QM.sub (e' := [(4, _)]) ⟨rfl, trivial⟩ (QM.then ?_))
  refine wpM.ret ?_
  refine QM.then_ret ?_
  refine QM.leave (.inl rfl) [.tmp 4] Try.results110 rfl ?_
  intro w' hm' hc' hg'
  refine ⟨?_, hc'⟩; unfold cmpU; rw [if_neg h3, if_pos h4]; rfl
 refine wpM.skip ?_
 refine QM.then (wpM.seq (wpM.region ?_))
 refine LM.as rfl ?_
 refine LM.nil (QM.sub (e' := [(4, _)]) ⟨rfl, trivial⟩ (QM.then ?_))
 refine wpM.ret ?_
 refine QM.leave (.inl rfl) [.tmp 4] Try.results110 rfl ?_
 intro w' hm' hc' hg'
 refine ⟨?_, hc'⟩; unfold cmpU; rw [if_neg h3, if_neg h4]; rfl
set_option maxRecDepth 100000 in
theorem cmpI_spec (x y : Int) (w : World) : Ret Try.prog 111 #[.int .i64 x, .int .i64 y] w (fun v w' => v = .int .i64 (cmpI x y) ∧ Ext w w') := by
 refine Ret.enterM (l := [.int .i64 x, .int .i64 y]) Try.func111 rfl Try.ntmps111 rfl ([]) (no) (Mem.nil w) ?_
 refine wpM.seq (wpM.region ?_)
 refine LM.as rfl ?_
 refine LM.nil (QM.sub (e' := [(0, _), (1, _)]) au9 (QM.then (wpM.seq (wpM.region ?_))))
 refine LM.mv rfl ?_
 refine LM.callE (oc_call (enters_fn Try.func122 (by kernel_rfl) rfl) rfl) (fun w hm hc hg => nanI_spec _ w) ?_
 refine LM.as rfl ?_
 refine LM.nil (QM.sub (e' := [(0, _), (1, _), (5, _)]) au9 (QM.then (wpM.seq (wpM.region ?_))))
 refine LM.mv rfl ?_
 refine LM.callE (oc_call (enters_fn Try.func122 (by kernel_rfl) rfl) rfl) (fun w hm hc hg => nanI_spec _ w) ?_
 refine LM.as rfl ?_
 refine LM.nil (QM.sub (e' := [(0, _), (1, _), (5, _), (6, _)]) au9 (QM.then ?_))
 refine wpM.seq ?_
 refine wpM.seq (wpM.region ?_)
 refine LM.mv rfl ?_
 refine LM.nil (QM.sub (e' := [(0, _), (1, _), (6, _), (11, _)]) au9 (QM.then ?_))
 first | refine wpM.condD rfl (fun h1 => ?_) (fun h1 => ?_) | refine wpM.condB rfl (fun h1 => ?_) (fun h1 => ?_)
 ·
  cases h1
 refine wpM.skip ?_
 refine QM.then ?_
 refine wpM.seq ?_
 refine wpM.seq (wpM.region ?_)
 refine LM.mv rfl ?_
 refine LM.nil (QM.sub (e' := [(0, _), (1, _), (13, _)]) au9 (QM.then ?_))
 first | refine wpM.condD rfl (fun h2 => ?_) (fun h2 => ?_) | refine wpM.condB rfl (fun h2 => ?_) (fun h2 => ?_)
 ·
  cases h2
 refine wpM.skip ?_
 refine QM.then ?_
 refine wpM.seq ?_
 refine wpM.seq (wpM.region ?_)
 refine LM.mv rfl (LM.mv rfl ?_)
 refine LM.val (ov_lss rfl rfl) ?_
 refine LM.nil (QM.sub (e' := [(0, _), (1, _), (16, _)]) au9 (QM.then ?_))
 refine wpM.condD rfl (fun h3 => ?_) (fun h3 => ?_)
 ·
  refine wpM.seq (wpM.region ?_)
  refine LM.as rfl ?_
  refine LM.nil (QM.sub (e' := [(4, _)]) ⟨rfl, trivial⟩ (QM.then ?_))
  refine wpM.ret ?_
  refine QM.then_ret ?_
  refine QM.leave (.inl rfl) [.tmp 4] Try.results111 rfl ?_
  intro w' hm' hc' hg'
  refine ⟨?_, hc'⟩; unfold cmpI; rw [if_pos h3]; rfl
 refine wpM.skip ?_
 refine QM.then ?_
 refine wpM.seq ?_
 refine wpM.seq (wpM.region ?_)
 refine LM.mv rfl (LM.mv rfl ?_)
 refine LM.val (ov_gtr rfl rfl) ?_
 refine LM.nil (QM.sub (e' := [(19, _)]) ⟨rfl, trivial⟩ (QM.then ?_))
 refine wpM.condD rfl (fun h4 => ?_) (fun h4 => ?_)
 ·
  refine wpM.seq (wpM.region ?_)
  refine LM.as rfl ?_
  refine LM.nil (QM.sub (e' := [(4, _)]) ⟨rfl, trivial⟩ (QM.then ?_))
  refine wpM.ret ?_
  refine QM.then_ret ?_
  refine QM.leave (.inl rfl) [.tmp 4] Try.results111 rfl ?_
  intro w' hm' hc' hg'
  refine ⟨?_, hc'⟩; unfold cmpI; rw [if_neg h3, if_pos h4]; rfl
 refine wpM.skip ?_
 refine QM.then (wpM.seq (wpM.region ?_))
 refine LM.as rfl ?_
 refine LM.nil (QM.sub (e' := [(4, _)]) ⟨rfl, trivial⟩ (QM.then ?_))
 refine wpM.ret ?_
 refine QM.leave (.inl rfl) [.tmp 4] Try.results111 rfl ?_
 intro w' hm' hc' hg'
 refine ⟨?_, hc'⟩; unfold cmpI; rw [if_neg h3, if_neg h4]; rfl
theorem find_at {p : Int → Bool} {xs : List Int} {i : Nat} (h0 : (xs.take i).find? p = none) (h : i < xs.length) (hp : p (xs.getD i 0) = true) : xs.find? p = some (xs.getD i 0) := by
  have e : xs.find? p = (xs.take i ++ xs.drop i).find? p := by rw [List.take_append_drop]
  have hg : xs.getD i 0 = xs[i] := by rw [List.getD_eq_getElem?_getD, List.getElem?_eq_getElem h]; rfl
  rw [e, List.find?_append, h0, Option.none_or, List.drop_eq_getElem_cons h, List.find?_cons, ← hg, hp]
set_option maxRecDepth 100000 in
theorem cmpOr_spec {xs : List Int} {ad : Option Addr} {n cap : Nat} (w : World) (hn : n = xs.length) (hl : Sr fI 1 xs (.slice ad n cap) w) (hx : xs.length ≤ 1000) : Ret Try.prog 109 #[.slice ad n cap] w (fun v w' => v = .int .i64 ((xs.find? (fun x => decide (x ≠ 0))).getD 0) ∧ Ext w w') := by
 refine Ret.enterM (l := [.slice ad n cap]) Try.func109 rfl Try.ntmps109 rfl ([]) (no) (Mem.nil w) ?_
 refine wpM.seq (wpM.region ?_)
 refine LM.as rfl ?_
 refine LM.nil (QM.sub (e' := [(0, _)]) ⟨rfl, trivial⟩ (QM.then (wpM.seq (wpM.region ?_))))
 refine LM.as rfl ?_
 refine LM.nil (QM.sub (e' := [(0, _), (3, _)]) au9 (QM.then ?_))
 refine wpM.seq ?_
 refine wpM.seq (wpM.region ?_)
 refine LM.mv rfl ?_
 refine LM.val (ov_len Try.underlying47 rfl) ?_
 refine LM.mv rfl ?_
 refine LM.nil (QM.sub (e' := [(3, _), (6, _), (7, _), (8, _)]) au9 (QM.then ?_))
 refine wpM.block ?_
 refine wpM.loopK0 (α := Nat) (fun i => [(8, .int .i64 (i : Nat))]) [(3, _), (6, _), (7, _)] (fun i => []) (fun i => i ≤ xs.length ∧ (xs.take i).find? (fun x => decide (x ≠ 0)) = none) (fun i => xs.length - i) (0) ⟨au2, rfl, rfl, rfl, trivial⟩ au1 ⟨Nat.zero_le _, rfl⟩ ?_
 rintro i ⟨hi, ha⟩
 change wpM _ _ _ _ _ _ _ ([]) _ _ _
 refine wpM.seq (wpM.region ?_)
 refine LM.val (ov_lss rfl rfl) ?_
 refine LM.nil (QM.sub (e' := [(3, _), (6, _), (7, _), (8, _), (9, _)]) au9 (QM.then ?_))
 refine wpM.seq ?_
 refine wpM.condD rfl (fun h1 => ?_) (fun h1 => ?_)
 ·
  refine wpM.skip ?_
  refine QM.then ?_
  refine wpM.seq ?_
  refine wpM.block ?_
  refine wpM.seq (wpM.region ?_)
  refine LM.val (ov_idxSN au6 Try.underlying47 Try.sizeOf3 rfl rfl (by omega)) ?_
  first | refine LM.rd (om_sl1 (by assumption) (by intro _; rfl) Try.isAgg3 rfl rfl (by exact getq 0 (by first | omega | (simp only [nL_len, nR_len, nU_len, nC_len, List.length_set, List.length_append, List.length_cons, List.length_nil]; omega))) (by rfl)) ?_ | refine LM.rdC (om_sr1 (by assumption) Try.isAgg3 rfl rfl (by exact getq 0 (by first | omega | (simp only [nL_len, nR_len, nU_len, nC_len, List.length_set, List.length_append, List.length_cons, List.length_nil]; omega))) (by rfl) id) ?_ | refine LM.rd (om_ld Try.isAgg3 rfl rfl) ?_
  refine LM.as rfl ?_
  refine LM.nil (QM.sub (e' := [(3, _), (5, _), (6, _), (7, _), (8, _)]) au9 (QM.then (wpM.seq (wpM.region ?_))))
  refine LM.mv rfl (LM.mv rfl ?_)
  refine LM.val (ov_neq rfl rfl) ?_
  refine LM.nil (QM.sub (e' := [(3, _), (5, _), (6, _), (7, _), (8, _), (14, _)]) au9 (QM.then ?_))
  refine wpM.condD rfl (fun h2 => ?_) (fun h2 => ?_)
  ·
   refine wpM.seq (wpM.region ?_)
   refine LM.mv rfl (LM.as rfl ?_)
   refine LM.nil (QM.sub (e' := [(2, _)]) ⟨rfl, trivial⟩ (QM.then ?_))
   refine wpM.ret ?_
   refine QM.block_ret ?_
   refine QM.then_ret ?_
   refine QM.then_ret ?_
   refine QM.block_ret ?_
   refine QM.then_ret ?_
   refine QM.leave (.inl rfl) [.tmp 2] Try.results109 rfl ?_
   intro w' hm' hc' hg'
   refine ⟨?_, hc'⟩; have e : xs.find? (fun x => decide (x ≠ 0)) = some (xs.getD i 0) := (find_at ha (by omega) (decide_eq_true h2)); rw [e]; rfl
  refine wpM.skip ?_
  refine QM.block_normal ?_
  refine QM.then (wpM.region ?_)
  refine LM.val (ov_add64 rfl rfl (by omega)) ?_
  refine LM.mv rfl ?_
  refine LM.nil (QM.sub (e' := [(3, _), (6, _), (7, _), (8, _)]) au9 ?_)
  refine QM.againK (i + 1) ⟨au2, rfl, rfl, rfl, trivial⟩ au1 (fun _ h => h) ?_ ?_
  · exact ⟨by omega, by rw [take_snoc 0 (by omega), List.find?_append, ha]; simp only [Option.none_or, List.find?_cons]; rw [decide_eq_false h2]; rfl⟩
  · omega
 refine wpM.exit ?_
 refine QM.then_exit ?_
 refine QM.then_exit ?_
 refine QM.block_hit ?_
 refine QM.then (wpM.seq (wpM.region ?_))
 refine LM.mv rfl (LM.as rfl ?_)
 refine LM.nil (QM.sub (e' := [(2, _)]) ⟨rfl, trivial⟩ (QM.then ?_))
 refine wpM.ret ?_
 refine QM.leave (.inl rfl) [.tmp 2] Try.results109 rfl ?_
 intro w' hm' hc' hg'
 have hil : i = xs.length := (by omega); subst hil; rw [List.take_length] at ha; rw [ha]; exact ⟨rfl, hc'⟩
theorem agn_find (a b : Kv) : ([cmpU a.V b.V, cmpI a.id b.id].find? (fun x => decide (x ≠ 0))).getD 0 = agnO a b := by
  have hV : a.V.toNat = b.V.toNat → a.V = b.V := fun h => BitVec.eq_of_toNat_eq h
  rcases k_tri a b with h | h | h
  · rw [agn_zero.2 h]
    have e1 : cmpU a.V b.V = 0 := by unfold cmpU; rw [h.1]; simp
    have e2 : cmpI a.id b.id = 0 := by unfold cmpI; rw [h.2]; simp
    rw [e1, e2]; rfl
  · have e : agnO a b = -1 := by unfold agnO; rw [if_neg h.ne, if_pos h]
    rw [e]
    rcases h with h | ⟨h1, h2⟩
    · rw [show cmpU a.V b.V = -1 from if_pos h]; rfl
    · have e1 : cmpU a.V b.V = 0 := by unfold cmpU; rw [h1]; simp
      rw [e1, show cmpI a.id b.id = -1 from if_pos h2]; rfl
  · have e : agnO a b = 1 := by unfold agnO; rw [if_neg (fun q => h.ne q.symm), if_neg h.asym]
    rw [e]
    rcases h with h | ⟨h1, h2⟩
    · have e1 : cmpU a.V b.V = 1 := by unfold cmpU; rw [if_neg (by omega), if_pos h]
      rw [e1]; rfl
    · have e1 : cmpU a.V b.V = 0 := by unfold cmpU; rw [h1]; simp
      have e2 : cmpI a.id b.id = 1 := by unfold cmpI; rw [if_neg (by omega), if_pos h2]
      rw [e1, e2]; rfl
set_option maxRecDepth 100000 in
theorem against_spec (a b : Kv) (w : World) : Ret Try.prog 91 #[.agg #[U a.V, .int .i64 a.id], .agg #[U b.V, .int .i64 b.id]] w (fun v w' => v = .int .i64 (agnO a b) ∧ Ext w w') := by
 refine Ret.enterM (l := [.agg #[U a.V, .int .i64 a.id], .agg #[U b.V, .int .i64 b.id]]) Try.func91 rfl Try.ntmps91 rfl ([]) (no) (Mem.nil w) ?_
 refine wpM.seq (wpM.region ?_)
 refine LM.box rfl rfl (fun b2 hb2 => ?_)
 refine LM.box rfl rfl (fun b3 hb3 => ?_)
 refine LM.as rfl ?_
 refine LM.nil (QM.sub (e' := [(2, _), (3, _)]) au9 (QM.then ?_))
 refine wpM.seq ?_
 refine wpM.draw [(0, 0), (1, 1), (2, 0), (3, 1), (5, 0), (6, 1), (7, 0), (8, 1), (4, 2), (9, 2), (10, 3), (11, 3), (12, 3)] (by kernel_rfl) (by kernel_rfl) ?_
 refine LD.val rfl rfl (ov_field Try.underlying100 rfl Try.sizeOf26 rfl (k := 0) rfl rfl) ?_
 refine LD.rd rfl rfl (om_ld Try.isAgg26 rfl rfl) ?_
 refine LD.val rfl rfl (ov_field Try.underlying100 rfl Try.sizeOf26 rfl (k := 0) rfl rfl) ?_
 refine LD.rd rfl rfl (om_ld Try.isAgg26 rfl rfl) ?_
 refine LD.val rfl rfl (ov_field Try.underlying100 rfl Try.sizeOf3 rfl (k := 1) rfl rfl) ?_
 refine LD.rd rfl rfl (om_ld Try.isAgg3 rfl rfl) ?_
 refine LD.val rfl rfl (ov_field Try.underlying100 rfl Try.sizeOf3 rfl (k := 1) rfl rfl) ?_
 refine LD.rd rfl rfl (om_ld Try.isAgg3 rfl rfl) ?_
 refine LD.callE rfl rfl (oc_call (enters_fn Try.func110 (by kernel_rfl) rfl) rfl) (fun w hm hc hg => cmpU_spec _ _ w) ?_
 refine LD.callE rfl rfl (oc_call (enters_fn Try.func111 (by kernel_rfl) rfl) rfl) (fun w hm hc hg => cmpI_spec _ _ w) ?_
 refine LD.tail rfl rfl ?_
 refine LM.row (vs := [_, _]) Try.underlying47 Try.sizeOf3 Try.zeroValue3 rfl rfl rfl rfl rfl rfl (fun b15 hb15 => ?_)
 refine LM.callE (oc_call (enters_fn Try.func109 (by kernel_rfl) rfl) rfl) (fun w hm hc hg => agn_find a b ▸ cmpOr_spec (xs := [cmpU a.V b.V, cmpI a.id b.id]) w rfl (Sr.row (hm.at b15) rfl rfl (Nat.le_refl _) (fun _ => rfl)) (by simp)) ?_
 refine LM.as rfl ?_
 refine LM.nil ?_
 refine QM.qn ?_
 refine QM.sub (e' := [(4, _)]) ⟨rfl, trivial⟩ (QM.then ?_)
 refine wpM.ret ?_
 refine QM.leave (.inl rfl) [.tmp 4] Try.results91 rfl ?_
 intro w' hm' hc' hg'
 exact ⟨rfl, hc'⟩
set_option maxRecDepth 100000 in
theorem below_spec {n0 b most bn n cap root first free cnt : Nat} {N : List Nd} {ms : Mem0} (i : Nat) (s : Bool) (w : World) (hn : n = N.length) (hs : NdS n0 bn n cap N ms) (hi : i < N.length) (hM : Mem w (rtB b most bn n cap root first free cnt :: ms)) : Ret Try.prog 112 #[.pointer (some ⟨b, 0, none⟩), .int .i64 (i : Nat), .bool s] w (fun v w' => v = .int .i64 ((N.getD i default).ch s : Nat) ∧ Ext w w') := by
 refine Ret.enterM (l := [.pointer (some ⟨b, 0, none⟩), .int .i64 (i : Nat), .bool s]) Try.func112 rfl Try.ntmps112 rfl (rtB b most bn n cap root first free cnt :: ms) (no) hM ?_
 refine wpM.seq (wpM.region ?_)
 refine LM.as rfl ?_
 refine LM.nil (QM.sub (e' := [(0, _), (1, _), (2, _)]) au9 (QM.then ?_))
 refine wpM.seq ?_
 refine wpM.seq (wpM.region ?_)
 refine LM.mv rfl ?_
 refine LM.nil (QM.sub (e' := [(0, _), (1, _), (7, _)]) au9 (QM.then ?_))
 first | refine wpM.condD rfl (fun h1 => ?_) (fun h1 => ?_) | refine wpM.condB rfl (fun h1 => ?_) (fun h1 => ?_)
 ·
  refine wpM.seq (wpM.region ?_)
  refine LM.mv rfl ?_
  refine LM.val (ov_nilCheck rfl) ?_
  refine LM.val (ov_field Try.underlying131 rfl Try.sizeOf129 rfl (k := 1) rfl rfl) ?_
  refine LM.rd (om_ld Try.isAgg129 rfl rfl) ?_
  refine LM.mv rfl ?_
  refine LM.val (ov_idxSN au6 Try.underlying129 Try.sizeOf136 rfl rfl (by omega)) ?_
  refine LM.val (ov_field Try.underlying136 rfl Try.sizeOf3 rfl (k := 3) rfl rfl) ?_
  refine LM.rd (om_slE (j := 3) (by assumption) (by intro _; rfl) Try.isAgg3 rfl rfl (by exact getq default (by first | omega | (simp only [nL_len, nR_len, nU_len, nC_len, List.length_set, List.length_append, List.length_cons, List.length_nil]; omega))) rfl (by rfl)) ?_
  refine LM.as rfl ?_
  refine LM.nil (QM.sub (e' := [(6, _)]) ⟨rfl, trivial⟩ (QM.then ?_))
  refine wpM.ret ?_
  refine QM.then_ret ?_
  refine QM.leave (.inl rfl) [.tmp 6] Try.results112 rfl ?_
  intro w' hm' hc' hg'
  subst h1; exact ⟨rfl, hc'⟩
 refine wpM.skip ?_
 refine QM.then (wpM.seq (wpM.region ?_))
 refine LM.mv rfl ?_
 refine LM.val (ov_nilCheck rfl) ?_
 refine LM.val (ov_field Try.underlying131 rfl Try.sizeOf129 rfl (k := 1) rfl rfl) ?_
 refine LM.rd (om_ld Try.isAgg129 rfl rfl) ?_
 refine LM.mv rfl ?_
 refine LM.val (ov_idxSN au6 Try.underlying129 Try.sizeOf136 rfl rfl (by omega)) ?_
 refine LM.val (ov_field Try.underlying136 rfl Try.sizeOf3 rfl (k := 4) rfl rfl) ?_
 refine LM.rd (om_slE (j := 4) (by assumption) (by intro _; rfl) Try.isAgg3 rfl rfl (by exact getq default (by first | omega | (simp only [nL_len, nR_len, nU_len, nC_len, List.length_set, List.length_append, List.length_cons, List.length_nil]; omega))) rfl (by rfl)) ?_
 refine LM.as rfl ?_
 refine LM.nil (QM.sub (e' := [(6, _)]) ⟨rfl, trivial⟩ (QM.then ?_))
 refine wpM.ret ?_
 refine QM.leave (.inl rfl) [.tmp 6] Try.results112 rfl ?_
 intro w' hm' hc' hg'
 subst h1; exact ⟨rfl, hc'⟩
theorem swp_l {N : List Nd} {root up was is : Nat} (h : up ≠ 0) (hl : (gN N up).l = was) : swpF (N, root) up was is = (nU (nL N up is) is up, root) := by unfold swpF; rw [if_neg h, if_pos hl]
theorem swp_r {N : List Nd} {root up was is : Nat} (h : up ≠ 0) (hl : ¬ (gN N up).l = was) : swpF (N, root) up was is = (nU (nR N up is) is up, root) := by unfold swpF; rw [if_neg h, if_neg hl]
set_option maxRecDepth 100000 in
theorem swap_spec {n0 b most bn n cap root first free cnt : Nat} {N : List Nd} {ms : Mem0} (up was is : Nat) (w : World) (hn : n = N.length) (hs : NdS n0 bn n cap N ms) (hu : up < N.length) (hi : is < N.length) (hM : Mem w (rtB b most bn n cap root first free cnt :: ms)) : Ret Try.prog 115 #[.pointer (some ⟨b, 0, none⟩), .int .i64 (up : Nat), .int .i64 (was : Nat), .int .i64 (is : Nat)] w (Upd (rtB b most bn n cap root first free cnt :: ms) (RtT n0 b most bn n cap (swpF (N, root) up was is).2 first free cnt (swpF (N, root) up was is).1) w) := by
 refine Ret.enterM (l := [.pointer (some ⟨b, 0, none⟩), .int .i64 (up : Nat), .int .i64 (was : Nat), .int .i64 (is : Nat)]) Try.func115 rfl Try.ntmps115 rfl (rtB b most bn n cap root first free cnt :: ms) ((fun x => x = b ∨ x = bn)) hM ?_
 refine wpM.seq ?_
 refine wpM.joinK (α := List Nd × Nat × Mem0) (fun ⟨N1, root1, m1⟩ => []) [(0, _), (1, _), (3, _)] (fun ⟨N1, root1, m1⟩ => rtB b most bn n cap root1 first free cnt :: (m1 ++ [])) (fun ⟨N1, root1, m1⟩ => NdS n0 bn n cap N1 m1 ∧ N1.length = N.length ∧ swpF (N, root) up was is = (nU N1 is up, root1)) ⟨rfl, rfl, rfl, trivial⟩ ?_ ?_
 ·
  refine wpM.block ?_
  refine wpM.seq (wpM.region ?_)
  refine LM.mv rfl ?_
  refine LM.val (ov_eql rfl rfl) ?_
  refine LM.as rfl ?_
  refine LM.nil (QM.sub (e' := [(0, _), (1, _), (2, _), (3, _), (16, _)]) au9 (QM.then ?_))
  refine wpM.condD rfl (fun h1 => ?_) (fun h1 => ?_)
  ·
   refine wpM.region ?_
   refine LM.mv rfl (LM.mv rfl ?_)
   refine LM.val (ov_nilCheck rfl) ?_
   refine LM.val (ov_field Try.underlying131 rfl Try.sizeOf3 rfl (k := 2) rfl rfl) ?_
   refine LM.st Try.sizeOf3 rfl rfl rfl au5 rfl (fun _ => .inl rfl) ?_
   refine LM.nil (QM.sub (e' := [(0, _), (1, _), (3, _)]) au9 ?_)
   refine QM.block_normal ?_
   refine QM.meetK (N, is, ms) ⟨rfl, rfl, rfl, trivial⟩ au1 ?_
   · exact ⟨hs, rfl, by rw [show up = 0 by omega]; rfl⟩
  refine wpM.seq (wpM.region ?_)
  refine LM.mv rfl ?_
  refine LM.val (ov_nilCheck rfl) ?_
  refine LM.val (ov_field Try.underlying131 rfl Try.sizeOf129 rfl (k := 1) rfl rfl) ?_
  refine LM.rd (om_ld Try.isAgg129 rfl rfl) ?_
  refine LM.mv rfl ?_
  refine LM.val (ov_idxSN au6 Try.underlying129 Try.sizeOf136 rfl rfl (by omega)) ?_
  refine LM.val (ov_field Try.underlying136 rfl Try.sizeOf3 rfl (k := 3) rfl rfl) ?_
  refine LM.rd (om_slE (j := 3) (by assumption) (by intro _; rfl) Try.isAgg3 rfl rfl (by exact getq default (by first | omega | (simp only [nL_len, nR_len, nU_len, nC_len, List.length_set, List.length_append, List.length_cons, List.length_nil]; omega))) rfl (by rfl)) ?_
  refine LM.mv rfl ?_
  refine LM.val (ov_eql rfl rfl) ?_
  refine LM.as rfl ?_
  refine LM.nil (QM.sub (e' := [(0, _), (1, _), (3, _), (23, _)]) au9 (QM.then ?_))
  refine wpM.condD rfl (fun h2 => ?_) (fun h2 => ?_)
  ·
   refine wpM.region ?_
   refine LM.mv rfl ?_
   refine LM.val (ov_nilCheck rfl) ?_
   refine LM.val (ov_field Try.underlying131 rfl Try.sizeOf129 rfl (k := 1) rfl rfl) ?_
   refine LM.rd (om_ld Try.isAgg129 rfl rfl) ?_
   refine LM.mv rfl (LM.mv rfl ?_)
   refine LM.val (ov_idxSN au6 Try.underlying129 Try.sizeOf136 rfl rfl (by omega)) ?_
   refine LM.val (ov_field Try.underlying136 rfl Try.sizeOf3 rfl (k := 3) rfl rfl) ?_
   refine LM.stS ({ gN (N) ( up) with l :=  is }) (j := 3) (by assumption) (by intro _; rfl) Try.sizeOf3 rfl rfl rfl (by exact getq default (by first | omega | (simp only [nL_len, nR_len, nU_len, nC_len, List.length_set, List.length_append, List.length_cons, List.length_nil]; omega))) rfl (by decide) (by rfl) rfl (fun p hp _ => .inr (Sl.at_bn (by assumption) p hp)) (fun ms1 hss1 hmm1 => ?_)
   change Sl _ _ _ _ (nL (N) ( up) ( is)) _ _ at hss1
   refine LM.nil (QM.sub (e' := [(0, _), (1, _), (3, _)]) au9 ?_)
   refine QM.block_normal ?_
   refine QM.meetK (nL N up is, root, ms1) ⟨rfl, rfl, rfl, trivial⟩ au1 ?_
   · exact ⟨by assumption, nL_len .., swp_l (by omega) (Int.natCast_inj.1 h2)⟩
  refine wpM.region ?_
  refine LM.mv rfl ?_
  refine LM.val (ov_nilCheck rfl) ?_
  refine LM.val (ov_field Try.underlying131 rfl Try.sizeOf129 rfl (k := 1) rfl rfl) ?_
  refine LM.rd (om_ld Try.isAgg129 rfl rfl) ?_
  refine LM.mv rfl (LM.mv rfl ?_)
  refine LM.val (ov_idxSN au6 Try.underlying129 Try.sizeOf136 rfl rfl (by omega)) ?_
  refine LM.val (ov_field Try.underlying136 rfl Try.sizeOf3 rfl (k := 4) rfl rfl) ?_
  refine LM.stS ({ gN (N) ( up) with r :=  is }) (j := 4) (by assumption) (by intro _; rfl) Try.sizeOf3 rfl rfl rfl (by exact getq default (by first | omega | (simp only [nL_len, nR_len, nU_len, nC_len, List.length_set, List.length_append, List.length_cons, List.length_nil]; omega))) rfl (by decide) (by rfl) rfl (fun p hp _ => .inr (Sl.at_bn (by assumption) p hp)) (fun ms1 hss1 hmm1 => ?_)
  change Sl _ _ _ _ (nR (N) ( up) ( is)) _ _ at hss1
  refine LM.nil (QM.sub (e' := [(0, _), (1, _), (3, _)]) au9 ?_)
  refine QM.block_normal ?_
  refine QM.meetK (nR N up is, root, ms1) ⟨rfl, rfl, rfl, trivial⟩ au1 ?_
  · exact ⟨by assumption, nR_len .., swp_r (by omega) (fun q => h2 (Int.natCast_inj.2 q))⟩
 rintro ⟨N1, root1, m1⟩ ⟨hs1, hl1, he⟩
 change QM _ _ _ _ _ (rtB b most bn n cap root1 first free cnt :: (m1 ++ [])) _ _ _
 refine QM.then (wpM.region ?_)
 refine LM.mv rfl ?_
 refine LM.val (ov_nilCheck rfl) ?_
 refine LM.val (ov_field Try.underlying131 rfl Try.sizeOf129 rfl (k := 1) rfl rfl) ?_
 refine LM.rd (om_ld Try.isAgg129 rfl rfl) ?_
 refine LM.mv rfl (LM.mv rfl ?_)
 refine LM.val (ov_idxSN au6 Try.underlying129 Try.sizeOf136 rfl rfl (by omega)) ?_
 refine LM.val (ov_field Try.underlying136 rfl Try.sizeOf3 rfl (k := 5) rfl rfl) ?_
 refine LM.stS ({ gN (N1) ( is) with up :=  up }) (j := 5) (by assumption) (by intro _; rfl) Try.sizeOf3 rfl rfl rfl (by exact getq default (by first | omega | (simp only [nL_len, nR_len, nU_len, nC_len, List.length_set, List.length_append, List.length_cons, List.length_nil]; omega))) rfl (by decide) (by rfl) rfl (fun p hp _ => .inr (Sl.at_bn (by assumption) p hp)) (fun ms2 hss2 hmm2 => ?_)
 change Sl _ _ _ _ (nU (N1) ( is) ( up)) _ _ at hss2
 refine LM.nil (QM.sub (e' := []) trivial ?_)
 refine QM.leave (.inr rfl) [] Try.results115 rfl ?_
 intro w' hm' hc' hg'
 rw [he]; exact rt_leaf hs (by assumption) hm' au1 hc'
theorem rd_nRL (N : List Nd) (i v j : Nat) : ((nR N i v).getD j default).l = (N.getD j default).l := by
  show (gN (N.set i { gN N i with r := v }) j).l = (gN N j).l
  rw [gN_set]; split
  · rename_i h; rw [h.1]
  · rfl
theorem rd_nLR (N : List Nd) (i v j : Nat) : ((nL N i v).getD j default).r = (N.getD j default).r := by
  show (gN (N.set i { gN N i with l := v }) j).r = (gN N j).r
  rw [gN_set]; split
  · rename_i h; rw [h.1]
  · rfl
set_option maxRecDepth 100000 in
theorem turnL_spec {n0 b most bn n cap root first free cnt : Nat} {N : List Nd} {ms : Mem0} (i : Nat) (w : World) (hn : n = N.length) (hs : NdS n0 bn n cap N ms) (hw : WfS (N, root) N.length) (hi : i < N.length) (hM : Mem w (rtB b most bn n cap root first free cnt :: ms)) : Ret Try.prog 123 #[.pointer (some ⟨b, 0, none⟩), .int .i64 (i : Nat)] w (Upd (rtB b most bn n cap root first free cnt :: ms) (RtT n0 b most bn n cap (trnF (N, root) i true).2 first free cnt (trnF (N, root) i true).1) w) := by
 have hr : (N.getD i default).r < N.length := r_wf hw i; have hl : (N.getD (N.getD i default).r default).l < N.length := l_wf hw _; have hw1 : WfS (nR N i (N.getD (N.getD i default).r default).l, root) N.length := ⟨wf_sR hw.wf i hl, by rw [nR_len], hw.rt⟩; obtain ⟨r, hre⟩ : ∃ r, r = (N.getD i default).r := ⟨_, rfl⟩; obtain ⟨l, hle⟩ : ∃ l, l = (N.getD (N.getD i default).r default).l := ⟨_, rfl⟩
 refine Ret.enterM (l := [.pointer (some ⟨b, 0, none⟩), .int .i64 (i : Nat)]) Try.func123 rfl Try.ntmps123 rfl (rtB b most bn n cap root first free cnt :: ms) ((fun x => x = b ∨ x = bn)) hM ?_
 refine wpM.seq (wpM.region ?_)
 refine LM.mv rfl ?_
 refine LM.val (ov_nilCheck rfl) ?_
 refine LM.val (ov_field Try.underlying131 rfl Try.sizeOf129 rfl (k := 1) rfl rfl) ?_
 refine LM.rd (om_ld Try.isAgg129 rfl rfl) ?_
 refine LM.mv rfl ?_
 refine LM.val (ov_idxSN au6 Try.underlying129 Try.sizeOf136 rfl rfl (by omega)) ?_
 refine LM.val (ov_field Try.underlying136 rfl Try.sizeOf3 rfl (k := 4) rfl rfl) ?_
 refine LM.rd (om_slE (j := 4) (by assumption) (by intro _; rfl) Try.isAgg3 rfl rfl (by exact getq default (by first | omega | (simp only [nL_len, nR_len, nU_len, nC_len, List.length_set, List.length_append, List.length_cons, List.length_nil]; omega))) rfl (by rfl)) ?_
 refine LM.as rfl ?_
 refine LM.nil (QM.sub (e' := [(0, _), (1, _), (4, _)]) au9 (QM.then ?_))
 refine wpM.seq ?_
 refine wpM.draw [(0, 0), (1, 0), (2, 0), (3, 1), (4, 0), (5, 0), (6, 0), (7, 0), (8, 1), (9, 0), (10, 0), (11, 0), (12, 1), (13, 0), (14, 0), (15, 3)] (by kernel_rfl) (by kernel_rfl) ?_
 refine LD.val rfl rfl (ov_move rfl) ?_
 refine LD.val rfl rfl (ov_nilCheck rfl) ?_
 refine LD.val rfl rfl (ov_field Try.underlying131 rfl Try.sizeOf129 rfl (k := 1) rfl rfl) ?_
 refine LD.rd rfl rfl (om_ld Try.isAgg129 rfl rfl) ?_
 refine LD.val rfl rfl (ov_move rfl) ?_
 refine LD.val rfl rfl (ov_move rfl) ?_
 refine LD.val rfl rfl (ov_nilCheck rfl) ?_
 refine LD.val rfl rfl (ov_field Try.underlying131 rfl Try.sizeOf129 rfl (k := 1) rfl rfl) ?_
 refine LD.rd rfl rfl (om_ld Try.isAgg129 rfl rfl) ?_
 refine LD.val rfl rfl (ov_move rfl) ?_
 refine LD.val rfl rfl (ov_idxSN au6 Try.underlying129 Try.sizeOf136 rfl rfl (by omega)) ?_
 refine LD.val rfl rfl (ov_field Try.underlying136 rfl Try.sizeOf3 rfl (k := 3) rfl rfl) ?_
 refine LD.rd rfl rfl (om_slE (j := 3) (by assumption) (by intro _; rfl) Try.isAgg3 rfl rfl (by exact getq default (by first | omega | (simp only [nL_len, nR_len, nU_len, nC_len, List.length_set, List.length_append, List.length_cons, List.length_nil]; omega))) rfl (by rfl)) ?_
 refine LD.val rfl rfl (ov_idxSN au6 Try.underlying129 Try.sizeOf136 rfl rfl (by omega)) ?_
 refine LD.val rfl rfl (ov_field Try.underlying136 rfl Try.sizeOf3 rfl (k := 4) rfl rfl) ?_
 refine LD.tail rfl rfl ?_
 refine LM.stS ({ gN (N) ( i) with r :=  (N.getD (N.getD i default).r default).l }) (j := 4) (by assumption) (by intro _; rfl) Try.sizeOf3 rfl rfl rfl (by exact getq default (by first | omega | (simp only [nL_len, nR_len, nU_len, nC_len, List.length_set, List.length_append, List.length_cons, List.length_nil]; omega))) rfl (by decide) (by rfl) rfl (fun p hp _ => .inr (Sl.at_bn (by assumption) p hp)) (fun ms1 hss1 hmm1 => ?_)
 change Sl _ _ _ _ (nR (N) ( i) ( (N.getD (N.getD i default).r default).l)) _ _ at hss1
 refine LM.nil ?_
 refine QM.qn ?_
 refine QM.sub (e' := [(0, _), (1, _), (4, _)]) au9 (QM.then ?_)
 refine wpM.seq ?_
 refine wpM.seq (wpM.region ?_)
 refine LM.mv rfl ?_
 refine LM.val (ov_nilCheck rfl) ?_
 refine LM.val (ov_field Try.underlying131 rfl Try.sizeOf129 rfl (k := 1) rfl rfl) ?_
 refine LM.rd (om_ld Try.isAgg129 rfl rfl) ?_
 refine LM.mv rfl ?_
 refine LM.val (ov_idxSN au6 Try.underlying129 Try.sizeOf136 rfl rfl (by omega)) ?_
 refine LM.val (ov_field Try.underlying136 rfl Try.sizeOf3 rfl (k := 3) rfl rfl) ?_
 refine LM.rd (om_slE (j := 3) (by assumption) (by intro _; rfl) Try.isAgg3 rfl rfl (by exact getq default (by first | omega | (simp only [nL_len, nR_len, nU_len, nC_len, List.length_set, List.length_append, List.length_cons, List.length_nil]; omega))) rfl (by rfl)) ?_
 refine LM.as rfl ?_
 refine LM.nil (QM.sub (e' := [(0, _), (1, _), (4, _), (5, _)]) au9 (QM.then (wpM.seq (wpM.region ?_))))
 rw [rd_nRL]
 refine LM.mv rfl ?_
 refine LM.val (ov_neq rfl rfl) ?_
 refine LM.nil (QM.sub (e' := [(0, _), (1, _), (4, _), (5, _), (38, _)]) au9 (QM.then ?_))
 refine wpM.joinK (α := List Nd × Mem0) (fun ⟨N2, m2⟩ => []) [(0, _), (1, _), (4, _)] (fun ⟨N2, m2⟩ => rtB b most bn n cap root first free cnt :: (m2 ++ [])) (fun ⟨N2, m2⟩ => NdS n0 bn n cap N2 m2 ∧ WfS (N2, root) N.length ∧ N2 = (if (N.getD (N.getD i default).r default).l = 0 then nR N i (N.getD (N.getD i default).r default).l else nU (nR N i (N.getD (N.getD i default).r default).l) (N.getD (N.getD i default).r default).l i)) ⟨rfl, rfl, rfl, trivial⟩ ?_ ?_
 ·
  refine wpM.condD rfl (fun h1 => ?_) (fun h1 => ?_)
  ·
   refine wpM.region ?_
   refine LM.mv rfl ?_
   refine LM.val (ov_nilCheck rfl) ?_
   refine LM.val (ov_field Try.underlying131 rfl Try.sizeOf129 rfl (k := 1) rfl rfl) ?_
   refine LM.rd (om_ld Try.isAgg129 rfl rfl) ?_
   refine LM.mv rfl (LM.mv rfl ?_)
   refine LM.val (ov_idxSN au6 Try.underlying129 Try.sizeOf136 rfl rfl (by omega)) ?_
   refine LM.val (ov_field Try.underlying136 rfl Try.sizeOf3 rfl (k := 5) rfl rfl) ?_
   refine LM.stS ({ gN (nR N i (N.getD (N.getD i default).r default).l) ( (N.getD (N.getD i default).r default).l) with up :=  i }) (j := 5) (by assumption) (by intro _; rfl) Try.sizeOf3 rfl rfl rfl (by exact getq default (by first | omega | (simp only [nL_len, nR_len, nU_len, nC_len, List.length_set, List.length_append, List.length_cons, List.length_nil]; omega))) rfl (by decide) (by rfl) rfl (fun p hp _ => .inr (Sl.at_bn (by assumption) p hp)) (fun ms2 hss2 hmm2 => ?_)
   change Sl _ _ _ _ (nU (nR N i (N.getD (N.getD i default).r default).l) ( (N.getD (N.getD i default).r default).l) ( i)) _ _ at hss2
   refine LM.nil (QM.sub (e' := [(0, _), (1, _), (4, _)]) au9 ?_)
   refine QM.meetK (nU (nR N i (N.getD (N.getD i default).r default).l) (N.getD (N.getD i default).r default).l i, ms2) ⟨rfl, rfl, rfl, trivial⟩ au1 ?_
   · exact ⟨by assumption, ⟨wf_sU hw1.wf _ (by rw [hw1.len]; exact hi), by rw [nU_len]; exact hw1.len, hw.rt⟩, (if_neg (fun q => h1 (Int.natCast_inj.2 q))).symm⟩
  refine wpM.skip ?_
  refine QM.meetK (nR N i (N.getD (N.getD i default).r default).l, ms1) ⟨rfl, rfl, rfl, trivial⟩ au1 ?_
  · exact ⟨by assumption, hw1, (if_pos (Int.natCast_inj.1 (Classical.not_not.1 h1))).symm⟩
 rintro ⟨N2, m2⟩ ⟨hs2, hw2, he⟩
 change QM _ _ _ _ _ (rtB b most bn n cap root first free cnt :: (m2 ++ [])) _ _ _
 have hl2 := hw2.len; simp only at hl2; have hu2 : (N2.getD i default).up < N.length := up_wf hw2 i
 refine QM.then (wpM.seq (wpM.region ?_))
 refine LM.mv rfl (LM.mv rfl ?_)
 refine LM.val (ov_nilCheck rfl) ?_
 refine LM.val (ov_field Try.underlying131 rfl Try.sizeOf129 rfl (k := 1) rfl rfl) ?_
 refine LM.rd (om_ld Try.isAgg129 rfl rfl) ?_
 refine LM.mv rfl ?_
 refine LM.val (ov_idxSN au6 Try.underlying129 Try.sizeOf136 rfl rfl (by omega)) ?_
 refine LM.val (ov_field Try.underlying136 rfl Try.sizeOf3 rfl (k := 5) rfl rfl) ?_
 refine LM.rd (om_slE (j := 5) (by assumption) (by intro _; rfl) Try.isAgg3 rfl rfl (by exact getq default (by first | omega | (simp only [nL_len, nR_len, nU_len, nC_len, List.length_set, List.length_append, List.length_cons, List.length_nil]; omega))) rfl (by rfl)) ?_
 refine LM.mv rfl (LM.mv rfl ?_)
 refine LM.cU (oc_call (enters_fn Try.func115 (by kernel_rfl) rfl) rfl) (fun w hm hc hg => swap_spec (N := N2) (N2.getD i default).up i (N.getD i default).r w (hn.trans hl2.symm) hs2 (by rw [hl2]; exact hu2) (by rw [hl2]; exact hr) (hm.pick (rtB b most bn n cap root first free cnt :: m2))) (rt_wlk hs2) (rt_hS hs2) ?_
 rintro u58 m58 ⟨rfl, m3, rfl, hs3⟩ -; have hw3 := swp_wf hw2 hu2 (was := i) hr; have hl3 := hw3.len; generalize hS3 : swpF (N2, root) (N2.getD i default).up i (N.getD i default).r = S3 at *
 refine LM.nil (QM.sub (e' := [(0, _), (1, _), (4, _)]) au9 (QM.then (wpM.seq (wpM.region ?_))))
 refine LM.mv rfl ?_
 refine LM.val (ov_nilCheck rfl) ?_
 refine LM.val (ov_field Try.underlying131 rfl Try.sizeOf129 rfl (k := 1) rfl rfl) ?_
 refine LM.rd (om_ld Try.isAgg129 rfl rfl) ?_
 refine LM.mv rfl (LM.mv rfl ?_)
 refine LM.val (ov_idxSN au6 Try.underlying129 Try.sizeOf136 rfl rfl (by omega)) ?_
 refine LM.val (ov_field Try.underlying136 rfl Try.sizeOf3 rfl (k := 3) rfl rfl) ?_
 refine LM.stS ({ gN (S3.1) ( (N.getD i default).r) with l :=  i }) (j := 3) (by assumption) (by intro _; rfl) Try.sizeOf3 rfl rfl rfl (by exact getq default (by first | omega | (simp only [nL_len, nR_len, nU_len, nC_len, List.length_set, List.length_append, List.length_cons, List.length_nil]; omega))) rfl (by decide) (by rfl) rfl (fun p hp _ => .inr (Sl.at_bn (by assumption) p hp)) (fun ms2 hss2 hmm2 => ?_)
 change Sl _ _ _ _ (nL (S3.1) ( (N.getD i default).r) ( i)) _ _ at hss2
 refine LM.nil (QM.sub (e' := [(0, _), (1, _), (4, _)]) au9 (QM.then (wpM.region ?_)))
 refine LM.mv rfl ?_
 refine LM.val (ov_nilCheck rfl) ?_
 refine LM.val (ov_field Try.underlying131 rfl Try.sizeOf129 rfl (k := 1) rfl rfl) ?_
 refine LM.rd (om_ld Try.isAgg129 rfl rfl) ?_
 refine LM.mv rfl (LM.mv rfl ?_)
 refine LM.val (ov_idxSN au6 Try.underlying129 Try.sizeOf136 rfl rfl (by omega)) ?_
 refine LM.val (ov_field Try.underlying136 rfl Try.sizeOf3 rfl (k := 5) rfl rfl) ?_
 refine LM.stS ({ gN (nL S3.1 (N.getD i default).r i) ( i) with up :=  (N.getD i default).r }) (j := 5) (by assumption) (by intro _; rfl) Try.sizeOf3 rfl rfl rfl (by exact getq default (by first | omega | (simp only [nL_len, nR_len, nU_len, nC_len, List.length_set, List.length_append, List.length_cons, List.length_nil]; omega))) rfl (by decide) (by rfl) rfl (fun p hp _ => .inr (Sl.at_bn (by assumption) p hp)) (fun ms3 hss3 hmm3 => ?_)
 change Sl _ _ _ _ (nU (nL S3.1 (N.getD i default).r i) ( i) ( (N.getD i default).r)) _ _ at hss3
 refine LM.nil (QM.sub (e' := []) trivial ?_)
 refine QM.leave (.inr rfl) [] Try.results123 rfl ?_
 intro w' hm' hc' hg'
 have e : trnF (N, root) i true = (nU (nL S3.1 (N.getD i default).r i) i (N.getD i default).r, S3.2) := (by rw [← hS3, he]; rfl)
 rw [e]; exact rt_leaf hs (by assumption) hm' au1 hc'
set_option maxRecDepth 100000 in
theorem turnR_spec {n0 b most bn n cap root first free cnt : Nat} {N : List Nd} {ms : Mem0} (i : Nat) (w : World) (hn : n = N.length) (hs : NdS n0 bn n cap N ms) (hw : WfS (N, root) N.length) (hi : i < N.length) (hM : Mem w (rtB b most bn n cap root first free cnt :: ms)) : Ret Try.prog 124 #[.pointer (some ⟨b, 0, none⟩), .int .i64 (i : Nat)] w (Upd (rtB b most bn n cap root first free cnt :: ms) (RtT n0 b most bn n cap (trnF (N, root) i false).2 first free cnt (trnF (N, root) i false).1) w) := by
 have hr : (N.getD i default).l < N.length := l_wf hw i; have hl : (N.getD (N.getD i default).l default).r < N.length := r_wf hw _; have hw1 : WfS (nL N i (N.getD (N.getD i default).l default).r, root) N.length := ⟨wf_sL hw.wf i hl, by rw [nL_len], hw.rt⟩; obtain ⟨r, hre⟩ : ∃ r, r = (N.getD i default).l := ⟨_, rfl⟩; obtain ⟨l, hle⟩ : ∃ l, l = (N.getD (N.getD i default).l default).r := ⟨_, rfl⟩
 refine Ret.enterM (l := [.pointer (some ⟨b, 0, none⟩), .int .i64 (i : Nat)]) Try.func124 rfl Try.ntmps124 rfl (rtB b most bn n cap root first free cnt :: ms) ((fun x => x = b ∨ x = bn)) hM ?_
 refine wpM.seq (wpM.region ?_)
 refine LM.mv rfl ?_
 refine LM.val (ov_nilCheck rfl) ?_
 refine LM.val (ov_field Try.underlying131 rfl Try.sizeOf129 rfl (k := 1) rfl rfl) ?_
 refine LM.rd (om_ld Try.isAgg129 rfl rfl) ?_
 refine LM.mv rfl ?_
 refine LM.val (ov_idxSN au6 Try.underlying129 Try.sizeOf136 rfl rfl (by omega)) ?_
 refine LM.val (ov_field Try.underlying136 rfl Try.sizeOf3 rfl (k := 3) rfl rfl) ?_
 refine LM.rd (om_slE (j := 3) (by assumption) (by intro _; rfl) Try.isAgg3 rfl rfl (by exact getq default (by first | omega | (simp only [nL_len, nR_len, nU_len, nC_len, List.length_set, List.length_append, List.length_cons, List.length_nil]; omega))) rfl (by rfl)) ?_
 refine LM.as rfl ?_
 refine LM.nil (QM.sub (e' := [(0, _), (1, _), (4, _)]) au9 (QM.then ?_))
 refine wpM.seq ?_
 refine wpM.draw [(0, 0), (1, 0), (2, 0), (3, 1), (4, 0), (5, 0), (6, 0), (7, 0), (8, 1), (9, 0), (10, 0), (11, 0), (12, 1), (13, 0), (14, 0), (15, 3)] (by kernel_rfl) (by kernel_rfl) ?_
 refine LD.val rfl rfl (ov_move rfl) ?_
 refine LD.val rfl rfl (ov_nilCheck rfl) ?_
 refine LD.val rfl rfl (ov_field Try.underlying131 rfl Try.sizeOf129 rfl (k := 1) rfl rfl) ?_
 refine LD.rd rfl rfl (om_ld Try.isAgg129 rfl rfl) ?_
 refine LD.val rfl rfl (ov_move rfl) ?_
 refine LD.val rfl rfl (ov_move rfl) ?_
 refine LD.val rfl rfl (ov_nilCheck rfl) ?_
 refine LD.val rfl rfl (ov_field Try.underlying131 rfl Try.sizeOf129 rfl (k := 1) rfl rfl) ?_
 refine LD.rd rfl rfl (om_ld Try.isAgg129 rfl rfl) ?_
 refine LD.val rfl rfl (ov_move rfl) ?_
 refine LD.val rfl rfl (ov_idxSN au6 Try.underlying129 Try.sizeOf136 rfl rfl (by omega)) ?_
 refine LD.val rfl rfl (ov_field Try.underlying136 rfl Try.sizeOf3 rfl (k := 4) rfl rfl) ?_
 refine LD.rd rfl rfl (om_slE (j := 4) (by assumption) (by intro _; rfl) Try.isAgg3 rfl rfl (by exact getq default (by first | omega | (simp only [nL_len, nR_len, nU_len, nC_len, List.length_set, List.length_append, List.length_cons, List.length_nil]; omega))) rfl (by rfl)) ?_
 refine LD.val rfl rfl (ov_idxSN au6 Try.underlying129 Try.sizeOf136 rfl rfl (by omega)) ?_
 refine LD.val rfl rfl (ov_field Try.underlying136 rfl Try.sizeOf3 rfl (k := 3) rfl rfl) ?_
 refine LD.tail rfl rfl ?_
 refine LM.stS ({ gN (N) ( i) with l :=  (N.getD (N.getD i default).l default).r }) (j := 3) (by assumption) (by intro _; rfl) Try.sizeOf3 rfl rfl rfl (by exact getq default (by first | omega | (simp only [nL_len, nR_len, nU_len, nC_len, List.length_set, List.length_append, List.length_cons, List.length_nil]; omega))) rfl (by decide) (by rfl) rfl (fun p hp _ => .inr (Sl.at_bn (by assumption) p hp)) (fun ms1 hss1 hmm1 => ?_)
 change Sl _ _ _ _ (nL (N) ( i) ( (N.getD (N.getD i default).l default).r)) _ _ at hss1
 refine LM.nil ?_
 refine QM.qn ?_
 refine QM.sub (e' := [(0, _), (1, _), (4, _)]) au9 (QM.then ?_)
 refine wpM.seq ?_
 refine wpM.seq (wpM.region ?_)
 refine LM.mv rfl ?_
 refine LM.val (ov_nilCheck rfl) ?_
 refine LM.val (ov_field Try.underlying131 rfl Try.sizeOf129 rfl (k := 1) rfl rfl) ?_
 refine LM.rd (om_ld Try.isAgg129 rfl rfl) ?_
 refine LM.mv rfl ?_
 refine LM.val (ov_idxSN au6 Try.underlying129 Try.sizeOf136 rfl rfl (by omega)) ?_
 refine LM.val (ov_field Try.underlying136 rfl Try.sizeOf3 rfl (k := 4) rfl rfl) ?_
 refine LM.rd (om_slE (j := 4) (by assumption) (by intro _; rfl) Try.isAgg3 rfl rfl (by exact getq default (by first | omega | (simp only [nL_len, nR_len, nU_len, nC_len, List.length_set, List.length_append, List.length_cons, List.length_nil]; omega))) rfl (by rfl)) ?_
 refine LM.as rfl ?_
 refine LM.nil (QM.sub (e' := [(0, _), (1, _), (4, _), (5, _)]) au9 (QM.then (wpM.seq (wpM.region ?_))))
 rw [rd_nLR]
 refine LM.mv rfl ?_
 refine LM.val (ov_neq rfl rfl) ?_
 refine LM.nil (QM.sub (e' := [(0, _), (1, _), (4, _), (5, _), (38, _)]) au9 (QM.then ?_))
 refine wpM.joinK (α := List Nd × Mem0) (fun ⟨N2, m2⟩ => []) [(0, _), (1, _), (4, _)] (fun ⟨N2, m2⟩ => rtB b most bn n cap root first free cnt :: (m2 ++ [])) (fun ⟨N2, m2⟩ => NdS n0 bn n cap N2 m2 ∧ WfS (N2, root) N.length ∧ N2 = (if (N.getD (N.getD i default).l default).r = 0 then nL N i (N.getD (N.getD i default).l default).r else nU (nL N i (N.getD (N.getD i default).l default).r) (N.getD (N.getD i default).l default).r i)) ⟨rfl, rfl, rfl, trivial⟩ ?_ ?_
 ·
  refine wpM.condD rfl (fun h1 => ?_) (fun h1 => ?_)
  ·
   refine wpM.region ?_
   refine LM.mv rfl ?_
   refine LM.val (ov_nilCheck rfl) ?_
   refine LM.val (ov_field Try.underlying131 rfl Try.sizeOf129 rfl (k := 1) rfl rfl) ?_
   refine LM.rd (om_ld Try.isAgg129 rfl rfl) ?_
   refine LM.mv rfl (LM.mv rfl ?_)
   refine LM.val (ov_idxSN au6 Try.underlying129 Try.sizeOf136 rfl rfl (by omega)) ?_
   refine LM.val (ov_field Try.underlying136 rfl Try.sizeOf3 rfl (k := 5) rfl rfl) ?_
   refine LM.stS ({ gN (nL N i (N.getD (N.getD i default).l default).r) ( (N.getD (N.getD i default).l default).r) with up :=  i }) (j := 5) (by assumption) (by intro _; rfl) Try.sizeOf3 rfl rfl rfl (by exact getq default (by first | omega | (simp only [nL_len, nR_len, nU_len, nC_len, List.length_set, List.length_append, List.length_cons, List.length_nil]; omega))) rfl (by decide) (by rfl) rfl (fun p hp _ => .inr (Sl.at_bn (by assumption) p hp)) (fun ms2 hss2 hmm2 => ?_)
   change Sl _ _ _ _ (nU (nL N i (N.getD (N.getD i default).l default).r) ( (N.getD (N.getD i default).l default).r) ( i)) _ _ at hss2
   refine LM.nil (QM.sub (e' := [(0, _), (1, _), (4, _)]) au9 ?_)
   refine QM.meetK (nU (nL N i (N.getD (N.getD i default).l default).r) (N.getD (N.getD i default).l default).r i, ms2) ⟨rfl, rfl, rfl, trivial⟩ au1 ?_
   · exact ⟨by assumption, ⟨wf_sU hw1.wf _ (by rw [hw1.len]; exact hi), by rw [nU_len]; exact hw1.len, hw.rt⟩, (if_neg (fun q => h1 (Int.natCast_inj.2 q))).symm⟩
  refine wpM.skip ?_
  refine QM.meetK (nL N i (N.getD (N.getD i default).l default).r, ms1) ⟨rfl, rfl, rfl, trivial⟩ au1 ?_
  · exact ⟨by assumption, hw1, (if_pos (Int.natCast_inj.1 (Classical.not_not.1 h1))).symm⟩
 rintro ⟨N2, m2⟩ ⟨hs2, hw2, he⟩
 change QM _ _ _ _ _ (rtB b most bn n cap root first free cnt :: (m2 ++ [])) _ _ _
 have hl2 := hw2.len; simp only at hl2; have hu2 : (N2.getD i default).up < N.length := up_wf hw2 i
 refine QM.then (wpM.seq (wpM.region ?_))
 refine LM.mv rfl (LM.mv rfl ?_)
 refine LM.val (ov_nilCheck rfl) ?_
 refine LM.val (ov_field Try.underlying131 rfl Try.sizeOf129 rfl (k := 1) rfl rfl) ?_
 refine LM.rd (om_ld Try.isAgg129 rfl rfl) ?_
 refine LM.mv rfl ?_
 refine LM.val (ov_idxSN au6 Try.underlying129 Try.sizeOf136 rfl rfl (by omega)) ?_
 refine LM.val (ov_field Try.underlying136 rfl Try.sizeOf3 rfl (k := 5) rfl rfl) ?_
 refine LM.rd (om_slE (j := 5) (by assumption) (by intro _; rfl) Try.isAgg3 rfl rfl (by exact getq default (by first | omega | (simp only [nL_len, nR_len, nU_len, nC_len, List.length_set, List.length_append, List.length_cons, List.length_nil]; omega))) rfl (by rfl)) ?_
 refine LM.mv rfl (LM.mv rfl ?_)
 refine LM.cU (oc_call (enters_fn Try.func115 (by kernel_rfl) rfl) rfl) (fun w hm hc hg => swap_spec (N := N2) (N2.getD i default).up i (N.getD i default).l w (hn.trans hl2.symm) hs2 (by rw [hl2]; exact hu2) (by rw [hl2]; exact hr) (hm.pick (rtB b most bn n cap root first free cnt :: m2))) (rt_wlk hs2) (rt_hS hs2) ?_
 rintro u58 m58 ⟨rfl, m3, rfl, hs3⟩ -; have hw3 := swp_wf hw2 hu2 (was := i) hr; have hl3 := hw3.len; generalize hS3 : swpF (N2, root) (N2.getD i default).up i (N.getD i default).l = S3 at *
 refine LM.nil (QM.sub (e' := [(0, _), (1, _), (4, _)]) au9 (QM.then (wpM.seq (wpM.region ?_))))
 refine LM.mv rfl ?_
 refine LM.val (ov_nilCheck rfl) ?_
 refine LM.val (ov_field Try.underlying131 rfl Try.sizeOf129 rfl (k := 1) rfl rfl) ?_
 refine LM.rd (om_ld Try.isAgg129 rfl rfl) ?_
 refine LM.mv rfl (LM.mv rfl ?_)
 refine LM.val (ov_idxSN au6 Try.underlying129 Try.sizeOf136 rfl rfl (by omega)) ?_
 refine LM.val (ov_field Try.underlying136 rfl Try.sizeOf3 rfl (k := 4) rfl rfl) ?_
 refine LM.stS ({ gN (S3.1) ( (N.getD i default).l) with r :=  i }) (j := 4) (by assumption) (by intro _; rfl) Try.sizeOf3 rfl rfl rfl (by exact getq default (by first | omega | (simp only [nL_len, nR_len, nU_len, nC_len, List.length_set, List.length_append, List.length_cons, List.length_nil]; omega))) rfl (by decide) (by rfl) rfl (fun p hp _ => .inr (Sl.at_bn (by assumption) p hp)) (fun ms2 hss2 hmm2 => ?_)
 change Sl _ _ _ _ (nR (S3.1) ( (N.getD i default).l) ( i)) _ _ at hss2
 refine LM.nil (QM.sub (e' := [(0, _), (1, _), (4, _)]) au9 (QM.then (wpM.region ?_)))
 refine LM.mv rfl ?_
 refine LM.val (ov_nilCheck rfl) ?_
 refine LM.val (ov_field Try.underlying131 rfl Try.sizeOf129 rfl (k := 1) rfl rfl) ?_
 refine LM.rd (om_ld Try.isAgg129 rfl rfl) ?_
 refine LM.mv rfl (LM.mv rfl ?_)
 refine LM.val (ov_idxSN au6 Try.underlying129 Try.sizeOf136 rfl rfl (by omega)) ?_
 refine LM.val (ov_field Try.underlying136 rfl Try.sizeOf3 rfl (k := 5) rfl rfl) ?_
 refine LM.stS ({ gN (nR S3.1 (N.getD i default).l i) ( i) with up :=  (N.getD i default).l }) (j := 5) (by assumption) (by intro _; rfl) Try.sizeOf3 rfl rfl rfl (by exact getq default (by first | omega | (simp only [nL_len, nR_len, nU_len, nC_len, List.length_set, List.length_append, List.length_cons, List.length_nil]; omega))) rfl (by decide) (by rfl) rfl (fun p hp _ => .inr (Sl.at_bn (by assumption) p hp)) (fun ms3 hss3 hmm3 => ?_)
 change Sl _ _ _ _ (nU (nR S3.1 (N.getD i default).l i) ( i) ( (N.getD i default).l)) _ _ at hss3
 refine LM.nil (QM.sub (e' := []) trivial ?_)
 refine QM.leave (.inr rfl) [] Try.results124 rfl ?_
 intro w' hm' hc' hg'
 have e : trnF (N, root) i false = (nU (nR S3.1 (N.getD i default).l i) i (N.getD i default).l, S3.2) := (by rw [← hS3, he]; rfl)
 rw [e]; exact rt_leaf hs (by assumption) hm' au1 hc'
set_option maxRecDepth 100000 in
theorem turn_spec {n0 b most bn n cap root first free cnt : Nat} {N : List Nd} {ms : Mem0} (i : Nat) (s : Bool) (w : World) (hn : n = N.length) (hs : NdS n0 bn n cap N ms) (hw : WfS (N, root) N.length) (hi : i < N.length) (hM : Mem w (rtB b most bn n cap root first free cnt :: ms)) : Ret Try.prog 113 #[.pointer (some ⟨b, 0, none⟩), .int .i64 (i : Nat), .bool s] w (Upd (rtB b most bn n cap root first free cnt :: ms) (RtT n0 b most bn n cap (trnF (N, root) i s).2 first free cnt (trnF (N, root) i s).1) w) := by
 refine Ret.enterM (l := [.pointer (some ⟨b, 0, none⟩), .int .i64 (i : Nat), .bool s]) Try.func113 rfl Try.ntmps113 rfl (rtB b most bn n cap root first free cnt :: ms) ((fun x => x = b ∨ x = bn)) hM ?_
 refine wpM.seq ?_
 refine wpM.seq (wpM.region ?_)
 refine LM.mv rfl ?_
 refine LM.nil (QM.sub (e' := [(0, _), (1, _), (6, _)]) au9 (QM.then ?_))
 first | refine wpM.condD rfl (fun h1 => ?_) (fun h1 => ?_) | refine wpM.condB rfl (fun h1 => ?_) (fun h1 => ?_)
 ·
  refine wpM.seq (wpM.region ?_)
  refine LM.mv rfl (LM.mv rfl ?_)
  refine LM.cU (oc_call (enters_fn Try.func123 (by kernel_rfl) rfl) rfl) (fun w hm hc hg => turnL_spec i w hn hs hw hi (hm.pick (rtB b most bn n cap root first free cnt :: ms))) (rt_wlk hs) (rt_hS hs) ?_
  rintro u9 m9 ⟨rfl, m3, rfl, hs3⟩ -
  refine LM.nil (QM.sub (e' := []) trivial (QM.then ?_))
  refine wpM.ret ?_
  refine QM.then_ret ?_
  refine QM.leave (.inl rfl) [] Try.results113 rfl ?_
  intro w' hm' hc' hg'
  subst h1; exact rt_leaf hs hs3 hm' au1 hc'
 refine wpM.skip ?_
 refine QM.then (wpM.region ?_)
 refine LM.mv rfl (LM.mv rfl ?_)
 refine LM.cU (oc_call (enters_fn Try.func124 (by kernel_rfl) rfl) rfl) (fun w hm hc hg => turnR_spec i w hn hs hw hi (hm.pick (rtB b most bn n cap root first free cnt :: ms))) (rt_wlk hs) (rt_hS hs) ?_
 rintro u9 m9 ⟨rfl, m3, rfl, hs3⟩ -
 refine LM.nil (QM.sub (e' := []) trivial ?_)
 refine QM.leave (.inr rfl) [] Try.results113 rfl ?_
 intro w' hm' hc' hg'
 subst h1; exact rt_leaf hs hs3 hm' au1 hc'
end Go.Eng
namespace Go.Eng
open Go Go.Proofs Go.RowKit
theorem dec_nat (a b : Nat) : decide ((a : Int) = (b : Int)) = decide (a = b) := decide_eq_decide.2 Int.natCast_inj
set_option maxRecDepth 100000 in
set_option maxHeartbeats 1000000 in
theorem grown_spec {n0 b most bn n cap root first free cnt : Nat} {N : List Nd} {ms : Mem0} {S' : Ns} (f i : Nat) (w : World) (hg : grwF f (N, root) i = some S') (hn : n = N.length) (hs : NdS n0 bn n cap N ms) (hw : WfS (N, root) N.length) (hi : i < N.length) (hM : Mem w (rtB b most bn n cap root first free cnt :: ms)) : Ret Try.prog 92 #[.pointer (some ⟨b, 0, none⟩), .int .i64 (i : Nat)] w (Upd (rtB b most bn n cap root first free cnt :: ms) (RtT n0 b most bn n cap S'.2 first free cnt S'.1) w) := by
 refine Ret.enterM (l := [.pointer (some ⟨b, 0, none⟩), .int .i64 (i : Nat)]) Try.func92 rfl Try.ntmps92 rfl (rtB b most bn n cap root first free cnt :: ms) ((fun x => x = b ∨ x = bn)) hM ?_
 refine wpM.seq ?_
 refine wpM.block ?_
 refine wpM.loopK0 (α := Nat × List Nd × Nat × Nat × Mem0) (fun ⟨k, N1, root1, i1, m1⟩ => [(1, .int .i64 (i1 : Nat))]) [(0, _)] (fun ⟨k, N1, root1, i1, m1⟩ => rtB b most bn n cap root1 first free cnt :: (m1 ++ [])) (fun ⟨k, N1, root1, i1, m1⟩ => NdS n0 bn n cap N1 m1 ∧ WfS (N1, root1) N.length ∧ i1 < N.length ∧ grwF k (N1, root1) i1 = some S') (fun ⟨k, N1, root1, i1, m1⟩ => k) ((f, N, root, i, ms)) ⟨au2, rfl, trivial⟩ au1 ⟨hs, hw, hi, hg⟩ ?_
 rintro ⟨k, N1, root1, i1, m1⟩ ⟨hs1, hw1, hi1, hgr⟩
 change wpM _ _ _ _ _ _ _ (rtB b most bn n cap root1 first free cnt :: (m1 ++ [])) _ _ _
 obtain ⟨k, rfl⟩ : ∃ k', k = k' + 1 := (by cases k with | zero => cases hgr | succ k => exact ⟨k, rfl⟩); rw [grwF] at hgr; have hl1 : N1.length = N.length := hw1.len; have hu1 : (N1.getD i1 default).up < N.length := up_wf hw1 i1; have ht1 : (N1.getD (N1.getD i1 default).up default).up < N.length := up_wf hw1 _; have hr1 : root1 < N.length := hw1.rt
 refine wpM.seq ?_
 refine wpM.seq ?_
 refine wpM.draw [(0, 0), (1, 0), (2, 0), (3, 1), (4, 0), (5, 0), (6, 0), (7, 1), (8, 0), (9, 0), (10, 0), (11, 1), (12, 0), (13, 0), (14, 1)] (by kernel_rfl) (by kernel_rfl) ?_
 refine LD.val rfl rfl (ov_move rfl) ?_
 refine LD.val rfl rfl (ov_nilCheck rfl) ?_
 refine LD.val rfl rfl (ov_field Try.underlying131 rfl Try.sizeOf129 rfl (k := 1) rfl rfl) ?_
 refine LD.rd rfl rfl (om_ld Try.isAgg129 rfl rfl) ?_
 refine LD.val rfl rfl (ov_move rfl) ?_
 refine LD.val rfl rfl (ov_nilCheck rfl) ?_
 refine LD.val rfl rfl (ov_field Try.underlying131 rfl Try.sizeOf129 rfl (k := 1) rfl rfl) ?_
 refine LD.rd rfl rfl (om_ld Try.isAgg129 rfl rfl) ?_
 refine LD.val rfl rfl (ov_move rfl) ?_
 refine LD.val rfl rfl (ov_idxSN au6 Try.underlying129 Try.sizeOf136 rfl rfl (by omega)) ?_
 refine LD.val rfl rfl (ov_field Try.underlying136 rfl Try.sizeOf3 rfl (k := 5) rfl rfl) ?_
 refine LD.rd rfl rfl (om_slE (j := 5) (by assumption) (by intro _; rfl) Try.isAgg3 rfl rfl (by exact getq default (by first | omega | (simp only [nL_len, nR_len, nU_len, nC_len, List.length_set, List.length_append, List.length_cons, List.length_nil]; omega))) rfl (by rfl)) ?_
 refine LD.val rfl rfl (ov_idxSN au6 Try.underlying129 Try.sizeOf136 rfl rfl (by omega)) ?_
 refine LD.val rfl rfl (ov_field Try.underlying136 rfl Try.sizeOf4 rfl (k := 6) rfl rfl) ?_
 refine LD.rd rfl rfl (om_slE (j := 6) (by assumption) (by intro _; rfl) Try.isAgg4 rfl rfl (by exact getq default (by first | omega | (simp only [nL_len, nR_len, nU_len, nC_len, List.length_set, List.length_append, List.length_cons, List.length_nil]; omega))) rfl (by rfl)) ?_
 refine LD.nil ?_
 refine QM.sub (e' := [(0, _), (1, _), (22, _)]) au9 (QM.then ?_)
 first | refine wpM.condD rfl (fun h1 => ?_) (fun h1 => ?_) | refine wpM.condB rfl (fun h1 => ?_) (fun h1 => ?_)
 ·
  rw [if_pos h1] at hgr; dsimp only at hgr; obtain ⟨s, hse⟩ : ∃ s, s = decide ((gN N1 (gN N1 (gN N1 i1).up).up).l = (gN N1 i1).up) := ⟨_, rfl⟩; have hc1 : (N1.getD (N1.getD (N1.getD i1 default).up default).up default).ch (!s) < N.length := ch_wf hw1 _ _
  refine wpM.skip ?_
  refine QM.then ?_
  refine wpM.block ?_
  refine wpM.seq (wpM.region ?_)
  refine LM.mv rfl ?_
  refine LM.val (ov_nilCheck rfl) ?_
  refine LM.val (ov_field Try.underlying131 rfl Try.sizeOf129 rfl (k := 1) rfl rfl) ?_
  refine LM.rd (om_ld Try.isAgg129 rfl rfl) ?_
  refine LM.mv rfl ?_
  refine LM.val (ov_idxSN au6 Try.underlying129 Try.sizeOf136 rfl rfl (by omega)) ?_
  refine LM.val (ov_field Try.underlying136 rfl Try.sizeOf3 rfl (k := 5) rfl rfl) ?_
  refine LM.rd (om_slE (j := 5) (by assumption) (by intro _; rfl) Try.isAgg3 rfl rfl (by exact getq default (by first | omega | (simp only [nL_len, nR_len, nU_len, nC_len, List.length_set, List.length_append, List.length_cons, List.length_nil]; omega))) rfl (by rfl)) ?_
  refine LM.as rfl ?_
  refine LM.nil (QM.sub (e' := [(0, _), (1, _), (4, _)]) au9 (QM.then (wpM.seq (wpM.region ?_))))
  refine LM.mv rfl ?_
  refine LM.val (ov_nilCheck rfl) ?_
  refine LM.val (ov_field Try.underlying131 rfl Try.sizeOf129 rfl (k := 1) rfl rfl) ?_
  refine LM.rd (om_ld Try.isAgg129 rfl rfl) ?_
  refine LM.mv rfl ?_
  refine LM.val (ov_idxSN au6 Try.underlying129 Try.sizeOf136 rfl rfl (by omega)) ?_
  refine LM.val (ov_field Try.underlying136 rfl Try.sizeOf3 rfl (k := 5) rfl rfl) ?_
  refine LM.rd (om_slE (j := 5) (by assumption) (by intro _; rfl) Try.isAgg3 rfl rfl (by exact getq default (by first | omega | (simp only [nL_len, nR_len, nU_len, nC_len, List.length_set, List.length_append, List.length_cons, List.length_nil]; omega))) rfl (by rfl)) ?_
  refine LM.as rfl ?_
  refine LM.nil (QM.sub (e' := [(0, _), (1, _), (4, _), (5, _)]) au9 (QM.then (wpM.seq (wpM.region ?_))))
  refine LM.mv rfl ?_
  refine LM.val (ov_nilCheck rfl) ?_
  refine LM.val (ov_field Try.underlying131 rfl Try.sizeOf129 rfl (k := 1) rfl rfl) ?_
  refine LM.rd (om_ld Try.isAgg129 rfl rfl) ?_
  refine LM.mv rfl ?_
  refine LM.val (ov_idxSN au6 Try.underlying129 Try.sizeOf136 rfl rfl (by omega)) ?_
  refine LM.val (ov_field Try.underlying136 rfl Try.sizeOf3 rfl (k := 3) rfl rfl) ?_
  refine LM.rd (om_slE (j := 3) (by assumption) (by intro _; rfl) Try.isAgg3 rfl rfl (by exact getq default (by first | omega | (simp only [nL_len, nR_len, nU_len, nC_len, List.length_set, List.length_append, List.length_cons, List.length_nil]; omega))) rfl (by rfl)) ?_
  refine LM.mv rfl ?_
  refine LM.val (ov_eql rfl rfl) ?_
  refine LM.as rfl ?_
  refine LM.nil (QM.sub (e' := [(0, _), (1, _), (4, _), (5, _), (6, _)]) au9 (QM.then ?_))
  refine wpM.seq ?_
  refine wpM.seq (wpM.region ?_)
  rw [dec_nat, ← hse]; rw [← hse] at hgr
  refine LM.mv rfl (LM.mv rfl (LM.mv rfl ?_))
  first | refine LM.val (ov_notD rfl) ?_ | refine LM.val (ov_not rfl) ?_
  refine LM.callE (oc_call (enters_fn Try.func112 (by kernel_rfl) rfl) rfl) (fun w hm hc hg => below_spec (N := N1) (N1.getD (N1.getD i1 default).up default).up (!s) w (hn.trans hl1.symm) hs1 (by rw [hl1]; exact ht1) (hm.pick (rtB b most bn n cap root1 first free cnt :: m1))) ?_
  refine LM.as rfl ?_
  refine LM.nil (QM.sub (e' := [(0, _), (1, _), (4, _), (5, _), (6, _), (7, _)]) au9 (QM.then (wpM.seq (wpM.region ?_))))
  refine LM.mv rfl ?_
  refine LM.val (ov_nilCheck rfl) ?_
  refine LM.val (ov_field Try.underlying131 rfl Try.sizeOf129 rfl (k := 1) rfl rfl) ?_
  refine LM.rd (om_ld Try.isAgg129 rfl rfl) ?_
  refine LM.mv rfl ?_
  refine LM.val (ov_idxSN au6 Try.underlying129 Try.sizeOf136 rfl rfl (by omega)) ?_
  refine LM.val (ov_field Try.underlying136 rfl Try.sizeOf4 rfl (k := 6) rfl rfl) ?_
  refine LM.rd (om_slE (j := 6) (by assumption) (by intro _; rfl) Try.isAgg4 rfl rfl (by exact getq default (by first | omega | (simp only [nL_len, nR_len, nU_len, nC_len, List.length_set, List.length_append, List.length_cons, List.length_nil]; omega))) rfl (by rfl)) ?_
  refine LM.nil (QM.sub (e' := [(0, _), (1, _), (4, _), (5, _), (6, _), (7, _), (61, _)]) au9 (QM.then ?_))
  first | refine wpM.condD rfl (fun h2 => ?_) (fun h2 => ?_) | refine wpM.condB rfl (fun h2 => ?_) (fun h2 => ?_)
  ·
   rw [if_pos h2] at hgr
   refine wpM.seq ?_
   refine wpM.draw [(0, 0), (1, 0), (2, 0), (3, 1), (4, 0), (5, 0), (6, 0), (7, 0), (8, 1), (9, 0), (10, 0), (11, 0), (12, 0), (13, 1), (14, 0), (15, 0), (16, 0), (17, 3), (18, 3), (19, 3), (20, 3), (21, 3), (22, 3), (23, 3)] (by kernel_rfl) (by kernel_rfl) ?_
   refine LD.val rfl rfl (ov_move rfl) ?_
   refine LD.val rfl rfl (ov_nilCheck rfl) ?_
   refine LD.val rfl rfl (ov_field Try.underlying131 rfl Try.sizeOf129 rfl (k := 1) rfl rfl) ?_
   refine LD.rd rfl rfl (om_ld Try.isAgg129 rfl rfl) ?_
   refine LD.val rfl rfl (ov_move rfl) ?_
   refine LD.val rfl rfl (ov_move rfl) ?_
   refine LD.val rfl rfl (ov_nilCheck rfl) ?_
   refine LD.val rfl rfl (ov_field Try.underlying131 rfl Try.sizeOf129 rfl (k := 1) rfl rfl) ?_
   refine LD.rd rfl rfl (om_ld Try.isAgg129 rfl rfl) ?_
   refine LD.val rfl rfl (ov_move rfl) ?_
   refine LD.val rfl rfl (ov_move rfl) ?_
   refine LD.val rfl rfl (ov_nilCheck rfl) ?_
   refine LD.val rfl rfl (ov_field Try.underlying131 rfl Try.sizeOf129 rfl (k := 1) rfl rfl) ?_
   refine LD.rd rfl rfl (om_ld Try.isAgg129 rfl rfl) ?_
   refine LD.val rfl rfl (ov_move rfl) ?_
   refine LD.val rfl rfl (ov_idxSN au6 Try.underlying129 Try.sizeOf136 rfl rfl (by omega)) ?_
   refine LD.val rfl rfl (ov_field Try.underlying136 rfl Try.sizeOf4 rfl (k := 6) rfl rfl) ?_
   refine LD.tail rfl rfl ?_
   refine LM.stS ({ gN (N1) ( (N1.getD i1 default).up) with red :=  false }) (j := 6) (by assumption) (by intro _; rfl) Try.sizeOf4 rfl rfl rfl (by exact getq default (by first | omega | (simp only [nL_len, nR_len, nU_len, nC_len, List.length_set, List.length_append, List.length_cons, List.length_nil]; omega))) rfl (by decide) (by rfl) rfl (fun p hp _ => .inr (Sl.at_bn (by assumption) p hp)) (fun ms1 hss1 hmm1 => ?_)
   change Sl _ _ _ _ (nC (N1) ( (N1.getD i1 default).up) ( false)) _ _ at hss1
   refine LM.val (ov_idxSN au6 Try.underlying129 Try.sizeOf136 rfl rfl (by omega)) ?_
   refine LM.val (ov_field Try.underlying136 rfl Try.sizeOf4 rfl (k := 6) rfl rfl) ?_
   refine LM.stS ({ gN (nC N1 (N1.getD i1 default).up false) ( (N1.getD (N1.getD (N1.getD i1 default).up default).up default).ch (!s)) with red :=  false }) (j := 6) (by assumption) (by intro _; rfl) Try.sizeOf4 rfl rfl rfl (by exact getq default (by first | omega | (simp only [nL_len, nR_len, nU_len, nC_len, List.length_set, List.length_append, List.length_cons, List.length_nil]; omega))) rfl (by decide) (by rfl) rfl (fun p hp _ => .inr (Sl.at_bn (by assumption) p hp)) (fun ms2 hss2 hmm2 => ?_)
   change Sl _ _ _ _ (nC (nC N1 (N1.getD i1 default).up false) ( (N1.getD (N1.getD (N1.getD i1 default).up default).up default).ch (!s)) ( false)) _ _ at hss2
   refine LM.val (ov_idxSN au6 Try.underlying129 Try.sizeOf136 rfl rfl (by omega)) ?_
   refine LM.val (ov_field Try.underlying136 rfl Try.sizeOf4 rfl (k := 6) rfl rfl) ?_
   refine LM.stS ({ gN (nC (nC N1 (N1.getD i1 default).up false) ((N1.getD (N1.getD (N1.getD i1 default).up default).up default).ch (!s)) false) ( (N1.getD (N1.getD i1 default).up default).up) with red :=  true }) (j := 6) (by assumption) (by intro _; rfl) Try.sizeOf4 rfl rfl rfl (by exact getq default (by first | omega | (simp only [nL_len, nR_len, nU_len, nC_len, List.length_set, List.length_append, List.length_cons, List.length_nil]; omega))) rfl (by decide) (by rfl) rfl (fun p hp _ => .inr (Sl.at_bn (by assumption) p hp)) (fun ms3 hss3 hmm3 => ?_)
   change Sl _ _ _ _ (nC (nC (nC N1 (N1.getD i1 default).up false) ((N1.getD (N1.getD (N1.getD i1 default).up default).up default).ch (!s)) false) ( (N1.getD (N1.getD i1 default).up default).up) ( true)) _ _ at hss3
   refine LM.nil ?_
   refine QM.qn ?_
   refine QM.sub (e' := [(0, _), (5, _)]) au9 (QM.then (wpM.seq (wpM.region ?_)))
   refine LM.mv rfl (LM.as rfl ?_)
   refine LM.nil (QM.sub (e' := [(0, _), (1, _)]) au9 (QM.then ?_))
   refine wpM.exit ?_
   refine QM.then_exit ?_
   refine QM.block_hit ?_
   refine QM.againK (k, nC (nC (nC N1 (N1.getD i1 default).up false) ((N1.getD (N1.getD (N1.getD i1 default).up default).up default).ch (!s)) false) (N1.getD (N1.getD i1 default).up default).up true, root1, (N1.getD (N1.getD i1 default).up default).up, ms3) ⟨au2, rfl, trivial⟩ au1 (fun _ h => h) ?_ ?_
   · exact ⟨by assumption, nC_wf (nC_wf (nC_wf hw1 _ _) _ _) _ _, ht1, hgr⟩
   · first | omega | (dsimp only; omega)
  rw [if_neg (by rw [h2]; simp)] at hgr
  refine wpM.skip ?_
  refine QM.then ?_
  refine wpM.seq ?_
  refine wpM.seq (wpM.region ?_)
  refine LM.mv rfl (LM.mv rfl (LM.mv rfl ?_))
  first | refine LM.val (ov_notD rfl) ?_ | refine LM.val (ov_not rfl) ?_
  refine LM.callE (oc_call (enters_fn Try.func112 (by kernel_rfl) rfl) rfl) (fun w hm hc hg => below_spec (N := N1) (N1.getD i1 default).up (!s) w (hn.trans hl1.symm) hs1 (by rw [hl1]; exact hu1) (hm.pick (rtB b most bn n cap root1 first free cnt :: m1))) ?_
  refine LM.mv rfl ?_
  refine LM.val (ov_eql rfl rfl) ?_
  refine LM.nil (QM.sub (e' := [(0, _), (1, _), (4, _), (5, _), (6, _), (90, _)]) au9 (QM.then ?_))
  refine wpM.joinK (α := List Nd × Nat × Nat × Nat × Mem0) (fun ⟨N2, root2, i2, up2, m2⟩ => [(1, .int .i64 (i2 : Nat)), (4, .int .i64 (up2 : Nat))]) [(0, _), (5, _), (6, _)] (fun ⟨N2, root2, i2, up2, m2⟩ => rtB b most bn n cap root2 first free cnt :: (m2 ++ [])) (fun ⟨N2, root2, i2, up2, m2⟩ => NdS n0 bn n cap N2 m2 ∧ WfS (N2, root2) N.length ∧ i2 < N.length ∧ up2 < N.length ∧ grwF k (trnF (nC (nC N2 up2 false) (N1.getD (N1.getD i1 default).up default).up true, root2) (N1.getD (N1.getD i1 default).up default).up (!s)) i2 = some S') ⟨rfl, rfl, rfl, trivial⟩ ?_ ?_
  ·
   refine wpM.condD rfl (fun h3 => ?_) (fun h3 => ?_)
   ·
    refine wpM.seq (wpM.region ?_)
    refine LM.mv rfl (LM.mv rfl (LM.mv rfl ?_))
    refine LM.cU (oc_call (enters_fn Try.func113 (by kernel_rfl) rfl) rfl) (fun w hm hc hg => turn_spec (N := N1) (N1.getD i1 default).up s w (hn.trans hl1.symm) hs1 (by rw [hl1]; exact hw1) (by rw [hl1]; exact hu1) (hm.pick (rtB b most bn n cap root1 first free cnt :: m1))) (rt_wlk hs1) (rt_hS hs1) ?_
    rintro u94 m94 ⟨rfl, m3, rfl, hs3⟩ -
    refine LM.nil (QM.sub (e' := [(0, _), (1, _), (4, _), (5, _), (6, _)]) au9 (QM.then (wpM.region ?_)))
    refine LM.mv rfl (LM.mv rfl (LM.as rfl (LM.as rfl ?_)))
    refine LM.nil (QM.sub (e' := [(0, _), (1, _), (4, _), (5, _), (6, _)]) au9 ?_)
    refine QM.meetK ((trnF (N1, root1) (N1.getD i1 default).up s).1, (trnF (N1, root1) (N1.getD i1 default).up s).2, (N1.getD i1 default).up, i1, m3) ⟨au2, au2, rfl, rfl, rfl, trivial⟩ au1 ?_
    · exact ⟨hs3, trn_wf hw1 hu1 _, hu1, hi1, by rw [if_pos (Int.natCast_inj.1 h3)] at hgr; exact hgr⟩
   refine wpM.skip ?_
   refine QM.meetK (N1, root1, i1, (N1.getD i1 default).up, m1) ⟨au2, au2, rfl, rfl, rfl, trivial⟩ au1 ?_
   · exact ⟨hs1, hw1, hi1, hu1, by rw [if_neg (fun q => h3 (Int.natCast_inj.2 q))] at hgr; exact hgr⟩
  rintro ⟨N2, root2, i2, up2, m2⟩ ⟨hs2, hw2, hi2, hu2, hgr⟩
  change QM _ _ _ _ _ (rtB b most bn n cap root2 first free cnt :: (m2 ++ [])) _ _ _
  have hl2 : N2.length = N.length := hw2.len
  refine QM.then ?_
  refine wpM.seq ?_
  refine wpM.draw [(0, 0), (1, 0), (2, 0), (3, 1), (4, 0), (5, 0), (6, 0), (7, 0), (8, 1), (9, 0), (10, 0), (11, 0), (12, 3), (13, 3), (14, 3), (15, 3)] (by kernel_rfl) (by kernel_rfl) ?_
  refine LD.val rfl rfl (ov_move rfl) ?_
  refine LD.val rfl rfl (ov_nilCheck rfl) ?_
  refine LD.val rfl rfl (ov_field Try.underlying131 rfl Try.sizeOf129 rfl (k := 1) rfl rfl) ?_
  refine LD.rd rfl rfl (om_ld Try.isAgg129 rfl rfl) ?_
  refine LD.val rfl rfl (ov_move rfl) ?_
  refine LD.val rfl rfl (ov_move rfl) ?_
  refine LD.val rfl rfl (ov_nilCheck rfl) ?_
  refine LD.val rfl rfl (ov_field Try.underlying131 rfl Try.sizeOf129 rfl (k := 1) rfl rfl) ?_
  refine LD.rd rfl rfl (om_ld Try.isAgg129 rfl rfl) ?_
  refine LD.val rfl rfl (ov_move rfl) ?_
  refine LD.val rfl rfl (ov_idxSN au6 Try.underlying129 Try.sizeOf136 rfl rfl (by omega)) ?_
  refine LD.val rfl rfl (ov_field Try.underlying136 rfl Try.sizeOf4 rfl (k := 6) rfl rfl) ?_
  refine LD.tail rfl rfl ?_
  refine LM.stS ({ gN (N2) ( up2) with red :=  false }) (j := 6) (by assumption) (by intro _; rfl) Try.sizeOf4 rfl rfl rfl (by exact getq default (by first | omega | (simp only [nL_len, nR_len, nU_len, nC_len, List.length_set, List.length_append, List.length_cons, List.length_nil]; omega))) rfl (by decide) (by rfl) rfl (fun p hp _ => .inr (Sl.at_bn (by assumption) p hp)) (fun ms1 hss1 hmm1 => ?_)
  change Sl _ _ _ _ (nC (N2) ( up2) ( false)) _ _ at hss1
  refine LM.val (ov_idxSN au6 Try.underlying129 Try.sizeOf136 rfl rfl (by omega)) ?_
  refine LM.val (ov_field Try.underlying136 rfl Try.sizeOf4 rfl (k := 6) rfl rfl) ?_
  refine LM.stS ({ gN (nC N2 up2 false) ( (N1.getD (N1.getD i1 default).up default).up) with red :=  true }) (j := 6) (by assumption) (by intro _; rfl) Try.sizeOf4 rfl rfl rfl (by exact getq default (by first | omega | (simp only [nL_len, nR_len, nU_len, nC_len, List.length_set, List.length_append, List.length_cons, List.length_nil]; omega))) rfl (by decide) (by rfl) rfl (fun p hp _ => .inr (Sl.at_bn (by assumption) p hp)) (fun ms2 hss2 hmm2 => ?_)
  change Sl _ _ _ _ (nC (nC N2 up2 false) ( (N1.getD (N1.getD i1 default).up default).up) ( true)) _ _ at hss2
  refine LM.nil ?_
  refine QM.qn ?_
  refine QM.sub (e' := [(0, _), (1, _), (5, _), (6, _)]) au9 (QM.then (wpM.region ?_))
  refine LM.mv rfl (LM.mv rfl (LM.mv rfl ?_))
  first | refine LM.val (ov_notD rfl) ?_ | refine LM.val (ov_not rfl) ?_
  refine LM.cU (oc_call (enters_fn Try.func113 (by kernel_rfl) rfl) rfl) (fun w hm hc hg => turn_spec (N := nC (nC N2 up2 false) (N1.getD (N1.getD i1 default).up default).up true) (N1.getD (N1.getD i1 default).up default).up (!s) w (by rw [nC_len, nC_len, hl2]; exact hn) hss2 (by rw [nC_len, nC_len, hl2]; exact nC_wf (nC_wf hw2 _ _) _ _) (by rw [nC_len, nC_len, hl2]; exact ht1) (hm.pick (rtB b most bn n cap root2 first free cnt :: ms2))) (rt_wlk hss2) (rt_hS hss2) ?_
  rintro u115 m115 ⟨rfl, m9, rfl, hs9⟩ -
  refine LM.nil (QM.sub (e' := [(0, _), (1, _)]) au9 ?_)
  refine QM.block_normal ?_
  refine QM.againK (k, (trnF (nC (nC N2 up2 false) (N1.getD (N1.getD i1 default).up default).up true, root2) (N1.getD (N1.getD i1 default).up default).up (!s)).1, (trnF (nC (nC N2 up2 false) (N1.getD (N1.getD i1 default).up default).up true, root2) (N1.getD (N1.getD i1 default).up default).up (!s)).2, i2, m9) ⟨au2, rfl, trivial⟩ au1 (fun _ h => h) ?_ ?_
  · exact ⟨hs9, trn_wf (nC_wf (nC_wf hw2 _ _) _ _) ht1 _, hi2, hgr⟩
  · first | omega | (dsimp only; omega)
 rw [if_neg (by rw [h1]; simp)] at hgr; cases hgr
 refine wpM.exit ?_
 refine QM.then_exit ?_
 refine QM.then_exit ?_
 refine QM.block_hit ?_
 refine QM.then ?_
 refine wpM.draw [(0, 0), (1, 0), (2, 0), (3, 1), (4, 0), (5, 0), (6, 0), (7, 1), (8, 0), (9, 0), (10, 3)] (by kernel_rfl) (by kernel_rfl) ?_
 refine LD.val rfl rfl (ov_move rfl) ?_
 refine LD.val rfl rfl (ov_nilCheck rfl) ?_
 refine LD.val rfl rfl (ov_field Try.underlying131 rfl Try.sizeOf129 rfl (k := 1) rfl rfl) ?_
 refine LD.rd rfl rfl (om_ld Try.isAgg129 rfl rfl) ?_
 refine LD.val rfl rfl (ov_move rfl) ?_
 refine LD.val rfl rfl (ov_nilCheck rfl) ?_
 refine LD.val rfl rfl (ov_field Try.underlying131 rfl Try.sizeOf3 rfl (k := 2) rfl rfl) ?_
 refine LD.rd rfl rfl (om_ld Try.isAgg3 rfl rfl) ?_
 refine LD.val rfl rfl (ov_idxSN au6 Try.underlying129 Try.sizeOf136 rfl rfl (by omega)) ?_
 refine LD.val rfl rfl (ov_field Try.underlying136 rfl Try.sizeOf4 rfl (k := 6) rfl rfl) ?_
 refine LD.tail rfl rfl ?_
 refine LM.stS ({ gN (N1) ( root1) with red :=  false }) (j := 6) (by assumption) (by intro _; rfl) Try.sizeOf4 rfl rfl rfl (by exact getq default (by first | omega | (simp only [nL_len, nR_len, nU_len, nC_len, List.length_set, List.length_append, List.length_cons, List.length_nil]; omega))) rfl (by decide) (by rfl) rfl (fun p hp _ => .inr (Sl.at_bn (by assumption) p hp)) (fun ms1 hss1 hmm1 => ?_)
 change Sl _ _ _ _ (nC (N1) ( root1) ( false)) _ _ at hss1
 refine LM.nil ?_
 refine QM.qn ?_
 refine QM.sub (e' := []) trivial ?_
 refine QM.leave (.inr rfl) [] Try.results92 rfl ?_
 intro w' hm' hc' hg'
 exact rt_leaf hs (by assumption) hm' au1 hc'
end Go.Eng
namespace Go.Eng
open Go Go.Proofs Go.RowKit
theorem bnot {b : Bool} (h : (!b) = true) : b = false := by cases b; rfl; cases h
theorem bnotF {b : Bool} (h : (!b) = false) : b = true := by cases b; cases h; rfl
theorem shS_eq {N : List Nd} {root i : Nat} {s : Bool} (h : s = decide ((gN N (gN N i).up).l = i)) : shS (N, root) i = shD (shA (N, root) (gN N i).up s ((gN N (gN N i).up).ch (!s))).1 (gN N i).up s (shA (N, root) (gN N i).up s ((gN N (gN N i).up).ch (!s))).2 := by subst h; rfl
theorem shA_pos {N : List Nd} {root up o : Nat} {s : Bool} (h : (gN N o).red = true) : shA (N, root) up s o = (trnF (nC (nC N o false) up true, root) up s, (gN (trnF (nC (nC N o false) up true, root) up s).1 up).ch (!s)) := if_pos h
theorem shA_neg {N : List Nd} {root up o : Nat} {s : Bool} (h : (gN N o).red = false) : shA (N, root) up s o = ((N, root), o) := if_neg (by show ¬ (gN N o).red = true; rw [h]; simp)
theorem shD_pos {N : List Nd} {root up o : Nat} {s : Bool} (h1 : (gN N ((gN N o).ch s)).red = false) (h2 : (gN N ((gN N o).ch (!s))).red = false) : shD (N, root) up s o = ((nC N o true, root), up) := if_pos ⟨h1, h2⟩
theorem shD_neg {N : List Nd} {root up o : Nat} {s : Bool} (h : ¬ ((gN N ((gN N o).ch s)).red = false ∧ (gN N ((gN N o).ch (!s))).red = false)) : shD (N, root) up s o = (shC (shB (N, root) s o ((gN N o).ch s) ((gN N o).ch (!s))).1 up s (shB (N, root) s o ((gN N o).ch s) ((gN N o).ch (!s))).2.1 (shB (N, root) s o ((gN N o).ch s) ((gN N o).ch (!s))).2.2, (shC (shB (N, root) s o ((gN N o).ch s) ((gN N o).ch (!s))).1 up s (shB (N, root) s o ((gN N o).ch s) ((gN N o).ch (!s))).2.1 (shB (N, root) s o ((gN N o).ch s) ((gN N o).ch (!s))).2.2).2) := if_neg h
theorem shB_pos {N : List Nd} {root o near far : Nat} {s : Bool} (h : (gN N far).red = false) : shB (N, root) s o near far = (trnF (nC (nC N near false) o true, root) o (!s), near, (gN (trnF (nC (nC N near false) o true, root) o (!s)).1 near).ch (!s)) := if_pos h
theorem shB_neg {N : List Nd} {root o near far : Nat} {s : Bool} (h : (gN N far).red = true) : shB (N, root) s o near far = ((N, root), o, far) := if_neg (by show ¬ (gN N far).red = false; rw [h]; simp)
set_option maxRecDepth 100000 in
set_option maxHeartbeats 2000000 in
theorem shrunk_spec {n0 b most bn n cap root first free cnt : Nat} {N : List Nd} {ms : Mem0} {S' : Ns} (f i : Nat) (w : World) (hg : shrF f (N, root) i = some S') (hn : n = N.length) (hs : NdS n0 bn n cap N ms) (hw : WfS (N, root) N.length) (hi : i < N.length) (hM : Mem w (rtB b most bn n cap root first free cnt :: ms)) : Ret Try.prog 116 #[.pointer (some ⟨b, 0, none⟩), .int .i64 (i : Nat)] w (Upd (rtB b most bn n cap root first free cnt :: ms) (RtT n0 b most bn n cap S'.2 first free cnt S'.1) w) := by
 refine Ret.enterM (l := [.pointer (some ⟨b, 0, none⟩), .int .i64 (i : Nat)]) Try.func116 rfl Try.ntmps116 rfl (rtB b most bn n cap root first free cnt :: ms) ((fun x => x = b ∨ x = bn)) hM ?_
 refine wpM.seq ?_
 refine wpM.block ?_
 refine wpM.loopK0 (α := Nat × List Nd × Nat × Nat × Mem0) (fun ⟨k, N1, root1, i1, m1⟩ => [(1, .int .i64 (i1 : Nat))]) [(0, _)] (fun ⟨k, N1, root1, i1, m1⟩ => rtB b most bn n cap root1 first free cnt :: (m1 ++ [])) (fun ⟨k, N1, root1, i1, m1⟩ => NdS n0 bn n cap N1 m1 ∧ WfS (N1, root1) N.length ∧ i1 < N.length ∧ shrF k (N1, root1) i1 = some S') (fun ⟨k, N1, root1, i1, m1⟩ => k) ((f, N, root, i, ms)) ⟨au2, rfl, trivial⟩ au1 ⟨hs, hw, hi, hg⟩ ?_
 rintro ⟨k, N1, root1, i1, m1⟩ ⟨hs1, hw1, hi1, hgr⟩
 change wpM _ _ _ _ _ _ _ (rtB b most bn n cap root1 first free cnt :: (m1 ++ [])) _ _ _
 obtain ⟨k, rfl⟩ : ∃ k', k = k' + 1 := (by cases k with | zero => cases hgr | succ k => exact ⟨k, rfl⟩); rw [shrF] at hgr; have hl1 : N1.length = N.length := hw1.len; have hu1 : (N1.getD i1 default).up < N.length := up_wf hw1 i1; have hr1 : root1 < N.length := hw1.rt
 refine wpM.seq ?_
 refine wpM.seq (wpM.region ?_)
 refine LM.mv rfl (LM.mv rfl ?_)
 refine LM.val (ov_nilCheck rfl) ?_
 refine LM.val (ov_field Try.underlying131 rfl Try.sizeOf3 rfl (k := 2) rfl rfl) ?_
 refine LM.rd (om_ld Try.isAgg3 rfl rfl) ?_
 refine LM.val (ov_neq rfl rfl) ?_
 refine LM.mv rfl ?_
 refine LM.splitD (t := 15) rfl (fun h1 => ?_) (fun h1 => ?_)
 ·
  refine LM.sp 15 rfl rfl rfl (LM.mv rfl (LM.sp 15 rfl rfl rfl ?_))
  refine LM.val (ov_nilCheck rfl) ?_
  refine LM.sp 15 rfl rfl rfl (LM.val (ov_field Try.underlying131 rfl Try.sizeOf129 rfl (k := 1) rfl rfl) (LM.sp 15 rfl rfl rfl ?_))
  refine LM.rd (om_ld Try.isAgg129 rfl rfl) ?_
  refine LM.sp 15 rfl rfl rfl (LM.mv rfl (LM.sp 15 rfl rfl rfl ?_))
  refine LM.val (ov_idxSN au6 Try.underlying129 Try.sizeOf136 rfl rfl (by omega)) ?_
  refine LM.sp 15 rfl rfl rfl (LM.val (ov_field Try.underlying136 rfl Try.sizeOf4 rfl (k := 6) rfl rfl) (LM.sp 15 rfl rfl rfl ?_))
  refine LM.rd (om_slE (j := 6) (by assumption) (by intro _; rfl) Try.isAgg4 rfl rfl (by exact getq default (by first | omega | (simp only [nL_len, nR_len, nU_len, nC_len, List.length_set, List.length_append, List.length_cons, List.length_nil]; omega))) rfl (by rfl)) ?_
  refine LM.sp 15 rfl rfl rfl ?_
  first | refine LM.val (ov_notD rfl) ?_ | refine LM.val (ov_not rfl) ?_
  refine LM.val (ov_pickT rfl rfl) ?_
  refine LM.nil (QM.sub (e' := [(0, _), (1, _), (25, _)]) au9 (QM.then ?_))
  first | refine wpM.condD rfl (fun h2 => ?_) (fun h2 => ?_) | refine wpM.condB rfl (fun h2 => ?_) (fun h2 => ?_)
  ·
   rw [if_pos ⟨fun q => h1 (Int.natCast_inj.2 q), bnot h2⟩] at hgr; obtain ⟨s, hse⟩ : ∃ s, s = decide ((gN N1 (gN N1 i1).up).l = i1) := ⟨_, rfl⟩; rw [shS_eq hse] at hgr; have hc1 : (N1.getD (N1.getD i1 default).up default).ch (!s) < N.length := ch_wf hw1 _ _
   refine wpM.skip ?_
   refine QM.then ?_
   refine wpM.block ?_
   refine wpM.seq (wpM.region ?_)
   refine LM.mv rfl ?_
   refine LM.val (ov_nilCheck rfl) ?_
   refine LM.val (ov_field Try.underlying131 rfl Try.sizeOf129 rfl (k := 1) rfl rfl) ?_
   refine LM.rd (om_ld Try.isAgg129 rfl rfl) ?_
   refine LM.mv rfl ?_
   refine LM.val (ov_idxSN au6 Try.underlying129 Try.sizeOf136 rfl rfl (by omega)) ?_
   refine LM.val (ov_field Try.underlying136 rfl Try.sizeOf3 rfl (k := 5) rfl rfl) ?_
   refine LM.rd (om_slE (j := 5) (by assumption) (by intro _; rfl) Try.isAgg3 rfl rfl (by exact getq default (by first | omega | (simp only [nL_len, nR_len, nU_len, nC_len, List.length_set, List.length_append, List.length_cons, List.length_nil]; omega))) rfl (by rfl)) ?_
   refine LM.as rfl ?_
   refine LM.nil (QM.sub (e' := [(0, _), (1, _), (4, _)]) au9 (QM.then (wpM.seq (wpM.region ?_))))
   refine LM.mv rfl ?_
   refine LM.val (ov_nilCheck rfl) ?_
   refine LM.val (ov_field Try.underlying131 rfl Try.sizeOf129 rfl (k := 1) rfl rfl) ?_
   refine LM.rd (om_ld Try.isAgg129 rfl rfl) ?_
   refine LM.mv rfl ?_
   refine LM.val (ov_idxSN au6 Try.underlying129 Try.sizeOf136 rfl rfl (by omega)) ?_
   refine LM.val (ov_field Try.underlying136 rfl Try.sizeOf3 rfl (k := 3) rfl rfl) ?_
   refine LM.rd (om_slE (j := 3) (by assumption) (by intro _; rfl) Try.isAgg3 rfl rfl (by exact getq default (by first | omega | (simp only [nL_len, nR_len, nU_len, nC_len, List.length_set, List.length_append, List.length_cons, List.length_nil]; omega))) rfl (by rfl)) ?_
   refine LM.mv rfl ?_
   refine LM.val (ov_eql rfl rfl) ?_
   refine LM.as rfl ?_
   refine LM.nil (QM.sub (e' := [(0, _), (4, _), (5, _)]) au9 (QM.then (wpM.seq (wpM.region ?_))))
   rw [dec_nat, show decide ((N1.getD (N1.getD i1 default).up default).l = i1) = s from hse.symm]
   refine LM.mv rfl (LM.mv rfl (LM.mv rfl ?_))
   first | refine LM.val (ov_notD rfl) ?_ | refine LM.val (ov_not rfl) ?_
   refine LM.callE (oc_call (enters_fn Try.func112 (by kernel_rfl) rfl) rfl) (fun w hm hc hg => below_spec (N := N1) (N1.getD i1 default).up (!s) w (hn.trans hl1.symm) hs1 (by rw [hl1]; exact hu1) (hm.pick (rtB b most bn n cap root1 first free cnt :: m1))) ?_
   refine LM.as rfl ?_
   refine LM.nil (QM.sub (e' := [(0, _), (4, _), (5, _), (6, _)]) au9 (QM.then ?_))
   refine wpM.seq ?_
   refine wpM.seq (wpM.region ?_)
   refine LM.mv rfl ?_
   refine LM.val (ov_nilCheck rfl) ?_
   refine LM.val (ov_field Try.underlying131 rfl Try.sizeOf129 rfl (k := 1) rfl rfl) ?_
   refine LM.rd (om_ld Try.isAgg129 rfl rfl) ?_
   refine LM.mv rfl ?_
   refine LM.val (ov_idxSN au6 Try.underlying129 Try.sizeOf136 rfl rfl (by omega)) ?_
   refine LM.val (ov_field Try.underlying136 rfl Try.sizeOf4 rfl (k := 6) rfl rfl) ?_
   refine LM.rd (om_slE (j := 6) (by assumption) (by intro _; rfl) Try.isAgg4 rfl rfl (by exact getq default (by first | omega | (simp only [nL_len, nR_len, nU_len, nC_len, List.length_set, List.length_append, List.length_cons, List.length_nil]; omega))) rfl (by rfl)) ?_
   refine LM.nil (QM.sub (e' := [(0, _), (4, _), (5, _), (6, _), (56, _)]) au9 (QM.then ?_))
   refine wpM.joinK (α := List Nd × Nat × Nat × Mem0) (fun ⟨N2, root2, o2, m2⟩ => [(6, .int .i64 (o2 : Nat))]) [(0, _), (4, _), (5, _)] (fun ⟨N2, root2, o2, m2⟩ => rtB b most bn n cap root2 first free cnt :: (m2 ++ [])) (fun ⟨N2, root2, o2, m2⟩ => NdS n0 bn n cap N2 m2 ∧ WfS (N2, root2) N.length ∧ o2 < N.length ∧ shrF k (shD (N2, root2) (N1.getD i1 default).up s o2).1 (shD (N2, root2) (N1.getD i1 default).up s o2).2 = some S') ⟨rfl, rfl, rfl, trivial⟩ ?_ ?_
   ·
    first | refine wpM.condD rfl (fun h3 => ?_) (fun h3 => ?_) | refine wpM.condB rfl (fun h3 => ?_) (fun h3 => ?_)
    ·
     refine wpM.seq ?_
     refine wpM.draw [(0, 0), (1, 0), (2, 0), (3, 1), (4, 0), (5, 0), (6, 0), (7, 0), (8, 1), (9, 0), (10, 0), (11, 0), (12, 3), (13, 3), (14, 3), (15, 3)] (by kernel_rfl) (by kernel_rfl) ?_
     refine LD.val rfl rfl (ov_move rfl) ?_
     refine LD.val rfl rfl (ov_nilCheck rfl) ?_
     refine LD.val rfl rfl (ov_field Try.underlying131 rfl Try.sizeOf129 rfl (k := 1) rfl rfl) ?_
     refine LD.rd rfl rfl (om_ld Try.isAgg129 rfl rfl) ?_
     refine LD.val rfl rfl (ov_move rfl) ?_
     refine LD.val rfl rfl (ov_move rfl) ?_
     refine LD.val rfl rfl (ov_nilCheck rfl) ?_
     refine LD.val rfl rfl (ov_field Try.underlying131 rfl Try.sizeOf129 rfl (k := 1) rfl rfl) ?_
     refine LD.rd rfl rfl (om_ld Try.isAgg129 rfl rfl) ?_
     refine LD.val rfl rfl (ov_move rfl) ?_
     refine LD.val rfl rfl (ov_idxSN au6 Try.underlying129 Try.sizeOf136 rfl rfl (by omega)) ?_
     refine LD.val rfl rfl (ov_field Try.underlying136 rfl Try.sizeOf4 rfl (k := 6) rfl rfl) ?_
     refine LD.tail rfl rfl ?_
     refine LM.stS ({ gN (N1) ( (N1.getD (N1.getD i1 default).up default).ch (!s)) with red :=  false }) (j := 6) (by assumption) (by intro _; rfl) Try.sizeOf4 rfl rfl rfl (by exact getq default (by first | omega | (simp only [nL_len, nR_len, nU_len, nC_len, List.length_set, List.length_append, List.length_cons, List.length_nil]; omega))) rfl (by decide) (by rfl) rfl (fun p hp _ => .inr (Sl.at_bn (by assumption) p hp)) (fun ms1 hss1 hmm1 => ?_)
     change Sl _ _ _ _ (nC (N1) ( (N1.getD (N1.getD i1 default).up default).ch (!s)) ( false)) _ _ at hss1
     refine LM.val (ov_idxSN au6 Try.underlying129 Try.sizeOf136 rfl rfl (by omega)) ?_
     refine LM.val (ov_field Try.underlying136 rfl Try.sizeOf4 rfl (k := 6) rfl rfl) ?_
     refine LM.stS ({ gN (nC N1 ((N1.getD (N1.getD i1 default).up default).ch (!s)) false) ( (N1.getD i1 default).up) with red :=  true }) (j := 6) (by assumption) (by intro _; rfl) Try.sizeOf4 rfl rfl rfl (by exact getq default (by first | omega | (simp only [nL_len, nR_len, nU_len, nC_len, List.length_set, List.length_append, List.length_cons, List.length_nil]; omega))) rfl (by decide) (by rfl) rfl (fun p hp _ => .inr (Sl.at_bn (by assumption) p hp)) (fun ms2 hss2 hmm2 => ?_)
     change Sl _ _ _ _ (nC (nC N1 ((N1.getD (N1.getD i1 default).up default).ch (!s)) false) ( (N1.getD i1 default).up) ( true)) _ _ at hss2
     refine LM.nil ?_
     refine QM.qn ?_
     refine QM.sub (e' := [(0, _), (4, _), (5, _)]) au9 (QM.then (wpM.seq (wpM.region ?_)))
     refine LM.mv rfl (LM.mv rfl (LM.mv rfl ?_))
     refine LM.cU (oc_call (enters_fn Try.func113 (by kernel_rfl) rfl) rfl) (fun w hm hc hg => turn_spec (N := nC (nC N1 ((N1.getD (N1.getD i1 default).up default).ch (!s)) false) (N1.getD i1 default).up true) (N1.getD i1 default).up s w (by rw [nC_len, nC_len, hl1]; exact hn) hss2 (by rw [nC_len, nC_len, hl1]; exact nC_wf (nC_wf hw1 _ _) _ _) (by rw [nC_len, nC_len, hl1]; exact hu1) (hm.pick (rtB b most bn n cap root1 first free cnt :: ms2))) (rt_wlk hss2) (rt_hS hss2) ?_
     rintro u74 m74 ⟨rfl, m5, rfl, hs5⟩ -; have hw5 := trn_wf (nC_wf (nC_wf hw1 ((N1.getD (N1.getD i1 default).up default).ch (!s)) false) (N1.getD i1 default).up true) hu1 s; have hl5 := hw5.len
     refine LM.nil (QM.sub (e' := [(0, _), (4, _), (5, _)]) au9 (QM.then (wpM.region ?_)))
     refine LM.mv rfl (LM.mv rfl (LM.mv rfl ?_))
     first | refine LM.val (ov_notD rfl) ?_ | refine LM.val (ov_not rfl) ?_
     refine LM.callE (oc_call (enters_fn Try.func112 (by kernel_rfl) rfl) rfl) (fun w hm hc hg => below_spec (N := (trnF (nC (nC N1 ((N1.getD (N1.getD i1 default).up default).ch (!s)) false) (N1.getD i1 default).up true, root1) (N1.getD i1 default).up s).1) (N1.getD i1 default).up (!s) w (hn.trans hl5.symm) hs5 (by rw [hl5]; exact hu1) (hm.pick (rtB b most bn n cap (trnF (nC (nC N1 ((N1.getD (N1.getD i1 default).up default).ch (!s)) false) (N1.getD i1 default).up true, root1) (N1.getD i1 default).up s).2 first free cnt :: m5))) ?_
     refine LM.as rfl ?_
     refine LM.nil (QM.sub (e' := [(0, _), (4, _), (5, _), (6, _)]) au9 ?_)
     refine QM.meetK ((trnF (nC (nC N1 ((N1.getD (N1.getD i1 default).up default).ch (!s)) false) (N1.getD i1 default).up true, root1) (N1.getD i1 default).up s).1, (trnF (nC (nC N1 ((N1.getD (N1.getD i1 default).up default).ch (!s)) false) (N1.getD i1 default).up true, root1) (N1.getD i1 default).up s).2, _, m5) ⟨au2, rfl, rfl, rfl, trivial⟩ au1 ?_
     · exact ⟨hs5, hw5, ch_wf hw5 _ _, by rw [shA_pos h3] at hgr; exact hgr⟩
    refine wpM.skip ?_
    refine QM.meetK (N1, root1, _, m1) ⟨au2, rfl, rfl, rfl, trivial⟩ au1 ?_
    · exact ⟨hs1, hw1, hc1, by rw [shA_neg h3] at hgr; exact hgr⟩
   rintro ⟨N2, root2, o2, m2⟩ ⟨hs2, hw2, ho2, hgr⟩
   change QM _ _ _ _ _ (rtB b most bn n cap root2 first free cnt :: (m2 ++ [])) _ _ _
   have hl2 : N2.length = N.length := hw2.len; have hna : (N2.getD o2 default).ch s < N.length := ch_wf hw2 _ _; have hfa : (N2.getD o2 default).ch (!s) < N.length := ch_wf hw2 _ _
   refine QM.then (wpM.seq (wpM.region ?_))
   refine LM.mv rfl (LM.mv rfl (LM.mv rfl ?_))
   refine LM.callE (oc_call (enters_fn Try.func112 (by kernel_rfl) rfl) rfl) (fun w hm hc hg => below_spec (N := N2) o2 s w (hn.trans hl2.symm) hs2 (by rw [hl2]; exact ho2) (hm.pick (rtB b most bn n cap root2 first free cnt :: m2))) ?_
   refine LM.mv rfl (LM.mv rfl (LM.mv rfl ?_))
   first | refine LM.val (ov_notD rfl) ?_ | refine LM.val (ov_not rfl) ?_
   refine LM.callE (oc_call (enters_fn Try.func112 (by kernel_rfl) rfl) rfl) (fun w hm hc hg => below_spec (N := N2) o2 (!s) w (hn.trans hl2.symm) hs2 (by rw [hl2]; exact ho2) (hm.pick (rtB b most bn n cap root2 first free cnt :: m2))) ?_
   refine LM.as rfl (LM.as rfl ?_)
   refine LM.nil (QM.sub (e' := [(0, _), (4, _), (5, _), (6, _), (7, _), (8, _)]) au9 (QM.then ?_))
   refine wpM.seq ?_
   refine wpM.seq (wpM.region ?_)
   refine LM.mv rfl ?_
   refine LM.val (ov_nilCheck rfl) ?_
   refine LM.val (ov_field Try.underlying131 rfl Try.sizeOf129 rfl (k := 1) rfl rfl) ?_
   refine LM.rd (om_ld Try.isAgg129 rfl rfl) ?_
   refine LM.mv rfl ?_
   refine LM.val (ov_idxSN au6 Try.underlying129 Try.sizeOf136 rfl rfl (by omega)) ?_
   refine LM.val (ov_field Try.underlying136 rfl Try.sizeOf4 rfl (k := 6) rfl rfl) ?_
   refine LM.rd (om_slE (j := 6) (by assumption) (by intro _; rfl) Try.isAgg4 rfl rfl (by exact getq default (by first | omega | (simp only [nL_len, nR_len, nU_len, nC_len, List.length_set, List.length_append, List.length_cons, List.length_nil]; omega))) rfl (by rfl)) ?_
   first | refine LM.val (ov_notD rfl) ?_ | refine LM.val (ov_not rfl) ?_
   refine LM.mv rfl ?_
   first | refine LM.splitD (t := 98) rfl (fun h4 => ?_) (fun h4 => ?_) | refine LM.splitB (t := 98) rfl (fun h4 => ?_) (fun h4 => ?_)
   ·
    refine LM.sp 98 rfl rfl rfl (LM.mv rfl (LM.sp 98 rfl rfl rfl ?_))
    refine LM.val (ov_nilCheck rfl) ?_
    refine LM.sp 98 rfl rfl rfl (LM.val (ov_field Try.underlying131 rfl Try.sizeOf129 rfl (k := 1) rfl rfl) (LM.sp 98 rfl rfl rfl ?_))
    refine LM.rd (om_ld Try.isAgg129 rfl rfl) ?_
    refine LM.sp 98 rfl rfl rfl (LM.mv rfl (LM.sp 98 rfl rfl rfl ?_))
    refine LM.val (ov_idxSN au6 Try.underlying129 Try.sizeOf136 rfl rfl (by omega)) ?_
    refine LM.sp 98 rfl rfl rfl (LM.val (ov_field Try.underlying136 rfl Try.sizeOf4 rfl (k := 6) rfl rfl) (LM.sp 98 rfl rfl rfl ?_))
    refine LM.rd (om_slE (j := 6) (by assumption) (by intro _; rfl) Try.isAgg4 rfl rfl (by exact getq default (by first | omega | (simp only [nL_len, nR_len, nU_len, nC_len, List.length_set, List.length_append, List.length_cons, List.length_nil]; omega))) rfl (by rfl)) ?_
    refine LM.sp 98 rfl rfl rfl ?_
    first | refine LM.val (ov_notD rfl) ?_ | refine LM.val (ov_not rfl) ?_
    refine LM.val (ov_pickT rfl rfl) ?_
    refine LM.nil (QM.sub (e' := [(0, _), (4, _), (5, _), (6, _), (7, _), (8, _), (108, _)]) au9 (QM.then ?_))
    first | refine wpM.condD rfl (fun h5 => ?_) (fun h5 => ?_) | refine wpM.condB rfl (fun h5 => ?_) (fun h5 => ?_)
    ·
     refine wpM.seq (wpM.region ?_)
     refine LM.mv rfl ?_
     refine LM.val (ov_nilCheck rfl) ?_
     refine LM.val (ov_field Try.underlying131 rfl Try.sizeOf129 rfl (k := 1) rfl rfl) ?_
     refine LM.rd (om_ld Try.isAgg129 rfl rfl) ?_
     refine LM.mv rfl ?_
     refine LM.val (ov_idxSN au6 Try.underlying129 Try.sizeOf136 rfl rfl (by omega)) ?_
     refine LM.val (ov_field Try.underlying136 rfl Try.sizeOf4 rfl (k := 6) rfl rfl) ?_
     refine LM.stS ({ gN (N2) ( o2) with red :=  true }) (j := 6) (by assumption) (by intro _; rfl) Try.sizeOf4 rfl rfl rfl (by exact getq default (by first | omega | (simp only [nL_len, nR_len, nU_len, nC_len, List.length_set, List.length_append, List.length_cons, List.length_nil]; omega))) rfl (by decide) (by rfl) rfl (fun p hp _ => .inr (Sl.at_bn (by assumption) p hp)) (fun ms1 hss1 hmm1 => ?_)
     change Sl _ _ _ _ (nC (N2) ( o2) ( true)) _ _ at hss1
     refine LM.nil (QM.sub (e' := [(0, _), (4, _)]) au9 (QM.then (wpM.seq (wpM.region ?_))))
     refine LM.mv rfl (LM.as rfl ?_)
     refine LM.nil (QM.sub (e' := [(0, _), (1, _)]) au9 (QM.then ?_))
     refine wpM.exit ?_
     refine QM.then_exit ?_
     refine QM.block_hit ?_
     refine QM.againK (k, nC N2 o2 true, root2, (N1.getD i1 default).up, ms1) ⟨au2, rfl, trivial⟩ au1 (fun _ h => h) ?_ ?_
     · exact ⟨by assumption, nC_wf hw2 _ _, hu1, by rw [shD_pos (bnot h4) (bnot h5)] at hgr; exact hgr⟩
     · first | omega | (dsimp only; omega)
    rw [shD_neg (fun q => by have := bnotF h5; have q2 : (N2.getD ((N2.getD o2 default).ch (!s)) default).red = false := q.2; rw [this] at q2; cases q2)] at hgr
    refine wpM.skip ?_
    refine QM.then ?_
    refine wpM.seq ?_
    refine wpM.seq (wpM.region ?_)
    refine LM.mv rfl ?_
    refine LM.val (ov_nilCheck rfl) ?_
    refine LM.val (ov_field Try.underlying131 rfl Try.sizeOf129 rfl (k := 1) rfl rfl) ?_
    refine LM.rd (om_ld Try.isAgg129 rfl rfl) ?_
    refine LM.mv rfl ?_
    refine LM.val (ov_idxSN au6 Try.underlying129 Try.sizeOf136 rfl rfl (by omega)) ?_
    refine LM.val (ov_field Try.underlying136 rfl Try.sizeOf4 rfl (k := 6) rfl rfl) ?_
    refine LM.rd (om_slE (j := 6) (by assumption) (by intro _; rfl) Try.isAgg4 rfl rfl (by exact getq default (by first | omega | (simp only [nL_len, nR_len, nU_len, nC_len, List.length_set, List.length_append, List.length_cons, List.length_nil]; omega))) rfl (by rfl)) ?_
    first | refine LM.val (ov_notD rfl) ?_ | refine LM.val (ov_not rfl) ?_
    refine LM.nil (QM.sub (e' := [(0, _), (4, _), (5, _), (6, _), (7, _), (8, _), (125, _)]) au9 (QM.then ?_))
    refine wpM.joinK (α := List Nd × Nat × Nat × Nat × Mem0) (fun ⟨N3, root3, o3, far3, m3⟩ => [(6, .int .i64 (o3 : Nat)), (8, .int .i64 (far3 : Nat))]) [(0, _), (4, _), (5, _)] (fun ⟨N3, root3, o3, far3, m3⟩ => rtB b most bn n cap root3 first free cnt :: (m3 ++ [])) (fun ⟨N3, root3, o3, far3, m3⟩ => NdS n0 bn n cap N3 m3 ∧ WfS (N3, root3) N.length ∧ o3 < N.length ∧ far3 < N.length ∧ shrF k (shC (N3, root3) (N1.getD i1 default).up s o3 far3) (shC (N3, root3) (N1.getD i1 default).up s o3 far3).2 = some S') ⟨rfl, rfl, rfl, trivial⟩ ?_ ?_
    ·
     first | refine wpM.condD rfl (fun h6 => ?_) (fun h6 => ?_) | refine wpM.condB rfl (fun h6 => ?_) (fun h6 => ?_)
     ·
      refine wpM.seq ?_
      refine wpM.draw [(0, 0), (1, 0), (2, 0), (3, 1), (4, 0), (5, 0), (6, 0), (7, 0), (8, 1), (9, 0), (10, 0), (11, 0), (12, 3), (13, 3), (14, 3), (15, 3)] (by kernel_rfl) (by kernel_rfl) ?_
      refine LD.val rfl rfl (ov_move rfl) ?_
      refine LD.val rfl rfl (ov_nilCheck rfl) ?_
      refine LD.val rfl rfl (ov_field Try.underlying131 rfl Try.sizeOf129 rfl (k := 1) rfl rfl) ?_
      refine LD.rd rfl rfl (om_ld Try.isAgg129 rfl rfl) ?_
      refine LD.val rfl rfl (ov_move rfl) ?_
      refine LD.val rfl rfl (ov_move rfl) ?_
      refine LD.val rfl rfl (ov_nilCheck rfl) ?_
      refine LD.val rfl rfl (ov_field Try.underlying131 rfl Try.sizeOf129 rfl (k := 1) rfl rfl) ?_
      refine LD.rd rfl rfl (om_ld Try.isAgg129 rfl rfl) ?_
      refine LD.val rfl rfl (ov_move rfl) ?_
      refine LD.val rfl rfl (ov_idxSN au6 Try.underlying129 Try.sizeOf136 rfl rfl (by omega)) ?_
      refine LD.val rfl rfl (ov_field Try.underlying136 rfl Try.sizeOf4 rfl (k := 6) rfl rfl) ?_
      refine LD.tail rfl rfl ?_
      refine LM.stS ({ gN (N2) ( (N2.getD o2 default).ch s) with red :=  false }) (j := 6) (by assumption) (by intro _; rfl) Try.sizeOf4 rfl rfl rfl (by exact getq default (by first | omega | (simp only [nL_len, nR_len, nU_len, nC_len, List.length_set, List.length_append, List.length_cons, List.length_nil]; omega))) rfl (by decide) (by rfl) rfl (fun p hp _ => .inr (Sl.at_bn (by assumption) p hp)) (fun ms1 hss1 hmm1 => ?_)
      change Sl _ _ _ _ (nC (N2) ( (N2.getD o2 default).ch s) ( false)) _ _ at hss1
      refine LM.val (ov_idxSN au6 Try.underlying129 Try.sizeOf136 rfl rfl (by omega)) ?_
      refine LM.val (ov_field Try.underlying136 rfl Try.sizeOf4 rfl (k := 6) rfl rfl) ?_
      refine LM.stS ({ gN (nC N2 ((N2.getD o2 default).ch s) false) ( o2) with red :=  true }) (j := 6) (by assumption) (by intro _; rfl) Try.sizeOf4 rfl rfl rfl (by exact getq default (by first | omega | (simp only [nL_len, nR_len, nU_len, nC_len, List.length_set, List.length_append, List.length_cons, List.length_nil]; omega))) rfl (by decide) (by rfl) rfl (fun p hp _ => .inr (Sl.at_bn (by assumption) p hp)) (fun ms2 hss2 hmm2 => ?_)
      change Sl _ _ _ _ (nC (nC N2 ((N2.getD o2 default).ch s) false) ( o2) ( true)) _ _ at hss2
      refine LM.nil ?_
      refine QM.qn ?_
      refine QM.sub (e' := [(0, _), (4, _), (5, _), (6, _), (7, _)]) au9 (QM.then (wpM.seq (wpM.region ?_)))
      refine LM.mv rfl (LM.mv rfl (LM.mv rfl ?_))
      first | refine LM.val (ov_notD rfl) ?_ | refine LM.val (ov_not rfl) ?_
      refine LM.cU (oc_call (enters_fn Try.func113 (by kernel_rfl) rfl) rfl) (fun w hm hc hg => turn_spec (N := nC (nC N2 ((N2.getD o2 default).ch s) false) o2 true) o2 (!s) w (by rw [nC_len, nC_len, hl2]; exact hn) hss2 (by rw [nC_len, nC_len, hl2]; exact nC_wf (nC_wf hw2 _ _) _ _) (by rw [nC_len, nC_len, hl2]; exact ho2) (hm.pick (rtB b most bn n cap root2 first free cnt :: ms2))) (rt_wlk hss2) (rt_hS hss2) ?_
      rintro u144 m144 ⟨rfl, m6, rfl, hs6⟩ -; have hw6 := trn_wf (nC_wf (nC_wf hw2 ((N2.getD o2 default).ch s) false) o2 true) ho2 (!s); have hl6 := hw6.len
      refine LM.nil (QM.sub (e' := [(0, _), (4, _), (5, _), (7, _)]) au9 (QM.then (wpM.seq (wpM.region ?_))))
      refine LM.mv rfl (LM.as rfl ?_)
      refine LM.nil (QM.sub (e' := [(0, _), (4, _), (5, _), (6, _)]) au9 (QM.then (wpM.region ?_)))
      refine LM.mv rfl (LM.mv rfl (LM.mv rfl ?_))
      first | refine LM.val (ov_notD rfl) ?_ | refine LM.val (ov_not rfl) ?_
      refine LM.callE (oc_call (enters_fn Try.func112 (by kernel_rfl) rfl) rfl) (fun w hm hc hg => below_spec (N := (trnF (nC (nC N2 ((N2.getD o2 default).ch s) false) o2 true, root2) o2 (!s)).1) ((N2.getD o2 default).ch s) (!s) w (hn.trans hl6.symm) hs6 (by rw [hl6]; exact hna) (hm.pick (rtB b most bn n cap (trnF (nC (nC N2 ((N2.getD o2 default).ch s) false) o2 true, root2) o2 (!s)).2 first free cnt :: m6))) ?_
      refine LM.as rfl ?_
      refine LM.nil (QM.sub (e' := [(0, _), (4, _), (5, _), (6, _), (8, _)]) au9 ?_)
      refine QM.meetK ((trnF (nC (nC N2 ((N2.getD o2 default).ch s) false) o2 true, root2) o2 (!s)).1, (trnF (nC (nC N2 ((N2.getD o2 default).ch s) false) o2 true, root2) o2 (!s)).2, (N2.getD o2 default).ch s, _, m6) ⟨au2, au2, rfl, rfl, rfl, trivial⟩ au1 ?_
      · exact ⟨hs6, hw6, hna, ch_wf hw6 _ _, by rw [shB_pos (bnot h6)] at hgr; exact hgr⟩
     refine wpM.skip ?_
     refine QM.meetK (N2, root2, o2, (N2.getD o2 default).ch (!s), m2) ⟨au2, au2, rfl, rfl, rfl, trivial⟩ au1 ?_
     · exact ⟨hs2, hw2, ho2, hfa, by rw [shB_neg (bnotF h6)] at hgr; exact hgr⟩
    rintro ⟨N3, root3, o3, far3, m3⟩ ⟨hs3, hw3, ho3, hf3, hgr⟩
    change QM _ _ _ _ _ (rtB b most bn n cap root3 first free cnt :: (m3 ++ [])) _ _ _
    have hl3 : N3.length = N.length := hw3.len
    refine QM.then ?_
    refine wpM.seq ?_
    refine wpM.draw [(0, 0), (1, 0), (2, 0), (3, 1), (4, 0), (5, 0), (6, 0), (7, 0), (8, 1), (9, 0), (10, 0), (11, 0), (12, 1), (13, 0), (14, 0), (15, 3)] (by kernel_rfl) (by kernel_rfl) ?_
    refine LD.val rfl rfl (ov_move rfl) ?_
    refine LD.val rfl rfl (ov_nilCheck rfl) ?_
    refine LD.val rfl rfl (ov_field Try.underlying131 rfl Try.sizeOf129 rfl (k := 1) rfl rfl) ?_
    refine LD.rd rfl rfl (om_ld Try.isAgg129 rfl rfl) ?_
    refine LD.val rfl rfl (ov_move rfl) ?_
    refine LD.val rfl rfl (ov_move rfl) ?_
    refine LD.val rfl rfl (ov_nilCheck rfl) ?_
    refine LD.val rfl rfl (ov_field Try.underlying131 rfl Try.sizeOf129 rfl (k := 1) rfl rfl) ?_
    refine LD.rd rfl rfl (om_ld Try.isAgg129 rfl rfl) ?_
    refine LD.val rfl rfl (ov_move rfl) ?_
    refine LD.val rfl rfl (ov_idxSN au6 Try.underlying129 Try.sizeOf136 rfl rfl (by omega)) ?_
    refine LD.val rfl rfl (ov_field Try.underlying136 rfl Try.sizeOf4 rfl (k := 6) rfl rfl) ?_
    refine LD.rd rfl rfl (om_slE (j := 6) (by assumption) (by intro _; rfl) Try.isAgg4 rfl rfl (by exact getq default (by first | omega | (simp only [nL_len, nR_len, nU_len, nC_len, List.length_set, List.length_append, List.length_cons, List.length_nil]; omega))) rfl (by rfl)) ?_
    refine LD.val rfl rfl (ov_idxSN au6 Try.underlying129 Try.sizeOf136 rfl rfl (by omega)) ?_
    refine LD.val rfl rfl (ov_field Try.underlying136 rfl Try.sizeOf4 rfl (k := 6) rfl rfl) ?_
    refine LD.tail rfl rfl ?_
    refine LM.stS ({ gN (N3) ( o3) with red :=  (N3.getD (N1.getD i1 default).up default).red }) (j := 6) (by assumption) (by intro _; rfl) Try.sizeOf4 rfl rfl rfl (by exact getq default (by first | omega | (simp only [nL_len, nR_len, nU_len, nC_len, List.length_set, List.length_append, List.length_cons, List.length_nil]; omega))) rfl (by decide) (by rfl) rfl (fun p hp _ => .inr (Sl.at_bn (by assumption) p hp)) (fun ms1 hss1 hmm1 => ?_)
    change Sl _ _ _ _ (nC (N3) ( o3) ( (N3.getD (N1.getD i1 default).up default).red)) _ _ at hss1
    refine LM.nil ?_
    refine QM.qn ?_
    refine QM.sub (e' := [(0, _), (4, _), (5, _), (8, _)]) au9 (QM.then ?_)
    refine wpM.seq ?_
    refine wpM.draw [(0, 0), (1, 0), (2, 0), (3, 1), (4, 0), (5, 0), (6, 0), (7, 0), (8, 1), (9, 0), (10, 0), (11, 0), (12, 3), (13, 3), (14, 3), (15, 3)] (by kernel_rfl) (by kernel_rfl) ?_
    refine LD.val rfl rfl (ov_move rfl) ?_
    refine LD.val rfl rfl (ov_nilCheck rfl) ?_
    refine LD.val rfl rfl (ov_field Try.underlying131 rfl Try.sizeOf129 rfl (k := 1) rfl rfl) ?_
    refine LD.rd rfl rfl (om_ld Try.isAgg129 rfl rfl) ?_
    refine LD.val rfl rfl (ov_move rfl) ?_
    refine LD.val rfl rfl (ov_move rfl) ?_
    refine LD.val rfl rfl (ov_nilCheck rfl) ?_
    refine LD.val rfl rfl (ov_field Try.underlying131 rfl Try.sizeOf129 rfl (k := 1) rfl rfl) ?_
    refine LD.rd rfl rfl (om_ld Try.isAgg129 rfl rfl) ?_
    refine LD.val rfl rfl (ov_move rfl) ?_
    refine LD.val rfl rfl (ov_idxSN au6 Try.underlying129 Try.sizeOf136 rfl rfl (by omega)) ?_
    refine LD.val rfl rfl (ov_field Try.underlying136 rfl Try.sizeOf4 rfl (k := 6) rfl rfl) ?_
    refine LD.tail rfl rfl ?_
    refine LM.stS ({ gN (nC N3 o3 (N3.getD (N1.getD i1 default).up default).red) ( (N1.getD i1 default).up) with red :=  false }) (j := 6) (by assumption) (by intro _; rfl) Try.sizeOf4 rfl rfl rfl (by exact getq default (by first | omega | (simp only [nL_len, nR_len, nU_len, nC_len, List.length_set, List.length_append, List.length_cons, List.length_nil]; omega))) rfl (by decide) (by rfl) rfl (fun p hp _ => .inr (Sl.at_bn (by assumption) p hp)) (fun ms2 hss2 hmm2 => ?_)
    change Sl _ _ _ _ (nC (nC N3 o3 (N3.getD (N1.getD i1 default).up default).red) ( (N1.getD i1 default).up) ( false)) _ _ at hss2
    refine LM.val (ov_idxSN au6 Try.underlying129 Try.sizeOf136 rfl rfl (by omega)) ?_
    refine LM.val (ov_field Try.underlying136 rfl Try.sizeOf4 rfl (k := 6) rfl rfl) ?_
    refine LM.stS ({ gN (nC (nC N3 o3 (N3.getD (N1.getD i1 default).up default).red) (N1.getD i1 default).up false) ( far3) with red :=  false }) (j := 6) (by assumption) (by intro _; rfl) Try.sizeOf4 rfl rfl rfl (by exact getq default (by first | omega | (simp only [nL_len, nR_len, nU_len, nC_len, List.length_set, List.length_append, List.length_cons, List.length_nil]; omega))) rfl (by decide) (by rfl) rfl (fun p hp _ => .inr (Sl.at_bn (by assumption) p hp)) (fun ms3 hss3 hmm3 => ?_)
    change Sl _ _ _ _ (nC (nC (nC N3 o3 (N3.getD (N1.getD i1 default).up default).red) (N1.getD i1 default).up false) ( far3) ( false)) _ _ at hss3
    refine LM.nil ?_
    refine QM.qn ?_
    refine QM.sub (e' := [(0, _), (4, _), (5, _)]) au9 (QM.then (wpM.seq (wpM.region ?_)))
    refine LM.mv rfl (LM.mv rfl (LM.mv rfl ?_))
    refine LM.cU (oc_call (enters_fn Try.func113 (by kernel_rfl) rfl) rfl) (fun w hm hc hg => turn_spec (N := nC (nC (nC N3 o3 (N3.getD (N1.getD i1 default).up default).red) (N1.getD i1 default).up false) far3 false) (N1.getD i1 default).up s w (by rw [nC_len, nC_len, nC_len, hl3]; exact hn) hss3 (by rw [nC_len, nC_len, nC_len, hl3]; exact nC_wf (nC_wf (nC_wf hw3 _ _) _ _) _ _) (by rw [nC_len, nC_len, nC_len, hl3]; exact hu1) (hm.pick (rtB b most bn n cap root3 first free cnt :: ms3))) (rt_wlk hss3) (rt_hS hss3) ?_
    rintro u183 m183 ⟨rfl, m9, rfl, hs9⟩ -
    refine LM.nil (QM.sub (e' := [(0, _)]) ⟨rfl, trivial⟩ (QM.then (wpM.region ?_)))
    refine LM.mv rfl ?_
    refine LM.val (ov_nilCheck rfl) ?_
    refine LM.val (ov_field Try.underlying131 rfl Try.sizeOf3 rfl (k := 2) rfl rfl) ?_
    refine LM.rd (om_ld Try.isAgg3 rfl rfl) ?_
    refine LM.as rfl ?_
    refine LM.nil (QM.sub (e' := [(0, _), (1, _)]) au9 ?_)
    refine QM.block_normal ?_
    refine QM.againK (k, (shC (N3, root3) (N1.getD i1 default).up s o3 far3).1, (shC (N3, root3) (N1.getD i1 default).up s o3 far3).2, (shC (N3, root3) (N1.getD i1 default).up s o3 far3).2, m9) ⟨au2, rfl, trivial⟩ au1 (fun _ h => h) ?_ ?_
    · exact ⟨hs9, shC_wf hw3 s hu1, (shC_wf hw3 s hu1).rt, hgr⟩
    · first | omega | (dsimp only; omega)
   rw [shD_neg (fun q => by have := bnotF h4; have q2 : (N2.getD ((N2.getD o2 default).ch s) default).red = false := q.1; rw [this] at q2; cases q2)] at hgr
   refine LM.dr 98 rfl rfl rfl (LM.dr 98 rfl rfl rfl (LM.dr 98 rfl rfl rfl (LM.dr 98 rfl rfl rfl (LM.dr 98 rfl rfl rfl (LM.dr 98 rfl rfl rfl ?_)))))
   refine LM.dr 98 rfl rfl rfl (LM.dr 98 rfl rfl rfl (LM.dr 98 rfl rfl rfl ?_))
   refine LM.val (ov_pickF rfl rfl) ?_
   refine LM.nil (QM.sub (e' := [(0, _), (4, _), (5, _), (6, _), (7, _), (8, _), (108, _)]) au9 (QM.then ?_))
   refine wpM.condF rfl ?_
   refine wpM.skip ?_
   refine QM.then ?_
   refine wpM.seq ?_
   refine wpM.seq (wpM.region ?_)
   refine LM.mv rfl ?_
   refine LM.val (ov_nilCheck rfl) ?_
   refine LM.val (ov_field Try.underlying131 rfl Try.sizeOf129 rfl (k := 1) rfl rfl) ?_
   refine LM.rd (om_ld Try.isAgg129 rfl rfl) ?_
   refine LM.mv rfl ?_
   refine LM.val (ov_idxSN au6 Try.underlying129 Try.sizeOf136 rfl rfl (by omega)) ?_
   refine LM.val (ov_field Try.underlying136 rfl Try.sizeOf4 rfl (k := 6) rfl rfl) ?_
   refine LM.rd (om_slE (j := 6) (by assumption) (by intro _; rfl) Try.isAgg4 rfl rfl (by exact getq default (by first | omega | (simp only [nL_len, nR_len, nU_len, nC_len, List.length_set, List.length_append, List.length_cons, List.length_nil]; omega))) rfl (by rfl)) ?_
   first | refine LM.val (ov_notD rfl) ?_ | refine LM.val (ov_not rfl) ?_
   refine LM.nil (QM.sub (e' := [(0, _), (4, _), (5, _), (6, _), (7, _), (8, _), (125, _)]) au9 (QM.then ?_))
   refine wpM.joinK (α := List Nd × Nat × Nat × Nat × Mem0) (fun ⟨N3, root3, o3, far3, m3⟩ => [(6, .int .i64 (o3 : Nat)), (8, .int .i64 (far3 : Nat))]) [(0, _), (4, _), (5, _)] (fun ⟨N3, root3, o3, far3, m3⟩ => rtB b most bn n cap root3 first free cnt :: (m3 ++ [])) (fun ⟨N3, root3, o3, far3, m3⟩ => NdS n0 bn n cap N3 m3 ∧ WfS (N3, root3) N.length ∧ o3 < N.length ∧ far3 < N.length ∧ shrF k (shC (N3, root3) (N1.getD i1 default).up s o3 far3) (shC (N3, root3) (N1.getD i1 default).up s o3 far3).2 = some S') ⟨rfl, rfl, rfl, trivial⟩ ?_ ?_
   ·
    first | refine wpM.condD rfl (fun h7 => ?_) (fun h7 => ?_) | refine wpM.condB rfl (fun h7 => ?_) (fun h7 => ?_)
    ·
     refine wpM.seq ?_
     refine wpM.draw [(0, 0), (1, 0), (2, 0), (3, 1), (4, 0), (5, 0), (6, 0), (7, 0), (8, 1), (9, 0), (10, 0), (11, 0), (12, 3), (13, 3), (14, 3), (15, 3)] (by kernel_rfl) (by kernel_rfl) ?_
     refine LD.val rfl rfl (ov_move rfl) ?_
     refine LD.val rfl rfl (ov_nilCheck rfl) ?_
     refine LD.val rfl rfl (ov_field Try.underlying131 rfl Try.sizeOf129 rfl (k := 1) rfl rfl) ?_
     refine LD.rd rfl rfl (om_ld Try.isAgg129 rfl rfl) ?_
     refine LD.val rfl rfl (ov_move rfl) ?_
     refine LD.val rfl rfl (ov_move rfl) ?_
     refine LD.val rfl rfl (ov_nilCheck rfl) ?_
     refine LD.val rfl rfl (ov_field Try.underlying131 rfl Try.sizeOf129 rfl (k := 1) rfl rfl) ?_
     refine LD.rd rfl rfl (om_ld Try.isAgg129 rfl rfl) ?_
     refine LD.val rfl rfl (ov_move rfl) ?_
     refine LD.val rfl rfl (ov_idxSN au6 Try.underlying129 Try.sizeOf136 rfl rfl (by omega)) ?_
     refine LD.val rfl rfl (ov_field Try.underlying136 rfl Try.sizeOf4 rfl (k := 6) rfl rfl) ?_
     refine LD.tail rfl rfl ?_
     refine LM.stS ({ gN (N2) ( (N2.getD o2 default).ch s) with red :=  false }) (j := 6) (by assumption) (by intro _; rfl) Try.sizeOf4 rfl rfl rfl (by exact getq default (by first | omega | (simp only [nL_len, nR_len, nU_len, nC_len, List.length_set, List.length_append, List.length_cons, List.length_nil]; omega))) rfl (by decide) (by rfl) rfl (fun p hp _ => .inr (Sl.at_bn (by assumption) p hp)) (fun ms1 hss1 hmm1 => ?_)
     change Sl _ _ _ _ (nC (N2) ( (N2.getD o2 default).ch s) ( false)) _ _ at hss1
     refine LM.val (ov_idxSN au6 Try.underlying129 Try.sizeOf136 rfl rfl (by omega)) ?_
     refine LM.val (ov_field Try.underlying136 rfl Try.sizeOf4 rfl (k := 6) rfl rfl) ?_
     refine LM.stS ({ gN (nC N2 ((N2.getD o2 default).ch s) false) ( o2) with red :=  true }) (j := 6) (by assumption) (by intro _; rfl) Try.sizeOf4 rfl rfl rfl (by exact getq default (by first | omega | (simp only [nL_len, nR_len, nU_len, nC_len, List.length_set, List.length_append, List.length_cons, List.length_nil]; omega))) rfl (by decide) (by rfl) rfl (fun p hp _ => .inr (Sl.at_bn (by assumption) p hp)) (fun ms2 hss2 hmm2 => ?_)
     change Sl _ _ _ _ (nC (nC N2 ((N2.getD o2 default).ch s) false) ( o2) ( true)) _ _ at hss2
     refine LM.nil ?_
     refine QM.qn ?_
     refine QM.sub (e' := [(0, _), (4, _), (5, _), (6, _), (7, _)]) au9 (QM.then (wpM.seq (wpM.region ?_)))
     refine LM.mv rfl (LM.mv rfl (LM.mv rfl ?_))
     first | refine LM.val (ov_notD rfl) ?_ | refine LM.val (ov_not rfl) ?_
     refine LM.cU (oc_call (enters_fn Try.func113 (by kernel_rfl) rfl) rfl) (fun w hm hc hg => turn_spec (N := nC (nC N2 ((N2.getD o2 default).ch s) false) o2 true) o2 (!s) w (by rw [nC_len, nC_len, hl2]; exact hn) hss2 (by rw [nC_len, nC_len, hl2]; exact nC_wf (nC_wf hw2 _ _) _ _) (by rw [nC_len, nC_len, hl2]; exact ho2) (hm.pick (rtB b most bn n cap root2 first free cnt :: ms2))) (rt_wlk hss2) (rt_hS hss2) ?_
     rintro u144 m144 ⟨rfl, m6, rfl, hs6⟩ -; have hw6 := trn_wf (nC_wf (nC_wf hw2 ((N2.getD o2 default).ch s) false) o2 true) ho2 (!s); have hl6 := hw6.len
     refine LM.nil (QM.sub (e' := [(0, _), (4, _), (5, _), (7, _)]) au9 (QM.then (wpM.seq (wpM.region ?_))))
     refine LM.mv rfl (LM.as rfl ?_)
     refine LM.nil (QM.sub (e' := [(0, _), (4, _), (5, _), (6, _)]) au9 (QM.then (wpM.region ?_)))
     refine LM.mv rfl (LM.mv rfl (LM.mv rfl ?_))
     first | refine LM.val (ov_notD rfl) ?_ | refine LM.val (ov_not rfl) ?_
     refine LM.callE (oc_call (enters_fn Try.func112 (by kernel_rfl) rfl) rfl) (fun w hm hc hg => below_spec (N := (trnF (nC (nC N2 ((N2.getD o2 default).ch s) false) o2 true, root2) o2 (!s)).1) ((N2.getD o2 default).ch s) (!s) w (hn.trans hl6.symm) hs6 (by rw [hl6]; exact hna) (hm.pick (rtB b most bn n cap (trnF (nC (nC N2 ((N2.getD o2 default).ch s) false) o2 true, root2) o2 (!s)).2 first free cnt :: m6))) ?_
     refine LM.as rfl ?_
     refine LM.nil (QM.sub (e' := [(0, _), (4, _), (5, _), (6, _), (8, _)]) au9 ?_)
     refine QM.meetK ((trnF (nC (nC N2 ((N2.getD o2 default).ch s) false) o2 true, root2) o2 (!s)).1, (trnF (nC (nC N2 ((N2.getD o2 default).ch s) false) o2 true, root2) o2 (!s)).2, (N2.getD o2 default).ch s, _, m6) ⟨au2, au2, rfl, rfl, rfl, trivial⟩ au1 ?_
     · exact ⟨hs6, hw6, hna, ch_wf hw6 _ _, by rw [shB_pos (bnot h7)] at hgr; exact hgr⟩
    refine wpM.skip ?_
    refine QM.meetK (N2, root2, o2, (N2.getD o2 default).ch (!s), m2) ⟨au2, au2, rfl, rfl, rfl, trivial⟩ au1 ?_
    · exact ⟨hs2, hw2, ho2, hfa, by rw [shB_neg (bnotF h7)] at hgr; exact hgr⟩
   rintro ⟨N3, root3, o3, far3, m3⟩ ⟨hs3, hw3, ho3, hf3, hgr⟩
   change QM _ _ _ _ _ (rtB b most bn n cap root3 first free cnt :: (m3 ++ [])) _ _ _
   have hl3 : N3.length = N.length := hw3.len
   refine QM.then ?_
   refine wpM.seq ?_
   refine wpM.draw [(0, 0), (1, 0), (2, 0), (3, 1), (4, 0), (5, 0), (6, 0), (7, 0), (8, 1), (9, 0), (10, 0), (11, 0), (12, 1), (13, 0), (14, 0), (15, 3)] (by kernel_rfl) (by kernel_rfl) ?_
   refine LD.val rfl rfl (ov_move rfl) ?_
   refine LD.val rfl rfl (ov_nilCheck rfl) ?_
   refine LD.val rfl rfl (ov_field Try.underlying131 rfl Try.sizeOf129 rfl (k := 1) rfl rfl) ?_
   refine LD.rd rfl rfl (om_ld Try.isAgg129 rfl rfl) ?_
   refine LD.val rfl rfl (ov_move rfl) ?_
   refine LD.val rfl rfl (ov_move rfl) ?_
   refine LD.val rfl rfl (ov_nilCheck rfl) ?_
   refine LD.val rfl rfl (ov_field Try.underlying131 rfl Try.sizeOf129 rfl (k := 1) rfl rfl) ?_
   refine LD.rd rfl rfl (om_ld Try.isAgg129 rfl rfl) ?_
   refine LD.val rfl rfl (ov_move rfl) ?_
   refine LD.val rfl rfl (ov_idxSN au6 Try.underlying129 Try.sizeOf136 rfl rfl (by omega)) ?_
   refine LD.val rfl rfl (ov_field Try.underlying136 rfl Try.sizeOf4 rfl (k := 6) rfl rfl) ?_
   refine LD.rd rfl rfl (om_slE (j := 6) (by assumption) (by intro _; rfl) Try.isAgg4 rfl rfl (by exact getq default (by first | omega | (simp only [nL_len, nR_len, nU_len, nC_len, List.length_set, List.length_append, List.length_cons, List.length_nil]; omega))) rfl (by rfl)) ?_
   refine LD.val rfl rfl (ov_idxSN au6 Try.underlying129 Try.sizeOf136 rfl rfl (by omega)) ?_
   refine LD.val rfl rfl (ov_field Try.underlying136 rfl Try.sizeOf4 rfl (k := 6) rfl rfl) ?_
   refine LD.tail rfl rfl ?_
   refine LM.stS ({ gN (N3) ( o3) with red :=  (N3.getD (N1.getD i1 default).up default).red }) (j := 6) (by assumption) (by intro _; rfl) Try.sizeOf4 rfl rfl rfl (by exact getq default (by first | omega | (simp only [nL_len, nR_len, nU_len, nC_len, List.length_set, List.length_append, List.length_cons, List.length_nil]; omega))) rfl (by decide) (by rfl) rfl (fun p hp _ => .inr (Sl.at_bn (by assumption) p hp)) (fun ms1 hss1 hmm1 => ?_)
   change Sl _ _ _ _ (nC (N3) ( o3) ( (N3.getD (N1.getD i1 default).up default).red)) _ _ at hss1
   refine LM.nil ?_
   refine QM.qn ?_
   refine QM.sub (e' := [(0, _), (4, _), (5, _), (8, _)]) au9 (QM.then ?_)
   refine wpM.seq ?_
   refine wpM.draw [(0, 0), (1, 0), (2, 0), (3, 1), (4, 0), (5, 0), (6, 0), (7, 0), (8, 1), (9, 0), (10, 0), (11, 0), (12, 3), (13, 3), (14, 3), (15, 3)] (by kernel_rfl) (by kernel_rfl) ?_
   refine LD.val rfl rfl (ov_move rfl) ?_
   refine LD.val rfl rfl (ov_nilCheck rfl) ?_
   refine LD.val rfl rfl (ov_field Try.underlying131 rfl Try.sizeOf129 rfl (k := 1) rfl rfl) ?_
   refine LD.rd rfl rfl (om_ld Try.isAgg129 rfl rfl) ?_
   refine LD.val rfl rfl (ov_move rfl) ?_
   refine LD.val rfl rfl (ov_move rfl) ?_
   refine LD.val rfl rfl (ov_nilCheck rfl) ?_
   refine LD.val rfl rfl (ov_field Try.underlying131 rfl Try.sizeOf129 rfl (k := 1) rfl rfl) ?_
   refine LD.rd rfl rfl (om_ld Try.isAgg129 rfl rfl) ?_
   refine LD.val rfl rfl (ov_move rfl) ?_
   refine LD.val rfl rfl (ov_idxSN au6 Try.underlying129 Try.sizeOf136 rfl rfl (by omega)) ?_
   refine LD.val rfl rfl (ov_field Try.underlying136 rfl Try.sizeOf4 rfl (k := 6) rfl rfl) ?_
   refine LD.tail rfl rfl ?_
   refine LM.stS ({ gN (nC N3 o3 (N3.getD (N1.getD i1 default).up default).red) ( (N1.getD i1 default).up) with red :=  false }) (j := 6) (by assumption) (by intro _; rfl) Try.sizeOf4 rfl rfl rfl (by exact getq default (by first | omega | (simp only [nL_len, nR_len, nU_len, nC_len, List.length_set, List.length_append, List.length_cons, List.length_nil]; omega))) rfl (by decide) (by rfl) rfl (fun p hp _ => .inr (Sl.at_bn (by assumption) p hp)) (fun ms2 hss2 hmm2 => ?_)
   change Sl _ _ _ _ (nC (nC N3 o3 (N3.getD (N1.getD i1 default).up default).red) ( (N1.getD i1 default).up) ( false)) _ _ at hss2
   refine LM.val (ov_idxSN au6 Try.underlying129 Try.sizeOf136 rfl rfl (by omega)) ?_
   refine LM.val (ov_field Try.underlying136 rfl Try.sizeOf4 rfl (k := 6) rfl rfl) ?_
   refine LM.stS ({ gN (nC (nC N3 o3 (N3.getD (N1.getD i1 default).up default).red) (N1.getD i1 default).up false) ( far3) with red :=  false }) (j := 6) (by assumption) (by intro _; rfl) Try.sizeOf4 rfl rfl rfl (by exact getq default (by first | omega | (simp only [nL_len, nR_len, nU_len, nC_len, List.length_set, List.length_append, List.length_cons, List.length_nil]; omega))) rfl (by decide) (by rfl) rfl (fun p hp _ => .inr (Sl.at_bn (by assumption) p hp)) (fun ms3 hss3 hmm3 => ?_)
   change Sl _ _ _ _ (nC (nC (nC N3 o3 (N3.getD (N1.getD i1 default).up default).red) (N1.getD i1 default).up false) ( far3) ( false)) _ _ at hss3
   refine LM.nil ?_
   refine QM.qn ?_
   refine QM.sub (e' := [(0, _), (4, _), (5, _)]) au9 (QM.then (wpM.seq (wpM.region ?_)))
   refine LM.mv rfl (LM.mv rfl (LM.mv rfl ?_))
   refine LM.cU (oc_call (enters_fn Try.func113 (by kernel_rfl) rfl) rfl) (fun w hm hc hg => turn_spec (N := nC (nC (nC N3 o3 (N3.getD (N1.getD i1 default).up default).red) (N1.getD i1 default).up false) far3 false) (N1.getD i1 default).up s w (by rw [nC_len, nC_len, nC_len, hl3]; exact hn) hss3 (by rw [nC_len, nC_len, nC_len, hl3]; exact nC_wf (nC_wf (nC_wf hw3 _ _) _ _) _ _) (by rw [nC_len, nC_len, nC_len, hl3]; exact hu1) (hm.pick (rtB b most bn n cap root3 first free cnt :: ms3))) (rt_wlk hss3) (rt_hS hss3) ?_
   rintro u183 m183 ⟨rfl, m9, rfl, hs9⟩ -
   refine LM.nil (QM.sub (e' := [(0, _)]) ⟨rfl, trivial⟩ (QM.then (wpM.region ?_)))
   refine LM.mv rfl ?_
   refine LM.val (ov_nilCheck rfl) ?_
   refine LM.val (ov_field Try.underlying131 rfl Try.sizeOf3 rfl (k := 2) rfl rfl) ?_
   refine LM.rd (om_ld Try.isAgg3 rfl rfl) ?_
   refine LM.as rfl ?_
   refine LM.nil (QM.sub (e' := [(0, _), (1, _)]) au9 ?_)
   refine QM.block_normal ?_
   refine QM.againK (k, (shC (N3, root3) (N1.getD i1 default).up s o3 far3).1, (shC (N3, root3) (N1.getD i1 default).up s o3 far3).2, (shC (N3, root3) (N1.getD i1 default).up s o3 far3).2, m9) ⟨au2, rfl, trivial⟩ au1 (fun _ h => h) ?_ ?_
   · exact ⟨hs9, shC_wf hw3 s hu1, (shC_wf hw3 s hu1).rt, hgr⟩
   · first | omega | (dsimp only; omega)
  rw [if_neg (fun q => by have := bnotF h2; have q2 : (N1.getD i1 default).red = false := q.2; rw [this] at q2; cases q2)] at hgr; cases hgr
  refine wpM.exit ?_
  refine QM.then_exit ?_
  refine QM.then_exit ?_
  refine QM.block_hit ?_
  refine QM.then (wpM.region ?_)
  refine LM.mv rfl ?_
  refine LM.val (ov_nilCheck rfl) ?_
  refine LM.val (ov_field Try.underlying131 rfl Try.sizeOf129 rfl (k := 1) rfl rfl) ?_
  refine LM.rd (om_ld Try.isAgg129 rfl rfl) ?_
  refine LM.mv rfl ?_
  refine LM.val (ov_idxSN au6 Try.underlying129 Try.sizeOf136 rfl rfl (by omega)) ?_
  refine LM.val (ov_field Try.underlying136 rfl Try.sizeOf4 rfl (k := 6) rfl rfl) ?_
  refine LM.stS ({ gN (N1) ( i1) with red :=  false }) (j := 6) (by assumption) (by intro _; rfl) Try.sizeOf4 rfl rfl rfl (by exact getq default (by first | omega | (simp only [nL_len, nR_len, nU_len, nC_len, List.length_set, List.length_append, List.length_cons, List.length_nil]; omega))) rfl (by decide) (by rfl) rfl (fun p hp _ => .inr (Sl.at_bn (by assumption) p hp)) (fun ms1 hss1 hmm1 => ?_)
  change Sl _ _ _ _ (nC (N1) ( i1) ( false)) _ _ at hss1
  refine LM.nil (QM.sub (e' := []) trivial ?_)
  refine QM.leave (.inr rfl) [] Try.results116 rfl ?_
  intro w' hm' hc' hg'
  exact rt_leaf hs (by assumption) hm' au1 hc'
 rw [if_neg (fun q => q.1 (Int.natCast_inj.1 (Classical.not_not.1 h1)))] at hgr; cases hgr
 refine LM.dr 15 rfl rfl rfl (LM.dr 15 rfl rfl rfl (LM.dr 15 rfl rfl rfl (LM.dr 15 rfl rfl rfl (LM.dr 15 rfl rfl rfl (LM.dr 15 rfl rfl rfl ?_)))))
 refine LM.dr 15 rfl rfl rfl (LM.dr 15 rfl rfl rfl (LM.dr 15 rfl rfl rfl ?_))
 refine LM.val (ov_pickF rfl rfl) ?_
 refine LM.nil (QM.sub (e' := [(0, _), (1, _), (25, _)]) au9 (QM.then ?_))
 refine wpM.condF rfl ?_
 refine wpM.exit ?_
 refine QM.then_exit ?_
 refine QM.then_exit ?_
 refine QM.block_hit ?_
 refine QM.then (wpM.region ?_)
 refine LM.mv rfl ?_
 refine LM.val (ov_nilCheck rfl) ?_
 refine LM.val (ov_field Try.underlying131 rfl Try.sizeOf129 rfl (k := 1) rfl rfl) ?_
 refine LM.rd (om_ld Try.isAgg129 rfl rfl) ?_
 refine LM.mv rfl ?_
 refine LM.val (ov_idxSN au6 Try.underlying129 Try.sizeOf136 rfl rfl (by omega)) ?_
 refine LM.val (ov_field Try.underlying136 rfl Try.sizeOf4 rfl (k := 6) rfl rfl) ?_
 refine LM.stS ({ gN (N1) ( i1) with red :=  false }) (j := 6) (by assumption) (by intro _; rfl) Try.sizeOf4 rfl rfl rfl (by exact getq default (by first | omega | (simp only [nL_len, nR_len, nU_len, nC_len, List.length_set, List.length_append, List.length_cons, List.length_nil]; omega))) rfl (by decide) (by rfl) rfl (fun p hp _ => .inr (Sl.at_bn (by assumption) p hp)) (fun ms1 hss1 hmm1 => ?_)
 change Sl _ _ _ _ (nC (N1) ( i1) ( false)) _ _ at hss1
 refine LM.nil (QM.sub (e' := []) trivial ?_)
 refine QM.leave (.inr rfl) [] Try.results116 rfl ?_
 intro w' hm' hc' hg'
 exact rt_leaf hs (by assumption) hm' au1 hc'
end Go.Eng
namespace Go.Eng
open Go Go.Proofs Go.RowKit
set_option maxRecDepth 100000 in
theorem find_spec {n0 b most bn n cap root first free cnt : Nat} {N : List Nd} {ms : Mem0} {r : Nat × Nat} (f : Nat) (k : Kv) (w : World) (hF : fndF N k f root 0 = some r) (hn : n = N.length) (hs : NdS n0 bn n cap N ms) (hw : WfS (N, root) N.length) (hM : Mem w (rtB b most bn n cap root first free cnt :: ms)) : Ret Try.prog 89 #[.pointer (some ⟨b, 0, none⟩), .agg #[U k.V, .int .i64 k.id]] w (fun v w' => v = .tuple #[.int .i64 (r.1 : Nat), .int .i64 (r.2 : Nat)] ∧ Ext w w') := by
 refine Ret.enterM (l := [.pointer (some ⟨b, 0, none⟩), .agg #[U k.V, .int .i64 k.id]]) Try.func89 rfl Try.ntmps89 rfl (rtB b most bn n cap root first free cnt :: ms) (no) hM ?_
 refine wpM.seq (wpM.region ?_)
 refine LM.box rfl rfl (fun b3 hb3 => ?_)
 refine LM.as rfl (LM.as rfl ?_)
 refine LM.nil (QM.sub (e' := [(0, _), (3, _)]) au9 (QM.then (wpM.seq (wpM.region ?_))))
 refine LM.mv rfl ?_
 refine LM.val (ov_nilCheck rfl) ?_
 refine LM.val (ov_field Try.underlying131 rfl Try.sizeOf3 rfl (k := 2) rfl rfl) ?_
 refine LM.rd (om_ld Try.isAgg3 rfl rfl) ?_
 refine LM.as rfl (LM.as rfl ?_)
 refine LM.nil (QM.sub (e' := [(0, _), (3, _), (6, _), (7, _)]) au9 (QM.then ?_))
 refine wpM.seq ?_
 refine wpM.block ?_
 refine wpM.loopK0 (α := Nat × Nat × Nat) (fun ⟨j, i1, last⟩ => [(6, .int .i64 (i1 : Nat)), (7, .int .i64 (last : Nat))]) [(0, _), (3, _)] (fun ⟨j, i1, last⟩ => (b3, .cells #[U k.V, .int .i64 k.id] 100 (0, 0)) :: rtB b most bn n cap root first free cnt :: (ms ++ [])) (fun ⟨j, i1, last⟩ => i1 < N.length ∧ fndF N k j i1 last = some r) (fun ⟨j, i1, last⟩ => j) ((f, root, 0)) ⟨au2, au2, rfl, rfl, trivial⟩ au1 ⟨hw.rt, hF⟩ ?_
 rintro ⟨j, i1, last⟩ ⟨hi1, hgr⟩
 change wpM _ _ _ _ _ _ _ ((b3, .cells #[U k.V, .int .i64 k.id] 100 (0, 0)) :: rtB b most bn n cap root first free cnt :: (ms ++ [])) _ _ _
 obtain ⟨j, rfl⟩ : ∃ j', j = j' + 1 := (by cases j with | zero => cases hgr | succ j => exact ⟨j, rfl⟩); rw [fndF] at hgr; have hl1 : (N.getD i1 default).l < N.length := l_wf hw i1; have hr1 : (N.getD i1 default).r < N.length := r_wf hw i1
 refine wpM.seq ?_
 refine wpM.seq (wpM.region ?_)
 refine LM.mv rfl ?_
 refine LM.val (ov_neq rfl rfl) ?_
 refine LM.nil (QM.sub (e' := [(0, _), (3, _), (6, _), (7, _), (14, _)]) au9 (QM.then ?_))
 refine wpM.condD rfl (fun h1 => ?_) (fun h1 => ?_)
 ·
  rw [if_neg (fun q => h1 (Int.natCast_inj.2 q))] at hgr
  refine wpM.skip ?_
  refine QM.then ?_
  refine wpM.block ?_
  refine wpM.seq ?_
  refine wpM.draw [(0, 1), (1, 0), (2, 0), (3, 0), (4, 1), (5, 0), (6, 0), (7, 0), (8, 1), (9, 2), (10, 0)] (by kernel_rfl) (by kernel_rfl) ?_
  refine LD.rd rfl rfl (om_ldW Try.isAgg100 Try.sizeOf100 rfl rfl) ?_
  refine LD.val rfl rfl (ov_move rfl) ?_
  refine LD.val rfl rfl (ov_nilCheck rfl) ?_
  refine LD.val rfl rfl (ov_field Try.underlying131 rfl Try.sizeOf129 rfl (k := 1) rfl rfl) ?_
  refine LD.rd rfl rfl (om_ld Try.isAgg129 rfl rfl) ?_
  refine LD.val rfl rfl (ov_move rfl) ?_
  refine LD.val rfl rfl (ov_idxSN au6 Try.underlying129 Try.sizeOf136 rfl rfl (by omega)) ?_
  refine LD.val rfl rfl (ov_field Try.underlying136 rfl Try.sizeOf100 rfl (k := 0) rfl rfl) ?_
  refine LD.rd rfl rfl (om_slP (j := 0) (vs := [_, _]) (by assumption) (by intro _; rfl) Try.isAgg100 Try.sizeOf100 rfl rfl (by exact getq default (by first | omega | (simp only [nL_len, nR_len, nU_len, nC_len, List.length_set, List.length_append, List.length_cons, List.length_nil]; omega))) (by decide) rfl rfl) ?_
  refine LD.callE rfl rfl (oc_call (enters_fn Try.func91 (by kernel_rfl) rfl) rfl) (fun w hm hc hg => against_spec k (N.getD i1 default).e w) ?_
  refine LD.val rfl rfl (ov_assign rfl) ?_
  refine LD.nil ?_
  refine QM.sub (e' := [(0, _), (3, _), (6, _), (7, _), (8, _)]) au9 (QM.then ?_)
  refine wpM.seq ?_
  refine wpM.seq (wpM.region ?_)
  refine LM.mv rfl ?_
  refine LM.val (ov_eql rfl rfl) ?_
  refine LM.nil (QM.sub (e' := [(0, _), (3, _), (6, _), (7, _), (8, _), (26, _)]) au9 (QM.then ?_))
  refine wpM.condD rfl (fun h2 => ?_) (fun h2 => ?_)
  ·
   rw [if_pos h2] at hgr; cases hgr
   refine wpM.seq (wpM.region ?_)
   refine LM.mv rfl (LM.mv rfl (LM.as rfl (LM.as rfl ?_)))
   refine LM.nil (QM.sub (e' := [(4, _), (5, _)]) au9 (QM.then ?_))
   refine wpM.ret ?_
   refine QM.then_ret ?_
   refine QM.block_ret ?_
   refine QM.then_ret ?_
   refine QM.block_ret ?_
   refine QM.then_ret ?_
   refine QM.leave (.inl rfl) [.tmp 4, .tmp 5] Try.results89 rfl ?_
   intro w' hm' hc' hg'
   exact ⟨rfl, hc'⟩
  rw [if_neg h2] at hgr
  refine wpM.skip ?_
  refine QM.then (wpM.seq (wpM.region ?_))
  refine LM.mv rfl (LM.as rfl ?_)
  refine LM.nil (QM.sub (e' := [(0, _), (3, _), (6, _), (7, _), (8, _)]) au9 (QM.then (wpM.seq (wpM.region ?_))))
  refine LM.mv rfl ?_
  refine LM.val (ov_lss rfl rfl) ?_
  refine LM.nil (QM.sub (e' := [(0, _), (3, _), (6, _), (7, _), (31, _)]) au9 (QM.then ?_))
  refine wpM.condD rfl (fun h3 => ?_) (fun h3 => ?_)
  ·
   refine wpM.region ?_
   refine LM.mv rfl ?_
   refine LM.val (ov_nilCheck rfl) ?_
   refine LM.val (ov_field Try.underlying131 rfl Try.sizeOf129 rfl (k := 1) rfl rfl) ?_
   refine LM.rd (om_ld Try.isAgg129 rfl rfl) ?_
   refine LM.mv rfl ?_
   refine LM.val (ov_idxSN au6 Try.underlying129 Try.sizeOf136 rfl rfl (by omega)) ?_
   refine LM.val (ov_field Try.underlying136 rfl Try.sizeOf3 rfl (k := 3) rfl rfl) ?_
   refine LM.rd (om_slE (j := 3) (by assumption) (by intro _; rfl) Try.isAgg3 rfl rfl (by exact getq default (by first | omega | (simp only [nL_len, nR_len, nU_len, nC_len, List.length_set, List.length_append, List.length_cons, List.length_nil]; omega))) rfl (by rfl)) ?_
   refine LM.as rfl ?_
   refine LM.nil (QM.sub (e' := [(0, _), (3, _), (6, _), (7, _)]) au9 ?_)
   refine QM.block_normal ?_
   refine QM.againK (j, (N.getD i1 default).l, i1) ⟨au2, au2, rfl, rfl, trivial⟩ au1 (fun _ h => h) ?_ ?_
   · exact ⟨hl1, by rw [if_pos h3] at hgr; exact hgr⟩
   · first | omega | (dsimp only; omega)
  refine wpM.region ?_
  refine LM.mv rfl ?_
  refine LM.val (ov_nilCheck rfl) ?_
  refine LM.val (ov_field Try.underlying131 rfl Try.sizeOf129 rfl (k := 1) rfl rfl) ?_
  refine LM.rd (om_ld Try.isAgg129 rfl rfl) ?_
  refine LM.mv rfl ?_
  refine LM.val (ov_idxSN au6 Try.underlying129 Try.sizeOf136 rfl rfl (by omega)) ?_
  refine LM.val (ov_field Try.underlying136 rfl Try.sizeOf3 rfl (k := 4) rfl rfl) ?_
  refine LM.rd (om_slE (j := 4) (by assumption) (by intro _; rfl) Try.isAgg3 rfl rfl (by exact getq default (by first | omega | (simp only [nL_len, nR_len, nU_len, nC_len, List.length_set, List.length_append, List.length_cons, List.length_nil]; omega))) rfl (by rfl)) ?_
  refine LM.as rfl ?_
  refine LM.nil (QM.sub (e' := [(0, _), (3, _), (6, _), (7, _)]) au9 ?_)
  refine QM.block_normal ?_
  refine QM.againK (j, (N.getD i1 default).r, i1) ⟨au2, au2, rfl, rfl, trivial⟩ au1 (fun _ h => h) ?_ ?_
  · exact ⟨hr1, by rw [if_neg h3] at hgr; exact hgr⟩
  · first | omega | (dsimp only; omega)
 rw [if_pos (Int.natCast_inj.1 (Classical.not_not.1 h1))] at hgr; cases hgr
 refine wpM.exit ?_
 refine QM.then_exit ?_
 refine QM.then_exit ?_
 refine QM.block_hit ?_
 refine QM.then (wpM.seq (wpM.region ?_))
 refine LM.mv rfl (LM.as rfl (LM.as rfl ?_))
 refine LM.nil (QM.sub (e' := [(4, _), (5, _)]) au9 (QM.then ?_))
 refine wpM.ret ?_
 refine QM.leave (.inl rfl) [.tmp 4, .tmp 5] Try.results89 rfl ?_
 intro w' hm' hc' hg'
 exact ⟨rfl, hc'⟩
set_option maxRecDepth 100000 in
theorem least_spec {n0 b most bn n cap root first free cnt : Nat} {N : List Nd} {ms : Mem0} {r : Nat} (f i : Nat) (w : World) (hF : lstF N f i = some r) (hn : n = N.length) (hs : NdS n0 bn n cap N ms) (hw : WfS (N, root) N.length) (hi : i < N.length) (hM : Mem w (rtB b most bn n cap root first free cnt :: ms)) : Ret Try.prog 114 #[.pointer (some ⟨b, 0, none⟩), .int .i64 (i : Nat)] w (fun v w' => v = .int .i64 (r : Nat) ∧ Ext w w') := by
 refine Ret.enterM (l := [.pointer (some ⟨b, 0, none⟩), .int .i64 (i : Nat)]) Try.func114 rfl Try.ntmps114 rfl (rtB b most bn n cap root first free cnt :: ms) (no) hM ?_
 refine wpM.seq (wpM.region ?_)
 refine LM.as rfl ?_
 refine LM.nil (QM.sub (e' := [(0, _), (1, _)]) au9 (QM.then ?_))
 refine wpM.seq ?_
 refine wpM.block ?_
 refine wpM.loopK0 (α := Nat × Nat) (fun ⟨j, i1⟩ => [(1, .int .i64 (i1 : Nat))]) [(0, _)] (fun ⟨j, i1⟩ => rtB b most bn n cap root first free cnt :: (ms ++ [])) (fun ⟨j, i1⟩ => i1 < N.length ∧ lstF N j i1 = some r) (fun ⟨j, i1⟩ => j) ((f, i)) ⟨au2, rfl, trivial⟩ au1 ⟨hi, hF⟩ ?_
 rintro ⟨j, i1⟩ ⟨hi1, hgr⟩
 change wpM _ _ _ _ _ _ _ (rtB b most bn n cap root first free cnt :: (ms ++ [])) _ _ _
 obtain ⟨j, rfl⟩ : ∃ j', j = j' + 1 := (by cases j with | zero => cases hgr | succ j => exact ⟨j, rfl⟩); rw [lstF] at hgr; have hl1 : (N.getD i1 default).l < N.length := l_wf hw i1
 refine wpM.seq ?_
 refine wpM.seq (wpM.region ?_)
 refine LM.mv rfl ?_
 refine LM.val (ov_neq rfl rfl) ?_
 refine LM.mv rfl ?_
 refine LM.splitD (t := 7) rfl (fun h1 => ?_) (fun h1 => ?_)
 ·
  refine LM.sp 7 rfl rfl rfl (LM.mv rfl (LM.sp 7 rfl rfl rfl ?_))
  refine LM.val (ov_nilCheck rfl) ?_
  refine LM.sp 7 rfl rfl rfl (LM.val (ov_field Try.underlying131 rfl Try.sizeOf129 rfl (k := 1) rfl rfl) (LM.sp 7 rfl rfl rfl ?_))
  refine LM.rd (om_ld Try.isAgg129 rfl rfl) ?_
  refine LM.sp 7 rfl rfl rfl (LM.mv rfl (LM.sp 7 rfl rfl rfl ?_))
  refine LM.val (ov_idxSN au6 Try.underlying129 Try.sizeOf136 rfl rfl (by omega)) ?_
  refine LM.sp 7 rfl rfl rfl (LM.val (ov_field Try.underlying136 rfl Try.sizeOf3 rfl (k := 3) rfl rfl) (LM.sp 7 rfl rfl rfl ?_))
  refine LM.rd (om_slE (j := 3) (by assumption) (by intro _; rfl) Try.isAgg3 rfl rfl (by exact getq default (by first | omega | (simp only [nL_len, nR_len, nU_len, nC_len, List.length_set, List.length_append, List.length_cons, List.length_nil]; omega))) rfl (by rfl)) ?_
  refine LM.sp 7 rfl rfl rfl ?_
  refine LM.val (ov_neq rfl rfl) ?_
  refine LM.val (ov_pickT rfl rfl) ?_
  refine LM.nil (QM.sub (e' := [(0, _), (1, _), (17, _)]) au9 (QM.then ?_))
  refine wpM.condD rfl (fun h2 => ?_) (fun h2 => ?_)
  ·
   refine wpM.skip ?_
   refine QM.then ?_
   refine wpM.block ?_
   refine wpM.region ?_
   refine LM.mv rfl ?_
   refine LM.val (ov_nilCheck rfl) ?_
   refine LM.val (ov_field Try.underlying131 rfl Try.sizeOf129 rfl (k := 1) rfl rfl) ?_
   refine LM.rd (om_ld Try.isAgg129 rfl rfl) ?_
   refine LM.mv rfl ?_
   refine LM.val (ov_idxSN au6 Try.underlying129 Try.sizeOf136 rfl rfl (by omega)) ?_
   refine LM.val (ov_field Try.underlying136 rfl Try.sizeOf3 rfl (k := 3) rfl rfl) ?_
   refine LM.rd (om_slE (j := 3) (by assumption) (by intro _; rfl) Try.isAgg3 rfl rfl (by exact getq default (by first | omega | (simp only [nL_len, nR_len, nU_len, nC_len, List.length_set, List.length_append, List.length_cons, List.length_nil]; omega))) rfl (by rfl)) ?_
   refine LM.as rfl ?_
   refine LM.nil (QM.sub (e' := [(0, _), (1, _)]) au9 ?_)
   refine QM.block_normal ?_
   refine QM.againK (j, (N.getD i1 default).l) ⟨au2, rfl, trivial⟩ au1 (fun _ h => h) ?_ ?_
   · exact ⟨hl1, by rw [if_pos ⟨fun q => h1 (Int.natCast_inj.2 q), fun q => h2 (Int.natCast_inj.2 q)⟩] at hgr; exact hgr⟩
   · first | omega | (dsimp only; omega)
  refine wpM.exit ?_
  refine QM.then_exit ?_
  refine QM.then_exit ?_
  refine QM.block_hit ?_
  refine QM.then (wpM.seq (wpM.region ?_))
  refine LM.mv rfl (LM.as rfl ?_)
  refine LM.nil (QM.sub (e' := [(4, _)]) ⟨rfl, trivial⟩ (QM.then ?_))
  refine wpM.ret ?_
  refine QM.leave (.inl rfl) [.tmp 4] Try.results114 rfl ?_
  intro w' hm' hc' hg'
  rw [if_neg (fun q => q.2 (Int.natCast_inj.1 (Classical.not_not.1 h2)))] at hgr; cases hgr; exact ⟨rfl, hc'⟩
 refine LM.dr 7 rfl rfl rfl (LM.dr 7 rfl rfl rfl (LM.dr 7 rfl rfl rfl (LM.dr 7 rfl rfl rfl (LM.dr 7 rfl rfl rfl (LM.dr 7 rfl rfl rfl ?_)))))
 refine LM.dr 7 rfl rfl rfl (LM.dr 7 rfl rfl rfl (LM.dr 7 rfl rfl rfl ?_))
 refine LM.val (ov_pickF rfl rfl) ?_
 refine LM.nil (QM.sub (e' := [(0, _), (1, _), (17, _)]) au9 (QM.then ?_))
 refine wpM.condF rfl ?_
 refine wpM.exit ?_
 refine QM.then_exit ?_
 refine QM.then_exit ?_
 refine QM.block_hit ?_
 refine QM.then (wpM.seq (wpM.region ?_))
 refine LM.mv rfl (LM.as rfl ?_)
 refine LM.nil (QM.sub (e' := [(4, _)]) ⟨rfl, trivial⟩ (QM.then ?_))
 refine wpM.ret ?_
 refine QM.leave (.inl rfl) [.tmp 4] Try.results114 rfl ?_
 intro w' hm' hc' hg'
 rw [if_neg (fun q => q.1 (Int.natCast_inj.1 (Classical.not_not.1 h1)))] at hgr; cases hgr; exact ⟨rfl, hc'⟩
set_option maxRecDepth 100000 in
theorem next_spec {n0 b most bn n cap root first free cnt : Nat} {N : List Nd} {ms : Mem0} {r : Nat} (f i : Nat) (w : World) (hF : nxtF N f i = some r) (hn : n = N.length) (hs : NdS n0 bn n cap N ms) (hw : WfS (N, root) N.length) (hi : i < N.length) (hM : Mem w (rtB b most bn n cap root first free cnt :: ms)) : Ret Try.prog 93 #[.pointer (some ⟨b, 0, none⟩), .int .i64 (i : Nat)] w (fun v w' => v = .int .i64 (r : Nat) ∧ Ext w w') := by
 have hr0 : (N.getD i default).r < N.length := r_wf hw i; have hu0 : (N.getD i default).up < N.length := up_wf hw i; unfold nxtF at hF
 refine Ret.enterM (l := [.pointer (some ⟨b, 0, none⟩), .int .i64 (i : Nat)]) Try.func93 rfl Try.ntmps93 rfl (rtB b most bn n cap root first free cnt :: ms) (no) hM ?_
 refine wpM.seq (wpM.region ?_)
 refine LM.as rfl ?_
 refine LM.nil (QM.sub (e' := [(0, _), (1, _)]) au9 (QM.then ?_))
 refine wpM.seq ?_
 refine wpM.seq (wpM.region ?_)
 refine LM.mv rfl ?_
 refine LM.val (ov_nilCheck rfl) ?_
 refine LM.val (ov_field Try.underlying131 rfl Try.sizeOf129 rfl (k := 1) rfl rfl) ?_
 refine LM.rd (om_ld Try.isAgg129 rfl rfl) ?_
 refine LM.mv rfl ?_
 refine LM.val (ov_idxSN au6 Try.underlying129 Try.sizeOf136 rfl rfl (by omega)) ?_
 refine LM.val (ov_field Try.underlying136 rfl Try.sizeOf3 rfl (k := 4) rfl rfl) ?_
 refine LM.rd (om_slE (j := 4) (by assumption) (by intro _; rfl) Try.isAgg3 rfl rfl (by exact getq default (by first | omega | (simp only [nL_len, nR_len, nU_len, nC_len, List.length_set, List.length_append, List.length_cons, List.length_nil]; omega))) rfl (by rfl)) ?_
 refine LM.as rfl ?_
 refine LM.nil (QM.sub (e' := [(0, _), (1, _), (5, _)]) au9 (QM.then (wpM.seq (wpM.region ?_))))
 refine LM.mv rfl ?_
 refine LM.val (ov_neq rfl rfl) ?_
 refine LM.nil (QM.sub (e' := [(0, _), (1, _), (5, _), (16, _)]) au9 (QM.then ?_))
 refine wpM.condD rfl (fun h1 => ?_) (fun h1 => ?_)
 ·
  rw [if_pos (fun q => h1 (Int.natCast_inj.2 q))] at hF
  refine wpM.seq (wpM.region ?_)
  refine LM.mv rfl (LM.mv rfl ?_)
  refine LM.callE (oc_call (enters_fn Try.func114 (by kernel_rfl) rfl) rfl) (fun w hm hc hg => least_spec f (N.getD i default).r w hF hn hs hw hr0 (hm.pick (rtB b most bn n cap root first free cnt :: ms))) ?_
  refine LM.as rfl ?_
  refine LM.nil (QM.sub (e' := [(4, _)]) ⟨rfl, trivial⟩ (QM.then ?_))
  refine wpM.ret ?_
  refine QM.then_ret ?_
  refine QM.leave (.inl rfl) [.tmp 4] Try.results93 rfl ?_
  intro w' hm' hc' hg'
  exact ⟨rfl, hc'⟩
 rw [if_neg (fun q => q (Int.natCast_inj.1 (Classical.not_not.1 h1)))] at hF
 refine wpM.skip ?_
 refine QM.then (wpM.seq (wpM.region ?_))
 refine LM.mv rfl ?_
 refine LM.val (ov_nilCheck rfl) ?_
 refine LM.val (ov_field Try.underlying131 rfl Try.sizeOf129 rfl (k := 1) rfl rfl) ?_
 refine LM.rd (om_ld Try.isAgg129 rfl rfl) ?_
 refine LM.mv rfl ?_
 refine LM.val (ov_idxSN au6 Try.underlying129 Try.sizeOf136 rfl rfl (by omega)) ?_
 refine LM.val (ov_field Try.underlying136 rfl Try.sizeOf3 rfl (k := 5) rfl rfl) ?_
 refine LM.rd (om_slE (j := 5) (by assumption) (by intro _; rfl) Try.isAgg3 rfl rfl (by exact getq default (by first | omega | (simp only [nL_len, nR_len, nU_len, nC_len, List.length_set, List.length_append, List.length_cons, List.length_nil]; omega))) rfl (by rfl)) ?_
 refine LM.as rfl ?_
 refine LM.nil (QM.sub (e' := [(0, _), (1, _), (6, _)]) au9 (QM.then ?_))
 refine wpM.seq ?_
 refine wpM.block ?_
 refine wpM.loopK0 (α := Nat × Nat × Nat) (fun ⟨j, i1, up1⟩ => [(1, .int .i64 (i1 : Nat)), (6, .int .i64 (up1 : Nat))]) [(0, _)] (fun ⟨j, i1, up1⟩ => rtB b most bn n cap root first free cnt :: (ms ++ [])) (fun ⟨j, i1, up1⟩ => i1 < N.length ∧ up1 < N.length ∧ clmF N j i1 up1 = some r) (fun ⟨j, i1, up1⟩ => j) ((f, i, (N.getD i default).up)) ⟨au2, au2, rfl, trivial⟩ au1 ⟨hi, hu0, hF⟩ ?_
 rintro ⟨j, i1, up1⟩ ⟨hi1, hu1, hgr⟩
 change wpM _ _ _ _ _ _ _ (rtB b most bn n cap root first free cnt :: (ms ++ [])) _ _ _
 obtain ⟨j, rfl⟩ : ∃ j', j = j' + 1 := (by cases j with | zero => cases hgr | succ j => exact ⟨j, rfl⟩); rw [clmF] at hgr; have hu2 : (N.getD up1 default).up < N.length := up_wf hw up1
 refine wpM.seq ?_
 refine wpM.seq (wpM.region ?_)
 refine LM.mv rfl ?_
 refine LM.val (ov_neq rfl rfl) ?_
 refine LM.mv rfl ?_
 refine LM.splitD (t := 30) rfl (fun h2 => ?_) (fun h2 => ?_)
 ·
  refine LM.sp 30 rfl rfl rfl (LM.mv rfl (LM.sp 30 rfl rfl rfl ?_))
  refine LM.val (ov_nilCheck rfl) ?_
  refine LM.sp 30 rfl rfl rfl (LM.val (ov_field Try.underlying131 rfl Try.sizeOf129 rfl (k := 1) rfl rfl) (LM.sp 30 rfl rfl rfl ?_))
  refine LM.rd (om_ld Try.isAgg129 rfl rfl) ?_
  refine LM.sp 30 rfl rfl rfl (LM.mv rfl (LM.sp 30 rfl rfl rfl ?_))
  refine LM.val (ov_idxSN au6 Try.underlying129 Try.sizeOf136 rfl rfl (by omega)) ?_
  refine LM.sp 30 rfl rfl rfl (LM.val (ov_field Try.underlying136 rfl Try.sizeOf3 rfl (k := 4) rfl rfl) (LM.sp 30 rfl rfl rfl ?_))
  refine LM.rd (om_slE (j := 4) (by assumption) (by intro _; rfl) Try.isAgg3 rfl rfl (by exact getq default (by first | omega | (simp only [nL_len, nR_len, nU_len, nC_len, List.length_set, List.length_append, List.length_cons, List.length_nil]; omega))) rfl (by rfl)) ?_
  refine LM.sp 30 rfl rfl rfl (LM.mv rfl (LM.sp 30 rfl rfl rfl ?_))
  refine LM.val (ov_eql rfl rfl) ?_
  refine LM.val (ov_pickT rfl rfl) ?_
  refine LM.nil (QM.sub (e' := [(0, _), (6, _), (41, _)]) au9 (QM.then ?_))
  refine wpM.condD rfl (fun h3 => ?_) (fun h3 => ?_)
  ·
   refine wpM.skip ?_
   refine QM.then ?_
   refine wpM.block ?_
   refine wpM.draw [(0, 0), (1, 0), (2, 0), (3, 0), (4, 1), (5, 0), (6, 0), (7, 0), (8, 1), (9, 0), (10, 0)] (by kernel_rfl) (by kernel_rfl) ?_
   refine LD.val rfl rfl (ov_move rfl) ?_
   refine LD.val rfl rfl (ov_move rfl) ?_
   refine LD.val rfl rfl (ov_nilCheck rfl) ?_
   refine LD.val rfl rfl (ov_field Try.underlying131 rfl Try.sizeOf129 rfl (k := 1) rfl rfl) ?_
   refine LD.rd rfl rfl (om_ld Try.isAgg129 rfl rfl) ?_
   refine LD.val rfl rfl (ov_move rfl) ?_
   refine LD.val rfl rfl (ov_idxSN au6 Try.underlying129 Try.sizeOf136 rfl rfl (by omega)) ?_
   refine LD.val rfl rfl (ov_field Try.underlying136 rfl Try.sizeOf3 rfl (k := 5) rfl rfl) ?_
   refine LD.rd rfl rfl (om_slE (j := 5) (by assumption) (by intro _; rfl) Try.isAgg3 rfl rfl (by exact getq default (by first | omega | (simp only [nL_len, nR_len, nU_len, nC_len, List.length_set, List.length_append, List.length_cons, List.length_nil]; omega))) rfl (by rfl)) ?_
   refine LD.val rfl rfl (ov_assign rfl) ?_
   refine LD.val rfl rfl (ov_assign rfl) ?_
   refine LD.nil ?_
   refine QM.sub (e' := [(0, _), (1, _), (6, _)]) au9 ?_
   refine QM.block_normal ?_
   refine QM.againK (j, up1, (N.getD up1 default).up) ⟨au2, au2, rfl, trivial⟩ au1 (fun _ h => h) ?_ ?_
   · exact ⟨hu1, hu2, by rw [if_pos ⟨fun q => h2 (Int.natCast_inj.2 q), Int.natCast_inj.1 h3⟩] at hgr; exact hgr⟩
   · first | omega | (dsimp only; omega)
  refine wpM.exit ?_
  refine QM.then_exit ?_
  refine QM.then_exit ?_
  refine QM.block_hit ?_
  refine QM.then (wpM.seq (wpM.region ?_))
  refine LM.mv rfl (LM.as rfl ?_)
  refine LM.nil (QM.sub (e' := [(4, _)]) ⟨rfl, trivial⟩ (QM.then ?_))
  refine wpM.ret ?_
  refine QM.leave (.inl rfl) [.tmp 4] Try.results93 rfl ?_
  intro w' hm' hc' hg'
  rw [if_neg (fun q => h3 (Int.natCast_inj.2 q.2))] at hgr; cases hgr; exact ⟨rfl, hc'⟩
 refine LM.dr 30 rfl rfl rfl (LM.dr 30 rfl rfl rfl (LM.dr 30 rfl rfl rfl (LM.dr 30 rfl rfl rfl (LM.dr 30 rfl rfl rfl (LM.dr 30 rfl rfl rfl ?_)))))
 refine LM.dr 30 rfl rfl rfl (LM.dr 30 rfl rfl rfl (LM.dr 30 rfl rfl rfl (LM.dr 30 rfl rfl rfl ?_)))
 refine LM.val (ov_pickF rfl rfl) ?_
 refine LM.nil (QM.sub (e' := [(0, _), (6, _), (41, _)]) au9 (QM.then ?_))
 refine wpM.condF rfl ?_
 refine wpM.exit ?_
 refine QM.then_exit ?_
 refine QM.then_exit ?_
 refine QM.block_hit ?_
 refine QM.then (wpM.seq (wpM.region ?_))
 refine LM.mv rfl (LM.as rfl ?_)
 refine LM.nil (QM.sub (e' := [(4, _)]) ⟨rfl, trivial⟩ (QM.then ?_))
 refine wpM.ret ?_
 refine QM.leave (.inl rfl) [.tmp 4] Try.results93 rfl ?_
 intro w' hm' hc' hg'
 rw [if_neg (fun q => q.1 (Int.natCast_inj.1 (Classical.not_not.1 h2)))] at hgr; cases hgr; exact ⟨rfl, hc'⟩
def RtN (n0 b most root first free cnt : Nat) (N : List Nd) (u0 : Value) (u : Value) (m' : Mem0) : Prop := u = u0 ∧ ∃ bn n cap ms, m' = rtB b most bn n cap root first free cnt :: ms ∧ n = N.length ∧ NdS n0 bn n cap N ms
theorem rt_leafN {n0 b most bn n cap root first free cnt bn' n' cap' root' first' free' cnt' : Nat} {N N' : List Nd} {ms ms' M : Mem0} {w w' : World} {u0 : Value} (h : NdS n0 bn n cap N ms) (hn' : n' = N'.length) (h' : NdS n0 bn' n' cap' N' ms') (hm : Mem w' M) (hs : SubM M (rtB b most bn' n' cap' root' first' free' cnt' :: (ms' ++ []))) (hc : Chg (fun x => x = b ∨ x = bn) w w')
    (hin : ∀ p ∈ ms', w.heap.size ≤ p.1 ∨ ∃ q ∈ ms, q.1 = p.1) :
    Upd (rtB b most bn n cap root first free cnt :: ms) (RtN n0 b most root' first' free' cnt' N' u0) w u0 w' := by
  rw [List.append_nil] at hs
  obtain ⟨o, rfl⟩ := h.has_bn
  refine ⟨hc.mono (fun x _ hx => ?_), _, ⟨rfl, bn', n', cap', ms', rfl, hn', h'⟩, hs.mem w' hm, fun p hp => ?_⟩
  · rcases hx with rfl | rfl
    · exact ⟨_, List.mem_cons_self .., rfl⟩
    · exact ⟨_, List.mem_cons_of_mem _ (List.mem_cons_self ..), rfl⟩
  · rcases List.mem_cons.1 hp with rfl | hp
    · exact .inr ⟨_, List.mem_cons_self .., rfl⟩
    · rcases hin p hp with q | ⟨q, hq, e⟩
      · exact .inl q
      · exact .inr ⟨q, List.mem_cons_of_mem _ hq, e⟩
theorem takN_zero {N : List Nd} {free : Nat} {x : Nd} (h : free = 0) : takN N free x = (N ++ [x], N.length, 0) := if_pos h
theorem takN_some {N : List Nd} {free : Nat} {x : Nd} (h : ¬ free = 0) : takN N free x = (N.set free x, free, (gN N free).l) := if_neg h
set_option maxRecDepth 100000 in
theorem take_spec {n0 b most bn n cap root first free cnt : Nat} {N : List Nd} {ms : Mem0} (x : Nd) (w : World) (hn : n = N.length) (hs : NdS n0 bn n cap N ms) (hpos : 0 < N.length) (hfr : free < N.length) (hlen : N.length ≤ 1000000) (hcn : cnt ≤ 1000000) (hn0 : n0 ≤ w.heap.size) (hM : Mem w (rtB b most bn n cap root first free cnt :: ms)) : Ret Try.prog 90 #[.pointer (some ⟨b, 0, none⟩), .agg #[U x.e.V, .int .i64 x.e.id, .int .i64 x.e.x, .int .i64 (x.l : Nat), .int .i64 (x.r : Nat), .int .i64 (x.up : Nat), .bool x.red]] w (Upd (rtB b most bn n cap root first free cnt :: ms) (RtN n0 b most root first (takN N free x).2.2 (cnt + 1) (takN N free x).1 (.int .i64 ((takN N free x).2.1 : Nat))) w) := by
 refine Ret.enterM (l := [.pointer (some ⟨b, 0, none⟩), .agg #[U x.e.V, .int .i64 x.e.id, .int .i64 x.e.x, .int .i64 (x.l : Nat), .int .i64 (x.r : Nat), .int .i64 (x.up : Nat), .bool x.red]]) Try.func90 rfl Try.ntmps90 rfl (rtB b most bn n cap root first free cnt :: ms) ((fun x => x = b ∨ x = bn)) hM ?_
 refine wpM.seq (wpM.region ?_)
 refine LM.box rfl rfl (fun b3 hb3 => ?_)
 refine LM.as rfl ?_
 refine LM.nil (QM.sub (e' := [(0, _), (3, _)]) au9 (QM.then (wpM.seq (wpM.region ?_))))
 refine LM.mv rfl ?_
 refine LM.val (ov_nilCheck rfl) ?_
 refine LM.val (ov_field Try.underlying131 rfl Try.sizeOf3 rfl (k := 5) rfl rfl) ?_
 refine LM.rd (om_ld Try.isAgg3 rfl rfl) ?_
 refine LM.val (ov_add64 rfl rfl (by omega)) ?_
 refine LM.val (ov_nilCheck rfl) ?_
 refine LM.val (ov_field Try.underlying131 rfl Try.sizeOf3 rfl (k := 5) rfl rfl) ?_
 refine LM.st Try.sizeOf3 rfl rfl rfl au5 rfl (fun hlt => by first | exact .inl rfl | exact absurd hlt (by omega)) ?_
 refine LM.nil (QM.sub (e' := [(0, _), (3, _)]) au9 (QM.then ?_))
 refine wpM.seq ?_
 refine wpM.seq (wpM.region ?_)
 refine LM.mv rfl ?_
 refine LM.val (ov_nilCheck rfl) ?_
 refine LM.val (ov_field Try.underlying131 rfl Try.sizeOf3 rfl (k := 4) rfl rfl) ?_
 refine LM.rd (om_ld Try.isAgg3 rfl rfl) ?_
 refine LM.val (ov_eql rfl rfl) ?_
 refine LM.nil (QM.sub (e' := [(0, _), (3, _), (17, _)]) au9 (QM.then ?_))
 refine wpM.condD rfl (fun h1 => ?_) (fun h1 => ?_)
 ·
  refine wpM.seq ?_
  refine wpM.keep (rtB b most bn n cap root first free (cnt + 1) :: (b3, .cells (fNd x).toArray 136 (0, 0)) :: []) (fun _ => True) (.one 0 0 (.one 1 0 (.one 2 0 (.one 3 0 (.one 4 1 (.one 5 1 (.one 6 2 (.one 7 2 (.one 8 0 (.one 9 0 (.last 10))))))))))) (by kernel_rfl) (by kernel_rfl) au1 (fun _ _ => trivial) ?_
  refine KD.val rfl rfl (ov_move rfl) ?_
  refine KD.val rfl rfl (ov_move rfl) ?_
  refine KD.val rfl rfl (ov_nilCheck rfl) ?_
  refine KD.val rfl rfl (ov_field Try.underlying131 rfl Try.sizeOf129 rfl (k := 1) rfl rfl) ?_
  refine KD.rd rfl rfl (om_ld Try.isAgg129 rfl rfl) ?_
  refine KD.rd rfl rfl (om_ldW Try.isAgg136 Try.sizeOf136 rfl rfl) ?_
  refine KD.one rfl ?_
  refine LM.single Try.underlying129 Try.sizeOf136 Try.zeroValue136 rfl rfl rfl rfl rfl (fun b24 hb24 => ?_)
  refine LM.nil ?_
  refine QM.one au1 (fun _ _ => trivial) ?_
  refine KD.one rfl ?_
  refine LM.app Try.underlying129 Try.typeInfo136 rfl rfl rfl rfl rfl rfl rfl (by assumption) (by rfl) (by intro _; rfl) (by intro _ u hu; simp [fNd] at hu; (repeat (first | (rcases hu with rfl | hu) | subst hu | rfl))) (by first | exact Nat.le_refl _ | omega) (fun p hp _ => .inr (Sl.at_bn (by assumption) p hp)) (by first | omega | (unfold maxLen; omega)) (by simp only [Try.t136]; omega) (fun ad25 n25 cap25 m25 hn25 hs25 hin25 => ?_)
  refine LM.nil ?_
  refine QM.one au1 (fun _ _ => trivial) ?_
  refine KD.val rfl rfl (ov_nilCheck rfl) ?_
  refine KD.val rfl rfl (ov_field Try.underlying131 rfl Try.sizeOf129 rfl (k := 1) rfl rfl) ?_
  refine KD.last rfl ?_
  refine LM.st Try.sizeOf129 rfl rfl rfl au5 rfl (fun hlt => by first | exact .inl rfl | exact absurd hlt (by omega)) ?_
  refine LM.nil ?_
  refine QM.qn ?_
  refine QM.sub (e' := [(0, _)]) ⟨rfl, trivial⟩ (QM.then (wpM.seq (wpM.region ?_)))
  obtain ⟨bn2, rfl⟩ := hs25.bn (by simp)
  refine LM.mv rfl ?_
  refine LM.val (ov_nilCheck rfl) ?_
  refine LM.val (ov_field Try.underlying131 rfl Try.sizeOf129 rfl (k := 1) rfl rfl) ?_
  refine LM.rd (om_ld Try.isAgg129 rfl rfl) ?_
  refine LM.val (ov_len Try.underlying129 rfl) ?_
  refine LM.val (ov_sub64 rfl rfl (by omega)) ?_
  refine LM.as rfl ?_
  refine LM.nil (QM.sub (e' := [(4, _)]) ⟨rfl, trivial⟩ (QM.then ?_))
  refine wpM.ret ?_
  refine QM.then_ret ?_
  refine QM.leave (.inl rfl) [.tmp 4] Try.results90 rfl ?_
  intro w' hm' hc' hg'
  have h0 : free = 0 := Int.natCast_inj.1 h1; rw [takN_zero h0]; subst h0; have hv : (n25 : Int) - 1 = (N.length : Nat) := (by omega); show Upd _ _ _ (Value.int .i64 ((n25 : Int) - 1)) _; rw [hv]; exact rt_leafN hs (by rw [List.length_append]; exact hn25) hs25 hm' au1 hc' hin25
 refine wpM.skip ?_
 refine QM.then (wpM.seq (wpM.region ?_))
 refine LM.mv rfl ?_
 refine LM.val (ov_nilCheck rfl) ?_
 refine LM.val (ov_field Try.underlying131 rfl Try.sizeOf3 rfl (k := 4) rfl rfl) ?_
 refine LM.rd (om_ld Try.isAgg3 rfl rfl) ?_
 refine LM.as rfl ?_
 refine LM.nil (QM.sub (e' := [(0, _), (3, _), (5, _)]) au9 (QM.then (wpM.seq (wpM.region ?_))))
 refine LM.mv rfl (LM.mv rfl ?_)
 refine LM.val (ov_nilCheck rfl) ?_
 refine LM.val (ov_field Try.underlying131 rfl Try.sizeOf129 rfl (k := 1) rfl rfl) ?_
 refine LM.rd (om_ld Try.isAgg129 rfl rfl) ?_
 refine LM.mv rfl ?_
 refine LM.val (ov_idxSN au6 Try.underlying129 Try.sizeOf136 rfl rfl (by omega)) ?_
 refine LM.val (ov_field Try.underlying136 rfl Try.sizeOf3 rfl (k := 3) rfl rfl) ?_
 refine LM.rd (om_slE (j := 3) (by assumption) (by intro _; rfl) Try.isAgg3 rfl rfl (by exact getq default (by first | omega | (simp only [nL_len, nR_len, nU_len, nC_len, List.length_set, List.length_append, List.length_cons, List.length_nil]; omega))) rfl (by rfl)) ?_
 refine LM.val (ov_nilCheck rfl) ?_
 refine LM.val (ov_field Try.underlying131 rfl Try.sizeOf3 rfl (k := 4) rfl rfl) ?_
 refine LM.st Try.sizeOf3 rfl rfl rfl au5 rfl (fun hlt => by first | exact .inl rfl | exact absurd hlt (by omega)) ?_
 refine LM.nil (QM.sub (e' := [(0, _), (3, _), (5, _)]) au9 (QM.then ?_))
 refine wpM.seq ?_
 refine wpM.draw [(0, 0), (1, 0), (2, 0), (3, 1), (4, 0), (5, 1), (6, 0), (7, 3)] (by kernel_rfl) (by kernel_rfl) ?_
 refine LD.val rfl rfl (ov_move rfl) ?_
 refine LD.val rfl rfl (ov_nilCheck rfl) ?_
 refine LD.val rfl rfl (ov_field Try.underlying131 rfl Try.sizeOf129 rfl (k := 1) rfl rfl) ?_
 refine LD.rd rfl rfl (om_ld Try.isAgg129 rfl rfl) ?_
 refine LD.val rfl rfl (ov_move rfl) ?_
 refine LD.rd rfl rfl (om_ldW Try.isAgg136 Try.sizeOf136 rfl rfl) ?_
 refine LD.val rfl rfl (ov_idxSN au6 Try.underlying129 Try.sizeOf136 rfl rfl (by omega)) ?_
 refine LD.tail rfl rfl ?_
 refine LM.stS (x) (j := 0) (by assumption) (by intro _; rfl) Try.sizeOf136 rfl rfl rfl (by exact getq default (by first | omega | (simp only [nL_len, nR_len, nU_len, nC_len, List.length_set, List.length_append, List.length_cons, List.length_nil]; omega))) rfl (by decide) (by rfl) rfl (fun p hp _ => .inr (Sl.at_bn (by assumption) p hp)) (fun ms3 hss3 hmm3 => ?_)
 refine LM.nil ?_
 refine QM.qn ?_
 refine QM.sub (e' := [(5, _)]) ⟨rfl, trivial⟩ (QM.then (wpM.seq (wpM.region ?_)))
 refine LM.mv rfl (LM.as rfl ?_)
 refine LM.nil (QM.sub (e' := [(4, _)]) ⟨rfl, trivial⟩ (QM.then ?_))
 refine wpM.ret ?_
 refine QM.leave (.inl rfl) [.tmp 4] Try.results90 rfl ?_
 intro w' hm' hc' hg'
 have h0 : ¬ free = 0 := (fun q => h1 (Int.natCast_inj.2 q)); rw [takN_some h0]; exact rt_leafN (bn' := bn) (n' := n) (cap' := cap) (N' := N.set free x) hs (by rw [List.length_set]; exact hn) (by assumption) hm' au1 hc' (fun p hp => .inr (by obtain ⟨q, hq, e⟩ := (by assumption : ∀ p ∈ _, ∃ q ∈ ms, q.1 = p.1) p hp; exact ⟨q, hq, e⟩))
set_option maxRecDepth 100000 in
theorem give_spec {n0 b most bn n cap root first free cnt : Nat} {N : List Nd} {ms : Mem0} (i : Nat) (w : World) (hn : n = N.length) (hs : NdS n0 bn n cap N ms) (hi : i < N.length) (hc0 : 0 < cnt) (hcn : cnt ≤ 1000000) (hM : Mem w (rtB b most bn n cap root first free cnt :: ms)) : Ret Try.prog 95 #[.pointer (some ⟨b, 0, none⟩), .int .i64 (i : Nat)] w (Upd (rtB b most bn n cap root first free cnt :: ms) (RtT n0 b most bn n cap root first i (cnt - 1) (N.set i { (default : Nd) with l := free })) w) := by
 refine Ret.enterM (l := [.pointer (some ⟨b, 0, none⟩), .int .i64 (i : Nat)]) Try.func95 rfl Try.ntmps95 rfl (rtB b most bn n cap root first free cnt :: ms) ((fun x => x = b ∨ x = bn)) hM ?_
 refine wpM.seq ?_
 refine wpM.draw [(0, 0), (1, 0), (2, 0), (3, 1), (4, 0), (5, 0), (6, 0), (7, 0), (8, 1), (9, 0), (10, 0), (11, 3)] (by kernel_rfl) (by kernel_rfl) ?_
 refine LD.val rfl rfl (ov_move rfl) ?_
 refine LD.val rfl rfl (ov_nilCheck rfl) ?_
 refine LD.val rfl rfl (ov_field Try.underlying131 rfl Try.sizeOf129 rfl (k := 1) rfl rfl) ?_
 refine LD.rd rfl rfl (om_ld Try.isAgg129 rfl rfl) ?_
 refine LD.val rfl rfl (ov_move rfl) ?_
 refine LD.val rfl rfl (ov_move rfl) ?_
 refine LD.val rfl rfl (ov_nilCheck rfl) ?_
 refine LD.val rfl rfl (ov_field Try.underlying131 rfl Try.sizeOf3 rfl (k := 4) rfl rfl) ?_
 refine LD.rd rfl rfl (om_ld Try.isAgg3 rfl rfl) ?_
 refine LD.val rfl rfl (ov_build (cs := #[U 0#64, .int .i64 0, .int .i64 0, .int .i64 (free : Nat), .int .i64 0, .int .i64 0, .bool false]) rfl (by first | rfl | kernel_rfl)) ?_
 refine LD.val rfl rfl (ov_idxSN au6 Try.underlying129 Try.sizeOf136 rfl rfl (by omega)) ?_
 refine LD.tail rfl rfl ?_
 refine LM.stS ({ (default : Nd) with l := free }) (j := 0) (by assumption) (by intro _; rfl) Try.sizeOf136 rfl rfl rfl (by exact getq default (by first | omega | (simp only [nL_len, nR_len, nU_len, nC_len, List.length_set, List.length_append, List.length_cons, List.length_nil]; omega))) rfl (by decide) (by rfl) rfl (fun p hp _ => .inr (Sl.at_bn (by assumption) p hp)) (fun ms1 hss1 hmm1 => ?_)
 refine LM.nil ?_
 refine QM.qn ?_
 refine QM.sub (e' := [(0, _), (1, _)]) au9 (QM.then (wpM.seq (wpM.region ?_)))
 refine LM.mv rfl (LM.mv rfl ?_)
 refine LM.val (ov_nilCheck rfl) ?_
 refine LM.val (ov_field Try.underlying131 rfl Try.sizeOf3 rfl (k := 4) rfl rfl) ?_
 refine LM.st Try.sizeOf3 rfl rfl rfl au5 rfl (fun hlt => by first | exact .inl rfl | exact absurd hlt (by omega)) ?_
 refine LM.nil (QM.sub (e' := [(0, _)]) ⟨rfl, trivial⟩ (QM.then (wpM.region ?_)))
 refine LM.mv rfl ?_
 refine LM.val (ov_nilCheck rfl) ?_
 refine LM.val (ov_field Try.underlying131 rfl Try.sizeOf3 rfl (k := 5) rfl rfl) ?_
 refine LM.rd (om_ld Try.isAgg3 rfl rfl) ?_
 refine LM.val (ov_sub64 rfl rfl (by omega)) ?_
 refine LM.val (ov_nilCheck rfl) ?_
 refine LM.val (ov_field Try.underlying131 rfl Try.sizeOf3 rfl (k := 5) rfl rfl) ?_
 refine LM.st Try.sizeOf3 rfl rfl rfl au5 rfl (fun hlt => by first | exact .inl rfl | exact absurd hlt (by omega)) ?_
 refine LM.nil (QM.sub (e' := []) trivial ?_)
 refine QM.leave (.inr rfl) [] Try.results95 rfl ?_
 intro w' hm' hc' hg'
 have hv : (cnt : Int) - 1 = ((cnt - 1 : Nat) : Int) := (by omega); exact rt_leaf hs (by assumption) hm' (by (repeat' (first | exact SubM.nil _ | refine SubM.cons (by first | rfl | (rw [← hv]; rfl)) ?_ | refine SubM.app ?_))) hc'
set_option maxRecDepth 100000 in
theorem cut_spec {n0 b most bn n cap root first free cnt : Nat} {N : List Nd} {ms : Mem0} {S' : Ns} (f i : Nat) (w : World) (hF : cutF f (N, root) i = some S') (hn : n = N.length) (hs : NdS n0 bn n cap N ms) (hw : WfS (N, root) N.length) (hi : i < N.length) (hM : Mem w (rtB b most bn n cap root first free cnt :: ms)) : Ret Try.prog 94 #[.pointer (some ⟨b, 0, none⟩), .int .i64 (i : Nat)] w (Upd (rtB b most bn n cap root first free cnt :: ms) (RtT n0 b most bn n cap S'.2 first free cnt S'.1) w) := by
 have hl0 : (N.getD i default).l < N.length := l_wf hw i; have hr0 : (N.getD i default).r < N.length := r_wf hw i; have hu0 : (N.getD i default).up < N.length := up_wf hw i; unfold cutF at hF; rw [Option.map_eq_some_iff] at hF; obtain ⟨S2, hF, rfl⟩ := hF
 refine Ret.enterM (l := [.pointer (some ⟨b, 0, none⟩), .int .i64 (i : Nat)]) Try.func94 rfl Try.ntmps94 rfl (rtB b most bn n cap root first free cnt :: ms) ((fun x => x = b ∨ x = bn)) hM ?_
 refine wpM.seq (wpM.region ?_)
 refine LM.mv rfl ?_
 refine LM.val (ov_nilCheck rfl) ?_
 refine LM.val (ov_field Try.underlying131 rfl Try.sizeOf129 rfl (k := 1) rfl rfl) ?_
 refine LM.rd (om_ld Try.isAgg129 rfl rfl) ?_
 refine LM.mv rfl ?_
 refine LM.val (ov_idxSN au6 Try.underlying129 Try.sizeOf136 rfl rfl (by omega)) ?_
 refine LM.rd (om_slA (by assumption) (by intro _; rfl) Try.isAgg136 Try.sizeOf136 rfl (by exact getq default (by first | omega | (simp only [nL_len, nR_len, nU_len, nC_len, List.length_set, List.length_append, List.length_cons, List.length_nil]; omega)))) ?_
 refine LM.alloc Try.zeroValue136 rfl (fun b4 hb4 => ?_)
 refine LM.stW Try.sizeOf136 rfl rfl rfl rfl au7 (fun hlt => by first | exact .inl rfl | exact absurd hlt (by omega)) ?_
 refine LM.nil (QM.sub (e' := [(0, _), (1, _), (4, _)]) au9 (QM.then (wpM.seq (wpM.region ?_))))
 refine LM.val (ov_field Try.underlying136 rfl Try.sizeOf3 rfl (k := 3) rfl rfl) ?_
 refine LM.rd (om_ld Try.isAgg3 rfl rfl) ?_
 refine LM.as rfl ?_
 refine LM.nil (QM.sub (e' := [(0, _), (1, _), (4, _), (5, _)]) au9 (QM.then ?_))
 refine wpM.seq ?_
 refine wpM.seq (wpM.region ?_)
 refine LM.mv rfl ?_
 refine LM.val (ov_eql rfl rfl) ?_
 refine LM.nil (QM.sub (e' := [(0, _), (1, _), (4, _), (5, _), (16, _)]) au9 (QM.then ?_))
 refine wpM.joinK (α := Nat) (fun ch => [(5, .int .i64 (ch : Nat))]) [(0, _), (1, _), (4, _)] (fun ch => (b4, .cells (fNd (N.getD i default)).toArray 136 (0, 0)) :: rtB b most bn n cap root first free cnt :: (ms ++ [])) (fun ch => ch = (if (gN N i).l = 0 then (gN N i).r else (gN N i).l)) ⟨rfl, rfl, rfl, trivial⟩ ?_ ?_
 ·
  refine wpM.condD rfl (fun h1 => ?_) (fun h1 => ?_)
  ·
   refine wpM.region ?_
   refine LM.val (ov_field Try.underlying136 rfl Try.sizeOf3 rfl (k := 4) rfl rfl) ?_
   refine LM.rd (om_ld Try.isAgg3 rfl rfl) ?_
   refine LM.as rfl ?_
   refine LM.nil (QM.sub (e' := [(0, _), (1, _), (4, _), (5, _)]) au9 ?_)
   refine QM.meetK ((N.getD i default).r) ⟨au2, rfl, rfl, rfl, trivial⟩ au1 ?_
   · exact (if_pos (Int.natCast_inj.1 h1)).symm
  refine wpM.skip ?_
  refine QM.meetK ((N.getD i default).l) ⟨au2, rfl, rfl, rfl, trivial⟩ au1 ?_
  · exact (if_neg (fun q => h1 (Int.natCast_inj.2 q))).symm
 rintro ch hch
 change QM _ _ _ _ _ ((b4, .cells (fNd (N.getD i default)).toArray 136 (0, 0)) :: rtB b most bn n cap root first free cnt :: (ms ++ [])) _ _ _
 have hch2 : ch < N.length := (by rw [hch]; split; exact hr0; exact hl0); rw [← hch] at hF
 refine QM.then (wpM.seq (wpM.region ?_))
 refine LM.mv rfl (LM.val (ov_field Try.underlying136 rfl Try.sizeOf3 rfl (k := 5) rfl rfl) ?_)
 refine LM.rd (om_ld Try.isAgg3 rfl rfl) ?_
 refine LM.mv rfl (LM.mv rfl ?_)
 refine LM.cU (oc_call (enters_fn Try.func115 (by kernel_rfl) rfl) rfl) (fun w hm hc hg => swap_spec (N := N) (N.getD i default).up i ch w hn hs hu0 hch2 (hm.pick (rtB b most bn n cap root first free cnt :: ms))) (rt_wlk hs) (rt_hS hs) ?_
 rintro u24 m24 ⟨rfl, m3, rfl, hs3⟩ -; have hw3 := swp_wf hw hu0 (was := i) hch2; have hl3 := hw3.len; generalize hS3 : swpF (N, root) (N.getD i default).up i ch = S3 at hs3 hw3 hl3 ⊢; have hF3 := hF; rw [show swpF (N, root) (gN (N, root).1 i).up i ch = S3 from hS3] at hF
 refine LM.nil (QM.sub (e' := [(0, _), (4, _), (5, _)]) au9 (QM.then ?_))
 refine wpM.seq ?_
 refine wpM.seq (wpM.region ?_)
 refine LM.val (ov_field Try.underlying136 rfl Try.sizeOf4 rfl (k := 6) rfl rfl) ?_
 refine LM.rd (om_ld Try.isAgg4 rfl rfl) ?_
 first | refine LM.val (ov_notD rfl) ?_ | refine LM.val (ov_not rfl) ?_
 refine LM.nil (QM.sub (e' := [(0, _), (5, _), (27, _)]) au9 (QM.then ?_))
 first | refine wpM.condD rfl (fun h2 => ?_) (fun h2 => ?_) | refine wpM.condB rfl (fun h2 => ?_) (fun h2 => ?_)
 ·
  rw [if_neg (by show ¬ (N.getD i default).red = true; rw [bnot h2]; simp)] at hF
  refine wpM.region ?_
  refine LM.mv rfl (LM.mv rfl ?_)
  refine LM.cU (oc_call (enters_fn Try.func116 (by kernel_rfl) rfl) rfl) (fun w hm hc hg => shrunk_spec (N := S3.1) (root := S3.2) f ch w hF (hn.trans hl3.symm) hs3 (by rw [hl3]; exact hw3) (by rw [hl3]; exact hch2) (hm.pick (rtB b most bn n cap S3.2 first free cnt :: m3))) (rt_wlk hs3) (rt_hS hs3) ?_
  rintro u30 m30 ⟨rfl, m4, rfl, hs4⟩ -; have hw4 := shr_wf f _ _ _ hF hw3; have hl4 := hw4.len
  refine LM.nil (QM.sub (e' := [(0, _)]) ⟨rfl, trivial⟩ (QM.then (wpM.region ?_)))
  refine LM.mv rfl ?_
  refine LM.val (ov_nilCheck rfl) ?_
  refine LM.val (ov_field Try.underlying131 rfl Try.sizeOf129 rfl (k := 1) rfl rfl) ?_
  refine LM.rd (om_ld Try.isAgg129 rfl rfl) ?_
  refine LM.val (ov_build (cs := #[U 0#64, .int .i64 0, .int .i64 0, .int .i64 0, .int .i64 0, .int .i64 0, .bool false]) rfl (by first | rfl | kernel_rfl)) ?_
  refine LM.val (ov_idxSN (i := 0) au6 Try.underlying129 Try.sizeOf136 rfl rfl (by omega)) ?_
  refine LM.stS ((default : Nd)) (j := 0) (i := 0) (by assumption) (by intro _; rfl) Try.sizeOf136 rfl rfl rfl (by exact getq default (by first | omega | (simp only [nL_len, nR_len, nU_len, nC_len, List.length_set, List.length_append, List.length_cons, List.length_nil]; omega))) rfl (by decide) (by rfl) rfl (fun p hp _ => .inr (Sl.at_bn (by assumption) p hp)) (fun ms2 hss2 hmm2 => ?_)
  refine LM.nil (QM.sub (e' := []) trivial ?_)
  refine QM.leave (.inr rfl) [] Try.results94 rfl ?_
  intro w' hm' hc' hg'
  exact rt_leaf hs (by assumption) hm' au1 hc'
 rw [if_pos (by show (N.getD i default).red = true; exact bnotF h2)] at hF; cases hF
 refine wpM.skip ?_
 refine QM.then (wpM.region ?_)
 refine LM.mv rfl ?_
 refine LM.val (ov_nilCheck rfl) ?_
 refine LM.val (ov_field Try.underlying131 rfl Try.sizeOf129 rfl (k := 1) rfl rfl) ?_
 refine LM.rd (om_ld Try.isAgg129 rfl rfl) ?_
 refine LM.val (ov_build (cs := #[U 0#64, .int .i64 0, .int .i64 0, .int .i64 0, .int .i64 0, .int .i64 0, .bool false]) rfl (by first | rfl | kernel_rfl)) ?_
 refine LM.val (ov_idxSN (i := 0) au6 Try.underlying129 Try.sizeOf136 rfl rfl (by omega)) ?_
 refine LM.stS ((default : Nd)) (j := 0) (i := 0) (by assumption) (by intro _; rfl) Try.sizeOf136 rfl rfl rfl (by exact getq default (by first | omega | (simp only [nL_len, nR_len, nU_len, nC_len, List.length_set, List.length_append, List.length_cons, List.length_nil]; omega))) rfl (by decide) (by rfl) rfl (fun p hp _ => .inr (Sl.at_bn (by assumption) p hp)) (fun ms2 hss2 hmm2 => ?_)
 refine LM.nil (QM.sub (e' := []) trivial ?_)
 refine QM.leave (.inr rfl) [] Try.results94 rfl ?_
 intro w' hm' hc' hg'
 exact rt_leaf hs (by assumption) hm' au1 hc'
end Go.Eng
namespace Go.Eng
open Go Go.RowKit
theorem frl_lt {N : List Nd} {i : Nat} {fl : List Nat} (h : FrL N i fl) (hp : 0 < N.length) : i < N.length := by
  cases fl with
  | nil => rw [show i = 0 from h]; exact hp
  | cons j fl => obtain ⟨h1, _, h2, _⟩ := h; omega
theorem hd_lt {t : Tr} {S : Ns} (h : Ly t.ixs S t) (hp : 0 < S.1.length) : hdI t.ord < S.1.length := by
  by_cases e : t.ord = []
  · rw [e]; exact hp
  · obtain ⟨h1, k, h2, h3⟩ := hd_first (k := default) h e
    have hm : hdI t.ord ∈ t.ord.map (·.1) := List.mem_map.2 ⟨_, List.mem_of_mem_head? h2, rfl⟩
    exact h.lt ((ord_ixs t _).1 hm)
theorem srt_map {t : Tr} {L : List Kv} (ho : t.ord.map (·.2) = L) (h : Srt L) : Srt (t.ord.map (·.2)) := by rw [ho]; exact h
theorem fnd_use {s : RbS} {L : List Kv} (h : RbI s L) {t : Tr} (hL : Ly t.ixs (s.N, s.root) t) (ho : t.ord.map (·.2) = L) (hsz : t.size < s.N.length + 3) (k : Kv) : ∃ r, fndF s.N k (s.N.length + 3) s.root 0 = some r ∧ Found t k r := by
  have := fnd_ly (S := (s.N, s.root)) (k := k) t .top (s.N.length + 3) hL (srt_map ho h.srt) (fun p hp => by cases hp) (fun p hp => by cases hp) hsz
  rw [← hL.root] at this
  exact this
theorem ins_use {s : RbS} {L : List Kv} {k : Kv} (h : RbI s L) (hno : ∀ x ∈ L, ¬ yEq x k) (hlt : s.n < s.most) : ∃ u, u < s.N.length ∧ fndF s.N k (s.N.length + 3) s.root 0 = some (0, u) ∧ 0 < s.N.length ∧ s.free < s.N.length ∧ s.first < s.N.length ∧
    (takN s.N s.free ⟨k, 0, 0, u, true⟩).2.1 < (takN s.N s.free ⟨k, 0, 0, u, true⟩).1.length ∧ s.N.length ≤ (takN s.N s.free ⟨k, 0, 0, u, true⟩).1.length ∧ WfS ((takN s.N s.free ⟨k, 0, 0, u, true⟩).1, s.root) (takN s.N s.free ⟨k, 0, 0, u, true⟩).1.length ∧
    ∃ S', grwF (s.N.length + 3) (lnkF ((takN s.N s.free ⟨k, 0, 0, u, true⟩).1, s.root) u (takN s.N s.free ⟨k, 0, 0, u, true⟩).2.1 k) (takN s.N s.free ⟨k, 0, 0, u, true⟩).2.1 = some S' ∧
      RbI ⟨s.most, S'.1, S'.2, frsF (lnkF ((takN s.N s.free ⟨k, 0, 0, u, true⟩).1, s.root) u (takN s.N s.free ⟨k, 0, 0, u, true⟩).2.1 k).1 s.first (takN s.N s.free ⟨k, 0, 0, u, true⟩).2.1 k, (takN s.N s.free ⟨k, 0, 0, u, true⟩).2.2, s.n + 1⟩ (insK L k) := by
  obtain ⟨t, fl, hL, ho, hok, hb, hf, hF, hfn, hfa, hlen⟩ := h.ex
  have hpos : 0 < s.N.length := by omega
  obtain ⟨r, hr, hfd⟩ := fnd_use h hL ho (by omega) k
  cases hfd with
  | hit c i e col l r' hT hke hres =>
    refine absurd hke.symm (hno e ?_)
    rw [← ho, hT, (plug_ord c _)]
    simp [Tr.ord]
  | miss c hT h1 h2 hres =>
    subst hres
    have hc0 : c.ix < s.N.length := by
      by_cases e : c.ix = 0
      · rw [e]; exact hpos
      · exact hL.lt (by rw [hT, (plug_ixs c .lf).mem_iff]; exact List.mem_append_left _ (Cx.ix_mem e))
    obtain ⟨fl', hk⟩ := tak_spec h hlt hL ho hF hfn hfa hlen ⟨k, 0, 0, c.ix, true⟩ ⟨hpos, hpos, hc0⟩
    obtain ⟨S', hg, hI⟩ := ins_ly h hlt hT h1 h2 hL ho hok hb hf hF hfn hfa hlen (f := s.N.length + 3) (by omega) (x := ⟨k, 0, 0, c.ix, true⟩) rfl
    exact ⟨c.ix, hc0, hr, hpos, frl_lt hF hpos, by rw [hf]; exact hd_lt hL hpos, hk.lt, hk.ge, hk.wf, S', hg, hI⟩
theorem del_use {s : RbS} {L : List Kv} {k e : Kv} (h : RbI s L) (he : e ∈ L) (hk : yEq k e) : ∃ i u, fndF s.N k (s.N.length + 3) s.root 0 = some (i, u) ∧ i ≠ 0 ∧ i < s.N.length ∧ (gN s.N i).e.x = e.x ∧ 0 < s.n ∧ s.first < s.N.length ∧
    ∃ nx, nxtF s.N (s.N.length + 3) i = some nx ∧ nx < s.N.length ∧
      ∃ S', cutF (s.N.length + 3) (vicF (s.N, s.root) i nx).1 (vicF (s.N, s.root) i nx).2 = some S' ∧ (vicF (s.N, s.root) i nx).2 < s.N.length ∧ S'.1.length = s.N.length ∧
      RbI ⟨s.most, S'.1.set (vicF (s.N, s.root) i nx).2 { (default : Nd) with l := s.free }, S'.2, fstF s.N s.first i nx, (vicF (s.N, s.root) i nx).2, s.n - 1⟩ (delK L k) := by
  obtain ⟨t, fl, hL, ho, hok, hb, hf, hF, hfn, hfa, hlen⟩ := h.ex
  have hpos : 0 < s.N.length := by omega
  obtain ⟨r, hr, hfd⟩ := fnd_use h hL ho (by omega) k
  cases hfd with
  | hit c i e2 col l r' hT hke hres =>
    subst hres
    obtain ⟨nx, h1, h2, h3, S', h4, h5, h6⟩ := del_ly h hT hke hL ho hok hb hf hF hfn hfa hlen (f := s.N.length + 3) (by omega)
    have hmi : i ∈ t.ixs := by rw [hT, (plug_ixs c _).mem_iff]; exact List.mem_append_right _ (List.mem_cons_self ..)
    have hilt := hL.lt hmi
    have hmo : (i, e2) ∈ t.ord := by rw [hT, plug_ord]; simp [Tr.ord]
    have hke2 := hL.key hmo
    have he2 : e2 ∈ L := by rw [← ho]; exact List.mem_map.2 ⟨_, hmo, rfl⟩
    have hee : e2 = e := by
      have hs := h.srt
      by_cases q : e2 = e
      · exact q
      · obtain ⟨a, ha, hae⟩ := List.getElem_of_mem he2
        obtain ⟨b, hb', hbe⟩ := List.getElem_of_mem he
        have hne : a ≠ b := fun z => q (by subst z; rw [← hae, ← hbe])
        have hyy : yEq e2 e := ⟨hke.1.symm.trans hk.1, hke.2.symm.trans hk.2⟩
        have hp := List.pairwise_iff_getElem.1 hs
        rcases Nat.lt_or_gt_of_ne hne with z | z
        · have := hp a b ha hb' z
          rw [hae, hbe] at this; exact absurd hyy this.ne
        · have := hp b a hb' ha z
          rw [hae, hbe] at this; exact absurd hyy.symm this.ne
    have hnz : i ≠ 0 := fun q => hL.nz (q ▸ hmi)
    have hw5 := vic_wf (i := i) (s := nx) h.wf hilt h2
    have hlS : S'.1.length = s.N.length := (cut_wf h4 hw5.1 hw5.2).len
    refine ⟨i, c.ix, hr, hnz, hilt, by rw [← hee]; exact congrArg Kv.x hke2, ?_, by rw [hf]; exact hd_lt hL hpos, nx, h1, h2, S', h4, h5, hlS, h6⟩
    rw [h.n]; exact List.length_pos_of_mem he
  | miss c hT h1 h2 hres =>
    exfalso
    have : e ∈ (plug c .lf).ord.map (·.2) := by rw [← hT, ho]; exact he
    obtain ⟨p, hp, rfl⟩ := List.mem_map.1 this
    rw [plug_ord] at hp
    simp only [Tr.ord, List.append_nil, List.mem_append, List.not_mem_nil, or_false] at hp
    rcases hp with hp | hp
    · exact (h1 p hp).ne hk.symm
    · exact (h2 p hp).ne hk
theorem fst_use {s : RbS} {L : List Kv} (h : RbI s L) : (L = [] → s.first = 0) ∧ ∀ e l, L = e :: l → s.first ≠ 0 ∧ s.first < s.N.length ∧ gN s.N s.first = { gN s.N s.first with e := e } := by
  obtain ⟨t, fl, hL, ho, hok, hb, hf, hF, hfn, hfa, hlen⟩ := h.ex
  refine ⟨fun e => ?_, fun e l hl => ?_⟩
  · rw [e] at ho; rw [hf, List.map_eq_nil_iff.1 ho]; rfl
  · have hne : t.ord ≠ [] := fun q => by rw [q, hl] at ho; cases ho
    obtain ⟨h1, e', h2, h3⟩ := hd_first (k := default) hL hne
    have : e' = e := by
      have h4 : (t.ord.map (·.2)).head? = some e' := by rw [List.head?_map, h2]; rfl
      rw [ho, hl] at h4; exact (Option.some.inj h4).symm
    subst this
    refine ⟨by rw [hf]; exact h1, by rw [hf]; exact hd_lt hL (by show 0 < s.N.length; omega), ?_⟩
    have h5 : (gN s.N s.first).e = e' := by rw [hf]; exact h3
    generalize gN s.N s.first = x at h5
    subst h5; rfl
theorem it_use {s : RbS} {L : List Kv} (h : RbI s L) : ∃ ix : Nat → Nat, ix 0 = s.first ∧ ix L.length = 0 ∧ ∀ j, j < L.length → ix j ≠ 0 ∧ ix j < s.N.length ∧ (gN s.N (ix j)).e = L.getD j default ∧ nxtF s.N (s.N.length + 3) (ix j) = some (ix (j + 1)) := by
  obtain ⟨t, fl, hL, ho, hok, hb, hf, hF, hfn, hfa, hlen⟩ := h.ex
  have hol : t.ord.length = L.length := by rw [← ho, List.length_map]
  refine ⟨fun j => hdI (t.ord.drop j), hf.symm, by show hdI (t.ord.drop L.length) = 0; rw [List.drop_eq_nil_of_le (by omega)]; rfl, fun j hj => ?_⟩
  have hj2 : j < t.ord.length := by omega
  have hd : t.ord.drop j = t.ord[j] :: t.ord.drop (j + 1) := List.drop_eq_getElem_cons hj2
  have hi : hdI (t.ord.drop j) = t.ord[j].1 := by rw [hd]; rfl
  have hmo : t.ord[j] ∈ t.ord := List.getElem_mem hj2
  have hmi : t.ord[j].1 ∈ t.ixs := (ord_ixs t _).1 (List.mem_map.2 ⟨_, hmo, rfl⟩)
  obtain ⟨c', col, l, r, hp, h1, h2⟩ := ord_split t .top (t.ord.take j) (t.ord.drop (j + 1)) t.ord[j] (by rw [← hd, List.take_append_drop])
  have hp' : t = plug c' (.nd t.ord[j].1 t.ord[j].2 col l r) := hp
  have hL' := hL
  rw [hp'] at hL'
  have hnx := nxt_ly (f := s.N.length + 3) (S := (s.N, s.root)) (c := c') (i := t.ord[j].1) (e := t.ord[j].2) (col := col) (l := l) (r := r) (I := t.ixs) (by rw [← hp']; exact hL) (by rw [← hp']; omega)
  show hdI (t.ord.drop j) ≠ 0 ∧ hdI (t.ord.drop j) < s.N.length ∧ (gN s.N (hdI (t.ord.drop j))).e = L.getD j default ∧ nxtF s.N (s.N.length + 3) (hdI (t.ord.drop j)) = some (hdI (t.ord.drop (j + 1)))
  rw [hi]
  refine ⟨fun q => hL.nz (q ▸ hmi), hL.lt hmi, ?_, ?_⟩
  · have hk := hL.key hmo
    rw [show (gN s.N t.ord[j].1).e = t.ord[j].2 from hk]
    subst ho
    rw [List.getD_eq_getElem?_getD, List.getElem?_map, List.getElem?_eq_getElem hj2]; rfl
  · rw [hnx, h2]
    show some (hdI (t.ord.drop (j + 1) ++ [])) = _
    rw [List.append_nil]
theorem rb_new (mx : Nat) : RbI ⟨mx, [default], 0, 0, 0, 0⟩ [] where
  ex := ⟨.lf, [], { has := (fun p hp => (by cases hp)), root := rfl, nd := List.nodup_nil, sub := (fun x hx => (by cases hx)), nz := (fun hx => (by cases hx)) }, rfl, ⟨0, rfl⟩, rfl, rfl, rfl, List.nodup_nil, (fun j hj => (by cases hj)), rfl⟩
  srt := List.Pairwise.nil
  zero := rfl
  wf := ⟨fun i => by
    have : gN [default] i = default := by
      cases i with
      | zero => rfl
      | succ i => rfl
    show (gN [default] i).l < 1 ∧ (gN [default] i).r < 1 ∧ (gN [default] i).up < 1
    rw [this]; exact ⟨Nat.one_pos, Nat.one_pos, Nat.one_pos⟩, rfl, Nat.one_pos⟩
  n := rfl
  most := Nat.zero_le _
  len := by show 1 ≤ mx + 1; omega
end Go.Eng
