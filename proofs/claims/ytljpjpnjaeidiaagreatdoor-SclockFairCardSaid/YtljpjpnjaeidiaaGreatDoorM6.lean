/- The walks of a lock: a new one. No condition. -/
import Derived.Test.YtljpjpnjaeidiaaGreatDoorM2
import Derived.Test.YtljpjpnjaeidiaaGreatDoorM5
import Derived.Test.YtljpjpnjaeidiaaGreatDoorM3
import Derived.Shelf.Spec.BitsCarry
set_option linter.unusedVariables false
set_option linter.unusedSimpArgs false
set_option maxRecDepth 100000
namespace Go.Eng
open Go Go.Proofs Go.RowKit
structure LDf where
  sh : Bool
  sl : Int
  cr : Int
  rd : Int
  wr : Int
deriving Inhabited
abbrev fLd (d : LDf) : List Value := [.bool d.sh, .int .i64 d.sl, .int .i64 d.cr, .int .i64 d.rd, .int .i64 d.wr]
def lkG (gs : List Int) : List Int := if (gs.take 4).length = 0 then [1] else gs.take 4
def lkWs (d : LDf) (gs : List Int) : List Int := if d.sh = true then [d.rd, d.wr] else lkG gs
def lkNew (d : LDf) (gs : List Int) : Lkm := ⟨d.sh, bringO d.sl 1 16, [], [], ⟨-1, 0⟩, ldNew (lkWs d gs) (bringO d.sl 1 16) d.cr, false⟩
def LkNew (d : LDf) (gs : List Int) (n0 : Nat) (v : Value) (m : Mem0) : Prop := ∃ b, v = .pointer (some ⟨b, 0, none⟩) ∧ LkM n0 0 b (lkNew d gs) [] m
theorem LkM.mono {n0 n1 T b : Nat} {x : Lkm} {od : List Int} {m : Mem0} (h : LkM n0 T b x od m) (hn : n1 ≤ n0) : LkM n1 T b x od m := by
  obtain ⟨adh, nh, caph, ado, nd, capo, bq, bl, mh, mo, mq, ml, rfl, hnh, hnd, hsh, hso, hTb, hLe, hb⟩ := h
  exact ⟨adh, nh, caph, ado, nd, capo, bq, bl, mh, mo, mq, ml, rfl, hnh, hnd, hsh.mono hn, hso.mono hn, hTb.mono hn, hLe.mono hn, Nat.le_trans hn hb⟩
theorem LkNew.mono {d : LDf} {gs : List Int} : ∀ (n n' : Nat) (v : Value) (m : Mem0), n' ≤ n → LkNew d gs n v m → LkNew d gs n' v m := fun n n' v m hn ⟨b, h1, h⟩ => ⟨b, h1, h.mono hn⟩
theorem lkWs_len (d : LDf) (gs : List Int) : 0 < (lkWs d gs).length ∧ (lkWs d gs).length ≤ 4 := by
  unfold lkWs lkG
  split
  · exact ⟨Nat.succ_pos _, by simp⟩
  · split
    · exact ⟨Nat.succ_pos _, by simp⟩
    · rw [List.length_take] at *; omega
theorem lkNew_w (d : LDf) (gs : List Int) : LkW (lkNew d gs) := by
  have hl := lkWs_len d gs
  refine ⟨⟨List.Pairwise.nil, Nat.zero_le _, List.nodup_nil, fun w hw => (by cases hw), fun w hw => (by cases hw), fun w hw => (by cases hw), fun w hw => (by cases hw), fun _ => Nat.zero_le _, fun _ => .inr (Nat.zero_le _), fun hs => ?_, ?_⟩, fun _ => rfl⟩
  · show (ldNew (lkWs d gs) _ _).l.length = 2
    rw [ldNew_len]; unfold lkWs; rw [if_pos (show d.sh = true from hs)]; rfl
  · show (ldNew (lkWs d gs) _ _).l.length ≤ 8
    rw [ldNew_len]; omega
def RdS (ws : List Int) (ad : Option Addr) (n cap : Nat) (m : Mem0) (w : World) : Prop := n = ws.length ∧ ∀ w', Mem w' m → Ext w w' → Sr fI 1 ws (.slice ad n cap) w'
theorem bring_mm (n lo hi : Int) (h : lo ≤ hi) : (if hi < (if n < lo then lo else n) then hi else (if n < lo then lo else n)) = bringO n lo hi := by
  unfold bringO; (repeat' split) <;> omega
theorem lknew_spec {gs : List Int} {ad : Option Addr} {n cap : Nat} (d : LDf) (w : World) (hn : n = gs.length) (hl : Sr fI 1 gs (.slice ad n cap) w) : Ret Tryz.prog 7 #[.agg (fLd d).toArray, .slice ad n cap] w (fun v w' => Ext w w' ∧ ∃ m, LkNew d gs w.heap.size v m ∧ Mem w' m ∧ ∀ p ∈ m, w.heap.size ≤ p.1) := by
 obtain ⟨k, hk, hkn⟩ : ∃ k : Nat, (if (4 : Int) < (n : Int) then (4 : Int) else (n : Int)) = (k : Int) ∧ k = min n 4 := ⟨min n 4, by by_cases q : (4 : Int) < n; rw [if_pos q]; omega; rw [if_neg q]; omega, rfl⟩; have hcl := hl.open.2.1
 refine Ret.enterM Tryz.func7 rfl Tryz.ntmps7 rfl ([]) (no) (Mem.nil w) ?_
 refine wR ?_
 refine LM.box rfl rfl (fun b2 hb2 => ?_)
 refine LM.as rfl <| nB [(1, _), (2, _)] <| LM.mv rfl <| LM.mv rfl <| LM.val (ov_len Tryz.underlying24 rfl) ?_
 refine LM.val (ov_min rfl rfl) ?_
 rw [hk]; have hsk := Sr.take (k := k) hl om; have hkl : (gs.take k).length = k := (by rw [List.length_take]; omega); have hg4 : gs.take 4 = gs.take k := (by rcases Nat.le_total gs.length 4 with q | q; rw [List.take_of_length_le q, List.take_of_length_le om]; rw [show k = 4 by omega])
 refine LM.val (ov_subHi Tryz.underlying24 Tryz.sizeOf3 rfl rfl om om) ?_
 try rw [Int.toNat_natCast]
 refine LM.as rfl <| nA [(2, _), (5, _)] <| wpM.seq <| wR <| LM.mv rfl <| LM.val (ov_len Tryz.underlying24 rfl) <| LM.val (ov_eql rfl rfl) <| nA [(2, _), (5, _), (14, _)] ?_
 refine wpM.joinK (α := Option Addr × Nat × Nat × Mem0) (fun ⟨ad5, n5, cap5, m5⟩ => [(5, .slice ad5 n5 cap5)]) [(2, _)] (fun ⟨ad5, n5, cap5, m5⟩ => (b2, .cells (Value.agg (fLd d).toArray).cells 23 (0, 0)) :: (m5 ++ [])) (fun ⟨ad5, n5, cap5, m5⟩ => RdS (lkG gs) ad5 n5 cap5 m5 w) ⟨rfl, trivial⟩ ?_ ?_
 ·
  refine wpM.condD rfl (fun h1 => ?_) (fun h1 => ?_)
  ·
   refine wpM.region ?_
   refine LM.single Tryz.underlying24 Tryz.sizeOf3 Tryz.zeroValue3 rfl rfl rfl rfl rfl (fun b15 hb15 => ?_)
   try rw [Int.toNat_natCast]
   refine LM.as rfl <| nC [(2, _), (5, _)] ?_
   refine QM.meetK (some ⟨b15, 0, none⟩, 1, 1, (b15, .cells #[.int .i64 1] 3 (0, 0)) :: []) ⟨au2, rfl, trivial⟩ au1 ?_
   · have e : lkG gs = [1] := if_pos (by rw [hg4, hkl]; omega); rw [e]; exact ⟨rfl, fun w' hm _ => Sr.row (hm.at b15) rfl rfl (by decide) ir⟩
  refine wpM.skip ?_
  refine QM.meetK (ad, k, cap, []) ⟨au2, rfl, trivial⟩ au1 ?_
  · have e : lkG gs = gs.take k := (by unfold lkG; rw [hg4, if_neg (by rw [hkl]; omega)]); rw [e]; exact ⟨hkl.symm, fun w' _ hx => hsk.ext hx⟩
 rintro ⟨ad5, n5, cap5, m5⟩ hR
 change QM _ _ _ _ _ ((b2, .cells (Value.agg (fLd d).toArray).cells 23 (0, 0)) :: (m5 ++ [])) _ _ _
 refine QM.then <| wpM.seq <| wR <| LM.val (ovf 4 rfl rfl rfl rfl) ?_
 refine LM.rd (oml rfl rfl rfl) ?_
 refine nA [(2, _), (5, _), (17, _)] ?_
 refine wpM.joinK (α := Option Addr × Nat × Nat × Mem0) (fun ⟨ad6, n6, cap6, m6⟩ => [(5, .slice ad6 n6 cap6)]) [(2, _)] (fun ⟨ad6, n6, cap6, m6⟩ => (b2, .cells (Value.agg (fLd d).toArray).cells 23 (0, 0)) :: (m6 ++ [])) (fun ⟨ad6, n6, cap6, m6⟩ => RdS (lkWs d gs) ad6 n6 cap6 m6 w) ⟨rfl, trivial⟩ ?_ ?_
 ·
  first | refine wpM.condD rfl (fun h2 => ?_) (fun h2 => ?_) | refine wpM.condB rfl (fun h2 => ?_) (fun h2 => ?_)
  ·
   refine wpM.region ?_
   refine LM.val (ovf 3 rfl rfl rfl rfl) ?_
   refine LM.rd (oml rfl rfl rfl) ?_
   refine LM.val (ovf 3 rfl rfl rfl rfl) ?_
   refine LM.rd (oml rfl rfl rfl) ?_
   refine LM.row (vs := [_, _]) Tryz.underlying24 Tryz.sizeOf3 Tryz.zeroValue3 rfl rfl rfl rfl rfl rfl (fun b22 hb22 => ?_)
   try rw [Int.toNat_natCast]
   refine LM.as rfl <| nC [(2, _), (5, _)] ?_
   refine QM.meetK (some ⟨b22, 0, none⟩, 2, 2, (b22, .cells #[.int .i64 d.rd, .int .i64 d.wr] 3 (0, 0)) :: []) ⟨au2, rfl, trivial⟩ au1 ?_
   · have e : lkWs d gs = [d.rd, d.wr] := if_pos h2; rw [e]; exact ⟨rfl, fun w' hm _ => Sr.row (hm.at b22) rfl rfl (by simp) ir⟩
  refine wpM.skip ?_
  refine QM.meetK (ad5, n5, cap5, m5) ⟨au2, rfl, trivial⟩ au1 ?_
  · have e : lkWs d gs = lkG gs := if_neg (by simpa using h2); rw [e]; exact hR
 rintro ⟨ad6, n6, cap6, m6⟩ hR6
 change QM _ _ _ _ _ ((b2, .cells (Value.agg (fLd d).toArray).cells 23 (0, 0)) :: (m6 ++ [])) _ _ _
 refine tR <| LM.val (ovf 3 rfl rfl rfl rfl) ?_
 refine LM.rd (oml rfl rfl rfl) ?_
 refine LM.val (ov_max rfl rfl) ?_
 refine LM.val (ov_min rfl rfl) ?_
 rw [bring_mm _ _ _ (by decide)]
 refine LM.as rfl <| nA [(2, _), (5, _), (6, _)] <| wpM.seq ?_
 refine wpM.draw [(0, 0), (1, 1), (2, 0), (4, 0), (5, 0), (6, 0), (7, 0), (8, 1), (3, 2), (9, 2), (10, 0), (11, 2), (12, 0)] kr kr ?_
 refine LD.val rfl rfl (ovf 4 rfl rfl rfl rfl) ?_
 refine LD.rd rfl rfl (oml rfl rfl rfl) ?_
 refine LD.val rfl rfl (ov_move rfl) ?_
 refine LD.val rfl rfl (ov_build (cs := #[.int .i64 (-1), .int .i64 0]) rfl kr) ?_
 refine LD.val rfl rfl (ov_move rfl) <| LD.val rfl rfl (ov_move rfl) <| LD.val rfl rfl (ovf 3 rfl rfl rfl rfl) ?_
 refine LD.rd rfl rfl (oml rfl rfl rfl) ?_
 refine LD.callT rfl rfl (oc_call (enters_fn Tryz.func34 kr rfl) rfl) TbN.mono (fun w hm hc hg => tnew_spec 4 8 8 w) ?_
 rintro u30 m30 ⟨b30, rfl, h30⟩ hge30
 refine LD.callT rfl rfl (oc_call (enters_fn Tryz.func35 kr rfl) rfl) LeN.mono (fun w hm hc hg => lenew_spec (bringO d.sl 1 16) d.cr w hR6.1 (hR6.2 w (hm.pick m6) hc)) ?_
 rintro u36 m36 ⟨b36, rfl, h36⟩ hge36
 refine LD.val rfl rfl (ov_build (cs := #[.bool d.sh, .int .i64 (bringO d.sl 1 16), .slice none 0 0, .pointer (some ⟨b30, 0, none⟩), .slice none 0 0, .int .i64 (-1), .int .i64 0, .pointer (some ⟨b36, 0, none⟩), .bool false]) rfl kr) ?_
 refine LD.box rfl rfl rfl rfl (fun b38 hb38 => ?_)
 refine LD.val rfl rfl (ov_assign rfl) <| LD.nil ?_
 refine QM.sub (e' := [(4, _)]) ⟨rfl, trivial⟩ (QM.then ?_)
 refine wpM.ret ?_
 refine qL Tryz.results7 rfl fun w' hm' hc' hg' => ?_
 have hL : LkM w.heap.size 0 b38 (lkNew d gs) [] (lkC b38 d.sh (bringO d.sl 1 16) none 0 0 b30 none 0 0 ⟨-1, 0⟩ b36 false :: ([] ++ ([] ++ (m30 ++ m36)))) := ⟨none, 0, 0, none, 0, 0, b30, b36, [], [], m30, m36, rfl, rfl, rfl, Sl.nil _ _ _ _, Sl.nil _ _ _ _, h30, h36, hb38⟩; exact ⟨hc', _, ⟨b38, rfl, hL⟩, (by have h9 := SubM.mem (M' := lkC b38 d.sh (bringO d.sl 1 16) none 0 0 b30 none 0 0 ⟨-1, 0⟩ b36 false :: (m30 ++ (m36 ++ []))) au1 w' hm'; rw [List.append_nil] at h9; exact h9), hL.ge⟩
abbrev lF (c : Nat) (g : Option Addr) : Nat × Obj := (c, .cells #[.pointer g] 27 (0, 0))
def WtrT (g : Option Addr) (n0 : Nat) (v : Value) (m : Mem0) : Prop := ∃ c1, v = .func (.func 84) #[] #[.pointer (some ⟨c1, 0, none⟩)] ∧ m = [lF c1 g] ∧ n0 ≤ c1
theorem WtrT.mono {g : Option Addr} : ∀ (k k' : Nat) u m, k' ≤ k → WtrT g k u m → WtrT g k' u m := fun k k' u m h ⟨b1, h1, h2, h3⟩ => ⟨b1, h1, h2, by omega⟩
def wtA (L : List Wt) : List (Array Value) := L.map (fun w => #[.int .i64 w.who, .int .i64 w.key])
theorem wtA_len (L : List Wt) : (wtA L).length = L.length := by simp [wtA]
theorem who_getD {L : List Wt} {i : Nat} (hi : i < L.length) : (L.map (·.who)).getD i 0 = (L.getD i default).who := by
  rw [List.getD_eq_getElem?_getD, List.getD_eq_getElem?_getD, List.getElem?_map, List.getElem?_eq_getElem hi]; rfl
theorem wtA_get {L : List Wt} {i : Nat} (hi : i < L.length) : (wtA L)[i]? = some #[.int .i64 ((L.map (·.who)).getD i 0), .int .i64 (L.getD i default).key] := by
  rw [who_getD hi]
  unfold wtA
  rw [List.getElem?_map, List.getElem?_eq_getElem hi, List.getD_eq_getElem?_getD, List.getElem?_eq_getElem hi]; rfl
theorem wtA_inv {L : List Wt} {k : Nat} {av : Array Value} (h : (wtA L)[k]? = some av) : k < L.length ∧ av = #[.int .i64 (L.getD k default).who, .int .i64 (L.getD k default).key] := by
  have hk : k < L.length := by have := (List.getElem?_eq_some_iff.1 h).1; rwa [wtA_len] at this
  rw [wtA_get hk, who_getD hk] at h
  exact ⟨hk, (Option.some.inj h).symm⟩
theorem twho_at {most each : Int} {n0 T b i : Nat} {L : List Wt} {m : Mem0} (w : World) (h : TbM most each n0 T L b m) (hi : i < L.length) (hM : Mem w m) :
    Ret Tryz.prog 86 #[.pointer (some ⟨b, 0, none⟩), .int .i64 ((L.map (·.who)).getD i 0)] w (fun u w' => u = .tuple #[.agg (fWt (L.getD i default)).toArray, .bool true] ∧ Ext w w') := by
  have h1 := twho_any ((L.map (·.who)).getD i 0) w h hM
  rw [fW_at h.lim.2.2.2 hi] at h1
  have h2 : hasW L ((L.map (·.who)).getD i 0) = true := by
    unfold hasW; rw [List.any_eq_true, who_getD hi]
    refine ⟨L.getD i default, ?_, by simp⟩
    rw [List.getD_eq_getElem?_getD, List.getElem?_eq_getElem hi]; exact List.getElem_mem hi
  rw [h2] at h1
  exact h1
theorem lkWtr_spec (g : Option Addr) (w : World) : Ret Tryz.prog 36 #[.pointer g] w (fun v w' => Ext w w' ∧ ∃ m, WtrT g w.heap.size v m ∧ Mem w' m ∧ ∀ p ∈ m, w.heap.size ≤ p.1) := by
 refine Ret.enterM Tryz.func36 rfl Tryz.ntmps36 rfl ([]) (no) (Mem.nil w) ?_
 refine wR ?_
 refine LM.box rfl rfl (fun b1 hb1 => ?_)
 refine LM.as rfl <| nB [(1, _)] ?_
 refine LM.val (ov_makeFunc rfl) ?_
 refine LM.as rfl <| nA [(2, _)] <| wpM.ret ?_
 refine qL Tryz.results36 rfl fun w' hm' hc' hg' => ?_
 exact ⟨hc', _, ⟨b1, rfl, rfl, hb1⟩, SubM.mem au1 _ hm', fun p hp => by simp only [List.mem_cons, List.not_mem_nil, or_false] at hp; subst hp; assumption⟩
theorem lkWtr_seq {n0' T b c1 : Nat} {x : Lkm} {m : Mem0} (h : LkM n0' T b x (x.wt.map (·.who)) m) : SeqCP Tryz.prog 84 #[.pointer (some ⟨c1, 0, none⟩)] (wtA x.wt) (fun w => Mem w (lF c1 (some ⟨b, 0, none⟩) :: m)) (True) := by
 obtain ⟨adh, nh, caph, ado, nd, capo, bq, bl, mh, mo, mq, ml, rfl, hnh, hnd, hsh, hso, hTb, hLe, hb⟩ := h; have hxl := hTb.lim.2.2.1; have hol : (x.wt.map (·.who)).length = x.wt.length := List.length_map ..
 refine SeqCP.enter (lb := [.pointer (some ⟨c1, 0, none⟩)]) Tryz.func84 rfl Tryz.ntmps84 rfl ?_
 intro l0 n0 J Jx w0 hn0 hfin hJr hL hy
 refine wpM.openJ (n := n0) (fun wj1 hmj1 hCj1 hjj1 hkj1 => ?_)
 refine wpM.seq <| wR ?_
 refine LM.rdC (fun w hm hc hg => om_ld (M := lF c1 (some ⟨b, 0, none⟩) :: lkM0 b x adh nh caph bq ado nd capo bl mh mo mq ml) Tryz.isAgg27 rfl rfl w ((hL.rd hJr hjj1 hc))) ?_
 refine LM.val (ov_peql kr rfl rfl) ?_
 refine nA [(0, _), (1, _), (8, _)] ?_
 refine wpM.condF rfl ?_
 refine wpM.skip <| tR ?_
 refine LM.rdC (fun w hm hc hg => om_ld (M := lF c1 (some ⟨b, 0, none⟩) :: lkM0 b x adh nh caph bq ado nd capo bl mh mo mq ml) Tryz.isAgg27 rfl rfl w ((hL.rd hJr hjj1 hc))) ?_
 refine LM.nc rfl <| LM.val (ovf 24 rfl rfl rfl rfl) ?_
 refine LM.rdC (fun w hm hc hg => om_ld (M := lF c1 (some ⟨b, 0, none⟩) :: lkM0 b x adh nh caph bq ado nd capo bl mh mo mq ml) Tryz.isAgg24 rfl rfl w ((hL.rd hJr hjj1 hc))) ?_
 refine LM.cS (oc_call (enters_fn Tryz.func85 kr rfl) rfl) (fun w hm hc hg => cloneI_spec w hnd (hso.srM ir (M := lF c1 (some ⟨b, 0, none⟩) :: lkM0 b x adh nh caph bq ado nd capo bl mh mo mq ml) ((hL.rd hJr hjj1 hc))) om) (fun ad13 n13 cap13 m13 hn13 hs13 => ?_)
 refine LM.val (ov_len Tryz.underlying24 rfl) <| LM.mv rfl <| nA [(0, _), (1, _), (13, _), (14, _), (15, _)] <| wpM.block ?_
 refine wpM.closeJ hL hCj1 hjj1 hkj1 (kk_top _) (((fun i => m13 ++ []) : Nat → Mem0) (0)) (SubM.mem (by (try dsimp only); (repeat' (first | exact SubM.nil _ | refine SubM.cons rfl ?_ | refine SubM.app ?_)))) (by (try dsimp only); (repeat' (first | exact pn_nil | exact (fun p hp => ⟨.inl (hs13.ge p hp), hs13.wlk p hp⟩) | exact (fun p hp => ⟨.inr ⟨p, by simp [hp], rfl⟩, hs13.wlk p hp⟩) | refine pn_cons (by first | (left; omega) | (right; simp; done)) rfl ?_ | refine pn_app ?_ ?_))) ?_
 refine wpM.loopK (α := Nat) (fun i => [(15, .int .i64 (i : Nat))]) [(0, _), (1, _), (13, _), (14, _)] (fun i => m13 ++ []) (fun i => (fun w => J (i) (m13 ++ []) w ∧ top w)) (fun i => i ≤ n13) (fun i => n13 - i) (0) ⟨au2, rfl, rfl, rfl, rfl, trivial⟩ au1 (fun _ h => h) (Nat.zero_le _) ?_
 rintro i hi
 change wpM _ _ _ _ _ _ _ (m13 ++ []) _ _ _
 refine wpM.openJ (n := n0) (fun wj2 hmj2 hCj2 hjj2 hkj2 => ?_)
 refine wR <| LM.val (ov_lss rfl rfl) <| nA [(0, _), (1, _), (13, _), (14, _), (15, _), (16, _)] <| wpM.seq ?_
 refine wpM.condD rfl (fun h1 => ?_) (fun h1 => ?_)
 ·
  refine wpM.skip <| QM.then <| wpM.seq <| wpM.block <| wR ?_
  refine LM.val (ov_idxSN au6 Tryz.underlying24 Tryz.sizeOf3 rfl rfl om) ?_
  refine LM.rd (om_sl1 asm ir Tryz.isAgg3 rfl rfl (by exact getq 0 au4) (by rfl)) ?_
  refine LM.as rfl <| nB [(0, _), (1, _), (4, _), (13, _), (14, _), (15, _)] ?_
  refine LM.rdC (fun w hm hc hg => om_ld (M := lF c1 (some ⟨b, 0, none⟩) :: lkM0 b x adh nh caph bq ado nd capo bl mh mo mq ml) Tryz.isAgg27 rfl rfl w ((hL.rd hJr hjj2 hc))) ?_
  refine LM.nc rfl <| LM.val (ovf 66 rfl rfl rfl rfl) ?_
  refine LM.rdC (fun w hm hc hg => om_ld (M := lF c1 (some ⟨b, 0, none⟩) :: lkM0 b x adh nh caph bq ado nd capo bl mh mo mq ml) Tryz.isAgg66 rfl rfl w ((hL.rd hJr hjj2 hc))) ?_
  refine LM.mv rfl ?_
  refine cE Tryz.func86 rfl (fun w hm hc hg => twho_at w hTb om (Mem.pick (M := lF c1 (some ⟨b, 0, none⟩) :: lkM0 b x adh nh caph bq ado nd capo bl mh mo mq ml) ((hL.rd hJr hjj2 hc)) mq)) ?_
  refine LM.mv rfl <| LM.val (ov_extract rfl rfl) <| LM.val (ov_extract rfl rfl) ?_
  refine LM.alloc Tryz.zeroValue85 rfl (fun b5 hb5 => ?_)
  refine LM.stW Tryz.sizeOf85 rfl rfl rfl rfl au7 (fun hlt => by first | exact absurd hlt om | (simp [inM]; done)) ?_
  refine LM.as rfl <| nB [(0, _), (1, _), (4, _), (5, _), (6, _), (13, _), (14, _), (15, _)] <| LM.mv rfl <| LM.mv rfl ?_
  first | refine LM.splitD (t := 29) rfl (fun h2 => ?_) (fun h2 => ?_) | refine LM.splitB (t := 29) rfl (fun h2 => ?_) (fun h2 => ?_)
  ·
   refine LM.sp 29 rfl rfl rfl <| LM.mv rfl <| LM.sp 29 rfl rfl rfl <| LM.mv rfl <| LM.sp 29 rfl rfl rfl <| LM.val (ovf 3 rfl rfl rfl rfl) <| LM.sp 29 rfl rfl rfl ?_
   refine LM.rd (oml rfl rfl rfl) ?_
   refine LM.sp 29 rfl rfl rfl ?_
   refine LM.yieldJ (n := n0) (k := i) hL rfl rfl (fun m w hj => hy (i) _ m w (wtA_get om) hj) hCj2 hjj2 hkj2 (kk_top _) ([]) (m13 ++ []) (m13 ++ []) (by simp only [List.append_assoc, List.cons_append, List.nil_append]) (SubM.mem au1) (by (repeat' (first | exact pn_nil | refine lo_cons om rfl ?_ | refine lo_dm (by intro D hD; first | (have := hds1 D hD; omega) | (have := hds2 D hD; omega)) ?_))) (by (try dsimp only); (repeat' (first | exact pn_nil | exact (fun p hp => ⟨.inl (hs13.ge p hp), hs13.wlk p hp⟩) | exact (fun p hp => ⟨.inr ⟨p, by simp [hp], rfl⟩, hs13.wlk p hp⟩) | refine pn_cons (by first | (left; omega) | (right; simp; done)) rfl ?_ | refine pn_app ?_ ?_))) (fun wj3 hmj3 hCj3 hjj3 hkj3 => ?_) (fun wj3 hmj3 hCj3 hjj3 hkj3 => ?_)
   ·
    change LM _ _ _ _ _ _ _ _ (m13 ++ []) _ _ _
    refine LM.sp 29 rfl rfl rfl ?_
    first | refine LM.val (ov_notD rfl) ?_ | refine LM.val (ov_not rfl) ?_
    refine LM.val (ov_pickT rfl rfl) <| nA [(0, _), (1, _), (13, _), (14, _), (15, _), (36, _)] ?_
    refine wpM.condF rfl ?_
    refine wpM.skip <| QM.block_normal ?_
    refine QM.then (wpM.region ?_)
    refine LM.val (ov_add64 rfl rfl om) ?_
    refine LM.mv rfl <| nC [(0, _), (1, _), (13, _), (14, _), (15, _)] ?_
    refine QM.closeJ hL hCj3 hjj3 hkj3 (kk_top _) (((fun i => m13 ++ []) : Nat → Mem0) (i + 1)) (SubM.mem (by (try dsimp only); (repeat' (first | exact SubM.nil _ | refine SubM.cons rfl ?_ | refine SubM.app ?_)))) (by (try dsimp only); (repeat' (first | exact pn_nil | exact (fun p hp => ⟨.inl (hs13.ge p hp), hs13.wlk p hp⟩) | exact (fun p hp => ⟨.inr ⟨p, by simp [hp], rfl⟩, hs13.wlk p hp⟩) | refine pn_cons (by first | (left; omega) | (right; simp; done)) rfl ?_ | refine pn_app ?_ ?_))) ?_
    refine QM.againK (i + 1) ⟨au2, rfl, rfl, rfl, rfl, trivial⟩ au1 (fun _ h => h) ?_ ?_
    · omega
    · omega
   change LM _ _ _ _ _ _ _ _ ([]) _ _ _
   refine LM.sp 29 rfl rfl rfl ?_
   first | refine LM.val (ov_notD rfl) ?_ | refine LM.val (ov_not rfl) ?_
   refine LM.val (ov_pickT rfl rfl) <| nA [(0, _), (1, _), (13, _), (14, _), (15, _), (36, _)] ?_
   refine wpM.condT rfl ?_
   refine wpM.ret <| QM.block_ret <| QM.then_ret <| QM.then_ret <| QM.block_ret ?_
   refine QM.closeX hL hCj3 hjj3 hkj3 (kk_top _) ?_
   refine QM.leaveDJ (ds := ([])) (.inl rfl) [] Tryz.results84 rfl hn0 hd_nil (gl_x hL (Nat.le_refl _) (gl_top _)) ?_
   intro w' hm' hg'
   exact .inr hg'.1
  cases h2
 refine wpM.exit <| QM.then_exit <| QM.then_exit <| QM.block_hit ?_
 refine QM.closeJ hL hCj2 hjj2 hkj2 (kk_top _) ([]) (SubM.mem (by (try dsimp only); (repeat' (first | exact SubM.nil _ | refine SubM.cons rfl ?_ | refine SubM.app ?_)))) (by (try dsimp only); (repeat' (first | exact pn_nil | exact (fun p hp => ⟨.inl (hs13.ge p hp), hs13.wlk p hp⟩) | exact (fun p hp => ⟨.inr ⟨p, by simp [hp], rfl⟩, hs13.wlk p hp⟩) | refine pn_cons (by first | (left; omega) | (right; simp; done)) rfl ?_ | refine pn_app ?_ ?_))) ?_
 refine QM.leaveDJ (ds := ([])) (.inr rfl) [] Tryz.results84 rfl hn0 hd_nil (gl_j hL (Nat.le_refl _) (gl_top _)) ?_
 intro w' hm' hg'
 have hil : i = x.wt.length := om; subst hil; exact .inl (by rw [wtA_len]; exact hg'.1)
abbrev rkC (b : Nat) (sh : Bool) (sl : Int) (adh : Option Addr) (nh caph : Nat) (adw : Option Addr) (nw capw : Nat) (tr : Trn) (bl : Nat) (di : Bool) : Nat × Obj := (b, .cells #[.bool sh, .int .i64 sl, .slice adh nh caph, .slice adw nw capw, .int .i64 tr.p, .int .i64 tr.u, .pointer (some ⟨bl, 0, none⟩), .bool di] 79 (0, 0))
abbrev rkM0 (b : Nat) (x : Lkm) (adh : Option Addr) (nh caph : Nat) (adw : Option Addr) (nw capw bl : Nat) (mh mw ml : Mem0) : Mem0 := rkC b x.sh x.sl adh nh caph adw nw capw x.tr bl x.di :: (mh ++ (mw ++ ml))
def RkM (n0 b : Nat) (x : Lkm) (wa : List Hd) (m : Mem0) : Prop := ∃ (adh : Option Addr) (nh caph : Nat) (adw : Option Addr) (nw capw bl : Nat) (mh mw ml : Mem0), m = rkM0 b x adh nh caph adw nw capw bl mh mw ml ∧ nh = x.ho.length ∧ nw = wa.length ∧ Sl fHd 59 3 n0 x.ho (.slice adh nh caph) mh ∧ Sl fHd 59 3 n0 wa (.slice adw nw capw) mw ∧ RdM n0 bl x.ld ml ∧ n0 ≤ b
theorem RkM.ge {n0 b : Nat} {x : Lkm} {wa : List Hd} {m : Mem0} (h : RkM n0 b x wa m) : ∀ p ∈ m, n0 ≤ p.1 := by
  obtain ⟨adh, nh, caph, adw, nw, capw, bl, mh, mw, ml, rfl, hnh, hnw, hsh, hsw, hLe, hb⟩ := h
  intro p hp
  rcases List.mem_cons.1 hp with rfl | hp
  · exact hb
  · rcases List.mem_append.1 hp with hp | hp
    · exact hsh.ge p hp
    · rcases List.mem_append.1 hp with hp | hp
      · exact hsw.ge p hp
      · exact hLe.ge p hp
theorem RkM.wlk {n0 b : Nat} {x : Lkm} {wa : List Hd} {m : Mem0} (h : RkM n0 b x wa m) : ∀ p ∈ m, wlk p.2 = false := by
  obtain ⟨adh, nh, caph, adw, nw, capw, bl, mh, mw, ml, rfl, hnh, hnw, hsh, hsw, hLe, hb⟩ := h
  exact fun p hp => by
    rcases List.mem_cons.1 hp with rfl | hp
    · rfl
    · rcases List.mem_append.1 hp with hp | hp
      · exact hsh.wlk p hp
      · rcases List.mem_append.1 hp with hp | hp
        · exact hsw.wlk p hp
        · exact hLe.wlk p hp
theorem RkM.mono {n0 n1 b : Nat} {x : Lkm} {wa : List Hd} {m : Mem0} (h : RkM n0 b x wa m) (hn : n1 ≤ n0) : RkM n1 b x wa m := by
  obtain ⟨adh, nh, caph, adw, nw, capw, bl, mh, mw, ml, rfl, hnh, hnw, hsh, hsw, hLe, hb⟩ := h
  exact ⟨adh, nh, caph, adw, nw, capw, bl, mh, mw, ml, rfl, hnh, hnw, hsh.mono hn, hsw.mono hn, hLe.mono hn, Nat.le_trans hn hb⟩
end Go.Eng
namespace Go.Eng
open Go Go.Proofs Go.RowKit
def strk (p : Int) : Nat → List Wt → List Wt
  | _, [] => []
  | n, w :: l => if w.key = p ∧ 0 < n then strk p (n - 1) l else w :: strk p n l
theorem strk_zero (p : Int) : ∀ l, strk p 0 l = l
  | [] => rfl
  | w :: l => by
    show (if w.key = p ∧ 0 < 0 then _ else w :: strk p 0 l) = _
    rw [if_neg (fun q => absurd q.2 (Nat.lt_irrefl 0)), strk_zero p l]
theorem rmA_cons {w : Wt} {L : List Wt} : ∀ {os : List Int}, w.who ∉ os → rmA (w :: L) os = w :: rmA L os := by
  intro os
  unfold rmA
  induction os generalizing L with
  | nil => intro _; rfl
  | cons t os ih =>
    intro h
    rw [List.foldl_cons, List.foldl_cons]
    have e : rmW (w :: L) t = w :: rmW L t := by
      unfold rmW; rw [List.filter_cons_of_pos (by simpa using fun q => h (by rw [q]; exact List.mem_cons_self ..))]
    rw [e]; exact ih (fun q => h (List.mem_cons_of_mem _ q))
theorem LF_cons_pos {w : Wt} {l : List Wt} {p : Int} (h : w.key = p) : LF (w :: l) p = w :: LF l p := by
  unfold LF; rw [List.filter_cons_of_pos (by simpa using h)]
theorem LF_cons_neg {w : Wt} {l : List Wt} {p : Int} (h : w.key ≠ p) : LF (w :: l) p = LF l p := by
  unfold LF; rw [List.filter_cons_of_neg (by simpa using h)]
theorem strk_eq (p : Int) : ∀ (L : List Wt) (n : Nat), Wd1 L → strk p n L = rmA L (((LF L p).take n).map (·.who))
  | [], n, _ => by
    show [] = rmA [] _
    have : LF [] p = [] := rfl
    rw [this, List.take_nil]; rfl
  | w :: l, n, h => by
    show (if w.key = p ∧ 0 < n then strk p (n - 1) l else w :: strk p n l) = _
    have hl := (List.pairwise_cons.1 h).2
    have hw := (List.pairwise_cons.1 h).1
    by_cases c : w.key = p
    · by_cases c2 : 0 < n
      · rw [if_pos ⟨c, c2⟩, LF_cons_pos c, strk_eq p l _ hl]
        obtain ⟨m, rfl⟩ : ∃ m, n = m + 1 := ⟨n - 1, by omega⟩
        rw [Nat.add_sub_cancel, List.take_succ_cons, List.map_cons]
        show _ = rmA (rmW (w :: l) w.who) _
        rw [rm_head h]
      · rw [if_neg (fun q => c2 q.2), show n = 0 by omega, strk_zero, List.take_zero]; rfl
    · rw [if_neg (fun q => c q.1), LF_cons_neg c, strk_eq p l _ hl, rmA_cons]
      intro q
      obtain ⟨z, hz, e⟩ := List.mem_map.1 q
      exact hw z (LF_mem.1 (List.mem_of_mem_take hz)).1 e.symm
theorem strk_skip {p : Int} {w : Wt} {l : List Wt} {n : Nat} (h : w.key ≠ p ∨ n = 0) : strk p n (w :: l) = w :: strk p n l := if_neg (fun q => by rcases h with h | h; exact h q.1; omega)
theorem strk_hit {p : Int} {w : Wt} {l : List Wt} {n : Nat} (h : w.key = p) (hn : 0 < n) : strk p n (w :: l) = strk p (n - 1) l := if_pos ⟨h, hn⟩
structure GrI (x : Lkm) (p : Int) (n : Nat) (al : Bool) (dn rs : List Wt) (os : List Int) : Prop where
  a : dn ++ strk p (n - os.length) rs = rmA x.wt (admL x p n)
  b : os ++ ((LF rs p).take (n - os.length)).map (·.who) = admL x p n
  c : al = true → os.length + rs.length ≤ 8
  d : dn.length + rs.length + os.length = x.wt.length
theorem GrI.skip {x : Lkm} {p : Int} {n : Nat} {al : Bool} {dn rs : List Wt} {os : List Int} {w : Wt} (h : GrI x p n al dn (w :: rs) os) (hs : w.key ≠ p ∨ n - os.length = 0) : GrI x p n al (dn ++ [w]) rs os := by
  refine ⟨?_, ?_, fun q => ?_, ?_⟩
  · rw [← h.a, strk_skip hs]; simp
  · rw [← h.b]
    rcases hs with hs | hs
    · rw [LF_cons_neg hs]
    · rw [hs, List.take_zero, List.take_zero]
  · have := h.c q; simp at this; omega
  · have := h.d; simp at this ⊢; omega
end Go.Eng
namespace Go.Eng
open Go Go.RowKit
theorem strk_len (p : Int) : ∀ (L : List Wt) (n : Nat), (strk p n L).length + ((LF L p).take n).length = L.length
  | [], n => by
    have : LF [] p = [] := rfl
    rw [this, List.take_nil]; rfl
  | w :: l, n => by
    by_cases c : w.key = p
    · by_cases c2 : 0 < n
      · rw [strk_hit c c2, LF_cons_pos c]
        obtain ⟨m, rfl⟩ : ∃ m, n = m + 1 := ⟨n - 1, by omega⟩
        have := strk_len p l m
        rw [Nat.add_sub_cancel, List.take_succ_cons, List.length_cons, List.length_cons]; omega
      · rw [show n = 0 by omega, strk_zero, List.take_zero]; rfl
    · rw [strk_skip (.inl c), LF_cons_neg c]
      have := strk_len p l n
      rw [List.length_cons, List.length_cons]; omega
theorem adm_sum {x : Lkm} (h : Wd1 x.wt) (p : Int) (n : Nat) : (admX x p n).ho.length + (admX x p n).wt.length = x.ho.length + x.wt.length := by
  rw [admX_form]
  show (x.ho ++ _).length + (rmA x.wt (admL x p n)).length = _
  rw [List.length_append, grH_len]
  have := strk_len p x.wt n
  rw [strk_eq p _ _ h] at this
  have e : (admL x p n).length = ((LF x.wt p).take n).length := by unfold admL; rw [List.length_map]
  have e2 : admL x p n = ((LF x.wt p).take n).map (·.who) := rfl
  rw [← e2, ← e] at this
  omega
structure LkB (k : Nat) (x : Lkm) : Prop where
  hl : x.ho.length + x.wt.length ≤ k
  hh : ∀ p, p < x.ld.l.length → 0 ≤ (gP x.ld.l p).h ∧ (gP x.ld.l p).h ≤ k
  tu : 0 ≤ x.tr.u
theorem LkB.mono {k k' : Nat} {x : Lkm} (h : LkB k x) (hk : k ≤ k') : LkB k' x := ⟨Nat.le_trans h.hl hk, fun p hp => by have := h.hh p hp; omega, h.tu⟩
theorem ldSet_h {x : Ldm} {s : BitVec 64} {p : Nat} (hp : p < x.l.length) : (gP (ldSet x s).l p).h = (gP x.l p).h := by
  show (gP (stL x s x.l.length) p).h = _
  rw [stL_get hp, if_pos hp]; rfl
theorem LkB.settle {k : Nat} {x : Lkm} (h : LkB k x) : LkB k (settleX x) :=
  ⟨h.hl, fun p hp => by have hp2 : p < x.ld.l.length := by rw [← ldSet_len]; exact hp
                        show 0 ≤ (gP (ldSet x.ld _).l p).h ∧ _
                        rw [show (settleX x).ld = ldSet x.ld (actS x) from rfl, ldSet_h hp2]; exact h.hh p hp2, h.tu⟩
theorem LkB.adm {k : Nat} {x : Lkm} (h : LkB k x) (hw : Wd1 x.wt) (p : Int) (n : Nat) : LkB k (admX x p n) := by
  have e := adm_sum hw p n
  have e1 : (admX x p n).ld = x.ld := by rw [admX_form]
  have e2 : (admX x p n).tr = x.tr := by rw [admX_form]
  exact ⟨by rw [e]; exact h.hl, by rw [e1]; exact h.hh, by rw [e2]; exact h.tu⟩
theorem next_u {t : Trn} {sl : Int} {s : BitVec 64} {le : Int} (h : 0 ≤ t.u) : 0 ≤ (nextT t sl s le).u := by unfold nextT; split; exact h; exact Int.le_refl _
theorem spend_u {t : Trn} (h : 0 ≤ t.u) : 0 ≤ (spendT t).u := by unfold spendT; split; show 0 ≤ t.u + 1; omega; exact h
theorem end_u {t : Trn} {sl : Int} (h : 0 ≤ t.u) : 0 ≤ (endT t sl).u := by
  unfold endT; split
  · have := bring_in (n := sl) (show (1 : Int) ≤ 16 by decide); show 0 ≤ bringO sl 1 16; omega
  · exact h
theorem LkB.pass {k : Nat} {x : Lkm} (h : LkB k x) (hw : Wd1 x.wt) : LkB k (passX x) := by
  unfold passX; split
  · exact h
  · exact LkB.adm (x := turnX x) ⟨h.hl, h.hh, next_u h.tu⟩ hw _ _
theorem LkB.take {k : Nat} {x : Lkm} (h : LkB k x) (t p : Int) : LkB (k + 1) (takeX x t p) := by
  unfold takeX; split
  · exact h.mono om
  · obtain ⟨e1, e2, e3, e4, e5, e6⟩ := first_core x p
    refine LkB.settle ⟨?_, ?_, ?_⟩
    · show ((firstX x p).ho ++ [_]).length + (firstX x p).wt.length ≤ _
      rw [e2, e3, List.length_append, List.length_singleton]; have := h.hl; omega
    · show ∀ q, q < (firstX x p).ld.l.length → 0 ≤ (gP (firstX x p).ld.l q).h ∧ (gP (firstX x p).ld.l q).h ≤ ((k + 1 : Nat) : Int)
      rw [e4]; exact (h.mono (Nat.le_succ k)).hh
    · show 0 ≤ (firstX x p).tr.u
      unfold firstX; split; exact Int.le_refl _; exact h.tu
theorem LkB.wait {k : Nat} {x : Lkm} (h : LkB k x) (t p : Int) : LkB (k + 1) (waitX x t p) := by
  unfold waitX; split
  · exact h.mono om
  · refine LkB.settle ⟨?_, (h.mono (Nat.le_succ k)).hh, h.tu⟩
    show x.ho.length + (x.wt ++ [_]).length ≤ _
    rw [List.length_append, List.length_singleton]; have := h.hl; omega
theorem LkB.unl {k : Nat} {x : Lkm} (h : LkB k x) (hw : Wd1 x.wt) (t : Int) : LkB k (unlX x t) := by
  unfold unlX; split
  · have ho : LkB k (outX x t) := ⟨by show (x.ho.eraseIdx _).length + _ ≤ k; have := List.Sublist.length_le (List.eraseIdx_sublist x.ho (hix x.ho t)); have := h.hl; show _ + x.wt.length ≤ k; omega, h.hh, h.tu⟩
    refine LkB.settle ?_
    split
    · exact ho.pass hw
    · exact ho
  · exact h
theorem LkB.lv {k : Nat} {x : Lkm} (h : LkB k x) (hw : Wd1 x.wt) (t : Int) : LkB k (lvX x t) := by
  unfold lvX; split
  · have hg : LkB k (goneX x t) := ⟨by show x.ho.length + (rmW x.wt t).length ≤ k; have : (rmW x.wt t).length ≤ x.wt.length := List.length_filter_le _ _; have := h.hl; omega, h.hh, h.tu⟩
    refine LkB.settle ?_
    split
    · exact hg.adm (wd_rm hw t) _ _
    · exact hg
  · exact h
theorem LkB.die {k : Nat} {x : Lkm} (h : LkB k x) (hw : Wd1 x.wt) (t : Int) : LkB k (diX x t) := by
  unfold diX; split
  · exact h.lv hw t
  · split
    · exact LkB.unl (x := { x with di := true }) ⟨h.hl, h.hh, h.tu⟩ hw t
    · exact h
theorem LkB.chg {k : Nat} {x : Lkm} (h : LkB k x) (t : Int) : LkB (k + 1) (chgX x t) := by
  unfold chgX; split
  · refine LkB.settle ⟨Nat.le_succ_of_le h.hl, fun q hq => ?_, spend_u h.tu⟩
    generalize (x.ho.getD (hix x.ho t) default).p.toNat = pp at hq ⊢
    have hq2 : q < x.ld.l.length := by
      have : q < (x.ld.l.set pp (chgP (gP x.ld.l pp))).length := hq
      rw [List.length_set] at this; exact this
    show 0 ≤ (gP (x.ld.l.set pp (chgP (gP x.ld.l pp))) q).h ∧ (gP (x.ld.l.set pp (chgP (gP x.ld.l pp))) q).h ≤ _
    by_cases hp : pp < x.ld.l.length
    · rw [gP_set hp]
      split
      · rename_i e; subst e
        have := h.hh q hq2
        show 0 ≤ (gP x.ld.l q).h + 1 ∧ (gP x.ld.l q).h + 1 ≤ _
        omega
      · have := h.hh q hq2; omega
    · rw [List.set_eq_of_length_le om]; have := h.hh q hq2; omega
  · exact h.mono om
theorem LkB.wei {k : Nat} {x : Lkm} (h : LkB k x) (g wt : Int) : LkB k (weiX x g wt) := by
  unfold weiX; split
  · refine LkB.settle ⟨h.hl, fun q hq => ?_, by show 0 ≤ (if _ then _ else _ : Trn).u; split; exact end_u h.tu; exact h.tu⟩
    have hq2 : q < x.ld.l.length := by
      have : q < (x.ld.l.set g.toNat (weiP x.ld (gP x.ld.l g.toNat) wt)).length := hq
      rw [List.length_set] at this; exact this
    show 0 ≤ (gP (x.ld.l.set g.toNat (weiP x.ld (gP x.ld.l g.toNat) wt)) q).h ∧ (gP (x.ld.l.set g.toNat (weiP x.ld (gP x.ld.l g.toNat) wt)) q).h ≤ _
    by_cases hp : g.toNat < x.ld.l.length
    · rw [gP_set hp]
      split
      · rename_i e; subst e
        have := h.hh _ hq2
        unfold weiP; split
        · exact this
        · exact this
      · exact h.hh q hq2
    · rw [List.set_eq_of_length_le om]; exact h.hh q hq2
  · exact h
theorem lkNew_b (d : LDf) (gs : List Int) : LkB 0 (lkNew d gs) := by
  refine ⟨Nat.le_refl _, fun p hp => ?_, Int.le_refl _⟩
  have : ∀ q ∈ (ldNew (lkWs d gs) (bringO d.sl 1 16) d.cr).l, q.h = 0 := fun q hq => by
    unfold ldNew at hq
    obtain ⟨w, _, rfl⟩ := List.mem_map.1 hq; rfl
  have h2 := this (gP (lkNew d gs).ld.l p) (by unfold gP; rw [List.getD_eq_getElem?_getD, List.getElem?_eq_getElem hp]; exact List.getElem_mem _)
  rw [h2]; exact ⟨Int.le_refl _, Int.le_refl _⟩
theorem LkM.tmono {n0 T T' b : Nat} {x : Lkm} {od : List Int} {m : Mem0} (h : LkM n0 T b x od m) (hT : T ≤ T') : LkM n0 T' b x od m := by
  obtain ⟨adh, nh, caph, ado, nd, capo, bq, bl, mh, mo, mq, ml, rfl, hnh, hnd, hsh, hso, hTb, hLe, hb⟩ := h
  exact ⟨adh, nh, caph, ado, nd, capo, bq, bl, mh, mo, mq, ml, rfl, hnh, hnd, hsh, hso, hTb.tmono hT, hLe, hb⟩
def vN (x : Ldm) (p : Nat) : Nat := (gP x.l p).v.toNat
def cN (x : Ldm) (p : Nat) : Nat := (lockO (gP x.l p).w).toNat
theorem lock_mul {w : Int} (h : 1 ≤ w ∧ w ≤ 16) : w.toNat * (lockO w).toNat = 720720 := by
  obtain ⟨n, hn, h1, h2⟩ : ∃ n : Nat, w = n ∧ 1 ≤ n ∧ n ≤ 16 := ⟨w.toNat, by omega, by omega, by omega⟩
  subst hn
  have : ∀ n : Fin 17, 1 ≤ n.val → ((n.val : Int).toNat * (lockO (n.val : Int)).toNat = 720720) := by decide
  exact this ⟨n, by omega⟩ h1
theorem lock_le {w : Int} (h : 1 ≤ w ∧ w ≤ 16) : (lockO w).toNat ≤ 720720 := by
  have h1 := lock_mul h
  have : 1 ≤ w.toNat := by omega
  calc (lockO w).toNat = 1 * (lockO w).toNat := by rw [Nat.one_mul]
    _ ≤ w.toNat * (lockO w).toNat := Nat.mul_le_mul_right _ this
    _ = 720720 := h1
theorem slack_nat {w s c : Int} (hw : 1 ≤ w ∧ w ≤ 16) (hs : 1 ≤ s ∧ s ≤ 32) (hc : 1 ≤ c ∧ c ≤ 32) : (slackO w s c).toNat = (lockO w).toNat * (s.toNat + c.toNat) := by
  unfold slackO
  rw [bring_id hs, bring_id hc, BitVec.toNat_mul, BitVec.toNat_add, ofInt_nat om om, ofInt_nat om om]
  have h1 := lock_le hw
  rw [Nat.mod_eq_of_lt (a := s.toNat + c.toNat) om]
  refine Nat.mod_eq_of_lt ?_
  have : (lockO w).toNat * (s.toNat + c.toNat) ≤ 720720 * 64 := Nat.mul_le_mul h1 om
  omega
theorem clamp_max (v fl r : BitVec 64) : (clampO v fl r).toNat ≤ max v.toNat fl.toNat := by
  unfold clampO; split
  · omega
  · split <;> omega
structure StF (x z : Ldm) (s : BitVec 64) (S C : Nat) : Prop where
  len : z.l.length = x.l.length
  sl : z.sl = x.sl
  cr : z.cr = x.cr
  fl : x.fl.toNat ≤ z.fl.toNat
  ac : ∀ p, p < x.l.length → (gP z.l p).a = s.getLsbD p
  ww : ∀ p, p < x.l.length → (gP z.l p).w = (gP x.l p).w ∧ (gP z.l p).h = (gP x.l p).h
  same : ∀ p, p < x.l.length → ((gP x.l p).a = true ∨ s.getLsbD p = false) → vN z p = vN x p
  new : ∀ p, p < x.l.length → s.getLsbD p = true → (gP x.l p).a = false → x.fl.toNat ≤ vN z p ∧ vN z p ≤ x.fl.toNat + cN x p * (S + C)
  low : ∀ p, p < x.l.length → s.getLsbD p = true → x.fl.toNat ≤ vN z p → z.fl.toNat ≤ vN z p
  top : ∀ q, q < x.l.length → s.getLsbD q = true → (∀ p, p < x.l.length → s.getLsbD p = true → vN z q ≤ vN z p) → vN z q ≤ z.fl.toNat
  bd : ∀ K, (∀ p, p < x.l.length → vN x p ≤ K) → x.fl.toNat ≤ K → (∀ p, p < x.l.length → vN z p ≤ K) ∧ z.fl.toNat ≤ K
theorem set_f {x : Ldm} (s : BitVec 64) {S C : Nat} (hs : x.sl = S) (hc : x.cr = C) (hS : 1 ≤ S ∧ S ≤ 32) (hC : 1 ≤ C ∧ C ≤ 32) (hw : ∀ p, p < x.l.length → 1 ≤ (gP x.l p).w ∧ (gP x.l p).w ≤ 16) : StF x (ldSet x s) s S C := by
  have hg : ∀ p, p < x.l.length → gP (ldSet x s).l p = newP x (s.getLsbD p) (gP x.l p) := fun p hp => by
    show gP (stL x s x.l.length) p = _
    rw [stL_get hp, if_pos hp]
  have hv : ∀ p, p < x.l.length → vN (ldSet x s) p = if s.getLsbD p = true ∧ (gP x.l p).a = false then (clampO (gP x.l p).v x.fl (slackO (gP x.l p).w x.sl x.cr)).toNat else vN x p := fun p hp => by
    unfold vN; rw [hg p hp]
    show (if s.getLsbD p = true ∧ (gP x.l p).a = false then _ else (gP x.l p).v).toNat = _
    split <;> rfl
  have hfl : (ldSet x s).fl = if leastN (ldSet x s).l s x.l.length < 0 then x.fl else maxO x.fl (gP (ldSet x s).l (leastN (ldSet x s).l s x.l.length).toNat).v := rfl
  have hmax : ∀ a b : BitVec 64, (maxO a b).toNat = max a.toNat b.toNat := fun a b => by unfold maxO; split <;> omega
  have hlr := least_in (ldSet x s).l s x.l.length
  refine ⟨ldSet_len x s, rfl, rfl, ?_, fun p hp => by rw [hg p hp]; rfl, fun p hp => by rw [hg p hp]; exact ⟨rfl, rfl⟩, ?_, ?_, ?_, ?_, ?_⟩
  · rw [hfl]; split
    · exact Nat.le_refl _
    · rw [hmax]; omega
  · intro p hp h
    rw [hv p hp, if_neg (fun q => by rcases h with h | h; rw [h] at q; cases q.2; rw [h] at q; cases q.1)]
  · intro p hp h1 h2
    rw [hv p hp, if_pos ⟨h1, h2⟩]
    have e := slack_nat (hw p hp) (s := x.sl) (c := x.cr) om om
    have e2 : x.sl.toNat + x.cr.toNat = S + C := by omega
    rw [e2] at e
    have := clamp_le (gP x.l p).v x.fl (slackO (gP x.l p).w x.sl x.cr)
    rw [e] at this
    exact ⟨clamp_ge _ _ _, this⟩
  · intro p hp h1 h2
    rw [hfl]; split
    · exact h2
    · rename_i c
      rw [hmax]
      have := (least_le (l := (ldSet x s).l) (s := s) (k := x.l.length) p hp h1).2
      have e : (gP (ldSet x s).l p).v.toNat = vN (ldSet x s) p := rfl
      omega
  · intro q hq h1 h2
    rw [hfl]
    have h3 := least_le (l := (ldSet x s).l) (s := s) (k := x.l.length) q hq h1
    rw [if_neg om, hmax]
    have h4 := least_mem (ldSet x s).l s x.l.length h3.1
    have h5 := h2 (leastN (ldSet x s).l s x.l.length).toNat om h4
    have e : (gP (ldSet x s).l (leastN (ldSet x s).l s x.l.length).toNat).v.toNat = vN (ldSet x s) (leastN (ldSet x s).l s x.l.length).toNat := rfl
    omega
  · intro K hK hF
    have hvK : ∀ p, p < x.l.length → vN (ldSet x s) p ≤ K := fun p hp => by
      rw [hv p hp]; split
      · have := clamp_max (gP x.l p).v x.fl (slackO (gP x.l p).w x.sl x.cr); have := hK p hp; unfold vN at this; omega
      · exact hK p hp
    refine ⟨hvK, ?_⟩
    rw [hfl]; split
    · exact hF
    · rw [hmax]
      have := hvK (leastN (ldSet x s).l s x.l.length).toNat om
      have e : (gP (ldSet x s).l (leastN (ldSet x s).l s x.l.length).toNat).v.toNat = vN (ldSet x s) (leastN (ldSet x s).l s x.l.length).toNat := rfl
      omega
structure LkF (S C tk K : Nat) (x : Lkm) : Prop where
  w : LkW x
  sh : x.sh = false
  sl : x.sl = S
  lsl : x.ld.sl = S
  lcr : x.ld.cr = C
  rS : 1 ≤ S ∧ S ≤ 16
  rC : 1 ≤ C ∧ C ≤ 32
  wt : ∀ p, p < x.ld.l.length → 1 ≤ (gP x.ld.l p).w ∧ (gP x.ld.l p).w ≤ 16
  ac : ∀ p, p < x.ld.l.length → (gP x.ld.l p).a = (actS x).getLsbD p
  i1 : ∀ p, p < x.ld.l.length → (gP x.ld.l p).a = true → x.ld.fl.toNat ≤ vN x.ld p ∧ vN x.ld p ≤ x.ld.fl.toNat + cN x.ld p * (S + C)
  i2 : ∀ h ∈ x.ho, vN x.ld h.p.toNat ≤ x.ld.fl.toNat + cN x.ld h.p.toNat * (S + tk)
  i3 : ∀ h ∈ x.ho, x.tr.p = h.p ∧ (x.tr.u < S → vN x.ld h.p.toNat ≤ x.ld.fl.toNat + cN x.ld h.p.toNat * x.tr.u.toNat)
  u0 : 0 ≤ x.tr.u
  tk : tk ≤ C
  bd : ∀ p, p < x.ld.l.length → vN x.ld p ≤ K
  bf : x.ld.fl.toNat ≤ K
theorem act_get (x : Lkm) (p : Nat) : (actS x).getLsbD p = (decide (p < 64) && ((x.wt.map (·.key)).any (fun k => decide (k = (p : Int))) || (x.ho.map (·.p)).any (fun k => decide (k = (p : Int))))) := by
  show (keyS (x.wt.map (·.key) ++ x.ho.map (·.p))).getLsbD p = _
  rw [keyS_get, List.any_append]
theorem act_ho {x : Lkm} (h : LkV x) {g : Hd} (hg : g ∈ x.ho) : g.p.toNat < x.ld.l.length ∧ ((g.p.toNat : Nat) : Int) = g.p ∧ (actS x).getLsbD g.p.toNat = true := by
  obtain ⟨i, hi, hil⟩ := isO_at (h.hk g hg)
  have h8 := h.l8
  refine ⟨by omega, by omega, ?_⟩
  rw [act_get, decide_eq_true om]
  have : (x.ho.map (·.p)).any (fun k => decide (k = ((g.p.toNat : Nat) : Int))) = true := by
    rw [List.any_eq_true]; exact ⟨g.p, List.mem_map.2 ⟨g, hg, rfl⟩, decide_eq_true om⟩
  rw [this]; simp
theorem act_inv {x : Lkm} {p : Nat} (h : (actS x).getLsbD p = true) : (∃ g ∈ x.wt, g.key = (p : Int)) ∨ ∃ g ∈ x.ho, g.p = (p : Int) := by
  rw [act_get, Bool.and_eq_true, Bool.or_eq_true] at h
  rcases h.2 with q | q
  · rw [List.any_eq_true] at q
    obtain ⟨k, hk, e⟩ := q
    obtain ⟨g, hg, rfl⟩ := List.mem_map.1 hk
    exact .inl ⟨g, hg, of_decide_eq_true e⟩
  · rw [List.any_eq_true] at q
    obtain ⟨k, hk, e⟩ := q
    obtain ⟨g, hg, rfl⟩ := List.mem_map.1 hk
    exact .inr ⟨g, hg, of_decide_eq_true e⟩
theorem LkF.of_set {S C tk tk' K K' : Nat} {x y : Lkm} (hx : LkF S C tk K x) (hw : LkW (settleX y)) (h1 : y.sh = false) (h2 : y.sl = S) (h3 : y.ld.sl = S) (h4 : y.ld.cr = C) (hwt : ∀ p, p < y.ld.l.length → 1 ≤ (gP y.ld.l p).w ∧ (gP y.ld.l p).w ≤ 16)
    (hi1 : ∀ p, p < y.ld.l.length → (gP y.ld.l p).a = true → y.ld.fl.toNat ≤ vN y.ld p ∧ vN y.ld p ≤ y.ld.fl.toNat + cN y.ld p * (S + C))
    (hi2 : ∀ z : Ldm, StF y.ld z (actS y) S C → ∀ h ∈ y.ho, vN z h.p.toNat ≤ z.fl.toNat + cN y.ld h.p.toNat * (S + tk'))
    (hi3 : ∀ z : Ldm, StF y.ld z (actS y) S C → ∀ h ∈ y.ho, y.tr.p = h.p ∧ (y.tr.u < S → vN z h.p.toNat ≤ z.fl.toNat + cN y.ld h.p.toNat * y.tr.u.toNat))
    (hu : 0 ≤ y.tr.u) (htk : tk' ≤ C) (hbd : ∀ p, p < y.ld.l.length → vN y.ld p ≤ K') (hbf : y.ld.fl.toNat ≤ K') : LkF S C tk' K' (settleX y) := by
  have hz : StF y.ld (ldSet y.ld (actS y)) (actS y) S C := set_f (actS y) h3 h4 (by have := hx.rS; omega) hx.rC hwt
  have hc : ∀ p, p < y.ld.l.length → cN (ldSet y.ld (actS y)) p = cN y.ld p := fun p hp => by unfold cN; rw [(hz.ww p hp).1]
  have hact : actS (settleX y) = actS y := rfl
  have hb2 := hz.bd K' hbd hbf
  have hlen : (ldSet y.ld (actS y)).l.length = y.ld.l.length := hz.len
  have hho : ∀ h ∈ y.ho, h.p.toNat < y.ld.l.length := fun h hh => by have := (act_ho hw.toLkV (g := h) hh).1; exact hlen ▸ this
  refine ⟨hw, h1, h2, h3, h4, hx.rS, hx.rC, fun p hp => ?_, fun p hp => ?_, fun p hp ha => ?_, fun h hh => ?_, fun h hh => ?_, hu, htk, fun p hp => ?_, hb2.2⟩
  · have hp2 : p < y.ld.l.length := hlen ▸ hp
    show 1 ≤ (gP (ldSet y.ld (actS y)).l p).w ∧ (gP (ldSet y.ld (actS y)).l p).w ≤ 16
    rw [(hz.ww p hp2).1]; exact hwt p hp2
  · have hp2 : p < y.ld.l.length := hlen ▸ hp
    rw [hact]; exact hz.ac p hp2
  · have hp2 : p < y.ld.l.length := hlen ▸ hp
    have ha2 : (actS y).getLsbD p = true := by rw [← hz.ac p hp2]; exact ha
    have key : y.ld.fl.toNat ≤ vN (ldSet y.ld (actS y)) p ∧ vN (ldSet y.ld (actS y)) p ≤ y.ld.fl.toNat + cN y.ld p * (S + C) := by
      cases hq : (gP y.ld.l p).a with
      | true => rw [hz.same p hp2 (.inl hq)]; exact hi1 p hp2 hq
      | false => exact hz.new p hp2 ha2 hq
    have h5 := hz.low p hp2 ha2 key.1
    have h6 := hz.fl
    show (ldSet y.ld (actS y)).fl.toNat ≤ vN (ldSet y.ld (actS y)) p ∧ vN (ldSet y.ld (actS y)) p ≤ (ldSet y.ld (actS y)).fl.toNat + cN (ldSet y.ld (actS y)) p * (S + C)
    rw [hc p hp2]
    omega
  · have := hi2 _ hz h hh
    show vN (ldSet y.ld (actS y)) h.p.toNat ≤ (ldSet y.ld (actS y)).fl.toNat + cN (ldSet y.ld (actS y)) h.p.toNat * (S + tk')
    rw [hc _ (hho h hh)]; exact this
  · have := hi3 _ hz h hh
    refine ⟨this.1, fun hu => ?_⟩
    show vN (ldSet y.ld (actS y)) h.p.toNat ≤ (ldSet y.ld (actS y)).fl.toNat + cN (ldSet y.ld (actS y)) h.p.toNat * y.tr.u.toNat
    rw [hc _ (hho h hh)]; exact this.2 hu
  · exact hb2.1 p (hlen ▸ hp)
theorem LkF.mono {S C tk tk' K K' : Nat} {x : Lkm} (h : LkF S C tk K x) (ht : tk ≤ tk') (htC : tk' ≤ C) (hK : K ≤ K') : LkF S C tk' K' x :=
  ⟨h.w, h.sh, h.sl, h.lsl, h.lcr, h.rS, h.rC, h.wt, h.ac, h.i1, fun g hg => Nat.le_trans (h.i2 g hg) (Nat.add_le_add_left (Nat.mul_le_mul_left _ om) _), h.i3, h.u0, htC, fun p hp => Nat.le_trans (h.bd p hp) hK, Nat.le_trans h.bf hK⟩
theorem pass_ne {x : Lkm} (h : ¬ x.wt.length = 0) : passL x = admL (turnX x) (turnX x).tr.p (passN x) ∧ passX x = admX (turnX x) (turnX x).tr.p (passN x) := ⟨if_neg h, if_neg h⟩
structure StP (x z : Lkm) : Prop where
  len : z.ld.l.length = x.ld.l.length
  ww : ∀ p, p < x.ld.l.length → (gP z.ld.l p).w = (gP x.ld.l p).w
  hv : ∀ p, p < x.ld.l.length → (gP x.ld.l p).a = true → ∃ k : Nat, (gP z.ld.l p).h = (gP x.ld.l p).h + k ∧ vN z.ld p = vN x.ld p + cN x.ld p * k
theorem StP.rfl (x : Lkm) : StP x x := ⟨Eq.refl _, fun _ _ => Eq.refl _, fun p _ _ => ⟨0, by simp, by simp⟩⟩
theorem StP.set {S C tk K : Nat} {x y : Lkm} (h : LkF S C tk K x) (e : y.ld = x.ld) : StP x (settleX y) := by
  have hz : StF x.ld (ldSet x.ld (actS y)) (actS y) S C := set_f (actS y) h.lsl h.lcr (by have := h.rS; omega) h.rC h.wt
  have el : (settleX y).ld = ldSet x.ld (actS y) := by show ldSet y.ld _ = _; rw [e]
  refine ⟨by rw [el]; exact hz.len, fun p hp => by rw [el]; exact (hz.ww p hp).1, fun p hp ha => ⟨0, ?_, ?_⟩⟩
  · rw [el, (hz.ww p hp).2]; simp
  · rw [el, hz.same p hp (.inl ha)]; simp
theorem LkF.keep {S C tk K : Nat} {x y : Lkm} (h : LkF S C tk K x) (hw : LkW (settleX y)) (e1 : y.sh = x.sh) (e2 : y.sl = x.sl) (e3 : y.ld = x.ld) (e4 : y.ho = x.ho) (e5 : y.tr = x.tr) : LkF S C tk K (settleX y) := by
  have hact : ∀ g ∈ x.ho, g.p.toNat < x.ld.l.length ∧ (gP x.ld.l g.p.toNat).a = true := fun g hg => by
    have := act_ho h.w.toLkV hg
    exact ⟨this.1, by rw [h.ac _ this.1]; exact this.2.2⟩
  refine h.of_set hw (e1.trans h.sh) (e2.trans h.sl) (by rw [e3]; exact h.lsl) (by rw [e3]; exact h.lcr) (by rw [e3]; exact h.wt) (by rw [e3]; exact h.i1) ?_ ?_ (by rw [e5]; exact h.u0) h.tk (by rw [e3]; exact h.bd) (by rw [e3]; exact h.bf)
  · rw [e3, e4]
    intro z hz g hg
    have hg2 := hact g hg
    rw [hz.same _ hg2.1 (.inl hg2.2)]
    have := h.i2 g hg; have := hz.fl; omega
  · rw [e3, e4, e5]
    intro z hz g hg
    have hg2 := hact g hg
    refine ⟨(h.i3 g hg).1, fun hu => ?_⟩
    rw [hz.same _ hg2.1 (.inl hg2.2)]
    have := (h.i3 g hg).2 hu; have := hz.fl; omega
theorem F_wait {S C tk K : Nat} {x : Lkm} (h : LkF S C tk K x) (t p : Int) : LkF S C tk K (waitX x t p) ∧ StP x (waitX x t p) ∧ (waitX x t p).ho = x.ho := by
  have hw := h.w.wait t p
  revert hw
  unfold waitX
  split
  · intro _; exact ⟨h, .rfl x, rfl⟩
  · intro hw; exact ⟨h.keep hw rfl rfl rfl rfl rfl, .set h rfl, rfl⟩
theorem F_lv {S C tk K : Nat} {x : Lkm} (h : LkF S C tk K x) (t : Int) : LkF S C tk K (lvX x t) ∧ StP x (lvX x t) ∧ (lvX x t).ho = x.ho := by
  have hw := h.w.lv t
  revert hw
  unfold lvX
  split
  · have hr : readO x = false := by unfold readO; rw [h.sh]; rfl
    rw [if_neg (fun q => by rw [hr] at q; cases q.1)]
    intro hw; exact ⟨h.keep hw rfl rfl rfl rfl rfl, .set h rfl, rfl⟩
  · intro _; exact ⟨h, .rfl x, rfl⟩
theorem may_p {t : Trn} {sl p : Int} (h : mayT t sl p = true) : t.p = p ∧ t.u < bringO sl 1 16 := by
  unfold mayT at h
  simp only [Bool.and_eq_true, decide_eq_true_eq] at h
  exact h.2
theorem F_take {S C tk K : Nat} {x : Lkm} (h : LkF S C tk K x) (t p : Int) : takeX x t p = x ∨ (LkF S C 0 K (takeX x t p) ∧ StP x (takeX x t p) ∧ x.ho.length = 0 ∧ (takeX x t p).ho.length = 1) := by
  have hw := h.w.take t p
  by_cases hE : takeE x t p ≠ 0
  · exact .inl (if_pos hE)
  · right
    have e : takeX x t p = settleX (holdX (firstX x p) t p) := if_neg hE
    have hE0 : takeE x t p = 0 := by simpa using hE
    unfold takeE at hE0
    by_cases c : comesE x t p ≠ 0
    · rw [if_pos c] at hE0; exact absurd hE0 c
    · rw [if_neg c] at hE0
      have hf : freeO x p = true := by
        apply Classical.byContradiction; intro q
        rw [if_neg q] at hE0; cases hE0
      obtain ⟨hip, hh⟩ := free_cases h.w.toLkV hf
      have h0 : x.ho.length = 0 := by
        rcases hh with q | ⟨_, q, _⟩
        · exact q
        · rw [h.sh] at q; cases q
      have hwt0 := List.eq_nil_of_length_eq_zero (h.w.em h0)
      have hho0 := List.eq_nil_of_length_eq_zero h0
      obtain ⟨e1, e2, e3, e4, e5, e6⟩ := first_core x p
      obtain ⟨q, hq, hql⟩ := isO_at hip
      have hl8 := h.w.l8
      rw [e] at hw ⊢
      have hact : ∀ r, (actS (holdX (firstX x p) t p)).getLsbD r = decide (r = q) := fun r => by
        rw [act_get]
        show (_ && (((firstX x p).wt.map (·.key)).any _ || (((firstX x p).ho ++ [(⟨t, p, (firstX x p).di⟩ : Hd)]).map (·.p)).any _)) = _
        rw [e3, e2, hwt0, hho0, hq]
        simp only [List.map_nil, List.any_nil, Bool.false_or, List.nil_append, List.map_cons, List.any_cons, Bool.or_false]
        by_cases z : r = q
        · subst z; simp; omega
        · rw [decide_eq_false z, decide_eq_false (show ¬ (q : Int) = (r : Int) by omega)]; simp
      have hin : ∀ (g : Hd), g ∈ (holdX (firstX x p) t p).ho → g.p.toNat = q ∧ g.p = p := fun g hg => by
        have : g ∈ (firstX x p).ho ++ [(⟨t, p, (firstX x p).di⟩ : Hd)] := hg
        rw [e2, hho0, List.nil_append, List.mem_singleton] at this
        rw [this]; exact ⟨by show p.toNat = q; omega, rfl⟩
      have htr : (firstX x p).tr.p = p ∧ 0 ≤ (firstX x p).tr.u := by
        unfold firstX
        split
        · exact ⟨rfl, Int.le_refl _⟩
        · rename_i c2
          have hm : mayT x.tr x.sl p = true := by
            cases hm : mayT x.tr x.sl p with
            | true => rfl
            | false => exact absurd ⟨h0, hm⟩ c2
          exact ⟨(may_p hm).1, h.u0⟩
      have top : ∀ z : Ldm, StF x.ld z (actS (holdX (firstX x p) t p)) S C → vN z q ≤ z.fl.toNat := fun z hz =>
        hz.top q hql (by rw [hact, decide_eq_true rfl]) (fun r hr hb => by rw [hact] at hb; have := of_decide_eq_true hb; rw [this]; exact Nat.le_refl _)
      have hld : (holdX (firstX x p) t p).ld = x.ld := e4
      refine ⟨h.of_set hw (by show (firstX x p).sh = _; rw [e1]; exact h.sh) (by show (firstX x p).sl = _; rw [e5]; exact h.sl) (by rw [hld]; exact h.lsl) (by rw [hld]; exact h.lcr) (by rw [hld]; exact h.wt) (by rw [hld]; exact h.i1) ?_ ?_ htr.2 (Nat.zero_le _) (by rw [hld]; exact h.bd) (by rw [hld]; exact h.bf), .set h hld, h0, ?_⟩
      · rw [hld]; intro z hz g hg
        rw [(hin g hg).1]; have := top z hz; omega
      · rw [hld]; intro z hz g hg
        refine ⟨htr.1.trans (hin g hg).2.symm, fun _ => ?_⟩
        rw [(hin g hg).1]; have := top z hz; omega
      · show ((firstX x p).ho ++ [_]).length = 1
        rw [e2, hho0]; rfl
theorem ho_one {S C tk K : Nat} {x : Lkm} (h : LkF S C tk K x) {t : Int} (ht : holdsO x t = true) : ∃ g, x.ho = [g] ∧ g.t = t ∧ hix x.ho t = 0 := by
  have h1 := h.w.ex h.sh
  have h2 := hat_in ht
  cases hx : x.ho with
  | nil => rw [hx] at h2; exact absurd h2.2.1 (Nat.not_lt_zero _)
  | cons g l =>
    rw [hx] at h1 h2
    have : l = [] := List.eq_nil_of_length_eq_zero (by simp at h1; simp [h1])
    subst this
    have h0 : hix [g] t = 0 := by have := h2.2.1; simp at this; exact this
    rw [h0] at h2
    exact ⟨g, rfl, h2.2.2, h0⟩
theorem F_unl {S C tk K : Nat} {x : Lkm} (h : LkF S C tk K x) (t : Int) : (holdsO x t = false ∧ unlX x t = x) ∨ (LkF S C 0 K (unlX x t) ∧ StP x (unlX x t)) := by
  cases ht : holdsO x t with
  | false => exact .inl ⟨rfl, if_neg (by rw [ht]; simp)⟩
  | true =>
    right
    obtain ⟨g, hg, hgt, hix0⟩ := ho_one h ht
    have hw := LkW.unl h.w.toLkV t h.w.em
    have ho0 : (outX x t).ho = [] := by show x.ho.eraseIdx (hix x.ho t) = []; rw [hix0, hg]; rfl
    have e : unlX x t = settleX (passX (outX x t)) := by unfold unlX; rw [if_pos ht, if_pos (by rw [ho0]; rfl)]
    rw [e] at hw ⊢
    have hv := h.w.toLkV.out t
    by_cases hwt : (outX x t).wt.length = 0
    · have ep : passX (outX x t) = outX x t := if_pos hwt
      rw [ep] at hw ⊢
      refine ⟨h.of_set hw h.sh h.sl h.lsl h.lcr h.wt h.i1 (fun z hz g hg => by rw [ho0] at hg; cases hg) (fun z hz g hg => by rw [ho0] at hg; cases hg) h.u0 (Nat.zero_le _) h.bd h.bf, .set h rfl⟩
    · obtain ⟨-, ep⟩ := pass_ne hwt
      obtain ⟨wk, hwk, hkey⟩ := turn_key hv hwt
      have hn1 : passN (outX x t) = 1 := if_neg (fun q => by rw [show (outX x t).sh = false from h.sh] at q; cases q.1)
      rw [ep, hn1, admX_form] at hw ⊢
      generalize hos : admL (turnX (outX x t)) (turnX (outX x t)).tr.p 1 = os at hw ⊢
      generalize htr : (turnX (outX x t)).tr = tr at hw hkey hos ⊢
      -- the party
      have hko := isO_at (hv.wk wk hwk)
      obtain ⟨q, hq, hql⟩ := hko
      have hqp : tr.p = (q : Int) := by rw [← hkey, hq]
      have hql2 : q < x.ld.l.length := hql
      have hl8 := h.w.l8
      have hwS : ∀ r, r < x.ld.l.length → (waitS (outX x t)).getLsbD r = true → (gP x.ld.l r).a = true := fun r hr hb => by
        rw [h.ac r hr, act_get, decide_eq_true om]
        have : (x.wt.map (·.key)).any (fun k => decide (k = (r : Int))) = true := by
          have h2 : (keyS (x.wt.map (·.key))).getLsbD r = true := hb
          rw [keyS_get, Bool.and_eq_true] at h2; exact h2.2
        rw [this]; rfl
      have hwq : (waitS (outX x t)).getLsbD q = true := by
        show (keyS (x.wt.map (·.key))).getLsbD q = true
        rw [keyS_get, decide_eq_true om, Bool.true_and, List.any_eq_true]
        exact ⟨wk.key, List.mem_map.2 ⟨wk, hwk, rfl⟩, decide_eq_true (by rw [hq])⟩
      have hqa := hwS q hql2 hwq
      -- y
      have hoy : ∀ g' ∈ [] ++ grH tr.p x.di os, g'.p = tr.p := fun g' hg' => grH_p (by simpa using hg')
      have hosw : ∀ o ∈ os, ∃ w ∈ x.wt, w.who = o ∧ w.key = tr.p := fun o ho => by
        rw [← hos] at ho
        exact admL_mem ho
      have hactw : ∀ (y : Lkm), y.wt = rmA x.wt os → y.ho = [] ++ grH tr.p x.di os → ∀ r, (actS y).getLsbD r = true → r < x.ld.l.length → (waitS (outX x t)).getLsbD r = true := fun y ew eh r hb hr => by
        show (keyS (x.wt.map (·.key))).getLsbD r = true
        rw [keyS_get, decide_eq_true om, Bool.true_and, List.any_eq_true]
        rcases act_inv hb with ⟨w, hw', e'⟩ | ⟨g', hg', e'⟩
        · rw [ew] at hw'
          exact ⟨w.key, List.mem_map.2 ⟨w, (rmA_mem.1 hw').1, rfl⟩, decide_eq_true e'⟩
        · rw [eh] at hg'
          have := hoy g' hg'
          exact ⟨wk.key, List.mem_map.2 ⟨wk, hwk, rfl⟩, decide_eq_true (by rw [hkey, ← this, e'])⟩
      have hturn : (tr = x.tr ∧ tr.u < S) ∨ (tr.u = 0 ∧ ∀ r, r < x.ld.l.length → (waitS (outX x t)).getLsbD r = true → vN x.ld q ≤ vN x.ld r) := by
        have htr2 : nextT x.tr x.sl (waitS (outX x t)) (leastN x.ld.l (waitS (outX x t)) x.ld.l.length) = tr := htr
        unfold nextT at htr2
        by_cases c : waitS (outX x t) = 0#64 ∨ (sHas (waitS (outX x t)) x.tr.p = true ∧ mayT x.tr x.sl x.tr.p = true)
        · rw [if_pos c] at htr2
          rcases c with c | c
          · exact absurd (hv.hws.1 c) hwt
          · have := (may_p c.2).2
            rw [h.sl, bring_id (by have := h.rS; omega)] at this
            exact .inl ⟨htr2.symm, by rw [← htr2]; exact this⟩
        · rw [if_neg c] at htr2
          refine .inr ⟨by rw [← htr2], fun r hr hb => ?_⟩
          have hle := least_le (l := x.ld.l) (s := waitS (outX x t)) (k := x.ld.l.length) r hr hb
          have : (leastN x.ld.l (waitS (outX x t)) x.ld.l.length).toNat = q := by
            have h5 : leastN x.ld.l (waitS (outX x t)) x.ld.l.length = (q : Int) := by rw [← hqp, ← htr2]
            omega
          rw [this] at hle
          exact hle.2
      have hu0 : 0 ≤ tr.u := by
        rcases hturn with q | q
        · rw [q.1]; exact h.u0
        · omega
      -- what it comes to
      have main : ∀ (y : Lkm), y.wt = rmA x.wt os → y.ho = [] ++ grH tr.p x.di os → y.tr = tr → y.ld = x.ld → y.sh = x.sh → y.sl = x.sl → LkW (settleX y) → LkF S C 0 K (settleX y) ∧ StP x (settleX y) := fun y ew eh et el es esl hwy => by
        have hval : ∀ z : Ldm, StF x.ld z (actS y) S C → vN z q = vN x.ld q := fun z hz => hz.same q hql2 (.inl hqa)
        have hbound : ∀ z : Ldm, StF x.ld z (actS y) S C → ∀ g' ∈ y.ho, vN z q ≤ z.fl.toNat + cN x.ld q * tr.u.toNat := fun z hz g' hg' => by
          rcases hturn with ⟨q1, q2⟩ | ⟨q1, q2⟩
          · have h3 := h.i3 g (by rw [hg]; exact List.mem_singleton.2 rfl)
            have hgq : g.p = (q : Int) := by rw [← h3.1, ← q1, hqp]
            have h4 := h3.2 (by rw [← q1]; exact q2)
            rw [hgq, Int.toNat_natCast] at h4
            rw [hval z hz, q1]; have := hz.fl; omega
          · have hyq : (actS y).getLsbD q = true := by
              have h9 := act_ho (x := settleX y) hwy.toLkV (g := g') hg'
              have : g'.p.toNat = q := by
                have := hoy g' (by rw [← eh]; exact hg')
                omega
              rw [this] at h9; exact h9.2.2
            have := hz.top q hql2 hyq (fun r hr hb => by
              have hwr := hactw y ew eh r hb hr
              have hra := hwS r hr hwr
              rw [hval z hz, hz.same r hr (.inl hra)]
              exact q2 r hr hwr)
            omega
        have hgp : ∀ g' ∈ y.ho, g'.p = tr.p ∧ g'.p.toNat = q := fun g' hg' => by
          have := hoy g' (by rw [← eh]; exact hg')
          exact ⟨this, by omega⟩
        refine ⟨h.of_set hwy (es.trans h.sh) (esl.trans h.sl) (by rw [el]; exact h.lsl) (by rw [el]; exact h.lcr) (by rw [el]; exact h.wt) (by rw [el]; exact h.i1) ?_ ?_ (by rw [et]; exact hu0) (Nat.zero_le _) (by rw [el]; exact h.bd) (by rw [el]; exact h.bf), .set h el⟩
        · rw [el]; intro z hz g' hg'
          rw [(hgp g' hg').2]
          have hb := hbound z hz g' hg'
          have hS := h.rS
          have : cN x.ld q * tr.u.toNat ≤ cN x.ld q * (S + 0) := Nat.mul_le_mul_left _ (by rcases hturn with ⟨_, q2⟩ | ⟨q1, _⟩ <;> omega)
          omega
        · rw [el, et]; intro z hz g' hg'
          refine ⟨(hgp g' hg').1.symm, fun _ => ?_⟩
          rw [(hgp g' hg').2]; exact hbound z hz g' hg'
      exact main _ rfl (by show (outX x t).ho ++ _ = _; rw [ho0]; rfl) rfl rfl rfl rfl hw
theorem F_die {S C tk K : Nat} {x : Lkm} (h : LkF S C tk K x) (t : Int) : (LkF S C tk K (diX x t) ∧ StP x (diX x t) ∧ (diX x t).ho = x.ho) ∨ (LkF S C 0 K (diX x t) ∧ StP x (diX x t)) := by
  unfold diX
  split
  · exact .inl (F_lv h t)
  · split
    · rename_i ht
      have h2 : LkF S C tk K { x with di := true } := ⟨h.w.core rfl rfl rfl rfl, h.sh, h.sl, h.lsl, h.lcr, h.rS, h.rC, h.wt, h.ac, h.i1, h.i2, h.i3, h.u0, h.tk, h.bd, h.bf⟩
      rcases F_unl h2 t with ⟨q, _⟩ | ⟨q1, q2⟩
      · rw [show holdsO { x with di := true } t = holdsO x t from rfl, ht] at q; cases q
      · exact .inr ⟨q1, ⟨q2.len, q2.ww, q2.hv⟩⟩
    · exact .inl ⟨h, .rfl x, rfl⟩
theorem F_chg {S C tk K : Nat} {x : Lkm} (h : LkF S C tk K x) (t : Int) (ht : holdsO x t = true) (hC : tk < C) (hK : K + 720720 < 18446744073709551616) : LkF S C (tk + 1) (K + 720720) (chgX x t) ∧ StP x (chgX x t) ∧ (chgX x t).ho = x.ho := by
  obtain ⟨g, hg, hgt, h0⟩ := ho_one h ht
  have hgm : g ∈ x.ho := by rw [hg]; exact List.mem_singleton.2 rfl
  obtain ⟨hgl, hgp, hgA⟩ := act_ho h.w.toLkV hgm
  have hga : (gP x.ld.l g.p.toNat).a = true := by rw [h.ac _ hgl]; exact hgA
  have hp : (x.ho.getD (hix x.ho t) default).p.toNat = g.p.toNat := by rw [h0, hg]; rfl
  have i2q := h.i2 g hgm
  have i3q := h.i3 g hgm
  have hall : ∀ g' ∈ x.ho, g' = g := fun g' hg' => by rw [hg, List.mem_singleton] at hg'; exact hg'
  generalize hq : g.p.toNat = q at *
  have e : chgX x t = settleX { x with ld := ldChg x.ld q, tr := spendT x.tr } := by unfold chgX; rw [if_pos ht, hp]
  have hw := h.w.chg t
  rw [e] at hw ⊢
  have hcl := lock_le (h.wt q hgl)
  have hvq := h.bd q hgl
  have hadd := addO_eq (a := (gP x.ld.l q).v) (b := lockO (gP x.ld.l q).w) (by unfold vN at hvq; omega)
  have hg1 : ∀ r, gP (ldChg x.ld q).l r = if r = q then chgP (gP x.ld.l q) else gP x.ld.l r := fun r => gP_set hgl
  have hlen : (ldChg x.ld q).l.length = x.ld.l.length := by show (x.ld.l.set _ _).length = _; rw [List.length_set]
  have hvN : ∀ r, vN (ldChg x.ld q) r = if r = q then vN x.ld q + cN x.ld q else vN x.ld r := fun r => by
    unfold vN cN; rw [hg1 r]
    by_cases c : r = q
    · rw [if_pos c, if_pos c]; exact hadd.2
    · rw [if_neg c, if_neg c]
  have hww : ∀ r, (gP (ldChg x.ld q).l r).w = (gP x.ld.l r).w ∧ (gP (ldChg x.ld q).l r).a = (gP x.ld.l r).a := fun r => by
    rw [hg1 r]
    by_cases c : r = q
    · rw [if_pos c, c]; exact ⟨rfl, rfl⟩
    · rw [if_neg c]; exact ⟨rfl, rfl⟩
  have hcN : ∀ r, cN (ldChg x.ld q) r = cN x.ld r := fun r => by unfold cN; rw [(hww r).1]
  have m1 : cN x.ld q * (S + tk) + cN x.ld q = cN x.ld q * (S + (tk + 1)) := (Nat.mul_succ _ _).symm
  have m2 : cN x.ld q * (S + (tk + 1)) ≤ cN x.ld q * (S + C) := Nat.mul_le_mul_left _ om
  have hcq : cN x.ld q ≤ 720720 := hcl
  have hz : StF (ldChg x.ld q) (ldSet (ldChg x.ld q) (actS { x with ld := ldChg x.ld q, tr := spendT x.tr })) (actS { x with ld := ldChg x.ld q, tr := spendT x.tr }) S C :=
    set_f _ h.lsl h.lcr (by have := h.rS; omega) h.rC (fun p hp => by rw [(hww p).1]; exact h.wt p (hlen ▸ hp))
  refine ⟨h.of_set hw h.sh h.sl h.lsl h.lcr ?_ ?_ ?_ ?_ (spend_u h.u0) om ?_ ?_, ⟨?_, ?_, ?_⟩, rfl⟩
  · intro p hp; rw [(hww p).1]; exact h.wt p (hlen ▸ hp)
  · intro p hp ha
    have i := h.i1 p (hlen ▸ hp) (by rw [← (hww p).2]; exact ha)
    show x.ld.fl.toNat ≤ vN (ldChg x.ld q) p ∧ vN (ldChg x.ld q) p ≤ x.ld.fl.toNat + cN (ldChg x.ld q) p * (S + C)
    rw [hvN, hcN]
    by_cases c : p = q
    · rw [if_pos c]; rw [c] at i ⊢; omega
    · rw [if_neg c]; exact i
  · intro z hz g' hg'
    rw [hall g' hg', hq, hz.same q (hlen.symm ▸ hgl) (.inl (by rw [(hww q).2]; exact hga)), hvN, if_pos rfl]
    show _ ≤ _ + cN (ldChg x.ld q) q * _
    rw [hcN]
    have : x.ld.fl.toNat ≤ z.fl.toNat := hz.fl
    omega
  · intro z hz g' hg'
    rw [hall g' hg', hq]
    refine ⟨by show (spendT x.tr).p = _; unfold spendT; split <;> exact i3q.1, fun hu => ?_⟩
    rw [hz.same q (hlen.symm ▸ hgl) (.inl (by rw [(hww q).2]; exact hga)), hvN, if_pos rfl]
    show _ ≤ _ + cN (ldChg x.ld q) q * (spendT x.tr).u.toNat
    rw [hcN]
    have hfl : x.ld.fl.toNat ≤ z.fl.toNat := hz.fl
    have hu2 : (spendT x.tr).u < S := hu
    have hS := h.rS
    have hu0 := h.u0
    unfold spendT at hu2 ⊢
    split at hu2
    · rename_i c
      rw [if_pos c]
      have hu3 : x.tr.u + 1 < S := hu2
      have i3' := i3q.2 om
      have m3 : cN x.ld q * x.tr.u.toNat + cN x.ld q = cN x.ld q * (x.tr.u + 1).toNat := by
        rw [show (x.tr.u + 1).toNat = x.tr.u.toNat + 1 by omega]; exact (Nat.mul_succ _ _).symm
      show _ ≤ _ + cN x.ld q * (x.tr.u + 1).toNat
      omega
    · rename_i c; omega
  · intro p hp
    rw [hvN]
    have := h.bd p (hlen ▸ hp)
    by_cases c : p = q
    · rw [if_pos c]; omega
    · rw [if_neg c]; omega
  · exact Nat.le_trans h.bf (Nat.le_add_right _ _)
  · exact hz.len.trans hlen
  · intro p hp; exact (hz.ww p (hlen.symm ▸ hp)).1.trans (hww p).1
  · intro p hp ha
    refine ⟨if p = q then 1 else 0, ?_, ?_⟩
    · refine (hz.ww p (hlen.symm ▸ hp)).2.trans ?_
      rw [hg1 p]
      by_cases c : p = q
      · rw [if_pos c, if_pos c, c]; rfl
      · rw [if_neg c, if_neg c]; simp
    · refine (hz.same p (hlen.symm ▸ hp) (.inl (by rw [(hww p).2]; exact ha))).trans ?_
      rw [hvN]
      by_cases c : p = q
      · rw [if_pos c, if_pos c, c, Nat.mul_one]
      · rw [if_neg c, if_neg c, Nat.mul_zero, Nat.add_zero]
theorem F_wei {S C tk K : Nat} {x : Lkm} (h : LkF S C tk K x) (p : Nat) (hp : p < x.ld.l.length) (w : Int) : LkF S C tk K (weiX x p w) ∧ (weiX x p w).ho = x.ho ∧ (weiX x p w).ld.l.length = x.ld.l.length ∧ ∀ r, r < x.ld.l.length → (gP (weiX x p w).ld.l r).w = if r = p then bringO w 1 16 else (gP x.ld.l r).w := by
  have hb : weiB x (p : Int) = true := by unfold weiB; rw [h.sh, isO_in hp]; rfl
  have hw := h.w.wei p w
  have e0 : weiX x p w = settleX { x with ld := ldWei x.ld p w, tr := if x.tr.p = (p : Int) ∧ (gP (ldWei x.ld p w).l p).w ≠ (gP x.ld.l p).w then endT x.tr x.sl else x.tr } := if_pos hb
  rw [e0] at hw ⊢
  have hbr := bring_in (n := w) (lo := 1) (hi := 16) om
  have hg1 : ∀ r, gP (ldWei x.ld p w).l r = if r = p then weiP x.ld (gP x.ld.l p) w else gP x.ld.l r := fun r => gP_set hp
  have hlen : (ldWei x.ld p w).l.length = x.ld.l.length := by show (x.ld.l.set _ _).length = _; rw [List.length_set]
  have hwP : (weiP x.ld (gP x.ld.l p) w).w = bringO w 1 16 := by
    unfold weiP; split
    · rename_i c; exact c.symm
    · rfl
  have haP : (weiP x.ld (gP x.ld.l p) w).a = (gP x.ld.l p).a := by unfold weiP; split <;> rfl
  have hww : ∀ r, (gP (ldWei x.ld p w).l r).w = if r = p then bringO w 1 16 else (gP x.ld.l r).w := fun r => by
    rw [hg1 r]
    by_cases c : r = p
    · rw [if_pos c, if_pos c]; exact hwP
    · rw [if_neg c, if_neg c]
  have haa : ∀ r, (gP (ldWei x.ld p w).l r).a = (gP x.ld.l r).a := fun r => by
    rw [hg1 r]
    by_cases c : r = p
    · rw [if_pos c, c]; exact haP
    · rw [if_neg c]
  have hwt : ∀ r, r < (ldWei x.ld p w).l.length → 1 ≤ (gP (ldWei x.ld p w).l r).w ∧ (gP (ldWei x.ld p w).l r).w ≤ 16 := fun r hr => by
    rw [hww r]; split
    · exact hbr
    · exact h.wt r (hlen ▸ hr)
  have hoth : ∀ r, r ≠ p → vN (ldWei x.ld p w) r = vN x.ld r ∧ cN (ldWei x.ld p w) r = cN x.ld r := fun r c => by
    unfold vN cN; rw [hg1 r, if_neg c]; exact ⟨rfl, rfl⟩
  -- the party itself: as it was, or from the floor up to a slice of its own
  have hself : ((gP (ldWei x.ld p w).l p).w = (gP x.ld.l p).w ∧ vN (ldWei x.ld p w) p = vN x.ld p ∧ cN (ldWei x.ld p w) p = cN x.ld p) ∨
      ((gP (ldWei x.ld p w).l p).w ≠ (gP x.ld.l p).w ∧ x.ld.fl.toNat ≤ vN (ldWei x.ld p w) p ∧ vN (ldWei x.ld p w) p ≤ x.ld.fl.toNat + cN (ldWei x.ld p w) p * S ∧ vN (ldWei x.ld p w) p ≤ max (vN x.ld p) x.ld.fl.toNat) := by
    unfold vN cN
    rw [hg1 p, if_pos rfl]
    by_cases c : bringO w 1 16 = (gP x.ld.l p).w
    · left
      rw [show weiP x.ld (gP x.ld.l p) w = gP x.ld.l p from if_pos c]
      exact ⟨rfl, rfl, rfl⟩
    · right
      rw [show weiP x.ld (gP x.ld.l p) w = { gP x.ld.l p with w := bringO w 1 16, v := clampO (gP x.ld.l p).v x.ld.fl (lockO (bringO w 1 16) * BitVec.ofInt 64 x.ld.sl) } from if_neg c]
      refine ⟨c, clamp_ge _ _ _, ?_, clamp_max _ _ _⟩
      show (clampO (gP x.ld.l p).v x.ld.fl (lockO (bringO w 1 16) * BitVec.ofInt 64 x.ld.sl)).toNat ≤ x.ld.fl.toNat + (lockO (bringO w 1 16)).toNat * S
      have hS := h.rS
      have h1 := lock_le hbr
      have hm : (lockO (bringO w 1 16) * BitVec.ofInt 64 x.ld.sl).toNat = (lockO (bringO w 1 16)).toNat * S := by
        rw [h.lsl, BitVec.toNat_mul, ofInt_nat om om, Int.toNat_natCast]
        refine Nat.mod_eq_of_lt ?_
        have : (lockO (bringO w 1 16)).toNat * S ≤ 720720 * 16 := Nat.mul_le_mul h1 hS.2
        omega
      rw [← hm]
      unfold clampO
      have ha := addO_le x.ld.fl (lockO (bringO w 1 16) * BitVec.ofInt 64 x.ld.sl)
      split
      · omega
      · split
        · exact ha
        · omega
  have hS := h.rS
  have hy : ∀ r, r < x.ld.l.length → (gP x.ld.l r).a = true → x.ld.fl.toNat ≤ vN (ldWei x.ld p w) r ∧ vN (ldWei x.ld p w) r ≤ x.ld.fl.toNat + cN (ldWei x.ld p w) r * (S + C) := fun r hr ha => by
    have i := h.i1 r hr ha
    by_cases c : r = p
    · subst c
      rcases hself with ⟨_, q1, q2⟩ | ⟨_, q1, q2, _⟩
      · rw [q1, q2]; exact i
      · have : cN (ldWei x.ld r w) r * S ≤ cN (ldWei x.ld r w) r * (S + C) := Nat.mul_le_mul_left _ om
        omega
    · rw [(hoth r c).1, (hoth r c).2]; exact i
  have hact : ∀ g ∈ x.ho, g.p.toNat < x.ld.l.length ∧ (gP x.ld.l g.p.toNat).a = true ∧ ((g.p.toNat : Nat) : Int) = g.p := fun g hg => by
    have := act_ho h.w.toLkV hg
    exact ⟨this.1, by rw [h.ac _ this.1]; exact this.2.2, this.2.1⟩
  have hz : StF (ldWei x.ld p w) (ldSet (ldWei x.ld p w) (actS { x with ld := ldWei x.ld p w, tr := if x.tr.p = (p : Int) ∧ (gP (ldWei x.ld p w).l p).w ≠ (gP x.ld.l p).w then endT x.tr x.sl else x.tr })) (actS { x with ld := ldWei x.ld p w, tr := if x.tr.p = (p : Int) ∧ (gP (ldWei x.ld p w).l p).w ≠ (gP x.ld.l p).w then endT x.tr x.sl else x.tr }) S C :=
    set_f _ h.lsl h.lcr om h.rC hwt
  refine ⟨h.of_set hw h.sh h.sl h.lsl h.lcr hwt ?_ ?_ ?_ ?_ h.tk ?_ h.bf, rfl, ?_, ?_⟩
  · intro r hr ha
    exact hy r (hlen ▸ hr) (by rw [← haa r]; exact ha)
  · intro z hz g hg
    have hg2 := hact g hg
    have hfl : x.ld.fl.toNat ≤ z.fl.toNat := hz.fl
    rw [hz.same _ (hlen.symm ▸ hg2.1) (.inl (by rw [haa]; exact hg2.2.1))]
    show vN (ldWei x.ld p w) _ ≤ _ + cN (ldWei x.ld p w) _ * _
    have i := h.i2 g hg
    by_cases c : g.p.toNat = p
    · rw [c] at i ⊢
      rcases hself with ⟨_, q1, q2⟩ | ⟨_, q1, q2, _⟩
      · rw [q1, q2]; omega
      · have : cN (ldWei x.ld p w) p * S ≤ cN (ldWei x.ld p w) p * (S + tk) := Nat.mul_le_mul_left _ om
        omega
    · rw [(hoth _ c).1, (hoth _ c).2]; omega
  · intro z hz g hg
    have hg2 := hact g hg
    have i := h.i3 g hg
    have hfl : x.ld.fl.toNat ≤ z.fl.toNat := hz.fl
    refine ⟨?_, fun hu => ?_⟩
    · show (if _ then endT x.tr x.sl else x.tr : Trn).p = _
      split
      · unfold endT; split <;> exact i.1
      · exact i.1
    · rw [hz.same _ (hlen.symm ▸ hg2.1) (.inl (by rw [haa]; exact hg2.2.1))]
      show _ ≤ _ + cN (ldWei x.ld p w) _ * (if _ then endT x.tr x.sl else x.tr : Trn).u.toNat
      by_cases c : x.tr.p = (p : Int) ∧ (gP (ldWei x.ld p w).l p).w ≠ (gP x.ld.l p).w
      · exfalso
        have hu2 : (if x.tr.p = (p : Int) ∧ (gP (ldWei x.ld p w).l p).w ≠ (gP x.ld.l p).w then endT x.tr x.sl else x.tr : Trn).u < S := hu
        rw [if_pos c, h.sl] at hu2
        unfold endT at hu2
        rw [bring_id om] at hu2
        split at hu2
        · exact absurd hu2 (Int.lt_irrefl _)
        · rename_i c2; exact c2 hu2
      · have hu2 : (if x.tr.p = (p : Int) ∧ (gP (ldWei x.ld p w).l p).w ≠ (gP x.ld.l p).w then endT x.tr x.sl else x.tr : Trn).u < S := hu
        rw [if_neg c] at hu2 ⊢
        have j := i.2 hu2
        by_cases c2 : g.p.toNat = p
        · rw [c2] at j ⊢
          rcases hself with ⟨_, q1, q2⟩ | ⟨q0, _⟩
          · rw [q1, q2]; omega
          · exact absurd ⟨by rw [i.1, ← hg2.2.2, c2], q0⟩ c
        · rw [(hoth _ c2).1, (hoth _ c2).2]; omega
  · show 0 ≤ (if _ then endT x.tr x.sl else x.tr : Trn).u
    split
    · exact end_u h.u0
    · exact h.u0
  · intro r hr
    have := h.bd r (hlen ▸ hr)
    have hf := h.bf
    show vN (ldWei x.ld p w) r ≤ K
    by_cases c : r = p
    · rw [c] at this ⊢
      rcases hself with ⟨_, q1, _⟩ | ⟨_, _, _, q⟩
      · rw [q1]; exact this
      · omega
    · rw [(hoth r c).1]; exact this
  · exact hz.len.trans hlen
  · intro r hr; exact (hz.ww r (hlen.symm ▸ hr)).1.trans (hww r)
def smI (f : Nat → Int) : Nat → Int
  | 0 => 0
  | k + 1 => smI f k + f k
theorem smI_nn {f : Nat → Int} : ∀ {k : Nat}, (∀ j, j < k → 0 ≤ f j) → 0 ≤ smI f k
  | 0, _ => Int.le_refl _
  | k + 1, h => by
    have := smI_nn (k := k) (fun j hj => h j om); have := h k om
    show 0 ≤ smI f k + f k; omega
theorem smI_le {f : Nat → Int} {i : Nat} : ∀ {k : Nat}, (∀ j, j < k → 0 ≤ f j) → i < k → f i ≤ smI f k
  | 0, _, hi => by omega
  | k + 1, h, hi => by
    have hn := smI_nn (k := k) (fun j hj => h j om); have hk := h k om
    show f i ≤ smI f k + f k
    by_cases e : i = k
    · subst e; omega
    · have := smI_le (k := k) (fun j hj => h j om) (by omega : i < k); omega
theorem smI_bd {f : Nat → Int} {B : Int} : ∀ {k : Nat}, (∀ j, j < k → f j ≤ B) → smI f k ≤ k * B
  | 0, _ => by show (0 : Int) ≤ ((0 : Nat) : Int) * B; simp
  | k + 1, h => by
    have := smI_bd (k := k) (fun j hj => h j om); have := h k om
    show smI f k + f k ≤ ((k + 1 : Nat) : Int) * B
    have e1 : ((k + 1 : Nat) : Int) = (k : Int) + 1 := by omega
    have e2 : ((k + 1 : Nat) : Int) * B = k * B + B := by rw [e1]; grind
    omega
theorem ex_pair {L g wi wj ci cj ti tj ai aj bi bj D : Int} (hL : 0 < L) (hUi : wi * ci = L) (hUj : wj * cj = L) (hi : ti * ci = D + bi - ai) (hj : tj * cj = D + bj - aj)
    (hai : 0 ≤ ai ∧ ai ≤ g * ci) (haj : 0 ≤ aj ∧ aj ≤ g * cj) (hbi : 0 ≤ bi ∧ bi ≤ g * ci) (hbj : 0 ≤ bj ∧ bj ≤ g * cj) (hwi : 0 ≤ wi) (hwj : 0 ≤ wj) :
    ti * wj - wi * tj ≤ g * (wj + wi) ∧ -(g * (wj + wi)) ≤ ti * wj - wi * tj := by
  have e : L * (ti * wj - wi * tj) = wi * wj * ((bi - ai) - (bj - aj)) := by
    have e1 : L * (ti * wj) = wi * wj * (ti * ci) := by rw [← hUi]; grind
    have e2 : L * (wi * tj) = wi * wj * (tj * cj) := by rw [← hUj]; grind
    rw [hi] at e1
    rw [hj] at e2
    grind
  have p : 0 ≤ wi * wj := Int.mul_nonneg hwi hwj
  have u1 : wi * wj * ((bi - ai) - (bj - aj)) ≤ wi * wj * (g * ci + g * cj) := Int.mul_le_mul_of_nonneg_left om p
  have u1' : wi * wj * (-(g * ci + g * cj)) ≤ wi * wj * ((bi - ai) - (bj - aj)) := Int.mul_le_mul_of_nonneg_left om p
  have u2 : wi * wj * (g * ci + g * cj) = L * (g * (wj + wi)) := by
    have : wi * wj * (g * ci + g * cj) = g * wj * (wi * ci) + g * wi * (wj * cj) := by grind
    rw [this, hUi, hUj]; grind
  constructor
  · refine Int.le_of_mul_le_mul_left (a := L) ?_ hL
    omega
  · refine Int.le_of_mul_le_mul_left (a := L) ?_ hL
    have : L * (-(g * (wj + wi))) = -(L * (g * (wj + wi))) := by grind
    have h3 : wi * wj * (-(g * ci + g * cj)) = -(wi * wj * (g * ci + g * cj)) := by grind
    omega
structure FairE (L g D : Int) (n : Nat) (w t c a b : Nat → Int) : Prop where
  g0 : 0 ≤ g
  hU : ∀ i, i < n → w i * c i = L
  ht : ∀ i, i < n → t i * c i = D + b i - a i
  ha : ∀ i, i < n → 0 ≤ a i ∧ a i ≤ g * c i
  hb : ∀ i, i < n → 0 ≤ b i ∧ b i ≤ g * c i
  w0 : ∀ i, i < n → 0 ≤ w i
theorem ex_sum {L g D : Int} {n : Nat} {w t c a b : Nat → Int} (H : FairE L g D n w t c a b) (hL : 0 < L) {i : Nat} (hi : i < n) : ∀ k, k ≤ n →
    t i * smI w k - w i * smI t k ≤ g * (smI w k - (if i < k then w i else 0) + (k - (if i < k then 1 else 0)) * w i) ∧
    -(g * (smI w k - (if i < k then w i else 0) + (k - (if i < k then 1 else 0)) * w i)) ≤ t i * smI w k - w i * smI t k
  | 0, _ => by simp [smI]
  | k + 1, hk => by
    have ih := ex_sum H hL hi k om
    have es : t i * (smI w k + w k) - w i * (smI t k + t k) = (t i * smI w k - w i * smI t k) + (t i * w k - w i * t k) := by grind
    show t i * (smI w k + w k) - w i * (smI t k + t k) ≤ g * ((smI w k + w k) - (if i < k + 1 then w i else 0) + (((k + 1 : Nat) : Int) - (if i < k + 1 then 1 else 0)) * w i) ∧
      -(g * ((smI w k + w k) - (if i < k + 1 then w i else 0) + (((k + 1 : Nat) : Int) - (if i < k + 1 then 1 else 0)) * w i)) ≤ t i * (smI w k + w k) - w i * (smI t k + t k)
    rw [es]
    by_cases e : i = k
    · subst e
      rw [if_neg om, if_neg om] at ih
      rw [if_pos om, if_pos om]
      have e1 : t i * w i - w i * t i = 0 := by grind
      have e2 : g * (smI w i + w i - w i + (((i + 1 : Nat) : Int) - 1) * w i) = g * (smI w i - 0 + ((i : Int) - 0) * w i) := by
        have : ((i + 1 : Nat) : Int) - 1 = (i : Int) - 0 := by omega
        rw [this]; grind
      rw [e1, e2]
      omega
    · have hp := ex_pair hL (H.hU i hi) (H.hU k om) (H.ht i hi) (H.ht k om) (H.ha i hi) (H.ha k om) (H.hb i hi) (H.hb k om) (H.w0 i hi) (H.w0 k om)
      have ef : (if i < k + 1 then w i else 0) = (if i < k then w i else 0) := by by_cases q : i < k; rw [if_pos q, if_pos om]; rw [if_neg q, if_neg om]
      have ef2 : (if i < k + 1 then (1 : Int) else 0) = (if i < k then 1 else 0) := by by_cases q : i < k; rw [if_pos q, if_pos om]; rw [if_neg q, if_neg om]
      rw [ef, ef2]
      generalize (if i < k then w i else 0) = A at ih ⊢
      generalize (if i < k then (1 : Int) else 0) = B at ih ⊢
      have e2 : g * (smI w k + w k - A + (((k + 1 : Nat) : Int) - B) * w i) = g * (smI w k - A + ((k : Int) - B) * w i) + g * (w k + w i) := by
        have : ((k + 1 : Nat) : Int) = (k : Int) + 1 := by omega
        rw [this]; grind
      rw [e2]
      omega
theorem ex_all {L g D : Int} {n : Nat} {w t c a b : Nat → Int} (H : FairE L g D n w t c a b) (hL : 0 < L) {i : Nat} (hi : i < n) :
    t i * smI w n - w i * smI t n ≤ ((n : Int) - 1) * g * smI w n ∧ -(((n : Int) - 1) * g * smI w n) ≤ t i * smI w n - w i * smI t n := by
  have hs := ex_sum H hL hi n (Nat.le_refl _)
  rw [if_pos hi, if_pos hi] at hs
  have hwW : w i ≤ smI w n := smI_le H.w0 hi
  have k1 : smI w n - w i + ((n : Int) - 1) * w i ≤ ((n : Int) - 1) * smI w n := by
    by_cases h1 : n = 1
    · subst h1
      have : i = 0 := by omega
      subst this
      show (0 + w 0) - w 0 + (((1 : Nat) : Int) - 1) * w 0 ≤ (((1 : Nat) : Int) - 1) * (0 + w 0)
      simp
    · have h2 : 0 ≤ (n : Int) - 2 := by omega
      have := Int.mul_le_mul_of_nonneg_left hwW h2
      have e1 : ((n : Int) - 2) * w i = ((n : Int) - 1) * w i - w i := by grind
      have e2 : ((n : Int) - 2) * smI w n = ((n : Int) - 1) * smI w n - smI w n := by grind
      omega
  have k2 : g * (smI w n - w i + ((n : Int) - 1) * w i) ≤ g * (((n : Int) - 1) * smI w n) := Int.mul_le_mul_of_nonneg_left k1 H.g0
  have k3 : g * (((n : Int) - 1) * smI w n) = ((n : Int) - 1) * g * smI w n := by grind
  omega
end Go.Eng
namespace Go.Eng
open Go Go.Proofs Go.RowKit
theorem take_wt (x : Lkm) (t p : Int) : (takeX x t p).wt = x.wt := by
  unfold takeX; split
  · rfl
  · show (firstX x p).wt = x.wt; exact (first_core x p).2.2.1
end Go.Eng
namespace Go.Eng
open Go Go.Proofs Go.RowKit
def RkNew (d : LDf) (gs : List Int) (n0 : Nat) (v : Value) (m : Mem0) : Prop := ∃ b, v = .pointer (some ⟨b, 0, none⟩) ∧ RkM n0 b (lkNew d gs) [] m
theorem RkNew.mono {d : LDf} {gs : List Int} : ∀ (n n' : Nat) (v : Value) (m : Mem0), n' ≤ n → RkNew d gs n v m → RkNew d gs n' v m := fun n n' v m hn ⟨b, h1, h⟩ => ⟨b, h1, h.mono hn⟩
structure Dsc where
  k : Int
  t : Int
  p : Int
  w : Int
instance : Inhabited Dsc := ⟨⟨0, 0, 0, 0⟩⟩
def fDs (d : Dsc) : List Value := [.int .u8 d.k, .int .i64 d.t, .int .i64 d.p, .int .i64 d.w]
theorem rdb_forelocklaw20_Deed : Rdb Tryz.prog 30 fDs (fun a => (0 ≤ a.k ∧ a.k ≤ 255) ∧ (-9223372036854775808 ≤ a.t ∧ a.t ≤ 9223372036854775807) ∧ (-9223372036854775808 ≤ a.p ∧ a.p ≤ 9223372036854775807) ∧ (-9223372036854775808 ≤ a.w ∧ a.w ≤ 9223372036854775807)) := fun {H enc w base sp held fuel cs x} h => by
  obtain ⟨h1, h2⟩ := trod_fields Tryz.underlying30 h
  rw [show Tryz.prog.cellsOf 30 = 4 by kernel_rfl] at h1
  have c3 : Tryz.prog.cellsOf 3 = 1 := by kernel_rfl
  have c5 : Tryz.prog.cellsOf 5 = 1 := by kernel_rfl
  match cs, h1 with
  | [a0, a1, a2, a3], _ =>
    simp only [List.forall_mem_cons, c3, c5, List.drop_succ_cons, List.drop_zero, List.take_succ_cons, List.take_zero] at h2
    obtain ⟨⟨_, _, f0⟩, ⟨_, _, f1⟩, ⟨_, _, f2⟩, ⟨_, _, f3⟩, _⟩ := h2
    obtain ⟨m0, e0, _, w0⟩ := DataW.trod_int Tryz.underlying5 f0
    obtain ⟨m1, e1, _, w1⟩ := DataW.trod_int Tryz.underlying3 f1
    obtain ⟨m2, e2, _, w2⟩ := DataW.trod_int Tryz.underlying3 f2
    obtain ⟨m3, e3, _, w3⟩ := DataW.trod_int Tryz.underlying3 f3
    simp only [List.cons.injEq, and_true] at e0 e1 e2 e3
    subst e0
    subst e1
    subst e2
    subst e3
    exact ⟨⟨m0, m1, m2, m3⟩, rfl, ⟨bounds_u8 w0, bounds_i64 w1, bounds_i64 w2, bounds_i64 w3⟩⟩
end Go.Eng
namespace Go.Eng
open Go Go.Proofs Go.RowKit
theorem lkTake2 {n0 T b : Nat} {x : Lkm} {m : Mem0} (t p : Int) (w : World) (hT : Tab w) (hn1 : 0 < n0) (h : LkM n0 T b x (x.wt.map (·.who)) m) (hn0 : n0 ≤ w.heap.size) (hx : x.ho.length ≤ 1000) (hM : Mem w m) :
    Ret Tryz.prog 11 #[.pointer (some ⟨b, 0, none⟩), .int .i64 t, .int .i64 p] w (Upd m (fun u m' => u = .int .i64 (takeE x t p) ∧ LkM n0 T b (takeX x t p) ((takeX x t p).wt.map (·.who)) m') w) := by
  rw [take_wt]; exact lkTake_spec t p w hT hn1 h hn0 hx hM
def aw0 : Lkm := lkNew ⟨false, 1, 2, 0, 0⟩ [1, 1]
def aw1 : Lkm := takeX aw0 5 0
def aw2 : Lkm := waitX aw1 6 0
def aw3 : Lkm := waitX aw2 7 1
def aw4 : Lkm := chgX aw3 5
def aw5 : Lkm := unlX aw4 5
theorem aw_w : LkW aw0 ∧ LkW aw1 ∧ LkW aw2 ∧ LkW aw3 ∧ LkW aw4 := by
  have h0 : LkW aw0 := lkNew_w _ _
  exact ⟨h0, h0.take 5 0, (h0.take 5 0).wait 6 0, ((h0.take 5 0).wait 6 0).wait 7 1, (((h0.take 5 0).wait 6 0).wait 7 1).chg 5⟩
theorem aw_b : LkB 0 aw0 ∧ LkB 1 aw1 ∧ LkB 2 aw2 ∧ LkB 3 aw3 ∧ LkB 4 aw4 := by
  have h0 : LkB 0 aw0 := lkNew_b _ _
  exact ⟨h0, h0.take 5 0, (h0.take 5 0).wait 6 0, ((h0.take 5 0).wait 6 0).wait 7 1, (((h0.take 5 0).wait 6 0).wait 7 1).chg 5⟩
theorem aw_f : takeE aw0 5 0 = 0 ∧ waitE aw1 6 0 = 0 ∧ waitE aw2 7 1 = 0 ∧ holdsO aw3 5 = true ∧ unlE aw4 5 = 0 ∧ unlL aw4 5 = [7] ∧ holdsO aw5 7 = true ∧ aw5.tr.p = 1 ∧ aw5.tr.u = 0 := by
  refine ⟨?_, ?_, ?_, ?_, ?_, ?_, ?_, ?_, ?_⟩ <;> kernel_rfl
theorem awake20_spec (w : World) (hT : Tab w) : Ret Tryz.prog 6 #[] w (fun v w' => v = .bool true ∧ Ext w w') := by
 have hn1 := hT.pos; obtain ⟨w0, w1, w2, w3, w4⟩ := aw_w; obtain ⟨q0, q1, q2, q3, q4⟩ := aw_b; obtain ⟨f0, f1, f2, f3, f4, f5, f6, f7, f8⟩ := aw_f; have z0 := q0.hl; have z4 := q4.hl; have z1 := q4.tu; have z2 := q3.tu
 refine Ret.enterM Tryz.func6 rfl Tryz.ntmps6 rfl ([]) (no) (Mem.nil w) ?_
 refine wR <| LM.as rfl ?_
 refine LM.nil (QM.sub (e' := []) trivial (QM.then (wpM.seq (wpM.region ?_))))
 refine LM.val (ov_build (cs := #[.bool false, .int .i64 1, .int .i64 2, .int .i64 0, .int .i64 0]) rfl kr) ?_
 refine LM.row (vs := [_, _]) Tryz.underlying24 Tryz.sizeOf3 Tryz.zeroValue3 rfl rfl rfl rfl rfl rfl (fun b9 hb9 => ?_)
 refine LM.callT (oc_call (enters_fn Tryz.func7 kr rfl) rfl) LkNew.mono (fun w hm hc hg => lknew_spec (gs := [1, 1]) ⟨false, 1, 2, 0, 0⟩ w rfl (Sr.row (hm.at b9) rfl rfl (by simp) ir)) ?_
 rintro u10 m10 ⟨b, rfl, h10⟩ hge10
 refine LM.as rfl <| nB [(1, _)] <| LM.mv rfl ?_
 refine cU Tryz.func11 rfl (fun w hm hc hg => lkTake2 (x := aw0) 5 0 w (hT.ext hc) hn1 h10 hc.size om (hm.pick m10)) h10.wlk (fun p hp hlt => absurd hlt (Nat.not_lt_of_le (h10.ge p hp))) ?_
 rintro u12 m12 ⟨rfl, h12⟩ -; rw [f0]
 refine LM.mv rfl ?_
 refine cU Tryz.func13 rfl (fun w hm hc hg => lkWait_spec (x := aw1) 6 0 w (hT.ext hc) hn1 h12 hc.size om (hm.pick m12)) h12.wlk (fun p hp hlt => absurd hlt (Nat.not_lt_of_le (h12.ge p hp))) ?_
 rintro u14 m14 ⟨rfl, h14⟩ -; rw [f1]
 refine LM.mv rfl ?_
 refine cU Tryz.func13 rfl (fun w hm hc hg => lkWait_spec (x := aw2) 7 1 w (hT.ext hc) hn1 h14 hc.size om (hm.pick m14)) h14.wlk (fun p hp hlt => absurd hlt (Nat.not_lt_of_le (h14.ge p hp))) ?_
 rintro u16 m16 ⟨rfl, h16⟩ -; rw [f2]
 refine LM.as rfl <| LM.as rfl <| LM.as rfl <| nB [(1, _), (2, _), (3, _), (4, _)] <| LM.mv rfl ?_
 refine cU Tryz.func22 rfl (fun w hm hc hg => lkChg_spec (x := aw3) 5 w (hT.ext hc) hn1 h16 hc.size w3.hk (fun p hp => by have := q3.hh p hp; omega) om (hm.pick m16)) h16.wlk (fun p hp hlt => absurd hlt (Nat.not_lt_of_le (h16.ge p hp))) ?_
 rintro u18 m18 ⟨rfl, h18⟩ -; rw [f3]
 refine LM.as rfl <| nB [(1, _), (2, _), (3, _), (4, _), (5, _)] <| LM.mv rfl ?_
 refine cU Tryz.func15 rfl (fun w hm hc hg => lkUnl_spec (x := aw4) 5 w (hT.ext hc) hn1 h18 w4.hws hc.size om hc.size (hm.pick m18)) h18.wlk (fun p hp hlt => absurd hlt (Nat.not_lt_of_le (h18.ge p hp))) ?_
 rintro u21 m21 ⟨v21, mr21, mx21, rfl, hr21, rfl, h21⟩ -; rw [f4]; rw [f5] at hr21; obtain ⟨ad21, cap21, rfl⟩ := hr21.form; have h21b : LkM w.heap.size 2 b aw5 (aw5.wt.map (·.who)) mx21 := h21; refine LM.assoc ?_
 refine LM.mv rfl <| LM.val (ov_extract rfl rfl) <| LM.val (ov_extract rfl rfl) <| LM.as rfl <| LM.as rfl <| nB [(1, _), (2, _), (3, _), (4, _), (5, _), (6, _), (7, _)] <| LM.mv rfl <| LM.val (ov_eql rfl rfl) <| LM.mv rfl ?_
 refine LM.splitD (t := 26) rfl (fun h1 => ?_) (fun h1 => ?_)
 ·
  refine LM.sp 26 rfl rfl rfl <| LM.mv rfl <| LM.sp 26 rfl rfl rfl <| LM.val (ov_eql rfl rfl) <| LM.val (ov_pickT rfl rfl) <| LM.mv rfl ?_
  refine LM.splitD (t := 30) rfl (fun h2 => ?_) (fun h2 => ?_)
  ·
   refine LM.sp 30 rfl rfl rfl <| LM.mv rfl <| LM.sp 30 rfl rfl rfl <| LM.val (ov_eql rfl rfl) <| LM.val (ov_pickT rfl rfl) <| LM.mv rfl ?_
   refine LM.splitD (t := 34) rfl (fun h3 => ?_) (fun h3 => ?_)
   ·
    refine LM.sp 34 rfl rfl rfl <| LM.mv rfl <| LM.val (ov_pickT rfl rfl) <| LM.mv rfl ?_
    first | refine LM.splitD (t := 37) rfl (fun h4 => ?_) (fun h4 => ?_) | refine LM.splitB (t := 37) rfl (fun h4 => ?_) (fun h4 => ?_)
    ·
     refine LM.sp 37 rfl rfl rfl <| LM.mv rfl <| LM.sp 37 rfl rfl rfl <| LM.val (ov_eql rfl rfl) <| LM.val (ov_pickT rfl rfl) <| LM.mv rfl ?_
     refine LM.splitD (t := 41) rfl (fun h5 => ?_) (fun h5 => ?_)
     ·
      refine LM.sp 41 rfl rfl rfl <| LM.mv rfl <| LM.sp 41 rfl rfl rfl <| LM.val (ov_len Tryz.underlying24 rfl) <| LM.sp 41 rfl rfl rfl <| LM.val (ov_eql rfl rfl) <| LM.val (ov_pickT rfl rfl) <| LM.mv rfl ?_
      refine LM.splitD (t := 46) rfl (fun h6 => ?_) (fun h6 => ?_)
      ·
       refine LM.sp 46 rfl rfl rfl <| LM.mv rfl <| LM.sp 46 rfl rfl rfl ?_
       refine LM.val (ov_idxSN (i := 0) au6 Tryz.underlying24 Tryz.sizeOf3 rfl rfl om) ?_
       refine LM.sp 46 rfl rfl rfl ?_
       refine LM.rd (om_sl1 (i := 0) asm ir Tryz.isAgg3 rfl rfl (by exact getq 0 au4) (by rfl)) ?_
       refine LM.sp 46 rfl rfl rfl <| LM.val (ov_eql rfl rfl) <| LM.val (ov_pickT rfl rfl) <| LM.mv rfl ?_
       refine LM.splitD (t := 52) rfl (fun h7 => ?_) (fun h7 => ?_)
       ·
        refine LM.sp 52 rfl rfl rfl <| LM.mv rfl <| LM.sp 52 rfl rfl rfl ?_
        refine cE Tryz.func32 rfl (fun w hm hc hg => f6 ▸ lkHolds_spec (x := aw5) 7 w h21b (hm.pick mx21)) ?_
        refine LM.val (ov_pickT rfl rfl) <| LM.mv rfl ?_
        first | refine LM.splitD (t := 56) rfl (fun h8 => ?_) (fun h8 => ?_) | refine LM.splitB (t := 56) rfl (fun h8 => ?_) (fun h8 => ?_)
        ·
         refine LM.sp 56 rfl rfl rfl <| LM.mv rfl <| LM.sp 56 rfl rfl rfl ?_
         refine cE Tryz.func33 rfl (fun w hm hc hg => (show vTr aw5.tr = Value.agg #[.int .i64 1, .int .i64 0] by unfold vTr; rw [f7, f8]) ▸ lkTurn_spec (x := aw5) w h21b (hm.pick mx21)) ?_
         refine LM.sp 56 rfl rfl rfl ?_
         refine LM.val (ov_build (cs := #[.int .i64 1, .int .i64 0]) rfl kr) ?_
         refine LM.sp 56 rfl rfl rfl ?_
         refine LM.val (ov_aeql Tryz.underlying64 kr kr (by decide) rfl rfl (by rfl) ⟨(by first | rfl | trivial), (by first | rfl | trivial), trivial⟩) ?_
         refine LM.val (ov_pickT rfl rfl) <| LM.as rfl <| nA [(0, _)] <| wpM.ret ?_
         refine qL Tryz.results6 rfl fun w' hm' hc' hg' => ?_
         exact ⟨rfl, hc'⟩
        cases h8
       exact absurd rfl h7
      exact absurd rfl h6
     exact absurd rfl h5
    cases h4
   exact absurd rfl h3
  exact absurd rfl h2
 exact absurd rfl h1
def doX (x : Lkm) (d : Dsc) : Lkm :=
  if d.k % 9 = 0 then takeX x d.t d.p else if d.k % 9 = 1 then waitX x d.t d.p else if d.k % 9 = 2 then unlX x d.t else if d.k % 9 = 3 then lvX x d.t else if d.k % 9 = 4 then diX x d.t
  else if d.k % 9 = 5 then chgX x d.t else if d.k % 9 = 6 then chgX x d.t else if d.k % 9 = 7 then weiX x d.p d.w else if d.k % 9 = 8 then (if takeE x d.t d.p = 8 then waitX x d.t d.p else takeX x d.t d.p) else x
theorem do_b {k : Nat} {x : Lkm} (hw : Wd1 x.wt) (h : LkB k x) (d : Dsc) : LkB (k + 1) (doX x d) := by
  unfold doX
  (repeat' split)
  · exact h.take _ _
  · exact h.wait _ _
  · exact (h.unl hw _).mono (Nat.le_succ k)
  · exact (h.lv hw _).mono (Nat.le_succ k)
  · exact (h.die hw _).mono (Nat.le_succ k)
  · exact h.chg _
  · exact h.chg _
  · exact (h.wei _ _).mono (Nat.le_succ k)
  · exact h.wait _ _
  · exact h.take _ _
  · exact h.mono (Nat.le_succ k)
theorem do20_spec {n0 T b k : Nat} {x : Lkm} {m : Mem0} (d : Dsc) (w : World) (hT : Tab w) (hn1 : 0 < n0) (h : LkM n0 T b x (x.wt.map (·.who)) m) (hw : LkW x) (hb : LkB k x) (hn0 : n0 ≤ w.heap.size) (hk : k ≤ 900) (hTT : T ≤ 1000) (hd : 0 ≤ d.k ∧ d.k ≤ 255) (hM : Mem w m) : Ret Tryz.prog 8 #[.pointer (some ⟨b, 0, none⟩), .agg (fDs d).toArray] w (Upd m (fun u m' => LkM n0 (T + 1) b (doX x d) ((doX x d).wt.map (·.who)) m') w) := by
 have hS0 : ¬ inM m 0 := (fun ⟨p, hp, e⟩ => by have := h.ge p hp; omega); have hbl := hb.hl; have hbu := hb.tu; have hv := hw.toLkV
 refine Ret.enterM Tryz.func8 rfl Tryz.ntmps8 rfl (m ++ []) ((inM m)) aM ?_
 refine wR ?_
 refine LM.box rfl rfl (fun b3 hb3 => ?_)
 refine nB [(0, _), (3, _)] <| LM.val (ovf 5 rfl rfl rfl rfl) ?_
 refine LM.rd (oml rfl rfl rfl) ?_
 first | refine LM.val (ov_remK rfl rfl om om) ?_ | refine LM.val (ov_remJ rfl rfl om om) ?_
 refine nA [(0, _), (3, _), (6, _)] <| wpM.block <| wR <| LM.val (ov_eql rfl rfl) <| LM.as rfl <| nA [(0, _), (3, _), (6, _), (7, _)] ?_
 refine wpM.condD rfl (fun h1 => ?_) (fun h1 => ?_)
 ·
  refine wpM.region ?_
  refine LM.mv rfl <| LM.val (ovf 3 rfl rfl rfl rfl) ?_
  refine LM.rd (oml rfl rfl rfl) ?_
  refine LM.val (ovf 3 rfl rfl rfl rfl) ?_
  refine LM.rd (oml rfl rfl rfl) ?_
  refine cU Tryz.func11 rfl (fun w hm hc hg => lkTake2 d.t d.p w (hT.keep hc hS0) hn1 h (Nat.le_trans hn0 hc.size) om (hm.pick m)) h.wlk (fun q hq _ => ⟨q, hq, rfl⟩) ?_
  rintro u14 m14 ⟨rfl, h14⟩ hin14
  refine LM.nil (QM.sub (e' := []) trivial ?_)
  refine QM.block_normal ?_
  refine QM.leave (.inr rfl) [] Tryz.results8 rfl ?_
  intro w' hm' hc' hg'
  have e : doX x d = takeX x d.t d.p := (by unfold doX; rw [if_pos om]); rw [e]; exact upd_m (m' := m14) (h14.tmono (Nat.le_succ T)) hm' au1 hc' hin14
 refine wR <| LM.val (ov_eql rfl rfl) <| LM.as rfl <| nA [(0, _), (3, _), (6, _), (15, _)] ?_
 refine wpM.condD rfl (fun h2 => ?_) (fun h2 => ?_)
 ·
  refine wpM.region ?_
  refine LM.mv rfl <| LM.val (ovf 3 rfl rfl rfl rfl) ?_
  refine LM.rd (oml rfl rfl rfl) ?_
  refine LM.val (ovf 3 rfl rfl rfl rfl) ?_
  refine LM.rd (oml rfl rfl rfl) ?_
  refine cU Tryz.func13 rfl (fun w hm hc hg => lkWait_spec d.t d.p w (hT.keep hc hS0) hn1 h (Nat.le_trans hn0 hc.size) om (hm.pick m)) h.wlk (fun q hq _ => ⟨q, hq, rfl⟩) ?_
  rintro u22 m22 ⟨rfl, h22⟩ hin22
  refine LM.nil (QM.sub (e' := []) trivial ?_)
  refine QM.block_normal ?_
  refine QM.leave (.inr rfl) [] Tryz.results8 rfl ?_
  intro w' hm' hc' hg'
  have e : doX x d = waitX x d.t d.p := (by unfold doX; rw [if_neg om, if_pos om]); rw [e]; exact upd_m (m' := m22) h22 hm' au1 hc' hin22
 refine wR <| LM.val (ov_eql rfl rfl) <| LM.as rfl <| nA [(0, _), (3, _), (6, _), (23, _)] ?_
 refine wpM.condD rfl (fun h3 => ?_) (fun h3 => ?_)
 ·
  refine wpM.region ?_
  refine LM.mv rfl <| LM.val (ovf 3 rfl rfl rfl rfl) ?_
  refine LM.rd (oml rfl rfl rfl) ?_
  refine cU Tryz.func15 rfl (fun w hm hc hg => lkUnl_spec d.t w (hT.keep hc hS0) hn1 h hv.hws (Nat.le_trans hn0 hc.size) om hc.size (hm.pick m)) h.wlk (fun q hq _ => ⟨q, hq, rfl⟩) ?_
  rintro u28 m28 ⟨v28, mr28, mx28, rfl, hr28, rfl, h28⟩ hin28; refine LM.assoc ?_
  refine LM.nil (QM.sub (e' := []) trivial ?_)
  refine QM.block_normal ?_
  refine QM.leave (.inr rfl) [] Tryz.results8 rfl ?_
  intro w' hm' hc' hg'
  have e : doX x d = unlX x d.t := (by unfold doX; rw [if_neg om, if_neg om, if_pos om]); rw [e]; exact upd_m (m' := mx28) (h28.tmono (Nat.le_succ T)) hm' au1 hc' (fun p hp => hin28 p (List.mem_append_right _ hp))
 refine wR <| LM.val (ov_eql rfl rfl) <| LM.as rfl <| nA [(0, _), (3, _), (6, _), (29, _)] ?_
 refine wpM.condD rfl (fun h4 => ?_) (fun h4 => ?_)
 ·
  refine wpM.region ?_
  refine LM.mv rfl <| LM.val (ovf 3 rfl rfl rfl rfl) ?_
  refine LM.rd (oml rfl rfl rfl) ?_
  refine cU Tryz.func18 rfl (fun w hm hc hg => lkLv_spec d.t w (hT.keep hc hS0) hn1 h (Nat.le_trans hn0 hc.size) om hc.size (hm.pick m)) h.wlk (fun q hq _ => ⟨q, hq, rfl⟩) ?_
  rintro u34 m34 ⟨v34, mr34, mx34, rfl, hr34, rfl, h34⟩ hin34; refine LM.assoc ?_
  refine LM.nil (QM.sub (e' := []) trivial ?_)
  refine QM.block_normal ?_
  refine QM.leave (.inr rfl) [] Tryz.results8 rfl ?_
  intro w' hm' hc' hg'
  have e : doX x d = lvX x d.t := (by unfold doX; rw [if_neg om, if_neg om, if_neg om, if_pos om]); rw [e]; exact upd_m (m' := mx34) (h34.tmono (Nat.le_succ T)) hm' au1 hc' (fun p hp => hin34 p (List.mem_append_right _ hp))
 refine wR <| LM.val (ov_eql rfl rfl) <| LM.as rfl <| nA [(0, _), (3, _), (6, _), (35, _)] ?_
 refine wpM.condD rfl (fun h5 => ?_) (fun h5 => ?_)
 ·
  refine wpM.region ?_
  refine LM.mv rfl <| LM.val (ovf 3 rfl rfl rfl rfl) ?_
  refine LM.rd (oml rfl rfl rfl) ?_
  refine cU Tryz.func20 rfl (fun w hm hc hg => lkDie_spec d.t w (hT.keep hc hS0) hn1 h hv.hws (Nat.le_trans hn0 hc.size) om hc.size (hm.pick m)) h.wlk (fun q hq _ => ⟨q, hq, rfl⟩) ?_
  rintro u40 m40 ⟨v40, mr40, mx40, rfl, hr40, rfl, h40⟩ hin40; refine LM.assoc ?_
  refine LM.nil (QM.sub (e' := []) trivial ?_)
  refine QM.block_normal ?_
  refine QM.leave (.inr rfl) [] Tryz.results8 rfl ?_
  intro w' hm' hc' hg'
  have e : doX x d = diX x d.t := (by unfold doX; rw [if_neg om, if_neg om, if_neg om, if_neg om, if_pos om]); rw [e]; exact upd_m (m' := mx40) (h40.tmono (Nat.le_succ T)) hm' au1 hc' (fun p hp => hin40 p (List.mem_append_right _ hp))
 refine wpM.seq <| wR <| LM.val (ov_eql rfl rfl) <| LM.as rfl <| nA [(0, _), (3, _), (6, _), (41, _)] ?_
 refine wpM.condD rfl (fun h6 => ?_) (fun h6 => ?_)
 ·
  refine wpM.skip <| QM.then ?_
  refine wpM.condD rfl (fun h7 => ?_) (fun h7 => ?_)
  ·
   refine wpM.region ?_
   refine LM.mv rfl <| LM.val (ovf 3 rfl rfl rfl rfl) ?_
   refine LM.rd (oml rfl rfl rfl) ?_
   refine cU Tryz.func22 rfl (fun w hm hc hg => lkChg_spec d.t w (hT.keep hc hS0) hn1 h (Nat.le_trans hn0 hc.size) hv.hk (fun p hp => by have := hb.hh p hp; omega) om (hm.pick m)) h.wlk (fun q hq _ => ⟨q, hq, rfl⟩) ?_
   rintro u47 m47 ⟨rfl, h47⟩ hin47
   refine LM.nil (QM.sub (e' := []) trivial ?_)
   refine QM.block_normal ?_
   refine QM.leave (.inr rfl) [] Tryz.results8 rfl ?_
   intro w' hm' hc' hg'
   have e : doX x d = chgX x d.t := (by unfold doX; rw [if_neg om, if_neg om, if_neg om, if_neg om, if_neg om, if_pos om]); rw [e]; exact upd_m (m' := m47) (h47.tmono (Nat.le_succ T)) hm' au1 hc' hin47
  exact absurd h6 h7
 refine wpM.region ?_
 refine LM.val (ov_eql rfl rfl) <| LM.as rfl <| nA [(0, _), (3, _), (6, _), (41, _)] ?_
 refine wpM.condD rfl (fun h8 => ?_) (fun h8 => ?_)
 ·
  refine wpM.region ?_
  refine LM.mv rfl <| LM.val (ovf 3 rfl rfl rfl rfl) ?_
  refine LM.rd (oml rfl rfl rfl) ?_
  refine cU Tryz.func22 rfl (fun w hm hc hg => lkChg_spec d.t w (hT.keep hc hS0) hn1 h (Nat.le_trans hn0 hc.size) hv.hk (fun p hp => by have := hb.hh p hp; omega) om (hm.pick m)) h.wlk (fun q hq _ => ⟨q, hq, rfl⟩) ?_
  rintro u47 m47 ⟨rfl, h47⟩ hin47
  refine LM.nil (QM.sub (e' := []) trivial ?_)
  refine QM.block_normal ?_
  refine QM.leave (.inr rfl) [] Tryz.results8 rfl ?_
  intro w' hm' hc' hg'
  have e : doX x d = chgX x d.t := (by unfold doX; rw [if_neg om, if_neg om, if_neg om, if_neg om, if_neg om, if_neg om, if_pos om]); rw [e]; exact upd_m (m' := m47) (h47.tmono (Nat.le_succ T)) hm' au1 hc' hin47
 refine wR <| LM.val (ov_eql rfl rfl) <| LM.as rfl <| nA [(0, _), (3, _), (6, _), (48, _)] ?_
 refine wpM.condD rfl (fun h9 => ?_) (fun h9 => ?_)
 ·
  refine wpM.region ?_
  refine LM.mv rfl <| LM.val (ovf 3 rfl rfl rfl rfl) ?_
  refine LM.rd (oml rfl rfl rfl) ?_
  refine LM.val (ovf 3 rfl rfl rfl rfl) ?_
  refine LM.rd (oml rfl rfl rfl) ?_
  refine cU Tryz.func24 rfl (fun w hm hc hg => lkWei_spec d.p d.w w (hT.keep hc hS0) hn1 h (Nat.le_trans hn0 hc.size) (hm.pick m)) h.wlk (fun q hq _ => ⟨q, hq, rfl⟩) ?_
  rintro u55 m55 ⟨rfl, h55⟩ hin55
  refine LM.nil (QM.sub (e' := []) trivial ?_)
  refine QM.block_normal ?_
  refine QM.leave (.inr rfl) [] Tryz.results8 rfl ?_
  intro w' hm' hc' hg'
  have e : doX x d = weiX x d.p d.w := (by unfold doX; rw [if_neg om, if_neg om, if_neg om, if_neg om, if_neg om, if_neg om, if_neg om, if_pos om]); rw [e]; exact upd_m (m' := m55) (h55.tmono (Nat.le_succ T)) hm' au1 hc' hin55
 refine wR <| LM.val (ov_eql rfl rfl) <| LM.as rfl <| nA [(0, _), (3, _), (56, _)] ?_
 refine wpM.condD rfl (fun h10 => ?_) (fun h10 => ?_)
 ·
  refine wR <| LM.mv rfl <| LM.val (ovf 3 rfl rfl rfl rfl) ?_
  refine LM.rd (oml rfl rfl rfl) ?_
  refine LM.val (ovf 3 rfl rfl rfl rfl) ?_
  refine LM.rd (oml rfl rfl rfl) ?_
  refine cU Tryz.func11 rfl (fun w hm hc hg => lkTake2 d.t d.p w (hT.keep hc hS0) hn1 h (Nat.le_trans hn0 hc.size) om (hm.pick m)) h.wlk (fun q hq _ => ⟨q, hq, rfl⟩) ?_
  rintro u63 m63 ⟨rfl, h63⟩ hin63
  refine LM.val (ov_eql rfl rfl) <| nA [(0, _), (3, _), (64, _)] ?_
  refine wpM.condD rfl (fun h11 => ?_) (fun h11 => ?_)
  ·
   have hE : takeE x d.t d.p = 8 := h11; have h63b : LkM n0 T b x (x.wt.map (·.who)) m63 := (by have e : takeX x d.t d.p = x := if_pos (by rw [hE]; decide); rw [e] at h63; exact h63)
   refine wpM.region ?_
   refine LM.mv rfl <| LM.val (ovf 3 rfl rfl rfl rfl) ?_
   refine LM.rd (oml rfl rfl rfl) ?_
   refine LM.val (ovf 3 rfl rfl rfl rfl) ?_
   refine LM.rd (oml rfl rfl rfl) ?_
   refine cU Tryz.func13 rfl (fun w hm hc hg => lkWait_spec d.t d.p w (hT.keep hc hS0) hn1 h63b (Nat.le_trans hn0 hc.size) om (hm.pick m63)) h63.wlk (inM_inn hin63) ?_
   rintro u70 m70 ⟨rfl, h70⟩ hin70
   refine LM.nil (QM.sub (e' := []) trivial ?_)
   refine QM.block_normal ?_
   refine QM.leave (.inr rfl) [] Tryz.results8 rfl ?_
   intro w' hm' hc' hg'
   have e : doX x d = waitX x d.t d.p := (by unfold doX; rw [if_neg om, if_neg om, if_neg om, if_neg om, if_neg om, if_neg om, if_neg om, if_neg om, if_pos om, if_pos hE]); rw [e]; exact upd_m (m' := m70) h70 hm' au1 hc' (inn_trans hin63 hin70)
  refine wpM.skip <| QM.block_normal ?_
  refine QM.leave (.inr rfl) [] Tryz.results8 rfl ?_
  intro w' hm' hc' hg'
  have e : doX x d = takeX x d.t d.p := (by unfold doX; rw [if_neg om, if_neg om, if_neg om, if_neg om, if_neg om, if_neg om, if_neg om, if_neg om, if_pos om, if_neg h11]); rw [e]; exact upd_m (m' := m63) (h63.tmono (Nat.le_succ T)) hm' au1 hc' hin63
 refine wpM.skip <| QM.block_normal ?_
 refine QM.leave (.inr rfl) [] Tryz.results8 rfl ?_
 intro w' hm' hc' hg'
 have e : doX x d = x := (by unfold doX; rw [if_neg om, if_neg om, if_neg om, if_neg om, if_neg om, if_neg om, if_neg om, if_neg om, if_neg om]); rw [e]; exact upd_m (m' := m) (h.tmono (Nat.le_succ T)) hm' au1 hc' (inn_refl _ _)
end Go.Eng
namespace Go.Eng
open Go Go.RowKit
def fixD (x : Lkm) (tk C : Int) (d : Dsc) : Dsc :=
  if x.ho.length = 1 ∧ (d.k % 9 = 2 ∨ d.k % 9 = 5 ∨ d.k % 9 = 6) then ⟨if C ≤ tk then 2 else if tk = 0 then 5 else d.k % 9, (x.ho.getD 0 default).t, d.p, d.w⟩ else ⟨d.k % 9, d.t, d.p, d.w⟩
def lawT (x z : Lkm) (k tk : Int) : Int :=
  if x.ho.length ≠ z.ho.length ∨ (z.ho.length = 1 ∧ (x.ho.getD 0 default).t ≠ (z.ho.getD 0 default).t) ∨ k = 2 then 0 else if k = 5 ∨ k = 6 then tk + 1 else tk
theorem lawT_r {x z : Lkm} {k tk : Int} (h : 0 ≤ tk) : 0 ≤ lawT x z k tk ∧ lawT x z k tk ≤ tk + 1 := by
  unfold lawT; split
  · omega
  · split <;> omega
structure FixF (x : Lkm) (tk C : Int) (e : Dsc) : Prop where
  r : 0 ≤ e.k ∧ e.k ≤ 8
  h : x.ho.length = 1 → (e.k = 2 ∨ e.k = 5 ∨ e.k = 6) → holdsO x e.t = true
  c : x.ho.length = 1 → (e.k = 5 ∨ e.k = 6) → tk < C
theorem fix_f {x : Lkm} {tk C : Int} {d : Dsc} (h0 : 0 ≤ d.k) : FixF x tk C (fixD x tk C d) := by
  unfold fixD
  split
  · rename_i c
    have hh : holdsO x (x.ho.getD 0 default).t = true := by
      unfold holdsO; rw [List.any_eq_true]
      refine ⟨x.ho.getD 0 default, ?_, decide_eq_true rfl⟩
      rw [List.getD_eq_getElem?_getD, List.getElem?_eq_getElem (by omega : 0 < x.ho.length)]; exact List.getElem_mem _
    refine ⟨?_, fun _ _ => hh, fun _ q => ?_⟩
    · show 0 ≤ (if C ≤ tk then 2 else if tk = 0 then 5 else d.k % 9) ∧ (if C ≤ tk then 2 else if tk = 0 then 5 else d.k % 9) ≤ 8
      (repeat' split) <;> omega
    · have q2 : (if C ≤ tk then (2 : Int) else if tk = 0 then 5 else d.k % 9) = 5 ∨ (if C ≤ tk then (2 : Int) else if tk = 0 then 5 else d.k % 9) = 6 := q
      by_cases c3 : C ≤ tk
      · rw [if_pos c3] at q2; omega
      · omega
  · rename_i c
    exact ⟨by show 0 ≤ d.k % 9 ∧ d.k % 9 ≤ 8; omega, fun q1 q2 => absurd ⟨q1, q2⟩ c, fun q1 q2 => absurd ⟨q1, .inr q2⟩ c⟩
structure DoF (S C K : Nat) (x z : Lkm) (k tk : Int) : Prop where
  f : ∃ t, LkF S C t K z ∧ (z.ho.length = 1 → (t : Int) = lawT x z k tk)
theorem DoF.keep {S C t K' : Nat} {x z : Lkm} {k tk : Int} (hz : LkF S C t K' z) (ht : x.ho.length = 1 → (t : Int) = tk) (e : z.ho = x.ho) (hk : k ≠ 2 ∧ k ≠ 5 ∧ k ≠ 6) : DoF S C K' x z k tk := by
  refine ⟨t, hz, fun h1 => ?_⟩
  unfold lawT
  rw [e] at h1 ⊢
  rw [if_neg (by simp [hk.1]), if_neg om]
  exact ht h1
theorem DoF.zero {S C t K K' : Nat} {x z : Lkm} {k tk : Int} (hx : LkF S C t K x) (hz : LkF S C 0 K' z) (ht : x.ho.length = 1 → (t : Int) = tk) (hk : k ≠ 5 ∧ k ≠ 6) : DoF S C K' x z k tk := by
  by_cases c : x.ho.length ≠ z.ho.length ∨ (z.ho.length = 1 ∧ (x.ho.getD 0 default).t ≠ (z.ho.getD 0 default).t) ∨ k = 2
  · exact ⟨0, hz, fun _ => by unfold lawT; rw [if_pos c]; rfl⟩
  · refine ⟨t, hz.mono (Nat.zero_le _) hx.tk (Nat.le_refl _), fun h1 => ?_⟩
    unfold lawT
    rw [if_neg c, if_neg om]
    exact ht om
theorem DoF.emp {S C t K' : Nat} {x z : Lkm} {k tk : Int} (hz : LkF S C t K' z) (h0 : z.ho.length = 0) : DoF S C K' x z k tk := ⟨t, hz, fun h1 => by omega⟩
theorem F_do {S C t K : Nat} {x : Lkm} {tk : Int} {e : Dsc} (h : LkF S C t K x) (ht : x.ho.length = 1 → (t : Int) = tk) (hf : FixF x tk C e) (hK : K + 720720 < 18446744073709551616) (h7 : e.k = 7 → weiB x e.p = false) :
    DoF S C (K + 720720) x (doX x e) e.k tk ∧ StP x (doX x e) := by
  have hm : ∀ {t' : Nat} {z : Lkm}, LkF S C t' K z → LkF S C t' (K + 720720) z := fun q => q.mono (Nat.le_refl _) q.tk (Nat.le_add_right _ _)
  have hr := hf.r
  have h1 := h.w.ex h.sh
  have hwait : ∀ a b : Int, e.k = 1 ∨ e.k = 8 → DoF S C (K + 720720) x (waitX x a b) e.k tk ∧ StP x (waitX x a b) := fun a b hk => by
    obtain ⟨q1, q2, q3⟩ := F_wait h a b
    exact ⟨.keep (hm q1) ht q3 om, q2⟩
  have htake : ∀ a b : Int, e.k = 0 ∨ e.k = 8 → DoF S C (K + 720720) x (takeX x a b) e.k tk ∧ StP x (takeX x a b) := fun a b hk => by
    rcases F_take h a b with q | ⟨q1, q2, _⟩
    · rw [q]; exact ⟨.keep (hm h) ht rfl om, .rfl x⟩
    · exact ⟨.zero h (hm q1) ht om, q2⟩
  have hchg : e.k = 5 ∨ e.k = 6 → DoF S C (K + 720720) x (chgX x e.t) e.k tk ∧ StP x (chgX x e.t) := fun hk => by
    by_cases c : x.ho.length = 1
    · have hh := hf.h c om
      have hc := hf.c c hk
      have ht1 := ht c
      obtain ⟨q1, q2, q3⟩ := F_chg h e.t hh om hK
      refine ⟨⟨t + 1, q1, fun h1 => ?_⟩, q2⟩
      unfold lawT
      rw [q3, if_neg (by simp; omega), if_pos hk]; omega
    · have h0 : x.ho.length = 0 := by omega
      have : chgX x e.t = x := by
        unfold chgX holdsO
        rw [List.eq_nil_of_length_eq_zero h0]; rfl
      rw [this]; exact ⟨.emp (hm h) h0, .rfl x⟩
  have hunl : e.k = 2 → DoF S C (K + 720720) x (unlX x e.t) e.k tk ∧ StP x (unlX x e.t) := fun hk => by
    rcases F_unl h e.t with ⟨q, q2⟩ | ⟨q1, q2⟩
    · have h0 : x.ho.length = 0 := by
        by_cases c : x.ho.length = 1
        · have := hf.h c (.inl hk); rw [q] at this; cases this
        · omega
      rw [q2]; exact ⟨.emp (hm h) h0, .rfl x⟩
    · exact ⟨.zero h (hm q1) ht om, q2⟩
  unfold doX
  by_cases c0 : e.k % 9 = 0
  · rw [if_pos c0]; exact htake _ _ om
  rw [if_neg c0]
  by_cases c1 : e.k % 9 = 1
  · rw [if_pos c1]; exact hwait _ _ om
  rw [if_neg c1]
  by_cases c2 : e.k % 9 = 2
  · rw [if_pos c2]; exact hunl om
  rw [if_neg c2]
  by_cases c3 : e.k % 9 = 3
  · rw [if_pos c3]
    obtain ⟨q1, q2, q3⟩ := F_lv h e.t
    exact ⟨.keep (hm q1) ht q3 om, q2⟩
  rw [if_neg c3]
  by_cases c4 : e.k % 9 = 4
  · rw [if_pos c4]
    rcases F_die h e.t with ⟨q1, q2, q3⟩ | ⟨q1, q2⟩
    · exact ⟨.keep (hm q1) ht q3 om, q2⟩
    · exact ⟨.zero h (hm q1) ht om, q2⟩
  rw [if_neg c4]
  by_cases c5 : e.k % 9 = 5
  · rw [if_pos c5]; exact hchg om
  rw [if_neg c5]
  by_cases c6 : e.k % 9 = 6
  · rw [if_pos c6]; exact hchg om
  rw [if_neg c6]
  by_cases c7 : e.k % 9 = 7
  · rw [if_pos c7]
    have : weiX x e.p e.w = x := if_neg (by rw [h7 om]; simp)
    rw [this]; exact ⟨.keep (hm h) ht rfl om, .rfl x⟩
  rw [if_neg c7, if_pos om]
  split
  · exact hwait _ _ om
  · exact htake _ _ om
theorem F_do7 {S C t K : Nat} {x : Lkm} {tk : Int} {e : Dsc} (h : LkF S C t K x) (ht : x.ho.length = 1 → (t : Int) = tk) (h7 : e.k = 7) {p : Nat} (ep : e.p = p) (hp : p < x.ld.l.length) :
    DoF S C (K + 720720) x (doX x e) e.k tk ∧ (doX x e).ld.l.length = x.ld.l.length ∧ ∀ r, r < x.ld.l.length → (gP (doX x e).ld.l r).w = if r = p then bringO e.w 1 16 else (gP x.ld.l r).w := by
  have e1 : doX x e = weiX x p e.w := by
    unfold doX
    rw [if_neg om, if_neg om, if_neg om, if_neg om, if_neg om, if_neg om, if_neg om, if_pos om, ep]
  obtain ⟨q1, q2, q3, q4⟩ := F_wei h p hp e.w
  rw [e1]
  exact ⟨.keep (q1.mono (Nat.le_refl _) q1.tk (Nat.le_add_right _ _)) ht q2 om, q3, q4⟩
theorem F_new {S C : Nat} {gs : List Int} (hS : 1 ≤ S ∧ S ≤ 16) (hC : 1 ≤ C ∧ C ≤ 32) (hg : 1 ≤ gs.length ∧ gs.length ≤ 4) (hw : ∀ i, i < gs.length → 1 ≤ gs.getD i 0 ∧ gs.getD i 0 ≤ 16) :
    LkF S C 0 0 (lkNew ⟨false, S, C, 0, 0⟩ gs) ∧ (lkNew ⟨false, S, C, 0, 0⟩ gs).ld.l.length = gs.length ∧ ∀ r, r < gs.length → (gP (lkNew ⟨false, S, C, 0, 0⟩ gs).ld.l r).w = gs.getD r 0 := by
  have e4 : gs.take 4 = gs := List.take_of_length_le hg.2
  have e8 : gs.take 8 = gs := List.take_of_length_le om
  have el : (lkNew ⟨false, S, C, 0, 0⟩ gs).ld.l = gs.map (fun w => ⟨bringO w 1 16, 0#64, 0, false⟩) := by
    show ((lkWs ⟨false, S, C, 0, 0⟩ gs).take 8).map _ = _
    have : lkWs ⟨false, S, C, 0, 0⟩ gs = gs := by
      unfold lkWs; rw [if_neg (by simp)]; unfold lkG; rw [e4, if_neg om]
    rw [this, e8]
  have eg : ∀ r, r < gs.length → gP (lkNew ⟨false, S, C, 0, 0⟩ gs).ld.l r = ⟨gs.getD r 0, 0#64, 0, false⟩ := fun r hr => by
    rw [el]
    unfold gP
    rw [List.getD_eq_getElem?_getD, List.getElem?_map, List.getElem?_eq_getElem hr]
    have h1 := hw r hr
    rw [List.getD_eq_getElem?_getD, List.getElem?_eq_getElem hr] at h1
    have h2 : 1 ≤ gs[r] ∧ gs[r] ≤ 16 := h1
    show (⟨bringO gs[r] 1 16, 0#64, 0, false⟩ : Pty) = _
    rw [bring_id h2, List.getD_eq_getElem?_getD, List.getElem?_eq_getElem hr]; rfl
  have elen : (lkNew ⟨false, S, C, 0, 0⟩ gs).ld.l.length = gs.length := by rw [el, List.length_map]
  refine ⟨⟨lkNew_w _ _, rfl, bring_id (n := (S : Int)) om, ?_, ?_, hS, hC, fun p hp => ?_, fun p hp => ?_, fun p hp ha => ?_, fun g hg => (by cases hg), fun g hg => (by cases hg), Int.le_refl _, Nat.zero_le _, fun p hp => ?_, Nat.le_refl _⟩, elen, fun r hr => by rw [eg r hr]⟩
  · show bringO (bringO (S : Int) 1 16) 1 32 = S
    rw [bring_id (n := (S : Int)) om, bring_id om]
  · exact bring_id (n := (C : Int)) om
  · rw [eg p (elen ▸ hp)]; exact hw p (elen ▸ hp)
  · rw [eg p (elen ▸ hp), act_get]
    show false = (_ && (([] : List Int).any _ || ([] : List Int).any _))
    simp
  · rw [eg p (elen ▸ hp)] at ha; cases ha
  · unfold vN; rw [eg p (elen ▸ hp)]; exact Nat.le_refl _
structure ChF (S C : Nat) (B : Int) (ws : List Int) (xs : List Lkm) : Prop where
  at_ : ∀ (i : Nat) (x : Lkm), xs[i]? = some x → (∃ t K, LkF S C t K x) ∧ x.ld.l.length = ws.length ∧ (∀ r, r < ws.length → (gP x.ld.l r).w = ws.getD r 0) ∧ ∀ r, r < ws.length → 0 ≤ (gP x.ld.l r).h ∧ (gP x.ld.l r).h ≤ B
  st : ∀ (i : Nat) (x z : Lkm), xs[i]? = some x → xs[i + 1]? = some z → StP x z
theorem ChF.nil (S C : Nat) (B : Int) (ws : List Int) : ChF S C B ws [] := ⟨fun i x h => by simp at h, fun i x z h => by simp at h⟩
theorem ChF.snoc {S C : Nat} {B B' : Int} {ws : List Int} {xs : List Lkm} {z : Lkm} (h : ChF S C B ws xs) (hB : B ≤ B') (h1 : (∃ t K, LkF S C t K z) ∧ z.ld.l.length = ws.length ∧ (∀ r, r < ws.length → (gP z.ld.l r).w = ws.getD r 0) ∧ ∀ r, r < ws.length → 0 ≤ (gP z.ld.l r).h ∧ (gP z.ld.l r).h ≤ B')
    (h2 : ∀ x, xs[xs.length - 1]? = some x → StP x z) : ChF S C B' ws (xs ++ [z]) := by
  refine ⟨fun i x hi => ?_, fun i x y hi hj => ?_⟩
  · by_cases c : i < xs.length
    · rw [List.getElem?_append_left c] at hi
      obtain ⟨q1, q2, q3, q4⟩ := h.at_ i x hi
      exact ⟨q1, q2, q3, fun r hr => by have := q4 r hr; omega⟩
    · rw [List.getElem?_append_right om] at hi
      have : i - xs.length = 0 := by
        apply Classical.byContradiction; intro q
        obtain ⟨m, hm⟩ : ∃ m, i - xs.length = m + 1 := ⟨i - xs.length - 1, by omega⟩
        rw [hm] at hi; simp at hi
      rw [this] at hi
      have : x = z := by simpa using hi.symm
      rw [this]; exact h1
  · by_cases c : i + 1 < xs.length
    · rw [List.getElem?_append_left om] at hi
      rw [List.getElem?_append_left c] at hj
      exact h.st i x y hi hj
    · have hil : i < (xs ++ [z]).length := (List.getElem?_eq_some_iff.1 hi).1
      have hjl : i + 1 < (xs ++ [z]).length := (List.getElem?_eq_some_iff.1 hj).1
      rw [List.length_append, List.length_singleton] at hjl
      have e : i + 1 = xs.length := by omega
      rw [List.getElem?_append_left om] at hi
      rw [List.getElem?_append_right om, e, Nat.sub_self] at hj
      have : y = z := by simpa using hj.symm
      rw [this]
      exact h2 x (by rw [show xs.length - 1 = i by omega]; exact hi)
theorem ChF.run {S C : Nat} {B : Int} {ws : List Int} {xs : List Lkm} (h : ChF S C B ws xs) {i : Nat} {x : Lkm} (hx : xs[i]? = some x) {p : Nat} (hp : p < ws.length) (hb : (actS x).getLsbD p = true) : ∀ (j : Nat) (z : Lkm), xs[i + j]? = some z → (∀ k y, k ≤ j → xs[i + k]? = some y → actS y = actS x) →
    ∃ n : Nat, (gP z.ld.l p).h = (gP x.ld.l p).h + n ∧ vN z.ld p = vN x.ld p + (lockO (ws.getD p 0)).toNat * n
  | 0, z, hz, _ => by
    have : z = x := by rw [Nat.add_zero, hx] at hz; exact (Option.some.inj hz).symm
    rw [this]; exact ⟨0, by simp, by simp⟩
  | j + 1, z, hz, ha => by
    have hl : i + j < xs.length := by have := (List.getElem?_eq_some_iff.1 hz).1; omega
    obtain ⟨y, hy⟩ : ∃ y, xs[i + j]? = some y := ⟨_, List.getElem?_eq_getElem hl⟩
    obtain ⟨n, h1, h2⟩ := h.run hx hp hb j y hy (fun k y' hk => ha k y' om)
    obtain ⟨⟨t, K, hF⟩, e1, e2, _⟩ := h.at_ _ y hy
    have hya : (gP y.ld.l p).a = true := by rw [hF.ac p om, ha j y om hy]; exact hb
    obtain ⟨m, h3, h4⟩ := (h.st (i + j) y z hy (by rw [show i + j + 1 = i + (j + 1) by omega]; exact hz)).hv p om hya
    refine ⟨n + m, by omega, ?_⟩
    rw [h4, h2]
    have : cN y.ld p = (lockO (ws.getD p 0)).toNat := by unfold cN; rw [e2 p hp]
    rw [this, Nat.mul_add]; omega
end Go.Eng
namespace Go.Eng
open Go Go.Proofs Go.RowKit
abbrev bI (n : Int) : BitVec 64 := BitVec.ofInt 64 n
theorem bI_nat {n : Int} (h : 0 ≤ n) (h2 : n < 4294967296) : (bI n).toNat = n.toNat := by
  rw [BitVec.toNat_ofInt, Int.emod_eq_of_lt h (by show n < 18446744073709551616; omega)]
theorem bI_lt {x y : Int} (hx : 0 ≤ x ∧ x < 4294967296) (hy : 0 ≤ y ∧ y < 4294967296) : (bI x).toNat < (bI y).toNat ↔ x < y := by
  rw [bI_nat hx.1 hx.2, bI_nat hy.1 hy.2]; omega
theorem bI_mask {n : Int} (h : 0 ≤ n ∧ n < 4294967296) : bI n &&& 4294967295#64 = bI n := by
  apply BitVec.eq_of_toNat_eq
  rw [BitVec.toNat_and, bI_nat h.1 h.2, show (4294967295#64).toNat = 2 ^ 32 - 1 from rfl, Nat.and_two_pow_sub_one_eq_mod]
  exact Nat.mod_eq_of_lt om
theorem bI_shr {n : Int} (h : 0 ≤ n ∧ n < 4294967296) : bI n >>> 32 = 0#64 := by
  apply BitVec.eq_of_toNat_eq
  rw [BitVec.toNat_ushiftRight, bI_nat h.1 h.2, Nat.shiftRight_eq_div_pow]
  exact Nat.div_eq_of_lt om
theorem bI_mul (a b : Int) : bI a * bI b = bI (a * b) := (BitVec.ofInt_mul a b).symm
theorem bI_add (a b : Int) : bI a + bI b = bI (a + b) := (BitVec.ofInt_add a b).symm
theorem cmp_bI {x y : Int} (hx : 0 ≤ x ∧ x < 4294967296) (hy : 0 ≤ y ∧ y < 4294967296) : cmpU (bI x) (bI y) = cmpI x y := by
  unfold cmpU cmpI
  by_cases h : x < y
  · rw [if_pos ((bI_lt hx hy).2 h), if_pos h]
  · rw [if_neg (fun q => h ((bI_lt hx hy).1 q)), if_neg h]
    by_cases h2 : y < x
    · rw [if_pos ((bI_lt hy hx).2 h2), if_pos h2]
    · rw [if_neg (fun q => h2 ((bI_lt hy hx).1 q)), if_neg h2]
theorem or_find (c : Int) : orL [cmpU 0#64 0#64, c] = c := by
  rw [show cmpU 0#64 0#64 = 0 from rfl]
  by_cases h : c = 0
  · subst h; rfl
  · simp [orL, h]
theorem sub64_bI {x y : Int} (hx : 0 ≤ x ∧ x < 4294967296) (hy : 0 ≤ y ∧ y ≤ x) (w : World) : (callFunc 165 #[U (bI x), U (bI y), U 0#64]).run Tryz.prog w = .ok (.value (.tuple #[U (bI (x - y)), U 0#64])) w := by
  have h := run_callFunc_extern (P := Tryz.prog) (e := sub64Entry) (f := 165) Tryz.func165 kr kr kr kr #[U (bI x), U (bI y), U 0#64] w
  rw [h, show (#[U (bI x), U (bI y), U 0#64] : Array Value) = #[.int .u64 ((bI x).toNat : Int), .int .u64 ((bI y).toNat : Int), .int .u64 ((0 : Nat) : Int)] from rfl, run_sub64 (bI x).toNat (bI y).toNat 0 (by decide) w]
  rw [bI_nat hx.1 hx.2, bI_nat hy.1 om]
  have e1 : (((x.toNat + 18446744073709551616 - y.toNat - 0) % 18446744073709551616 : Nat) : Int) = ((bI (x - y)).toNat : Int) := by
    rw [bI_nat om om]; omega
  simp only [Result.andThen]
  rw [e1, if_neg (by omega : ¬ x.toNat < y.toNat + 0)]
  rfl
theorem cmpI_neg {x y : Int} (h : cmpI x y < 0) : x < y := by unfold cmpI at h; split at h; assumption; split at h <;> omega
theorem cmpI_nneg {x y : Int} (h : ¬ cmpI x y < 0) : ¬ x < y := by unfold cmpI at h; split at h; omega; assumption
theorem cmpI_le (x y : Int) : decide (cmpI x y ≤ 0) = decide (x ≤ y) := by
  refine decide_eq_decide.2 ?_
  unfold cmpI; split
  · exact ⟨fun _ => by omega, fun _ => by decide⟩
  · split
    · exact ⟨fun q => absurd q (by decide), fun q => by omega⟩
    · exact ⟨fun _ => by omega, fun _ => by decide⟩
theorem mul_bd {a b A B : Int} (ha : 0 ≤ a ∧ a ≤ A) (hb : 0 ≤ b ∧ b ≤ B) : 0 ≤ a * b ∧ a * b ≤ A * B := ⟨Int.mul_nonneg ha.1 hb.1, Int.mul_le_mul ha.2 hb.2 hb.1 (Int.le_trans ha.1 ha.2)⟩
theorem mul64_spec (a b : Int) (w : World) (ha : 0 ≤ a ∧ a < 4294967296) (hb : 0 ≤ b ∧ b < 4294967296) (hab : 0 ≤ a * b ∧ a * b < 4294967296) : Ret Tryz.prog 164 #[U (bI a), U (bI b)] w (fun v w' => v = .tuple #[U 0#64, U (bI (a * b))] ∧ Ext w w') := by
 refine Ret.enterM Tryz.func164 rfl Tryz.ntmps164 rfl ([]) (no) (Mem.nil w) ?_
 refine wR <| LM.as rfl <| LM.as rfl <| nB [(0, _), (1, _)] <| LM.mv rfl ?_
 refine LM.val (ov_uand (b := 4294967295#64) rfl rfl) ?_
 refine LM.as rfl <| nB [(0, _), (1, _), (6, _)] <| LM.mv rfl ?_
 refine LM.val (ov_ushr rfl rfl om) ?_
 refine LM.as rfl <| nB [(0, _), (1, _), (6, _), (7, _)] <| LM.mv rfl ?_
 refine LM.val (ov_uand (b := 4294967295#64) rfl rfl) ?_
 refine LM.as rfl <| nB [(0, _), (1, _), (6, _), (7, _), (8, _)] <| LM.mv rfl ?_
 refine LM.val (ov_ushr rfl rfl om) ?_
 refine LM.as rfl <| nB [(0, _), (1, _), (6, _), (7, _), (8, _), (9, _)] <| LM.mv rfl <| LM.mv rfl ?_
 refine LM.val (ov_umul rfl rfl) ?_
 refine LM.as rfl <| nB [(0, _), (1, _), (6, _), (7, _), (8, _), (9, _), (10, _)] <| LM.mv rfl <| LM.mv rfl ?_
 refine LM.val (ov_umul rfl rfl) ?_
 refine LM.mv rfl ?_
 refine LM.val (ov_ushr rfl rfl om) ?_
 refine LM.val (ov_uadd rfl rfl) ?_
 refine LM.as rfl <| nB [(0, _), (1, _), (6, _), (7, _), (9, _), (11, _)] <| LM.mv rfl ?_
 refine LM.val (ov_uand (b := 4294967295#64) rfl rfl) ?_
 refine LM.as rfl <| nB [(0, _), (1, _), (6, _), (7, _), (9, _), (11, _), (12, _)] <| LM.mv rfl ?_
 refine LM.val (ov_ushr rfl rfl om) ?_
 refine LM.as rfl <| nB [(0, _), (1, _), (6, _), (7, _), (9, _), (12, _), (13, _)] <| LM.mv rfl <| LM.mv rfl <| LM.mv rfl ?_
 refine LM.val (ov_umul rfl rfl) ?_
 refine LM.val (ov_uadd rfl rfl) ?_
 refine LM.as rfl <| nB [(0, _), (1, _), (7, _), (9, _), (12, _), (13, _)] <| LM.mv rfl <| LM.mv rfl ?_
 refine LM.val (ov_umul rfl rfl) ?_
 refine LM.mv rfl ?_
 refine LM.val (ov_uadd rfl rfl) ?_
 refine LM.mv rfl ?_
 refine LM.val (ov_ushr rfl rfl om) ?_
 refine LM.val (ov_uadd rfl rfl) ?_
 refine LM.as rfl <| nB [(0, _), (1, _), (4, _)] <| LM.mv rfl <| LM.mv rfl ?_
 refine LM.val (ov_umul rfl rfl) ?_
 refine LM.as rfl <| nA [(4, _), (5, _)] <| wpM.ret ?_
 refine QM.leave (.inl rfl) [.tmp 4, .tmp 5] Tryz.results164 rfl ?_
 intro w' hm' hc' hg'
 refine ⟨?_, hc'⟩; simp only [resV, show Int.toNat 32 = 32 from rfl, bI_mask ha, bI_mask hb, bI_shr ha, bI_shr hb, bI_mul, bI_shr hab, BitVec.zero_mul, BitVec.mul_zero, BitVec.zero_add, BitVec.add_zero, BitVec.zero_and, BitVec.zero_ushiftRight]
theorem times_spec (a b : Int) (w : World) (ha : 0 ≤ a ∧ a < 4294967296) (hb : 0 ≤ b ∧ b < 4294967296) (hab : 0 ≤ a * b ∧ a * b < 4294967296) : Ret Tryz.prog 145 #[U (bI a), U (bI b)] w (fun v w' => v = .agg #[U 0#64, U (bI (a * b))] ∧ Ext w w') := by
 refine Ret.enterM Tryz.func145 rfl Tryz.ntmps145 rfl ([]) (no) (Mem.nil w) ?_
 refine wR ?_
 refine LM.alloc Tryz.zeroValue179 rfl (fun b4 hb4 => ?_)
 refine nB [(0, _), (1, _), (4, _)] <| LM.mv rfl <| LM.mv rfl ?_
 refine cE Tryz.func164 rfl (fun w hm hc hg => mul64_spec a b w ha hb hab) ?_
 refine LM.mv rfl <| LM.val (ov_extract rfl rfl) <| LM.val (ov_extract rfl rfl) <| LM.as rfl <| LM.as rfl <| nB [(4, _), (5, _), (6, _)] <| LM.mv rfl <| LM.mv rfl ?_
 refine LM.val (ov_build (cs := #[_, _]) rfl (by first | rfl | kernel_rfl)) ?_
 refine LM.stW Tryz.sizeOf179 rfl rfl rfl rfl au7 au8 ?_
 refine nA [(4, _)] <| wpM.ret ?_
 refine QM.leaveCs (ds := ([])) (.inl rfl) [.cell 4 179] Tryz.results145 hd_nil (rc_w rfl Tryz.isAgg179 Tryz.sizeOf179 rfl rc_nil) ?_
 intro w' hm' hc'
 exact ⟨rfl, hc'⟩
theorem wagainst_spec (x y : Int) (w : World) (hx : 0 ≤ x ∧ x < 4294967296) (hy : 0 ≤ y ∧ y < 4294967296) : Ret Tryz.prog 147 #[.agg #[U 0#64, U (bI x)], .agg #[U 0#64, U (bI y)]] w (fun v w' => v = .int .i64 (cmpI x y) ∧ Ext w w') := by
 refine Ret.enterM Tryz.func147 rfl Tryz.ntmps147 rfl ([]) (no) (Mem.nil w) ?_
 refine wR ?_
 refine LM.box rfl rfl (fun b2 hb2 => ?_)
 refine LM.box rfl rfl (fun b3 hb3 => ?_)
 refine LM.as rfl <| nA [(2, _), (3, _)] <| wpM.seq ?_
 refine wpM.draw [(0, 0), (1, 1), (2, 0), (3, 1), (5, 0), (6, 1), (7, 0), (8, 1), (4, 2), (9, 2), (10, 3), (11, 3), (12, 3)] kr kr ?_
 refine LD.val rfl rfl (ovf 51 rfl rfl rfl rfl) ?_
 refine LD.rd rfl rfl (oml rfl rfl rfl) ?_
 refine LD.val rfl rfl (ovf 51 rfl rfl rfl rfl) ?_
 refine LD.rd rfl rfl (oml rfl rfl rfl) ?_
 refine LD.val rfl rfl (ovf 51 rfl rfl rfl rfl) ?_
 refine LD.rd rfl rfl (oml rfl rfl rfl) ?_
 refine LD.val rfl rfl (ovf 51 rfl rfl rfl rfl) ?_
 refine LD.rd rfl rfl (oml rfl rfl rfl) ?_
 refine dE rfl rfl Tryz.func167 rfl (fun w hm hc hg => cmpU_spec 0#64 0#64 w) ?_
 refine dE rfl rfl Tryz.func167 rfl (fun w hm hc hg => cmpU_spec (bI x) (bI y) w) ?_
 refine LD.tail rfl rfl ?_
 refine LM.row (vs := [_, _]) Tryz.underlying24 Tryz.sizeOf3 Tryz.zeroValue3 rfl rfl rfl rfl rfl rfl (fun b15 hb15 => ?_)
 refine cE Tryz.func166 rfl (fun w hm hc hg => (or_find (cmpU (bI x) (bI y))) ▸ cmpOr_spec (l := [cmpU 0#64 0#64, cmpU (bI x) (bI y)]) w rfl (Sr.row (hm.at b15) rfl rfl (Nat.le_refl _) (fun _ => rfl)) (by simp)) ?_
 refine LM.as rfl ?_
 refine LM.nil ?_
 refine QM.qn ?_
 refine QM.sub (e' := [(4, _)]) ⟨rfl, trivial⟩ (QM.then ?_)
 refine wpM.ret ?_
 refine qL Tryz.results147 rfl fun w' hm' hc' hg' => ?_
 refine ⟨?_, hc'⟩; simp only [resV]; rw [cmp_bI hx hy]
def aptI (x y : Int) : Int := if x < y then y - x else x - y
theorem apart_spec (x y : Int) (w : World) (hx : 0 ≤ x ∧ x < 4294967296) (hy : 0 ≤ y ∧ y < 4294967296) : Ret Tryz.prog 146 #[.agg #[U 0#64, U (bI x)], .agg #[U 0#64, U (bI y)]] w (fun v w' => v = .agg #[U 0#64, U (bI (aptI x y))] ∧ Ext w w') := by
 refine Ret.enterM Tryz.func146 rfl Tryz.ntmps146 rfl ([]) (no) (Mem.nil w) ?_
 refine wR ?_
 refine LM.box rfl rfl (fun b2 hb2 => ?_)
 refine LM.box rfl rfl (fun b3 hb3 => ?_)
 refine LM.alloc Tryz.zeroValue179 rfl (fun b4 hb4 => ?_)
 refine nA [(2, _), (3, _), (4, _)] <| wpM.seq <| wR ?_
 refine LM.rd (om_ldW Tryz.isAgg179 Tryz.sizeOf179 rfl rfl) ?_
 refine LM.rd (om_ldW Tryz.isAgg179 Tryz.sizeOf179 rfl rfl) ?_
 refine cE Tryz.func147 rfl (fun w hm hc hg => wagainst_spec x y w hx hy) ?_
 refine LM.val (ov_lss rfl rfl) <| nA [(2, _), (3, _), (4, _), (12, _)] ?_
 refine wpM.joinK (α := Int × Int) (fun ⟨p, q⟩ => []) [(2, _), (3, _), (4, _)] (fun ⟨p, q⟩ => (b2, .cells #[U 0#64, U (bI p)] 179 (0, 0)) :: (b3, .cells #[U 0#64, U (bI q)] 179 (0, 0)) :: (b4, .cells #[U 0#64, U 0#64] 179 (0, 0)) :: []) (fun ⟨p, q⟩ => 0 ≤ q ∧ q ≤ p ∧ p < 4294967296 ∧ p - q = aptI x y) ⟨rfl, rfl, rfl, trivial⟩ ?_ ?_
 ·
  refine wpM.condD rfl (fun h1 => ?_) (fun h1 => ?_)
  ·
   refine wpM.region ?_
   refine LM.rd (om_ldW Tryz.isAgg179 Tryz.sizeOf179 rfl rfl) ?_
   refine LM.rd (om_ldW Tryz.isAgg179 Tryz.sizeOf179 rfl rfl) ?_
   refine LM.stW Tryz.sizeOf179 rfl rfl rfl rfl au7 au8 ?_
   refine LM.stW Tryz.sizeOf179 rfl rfl rfl rfl au7 au8 ?_
   refine LM.mem (SubM.mem (M' := (b2, .cells #[U 0#64, U (bI y)] 179 (0, 0)) :: (b3, .cells #[U 0#64, U (bI x)] 179 (0, 0)) :: (b4, .cells #[U 0#64, U 0#64] 179 (0, 0)) :: []) au1) ?_
   refine nC [(2, _), (3, _), (4, _)] ?_
   refine QM.meetK (y, x) ⟨rfl, rfl, rfl, trivial⟩ au1 ?_
   · have h2 : x < y := cmpI_neg h1; exact ⟨hx.1, by omega, hy.2, (if_pos h2).symm⟩
  refine wpM.skip ?_
  refine QM.meetK (x, y) ⟨rfl, rfl, rfl, trivial⟩ au1 ?_
  · have h2 : ¬ x < y := cmpI_nneg h1; exact ⟨hy.1, by omega, hx.2, (if_neg h2).symm⟩
 rintro ⟨p, q⟩ ⟨hq0, hqp, hp, he⟩
 change QM _ _ _ _ _ ((b2, .cells #[U 0#64, U (bI p)] 179 (0, 0)) :: (b3, .cells #[U 0#64, U (bI q)] 179 (0, 0)) :: (b4, .cells #[U 0#64, U 0#64] 179 (0, 0)) :: []) _ _ _
 refine tR <| LM.val (ovf 51 rfl rfl rfl rfl) ?_
 refine LM.rd (oml rfl rfl rfl) ?_
 refine LM.val (ovf 51 rfl rfl rfl rfl) ?_
 refine LM.rd (oml rfl rfl rfl) ?_
 refine LM.val (ov_callX rfl (sub64_bI ⟨by omega, hp⟩ ⟨hq0, hqp⟩)) ?_
 refine LM.mv rfl <| LM.val (ov_extract rfl rfl) <| LM.val (ov_extract rfl rfl) <| LM.as rfl <| LM.as rfl <| nB [(2, _), (3, _), (4, _), (5, _), (6, _)] <| LM.val (ovf 51 rfl rfl rfl rfl) ?_
 refine LM.rd (oml rfl rfl rfl) ?_
 refine LM.val (ovf 51 rfl rfl rfl rfl) ?_
 refine LM.rd (oml rfl rfl rfl) ?_
 refine LM.mv rfl ?_
 refine LM.val (ov_callX rfl (sub64_bI (x := 0) (y := 0) ⟨by decide, by decide⟩ ⟨by decide, by decide⟩)) ?_
 refine LM.mv rfl <| LM.val (ov_extract rfl rfl) <| LM.val (ov_extract rfl rfl) <| LM.as rfl <| LM.as rfl <| nB [(4, _), (5, _), (7, _)] <| LM.mv rfl <| LM.mv rfl ?_
 refine LM.val (ov_build (cs := #[_, _]) rfl (by first | rfl | kernel_rfl)) ?_
 refine LM.stW Tryz.sizeOf179 rfl rfl rfl rfl au7 au8 ?_
 refine nA [(4, _)] <| wpM.ret ?_
 refine QM.leaveCs (ds := ([])) (.inl rfl) [.cell 4 179] Tryz.results146 hd_nil (rc_w rfl Tryz.isAgg179 Tryz.sizeOf179 rfl rc_nil) ?_
 intro w' hm' hc'
 rw [← he]; exact ⟨rfl, hc'⟩
theorem near_spec (a wt t al k : Int) (w : World) (ha : 0 ≤ a ∧ a ≤ 1000) (hw : 0 ≤ wt ∧ wt ≤ 100000) (ht : 0 ≤ t ∧ t ≤ 1000) (hl : 0 ≤ al ∧ al ≤ 100000) (hk : 0 ≤ k ∧ k ≤ 1000) : Ret Tryz.prog 121 #[U (bI a), U (bI wt), U (bI t), U (bI al), U (bI k)] w (fun v w' => v = .bool (decide (aptI (a * al) (wt * t) ≤ k * al)) ∧ Ext w w') := by
 have h1 := mul_bd ha hl; have h2 := mul_bd hw ht; have h3 := mul_bd hk hl; have h4 : 0 ≤ aptI (a * al) (wt * t) ∧ aptI (a * al) (wt * t) < 4294967296 := (by unfold aptI; split <;> omega)
 refine Ret.enterM Tryz.func121 rfl Tryz.ntmps121 rfl ([]) (no) (Mem.nil w) ?_
 refine wR <| LM.as rfl <| nB [(0, _), (1, _), (2, _), (3, _), (4, _)] <| LM.mv rfl <| LM.mv rfl ?_
 refine cE Tryz.func145 rfl (fun w hm hc hg => times_spec a al w om om ⟨h1.1, by omega⟩) ?_
 refine LM.mv rfl <| LM.mv rfl ?_
 refine cE Tryz.func145 rfl (fun w hm hc hg => times_spec wt t w om om ⟨h2.1, by omega⟩) ?_
 refine cE Tryz.func146 rfl (fun w hm hc hg => apart_spec (a * al) (wt * t) w ⟨h1.1, by omega⟩ ⟨h2.1, by omega⟩) ?_
 refine LM.mv rfl <| LM.mv rfl ?_
 refine cE Tryz.func145 rfl (fun w hm hc hg => times_spec k al w om om ⟨h3.1, by omega⟩) ?_
 refine cE Tryz.func147 rfl (fun w hm hc hg => wagainst_spec (aptI (a * al) (wt * t)) (k * al) w h4 ⟨h3.1, by omega⟩) ?_
 refine LM.val (ov_leq rfl rfl) <| LM.as rfl <| nA [(10, _)] <| wpM.ret ?_
 refine qL Tryz.results121 rfl fun w' hm' hc' hg' => ?_
 refine ⟨?_, hc'⟩; simp only [resV]; rw [cmpI_le]
abbrev gI0 (l : List Int) : Nat → Int := fun j => l.getD j 0
theorem fits_spec {n cap n' cap' : Nat} {ad ad' : Option Addr} (w : World) (hn : n = n') (hl : n ≤ 64) : Ret Tryz.prog 119 #[.slice ad n cap, .slice ad' n' cap'] w (fun v w' => v = .bool true ∧ Ext w w') := by
 refine Ret.enterM Tryz.func119 rfl Tryz.ntmps119 rfl ([]) (no) (Mem.nil w) ?_
 refine wR <| LM.as rfl <| nB [(0, _), (1, _)] <| LM.mv rfl <| LM.val (ov_len Tryz.underlying24 rfl) <| LM.mv rfl <| LM.val (ov_len Tryz.underlying24 rfl) <| LM.val (ov_eql rfl rfl) <| LM.mv rfl ?_
 refine LM.splitD (t := 10) rfl (fun h1 => ?_) (fun h1 => ?_)
 ·
  refine LM.sp 10 rfl rfl rfl <| LM.mv rfl <| LM.sp 10 rfl rfl rfl <| LM.val (ov_len Tryz.underlying24 rfl) <| LM.sp 10 rfl rfl rfl <| LM.val (ov_leq rfl rfl) <| LM.val (ov_pickT rfl rfl) <| LM.as rfl <| nA [(4, _)] <| wpM.ret ?_
  refine qL Tryz.results119 rfl fun w' hm' hc' hg' => ?_
  refine ⟨?_, hc'⟩; show Value.bool (decide ((n : Int) ≤ 64)) = _; rw [decide_eq_true om]
 exact absurd om h1
theorem sums_spec {ts ws : List Int} {n cap n' cap' : Nat} {ad ad' : Option Addr} (w : World) (hn : n = ts.length) (hn' : n' = ws.length) (hl : Sr fI 1 ts (.slice ad n cap) w) (hl' : Sr fI 1 ws (.slice ad' n' cap') w) (he : ts.length = ws.length) (h16 : ts.length ≤ 16) (ht : ∀ i, i < ts.length → 0 ≤ ts.getD i 0 ∧ ts.getD i 0 ≤ 1000) (hw : ∀ i, i < ts.length → 1 ≤ ws.getD i 0 ∧ ws.getD i 0 ≤ 4096) : Ret Tryz.prog 120 #[.slice ad n cap, .slice ad' n' cap'] w (fun v w' => v = .tuple #[U (bI (smI (gI0 ts) ts.length)), U (bI (smI (gI0 ws) ts.length))] ∧ Ext w w') := by
 refine Ret.enterM Tryz.func120 rfl Tryz.ntmps120 rfl ([]) (no) (Mem.nil w) ?_
 refine wR <| LM.as rfl <| LM.as rfl <| nB [(0, _), (1, _)] <| LM.as rfl <| LM.as rfl <| nA [(0, _), (1, _), (6, _), (7, _)] <| wpM.seq <| wR <| LM.mv rfl <| LM.val (ov_len Tryz.underlying24 rfl) <| LM.mv rfl <| nA [(0, _), (1, _), (6, _), (7, _), (10, _), (11, _)] <| wpM.block ?_
 refine wpM.loopK0 (α := Nat) (fun i => [(6, U (bI (smI (gI0 ts) i))), (7, U (bI (smI (gI0 ws) i))), (11, .int .i64 (i : Nat))]) [(0, _), (1, _), (10, _)] (fun i => []) (fun i => i ≤ ts.length) (fun i => ts.length - i) (0) ⟨(by first | rfl | exact lk rfl (by rw [bring_id ⟨(ht i om).1, by have := (ht i om).2; omega⟩, bI_add]; rfl)), (by first | rfl | exact lk rfl (by rw [bring_id (hw i om), bI_add]; rfl)), au2, rfl, rfl, rfl, trivial⟩ au1 (Nat.zero_le _) ?_
 rintro i hi
 change wpM _ _ _ _ _ _ _ ([]) _ _ _
 refine wR <| LM.val (ov_lss rfl rfl) <| nA [(0, _), (1, _), (6, _), (7, _), (10, _), (11, _), (12, _)] <| wpM.seq ?_
 refine wpM.condD rfl (fun h1 => ?_) (fun h1 => ?_)
 ·
  refine wpM.skip <| QM.then <| wpM.seq <| wpM.block <| wR <| LM.mv rfl <| LM.as rfl <| nB [(0, _), (1, _), (6, _), (7, _), (8, _), (10, _), (11, _)] <| LM.mv rfl <| LM.mv rfl <| LM.mv rfl ?_
  refine LM.val (ov_idxSN au6 Tryz.underlying24 Tryz.sizeOf3 rfl rfl om) ?_
  refine LM.rdC (om_sr1 asm Tryz.isAgg3 rfl rfl (by exact getq 0 au4) (by rfl) id) ?_
  refine cE Tryz.func122 rfl (fun w hm hc hg => ubring_spec (ts.getD i 0) 0 2147483648 w (by decide)) ?_
  refine LM.val (ov_uadd rfl rfl) ?_
  refine LM.as rfl ?_
  refine LM.nil (QM.sub (e' := [(0, _), (1, _), (6, _), (7, _), (8, _), (10, _), (11, _)]) au9 (QM.then (wpM.region ?_)))
  refine LM.mv rfl <| LM.mv rfl <| LM.mv rfl ?_
  refine LM.val (ov_idxSN au6 Tryz.underlying24 Tryz.sizeOf3 rfl rfl om) ?_
  refine LM.rdC (om_sr1 asm Tryz.isAgg3 rfl rfl (by exact getq 0 au4) (by rfl) id) ?_
  refine cE Tryz.func122 rfl (fun w hm hc hg => ubring_spec (ws.getD i 0) 1 4096 w (by decide)) ?_
  refine LM.val (ov_uadd rfl rfl) ?_
  refine LM.as rfl <| nC [(0, _), (1, _), (6, _), (7, _), (10, _), (11, _)] <| QM.block_normal ?_
  refine QM.then (wpM.region ?_)
  refine LM.val (ov_add64 rfl rfl om) ?_
  refine LM.mv rfl <| nC [(0, _), (1, _), (6, _), (7, _), (10, _), (11, _)] ?_
  refine QM.againK (i + 1) ⟨(by first | rfl | exact lk rfl (by rw [bring_id ⟨(ht i om).1, by have := (ht i om).2; omega⟩, bI_add]; rfl)), (by first | rfl | exact lk rfl (by rw [bring_id (hw i om), bI_add]; rfl)), au2, rfl, rfl, rfl, trivial⟩ au1 (fun _ h => h) ?_ ?_
  · omega
  · omega
 refine wpM.exit <| QM.then_exit <| QM.then_exit <| QM.block_hit <| tR <| LM.mv rfl <| LM.mv rfl <| LM.as rfl <| LM.as rfl <| nA [(4, _), (5, _)] <| wpM.ret ?_
 refine QM.leave (.inl rfl) [.tmp 4, .tmp 5] Tryz.results120 rfl ?_
 intro w' hm' hc' hg'
 have hil : i = ts.length := om; subst hil; exact ⟨rfl, hc'⟩
theorem fair_spec {ts ws : List Int} {n cap n' cap' : Nat} {ad ad' : Option Addr} (k : Int) (w : World) (hn : n = ts.length) (hn' : n' = ws.length) (hl : Sr fI 1 ts (.slice ad n cap) w) (hl' : Sr fI 1 ws (.slice ad' n' cap') w) (he : ts.length = ws.length) (h16 : ts.length ≤ 16) (ht : ∀ i, i < ts.length → 0 ≤ ts.getD i 0 ∧ ts.getD i 0 ≤ 1000) (hw : ∀ i, i < ts.length → 1 ≤ ws.getD i 0 ∧ ws.getD i 0 ≤ 4096) (hT : 0 ≤ smI (gI0 ts) ts.length ∧ smI (gI0 ts) ts.length ≤ 1000) (hW : 0 ≤ smI (gI0 ws) ts.length ∧ smI (gI0 ws) ts.length ≤ 100000) (hk : 0 ≤ k ∧ k ≤ 1000) (hF : ∀ i, i < ts.length → aptI (ts.getD i 0 * smI (gI0 ws) ts.length) (ws.getD i 0 * smI (gI0 ts) ts.length) ≤ k * smI (gI0 ws) ts.length) : Ret Tryz.prog 80 #[.slice ad n cap, .slice ad' n' cap', .int .i64 k] w (fun v w' => v = .bool true ∧ Ext w w') := by
 refine Ret.enterM Tryz.func80 rfl Tryz.ntmps80 rfl ([]) (no) (Mem.nil w) ?_
 refine wR <| LM.as rfl <| nA [(0, _), (1, _), (2, _)] <| wpM.seq <| wR <| LM.mv rfl <| LM.mv rfl ?_
 refine cE Tryz.func119 rfl (fun w hm hc hg => fits_spec w om om) ?_
 refine LM.val (ov_not rfl) ?_
 refine nA [(0, _), (1, _), (2, _), (13, _)] ?_
 refine wpM.condB rfl (fun h1 => ?_) (fun h1 => ?_)
 ·
  cases h1
 refine wpM.skip <| tR <| LM.mv rfl <| LM.mv rfl ?_
 refine cE Tryz.func120 rfl (fun w hm hc hg => sums_spec w hn hn' (hl.ext hc) (hl'.ext hc) he h16 ht hw) ?_
 refine LM.mv rfl <| LM.val (ov_extract rfl rfl) <| LM.val (ov_extract rfl rfl) <| LM.as rfl <| LM.as rfl <| nA [(0, _), (1, _), (2, _), (7, _), (8, _)] <| wpM.seq <| wR <| LM.mv rfl <| LM.val (ov_len Tryz.underlying24 rfl) <| LM.mv rfl <| nA [(0, _), (1, _), (2, _), (7, _), (8, _), (21, _), (22, _)] <| wpM.block ?_
 refine wpM.loopK0 (α := Nat) (fun i => [(22, .int .i64 (i : Nat))]) [(0, _), (1, _), (2, _), (7, _), (8, _), (21, _)] (fun i => []) (fun i => i ≤ ts.length) (fun i => ts.length - i) (0) ⟨au2, rfl, rfl, rfl, rfl, rfl, rfl, trivial⟩ au1 (Nat.zero_le _) ?_
 rintro i hi
 change wpM _ _ _ _ _ _ _ ([]) _ _ _
 refine wR <| LM.val (ov_lss rfl rfl) <| nA [(0, _), (1, _), (2, _), (7, _), (8, _), (21, _), (22, _), (23, _)] <| wpM.seq ?_
 refine wpM.condD rfl (fun h2 => ?_) (fun h2 => ?_)
 ·
  have hti := ht i om; have hwi := hw i om; have hFi := hF i om
  refine wpM.skip <| QM.then <| wpM.seq <| wpM.block <| wR <| LM.mv rfl <| LM.as rfl <| nA [(0, _), (1, _), (2, _), (7, _), (8, _), (9, _), (21, _), (22, _)] <| wpM.seq ?_
  refine wpM.draw [(0, 0), (1, 0), (2, 0), (3, 1), (5, 0), (6, 0), (7, 0), (8, 1), (10, 0), (11, 0), (12, 0), (4, 2), (9, 2), (13, 2), (14, 2), (15, 0)] kr kr ?_
  refine LD.val rfl rfl (ov_move rfl) <| LD.val rfl rfl (ov_move rfl) ?_
  refine LD.val rfl rfl (ov_idxSN au6 Tryz.underlying24 Tryz.sizeOf3 rfl rfl om) ?_
  refine LD.rdC rfl rfl (om_sr1 asm Tryz.isAgg3 rfl rfl (by exact getq 0 au4) (by rfl) id) ?_
  refine LD.val rfl rfl (ov_move rfl) <| LD.val rfl rfl (ov_move rfl) ?_
  refine LD.val rfl rfl (ov_idxSN au6 Tryz.underlying24 Tryz.sizeOf3 rfl rfl om) ?_
  refine LD.rdC rfl rfl (om_sr1 asm Tryz.isAgg3 rfl rfl (by exact getq 0 au4) (by rfl) id) ?_
  refine LD.val rfl rfl (ov_move rfl) <| LD.val rfl rfl (ov_move rfl) <| LD.val rfl rfl (ov_move rfl) ?_
  refine dE rfl rfl Tryz.func122 rfl (fun w hm hc hg => (bring_id (n := ts.getD i 0) (lo := 0) (hi := 2147483648) ⟨hti.1, by omega⟩) ▸ ubring_spec (ts.getD i 0) 0 2147483648 w (by decide)) ?_
  refine dE rfl rfl Tryz.func122 rfl (fun w hm hc hg => (bring_id hwi) ▸ ubring_spec (ws.getD i 0) 1 4096 w (by decide)) ?_
  refine dE rfl rfl Tryz.func122 rfl (fun w hm hc hg => (bring_id (n := k) (lo := 0) (hi := 2147483648) ⟨hk.1, by omega⟩) ▸ ubring_spec k 0 2147483648 w (by decide)) ?_
  refine dE rfl rfl Tryz.func121 rfl (fun w hm hc hg => near_spec (ts.getD i 0) (ws.getD i 0) (smI (gI0 ts) ts.length) (smI (gI0 ws) ts.length) k w hti ⟨by omega, by omega⟩ hT hW hk) ?_
  refine LD.val rfl rfl (ov_notD rfl) ?_
  refine LD.nil ?_
  refine QM.sub (e' := [(0, _), (1, _), (2, _), (7, _), (8, _), (21, _), (22, _), (40, _)]) au9 (QM.then ?_)
  refine wpM.condD rfl (fun h3 => ?_) (fun h3 => ?_)
  ·
   exact absurd hFi h3
  refine wpM.skip <| QM.block_normal ?_
  refine QM.then (wpM.region ?_)
  refine LM.val (ov_add64 rfl rfl om) ?_
  refine LM.mv rfl <| nC [(0, _), (1, _), (2, _), (7, _), (8, _), (21, _), (22, _)] ?_
  refine QM.againK (i + 1) ⟨au2, rfl, rfl, rfl, rfl, rfl, rfl, trivial⟩ au1 (fun _ h => h) ?_ ?_
  · omega
  · omega
 refine wpM.exit <| QM.then_exit <| QM.then_exit <| QM.block_hit <| tR <| LM.as rfl <| nA [(6, _)] <| wpM.ret ?_
 refine qL Tryz.results80 rfl fun w' hm' hc' hg' => ?_
 exact ⟨rfl, hc'⟩
end Go.Eng
namespace Go.Eng
open Go Go.RowKit
def actL (a : BitVec 64) : Nat → List Nat
  | 0 => []
  | k + 1 => if a.getLsbD k = true then actL a k ++ [k] else actL a k
theorem actL_in {a : BitVec 64} : ∀ {k p : Nat}, p ∈ actL a k → p < k ∧ a.getLsbD p = true
  | 0, p, h => by cases h
  | k + 1, p, h => by
    unfold actL at h
    split at h
    · rename_i c
      rcases List.mem_append.1 h with q | q
      · have := actL_in q; exact ⟨by omega, this.2⟩
      · rw [List.mem_singleton] at q; subst q; exact ⟨by omega, c⟩
    · have := actL_in h; exact ⟨by omega, this.2⟩
theorem actL_len (a : BitVec 64) : ∀ k, (actL a k).length ≤ k
  | 0 => Nat.le_refl _
  | k + 1 => by
    have := actL_len a k
    unfold actL; split
    · rw [List.length_append, List.length_singleton]; omega
    · omega
def tkL (hi hj : List Int) (a : BitVec 64) (k : Nat) : List Int := (actL a k).map (fun p => hj.getD p 0 - hi.getD p 0)
def wkL (ws : List Int) (a : BitVec 64) (k : Nat) : List Int := (actL a k).map (fun p => ws.getD p 0)
theorem getD_map0 {f : Nat → Int} {l : List Nat} {i : Nat} (hi : i < l.length) : (l.map f).getD i 0 = f (l.getD i 0) := by
  rw [List.getD_eq_getElem?_getD, List.getD_eq_getElem?_getD, List.getElem?_map, List.getElem?_eq_getElem hi]; rfl
structure ShrF (ts ws : List Int) (k : Int) : Prop where
  he : ts.length = ws.length
  h16 : ts.length ≤ 16
  ht : ∀ i, i < ts.length → 0 ≤ ts.getD i 0 ∧ ts.getD i 0 ≤ 1000
  hw : ∀ i, i < ts.length → 1 ≤ ws.getD i 0 ∧ ws.getD i 0 ≤ 4096
  hT : 0 ≤ smI (gI0 ts) ts.length ∧ smI (gI0 ts) ts.length ≤ 1000
  hW : 0 ≤ smI (gI0 ws) ts.length ∧ smI (gI0 ws) ts.length ≤ 100000
  hk : 0 ≤ k ∧ k ≤ 1000
  hF : ∀ i, i < ts.length → aptI (ts.getD i 0 * smI (gI0 ws) ts.length) (ws.getD i 0 * smI (gI0 ts) ts.length) ≤ k * smI (gI0 ws) ts.length
def heldL (x : Lkm) : List Int := x.ld.l.map (·.h)
theorem heldL_get {x : Lkm} {p : Nat} (hp : p < x.ld.l.length) : (heldL x).getD p 0 = (gP x.ld.l p).h := by
  unfold heldL gP
  rw [List.getD_eq_getElem?_getD, List.getD_eq_getElem?_getD, List.getElem?_map, List.getElem?_eq_getElem hp]; rfl
theorem ChF.fair {S C : Nat} {B : Int} {ws : List Int} {xs : List Lkm} (h : ChF S C B ws xs) (hB : B ≤ 200) (hwl : ws.length ≤ 4) (hw : ∀ r, r < ws.length → 1 ≤ ws.getD r 0 ∧ ws.getD r 0 ≤ 16) {i j : Nat} {x z : Lkm} (hx : xs[i]? = some x) (hz : xs[i + j]? = some z) (ha : ∀ k y, k ≤ j → xs[i + k]? = some y → actS y = actS x)
    (hl : 1 < (actL (actS x) ws.length).length) : ShrF (tkL (heldL x) (heldL z) (actS x) ws.length) (wkL ws (actS x) ws.length) (((actL (actS x) ws.length).length - 1) * ((S : Int) + C)) := by
  obtain ⟨⟨t1, K1, hF⟩, ex, wx, hx4⟩ := h.at_ i x hx
  obtain ⟨⟨t2, K2, hG⟩, ez, wz, hz4⟩ := h.at_ _ z hz
  have hlen := actL_len (actS x) ws.length
  generalize hps : actL (actS x) ws.length = ps at hl hlen ⊢
  have hin : ∀ q ∈ ps, q < ws.length ∧ (actS x).getLsbD q = true := fun q hq => actL_in (by rw [hps]; exact hq)
  have hpin : ∀ k, k < ps.length → ps.getD k 0 < ws.length ∧ (actS x).getLsbD (ps.getD k 0) = true := fun k hk => hin _ (by rw [List.getD_eq_getElem?_getD, List.getElem?_eq_getElem hk]; exact List.getElem_mem _)
  have et : tkL (heldL x) (heldL z) (actS x) ws.length = ps.map (fun p => (heldL z).getD p 0 - (heldL x).getD p 0) := by unfold tkL; rw [hps]
  have ew : wkL ws (actS x) ws.length = ps.map (fun p => ws.getD p 0) := by unfold wkL; rw [hps]
  rw [et, ew]
  have eT : (ps.map (fun p => (heldL z).getD p 0 - (heldL x).getD p 0)).length = ps.length := List.length_map ..
  have eW : (ps.map (fun p => ws.getD p 0)).length = ps.length := List.length_map ..
  have gT : ∀ k, k < ps.length → (ps.map (fun p => (heldL z).getD p 0 - (heldL x).getD p 0)).getD k 0 = (gP z.ld.l (ps.getD k 0)).h - (gP x.ld.l (ps.getD k 0)).h := fun k hk => by
    have h1 := hpin k hk
    rw [getD_map0 hk, heldL_get om, heldL_get om]
  have gW : ∀ k, k < ps.length → (ps.map (fun p => ws.getD p 0)).getD k 0 = ws.getD (ps.getD k 0) 0 := fun k hk => getD_map0 hk
  have hrun : ∀ k, k < ps.length → ∃ n : Nat, (gP z.ld.l (ps.getD k 0)).h = (gP x.ld.l (ps.getD k 0)).h + n ∧ vN z.ld (ps.getD k 0) = vN x.ld (ps.getD k 0) + (lockO (ws.getD (ps.getD k 0) 0)).toNat * n := fun k hk => h.run hx (hpin k hk).1 (hpin k hk).2 j z hz ha
  have hC := hF.rC
  have hS := hF.rS
  have ht : ∀ k, k < ps.length → 0 ≤ (ps.map (fun p => (heldL z).getD p 0 - (heldL x).getD p 0)).getD k 0 ∧ (ps.map (fun p => (heldL z).getD p 0 - (heldL x).getD p 0)).getD k 0 ≤ 200 := fun k hk => by
    rw [gT k hk]
    obtain ⟨n, h1, _⟩ := hrun k hk
    have h3 := hz4 _ (hpin k hk).1
    have h4 := hx4 _ (hpin k hk).1
    omega
  have hw2 : ∀ k, k < ps.length → 1 ≤ (ps.map (fun p => ws.getD p 0)).getD k 0 ∧ (ps.map (fun p => ws.getD p 0)).getD k 0 ≤ 16 := fun k hk => by
    rw [gW k hk]; exact hw _ (hpin k hk).1
  have hact2 : actS z = actS x := ha j z (Nat.le_refl _) hz
  have E : FairE 720720 ((S : Int) + C) ((z.ld.fl.toNat : Int) - x.ld.fl.toNat) ps.length (gI0 (ps.map (fun p => ws.getD p 0))) (gI0 (ps.map (fun p => (heldL z).getD p 0 - (heldL x).getD p 0))) (fun k => ((lockO (ws.getD (ps.getD k 0) 0)).toNat : Int)) (fun k => (vN x.ld (ps.getD k 0) : Int) - x.ld.fl.toNat) (fun k => (vN z.ld (ps.getD k 0) : Int) - z.ld.fl.toNat) := by
    have hi1 : ∀ (y : Lkm) (t K : Nat), LkF S C t K y → y.ld.l.length = ws.length → (∀ r, r < ws.length → (gP y.ld.l r).w = ws.getD r 0) → actS y = actS x → ∀ k, k < ps.length → 0 ≤ (vN y.ld (ps.getD k 0) : Int) - y.ld.fl.toNat ∧ (vN y.ld (ps.getD k 0) : Int) - y.ld.fl.toNat ≤ ((S : Int) + C) * ((lockO (ws.getD (ps.getD k 0) 0)).toNat : Int) := fun y t K hy e1 e2 e3 k hk => by
      have hp := hpin k hk
      have h1 := hy.i1 (ps.getD k 0) om (by rw [hy.ac _ om, e3]; exact hp.2)
      have : cN y.ld (ps.getD k 0) = (lockO (ws.getD (ps.getD k 0) 0)).toNat := by unfold cN; rw [e2 _ hp.1]
      rw [this] at h1
      have e5 : ((S : Int) + C) * ((lockO (ws.getD (ps.getD k 0) 0)).toNat : Int) = (((lockO (ws.getD (ps.getD k 0) 0)).toNat * (S + C) : Nat) : Int) := by
        rw [Int.natCast_mul, Int.natCast_add, Int.mul_comm]
      rw [e5]; omega
    refine ⟨by omega, fun k hk => ?_, fun k hk => ?_, hi1 x t1 K1 hF ex wx rfl, hi1 z t2 K2 hG ez wz hact2, fun k hk => ?_⟩
    · show (ps.map (fun p => ws.getD p 0)).getD k 0 * _ = _
      rw [gW k hk]
      have h1 := hw _ (hpin k hk).1
      have h2 := lock_mul h1
      have h3 := congrArg (Nat.cast (R := Int)) h2
      rw [Int.natCast_mul, Int.toNat_of_nonneg om] at h3
      exact h3
    · show (ps.map (fun p => (heldL z).getD p 0 - (heldL x).getD p 0)).getD k 0 * _ = _
      rw [gT k hk]
      obtain ⟨n, h1, h2⟩ := hrun k hk
      rw [h1, h2, Int.natCast_add, Int.natCast_mul, show (gP x.ld.l (ps.getD k 0)).h + (n : Int) - (gP x.ld.l (ps.getD k 0)).h = (n : Int) by omega, Int.mul_comm]
      omega
    · have := hw2 k hk; show 0 ≤ (ps.map (fun p => ws.getD p 0)).getD k 0; omega
  have sT : 0 ≤ smI (gI0 (ps.map (fun p => (heldL z).getD p 0 - (heldL x).getD p 0))) ps.length ∧ smI (gI0 (ps.map (fun p => (heldL z).getD p 0 - (heldL x).getD p 0))) ps.length ≤ ps.length * 200 := ⟨smI_nn (fun k hk => (ht k hk).1), smI_bd (fun k hk => (ht k hk).2)⟩
  have sW : 0 ≤ smI (gI0 (ps.map (fun p => ws.getD p 0))) ps.length ∧ smI (gI0 (ps.map (fun p => ws.getD p 0))) ps.length ≤ ps.length * 16 := ⟨smI_nn (fun k hk => by have := hw2 k hk; show 0 ≤ (ps.map (fun p => ws.getD p 0)).getD k 0; omega), smI_bd (fun k hk => (hw2 k hk).2)⟩
  have hk1 : (0 : Int) ≤ ((ps.length : Int) - 1) * ((S : Int) + C) := Int.mul_nonneg om om
  have hk2 : ((ps.length : Int) - 1) * ((S : Int) + C) ≤ 3 * 48 := Int.mul_le_mul om om om om
  refine ⟨by rw [eT, eW], by rw [eT]; omega, fun k hk => ?_, fun k hk => ?_, ?_, ?_, ⟨hk1, by omega⟩, fun k hk => ?_⟩
  · have := ht k (eT ▸ hk); omega
  · have := hw2 k (eT ▸ hk); omega
  · rw [eT]; omega
  · rw [eT]; omega
  · rw [eT]
    have hk' : k < ps.length := eT ▸ hk
    have key := ex_all E om hk'
    have key1 : (ps.map (fun p => (heldL z).getD p 0 - (heldL x).getD p 0)).getD k 0 * smI (gI0 (ps.map (fun p => ws.getD p 0))) ps.length - (ps.map (fun p => ws.getD p 0)).getD k 0 * smI (gI0 (ps.map (fun p => (heldL z).getD p 0 - (heldL x).getD p 0))) ps.length ≤ ((ps.length : Int) - 1) * ((S : Int) + C) * smI (gI0 (ps.map (fun p => ws.getD p 0))) ps.length := key.1
    have key2 : -(((ps.length : Int) - 1) * ((S : Int) + C) * smI (gI0 (ps.map (fun p => ws.getD p 0))) ps.length) ≤ (ps.map (fun p => (heldL z).getD p 0 - (heldL x).getD p 0)).getD k 0 * smI (gI0 (ps.map (fun p => ws.getD p 0))) ps.length - (ps.map (fun p => ws.getD p 0)).getD k 0 * smI (gI0 (ps.map (fun p => (heldL z).getD p 0 - (heldL x).getD p 0))) ps.length := key.2
    unfold aptI
    split <;> omega
end Go.Eng
namespace Go.Eng
open Go Go.Proofs Go.RowKit
theorem or_bit (s : BitVec 64) (p : Int) (h : 0 ≤ p ∧ p < 64) : s ||| 1#64 <<< p.toNat = withS s p := by
  unfold withS bitU; rw [if_neg om]
theorem dmem {α : Type} [Inhabited α] {l : List α} {i : Nat} (h : i < l.length) : l.getD i default ∈ l := by
  rw [List.getD_eq_getElem?_getD, List.getElem?_eq_getElem h]; exact List.getElem_mem h
def hoS (x : Lkm) (i : Nat) : BitVec 64 := keyS ((x.ho.take i).map (·.p))
def wtS (x : Lkm) (k : Nat) : BitVec 64 := keyS (x.ho.map (·.p) ++ (x.wt.take k).map (·.key))
theorem hoS_snoc {x : Lkm} {i : Nat} (h : i < x.ho.length) : hoS x (i + 1) = withS (hoS x i) (x.ho.getD i default).p := by
  unfold hoS keyS; rw [take_snoc default h, List.map_append, List.foldl_append]; rfl
theorem hoS_all {x : Lkm} {i : Nat} (h : i = x.ho.length) : hoS x i = wtS x 0 := by
  unfold hoS wtS; rw [h, List.take_length]; simp
theorem wtS_snoc {x : Lkm} {i : Nat} (h : i < x.wt.length) : wtS x (i + 1) = withS (wtS x i) (x.wt.getD i default).key := by
  unfold wtS keyS; rw [take_snoc default h, List.map_append, ← List.append_assoc, List.foldl_append]; rfl
theorem wtS_all (x : Lkm) : wtS x x.wt.length = actS x := by
  unfold wtS; rw [List.take_length]
  apply BitVec.eq_of_getLsbD_eq
  intro i hi
  show (keyS _).getLsbD i = (keyS _).getLsbD i
  rw [keyS_get, keyS_get, List.any_append, List.any_append, Bool.or_comm]
theorem held_snoc {x : Lkm} {i : Nat} (h : i < x.ld.l.length) : (heldL x).take i ++ [if isO x.ld (i : Int) = true then (gP x.ld.l (i : Int).toNat).h else 0] = (heldL x).take (i + 1) := by
  rw [take_snoc 0 (by unfold heldL; rw [List.length_map]; exact h), heldL_get h, if_pos (isO_in h)]; rfl
def MkN (x : Lkm) (n0 : Nat) (v : Value) (m : Mem0) : Prop := ∃ ad n cap, v = .agg #[U (actS x), .slice ad n cap] ∧ n = (heldL x).length ∧ Sl fI 3 1 n0 (heldL x) (.slice ad n cap) m
theorem MkN.mono {x : Lkm} : ∀ (n n' : Nat) (v : Value) (m : Mem0), n' ≤ n → MkN x n v m → MkN x n' v m := fun n n' v m hn ⟨ad, k, cap, h1, h2, h3⟩ => ⟨ad, k, cap, h1, h2, h3.mono hn⟩
theorem mark_spec {n0 T b : Nat} {x : Lkm} {m : Mem0} {np : Int} (w : World) (h : LkM n0 T b x (x.wt.map (·.who)) m) (hw : LkW x) (hx : x.ho.length ≤ 900) (hnp : np = x.ld.l.length) (hM : Mem w m) : Ret Tryz.prog 28 #[.pointer (some ⟨b, 0, none⟩), .int .i64 np] w (fun v w' => Ext w w' ∧ ∃ m, MkN x w.heap.size v m ∧ Mem w' m ∧ ∀ p ∈ m, w.heap.size ≤ p.1) := by
 have hv := hw.toLkV; have hw8 := hv.w8; have hl8 := hv.l8; have hll : (heldL x).length = x.ld.l.length := List.length_map ..
 refine Ret.enterM Tryz.func28 rfl Tryz.ntmps28 rfl (m ++ []) (no) aM ?_
 refine wR ?_
 refine LM.alloc Tryz.zeroValue53 rfl (fun b4 hb4 => ?_)
 refine nB [(0, _), (1, _), (4, _)] ?_
 refine LM.alloc Tryz.zeroValue53 rfl (fun b5 hb5 => ?_)
 refine nA [(0, _), (1, _), (4, _), (5, _)] <| wpM.seq <| wR <| LM.mv rfl ?_
 refine LM.cS (oc_call (enters_fn Tryz.func29 kr rfl) rfl) (fun w hm hc hg => lkHdrs_spec w h om (hm.pick m)) (fun ad14 n14 cap14 m14 hn14 hs14 => ?_)
 refine LM.val (ov_len Tryz.underlying56 rfl) <| LM.mv rfl <| nA [(0, _), (1, _), (4, _), (5, _), (14, _), (15, _), (16, _)] <| wpM.block ?_
 refine wpM.loopK0 (α := Nat) (fun i => [(16, .int .i64 (i : Nat))]) [(0, _), (1, _), (4, _), (5, _), (14, _), (15, _)] (fun i => m14 ++ ((b5, .cells #[U (hoS x i), .slice none 0 0] 53 (0, 0)) :: (b4, .cells #[U 0#64, .slice none 0 0] 53 (0, 0)) :: (m ++ []))) (fun i => i ≤ x.ho.length) (fun i => x.ho.length - i) (0) ⟨au2, rfl, rfl, rfl, rfl, rfl, rfl, trivial⟩ au1 (Nat.zero_le _) ?_
 rintro i hi
 change wpM _ _ _ _ _ _ _ (m14 ++ ((b5, .cells #[U (hoS x i), .slice none 0 0] 53 (0, 0)) :: (b4, .cells #[U 0#64, .slice none 0 0] 53 (0, 0)) :: (m ++ []))) _ _ _
 refine wR <| LM.val (ov_lss rfl rfl) <| nA [(0, _), (1, _), (4, _), (5, _), (14, _), (15, _), (16, _), (17, _)] <| wpM.seq ?_
 refine wpM.condD rfl (fun h1 => ?_) (fun h1 => ?_)
 ·
  have hil : i < x.ho.length := om; have hg := isO_rng (hv.hk _ (dmem hil)) hl8
  refine wpM.skip <| QM.then <| wpM.seq <| wpM.block <| wR ?_
  refine LM.val (ov_idxSN au6 Tryz.underlying56 Tryz.sizeOf59 rfl rfl om) ?_
  refine LM.rd (om_slA asm ir Tryz.isAgg59 Tryz.sizeOf59 rfl au3) ?_
  refine LM.alloc Tryz.zeroValue59 rfl (fun b7 hb7 => ?_)
  refine LM.stW Tryz.sizeOf59 rfl rfl rfl rfl au7 au8 ?_
  refine nA [(0, _), (1, _), (4, _), (5, _), (7, _), (14, _), (15, _), (16, _)] ?_
  refine wpM.draw [(0, 0), (1, 1), (2, 0), (3, 1), (4, 0), (5, 0), (6, 0), (7, 3)] kr kr ?_
  refine LD.val rfl rfl (ovf 51 rfl rfl rfl rfl) ?_
  refine LD.rd rfl rfl (oml rfl rfl rfl) ?_
  refine LD.val rfl rfl (ovf 3 rfl rfl rfl rfl) ?_
  refine LD.rd rfl rfl (oml rfl rfl rfl) ?_
  refine LD.val rfl rfl (ov_ushl (a := 1#64) rfl rfl om) ?_
  refine LD.val rfl rfl (ov_uor rfl rfl) ?_
  refine LD.val rfl rfl (ovf 51 rfl rfl rfl rfl) ?_
  refine LD.tail rfl rfl ?_
  refine LM.st Tryz.sizeOf51 rfl rfl rfl au5 rfl au8 ?_
  refine LM.nil ?_
  refine QM.qn ?_
  refine QM.sub (e' := [(0, _), (1, _), (4, _), (5, _), (14, _), (15, _), (16, _)]) au9 ?_
  refine QM.block_normal ?_
  refine QM.then (wpM.region ?_)
  refine LM.val (ov_add64 rfl rfl om) ?_
  refine LM.mv rfl <| nC [(0, _), (1, _), (4, _), (5, _), (14, _), (15, _), (16, _)] ?_
  rw [or_bit _ _ hg, ← hoS_snoc hil]
  refine QM.againK (i + 1) ⟨au2, rfl, rfl, rfl, rfl, rfl, rfl, trivial⟩ au1 (fun _ h => h) ?_ ?_
  · omega
  · omega
 refine wpM.exit <| QM.then_exit <| QM.then_exit <| QM.block_hit <| QM.then <| wpM.seq <| wR ?_
 rw [hoS_all (x := x) (i := i) om]
 refine LM.mv rfl ?_
 refine LM.callT (oc_call (enters_fn Tryz.func36 kr rfl) rfl) WtrT.mono (fun w hm hc hg => lkWtr_spec (some ⟨b, 0, none⟩) w) ?_
 rintro u29 m29 ⟨c1, rfl, rfl, hc1⟩ -
 refine nA [(0, _), (1, _), (4, _), (5, _), (29, _)] <| wpM.block ?_
 refine wpM.toRange (α := Unit) (fun k ⟨⟩ => lF c1 (some ⟨b, 0, none⟩) :: (b5, .cells #[U (wtS x k), .slice none 0 0] 53 (0, 0)) :: (b4, .cells #[U 0#64, .slice none 0 0] 53 (0, 0)) :: (m ++ [])) (⟨⟩) au1 ?_
 refine wpM.rangeP (α := Unit) (β := Unit) (enters_fn Tryz.func84 kr rfl) rfl (lkWtr_seq (c1 := c1) h) (fun k ⟨⟩ Mp => lF c1 (some ⟨b, 0, none⟩) :: (b5, .cells #[U (wtS x k), .slice none 0 0] 53 (0, 0)) :: (b4, .cells #[U 0#64, .slice none 0 0] 53 (0, 0)) :: (m ++ (Mp ++ []))) (by rintro k ⟨⟩ Mp; first | rfl | simp) (fun _ _ => top) (fun k ⟨⟩ => True) (fun ⟨⟩ => []) (fun _ => top) (fun c ⟨⟩ => False) ⟨⟩ rfl (fun _ h => h) trivial kr (by intro k av hav; obtain ⟨_, rfl⟩ := wtA_inv hav; rfl) (.inl trivial) (fun k a w hm hc hg _ => hm.pick (lF c1 (some ⟨b, 0, none⟩) :: m)) (fun _ _ _ _ => gl_top _) (fun _ _ _ => gl_top _) (fun k x hx => mm_cons rfl (mm_cons rfl (mm_cons rfl (mm_app h.wlk mm_nil)))) (fun c z _ => by ((repeat (refine mm_cons rfl ?_)); exact fun p hp => .inl (by first | exact hp | (simp at hp; done) | (simp [hp]; done) | (simp at hp ⊢; first | exact .inl hp | exact hp | (simp [hp]; done))))) ?_ ?_ ?_ ?_
 ·
  rintro k av ⟨⟩ l D rc n1 W1 Mp hD hll hput hrc hav -
  change wpM _ _ _ _ _ _ _ ((l, Obj.loop rc) :: ([(D, Obj.deferred (some []))] ++ (lF c1 (some ⟨b, 0, none⟩) :: (b5, .cells #[U (wtS x k), .slice none 0 0] 53 (0, 0)) :: (b4, .cells #[U 0#64, .slice none 0 0] 53 (0, 0)) :: (m ++ (Mp ++ []))))) _ _ _
  obtain ⟨hkl, rfl⟩ := wtA_inv hav; have hg := isO_rng (hv.wk _ (dmem hkl)) hl8
  refine wpM.region ?_
  refine LM.as rfl <| nC [(5, _), (9, _)] ?_
  refine QM.toBodyF (hput k ⟨⟩) hll ?_
  refine wpM.block ?_
  refine wpM.draw [(0, 0), (1, 1), (2, 0), (3, 0), (4, 0), (5, 0), (6, 3)] kr kr ?_
  refine LD.val rfl rfl (ovf 51 rfl rfl rfl rfl) ?_
  refine LD.rd rfl rfl (oml rfl rfl rfl) ?_
  refine LD.val rfl rfl (ov_move rfl) ?_
  refine LD.val rfl rfl (ov_ushl (a := 1#64) rfl rfl om) ?_
  refine LD.val rfl rfl (ov_uor rfl rfl) ?_
  refine LD.val rfl rfl (ovf 51 rfl rfl rfl rfl) ?_
  refine LD.tail rfl rfl ?_
  refine LM.st Tryz.sizeOf51 rfl rfl rfl au5 rfl au8 ?_
  refine LM.nil ?_
  refine QM.qn ?_
  refine QM.sub (e' := []) trivial ?_
  refine QM.block_normal ?_
  rw [or_bit _ _ hg, ← wtS_snoc hkl]
  refine QM.next (⟨⟩) (SubM.mem au1) (fun _ h => h) ?_
  · trivial
 ·
  rintro ⟨⟩ D0 hD0 -
  rw [wtA_len, wtS_all]
  refine QM.sub (e' := [(0, _), (1, _), (4, _), (5, _)]) au9 ?_
  refine QM.block_normal <| QM.then <| wpM.seq <| wR <| LM.mv rfl <| LM.mv rfl <| nA [(0, _), (4, _), (5, _), (38, _), (39, _)] <| wpM.block ?_
  refine wpM.loopK0 (α := Nat × Option Addr × Nat × Nat × Mem0) (fun ⟨i, ad, n, cap, mh⟩ => [(39, .int .i64 (i : Nat))]) [(0, _), (4, _), (5, _), (38, _)] (fun ⟨i, ad, n, cap, mh⟩ => (D0, Obj.deferred (some [])) :: (b5, .cells #[U (actS x), .slice ad n cap] 53 (0, 0)) :: (b4, .cells #[U 0#64, .slice none 0 0] 53 (0, 0)) :: (m ++ (mh ++ []))) (fun ⟨i, ad, n, cap, mh⟩ => i ≤ x.ld.l.length ∧ n = i ∧ Sl fI 3 1 w.heap.size ((heldL x).take i) (.slice ad n cap) mh) (fun ⟨i, ad, n, cap, mh⟩ => x.ld.l.length - i) ((0, none, 0, 0, [])) ⟨au2, rfl, rfl, rfl, rfl, trivial⟩ au1 ⟨Nat.zero_le _, rfl, Sl.nil _ _ _ _⟩ ?_
  rintro ⟨i, ad, n, cap, mh⟩ ⟨hi, hn, hs⟩
  change wpM _ _ _ _ _ _ _ ((D0, Obj.deferred (some [])) :: (b5, .cells #[U (actS x), .slice ad n cap] 53 (0, 0)) :: (b4, .cells #[U 0#64, .slice none 0 0] 53 (0, 0)) :: (m ++ (mh ++ []))) _ _ _
  have htl : ((heldL x).take i).length = i := (by rw [List.length_take]; omega)
  refine wR <| LM.val (ov_lss rfl rfl) <| nA [(0, _), (4, _), (5, _), (38, _), (39, _), (40, _)] <| wpM.seq ?_
  refine wpM.condD rfl (fun h2 => ?_) (fun h2 => ?_)
  ·
   refine wpM.skip <| QM.then <| wpM.seq <| wpM.block <| wR <| LM.mv rfl <| LM.as rfl <| nB [(0, _), (4, _), (5, _), (10, _), (38, _), (39, _)] <| LM.mv rfl <| LM.mv rfl ?_
   refine cE Tryz.func74 rfl (fun w hm hc hg => lkAcc_spec _ w h (hm.pick m)) ?_
   refine LM.mv rfl <| LM.val (ov_extract rfl rfl) <| LM.val (ov_extract rfl rfl) <| LM.as rfl <| LM.as rfl ?_
   refine LM.nil (QM.sub (e' := [(0, _), (4, _), (5, _), (12, _), (38, _), (39, _)]) au9 (QM.then (wpM.region ?_)))
   refine LM.val (ovf 24 rfl rfl rfl rfl) ?_
   refine LM.rd (oml rfl rfl rfl) ?_
   refine LM.mv rfl ?_
   refine LM.single Tryz.underlying24 Tryz.sizeOf3 Tryz.zeroValue3 rfl rfl rfl rfl rfl (fun b51 hb51 => ?_)
   refine LM.app Tryz.underlying24 Tryz.typeInfo3 rfl rfl rfl rfl rfl rfl rfl asm (by rfl) ir (by intro _ u hu; simp [fI] at hu; (repeat (first | (rcases hu with rfl | hu) | subst hu | rfl))) (by first | exact Nat.le_refl _ | omega) au10 (by first | omega | (unfold maxLen; omega)) (by simp only [Tryz.t3]; omega) (fun ad52 n52 cap52 m52 hn52 hs52 hin52 => ?_)
   refine LM.val (ovf 24 rfl rfl rfl rfl) ?_
   refine LM.st Tryz.sizeOf24 rfl rfl rfl au5 rfl au8 ?_
   refine nC [(0, _), (4, _), (5, _), (38, _), (39, _)] <| QM.block_normal ?_
   refine QM.then (wpM.region ?_)
   refine LM.val (ov_add64 rfl rfl om) ?_
   refine LM.mv rfl <| nC [(0, _), (4, _), (5, _), (38, _), (39, _)] ?_
   refine QM.againK (i + 1, ad52, n52, cap52, m52) ⟨au2, rfl, rfl, rfl, rfl, trivial⟩ au1 (fun _ h => h) ?_ ?_
   · exact ⟨by omega, by omega, held_snoc (x := x) (i := i) om ▸ hs52⟩
   · (dsimp only; omega)
  refine wpM.exit <| QM.then_exit <| QM.then_exit <| QM.block_hit <| tR ?_
  refine LM.rd (om_ldW Tryz.isAgg53 Tryz.sizeOf53 rfl rfl) ?_
  refine LM.stW Tryz.sizeOf53 rfl rfl rfl rfl au7 au8 ?_
  refine nA [(4, _)] <| wpM.ret ?_
  refine QM.leaveCs (ds := (D0 :: [])) (.inl rfl) [.cell 4 53] Tryz.results28 (hd_cons hD0 hd_nil) (rc_w rfl Tryz.isAgg53 Tryz.sizeOf53 rfl rc_nil) ?_
  intro w' hm' hc'
  have hs9 : Sl fI 3 1 w.heap.size (heldL x) (.slice ad n cap) mh := (by rw [List.take_of_length_le om] at hs; exact hs); exact ⟨hc', _, ⟨ad, n, cap, rfl, by omega, hs9⟩, hm'.pick mh, hs9.ge⟩
 ·
  rintro ⟨⟩ D0 hD0 hx
  exact hx.elim
 rintro id ⟨⟩ D0 hD0 hx
 exact hx.elim
structure Mkr where
  a : BitVec 64
  ad : Option Addr
  n : Nat
  cap : Nat
  hl : List Int
deriving Inhabited
def fMk (r : Mkr) : List Value := [U r.a, .slice r.ad r.n r.cap]
structure MkI (L : Nat) (r : Mkr) (w : World) : Prop where
  n : r.n = r.hl.length
  l : r.hl.length = L
  s : Sr fI 1 r.hl (.slice r.ad r.n r.cap) w
  b : ∀ p, p < L → 0 ≤ r.hl.getD p 0 ∧ r.hl.getD p 0 ≤ 1000
def FairR (S C : Nat) (ws : List Int) (rs : List Mkr) : Prop := ∀ i j, i + j < rs.length → (∀ k, k ≤ j → (rs.getD (i + k) default).a = (rs.getD i default).a) → 1 < (actL (rs.getD i default).a ws.length).length →
  ShrF (tkL (rs.getD i default).hl (rs.getD (i + j) default).hl (rs.getD i default).a ws.length) (wkL ws (rs.getD i default).a ws.length) (((actL (rs.getD i default).a ws.length).length - 1) * ((S : Int) + C))
theorem drop_gd {α : Type} [Inhabited α] (l : List α) (i j : Nat) : (l.drop i).getD j default = l.getD (i + j) default := by
  rw [List.getD_eq_getElem?_getD, List.getD_eq_getElem?_getD, List.getElem?_drop]
theorem bit_and (s : BitVec 64) (n : Nat) : (s >>> n) &&& 1#64 = if s.getLsbD n = true then 1#64 else 0#64 := by
  rw [BitVec.and_one_eq_setWidth_ofBool_getLsbD, BitVec.getLsbD_ushiftRight, Nat.add_zero]
  cases s.getLsbD n <;> rfl
theorem tkL_yes {hi hj : List Int} {a : BitVec 64} {k : Nat} (h : a.getLsbD k = true) : tkL hi hj a (k + 1) = tkL hi hj a k ++ [hj.getD k 0 - hi.getD k 0] := by unfold tkL; rw [actL, if_pos h, List.map_append]; rfl
theorem tkL_no {hi hj : List Int} {a : BitVec 64} {k : Nat} (h : ¬ a.getLsbD k = true) : tkL hi hj a (k + 1) = tkL hi hj a k := by unfold tkL; rw [actL, if_neg h]
theorem wkL_yes {ws : List Int} {a : BitVec 64} {k : Nat} (h : a.getLsbD k = true) : wkL ws a (k + 1) = wkL ws a k ++ [ws.getD k 0] := by unfold wkL; rw [actL, if_pos h, List.map_append]; rfl
theorem wkL_no {ws : List Int} {a : BitVec 64} {k : Nat} (h : ¬ a.getLsbD k = true) : wkL ws a (k + 1) = wkL ws a k := by unfold wkL; rw [actL, if_neg h]
theorem tkL_len (hi hj : List Int) (a : BitVec 64) (k : Nat) : (tkL hi hj a k).length = (actL a k).length := List.length_map ..
theorem wkL_len (ws : List Int) (a : BitVec 64) (k : Nat) : (wkL ws a k).length = (actL a k).length := List.length_map ..
theorem fair20_spec {rs : List Mkr} {ws : List Int} {ad ad2 : Option Addr} {n cap n2 cap2 S C : Nat} (w : World) (hn : n = rs.length) (hl : Sr fMk 2 rs (.slice ad n cap) w) (hn2 : n2 = ws.length) (hws : Sr fI 1 ws (.slice ad2 n2 cap2) w) (hh : ∀ r ∈ rs, MkI ws.length r w) (h4 : ws.length ≤ 4) (hrl : rs.length ≤ 1000) (hS : 1 ≤ S ∧ S ≤ 16) (hC : 1 ≤ C ∧ C ≤ 32) (hF : FairR S C ws rs) : Ret Tryz.prog 30 #[.slice ad n cap, .slice ad2 n2 cap2, .int .i64 (S : Nat), .int .i64 (C : Nat)] w (fun v w' => v = .bool true ∧ Ext w w') := by
 refine Ret.enterM Tryz.func30 rfl Tryz.ntmps30 rfl ([]) (no) (Mem.nil w) ?_
 refine wR <| LM.as rfl <| nA [(0, _), (1, _), (2, _), (3, _)] <| wpM.seq <| wR <| LM.mv rfl <| LM.val (ov_len Tryz.underlying55 rfl) <| LM.mv rfl <| nA [(0, _), (1, _), (2, _), (3, _), (17, _), (18, _), (19, _)] <| wpM.block ?_
 refine wpM.loopK0 (α := Nat) (fun i => [(19, .int .i64 (i : Nat))]) [(0, _), (1, _), (2, _), (3, _), (17, _), (18, _)] (fun i => []) (fun i => i ≤ rs.length) (fun i => rs.length - i) (0) ⟨au2, rfl, rfl, rfl, rfl, rfl, rfl, trivial⟩ au1 (Nat.zero_le _) ?_
 rintro i hi
 change wpM _ _ _ _ _ _ _ ([]) _ _ _
 refine wR <| LM.val (ov_lss rfl rfl) <| nA [(0, _), (1, _), (2, _), (3, _), (17, _), (18, _), (19, _), (20, _)] <| wpM.seq ?_
 refine wpM.condD rfl (fun h1 => ?_) (fun h1 => ?_)
 ·
  have hil : i < rs.length := om; have ha := hh _ (dmem hil); have han := ha.n; have hal := ha.l; have has := ha.s
  refine wpM.skip <| QM.then <| wpM.seq <| wpM.block <| wR <| LM.mv rfl ?_
  refine LM.val (ov_idxSN au6 Tryz.underlying55 Tryz.sizeOf53 rfl rfl om) ?_
  refine LM.rdC (om_srEA asm ir Tryz.isAgg53 Tryz.sizeOf53 rfl au3 id) ?_
  refine LM.alloc Tryz.zeroValue53 rfl (fun b10 hb10 => ?_)
  refine LM.as rfl ?_
  refine LM.stW Tryz.sizeOf53 rfl rfl rfl rfl au7 au8 ?_
  refine nB [(0, _), (1, _), (2, _), (3, _), (9, _), (10, _), (17, _), (18, _), (19, _)] <| LM.mv rfl <| LM.mv rfl ?_
  refine LM.val (ov_subLo i Tryz.underlying55 Tryz.sizeOf53 rfl rfl rfl om) ?_
  have hdr := hl.drop (l := i) om
  refine LM.val (ov_len Tryz.underlying55 rfl) <| LM.mv rfl <| nA [(0, _), (1, _), (2, _), (3, _), (10, _), (17, _), (18, _), (19, _), (26, _), (27, _), (28, _)] <| wpM.block ?_
  refine wpM.loopK0 (α := Nat) (fun j => [(28, .int .i64 (j : Nat))]) [(0, _), (1, _), (2, _), (3, _), (10, _), (17, _), (18, _), (19, _), (26, _), (27, _)] (fun j => (b10, .cells (fMk (rs.getD i default)).toArray 53 (0, 0)) :: []) (fun j => j ≤ rs.length - i ∧ ∀ k, k < j → (rs.getD (i + k) default).a = (rs.getD i default).a) (fun j => rs.length - i - j) (0) ⟨au2, rfl, rfl, rfl, rfl, rfl, rfl, rfl, rfl, rfl, rfl, trivial⟩ au1 ⟨Nat.zero_le _, fun k hk => absurd hk (Nat.not_lt_zero _)⟩ ?_
  rintro j ⟨hj, hsm⟩
  change wpM _ _ _ _ _ _ _ ((b10, .cells (fMk (rs.getD i default)).toArray 53 (0, 0)) :: []) _ _ _
  refine wR <| LM.val (ov_lss rfl rfl) <| nA [(0, _), (1, _), (2, _), (3, _), (10, _), (17, _), (18, _), (19, _), (26, _), (27, _), (28, _), (29, _)] <| wpM.seq ?_
  refine wpM.condD rfl (fun h2 => ?_) (fun h2 => ?_)
  ·
   have hjl : i + j < rs.length := om; have hdl : (rs.drop i).length = rs.length - i := List.length_drop; have hb := hh _ (dmem hjl); have hbn := hb.n; have hbl := hb.l; have hbs := hb.s
   refine wpM.skip <| QM.then <| wpM.seq <| wpM.block <| wR ?_
   refine LM.val (ov_idxSN au6 Tryz.underlying55 Tryz.sizeOf53 rfl rfl om) ?_
   refine LM.rdC (om_srEA asm ir Tryz.isAgg53 Tryz.sizeOf53 rfl au3 id) ?_
   rw [drop_gd]
   refine LM.alloc Tryz.zeroValue53 rfl (fun b12 hb12 => ?_)
   refine LM.stW Tryz.sizeOf53 rfl rfl rfl rfl au7 au8 ?_
   refine nA [(0, _), (1, _), (2, _), (3, _), (10, _), (12, _), (17, _), (18, _), (19, _), (26, _), (27, _), (28, _)] <| wpM.seq <| wR <| LM.val (ovf 51 rfl rfl rfl rfl) ?_
   refine LM.rd (oml rfl rfl rfl) ?_
   refine LM.val (ovf 51 rfl rfl rfl rfl) ?_
   refine LM.rd (oml rfl rfl rfl) ?_
   refine LM.val (ov_uneq rfl rfl) ?_
   refine nA [(0, _), (1, _), (2, _), (3, _), (10, _), (12, _), (17, _), (18, _), (19, _), (26, _), (27, _), (28, _), (36, _)] ?_
   refine wpM.condD rfl (fun h3 => ?_) (fun h3 => ?_)
   ·
    refine wpM.exit <| QM.then_exit <| QM.block_miss rfl <| QM.then_exit <| QM.then_exit <| QM.block_hit <| QM.block_normal ?_
    refine QM.then (wpM.region ?_)
    refine LM.val (ov_add64 rfl rfl om) ?_
    refine LM.mv rfl <| nC [(0, _), (1, _), (2, _), (3, _), (17, _), (18, _), (19, _)] ?_
    refine QM.againK (i + 1) ⟨au2, rfl, rfl, rfl, rfl, rfl, rfl, trivial⟩ au1 (fun _ h => h) ?_ ?_
    · omega
    · omega
   have hsm2 : ∀ k, k < j + 1 → (rs.getD (i + k) default).a = (rs.getD i default).a := (fun k hk => by rcases Nat.lt_or_ge k j with q | q; exact hsm k q; rw [show k = j by omega]; exact (Classical.not_not.1 h3).symm)
   refine wpM.skip <| tR <| LM.as rfl <| LM.as rfl <| nA [(0, _), (1, _), (2, _), (3, _), (10, _), (12, _), (13, _), (14, _), (17, _), (18, _), (19, _), (26, _), (27, _), (28, _)] <| wpM.seq <| wR <| LM.val (ovf 24 rfl rfl rfl rfl) ?_
   refine LM.rd (oml rfl rfl rfl) ?_
   refine LM.val (ov_len Tryz.underlying24 rfl) <| LM.mv rfl <| nA [(0, _), (1, _), (2, _), (3, _), (10, _), (12, _), (13, _), (14, _), (17, _), (18, _), (19, _), (26, _), (27, _), (28, _), (38, _), (39, _), (40, _)] <| wpM.block ?_
   refine wpM.loopK0 (α := Nat × Option Addr × Nat × Nat × Mem0 × Option Addr × Nat × Nat × Mem0) (fun ⟨p, adt, nt, capt, mt, adw, nw, capw, mw⟩ => [(13, .slice adt nt capt), (14, .slice adw nw capw), (40, .int .i64 (p : Nat))]) [(0, _), (1, _), (2, _), (3, _), (10, _), (12, _), (17, _), (18, _), (19, _), (26, _), (27, _), (28, _), (38, _), (39, _)] (fun ⟨p, adt, nt, capt, mt, adw, nw, capw, mw⟩ => (b12, .cells (fMk (rs.getD (i + j) default)).toArray 53 (0, 0)) :: (b10, .cells (fMk (rs.getD i default)).toArray 53 (0, 0)) :: (mt ++ (mw ++ []))) (fun ⟨p, adt, nt, capt, mt, adw, nw, capw, mw⟩ => p ≤ ws.length ∧ nt = (tkL (rs.getD i default).hl (rs.getD (i + j) default).hl (rs.getD i default).a p).length ∧ nw = (wkL ws (rs.getD i default).a p).length ∧ Sl fI 3 1 w.heap.size (tkL (rs.getD i default).hl (rs.getD (i + j) default).hl (rs.getD i default).a p) (.slice adt nt capt) mt ∧ Sl fI 3 1 w.heap.size (wkL ws (rs.getD i default).a p) (.slice adw nw capw) mw) (fun ⟨p, adt, nt, capt, mt, adw, nw, capw, mw⟩ => ws.length - p) ((0, none, 0, 0, [], none, 0, 0, [])) ⟨au2, au2, au2, rfl, rfl, rfl, rfl, rfl, rfl, rfl, rfl, rfl, rfl, rfl, rfl, rfl, rfl, trivial⟩ au1 ⟨Nat.zero_le _, rfl, rfl, Sl.nil _ _ _ _, Sl.nil _ _ _ _⟩ ?_
   rintro ⟨p, adt, nt, capt, mt, adw, nw, capw, mw⟩ ⟨hp, hnt, hnw, hst, hsw⟩
   change wpM _ _ _ _ _ _ _ ((b12, .cells (fMk (rs.getD (i + j) default)).toArray 53 (0, 0)) :: (b10, .cells (fMk (rs.getD i default)).toArray 53 (0, 0)) :: (mt ++ (mw ++ []))) _ _ _
   have etl := tkL_len (rs.getD i default).hl (rs.getD (i + j) default).hl (rs.getD i default).a p; have ewl := wkL_len ws (rs.getD i default).a p; have eal := actL_len (rs.getD i default).a p
   refine wR <| LM.val (ov_lss rfl rfl) <| nA [(0, _), (1, _), (2, _), (3, _), (10, _), (12, _), (13, _), (14, _), (17, _), (18, _), (19, _), (26, _), (27, _), (28, _), (38, _), (39, _), (40, _), (41, _)] <| wpM.seq ?_
   refine wpM.condD rfl (fun h4 => ?_) (fun h4 => ?_)
   ·
    have hpl : p < ws.length := om; have hba := ha.b p hpl; have hbb := hb.b p hpl
    refine wpM.skip <| QM.then <| wpM.seq <| wpM.block <| wR <| LM.mv rfl ?_
    refine LM.val (ov_idxSN au6 Tryz.underlying24 Tryz.sizeOf3 rfl rfl om) ?_
    refine LM.rdC (om_sr1 asm Tryz.isAgg3 rfl rfl (by exact getq 0 au4) (by rfl) id) ?_
    refine LM.as rfl <| LM.as rfl <| nB [(0, _), (1, _), (2, _), (3, _), (10, _), (12, _), (13, _), (14, _), (15, _), (16, _), (17, _), (18, _), (19, _), (26, _), (27, _), (28, _), (38, _), (39, _), (40, _)] <| LM.val (ovf 51 rfl rfl rfl rfl) ?_
    refine LM.rd (oml rfl rfl rfl) ?_
    refine LM.mv rfl ?_
    refine LM.val (ov_ushr rfl rfl om) ?_
    refine LM.val (ov_uand (b := 1#64) rfl rfl) ?_
    refine LM.val (ov_ueql (b := 1#64) rfl rfl) ?_
    refine nA [(0, _), (1, _), (2, _), (3, _), (10, _), (12, _), (13, _), (14, _), (15, _), (16, _), (17, _), (18, _), (19, _), (26, _), (27, _), (28, _), (38, _), (39, _), (40, _), (50, _)] ?_
    refine wpM.condD rfl (fun h5 => ?_) (fun h5 => ?_)
    ·
     have hb5 : (rs.getD i default).a.getLsbD p = true := (by rw [Int.toNat_natCast, bit_and] at h5; cases q : (rs.getD i default).a.getLsbD p; (rw [q] at h5; simp at h5); rfl)
     refine wpM.keep ((b12, .cells (fMk (rs.getD (i + j) default)).toArray 53 (0, 0)) :: []) (fun _ => True) (.one 0 0 (.one 1 0 (.one 2 1 (.one 3 0 (.one 4 0 (.one 5 1 (.one 6 0 (.one 7 0 (.one 10 0 (.one 11 0 (.one 12 0 (.one 13 0 (.one 14 1 (.fork 8 (.fork 9 (.one 15 2 (.one 16 2 (.one 17 0 (.one 18 0 .nil)))) 15 (.one 9 2 (.one 16 2 (.one 17 0 (.one 18 0 .nil))))) 15 (.one 8 2 (.one 9 2 (.one 16 2 (.one 17 0 (.one 18 0 .nil))))))))))))))))))) kr kr au1 (fun _ _ => trivial) ?_
     refine KD.val rfl rfl (ov_move rfl) <| KD.val rfl rfl (ovf 24 rfl rfl rfl rfl) ?_
     refine KD.rd rfl rfl (oml rfl rfl rfl) ?_
     refine KD.val rfl rfl (ov_move rfl) ?_
     refine KD.val rfl rfl (ov_idxSN au6 Tryz.underlying24 Tryz.sizeOf3 rfl rfl om) ?_
     refine KD.rdC rfl rfl (om_sr1 asm Tryz.isAgg3 rfl rfl (by exact getq 0 au4) (by rfl) id) ?_
     refine KD.val rfl rfl (ov_move rfl) ?_
     refine KD.val rfl rfl (ov_sub64 rfl rfl om) ?_
     refine KD.val rfl rfl (ov_move rfl) <| KD.val rfl rfl (ov_move rfl) <| KD.val rfl rfl (ov_move rfl) ?_
     refine KD.val rfl rfl (ov_idxSN au6 Tryz.underlying24 Tryz.sizeOf3 rfl rfl om) ?_
     refine KD.rdC rfl rfl (om_sr1 asm Tryz.isAgg3 rfl rfl (by exact getq 0 au4) (by rfl) id) ?_
     refine KD.fork rfl rfl ?_ ?_
     ·
      refine LM.single Tryz.underlying24 Tryz.sizeOf3 Tryz.zeroValue3 rfl rfl rfl rfl rfl (fun b59 hb59 => ?_)
      refine LM.nil ?_
      refine kq1 ?_
      refine KD.fork rfl rfl ?_ ?_
      ·
       refine LM.app Tryz.underlying24 Tryz.typeInfo3 rfl rfl rfl rfl rfl rfl rfl asm (by rfl) ir (by intro _ u hu; simp [fI] at hu; (repeat (first | (rcases hu with rfl | hu) | subst hu | rfl))) (by first | exact Nat.le_refl _ | omega) au10 (by first | omega | (unfold maxLen; omega)) (by simp only [Tryz.t3]; omega) (fun ad60 n60 cap60 m60 hn60 hs60 hin60 => ?_)
       refine LM.nil ?_
       refine kq1 ?_
       refine KD.one rfl ?_
       refine LM.single Tryz.underlying24 Tryz.sizeOf3 Tryz.zeroValue3 rfl rfl rfl rfl rfl (fun b66 hb66 => ?_)
       refine LM.nil ?_
       refine kq1 ?_
       refine KD.one rfl ?_
       refine LM.app Tryz.underlying24 Tryz.typeInfo3 rfl rfl rfl rfl rfl rfl rfl asm (by rfl) ir (by intro _ u hu; simp [fI] at hu; (repeat (first | (rcases hu with rfl | hu) | subst hu | rfl))) (by first | exact Nat.le_refl _ | omega) au10 (by first | omega | (unfold maxLen; omega)) (by simp only [Tryz.t3]; omega) (fun ad67 n67 cap67 m67 hn67 hs67 hin67 => ?_)
       refine LM.nil ?_
       refine kq1 ?_
       refine KD.val rfl rfl (ov_assign rfl) <| KD.val rfl rfl (ov_assign rfl) <| KD.nil ?_
       refine QM.sub (e' := [(0, _), (1, _), (2, _), (3, _), (10, _), (12, _), (13, _), (14, _), (17, _), (18, _), (19, _), (26, _), (27, _), (28, _), (38, _), (39, _), (40, _)]) au9 ?_
       refine QM.block_normal ?_
       refine QM.then (wpM.region ?_)
       refine LM.val (ov_add64 rfl rfl om) ?_
       refine LM.mv rfl <| nC [(0, _), (1, _), (2, _), (3, _), (10, _), (12, _), (13, _), (14, _), (17, _), (18, _), (19, _), (26, _), (27, _), (28, _), (38, _), (39, _), (40, _)] ?_
       refine QM.againK (p + 1, ad60, n60, cap60, m60, ad67, n67, cap67, m67) ⟨au2, au2, au2, rfl, rfl, rfl, rfl, rfl, rfl, rfl, rfl, rfl, rfl, rfl, rfl, rfl, rfl, trivial⟩ au1 (fun _ h => h) ?_ ?_
       · exact ⟨by omega, by rw [tkL_yes hb5, List.length_append]; exact hn60, by rw [wkL_yes hb5, List.length_append]; exact hn67, tkL_yes hb5 ▸ hs60, wkL_yes hb5 ▸ hs67⟩
       · (dsimp only; omega)
      refine LM.single Tryz.underlying24 Tryz.sizeOf3 Tryz.zeroValue3 rfl rfl rfl rfl rfl (fun b66 hb66 => ?_)
      refine LM.nil ?_
      refine kq1 ?_
      refine KD.one rfl ?_
      refine LM.app Tryz.underlying24 Tryz.typeInfo3 rfl rfl rfl rfl rfl rfl rfl asm (by rfl) ir (by intro _ u hu; simp [fI] at hu; (repeat (first | (rcases hu with rfl | hu) | subst hu | rfl))) (by first | exact Nat.le_refl _ | omega) au10 (by first | omega | (unfold maxLen; omega)) (by simp only [Tryz.t3]; omega) (fun ad60 n60 cap60 m60 hn60 hs60 hin60 => ?_)
      refine LM.nil ?_
      refine kq1 ?_
      refine KD.one rfl ?_
      refine LM.app Tryz.underlying24 Tryz.typeInfo3 rfl rfl rfl rfl rfl rfl rfl asm (by rfl) ir (by intro _ u hu; simp [fI] at hu; (repeat (first | (rcases hu with rfl | hu) | subst hu | rfl))) (by first | exact Nat.le_refl _ | omega) au10 (by first | omega | (unfold maxLen; omega)) (by simp only [Tryz.t3]; omega) (fun ad67 n67 cap67 m67 hn67 hs67 hin67 => ?_)
      refine LM.nil ?_
      refine kq1 ?_
      refine KD.val rfl rfl (ov_assign rfl) <| KD.val rfl rfl (ov_assign rfl) <| KD.nil ?_
      refine QM.sub (e' := [(0, _), (1, _), (2, _), (3, _), (10, _), (12, _), (13, _), (14, _), (17, _), (18, _), (19, _), (26, _), (27, _), (28, _), (38, _), (39, _), (40, _)]) au9 ?_
      refine QM.block_normal ?_
      refine QM.then (wpM.region ?_)
      refine LM.val (ov_add64 rfl rfl om) ?_
      refine LM.mv rfl <| nC [(0, _), (1, _), (2, _), (3, _), (10, _), (12, _), (13, _), (14, _), (17, _), (18, _), (19, _), (26, _), (27, _), (28, _), (38, _), (39, _), (40, _)] ?_
      refine QM.againK (p + 1, ad60, n60, cap60, m60, ad67, n67, cap67, m67) ⟨au2, au2, au2, rfl, rfl, rfl, rfl, rfl, rfl, rfl, rfl, rfl, rfl, rfl, rfl, rfl, rfl, trivial⟩ au1 (fun _ h => h) ?_ ?_
      · exact ⟨by omega, by rw [tkL_yes hb5, List.length_append]; exact hn60, by rw [wkL_yes hb5, List.length_append]; exact hn67, tkL_yes hb5 ▸ hs60, wkL_yes hb5 ▸ hs67⟩
      · (dsimp only; omega)
     refine LM.single Tryz.underlying24 Tryz.sizeOf3 Tryz.zeroValue3 rfl rfl rfl rfl rfl (fun b66 hb66 => ?_)
     refine LM.nil ?_
     refine kq1 ?_
     refine KD.one rfl ?_
     refine LM.single Tryz.underlying24 Tryz.sizeOf3 Tryz.zeroValue3 rfl rfl rfl rfl rfl (fun b59 hb59 => ?_)
     refine LM.nil ?_
     refine kq1 ?_
     refine KD.one rfl ?_
     refine LM.app Tryz.underlying24 Tryz.typeInfo3 rfl rfl rfl rfl rfl rfl rfl asm (by rfl) ir (by intro _ u hu; simp [fI] at hu; (repeat (first | (rcases hu with rfl | hu) | subst hu | rfl))) (by first | exact Nat.le_refl _ | omega) au10 (by first | omega | (unfold maxLen; omega)) (by simp only [Tryz.t3]; omega) (fun ad60 n60 cap60 m60 hn60 hs60 hin60 => ?_)
     refine LM.nil ?_
     refine kq1 ?_
     refine KD.one rfl ?_
     refine LM.app Tryz.underlying24 Tryz.typeInfo3 rfl rfl rfl rfl rfl rfl rfl asm (by rfl) ir (by intro _ u hu; simp [fI] at hu; (repeat (first | (rcases hu with rfl | hu) | subst hu | rfl))) (by first | exact Nat.le_refl _ | omega) au10 (by first | omega | (unfold maxLen; omega)) (by simp only [Tryz.t3]; omega) (fun ad67 n67 cap67 m67 hn67 hs67 hin67 => ?_)
     refine LM.nil ?_
     refine kq1 ?_
     refine KD.val rfl rfl (ov_assign rfl) <| KD.val rfl rfl (ov_assign rfl) <| KD.nil ?_
     refine QM.sub (e' := [(0, _), (1, _), (2, _), (3, _), (10, _), (12, _), (13, _), (14, _), (17, _), (18, _), (19, _), (26, _), (27, _), (28, _), (38, _), (39, _), (40, _)]) au9 ?_
     refine QM.block_normal ?_
     refine QM.then (wpM.region ?_)
     refine LM.val (ov_add64 rfl rfl om) ?_
     refine LM.mv rfl <| nC [(0, _), (1, _), (2, _), (3, _), (10, _), (12, _), (13, _), (14, _), (17, _), (18, _), (19, _), (26, _), (27, _), (28, _), (38, _), (39, _), (40, _)] ?_
     refine QM.againK (p + 1, ad60, n60, cap60, m60, ad67, n67, cap67, m67) ⟨au2, au2, au2, rfl, rfl, rfl, rfl, rfl, rfl, rfl, rfl, rfl, rfl, rfl, rfl, rfl, rfl, trivial⟩ au1 (fun _ h => h) ?_ ?_
     · exact ⟨by omega, by rw [tkL_yes hb5, List.length_append]; exact hn60, by rw [wkL_yes hb5, List.length_append]; exact hn67, tkL_yes hb5 ▸ hs60, wkL_yes hb5 ▸ hs67⟩
     · (dsimp only; omega)
    have hb5 : ¬ (rs.getD i default).a.getLsbD p = true := (fun q => h5 (by rw [Int.toNat_natCast, bit_and, if_pos q]))
    refine wpM.skip <| QM.block_normal ?_
    refine QM.then (wpM.region ?_)
    refine LM.val (ov_add64 rfl rfl om) ?_
    refine LM.mv rfl <| nC [(0, _), (1, _), (2, _), (3, _), (10, _), (12, _), (13, _), (14, _), (17, _), (18, _), (19, _), (26, _), (27, _), (28, _), (38, _), (39, _), (40, _)] ?_
    refine QM.againK (p + 1, adt, nt, capt, mt, adw, nw, capw, mw) ⟨au2, au2, au2, rfl, rfl, rfl, rfl, rfl, rfl, rfl, rfl, rfl, rfl, rfl, rfl, rfl, rfl, trivial⟩ au1 (fun _ h => h) ?_ ?_
    · exact ⟨by omega, by rw [tkL_no hb5]; exact hnt, by rw [wkL_no hb5]; exact hnw, tkL_no hb5 ▸ hst, wkL_no hb5 ▸ hsw⟩
    · (dsimp only; omega)
   refine wpM.exit <| QM.then_exit <| QM.then_exit <| QM.block_hit <| tR <| LM.mv rfl <| LM.val (ov_len Tryz.underlying24 rfl) <| LM.val (ov_gtr rfl rfl) <| LM.mv rfl ?_
   refine LM.splitD (t := 72) rfl (fun h6 => ?_) (fun h6 => ?_)
   ·
    obtain rfl : p = ws.length := om; have hz : ShrF (tkL (rs.getD i default).hl (rs.getD (i + j) default).hl (rs.getD i default).a ws.length) (wkL ws (rs.getD i default).a ws.length) (((nt : Int) - 1) * ((S : Int) + (C : Int))) := (by have e : nt = (actL (rs.getD i default).a ws.length).length := om; rw [e]; exact hF i j hjl (fun k hk => hsm2 k om) om); have hzk := hz.hk
    refine LM.sp 72 rfl rfl rfl <| LM.mv rfl <| LM.sp 72 rfl rfl rfl <| LM.mv rfl <| LM.sp 72 rfl rfl rfl <| LM.mv rfl <| LM.sp 72 rfl rfl rfl <| LM.val (ov_len Tryz.underlying24 rfl) <| LM.sp 72 rfl rfl rfl ?_
    refine LM.val (ov_sub64 rfl rfl om) ?_
    refine LM.sp 72 rfl rfl rfl <| LM.mv rfl <| LM.sp 72 rfl rfl rfl <| LM.mv rfl <| LM.sp 72 rfl rfl rfl ?_
    refine LM.val (ov_add64 rfl rfl om) ?_
    refine LM.sp 72 rfl rfl rfl ?_
    refine LM.val (ov_mul64 rfl rfl om) ?_
    refine LM.sp 72 rfl rfl rfl ?_
    refine cE Tryz.func80 rfl (fun w hm hc hg => fair_spec (((nt : Int) - 1) * ((S : Int) + (C : Int))) w hnt hnw (hst.srM ir hm) (hsw.srM ir hm) hz.he hz.h16 hz.ht hz.hw hz.hT hz.hW hz.hk hz.hF) ?_
    refine LM.sp 72 rfl rfl rfl ?_
    refine LM.val (ov_not rfl) ?_
    refine LM.val (ov_pickT rfl rfl) <| nA [(0, _), (1, _), (2, _), (3, _), (10, _), (17, _), (18, _), (19, _), (26, _), (27, _), (28, _), (84, _)] ?_
    refine wpM.condB rfl (fun h7 => ?_) (fun h7 => ?_)
    ·
     refine wR <| LM.as rfl <| nA [(8, _)] <| wpM.ret <| QM.block_ret <| QM.then_ret <| QM.then_ret <| QM.block_ret <| QM.block_ret <| QM.then_ret <| QM.then_ret <| QM.block_ret <| QM.then_ret ?_
     refine qL Tryz.results30 rfl fun w' hm' hc' hg' => ?_
     (exfalso; first | omega | (simp at *; done) | (simp_all; done))
    refine wpM.skip <| QM.block_normal ?_
    refine QM.then (wpM.region ?_)
    refine LM.val (ov_add64 rfl rfl om) ?_
    refine LM.mv rfl <| nC [(0, _), (1, _), (2, _), (3, _), (10, _), (17, _), (18, _), (19, _), (26, _), (27, _), (28, _)] ?_
    refine QM.againK (j + 1) ⟨au2, rfl, rfl, rfl, rfl, rfl, rfl, rfl, rfl, rfl, rfl, trivial⟩ au1 (fun _ h => h) ?_ ?_
    · exact ⟨by omega, hsm2⟩
    · omega
   refine LM.dr 72 rfl rfl rfl <| LM.dr 72 rfl rfl rfl <| LM.dr 72 rfl rfl rfl <| LM.dr 72 rfl rfl rfl <| LM.dr 72 rfl rfl rfl <| LM.dr 72 rfl rfl rfl <| LM.dr 72 rfl rfl rfl <| LM.dr 72 rfl rfl rfl <| LM.dr 72 rfl rfl rfl <| LM.dr 72 rfl rfl rfl <| LM.dr 72 rfl rfl rfl <| LM.val (ov_pickF rfl rfl) <| nA [(0, _), (1, _), (2, _), (3, _), (10, _), (17, _), (18, _), (19, _), (26, _), (27, _), (28, _), (84, _)] ?_
   refine wpM.condF rfl ?_
   refine wpM.skip <| QM.block_normal ?_
   refine QM.then (wpM.region ?_)
   refine LM.val (ov_add64 rfl rfl om) ?_
   refine LM.mv rfl <| nC [(0, _), (1, _), (2, _), (3, _), (10, _), (17, _), (18, _), (19, _), (26, _), (27, _), (28, _)] ?_
   refine QM.againK (j + 1) ⟨au2, rfl, rfl, rfl, rfl, rfl, rfl, rfl, rfl, rfl, rfl, trivial⟩ au1 (fun _ h => h) ?_ ?_
   · exact ⟨by omega, hsm2⟩
   · omega
  refine wpM.exit <| QM.then_exit <| QM.then_exit <| QM.block_hit <| QM.block_normal ?_
  refine QM.then (wpM.region ?_)
  refine LM.val (ov_add64 rfl rfl om) ?_
  refine LM.mv rfl <| nC [(0, _), (1, _), (2, _), (3, _), (17, _), (18, _), (19, _)] ?_
  refine QM.againK (i + 1) ⟨au2, rfl, rfl, rfl, rfl, rfl, rfl, trivial⟩ au1 (fun _ h => h) ?_ ?_
  · omega
  · omega
 refine wpM.exit <| QM.then_exit <| QM.then_exit <| QM.block_hit <| tR <| LM.as rfl <| nA [(8, _)] <| wpM.ret ?_
 refine qL Tryz.results30 rfl fun w' hm' hc' hg' => ?_
 exact ⟨rfl, hc'⟩
end Go.Eng
namespace Go.Eng
open Go Go.RowKit
structure MkX (rs : List Mkr) (xs : List Lkm) : Prop where
  l : rs.length = xs.length
  g : ∀ (i : Nat) (x : Lkm), xs[i]? = some x → (rs.getD i default).a = actS x ∧ (rs.getD i default).hl = heldL x
theorem MkX.nil : MkX [] [] := ⟨rfl, fun i x h => by simp at h⟩
theorem MkX.snoc {rs : List Mkr} {xs : List Lkm} (h : MkX rs xs) {r : Mkr} {x : Lkm} (h1 : r.a = actS x) (h2 : r.hl = heldL x) : MkX (rs ++ [r]) (xs ++ [x]) := by
  refine ⟨by rw [List.length_append, List.length_append, h.l]; rfl, fun i y hy => ?_⟩
  have hil : i < (xs ++ [x]).length := (List.getElem?_eq_some_iff.1 hy).1
  rw [List.length_append, List.length_singleton] at hil
  rw [List.getD_eq_getElem?_getD]
  by_cases c : i < xs.length
  · rw [List.getElem?_append_left c] at hy
    rw [List.getElem?_append_left (by have := h.l; omega)]
    have := h.g i y hy
    rw [List.getD_eq_getElem?_getD] at this; exact this
  · have e : i = xs.length := by omega
    subst e
    rw [List.getElem?_append_right om, Nat.sub_self] at hy
    have e2 : y = x := by simpa using hy.symm
    rw [← h.l, List.getElem?_append_right om, Nat.sub_self, e2]
    exact ⟨h1, h2⟩
theorem ChF.fairR {S C : Nat} {B : Int} {ws : List Int} {xs : List Lkm} {rs : List Mkr} (h : ChF S C B ws xs) (hB : B ≤ 200) (hwl : ws.length ≤ 4) (hw : ∀ r, r < ws.length → 1 ≤ ws.getD r 0 ∧ ws.getD r 0 ≤ 16) (hm : MkX rs xs) : FairR S C ws rs := fun i j hij hsm hl => by
  have hl1 : i + j < xs.length := by have := hm.l; omega
  obtain ⟨x, hx⟩ : ∃ x, xs[i]? = some x := ⟨_, List.getElem?_eq_getElem om⟩
  obtain ⟨z, hz⟩ : ∃ z, xs[i + j]? = some z := ⟨_, List.getElem?_eq_getElem hl1⟩
  obtain ⟨a1, a2⟩ := hm.g i x hx
  obtain ⟨b1, b2⟩ := hm.g _ z hz
  rw [a1] at hl
  have := h.fair hB hwl hw hx hz (fun k y hk hy => by rw [← (hm.g _ y hy).1, hsm k hk, a1]) hl
  rw [a1, a2, b2]; exact this
structure FrI (S C i : Nat) (tk : Int) (x : Lkm) (ws : List Int) (xs : List Lkm) : Prop where
  f : ∃ t, LkF S C t (720720 * i) x ∧ (x.ho.length = 1 → (t : Int) = tk)
  t0 : 0 ≤ tk ∧ tk ≤ i
  len : x.ld.l.length = ws.length
  ww : ∀ r, r < ws.length → (gP x.ld.l r).w = ws.getD r 0
  wb : ∀ r, r < ws.length → 1 ≤ ws.getD r 0 ∧ ws.getD r 0 ≤ 16
  l4 : 1 ≤ ws.length ∧ ws.length ≤ 4
  ch : ChF S C i ws xs
  la : ∀ y, xs[xs.length - 1]? = some y → y = x
  hb : LkB i x
  xl : xs.length ≤ i + 1
theorem FrI.w {S C i : Nat} {tk : Int} {x : Lkm} {ws : List Int} {xs : List Lkm} (h : FrI S C i tk x ws xs) : LkW x := by obtain ⟨t, ht, _⟩ := h.f; exact ht.w
theorem FrI.sh {S C i : Nat} {tk : Int} {x : Lkm} {ws : List Int} {xs : List Lkm} (h : FrI S C i tk x ws xs) : x.sh = false := by obtain ⟨t, ht, _⟩ := h.f; exact ht.sh
theorem FrI.new {S C : Nat} {gs : List Int} (hS : 1 ≤ S ∧ S ≤ 16) (hC : 1 ≤ C ∧ C ≤ 32) (hg : 1 ≤ gs.length ∧ gs.length ≤ 4) (hw : ∀ i, i < gs.length → 1 ≤ gs.getD i 0 ∧ gs.getD i 0 ≤ 16) :
    FrI S C 0 0 (lkNew ⟨false, S, C, 0, 0⟩ gs) gs [lkNew ⟨false, S, C, 0, 0⟩ gs] := by
  obtain ⟨h1, h2, h3⟩ := F_new hS hC hg hw
  have hb := lkNew_b ⟨false, S, C, 0, 0⟩ gs
  refine ⟨⟨0, h1, fun _ => rfl⟩, ⟨Int.le_refl _, Int.le_refl _⟩, h2, h3, hw, hg, ?_, fun y hy => by simpa using hy.symm, hb, by simp⟩
  exact (ChF.nil S C 0 gs).snoc (xs := []) (Int.le_refl _) ⟨⟨0, 0, h1⟩, h2, h3, fun r hr => hb.hh r om⟩ (fun x hx => by simp at hx)
theorem last_snoc {α : Type} {xs : List α} {z y : α} (h : (xs ++ [z])[(xs ++ [z]).length - 1]? = some y) : y = z := by
  rw [List.length_append, List.length_singleton, Nat.add_sub_cancel, List.getElem?_append_right (Nat.le_refl _), Nat.sub_self] at h
  simpa using h.symm
theorem FrI.do_ {S C i : Nat} {tk : Int} {x : Lkm} {ws : List Int} {xs : List Lkm} {d : Dsc} (h : FrI S C i tk x ws xs) (hi : i ≤ 150) (hd : 0 ≤ d.k) (h7 : (fixD x tk C d).k = 7 → isO x.ld (fixD x tk C d).p = false) :
    FrI S C (i + 1) (lawT x (doX x (fixD x tk C d)) (fixD x tk C d).k tk) (doX x (fixD x tk C d)) ws (xs ++ [doX x (fixD x tk C d)]) := by
  obtain ⟨t, hF, ht⟩ := h.f
  have hf : FixF x tk C (fixD x tk C d) := fix_f hd
  generalize fixD x tk C d = e at hf h7 ⊢
  obtain ⟨⟨t', q1, q2⟩, q3⟩ := F_do hF ht hf om (fun q => by unfold weiB; rw [hF.sh, h7 q]; rfl)
  have hb := do_b hF.w.wd h.hb e
  have hl := q3.len.trans h.len
  have hww : ∀ r, r < ws.length → (gP (doX x e).ld.l r).w = ws.getD r 0 := fun r hr => (q3.ww r (by have := h.len; omega)).trans (h.ww r hr)
  have hr := lawT_r (x := x) (z := doX x e) (k := e.k) h.t0.1
  have ht0 := h.t0
  refine ⟨⟨t', by rw [show 720720 * (i + 1) = 720720 * i + 720720 by omega]; exact q1, q2⟩, ⟨hr.1, by omega⟩, hl, hww, h.wb, h.l4, ?_, fun y hy => last_snoc hy, hb, ?_⟩
  · refine h.ch.snoc om ⟨⟨t', _, q1⟩, hl, hww, fun r hr => hb.hh r om⟩ (fun y hy => ?_)
    rw [h.la y hy]; exact q3
  · have := h.xl; rw [List.length_append, List.length_singleton]; omega
theorem FrI.do7 {S C i p : Nat} {tk : Int} {x : Lkm} {ws : List Int} {xs : List Lkm} {d : Dsc} (h : FrI S C i tk x ws xs) (hi : i ≤ 150) (hd : 0 ≤ d.k) (h7 : (fixD x tk C d).k = 7) (ep : (fixD x tk C d).p = p) (hp : p < ws.length) :
    FrI S C (i + 1) (lawT x (doX x (fixD x tk C d)) (fixD x tk C d).k tk) (doX x (fixD x tk C d)) (ws.set p (bringO (fixD x tk C d).w 1 16)) ([] ++ [doX x (fixD x tk C d)]) := by
  obtain ⟨t, hF, ht⟩ := h.f
  generalize fixD x tk C d = e at h7 ep ⊢
  have hlen := h.len
  obtain ⟨⟨t', q1, q2⟩, q3, q4⟩ := F_do7 hF ht h7 ep om
  have hb := do_b hF.w.wd h.hb e
  have hsl : (ws.set p (bringO e.w 1 16)).length = ws.length := List.length_set ..
  have hg : ∀ r, (ws.set p (bringO e.w 1 16)).getD r 0 = if r = p then bringO e.w 1 16 else ws.getD r 0 := fun r => by
    rw [List.getD_eq_getElem?_getD, List.getD_eq_getElem?_getD, List.getElem?_set]
    by_cases c : r = p
    · subst c; rw [if_pos rfl, if_pos rfl, if_pos hp]; rfl
    · rw [if_neg (fun q => c q.symm), if_neg c]
  have hl : (doX x e).ld.l.length = (ws.set p (bringO e.w 1 16)).length := by omega
  have hww : ∀ r, r < (ws.set p (bringO e.w 1 16)).length → (gP (doX x e).ld.l r).w = (ws.set p (bringO e.w 1 16)).getD r 0 := fun r hr => by
    rw [hsl] at hr
    rw [hg r, q4 r om]
    split
    · rfl
    · exact h.ww r hr
  have hwb : ∀ r, r < (ws.set p (bringO e.w 1 16)).length → 1 ≤ (ws.set p (bringO e.w 1 16)).getD r 0 ∧ (ws.set p (bringO e.w 1 16)).getD r 0 ≤ 16 := fun r hr => by
    rw [hg r]; split
    · exact bring_in om
    · exact h.wb r (hsl ▸ hr)
  have hr := lawT_r (x := x) (z := doX x e) (k := e.k) h.t0.1
  have ht0 := h.t0
  refine ⟨⟨t', by rw [show 720720 * (i + 1) = 720720 * i + 720720 by omega]; exact q1, q2⟩, ⟨hr.1, by omega⟩, hl, hww, hwb, hsl ▸ h.l4, ?_, fun y hy => last_snoc hy, hb, by simp⟩
  exact (ChF.nil S C i _).snoc om ⟨⟨t', _, q1⟩, hl, hww, fun r hr => hb.hh r om⟩ (fun y hy => by simp at hy)
end Go.Eng
namespace Go.Eng
open Go Go.Proofs Go.RowKit
def HdM (n0 : Nat) (rs : List Mkr) (mm : Mem0) : Prop := ∃ M : List Mem0, mm = M.flatten ∧ M.length = rs.length ∧ ∀ i, i < rs.length → (rs.getD i default).n = (rs.getD i default).hl.length ∧ Sl fI 3 1 n0 (rs.getD i default).hl (.slice (rs.getD i default).ad (rs.getD i default).n (rs.getD i default).cap) (M.getD i [])
theorem HdM.nil (n0 : Nat) : HdM n0 [] [] := ⟨[], rfl, rfl, fun i h => by cases h⟩
theorem HdM.snoc {n0 : Nat} {rs : List Mkr} {mm m : Mem0} (h : HdM n0 rs mm) {r : Mkr} (hn : r.n = r.hl.length) (hs : Sl fI 3 1 n0 r.hl (.slice r.ad r.n r.cap) m) : HdM n0 (rs ++ [r]) (mm ++ m) := by
  obtain ⟨M, rfl, h1, h2⟩ := h
  refine ⟨M ++ [m], by simp, by simp [h1], fun i hi => ?_⟩
  rw [List.length_append, List.length_singleton] at hi
  rw [List.getD_eq_getElem?_getD (l := rs ++ [r]), List.getD_eq_getElem?_getD (l := M ++ [m])]
  by_cases c : i < rs.length
  · rw [List.getElem?_append_left c, List.getElem?_append_left om]
    have := h2 i c
    rw [List.getD_eq_getElem?_getD, List.getD_eq_getElem?_getD] at this; exact this
  · have e : i = rs.length := by omega
    subst e
    rw [List.getElem?_append_right om, List.getElem?_append_right om, h1, Nat.sub_self]
    exact ⟨hn, hs⟩
theorem HdM.ge {n0 : Nat} {rs : List Mkr} {mm : Mem0} (h : HdM n0 rs mm) : ∀ p ∈ mm, n0 ≤ p.1 := by
  obtain ⟨M, rfl, h1, h2⟩ := h
  intro p hp
  obtain ⟨m, hm, hpm⟩ := List.mem_flatten.1 hp
  obtain ⟨i, hi, rfl⟩ := List.getElem_of_mem hm
  refine (h2 i om).2.ge p ?_
  rw [List.getD_eq_getElem?_getD, List.getElem?_eq_getElem hi]; exact hpm
theorem HdM.rd {n0 : Nat} {rs : List Mkr} {xs : List Lkm} {mm : Mem0} {S C i : Nat} {tk : Int} {x : Lkm} {ws : List Int} {w : World} (h : HdM n0 rs mm) (hx : MkX rs xs) (hf : FrI S C i tk x ws xs) (hi : i ≤ 900) (hm : Mem w mm) : ∀ r ∈ rs, MkI ws.length r w := by
  obtain ⟨M, rfl, h1, h2⟩ := h
  intro r hr
  obtain ⟨j, hj, rfl⟩ := List.getElem_of_mem hr
  have e : rs.getD j default = rs[j] := by rw [List.getD_eq_getElem?_getD, List.getElem?_eq_getElem hj]; rfl
  have h3 := h2 j hj
  obtain ⟨y, hy⟩ : ∃ y, xs[j]? = some y := ⟨_, List.getElem?_eq_getElem (by have := hx.l; omega)⟩
  have h4 := (hx.g j y hy).2
  obtain ⟨_, e1, _, e3⟩ := hf.ch.at_ j y hy
  rw [e] at h3 h4
  refine ⟨h3.1, by rw [h4]; unfold heldL; rw [List.length_map]; exact e1, h3.2.srM ir (fl_get (i := j) om hm), fun p hp => ?_⟩
  rw [h4, heldL_get om]
  have := e3 p hp; omega
def rstB (x z : Lkm) (k : Int) : Prop := x.ho.length ≠ z.ho.length ∨ (z.ho.length = 1 ∧ (x.ho.getD 0 default).t ≠ (z.ho.getD 0 default).t) ∨ k = 2
theorem lawT_0 {x z : Lkm} {k tk : Int} (h : rstB x z k) : (0 : Int) = lawT x z k tk := (if_pos h).symm
theorem lawT_1 {x z : Lkm} {k tk : Int} (h1 : ¬ rstB x z k) (h : k = 5 ∨ k = 6) : tk + 1 = lawT x z k tk := ((if_neg h1).trans (if_pos h)).symm
theorem lawT_2 {x z : Lkm} {k tk : Int} (h1 : ¬ rstB x z k) (h5 : ¬ k = 5) (h6 : ¬ k = 6) : tk = lawT x z k tk := ((if_neg h1).trans (if_neg (fun q => by rcases q with q | q; exact h5 q; exact h6 q))).symm
theorem rst_dec {x z : Lkm} {k : Int} (h1 : x.ho.length = z.ho.length) (h2 : ¬ z.ho.length = 1 ∨ (x.ho.getD 0 default).t = (z.ho.getD 0 default).t) : decide (k = 2) = true ↔ rstB x z k := by
  constructor
  · intro q; exact .inr (.inr (of_decide_eq_true q))
  · rintro (q | ⟨q, q2⟩ | q)
    · exact absurd h1 q
    · rcases h2 with h | h
      · exact absurd q h
      · exact absurd h q2
    · exact decide_eq_true q
theorem isO_out {x : Ldm} {p : Int} (h : p < 0 ∨ (x.l.length : Int) ≤ p) : isO x p = false := by unfold isO; simp; omega
theorem sclockFair {gs : List Int} {l : List Dsc} {ad ad2 : Option Addr} {n cap n2 cap2 : Nat} (p0 p1 : Int) (w : World) (hT : Tab w) (hp0 : 0 ≤ p0 ∧ p0 ≤ 255) (hp1 : 0 ≤ p1 ∧ p1 ≤ 255) (hn : n = gs.length) (hgs : Sr (fun n => [.int .u8 n]) 1 gs (.slice ad n cap) w) (hg8 : ∀ x ∈ gs, 0 ≤ x ∧ x ≤ 255) (hn2 : n2 = l.length) (hl : Sr fDs 4 l (.slice ad2 n2 cap2) w) (hk : ∀ d ∈ l, 0 ≤ d.k ∧ d.k ≤ 255) : Ret Tryz.prog 5 #[.agg #[.int .u8 p0, .int .u8 p1], .slice ad n cap, .slice ad2 n2 cap2] w (fun v w' => v = .bool true ∧ Ext w w') := by
 have hn1 := hT.pos; obtain ⟨wl, hwl⟩ : ∃ wl, wl = gs.map (fun x => 1 + x % 16) := ⟨_, rfl⟩; have hwn : wl.length = gs.length := (by rw [hwl, List.length_map]); have hwi : ∀ i, i < gs.length → wl.getD i 0 = 1 + gs.getD i 0 % 16 := (fun i hi => by rw [hwl, List.getD_eq_getElem?_getD, List.getElem?_map, List.getElem?_eq_getElem hi, List.getD_eq_getElem?_getD, List.getElem?_eq_getElem hi]; rfl); have hwb : ∀ i, i < gs.length → 0 ≤ gs.getD i 0 ∧ gs.getD i 0 ≤ 255 := (fun i hi => hg8 _ (dmem hi)); obtain ⟨S, hSe⟩ : ∃ S : Nat, 1 + p0 % 16 = (S : Int) := ⟨(1 + p0 % 16).toNat, by omega⟩; obtain ⟨C, hCe⟩ : ∃ C : Nat, 1 + p1 % 32 = (C : Int) := ⟨(1 + p1 % 32).toNat, by omega⟩; have hS1 : 1 ≤ S ∧ S ≤ 16 := om; have hC1 : 1 ≤ C ∧ C ≤ 32 := om
 refine Ret.enterM Tryz.func5 rfl Tryz.ntmps5 rfl ([]) (no) (Mem.nil w) ?_
 refine wR ?_
 refine LM.box rfl rfl (fun b3 hb3 => ?_)
 refine LM.as rfl <| nA [(1, _), (2, _), (3, _)] <| wpM.seq <| wR ?_
 refine cE Tryz.func6 rfl (fun w hm hc hg => awake20_spec w (hT.ext hc)) ?_
 refine LM.val (ov_not rfl) ?_
 refine nA [(1, _), (2, _), (3, _), (21, _)] ?_
 refine wpM.condB rfl (fun h1 => ?_) (fun h1 => ?_)
 ·
  cases h1
 refine wpM.skip <| QM.then <| wpM.seq <| wR <| LM.mv rfl <| LM.val (ov_len Tryz.underlying50 rfl) <| LM.val (ov_gtr rfl rfl) <| LM.mv rfl ?_
 refine LM.splitD (t := 25) rfl (fun h2 => ?_) (fun h2 => ?_)
 ·
  refine LM.dr 25 rfl rfl rfl <| LM.dr 25 rfl rfl rfl <| LM.dr 25 rfl rfl rfl <| LM.val (ov_pickT rfl rfl) <| LM.mv rfl <| LM.dr 30 rfl rfl rfl <| LM.dr 30 rfl rfl rfl <| LM.dr 30 rfl rfl rfl <| LM.val (ov_pickT rfl rfl) <| nA [(1, _), (2, _), (3, _), (34, _)] ?_
  refine wpM.condT rfl ?_
  refine wR <| LM.as rfl <| nA [(6, _)] <| wpM.ret <| QM.then_ret ?_
  refine qL Tryz.results5 rfl fun w' hm' hc' hg' => ?_
  exact ⟨rfl, hc'⟩
 refine LM.sp 25 rfl rfl rfl <| LM.mv rfl <| LM.sp 25 rfl rfl rfl <| LM.val (ov_len Tryz.underlying50 rfl) <| LM.sp 25 rfl rfl rfl <| LM.val (ov_eql rfl rfl) <| LM.val (ov_pickF rfl rfl) <| LM.mv rfl ?_
 refine LM.splitD (t := 30) rfl (fun h3 => ?_) (fun h3 => ?_)
 ·
  refine LM.dr 30 rfl rfl rfl <| LM.dr 30 rfl rfl rfl <| LM.dr 30 rfl rfl rfl <| LM.val (ov_pickT rfl rfl) <| nA [(1, _), (2, _), (3, _), (34, _)] ?_
  refine wpM.condT rfl ?_
  refine wR <| LM.as rfl <| nA [(6, _)] <| wpM.ret <| QM.then_ret ?_
  refine qL Tryz.results5 rfl fun w' hm' hc' hg' => ?_
  exact ⟨rfl, hc'⟩
 refine LM.sp 30 rfl rfl rfl <| LM.mv rfl <| LM.sp 30 rfl rfl rfl <| LM.val (ov_len Tryz.underlying25 rfl) <| LM.sp 30 rfl rfl rfl <| LM.val (ov_gtr rfl rfl) <| LM.val (ov_pickF rfl rfl) <| nA [(1, _), (2, _), (3, _), (34, _)] ?_
 refine wpM.condD rfl (fun h4 => ?_) (fun h4 => ?_)
 ·
  refine wR <| LM.as rfl <| nA [(6, _)] <| wpM.ret <| QM.then_ret ?_
  refine qL Tryz.results5 rfl fun w' hm' hc' hg' => ?_
  exact ⟨rfl, hc'⟩
 refine wpM.skip <| QM.then <| wpM.seq ?_
 refine wpM.draw [(0, 0), (1, 1), (2, 0), (3, 0), (4, 0), (5, 0), (6, 1), (7, 0), (8, 0), (9, 0), (10, 0), (11, 0)] kr kr ?_
 refine LD.val rfl rfl (ov_idxA Tryz.underlying49 Tryz.sizeOf5 rfl rfl om) ?_
 refine LD.rd rfl rfl (oml rfl rfl rfl) ?_
 refine LD.val rfl rfl (ov_remJ rfl rfl om om) ?_
 refine LD.val rfl rfl (ov_to64 Tryz.underlying5 Tryz.underlying3 rfl om) ?_
 refine LD.val rfl rfl (ov_add64 rfl rfl om) ?_
 refine LD.val rfl rfl (ov_idxA Tryz.underlying49 Tryz.sizeOf5 rfl rfl om) ?_
 refine LD.rd rfl rfl (oml rfl rfl rfl) ?_
 refine LD.val rfl rfl (ov_remJ rfl rfl om om) ?_
 refine LD.val rfl rfl (ov_to64 Tryz.underlying5 Tryz.underlying3 rfl om) ?_
 refine LD.val rfl rfl (ov_add64 rfl rfl om) ?_
 refine LD.val rfl rfl (ov_assign rfl) <| LD.val rfl rfl (ov_assign rfl) <| LD.nil ?_
 refine QM.sub (e' := [(1, _), (2, _), (7, _), (8, _)]) au9 (QM.then (wpM.seq (wpM.region ?_)))
 refine LM.as rfl <| nA [(1, _), (2, _), (7, _), (8, _), (9, _)] <| wpM.seq <| wR ?_
 rw [hSe, hCe]
 refine LM.mv rfl <| LM.val (ov_len Tryz.underlying50 rfl) <| LM.mv rfl <| nA [(2, _), (7, _), (8, _), (9, _), (45, _), (46, _), (47, _)] <| wpM.block ?_
 refine wpM.loopK0 (α := Nat × Option Addr × Nat × Nat × Mem0) (fun ⟨k, adw, nw, capw, mw⟩ => [(9, .slice adw nw capw), (47, .int .i64 (k : Nat))]) [(2, _), (7, _), (8, _), (45, _), (46, _)] (fun ⟨k, adw, nw, capw, mw⟩ => mw ++ ((b3, .cells #[.int .u8 p0, .int .u8 p1] 49 (0, 0)) :: [])) (fun ⟨k, adw, nw, capw, mw⟩ => k ≤ gs.length ∧ nw = k ∧ Sl fI 3 1 w.heap.size (wl.take k) (.slice adw nw capw) mw) (fun ⟨k, adw, nw, capw, mw⟩ => gs.length - k) ((0, none, 0, 0, [])) ⟨au2, au2, rfl, rfl, rfl, rfl, rfl, trivial⟩ au1 ⟨Nat.zero_le _, rfl, .nil _ _ _ _⟩ ?_
 rintro ⟨k, adw, nw, capw, mw⟩ ⟨hkk, hnw, hsw⟩
 change wpM _ _ _ _ _ _ _ (mw ++ ((b3, .cells #[.int .u8 p0, .int .u8 p1] 49 (0, 0)) :: [])) _ _ _
 refine wR <| LM.val (ov_lss rfl rfl) <| nA [(2, _), (7, _), (8, _), (9, _), (45, _), (46, _), (47, _), (48, _)] <| wpM.seq ?_
 refine wpM.condD rfl (fun h5 => ?_) (fun h5 => ?_)
 ·
  have hwk := hwb k om; have hwki := hwi k om; have hsk : wl.take k ++ [1 + gs.getD k 0 % 16] = wl.take (k + 1) := (by rw [take_snoc 0 om, hwki]); have hltk : (wl.take k).length = k := (by rw [List.length_take]; omega)
  refine wpM.skip <| QM.then <| wpM.seq <| wpM.block <| wR ?_
  refine LM.val (ov_idxSN au6 Tryz.underlying50 Tryz.sizeOf5 rfl rfl om) ?_
  refine LM.rdC (om_sr1 asm Tryz.isAgg5 rfl rfl (by exact getq 0 au4) (by rfl) id) ?_
  refine LM.as rfl ?_
  refine LM.nil (QM.sub (e' := [(2, _), (7, _), (8, _), (9, _), (11, _), (45, _), (46, _), (47, _)]) au9 (QM.then (wpM.region ?_)))
  refine LM.mv rfl <| LM.mv rfl ?_
  refine LM.val (ov_remJ rfl rfl om om) ?_
  refine LM.val (ov_to64 Tryz.underlying5 Tryz.underlying3 rfl om) ?_
  refine LM.val (ov_add64 rfl rfl om) ?_
  refine LM.single Tryz.underlying24 Tryz.sizeOf3 Tryz.zeroValue3 rfl rfl rfl rfl rfl (fun b56 hb56 => ?_)
  refine LM.app (a := 1 + gs.getD k 0 % 16) Tryz.underlying24 Tryz.typeInfo3 rfl rfl rfl rfl rfl rfl rfl asm (by rfl) ir (by intro _ u hu; simp [fI] at hu; (repeat (first | (rcases hu with rfl | hu) | subst hu | rfl))) (by first | exact Nat.le_refl _ | omega) au10 (by first | omega | (unfold maxLen; omega)) (by simp only [Tryz.t3]; omega) (fun ad57 n57 cap57 m57 hn57 hs57 hin57 => ?_)
  refine LM.as rfl <| nC [(2, _), (7, _), (8, _), (9, _), (45, _), (46, _), (47, _)] <| QM.block_normal ?_
  refine QM.then (wpM.region ?_)
  refine LM.val (ov_add64 rfl rfl om) ?_
  refine LM.mv rfl <| nC [(2, _), (7, _), (8, _), (9, _), (45, _), (46, _), (47, _)] ?_
  refine QM.againK (k + 1, ad57, n57, cap57, m57) ⟨au2, au2, rfl, rfl, rfl, rfl, rfl, trivial⟩ au1 (fun _ h => h) ?_ ?_
  · exact ⟨by omega, by omega, hsk ▸ hs57⟩
  · (dsimp only; omega)
 have hsw2 : Sl fI 3 1 w.heap.size wl (.slice adw nw capw) mw := (by rw [List.take_of_length_le om] at hsw; exact hsw); have hg1 : 1 ≤ wl.length ∧ wl.length ≤ 4 := om; have hfr0 := FrI.new (gs := wl) hS1 hC1 hg1 (fun i hi => by rw [hwi i om]; omega)
 refine wpM.exit <| QM.then_exit <| QM.then_exit <| QM.block_hit <| tR <| LM.mv rfl <| LM.mv rfl ?_
 refine LM.val (ov_build (cs := #[.bool false, .int .i64 (S : Nat), .int .i64 (C : Nat), .int .i64 0, .int .i64 0]) rfl kr) ?_
 refine LM.mv rfl ?_
 refine LM.callT (oc_call (enters_fn Tryz.func7 kr rfl) rfl) LkNew.mono (fun w hm hc hg => lknew_spec (gs := wl) ⟨false, (S : Nat), (C : Nat), 0, 0⟩ w om (hsw2.srM ir hm)) ?_
 rintro u63 m63 ⟨bq, rfl, h63⟩ hge63
 refine LM.as rfl <| nB [(2, _), (7, _), (8, _), (9, _), (12, _)] <| LM.mv rfl <| LM.mv rfl <| LM.val (ov_len Tryz.underlying24 rfl) ?_
 refine LM.callT (oc_call (enters_fn Tryz.func28 kr rfl) rfl) MkN.mono (fun w hm hc hg => mark_spec (x := lkNew ⟨false, (S : Nat), (C : Nat), 0, 0⟩ wl) w h63 hfr0.w (Nat.zero_le _) (by have := hfr0.len; omega) (hm.pick m63)) ?_
 rintro u67 m67 ⟨adh, nh, caph, rfl, hnh, hsh67⟩ -
 refine LM.single Tryz.underlying55 Tryz.sizeOf53 Tryz.zeroValue53 rfl rfl rfl rfl rfl (fun b68 hb68 => ?_)
 refine LM.as rfl <| nB [(2, _), (7, _), (8, _), (9, _), (12, _), (13, _)] <| LM.as rfl <| nA [(2, _), (7, _), (8, _), (9, _), (12, _), (13, _), (14, _)] <| wpM.seq <| wR <| LM.mv rfl <| LM.val (ov_len Tryz.underlying25 rfl) <| LM.mv rfl <| nA [(7, _), (8, _), (9, _), (12, _), (13, _), (14, _), (69, _), (70, _), (71, _)] <| wpM.block ?_
 refine wpM.loopK0 (α := Nat × Lkm × Mem0 × Int × List Int × Mem0 × List Mkr × Option Addr × Nat × Nat × Mem0 × Mem0 × List Lkm) (fun ⟨i, x, mq, tk, ws, mw2, rs, adm, nm, capm, mm, mh, xs⟩ => [(13, .slice adm nm capm), (14, .int .i64 tk), (71, .int .i64 (i : Nat))]) [(7, _), (8, _), (9, _), (12, _), (69, _), (70, _)] (fun ⟨i, x, mq, tk, ws, mw2, rs, adm, nm, capm, mm, mh, xs⟩ => mq ++ (mw2 ++ (mm ++ (mh ++ ((b3, .cells #[.int .u8 p0, .int .u8 p1] 49 (0, 0)) :: []))))) (fun ⟨i, x, mq, tk, ws, mw2, rs, adm, nm, capm, mm, mh, xs⟩ => i ≤ l.length ∧ LkM w.heap.size i bq x (x.wt.map (·.who)) mq ∧ Sl fI 3 1 w.heap.size ws (.slice adw nw capw) mw2 ∧ Sl fMk 53 2 w.heap.size rs (.slice adm nm capm) mm ∧ HdM w.heap.size rs mh ∧ MkX rs xs ∧ FrI S C i tk x ws xs ∧ nm = rs.length ∧ nw = ws.length) (fun ⟨i, x, mq, tk, ws, mw2, rs, adm, nm, capm, mm, mh, xs⟩ => l.length - i) ((0, lkNew ⟨false, (S : Nat), (C : Nat), 0, 0⟩ wl, m63, 0, wl, mw, [⟨actS (lkNew ⟨false, (S : Nat), (C : Nat), 0, 0⟩ wl), adh, nh, caph, heldL (lkNew ⟨false, (S : Nat), (C : Nat), 0, 0⟩ wl)⟩], some ⟨b68, 0, none⟩, 1, 1, [(b68, .cells (arr fMk [⟨actS (lkNew ⟨false, (S : Nat), (C : Nat), 0, 0⟩ wl), adh, nh, caph, heldL (lkNew ⟨false, (S : Nat), (C : Nat), 0, 0⟩ wl)⟩] []) 53 (0, 0))], m67, [lkNew ⟨false, (S : Nat), (C : Nat), 0, 0⟩ wl])) ⟨au2, au2, au2, rfl, rfl, rfl, rfl, rfl, rfl, trivial⟩ au1 ⟨Nat.zero_le _, h63, hsw2, .inr ⟨b68, 1, [], by omega, rfl, rfl, Nat.le_refl _, by decide, rfl⟩, HdM.snoc (HdM.nil _) hnh (hsh67.mono om), MkX.nil.snoc rfl rfl, hfr0, rfl, by omega⟩ ?_
 rintro ⟨i, x, mq, tk, ws, mw2, rs, adm, nm, capm, mm, mh, xs⟩ ⟨hi, hq, hsw, hsm, hhd, hmx, hfr, hnm, hnws⟩
 change wpM _ _ _ _ _ _ _ (mq ++ (mw2 ++ (mm ++ (mh ++ ((b3, .cells #[.int .u8 p0, .int .u8 p1] 49 (0, 0)) :: []))))) _ _ _
 have hw := hfr.w; have hbl := hfr.hb.hl; have hrx := hmx.l; have hxl := hfr.xl; have ht0 := hfr.t0; have hl4 := hfr.l4
 refine wR <| LM.val (ov_lss rfl rfl) <| nA [(7, _), (8, _), (9, _), (12, _), (13, _), (14, _), (69, _), (70, _), (71, _), (72, _)] <| wpM.seq ?_
 refine wpM.condD rfl (fun h6 => ?_) (fun h6 => ?_)
 ·
  have hkd := hk (l.getD i default) (dmem om); have hfx := fix_f (x := x) (tk := tk) (C := (C : Int)) (d := l.getD i default) hkd.1
  refine wpM.skip <| QM.then <| wpM.seq <| wpM.block <| wR ?_
  refine LM.val (ov_idxSN au6 Tryz.underlying25 Tryz.sizeOf30 rfl rfl om) ?_
  refine LM.rdC (om_srEA asm ir Tryz.isAgg30 Tryz.sizeOf30 rfl au3 id) ?_
  refine LM.alloc Tryz.zeroValue30 rfl (fun b16 hb16 => ?_)
  refine LM.stW Tryz.sizeOf30 rfl rfl rfl rfl au7 au8 ?_
  refine nB [(7, _), (8, _), (9, _), (12, _), (13, _), (14, _), (16, _), (69, _), (70, _), (71, _)] <| LM.val (ovf 5 rfl rfl rfl rfl) ?_
  refine LM.rd (oml rfl rfl rfl) ?_
  refine LM.val (ov_remJ rfl rfl om om) ?_
  refine LM.val (ovf 5 rfl rfl rfl rfl) ?_
  refine LM.st Tryz.sizeOf5 rfl rfl rfl au5 rfl au8 ?_
  refine nA [(7, _), (8, _), (9, _), (12, _), (13, _), (14, _), (16, _), (69, _), (70, _), (71, _)] <| wpM.seq <| wR <| LM.mv rfl ?_
  refine LM.cS (oc_call (enters_fn Tryz.func29 kr rfl) rfl) (fun w hm hc hg => lkHdrs_spec w hq om (hm.pick mq)) (fun ad80 n80 cap80 m80 hn80 hs80 => ?_)
  refine LM.as rfl <| nA [(7, _), (8, _), (9, _), (12, _), (13, _), (14, _), (16, _), (17, _), (69, _), (70, _), (71, _)] <| wpM.seq ?_
  refine wpM.joinK (α := Bool) (fun c => [(98, .bool c)]) [(7, _), (8, _), (9, _), (12, _), (13, _), (14, _), (16, _), (17, _), (69, _), (70, _), (71, _)] (fun c => (b16, .cells #[.int .u8 ((l.getD i default).k % 9), .int .i64 (l.getD i default).t, .int .i64 (l.getD i default).p, .int .i64 (l.getD i default).w] 30 (0, 0)) :: (m80 ++ (mq ++ (mw2 ++ (mm ++ (mh ++ ((b3, .cells #[.int .u8 p0, .int .u8 p1] 49 (0, 0)) :: []))))))) (fun c => c = true ↔ (x.ho.length = 1 ∧ ((l.getD i default).k % 9 = 2 ∨ (l.getD i default).k % 9 = 5 ∨ (l.getD i default).k % 9 = 6))) ⟨rfl, rfl, rfl, rfl, rfl, rfl, rfl, rfl, rfl, rfl, rfl, trivial⟩ ?_ ?_
  ·
   refine wpM.region ?_
   refine LM.mv rfl <| LM.val (ov_len Tryz.underlying56 rfl) <| LM.val (ov_eql rfl rfl) <| LM.mv rfl ?_
   refine LM.splitD (t := 84) rfl (fun h7 => ?_) (fun h7 => ?_)
   ·
    refine LM.sp 84 rfl rfl rfl <| LM.val (ovf 5 rfl rfl rfl rfl) <| LM.sp 84 rfl rfl rfl ?_
    refine LM.rd (oml rfl rfl rfl) ?_
    refine LM.sp 84 rfl rfl rfl <| LM.val (ov_eql rfl rfl) <| LM.sp 84 rfl rfl rfl <| LM.mv rfl ?_
    refine LM.splitD (t := 88) rfl (fun h8 => ?_) (fun h8 => ?_)
    ·
     refine LM.dr 88 rfl rfl rfl <| LM.dr 88 rfl rfl rfl <| LM.dr 88 rfl rfl rfl <| LM.sp 84 rfl rfl rfl <| LM.val (ov_pickT rfl rfl) <| LM.sp 84 rfl rfl rfl <| LM.mv rfl <| LM.dr 93 rfl rfl rfl <| LM.dr 93 rfl rfl rfl <| LM.dr 93 rfl rfl rfl <| LM.sp 84 rfl rfl rfl <| LM.val (ov_pickT rfl rfl) <| LM.val (ov_pickT rfl rfl) <| nC [(7, _), (8, _), (9, _), (12, _), (13, _), (14, _), (16, _), (17, _), (69, _), (70, _), (71, _), (98, _)] ?_
     refine QM.meetK (_) ⟨au2, rfl, rfl, rfl, rfl, rfl, rfl, rfl, rfl, rfl, rfl, rfl, trivial⟩ au1 ?_
     · exact ⟨fun _ => om, fun _ => rfl⟩
    refine LM.sp 88 rfl rfl rfl <| LM.val (ovf 5 rfl rfl rfl rfl) <| LM.sp 88 rfl rfl rfl ?_
    refine LM.rd (oml rfl rfl rfl) ?_
    refine LM.sp 88 rfl rfl rfl <| LM.val (ov_eql rfl rfl) <| LM.sp 84 rfl rfl rfl <| LM.val (ov_pickF rfl rfl) <| LM.sp 84 rfl rfl rfl <| LM.mv rfl ?_
    refine LM.splitD (t := 93) rfl (fun h9 => ?_) (fun h9 => ?_)
    ·
     refine LM.dr 93 rfl rfl rfl <| LM.dr 93 rfl rfl rfl <| LM.dr 93 rfl rfl rfl <| LM.sp 84 rfl rfl rfl <| LM.val (ov_pickT rfl rfl) <| LM.val (ov_pickT rfl rfl) <| nC [(7, _), (8, _), (9, _), (12, _), (13, _), (14, _), (16, _), (17, _), (69, _), (70, _), (71, _), (98, _)] ?_
     refine QM.meetK (_) ⟨au2, rfl, rfl, rfl, rfl, rfl, rfl, rfl, rfl, rfl, rfl, rfl, trivial⟩ au1 ?_
     · exact ⟨fun _ => om, fun _ => rfl⟩
    refine LM.sp 93 rfl rfl rfl <| LM.val (ovf 5 rfl rfl rfl rfl) <| LM.sp 93 rfl rfl rfl ?_
    refine LM.rd (oml rfl rfl rfl) ?_
    refine LM.sp 93 rfl rfl rfl <| LM.val (ov_eql rfl rfl) <| LM.sp 84 rfl rfl rfl <| LM.val (ov_pickF rfl rfl) <| LM.val (ov_pickT rfl rfl) <| nC [(7, _), (8, _), (9, _), (12, _), (13, _), (14, _), (16, _), (17, _), (69, _), (70, _), (71, _), (98, _)] ?_
    refine QM.meetK (_) ⟨au2, rfl, rfl, rfl, rfl, rfl, rfl, rfl, rfl, rfl, rfl, rfl, trivial⟩ au1 ?_
    · (simp only [decide_eq_true_eq]; omega)
   refine LM.dr 84 rfl rfl rfl <| LM.dr 84 rfl rfl rfl <| LM.dr 84 rfl rfl rfl ?_
   refine LM.dropU (t := 84) rfl rfl rfl ?_
   refine LM.dropX (t := 88) rfl rfl ?_
   refine LM.dropX (t := 88) rfl rfl ?_
   refine LM.dropX (t := 88) rfl rfl ?_
   refine LM.dr 84 rfl rfl rfl ?_
   refine LM.dropU (t := 84) rfl rfl rfl ?_
   refine LM.dropX (t := 93) rfl rfl ?_
   refine LM.dropX (t := 93) rfl rfl ?_
   refine LM.dropX (t := 93) rfl rfl ?_
   refine LM.dr 84 rfl rfl rfl <| LM.val (ov_pickF rfl rfl) <| nC [(7, _), (8, _), (9, _), (12, _), (13, _), (14, _), (16, _), (17, _), (69, _), (70, _), (71, _), (98, _)] ?_
   refine QM.meetK (_) ⟨au2, rfl, rfl, rfl, rfl, rfl, rfl, rfl, rfl, rfl, rfl, rfl, trivial⟩ au1 ?_
   · exact ⟨fun q => (by cases q), fun q => absurd q om⟩
  rintro c hc20
  change QM _ _ _ _ _ ((b16, .cells #[.int .u8 ((l.getD i default).k % 9), .int .i64 (l.getD i default).t, .int .i64 (l.getD i default).p, .int .i64 (l.getD i default).w] 30 (0, 0)) :: (m80 ++ (mq ++ (mw2 ++ (mm ++ (mh ++ ((b3, .cells #[.int .u8 p0, .int .u8 p1] 49 (0, 0)) :: []))))))) _ _ _
  refine QM.then ?_
  refine wpM.joinK (α := Dsc) (fun e => []) [(7, _), (8, _), (9, _), (12, _), (13, _), (14, _), (16, _), (69, _), (70, _), (71, _)] (fun e => (b16, .cells (fDs e).toArray 30 (0, 0)) :: (mq ++ (mw2 ++ (mm ++ (mh ++ ((b3, .cells #[.int .u8 p0, .int .u8 p1] 49 (0, 0)) :: [])))))) (fun e => e = fixD x tk C (l.getD i default)) ⟨rfl, rfl, rfl, rfl, rfl, rfl, rfl, rfl, rfl, rfl, trivial⟩ ?_ ?_
  ·
   refine wpM.condB rfl (fun h10 => ?_) (fun h10 => ?_)
   ·
    have hcc := hc20.1 h10; have hcc1 := hcc.1
    refine wR <| LM.mv rfl ?_
    refine LM.val (ov_idxSN (i := 0) au6 Tryz.underlying56 Tryz.sizeOf59 rfl rfl om) ?_
    refine LM.val (ovf 3 rfl rfl rfl rfl) ?_
    refine LM.rd (om_slE (i := 0) (j := 0) asm ir Tryz.isAgg3 rfl rfl au3 rfl (by rfl)) ?_
    refine LM.val (ovf 3 rfl rfl rfl rfl) ?_
    refine LM.st Tryz.sizeOf3 rfl rfl rfl au5 rfl au8 ?_
    refine nA [(7, _), (8, _), (9, _), (12, _), (13, _), (14, _), (16, _), (69, _), (70, _), (71, _)] <| wpM.seq <| wR <| LM.mv rfl <| LM.val (ov_eql rfl rfl) <| nA [(7, _), (8, _), (9, _), (12, _), (13, _), (14, _), (16, _), (69, _), (70, _), (71, _), (105, _)] ?_
    refine wpM.condD rfl (fun h11 => ?_) (fun h11 => ?_)
    ·
     refine wpM.region ?_
     refine LM.val (ovf 5 rfl rfl rfl rfl) ?_
     refine LM.st Tryz.sizeOf5 rfl rfl rfl au5 rfl au8 ?_
     refine nB [(7, _), (8, _), (9, _), (12, _), (13, _), (14, _), (16, _), (69, _), (70, _), (71, _)] <| LM.mv rfl <| LM.mv rfl <| LM.val (ov_geq rfl rfl) <| nA [(7, _), (8, _), (9, _), (12, _), (13, _), (14, _), (16, _), (69, _), (70, _), (71, _), (109, _)] ?_
     refine wpM.condD rfl (fun h12 => ?_) (fun h12 => ?_)
     ·
      exfalso; omega
     refine wpM.skip ?_
     refine QM.meetK (⟨5, (x.ho.getD 0 default).t, (l.getD i default).p, (l.getD i default).w⟩) ⟨rfl, rfl, rfl, rfl, rfl, rfl, rfl, rfl, rfl, rfl, trivial⟩ au1 ?_
     · exact ((if_pos hcc).trans (by rw [if_neg om, if_pos om])).symm
    refine wpM.skip <| tR <| LM.mv rfl <| LM.mv rfl <| LM.val (ov_geq rfl rfl) <| nA [(7, _), (8, _), (9, _), (12, _), (13, _), (14, _), (16, _), (69, _), (70, _), (71, _), (109, _)] ?_
    refine wpM.condD rfl (fun h13 => ?_) (fun h13 => ?_)
    ·
     refine wpM.region ?_
     refine LM.val (ovf 5 rfl rfl rfl rfl) ?_
     refine LM.st Tryz.sizeOf5 rfl rfl rfl au5 rfl au8 ?_
     refine nC [(7, _), (8, _), (9, _), (12, _), (13, _), (14, _), (16, _), (69, _), (70, _), (71, _)] ?_
     refine QM.meetK (⟨2, (x.ho.getD 0 default).t, (l.getD i default).p, (l.getD i default).w⟩) ⟨rfl, rfl, rfl, rfl, rfl, rfl, rfl, rfl, rfl, rfl, trivial⟩ au1 ?_
     · exact ((if_pos hcc).trans (by rw [if_pos om])).symm
    refine wpM.skip ?_
    refine QM.meetK (⟨(l.getD i default).k % 9, (x.ho.getD 0 default).t, (l.getD i default).p, (l.getD i default).w⟩) ⟨rfl, rfl, rfl, rfl, rfl, rfl, rfl, rfl, rfl, rfl, trivial⟩ au1 ?_
    · exact ((if_pos hcc).trans (by rw [if_neg om, if_neg om])).symm
   refine wpM.skip ?_
   refine QM.meetK (⟨(l.getD i default).k % 9, (l.getD i default).t, (l.getD i default).p, (l.getD i default).w⟩) ⟨rfl, rfl, rfl, rfl, rfl, rfl, rfl, rfl, rfl, rfl, trivial⟩ au1 ?_
   · exact (if_neg (fun q => by rw [hc20.2 q] at h10; cases h10)).symm
  rintro e he
  change QM _ _ _ _ _ ((b16, .cells (fDs e).toArray 30 (0, 0)) :: (mq ++ (mw2 ++ (mm ++ (mh ++ ((b3, .cells #[.int .u8 p0, .int .u8 p1] 49 (0, 0)) :: [])))))) _ _ _
  have hek := (he ▸ hfx.r : 0 ≤ e.k ∧ e.k ≤ 8)
  refine tR <| LM.mv rfl ?_
  refine LM.cS (oc_call (enters_fn Tryz.func29 kr rfl) rfl) (fun w hm hc hg => lkHdrs_spec w hq om (hm.pick mq)) (fun ad112 n112 cap112 m112 hn112 hs112 => ?_)
  refine LM.as rfl <| nA [(7, _), (8, _), (9, _), (12, _), (13, _), (14, _), (16, _), (18, _), (69, _), (70, _), (71, _)] <| wpM.seq <| wR <| LM.val (ovf 5 rfl rfl rfl rfl) ?_
  refine LM.rd (oml rfl rfl rfl) ?_
  refine LM.val (ov_eql rfl rfl) <| nA [(7, _), (8, _), (9, _), (12, _), (13, _), (14, _), (16, _), (18, _), (69, _), (70, _), (71, _), (115, _)] ?_
  refine wpM.joinK (α := List Int × Mem0 × List Mkr × Option Addr × Nat × Nat × Mem0 × Mem0 × List Lkm) (fun ⟨ws3, mw3, rs3, adm3, nm3, capm3, mm3, mh3, xs3⟩ => [(13, .slice adm3 nm3 capm3)]) [(7, _), (8, _), (9, _), (12, _), (14, _), (16, _), (18, _), (69, _), (70, _), (71, _)] (fun ⟨ws3, mw3, rs3, adm3, nm3, capm3, mm3, mh3, xs3⟩ => (b16, .cells (fDs e).toArray 30 (0, 0)) :: (m112 ++ (mq ++ (mw3 ++ (mm3 ++ (mh3 ++ ((b3, .cells #[.int .u8 p0, .int .u8 p1] 49 (0, 0)) :: []))))))) (fun ⟨ws3, mw3, rs3, adm3, nm3, capm3, mm3, mh3, xs3⟩ => Sl fI 3 1 w.heap.size ws3 (.slice adw nw capw) mw3 ∧ Sl fMk 53 2 w.heap.size rs3 (.slice adm3 nm3 capm3) mm3 ∧ HdM w.heap.size rs3 mh3 ∧ MkX rs3 xs3 ∧ FrI S C (i + 1) (lawT x (doX x e) e.k tk) (doX x e) ws3 (xs3 ++ [doX x e]) ∧ nm3 = rs3.length ∧ nw = ws3.length) ⟨rfl, rfl, rfl, rfl, rfl, rfl, rfl, rfl, rfl, rfl, trivial⟩ ?_ ?_
  ·
   refine wpM.condD rfl (fun h14 => ?_) (fun h14 => ?_)
   ·
    refine wR <| LM.mv rfl <| LM.val (ov_len Tryz.underlying24 rfl) <| LM.val (ov_gtr rfl rfl) <| LM.mv rfl ?_
    refine LM.splitD (t := 119) rfl (fun h15 => ?_) (fun h15 => ?_)
    ·
     refine LM.sp 119 rfl rfl rfl <| LM.val (ovf 3 rfl rfl rfl rfl) <| LM.sp 119 rfl rfl rfl ?_
     refine LM.rd (oml rfl rfl rfl) ?_
     refine LM.sp 119 rfl rfl rfl <| LM.val (ov_geq rfl rfl) <| LM.val (ov_pickT rfl rfl) <| LM.mv rfl ?_
     refine LM.splitD (t := 124) rfl (fun h16 => ?_) (fun h16 => ?_)
     ·
      refine LM.sp 124 rfl rfl rfl <| LM.val (ovf 3 rfl rfl rfl rfl) <| LM.sp 124 rfl rfl rfl ?_
      refine LM.rd (oml rfl rfl rfl) ?_
      refine LM.sp 124 rfl rfl rfl <| LM.mv rfl <| LM.sp 124 rfl rfl rfl <| LM.val (ov_len Tryz.underlying24 rfl) <| LM.sp 124 rfl rfl rfl <| LM.val (ov_lss rfl rfl) <| LM.val (ov_pickT rfl rfl) <| nA [(7, _), (8, _), (9, _), (12, _), (13, _), (14, _), (16, _), (18, _), (69, _), (70, _), (71, _), (130, _)] ?_
      refine wpM.condD rfl (fun h17 => ?_) (fun h17 => ?_)
      ·
       obtain ⟨ek, et, ep, ew⟩ := e; obtain ⟨p, rfl⟩ : ∃ p : Nat, ep = (p : Nat) := ⟨ep.toNat, by have : 0 ≤ ep := h16; omega⟩; have hpw : (p : Int) < nw := h17
       refine wpM.seq <| wR <| LM.mv rfl <| LM.mv rfl <| LM.mv rfl <| LM.mv rfl ?_
       refine cE Tryz.func30 rfl (fun w hm hc hg => fair20_spec w hnm (hsm.srM ir hm) hnws (hsw.srM ir hm) (hhd.rd hmx hfr om (hm.pick mh)) om om hS1 hC1 (hfr.ch.fairR om om hfr.wb hmx)) ?_
       refine LM.val (ov_not rfl) ?_
       refine nA [(7, _), (8, _), (9, _), (12, _), (14, _), (16, _), (18, _), (69, _), (70, _), (71, _), (136, _)] ?_
       refine wpM.condB rfl (fun h18 => ?_) (fun h18 => ?_)
       ·
        cases h18
       refine wpM.skip <| QM.then <| wpM.seq ?_
       refine wpM.draw [(0, 0), (1, 0), (2, 1), (3, 0), (4, 1), (5, 2), (6, 0), (7, 3)] kr kr ?_
       refine LD.val rfl rfl (ov_move rfl) <| LD.val rfl rfl (ovf 3 rfl rfl rfl rfl) ?_
       refine LD.rd rfl rfl (oml rfl rfl rfl) ?_
       refine LD.val rfl rfl (ovf 3 rfl rfl rfl rfl) ?_
       refine LD.rd rfl rfl (oml rfl rfl rfl) ?_
       refine dE rfl rfl Tryz.func31 rfl (fun w hm hc hg => rbring_spec _ 1 16 w) ?_
       refine LD.val rfl rfl (ov_idxSN au6 Tryz.underlying24 Tryz.sizeOf3 rfl rfl om) ?_
       refine LD.tail rfl rfl ?_
       refine LM.stS ((bringO ew 1 16)) (j := 0) asm ir Tryz.sizeOf3 rfl rfl rfl (by exact getq 0 au4) rfl (by decide) (by rfl) rfl au10 (fun ms3 hss3 hmm3 => ?_)
       refine LM.nil ?_
       refine QM.qn ?_
       refine QM.sub (e' := [(7, _), (8, _), (9, _), (12, _), (14, _), (16, _), (18, _), (69, _), (70, _), (71, _)]) au9 (QM.then (wpM.region ?_))
       refine LM.as rfl <| nC [(7, _), (8, _), (9, _), (12, _), (13, _), (14, _), (16, _), (18, _), (69, _), (70, _), (71, _)] ?_
       refine QM.meetK (ws.set p (bringO ew 1 16), ms3, [], none, 0, 0, [], [], []) ⟨au2, rfl, rfl, rfl, rfl, rfl, rfl, rfl, rfl, rfl, rfl, trivial⟩ au1 ?_
       · refine ⟨hss3, .nil _ _ _ _, HdM.nil _, MkX.nil, ?_, rfl, by rw [List.length_set]; exact hnws⟩; have h9 := hfr.do7 (p := p) om hkd.1 (by rw [← he]; exact h14) (by rw [← he]) om; rw [← he] at h9; exact h9
      refine wpM.skip ?_
      refine QM.meetK (ws, mw2, rs, adm, nm, capm, mm, mh, xs) ⟨au2, rfl, rfl, rfl, rfl, rfl, rfl, rfl, rfl, rfl, rfl, trivial⟩ au1 ?_
      · refine ⟨hsw, hsm, hhd, hmx, ?_, hnm, hnws⟩; subst he; exact hfr.do_ om hkd.1 (fun _ => isO_out (by have := hfr.len; omega))
     refine LM.dr 124 rfl rfl rfl <| LM.dr 124 rfl rfl rfl <| LM.dr 124 rfl rfl rfl <| LM.dr 124 rfl rfl rfl <| LM.dr 124 rfl rfl rfl <| LM.val (ov_pickF rfl rfl) <| nA [(7, _), (8, _), (9, _), (12, _), (13, _), (14, _), (16, _), (18, _), (69, _), (70, _), (71, _), (130, _)] ?_
     refine wpM.condF rfl ?_
     refine wpM.skip ?_
     refine QM.meetK (ws, mw2, rs, adm, nm, capm, mm, mh, xs) ⟨au2, rfl, rfl, rfl, rfl, rfl, rfl, rfl, rfl, rfl, rfl, trivial⟩ au1 ?_
     · refine ⟨hsw, hsm, hhd, hmx, ?_, hnm, hnws⟩; subst he; exact hfr.do_ om hkd.1 (fun _ => isO_out (by have := hfr.len; omega))
    refine LM.dr 119 rfl rfl rfl <| LM.dr 119 rfl rfl rfl <| LM.dr 119 rfl rfl rfl <| LM.val (ov_pickF rfl rfl) <| LM.mv rfl <| LM.dr 124 rfl rfl rfl <| LM.dr 124 rfl rfl rfl <| LM.dr 124 rfl rfl rfl <| LM.dr 124 rfl rfl rfl <| LM.dr 124 rfl rfl rfl <| LM.val (ov_pickF rfl rfl) <| nA [(7, _), (8, _), (9, _), (12, _), (13, _), (14, _), (16, _), (18, _), (69, _), (70, _), (71, _), (130, _)] ?_
    refine wpM.condF rfl ?_
    refine wpM.skip ?_
    refine QM.meetK (ws, mw2, rs, adm, nm, capm, mm, mh, xs) ⟨au2, rfl, rfl, rfl, rfl, rfl, rfl, rfl, rfl, rfl, rfl, trivial⟩ au1 ?_
    · exfalso; omega
   refine wpM.skip ?_
   refine QM.meetK (ws, mw2, rs, adm, nm, capm, mm, mh, xs) ⟨au2, rfl, rfl, rfl, rfl, rfl, rfl, rfl, rfl, rfl, rfl, trivial⟩ au1 ?_
   · refine ⟨hsw, hsm, hhd, hmx, ?_, hnm, hnws⟩; subst he; exact hfr.do_ om hkd.1 (fun q => absurd q h14)
  rintro ⟨ws3, mw3, rs3, adm3, nm3, capm3, mm3, mh3, xs3⟩ ⟨hsw3, hsm3, hhd3, hmx3, hfr3, hnm3, hnw3⟩
  change QM _ _ _ _ _ ((b16, .cells (fDs e).toArray 30 (0, 0)) :: (m112 ++ (mq ++ (mw3 ++ (mm3 ++ (mh3 ++ ((b3, .cells #[.int .u8 p0, .int .u8 p1] 49 (0, 0)) :: []))))))) _ _ _
  have hw3 := hfr3.w; have hbl3 := hfr3.hb.hl; have hrx3 := hmx3.l; have hxl3 := hfr3.xl; rw [List.length_append, List.length_singleton] at hxl3
  refine tR <| LM.mv rfl ?_
  refine LM.rd (om_ldW Tryz.isAgg30 Tryz.sizeOf30 rfl rfl) ?_
  refine cU Tryz.func8 rfl (fun w hm hc hg => do20_spec e w (hT.ext hc) hn1 hq hw hfr.hb hc.size om om om (hm.pick mq)) hq.wlk (fun p hp hlt => absurd hlt (Nat.not_lt_of_le (hq.ge p hp))) ?_
  rintro u146 m146 h146 -
  refine nB [(7, _), (8, _), (9, _), (12, _), (13, _), (14, _), (16, _), (18, _), (69, _), (70, _), (71, _)] <| LM.mv rfl ?_
  refine LM.cS (oc_call (enters_fn Tryz.func29 kr rfl) rfl) (fun w hm hc hg => lkHdrs_spec w h146 om (hm.pick m146)) (fun ad148 n148 cap148 m148 hn148 hs148 => ?_)
  refine LM.as rfl <| nA [(7, _), (8, _), (9, _), (12, _), (13, _), (14, _), (16, _), (18, _), (19, _), (69, _), (70, _), (71, _)] <| wpM.seq <| wpM.seq ?_
  refine wpM.joinK (α := Bool) (fun c2 => [(174, .bool c2)]) [(7, _), (8, _), (9, _), (12, _), (13, _), (14, _), (16, _), (69, _), (70, _), (71, _)] (fun c2 => (b16, .cells (fDs e).toArray 30 (0, 0)) :: (m146 ++ (mw3 ++ (mm3 ++ (mh3 ++ ((b3, .cells #[.int .u8 p0, .int .u8 p1] 49 (0, 0)) :: [])))))) (fun c2 => c2 = true ↔ rstB x (doX x e) e.k) ⟨rfl, rfl, rfl, rfl, rfl, rfl, rfl, rfl, rfl, rfl, trivial⟩ ?_ ?_
  ·
   refine wpM.draw [(0, 0), (1, 0), (2, 0), (3, 0), (4, 0), (5, 0), (6, 0), (7, 0), (8, 0), (9, 0), (10, 0), (11, 0), (12, 0), (13, 1), (14, 0), (15, 0), (16, 0), (17, 1), (18, 0), (19, 0), (20, 0), (21, 0), (22, 0), (23, 1), (24, 0), (25, 0)] kr kr ?_
   refine LD.val rfl rfl (ov_move rfl) ?_
   refine LD.val rfl rfl (ov_len Tryz.underlying56 rfl) ?_
   refine LD.val rfl rfl (ov_move rfl) ?_
   refine LD.val rfl rfl (ov_len Tryz.underlying56 rfl) ?_
   refine LD.val rfl rfl (ov_neq rfl rfl) ?_
   refine LD.val rfl rfl (ov_move rfl) ?_
   refine LD.splitD (t := 154) rfl (fun h19 => ?_) (fun h19 => ?_)
   ·
    refine LD.drop rfl rfl ⟨154, _, rfl, rfl, rfl⟩ <| LD.drop rfl rfl ⟨154, _, rfl, rfl, rfl⟩ <| LD.drop rfl rfl ⟨154, _, rfl, rfl, rfl⟩ ?_
    refine LD.dropU rfl rfl ⟨154, _, rfl, rfl, rfl⟩ ?_
    refine LD.dropX rfl rfl rfl rfl <| LD.dropX rfl rfl rfl rfl <| LD.dropX rfl rfl rfl rfl <| LD.dropX rfl rfl rfl rfl <| LD.dropX rfl rfl rfl rfl <| LD.dropX rfl rfl rfl rfl <| LD.dropX rfl rfl rfl rfl <| LD.dropX rfl rfl rfl rfl <| LD.dropX rfl rfl rfl rfl <| LD.drop rfl rfl ⟨154, _, rfl, rfl, rfl⟩ ?_
    refine LD.val rfl rfl (ov_pickT rfl rfl) ?_
    refine LD.val rfl rfl (ov_move rfl) <| LD.drop rfl rfl ⟨170, _, rfl, rfl, rfl⟩ <| LD.drop rfl rfl ⟨170, _, rfl, rfl, rfl⟩ <| LD.drop rfl rfl ⟨170, _, rfl, rfl, rfl⟩ ?_
    refine LD.val rfl rfl (ov_pickT rfl rfl) ?_
    refine LD.nil ?_
    refine QM.sub (e' := [(7, _), (8, _), (9, _), (12, _), (13, _), (14, _), (16, _), (69, _), (70, _), (71, _), (174, _)]) au9 ?_
    refine QM.meetK (_) ⟨au2, rfl, rfl, rfl, rfl, rfl, rfl, rfl, rfl, rfl, rfl, trivial⟩ au1 ?_
    · exact ⟨fun _ => .inl om, fun _ => rfl⟩
   refine LD.val rfl ⟨154, _, rfl, rfl, rfl⟩ (ov_move rfl) ?_
   refine LD.val rfl ⟨154, _, rfl, rfl, rfl⟩ (ov_len Tryz.underlying56 rfl) ?_
   refine LD.val rfl ⟨154, _, rfl, rfl, rfl⟩ (ov_eql rfl rfl) ?_
   refine LD.val rfl ⟨154, _, rfl, rfl, rfl⟩ (ov_move rfl) ?_
   refine LD.splitD (t := 158) rfl (fun h20 => ?_) (fun h20 => ?_)
   ·
    refine LD.val rfl ⟨158, _, rfl, rfl, rfl⟩ (ov_move rfl) ?_
    refine LD.val rfl ⟨158, _, rfl, rfl, rfl⟩ (ov_idxSN (i := 0) au6 Tryz.underlying56 Tryz.sizeOf59 rfl rfl om) ?_
    refine LD.val rfl ⟨158, _, rfl, rfl, rfl⟩ (ovf 3 rfl rfl rfl rfl) ?_
    refine LD.rd rfl ⟨158, _, rfl, rfl, rfl⟩ (om_slE (i := 0) (j := 0) asm ir Tryz.isAgg3 rfl rfl au3 rfl (by rfl)) ?_
    refine LD.val rfl ⟨158, _, rfl, rfl, rfl⟩ (ov_move rfl) ?_
    refine LD.val rfl ⟨158, _, rfl, rfl, rfl⟩ (ov_idxSN (i := 0) au6 Tryz.underlying56 Tryz.sizeOf59 rfl rfl om) ?_
    refine LD.val rfl ⟨158, _, rfl, rfl, rfl⟩ (ovf 3 rfl rfl rfl rfl) ?_
    refine LD.rd rfl ⟨158, _, rfl, rfl, rfl⟩ (om_slE (i := 0) (j := 0) asm ir Tryz.isAgg3 rfl rfl au3 rfl (by rfl)) ?_
    refine LD.val rfl ⟨158, _, rfl, rfl, rfl⟩ (ov_neq rfl rfl) ?_
    refine LD.val rfl ⟨154, _, rfl, rfl, rfl⟩ (ov_pickT rfl rfl) ?_
    refine LD.val rfl rfl (ov_pickF rfl rfl) ?_
    refine LD.val rfl rfl (ov_move rfl) ?_
    refine LD.splitD (t := 170) rfl (fun h21 => ?_) (fun h21 => ?_)
    ·
     refine LD.drop rfl rfl ⟨170, _, rfl, rfl, rfl⟩ <| LD.drop rfl rfl ⟨170, _, rfl, rfl, rfl⟩ <| LD.drop rfl rfl ⟨170, _, rfl, rfl, rfl⟩ ?_
     refine LD.val rfl rfl (ov_pickT rfl rfl) ?_
     refine LD.nil ?_
     refine QM.sub (e' := [(7, _), (8, _), (9, _), (12, _), (13, _), (14, _), (16, _), (69, _), (70, _), (71, _), (174, _)]) au9 ?_
     refine QM.meetK (_) ⟨au2, rfl, rfl, rfl, rfl, rfl, rfl, rfl, rfl, rfl, rfl, trivial⟩ au1 ?_
     · exact ⟨fun _ => .inr (.inl ⟨by omega, h21⟩), fun _ => rfl⟩
    refine LD.val rfl ⟨170, _, rfl, rfl, rfl⟩ (ovf 5 rfl rfl rfl rfl) ?_
    refine LD.rd rfl ⟨170, _, rfl, rfl, rfl⟩ (oml rfl rfl rfl) ?_
    refine LD.val rfl ⟨170, _, rfl, rfl, rfl⟩ (ov_eql rfl rfl) ?_
    refine LD.val rfl rfl (ov_pickF rfl rfl) ?_
    refine LD.nil ?_
    refine QM.sub (e' := [(7, _), (8, _), (9, _), (12, _), (13, _), (14, _), (16, _), (69, _), (70, _), (71, _), (174, _)]) au9 ?_
    refine QM.meetK (_) ⟨au2, rfl, rfl, rfl, rfl, rfl, rfl, rfl, rfl, rfl, rfl, trivial⟩ au1 ?_
    · exact rst_dec om (.inr (Classical.not_not.1 h21))
   refine LD.drop rfl rfl ⟨158, _, rfl, rfl, rfl⟩ <| LD.drop rfl rfl ⟨158, _, rfl, rfl, rfl⟩ <| LD.drop rfl rfl ⟨158, _, rfl, rfl, rfl⟩ <| LD.drop rfl rfl ⟨158, _, rfl, rfl, rfl⟩ <| LD.drop rfl rfl ⟨158, _, rfl, rfl, rfl⟩ <| LD.drop rfl rfl ⟨158, _, rfl, rfl, rfl⟩ <| LD.drop rfl rfl ⟨158, _, rfl, rfl, rfl⟩ <| LD.drop rfl rfl ⟨158, _, rfl, rfl, rfl⟩ <| LD.drop rfl rfl ⟨158, _, rfl, rfl, rfl⟩ ?_
   refine LD.val rfl ⟨154, _, rfl, rfl, rfl⟩ (ov_pickF rfl rfl) ?_
   refine LD.val rfl rfl (ov_pickF rfl rfl) ?_
   refine LD.val rfl rfl (ov_move rfl) <| LD.val rfl ⟨170, _, rfl, rfl, rfl⟩ (ovf 5 rfl rfl rfl rfl) ?_
   refine LD.rd rfl ⟨170, _, rfl, rfl, rfl⟩ (oml rfl rfl rfl) ?_
   refine LD.val rfl ⟨170, _, rfl, rfl, rfl⟩ (ov_eql rfl rfl) ?_
   refine LD.val rfl rfl (ov_pickF rfl rfl) ?_
   refine LD.nil ?_
   refine QM.sub (e' := [(7, _), (8, _), (9, _), (12, _), (13, _), (14, _), (16, _), (69, _), (70, _), (71, _), (174, _)]) au9 ?_
   refine QM.meetK (_) ⟨au2, rfl, rfl, rfl, rfl, rfl, rfl, rfl, rfl, rfl, rfl, trivial⟩ au1 ?_
   · exact rst_dec om (.inl om)
  rintro c2 hc35
  change QM _ _ _ _ _ ((b16, .cells (fDs e).toArray 30 (0, 0)) :: (m146 ++ (mw3 ++ (mm3 ++ (mh3 ++ ((b3, .cells #[.int .u8 p0, .int .u8 p1] 49 (0, 0)) :: [])))))) _ _ _
  refine QM.then ?_
  refine wpM.joinK (α := Int) (fun tk2 => [(14, .int .i64 tk2)]) [(7, _), (8, _), (9, _), (12, _), (13, _), (69, _), (70, _), (71, _)] (fun tk2 => m146 ++ (mw3 ++ (mm3 ++ (mh3 ++ ((b3, .cells #[.int .u8 p0, .int .u8 p1] 49 (0, 0)) :: []))))) (fun tk2 => tk2 = lawT x (doX x e) e.k tk) ⟨rfl, rfl, rfl, rfl, rfl, rfl, rfl, rfl, trivial⟩ ?_ ?_
  ·
   refine wpM.condB rfl (fun h22 => ?_) (fun h22 => ?_)
   ·
    refine wpM.region ?_
    refine LM.as rfl <| nC [(7, _), (8, _), (9, _), (12, _), (13, _), (14, _), (69, _), (70, _), (71, _)] ?_
    refine QM.meetK (0) ⟨au2, rfl, rfl, rfl, rfl, rfl, rfl, rfl, rfl, trivial⟩ au1 ?_
    · exact lawT_0 (hc35.1 h22)
   have hcn : ¬ rstB x (doX x e) e.k := (fun q => by rw [hc35.2 q] at h22; cases h22)
   refine wR <| LM.val (ovf 5 rfl rfl rfl rfl) ?_
   refine LM.rd (oml rfl rfl rfl) ?_
   refine LM.val (ov_eql rfl rfl) <| LM.mv rfl ?_
   refine LM.splitD (t := 178) rfl (fun h23 => ?_) (fun h23 => ?_)
   ·
    refine LM.dr 178 rfl rfl rfl <| LM.dr 178 rfl rfl rfl <| LM.dr 178 rfl rfl rfl <| LM.val (ov_pickT rfl rfl) <| nA [(7, _), (8, _), (9, _), (12, _), (13, _), (14, _), (69, _), (70, _), (71, _), (182, _)] ?_
    refine wpM.condT rfl ?_
    refine wpM.region ?_
    refine LM.mv rfl ?_
    refine LM.val (ov_add64 rfl rfl om) ?_
    refine LM.as rfl <| nC [(7, _), (8, _), (9, _), (12, _), (13, _), (14, _), (69, _), (70, _), (71, _)] ?_
    refine QM.meetK (tk + 1) ⟨au2, rfl, rfl, rfl, rfl, rfl, rfl, rfl, rfl, trivial⟩ au1 ?_
    · exact lawT_1 hcn (.inl h23)
   refine LM.sp 178 rfl rfl rfl <| LM.val (ovf 5 rfl rfl rfl rfl) <| LM.sp 178 rfl rfl rfl ?_
   refine LM.rd (oml rfl rfl rfl) ?_
   refine LM.sp 178 rfl rfl rfl <| LM.val (ov_eql rfl rfl) <| LM.val (ov_pickF rfl rfl) <| nA [(7, _), (8, _), (9, _), (12, _), (13, _), (14, _), (69, _), (70, _), (71, _), (182, _)] ?_
   refine wpM.condD rfl (fun h24 => ?_) (fun h24 => ?_)
   ·
    refine wpM.region ?_
    refine LM.mv rfl ?_
    refine LM.val (ov_add64 rfl rfl om) ?_
    refine LM.as rfl <| nC [(7, _), (8, _), (9, _), (12, _), (13, _), (14, _), (69, _), (70, _), (71, _)] ?_
    refine QM.meetK (tk + 1) ⟨au2, rfl, rfl, rfl, rfl, rfl, rfl, rfl, rfl, trivial⟩ au1 ?_
    · exact lawT_1 hcn (.inr h24)
   refine wpM.skip ?_
   refine QM.meetK (tk) ⟨au2, rfl, rfl, rfl, rfl, rfl, rfl, rfl, rfl, trivial⟩ au1 ?_
   · exact lawT_2 hcn h23 h24
  rintro tk2 htk2
  change QM _ _ _ _ _ (m146 ++ (mw3 ++ (mm3 ++ (mh3 ++ ((b3, .cells #[.int .u8 p0, .int .u8 p1] 49 (0, 0)) :: []))))) _ _ _
  refine QM.then (wpM.region ?_)
  refine LM.mv rfl <| LM.mv rfl <| LM.mv rfl <| LM.val (ov_len Tryz.underlying24 rfl) ?_
  refine LM.callT (oc_call (enters_fn Tryz.func28 kr rfl) rfl) MkN.mono (fun w hm hc hg => mark_spec (x := doX x e) w h146 hw3 om (by have := hfr3.len; omega) (hm.pick m146)) ?_
  rintro u189 m189 ⟨adh2, nh2, caph2, rfl, hnh2, hsh2⟩ -
  refine LM.single Tryz.underlying55 Tryz.sizeOf53 Tryz.zeroValue53 rfl rfl rfl rfl rfl (fun b190 hb190 => ?_)
  refine LM.app (a := (⟨actS (doX x e), adh2, nh2, caph2, heldL (doX x e)⟩ : Mkr)) Tryz.underlying55 Tryz.typeInfo53 rfl rfl rfl rfl rfl rfl rfl asm (by rfl) ir (by intro _ u hu; simp [fMk] at hu; (repeat (first | (rcases hu with rfl | hu) | subst hu | rfl))) (by first | exact Nat.le_refl _ | omega) au10 (by first | omega | (unfold maxLen; omega)) (by simp only [Tryz.t53]; omega) (fun ad191 n191 cap191 m191 hn191 hs191 hin191 => ?_)
  refine LM.as rfl <| nC [(7, _), (8, _), (9, _), (12, _), (13, _), (14, _), (69, _), (70, _), (71, _)] <| QM.block_normal ?_
  refine QM.then (wpM.region ?_)
  refine LM.val (ov_add64 rfl rfl om) ?_
  refine LM.mv rfl <| nC [(7, _), (8, _), (9, _), (12, _), (13, _), (14, _), (69, _), (70, _), (71, _)] ?_
  refine QM.againK (i + 1, doX x e, m146, tk2, ws3, mw3, rs3 ++ [⟨actS (doX x e), adh2, nh2, caph2, heldL (doX x e)⟩], ad191, n191, cap191, m191, mh3 ++ m189, xs3 ++ [doX x e]) ⟨au2, au2, au2, rfl, rfl, rfl, rfl, rfl, rfl, trivial⟩ au1 (fun _ h => h) ?_ ?_
  · exact ⟨by omega, h146, hsw3, hs191, hhd3.snoc hnh2 (hsh2.mono om), hmx3.snoc rfl rfl, htk2 ▸ hfr3, by rw [List.length_append]; exact hn191, hnw3⟩
  · (dsimp only; omega)
 refine wpM.exit <| QM.then_exit <| QM.then_exit <| QM.block_hit <| tR <| LM.mv rfl <| LM.mv rfl <| LM.mv rfl <| LM.mv rfl ?_
 refine cE Tryz.func30 rfl (fun w hm hc hg => fair20_spec w hnm (hsm.srM ir hm) hnws (hsw.srM ir hm) (hhd.rd hmx hfr om (hm.pick mh)) om om hS1 hC1 (hfr.ch.fairR om om hfr.wb hmx)) ?_
 refine LM.as rfl <| nA [(6, _)] <| wpM.ret ?_
 refine qL Tryz.results5 rfl fun w' hm' hc' hg' => ?_
 exact ⟨rfl, hc'⟩
end Go.Eng
