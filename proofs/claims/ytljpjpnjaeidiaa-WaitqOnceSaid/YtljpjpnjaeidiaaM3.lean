/- The walks of a heap: one goes up. No condition. -/
import Derived.Test.YtljpjpnjaeidiaaM2
import Derived.Test.YtljpjpnjaeidiaaM1
import Derived.Test.YtljpjpnjaeidiaaRows
set_option linter.unusedVariables false
set_option linter.unusedSimpArgs false
namespace Go.Eng
open Go Go.Proofs Go.RowKit
structure Hs where
  l : List Hi
  at_ : List (Int × Value)
def swapS (s : Hs) (i k : Nat) : Hs := ⟨swpL s.l i k, aput (aput s.at_ ((swpL s.l i k).getD i default).id (.int .i64 (i : Nat))) ((swpL s.l i k).getD k default).id (.int .i64 (k : Nat))⟩
def upS : Nat → Nat → Hs → Hs
  | 0, _, s => s
  | n + 1, i, s => if 0 < i ∧ hiLt (s.l.getD i default) (s.l.getD ((i - 1) / 2) default) then upS n ((i - 1) / 2) (swapS s i ((i - 1) / 2)) else s
theorem upS_stop {f i : Nat} {s : Hs} (h : ¬ (0 < i ∧ hiLt (s.l.getD i default) (s.l.getD ((i - 1) / 2) default))) : upS f i s = s := by
  cases f with
  | zero => rfl
  | succ f => exact if_neg h
theorem upS_go {f i : Nat} {s : Hs} (h : 0 < i ∧ hiLt (s.l.getD i default) (s.l.getD ((i - 1) / 2) default)) : upS (f + 1) i s = upS f ((i - 1) / 2) (swapS s i ((i - 1) / 2)) := if_pos h
theorem wlk_h {a c : Nat × Obj} {m : Mem0} (h0 : wlk a.2 = false) (h1 : wlk c.2 = false) (h : ∀ p ∈ m, wlk p.2 = false) : ∀ p ∈ a :: c :: m, wlk p.2 = false := fun p hp => by
  simp only [List.mem_cons] at hp
  rcases hp with rfl | rfl | hp
  · exact h0
  · exact h1
  · exact h p hp
theorem half_up {j : Nat} (h : 0 < j) : ((j : Int) - 1) / 2 = (((j - 1) / 2 : Nat) : Int) := by omega
set_option maxRecDepth 100000 in
theorem hup_spec {n0 b n cap bm cl : Nat} {most : Int} {ad : Option Addr} {es : Array MapEntry} {atm : List (Int × Value)} {l : List Hi} {ms : Mem0} (i : Nat) (w : World) (hn : n = l.length) (hs : Sl fHi 91 3 n0 l (.slice ad n cap) ms) (he : EnsS .i64 es cl atm) (hi : i < l.length) (hlen : l.length ≤ 4096) (hM : Mem w (hpC b most ad n cap bm :: (bm, .map es cl) :: ms)) : Ret Try.prog 47 #[.pointer (some ⟨b, 0, none⟩), .int .i64 (i : Nat)] w (Upd (hpC b most ad n cap bm :: (bm, .map es cl) :: ms) (fun u m' => u = .tuple #[] ∧ ∃ es' cl' ms', m' = hpC b most ad n cap bm :: (bm, .map es' cl') :: ms' ∧ Sl fHi 91 3 n0 (upS i i ⟨l, atm⟩).l (.slice ad n cap) ms' ∧ EnsS .i64 es' cl' (upS i i ⟨l, atm⟩).at_) w) := by
 refine Ret.enterM (l := [.pointer (some ⟨b, 0, none⟩), .int .i64 (i : Nat)]) Try.func47 rfl Try.ntmps47 rfl (hpC b most ad n cap bm :: (bm, .map es cl) :: (ms ++ [])) ((inM (hpC b most ad n cap bm :: (bm, .map es cl) :: ms))) (by rw [List.append_nil]; exact hM) ?_
 refine wpM.block ?_
 refine wpM.loopK0 (α := Nat × Nat × Hs × Array MapEntry × Nat × Mem0) (fun ⟨f, j, s, es1, cl1, m1⟩ => [(1, .int .i64 (j : Nat))]) [(0, _)] (fun ⟨f, j, s, es1, cl1, m1⟩ => hpC b most ad n cap bm :: (bm, .map es1 cl1) :: (m1 ++ [])) (fun ⟨f, j, s, es1, cl1, m1⟩ => j ≤ f ∧ j < s.l.length ∧ s.l.length = l.length ∧ Sl fHi 91 3 n0 s.l (.slice ad n cap) m1 ∧ EnsS .i64 es1 cl1 s.at_ ∧ inn (hpC b most ad n cap bm :: (bm, .map es cl) :: ms) w.heap.size (hpC b most ad n cap bm :: (bm, .map es1 cl1) :: m1) ∧ upS f j s = upS i i ⟨l, atm⟩) (fun ⟨f, j, s, es1, cl1, m1⟩ => j) ((i, i, ⟨l, atm⟩, es, cl, ms)) ⟨(by first | rfl | exact lk rfl (congrArg (Value.int .i64) (half_up hj0))), rfl, trivial⟩ au1 ⟨Nat.le_refl _, hi, rfl, hs, he, inn_refl _ _, rfl⟩ ?_
 rintro ⟨f, j, s, es1, cl1, m1⟩ ⟨hjf, hjl, hsl, hs1, he1, hin1, hup⟩
 change wpM _ _ _ _ _ _ _ (hpC b most ad n cap bm :: (bm, .map es1 cl1) :: (m1 ++ [])) _ _ _
 refine wpM.seq ?_
 refine wpM.seq (wpM.region ?_)
 refine LM.mv rfl ?_
 refine LM.val (ov_gtr rfl rfl) ?_
 refine LM.mv rfl ?_
 refine LM.splitD (t := 6) rfl (fun h1 => ?_) (fun h1 => ?_)
 ·
  have hj0 : 0 < j := (by omega)
  refine LM.sp 6 rfl rfl rfl (LM.mv rfl (LM.sp 6 rfl rfl rfl (LM.mv rfl (LM.sp 6 rfl rfl rfl (LM.mv rfl ?_)))))
  refine LM.sp 6 rfl rfl rfl ?_
  refine LM.val (ov_sub64 rfl rfl (by omega)) ?_
  refine LM.sp 6 rfl rfl rfl ?_
  refine LM.val (ov_quo64 rfl rfl (by omega) (by omega) (by omega)) ?_
  refine LM.sp 6 rfl rfl rfl ?_
  rw [half_up hj0]
  refine LM.callE (oc_call (enters_fn Try.func62 (by kernel_rfl) rfl) rfl) (fun w hm hc hg => hless_spec j ((j - 1) / 2) w (by omega) hs1 hjl (by omega) (hm.pick (hpC b most ad n cap bm :: m1))) ?_
  refine LM.val (ov_pickT rfl rfl) ?_
  refine LM.nil (QM.sub (e' := [(0, _), (1, _), (13, _)]) au9 (QM.then ?_))
  refine wpM.condD rfl (fun h2 => ?_) (fun h2 => ?_)
  ·
   refine wpM.skip ?_
   refine QM.then ?_
   refine wpM.block ?_
   refine wpM.seq (wpM.region ?_)
   refine LM.mv rfl (LM.mv rfl (LM.mv rfl ?_))
   refine LM.val (ov_sub64 rfl rfl (by omega)) ?_
   refine LM.val (ov_quo64 rfl rfl (by omega) (by omega) (by omega)) ?_
   rw [half_up hj0]
   refine LM.cU (oc_call (enters_fn Try.func63 (by kernel_rfl) rfl) rfl) (fun w hm hc hg => hswap_spec j ((j - 1) / 2) w (by omega) hs1 he1 hjl (by omega) (hm.pick (hpC b most ad n cap bm :: (bm, .map es1 cl1) :: m1))) (wlk_h rfl rfl hs1.wlk) (inn_S hin1 inM_in) ?_
   rintro u19 m19 ⟨rfl, es2, cl2, m2, rfl, hs2, he2⟩ hin19
   refine LM.nil (QM.sub (e' := [(0, _), (1, _)]) au9 (QM.then (wpM.region ?_)))
   refine LM.mv rfl ?_
   refine LM.val (ov_sub64 rfl rfl (by omega)) ?_
   refine LM.val (ov_quo64 rfl rfl (by omega) (by omega) (by omega)) ?_
   refine LM.as rfl ?_
   refine LM.nil (QM.sub (e' := [(0, _), (1, _)]) au9 ?_)
   refine QM.block_normal ?_
   refine QM.againK (f - 1, (j - 1) / 2, swapS s j ((j - 1) / 2), es2, cl2, m2) ⟨(by first | rfl | exact lk rfl (congrArg (Value.int .i64) (half_up hj0))), rfl, trivial⟩ au1 (fun _ h => h) ?_ ?_
   · exact ⟨by omega, by show _ < (swpL _ _ _).length; rw [swpL_len]; omega, by show (swpL _ _ _).length = _; rw [swpL_len]; exact hsl, hs2, he2, inn_trans hin1 hin19, by rw [← hup]; obtain ⟨f', rfl⟩ : ∃ f', f = f' + 1 := ⟨f - 1, by omega⟩; exact (upS_go ⟨hj0, h2⟩).symm⟩
   · first | omega | (dsimp only; omega)
  refine wpM.exit ?_
  refine QM.then_exit ?_
  refine QM.then_exit ?_
  refine QM.block_hit ?_
  refine QM.leave (.inr rfl) [] Try.results47 rfl ?_
  intro w' hm' hc' hg'
  have e := upS_stop (f := f) (i := j) (s := s) (fun z => h2 z.2); rw [e] at hup; rw [← hup]; exact upd_m ⟨rfl, es1, cl1, m1, rfl, hs1, he1⟩ hm' (by (repeat' (first | exact SubM.nil _ | refine SubM.cons (by rfl) ?_ | refine SubM.app ?_))) hc' hin1
 refine LM.dr 6 rfl rfl rfl (LM.dr 6 rfl rfl rfl (LM.dr 6 rfl rfl rfl (LM.dr 6 rfl rfl rfl (LM.dr 6 rfl rfl rfl (LM.dr 6 rfl rfl rfl ?_)))))
 refine LM.val (ov_pickF rfl rfl) ?_
 refine LM.nil (QM.sub (e' := [(0, _), (1, _), (13, _)]) au9 (QM.then ?_))
 refine wpM.condF rfl ?_
 refine wpM.exit ?_
 refine QM.then_exit ?_
 refine QM.then_exit ?_
 refine QM.block_hit ?_
 refine QM.leave (.inr rfl) [] Try.results47 rfl ?_
 intro w' hm' hc' hg'
 have e := upS_stop (f := f) (i := j) (s := s) (fun z => by omega); rw [e] at hup; rw [← hup]; exact upd_m ⟨rfl, es1, cl1, m1, rfl, hs1, he1⟩ hm' (by (repeat' (first | exact SubM.nil _ | refine SubM.cons (by rfl) ?_ | refine SubM.app ?_))) hc' hin1
end Go.Eng
namespace Go.Eng
open Go Go.Proofs Go.RowKit
def chB (s : Hs) (i : Nat) : Prop := 2 * i + 2 < s.l.length ∧ hiLt (s.l.getD (2 * i + 2) default) (s.l.getD (2 * i + 1) default)
instance (s : Hs) (i : Nat) : Decidable (chB s i) := inferInstanceAs (Decidable (_ ∧ _))
def chO (s : Hs) (i : Nat) : Nat := if chB s i then 2 * i + 2 else 2 * i + 1
def dnS : Nat → Nat → Hs → Hs
  | 0, _, s => s
  | n + 1, i, s => if 2 * i + 1 < s.l.length ∧ hiLt (s.l.getD (chO s i) default) (s.l.getD i default) then dnS n (chO s i) (swapS s i (chO s i)) else s
theorem dnS_stop {f i : Nat} {s : Hs} (h : ¬ (2 * i + 1 < s.l.length ∧ hiLt (s.l.getD (chO s i) default) (s.l.getD i default))) : dnS f i s = s := by
  cases f with
  | zero => rfl
  | succ f => exact if_neg h
theorem dnS_go {f i : Nat} {s : Hs} (h : 2 * i + 1 < s.l.length ∧ hiLt (s.l.getD (chO s i) default) (s.l.getD i default)) : dnS (f + 1) i s = dnS f (chO s i) (swapS s i (chO s i)) := if_pos h
theorem chO_lt {s : Hs} {i : Nat} (h : 2 * i + 1 < s.l.length) : chO s i < s.l.length ∧ i < chO s i := by
  unfold chO; split
  · rename_i q; have := q.1; omega
  · omega
set_option maxRecDepth 100000 in
theorem hdown_spec {n0 b n cap bm cl : Nat} {most : Int} {ad : Option Addr} {es : Array MapEntry} {atm : List (Int × Value)} {l : List Hi} {ms : Mem0} (i : Nat) (w : World) (hn : n = l.length) (hs : Sl fHi 91 3 n0 l (.slice ad n cap) ms) (he : EnsS .i64 es cl atm) (hi : i < l.length) (hlen : l.length ≤ 4096) (hM : Mem w (hpC b most ad n cap bm :: (bm, .map es cl) :: ms)) : Ret Try.prog 65 #[.pointer (some ⟨b, 0, none⟩), .int .i64 (i : Nat)] w (Upd (hpC b most ad n cap bm :: (bm, .map es cl) :: ms) (fun u m' => u = .tuple #[] ∧ ∃ es' cl' ms', m' = hpC b most ad n cap bm :: (bm, .map es' cl') :: ms' ∧ Sl fHi 91 3 n0 (dnS l.length i ⟨l, atm⟩).l (.slice ad n cap) ms' ∧ EnsS .i64 es' cl' (dnS l.length i ⟨l, atm⟩).at_) w) := by
 refine Ret.enterM (l := [.pointer (some ⟨b, 0, none⟩), .int .i64 (i : Nat)]) Try.func65 rfl Try.ntmps65 rfl (hpC b most ad n cap bm :: (bm, .map es cl) :: (ms ++ [])) ((inM (hpC b most ad n cap bm :: (bm, .map es cl) :: ms))) (by rw [List.append_nil]; exact hM) ?_
 refine wpM.block ?_
 refine wpM.loopK0 (α := Nat × Nat × Hs × Array MapEntry × Nat × Mem0) (fun ⟨f, j, s, es1, cl1, m1⟩ => [(1, .int .i64 (j : Nat))]) [(0, _)] (fun ⟨f, j, s, es1, cl1, m1⟩ => hpC b most ad n cap bm :: (bm, .map es1 cl1) :: (m1 ++ [])) (fun ⟨f, j, s, es1, cl1, m1⟩ => l.length ≤ f + j ∧ j < s.l.length ∧ s.l.length = l.length ∧ Sl fHi 91 3 n0 s.l (.slice ad n cap) m1 ∧ EnsS .i64 es1 cl1 s.at_ ∧ inn (hpC b most ad n cap bm :: (bm, .map es cl) :: ms) w.heap.size (hpC b most ad n cap bm :: (bm, .map es1 cl1) :: m1) ∧ dnS f j s = dnS l.length i ⟨l, atm⟩) (fun ⟨f, j, s, es1, cl1, m1⟩ => l.length - j) ((l.length, i, ⟨l, atm⟩, es, cl, ms)) ⟨au2, rfl, trivial⟩ au1 ⟨by omega, hi, rfl, hs, he, inn_refl _ _, rfl⟩ ?_
 rintro ⟨f, j, s, es1, cl1, m1⟩ ⟨hjf, hjl, hsl, hs1, he1, hin1, hup⟩
 change wpM _ _ _ _ _ _ _ (hpC b most ad n cap bm :: (bm, .map es1 cl1) :: (m1 ++ [])) _ _ _
 refine wpM.block ?_
 refine wpM.seq (wpM.region ?_)
 refine LM.mv rfl ?_
 refine LM.val (ov_mul64 rfl rfl (by omega)) ?_
 refine LM.val (ov_add64 rfl rfl (by omega)) ?_
 try rw [show 2 * (j : Int) + 1 = ((2 * j + 1 : Nat) : Int) by omega]
 refine LM.as rfl ?_
 refine LM.nil (QM.sub (e' := [(0, _), (1, _), (4, _)]) au9 (QM.then ?_))
 refine wpM.seq ?_
 refine wpM.seq (wpM.region ?_)
 refine LM.mv rfl (LM.mv rfl ?_)
 refine LM.val (ov_nilCheck rfl) ?_
 refine LM.val (ov_field Try.underlying85 rfl Try.sizeOf83 rfl (k := 1) rfl rfl) ?_
 refine LM.rd (om_ld Try.isAgg83 rfl rfl) ?_
 refine LM.val (ov_len Try.underlying83 rfl) ?_
 refine LM.val (ov_geq rfl rfl) ?_
 refine LM.nil (QM.sub (e' := [(0, _), (1, _), (4, _), (14, _)]) au9 (QM.then ?_))
 refine wpM.condD rfl (fun h1 => ?_) (fun h1 => ?_)
 ·
  refine wpM.ret ?_
  refine QM.then_ret ?_
  refine QM.block_ret ?_
  refine QM.then_ret ?_
  refine QM.block_ret ?_
  refine QM.leave (.inl rfl) [] Try.results65 rfl ?_
  intro w' hm' hc' hg'
  have e := dnS_stop (f := f) (i := j) (s := s) (fun z => by omega); rw [e] at hup; rw [← hup]; exact upd_m ⟨rfl, es1, cl1, m1, rfl, hs1, he1⟩ hm' (by (repeat' (first | exact SubM.nil _ | refine SubM.cons (by rfl) ?_ | refine SubM.app ?_))) hc' hin1
 have hkl : 2 * j + 1 < s.l.length := (by omega); have hcl := chO_lt hkl
 refine wpM.skip ?_
 refine QM.then ?_
 refine wpM.seq ?_
 refine wpM.seq ?_
 refine wpM.joinK (α := Unit) (fun ⟨⟩ => [(29, .bool (decide (chB s j)))]) [(0, _), (1, _), (4, _)] (fun ⟨⟩ => hpC b most ad n cap bm :: (bm, .map es1 cl1) :: (m1 ++ [])) (fun ⟨⟩ => True) ⟨rfl, rfl, rfl, trivial⟩ ?_ ?_
 ·
  refine wpM.region ?_
  refine LM.mv rfl ?_
  refine LM.val (ov_add64 rfl rfl (by omega)) ?_
  refine LM.mv rfl ?_
  refine LM.val (ov_nilCheck rfl) ?_
  refine LM.val (ov_field Try.underlying85 rfl Try.sizeOf83 rfl (k := 1) rfl rfl) ?_
  refine LM.rd (om_ld Try.isAgg83 rfl rfl) ?_
  refine LM.val (ov_len Try.underlying83 rfl) ?_
  refine LM.val (ov_lss rfl rfl) ?_
  refine LM.mv rfl ?_
  refine LM.splitD (t := 23) rfl (fun h2 => ?_) (fun h2 => ?_)
  ·
   refine LM.sp 23 rfl rfl rfl (LM.mv rfl (LM.sp 23 rfl rfl rfl (LM.mv rfl (LM.sp 23 rfl rfl rfl ?_))))
   refine LM.val (ov_add64 rfl rfl (by omega)) ?_
   refine LM.sp 23 rfl rfl rfl (LM.mv rfl (LM.sp 23 rfl rfl rfl ?_))
   rw [show ((2 * j + 1 : Nat) : Int) + 1 = ((2 * j + 2 : Nat) : Int) by omega]
   refine LM.callE (oc_call (enters_fn Try.func62 (by kernel_rfl) rfl) rfl) (fun w hm hc hg => hless_spec (2 * j + 2) (2 * j + 1) w (by omega) hs1 (by omega) (by omega) (hm.pick (hpC b most ad n cap bm :: m1))) ?_
   refine LM.val (ov_pickT rfl rfl) ?_
   refine LM.nil (QM.sub (e' := [(0, _), (1, _), (4, _), (29, _)]) au9 ?_)
   refine QM.meetK (⟨⟩) ⟨(by first | exact lk rfl (congrArg Value.bool (decide_eq_decide.2 ⟨fun z => ⟨by omega, z⟩, fun z => z.2⟩)) | exact lk rfl (congrArg Value.bool (decide_eq_false (fun z : chB s j => by have := z.1; omega)).symm)), rfl, rfl, rfl, trivial⟩ au1 ?_
   · trivial
  refine LM.dr 23 rfl rfl rfl (LM.dr 23 rfl rfl rfl (LM.dr 23 rfl rfl rfl (LM.dr 23 rfl rfl rfl (LM.dr 23 rfl rfl rfl ?_))))
  refine LM.val (ov_pickF rfl rfl) ?_
  refine LM.nil (QM.sub (e' := [(0, _), (1, _), (4, _), (29, _)]) au9 ?_)
  refine QM.meetK (⟨⟩) ⟨(by first | exact lk rfl (congrArg Value.bool (decide_eq_decide.2 ⟨fun z => ⟨by omega, z⟩, fun z => z.2⟩)) | exact lk rfl (congrArg Value.bool (decide_eq_false (fun z : chB s j => by have := z.1; omega)).symm)), rfl, rfl, rfl, trivial⟩ au1 ?_
  · trivial
 rintro ⟨⟩ -
 change QM _ _ _ _ _ (hpC b most ad n cap bm :: (bm, .map es1 cl1) :: (m1 ++ [])) _ _ _
 refine QM.then ?_
 refine wpM.joinK (α := Unit) (fun ⟨⟩ => [(4, .int .i64 (chO s j : Nat))]) [(0, _), (1, _)] (fun ⟨⟩ => hpC b most ad n cap bm :: (bm, .map es1 cl1) :: (m1 ++ [])) (fun ⟨⟩ => True) ⟨rfl, rfl, trivial⟩ ?_ ?_
 ·
  refine wpM.condD rfl (fun h3 => ?_) (fun h3 => ?_)
  ·
   refine wpM.region ?_
   refine LM.mv rfl ?_
   refine LM.val (ov_add64 rfl rfl (by omega)) ?_
   try rw [show 2 * (j : Int) + 1 = ((2 * j + 1 : Nat) : Int) by omega]
   refine LM.as rfl ?_
   refine LM.nil (QM.sub (e' := [(0, _), (1, _), (4, _)]) au9 ?_)
   refine QM.meetK (⟨⟩) ⟨(by first | exact lk rfl (congrArg (Value.int .i64) (show ((2 * j + 1 : Nat) : Int) + 1 = ((chO s j : Nat) : Int) by unfold chO; rw [if_pos (by assumption)]; omega)) | exact lk rfl (congrArg (Value.int .i64) (show ((2 * j + 1 : Nat) : Int) = ((chO s j : Nat) : Int) by unfold chO; rw [if_neg (by assumption)]))), rfl, rfl, trivial⟩ au1 ?_
   · trivial
  refine wpM.skip ?_
  refine QM.meetK (⟨⟩) ⟨(by first | exact lk rfl (congrArg (Value.int .i64) (show ((2 * j + 1 : Nat) : Int) + 1 = ((chO s j : Nat) : Int) by unfold chO; rw [if_pos (by assumption)]; omega)) | exact lk rfl (congrArg (Value.int .i64) (show ((2 * j + 1 : Nat) : Int) = ((chO s j : Nat) : Int) by unfold chO; rw [if_neg (by assumption)]))), rfl, rfl, trivial⟩ au1 ?_
  · trivial
 rintro ⟨⟩ -
 change QM _ _ _ _ _ (hpC b most ad n cap bm :: (bm, .map es1 cl1) :: (m1 ++ [])) _ _ _
 refine QM.then ?_
 refine wpM.seq ?_
 refine wpM.seq (wpM.region ?_)
 refine LM.mv rfl (LM.mv rfl (LM.mv rfl ?_))
 refine LM.callE (oc_call (enters_fn Try.func62 (by kernel_rfl) rfl) rfl) (fun w hm hc hg => hless_spec (chO s j) j w (by omega) hs1 hcl.1 hjl (hm.pick (hpC b most ad n cap bm :: m1))) ?_
 refine LM.val (ov_notD rfl) ?_
 refine LM.nil (QM.sub (e' := [(0, _), (1, _), (4, _), (36, _)]) au9 (QM.then ?_))
 refine wpM.condD rfl (fun h4 => ?_) (fun h4 => ?_)
 ·
  refine wpM.ret ?_
  refine QM.then_ret ?_
  refine QM.block_ret ?_
  refine QM.then_ret ?_
  refine QM.block_ret ?_
  refine QM.leave (.inl rfl) [] Try.results65 rfl ?_
  intro w' hm' hc' hg'
  have e := dnS_stop (f := f) (i := j) (s := s) (fun z => by first | exact h4 z.2 | exact absurd z.2 (by simpa using h4)); rw [e] at hup; rw [← hup]; exact upd_m ⟨rfl, es1, cl1, m1, rfl, hs1, he1⟩ hm' (by (repeat' (first | exact SubM.nil _ | refine SubM.cons (by rfl) ?_ | refine SubM.app ?_))) hc' hin1
 refine wpM.skip ?_
 refine QM.then (wpM.seq (wpM.region ?_))
 refine LM.mv rfl (LM.mv rfl (LM.mv rfl ?_))
 refine LM.cU (oc_call (enters_fn Try.func63 (by kernel_rfl) rfl) rfl) (fun w hm hc hg => hswap_spec j (chO s j) w (by omega) hs1 he1 hjl hcl.1 (hm.pick (hpC b most ad n cap bm :: (bm, .map es1 cl1) :: m1))) (wlk_h rfl rfl hs1.wlk) (inn_S hin1 inM_in) ?_
 rintro u40 m40 ⟨rfl, es2, cl2, m2, rfl, hs2, he2⟩ hin40
 refine LM.nil (QM.sub (e' := [(0, _), (4, _)]) au9 (QM.then (wpM.region ?_)))
 refine LM.mv rfl (LM.as rfl ?_)
 refine LM.nil (QM.sub (e' := [(0, _), (1, _)]) au9 ?_)
 refine QM.block_normal ?_
 refine QM.againK (f - 1, chO s j, swapS s j (chO s j), es2, cl2, m2) ⟨au2, rfl, trivial⟩ au1 (fun _ h => h) ?_ ?_
 · exact ⟨by omega, by show _ < (swpL _ _ _).length; rw [swpL_len]; exact hcl.1, by show (swpL _ _ _).length = _; rw [swpL_len]; exact hsl, hs2, he2, inn_trans hin1 hin40, by rw [← hup]; obtain ⟨f', rfl⟩ : ∃ f', f = f' + 1 := ⟨f - 1, by omega⟩; exact (dnS_go ⟨hkl, by first | exact Classical.not_not.1 h4 | simpa using h4⟩).symm⟩
 · first | omega | (dsimp only; omega)
end Go.Eng
namespace Go.Eng
open Go Go.RowKit
abbrev hg (l : List Hi) (i : Nat) : Hi := l.getD i default
def hle (a b : Hi) : Prop := ¬ hiLt b a
theorem hle_trans {a b c : Hi} (h : hle a b) (k : hle b c) : hle a c := by unfold hle hiLt at *; omega
theorem hle_of {a b : Hi} (h : hiLt a b) : hle a b := by unfold hle hiLt at *; omega
theorem hlt_or {a b : Hi} (h : a.id ≠ b.id) : hiLt a b ∨ hiLt b a := by unfold hiLt; omega
theorem hlt_le {a b c : Hi} (h : hiLt a b) (k : hle b c) : hiLt a c := by unfold hle hiLt at *; omega
theorem hlt_trans {a b c : Hi} (h : hiLt a b) (k : hiLt b c) : hiLt a c := by unfold hiLt at *; omega
theorem hlt_irr {a : Hi} : ¬ hiLt a a := by unfold hiLt; omega
theorem hg_set {l : List Hi} {i : Nat} (h : i < l.length) (x : Hi) (j : Nat) : hg (l.set i x) j = if i = j then x else hg l j := by
  unfold hg
  rw [List.getD_eq_getElem?_getD, List.getD_eq_getElem?_getD, List.getElem?_set]
  by_cases e : i = j
  · subst e; rw [if_pos rfl, if_pos rfl, if_pos h]; rfl
  · rw [if_neg e, if_neg e]
theorem hg_swap {l : List Hi} {i k : Nat} (hi : i < l.length) (hk : k < l.length) (j : Nat) : hg (swpL l i k) j = if j = k then hg l i else if j = i then hg l k else hg l j := by
  unfold swpL
  rw [hg_set (by rw [List.length_set]; exact hk), hg_set hi]
  by_cases e : j = k
  · rw [if_pos e.symm, if_pos e]
  · rw [if_neg (fun z => e z.symm), if_neg e]
    by_cases e2 : j = i
    · rw [if_pos e2.symm, if_pos e2]
    · rw [if_neg (fun z => e2 z.symm), if_neg e2]
theorem hg_mem {l : List Hi} {i : Nat} (h : i < l.length) : hg l i ∈ l := by
  unfold hg; rw [List.getD_eq_getElem?_getD, List.getElem?_eq_getElem h]; exact List.getElem_mem _
theorem hg_of {l : List Hi} {x : Hi} (h : x ∈ l) : ∃ i, i < l.length ∧ hg l i = x := by
  obtain ⟨i, hi, rfl⟩ := List.getElem_of_mem h
  exact ⟨i, hi, by unfold hg; rw [List.getD_eq_getElem?_getD, List.getElem?_eq_getElem hi]; rfl⟩
def HOrd (l : List Hi) : Prop := ∀ i, 0 < i → i < l.length → hle (hg l ((i - 1) / 2)) (hg l i)
def HUp (l : List Hi) (j : Nat) : Prop := (∀ i, 0 < i → i < l.length → i ≠ j → hle (hg l ((i - 1) / 2)) (hg l i)) ∧ (∀ i, 0 < i → i < l.length → (i - 1) / 2 = j → 0 < j → hle (hg l ((j - 1) / 2)) (hg l i))
def HDn (l : List Hi) (j : Nat) : Prop := (∀ i, 0 < i → i < l.length → (i - 1) / 2 ≠ j → i ≠ j → hle (hg l ((i - 1) / 2)) (hg l i)) ∧ (∀ i, 0 < i → i < l.length → (i - 1) / 2 = j → 0 < j → hle (hg l ((j - 1) / 2)) (hg l i))
theorem HOrd.up {l : List Hi} (h : HOrd l) (j : Nat) (hj : j < l.length) : HUp l j := by
  refine ⟨fun i h0 hi _ => h i h0 hi, fun i h0 hi e h1 => ?_⟩
  have h2 := h i h0 hi
  rw [e] at h2
  exact hle_trans (h j h1 hj) h2
theorem HOrd.root {l : List Hi} (h : HOrd l) : ∀ n i, i < n → i < l.length → hle (hg l 0) (hg l i)
  | 0, i, h0, _ => by omega
  | n + 1, i, h0, hi => by
    by_cases e : i = 0
    · rw [e]; exact hlt_irr
    · exact hle_trans (h.root n ((i - 1) / 2) (by omega) (by omega)) (h i (by omega) hi)
theorem swapS_len (s : Hs) (i k : Nat) : (swapS s i k).l.length = s.l.length := swpL_len _ _ _
theorem up_inv {Φ : Hs → Prop} {n : Nat} (hsw : ∀ s i k, Φ s → s.l.length = n → i < n → k < n → Φ (swapS s i k)) : ∀ f j s, j < n → s.l.length = n → Φ s → Φ (upS f j s) ∧ (upS f j s).l.length = n
  | 0, j, s, _, hl, h => ⟨h, hl⟩
  | f + 1, j, s, hj, hl, h => by
    by_cases c : 0 < j ∧ hiLt (s.l.getD j default) (s.l.getD ((j - 1) / 2) default)
    · rw [upS_go c]; exact up_inv hsw f _ _ (by omega) ((swapS_len s _ _).trans hl) (hsw _ _ _ h hl hj (by omega))
    · rw [upS_stop c]; exact ⟨h, hl⟩
theorem dn_inv {Φ : Hs → Prop} {n : Nat} (hsw : ∀ s i k, Φ s → s.l.length = n → i < n → k < n → Φ (swapS s i k)) : ∀ f j s, j < n → s.l.length = n → Φ s → Φ (dnS f j s) ∧ (dnS f j s).l.length = n
  | 0, j, s, _, hl, h => ⟨h, hl⟩
  | f + 1, j, s, hj, hl, h => by
    by_cases c : 2 * j + 1 < s.l.length ∧ hiLt (s.l.getD (chO s j) default) (s.l.getD j default)
    · have hc := (chO_lt c.1).1
      rw [dnS_go c]; exact dn_inv hsw f _ _ (by omega) ((swapS_len s _ _).trans hl) (hsw _ _ _ h hl hj (by omega))
    · rw [dnS_stop c]; exact ⟨h, hl⟩
theorem up_ok : ∀ f j s, j ≤ f → j < s.l.length → HUp s.l j → HOrd (upS f j s).l
  | 0, j, s, hf, hj, h => fun i h0 hi => h.1 i h0 hi (by omega)
  | f + 1, j, s, hf, hj, h => by
    by_cases c : 0 < j ∧ hiLt (s.l.getD j default) (s.l.getD ((j - 1) / 2) default)
    · rw [upS_go c]
      have hp : (j - 1) / 2 < s.l.length := by omega
      refine up_ok f _ _ (by omega) (by rw [swapS_len]; exact hp) ?_
      have hlt : hiLt (hg s.l j) (hg s.l ((j - 1) / 2)) := c.2
      show HUp (swpL s.l j ((j - 1) / 2)) _
      constructor
      · intro i h0 hi hne
        rw [swpL_len] at hi
        rw [hg_swap hj hp, hg_swap hj hp]
        by_cases e : i = j
        · subst e
          rw [if_pos rfl, if_neg hne, if_pos rfl]; exact hle_of hlt
        · rw [if_neg hne, if_neg e]
          by_cases e2 : (i - 1) / 2 = (j - 1) / 2
          · rw [if_pos e2]
            have := h.1 i h0 hi e
            rw [e2] at this; exact hle_of (hlt_le hlt this)
          · rw [if_neg e2]
            by_cases e3 : (i - 1) / 2 = j
            · rw [if_pos e3]; exact h.2 i h0 hi e3 c.1
            · rw [if_neg e3]; exact h.1 i h0 hi e
      · intro i h0 hi e hp0
        rw [swpL_len] at hi
        rw [hg_swap hj hp, hg_swap hj hp, if_neg (by omega), if_neg (by omega), if_neg (by omega)]
        have h1 := h.1 ((j - 1) / 2) hp0 hp (by omega)
        by_cases e2 : i = j
        · rw [if_pos e2]; exact h1
        · rw [if_neg e2]
          have h2 := h.1 i h0 hi e2
          rw [e] at h2; exact hle_trans h1 h2
    · rw [upS_stop c]
      intro i h0 hi
      by_cases e : i = j
      · subst e; exact fun z => c ⟨h0, z⟩
      · exact h.1 i h0 hi e
theorem chO_le {s : Hs} {i k : Nat} (h0 : 0 < k) (hk : k < s.l.length) (e : (k - 1) / 2 = i) : hle (hg s.l (chO s i)) (hg s.l k) := by
  unfold chO
  by_cases hb : chB s i
  · rw [if_pos hb]
    rcases (show k = 2 * i + 1 ∨ k = 2 * i + 2 by omega) with e2 | e2
    · subst e2; exact hle_of hb.2
    · subst e2; exact hlt_irr
  · rw [if_neg hb]
    rcases (show k = 2 * i + 1 ∨ k = 2 * i + 2 by omega) with e2 | e2
    · subst e2; exact hlt_irr
    · subst e2; exact fun z => hb ⟨hk, z⟩
theorem dn_ok : ∀ f j s, s.l.length ≤ f + j → j < s.l.length → HDn s.l j → (dnS f j s = s ∧ HUp s.l j) ∨ HOrd (dnS f j s).l
  | 0, j, s, hf, hj, h => by omega
  | f + 1, j, s, hf, hj, h => by
    by_cases c : 2 * j + 1 < s.l.length ∧ hiLt (s.l.getD (chO s j) default) (s.l.getD j default)
    · obtain ⟨hcl, hcj⟩ := chO_lt c.1
      have hpc : (chO s j - 1) / 2 = j := by unfold chO; split <;> omega
      have hlt : hiLt (hg s.l (chO s j)) (hg s.l j) := c.2
      rw [dnS_go c]
      have hD : HDn (swapS s j (chO s j)).l (chO s j) := by
        show HDn (swpL s.l j (chO s j)) _
        constructor
        · intro k h0 hk h1 h2
          rw [swpL_len] at hk
          rw [hg_swap hj hcl, hg_swap hj hcl, if_neg h1, if_neg h2]
          by_cases e : k = j
          · subst e
            rw [if_neg (by omega), if_pos rfl]
            exact h.2 (chO s k) (by omega) hcl hpc h0
          · rw [if_neg e]
            by_cases e2 : (k - 1) / 2 = j
            · rw [if_pos e2]; exact chO_le h0 hk e2
            · rw [if_neg e2]; exact h.1 k h0 hk e2 e
        · intro k h0 hk h1 h2
          rw [swpL_len] at hk
          rw [hg_swap hj hcl, hg_swap hj hcl, hpc, if_neg (by omega), if_pos rfl, if_neg (by omega), if_neg (by omega)]
          have := h.1 k h0 hk (by omega) (by omega)
          rw [h1] at this; exact this
      rcases dn_ok f _ _ (by rw [swapS_len]; omega) (by rw [swapS_len]; exact hcl) hD with ⟨e, hU⟩ | hO
      · right
        rw [e]
        intro k h0 hk
        by_cases e2 : k = chO s j
        · subst e2
          show hle (hg (swpL s.l j (chO s j)) _) (hg (swpL s.l j (chO s j)) _)
          rw [hg_swap hj hcl, hg_swap hj hcl, hpc, if_neg (by omega), if_pos rfl, if_pos rfl]
          exact hle_of hlt
        · exact hU.1 k h0 hk e2
      · exact .inr hO
    · left
      rw [dnS_stop c]
      refine ⟨rfl, fun k h0 hk hne => ?_, h.2⟩
      by_cases e : (k - 1) / 2 = j
      · have h1 := chO_le h0 hk e
        have h2 : hle (hg s.l j) (hg s.l (chO s j)) := fun z => c ⟨by omega, z⟩
        rw [e]; exact hle_trans h2 h1
      · exact h.1 k h0 hk e hne
structure HAt (s : Hs) : Prop where
  inj : ∀ i j, i < s.l.length → j < s.l.length → (hg s.l i).id = (hg s.l j).id → i = j
  wk : (s.at_.map (·.1)).Nodup
  wh : ∀ i, i < s.l.length → aget s.at_ (hg s.l i).id = some (.int .i64 (i : Nat))
  wn : ∀ t, (∀ i, i < s.l.length → (hg s.l i).id ≠ t) → aget s.at_ t = none
def sw (i k j : Nat) : Nat := if j = k then i else if j = i then k else j
theorem hg_sw {l : List Hi} {i k : Nat} (hi : i < l.length) (hk : k < l.length) (j : Nat) : hg (swpL l i k) j = hg l (sw i k j) := by
  rw [hg_swap hi hk]; unfold sw; split; rfl; split <;> rfl
theorem sw_lt {i k j n : Nat} (hi : i < n) (hk : k < n) (hj : j < n) : sw i k j < n := by unfold sw; split; exact hi; split; exact hk; exact hj
theorem sw_inj {i k a b : Nat} (h : sw i k a = sw i k b) : a = b := by
  unfold sw at h; split at h <;> split at h <;> (try split at h) <;> (try split at h) <;> omega
theorem sw_sw (i k j : Nat) : sw i k (sw i k j) = j := by
  unfold sw; split <;> (try split) <;> (try split) <;> (try split) <;> omega
theorem HAt.swap {s : Hs} {i k : Nat} (h : HAt s) (hi : i < s.l.length) (hk : k < s.l.length) : HAt (swapS s i k) := by
  have hinj : ∀ a b, a < s.l.length → b < s.l.length → (hg (swpL s.l i k) a).id = (hg (swpL s.l i k) b).id → a = b := fun a b ha hb e => by
    rw [hg_sw hi hk, hg_sw hi hk] at e
    exact sw_inj (h.inj _ _ (sw_lt hi hk ha) (sw_lt hi hk hb) e)
  constructor
  case inj => intro a b ha hb e; rw [swapS_len] at ha hb; exact hinj a b ha hb e
  case wk => exact aputN' (aputN' h.wk)
  case wh =>
    intro j hj
    rw [swapS_len] at hj
    show aget (aput (aput s.at_ (hg (swpL s.l i k) i).id _) (hg (swpL s.l i k) k).id _) (hg (swpL s.l i k) j).id = _
    rw [aget_aput, aget_aput]
    by_cases e1 : j = k
    · subst e1; rw [if_pos rfl]
    · rw [if_neg (fun z => e1 (hinj j k hj hk z))]
      by_cases e2 : j = i
      · subst e2; rw [if_pos rfl]
      · rw [if_neg (fun z => e2 (hinj j i hj hi z)), hg_swap hi hk, if_neg e1, if_neg e2]
        exact h.wh j hj
  case wn =>
    intro t ht
    rw [swapS_len] at ht
    show aget (aput (aput s.at_ (hg (swpL s.l i k) i).id _) (hg (swpL s.l i k) k).id _) t = _
    rw [aget_aput, aget_aput, if_neg (fun z => ht k hk z.symm), if_neg (fun z => ht i hi z.symm)]
    refine h.wn t (fun j hj e => ht (sw i k j) (sw_lt hi hk hj) ?_)
    show (hg (swpL s.l i k) _).id = _
    rw [hg_sw hi hk, sw_sw]; exact e
theorem nodup_of {s : Hs} (h : HAt s) : s.l.Nodup := by
  rw [List.nodup_iff_pairwise_ne] at *
  rw [List.pairwise_iff_getElem]
  intro i j hi hj hij e
  have := h.inj i j hi hj (by unfold hg; rw [List.getD_eq_getElem?_getD, List.getD_eq_getElem?_getD, List.getElem?_eq_getElem hi, List.getElem?_eq_getElem hj, e])
  omega
theorem swpL_mem {l : List Hi} {i k : Nat} (hi : i < l.length) (hk : k < l.length) (x : Hi) : x ∈ swpL l i k ↔ x ∈ l := by
  constructor
  · intro h
    obtain ⟨j, hj, rfl⟩ := hg_of h
    rw [swpL_len] at hj
    rw [hg_sw hi hk]; exact hg_mem (sw_lt hi hk hj)
  · intro h
    obtain ⟨j, hj, rfl⟩ := hg_of h
    have h2 := hg_mem (l := swpL l i k) (i := sw i k j) (by rw [swpL_len]; exact sw_lt hi hk hj)
    rw [hg_sw hi hk, sw_sw] at h2; exact h2
theorem HAt.swap_perm {s : Hs} {i k : Nat} (h : HAt s) (hi : i < s.l.length) (hk : k < s.l.length) : (swapS s i k).l.Perm s.l :=
  (List.perm_ext_iff_of_nodup (nodup_of (h.swap hi hk)) (nodup_of h)).2 (swpL_mem hi hk)
theorem up_keep {f j : Nat} {s : Hs} (h : HAt s) (hj : j < s.l.length) : HAt (upS f j s) ∧ (upS f j s).l.Perm s.l ∧ (upS f j s).l.length = s.l.length := by
  obtain ⟨⟨h1, h2⟩, h3⟩ := up_inv (Φ := fun z => HAt z ∧ z.l.Perm s.l) (n := s.l.length) (fun z i k hz hl hi hk => ⟨hz.1.swap (by omega) (by omega), (hz.1.swap_perm (by omega) (by omega)).trans hz.2⟩) f j s hj rfl ⟨h, List.Perm.refl _⟩
  exact ⟨h1, h2, h3⟩
theorem dn_keep {f j : Nat} {s : Hs} (h : HAt s) (hj : j < s.l.length) : HAt (dnS f j s) ∧ (dnS f j s).l.Perm s.l ∧ (dnS f j s).l.length = s.l.length := by
  obtain ⟨⟨h1, h2⟩, h3⟩ := dn_inv (Φ := fun z => HAt z ∧ z.l.Perm s.l) (n := s.l.length) (fun z i k hz hl hi hk => ⟨hz.1.swap (by omega) (by omega), (hz.1.swap_perm (by omega) (by omega)).trans hz.2⟩) f j s hj rfl ⟨h, List.Perm.refl _⟩
  exact ⟨h1, h2, h3⟩
structure HpR (most : Int) (s : Hs) (S : List Hi) : Prop where
  mst : 0 ≤ most ∧ most ≤ 4096
  ord : HOrd s.l
  at_ : HAt s
  pm : s.l.Perm S
  srt : S.Pairwise hiLt
  le : (s.l.length : Int) ≤ most
def insS (x : Hi) : List Hi → List Hi
  | [] => [x]
  | y :: l => if hiLt x y then x :: y :: l else y :: insS x l
theorem insS_perm (x : Hi) : ∀ l, (insS x l).Perm (x :: l)
  | [] => List.Perm.refl _
  | y :: l => by
    unfold insS
    split
    · exact List.Perm.refl _
    · exact ((insS_perm x l).cons y).trans (List.Perm.swap x y l)
theorem insS_sorted {x : Hi} : ∀ {l : List Hi}, l.Pairwise hiLt → (∀ y ∈ l, y.id ≠ x.id) → (insS x l).Pairwise hiLt
  | [], _, _ => List.pairwise_singleton ..
  | y :: l, h, hn => by
    unfold insS
    have h1 := List.pairwise_cons.1 h
    split
    · rename_i hlt
      exact List.pairwise_cons.2 ⟨fun z hz => by
        rcases List.mem_cons.1 hz with rfl | hz
        · exact hlt
        · exact hlt_trans hlt (h1.1 z hz), h⟩
    · rename_i hlt
      refine List.pairwise_cons.2 ⟨fun z hz => ?_, insS_sorted h1.2 (fun z hz => hn z (List.mem_cons_of_mem _ hz))⟩
      rcases List.mem_cons.1 ((insS_perm x l).mem_iff.1 hz) with rfl | hz
      · exact (hlt_or (hn y (List.mem_cons_self ..))).resolve_right hlt
      · exact h1.1 z hz
def pushS (s : Hs) (x : Hi) : Hs := upS s.l.length s.l.length ⟨s.l ++ [x], aput s.at_ x.id (.int .i64 (s.l.length : Nat))⟩
theorem hg_snoc (l : List Hi) (x : Hi) (j : Nat) : hg (l ++ [x]) j = if j = l.length then x else hg l j := by
  unfold hg
  rw [List.getD_eq_getElem?_getD, List.getD_eq_getElem?_getD]
  by_cases e : j = l.length
  · subst e; simp
  · rw [if_neg e]
    rcases Nat.lt_or_ge j l.length with h | h
    · rw [List.getElem?_append_left h]
    · rw [List.getElem?_eq_none (by rw [List.length_append, List.length_singleton]; omega), List.getElem?_eq_none h]
theorem HAt.has {s : Hs} (h : HAt s) (t : Int) : (aget s.at_ t).isSome = true ↔ ∃ x ∈ s.l, x.id = t := by
  constructor
  · intro q
    apply Classical.byContradiction
    intro hn
    have := h.wn t (fun i hi e => hn ⟨_, hg_mem hi, e⟩)
    rw [this] at q; cases q
  · rintro ⟨x, hx, rfl⟩
    obtain ⟨i, hi, rfl⟩ := hg_of hx
    rw [h.wh i hi]; rfl
theorem HpR.has {most : Int} {s : Hs} {S : List Hi} (h : HpR most s S) (t : Int) : (aget s.at_ t).isSome = true ↔ ∃ x ∈ S, x.id = t := by
  rw [h.at_.has]
  constructor
  · rintro ⟨x, hx, e⟩; exact ⟨x, h.pm.mem_iff.1 hx, e⟩
  · rintro ⟨x, hx, e⟩; exact ⟨x, h.pm.mem_iff.2 hx, e⟩
theorem push_heap {most : Int} {s : Hs} {S : List Hi} (h : HpR most s S) (x : Hi) (hn : ∀ y ∈ S, y.id ≠ x.id) (hl : ¬ most ≤ (s.l.length : Int)) : HpR most (pushS s x) (insS x S) := by
  have hln : (s.l ++ [x]).length = s.l.length + 1 := by rw [List.length_append, List.length_singleton]
  have hA : HAt ⟨s.l ++ [x], aput s.at_ x.id (.int .i64 (s.l.length : Nat))⟩ := by
    constructor
    case inj =>
      intro i j hi hj e
      rw [show (Hs.mk (s.l ++ [x]) (aput s.at_ x.id (.int .i64 (s.l.length : Nat)))).l = s.l ++ [x] from rfl] at *
      rw [hln] at hi hj
      rw [hg_snoc, hg_snoc] at e
      by_cases e1 : i = s.l.length
      · by_cases e2 : j = s.l.length
        · omega
        · rw [if_pos e1, if_neg e2] at e
          exact absurd e.symm (hn _ (h.pm.mem_iff.1 (hg_mem (by omega))))
      · by_cases e2 : j = s.l.length
        · rw [if_neg e1, if_pos e2] at e
          exact absurd e (hn _ (h.pm.mem_iff.1 (hg_mem (by omega))))
        · rw [if_neg e1, if_neg e2] at e
          exact h.at_.inj i j (by omega) (by omega) e
    case wk => exact aputN' h.at_.wk
    case wh =>
      intro i hi
      rw [show (Hs.mk (s.l ++ [x]) (aput s.at_ x.id (.int .i64 (s.l.length : Nat)))).l = s.l ++ [x] from rfl] at *
      rw [hln] at hi
      show aget (aput s.at_ x.id _) _ = _
      rw [hg_snoc, aget_aput]
      by_cases e1 : i = s.l.length
      · rw [if_pos e1, if_pos rfl, e1]
      · rw [if_neg e1, if_neg (hn _ (h.pm.mem_iff.1 (hg_mem (by omega))))]
        exact h.at_.wh i (by omega)
    case wn =>
      intro t ht
      rw [show (Hs.mk (s.l ++ [x]) (aput s.at_ x.id (.int .i64 (s.l.length : Nat)))).l = s.l ++ [x] from rfl] at *
      rw [hln] at ht
      show aget (aput s.at_ x.id _) t = _
      have h1 := ht s.l.length (by omega)
      rw [hg_snoc, if_pos rfl] at h1
      rw [aget_aput, if_neg (fun z => h1 z.symm)]
      refine h.at_.wn t (fun i hi => ?_)
      have h2 := ht i (by omega)
      rw [hg_snoc, if_neg (by omega)] at h2; exact h2
  have hj : s.l.length < (s.l ++ [x]).length := by omega
  obtain ⟨h1, h2, h3⟩ := up_keep (f := s.l.length) (j := s.l.length) hA hj
  have hU : HUp (s.l ++ [x]) s.l.length := by
    constructor
    · intro i h0 hi hne
      rw [hln] at hi
      rw [hg_snoc, hg_snoc, if_neg (by omega), if_neg hne]; exact h.ord i h0 (by omega)
    · intro i h0 hi e _
      rw [hln] at hi; omega
  refine ⟨h.mst, up_ok _ _ _ (Nat.le_refl _) hj hU, h1, h2.trans ?_, insS_sorted h.srt hn, ?_⟩
  · exact (List.perm_append_comm.trans (h.pm.cons x)).trans (insS_perm x S).symm
  · show ((upS _ _ _).l.length : Int) ≤ _
    rw [h3]; show (((s.l ++ [x]).length : Nat) : Int) ≤ _; rw [hln]; omega
def cutS (s : Hs) (i : Nat) : Hs := ⟨(swpL s.l i (s.l.length - 1)).take (s.l.length - 1), adel (swapS s i (s.l.length - 1)).at_ (hg s.l i).id⟩
def tkS (s : Hs) (i : Nat) : Hs := if i < s.l.length - 1 then upS i i (dnS (s.l.length - 1) i (cutS s i)) else cutS s i
theorem hg_take (l : List Hi) {n j : Nat} (h : j < n) : hg (l.take n) j = hg l j := by
  unfold hg; rw [List.getD_eq_getElem?_getD, List.getD_eq_getElem?_getD, List.getElem?_take, if_pos h]
theorem cutS_len {s : Hs} {i : Nat} (hi : i < s.l.length) : (cutS s i).l.length = s.l.length - 1 := by
  show (List.take _ _).length = _; rw [List.length_take, swpL_len]; omega
theorem hg_cut {s : Hs} {i j : Nat} (hi : i < s.l.length) (hj : j < s.l.length - 1) : hg (cutS s i).l j = if j = i then hg s.l (s.l.length - 1) else hg s.l j := by
  show hg (List.take _ _) j = _
  rw [hg_take _ hj, hg_swap hi (by omega), if_neg (by omega)]
theorem cut_at {s : Hs} {i : Nat} (h : HAt s) (hi : i < s.l.length) : HAt (cutS s i) := by
  have hk : s.l.length - 1 < s.l.length := by omega
  have hS := h.swap hi hk
  have hlast : hg (swpL s.l i (s.l.length - 1)) (s.l.length - 1) = hg s.l i := by rw [hg_swap hi hk, if_pos rfl]
  have hc : ∀ j, j < s.l.length - 1 → hg (cutS s i).l j = hg (swpL s.l i (s.l.length - 1)) j := fun j hj => hg_take _ hj
  constructor
  case inj =>
    intro a b ha hb e
    rw [cutS_len hi] at ha hb
    rw [hc a ha, hc b hb] at e
    exact hS.inj a b (by rw [swapS_len]; omega) (by rw [swapS_len]; omega) e
  case wk => exact adelN' hS.wk
  case wh =>
    intro j hj
    rw [cutS_len hi] at hj
    show aget (adel (swapS s i (s.l.length - 1)).at_ (hg s.l i).id) _ = _
    rw [aget_adel' hS.wk, hc j hj, if_neg ?_]
    · exact hS.wh j (by rw [swapS_len]; omega)
    · intro e
      rw [← hlast] at e
      have := hS.inj j (s.l.length - 1) (by rw [swapS_len]; omega) (by rw [swapS_len]; omega) e
      omega
  case wn =>
    intro t ht
    rw [cutS_len hi] at ht
    show aget (adel (swapS s i (s.l.length - 1)).at_ (hg s.l i).id) t = _
    rw [aget_adel' hS.wk]
    by_cases e : t = (hg s.l i).id
    · rw [if_pos e]
    · rw [if_neg e]
      refine hS.wn t (fun j hj => ?_)
      rw [swapS_len] at hj
      show (hg (swpL s.l i (s.l.length - 1)) j).id ≠ t
      by_cases e2 : j = s.l.length - 1
      · rw [e2, hlast]; exact fun z => e z.symm
      · rw [← hc j (by omega)]; exact ht j (by omega)
theorem cut_perm {s : Hs} {i : Nat} (h : HAt s) (hi : i < s.l.length) : (cutS s i).l.Perm (s.l.filter (fun x => x.id ≠ (hg s.l i).id)) := by
  have hk : s.l.length - 1 < s.l.length := by omega
  refine (List.perm_ext_iff_of_nodup (nodup_of (cut_at h hi)) ((nodup_of h).filter _)).2 (fun x => ?_)
  rw [List.mem_filter]
  constructor
  · intro hx
    obtain ⟨j, hj, rfl⟩ := hg_of hx
    rw [cutS_len hi] at hj
    rw [hg_cut hi hj]
    by_cases e : j = i
    · rw [if_pos e]
      exact ⟨hg_mem hk, decide_eq_true (fun z => by have := h.inj _ _ hk hi z; omega)⟩
    · rw [if_neg e]
      exact ⟨hg_mem (by omega), decide_eq_true (fun z => e (h.inj _ _ (by omega) hi z))⟩
  · rintro ⟨hx, hne⟩
    have hne' := of_decide_eq_true hne
    obtain ⟨j, hj, rfl⟩ := hg_of hx
    by_cases e : j = s.l.length - 1
    · have hi2 : i < s.l.length - 1 := by
        rcases Nat.lt_or_ge i (s.l.length - 1) with z | z
        · exact z
        · exact absurd (by rw [e]; congr 2; omega) hne'
      have := hg_mem (l := (cutS s i).l) (i := i) (by rw [cutS_len hi]; exact hi2)
      rw [hg_cut hi hi2, if_pos rfl] at this
      rw [e]; exact this
    · have hji : j ≠ i := fun z => hne' (by rw [z])
      have := hg_mem (l := (cutS s i).l) (i := j) (by rw [cutS_len hi]; omega)
      rw [hg_cut hi (by omega), if_neg hji] at this; exact this
theorem cut_dn {s : Hs} {i : Nat} (h : HOrd s.l) (hi : i < s.l.length) : HDn (cutS s i).l i := by
  constructor
  · intro k h0 hk h1 h2
    rw [cutS_len hi] at hk
    rw [hg_cut hi hk, hg_cut hi (by omega), if_neg h1, if_neg h2]; exact h k h0 (by omega)
  · intro k h0 hk h1 h2
    rw [cutS_len hi] at hk
    rw [hg_cut hi hk, hg_cut hi (by omega), if_neg (by omega), if_neg (by omega)]
    have h3 := h k h0 (by omega)
    rw [h1] at h3
    exact hle_trans (h i h2 hi) h3
theorem take_heap {most : Int} {s : Hs} {S : List Hi} (h : HpR most s S) {i : Nat} (hi : i < s.l.length) : HpR most (tkS s i) (S.filter (fun x => x.id ≠ (hg s.l i).id)) := by
  have hc := cut_at h.at_ hi
  have hp := (cut_perm h.at_ hi).trans (h.pm.filter _)
  have hl := cutS_len (s := s) hi
  have hle := h.le
  have hsrt : (S.filter (fun x => x.id ≠ (hg s.l i).id)).Pairwise hiLt := h.srt.filter _
  unfold tkS
  by_cases e : i < s.l.length - 1
  · rw [if_pos e]
    have hic : i < (cutS s i).l.length := by omega
    obtain ⟨d1, d2, d3⟩ := dn_keep (f := s.l.length - 1) (j := i) hc hic
    obtain ⟨u1, u2, u3⟩ := up_keep (f := i) (j := i) d1 (by omega)
    refine ⟨h.mst, ?_, u1, (u2.trans d2).trans hp, hsrt, by omega⟩
    refine up_ok _ _ _ (Nat.le_refl _) (by omega) ?_
    rcases dn_ok (s.l.length - 1) i (cutS s i) (by omega) hic (cut_dn h.ord hi) with ⟨q1, q2⟩ | q
    · rw [q1]; exact q2
    · exact q.up i (by omega)
  · rw [if_neg e]
    refine ⟨h.mst, fun k h0 hk => ?_, hc, hp, hsrt, by omega⟩
    rw [hl] at hk
    rw [hg_cut hi hk, hg_cut hi (by omega), if_neg (by omega), if_neg (by omega)]; exact h.ord k h0 (by omega)
theorem first_heap {most : Int} {s : Hs} {x : Hi} {S : List Hi} (h : HpR most s (x :: S)) : hg s.l 0 = x := by
  have hne : 0 < s.l.length := by rw [h.pm.length_eq]; simp
  have h1 := h.pm.mem_iff.1 (hg_mem hne)
  rcases List.mem_cons.1 h1 with e | e
  · exact e
  · have h2 := (List.pairwise_cons.1 h.srt).1 _ e
    obtain ⟨j, hj, hx⟩ := hg_of (h.pm.mem_iff.2 (List.mem_cons_self (a := x) (l := S)))
    have h3 := h.ord.root (j + 1) j (by omega) hj
    rw [hx] at h3
    exact absurd h2 h3
theorem filter_head {x : Hi} {S : List Hi} (h : ∀ y ∈ S, y.id ≠ x.id) : (x :: S).filter (fun y => y.id ≠ x.id) = S := by
  rw [List.filter_cons_of_neg (by simp)]
  exact List.filter_eq_self.2 (fun y hy => decide_eq_true (h y hy))
theorem HpR.ids {most : Int} {s : Hs} {S : List Hi} (h : HpR most s S) : S.Pairwise (fun a b => a.id ≠ b.id) := by
  have h1 : s.l.Pairwise (fun a b => a.id ≠ b.id) := by
    rw [List.pairwise_iff_getElem]
    intro i j hi hj hij e
    have := h.at_.inj i j hi hj (by unfold hg; rw [List.getD_eq_getElem?_getD, List.getD_eq_getElem?_getD, List.getElem?_eq_getElem hi, List.getElem?_eq_getElem hj]; exact e)
    omega
  exact (h.pm.pairwise_iff (fun e => fun z => e z.symm)).1 h1
theorem pop_heap {most : Int} {s : Hs} {x : Hi} {S : List Hi} (h : HpR most s (x :: S)) : HpR most (tkS s 0) S := by
  have hne : 0 < s.l.length := by rw [h.pm.length_eq]; simp
  have h1 := take_heap h hne
  rw [first_heap h, filter_head (fun y hy e => (List.pairwise_cons.1 h.ids).1 y hy e.symm)] at h1
  exact h1
end Go.Eng
namespace Go.Eng
open Go Go.Proofs Go.RowKit
def HpM (most : Int) (n0 b : Nat) (s : Hs) (m : Mem0) : Prop := ∃ (ad : Option Addr) (n cap bm : Nat) (es : Array MapEntry) (cl : Nat) (ms : Mem0), m = hpC b most ad n cap bm :: (bm, .map es cl) :: ms ∧ n = s.l.length ∧ Sl fHi 91 3 n0 s.l (.slice ad n cap) ms ∧ EnsS .i64 es cl s.at_ ∧ n0 ≤ b ∧ n0 ≤ bm
def HoM (most : Int) (n0 b : Nat) (S : List Hi) (m : Mem0) : Prop := ∃ s, HpR most s S ∧ HpM most n0 b s m
theorem HpM.ge {most : Int} {n0 b : Nat} {s : Hs} {m : Mem0} (h : HpM most n0 b s m) : ∀ p ∈ m, n0 ≤ p.1 := by
  obtain ⟨ad, n, cap, bm, es, cl, ms, rfl, hn, hs, he, hb, hbm⟩ := h
  intro p hp
  simp only [List.mem_cons] at hp
  rcases hp with rfl | rfl | hp
  · exact hb
  · exact hbm
  · exact hs.ge p hp
theorem HpM.wlk {most : Int} {n0 b : Nat} {s : Hs} {m : Mem0} (h : HpM most n0 b s m) : ∀ p ∈ m, wlk p.2 = false := by
  obtain ⟨ad, n, cap, bm, es, cl, ms, rfl, hn, hs, he, hb, hbm⟩ := h
  exact wlk_h rfl rfl hs.wlk
theorem HpM.mono {most : Int} {n0 n1 b : Nat} {s : Hs} {m : Mem0} (h : HpM most n0 b s m) (k : n1 ≤ n0) : HpM most n1 b s m := by
  obtain ⟨ad, n, cap, bm, es, cl, ms, rfl, hn, hs, he, hb, hbm⟩ := h
  exact ⟨ad, n, cap, bm, es, cl, ms, rfl, hn, hs.mono k, he, Nat.le_trans k hb, Nat.le_trans k hbm⟩
theorem HoM.ge {most : Int} {n0 b : Nat} {S : List Hi} {m : Mem0} (h : HoM most n0 b S m) : ∀ p ∈ m, n0 ≤ p.1 := by obtain ⟨s, _, h⟩ := h; exact h.ge
theorem HoM.wlk {most : Int} {n0 b : Nat} {S : List Hi} {m : Mem0} (h : HoM most n0 b S m) : ∀ p ∈ m, wlk p.2 = false := by obtain ⟨s, _, h⟩ := h; exact h.wlk
theorem HoM.mono {most : Int} {n0 n1 b : Nat} {S : List Hi} {m : Mem0} (h : HoM most n0 b S m) (k : n1 ≤ n0) : HoM most n1 b S m := by obtain ⟨s, h1, h⟩ := h; exact ⟨s, h1, h.mono k⟩
theorem Sl.preH {α : Type} {f : α → List Value} {E s n0 : Nat} {xs : List α} {ad : Option Addr} {n cap : Nat} {m : Mem0} (h : Sl f E s n0 xs (.slice ad n cap) m) (hf : ∀ a, (f a).length = s) {k : Nat} (hk : k ≤ xs.length) : Sl f E s n0 (xs.take k) (.slice ad k cap) m := by
  rcases h with ⟨h1, h2, h3⟩ | ⟨b, c, junk, hb, hv, rfl, hle, hmax, hsz⟩
  · subst h3; simp at hk; subst hk
    cases h1
    exact .inl ⟨rfl, h2, rfl⟩
  · cases hv
    have e : (xs.take k).length = k := by rw [List.length_take]; omega
    refine .inr ⟨b, cap, (xs.drop k).flatMap f ++ junk, hb, by rw [e], ?_, by omega, hmax, ?_⟩
    · congr 2
      unfold arr; rw [← List.append_assoc, ← List.flatMap_append, List.take_append_drop]
    · have h3 : (xs.drop k).length = xs.length - k := List.length_drop
      have e2 : xs.length * s = k * s + (xs.length - k) * s := by rw [← Nat.add_mul]; congr 1; omega
      rw [e, List.length_append, flatMap_len hf, h3]; omega
def hpE (most : Int) (s : Hs) (x : Hi) : Int := if (aget s.at_ x.id).isSome = true then 12 else if most ≤ (s.l.length : Int) then 3 else 0
def hpX (most : Int) (s : Hs) (x : Hi) : Hs := if (aget s.at_ x.id).isSome = true then s else if most ≤ (s.l.length : Int) then s else pushS s x
theorem hp_leaf {most : Int} {n0 b n n' cap cap' bm cl cl' : Nat} {ad ad' : Option Addr} {es es' : Array MapEntry} {s' : Hs} {ms ms' M : Mem0} {u0 : Value} {w w' : World} (hn : n' = s'.l.length) (hs : Sl fHi 91 3 n0 s'.l (.slice ad' n' cap') ms') (he : EnsS .i64 es' cl' s'.at_) (hb : n0 ≤ b) (hbm : n0 ≤ bm) (hm : Mem w' M)
    (hsub : SubM M (hpC b most ad' n' cap' bm :: (bm, .map es' cl') :: (ms' ++ []))) (hc : Chg (inM (hpC b most ad n cap bm :: (bm, .map es cl) :: ms)) w w') (hin : inn ms w.heap.size ms') :
    Upd (hpC b most ad n cap bm :: (bm, .map es cl) :: ms) (fun u m' => u = u0 ∧ HpM most n0 b s' m') w u0 w' := by
  rw [List.append_nil] at hsub
  refine ⟨hc, _, ⟨rfl, ad', n', cap', bm, es', cl', ms', rfl, hn, hs, he, hb, hbm⟩, hsub.mem w' hm, fun p hp => ?_⟩
  simp only [List.mem_cons] at hp
  rcases hp with rfl | rfl | hp
  · exact .inr ⟨_, List.mem_cons_self .., rfl⟩
  · exact .inr ⟨(bm, .map es cl), by simp only [List.mem_cons, true_or, or_true], rfl⟩
  · rcases hin p hp with q | ⟨q, hq, e⟩
    · exact .inl q
    · exact .inr ⟨q, List.mem_cons_of_mem _ (List.mem_cons_of_mem _ hq), e⟩
theorem inn_tail2 {a a' c c' : Nat × Obj} {m x : Mem0} {k : Nat} (e1 : a.1 = a'.1) (e2 : c.1 = c'.1) (h : inn (a :: c :: m) k (a' :: c' :: x)) (h1 : ∀ p ∈ x, p.1 ≠ a.1) (h2 : ∀ p ∈ x, p.1 ≠ c.1) : inn m k x := fun p hp => by
  rcases h p (List.mem_cons_of_mem _ (List.mem_cons_of_mem _ hp)) with q | ⟨q, hq, e⟩
  · exact .inl q
  · rcases List.mem_cons.1 hq with rfl | hq
    · exact absurd e.symm (h1 p hp)
    · rcases List.mem_cons.1 hq with rfl | hq
      · exact absurd e.symm (h2 p hp)
      · exact .inr ⟨q, hq, e⟩
theorem mem_ne2 {w : World} {a c : Nat × Obj} {m : Mem0} (h : Mem w (a :: c :: m)) : (∀ p ∈ m, p.1 ≠ a.1) ∧ (∀ p ∈ m, p.1 ≠ c.1) := by
  have h1 := h.1
  simp only [List.map_cons, List.nodup_cons] at h1
  exact ⟨fun p hp e => h1.1 (List.mem_cons_of_mem _ (e ▸ List.mem_map_of_mem hp)), fun p hp e => h1.2.1 (e ▸ List.mem_map_of_mem hp)⟩
theorem inn_h {a a' c c' : Nat × Obj} {m x : Mem0} {k : Nat} (e1 : a.1 = a'.1) (e2 : c.1 = c'.1) (h : inn m k x) : inn (a :: c :: m) k (a' :: c' :: x) := fun p hp => by
  rcases List.mem_cons.1 hp with rfl | hp
  · exact .inr ⟨a, List.mem_cons_self .., e1⟩
  · rcases List.mem_cons.1 hp with rfl | hp
    · exact .inr ⟨c, List.mem_cons_of_mem _ (List.mem_cons_self ..), e2⟩
    · rcases h p hp with q | ⟨q, hq, e⟩
      · exact .inl q
      · exact .inr ⟨q, List.mem_cons_of_mem _ (List.mem_cons_of_mem _ hq), e⟩
theorem upS_len {f j : Nat} {s : Hs} (h : j < s.l.length) : (upS f j s).l.length = s.l.length := (up_inv (Φ := fun _ => True) (n := s.l.length) (fun _ _ _ _ _ _ _ => trivial) f j s h rfl trivial).2
theorem dnS_len {f j : Nat} {s : Hs} (h : j < s.l.length) : (dnS f j s).l.length = s.l.length := (dn_inv (Φ := fun _ => True) (n := s.l.length) (fun _ _ _ _ _ _ _ => trivial) f j s h rfl trivial).2
set_option maxRecDepth 100000 in
theorem hlen_spec {most : Int} {n0 b : Nat} {s : Hs} {m : Mem0} (w : World) (h : HpM most n0 b s m) (hM : Mem w m) : Ret Try.prog 49 #[.pointer (some ⟨b, 0, none⟩)] w (fun u w' => u = .int .i64 (s.l.length : Nat) ∧ Ext w w') := by
 obtain ⟨ad, n, cap, bm, es, cl, ms, rfl, rfl, hs, he, hb, hbm⟩ := h
 refine Ret.enterM (l := [.pointer (some ⟨b, 0, none⟩)]) Try.func49 rfl Try.ntmps49 rfl (hpC b most ad s.l.length cap bm :: (bm, .map es cl) :: (ms ++ [])) (no) (by rw [List.append_nil]; exact hM) ?_
 refine wpM.seq (wpM.region ?_)
 refine LM.as rfl ?_
 refine LM.nil (QM.sub (e' := [(0, _)]) ⟨rfl, trivial⟩ (QM.then ?_))
 refine wpM.seq ?_
 refine wpM.seq (wpM.region ?_)
 refine LM.mv rfl ?_
 refine LM.val (ov_peql (by kernel_rfl) rfl rfl) ?_
 refine LM.nil (QM.sub (e' := [(0, _), (4, _)]) au9 (QM.then ?_))
 refine wpM.condF rfl ?_
 refine wpM.skip ?_
 refine QM.then (wpM.seq (wpM.region ?_))
 refine LM.mv rfl ?_
 refine LM.val (ov_nilCheck rfl) ?_
 refine LM.val (ov_field Try.underlying85 rfl Try.sizeOf83 rfl (k := 1) rfl rfl) ?_
 refine LM.rd (om_ld Try.isAgg83 rfl rfl) ?_
 refine LM.val (ov_len Try.underlying83 rfl) ?_
 refine LM.as rfl ?_
 refine LM.nil (QM.sub (e' := [(2, _)]) ⟨rfl, trivial⟩ (QM.then ?_))
 refine wpM.ret ?_
 refine QM.leave (.inl rfl) [.tmp 2] Try.results49 rfl ?_
 intro w' hm' hc' hg'
 exact ⟨rfl, hc'⟩
set_option maxRecDepth 100000 in
theorem hpush_spec {most : Int} {n0 b : Nat} {s : Hs} {m : Mem0} (x : Hi) (w : World) (h : HpM most n0 b s m) (hlen : s.l.length ≤ 4096) (hmost : most ≤ 4096) (hn0 : n0 ≤ w.heap.size) (hM : Mem w m) : Ret Try.prog 29 #[.pointer (some ⟨b, 0, none⟩), .agg (fKy x).toArray, .int .i64 x.x] w (Upd m (fun u m' => u = .int .i64 (hpE most s x) ∧ HpM most n0 b (hpX most s x) m') w) := by
 obtain ⟨ad, n, cap, bm, es, cl, ms, rfl, hn, hs, he, hb, hbm⟩ := h; have he1 := he.1
 refine Ret.enterM (l := [.pointer (some ⟨b, 0, none⟩), .agg (fKy x).toArray, .int .i64 x.x]) Try.func29 rfl Try.ntmps29 rfl (hpC b most ad n cap bm :: (bm, .map es cl) :: (ms ++ [])) ((inM (hpC b most ad n cap bm :: (bm, .map es cl) :: ms))) (by rw [List.append_nil]; exact hM) ?_
 refine wpM.seq (wpM.region ?_)
 refine LM.box rfl rfl (fun b4 hb4 => ?_)
 refine LM.as rfl ?_
 refine LM.nil (QM.sub (e' := [(0, _), (2, _), (4, _)]) au9 (QM.then ?_))
 refine wpM.seq ?_
 refine wpM.seq (wpM.region ?_)
 refine LM.mv rfl ?_
 refine LM.val (ov_peql (by kernel_rfl) rfl rfl) ?_
 refine LM.nil (QM.sub (e' := [(0, _), (2, _), (4, _), (10, _)]) au9 (QM.then ?_))
 refine wpM.condF rfl ?_
 refine wpM.skip ?_
 refine QM.then ?_
 refine wpM.seq ?_
 refine wpM.seq ?_
 refine wpM.draw [(0, 0), (1, 0), (2, 0), (3, 1), (4, 0), (5, 1), (6, 1), (7, 0), (8, 0), (9, 0), (10, 0), (11, 0)] (by kernel_rfl) (by kernel_rfl) ?_
 refine LD.val rfl rfl (ov_move rfl) ?_
 refine LD.val rfl rfl (ov_nilCheck rfl) ?_
 refine LD.val rfl rfl (ov_field Try.underlying85 rfl Try.sizeOf82 rfl (k := 2) rfl rfl) ?_
 refine LD.rd rfl rfl (om_ld Try.isAgg82 rfl rfl) ?_
 refine LD.val rfl rfl (ov_field Try.underlying68 rfl Try.sizeOf3 rfl (k := 1) rfl rfl) ?_
 refine LD.rd rfl rfl (om_ld Try.isAgg3 rfl rfl) ?_
 refine LD.rd rfl rfl (om_lkOk Try.underlying82 Try.underlying3 Try.zeroValue3 rfl rfl (by assumption) rfl rfl) ?_
 refine LD.val rfl rfl (ov_move rfl) ?_
 refine LD.val rfl rfl (ov_extract rfl rfl) ?_
 refine LD.val rfl rfl (ov_extract rfl rfl) ?_
 refine LD.val rfl rfl (ov_assign rfl) ?_
 refine LD.val rfl rfl (ov_assign rfl) ?_
 refine LD.nil ?_
 refine QM.sub (e' := [(0, _), (2, _), (4, _), (8, _)]) au9 (QM.then (wpM.seq (wpM.region ?_)))
 refine LM.mv rfl ?_
 refine LM.nil (QM.sub (e' := [(0, _), (2, _), (4, _), (21, _)]) au9 (QM.then ?_))
 first | refine wpM.condD rfl (fun h1 => ?_) (fun h1 => ?_) | refine wpM.condB rfl (fun h1 => ?_) (fun h1 => ?_)
 ·
  refine wpM.seq (wpM.region ?_)
  refine LM.as rfl ?_
  refine LM.nil (QM.sub (e' := [(6, _)]) ⟨rfl, trivial⟩ (QM.then ?_))
  refine wpM.ret ?_
  refine QM.then_ret ?_
  refine QM.leave (.inl rfl) [.tmp 6] Try.results29 rfl ?_
  intro w' hm' hc' hg'
  rw [show hpE most s x = 12 from if_pos h1, show hpX most s x = s from if_pos h1]; exact hp_leaf hn hs he hb hbm hm' (by (repeat' (first | exact SubM.nil _ | refine SubM.cons (by rfl) ?_ | refine SubM.app ?_))) hc' (inn_refl _ _)
 refine wpM.skip ?_
 refine QM.then ?_
 refine wpM.seq ?_
 refine wpM.seq ?_
 refine wpM.draw [(0, 0), (1, 0), (2, 0), (3, 1), (4, 0), (5, 0), (6, 0), (7, 0), (8, 1), (9, 0)] (by kernel_rfl) (by kernel_rfl) ?_
 refine LD.val rfl rfl (ov_move rfl) ?_
 refine LD.val rfl rfl (ov_nilCheck rfl) ?_
 refine LD.val rfl rfl (ov_field Try.underlying85 rfl Try.sizeOf83 rfl (k := 1) rfl rfl) ?_
 refine LD.rd rfl rfl (om_ld Try.isAgg83 rfl rfl) ?_
 refine LD.val rfl rfl (ov_len Try.underlying83 rfl) ?_
 refine LD.val rfl rfl (ov_move rfl) ?_
 refine LD.val rfl rfl (ov_nilCheck rfl) ?_
 refine LD.val rfl rfl (ov_field Try.underlying85 rfl Try.sizeOf3 rfl (k := 0) rfl rfl) ?_
 refine LD.rd rfl rfl (om_ld Try.isAgg3 rfl rfl) ?_
 refine LD.val rfl rfl (ov_geq rfl rfl) ?_
 refine LD.nil ?_
 refine QM.sub (e' := [(0, _), (2, _), (4, _), (31, _)]) au9 (QM.then ?_)
 refine wpM.condD rfl (fun h2 => ?_) (fun h2 => ?_)
 ·
  refine wpM.seq (wpM.region ?_)
  refine LM.as rfl ?_
  refine LM.nil (QM.sub (e' := [(6, _)]) ⟨rfl, trivial⟩ (QM.then ?_))
  refine wpM.ret ?_
  refine QM.then_ret ?_
  refine QM.leave (.inl rfl) [.tmp 6] Try.results29 rfl ?_
  intro w' hm' hc' hg'
  rw [show hpE most s x = 3 by (unfold hpE; rw [if_neg (by simpa using h1), if_pos (by omega)]), show hpX most s x = s by (unfold hpX; rw [if_neg (by simpa using h1), if_pos (by omega)])]; exact hp_leaf hn hs he hb hbm hm' (by (repeat' (first | exact SubM.nil _ | refine SubM.cons (by rfl) ?_ | refine SubM.app ?_))) hc' (inn_refl _ _)
 refine wpM.skip ?_
 refine QM.then ?_
 refine wpM.seq ?_
 refine wpM.draw [(0, 0), (1, 0), (2, 0), (3, 1), (4, 0), (5, 1), (6, 0), (7, 0), (8, 0), (9, 1), (10, 0), (11, 3)] (by kernel_rfl) (by kernel_rfl) ?_
 refine LD.val rfl rfl (ov_move rfl) ?_
 refine LD.val rfl rfl (ov_nilCheck rfl) ?_
 refine LD.val rfl rfl (ov_field Try.underlying85 rfl Try.sizeOf82 rfl (k := 2) rfl rfl) ?_
 refine LD.rd rfl rfl (om_ld Try.isAgg82 rfl rfl) ?_
 refine LD.val rfl rfl (ov_field Try.underlying68 rfl Try.sizeOf3 rfl (k := 1) rfl rfl) ?_
 refine LD.rd rfl rfl (om_ld Try.isAgg3 rfl rfl) ?_
 refine LD.val rfl rfl (ov_move rfl) ?_
 refine LD.val rfl rfl (ov_nilCheck rfl) ?_
 refine LD.val rfl rfl (ov_field Try.underlying85 rfl Try.sizeOf83 rfl (k := 1) rfl rfl) ?_
 refine LD.rd rfl rfl (om_ld Try.isAgg83 rfl rfl) ?_
 refine LD.val rfl rfl (ov_len Try.underlying83 rfl) ?_
 refine LD.tail rfl rfl ?_
 refine LM.mUS Try.underlying82 Try.underlying3 rfl rfl rfl (by assumption) (fun hlt => by first | exact inM_0 | exact inM_1 | exact absurd hlt (by omega)) (fun esu1 clu1 hesu1 => ?_)
 refine LM.nil ?_
 refine QM.qn ?_
 refine QM.sub (e' := [(0, _), (2, _), (4, _)]) au9 (QM.then ?_)
 refine wpM.seq ?_
 refine wpM.keep (hpC b most ad n cap bm :: (b4, .cells (fKy x).toArray 68 (0, 0)) :: []) (fun _ => True) (.one 0 0 (.one 1 0 (.one 2 0 (.one 3 0 (.one 4 1 (.one 5 1 (.one 6 0 (.one 7 0 (.one 8 2 (.one 9 2 (.one 10 0 (.one 11 0 (.last 12))))))))))))) (by kernel_rfl) (by kernel_rfl) au1 (fun _ _ => trivial) ?_
 refine KD.val rfl rfl (ov_move rfl) ?_
 refine KD.val rfl rfl (ov_move rfl) ?_
 refine KD.val rfl rfl (ov_nilCheck rfl) ?_
 refine KD.val rfl rfl (ov_field Try.underlying85 rfl Try.sizeOf83 rfl (k := 1) rfl rfl) ?_
 refine KD.rd rfl rfl (om_ld Try.isAgg83 rfl rfl) ?_
 refine KD.rd rfl rfl (om_ldW Try.isAgg68 Try.sizeOf68 rfl rfl) ?_
 refine KD.val rfl rfl (ov_move rfl) ?_
 refine KD.val rfl rfl (ov_build (cs := #[_, _, _]) rfl (by first | rfl | kernel_rfl)) ?_
 refine KD.one rfl ?_
 refine LM.single Try.underlying83 Try.sizeOf91 Try.zeroValue91 rfl rfl rfl rfl rfl (fun b51 hb51 => ?_)
 refine LM.nil ?_
 refine QM.one au1 (fun _ _ => trivial) ?_
 refine KD.one rfl ?_
 refine LM.app (a := x) Try.underlying83 Try.typeInfo91 rfl rfl rfl rfl rfl rfl rfl (by assumption) (by rfl) (by intro _; rfl) (by intro _ u hu; simp [fHi] at hu; (repeat (first | (rcases hu with rfl | hu) | subst hu | rfl))) (by first | exact Nat.le_refl _ | omega) (fun p hp hlt => by first | exact inM_hs p hp | exact absurd hlt (Nat.not_lt_of_le (Sl.ge (by assumption) p hp))) (by first | omega | (unfold maxLen; omega)) (by simp only [Try.t91]; omega) (fun ad52 n52 cap52 m52 hn52 hs52 hin52 => ?_)
 refine LM.nil ?_
 refine QM.one au1 (fun _ _ => trivial) ?_
 refine KD.val rfl rfl (ov_nilCheck rfl) ?_
 refine KD.val rfl rfl (ov_field Try.underlying85 rfl Try.sizeOf83 rfl (k := 1) rfl rfl) ?_
 refine KD.last rfl ?_
 refine LM.st Try.sizeOf83 rfl rfl rfl au5 rfl (fun hlt => by first | exact inM_0 | exact inM_1 | exact absurd hlt (by omega)) ?_
 refine LM.mem (SubM.mem (M' := hpC b most ad52 n52 cap52 bm :: (bm, .map esu1 clu1) :: (m52 ++ [])) au1) ?_
 refine LM.nil ?_
 refine QM.qn ?_
 refine QM.sub (e' := [(0, _)]) ⟨rfl, trivial⟩ (QM.then (wpM.seq (wpM.region ?_)))
 refine LM.mv rfl (LM.mv rfl ?_)
 refine LM.val (ov_nilCheck rfl) ?_
 refine LM.val (ov_field Try.underlying85 rfl Try.sizeOf83 rfl (k := 1) rfl rfl) ?_
 refine LM.rd (om_ld Try.isAgg83 rfl rfl) ?_
 refine LM.val (ov_len Try.underlying83 rfl) ?_
 refine LM.val (ov_sub64 rfl rfl (by omega)) ?_
 have hl52 : n52 = s.l.length + 1 := hs52.len.1.trans (by rw [List.length_append, List.length_singleton]); rw [show ((n52 : Nat) : Int) - 1 = ((s.l.length : Nat) : Int) by omega]
 refine LM.cU (oc_call (enters_fn Try.func47 (by kernel_rfl) rfl) rfl) (fun w hm hc hg => hup_spec s.l.length w hs52.len.1 hs52 hesu1 (by rw [List.length_append]; simp) (by rw [List.length_append, List.length_singleton]; omega) (hm.pick (hpC b most ad52 n52 cap52 bm :: (bm, .map esu1 clu1) :: m52))) (wlk_h rfl rfl hs52.wlk) (inn_S (inn_h (by rfl) (by rfl) hin52) inM_in) ?_
 rintro u62 m62 ⟨rfl, es2, cl2, m2, rfl, hs2, he2⟩ hin62
 refine LM.nil (QM.sub (e' := []) trivial (QM.then (wpM.seq (wpM.region ?_))))
 refine LM.as rfl ?_
 refine LM.nil (QM.sub (e' := [(6, _)]) ⟨rfl, trivial⟩ (QM.then ?_))
 refine wpM.ret ?_
 refine QM.leave (.inl rfl) [.tmp 6] Try.results29 rfl ?_
 intro w' hm' hc' hg'
 rw [show hpE most s x = 0 by (unfold hpE; rw [if_neg (by simpa using h1), if_neg (by omega)]), show hpX most s x = pushS s x by (unfold hpX; rw [if_neg (by simpa using h1), if_neg (by omega)])]; rw [hn] at hs2 he2; have k0 := mem_ne2 (SubM.mem (M' := hpC b most ad52 n52 cap52 bm :: (bm, .map es2 cl2) :: (m2 ++ [])) (by (repeat' (first | exact SubM.nil _ | refine SubM.cons (by rfl) ?_ | refine SubM.app ?_))) w' hm'); rw [List.append_nil] at k0; exact hp_leaf (s' := pushS s x) (by unfold pushS; rw [upS_len (by show _ < (_ ++ _ : List Hi).length; rw [List.length_append, List.length_singleton]; omega)]; show n52 = (_ ++ _ : List Hi).length; rw [List.length_append, List.length_singleton]; omega) hs2 he2 hb hbm hm' (by (repeat' (first | exact SubM.nil _ | refine SubM.cons (by rfl) ?_ | refine SubM.app ?_))) hc' (inn_trans hin52 (inn_tail2 (by rfl) (by rfl) hin62 k0.1 k0.2))
end Go.Eng
namespace Go.Eng
open Go Go.Proofs Go.RowKit
set_option maxRecDepth 100000 in
theorem hpeek_no {most : Int} {n0 b : Nat} {s : Hs} {m : Mem0} (w : World) (h : HpM most n0 b s m) (h0 : s.l.length = 0) (hM : Mem w m) : Ret Try.prog 56 #[.pointer (some ⟨b, 0, none⟩)] w (fun u w' => u = .tuple #[.agg #[U 0#64, .int .i64 0], .int .i64 0, .bool false] ∧ Ext w w') := by
 refine Ret.enterM (l := [.pointer (some ⟨b, 0, none⟩)]) Try.func56 rfl Try.ntmps56 rfl (m ++ []) (no) (by rw [List.append_nil]; exact hM) ?_
 refine wpM.seq (wpM.region ?_)
 refine LM.alloc Try.zeroValue68 rfl (fun b2 hb2 => ?_)
 refine LM.as rfl (LM.as rfl ?_)
 refine LM.nil (QM.sub (e' := [(0, _), (2, _)]) au9 (QM.then ?_))
 refine wpM.seq ?_
 refine wpM.seq (wpM.region ?_)
 refine LM.mv rfl ?_
 refine LM.callE (oc_call (enters_fn Try.func49 (by kernel_rfl) rfl) rfl) (fun w hm hc hg => hlen_spec w h (hm.pick m)) ?_
 refine LM.val (ov_eql rfl rfl) ?_
 refine LM.nil (QM.sub (e' := [(0, _), (2, _), (8, _)]) au9 (QM.then ?_))
 refine wpM.condD rfl (fun h1 => ?_) (fun h1 => ?_)
 ·
  refine wpM.seq (wpM.region ?_)
  refine LM.as rfl ?_
  refine LM.nil (QM.sub (e' := [(2, _), (5, _)]) au9 (QM.then (wpM.seq (wpM.region ?_))))
  refine LM.val (ov_build (cs := #[_, _]) rfl (by first | rfl | kernel_rfl)) ?_
  refine LM.mv rfl ?_
  refine LM.stW Try.sizeOf68 rfl rfl rfl rfl au7 (fun hlt => by first | exact inM_0 | exact inM_1 | exact absurd hlt (by omega)) ?_
  refine LM.as rfl (LM.as rfl ?_)
  refine LM.nil (QM.sub (e' := [(2, _), (3, _), (4, _)]) au9 (QM.then ?_))
  refine wpM.ret ?_
  refine QM.then_ret ?_
  refine QM.leaveCs (ds := ([])) (.inl rfl) [.cell 2 68, .tmp 3, .tmp 4] Try.results56 hd_nil (rc_w rfl Try.isAgg68 Try.sizeOf68 rfl (rc_tmp rfl (rc_tmp rfl rc_nil))) ?_
  intro w' hm' hc'
  exact ⟨rfl, hc'⟩
 omega
set_option maxRecDepth 100000 in
theorem hpeek_yes {most : Int} {n0 b : Nat} {s : Hs} {m : Mem0} (w : World) (h : HpM most n0 b s m) (h0 : 0 < s.l.length) (hM : Mem w m) : Ret Try.prog 56 #[.pointer (some ⟨b, 0, none⟩)] w (fun u w' => u = .tuple #[.agg (fKy (hg s.l 0)).toArray, .int .i64 (hg s.l 0).x, .bool true] ∧ Ext w w') := by
 have hH := h; obtain ⟨ad, n, cap, bm, es, cl, ms, rfl, hn, hs, he, hb, hbm⟩ := h
 refine Ret.enterM (l := [.pointer (some ⟨b, 0, none⟩)]) Try.func56 rfl Try.ntmps56 rfl (hpC b most ad n cap bm :: (bm, .map es cl) :: (ms ++ [])) (no) (by rw [List.append_nil]; exact hM) ?_
 refine wpM.seq (wpM.region ?_)
 refine LM.alloc Try.zeroValue68 rfl (fun b2 hb2 => ?_)
 refine LM.as rfl (LM.as rfl ?_)
 refine LM.nil (QM.sub (e' := [(0, _), (2, _)]) au9 (QM.then ?_))
 refine wpM.seq ?_
 refine wpM.seq (wpM.region ?_)
 refine LM.mv rfl ?_
 refine LM.callE (oc_call (enters_fn Try.func49 (by kernel_rfl) rfl) rfl) (fun w hm hc hg => hlen_spec w hH (hm.pick (hpC b most ad n cap bm :: (bm, .map es cl) :: ms))) ?_
 refine LM.val (ov_eql rfl rfl) ?_
 refine LM.nil (QM.sub (e' := [(0, _), (2, _), (8, _)]) au9 (QM.then ?_))
 refine wpM.condD rfl (fun h1 => ?_) (fun h1 => ?_)
 ·
  omega
 refine wpM.skip ?_
 refine QM.then ?_
 refine wpM.seq ?_
 refine wpM.keep (hpC b most ad n cap bm :: (ms ++ [])) (fun _ => True) (.one 0 0 (.one 1 0 (.one 2 0 (.one 3 1 (.one 4 0 (.one 5 0 (.one 6 1 (.one 7 0 (.one 8 0 (.one 9 0 (.one 10 1 (.one 11 0 (.one 12 0 (.one 13 1 (.one 14 2 (.one 15 0 (.one 16 0 .nil))))))))))))))))) (by kernel_rfl) (by kernel_rfl) au1 (fun _ _ => trivial) ?_
 refine KD.val rfl rfl (ov_move rfl) ?_
 refine KD.val rfl rfl (ov_nilCheck rfl) ?_
 refine KD.val rfl rfl (ov_field Try.underlying85 rfl Try.sizeOf83 rfl (k := 1) rfl rfl) ?_
 refine KD.rd rfl rfl (om_ld Try.isAgg83 rfl rfl) ?_
 refine KD.val rfl rfl (ov_idxSN (i := 0) au6 Try.underlying83 Try.sizeOf91 rfl rfl (by omega)) ?_
 refine KD.val rfl rfl (ov_field Try.underlying91 rfl Try.sizeOf68 rfl (k := 0) rfl rfl) ?_
 refine KD.rd rfl rfl (om_slP (i := 0) (j := 0) (vs := [_, _]) (by assumption) (by intro _; rfl) Try.isAgg68 Try.sizeOf68 rfl rfl au3 (by decide) rfl rfl) ?_
 refine KD.val rfl rfl (ov_move rfl) ?_
 refine KD.val rfl rfl (ov_nilCheck rfl) ?_
 refine KD.val rfl rfl (ov_field Try.underlying85 rfl Try.sizeOf83 rfl (k := 1) rfl rfl) ?_
 refine KD.rd rfl rfl (om_ld Try.isAgg83 rfl rfl) ?_
 refine KD.val rfl rfl (ov_idxSN (i := 0) au6 Try.underlying83 Try.sizeOf91 rfl rfl (by omega)) ?_
 refine KD.val rfl rfl (ov_field Try.underlying91 rfl Try.sizeOf3 rfl (k := 2) rfl rfl) ?_
 refine KD.rd rfl rfl (om_slE (i := 0) (j := 2) (by assumption) (by intro _; rfl) Try.isAgg3 rfl rfl au3 rfl (by rfl)) ?_
 refine KD.one rfl ?_
 refine LM.stW Try.sizeOf68 rfl rfl rfl rfl au7 (fun hlt => by first | exact inM_0 | exact inM_1 | exact absurd hlt (by omega)) ?_
 refine LM.nil ?_
 refine QM.one au1 (fun _ _ => trivial) ?_
 refine KD.val rfl rfl (ov_assign rfl) ?_
 refine KD.val rfl rfl (ov_assign rfl) ?_
 refine KD.nil ?_
 refine QM.sub (e' := [(2, _), (3, _), (4, _)]) au9 (QM.then ?_)
 refine wpM.ret ?_
 refine QM.leaveCs (ds := ([])) (.inl rfl) [.cell 2 68, .tmp 3, .tmp 4] Try.results56 hd_nil (rc_w rfl Try.isAgg68 Try.sizeOf68 rfl (rc_tmp rfl (rc_tmp rfl rc_nil))) ?_
 intro w' hm' hc'
 exact ⟨rfl, hc'⟩
set_option maxRecDepth 100000 in
theorem htake_spec {most : Int} {n0 b : Nat} {s : Hs} {m : Mem0} (i : Nat) (w : World) (h : HpM most n0 b s m) (hi : i < s.l.length) (hlen : s.l.length ≤ 4096) (hM : Mem w m) : Ret Try.prog 50 #[.pointer (some ⟨b, 0, none⟩), .int .i64 (i : Nat)] w (Upd m (fun u m' => u = .tuple #[.agg (fKy (hg s.l i)).toArray, .int .i64 (hg s.l i).x, .bool true] ∧ HpM most n0 b (tkS s i) m') w) := by
 obtain ⟨ad, n, cap, bm, es, cl, ms, rfl, hn, hs, he, hb, hbm⟩ := h; have he1 := he.1
 refine Ret.enterM (l := [.pointer (some ⟨b, 0, none⟩), .int .i64 (i : Nat)]) Try.func50 rfl Try.ntmps50 rfl (hpC b most ad n cap bm :: (bm, .map es cl) :: (ms ++ [])) ((inM (hpC b most ad n cap bm :: (bm, .map es cl) :: ms))) (by rw [List.append_nil]; exact hM) ?_
 refine wpM.seq (wpM.region ?_)
 refine LM.alloc Try.zeroValue68 rfl (fun b4 hb4 => ?_)
 refine LM.as rfl (LM.as rfl ?_)
 refine LM.nil (QM.sub (e' := [(0, _), (1, _), (4, _)]) au9 (QM.then (wpM.seq (wpM.region ?_))))
 refine LM.mv rfl ?_
 refine LM.val (ov_nilCheck rfl) ?_
 refine LM.val (ov_field Try.underlying85 rfl Try.sizeOf83 rfl (k := 1) rfl rfl) ?_
 refine LM.rd (om_ld Try.isAgg83 rfl rfl) ?_
 refine LM.mv rfl ?_
 refine LM.val (ov_idxSN au6 Try.underlying83 Try.sizeOf91 rfl rfl (by omega)) ?_
 refine LM.rd (om_slA (by assumption) (by intro _; rfl) Try.isAgg91 Try.sizeOf91 rfl au3) ?_
 refine LM.alloc Try.zeroValue91 rfl (fun b7 hb7 => ?_)
 refine LM.stW Try.sizeOf91 rfl rfl rfl rfl au7 (fun hlt => by first | exact inM_0 | exact inM_1 | exact absurd hlt (by omega)) ?_
 refine LM.nil (QM.sub (e' := [(0, _), (1, _), (4, _), (7, _)]) au9 (QM.then (wpM.seq (wpM.region ?_))))
 refine LM.mv rfl ?_
 refine LM.val (ov_nilCheck rfl) ?_
 refine LM.val (ov_field Try.underlying85 rfl Try.sizeOf83 rfl (k := 1) rfl rfl) ?_
 refine LM.rd (om_ld Try.isAgg83 rfl rfl) ?_
 refine LM.val (ov_len Try.underlying83 rfl) ?_
 refine LM.val (ov_sub64 rfl rfl (by omega)) ?_
 rw [show ((n : Nat) : Int) - 1 = ((s.l.length - 1 : Nat) : Int) by omega]
 refine LM.as rfl ?_
 refine LM.nil (QM.sub (e' := [(0, _), (1, _), (4, _), (7, _), (8, _)]) au9 (QM.then (wpM.seq (wpM.region ?_))))
 refine LM.mv rfl (LM.mv rfl (LM.mv rfl ?_))
 refine LM.cU (oc_call (enters_fn Try.func63 (by kernel_rfl) rfl) rfl) (fun w hm hc hg => hswap_spec i (s.l.length - 1) w hn hs he hi (by omega) (hm.pick (hpC b most ad n cap bm :: (bm, .map es cl) :: ms))) (wlk_h rfl rfl hs.wlk) (fun p hp _ => inM_in p hp) ?_
 rintro u25 m25 ⟨rfl, es2, cl2, m2, rfl, hs2, he2⟩ hin25
 refine LM.nil (QM.sub (e' := [(0, _), (1, _), (4, _), (7, _), (8, _)]) au9 (QM.then (wpM.seq (wpM.region ?_))))
 refine LM.know (fun w hm _ _ => mem_ne2 (hm.pick (hpC b most ad n cap bm :: (bm, .map es2 cl2) :: m2))) (fun hne2 => ?_); have hin25' := inn_tail2 (by rfl) (by rfl) hin25 hne2.1 hne2.2
 refine LM.mv rfl (LM.mv rfl ?_)
 refine LM.val (ov_nilCheck rfl) ?_
 refine LM.val (ov_field Try.underlying85 rfl Try.sizeOf83 rfl (k := 1) rfl rfl) ?_
 refine LM.rd (om_ld Try.isAgg83 rfl rfl) ?_
 refine LM.mv rfl ?_
 refine LM.val (ov_subHi Try.underlying83 Try.sizeOf91 rfl rfl (by omega) (by have := hs2.len; rw [swpL_len] at this; omega)) ?_
 refine LM.val (ov_nilCheck rfl) ?_
 refine LM.val (ov_field Try.underlying85 rfl Try.sizeOf83 rfl (k := 1) rfl rfl) ?_
 refine LM.st Try.sizeOf83 rfl rfl rfl au5 rfl (fun hlt => by first | exact inM_0 | exact inM_1 | exact absurd hlt (by omega)) ?_
 refine LM.mem (SubM.mem (M' := hpC b most ad (s.l.length - 1) cap bm :: (bm, .map es2 cl2) :: (b7, .cells (fHi (hg s.l i)).toArray 91 (0, 0)) :: (b4, .cells #[U 0#64, .int .i64 0] 68 (0, 0)) :: (m2 ++ [])) au1) ?_
 refine LM.nil (QM.sub (e' := [(0, _), (1, _), (4, _), (7, _), (8, _)]) au9 (QM.then ?_))
 refine wpM.seq ?_
 refine wpM.draw [(0, 0), (1, 0), (2, 0), (3, 1), (4, 0), (5, 0), (6, 1), (7, 3)] (by kernel_rfl) (by kernel_rfl) ?_
 refine LD.val rfl rfl (ov_move rfl) ?_
 refine LD.val rfl rfl (ov_nilCheck rfl) ?_
 refine LD.val rfl rfl (ov_field Try.underlying85 rfl Try.sizeOf82 rfl (k := 2) rfl rfl) ?_
 refine LD.rd rfl rfl (om_ld Try.isAgg82 rfl rfl) ?_
 refine LD.val rfl rfl (ov_field Try.underlying91 rfl Try.sizeOf68 rfl (k := 0) rfl rfl) ?_
 refine LD.val rfl rfl (ov_field Try.underlying68 rfl Try.sizeOf3 rfl (k := 1) rfl rfl) ?_
 refine LD.rd rfl rfl (om_ld Try.isAgg3 rfl rfl) ?_
 refine LD.tail rfl rfl ?_
 refine LM.mDS Try.underlying82 Try.underlying3 rfl rfl (by assumption) (fun hlt => by first | exact inM_0 | exact inM_1 | exact absurd hlt (by omega)) (fun esu1 clu1 hesu1 => ?_)
 refine LM.nil ?_
 refine QM.qn ?_
 refine QM.sub (e' := [(0, _), (1, _), (4, _), (7, _), (8, _)]) au9 (QM.then ?_)
 refine wpM.seq ?_
 refine wpM.seq (wpM.region ?_)
 refine LM.mv rfl (LM.mv rfl ?_)
 refine LM.val (ov_lss rfl rfl) ?_
 refine LM.nil (QM.sub (e' := [(0, _), (1, _), (4, _), (7, _), (44, _)]) au9 (QM.then ?_))
 refine wpM.condD rfl (fun h1 => ?_) (fun h1 => ?_)
 ·
  have hs4 : Sl fHi 91 3 n0 (cutS s i).l (.slice ad (s.l.length - 1) cap) m2 := Sl.preH hs2 (by intro _; rfl) (by rw [swpL_len]; omega); have he4 : EnsS .i64 esu1 clu1 (cutS s i).at_ := hesu1; have hcl := cutS_len hi; have hdl : (dnS (cutS s i).l.length i ⟨(cutS s i).l, (cutS s i).at_⟩).l.length = (cutS s i).l.length := dnS_len (f := (cutS s i).l.length) (s := cutS s i) (j := i) (by omega)
  refine wpM.seq (wpM.region ?_)
  refine LM.mv rfl (LM.mv rfl ?_)
  refine LM.cU (oc_call (enters_fn Try.func65 (by kernel_rfl) rfl) rfl) (fun w hm hc hg => hdown_spec i w hcl.symm hs4 he4 (by omega) (by omega) (hm.pick (hpC b most ad (s.l.length - 1) cap bm :: (bm, .map esu1 clu1) :: m2))) (wlk_h rfl rfl hs4.wlk) (inn_S (inn_h (by rfl) (by rfl) hin25') inM_in) ?_
  rintro u47 m47 ⟨rfl, es5, cl5, m5, rfl, hs5, he5⟩ hin47
  refine LM.nil (QM.sub (e' := [(0, _), (1, _), (4, _), (7, _)]) au9 (QM.then (wpM.region ?_)))
  refine LM.mv rfl (LM.mv rfl ?_)
  refine LM.cU (oc_call (enters_fn Try.func47 (by kernel_rfl) rfl) rfl) (fun w hm hc hg => hup_spec i w (by omega) hs5 he5 (by omega) (by omega) (hm.pick (hpC b most ad (s.l.length - 1) cap bm :: (bm, .map es5 cl5) :: m5))) (wlk_h rfl rfl hs5.wlk) (inn_S (inn_trans (inn_h (by rfl) (by rfl) hin25') hin47) inM_in) ?_
  rintro u50 m50 ⟨rfl, es6, cl6, m6, rfl, hs6, he6⟩ hin50
  refine LM.nil (QM.sub (e' := [(4, _), (7, _)]) au9 (QM.then ?_))
  refine wpM.seq ?_
  refine wpM.keep ((b7, .cells (fHi (hg s.l i)).toArray 91 (0, 0)) :: []) (fun _ => True) (.one 0 0 (.one 1 1 (.one 2 0 (.one 3 1 (.one 4 2 (.one 5 0 (.one 6 0 .nil))))))) (by kernel_rfl) (by kernel_rfl) au1 (fun _ _ => trivial) ?_
  refine KD.val rfl rfl (ov_field Try.underlying91 rfl Try.sizeOf68 rfl (k := 0) rfl rfl) ?_
  first | refine KD.rd rfl rfl (om_ldW Try.isAgg68 Try.sizeOf68 rfl rfl) ?_ | refine KD.rd rfl rfl (om_ldA Try.isAgg68 Try.sizeOf68 rfl (vs := [_, _]) rfl ⟨rfl, rfl, trivial⟩) ?_
  refine KD.val rfl rfl (ov_field Try.underlying91 rfl Try.sizeOf3 rfl (k := 2) rfl rfl) ?_
  refine KD.rd rfl rfl (om_ld Try.isAgg3 rfl rfl) ?_
  refine KD.one rfl ?_
  refine LM.stW Try.sizeOf68 rfl rfl rfl rfl au7 (fun hlt => by first | exact inM_0 | exact inM_1 | exact absurd hlt (by omega)) ?_
  refine LM.nil ?_
  refine QM.one au1 (fun _ _ => trivial) ?_
  refine KD.val rfl rfl (ov_assign rfl) ?_
  refine KD.val rfl rfl (ov_assign rfl) ?_
  refine KD.nil ?_
  refine QM.sub (e' := [(4, _), (5, _), (6, _)]) au9 (QM.then ?_)
  refine wpM.ret ?_
  refine QM.leaveCs (ds := ([])) (.inl rfl) [.cell 4 68, .tmp 5, .tmp 6] Try.results50 hd_nil (rc_w rfl Try.isAgg68 Try.sizeOf68 rfl (rc_tmp rfl (rc_tmp rfl rc_nil))) ?_
  intro w' hm' hc'
  have hX : tkS s i = upS i i (dnS (cutS s i).l.length i (cutS s i)) := (by unfold tkS; rw [if_pos (by omega), hcl]); rw [hX]; have hl7 : (upS i i (dnS (cutS s i).l.length i ⟨(cutS s i).l, (cutS s i).at_⟩)).l.length = _ := upS_len (f := i) (j := i) (by omega); have k0 := mem_ne2 (SubM.mem (M' := hpC b most ad (s.l.length - 1) cap bm :: (bm, .map es6 cl6) :: (m6 ++ [])) (by (repeat' (first | exact SubM.nil _ | refine SubM.cons (by rfl) ?_ | refine SubM.app ?_))) w' hm'); rw [List.append_nil] at k0; exact hp_leaf (s' := upS i i (dnS (cutS s i).l.length i (cutS s i))) (n' := s.l.length - 1) (by rw [hl7, hdl, hcl]) hs6 he6 hb hbm hm' (by (repeat' (first | exact SubM.nil _ | refine SubM.cons (by rfl) ?_ | refine SubM.app ?_))) hc' (inn_tail2 (by rfl) (by rfl) (inn_trans (inn_trans (inn_h (by rfl) (by rfl) hin25') hin47) hin50) k0.1 k0.2)
 have hs4 : Sl fHi 91 3 n0 (cutS s i).l (.slice ad (s.l.length - 1) cap) m2 := Sl.preH hs2 (by intro _; rfl) (by rw [swpL_len]; omega); have he4 : EnsS .i64 esu1 clu1 (cutS s i).at_ := hesu1
 refine wpM.skip ?_
 refine QM.then ?_
 refine wpM.seq ?_
 refine wpM.keep ((b7, .cells (fHi (hg s.l i)).toArray 91 (0, 0)) :: []) (fun _ => True) (.one 0 0 (.one 1 1 (.one 2 0 (.one 3 1 (.one 4 2 (.one 5 0 (.one 6 0 .nil))))))) (by kernel_rfl) (by kernel_rfl) au1 (fun _ _ => trivial) ?_
 refine KD.val rfl rfl (ov_field Try.underlying91 rfl Try.sizeOf68 rfl (k := 0) rfl rfl) ?_
 first | refine KD.rd rfl rfl (om_ldW Try.isAgg68 Try.sizeOf68 rfl rfl) ?_ | refine KD.rd rfl rfl (om_ldA Try.isAgg68 Try.sizeOf68 rfl (vs := [_, _]) rfl ⟨rfl, rfl, trivial⟩) ?_
 refine KD.val rfl rfl (ov_field Try.underlying91 rfl Try.sizeOf3 rfl (k := 2) rfl rfl) ?_
 refine KD.rd rfl rfl (om_ld Try.isAgg3 rfl rfl) ?_
 refine KD.one rfl ?_
 refine LM.stW Try.sizeOf68 rfl rfl rfl rfl au7 (fun hlt => by first | exact inM_0 | exact inM_1 | exact absurd hlt (by omega)) ?_
 refine LM.nil ?_
 refine QM.one au1 (fun _ _ => trivial) ?_
 refine KD.val rfl rfl (ov_assign rfl) ?_
 refine KD.val rfl rfl (ov_assign rfl) ?_
 refine KD.nil ?_
 refine QM.sub (e' := [(4, _), (5, _), (6, _)]) au9 (QM.then ?_)
 refine wpM.ret ?_
 refine QM.leaveCs (ds := ([])) (.inl rfl) [.cell 4 68, .tmp 5, .tmp 6] Try.results50 hd_nil (rc_w rfl Try.isAgg68 Try.sizeOf68 rfl (rc_tmp rfl (rc_tmp rfl rc_nil))) ?_
 intro w' hm' hc'
 have hX : tkS s i = cutS s i := (by unfold tkS; rw [if_neg (by omega)]); rw [hX]; exact hp_leaf (s' := cutS s i) (n' := s.l.length - 1) (cutS_len hi).symm hs4 he4 hb hbm hm' (by (repeat' (first | exact SubM.nil _ | refine SubM.cons (by rfl) ?_ | refine SubM.app ?_))) hc' hin25'
end Go.Eng
namespace Go.Eng
open Go Go.Proofs Go.RowKit
set_option maxRecDepth 100000 in
theorem arDrop_spec {n0 b : Nat} {a : Ar} {m : Mem0} (p : Int) (w : World) (h : ArM n0 b a m) (hD : AWf (dropA a p)) (hM : Mem w m) : Ret Try.prog 73 #[.pointer (some ⟨b, 0, none⟩), .int .i64 p] w (Upd m (fun u m' => u = .tuple #[.agg (fLk (getA a p)).toArray, .bool (isA a p)] ∧ ArM n0 b (dropA a p) m') w) := by
 have hA := h; obtain ⟨hw, ad, n, cap, ms, rfl, hn, hs, hb⟩ := h; have hlen := hw.len; have hnn := hw.n; have hff := hw.free
 refine Ret.enterM (l := [.pointer (some ⟨b, 0, none⟩), .int .i64 p]) Try.func73 rfl Try.ntmps73 rfl (arC b a.most ad n cap a.free a.n :: (ms ++ [])) ((inM (arC b a.most ad n cap a.free a.n :: ms))) (by rw [List.append_nil]; exact hM) ?_
 refine wpM.seq (wpM.region ?_)
 refine LM.alloc Try.zeroValue98 rfl (fun b4 hb4 => ?_)
 refine LM.as rfl ?_
 refine LM.nil (QM.sub (e' := [(0, _), (1, _), (4, _)]) au9 (QM.then (wpM.seq (wpM.region ?_))))
 refine LM.mv rfl (LM.mv rfl ?_)
 refine LM.callE (oc_call (enters_fn Try.func54 (by kernel_rfl) rfl) rfl) (fun w hm hc hg => arGet_spec p w hA (by have h9 := hm.pick (arC b a.most ad n cap a.free a.n :: (ms ++ [])); rw [List.append_nil] at h9; exact h9)) ?_
 refine LM.mv rfl ?_
 refine LM.val (ov_extract rfl rfl) ?_
 refine LM.val (ov_extract rfl rfl) ?_
 refine LM.alloc Try.zeroValue98 rfl (fun b6 hb6 => ?_)
 refine LM.stW Try.sizeOf98 rfl rfl rfl rfl au7 (fun hlt => by first | exact inM_0 | exact inM_1 | exact absurd hlt (by omega)) ?_
 refine LM.as rfl ?_
 refine LM.nil (QM.sub (e' := [(0, _), (1, _), (4, _), (6, _), (7, _)]) au9 (QM.then ?_))
 refine wpM.seq ?_
 refine wpM.seq (wpM.region ?_)
 refine LM.mv rfl ?_
 refine LM.nil (QM.sub (e' := [(0, _), (1, _), (4, _), (6, _), (7, _), (14, _)]) au9 (QM.then ?_))
 first | refine wpM.condD rfl (fun h1 => ?_) (fun h1 => ?_) | refine wpM.condB rfl (fun h1 => ?_) (fun h1 => ?_)
 ·
  have hon : isA a p = true := h1; have hpos := isA_iff.1 hon; obtain ⟨i, rfl⟩ : ∃ i : Nat, p = i := ⟨p.toNat, by omega⟩; have hi : i < a.sl.length := (by omega); have hX : dropA a (i : Int) = { a with sl := a.sl.set i ⟨default, false, a.free⟩, free := (i : Int) + 1, n := a.n - 1 } := if_pos hon; have hn1 := hD.n; rw [hX] at hn1; have hn2 : 0 ≤ a.n - 1 ∧ a.n - 1 ≤ 4096 := hn1
  refine wpM.seq ?_
  refine wpM.draw [(0, 0), (1, 0), (2, 0), (3, 1), (4, 0), (5, 0), (6, 0), (7, 0), (8, 1), (9, 0), (10, 0), (11, 3)] (by kernel_rfl) (by kernel_rfl) ?_
  refine LD.val rfl rfl (ov_move rfl) ?_
  refine LD.val rfl rfl (ov_nilCheck rfl) ?_
  refine LD.val rfl rfl (ov_field Try.underlying117 rfl Try.sizeOf115 rfl (k := 1) rfl rfl) ?_
  refine LD.rd rfl rfl (om_ld Try.isAgg115 rfl rfl) ?_
  refine LD.val rfl rfl (ov_move rfl) ?_
  refine LD.val rfl rfl (ov_move rfl) ?_
  refine LD.val rfl rfl (ov_nilCheck rfl) ?_
  refine LD.val rfl rfl (ov_field Try.underlying117 rfl Try.sizeOf3 rfl (k := 2) rfl rfl) ?_
  refine LD.rd rfl rfl (om_ld Try.isAgg3 rfl rfl) ?_
  refine LD.val rfl rfl (ov_build (cs := #[.int .i64 0, .int .i64 0, .int .u64 0, .int .i64 0, .int .i64 0, .int .i64 0, .bool false, .int .i64 a.free]) rfl (by kernel_rfl)) ?_
  refine LD.val rfl rfl (ov_idxSN au6 Try.underlying115 Try.sizeOf114 rfl rfl (by omega)) ?_
  refine LD.tail rfl rfl ?_
  refine LM.stS ((⟨default, false, a.free⟩ : St)) (j := 0) (i := i) (by assumption) (by intro _; rfl) Try.sizeOf114 rfl rfl rfl au3 rfl (by decide) (by rfl) rfl (fun p hp hlt => by first | exact ⟨p, List.mem_cons_of_mem _ hp, rfl⟩ | exact absurd hlt (Nat.not_lt_of_le (Sl.ge (by assumption) p hp))) (fun ms2 hss2 hmm2 => ?_)
  refine LM.nil ?_
  refine QM.qn ?_
  refine QM.sub (e' := [(0, _), (1, _), (4, _), (6, _), (7, _)]) au9 (QM.then (wpM.seq (wpM.region ?_)))
  refine LM.mv rfl (LM.mv rfl ?_)
  refine LM.val (ov_add64 rfl rfl (by omega)) ?_
  refine LM.val (ov_nilCheck rfl) ?_
  refine LM.val (ov_field Try.underlying117 rfl Try.sizeOf3 rfl (k := 2) rfl rfl) ?_
  refine LM.st Try.sizeOf3 rfl rfl rfl au5 rfl (fun hlt => by first | exact inM_0 | exact inM_1 | exact absurd hlt (by omega)) ?_
  refine LM.nil (QM.sub (e' := [(0, _), (4, _), (6, _), (7, _)]) au9 (QM.then (wpM.region ?_)))
  refine LM.mv rfl ?_
  refine LM.val (ov_nilCheck rfl) ?_
  refine LM.val (ov_field Try.underlying117 rfl Try.sizeOf3 rfl (k := 3) rfl rfl) ?_
  refine LM.rd (om_ld Try.isAgg3 rfl rfl) ?_
  refine LM.val (ov_sub64 rfl rfl (by omega)) ?_
  refine LM.val (ov_nilCheck rfl) ?_
  refine LM.val (ov_field Try.underlying117 rfl Try.sizeOf3 rfl (k := 3) rfl rfl) ?_
  refine LM.st Try.sizeOf3 rfl rfl rfl au5 rfl (fun hlt => by first | exact inM_0 | exact inM_1 | exact absurd hlt (by omega)) ?_
  refine LM.nil (QM.sub (e' := [(4, _), (6, _), (7, _)]) au9 (QM.then (wpM.seq (wpM.region ?_))))
  refine LM.rd (om_ldW Try.isAgg98 Try.sizeOf98 rfl rfl) ?_
  refine LM.mv rfl ?_
  refine LM.stW Try.sizeOf98 rfl rfl rfl rfl au7 (fun hlt => by first | exact inM_0 | exact inM_1 | exact absurd hlt (by omega)) ?_
  refine LM.as rfl ?_
  refine LM.nil (QM.sub (e' := [(4, _), (5, _)]) au9 (QM.then ?_))
  refine wpM.ret ?_
  refine QM.leaveCs (ds := ([])) (.inl rfl) [.cell 4 98, .tmp 5] Try.results73 hd_nil (rc_w rfl Try.isAgg98 Try.sizeOf98 rfl (rc_tmp rfl rc_nil)) ?_
  intro w' hm' hc'
  rw [hX] at hD ⊢; exact arm_leaf hD (by show n = (List.set _ _ _).length; rw [List.length_set]; exact hn) hss2 hb hm' (by (repeat' (first | exact SubM.nil _ | refine SubM.cons (by rfl) ?_ | refine SubM.app ?_))) hc' (inn_of hmm2)
 refine wpM.skip ?_
 refine QM.then (wpM.seq (wpM.region ?_))
 refine LM.rd (om_ldW Try.isAgg98 Try.sizeOf98 rfl rfl) ?_
 refine LM.mv rfl ?_
 refine LM.stW Try.sizeOf98 rfl rfl rfl rfl au7 (fun hlt => by first | exact inM_0 | exact inM_1 | exact absurd hlt (by omega)) ?_
 refine LM.as rfl ?_
 refine LM.nil (QM.sub (e' := [(4, _), (5, _)]) au9 (QM.then ?_))
 refine wpM.ret ?_
 refine QM.leaveCs (ds := ([])) (.inl rfl) [.cell 4 98, .tmp 5] Try.results73 hd_nil (rc_w rfl Try.isAgg98 Try.sizeOf98 rfl (rc_tmp rfl rc_nil)) ?_
 intro w' hm' hc'
 have hoff : isA a p = false := (by simpa using h1); rw [show dropA a p = a from if_neg (by rw [hoff]; simp)]; exact arm_leaf hw hn hs hb hm' (by (repeat' (first | exact SubM.nil _ | refine SubM.cons (by rfl) ?_ | refine SubM.app ?_))) hc' (inn_refl _ _)
set_option maxRecDepth 100000 in
theorem arPut_spec {n0 b : Nat} {a : Ar} {m : Mem0} (v : Lk) (w : World) (h : ArM n0 b a m) (hP : AWf (putA a v)) (hn0 : n0 ≤ w.heap.size) (hM : Mem w m) : Ret Try.prog 60 #[.pointer (some ⟨b, 0, none⟩), .agg (fLk v).toArray] w (Upd m (fun u m' => u = .tuple #[.int .i64 (putP a), .int .i64 (putE a)] ∧ ArM n0 b (putA a v) m') w) := by
 have hA := h; obtain ⟨hw, ad, n, cap, ms, rfl, hn, hs, hb⟩ := h; have hlen := hw.len; have hnn := hw.n; have hff := hw.free
 refine Ret.enterM (l := [.pointer (some ⟨b, 0, none⟩), .agg (fLk v).toArray]) Try.func60 rfl Try.ntmps60 rfl (arC b a.most ad n cap a.free a.n :: (ms ++ [])) ((inM (arC b a.most ad n cap a.free a.n :: ms))) (by rw [List.append_nil]; exact hM) ?_
 refine wpM.seq (wpM.region ?_)
 refine LM.box rfl rfl (fun b3 hb3 => ?_)
 refine LM.as rfl (LM.as rfl ?_)
 refine LM.nil (QM.sub (e' := [(0, _), (3, _)]) au9 (QM.then ?_))
 refine wpM.seq ?_
 refine wpM.block ?_
 refine wpM.seq (wpM.region ?_)
 refine LM.mv rfl ?_
 refine LM.val (ov_peql (by kernel_rfl) rfl rfl) ?_
 refine LM.as rfl ?_
 refine LM.nil (QM.sub (e' := [(0, _), (3, _), (7, _)]) au9 (QM.then ?_))
 refine wpM.condF rfl ?_
 refine wpM.seq ?_
 refine wpM.draw [(0, 0), (1, 0), (2, 0), (3, 1), (4, 0), (5, 0), (6, 0), (7, 1), (8, 0), (9, 0)] (by kernel_rfl) (by kernel_rfl) ?_
 refine LD.val rfl rfl (ov_move rfl) ?_
 refine LD.val rfl rfl (ov_nilCheck rfl) ?_
 refine LD.val rfl rfl (ov_field Try.underlying117 rfl Try.sizeOf3 rfl (k := 3) rfl rfl) ?_
 refine LD.rd rfl rfl (om_ld Try.isAgg3 rfl rfl) ?_
 refine LD.val rfl rfl (ov_move rfl) ?_
 refine LD.val rfl rfl (ov_nilCheck rfl) ?_
 refine LD.val rfl rfl (ov_field Try.underlying117 rfl Try.sizeOf3 rfl (k := 0) rfl rfl) ?_
 refine LD.rd rfl rfl (om_ld Try.isAgg3 rfl rfl) ?_
 refine LD.val rfl rfl (ov_geq rfl rfl) ?_
 refine LD.val rfl rfl (ov_assign rfl) ?_
 refine LD.nil ?_
 refine QM.sub (e' := [(0, _), (3, _), (10, _)]) au9 (QM.then ?_)
 refine wpM.condD rfl (fun h1 => ?_) (fun h1 => ?_)
 ·
  have hX : putA a v = a := if_pos h1; have hXp : putP a = 0 := if_pos h1; have hXe : putE a = 3 := if_pos h1
  refine wpM.seq (wpM.region ?_)
  refine LM.as rfl (LM.as rfl ?_)
  refine LM.nil (QM.sub (e' := [(4, _), (5, _)]) au9 (QM.then ?_))
  refine wpM.ret ?_
  refine QM.block_ret ?_
  refine QM.then_ret ?_
  refine QM.leave (.inl rfl) [.tmp 4, .tmp 5] Try.results60 rfl ?_
  intro w' hm' hc' hg'
  rw [hX, hXp, hXe]; exact arm_leaf hw hn hs hb hm' (by (repeat' (first | exact SubM.nil _ | refine SubM.cons (by rfl) ?_ | refine SubM.app ?_))) hc' (inn_refl _ _)
 have hXe : putE a = 0 := if_neg h1
 refine wpM.skip ?_
 refine QM.block_normal ?_
 refine QM.then (wpM.seq (wpM.region ?_))
 refine LM.mv rfl ?_
 refine LM.val (ov_nilCheck rfl) ?_
 refine LM.val (ov_field Try.underlying117 rfl Try.sizeOf3 rfl (k := 3) rfl rfl) ?_
 refine LM.rd (om_ld Try.isAgg3 rfl rfl) ?_
 refine LM.val (ov_add64 rfl rfl (by omega)) ?_
 refine LM.val (ov_nilCheck rfl) ?_
 refine LM.val (ov_field Try.underlying117 rfl Try.sizeOf3 rfl (k := 3) rfl rfl) ?_
 refine LM.st Try.sizeOf3 rfl rfl rfl au5 rfl (fun hlt => by first | exact inM_0 | exact inM_1 | exact absurd hlt (by omega)) ?_
 refine LM.nil (QM.sub (e' := [(0, _), (3, _)]) au9 (QM.then ?_))
 refine wpM.seq ?_
 refine wpM.seq (wpM.region ?_)
 refine LM.mv rfl ?_
 refine LM.val (ov_nilCheck rfl) ?_
 refine LM.val (ov_field Try.underlying117 rfl Try.sizeOf3 rfl (k := 2) rfl rfl) ?_
 refine LM.rd (om_ld Try.isAgg3 rfl rfl) ?_
 refine LM.val (ov_eql rfl rfl) ?_
 refine LM.nil (QM.sub (e' := [(0, _), (3, _), (31, _)]) au9 (QM.then ?_))
 refine wpM.condD rfl (fun h2 => ?_) (fun h2 => ?_)
 ·
  have hX : putA a v = { a with sl := a.sl ++ [⟨v, true, 0⟩], n := a.n + 1 } := (by unfold putA; rw [if_neg h1, if_pos h2]); have hXp : putP a = (a.sl.length : Nat) := (by unfold putP; rw [if_neg h1, if_pos h2])
  refine wpM.seq ?_
  refine wpM.keep (arC b a.most ad n cap a.free (a.n + 1) :: (b3, .cells (fLk v).toArray 98 (0, 0)) :: []) (fun _ => True) (.one 0 0 (.one 1 0 (.one 2 0 (.one 3 0 (.one 4 1 (.one 5 1 (.one 6 0 (.one 7 2 (.one 8 2 (.one 9 0 (.one 10 0 (.last 11)))))))))))) (by kernel_rfl) (by kernel_rfl) au1 (fun _ _ => trivial) ?_
  refine KD.val rfl rfl (ov_move rfl) ?_
  refine KD.val rfl rfl (ov_move rfl) ?_
  refine KD.val rfl rfl (ov_nilCheck rfl) ?_
  refine KD.val rfl rfl (ov_field Try.underlying117 rfl Try.sizeOf115 rfl (k := 1) rfl rfl) ?_
  refine KD.rd rfl rfl (om_ld Try.isAgg115 rfl rfl) ?_
  refine KD.rd rfl rfl (om_ldW Try.isAgg98 Try.sizeOf98 rfl rfl) ?_
  refine KD.val rfl rfl (ov_build (cs := #[.int .i64 v.v.who, .int .i64 v.v.key, U v.v.til, .int .i64 v.tk, .int .i64 v.prev, .int .i64 v.next, .bool true, .int .i64 0]) rfl (by kernel_rfl)) ?_
  refine KD.one rfl ?_
  refine LM.single Try.underlying115 Try.sizeOf114 Try.zeroValue114 rfl rfl rfl rfl rfl (fun b39 hb39 => ?_)
  refine LM.nil ?_
  refine QM.one au1 (fun _ _ => trivial) ?_
  refine KD.one rfl ?_
  refine LM.app (a := (⟨v, true, 0⟩ : St)) Try.underlying115 Try.typeInfo114 rfl rfl rfl rfl rfl rfl rfl (by assumption) (by rfl) (by intro _; rfl) (by intro _ u hu; simp [fSt] at hu; (repeat (first | (rcases hu with rfl | hu) | subst hu | rfl))) (by first | exact Nat.le_refl _ | omega) (fun p hp hlt => by first | exact ⟨p, List.mem_cons_of_mem _ hp, rfl⟩ | exact absurd hlt (Nat.not_lt_of_le (Sl.ge (by assumption) p hp))) (by first | omega | (unfold maxLen; omega)) (by simp only [Try.t114]; omega) (fun ad40 n40 cap40 m40 hn40 hs40 hin40 => ?_)
  refine LM.nil ?_
  refine QM.one au1 (fun _ _ => trivial) ?_
  refine KD.val rfl rfl (ov_nilCheck rfl) ?_
  refine KD.val rfl rfl (ov_field Try.underlying117 rfl Try.sizeOf115 rfl (k := 1) rfl rfl) ?_
  refine KD.last rfl ?_
  refine LM.st Try.sizeOf115 rfl rfl rfl au5 rfl (fun hlt => by first | exact inM_0 | exact inM_1 | exact absurd hlt (by omega)) ?_
  refine LM.nil ?_
  refine QM.qn ?_
  refine QM.sub (e' := [(0, _)]) ⟨rfl, trivial⟩ (QM.then (wpM.seq (wpM.region ?_)))
  refine LM.mv rfl ?_
  refine LM.val (ov_nilCheck rfl) ?_
  refine LM.val (ov_field Try.underlying117 rfl Try.sizeOf115 rfl (k := 1) rfl rfl) ?_
  refine LM.rd (om_ld Try.isAgg115 rfl rfl) ?_
  refine LM.val (ov_len Try.underlying115 rfl) ?_
  refine LM.val (ov_sub64 rfl rfl (by omega)) ?_
  refine LM.as rfl (LM.as rfl ?_)
  refine LM.nil (QM.sub (e' := [(4, _), (5, _)]) au9 (QM.then ?_))
  refine wpM.ret ?_
  refine QM.then_ret ?_
  refine QM.leave (.inl rfl) [.tmp 4, .tmp 5] Try.results60 rfl ?_
  intro w' hm' hc' hg'
  rw [hXp, hXe, show ((a.sl.length : Nat) : Int) = ((n40 : Nat) : Int) - 1 by omega]; rw [hX] at hP ⊢; exact arm_leaf hP (by show n40 = (_ ++ _ : List St).length; rw [List.length_append]; omega) hs40 hb hm' (by (repeat' (first | exact SubM.nil _ | refine SubM.cons (by rfl) ?_ | refine SubM.app ?_))) hc' hin40
 obtain ⟨i, hi⟩ : ∃ i : Nat, a.free - 1 = i := ⟨(a.free - 1).toNat, by omega⟩; have hil : i < a.sl.length := (by omega); have hit : (a.free - 1).toNat = i := (by omega); have hX : putA a v = { a with sl := a.sl.set i ⟨v, true, 0⟩, free := (a.sl.getD i default).nx, n := a.n + 1 } := (by unfold putA sg; rw [if_neg h1, if_neg h2, hit]); have hXp : putP a = (i : Nat) := (by unfold putP; rw [if_neg h1, if_neg h2, hi])
 refine wpM.skip ?_
 refine QM.then (wpM.seq (wpM.region ?_))
 refine LM.mv rfl ?_
 refine LM.val (ov_nilCheck rfl) ?_
 refine LM.val (ov_field Try.underlying117 rfl Try.sizeOf3 rfl (k := 2) rfl rfl) ?_
 refine LM.rd (om_ld Try.isAgg3 rfl rfl) ?_
 refine LM.val (ov_sub64 rfl rfl (by omega)) ?_
 rw [hi]
 refine LM.as rfl ?_
 refine LM.nil (QM.sub (e' := [(0, _), (3, _), (6, _)]) au9 (QM.then (wpM.seq (wpM.region ?_))))
 refine LM.mv rfl (LM.mv rfl ?_)
 refine LM.val (ov_nilCheck rfl) ?_
 refine LM.val (ov_field Try.underlying117 rfl Try.sizeOf115 rfl (k := 1) rfl rfl) ?_
 refine LM.rd (om_ld Try.isAgg115 rfl rfl) ?_
 refine LM.mv rfl ?_
 refine LM.val (ov_idxSN au6 Try.underlying115 Try.sizeOf114 rfl rfl (by omega)) ?_
 refine LM.val (ov_field Try.underlying114 rfl Try.sizeOf3 rfl (k := 7) rfl rfl) ?_
 refine LM.rd (om_slE (j := 7) (by assumption) (by intro _; rfl) Try.isAgg3 rfl rfl au3 rfl (by rfl)) ?_
 refine LM.val (ov_nilCheck rfl) ?_
 refine LM.val (ov_field Try.underlying117 rfl Try.sizeOf3 rfl (k := 2) rfl rfl) ?_
 refine LM.st Try.sizeOf3 rfl rfl rfl au5 rfl (fun hlt => by first | exact inM_0 | exact inM_1 | exact absurd hlt (by omega)) ?_
 refine LM.nil (QM.sub (e' := [(0, _), (3, _), (6, _)]) au9 (QM.then ?_))
 refine wpM.seq ?_
 refine wpM.draw [(0, 0), (1, 0), (2, 0), (3, 1), (4, 0), (5, 1), (6, 0), (7, 0), (8, 3)] (by kernel_rfl) (by kernel_rfl) ?_
 refine LD.val rfl rfl (ov_move rfl) ?_
 refine LD.val rfl rfl (ov_nilCheck rfl) ?_
 refine LD.val rfl rfl (ov_field Try.underlying117 rfl Try.sizeOf115 rfl (k := 1) rfl rfl) ?_
 refine LD.rd rfl rfl (om_ld Try.isAgg115 rfl rfl) ?_
 refine LD.val rfl rfl (ov_move rfl) ?_
 refine LD.rd rfl rfl (om_ldW Try.isAgg98 Try.sizeOf98 rfl rfl) ?_
 refine LD.val rfl rfl (ov_build (cs := #[.int .i64 v.v.who, .int .i64 v.v.key, U v.v.til, .int .i64 v.tk, .int .i64 v.prev, .int .i64 v.next, .bool true, .int .i64 0]) rfl (by kernel_rfl)) ?_
 refine LD.val rfl rfl (ov_idxSN au6 Try.underlying115 Try.sizeOf114 rfl rfl (by omega)) ?_
 refine LD.tail rfl rfl ?_
 refine LM.stS ((⟨v, true, 0⟩ : St)) (j := 0) (i := i) (by assumption) (by intro _; rfl) Try.sizeOf114 rfl rfl rfl au3 rfl (by decide) (by rfl) rfl (fun p hp hlt => by first | exact ⟨p, List.mem_cons_of_mem _ hp, rfl⟩ | exact absurd hlt (Nat.not_lt_of_le (Sl.ge (by assumption) p hp))) (fun ms3 hss3 hmm3 => ?_)
 refine LM.nil ?_
 refine QM.qn ?_
 refine QM.sub (e' := [(6, _)]) ⟨rfl, trivial⟩ (QM.then (wpM.seq (wpM.region ?_)))
 refine LM.mv rfl (LM.as rfl (LM.as rfl ?_))
 refine LM.nil (QM.sub (e' := [(4, _), (5, _)]) au9 (QM.then ?_))
 refine wpM.ret ?_
 refine QM.leave (.inl rfl) [.tmp 4, .tmp 5] Try.results60 rfl ?_
 intro w' hm' hc' hg'
 rw [hXp, hXe]; rw [hX] at hP ⊢; exact arm_leaf hP (by show n = (List.set _ _ _).length; rw [List.length_set]; exact hn) hss3 hb hm' (by (repeat' (first | exact SubM.nil _ | refine SubM.cons (by rfl) ?_ | refine SubM.app ?_))) hc' (inn_of hmm3)
end Go.Eng
namespace Go.Eng
open Go Go.Proofs Go.RowKit
abbrev fqC (b ba bw : Nat) (first last tk : Int) : Nat × Obj := (b, .cells #[.pointer (some ⟨ba, 0, none⟩), .map (some bw), .int .i64 first, .int .i64 last, .int .i64 tk] 102 (0, 0))
theorem inM_ma {a : Nat × Obj} {m : Mem0} : ∀ p ∈ m, inM (a :: m) p.1 := fun p hp => ⟨p, List.mem_cons_of_mem _ hp, rfl⟩
theorem fj_leaf {n0 b ba bw : Nat} {f f2 : Fq} {ma m2 M : Mem0} {x y : Int} {w w' : World} (e : joinF f x y = f2) (hA2 : ArM n0 ba f2.a m2) (hm : Mem w' M) (hs : SubM M (fqC b ba bw f2.first f2.last f2.tk :: (m2 ++ []))) (hc : Chg (inM (fqC b ba bw f.first f.last f.tk :: ma)) w w') (hin : inn ma w.heap.size m2) :
    Upd (fqC b ba bw f.first f.last f.tk :: ma) (fun u m' => u = .tuple #[] ∧ ∃ ma', m' = fqC b ba bw (joinF f x y).first (joinF f x y).last (joinF f x y).tk :: ma' ∧ ArM n0 ba (joinF f x y).a ma') w (.tuple #[]) w' := by
  rw [List.append_nil] at hs
  subst e
  refine ⟨hc, _, ⟨rfl, m2, rfl, hA2⟩, hs.mem w' hm, fun p hp => ?_⟩
  rcases List.mem_cons.1 hp with rfl | hp
  · exact .inr ⟨_, List.mem_cons_self .., rfl⟩
  · rcases hin p hp with q | ⟨q, hq, e⟩
    · exact .inl q
    · exact .inr ⟨q, List.mem_cons_of_mem _ hq, e⟩
set_option maxRecDepth 100000 in
theorem fjoin_spec {n0 b ba bw : Nat} {f : Fq} {ma : Mem0} (x y : Int) (w : World) (hA : ArM n0 ba f.a ma) (hM : Mem w (fqC b ba bw f.first f.last f.tk :: ma)) : Ret Try.prog 61 #[.pointer (some ⟨b, 0, none⟩), .int .i64 x, .int .i64 y] w (Upd (fqC b ba bw f.first f.last f.tk :: ma) (fun u m' => u = .tuple #[] ∧ ∃ ma', m' = fqC b ba bw (joinF f x y).first (joinF f x y).last (joinF f x y).tk :: ma' ∧ ArM n0 ba (joinF f x y).a ma') w) := by
 refine Ret.enterM (l := [.pointer (some ⟨b, 0, none⟩), .int .i64 x, .int .i64 y]) Try.func61 rfl Try.ntmps61 rfl (fqC b ba bw f.first f.last f.tk :: (ma ++ [])) ((inM (fqC b ba bw f.first f.last f.tk :: ma))) (by rw [List.append_nil]; exact hM) ?_
 refine wpM.seq ?_
 refine wpM.seq (wpM.region ?_)
 refine LM.mv rfl ?_
 refine LM.val (ov_nilCheck rfl) ?_
 refine LM.val (ov_field Try.underlying102 rfl Try.sizeOf100 rfl (k := 0) rfl rfl) ?_
 refine LM.rd (om_ld Try.isAgg100 rfl rfl) ?_
 refine LM.mv rfl ?_
 refine LM.callE (oc_call (enters_fn Try.func54 (by kernel_rfl) rfl) rfl) (fun w hm hc hg => arGet_spec x w hA (hm.pick ma)) ?_
 refine LM.mv rfl ?_
 refine LM.val (ov_extract rfl rfl) ?_
 refine LM.val (ov_extract rfl rfl) ?_
 refine LM.alloc Try.zeroValue98 rfl (fun b6 hb6 => ?_)
 refine LM.stW Try.sizeOf98 rfl rfl rfl rfl au7 (fun hlt => by first | exact inM_0 | exact inM_1 | exact absurd hlt (by omega)) ?_
 refine LM.as rfl ?_
 refine LM.nil (QM.sub (e' := [(0, _), (1, _), (2, _), (6, _), (7, _)]) au9 (QM.then (wpM.seq (wpM.region ?_))))
 refine LM.mv rfl ?_
 refine LM.nil (QM.sub (e' := [(0, _), (1, _), (2, _), (6, _), (19, _)]) au9 (QM.then ?_))
 refine wpM.joinK (α := Fq × Mem0) (fun ⟨f1, m1⟩ => []) [(0, _), (1, _), (2, _)] (fun ⟨f1, m1⟩ => fqC b ba bw f1.first f1.last f1.tk :: (m1 ++ [])) (fun ⟨f1, m1⟩ => f1 = join1 f x y ∧ ArM n0 ba f1.a m1 ∧ inn ma w.heap.size m1) ⟨rfl, rfl, rfl, trivial⟩ ?_ ?_
 ·
  first | refine wpM.condD rfl (fun h1 => ?_) (fun h1 => ?_) | refine wpM.condB rfl (fun h1 => ?_) (fun h1 => ?_)
  ·
   refine wpM.seq (wpM.region ?_)
   refine LM.mv rfl (LM.val (ov_field Try.underlying98 rfl Try.sizeOf3 rfl (k := 5) rfl rfl) ?_)
   refine LM.st Try.sizeOf3 rfl rfl rfl au5 rfl (fun hlt => by first | exact inM_0 | exact inM_1 | exact absurd hlt (by omega)) ?_
   refine LM.mem (SubM.mem (M' := (b6, .cells (fLk { getA f.a x with next := y }).toArray 98 (0, 0)) :: fqC b ba bw f.first f.last f.tk :: (ma ++ [])) au1) ?_
   refine LM.nil (QM.sub (e' := [(0, _), (1, _), (2, _), (6, _)]) au9 (QM.then ?_))
   refine wpM.draw [(0, 0), (1, 0), (2, 0), (3, 1), (4, 0), (5, 1), (6, 3)] (by kernel_rfl) (by kernel_rfl) ?_
   refine LD.val rfl rfl (ov_move rfl) ?_
   refine LD.val rfl rfl (ov_nilCheck rfl) ?_
   refine LD.val rfl rfl (ov_field Try.underlying102 rfl Try.sizeOf100 rfl (k := 0) rfl rfl) ?_
   refine LD.rd rfl rfl (om_ld Try.isAgg100 rfl rfl) ?_
   refine LD.val rfl rfl (ov_move rfl) ?_
   refine LD.rd rfl rfl (om_ldW Try.isAgg98 Try.sizeOf98 rfl rfl) ?_
   refine LD.tail rfl rfl ?_
   refine LM.cU (oc_call (enters_fn Try.func69 (by kernel_rfl) rfl) rfl) (fun w hm hc hg => arSet_spec x { getA f.a x with next := y } w hA (hm.pick ma)) hA.wlk (fun p hp _ => inM_ma p hp) ?_
   rintro u28 m28 ⟨rfl, h28⟩ hin28
   refine LM.nil ?_
   refine QM.qn ?_
   refine QM.sub (e' := [(0, _), (1, _), (2, _)]) au9 ?_
   refine QM.meetK ({ f with a := setA f.a x { getA f.a x with next := y } }, m28) ⟨rfl, rfl, rfl, trivial⟩ au1 ?_
   · exact ⟨(if_pos h1).symm, h28, hin28⟩
  refine wpM.region ?_
  refine LM.mv rfl (LM.mv rfl ?_)
  refine LM.val (ov_nilCheck rfl) ?_
  refine LM.val (ov_field Try.underlying102 rfl Try.sizeOf3 rfl (k := 2) rfl rfl) ?_
  refine LM.st Try.sizeOf3 rfl rfl rfl au5 rfl (fun hlt => by first | exact inM_0 | exact inM_1 | exact absurd hlt (by omega)) ?_
  refine LM.nil (QM.sub (e' := [(0, _), (1, _), (2, _)]) au9 ?_)
  refine QM.meetK ({ f with first := y }, ma) ⟨rfl, rfl, rfl, trivial⟩ au1 ?_
  · exact ⟨(if_neg (by simpa using h1)).symm, hA, inn_refl _ _⟩
 rintro ⟨f1, m1⟩ ⟨hf1, hA1, hi1⟩
 change QM _ _ _ _ _ (fqC b ba bw f1.first f1.last f1.tk :: (m1 ++ [])) _ _ _
 refine QM.then (wpM.seq (wpM.region ?_))
 refine LM.mv rfl ?_
 refine LM.val (ov_nilCheck rfl) ?_
 refine LM.val (ov_field Try.underlying102 rfl Try.sizeOf100 rfl (k := 0) rfl rfl) ?_
 refine LM.rd (om_ld Try.isAgg100 rfl rfl) ?_
 refine LM.mv rfl ?_
 refine LM.callE (oc_call (enters_fn Try.func54 (by kernel_rfl) rfl) rfl) (fun w hm hc hg => arGet_spec y w hA1 (hm.pick m1)) ?_
 refine LM.mv rfl ?_
 refine LM.val (ov_extract rfl rfl) ?_
 refine LM.val (ov_extract rfl rfl) ?_
 refine LM.alloc Try.zeroValue98 rfl (fun b8 hb8 => ?_)
 refine LM.stW Try.sizeOf98 rfl rfl rfl rfl au7 (fun hlt => by first | exact inM_0 | exact inM_1 | exact absurd hlt (by omega)) ?_
 refine LM.as rfl ?_
 refine LM.nil (QM.sub (e' := [(0, _), (1, _), (2, _), (8, _), (9, _)]) au9 (QM.then (wpM.seq (wpM.region ?_))))
 refine LM.mv rfl ?_
 refine LM.nil (QM.sub (e' := [(0, _), (1, _), (2, _), (8, _), (42, _)]) au9 (QM.then ?_))
 first | refine wpM.condD rfl (fun h2 => ?_) (fun h2 => ?_) | refine wpM.condB rfl (fun h2 => ?_) (fun h2 => ?_)
 ·
  refine wpM.seq (wpM.region ?_)
  refine LM.mv rfl (LM.val (ov_field Try.underlying98 rfl Try.sizeOf3 rfl (k := 4) rfl rfl) ?_)
  refine LM.st Try.sizeOf3 rfl rfl rfl au5 rfl (fun hlt => by first | exact inM_0 | exact inM_1 | exact absurd hlt (by omega)) ?_
  refine LM.mem (SubM.mem (M' := (b8, .cells (fLk { getA f1.a y with prev := x }).toArray 98 (0, 0)) :: fqC b ba bw f1.first f1.last f1.tk :: (m1 ++ [])) au1) ?_
  refine LM.nil (QM.sub (e' := [(0, _), (2, _), (8, _)]) au9 (QM.then ?_))
  refine wpM.draw [(0, 0), (1, 0), (2, 0), (3, 1), (4, 0), (5, 1), (6, 3)] (by kernel_rfl) (by kernel_rfl) ?_
  refine LD.val rfl rfl (ov_move rfl) ?_
  refine LD.val rfl rfl (ov_nilCheck rfl) ?_
  refine LD.val rfl rfl (ov_field Try.underlying102 rfl Try.sizeOf100 rfl (k := 0) rfl rfl) ?_
  refine LD.rd rfl rfl (om_ld Try.isAgg100 rfl rfl) ?_
  refine LD.val rfl rfl (ov_move rfl) ?_
  refine LD.rd rfl rfl (om_ldW Try.isAgg98 Try.sizeOf98 rfl rfl) ?_
  refine LD.tail rfl rfl ?_
  refine LM.cU (oc_call (enters_fn Try.func69 (by kernel_rfl) rfl) rfl) (fun w hm hc hg => arSet_spec y { getA f1.a y with prev := x } w hA1 (hm.pick m1)) hA1.wlk (inn_S hi1 inM_ma) ?_
  rintro u51 m51 ⟨rfl, h51⟩ hin51
  refine LM.nil ?_
  refine QM.qn ?_
  refine QM.sub (e' := []) trivial ?_
  refine QM.leave (.inr rfl) [] Try.results61 rfl ?_
  intro w' hm' hc' hg'
  exact fj_leaf (f2 := { f1 with a := setA f1.a y { getA f1.a y with prev := x } }) (by unfold joinF; rw [← hf1]; exact if_pos h2) h51 hm' (by (repeat' (first | exact SubM.nil _ | refine SubM.cons (by rfl) ?_ | refine SubM.app ?_))) hc' (inn_trans hi1 hin51)
 refine wpM.region ?_
 refine LM.mv rfl (LM.mv rfl ?_)
 refine LM.val (ov_nilCheck rfl) ?_
 refine LM.val (ov_field Try.underlying102 rfl Try.sizeOf3 rfl (k := 3) rfl rfl) ?_
 refine LM.st Try.sizeOf3 rfl rfl rfl au5 rfl (fun hlt => by first | exact inM_0 | exact inM_1 | exact absurd hlt (by omega)) ?_
 refine LM.nil (QM.sub (e' := []) trivial ?_)
 refine QM.leave (.inr rfl) [] Try.results61 rfl ?_
 intro w' hm' hc' hg'
 exact fj_leaf (f2 := { f1 with last := x }) (by unfold joinF; rw [← hf1]; exact if_neg (by simpa using h2)) hA1 hm' (by (repeat' (first | exact SubM.nil _ | refine SubM.cons (by rfl) ?_ | refine SubM.app ?_))) hc' hi1
end Go.Eng
namespace Go.Eng
open Go Go.Proofs Go.RowKit
def fWt (v : Wt) : List Value := [.int .i64 v.who, .int .i64 v.key, U v.til]
def FfM (n0 b : Nat) (f : Fq) (m : Mem0) : Prop := ∃ (ba bw : Nat) (es : Array MapEntry) (cl : Nat) (ma : Mem0), m = fqC b ba bw f.first f.last f.tk :: (bw, .map es cl) :: ma ∧ ArM n0 ba f.a ma ∧ EnsS .i64 es cl f.wh ∧ n0 ≤ b ∧ n0 ≤ bw
theorem FfM.ge {n0 b : Nat} {f : Fq} {m : Mem0} (h : FfM n0 b f m) : ∀ p ∈ m, n0 ≤ p.1 := by
  obtain ⟨ba, bw, es, cl, ma, rfl, hA, he, hb, hbw⟩ := h
  intro p hp
  simp only [List.mem_cons] at hp
  rcases hp with rfl | rfl | hp
  · exact hb
  · exact hbw
  · exact hA.ge p hp
theorem FfM.wlk {n0 b : Nat} {f : Fq} {m : Mem0} (h : FfM n0 b f m) : ∀ p ∈ m, wlk p.2 = false := by
  obtain ⟨ba, bw, es, cl, ma, rfl, hA, he, hb, hbw⟩ := h
  intro p hp
  simp only [List.mem_cons] at hp
  rcases hp with rfl | rfl | hp
  · rfl
  · rfl
  · exact hA.wlk p hp
theorem FfM.mono {n0 n1 b : Nat} {f : Fq} {m : Mem0} (h : FfM n0 b f m) (hn : n1 ≤ n0) : FfM n1 b f m := by
  obtain ⟨ba, bw, es, cl, ma, rfl, hA, he, hb, hbw⟩ := h
  exact ⟨ba, bw, es, cl, ma, rfl, hA.mono hn, he, Nat.le_trans hn hb, Nat.le_trans hn hbw⟩
theorem ch_free {l : List St} {F : List Nat} {f : Int} (h : Ch l F f) (hl : ∀ p ∈ F, p < l.length) : 0 ≤ f ∧ f ≤ l.length := by
  cases F with
  | nil => have : f = 0 := h; omega
  | cons p F => have := h.1; have := hl p (List.mem_cons_self ..); omega
theorem awf_of {most : Int} {f : Fq} {q : List (Int × Wt)} {ps F : List Nat} (h : FqR most f q ps F) : AWf f.a := by
  have h1 := h.len; have h2 := h.le; have h3 := h.mst; have h4 := h.n
  refine ⟨by omega, by omega, by omega, ch_free h.ch (fun p hp => h.cov p (.inr hp))⟩
theorem awf_put {most : Int} {f : Fq} {q : List (Int × Wt)} {ps F : List Nat} (h : FqR most f q ps F) (v : Lk) : AWf (putA f.a v) := by
  by_cases hn : f.a.most ≤ f.a.n
  · rw [show putA f.a v = f.a from if_pos hn]; exact awf_of h
  · obtain ⟨p, F', hp, hpp, hpF, hFF, hFn, hl, hpl, hle, hsp, hsr, hch, hna, hma, hmm⟩ := put_at h hn v
    have h3 := h.mst; have h4 := h.n
    exact ⟨by omega, by omega, by omega, ch_free hch (fun r hr => Nat.lt_of_lt_of_le (h.cov r (.inr (hFF r hr))) hle)⟩
theorem inM_q {a c : Nat × Obj} {m : Mem0} : ∀ p ∈ m, inM (a :: c :: m) p.1 := fun p hp => ⟨p, List.mem_cons_of_mem _ (List.mem_cons_of_mem _ hp), rfl⟩
theorem ff_leaf {n0 b ba bw cl cl' : Nat} {f2 : Fq} {first last tk : Int} {es es' : Array MapEntry} {ma m2 M : Mem0} {u0 : Value} {w w' : World} (hA2 : ArM n0 ba f2.a m2) (he : EnsS .i64 es' cl' f2.wh) (hb : n0 ≤ b) (hbw : n0 ≤ bw) (hm : Mem w' M) (hs : SubM M (fqC b ba bw f2.first f2.last f2.tk :: (bw, .map es' cl') :: (m2 ++ []))) (hc : Chg (inM (fqC b ba bw first last tk :: (bw, .map es cl) :: ma)) w w') (hin : inn ma w.heap.size m2) :
    Upd (fqC b ba bw first last tk :: (bw, .map es cl) :: ma) (fun u m' => u = u0 ∧ FfM n0 b f2 m') w u0 w' := by
  rw [List.append_nil] at hs
  refine ⟨hc, _, ⟨rfl, ba, bw, es', cl', m2, rfl, hA2, he, hb, hbw⟩, hs.mem w' hm, fun p hp => ?_⟩
  simp only [List.mem_cons] at hp
  rcases hp with rfl | rfl | hp
  · exact .inr ⟨_, List.mem_cons_self .., rfl⟩
  · exact .inr ⟨(bw, .map es cl), by simp only [List.mem_cons, true_or, or_true], rfl⟩
  · rcases hin p hp with q | ⟨q, hq, e⟩
    · exact .inl q
    · exact .inr ⟨q, List.mem_cons_of_mem _ (List.mem_cons_of_mem _ hq), e⟩
theorem wlk_c {a : Nat × Obj} {m : Mem0} (h0 : wlk a.2 = false) (h : ∀ p ∈ m, wlk p.2 = false) : ∀ p ∈ a :: m, wlk p.2 = false := fun p hp => by
  rcases List.mem_cons.1 hp with rfl | hp
  · exact h0
  · exact h p hp
theorem inM_c {a a' c : Nat × Obj} {m x : Mem0} {k : Nat} (e : a'.1 = a.1) (hi : inn m k x) : ∀ p ∈ a' :: x, p.1 < k → inM (a :: c :: m) p.1 := fun p hp hlt => by
  rcases List.mem_cons.1 hp with rfl | hp
  · exact ⟨a, List.mem_cons_self .., e.symm⟩
  · exact inn_S hi inM_q p hp hlt
theorem inn_tail {a b : Nat × Obj} {m x : Mem0} {k : Nat} (e : a.1 = b.1) (h : inn (a :: m) k (b :: x)) (hb : ∀ p ∈ x, p.1 ≠ a.1) : inn m k x := fun p hp => by
  rcases h p (List.mem_cons_of_mem _ hp) with q | ⟨q, hq, e2⟩
  · exact .inl q
  · rcases List.mem_cons.1 hq with rfl | hq
    · exact absurd e2.symm (hb p hp)
    · exact .inr ⟨q, hq, e2⟩
def fpushX (f : Fq) (v : Wt) : Fq := if f.a.most ≤ f.a.n then f else pushF f v
def fpushV (f : Fq) : Int := if f.a.most ≤ f.a.n then 0 else f.tk + 1
theorem joinF_wh (f : Fq) (x y : Int) : (joinF f x y).wh = f.wh := by
  unfold joinF join2 join1
  (repeat' split) <;> rfl
theorem joinF_tk (f : Fq) (x y : Int) : (joinF f x y).tk = f.tk := by
  unfold joinF join2 join1
  (repeat' split) <;> rfl
theorem pushX_no {f : Fq} (h : f.a.most ≤ f.a.n) (v : Wt) : fpushX f v = f ∧ fpushV f = 0 ∧ putE f.a = 3 := ⟨if_pos h, if_pos h, if_pos h⟩
theorem pushX_ok {f : Fq} (h : ¬ f.a.most ≤ f.a.n) (v : Wt) : fpushX f v = pushF f v ∧ fpushV f = (pushF f v).tk ∧ putE f.a = 0 := ⟨if_neg h, (if_neg h).trans (joinF_tk { f with a := putA f.a ⟨v, f.tk + 1, -1, -1⟩, wh := aput f.wh (f.tk + 1) (.int .i64 (putP f.a)), tk := f.tk + 1 } f.last (putP f.a)).symm, if_neg h⟩
theorem mem_ne {a : Nat × Obj} {m : Mem0} {w : World} (h : Mem w (a :: (m ++ []))) : ∀ p ∈ m, p.1 ≠ a.1 := fun p hp e => by
  rw [List.append_nil] at h
  exact (List.nodup_cons.1 h.1).1 (List.mem_map.2 ⟨p, hp, e⟩)
set_option maxRecDepth 100000 in
theorem fpush_spec {n0 b : Nat} {most : Int} {f : Fq} {q : List (Int × Wt)} {ps F : List Nat} {m : Mem0} (v : Wt) (w : World) (hR : FqR most f q ps F) (htk : f.tk ≤ 1000000000) (h : FfM n0 b f m) (hn0 : n0 ≤ w.heap.size) (hM : Mem w m) : Ret Try.prog 45 #[.pointer (some ⟨b, 0, none⟩), .agg (fWt v).toArray] w (Upd m (fun u m' => u = .tuple #[.int .i64 (fpushV f), .int .i64 (putE f.a)] ∧ FfM n0 b (fpushX f v) m') w) := by
 obtain ⟨ba, bw, es, cl, ma, rfl, hA, he, hb, hbw⟩ := h; have hP := awf_put hR ⟨v, f.tk + 1, -1, -1⟩; have htk0 := hR.tk0
 refine Ret.enterM (l := [.pointer (some ⟨b, 0, none⟩), .agg (fWt v).toArray]) Try.func45 rfl Try.ntmps45 rfl (fqC b ba bw f.first f.last f.tk :: (bw, .map es cl) :: (ma ++ [])) ((inM (fqC b ba bw f.first f.last f.tk :: (bw, .map es cl) :: ma))) (by rw [List.append_nil]; exact hM) ?_
 refine wpM.seq (wpM.region ?_)
 refine LM.box rfl rfl (fun b3 hb3 => ?_)
 refine LM.as rfl (LM.as rfl ?_)
 refine LM.nil (QM.sub (e' := [(0, _), (3, _)]) au9 (QM.then ?_))
 refine wpM.seq ?_
 refine wpM.seq (wpM.region ?_)
 refine LM.mv rfl ?_
 refine LM.val (ov_peql (by kernel_rfl) rfl rfl) ?_
 refine LM.nil (QM.sub (e' := [(0, _), (3, _), (9, _)]) au9 (QM.then ?_))
 refine wpM.condF rfl ?_
 refine wpM.skip ?_
 refine QM.then ?_
 refine wpM.seq ?_
 refine wpM.keep ((b3, .cells (fWt v).toArray 32 (0, 0)) :: fqC b ba bw f.first f.last f.tk :: []) (fun _ => True) (.one 0 0 (.one 1 0 (.one 2 0 (.one 3 1 (.one 4 1 (.one 5 0 (.one 6 0 (.one 7 0 (.one 8 1 (.one 9 0 (.one 10 0 (.one 11 2 (.one 12 0 (.one 13 0 (.one 14 0 (.one 15 0 (.one 16 0 .nil))))))))))))))))) (by kernel_rfl) (by kernel_rfl) au1 (fun _ _ => trivial) ?_
 refine KD.val rfl rfl (ov_move rfl) ?_
 refine KD.val rfl rfl (ov_nilCheck rfl) ?_
 refine KD.val rfl rfl (ov_field Try.underlying102 rfl Try.sizeOf100 rfl (k := 0) rfl rfl) ?_
 refine KD.rd rfl rfl (om_ld Try.isAgg100 rfl rfl) ?_
 refine KD.rd rfl rfl (om_ldW Try.isAgg32 Try.sizeOf32 rfl rfl) ?_
 refine KD.val rfl rfl (ov_move rfl) ?_
 refine KD.val rfl rfl (ov_nilCheck rfl) ?_
 refine KD.val rfl rfl (ov_field Try.underlying102 rfl Try.sizeOf3 rfl (k := 4) rfl rfl) ?_
 refine KD.rd rfl rfl (om_ld Try.isAgg3 rfl rfl) ?_
 refine KD.val rfl rfl (ov_add64 rfl rfl (by omega)) ?_
 refine KD.val rfl rfl (ov_build (cs := (fLk ⟨v, f.tk + 1, -1, -1⟩).toArray) rfl (by kernel_rfl)) ?_
 refine KD.one rfl ?_
 refine LM.cU (oc_call (enters_fn Try.func60 (by kernel_rfl) rfl) rfl) (fun w hm hc hg => arPut_spec ⟨v, f.tk + 1, -1, -1⟩ w hA hP (Nat.le_trans hn0 hc.size) (hm.pick ma)) hA.wlk (fun p hp _ => inM_q p hp) ?_
 rintro u22 m22 ⟨rfl, h22⟩ hin22
 refine LM.nil ?_
 refine QM.one au1 (fun _ _ => trivial) ?_
 refine KD.val rfl rfl (ov_move rfl) ?_
 refine KD.val rfl rfl (ov_extract rfl rfl) ?_
 refine KD.val rfl rfl (ov_extract rfl rfl) ?_
 refine KD.val rfl rfl (ov_assign rfl) ?_
 refine KD.val rfl rfl (ov_assign rfl) ?_
 refine KD.nil ?_
 refine QM.sub (e' := [(0, _), (6, _), (7, _)]) au9 (QM.then ?_)
 refine wpM.seq ?_
 refine wpM.seq (wpM.region ?_)
 refine LM.mv rfl ?_
 refine LM.val (ov_neq rfl rfl) ?_
 refine LM.nil (QM.sub (e' := [(0, _), (6, _), (7, _), (26, _)]) au9 (QM.then ?_))
 refine wpM.condD rfl (fun h1 => ?_) (fun h1 => ?_)
 ·
  have hfull : f.a.most ≤ f.a.n := Classical.byContradiction (fun z => h1 (if_neg z)); have hX : putA f.a ⟨v, f.tk + 1, -1, -1⟩ = f.a := if_pos hfull
  refine wpM.seq (wpM.region ?_)
  refine LM.mv rfl (LM.as rfl (LM.as rfl ?_))
  refine LM.nil (QM.sub (e' := [(4, _), (5, _)]) au9 (QM.then ?_))
  refine wpM.ret ?_
  refine QM.then_ret ?_
  refine QM.leave (.inl rfl) [.tmp 4, .tmp 5] Try.results45 rfl ?_
  intro w' hm' hc' hg'
  obtain ⟨e1, e2, e3⟩ := pushX_no hfull v; rw [e1, e2, e3]; exact ff_leaf (f2 := f) (by rw [← hX]; exact h22) he hb hbw hm' (by (repeat' (first | exact SubM.nil _ | refine SubM.cons (by rfl) ?_ | refine SubM.app ?_))) hc' hin22
 have hfull : ¬ f.a.most ≤ f.a.n := fun z => h1 (by rw [show putE f.a = 3 from if_pos z]; decide)
 refine wpM.skip ?_
 refine QM.then (wpM.seq (wpM.region ?_))
 refine LM.mv rfl ?_
 refine LM.val (ov_nilCheck rfl) ?_
 refine LM.val (ov_field Try.underlying102 rfl Try.sizeOf3 rfl (k := 4) rfl rfl) ?_
 refine LM.rd (om_ld Try.isAgg3 rfl rfl) ?_
 refine LM.val (ov_add64 rfl rfl (by omega)) ?_
 refine LM.val (ov_nilCheck rfl) ?_
 refine LM.val (ov_field Try.underlying102 rfl Try.sizeOf3 rfl (k := 4) rfl rfl) ?_
 refine LM.st Try.sizeOf3 rfl rfl rfl au5 rfl (fun hlt => by first | exact inM_0 | exact inM_1 | exact absurd hlt (by omega)) ?_
 refine LM.mem (SubM.mem (M' := fqC b ba bw f.first f.last (f.tk + 1) :: (bw, .map es cl) :: (m22 ++ [])) au1) ?_
 refine LM.nil (QM.sub (e' := [(0, _), (6, _)]) au9 (QM.then ?_))
 refine wpM.seq ?_
 refine wpM.draw [(0, 0), (1, 0), (2, 0), (3, 1), (4, 0), (5, 0), (6, 0), (7, 1), (8, 0), (9, 3)] (by kernel_rfl) (by kernel_rfl) ?_
 refine LD.val rfl rfl (ov_move rfl) ?_
 refine LD.val rfl rfl (ov_nilCheck rfl) ?_
 refine LD.val rfl rfl (ov_field Try.underlying102 rfl Try.sizeOf82 rfl (k := 1) rfl rfl) ?_
 refine LD.rd rfl rfl (om_ld Try.isAgg82 rfl rfl) ?_
 refine LD.val rfl rfl (ov_move rfl) ?_
 refine LD.val rfl rfl (ov_nilCheck rfl) ?_
 refine LD.val rfl rfl (ov_field Try.underlying102 rfl Try.sizeOf3 rfl (k := 4) rfl rfl) ?_
 refine LD.rd rfl rfl (om_ld Try.isAgg3 rfl rfl) ?_
 refine LD.val rfl rfl (ov_move rfl) ?_
 refine LD.tail rfl rfl ?_
 refine LM.mUS Try.underlying82 Try.underlying3 rfl rfl rfl (by assumption) (fun hlt => by first | exact inM_0 | exact inM_1 | exact absurd hlt (by omega)) (fun esu1 clu1 hesu1 => ?_)
 refine LM.nil ?_
 refine QM.qn ?_
 refine QM.sub (e' := [(0, _), (6, _)]) au9 (QM.then (wpM.seq (wpM.region ?_)))
 refine LM.mv rfl (LM.mv rfl ?_)
 refine LM.val (ov_nilCheck rfl) ?_
 refine LM.val (ov_field Try.underlying102 rfl Try.sizeOf3 rfl (k := 3) rfl rfl) ?_
 refine LM.rd (om_ld Try.isAgg3 rfl rfl) ?_
 refine LM.mv rfl ?_
 refine LM.cU (oc_call (enters_fn Try.func61 (by kernel_rfl) rfl) rfl) (fun w hm hc hg => fjoin_spec (b := b) (bw := bw) (f := { f with a := putA f.a ⟨v, f.tk + 1, -1, -1⟩, wh := aput f.wh (f.tk + 1) (.int .i64 (putP f.a)), tk := f.tk + 1 }) f.last (putP f.a) w h22 (hm.pick (fqC b ba bw f.first f.last (f.tk + 1) :: m22))) (wlk_c rfl h22.wlk) (inM_c rfl hin22) ?_
 rintro u50 m50 ⟨rfl, ma5, rfl, h50⟩ hin50
 refine LM.nil (QM.sub (e' := [(0, _), (6, _)]) au9 (QM.then (wpM.seq (wpM.region ?_))))
 refine LM.mv rfl (LM.mv rfl ?_)
 refine LM.val (ov_nilCheck rfl) ?_
 refine LM.val (ov_field Try.underlying102 rfl Try.sizeOf3 rfl (k := 3) rfl rfl) ?_
 refine LM.st Try.sizeOf3 rfl rfl rfl au5 rfl (fun hlt => by first | exact inM_0 | exact inM_1 | exact absurd hlt (by omega)) ?_
 refine LM.nil (QM.sub (e' := [(0, _)]) ⟨rfl, trivial⟩ (QM.then (wpM.seq (wpM.region ?_))))
 refine LM.mv rfl ?_
 refine LM.val (ov_nilCheck rfl) ?_
 refine LM.val (ov_field Try.underlying102 rfl Try.sizeOf3 rfl (k := 4) rfl rfl) ?_
 refine LM.rd (om_ld Try.isAgg3 rfl rfl) ?_
 refine LM.as rfl (LM.as rfl ?_)
 refine LM.nil (QM.sub (e' := [(4, _), (5, _)]) au9 (QM.then ?_))
 refine wpM.ret ?_
 refine QM.leave (.inl rfl) [.tmp 4, .tmp 5] Try.results45 rfl ?_
 intro w' hm' hc' hg'
 obtain ⟨e1, e2, e3⟩ := pushX_ok hfull v; rw [e1, e2, e3]; have hne50 := mem_ne (SubM.mem (M' := fqC b ba bw (pushF f v).first (pushF f v).last (pushF f v).tk :: (ma5 ++ [])) (by (repeat' (first | exact SubM.nil _ | refine SubM.cons (by rfl) ?_ | refine SubM.app ?_))) w' hm'); exact ff_leaf (f2 := pushF f v) h50 (by rw [show (pushF f v).wh = aput f.wh (f.tk + 1) (.int .i64 (putP f.a)) from joinF_wh _ _ _]; exact hesu1) hb hbw hm' (by (repeat' (first | exact SubM.nil _ | refine SubM.cons (by rfl) ?_ | refine SubM.app ?_))) hc' (inn_trans hin22 (inn_tail (by rfl) hin50 hne50))
end Go.Eng
namespace Go.Eng
open Go Go.Proofs Go.RowKit
theorem awf_drop {most : Int} {f : Fq} {q : List (Int × Wt)} {ps F : List Nat} (h : FqR most f q ps F) {i : Nat} (hi : i < ps.length) : AWf (dropA f.a (ps.getD i 0 : Nat)) := by
  have hp := h.cov _ (.inl (gd_mem hi))
  rw [dropA_on hp (h.lk i hi).1]
  have h1 := awf_of h
  have h4 := h.n
  have h2 := h1.len; have h3 := h1.most; have h5 := h1.n
  exact ⟨by show (List.set _ _ _).length ≤ _; rw [List.length_set]; exact h2, h3, by show 0 ≤ f.a.n - 1 ∧ f.a.n - 1 ≤ 4096; omega, by show 0 ≤ ((ps.getD i 0 : Nat) : Int) + 1 ∧ ((ps.getD i 0 : Nat) : Int) + 1 ≤ ((List.set _ _ _).length : Int); rw [List.length_set]; omega⟩
set_option maxRecDepth 100000 in
theorem ftake_spec {n0 b : Nat} {most : Int} {f : Fq} {q : List (Int × Wt)} {ps F : List Nat} {m : Mem0} (i : Nat) (w : World) (hR : FqR most f q ps F) (hi : i < ps.length) (h : FfM n0 b f m) (hM : Mem w m) : Ret Try.prog 64 #[.pointer (some ⟨b, 0, none⟩), .int .i64 ((ps.getD i 0 : Nat) : Int)] w (Upd m (fun u m' => u = .tuple #[.agg (fWt (qd q i).2).toArray, .bool true] ∧ FfM n0 b (takeF f (ps.getD i 0 : Nat)) m') w) := by
 obtain ⟨ba, bw, es, cl, ma, rfl, hA, he, hb, hbw⟩ := h; have hD := awf_drop hR hi; have hpl := hR.cov _ (.inl (gd_mem hi)); have hon := isA_on hpl (hR.lk i hi).1; have hgv : getA f.a (ps.getD i 0 : Nat) = ⟨(qd q i).2, (qd q i).1, pv ps i, nv ps i⟩ := by rw [getA_on hpl (hR.lk i hi).1]; exact (hR.lk i hi).2
 refine Ret.enterM (l := [.pointer (some ⟨b, 0, none⟩), .int .i64 ((ps.getD i 0 : Nat) : Int)]) Try.func64 rfl Try.ntmps64 rfl (fqC b ba bw f.first f.last f.tk :: (bw, .map es cl) :: (ma ++ [])) ((inM (fqC b ba bw f.first f.last f.tk :: (bw, .map es cl) :: ma))) (by rw [List.append_nil]; exact hM) ?_
 refine wpM.seq (wpM.region ?_)
 refine LM.alloc Try.zeroValue32 rfl (fun b4 hb4 => ?_)
 refine LM.as rfl ?_
 refine LM.nil (QM.sub (e' := [(0, _), (1, _), (4, _)]) au9 (QM.then (wpM.seq (wpM.region ?_))))
 refine LM.mv rfl ?_
 refine LM.val (ov_nilCheck rfl) ?_
 refine LM.val (ov_field Try.underlying102 rfl Try.sizeOf100 rfl (k := 0) rfl rfl) ?_
 refine LM.rd (om_ld Try.isAgg100 rfl rfl) ?_
 refine LM.mv rfl ?_
 refine LM.cU (oc_call (enters_fn Try.func73 (by kernel_rfl) rfl) rfl) (fun w hm hc hg => arDrop_spec (ps.getD i 0 : Nat) w hA hD (hm.pick ma)) hA.wlk (fun p hp _ => inM_q p hp) ?_
 rintro u14 m14 ⟨rfl, h14⟩ hin14; rw [hon, hgv]
 refine LM.mv rfl ?_
 refine LM.val (ov_extract rfl rfl) ?_
 refine LM.val (ov_extract rfl rfl) ?_
 refine LM.alloc Try.zeroValue98 rfl (fun b6 hb6 => ?_)
 refine LM.stW Try.sizeOf98 rfl rfl rfl rfl au7 (fun hlt => by first | exact inM_0 | exact inM_1 | exact absurd hlt (by omega)) ?_
 refine LM.as rfl ?_
 refine LM.nil (QM.sub (e' := [(0, _), (4, _), (6, _), (7, _)]) au9 (QM.then ?_))
 refine wpM.seq ?_
 refine wpM.seq (wpM.region ?_)
 refine LM.mv rfl ?_
 refine LM.nil (QM.sub (e' := [(0, _), (4, _), (6, _), (7, _), (17, _)]) au9 (QM.then ?_))
 first | refine wpM.condD rfl (fun h1 => ?_) (fun h1 => ?_) | refine wpM.condB rfl (fun h1 => ?_) (fun h1 => ?_)
 ·
  refine wpM.seq ?_
  refine wpM.draw [(0, 0), (1, 0), (2, 0), (3, 1), (4, 0), (5, 1), (6, 3)] (by kernel_rfl) (by kernel_rfl) ?_
  refine LD.val rfl rfl (ov_move rfl) ?_
  refine LD.val rfl rfl (ov_nilCheck rfl) ?_
  refine LD.val rfl rfl (ov_field Try.underlying102 rfl Try.sizeOf82 rfl (k := 1) rfl rfl) ?_
  refine LD.rd rfl rfl (om_ld Try.isAgg82 rfl rfl) ?_
  refine LD.val rfl rfl (ov_field Try.underlying98 rfl Try.sizeOf3 rfl (k := 3) rfl rfl) ?_
  refine LD.rd rfl rfl (om_ld Try.isAgg3 rfl rfl) ?_
  refine LD.tail rfl rfl ?_
  refine LM.mDS Try.underlying82 Try.underlying3 rfl rfl (by assumption) (fun hlt => by first | exact inM_0 | exact inM_1 | exact absurd hlt (by omega)) (fun esu1 clu1 hesu1 => ?_)
  refine LM.nil ?_
  refine QM.qn ?_
  refine QM.sub (e' := [(0, _), (4, _), (6, _), (7, _)]) au9 (QM.then (wpM.region ?_))
  refine LM.mv rfl (LM.val (ov_field Try.underlying98 rfl Try.sizeOf3 rfl (k := 4) rfl rfl) ?_)
  refine LM.rd (om_ld Try.isAgg3 rfl rfl) ?_
  refine LM.val (ov_field Try.underlying98 rfl Try.sizeOf3 rfl (k := 5) rfl rfl) ?_
  refine LM.rd (om_ld Try.isAgg3 rfl rfl) ?_
  refine LM.cU (oc_call (enters_fn Try.func61 (by kernel_rfl) rfl) rfl) (fun w hm hc hg => fjoin_spec (b := b) (bw := bw) (f := { f with a := dropA f.a (ps.getD i 0 : Nat), wh := adel f.wh (qd q i).1 }) (pv ps i) (nv ps i) w h14 (hm.pick (fqC b ba bw f.first f.last f.tk :: m14))) (wlk_c rfl h14.wlk) (inM_c rfl hin14) ?_
  rintro u29 m29 ⟨rfl, ma5, rfl, h29⟩ hin29
  refine LM.nil (QM.sub (e' := [(4, _), (6, _), (7, _)]) au9 (QM.then (wpM.seq (wpM.region ?_))))
  refine LM.val (ov_field Try.underlying98 rfl Try.sizeOf32 rfl (k := 0) rfl rfl) ?_
  first | refine LM.rd (om_ldW Try.isAgg32 Try.sizeOf32 rfl rfl) ?_ | refine LM.rd (om_ldA Try.isAgg32 Try.sizeOf32 rfl (vs := [_, _, _]) rfl ⟨rfl, rfl, rfl, trivial⟩) ?_
  refine LM.mv rfl ?_
  refine LM.stW Try.sizeOf32 rfl rfl rfl rfl au7 (fun hlt => by first | exact inM_0 | exact inM_1 | exact absurd hlt (by omega)) ?_
  refine LM.as rfl ?_
  refine LM.nil (QM.sub (e' := [(4, _), (5, _)]) au9 (QM.then ?_))
  refine wpM.ret ?_
  refine QM.leaveCs (ds := ([])) (.inl rfl) [.cell 4 32, .tmp 5] Try.results64 hd_nil (rc_w rfl Try.isAgg32 Try.sizeOf32 rfl (rc_tmp rfl rc_nil)) ?_
  intro w' hm' hc'
  have eX : takeF f (ps.getD i 0 : Nat) = joinF { f with a := dropA f.a (ps.getD i 0 : Nat), wh := adel f.wh (qd q i).1 } (pv ps i) (nv ps i) := (by unfold takeF; rw [hgv]); rw [eX]; have hne29 := mem_ne (SubM.mem (M' := fqC b ba bw (joinF { f with a := dropA f.a (ps.getD i 0 : Nat), wh := adel f.wh (qd q i).1 } (pv ps i) (nv ps i)).first (joinF { f with a := dropA f.a (ps.getD i 0 : Nat), wh := adel f.wh (qd q i).1 } (pv ps i) (nv ps i)).last (joinF { f with a := dropA f.a (ps.getD i 0 : Nat), wh := adel f.wh (qd q i).1 } (pv ps i) (nv ps i)).tk :: (ma5 ++ [])) (by (repeat' (first | exact SubM.nil _ | refine SubM.cons (by rfl) ?_ | refine SubM.app ?_))) w' hm'); exact ff_leaf (f2 := joinF { f with a := dropA f.a (ps.getD i 0 : Nat), wh := adel f.wh (qd q i).1 } (pv ps i) (nv ps i)) h29 (by rw [joinF_wh]; exact hesu1) hb hbw hm' (by (repeat' (first | exact SubM.nil _ | refine SubM.cons (by rfl) ?_ | refine SubM.app ?_))) hc' (inn_trans hin14 (inn_tail (by rfl) hin29 hne29))
 cases h1
end Go.Eng
namespace Go.Eng
open Go Go.Proofs Go.RowKit
def FoM (most : Int) (n0 b : Nat) (q : List (Int × Wt)) (tk : Int) (m : Mem0) : Prop := ∃ (f : Fq) (ps F : List Nat), FqR most f q ps F ∧ f.tk = tk ∧ FfM n0 b f m
theorem FoM.ge {most : Int} {n0 b : Nat} {q : List (Int × Wt)} {tk : Int} {m : Mem0} (h : FoM most n0 b q tk m) : ∀ p ∈ m, n0 ≤ p.1 := by obtain ⟨f, ps, F, h1, h2, h3⟩ := h; exact h3.ge
theorem FoM.wlk {most : Int} {n0 b : Nat} {q : List (Int × Wt)} {tk : Int} {m : Mem0} (h : FoM most n0 b q tk m) : ∀ p ∈ m, wlk p.2 = false := by obtain ⟨f, ps, F, h1, h2, h3⟩ := h; exact h3.wlk
theorem FoM.mono {most : Int} {n0 n1 b : Nat} {q : List (Int × Wt)} {tk : Int} {m : Mem0} (h : FoM most n0 b q tk m) (hn : n1 ≤ n0) : FoM most n1 b q tk m := by obtain ⟨f, ps, F, h1, h2, h3⟩ := h; exact ⟨f, ps, F, h1, h2, h3.mono hn⟩
theorem Upd.imp {m : Mem0} {T T' : Value → Mem0 → Prop} {w w' : World} {u : Value} (h : Upd m T w u w') (k : ∀ u m', T u m' → T' u m') : Upd m T' w u w' := by
  obtain ⟨h1, m', h2, h3, h4⟩ := h
  exact ⟨h1, m', k _ _ h2, h3, h4⟩
def foE (most : Int) (q : List (Int × Wt)) : Int := if most ≤ (q.length : Int) then 3 else 0
def foX (most : Int) (q : List (Int × Wt)) (tk : Int) (v : Wt) : List (Int × Wt) := if most ≤ (q.length : Int) then q else q ++ [(tk + 1, v)]
def foT (most : Int) (q : List (Int × Wt)) (tk : Int) : Int := if most ≤ (q.length : Int) then tk else tk + 1
theorem full_iff {most : Int} {f : Fq} {q : List (Int × Wt)} {ps F : List Nat} (h : FqR most f q ps F) : f.a.most ≤ f.a.n ↔ most ≤ (q.length : Int) := by
  rw [h.mst.1, h.n, h.lq]
theorem pushF_tk (f : Fq) (v : Wt) : (pushF f v).tk = f.tk + 1 := joinF_tk _ _ _
theorem takeF_tk (f : Fq) (p : Int) : (takeF f p).tk = f.tk := joinF_tk _ _ _
theorem foPush_spec {most : Int} {n0 b : Nat} {q : List (Int × Wt)} {tk : Int} {m : Mem0} (v : Wt) (w : World) (h : FoM most n0 b q tk m) (htk : tk ≤ 1000000000) (hn0 : n0 ≤ w.heap.size) (hM : Mem w m) :
    Ret Try.prog 45 #[.pointer (some ⟨b, 0, none⟩), .agg (fWt v).toArray] w (Upd m (fun u m' => u = .tuple #[.int .i64 (if most ≤ (q.length : Int) then 0 else tk + 1), .int .i64 (foE most q)] ∧ FoM most n0 b (foX most q tk v) (foT most q tk) m') w) := by
  obtain ⟨f, ps, F, h1, rfl, h3⟩ := h
  refine (fpush_spec v w h1 htk h3 hn0 hM).mono (fun u w' hU => hU.imp (fun u m' ⟨e, hF⟩ => ?_))
  have hi := full_iff h1
  unfold foE foX foT
  by_cases hf : f.a.most ≤ f.a.n
  · have hq := hi.1 hf
    obtain ⟨e1, e2, e3⟩ := pushX_no hf v
    rw [if_pos hq, if_pos hq, if_pos hq, if_pos hq]
    rw [e1] at hF
    exact ⟨by rw [e, e2, e3], f, ps, F, h1, rfl, hF⟩
  · have hq : ¬ most ≤ (q.length : Int) := fun z => hf (hi.2 z)
    obtain ⟨e1, e2, e3⟩ := pushX_ok hf v
    rw [if_neg hq, if_neg hq, if_neg hq, if_neg hq]
    rw [e1] at hF
    obtain ⟨ps', F', h4⟩ := push_ok h1 hf v
    exact ⟨by rw [e, e2, e3, pushF_tk], pushF f v, ps', F', h4, pushF_tk f v, hF⟩
theorem getD_some' {l : List (Int × Value)} {a u : Int} (h : aget l a = some (.int .i64 u)) : (aget l a).getD (.int .i64 0) = .int .i64 u := by rw [h]; rfl
theorem has_some' {l : List (Int × Value)} {a : Int} {v : Value} (h : aget l a = some v) : (aget l a).isSome = true := by rw [h]; rfl
set_option maxRecDepth 100000 in
theorem fplace_spec {n0 b : Nat} {most : Int} {f : Fq} {q : List (Int × Wt)} {ps F : List Nat} {m : Mem0} (i : Nat) (w : World) (hR : FqR most f q ps F) (hi : i < ps.length) (h : FfM n0 b f m) (hM : Mem w m) : Ret Try.prog 53 #[.pointer (some ⟨b, 0, none⟩), .int .i64 (qd q i).1] w (fun u w' => u = .int .i64 ((ps.getD i 0 : Nat) : Int) ∧ Ext w w') := by
 obtain ⟨ba, bw, es, cl, ma, rfl, hA, he, hb, hbw⟩ := h; have he1 := he.1; have hw0 := hR.wh i (by have := hR.lq; omega)
 refine Ret.enterM (l := [.pointer (some ⟨b, 0, none⟩), .int .i64 (qd q i).1]) Try.func53 rfl Try.ntmps53 rfl (fqC b ba bw f.first f.last f.tk :: (bw, .map es cl) :: (ma ++ [])) (no) (by rw [List.append_nil]; exact hM) ?_
 refine wpM.seq (wpM.region ?_)
 refine LM.as rfl ?_
 refine LM.nil (QM.sub (e' := [(0, _), (1, _)]) au9 (QM.then ?_))
 refine wpM.seq ?_
 refine wpM.seq (wpM.region ?_)
 refine LM.mv rfl ?_
 refine LM.val (ov_pneq (by kernel_rfl) rfl rfl) ?_
 refine LM.nil (QM.sub (e' := [(0, _), (1, _), (8, _)]) au9 (QM.then ?_))
 refine wpM.condT rfl ?_
 refine wpM.seq (wpM.region ?_)
 refine LM.mv rfl ?_
 refine LM.val (ov_nilCheck rfl) ?_
 refine LM.val (ov_field Try.underlying102 rfl Try.sizeOf82 rfl (k := 1) rfl rfl) ?_
 refine LM.rd (om_ld Try.isAgg82 rfl rfl) ?_
 refine LM.mv rfl ?_
 refine LM.rd (om_lkOk Try.underlying82 Try.underlying3 Try.zeroValue3 rfl rfl (by assumption) (getD_some' hw0) (has_some' hw0)) ?_
 refine LM.mv rfl ?_
 refine LM.val (ov_extract rfl rfl) ?_
 refine LM.val (ov_extract rfl rfl) ?_
 refine LM.as rfl (LM.as rfl ?_)
 refine LM.nil (QM.sub (e' := [(5, _), (6, _)]) au9 (QM.then (wpM.seq (wpM.region ?_))))
 refine LM.mv rfl ?_
 refine LM.nil (QM.sub (e' := [(5, _), (18, _)]) au9 (QM.then ?_))
 first | refine wpM.condD rfl (fun h1 => ?_) (fun h1 => ?_) | refine wpM.condB rfl (fun h1 => ?_) (fun h1 => ?_)
 ·
  refine wpM.seq (wpM.region ?_)
  refine LM.mv rfl (LM.as rfl ?_)
  refine LM.nil (QM.sub (e' := [(4, _)]) ⟨rfl, trivial⟩ (QM.then ?_))
  refine wpM.ret ?_
  refine QM.then_ret ?_
  refine QM.leave (.inl rfl) [.tmp 4] Try.results53 rfl ?_
  intro w' hm' hc' hg'
  exact ⟨rfl, hc'⟩
 cases h1
set_option maxRecDepth 100000 in
theorem fremove_spec {n0 b : Nat} {most tk : Int} {q : List (Int × Wt)} {m : Mem0} (i : Nat) (w : World) (h : FoM most n0 b q tk m) (hi : i < q.length) (hM : Mem w m) : Ret Try.prog 48 #[.pointer (some ⟨b, 0, none⟩), .int .i64 (qd q i).1] w (Upd m (fun u m' => u = .tuple #[.agg (fWt (qd q i).2).toArray, .bool true] ∧ FoM most n0 b (q.eraseIdx i) tk m') w) := by
 obtain ⟨f, ps, F, hR, htk, hF⟩ := h; have hip : i < ps.length := (by have := hR.lq; omega)
 refine Ret.enterM (l := [.pointer (some ⟨b, 0, none⟩), .int .i64 (qd q i).1]) Try.func48 rfl Try.ntmps48 rfl (m ++ []) ((inM m)) (by rw [List.append_nil]; exact hM) ?_
 refine wpM.seq (wpM.region ?_)
 refine LM.alloc Try.zeroValue32 rfl (fun b4 hb4 => ?_)
 refine LM.as rfl ?_
 refine LM.nil (QM.sub (e' := [(0, _), (1, _), (4, _)]) au9 (QM.then (wpM.seq (wpM.region ?_))))
 refine LM.mv rfl (LM.mv rfl ?_)
 refine LM.callE (oc_call (enters_fn Try.func53 (by kernel_rfl) rfl) rfl) (fun w hm hc hg => fplace_spec i w hR hip hF (hm.pick m)) ?_
 refine LM.as rfl ?_
 refine LM.nil (QM.sub (e' := [(0, _), (4, _), (6, _)]) au9 (QM.then ?_))
 refine wpM.seq ?_
 refine wpM.seq (wpM.region ?_)
 refine LM.mv rfl ?_
 refine LM.val (ov_eql rfl rfl) ?_
 refine LM.nil (QM.sub (e' := [(0, _), (4, _), (6, _), (12, _)]) au9 (QM.then ?_))
 refine wpM.condD rfl (fun h1 => ?_) (fun h1 => ?_)
 ·
  omega
 refine wpM.skip ?_
 refine QM.then (wpM.seq (wpM.region ?_))
 refine LM.mv rfl (LM.mv rfl ?_)
 refine LM.cU (oc_call (enters_fn Try.func64 (by kernel_rfl) rfl) rfl) (fun w hm hc hg => ftake_spec i w hR hip hF (hm.pick m)) hF.wlk (fun p hp _ => ⟨p, hp, rfl⟩) ?_
 rintro u16 m16 ⟨rfl, h16⟩ hin16
 refine LM.val (ov_extract rfl rfl) ?_
 refine LM.val (ov_extract rfl rfl) ?_
 refine LM.stW Try.sizeOf32 rfl rfl rfl rfl au7 (fun hlt => by first | exact inM_0 | exact inM_1 | exact absurd hlt (by omega)) ?_
 refine LM.as rfl ?_
 refine LM.nil (QM.sub (e' := [(4, _), (5, _)]) au9 (QM.then ?_))
 refine wpM.ret ?_
 refine QM.leaveCs (ds := ([])) (.inl rfl) [.cell 4 32, .tmp 5] Try.results48 hd_nil (rc_w rfl Try.isAgg32 Try.sizeOf32 rfl (rc_tmp rfl rc_nil)) ?_
 intro w' hm' hc'
 exact upd_m ⟨rfl, takeF f (ps.getD i 0 : Nat), ps.eraseIdx i, ps.getD i 0 :: F, take_ok hR hip, by rw [takeF_tk]; exact htk, h16⟩ hm' (by (repeat' (first | exact SubM.nil _ | refine SubM.cons (by rfl) ?_ | refine SubM.app ?_))) hc' hin16
set_option maxRecDepth 100000 in
theorem foLen_spec {n0 b : Nat} {most tk : Int} {q : List (Int × Wt)} {m : Mem0} (w : World) (h : FoM most n0 b q tk m) (hM : Mem w m) : Ret Try.prog 44 #[.pointer (some ⟨b, 0, none⟩)] w (fun u w' => u = .int .i64 (q.length : Nat) ∧ Ext w w') := by
 obtain ⟨f, ps, F, hR, htk, ba, bw, es, cl, ma, rfl, hA, he, hb, hbw⟩ := h; have hnq : f.a.n = (q.length : Nat) := (by rw [hR.n, hR.lq])
 refine Ret.enterM (l := [.pointer (some ⟨b, 0, none⟩)]) Try.func44 rfl Try.ntmps44 rfl (fqC b ba bw f.first f.last f.tk :: (bw, .map es cl) :: (ma ++ [])) (no) (by rw [List.append_nil]; exact hM) ?_
 refine wpM.seq (wpM.region ?_)
 refine LM.as rfl ?_
 refine LM.nil (QM.sub (e' := [(0, _)]) ⟨rfl, trivial⟩ (QM.then ?_))
 refine wpM.seq ?_
 refine wpM.seq (wpM.region ?_)
 refine LM.mv rfl ?_
 refine LM.val (ov_peql (by kernel_rfl) rfl rfl) ?_
 refine LM.nil (QM.sub (e' := [(0, _), (4, _)]) au9 (QM.then ?_))
 refine wpM.condF rfl ?_
 refine wpM.skip ?_
 refine QM.then (wpM.seq (wpM.region ?_))
 refine LM.mv rfl ?_
 refine LM.val (ov_nilCheck rfl) ?_
 refine LM.val (ov_field Try.underlying102 rfl Try.sizeOf100 rfl (k := 0) rfl rfl) ?_
 refine LM.rd (om_ld Try.isAgg100 rfl rfl) ?_
 refine LM.callE (oc_call (enters_fn Try.func59 (by kernel_rfl) rfl) rfl) (fun w hm hc hg => (by have k := arLen_spec w hA (hm.pick ma); rw [hnq] at k; exact k)) ?_
 refine LM.as rfl ?_
 refine LM.nil (QM.sub (e' := [(2, _)]) ⟨rfl, trivial⟩ (QM.then ?_))
 refine wpM.ret ?_
 refine QM.leave (.inl rfl) [.tmp 2] Try.results44 rfl ?_
 intro w' hm' hc' hg'
 exact ⟨rfl, hc'⟩
def newFq (k : Int) : Fq := ⟨newAr k, [], -1, -1, 0⟩
theorem newFq_ok (k : Int) : FqR (newAr k).most (newFq k) [] [] [] := by
  have h := (newAr_wf k).most
  constructor
  case mst => exact ⟨rfl, h⟩
  case lq => rfl
  case nd => exact List.nodup_nil
  case len => rfl
  case cov => intro p hp; rcases hp with hp | hp <;> cases hp
  case lk => intro i hi; cases hi
  case ch => rfl
  case n => rfl
  case le => exact h.1
  case first => rfl
  case last => rfl
  case tk0 => exact Int.le_refl _
  case tk => intro i hi; cases hi
  case inc => intro i j _ hj; cases hj
  case wk => exact List.nodup_nil
  case wh => intro i hi; cases hi
  case wn => intro t _; rfl
def FoN (k : Int) (n0 : Nat) (v : Value) (m : Mem0) : Prop := ∃ b, v = .pointer (some ⟨b, 0, none⟩) ∧ FoM (newAr k).most n0 b [] 0 m
theorem FoN.mono {k : Int} : ∀ (n n' : Nat) (v : Value) (m : Mem0), n' ≤ n → FoN k n v m → FoN k n' v m := fun n n' v m hn ⟨b, h1, h⟩ => ⟨b, h1, h.mono hn⟩
theorem fo_newleaf {k : Int} {b ba bw : Nat} {ma M : Mem0} {w w' : World} (hA : ArM w.heap.size ba (newAr k) ma) (hb : w.heap.size ≤ b) (hbw : w.heap.size ≤ bw) (hm : Mem w' M) (hs : SubM M (fqC b ba bw (-1) (-1) 0 :: (bw, .map #[] 0) :: (ma ++ []))) (hc : Ext w w') :
    Ext w w' ∧ ∃ m, FoN k w.heap.size (.pointer (some ⟨b, 0, none⟩)) m ∧ Mem w' m ∧ ∀ p ∈ m, w.heap.size ≤ p.1 := by
  rw [List.append_nil] at hs
  have h : FoM (newAr k).most w.heap.size b [] 0 (fqC b ba bw (-1) (-1) 0 :: (bw, .map #[] 0) :: ma) := ⟨newFq k, [], [], newFq_ok k, rfl, ba, bw, #[], 0, ma, rfl, hA, ensS_nil _, hb, hbw⟩
  exact ⟨hc, _, ⟨b, rfl, h⟩, hs.mem w' hm, h.ge⟩
set_option maxRecDepth 100000 in
theorem fonew_spec (k : Int) (w : World) : Ret Try.prog 52 #[.int .i64 k] w (fun v w' => Ext w w' ∧ ∃ m, FoN k w.heap.size v m ∧ Mem w' m ∧ ∀ p ∈ m, w.heap.size ≤ p.1) := by
 refine Ret.enterM (l := [.int .i64 k]) Try.func52 rfl Try.ntmps52 rfl ([]) (no) (Mem.nil w) ?_
 refine wpM.seq (wpM.region ?_)
 refine LM.as rfl ?_
 refine LM.nil (QM.sub (e' := [(0, _)]) ⟨rfl, trivial⟩ (QM.then (wpM.seq (wpM.region ?_))))
 refine LM.mv rfl ?_
 refine LM.callT (oc_call (enters_fn Try.func67 (by kernel_rfl) rfl) rfl) ArN.mono (fun w hm hc hg => arnew_spec k w) ?_
 rintro u4 m4 ⟨ba, rfl, h4⟩ hge4
 refine LM.makeMap rfl (fun b5 hb5 => ?_)
 refine LM.val (ov_build (cs := #[_, _, _, _, _]) rfl (by first | rfl | kernel_rfl)) ?_
 refine LM.box rfl rfl (fun b7 hb7 => ?_)
 refine LM.as rfl ?_
 refine LM.nil (QM.sub (e' := [(2, _)]) ⟨rfl, trivial⟩ (QM.then ?_))
 refine wpM.ret ?_
 refine QM.leave (.inl rfl) [.tmp 2] Try.results52 rfl ?_
 intro w' hm' hc' hg'
 exact fo_newleaf h4 hb7 hb5 hm' (by (repeat' (first | exact SubM.nil _ | refine SubM.cons (by rfl) ?_ | refine SubM.app ?_))) hc'
end Go.Eng
namespace Go.Eng
open Go Go.Proofs Go.RowKit
def foA (q : List (Int × Wt)) : List (Array Value) := q.map (fun x => #[.int .i64 x.1, .agg (fWt x.2).toArray])
theorem foA_len (q : List (Int × Wt)) : (foA q).length = q.length := List.length_map ..
theorem foA_get {q : List (Int × Wt)} {k : Nat} (h : k < q.length) : (foA q)[k]? = some #[.int .i64 (qd q k).1, .agg (fWt (qd q k).2).toArray] := by
  unfold foA; rw [List.getElem?_map, List.getElem?_eq_getElem h]
  unfold qd; rw [List.getD_eq_getElem?_getD, List.getElem?_eq_getElem h]; rfl
theorem foA_inv {q : List (Int × Wt)} {k : Nat} {av : Array Value} (h : (foA q)[k]? = some av) : k < q.length ∧ av = #[.int .i64 (qd q k).1, .agg (fWt (qd q k).2).toArray] := by
  have hk : k < q.length := by have := (List.getElem?_eq_some_iff.1 h).1; rwa [foA_len] at this
  rw [foA_get hk] at h
  exact ⟨hk, (Option.some.inj h).symm⟩
abbrev qF (c b : Nat) : Nat × Obj := (c, .cells #[.pointer (some ⟨b, 0, none⟩)] 72 (0, 0))
def FoA (b n0 : Nat) (v : Value) (m : Mem0) : Prop := ∃ c1, v = .func (.func 58) #[] #[.pointer (some ⟨c1, 0, none⟩)] ∧ m = [qF c1 b] ∧ n0 ≤ c1
theorem FoA.mono {b : Nat} : ∀ (k k' : Nat) u m, k' ≤ k → FoA b k u m → FoA b k' u m := fun k k' u m h ⟨b1, h1, h2, h3⟩ => ⟨b1, h1, h2, by omega⟩
def atI (ps : List Nat) (k : Nat) : Int := if k < ps.length then ((ps.getD k 0 : Nat) : Int) else -1
theorem atI_0 {most : Int} {f : Fq} {q : List (Int × Wt)} {ps F : List Nat} (h : FqR most f q ps F) : f.first = atI ps 0 := by
  rw [h.first]; unfold atI
  by_cases e : ps.length = 0
  · rw [if_pos e, if_neg (by omega)]
  · rw [if_neg e, if_pos (by omega)]
set_option maxRecDepth 100000 in
theorem foall_spec (b : Nat) (w : World) : Ret Try.prog 43 #[.pointer (some ⟨b, 0, none⟩)] w (fun v w' => Ext w w' ∧ ∃ m, FoA b w.heap.size v m ∧ Mem w' m ∧ ∀ p ∈ m, w.heap.size ≤ p.1) := by
 refine Ret.enterM (l := [.pointer (some ⟨b, 0, none⟩)]) Try.func43 rfl Try.ntmps43 rfl ([]) (no) (Mem.nil w) ?_
 refine wpM.seq (wpM.region ?_)
 refine LM.box rfl rfl (fun b1 hb1 => ?_)
 refine LM.as rfl ?_
 refine LM.nil (QM.sub (e' := [(1, _)]) ⟨rfl, trivial⟩ (QM.then (wpM.seq (wpM.region ?_))))
 refine LM.val (ov_makeFunc rfl) ?_
 refine LM.as rfl ?_
 refine LM.nil (QM.sub (e' := [(2, _)]) ⟨rfl, trivial⟩ (QM.then ?_))
 refine wpM.ret ?_
 refine QM.leave (.inl rfl) [.tmp 2] Try.results43 rfl ?_
 intro w' hm' hc' hg'
 exact ⟨hc', _, ⟨b1, rfl, rfl, hb1⟩, SubM.mem au1 _ hm', fun p hp => by simp only [List.mem_cons, List.not_mem_nil, or_false] at hp; subst hp; assumption⟩
set_option maxRecDepth 100000 in
theorem foall_seq {n0 b c1 : Nat} {most tk : Int} {q : List (Int × Wt)} {m : Mem0} (h : FoM most n0 b q tk m) : SeqCP Try.prog 58 #[.pointer (some ⟨c1, 0, none⟩)] (foA q) (fun w => Mem w (qF c1 b :: m)) (True) := by
 obtain ⟨f, ps, F, hR, htk, ba, bw, es, cl, ma, rfl, hA, he, hb, hbw⟩ := h; have hlq := hR.lq; have hat0 := atI_0 hR
 refine SeqCP.enter (lb := [.pointer (some ⟨c1, 0, none⟩)]) Try.func58 rfl Try.ntmps58 rfl ?_
 intro l0 n0 J Jx w0 hn0 hfin hJr hL hy
 refine wpM.openJ (n := n0) (fun wj1 hmj1 hCj1 hjj1 hkj1 => ?_)
 refine wpM.seq ?_
 refine wpM.seq (wpM.region ?_)
 refine LM.rdC (fun w hm hc hg => om_ld (M := qF c1 b :: fqC b ba bw f.first f.last f.tk :: (bw, .map es cl) :: ma) Try.isAgg72 rfl rfl w ((hL.rd hJr hjj1 hc))) ?_
 refine LM.val (ov_peql (by kernel_rfl) rfl rfl) ?_
 refine LM.nil (QM.sub (e' := [(0, _), (1, _), (7, _)]) au9 (QM.then ?_))
 refine wpM.condF rfl ?_
 refine wpM.skip ?_
 refine QM.then (wpM.seq (wpM.region ?_))
 refine LM.rdC (fun w hm hc hg => om_ld (M := qF c1 b :: fqC b ba bw f.first f.last f.tk :: (bw, .map es cl) :: ma) Try.isAgg72 rfl rfl w ((hL.rd hJr hjj1 hc))) ?_
 refine LM.val (ov_nilCheck rfl) ?_
 refine LM.val (ov_field Try.underlying102 rfl Try.sizeOf3 rfl (k := 2) rfl rfl) ?_
 refine LM.rdC (fun w hm hc hg => om_ld (M := qF c1 b :: fqC b ba bw f.first f.last f.tk :: (bw, .map es cl) :: ma) Try.isAgg3 rfl rfl w ((hL.rd hJr hjj1 hc))) ?_
 refine LM.as rfl ?_
 refine LM.nil (QM.sub (e' := [(0, _), (1, _), (3, _)]) au9 (QM.then ?_))
 refine wpM.block ?_
 refine wpM.closeJ hL hCj1 hjj1 hkj1 (kk_top _) (((fun k => []) : Nat → Mem0) (0)) (SubM.mem (by (try dsimp only); (repeat' (first | exact SubM.nil _ | refine SubM.cons rfl ?_ | refine SubM.app ?_)))) (by (try dsimp only); (repeat' (first | exact pn_nil | refine pn_cons (by first | (left; omega) | (right; simp; done)) rfl ?_ | refine pn_app ?_ ?_))) ?_
 refine wpM.loopK (α := Nat) (fun k => [(3, .int .i64 (atI ps k))]) [(0, _), (1, _)] (fun k => []) (fun k => (fun w => J (k) ([]) w ∧ top w)) (fun k => k ≤ q.length) (fun k => q.length - k) (0) ⟨(by first | rfl | exact lk rfl (congrArg (Value.int .i64) hat0)), rfl, rfl, trivial⟩ au1 (fun _ h => h) (Nat.zero_le _) ?_
 rintro k hk
 change wpM _ _ _ _ _ _ _ ([]) _ _ _
 refine wpM.openJ (n := n0) (fun wj2 hmj2 hCj2 hjj2 hkj2 => ?_)
 refine wpM.seq ?_
 refine wpM.seq (wpM.region ?_)
 refine LM.mv rfl ?_
 refine LM.val (ov_neq rfl rfl) ?_
 refine LM.nil (QM.sub (e' := [(0, _), (1, _), (3, _), (13, _)]) au9 (QM.then ?_))
 refine wpM.condD rfl (fun h1 => ?_) (fun h1 => ?_)
 ·
  have hkl : k < q.length := (by rcases Nat.lt_or_ge k q.length with z | z; exact z; exact absurd (by unfold atI; rw [if_neg (by omega)]) h1); have hkp : k < ps.length := (by omega); rw [show atI ps k = ((ps.getD k 0 : Nat) : Int) from if_pos hkp]; have hpl := hR.cov _ (.inl (gd_mem hkp)); have hon := isA_on hpl (hR.lk k hkp).1; have hgv : getA f.a (ps.getD k 0 : Nat) = ⟨(qd q k).2, (qd q k).1, pv ps k, nv ps k⟩ := (by rw [getA_on hpl (hR.lk k hkp).1]; exact (hR.lk k hkp).2)
  refine wpM.skip ?_
  refine QM.then ?_
  refine wpM.block ?_
  refine wpM.seq (wpM.region ?_)
  refine LM.rdC (fun w hm hc hg => om_ld (M := qF c1 b :: fqC b ba bw f.first f.last f.tk :: (bw, .map es cl) :: ma) Try.isAgg72 rfl rfl w ((hL.rd hJr hjj2 hc))) ?_
  refine LM.val (ov_nilCheck rfl) ?_
  refine LM.val (ov_field Try.underlying102 rfl Try.sizeOf100 rfl (k := 0) rfl rfl) ?_
  refine LM.rdC (fun w hm hc hg => om_ld (M := qF c1 b :: fqC b ba bw f.first f.last f.tk :: (bw, .map es cl) :: ma) Try.isAgg100 rfl rfl w ((hL.rd hJr hjj2 hc))) ?_
  refine LM.mv rfl ?_
  refine LM.callE (oc_call (enters_fn Try.func54 (by kernel_rfl) rfl) rfl) (fun w hm hc hg => (by have k9 := arGet_spec (ps.getD k 0 : Nat) w hA (((hL.rd hJr hjj2 hc)).tail.tail.tail); rw [hon, hgv] at k9; exact k9)) ?_
  refine LM.mv rfl ?_
  refine LM.val (ov_extract rfl rfl) ?_
  refine LM.val (ov_extract rfl rfl) ?_
  refine LM.alloc Try.zeroValue98 rfl (fun b4 hb4 => ?_)
  refine LM.stW Try.sizeOf98 rfl rfl rfl rfl au7 (fun hlt => by first | exact absurd hlt (by omega) | (simp [inM]; done)) ?_
  refine LM.as rfl ?_
  refine LM.nil (QM.sub (e' := [(0, _), (1, _), (4, _)]) au9 (QM.then ?_))
  refine wpM.seq ?_
  refine wpM.seq (wpM.region ?_)
  refine LM.mv rfl (LM.val (ov_field Try.underlying98 rfl Try.sizeOf3 rfl (k := 3) rfl rfl) ?_)
  refine LM.rd (om_ld Try.isAgg3 rfl rfl) ?_
  refine LM.val (ov_field Try.underlying98 rfl Try.sizeOf32 rfl (k := 0) rfl rfl) ?_
  first | refine LM.rd (om_ldW Try.isAgg32 Try.sizeOf32 rfl rfl) ?_ | refine LM.rd (om_ldA Try.isAgg32 Try.sizeOf32 rfl (vs := [_, _, _]) rfl ⟨rfl, rfl, rfl, trivial⟩) ?_
  refine LM.yieldJ (n := n0) (k := k) hL rfl rfl (fun m w hj => hy (k) _ m w (foA_get hkl) hj) hCj2 hjj2 hkj2 (kk_top _) ([]) ((b4, .cells (fLk ⟨(qd q k).2, (qd q k).1, pv ps k, nv ps k⟩).toArray 98 (0, 0)) :: []) ((b4, .cells (fLk ⟨(qd q k).2, (qd q k).1, pv ps k, nv ps k⟩).toArray 98 (0, 0)) :: []) (by simp only [List.append_assoc, List.cons_append, List.nil_append]) (SubM.mem au1) (by (repeat' (first | exact pn_nil | refine lo_cons (by omega) rfl ?_ | refine lo_dm (by intro D hD; first | (have := hds1 D hD; omega) | (have := hds2 D hD; omega)) ?_))) (by (try dsimp only); (repeat' (first | exact pn_nil | refine pn_cons (by first | (left; omega) | (right; simp; done)) rfl ?_ | refine pn_app ?_ ?_))) (fun wj3 hmj3 hCj3 hjj3 hkj3 => ?_) (fun wj3 hmj3 hCj3 hjj3 hkj3 => ?_)
  ·
   change LM _ _ _ _ _ _ _ _ ((b4, .cells (fLk ⟨(qd q k).2, (qd q k).1, pv ps k, nv ps k⟩).toArray 98 (0, 0)) :: []) _ _ _
   first | refine LM.val (ov_notD rfl) ?_ | refine LM.val (ov_not rfl) ?_
   refine LM.nil (QM.sub (e' := [(0, _), (1, _), (4, _), (29, _)]) au9 (QM.then ?_))
   refine wpM.condF rfl ?_
   refine wpM.skip ?_
   refine QM.then (wpM.region ?_)
   refine LM.val (ov_field Try.underlying98 rfl Try.sizeOf3 rfl (k := 5) rfl rfl) ?_
   refine LM.rd (om_ld Try.isAgg3 rfl rfl) ?_
   refine LM.as rfl ?_
   refine LM.nil (QM.sub (e' := [(0, _), (1, _), (3, _)]) au9 ?_)
   refine QM.block_normal ?_
   refine QM.closeJ hL hCj3 hjj3 hkj3 (kk_top _) (((fun k => []) : Nat → Mem0) (k + 1)) (SubM.mem (by (try dsimp only); (repeat' (first | exact SubM.nil _ | refine SubM.cons rfl ?_ | refine SubM.app ?_)))) (by (try dsimp only); (repeat' (first | exact pn_nil | refine pn_cons (by first | (left; omega) | (right; simp; done)) rfl ?_ | refine pn_app ?_ ?_))) ?_
   refine QM.againK (k + 1) ⟨(by first | rfl | exact lk rfl (congrArg (Value.int .i64) hat0)), rfl, rfl, trivial⟩ au1 (fun _ h => h) ?_ ?_
   · omega
   · omega
  change LM _ _ _ _ _ _ _ _ ([]) _ _ _
  first | refine LM.val (ov_notD rfl) ?_ | refine LM.val (ov_not rfl) ?_
  refine LM.nil (QM.sub (e' := [(0, _), (1, _), (4, _), (29, _)]) au9 (QM.then ?_))
  refine wpM.condT rfl ?_
  refine wpM.ret ?_
  refine QM.then_ret ?_
  refine QM.block_ret ?_
  refine QM.then_ret ?_
  refine QM.block_ret ?_
  refine QM.closeX hL hCj3 hjj3 hkj3 (kk_top _) ?_
  refine QM.leaveDJ (ds := ([])) (.inl rfl) [] Try.results58 rfl hn0 hd_nil (gl_x hL (Nat.le_refl _) (gl_top _)) ?_
  intro w' hm' hg'
  exact .inr hg'.1
 refine wpM.exit ?_
 refine QM.then_exit ?_
 refine QM.then_exit ?_
 refine QM.block_hit ?_
 refine QM.closeJ hL hCj2 hjj2 hkj2 (kk_top _) ([]) (SubM.mem (by (try dsimp only); (repeat' (first | exact SubM.nil _ | refine SubM.cons rfl ?_ | refine SubM.app ?_)))) (by (try dsimp only); (repeat' (first | exact pn_nil | refine pn_cons (by first | (left; omega) | (right; simp; done)) rfl ?_ | refine pn_app ?_ ?_))) ?_
 refine QM.leaveDJ (ds := ([])) (.inr rfl) [] Try.results58 rfl hn0 hd_nil (gl_j hL (Nat.le_refl _) (gl_top _)) ?_
 intro w' hm' hg'
 have hkl : k = q.length := (by rcases Nat.lt_or_ge k q.length with z | z; exact absurd (by unfold atI; rw [if_pos (by omega)]; omega) h1; omega); subst hkl; exact .inl (by rw [foA_len]; exact hg'.1)
end Go.Eng
namespace Go.Eng
open Go Go.Proofs Go.RowKit
set_option maxRecDepth 100000 in
theorem hpop_spec {most : Int} {n0 b : Nat} {s : Hs} {m : Mem0} (w : World) (h : HpM most n0 b s m) (h0 : 0 < s.l.length) (hlen : s.l.length ≤ 4096) (hM : Mem w m) : Ret Try.prog 57 #[.pointer (some ⟨b, 0, none⟩)] w (Upd m (fun u m' => u = .tuple #[.agg (fKy (hg s.l 0)).toArray, .int .i64 (hg s.l 0).x, .bool true] ∧ HpM most n0 b (tkS s 0) m') w) := by
 refine Ret.enterM (l := [.pointer (some ⟨b, 0, none⟩)]) Try.func57 rfl Try.ntmps57 rfl (m ++ []) ((inM m)) (by rw [List.append_nil]; exact hM) ?_
 refine wpM.seq (wpM.region ?_)
 refine LM.alloc Try.zeroValue68 rfl (fun b2 hb2 => ?_)
 refine LM.as rfl (LM.as rfl ?_)
 refine LM.nil (QM.sub (e' := [(0, _), (2, _)]) au9 (QM.then ?_))
 refine wpM.seq ?_
 refine wpM.seq (wpM.region ?_)
 refine LM.mv rfl ?_
 refine LM.callE (oc_call (enters_fn Try.func49 (by kernel_rfl) rfl) rfl) (fun w hm hc hg => hlen_spec w h (hm.pick m)) ?_
 refine LM.val (ov_eql rfl rfl) ?_
 refine LM.nil (QM.sub (e' := [(0, _), (2, _), (7, _)]) au9 (QM.then ?_))
 refine wpM.condD rfl (fun h1 => ?_) (fun h1 => ?_)
 ·
  omega
 refine wpM.skip ?_
 refine QM.then (wpM.seq (wpM.region ?_))
 refine LM.mv rfl ?_
 refine LM.cU (oc_call (enters_fn Try.func50 (by kernel_rfl) rfl) rfl) (fun w hm hc hg => htake_spec 0 w h h0 hlen (hm.pick m)) h.wlk (fun p hp _ => inM_in p hp) ?_
 rintro u14 m14 ⟨rfl, h14⟩ hin14
 refine LM.val (ov_extract rfl rfl) ?_
 refine LM.val (ov_extract rfl rfl) ?_
 refine LM.val (ov_extract rfl rfl) ?_
 refine LM.stW Try.sizeOf68 rfl rfl rfl rfl au7 (fun hlt => by first | exact inM_0 | exact inM_1 | exact absurd hlt (by omega)) ?_
 refine LM.as rfl (LM.as rfl ?_)
 refine LM.nil (QM.sub (e' := [(2, _), (3, _), (4, _)]) au9 (QM.then ?_))
 refine wpM.ret ?_
 refine QM.leaveCs (ds := ([])) (.inl rfl) [.cell 2 68, .tmp 3, .tmp 4] Try.results57 hd_nil (rc_w rfl Try.isAgg68 Try.sizeOf68 rfl (rc_tmp rfl (rc_tmp rfl rc_nil))) ?_
 intro w' hm' hc'
 exact upd_m ⟨rfl, h14⟩ hm' (by (repeat' (first | exact SubM.nil _ | refine SubM.cons (by rfl) ?_ | refine SubM.app ?_))) hc' hin14
set_option maxRecDepth 100000 in
theorem hremove_yes {most : Int} {n0 b : Nat} {s : Hs} {m : Mem0} (i : Nat) (w : World) (h : HpM most n0 b s m) (hA : HAt s) (hi : i < s.l.length) (hlen : s.l.length ≤ 4096) (hM : Mem w m) : Ret Try.prog 34 #[.pointer (some ⟨b, 0, none⟩), .int .i64 (hg s.l i).id] w (Upd m (fun u m' => u = .tuple #[.agg (fKy (hg s.l i)).toArray, .int .i64 (hg s.l i).x, .bool true] ∧ HpM most n0 b (tkS s i) m') w) := by
 have hH := h; obtain ⟨ad, n, cap, bm, es, cl, ms, rfl, hn, hs, he, hb, hbm⟩ := h; have he1 := he.1; have hw0 := hA.wh i hi
 refine Ret.enterM (l := [.pointer (some ⟨b, 0, none⟩), .int .i64 (hg s.l i).id]) Try.func34 rfl Try.ntmps34 rfl (hpC b most ad n cap bm :: (bm, .map es cl) :: (ms ++ [])) ((inM (hpC b most ad n cap bm :: (bm, .map es cl) :: ms))) (by rw [List.append_nil]; exact hM) ?_
 refine wpM.seq (wpM.region ?_)
 refine LM.alloc Try.zeroValue68 rfl (fun b4 hb4 => ?_)
 refine LM.as rfl (LM.as rfl ?_)
 refine LM.nil (QM.sub (e' := [(0, _), (1, _), (4, _)]) au9 (QM.then ?_))
 refine wpM.seq ?_
 refine wpM.seq (wpM.region ?_)
 refine LM.mv rfl ?_
 refine LM.callE (oc_call (enters_fn Try.func49 (by kernel_rfl) rfl) rfl) (fun w hm hc hg => hlen_spec w hH (hm.pick (hpC b most ad n cap bm :: (bm, .map es cl) :: ms))) ?_
 refine LM.val (ov_gtr rfl rfl) ?_
 refine LM.nil (QM.sub (e' := [(0, _), (1, _), (4, _), (12, _)]) au9 (QM.then ?_))
 refine wpM.condD rfl (fun h1 => ?_) (fun h1 => ?_)
 ·
  refine wpM.seq (wpM.region ?_)
  refine LM.mv rfl ?_
  refine LM.val (ov_nilCheck rfl) ?_
  refine LM.val (ov_field Try.underlying85 rfl Try.sizeOf82 rfl (k := 2) rfl rfl) ?_
  refine LM.rd (om_ld Try.isAgg82 rfl rfl) ?_
  refine LM.mv rfl ?_
  refine LM.rd (om_lkOk Try.underlying82 Try.underlying3 Try.zeroValue3 rfl rfl (by assumption) (getD_some' hw0) (has_some' hw0)) ?_
  refine LM.mv rfl ?_
  refine LM.val (ov_extract rfl rfl) ?_
  refine LM.val (ov_extract rfl rfl) ?_
  refine LM.as rfl (LM.as rfl ?_)
  refine LM.nil (QM.sub (e' := [(0, _), (4, _), (7, _), (8, _)]) au9 (QM.then (wpM.seq (wpM.region ?_))))
  refine LM.mv rfl ?_
  refine LM.nil (QM.sub (e' := [(0, _), (4, _), (7, _), (22, _)]) au9 (QM.then ?_))
  first | refine wpM.condD rfl (fun h2 => ?_) (fun h2 => ?_) | refine wpM.condB rfl (fun h2 => ?_) (fun h2 => ?_)
  ·
   refine wpM.seq (wpM.region ?_)
   refine LM.mv rfl (LM.mv rfl ?_)
   refine LM.cU (oc_call (enters_fn Try.func50 (by kernel_rfl) rfl) rfl) (fun w hm hc hg => htake_spec i w hH hi hlen (hm.pick (hpC b most ad n cap bm :: (bm, .map es cl) :: ms))) hH.wlk (fun p hp _ => inM_in p hp) ?_
   rintro u25 m25 ⟨rfl, h25⟩ hin25
   refine LM.val (ov_extract rfl rfl) ?_
   refine LM.val (ov_extract rfl rfl) ?_
   refine LM.val (ov_extract rfl rfl) ?_
   refine LM.stW Try.sizeOf68 rfl rfl rfl rfl au7 (fun hlt => by first | exact inM_0 | exact inM_1 | exact absurd hlt (by omega)) ?_
   refine LM.as rfl (LM.as rfl ?_)
   refine LM.nil (QM.sub (e' := [(4, _), (5, _), (6, _)]) au9 (QM.then ?_))
   refine wpM.ret ?_
   refine QM.then_ret ?_
   refine QM.leaveCs (ds := ([])) (.inl rfl) [.cell 4 68, .tmp 5, .tmp 6] Try.results34 hd_nil (rc_w rfl Try.isAgg68 Try.sizeOf68 rfl (rc_tmp rfl (rc_tmp rfl rc_nil))) ?_
   intro w' hm' hc'
   exact upd_m ⟨rfl, h25⟩ hm' (by (repeat' (first | exact SubM.nil _ | refine SubM.cons (by rfl) ?_ | refine SubM.app ?_))) hc' hin25
  cases h2
 omega
theorem getD_none' {l : List (Int × Value)} {a : Int} (h : aget l a = none) : (aget l a).getD (.int .i64 0) = .int .i64 0 := by rw [h]; rfl
theorem has_none' {l : List (Int × Value)} {a : Int} (h : aget l a = none) : (aget l a).isSome = false := by rw [h]; rfl
set_option maxRecDepth 100000 in
theorem hremove_no {most : Int} {n0 b : Nat} {s : Hs} {m : Mem0} (id : Int) (w : World) (h : HpM most n0 b s m) (hw0 : aget s.at_ id = none) (hM : Mem w m) : Ret Try.prog 34 #[.pointer (some ⟨b, 0, none⟩), .int .i64 id] w (fun u w' => u = .tuple #[.agg #[U 0#64, .int .i64 0], .int .i64 0, .bool false] ∧ Ext w w') := by
 have hH := h; obtain ⟨ad, n, cap, bm, es, cl, ms, rfl, hn, hs, he, hb, hbm⟩ := h; have he1 := he.1
 refine Ret.enterM (l := [.pointer (some ⟨b, 0, none⟩), .int .i64 id]) Try.func34 rfl Try.ntmps34 rfl (hpC b most ad n cap bm :: (bm, .map es cl) :: (ms ++ [])) (no) (by rw [List.append_nil]; exact hM) ?_
 refine wpM.seq (wpM.region ?_)
 refine LM.alloc Try.zeroValue68 rfl (fun b4 hb4 => ?_)
 refine LM.as rfl (LM.as rfl ?_)
 refine LM.nil (QM.sub (e' := [(0, _), (1, _), (4, _)]) au9 (QM.then ?_))
 refine wpM.seq ?_
 refine wpM.seq (wpM.region ?_)
 refine LM.mv rfl ?_
 refine LM.callE (oc_call (enters_fn Try.func49 (by kernel_rfl) rfl) rfl) (fun w hm hc hg => hlen_spec w hH (hm.pick (hpC b most ad n cap bm :: (bm, .map es cl) :: ms))) ?_
 refine LM.val (ov_gtr rfl rfl) ?_
 refine LM.nil (QM.sub (e' := [(0, _), (1, _), (4, _), (12, _)]) au9 (QM.then ?_))
 refine wpM.condD rfl (fun h1 => ?_) (fun h1 => ?_)
 ·
  refine wpM.seq (wpM.region ?_)
  refine LM.mv rfl ?_
  refine LM.val (ov_nilCheck rfl) ?_
  refine LM.val (ov_field Try.underlying85 rfl Try.sizeOf82 rfl (k := 2) rfl rfl) ?_
  refine LM.rd (om_ld Try.isAgg82 rfl rfl) ?_
  refine LM.mv rfl ?_
  refine LM.rd (om_lkOk Try.underlying82 Try.underlying3 Try.zeroValue3 rfl rfl (by assumption) (getD_none' hw0) (has_none' hw0)) ?_
  refine LM.mv rfl ?_
  refine LM.val (ov_extract rfl rfl) ?_
  refine LM.val (ov_extract rfl rfl) ?_
  refine LM.as rfl (LM.as rfl ?_)
  refine LM.nil (QM.sub (e' := [(0, _), (4, _), (7, _), (8, _)]) au9 (QM.then (wpM.seq (wpM.region ?_))))
  refine LM.mv rfl ?_
  refine LM.nil (QM.sub (e' := [(0, _), (4, _), (7, _), (22, _)]) au9 (QM.then ?_))
  first | refine wpM.condD rfl (fun h2 => ?_) (fun h2 => ?_) | refine wpM.condB rfl (fun h2 => ?_) (fun h2 => ?_)
  ·
   cases h2
  refine wpM.skip ?_
  refine QM.then (wpM.seq (wpM.region ?_))
  refine LM.as rfl ?_
  refine LM.nil (QM.sub (e' := [(4, _), (9, _)]) au9 (QM.then (wpM.seq (wpM.region ?_))))
  refine LM.val (ov_build (cs := #[_, _]) rfl (by first | rfl | kernel_rfl)) ?_
  refine LM.mv rfl ?_
  refine LM.stW Try.sizeOf68 rfl rfl rfl rfl au7 (fun hlt => by first | exact inM_0 | exact inM_1 | exact absurd hlt (by omega)) ?_
  refine LM.as rfl (LM.as rfl ?_)
  refine LM.nil (QM.sub (e' := [(4, _), (5, _), (6, _)]) au9 (QM.then ?_))
  refine wpM.ret ?_
  refine QM.leaveCs (ds := ([])) (.inl rfl) [.cell 4 68, .tmp 5, .tmp 6] Try.results34 hd_nil (rc_w rfl Try.isAgg68 Try.sizeOf68 rfl (rc_tmp rfl (rc_tmp rfl rc_nil))) ?_
  intro w' hm' hc'
  exact ⟨rfl, hc'⟩
 refine wpM.skip ?_
 refine QM.then (wpM.seq (wpM.region ?_))
 refine LM.as rfl ?_
 refine LM.nil (QM.sub (e' := [(4, _), (9, _)]) au9 (QM.then (wpM.seq (wpM.region ?_))))
 refine LM.val (ov_build (cs := #[_, _]) rfl (by first | rfl | kernel_rfl)) ?_
 refine LM.mv rfl ?_
 refine LM.stW Try.sizeOf68 rfl rfl rfl rfl au7 (fun hlt => by first | exact inM_0 | exact inM_1 | exact absurd hlt (by omega)) ?_
 refine LM.as rfl (LM.as rfl ?_)
 refine LM.nil (QM.sub (e' := [(4, _), (5, _), (6, _)]) au9 (QM.then ?_))
 refine wpM.ret ?_
 refine QM.leaveCs (ds := ([])) (.inl rfl) [.cell 4 68, .tmp 5, .tmp 6] Try.results34 hd_nil (rc_w rfl Try.isAgg68 Try.sizeOf68 rfl (rc_tmp rfl (rc_tmp rfl rc_nil))) ?_
 intro w' hm' hc'
 exact ⟨rfl, hc'⟩
def newMost (k : Int) : Int := if k < 0 then 0 else if 4096 < k then 4096 else k
theorem newMost_ok (k : Int) : 0 ≤ newMost k ∧ newMost k ≤ 4096 := by unfold newMost; (repeat' split) <;> omega
theorem newMost_eq (k : Int) : (if (4096 : Int) < (if 0 > k then 0 else k) then 4096 else (if 0 > k then 0 else k)) = newMost k := by unfold newMost; (repeat' split) <;> omega
theorem newHp_ok (k : Int) : HpR (newMost k) ⟨[], []⟩ [] := by
  refine ⟨newMost_ok k, fun i _ h => (by cases h), ⟨fun i j h => (by cases h), List.nodup_nil, fun i h => (by cases h), fun t _ => rfl⟩, List.Perm.refl _, List.Pairwise.nil, (newMost_ok k).1⟩
def HoN (k : Int) (n0 : Nat) (v : Value) (m : Mem0) : Prop := ∃ b, v = .pointer (some ⟨b, 0, none⟩) ∧ HoM (newMost k) n0 b [] m
theorem HoN.mono {k : Int} : ∀ (n n' : Nat) (v : Value) (m : Mem0), n' ≤ n → HoN k n v m → HoN k n' v m := fun n n' v m hn ⟨b, h1, h⟩ => ⟨b, h1, h.mono hn⟩
theorem ho_newleaf {k : Int} {b bm : Nat} {M : Mem0} {w w' : World} (hb : w.heap.size ≤ b) (hbm : w.heap.size ≤ bm) (hm : Mem w' M) (hs : SubM M (hpC b (newMost k) none 0 0 bm :: (bm, .map #[] 0) :: [])) (hc : Ext w w') :
    Ext w w' ∧ ∃ m, HoN k w.heap.size (.pointer (some ⟨b, 0, none⟩)) m ∧ Mem w' m ∧ ∀ p ∈ m, w.heap.size ≤ p.1 := by
  have h : HoM (newMost k) w.heap.size b [] (hpC b (newMost k) none 0 0 bm :: (bm, .map #[] 0) :: []) := ⟨⟨[], []⟩, newHp_ok k, none, 0, 0, bm, #[], 0, [], rfl, rfl, .nil _ _ _ _, ensS_nil _, hb, hbm⟩
  exact ⟨hc, _, ⟨b, rfl, h⟩, hs.mem w' hm, h.ge⟩
set_option maxRecDepth 100000 in
theorem honew_spec (k : Int) (w : World) : Ret Try.prog 26 #[.int .i64 k] w (fun v w' => Ext w w' ∧ ∃ m, HoN k w.heap.size v m ∧ Mem w' m ∧ ∀ p ∈ m, w.heap.size ≤ p.1) := by
 refine Ret.enterM (l := [.int .i64 k]) Try.func26 rfl Try.ntmps26 rfl ([]) (no) (Mem.nil w) ?_
 refine wpM.seq (wpM.region ?_)
 refine LM.as rfl ?_
 refine LM.nil (QM.sub (e' := [(0, _)]) ⟨rfl, trivial⟩ (QM.then (wpM.seq (wpM.region ?_))))
 refine LM.mv rfl ?_
 refine LM.val (ov_max rfl rfl) ?_
 refine LM.val (ov_min rfl rfl) ?_
 refine LM.makeMap rfl (fun b6 hb6 => ?_)
 rw [newMost_eq]
 refine LM.val (ov_build (cs := #[_, _, _]) rfl (by first | rfl | kernel_rfl)) ?_
 refine LM.box rfl rfl (fun b8 hb8 => ?_)
 refine LM.as rfl ?_
 refine LM.nil (QM.sub (e' := [(2, _)]) ⟨rfl, trivial⟩ (QM.then ?_))
 refine wpM.ret ?_
 refine QM.leave (.inl rfl) [.tmp 2] Try.results26 rfl ?_
 intro w' hm' hc' hg'
 exact ho_newleaf hb8 hb6 hm' (by (repeat' (first | exact SubM.nil _ | refine SubM.cons (by rfl) ?_ | refine SubM.app ?_))) hc'
end Go.Eng
namespace Go.Eng
open Go Go.Proofs Go.RowKit
abbrev sd (S : List Hi) (k : Nat) : Hi := S.getD k default
theorem sd_drop {S : List Hi} {k : Nat} (h : k < S.length) : S.drop k = sd S k :: S.drop (k + 1) := by
  rw [List.drop_eq_getElem_cons h]; unfold sd; rw [List.getD_eq_getElem?_getD, List.getElem?_eq_getElem h]; rfl
theorem HoM.len {most : Int} {n0 b : Nat} {S : List Hi} {m : Mem0} (h : HoM most n0 b S m) : (S.length : Int) ≤ most ∧ most ≤ 4096 := by
  obtain ⟨s, h1, _⟩ := h; have := h1.le; have := h1.mst; have := h1.pm.length_eq; omega
theorem HoM.ids {most : Int} {n0 b : Nat} {S : List Hi} {m : Mem0} (h : HoM most n0 b S m) : S.Pairwise (fun a b => a.id ≠ b.id) := by obtain ⟨s, h1, _⟩ := h; exact h1.ids
theorem HoM.srt {most : Int} {n0 b : Nat} {S : List Hi} {m : Mem0} (h : HoM most n0 b S m) : S.Pairwise hiLt := by obtain ⟨s, h1, _⟩ := h; exact h1.srt
def hoE (most : Int) (S : List Hi) (x : Hi) : Int := if ∃ y ∈ S, y.id = x.id then 12 else if most ≤ (S.length : Int) then 3 else 0
def hoX (most : Int) (S : List Hi) (x : Hi) : List Hi := if ∃ y ∈ S, y.id = x.id then S else if most ≤ (S.length : Int) then S else insS x S
theorem hopush_spec {most : Int} {n0 b : Nat} {S : List Hi} {m : Mem0} (x : Hi) (w : World) (h : HoM most n0 b S m) (hn0 : n0 ≤ w.heap.size) (hM : Mem w m) :
    Ret Try.prog 29 #[.pointer (some ⟨b, 0, none⟩), .agg (fKy x).toArray, .int .i64 x.x] w (Upd m (fun u m' => u = .int .i64 (hoE most S x) ∧ HoM most n0 b (hoX most S x) m') w) := by
  have hl := h.len
  obtain ⟨s, h1, h2⟩ := h
  have hpl := h1.pm.length_eq
  refine (hpush_spec x w h2 (by omega) hl.2 hn0 hM).mono (fun u w' hU => hU.imp (fun u m' ⟨e, hF⟩ => ?_))
  have hh := h1.has x.id
  unfold hoE hoX
  unfold hpE hpX at *
  by_cases c : ∃ y ∈ S, y.id = x.id
  · rw [if_pos (hh.2 c)] at e hF
    rw [if_pos c, if_pos c]; exact ⟨e, s, h1, hF⟩
  · have c' : ¬ (aget s.at_ x.id).isSome = true := fun z => c (hh.1 z)
    rw [if_neg c'] at e hF
    rw [if_neg c, if_neg c]
    rw [hpl] at e hF
    by_cases c2 : most ≤ (S.length : Int)
    · rw [if_pos c2] at e hF ⊢
      rw [if_pos c2]; exact ⟨e, s, h1, hF⟩
    · rw [if_neg c2] at e hF ⊢
      rw [if_neg c2]; exact ⟨e, _, push_heap h1 x (fun y hy z => c ⟨y, hy, z⟩) (by omega), hF⟩
theorem hopeek_spec {most : Int} {n0 b : Nat} {S : List Hi} {m : Mem0} (k : Nat) (w : World) (h : HoM most n0 b (S.drop k) m) (hM : Mem w m) :
    Ret Try.prog 56 #[.pointer (some ⟨b, 0, none⟩)] w (fun u w' => u = .tuple #[.agg (fKy (sd S k)).toArray, .int .i64 (sd S k).x, .bool (decide (k < S.length))] ∧ Ext w w') := by
  obtain ⟨s, h1, h2⟩ := h
  have hpl := h1.pm.length_eq
  rw [List.length_drop] at hpl
  by_cases c : k < S.length
  · have h3 := hpeek_yes w h2 (by omega) hM
    rw [sd_drop c] at h1
    rw [first_heap h1] at h3
    rw [decide_eq_true c]; exact h3
  · have h3 := hpeek_no w h2 (by omega) hM
    have e : sd S k = default := by unfold sd; rw [List.getD_eq_getElem?_getD, List.getElem?_eq_none (by omega)]; rfl
    rw [decide_eq_false c, e]; exact h3
theorem hopop_spec {most : Int} {n0 b : Nat} {S : List Hi} {m : Mem0} (k : Nat) (w : World) (h : HoM most n0 b (S.drop k) m) (hk : k < S.length) (hM : Mem w m) :
    Ret Try.prog 57 #[.pointer (some ⟨b, 0, none⟩)] w (Upd m (fun u m' => u = .tuple #[.agg (fKy (sd S k)).toArray, .int .i64 (sd S k).x, .bool true] ∧ HoM most n0 b (S.drop (k + 1)) m') w) := by
  have hl := h.len
  obtain ⟨s, h1, h2⟩ := h
  have hpl := h1.pm.length_eq
  rw [List.length_drop] at hpl hl
  rw [sd_drop hk] at h1
  have h3 := hpop_spec w h2 (by omega) (by omega) hM
  rw [first_heap h1] at h3
  exact h3.mono (fun u w' hU => hU.imp (fun u m' ⟨e, hF⟩ => ⟨e, _, pop_heap h1, hF⟩))
theorem horemove_yes {most : Int} {n0 b : Nat} {S : List Hi} {m : Mem0} (x : Hi) (w : World) (h : HoM most n0 b S m) (hx : x ∈ S) (hM : Mem w m) :
    Ret Try.prog 34 #[.pointer (some ⟨b, 0, none⟩), .int .i64 x.id] w (Upd m (fun u m' => u = .tuple #[.agg (fKy x).toArray, .int .i64 x.x, .bool true] ∧ HoM most n0 b (S.filter (fun y => y.id ≠ x.id)) m') w) := by
  have hl := h.len
  obtain ⟨s, h1, h2⟩ := h
  have hpl := h1.pm.length_eq
  obtain ⟨i, hi, rfl⟩ := hg_of (h1.pm.mem_iff.2 hx)
  exact (hremove_yes i w h2 h1.at_ hi (by omega) hM).mono (fun u w' hU => hU.imp (fun u m' ⟨e, hF⟩ => ⟨e, _, take_heap h1 hi, hF⟩))
theorem horemove_no {most : Int} {n0 b : Nat} {S : List Hi} {m : Mem0} (id : Int) (w : World) (h : HoM most n0 b S m) (hx : ∀ y ∈ S, y.id ≠ id) (hM : Mem w m) :
    Ret Try.prog 34 #[.pointer (some ⟨b, 0, none⟩), .int .i64 id] w (fun u w' => u = .tuple #[.agg #[U 0#64, .int .i64 0], .int .i64 0, .bool false] ∧ Ext w w') := by
  obtain ⟨s, h1, h2⟩ := h
  refine hremove_no id w h2 ?_ hM
  cases hq : aget s.at_ id with
  | none => rfl
  | some v =>
    obtain ⟨y, hy, e⟩ := (h1.has id).1 (by rw [hq]; rfl)
    exact absurd e (hx y hy)
theorem filter_none {S : List Hi} {id : Int} (h : ∀ y ∈ S, y.id ≠ id) : S.filter (fun y => y.id ≠ id) = S := List.filter_eq_self.2 (fun y hy => decide_eq_true (h y hy))
def dueN (until_ : BitVec 64) (S : List Hi) : Nat := (S.takeWhile (fun x => decide (x.V.toNat ≤ until_.toNat))).length
def duA (until_ : BitVec 64) (S : List Hi) : List (Array Value) := (S.take (dueN until_ S)).map (fun x => #[.agg (fKy x).toArray, .int .i64 x.x])
theorem dueN_le (u : BitVec 64) (S : List Hi) : dueN u S ≤ S.length := by
  unfold dueN
  have := (List.takeWhile_sublist (l := S) (fun x => decide (x.V.toNat ≤ u.toNat))).length_le; exact this
theorem dueN_lt {u : BitVec 64} : ∀ {S : List Hi} {k : Nat}, k ≤ dueN u S → k < S.length → (sd S k).V.toNat ≤ u.toNat → k < dueN u S
  | [], k, _, h, _ => by cases h
  | x :: S, k, h1, h2, h3 => by
    unfold dueN at *
    by_cases c : x.V.toNat ≤ u.toNat
    · rw [List.takeWhile_cons_of_pos (by simpa using c)] at h1 ⊢
      simp only [List.length_cons] at *
      cases k with
      | zero => omega
      | succ k => have := dueN_lt (u := u) (S := S) (k := k) (by unfold dueN; omega) (by omega) h3; unfold dueN at this; omega
    · rw [List.takeWhile_cons_of_neg (by simpa using c)] at h1
      simp only [List.length_nil] at h1
      obtain rfl : k = 0 := by omega
      exact absurd h3 c
theorem dueN_p {u : BitVec 64} : ∀ {S : List Hi} {k : Nat}, k < dueN u S → (sd S k).V.toNat ≤ u.toNat
  | [], k, h => by cases h
  | x :: S, k, h => by
    unfold dueN at h
    by_cases c : x.V.toNat ≤ u.toNat
    · rw [List.takeWhile_cons_of_pos (by simpa using c)] at h
      cases k with
      | zero => exact c
      | succ k => exact dueN_p (S := S) (k := k) (by unfold dueN; simp only [List.length_cons] at h; omega)
    · rw [List.takeWhile_cons_of_neg (by simpa using c)] at h; cases h
theorem duA_len (u : BitVec 64) (S : List Hi) : (duA u S).length = dueN u S := by
  unfold duA; rw [List.length_map, List.length_take]; have := dueN_le u S; omega
theorem duA_get {u : BitVec 64} {S : List Hi} {k : Nat} (h : k < dueN u S) : (duA u S)[k]? = some #[.agg (fKy (sd S k)).toArray, .int .i64 (sd S k).x] := by
  have hl := dueN_le u S
  unfold duA; rw [List.getElem?_map, List.getElem?_take, if_pos h]
  unfold sd; rw [List.getD_eq_getElem?_getD, List.getElem?_eq_getElem (by omega)]; rfl
theorem duA_inv {u : BitVec 64} {S : List Hi} {k : Nat} {av : Array Value} (h : (duA u S)[k]? = some av) : k < dueN u S ∧ av = #[.agg (fKy (sd S k)).toArray, .int .i64 (sd S k).x] := by
  have hk : k < dueN u S := by have := (List.getElem?_eq_some_iff.1 h).1; rwa [duA_len] at this
  rw [duA_get hk] at h
  exact ⟨hk, (Option.some.inj h).symm⟩
abbrev hF (c b : Nat) : Nat × Obj := (c, .cells #[.pointer (some ⟨b, 0, none⟩)] 59 (0, 0))
abbrev uF (c : Nat) (u : BitVec 64) : Nat × Obj := (c, .cells #[U u] 30 (0, 0))
def DuA (b : Nat) (u : BitVec 64) (n0 : Nat) (v : Value) (m : Mem0) : Prop := ∃ c1 c2, v = .func (.func 55) #[] #[.pointer (some ⟨c1, 0, none⟩), .pointer (some ⟨c2, 0, none⟩)] ∧ m = hF c1 b :: uF c2 u :: [] ∧ n0 ≤ c1 ∧ n0 ≤ c2
theorem DuA.mono {b : Nat} {u : BitVec 64} : ∀ (k k' : Nat) v m, k' ≤ k → DuA b u k v m → DuA b u k' v m := fun k k' v m h ⟨c1, c2, h1, h2, h3, h4⟩ => ⟨c1, c2, h1, h2, by omega, by omega⟩
def DuT (most : Int) (nH b c1 c2 : Nat) (u : BitVec 64) (S : List Hi) (k : Nat) (m : Mem0) : Prop := ∃ mh, m = hF c1 b :: uF c2 u :: mh ∧ HoM most nH b (S.drop k) mh
set_option maxRecDepth 100000 in
theorem due_spec (b : Nat) (u : BitVec 64) (w : World) : Ret Try.prog 41 #[.pointer (some ⟨b, 0, none⟩), U u] w (fun v w' => Ext w w' ∧ ∃ m, DuA b u w.heap.size v m ∧ Mem w' m ∧ ∀ p ∈ m, w.heap.size ≤ p.1) := by
 refine Ret.enterM (l := [.pointer (some ⟨b, 0, none⟩), U u]) Try.func41 rfl Try.ntmps41 rfl ([]) (no) (Mem.nil w) ?_
 refine wpM.seq (wpM.region ?_)
 refine LM.box rfl rfl (fun b2 hb2 => ?_)
 refine LM.box rfl rfl (fun b3 hb3 => ?_)
 refine LM.as rfl ?_
 refine LM.nil (QM.sub (e' := [(2, _), (3, _)]) au9 (QM.then (wpM.seq (wpM.region ?_))))
 refine LM.val (ov_makeFunc rfl) ?_
 refine LM.as rfl ?_
 refine LM.nil (QM.sub (e' := [(4, _)]) ⟨rfl, trivial⟩ (QM.then ?_))
 refine wpM.ret ?_
 refine QM.leave (.inl rfl) [.tmp 4] Try.results41 rfl ?_
 intro w' hm' hc' hg'
 exact ⟨hc', _, ⟨b2, b3, rfl, rfl, hb2, hb3⟩, SubM.mem au1 _ hm', fun p hp => by simp only [List.mem_cons, List.not_mem_nil, or_false] at hp; rcases hp with rfl | rfl <;> assumption⟩
set_option maxRecDepth 100000 in
theorem due_seq {most : Int} {nH b c1 c2 : Nat} {u : BitVec 64} {S : List Hi} {mh0 : Mem0} (h : HoM most nH b S mh0) : SeqCS Try.prog 55 #[.pointer (some ⟨c1, 0, none⟩),  .pointer (some ⟨c2, 0, none⟩)] (duA u S) (fun _ => True) (hF c1 b :: uF c2 u :: mh0) (DuT most nH b c1 c2 u S) (True) := by
 refine SeqCS.enter (lb := [.pointer (some ⟨c1, 0, none⟩),  .pointer (some ⟨c2, 0, none⟩)]) Try.func55 rfl Try.ntmps55 rfl ?_
 intro l0 n0 J Jx w0 hn0 hfin hJr hL hy
 refine wpM.openJ (n := n0) (fun wj1 hmj1 hCj1 hjj1 hkj1 => ?_)
 refine wpM.block ?_
 refine wpM.closeJ hL hCj1 hjj1 hkj1 (kk_top _) (((fun ⟨k, mh⟩ => hF c1 b :: uF c2 u :: mh) : Nat × Mem0 → Mem0) ((0, mh0))) (SubM.mem (by (try dsimp only); (repeat' (first | exact SubM.nil _ | refine SubM.cons rfl ?_ | refine SubM.app ?_ | exact SubM.all _ | exact SubM.spl)))) (by (try dsimp only); (repeat' (first | exact pn_nil | exact pn_same2 (HoM.wlk (by assumption)) | exact pn_own2 hin25 h25.wlk | refine pn_cons (by first | (left; omega) | (right; simp; done)) rfl ?_ | refine pn_app ?_ ?_))) ?_
 refine wpM.loopK (α := Nat × Mem0) (fun ⟨k, mh⟩ => []) [(0, _), (1, _), (2, _)] (fun ⟨k, mh⟩ => hF c1 b :: uF c2 u :: (mh ++ [])) (fun ⟨k, mh⟩ => (fun w => J (k) (hF c1 b :: uF c2 u :: mh) w ∧ top w)) (fun ⟨k, mh⟩ => k ≤ dueN u S ∧ HoM most nH b (S.drop k) mh) (fun ⟨k, mh⟩ => S.length - k) ((0, mh0)) ⟨rfl, rfl, rfl, trivial⟩ (by (repeat' (first | exact SubM.nil _ | refine SubM.cons rfl ?_ | refine SubM.app ?_ | exact SubM.all _ | exact SubM.spl))) (fun _ h => h) ⟨Nat.zero_le _, h⟩ ?_
 rintro ⟨k, mh⟩ ⟨hk, hH⟩
 change wpM _ _ _ _ _ _ _ (hF c1 b :: uF c2 u :: (mh ++ [])) _ _ _
 refine wpM.openJ (n := n0) (fun wj2 hmj2 hCj2 hjj2 hkj2 => ?_)
 refine wpM.block ?_
 refine wpM.seq (wpM.region ?_)
 refine LM.rd (om_ld Try.isAgg59 rfl rfl) ?_
 refine LM.callE (oc_call (enters_fn Try.func56 (by kernel_rfl) rfl) rfl) (fun w hm hc hg => hopeek_spec k w hH (hm.pick mh)) ?_
 refine LM.mv rfl ?_
 refine LM.val (ov_extract rfl rfl) ?_
 refine LM.val (ov_extract rfl rfl) ?_
 refine LM.val (ov_extract rfl rfl) ?_
 refine LM.alloc Try.zeroValue68 rfl (fun b4 hb4 => ?_)
 refine LM.stW Try.sizeOf68 rfl rfl rfl rfl au7 (fun hlt => by first | exact absurd hlt (by omega) | (simp [inM]; done)) ?_
 refine LM.as rfl (LM.as rfl ?_)
 refine LM.nil (QM.sub (e' := [(0, _), (1, _), (2, _), (4, _), (6, _)]) au9 (QM.then ?_))
 refine wpM.seq ?_
 refine wpM.seq (wpM.region ?_)
 refine LM.mv rfl ?_
 refine LM.val (ov_notD rfl) ?_
 refine LM.mv rfl ?_
 refine LM.splitD (t := 17) rfl (fun h1 => ?_) (fun h1 => ?_)
 ·
  refine LM.dr 17 rfl rfl rfl (LM.dr 17 rfl rfl rfl (LM.dr 17 rfl rfl rfl (LM.dr 17 rfl rfl rfl ?_)))
  refine LM.val (ov_pickT rfl rfl) ?_
  refine LM.nil (QM.sub (e' := [(0, _), (1, _), (2, _), (4, _), (22, _)]) au9 (QM.then ?_))
  refine wpM.condT rfl ?_
  refine wpM.ret ?_
  refine QM.then_ret ?_
  refine QM.block_ret ?_
  refine QM.then_ret ?_
  refine QM.block_ret ?_
  refine QM.closeJ hL hCj2 hjj2 hkj2 (kk_top _) (hF c1 b :: uF c2 u :: mh) (SubM.mem (by (try dsimp only); (repeat' (first | exact SubM.nil _ | refine SubM.cons rfl ?_ | refine SubM.app ?_ | exact SubM.all _ | exact SubM.spl)))) (by (try dsimp only); (repeat' (first | exact pn_nil | exact pn_same2 (HoM.wlk (by assumption)) | exact pn_own2 hin25 h25.wlk | refine pn_cons (by first | (left; omega) | (right; simp; done)) rfl ?_ | refine pn_app ?_ ?_))) ?_
  refine QM.leaveDJ (ds := ([])) (.inl rfl) [] Try.results55 rfl hn0 hd_nil (gl_j hL (Nat.le_refl _) (gl_top _)) ?_
  intro w' hm' hg'
  have hkd : k = (duA u S).length := (by rw [duA_len]; have := dueN_le u S; omega); exact .inl ⟨_, ⟨mh, rfl, by rw [← hkd]; exact hH⟩, by rw [← hkd]; exact hg'.1⟩
 have hkS : k < S.length := Classical.not_not.1 h1
 refine LM.sp 17 rfl rfl rfl (LM.val (ov_field Try.underlying68 rfl Try.sizeOf30 rfl (k := 0) rfl rfl) (LM.sp 17 rfl rfl rfl ?_))
 refine LM.rd (om_ld Try.isAgg30 rfl rfl) ?_
 refine LM.sp 17 rfl rfl rfl ?_
 refine LM.rd (om_ld Try.isAgg30 rfl rfl) ?_
 refine LM.sp 17 rfl rfl rfl ?_
 refine LM.val (ov_ugtr rfl rfl) ?_
 refine LM.val (ov_pickF rfl rfl) ?_
 refine LM.nil (QM.sub (e' := [(0, _), (1, _), (2, _), (4, _), (22, _)]) au9 (QM.then ?_))
 refine wpM.condD rfl (fun h2 => ?_) (fun h2 => ?_)
 ·
  refine wpM.ret ?_
  refine QM.then_ret ?_
  refine QM.block_ret ?_
  refine QM.then_ret ?_
  refine QM.block_ret ?_
  refine QM.closeJ hL hCj2 hjj2 hkj2 (kk_top _) (hF c1 b :: uF c2 u :: mh) (SubM.mem (by (try dsimp only); (repeat' (first | exact SubM.nil _ | refine SubM.cons rfl ?_ | refine SubM.app ?_ | exact SubM.all _ | exact SubM.spl)))) (by (try dsimp only); (repeat' (first | exact pn_nil | exact pn_same2 (HoM.wlk (by assumption)) | exact pn_own2 hin25 h25.wlk | refine pn_cons (by first | (left; omega) | (right; simp; done)) rfl ?_ | refine pn_app ?_ ?_))) ?_
  refine QM.leaveDJ (ds := ([])) (.inl rfl) [] Try.results55 rfl hn0 hd_nil (gl_j hL (Nat.le_refl _) (gl_top _)) ?_
  intro w' hm' hg'
  have hkd : k = (duA u S).length := (by rw [duA_len]; rcases Nat.lt_or_ge k (dueN u S) with z | z; exact absurd (dueN_p z) (by omega); omega); exact .inl ⟨_, ⟨mh, rfl, by rw [← hkd]; exact hH⟩, by rw [← hkd]; exact hg'.1⟩
 have hkd : k < dueN u S := dueN_lt hk hkS (by omega)
 refine wpM.skip ?_
 refine QM.then (wpM.seq (wpM.region ?_))
 refine LM.rd (om_ld Try.isAgg59 rfl rfl) ?_
 refine LM.cU (oc_call (enters_fn Try.func57 (by kernel_rfl) rfl) rfl) (fun w hm hc hg => hopop_spec k w hH hkS (hm.pick mh)) hH.wlk (fun p hp _ => ⟨p, by simp [hp], rfl⟩) ?_
 rintro u25 m25 ⟨rfl, h25⟩ hin25
 refine LM.mv rfl ?_
 refine LM.val (ov_extract rfl rfl) ?_
 refine LM.val (ov_extract rfl rfl) ?_
 refine LM.val (ov_extract rfl rfl) ?_
 refine LM.stW Try.sizeOf68 rfl rfl rfl rfl au7 (fun hlt => by first | exact absurd hlt (by omega) | (simp [inM]; done)) ?_
 refine LM.as rfl (LM.as rfl ?_)
 refine LM.nil (QM.sub (e' := [(0, _), (1, _), (2, _), (4, _), (7, _)]) au9 (QM.then (wpM.seq (wpM.region ?_))))
 refine LM.mv rfl ?_
 refine LM.rd (om_ldW Try.isAgg68 Try.sizeOf68 rfl rfl) ?_
 refine LM.mv rfl ?_
 refine LM.yieldS (n := n0) (k := k) hL rfl rfl (hF c1 b :: uF c2 u :: m25) (fun w hj => hy (k) _ _ w (duA_get hkd) (⟨m25, rfl, h25⟩) hj) hCj2 hjj2 hkj2 (kk_top _) ([]) (hF c1 b :: uF c2 u :: m25) (by first | rfl | simp only [List.append_assoc, List.cons_append, List.nil_append]) (SubM.mem (by (repeat' (first | exact SubM.nil _ | refine SubM.cons rfl ?_ | refine SubM.app ?_ | exact SubM.all _ | exact SubM.spl)))) (by (repeat' (first | exact pn_nil | refine lo_cons (by omega) rfl ?_ | refine lo_dm (by intro D hD; first | (have := hds1 D hD; omega) | (have := hds2 D hD; omega)) ?_))) (by (try dsimp only); (repeat' (first | exact pn_nil | exact pn_same2 (HoM.wlk (by assumption)) | exact pn_own2 hin25 h25.wlk | refine pn_cons (by first | (left; omega) | (right; simp; done)) rfl ?_ | refine pn_app ?_ ?_))) (fun wj3 hmj3 hCj3 hjj3 hkj3 => ?_) (fun wj3 hmj3 hCj3 hjj3 hkj3 => ?_)
 ·
  change LM _ _ _ _ _ _ _ _ (hF c1 b :: uF c2 u :: m25) _ _ _
  first | refine LM.val (ov_notD rfl) ?_ | refine LM.val (ov_not rfl) ?_
  refine LM.nil (QM.sub (e' := [(0, _), (1, _), (2, _), (33, _)]) au9 (QM.then ?_))
  refine wpM.condF rfl ?_
  refine wpM.skip ?_
  refine QM.block_normal ?_
  refine QM.closeJ hL hCj3 hjj3 hkj3 (kk_top _) (((fun ⟨k, mh⟩ => hF c1 b :: uF c2 u :: mh) : Nat × Mem0 → Mem0) (k + 1, m25)) (SubM.mem (by (try dsimp only); (repeat' (first | exact SubM.nil _ | refine SubM.cons rfl ?_ | refine SubM.app ?_ | exact SubM.all _ | exact SubM.spl)))) (by (try dsimp only); (repeat' (first | exact pn_nil | exact pn_same2 (HoM.wlk (by assumption)) | exact pn_own2 hin25 h25.wlk | refine pn_cons (by first | (left; omega) | (right; simp; done)) rfl ?_ | refine pn_app ?_ ?_))) ?_
  refine QM.againK (k + 1, m25) ⟨rfl, rfl, rfl, trivial⟩ (by (repeat' (first | exact SubM.nil _ | refine SubM.cons rfl ?_ | refine SubM.app ?_ | exact SubM.all _ | exact SubM.spl))) (fun _ h => h) ?_ ?_
  · exact ⟨hkd, h25⟩
  · first | omega | (dsimp only; omega)
 change LM _ _ _ _ _ _ _ _ ([]) _ _ _
 first | refine LM.val (ov_notD rfl) ?_ | refine LM.val (ov_not rfl) ?_
 refine LM.nil (QM.sub (e' := [(0, _), (1, _), (2, _), (33, _)]) au9 (QM.then ?_))
 refine wpM.condT rfl ?_
 refine wpM.ret ?_
 refine QM.block_ret ?_
 refine QM.then_ret ?_
 refine QM.block_ret ?_
 refine QM.closeX hL hCj3 hjj3 hkj3 (kk_top _) ?_
 refine QM.leaveDJ (ds := ([])) (.inl rfl) [] Try.results55 rfl hn0 hd_nil (gl_x hL (Nat.le_refl _) (gl_top _)) ?_
 intro w' hm' hg'
 exact .inr hg'.1
end Go.Eng
namespace Go.Eng
def mixF (x : BitVec 64) : BitVec 64 :=
  let x := x + 11400714819323198485#64
  let x := (x ^^^ (x >>> 30)) * 13787848793156543929#64
  let x := (x ^^^ (x >>> 27)) * 10723151780598845931#64
  x ^^^ (x >>> 31)
def bucketF (key n : Int) : Int := if n < 2 then 0 else (mixF (BitVec.ofInt 64 key) % BitVec.ofInt 64 n).toInt
def lo (x : BitVec 64) (k : Nat) : BitVec 64 := BitVec.ofNat 64 (x.toNat % 2 ^ k)
theorem ofInt_ne0 {n : Int} (h1 : 0 < n) (h2 : n ≤ 9223372036854775807) : BitVec.ofInt 64 n ≠ 0#64 := by
  intro h
  have := congrArg BitVec.toNat h
  rw [BitVec.toNat_ofInt] at this
  simp at this
  omega
theorem bucket_rng (key n : Int) (hn : n ≤ 9223372036854775807) : 0 ≤ bucketF key n ∧ (2 ≤ n → bucketF key n < n) ∧ (n < 2 → bucketF key n = 0) := by
  unfold bucketF
  split
  · exact ⟨by omega, by omega, fun _ => rfl⟩
  · rename_i h
    have h0 : (BitVec.ofInt 64 n).toNat = n.toNat := by rw [BitVec.toNat_ofInt]; simp; omega
    have h1 : (mixF (BitVec.ofInt 64 key) % BitVec.ofInt 64 n).toNat < n.toNat := by
      rw [BitVec.toNat_umod, h0]; exact Nat.mod_lt _ (by omega)
    generalize mixF (BitVec.ofInt 64 key) % BitVec.ofInt 64 n = r at *
    have h2 : r.toInt = r.toNat := by rw [BitVec.toInt_eq_toNat_of_lt]; omega
    rw [h2]
    exact ⟨by omega, fun _ => by omega, fun _ => by omega⟩
end Go.Eng
namespace Go.Eng
end Go.Eng
namespace Go.Eng
/-! mixes apart -/
end Go.Eng
namespace Go.Eng
open Go Go.Proofs Go.RowKit
set_option maxRecDepth 100000 in
theorem mix_spec (x : BitVec 64) (w : World) : Ret Try.prog 66 #[U x] w (fun v w' => v = U (mixF x) ∧ Ext w w') := by
 refine Ret.enterM (l := [U x]) Try.func66 rfl Try.ntmps66 rfl ([]) (no) (Mem.nil w) ?_
 refine wpM.seq (wpM.region ?_)
 refine LM.as rfl ?_
 refine LM.nil (QM.sub (e' := [(0, _)]) ⟨rfl, trivial⟩ (QM.then (wpM.seq (wpM.region ?_))))
 refine LM.mv rfl ?_
 refine LM.val (ov_uadd (b := 11400714819323198485#64) rfl rfl) ?_
 refine LM.as rfl ?_
 refine LM.nil (QM.sub (e' := [(0, _)]) ⟨rfl, trivial⟩ (QM.then (wpM.seq (wpM.region ?_))))
 refine LM.mv rfl (LM.mv rfl ?_)
 refine LM.val (ov_ushr rfl rfl (by omega)) ?_
 refine LM.val (ov_uxor rfl rfl) ?_
 refine LM.val (ov_umul (b := 13787848793156543929#64) rfl rfl) ?_
 refine LM.as rfl ?_
 refine LM.nil (QM.sub (e' := [(0, _)]) ⟨rfl, trivial⟩ (QM.then (wpM.seq (wpM.region ?_))))
 refine LM.mv rfl (LM.mv rfl ?_)
 refine LM.val (ov_ushr rfl rfl (by omega)) ?_
 refine LM.val (ov_uxor rfl rfl) ?_
 refine LM.val (ov_umul (b := 10723151780598845931#64) rfl rfl) ?_
 refine LM.as rfl ?_
 refine LM.nil (QM.sub (e' := [(0, _)]) ⟨rfl, trivial⟩ (QM.then (wpM.seq (wpM.region ?_))))
 refine LM.mv rfl (LM.mv rfl ?_)
 refine LM.val (ov_ushr rfl rfl (by omega)) ?_
 refine LM.val (ov_uxor rfl rfl) ?_
 refine LM.as rfl ?_
 refine LM.nil (QM.sub (e' := [(2, _)]) ⟨rfl, trivial⟩ (QM.then ?_))
 refine wpM.ret ?_
 refine QM.leave (.inl rfl) [.tmp 2] Try.results66 rfl ?_
 intro w' hm' hc' hg'
 exact ⟨rfl, hc'⟩
set_option maxRecDepth 100000 in
theorem bucket_spec (key n : Int) (w : World) (hn : n ≤ 9223372036854775807) : Ret Try.prog 51 #[.int .i64 key, .int .i64 n] w (fun v w' => v = .int .i64 (bucketF key n) ∧ Ext w w') := by
 refine Ret.enterM (l := [.int .i64 key, .int .i64 n]) Try.func51 rfl Try.ntmps51 rfl ([]) (no) (Mem.nil w) ?_
 refine wpM.seq (wpM.region ?_)
 refine LM.as rfl ?_
 refine LM.nil (QM.sub (e' := [(0, _), (1, _)]) au9 (QM.then ?_))
 refine wpM.seq ?_
 refine wpM.seq (wpM.region ?_)
 refine LM.mv rfl ?_
 refine LM.val (ov_lss rfl rfl) ?_
 refine LM.nil (QM.sub (e' := [(0, _), (1, _), (6, _)]) au9 (QM.then ?_))
 refine wpM.condD rfl (fun h1 => ?_) (fun h1 => ?_)
 ·
  refine wpM.seq (wpM.region ?_)
  refine LM.as rfl ?_
  refine LM.nil (QM.sub (e' := [(4, _)]) ⟨rfl, trivial⟩ (QM.then ?_))
  refine wpM.ret ?_
  refine QM.then_ret ?_
  refine QM.leave (.inl rfl) [.tmp 4] Try.results51 rfl ?_
  intro w' hm' hc' hg'
  exact ⟨by simp only [resV, bucketF]; rw [if_pos h1], hc'⟩
 refine wpM.skip ?_
 refine QM.then (wpM.seq (wpM.region ?_))
 refine LM.mv rfl ?_
 refine LM.val (ov_toU Try.underlying3 Try.underlying30 rfl) ?_
 refine LM.callE (oc_call (enters_fn Try.func66 (by kernel_rfl) rfl) rfl) (fun w hm hc hg => mix_spec _ w) ?_
 refine LM.mv rfl ?_
 refine LM.val (ov_toU Try.underlying3 Try.underlying30 rfl) ?_
 have hb := ofInt_ne0 (n := n) (by omega) (by omega)
 refine LM.val (ov_urem rfl rfl (by first | decide | assumption)) ?_
 refine LM.val (ov_ofU Try.underlying30 Try.underlying3 rfl) ?_
 refine LM.as rfl ?_
 refine LM.nil (QM.sub (e' := [(4, _)]) ⟨rfl, trivial⟩ (QM.then ?_))
 refine wpM.ret ?_
 refine QM.leave (.inl rfl) [.tmp 4] Try.results51 rfl ?_
 intro w' hm' hc' hg'
 exact ⟨by simp only [resV, bucketF]; rw [if_neg h1], hc'⟩
end Go.Eng
namespace Go.Eng
open Go Go.Proofs Go.RowKit
structure Rw where
  key : Int
  b : Nat
  q : List (Int × Wt)
  tk : Int
instance : Inhabited Rw := ⟨⟨0, 0, [], 0⟩⟩
def fRw (r : Rw) : List Value := [.int .i64 r.key, .pointer (some ⟨r.b, 0, none⟩)]
structure Bh where
  ad : Option Addr
  n : Nat
  cap : Nat
instance : Inhabited Bh := ⟨⟨none, 0, 0⟩⟩
def fBh (h : Bh) : List Value := [.slice h.ad h.n h.cap]
abbrev bg (hs : List Bh) (j : Nat) : Bh := hs.getD j default
abbrev rg (rs : List Rw) (i : Nat) : Rw := rs.getD i default
abbrev tbC (b : Nat) (ad : Option Addr) (n cap : Nat) (most each : Int) (bs bh : Nat) : Nat × Obj := (b, .cells #[.slice ad n cap, .int .i64 most, .int .i64 each, .map (some bs), .pointer (some ⟨bh, 0, none⟩)] 62 (0, 0))
set_option maxRecDepth 100000 in
theorem tqueue_yes {n0 b n cap : Nat} {ad : Option Addr} {most each : Int} {bs bh : Nat} {hs : List Bh} {rs : List Rw} {mo ms : Mem0} (key : Int) (fr : Bool) (j i : Nat) (w : World) (hn : n = hs.length) (hn64 : n ≤ 64) (ho : Sl fBh 93 1 n0 hs (.slice ad n cap) mo) (hj : j < hs.length) (hbk : bucketF key (n : Nat) = (j : Nat)) (hr : Sl fRw 95 2 n0 rs (.slice (bg hs j).ad (bg hs j).n (bg hs j).cap) ms) (hi : i < rs.length) (hk : (rg rs i).key = key) (hno : ∀ i', i' < i → (rg rs i').key ≠ key) (hM : Mem w (tbC b ad n cap most each bs bh :: (mo ++ ms))) : Ret Try.prog 37 #[.pointer (some ⟨b, 0, none⟩), .int .i64 key, .bool fr] w (fun u w' => u = .pointer (some ⟨(rg rs i).b, 0, none⟩) ∧ Ext w w') := by
 have hrl := hr.len.1; have hrm : rs.length ≤ 9223372036854775807 := Nat.le_trans hr.len.2.1 (by unfold maxLen; decide); generalize hhn : (bg hs j).n = hn0 at hr hrl; generalize hha : (bg hs j).ad = ha0 at hr; generalize hhc : (bg hs j).cap = hc0 at hr
 refine Ret.enterM (l := [.pointer (some ⟨b, 0, none⟩), .int .i64 key, .bool fr]) Try.func37 rfl Try.ntmps37 rfl (tbC b ad n cap most each bs bh :: (mo ++ (ms ++ []))) (no) (by rw [List.append_nil]; exact hM) ?_
 refine wpM.seq (wpM.region ?_)
 refine LM.as rfl ?_
 refine LM.nil (QM.sub (e' := [(0, _), (1, _), (2, _)]) au9 (QM.then (wpM.seq (wpM.region ?_))))
 refine LM.mv rfl (LM.mv rfl ?_)
 refine LM.val (ov_nilCheck rfl) ?_
 refine LM.val (ov_field Try.underlying62 rfl Try.sizeOf57 rfl (k := 0) rfl rfl) ?_
 refine LM.rd (om_ld Try.isAgg57 rfl rfl) ?_
 refine LM.val (ov_len Try.underlying57 rfl) ?_
 refine LM.callE (oc_call (enters_fn Try.func51 (by kernel_rfl) rfl) rfl) (fun w hm hc hg => bucket_spec key (n : Nat) w (by omega)) ?_
 rw [hbk]
 refine LM.as rfl ?_
 refine LM.nil (QM.sub (e' := [(0, _), (1, _), (2, _), (7, _)]) au9 (QM.then ?_))
 refine wpM.seq ?_
 refine wpM.seq (wpM.region ?_)
 refine LM.mv rfl ?_
 refine LM.val (ov_nilCheck rfl) ?_
 refine LM.val (ov_field Try.underlying62 rfl Try.sizeOf57 rfl (k := 0) rfl rfl) ?_
 refine LM.rd (om_ld Try.isAgg57 rfl rfl) ?_
 refine LM.mv rfl ?_
 refine LM.val (ov_idxSN au6 Try.underlying57 Try.sizeOf93 rfl rfl (by omega)) ?_
 refine LM.rd (om_sl1 (by assumption) (by intro _; rfl) Try.isAgg93 rfl rfl au3 (by rfl)) ?_
 rw [hhn, hha, hhc]
 refine LM.val (ov_len Try.underlying93 rfl) ?_
 refine LM.mv rfl ?_
 refine LM.nil (QM.sub (e' := [(0, _), (1, _), (2, _), (7, _), (24, _), (25, _), (26, _)]) au9 (QM.then ?_))
 refine wpM.block ?_
 refine wpM.loopK0 (α := Nat) (fun i1 => [(26, .int .i64 (i1 : Nat))]) [(0, _), (1, _), (2, _), (7, _), (24, _), (25, _)] (fun i1 => tbC b ad n cap most each bs bh :: (mo ++ (ms ++ []))) (fun i1 => i1 ≤ i) (fun i1 => rs.length - i1) (0) ⟨au2, rfl, rfl, rfl, rfl, rfl, rfl, trivial⟩ au1 (Nat.zero_le _) ?_
 rintro i1 hi1
 change wpM _ _ _ _ _ _ _ (tbC b ad n cap most each bs bh :: (mo ++ (ms ++ []))) _ _ _
 refine wpM.seq (wpM.region ?_)
 refine LM.val (ov_lss rfl rfl) ?_
 refine LM.nil (QM.sub (e' := [(0, _), (1, _), (2, _), (7, _), (24, _), (25, _), (26, _), (27, _)]) au9 (QM.then ?_))
 refine wpM.seq ?_
 refine wpM.condD rfl (fun h1 => ?_) (fun h1 => ?_)
 ·
  refine wpM.skip ?_
  refine QM.then ?_
  refine wpM.seq ?_
  refine wpM.block ?_
  refine wpM.seq (wpM.region ?_)
  refine LM.val (ov_idxSN au6 Try.underlying93 Try.sizeOf95 rfl rfl (by omega)) ?_
  refine LM.rd (om_slA (by assumption) (by intro _; rfl) Try.isAgg95 Try.sizeOf95 rfl au3) ?_
  refine LM.alloc Try.zeroValue95 rfl (fun b9 hb9 => ?_)
  refine LM.stW Try.sizeOf95 rfl rfl rfl rfl au7 (fun hlt => by first | exact inM_0 | exact inM_1 | exact absurd hlt (by omega)) ?_
  refine LM.nil (QM.sub (e' := [(0, _), (1, _), (2, _), (7, _), (9, _), (24, _), (25, _), (26, _)]) au9 (QM.then (wpM.seq (wpM.region ?_))))
  refine LM.val (ov_field Try.underlying95 rfl Try.sizeOf3 rfl (k := 0) rfl rfl) ?_
  refine LM.rd (om_ld Try.isAgg3 rfl rfl) ?_
  refine LM.mv rfl ?_
  refine LM.val (ov_eql rfl rfl) ?_
  refine LM.nil (QM.sub (e' := [(0, _), (1, _), (2, _), (7, _), (9, _), (24, _), (25, _), (26, _), (33, _)]) au9 (QM.then ?_))
  refine wpM.condD rfl (fun h2 => ?_) (fun h2 => ?_)
  ·
   refine wpM.seq (wpM.region ?_)
   refine LM.val (ov_field Try.underlying95 rfl Try.sizeOf72 rfl (k := 1) rfl rfl) ?_
   refine LM.rd (om_ld Try.isAgg72 rfl rfl) ?_
   refine LM.as rfl ?_
   refine LM.nil (QM.sub (e' := [(6, _)]) ⟨rfl, trivial⟩ (QM.then ?_))
   refine wpM.ret ?_
   refine QM.block_ret ?_
   refine QM.then_ret ?_
   refine QM.then_ret ?_
   refine QM.block_ret ?_
   refine QM.then_ret ?_
   refine QM.leave (.inl rfl) [.tmp 6] Try.results37 rfl ?_
   intro w' hm' hc' hg'
   have e : i1 = i := (by rcases Nat.lt_or_ge i1 i with z | z; exact absurd h2 (hno i1 z); omega); subst e; exact ⟨rfl, hc'⟩
  refine wpM.skip ?_
  refine QM.block_normal ?_
  refine QM.then (wpM.region ?_)
  refine LM.val (ov_add64 rfl rfl (by omega)) ?_
  refine LM.mv rfl ?_
  refine LM.nil (QM.sub (e' := [(0, _), (1, _), (2, _), (7, _), (24, _), (25, _), (26, _)]) au9 ?_)
  refine QM.againK (i1 + 1) ⟨au2, rfl, rfl, rfl, rfl, rfl, rfl, trivial⟩ au1 (fun _ h => h) ?_ ?_
  · rcases Nat.lt_or_ge i1 i with z | z; omega; exact absurd (by rw [show i1 = i by omega]; exact hk) h2
  · omega
 omega
set_option maxRecDepth 100000 in
theorem tqueue_no {n0 b n cap : Nat} {ad : Option Addr} {most each : Int} {bs bh : Nat} {hs : List Bh} {rs : List Rw} {mo ms : Mem0} (key : Int) (j : Nat) (w : World) (hn : n = hs.length) (hn64 : n ≤ 64) (ho : Sl fBh 93 1 n0 hs (.slice ad n cap) mo) (hj : j < hs.length) (hbk : bucketF key (n : Nat) = (j : Nat)) (hr : Sl fRw 95 2 n0 rs (.slice (bg hs j).ad (bg hs j).n (bg hs j).cap) ms) (hno : ∀ i', i' < rs.length → (rg rs i').key ≠ key) (hM : Mem w (tbC b ad n cap most each bs bh :: (mo ++ ms))) : Ret Try.prog 37 #[.pointer (some ⟨b, 0, none⟩), .int .i64 key, .bool false] w (fun u w' => u = .pointer none ∧ Ext w w') := by
 have hrl := hr.len.1; have hrm : rs.length ≤ 9223372036854775807 := Nat.le_trans hr.len.2.1 (by unfold maxLen; decide); generalize hhn : (bg hs j).n = hn0 at hr hrl; generalize hha : (bg hs j).ad = ha0 at hr; generalize hhc : (bg hs j).cap = hc0 at hr
 refine Ret.enterM (l := [.pointer (some ⟨b, 0, none⟩), .int .i64 key, .bool false]) Try.func37 rfl Try.ntmps37 rfl (tbC b ad n cap most each bs bh :: (mo ++ (ms ++ []))) (no) (by rw [List.append_nil]; exact hM) ?_
 refine wpM.seq (wpM.region ?_)
 refine LM.as rfl ?_
 refine LM.nil (QM.sub (e' := [(0, _), (1, _), (2, _)]) au9 (QM.then (wpM.seq (wpM.region ?_))))
 refine LM.mv rfl (LM.mv rfl ?_)
 refine LM.val (ov_nilCheck rfl) ?_
 refine LM.val (ov_field Try.underlying62 rfl Try.sizeOf57 rfl (k := 0) rfl rfl) ?_
 refine LM.rd (om_ld Try.isAgg57 rfl rfl) ?_
 refine LM.val (ov_len Try.underlying57 rfl) ?_
 refine LM.callE (oc_call (enters_fn Try.func51 (by kernel_rfl) rfl) rfl) (fun w hm hc hg => bucket_spec key (n : Nat) w (by omega)) ?_
 rw [hbk]
 refine LM.as rfl ?_
 refine LM.nil (QM.sub (e' := [(0, _), (1, _), (2, _), (7, _)]) au9 (QM.then ?_))
 refine wpM.seq ?_
 refine wpM.seq (wpM.region ?_)
 refine LM.mv rfl ?_
 refine LM.val (ov_nilCheck rfl) ?_
 refine LM.val (ov_field Try.underlying62 rfl Try.sizeOf57 rfl (k := 0) rfl rfl) ?_
 refine LM.rd (om_ld Try.isAgg57 rfl rfl) ?_
 refine LM.mv rfl ?_
 refine LM.val (ov_idxSN au6 Try.underlying57 Try.sizeOf93 rfl rfl (by omega)) ?_
 refine LM.rd (om_sl1 (by assumption) (by intro _; rfl) Try.isAgg93 rfl rfl au3 (by rfl)) ?_
 rw [hhn, hha, hhc]
 refine LM.val (ov_len Try.underlying93 rfl) ?_
 refine LM.mv rfl ?_
 refine LM.nil (QM.sub (e' := [(0, _), (1, _), (2, _), (7, _), (24, _), (25, _), (26, _)]) au9 (QM.then ?_))
 refine wpM.block ?_
 refine wpM.loopK0 (α := Nat) (fun i1 => [(26, .int .i64 (i1 : Nat))]) [(0, _), (1, _), (2, _), (7, _), (24, _), (25, _)] (fun i1 => tbC b ad n cap most each bs bh :: (mo ++ (ms ++ []))) (fun i1 => i1 ≤ rs.length) (fun i1 => rs.length - i1) (0) ⟨au2, rfl, rfl, rfl, rfl, rfl, rfl, trivial⟩ au1 (Nat.zero_le _) ?_
 rintro i1 hi1
 change wpM _ _ _ _ _ _ _ (tbC b ad n cap most each bs bh :: (mo ++ (ms ++ []))) _ _ _
 refine wpM.seq (wpM.region ?_)
 refine LM.val (ov_lss rfl rfl) ?_
 refine LM.nil (QM.sub (e' := [(0, _), (1, _), (2, _), (7, _), (24, _), (25, _), (26, _), (27, _)]) au9 (QM.then ?_))
 refine wpM.seq ?_
 refine wpM.condD rfl (fun h1 => ?_) (fun h1 => ?_)
 ·
  refine wpM.skip ?_
  refine QM.then ?_
  refine wpM.seq ?_
  refine wpM.block ?_
  refine wpM.seq (wpM.region ?_)
  refine LM.val (ov_idxSN au6 Try.underlying93 Try.sizeOf95 rfl rfl (by omega)) ?_
  refine LM.rd (om_slA (by assumption) (by intro _; rfl) Try.isAgg95 Try.sizeOf95 rfl au3) ?_
  refine LM.alloc Try.zeroValue95 rfl (fun b9 hb9 => ?_)
  refine LM.stW Try.sizeOf95 rfl rfl rfl rfl au7 (fun hlt => by first | exact inM_0 | exact inM_1 | exact absurd hlt (by omega)) ?_
  refine LM.nil (QM.sub (e' := [(0, _), (1, _), (2, _), (7, _), (9, _), (24, _), (25, _), (26, _)]) au9 (QM.then (wpM.seq (wpM.region ?_))))
  refine LM.val (ov_field Try.underlying95 rfl Try.sizeOf3 rfl (k := 0) rfl rfl) ?_
  refine LM.rd (om_ld Try.isAgg3 rfl rfl) ?_
  refine LM.mv rfl ?_
  refine LM.val (ov_eql rfl rfl) ?_
  refine LM.nil (QM.sub (e' := [(0, _), (1, _), (2, _), (7, _), (9, _), (24, _), (25, _), (26, _), (33, _)]) au9 (QM.then ?_))
  refine wpM.condD rfl (fun h2 => ?_) (fun h2 => ?_)
  ·
   exact absurd h2 (hno i1 (by omega))
  refine wpM.skip ?_
  refine QM.block_normal ?_
  refine QM.then (wpM.region ?_)
  refine LM.val (ov_add64 rfl rfl (by omega)) ?_
  refine LM.mv rfl ?_
  refine LM.nil (QM.sub (e' := [(0, _), (1, _), (2, _), (7, _), (24, _), (25, _), (26, _)]) au9 ?_)
  refine QM.againK (i1 + 1) ⟨au2, rfl, rfl, rfl, rfl, rfl, rfl, trivial⟩ au1 (fun _ h => h) ?_ ?_
  · omega
  · omega
 refine wpM.exit ?_
 refine QM.then_exit ?_
 refine QM.then_exit ?_
 refine QM.block_hit ?_
 refine QM.then ?_
 refine wpM.seq ?_
 refine wpM.seq (wpM.region ?_)
 refine LM.mv rfl ?_
 first | refine LM.val (ov_notD rfl) ?_ | refine LM.val (ov_not rfl) ?_
 refine LM.nil (QM.sub (e' := [(0, _), (1, _), (7, _), (38, _)]) au9 (QM.then ?_))
 first | refine wpM.condD rfl (fun h3 => ?_) (fun h3 => ?_) | refine wpM.condB rfl (fun h3 => ?_) (fun h3 => ?_)
 ·
  refine wpM.seq (wpM.region ?_)
  refine LM.as rfl ?_
  refine LM.nil (QM.sub (e' := [(6, _)]) ⟨rfl, trivial⟩ (QM.then ?_))
  refine wpM.ret ?_
  refine QM.then_ret ?_
  refine QM.leave (.inl rfl) [.tmp 6] Try.results37 rfl ?_
  intro w' hm' hc' hg'
  exact ⟨rfl, hc'⟩
 cases h3
end Go.Eng
namespace Go.Eng
open Go Go.Proofs Go.RowKit
def RwN (key each : Int) (n0 n1 j : Nat) (hs : List Bh) (rs : List Rw) (ad : Option Addr) (n cap : Nat) (u : Value) (m : Mem0) : Prop :=
  ∃ b' h' mo' ms' mq, u = .pointer (some ⟨b', 0, none⟩) ∧ m = mo' ++ (ms' ++ mq) ∧ Sl fBh 93 1 n0 (hs.set j h') (.slice ad n cap) mo' ∧ h'.n = rs.length + 1 ∧ Sl fRw 95 2 n0 (rs ++ [⟨key, b', [], 0⟩]) (.slice h'.ad h'.n h'.cap) ms' ∧ FoM (newAr each).most n1 b' [] 0 mq
theorem rwn_leaf {key each : Int} {n0 j n n' cap cap' b' : Nat} {hs : List Bh} {rs : List Rw} {ad ad' : Option Addr} {mo ms mo' ms' mq M : Mem0} {w w' : World} (ho : Sl fBh 93 1 n0 (hs.set j ⟨ad', n', cap'⟩) (.slice ad n cap) mo') (hr : Sl fRw 95 2 n0 (rs ++ [⟨key, b', [], 0⟩]) (.slice ad' n' cap') ms') (hq : FoM (newAr each).most w.heap.size b' [] 0 mq)
    (hm : Mem w' M) (hs' : SubM M (mo' ++ (ms' ++ (mq ++ [])))) (hc : Chg (inM (mo ++ ms)) w w') (h1 : inn mo w.heap.size mo') (h2 : inn ms w.heap.size ms') :
    Upd (mo ++ ms) (fun u m => RwN key each n0 w.heap.size j hs rs ad n cap u m) w (.pointer (some ⟨b', 0, none⟩)) w' := by
  rw [List.append_nil] at hs'
  refine ⟨hc, _, ⟨b', ⟨ad', n', cap'⟩, mo', ms', mq, rfl, rfl, ho, hr.len.1.trans (by rw [List.length_append, List.length_singleton]), hr, hq⟩, hs'.mem w' hm, fun p hp => ?_⟩
  rcases List.mem_append.1 hp with hp | hp
  · exact (h1 p hp).imp id (fun ⟨q, hq, e⟩ => ⟨q, List.mem_append_left _ hq, e⟩)
  · rcases List.mem_append.1 hp with hp | hp
    · exact (h2 p hp).imp id (fun ⟨q, hq, e⟩ => ⟨q, List.mem_append_right _ hq, e⟩)
    · exact .inl (hq.ge p hp)
theorem inM_al {x y : Mem0} : ∀ p ∈ x, inM (x ++ y) p.1 := fun p hp => ⟨p, List.mem_append_left _ hp, rfl⟩
theorem inM_ar {x y : Mem0} : ∀ p ∈ y, inM (x ++ y) p.1 := fun p hp => ⟨p, List.mem_append_right _ hp, rfl⟩
set_option maxRecDepth 100000 in
theorem tqueue_new {n0 b n cap : Nat} {ad : Option Addr} {most each : Int} {bs bh : Nat} {hs : List Bh} {rs : List Rw} {mo ms : Mem0} (key : Int) (j : Nat) (w : World) (hn : n = hs.length) (hn64 : n ≤ 64) (ho : Sl fBh 93 1 n0 hs (.slice ad n cap) mo) (hj : j < hs.length) (hbk : bucketF key (n : Nat) = (j : Nat)) (hr : Sl fRw 95 2 n0 rs (.slice (bg hs j).ad (bg hs j).n (bg hs j).cap) ms) (hrm : rs.length ≤ 1000000000) (hno : ∀ i', i' < rs.length → (rg rs i').key ≠ key) (hn0 : n0 ≤ w.heap.size) (hM : Mem w (tbC b ad n cap most each bs bh :: (mo ++ ms))) : Ret Try.prog 37 #[.pointer (some ⟨b, 0, none⟩), .int .i64 key, .bool true] w (Upd (mo ++ ms) (fun u m => RwN key each n0 w.heap.size j hs rs ad n cap u m) w) := by
 have hrl := hr.len.1; generalize hhn : (bg hs j).n = hn0 at hr hrl; generalize hha : (bg hs j).ad = ha0 at hr; generalize hhc : (bg hs j).cap = hc0 at hr
 refine Ret.enterM (l := [.pointer (some ⟨b, 0, none⟩), .int .i64 key, .bool true]) Try.func37 rfl Try.ntmps37 rfl (tbC b ad n cap most each bs bh :: (mo ++ (ms ++ []))) (inM (mo ++ ms)) (by rw [List.append_nil]; exact hM) ?_
 refine wpM.seq (wpM.region ?_)
 refine LM.as rfl ?_
 refine LM.nil (QM.sub (e' := [(0, _), (1, _), (2, _)]) au9 (QM.then (wpM.seq (wpM.region ?_))))
 refine LM.mv rfl (LM.mv rfl ?_)
 refine LM.val (ov_nilCheck rfl) ?_
 refine LM.val (ov_field Try.underlying62 rfl Try.sizeOf57 rfl (k := 0) rfl rfl) ?_
 refine LM.rd (om_ld Try.isAgg57 rfl rfl) ?_
 refine LM.val (ov_len Try.underlying57 rfl) ?_
 refine LM.callE (oc_call (enters_fn Try.func51 (by kernel_rfl) rfl) rfl) (fun w hm hc hg => bucket_spec key (n : Nat) w (by omega)) ?_
 rw [hbk]
 refine LM.as rfl ?_
 refine LM.nil (QM.sub (e' := [(0, _), (1, _), (2, _), (7, _)]) au9 (QM.then ?_))
 refine wpM.seq ?_
 refine wpM.seq (wpM.region ?_)
 refine LM.mv rfl ?_
 refine LM.val (ov_nilCheck rfl) ?_
 refine LM.val (ov_field Try.underlying62 rfl Try.sizeOf57 rfl (k := 0) rfl rfl) ?_
 refine LM.rd (om_ld Try.isAgg57 rfl rfl) ?_
 refine LM.mv rfl ?_
 refine LM.val (ov_idxSN au6 Try.underlying57 Try.sizeOf93 rfl rfl (by omega)) ?_
 refine LM.rd (om_sl1 (by assumption) (by intro _; rfl) Try.isAgg93 rfl rfl au3 (by rfl)) ?_
 rw [hhn, hha, hhc]
 refine LM.val (ov_len Try.underlying93 rfl) ?_
 refine LM.mv rfl ?_
 refine LM.nil (QM.sub (e' := [(0, _), (1, _), (2, _), (7, _), (24, _), (25, _), (26, _)]) au9 (QM.then ?_))
 refine wpM.block ?_
 refine wpM.loopK0 (α := Nat) (fun i1 => [(26, .int .i64 (i1 : Nat))]) [(0, _), (1, _), (2, _), (7, _), (24, _), (25, _)] (fun i1 => tbC b ad n cap most each bs bh :: (mo ++ (ms ++ []))) (fun i1 => i1 ≤ rs.length) (fun i1 => rs.length - i1) (0) ⟨au2, rfl, rfl, rfl, rfl, rfl, rfl, trivial⟩ au1 (Nat.zero_le _) ?_
 rintro i1 hi1
 change wpM _ _ _ _ _ _ _ (tbC b ad n cap most each bs bh :: (mo ++ (ms ++ []))) _ _ _
 refine wpM.seq (wpM.region ?_)
 refine LM.val (ov_lss rfl rfl) ?_
 refine LM.nil (QM.sub (e' := [(0, _), (1, _), (2, _), (7, _), (24, _), (25, _), (26, _), (27, _)]) au9 (QM.then ?_))
 refine wpM.seq ?_
 refine wpM.condD rfl (fun h1 => ?_) (fun h1 => ?_)
 ·
  refine wpM.skip ?_
  refine QM.then ?_
  refine wpM.seq ?_
  refine wpM.block ?_
  refine wpM.seq (wpM.region ?_)
  refine LM.val (ov_idxSN au6 Try.underlying93 Try.sizeOf95 rfl rfl (by omega)) ?_
  refine LM.rd (om_slA (by assumption) (by intro _; rfl) Try.isAgg95 Try.sizeOf95 rfl au3) ?_
  refine LM.alloc Try.zeroValue95 rfl (fun b9 hb9 => ?_)
  refine LM.stW Try.sizeOf95 rfl rfl rfl rfl au7 (fun hlt => by first | exact inM_0 | exact inM_1 | exact absurd hlt (by omega)) ?_
  refine LM.nil (QM.sub (e' := [(0, _), (1, _), (2, _), (7, _), (9, _), (24, _), (25, _), (26, _)]) au9 (QM.then (wpM.seq (wpM.region ?_))))
  refine LM.val (ov_field Try.underlying95 rfl Try.sizeOf3 rfl (k := 0) rfl rfl) ?_
  refine LM.rd (om_ld Try.isAgg3 rfl rfl) ?_
  refine LM.mv rfl ?_
  refine LM.val (ov_eql rfl rfl) ?_
  refine LM.nil (QM.sub (e' := [(0, _), (1, _), (2, _), (7, _), (9, _), (24, _), (25, _), (26, _), (33, _)]) au9 (QM.then ?_))
  refine wpM.condD rfl (fun h2 => ?_) (fun h2 => ?_)
  ·
   exact absurd h2 (hno i1 (by omega))
  refine wpM.skip ?_
  refine QM.block_normal ?_
  refine QM.then (wpM.region ?_)
  refine LM.val (ov_add64 rfl rfl (by omega)) ?_
  refine LM.mv rfl ?_
  refine LM.nil (QM.sub (e' := [(0, _), (1, _), (2, _), (7, _), (24, _), (25, _), (26, _)]) au9 ?_)
  refine QM.againK (i1 + 1) ⟨au2, rfl, rfl, rfl, rfl, rfl, rfl, trivial⟩ au1 (fun _ h => h) ?_ ?_
  · omega
  · omega
 refine wpM.exit ?_
 refine QM.then_exit ?_
 refine QM.then_exit ?_
 refine QM.block_hit ?_
 refine QM.then ?_
 refine wpM.seq ?_
 refine wpM.seq (wpM.region ?_)
 refine LM.mv rfl ?_
 first | refine LM.val (ov_notD rfl) ?_ | refine LM.val (ov_not rfl) ?_
 refine LM.nil (QM.sub (e' := [(0, _), (1, _), (7, _), (38, _)]) au9 (QM.then ?_))
 first | refine wpM.condD rfl (fun h3 => ?_) (fun h3 => ?_) | refine wpM.condB rfl (fun h3 => ?_) (fun h3 => ?_)
 ·
  cases h3
 refine wpM.skip ?_
 refine QM.then (wpM.seq (wpM.region ?_))
 refine LM.mv rfl ?_
 refine LM.val (ov_nilCheck rfl) ?_
 refine LM.val (ov_field Try.underlying62 rfl Try.sizeOf3 rfl (k := 2) rfl rfl) ?_
 refine LM.rd (om_ld Try.isAgg3 rfl rfl) ?_
 refine LM.callT (oc_call (enters_fn Try.func52 (by kernel_rfl) rfl) rfl) FoN.mono (fun w hm hc hg => fonew_spec each w) ?_
 rintro u43 m43 ⟨b43, rfl, h43⟩ hge43
 refine LM.as rfl ?_
 refine LM.nil (QM.sub (e' := [(0, _), (1, _), (7, _), (10, _)]) au9 (QM.then ?_))
 refine wpM.seq ?_
 refine wpM.keep (tbC b ad n cap most each bs bh :: (mo ++ [])) (fun _ => True) (.one 0 0 (.one 1 0 (.one 2 0 (.one 3 1 (.one 4 0 (.one 5 0 (.one 6 0 (.one 7 0 (.one 8 1 (.one 9 0 (.one 10 0 (.one 11 1 (.one 12 0 (.one 13 0 (.one 14 0 (.one 15 2 (.one 16 2 (.one 17 0 (.last 18))))))))))))))))))) (by kernel_rfl) (by kernel_rfl) au1 (fun _ _ => trivial) ?_
 refine KD.val rfl rfl (ov_move rfl) ?_
 refine KD.val rfl rfl (ov_nilCheck rfl) ?_
 refine KD.val rfl rfl (ov_field Try.underlying62 rfl Try.sizeOf57 rfl (k := 0) rfl rfl) ?_
 refine KD.rd rfl rfl (om_ld Try.isAgg57 rfl rfl) ?_
 refine KD.val rfl rfl (ov_move rfl) ?_
 refine KD.val rfl rfl (ov_move rfl) ?_
 refine KD.val rfl rfl (ov_nilCheck rfl) ?_
 refine KD.val rfl rfl (ov_field Try.underlying62 rfl Try.sizeOf57 rfl (k := 0) rfl rfl) ?_
 refine KD.rd rfl rfl (om_ld Try.isAgg57 rfl rfl) ?_
 refine KD.val rfl rfl (ov_move rfl) ?_
 refine KD.val rfl rfl (ov_idxSN au6 Try.underlying57 Try.sizeOf93 rfl rfl (by omega)) ?_
 refine KD.rd rfl rfl (om_sl1 (by assumption) (by intro _; rfl) Try.isAgg93 rfl rfl au3 (by rfl)) ?_
 rw [hhn, hha, hhc]
 refine KD.val rfl rfl (ov_move rfl) ?_
 refine KD.val rfl rfl (ov_move rfl) ?_
 refine KD.val rfl rfl (ov_build (cs := #[_, _]) rfl (by first | rfl | kernel_rfl)) ?_
 refine KD.one rfl ?_
 refine LM.single Try.underlying93 Try.sizeOf95 Try.zeroValue95 rfl rfl rfl rfl rfl (fun b59 hb59 => ?_)
 refine LM.nil ?_
 refine QM.one au1 (fun _ _ => trivial) ?_
 refine KD.one rfl ?_
 refine LM.app (a := (⟨key, b43, [], 0⟩ : Rw)) Try.underlying93 Try.typeInfo95 rfl rfl rfl rfl rfl rfl rfl (by assumption) (by rfl) (by intro _; rfl) (by intro _ u hu; simp [fRw] at hu; (repeat (first | (rcases hu with rfl | hu) | subst hu | rfl))) (by first | exact Nat.le_refl _ | omega) (fun p hp hlt => by first | exact inM_al p hp | exact inM_ar p hp) (by first | omega | (unfold maxLen; omega)) (by simp only [Try.t95]; omega) (fun ad60 n60 cap60 m60 hn60 hs60 hin60 => ?_)
 refine LM.nil ?_
 refine QM.one au1 (fun _ _ => trivial) ?_
 refine KD.val rfl rfl (ov_idxSN au6 Try.underlying57 Try.sizeOf93 rfl rfl (by omega)) ?_
 refine KD.last rfl ?_
 refine LM.stS ((⟨ad60, n60, cap60⟩ : Bh)) (j := 0) (i := j) (by assumption) (by intro _; rfl) Try.sizeOf93 rfl rfl rfl au3 rfl (by decide) (by rfl) rfl (fun p hp hlt => by first | exact inM_al p hp | exact inM_ar p hp) (fun ms1 hss1 hmm1 => ?_)
 refine LM.nil ?_
 refine QM.qn ?_
 refine QM.sub (e' := [(10, _)]) ⟨rfl, trivial⟩ (QM.then (wpM.seq (wpM.region ?_)))
 refine LM.mv rfl (LM.as rfl ?_)
 refine LM.nil (QM.sub (e' := [(6, _)]) ⟨rfl, trivial⟩ (QM.then ?_))
 refine wpM.ret ?_
 refine QM.leave (.inl rfl) [.tmp 6] Try.results37 rfl ?_
 intro w' hm' hc' hg'
 exact rwn_leaf hss1 hs60 h43 hm' (by (repeat' (first | exact SubM.nil _ | refine SubM.cons (by rfl) ?_ | refine SubM.app ?_))) hc' (inn_of hmm1) hin60
end Go.Eng
namespace Go.Eng
open Go Go.Proofs Go.RowKit
def RwD (n0 j i : Nat) (hs : List Bh) (rs : List Rw) (ad : Option Addr) (n cap : Nat) (u : Value) (m : Mem0) : Prop :=
  ∃ h' mo' ms', u = .tuple #[] ∧ m = mo' ++ ms' ∧ Sl fBh 93 1 n0 (hs.set j h') (.slice ad n cap) mo' ∧ h'.n = rs.length - 1 ∧ Sl fRw 95 2 n0 (rs.eraseIdx i) (.slice h'.ad h'.n h'.cap) ms'
theorem rwd_leaf {n0 j i n n' cap cap' : Nat} {hs : List Bh} {rs : List Rw} {ad ad' : Option Addr} {mo ms mo' ms' M : Mem0} {w w' : World} (hi : i < rs.length) (ho : Sl fBh 93 1 n0 (hs.set j ⟨ad', n', cap'⟩) (.slice ad n cap) mo') (hr : Sl fRw 95 2 n0 (rs.eraseIdx i) (.slice ad' n' cap') ms')
    (hm : Mem w' M) (hs' : SubM M (mo' ++ (ms' ++ []))) (hc : Chg (inM (mo ++ ms)) w w') (h1 : inn mo w.heap.size mo') (h2 : inn ms w.heap.size ms') :
    Upd (mo ++ ms) (fun u m => RwD n0 j i hs rs ad n cap u m) w (.tuple #[]) w' := by
  rw [List.append_nil] at hs'
  refine ⟨hc, _, ⟨⟨ad', n', cap'⟩, mo', ms', rfl, rfl, ho, hr.len.1.trans (by rw [List.length_eraseIdx, if_pos hi]), hr⟩, hs'.mem w' hm, fun p hp => ?_⟩
  rcases List.mem_append.1 hp with hp | hp
  · exact (h1 p hp).imp id (fun ⟨q, hq, e⟩ => ⟨q, List.mem_append_left _ hq, e⟩)
  · exact (h2 p hp).imp id (fun ⟨q, hq, e⟩ => ⟨q, List.mem_append_right _ hq, e⟩)
set_option maxRecDepth 100000 in
theorem tclean_yes {n0 b n cap : Nat} {ad : Option Addr} {most each mst : Int} {bs bh n1 : Nat} {hs : List Bh} {rs : List Rw} {mo ms mq : Mem0} {tk : Int} (key : Int) (j i : Nat) (w : World) (hn : n = hs.length) (hn64 : n ≤ 64) (ho : Sl fBh 93 1 n0 hs (.slice ad n cap) mo) (hj : j < hs.length) (hbk : bucketF key (n : Nat) = (j : Nat)) (hr : Sl fRw 95 2 n0 rs (.slice (bg hs j).ad (bg hs j).n (bg hs j).cap) ms) (hi : i < rs.length) (hk : (rg rs i).key = key) (hno : ∀ i', i' < i → (rg rs i').key ≠ key) (hq : FoM mst n1 (rg rs i).b [] tk mq) (hM : Mem w (tbC b ad n cap most each bs bh :: (mo ++ (ms ++ mq)))) : Ret Try.prog 46 #[.pointer (some ⟨b, 0, none⟩), .int .i64 key] w (Upd (mo ++ ms) (fun u m => RwD n0 j i hs rs ad n cap u m) w) := by
 have hrl := hr.len.1; have hrm : rs.length ≤ 9223372036854775807 := Nat.le_trans hr.len.2.1 (by unfold maxLen; decide); generalize hhn : (bg hs j).n = hn0 at hr hrl; generalize hha : (bg hs j).ad = ha0 at hr; generalize hhc : (bg hs j).cap = hc0 at hr
 refine Ret.enterM (l := [.pointer (some ⟨b, 0, none⟩), .int .i64 key]) Try.func46 rfl Try.ntmps46 rfl (tbC b ad n cap most each bs bh :: (mo ++ (ms ++ (mq ++ [])))) (inM (mo ++ ms)) (by rw [List.append_nil]; exact hM) ?_
 refine wpM.seq (wpM.region ?_)
 refine LM.mv rfl (LM.mv rfl ?_)
 refine LM.val (ov_nilCheck rfl) ?_
 refine LM.val (ov_field Try.underlying62 rfl Try.sizeOf57 rfl (k := 0) rfl rfl) ?_
 refine LM.rd (om_ld Try.isAgg57 rfl rfl) ?_
 refine LM.val (ov_len Try.underlying57 rfl) ?_
 refine LM.callE (oc_call (enters_fn Try.func51 (by kernel_rfl) rfl) rfl) (fun w hm hc hg => bucket_spec key (n : Nat) w (by omega)) ?_
 rw [hbk]
 refine LM.as rfl ?_
 refine LM.nil (QM.sub (e' := [(0, _), (1, _), (4, _)]) au9 (QM.then (wpM.seq (wpM.region ?_))))
 refine LM.mv rfl ?_
 refine LM.val (ov_nilCheck rfl) ?_
 refine LM.val (ov_field Try.underlying62 rfl Try.sizeOf57 rfl (k := 0) rfl rfl) ?_
 refine LM.rd (om_ld Try.isAgg57 rfl rfl) ?_
 refine LM.mv rfl ?_
 refine LM.val (ov_idxSN au6 Try.underlying57 Try.sizeOf93 rfl rfl (by omega)) ?_
 refine LM.rd (om_sl1 (by assumption) (by intro _; rfl) Try.isAgg93 rfl rfl au3 (by rfl)) ?_
 rw [hhn, hha, hhc]
 refine LM.val (ov_len Try.underlying93 rfl) ?_
 refine LM.mv rfl ?_
 refine LM.nil (QM.sub (e' := [(0, _), (1, _), (4, _), (20, _), (21, _), (22, _)]) au9 (QM.then ?_))
 refine wpM.block ?_
 refine wpM.loopK0 (α := Nat) (fun i1 => [(22, .int .i64 (i1 : Nat))]) [(0, _), (1, _), (4, _), (20, _), (21, _)] (fun i1 => tbC b ad n cap most each bs bh :: (mo ++ (ms ++ (mq ++ [])))) (fun i1 => i1 ≤ i) (fun i1 => rs.length - i1) (0) ⟨au2, rfl, rfl, rfl, rfl, rfl, trivial⟩ au1 (Nat.zero_le _) ?_
 rintro i1 hi1
 change wpM _ _ _ _ _ _ _ (tbC b ad n cap most each bs bh :: (mo ++ (ms ++ (mq ++ [])))) _ _ _
 refine wpM.seq (wpM.region ?_)
 refine LM.val (ov_lss rfl rfl) ?_
 refine LM.nil (QM.sub (e' := [(0, _), (1, _), (4, _), (20, _), (21, _), (22, _), (23, _)]) au9 (QM.then ?_))
 refine wpM.seq ?_
 refine wpM.condD rfl (fun h1 => ?_) (fun h1 => ?_)
 ·
  refine wpM.skip ?_
  refine QM.then ?_
  refine wpM.seq ?_
  refine wpM.block ?_
  refine wpM.seq (wpM.region ?_)
  refine LM.mv rfl ?_
  refine LM.val (ov_idxSN au6 Try.underlying93 Try.sizeOf95 rfl rfl (by omega)) ?_
  refine LM.rd (om_slA (by assumption) (by intro _; rfl) Try.isAgg95 Try.sizeOf95 rfl au3) ?_
  refine LM.alloc Try.zeroValue95 rfl (fun b6 hb6 => ?_)
  refine LM.as rfl ?_
  refine LM.stW Try.sizeOf95 rfl rfl rfl rfl au7 (fun hlt => by first | exact inM_0 | exact inM_1 | exact absurd hlt (by omega)) ?_
  refine LM.nil (QM.sub (e' := [(0, _), (1, _), (4, _), (5, _), (6, _), (20, _), (21, _), (22, _)]) au9 (QM.then (wpM.seq (wpM.region ?_))))
  refine LM.val (ov_field Try.underlying95 rfl Try.sizeOf3 rfl (k := 0) rfl rfl) ?_
  refine LM.rd (om_ld Try.isAgg3 rfl rfl) ?_
  refine LM.mv rfl ?_
  refine LM.val (ov_eql rfl rfl) ?_
  refine LM.mv rfl ?_
  refine LM.splitD (t := 31) rfl (fun h2 => ?_) (fun h2 => ?_)
  ·
   have ei : i1 = i := (by rcases Nat.lt_or_ge i1 i with z | z; exact absurd h2 (hno i1 z); omega); subst ei
   refine LM.sp 31 rfl rfl rfl (LM.val (ov_field Try.underlying95 rfl Try.sizeOf72 rfl (k := 1) rfl rfl) (LM.sp 31 rfl rfl rfl ?_))
   refine LM.rd (om_ld Try.isAgg72 rfl rfl) ?_
   refine LM.sp 31 rfl rfl rfl ?_
   refine LM.callE (oc_call (enters_fn Try.func44 (by kernel_rfl) rfl) rfl) (fun w hm hc hg => foLen_spec w hq (hm.pick mq)) ?_
   refine LM.sp 31 rfl rfl rfl ?_
   refine LM.val (ov_eql rfl rfl) ?_
   refine LM.val (ov_pickT rfl rfl) ?_
   refine LM.nil (QM.sub (e' := [(0, _), (1, _), (4, _), (5, _), (20, _), (21, _), (22, _), (36, _)]) au9 (QM.then ?_))
   refine wpM.condD rfl (fun h3 => ?_) (fun h3 => ?_)
   ·
    refine wpM.seq ?_
    refine wpM.keep (tbC b ad n cap most each bs bh :: (mo ++ [])) (fun _ => True) (.one 0 0 (.one 1 0 (.one 2 0 (.one 3 1 (.one 4 0 (.one 5 0 (.one 6 0 (.one 7 0 (.one 8 1 (.one 9 0 (.one 10 0 (.one 11 1 (.one 12 0 (.one 13 0 (.one 14 0 (.one 15 0 (.one 16 0 (.one 17 1 (.one 18 0 (.one 19 0 (.one 20 1 (.one 21 0 (.one 22 0 (.one 23 0 (.one 24 2 (.one 25 0 (.last 26))))))))))))))))))))))))))) (by kernel_rfl) (by kernel_rfl) au1 (fun _ _ => trivial) ?_
    refine KD.val rfl rfl (ov_move rfl) ?_
    refine KD.val rfl rfl (ov_nilCheck rfl) ?_
    refine KD.val rfl rfl (ov_field Try.underlying62 rfl Try.sizeOf57 rfl (k := 0) rfl rfl) ?_
    refine KD.rd rfl rfl (om_ld Try.isAgg57 rfl rfl) ?_
    refine KD.val rfl rfl (ov_move rfl) ?_
    refine KD.val rfl rfl (ov_move rfl) ?_
    refine KD.val rfl rfl (ov_nilCheck rfl) ?_
    refine KD.val rfl rfl (ov_field Try.underlying62 rfl Try.sizeOf57 rfl (k := 0) rfl rfl) ?_
    refine KD.rd rfl rfl (om_ld Try.isAgg57 rfl rfl) ?_
    refine KD.val rfl rfl (ov_move rfl) ?_
    refine KD.val rfl rfl (ov_idxSN au6 Try.underlying57 Try.sizeOf93 rfl rfl (by omega)) ?_
    refine KD.rd rfl rfl (om_sl1 (by assumption) (by intro _; rfl) Try.isAgg93 rfl rfl au3 (by rfl)) ?_
    rw [hhn, hha, hhc]
    refine KD.val rfl rfl (ov_move rfl) ?_
    refine KD.val rfl rfl (ov_subHi Try.underlying93 Try.sizeOf95 rfl rfl (by omega) (by have := hr.len; omega)) ?_
    rw [Int.toNat_natCast]
    refine KD.val rfl rfl (ov_move rfl) ?_
    refine KD.val rfl rfl (ov_nilCheck rfl) ?_
    refine KD.val rfl rfl (ov_field Try.underlying62 rfl Try.sizeOf57 rfl (k := 0) rfl rfl) ?_
    refine KD.rd rfl rfl (om_ld Try.isAgg57 rfl rfl) ?_
    refine KD.val rfl rfl (ov_move rfl) ?_
    refine KD.val rfl rfl (ov_idxSN au6 Try.underlying57 Try.sizeOf93 rfl rfl (by omega)) ?_
    refine KD.rd rfl rfl (om_sl1 (by assumption) (by intro _; rfl) Try.isAgg93 rfl rfl au3 (by rfl)) ?_
    rw [hhn, hha, hhc]
    refine KD.val rfl rfl (ov_move rfl) ?_
    refine KD.val rfl rfl (ov_add64 rfl rfl (by omega)) ?_
    refine KD.val rfl rfl (ov_subLo (i1 + 1) Try.underlying93 Try.sizeOf95 rfl rfl (by omega) (by omega)) ?_
    refine KD.one rfl ?_
    refine LM.appDel (f := fRw) (n := hn0) (cap := hc0) i1 Try.underlying93 Try.typeInfo95 rfl rfl rfl rfl rfl hr (by intro _; rfl) (by intro _ u hu; simp [fRw] at hu; (repeat (first | (rcases hu with rfl | hu) | subst hu | rfl))) (by omega) (fun p hp _ => inM_ar p hp) (fun n61 m61 hn61 hs61 hin61 => ?_)
    refine LM.nil ?_
    refine QM.one au1 (fun _ _ => trivial) ?_
    refine KD.val rfl rfl (ov_idxSN au6 Try.underlying57 Try.sizeOf93 rfl rfl (by omega)) ?_
    refine KD.last rfl ?_
    refine LM.stS ((⟨ha0, n61, hc0⟩ : Bh)) (j := 0) (i := j) (by assumption) (by intro _; rfl) Try.sizeOf93 rfl rfl rfl au3 rfl (by decide) (by rfl) rfl (fun p hp hlt => by first | exact inM_al p hp | exact inM_ar p hp) (fun ms2 hss2 hmm2 => ?_)
    refine LM.nil ?_
    refine QM.qn ?_
    refine QM.sub (e' := []) trivial (QM.then ?_)
    refine wpM.ret ?_
    refine QM.block_ret ?_
    refine QM.then_ret ?_
    refine QM.then_ret ?_
    refine QM.block_ret ?_
    refine QM.leave (.inl rfl) [] Try.results46 rfl ?_
    intro w' hm' hc' hg'
    exact rwd_leaf hi hss2 hs61 hm' (by (repeat' (first | exact SubM.nil _ | refine SubM.cons (by rfl) ?_ | refine SubM.app ?_))) hc' (inn_of hmm2) (inn_of hin61)
   first | cases h3 | exact absurd rfl h3 | (simp at h3; done)
  refine LM.dr 31 rfl rfl rfl (LM.dr 31 rfl rfl rfl (LM.dr 31 rfl rfl rfl (LM.dr 31 rfl rfl rfl ?_)))
  refine LM.val (ov_pickF rfl rfl) ?_
  refine LM.nil (QM.sub (e' := [(0, _), (1, _), (4, _), (5, _), (20, _), (21, _), (22, _), (36, _)]) au9 (QM.then ?_))
  refine wpM.condF rfl ?_
  refine wpM.skip ?_
  refine QM.block_normal ?_
  refine QM.then (wpM.region ?_)
  refine LM.val (ov_add64 rfl rfl (by omega)) ?_
  refine LM.mv rfl ?_
  refine LM.nil (QM.sub (e' := [(0, _), (1, _), (4, _), (20, _), (21, _), (22, _)]) au9 ?_)
  refine QM.againK (i1 + 1) ⟨au2, rfl, rfl, rfl, rfl, rfl, trivial⟩ au1 (fun _ h => h) ?_ ?_
  · rcases Nat.lt_or_ge i1 i with z | z; omega; exact absurd (by rw [show i1 = i by omega]; exact hk) h2
  · omega
 omega
set_option maxRecDepth 100000 in
theorem tclean_no {n0 b n cap : Nat} {ad : Option Addr} {most each mst : Int} {bs bh n1 : Nat} {hs : List Bh} {rs : List Rw} {mo ms mq : Mem0} {tk : Int} {q : List (Int × Wt)} (key : Int) (j i : Nat) (w : World) (hn : n = hs.length) (hn64 : n ≤ 64) (ho : Sl fBh 93 1 n0 hs (.slice ad n cap) mo) (hj : j < hs.length) (hbk : bucketF key (n : Nat) = (j : Nat)) (hr : Sl fRw 95 2 n0 rs (.slice (bg hs j).ad (bg hs j).n (bg hs j).cap) ms) (hk : ∀ i', i' < rs.length → (rg rs i').key = key → i' = i) (hq : FoM mst n1 (rg rs i).b q tk mq) (hq0 : 0 < q.length) (hM : Mem w (tbC b ad n cap most each bs bh :: (mo ++ (ms ++ mq)))) : Ret Try.prog 46 #[.pointer (some ⟨b, 0, none⟩), .int .i64 key] w (fun u w' => u = .tuple #[] ∧ Ext w w') := by
 have hrl := hr.len.1; have hrm : rs.length ≤ 9223372036854775807 := Nat.le_trans hr.len.2.1 (by unfold maxLen; decide); generalize hhn : (bg hs j).n = hn0 at hr hrl; generalize hha : (bg hs j).ad = ha0 at hr; generalize hhc : (bg hs j).cap = hc0 at hr
 refine Ret.enterM (l := [.pointer (some ⟨b, 0, none⟩), .int .i64 key]) Try.func46 rfl Try.ntmps46 rfl (tbC b ad n cap most each bs bh :: (mo ++ (ms ++ (mq ++ [])))) (no) (by rw [List.append_nil]; exact hM) ?_
 refine wpM.seq (wpM.region ?_)
 refine LM.mv rfl (LM.mv rfl ?_)
 refine LM.val (ov_nilCheck rfl) ?_
 refine LM.val (ov_field Try.underlying62 rfl Try.sizeOf57 rfl (k := 0) rfl rfl) ?_
 refine LM.rd (om_ld Try.isAgg57 rfl rfl) ?_
 refine LM.val (ov_len Try.underlying57 rfl) ?_
 refine LM.callE (oc_call (enters_fn Try.func51 (by kernel_rfl) rfl) rfl) (fun w hm hc hg => bucket_spec key (n : Nat) w (by omega)) ?_
 rw [hbk]
 refine LM.as rfl ?_
 refine LM.nil (QM.sub (e' := [(0, _), (1, _), (4, _)]) au9 (QM.then (wpM.seq (wpM.region ?_))))
 refine LM.mv rfl ?_
 refine LM.val (ov_nilCheck rfl) ?_
 refine LM.val (ov_field Try.underlying62 rfl Try.sizeOf57 rfl (k := 0) rfl rfl) ?_
 refine LM.rd (om_ld Try.isAgg57 rfl rfl) ?_
 refine LM.mv rfl ?_
 refine LM.val (ov_idxSN au6 Try.underlying57 Try.sizeOf93 rfl rfl (by omega)) ?_
 refine LM.rd (om_sl1 (by assumption) (by intro _; rfl) Try.isAgg93 rfl rfl au3 (by rfl)) ?_
 rw [hhn, hha, hhc]
 refine LM.val (ov_len Try.underlying93 rfl) ?_
 refine LM.mv rfl ?_
 refine LM.nil (QM.sub (e' := [(0, _), (1, _), (4, _), (20, _), (21, _), (22, _)]) au9 (QM.then ?_))
 refine wpM.block ?_
 refine wpM.loopK0 (α := Nat) (fun i1 => [(22, .int .i64 (i1 : Nat))]) [(0, _), (1, _), (4, _), (20, _), (21, _)] (fun i1 => tbC b ad n cap most each bs bh :: (mo ++ (ms ++ (mq ++ [])))) (fun i1 => i1 ≤ rs.length) (fun i1 => rs.length - i1) (0) ⟨au2, rfl, rfl, rfl, rfl, rfl, trivial⟩ au1 (Nat.zero_le _) ?_
 rintro i1 hi1
 change wpM _ _ _ _ _ _ _ (tbC b ad n cap most each bs bh :: (mo ++ (ms ++ (mq ++ [])))) _ _ _
 refine wpM.seq (wpM.region ?_)
 refine LM.val (ov_lss rfl rfl) ?_
 refine LM.nil (QM.sub (e' := [(0, _), (1, _), (4, _), (20, _), (21, _), (22, _), (23, _)]) au9 (QM.then ?_))
 refine wpM.seq ?_
 refine wpM.condD rfl (fun h1 => ?_) (fun h1 => ?_)
 ·
  refine wpM.skip ?_
  refine QM.then ?_
  refine wpM.seq ?_
  refine wpM.block ?_
  refine wpM.seq (wpM.region ?_)
  refine LM.mv rfl ?_
  refine LM.val (ov_idxSN au6 Try.underlying93 Try.sizeOf95 rfl rfl (by omega)) ?_
  refine LM.rd (om_slA (by assumption) (by intro _; rfl) Try.isAgg95 Try.sizeOf95 rfl au3) ?_
  refine LM.alloc Try.zeroValue95 rfl (fun b6 hb6 => ?_)
  refine LM.as rfl ?_
  refine LM.stW Try.sizeOf95 rfl rfl rfl rfl au7 (fun hlt => by first | exact inM_0 | exact inM_1 | exact absurd hlt (by omega)) ?_
  refine LM.nil (QM.sub (e' := [(0, _), (1, _), (4, _), (5, _), (6, _), (20, _), (21, _), (22, _)]) au9 (QM.then (wpM.seq (wpM.region ?_))))
  refine LM.val (ov_field Try.underlying95 rfl Try.sizeOf3 rfl (k := 0) rfl rfl) ?_
  refine LM.rd (om_ld Try.isAgg3 rfl rfl) ?_
  refine LM.mv rfl ?_
  refine LM.val (ov_eql rfl rfl) ?_
  refine LM.mv rfl ?_
  refine LM.splitD (t := 31) rfl (fun h2 => ?_) (fun h2 => ?_)
  ·
   have ei : i1 = i := hk i1 (by omega) h2; subst ei
   refine LM.sp 31 rfl rfl rfl (LM.val (ov_field Try.underlying95 rfl Try.sizeOf72 rfl (k := 1) rfl rfl) (LM.sp 31 rfl rfl rfl ?_))
   refine LM.rd (om_ld Try.isAgg72 rfl rfl) ?_
   refine LM.sp 31 rfl rfl rfl ?_
   refine LM.callE (oc_call (enters_fn Try.func44 (by kernel_rfl) rfl) rfl) (fun w hm hc hg => foLen_spec w hq (hm.pick mq)) ?_
   refine LM.sp 31 rfl rfl rfl ?_
   refine LM.val (ov_eql rfl rfl) ?_
   refine LM.val (ov_pickT rfl rfl) ?_
   refine LM.nil (QM.sub (e' := [(0, _), (1, _), (4, _), (5, _), (20, _), (21, _), (22, _), (36, _)]) au9 (QM.then ?_))
   refine wpM.condD rfl (fun h3 => ?_) (fun h3 => ?_)
   ·
    omega
   refine wpM.skip ?_
   refine QM.block_normal ?_
   refine QM.then (wpM.region ?_)
   refine LM.val (ov_add64 rfl rfl (by omega)) ?_
   refine LM.mv rfl ?_
   refine LM.nil (QM.sub (e' := [(0, _), (1, _), (4, _), (20, _), (21, _), (22, _)]) au9 ?_)
   refine QM.againK (i1 + 1) ⟨au2, rfl, rfl, rfl, rfl, rfl, trivial⟩ au1 (fun _ h => h) ?_ ?_
   · omega
   · omega
  refine LM.dr 31 rfl rfl rfl (LM.dr 31 rfl rfl rfl (LM.dr 31 rfl rfl rfl (LM.dr 31 rfl rfl rfl ?_)))
  refine LM.val (ov_pickF rfl rfl) ?_
  refine LM.nil (QM.sub (e' := [(0, _), (1, _), (4, _), (5, _), (20, _), (21, _), (22, _), (36, _)]) au9 (QM.then ?_))
  refine wpM.condF rfl ?_
  refine wpM.skip ?_
  refine QM.block_normal ?_
  refine QM.then (wpM.region ?_)
  refine LM.val (ov_add64 rfl rfl (by omega)) ?_
  refine LM.mv rfl ?_
  refine LM.nil (QM.sub (e' := [(0, _), (1, _), (4, _), (20, _), (21, _), (22, _)]) au9 ?_)
  refine QM.againK (i1 + 1) ⟨au2, rfl, rfl, rfl, rfl, rfl, trivial⟩ au1 (fun _ h => h) ?_ ?_
  · omega
  · omega
 refine wpM.exit ?_
 refine QM.then_exit ?_
 refine QM.then_exit ?_
 refine QM.block_hit ?_
 refine QM.leave (.inr rfl) [] Try.results46 rfl ?_
 intro w' hm' hc' hg'
 exact ⟨rfl, hc'⟩
end Go.Eng
namespace Go.Eng
open Go Go.Proofs Go.RowKit
def fk (key : Int) : List Rw → Option Rw
  | [] => none
  | r :: rs => if r.key = key then some r else fk key rs
def RU (rs : List Rw) : Prop := (rs.map (·.key)).Nodup
theorem fk_some : ∀ {rs : List Rw} {key : Int} {r : Rw}, fk key rs = some r → ∃ i, i < rs.length ∧ rg rs i = r ∧ r.key = key ∧ ∀ i', i' < i → (rg rs i').key ≠ key
  | [], _, _, h => by cases h
  | x :: rs, key, r, h => by
    unfold fk at h
    by_cases c : x.key = key
    · rw [if_pos c] at h; cases h
      exact ⟨0, by simp, rfl, c, fun i' hi => by cases hi⟩
    · rw [if_neg c] at h
      obtain ⟨i, h1, h2, h3, h4⟩ := fk_some h
      refine ⟨i + 1, by simp only [List.length_cons]; omega, h2, h3, fun i' hi => ?_⟩
      cases i' with
      | zero => exact c
      | succ i' => exact h4 i' (by omega)
theorem fk_none : ∀ {rs : List Rw} {key : Int}, fk key rs = none → ∀ i, i < rs.length → (rg rs i).key ≠ key
  | [], _, _, i, hi => by cases hi
  | x :: rs, key, h, i, hi => by
    unfold fk at h
    by_cases c : x.key = key
    · rw [if_pos c] at h; cases h
    · rw [if_neg c] at h
      cases i with
      | zero => exact c
      | succ i => exact fk_none h i (Nat.lt_of_succ_lt_succ hi)
theorem fk_snoc : ∀ {rs : List Rw} (r : Rw) (k : Int), fk r.key rs = none → fk k (rs ++ [r]) = if k = r.key then some r else fk k rs
  | [], r, k, _ => by
    show (if r.key = k then some r else none) = _
    by_cases e : k = r.key
    · rw [if_pos e.symm, if_pos e]
    · rw [if_neg (fun z => e z.symm), if_neg e]; rfl
  | x :: rs, r, k, h => by
    unfold fk at h
    by_cases c : x.key = r.key
    · rw [if_pos c] at h; cases h
    · rw [if_neg c] at h
      show (if x.key = k then some x else fk k (rs ++ [r])) = if k = r.key then some r else if x.key = k then some x else fk k rs
      rw [fk_snoc r k h]
      by_cases e : x.key = k
      · rw [if_pos e, if_neg (by rw [← e]; exact c), if_pos e]
      · rw [if_neg e, if_neg e]
theorem fk_set : ∀ {rs : List Rw} {i : Nat} {r' : Rw} (k : Int), i < rs.length → (rg rs i).key = r'.key → (∀ i', i' < i → (rg rs i').key ≠ r'.key) → fk k (rs.set i r') = if k = r'.key then some r' else fk k rs
  | [], i, r', k, h, _, _ => by cases h
  | x :: rs, 0, r', k, _, h1, _ => by
    have h1' : x.key = r'.key := h1
    show (if r'.key = k then some r' else fk k rs) = if k = r'.key then some r' else if x.key = k then some x else fk k rs
    by_cases e : k = r'.key
    · rw [if_pos e.symm, if_pos e]
    · rw [if_neg (fun z => e z.symm), if_neg e, if_neg (fun z => e (by rw [← z, h1']))]
  | x :: rs, i + 1, r', k, h, h1, h2 => by
    have hx : x.key ≠ r'.key := h2 0 (by omega)
    have ih := fk_set (rs := rs) (i := i) (r' := r') k (Nat.lt_of_succ_lt_succ h) h1 (fun i' hi => h2 (i' + 1) (by omega))
    show (if x.key = k then some x else fk k (rs.set i r')) = if k = r'.key then some r' else if x.key = k then some x else fk k rs
    rw [ih]
    by_cases e : x.key = k
    · rw [if_pos e, if_neg (by rw [← e]; exact hx), if_pos e]
    · rw [if_neg e, if_neg e]
theorem fk_no {rs : List Rw} {key : Int} (h : key ∉ rs.map (·.key)) : fk key rs = none := by
  cases hf : fk key rs with
  | none => rfl
  | some r =>
    obtain ⟨i, hi, h2, h3, _⟩ := fk_some hf
    refine absurd (List.mem_map.2 ⟨rg rs i, ?_, by rw [h2]; exact h3⟩) h
    unfold rg; rw [List.getD_eq_getElem?_getD, List.getElem?_eq_getElem hi]; exact List.getElem_mem _
theorem fk_erase : ∀ {rs : List Rw} {i : Nat} (k : Int), RU rs → i < rs.length → fk k (rs.eraseIdx i) = if k = (rg rs i).key then none else fk k rs
  | [], i, k, _, h => by cases h
  | x :: rs, 0, k, hu, _ => by
    have h1 := List.nodup_cons.1 hu
    show fk k rs = if k = x.key then none else if x.key = k then some x else fk k rs
    by_cases e : k = x.key
    · rw [if_pos e, e]; exact fk_no h1.1
    · rw [if_neg e, if_neg (fun z => e z.symm)]
  | x :: rs, i + 1, k, hu, h => by
    have h1 := List.nodup_cons.1 hu
    have hi := Nat.lt_of_succ_lt_succ h
    have ih := fk_erase (rs := rs) (i := i) k h1.2 hi
    show (if x.key = k then some x else fk k (rs.eraseIdx i)) = if k = (rg rs i).key then none else if x.key = k then some x else fk k rs
    rw [ih]
    by_cases e : x.key = k
    · rw [if_pos e, if_neg ?_, if_pos e]
      intro z
      refine h1.1 (List.mem_map.2 ⟨rg rs i, ?_, by show (rg rs i).key = x.key; rw [← z, e]⟩)
      unfold rg; rw [List.getD_eq_getElem?_getD, List.getElem?_eq_getElem hi]; exact List.getElem_mem _
    · rw [if_neg e, if_neg e]
theorem RU.snoc {rs : List Rw} (h : RU rs) {r : Rw} (hn : fk r.key rs = none) : RU (rs ++ [r]) := by
  unfold RU at *
  rw [List.map_append, List.nodup_append]
  refine ⟨h, by simp, fun a ha b hb e => ?_⟩
  simp only [List.map_cons, List.map_nil, List.mem_singleton] at hb
  subst hb; subst e
  obtain ⟨x, hx, hxe⟩ := List.mem_map.1 ha
  obtain ⟨i, hi, rfl⟩ := List.getElem_of_mem hx
  have := fk_none hn i hi
  unfold rg at this; rw [List.getD_eq_getElem?_getD, List.getElem?_eq_getElem hi] at this
  exact this hxe
theorem RU.set {rs : List Rw} (h : RU rs) {i : Nat} {r' : Rw} (hi : i < rs.length) (e : (rg rs i).key = r'.key) : RU (rs.set i r') := by
  unfold RU at *
  rw [List.map_set]
  have : (rs.map (·.key)).set i r'.key = rs.map (·.key) := by
    apply List.ext_getElem?
    intro j
    rw [List.getElem?_set]
    by_cases q : i = j
    · subst q
      rw [if_pos rfl, if_pos (by simpa using hi), List.getElem?_map, List.getElem?_eq_getElem hi]
      unfold rg at e; rw [List.getD_eq_getElem?_getD, List.getElem?_eq_getElem hi] at e
      simp at e ⊢; exact e.symm
    · rw [if_neg q]
  rw [this]; exact h
theorem RU.erase {rs : List Rw} (h : RU rs) (i : Nat) : RU (rs.eraseIdx i) := List.Nodup.sublist ((List.eraseIdx_sublist rs i).map _) h
theorem RU.uniq {rs : List Rw} (h : RU rs) {i i' : Nat} (hi : i < rs.length) (hi' : i' < rs.length) (e : (rg rs i').key = (rg rs i).key) : i' = i := by
  unfold RU at h
  have h1 : ((rs.map (·.key)))[i']'(by simpa using hi') = (rs.map (·.key))[i]'(by simpa using hi) := by
    unfold rg at e
    rw [List.getD_eq_getElem?_getD, List.getD_eq_getElem?_getD, List.getElem?_eq_getElem hi, List.getElem?_eq_getElem hi'] at e
    simpa using e
  exact (List.getElem_inj h).1 h1
def RwM (mst : Int) (n0 : Nat) (rs : List Rw) (mq : Mem0) : Prop := ∃ M : List Mem0, mq = M.flatten ∧ M.length = rs.length ∧ ∀ i, i < rs.length → FoM mst n0 (rg rs i).b (rg rs i).q (rg rs i).tk (M.getD i [])
theorem RwM.ge {mst : Int} {n0 : Nat} {rs : List Rw} {mq : Mem0} (h : RwM mst n0 rs mq) : ∀ p ∈ mq, n0 ≤ p.1 := by
  obtain ⟨M, rfl, h2, h3⟩ := h
  intro p hp
  obtain ⟨m, hm, hpm⟩ := List.mem_flatten.1 hp
  obtain ⟨i, hi, rfl⟩ := List.getElem_of_mem hm
  refine (h3 i (by omega)).ge p ?_
  rw [List.getD_eq_getElem?_getD, List.getElem?_eq_getElem hi]; exact hpm
theorem RwM.wlk {mst : Int} {n0 : Nat} {rs : List Rw} {mq : Mem0} (h : RwM mst n0 rs mq) : ∀ p ∈ mq, wlk p.2 = false := by
  obtain ⟨M, rfl, h2, h3⟩ := h
  intro p hp
  obtain ⟨m, hm, hpm⟩ := List.mem_flatten.1 hp
  obtain ⟨i, hi, rfl⟩ := List.getElem_of_mem hm
  refine (h3 i (by omega)).wlk p ?_
  rw [List.getD_eq_getElem?_getD, List.getElem?_eq_getElem hi]; exact hpm
theorem RwM.mono {mst : Int} {n0 n1 : Nat} {rs : List Rw} {mq : Mem0} (h : RwM mst n0 rs mq) (k : n1 ≤ n0) : RwM mst n1 rs mq := by
  obtain ⟨M, h1, h2, h3⟩ := h
  exact ⟨M, h1, h2, fun i hi => (h3 i hi).mono k⟩
theorem RwM.snoc {mst : Int} {n0 : Nat} {rs : List Rw} {mq m : Mem0} (h : RwM mst n0 rs mq) {r : Rw} (hr : FoM mst n0 r.b r.q r.tk m) : RwM mst n0 (rs ++ [r]) (mq ++ m) := by
  obtain ⟨M, rfl, h2, h3⟩ := h
  refine ⟨M ++ [m], by simp, by simp [h2], fun i hi => ?_⟩
  rw [List.length_append, List.length_singleton] at hi
  unfold rg
  rw [List.getD_eq_getElem?_getD, List.getD_eq_getElem?_getD]
  by_cases e : i = rs.length
  · rw [List.getElem?_append_right (by omega), List.getElem?_append_right (by omega), h2, e]; simpa using hr
  · rw [List.getElem?_append_left (by omega), List.getElem?_append_left (by omega)]
    have := h3 i (by omega)
    unfold rg at this
    rw [List.getD_eq_getElem?_getD, List.getD_eq_getElem?_getD] at this; exact this
theorem RwM.split {mst : Int} {n0 : Nat} {rs : List Rw} {mq : Mem0} (h : RwM mst n0 rs mq) {i : Nat} (hi : i < rs.length) : ∃ m rest, FoM mst n0 (rg rs i).b (rg rs i).q (rg rs i).tk m ∧ mq.Perm (m ++ rest) ∧
    (∀ r' m', FoM mst n0 r'.b r'.q r'.tk m' → ∃ mq', RwM mst n0 (rs.set i r') mq' ∧ mq'.Perm (m' ++ rest)) ∧ RwM mst n0 (rs.eraseIdx i) rest := by
  obtain ⟨M, rfl, h2, h3⟩ := h
  have hiM : i < M.length := by omega
  refine ⟨M.getD i [], (M.eraseIdx i).flatten, h3 i hi, fl_perm M i hiM, fun r' m' hr' => ⟨(M.set i m').flatten, ⟨M.set i m', rfl, by rw [List.length_set, List.length_set]; exact h2, fun k hk => ?_⟩, fl_permS hiM m'⟩, M.eraseIdx i, rfl, ?_, fun k hk => ?_⟩
  · rw [List.length_set] at hk
    unfold rg
    rw [List.getD_eq_getElem?_getD (l := rs.set i r'), List.getD_eq_getElem?_getD (l := M.set i m'), List.getElem?_set, List.getElem?_set]
    by_cases e : i = k
    · subst e; rw [if_pos rfl, if_pos hi, if_pos rfl, if_pos hiM]; exact hr'
    · rw [if_neg e, if_neg e]
      have := h3 k hk
      unfold rg at this
      rw [List.getD_eq_getElem?_getD, List.getD_eq_getElem?_getD] at this; exact this
  · rw [List.length_eraseIdx, List.length_eraseIdx, if_pos hi, if_pos hiM, h2]
  · rw [List.length_eraseIdx, if_pos hi] at hk
    unfold rg
    rw [List.getD_eq_getElem?_getD (l := rs.eraseIdx i), List.getD_eq_getElem?_getD (l := M.eraseIdx i), List.getElem?_eraseIdx, List.getElem?_eraseIdx]
    split
    · have := h3 k (by omega)
      unfold rg at this
      rw [List.getD_eq_getElem?_getD, List.getD_eq_getElem?_getD] at this; exact this
    · have := h3 (k + 1) (by omega)
      unfold rg at this
      rw [List.getD_eq_getElem?_getD, List.getD_eq_getElem?_getD] at this; exact this
def BkM (mst : Int) (n0 : Nat) (h : Bh) (rs : List Rw) (m : Mem0) : Prop := ∃ ms mq, m = ms ++ mq ∧ Sl fRw 95 2 n0 rs (.slice h.ad h.n h.cap) ms ∧ RwM mst n0 rs mq ∧ RU rs
def TkM (mst : Int) (n0 : Nat) (hs : List Bh) (B : List (List Rw)) (mb : Mem0) : Prop := ∃ M : List Mem0, mb = M.flatten ∧ M.length = hs.length ∧ B.length = hs.length ∧ ∀ j, j < hs.length → BkM mst n0 (bg hs j) (B.getD j []) (M.getD j [])
theorem BkM.ge {mst : Int} {n0 : Nat} {h : Bh} {rs : List Rw} {m : Mem0} (k : BkM mst n0 h rs m) : ∀ p ∈ m, n0 ≤ p.1 := by
  obtain ⟨ms, mq, rfl, h1, h2, h3⟩ := k
  intro p hp
  rcases List.mem_append.1 hp with hp | hp
  · exact h1.ge p hp
  · exact h2.ge p hp
theorem BkM.wlk {mst : Int} {n0 : Nat} {h : Bh} {rs : List Rw} {m : Mem0} (k : BkM mst n0 h rs m) : ∀ p ∈ m, Go.Eng.wlk p.2 = false := by
  obtain ⟨ms, mq, rfl, h1, h2, h3⟩ := k
  intro p hp
  rcases List.mem_append.1 hp with hp | hp
  · exact h1.wlk p hp
  · exact h2.wlk p hp
theorem BkM.mono {mst : Int} {n0 n1 : Nat} {h : Bh} {rs : List Rw} {m : Mem0} (k : BkM mst n0 h rs m) (hn : n1 ≤ n0) : BkM mst n1 h rs m := by
  obtain ⟨ms, mq, h0, h1, h2, h3⟩ := k
  exact ⟨ms, mq, h0, h1.mono hn, h2.mono hn, h3⟩
theorem TkM.ge {mst : Int} {n0 : Nat} {hs : List Bh} {B : List (List Rw)} {mb : Mem0} (h : TkM mst n0 hs B mb) : ∀ p ∈ mb, n0 ≤ p.1 := by
  obtain ⟨M, rfl, h2, h3, h4⟩ := h
  intro p hp
  obtain ⟨m, hm, hpm⟩ := List.mem_flatten.1 hp
  obtain ⟨i, hi, rfl⟩ := List.getElem_of_mem hm
  refine (h4 i (by omega)).ge p ?_
  rw [List.getD_eq_getElem?_getD, List.getElem?_eq_getElem hi]; exact hpm
theorem TkM.wlk {mst : Int} {n0 : Nat} {hs : List Bh} {B : List (List Rw)} {mb : Mem0} (h : TkM mst n0 hs B mb) : ∀ p ∈ mb, Go.Eng.wlk p.2 = false := by
  obtain ⟨M, rfl, h2, h3, h4⟩ := h
  intro p hp
  obtain ⟨m, hm, hpm⟩ := List.mem_flatten.1 hp
  obtain ⟨i, hi, rfl⟩ := List.getElem_of_mem hm
  refine (h4 i (by omega)).wlk p ?_
  rw [List.getD_eq_getElem?_getD, List.getElem?_eq_getElem hi]; exact hpm
theorem TkM.mono {mst : Int} {n0 n1 : Nat} {hs : List Bh} {B : List (List Rw)} {mb : Mem0} (h : TkM mst n0 hs B mb) (hn : n1 ≤ n0) : TkM mst n1 hs B mb := by
  obtain ⟨M, h1, h2, h3, h4⟩ := h
  exact ⟨M, h1, h2, h3, fun j hj => (h4 j hj).mono hn⟩
theorem TkM.split {mst : Int} {n0 : Nat} {hs : List Bh} {B : List (List Rw)} {mb : Mem0} (h : TkM mst n0 hs B mb) {j : Nat} (hj : j < hs.length) : ∃ m rest, BkM mst n0 (bg hs j) (B.getD j []) m ∧ mb.Perm (m ++ rest) ∧
    (∀ h' rs' m', BkM mst n0 h' rs' m' → ∃ mb', TkM mst n0 (hs.set j h') (B.set j rs') mb' ∧ mb'.Perm (m' ++ rest)) := by
  obtain ⟨M, rfl, h2, h3, h4⟩ := h
  have hjM : j < M.length := by omega
  refine ⟨M.getD j [], (M.eraseIdx j).flatten, h4 j hj, fl_perm M j hjM, fun h' rs' m' hb => ⟨(M.set j m').flatten, ⟨M.set j m', rfl, by rw [List.length_set, List.length_set]; exact h2, by rw [List.length_set, List.length_set]; exact h3, fun k hk => ?_⟩, fl_permS hjM m'⟩⟩
  rw [List.length_set] at hk
  unfold bg
  rw [List.getD_eq_getElem?_getD (l := hs.set j h'), List.getD_eq_getElem?_getD (l := M.set j m'), List.getD_eq_getElem?_getD (l := B.set j rs'), List.getElem?_set, List.getElem?_set, List.getElem?_set]
  by_cases e : j = k
  · subst e; rw [if_pos rfl, if_pos hj, if_pos rfl, if_pos hjM, if_pos rfl, if_pos (by omega)]; exact hb
  · rw [if_neg e, if_neg e, if_neg e]
    have := h4 k hk
    unfold bg at this
    rw [List.getD_eq_getElem?_getD, List.getD_eq_getElem?_getD, List.getD_eq_getElem?_getD] at this; exact this
def bk (key : Int) (n : Nat) : Nat := (bucketF key (n : Nat)).toNat
theorem bk_lt {key : Int} {n : Nat} (h0 : 0 < n) (h : n ≤ 64) : bk key n < n ∧ bucketF key (n : Nat) = (bk key n : Nat) := by
  have h1 := bucket_rng key (n : Nat) (by omega)
  unfold bk
  by_cases c : n < 2
  · have := h1.2.2 (by omega); omega
  · have := h1.2.1 (by omega); omega
structure RoI (each : Int) (n0 n cap : Nat) (ad : Option Addr) (R : Nat) (F : Int → Option Rw) (hs : List Bh) (B : List (List Rw)) (mo mb : Mem0) : Prop where
  hn : n = hs.length
  hpos : 0 < n
  h64 : n ≤ 64
  o : Sl fBh 93 1 n0 hs (.slice ad n cap) mo
  t : TkM (newAr each).most n0 hs B mb
  r : ∀ j, j < n → (B.getD j []).length ≤ R
  f : ∀ key, F key = fk key (B.getD (bk key n) [])
def RoM (each : Int) (n0 n cap : Nat) (ad : Option Addr) (R : Nat) (F : Int → Option Rw) (m : Mem0) : Prop := ∃ hs B mo mb, m = mo ++ mb ∧ RoI each n0 n cap ad R F hs B mo mb
theorem RoM.ge {each : Int} {n0 n cap : Nat} {ad : Option Addr} {R : Nat} {F : Int → Option Rw} {m : Mem0} (h : RoM each n0 n cap ad R F m) : ∀ p ∈ m, n0 ≤ p.1 := by
  obtain ⟨hs, B, mo, mb, rfl, h⟩ := h
  intro p hp
  rcases List.mem_append.1 hp with hp | hp
  · exact h.o.ge p hp
  · exact h.t.ge p hp
theorem RoM.wlk {each : Int} {n0 n cap : Nat} {ad : Option Addr} {R : Nat} {F : Int → Option Rw} {m : Mem0} (h : RoM each n0 n cap ad R F m) : ∀ p ∈ m, Go.Eng.wlk p.2 = false := by
  obtain ⟨hs, B, mo, mb, rfl, h⟩ := h
  intro p hp
  rcases List.mem_append.1 hp with hp | hp
  · exact h.o.wlk p hp
  · exact h.t.wlk p hp
theorem RoM.mono {each : Int} {n0 n1 n cap : Nat} {ad : Option Addr} {R : Nat} {F : Int → Option Rw} {m : Mem0} (h : RoM each n0 n cap ad R F m) (k : n1 ≤ n0) : RoM each n1 n cap ad R F m := by
  obtain ⟨hs, B, mo, mb, e, h⟩ := h
  exact ⟨hs, B, mo, mb, e, h.hn, h.hpos, h.h64, h.o.mono k, h.t.mono k, h.r, h.f⟩
theorem RoM.more {each : Int} {n0 n cap : Nat} {ad : Option Addr} {R R' : Nat} {F : Int → Option Rw} {m : Mem0} (h : RoM each n0 n cap ad R F m) (k : R ≤ R') : RoM each n0 n cap ad R' F m := by
  obtain ⟨hs, B, mo, mb, e, h⟩ := h
  exact ⟨hs, B, mo, mb, e, h.hn, h.hpos, h.h64, h.o, h.t, fun j hj => Nat.le_trans (h.r j hj) k, h.f⟩
theorem RoM.split {each : Int} {n0 n cap : Nat} {ad : Option Addr} {R : Nat} {F : Int → Option Rw} {m : Mem0} (h : RoM each n0 n cap ad R F m) (key : Int) :
    ∃ hs mo rs ms mq rest, n = hs.length ∧ n ≤ 64 ∧ bk key n < hs.length ∧ bucketF key (n : Nat) = (bk key n : Nat) ∧ Sl fBh 93 1 n0 hs (.slice ad n cap) mo ∧ Sl fRw 95 2 n0 rs (.slice (bg hs (bk key n)).ad (bg hs (bk key n)).n (bg hs (bk key n)).cap) ms ∧ RwM (newAr each).most n0 rs mq ∧ RU rs ∧ rs.length ≤ R ∧ F key = fk key rs ∧
      m.Perm (mo ++ (ms ++ (mq ++ rest))) ∧
      (∀ h' rs' mo' ms' mq' R', Sl fBh 93 1 n0 (hs.set (bk key n) h') (.slice ad n cap) mo' → Sl fRw 95 2 n0 rs' (.slice h'.ad h'.n h'.cap) ms' → RwM (newAr each).most n0 rs' mq' → RU rs' → rs'.length ≤ R' → R ≤ R' → ∀ F', (∀ k, F' k = if bk k n = bk key n then fk k rs' else F k) →
        ∃ m', RoM each n0 n cap ad R' F' m' ∧ m'.Perm (mo' ++ (ms' ++ (mq' ++ rest)))) ∧ (∀ k, bk k n = bk key n → F k = fk k rs) := by
  obtain ⟨hs, B, mo, mb, rfl, h⟩ := h
  have hb := bk_lt (key := key) h.hpos h.h64
  have hj : bk key n < hs.length := by rw [← h.hn]; exact hb.1
  obtain ⟨m, rest, ⟨ms, mq, rfl, h1, h2, h3⟩, hp, hk⟩ := h.t.split hj
  have hBl : B.length = hs.length := by obtain ⟨_, _, _, q, _⟩ := h.t; exact q
  refine ⟨hs, mo, B.getD (bk key n) [], ms, mq, rest, h.hn, h.h64, hj, hb.2, h.o, h1, h2, h3, h.r _ hb.1, h.f key, ?_, fun h' rs' mo' ms' mq' R' k1 k2 k3 k4 k5 k6 F' k7 => ?_, fun k e => by rw [h.f k, e]⟩
  · rw [← List.append_assoc ms]; exact hp.append_left mo
  · obtain ⟨mb', q1, q2⟩ := hk h' rs' (ms' ++ mq') ⟨ms', mq', rfl, k2, k3, k4⟩
    refine ⟨mo' ++ mb', ⟨hs.set (bk key n) h', B.set (bk key n) rs', mo', mb', rfl, by rw [List.length_set]; exact h.hn, h.hpos, h.h64, k1, q1, fun j hj' => ?_, fun k => ?_⟩, ?_⟩
    · rw [List.getD_eq_getElem?_getD, List.getElem?_set]
      by_cases e : bk key n = j
      · subst e; rw [if_pos rfl, if_pos (by omega)]; exact k5
      · rw [if_neg e]
        have := h.r j hj'
        rw [List.getD_eq_getElem?_getD] at this; omega
    · rw [k7 k, List.getD_eq_getElem?_getD, List.getElem?_set]
      by_cases e : bk k n = bk key n
      · rw [if_pos e, if_pos e.symm, if_pos (by omega)]; rfl
      · rw [if_neg e, if_neg (fun z => e z.symm), h.f k, List.getD_eq_getElem?_getD]
    · rw [← List.append_assoc ms']; exact q2.append_left mo'
def fset (F : Int → Option Rw) (key : Int) (v : Option Rw) : Int → Option Rw := fun k => if k = key then v else F k
theorem bg_set {hs : List Bh} {j : Nat} (hj : j < hs.length) : hs.set j (bg hs j) = hs := by
  apply List.ext_getElem?
  intro i
  rw [List.getElem?_set]
  by_cases e : j = i
  · subst e; rw [if_pos rfl, if_pos hj]; unfold bg; rw [List.getD_eq_getElem?_getD, List.getElem?_eq_getElem hj]; rfl
  · rw [if_neg e]
end Go.Eng
