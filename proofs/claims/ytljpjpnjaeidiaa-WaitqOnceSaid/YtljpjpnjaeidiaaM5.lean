/- The walks of the law of waits: nobody's table. No condition. -/
import Derived.Test.YtljpjpnjaeidiaaM4
import Derived.Test.YtljpjpnjaeidiaaM2
set_option linter.unusedVariables false
set_option linter.unusedSimpArgs false
namespace Go.Eng
open Go Go.Proofs Go.RowKit
theorem wakeF_all {key n : Int} : ∀ (f : Nat) (o : List Int) (L : List Wt), (∀ x ∈ L, x.key = key) → Wd1 L → L.length ≤ f → (o.length : Int) + L.length < n → wakeF key n f o L = (o ++ L.map (·.who), [])
  | f, o, [], _, _, _, _ => by rw [wakeF_stop (fun z => by have := z.2; unfold cntL LF at this; simp at this)]; simp
  | 0, o, x :: L, _, _, h, _ => by simp at h
  | f + 1, o, x :: L, hk, hw, h, hn => by
    have hkx : x.key = key := hk x (List.mem_cons_self ..)
    have hLF : LF (x :: L) key = x :: LF L key := by unfold LF; exact List.filter_cons_of_pos (p := fun w => decide (w.key = key)) (a := x) (decide_eq_true hkx)
    have hf : fstW (x :: L) key = x := by unfold fstW; rw [hLF]; rfl
    have h1 := List.pairwise_cons.1 hw
    have hr : rmW (x :: L) x.who = L := by
      show List.filter _ _ = _
      rw [List.filter_cons_of_neg (by simp)]
      exact rm_no (fun y hy e => h1.1 y hy e.symm)
    have hc : 0 < cntL (x :: L) key := by unfold cntL; rw [hLF]; simp
    simp only [List.length_cons] at h hn
    rw [wakeF_go ⟨by omega, hc⟩, hf, hr, wakeF_all f _ L (fun y hy => hk y (List.mem_cons_of_mem _ hy)) h1.2 (by omega) (by rw [List.length_append, List.length_singleton]; omega)]
    simp
set_option maxRecDepth 100000 in
theorem twait_nil (v : Wt) (w : World) : Ret Try.prog 8 #[.pointer none, .agg (fWt v).toArray] w (fun u w' => u = .int .i64 1 ∧ Ext w w') := by
 refine Ret.enterM (l := [.pointer none, .agg (fWt v).toArray]) Try.func8 rfl Try.ntmps8 rfl ([]) (no) (Mem.nil w) ?_
 refine wpM.seq (wpM.region ?_)
 refine LM.box rfl rfl (fun b3 hb3 => ?_)
 refine LM.as rfl ?_
 refine LM.nil (QM.sub (e' := [(0, _), (3, _)]) au9 (QM.then ?_))
 refine wpM.seq ?_
 refine wpM.seq (wpM.region ?_)
 refine LM.mv rfl ?_
 refine LM.val (ov_peql (by kernel_rfl) rfl rfl) ?_
 refine LM.nil (QM.sub (e' := [(0, _), (3, _), (9, _)]) au9 (QM.then ?_))
 first | refine wpM.condD rfl (fun h1 => ?_) (fun h1 => ?_) | refine wpM.condB rfl (fun h1 => ?_) (fun h1 => ?_)
 ·
  refine wpM.seq (wpM.region ?_)
  refine LM.as rfl ?_
  refine LM.nil (QM.sub (e' := [(4, _)]) ⟨rfl, trivial⟩ (QM.then ?_))
  refine wpM.ret ?_
  refine QM.then_ret ?_
  refine QM.leave (.inl rfl) [.tmp 4] Try.results8 rfl ?_
  intro w' hm' hc' hg'
  exact ⟨rfl, hc'⟩
 cases h1
set_option maxRecDepth 100000 in
theorem tfirst_nil (key : Int) (w : World) : Ret Try.prog 31 #[.pointer none, .int .i64 key] w (fun u w' => u = .tuple #[.agg (fWt default).toArray, .bool false] ∧ Ext w w') := by
 refine Ret.enterM (l := [.pointer none, .int .i64 key]) Try.func31 rfl Try.ntmps31 rfl ([]) (no) (Mem.nil w) ?_
 refine wpM.seq (wpM.region ?_)
 refine LM.alloc Try.zeroValue32 rfl (fun b4 hb4 => ?_)
 refine LM.alloc Try.zeroValue4 rfl (fun b5 hb5 => ?_)
 refine LM.nil (QM.sub (e' := [(0, _), (1, _), (4, _), (5, _)]) au9 (QM.then ?_))
 refine wpM.seq ?_
 refine wpM.seq (wpM.region ?_)
 refine LM.mv rfl (LM.mv rfl ?_)
 refine LM.callT (oc_call (enters_fn Try.func22 (by kernel_rfl) rfl) rfl) OfT.mono (fun w hm hc hg => of_spec none key w) ?_
 rintro u9 m9 ⟨c1, c2, rfl, rfl, hc1, hc2⟩ -
 refine LM.nil (QM.sub (e' := [(4, _), (5, _), (9, _)]) au9 (QM.then ?_))
 refine wpM.block ?_
 refine wpM.toRange (α := Unit) (fun k ⟨⟩ => tF c1 none :: ((b4, .cells (fWt default).toArray 32 (0, 0)) :: (b5, .cells #[.bool false] 4 (0, 0)) :: [])) (⟨⟩) au1 ?_
 refine wpM.rangeP (α := Unit) (β := Unit) (enters_fn Try.func42 (by kernel_rfl) rfl) rfl (of_seq_nil (c1 := c1) (c2 := c2) (key := key)) (fun k ⟨⟩ Mp => tF c1 none :: ((b4, .cells (fWt default).toArray 32 (0, 0)) :: (b5, .cells #[.bool false] 4 (0, 0)) :: (Mp ++ []))) (by rintro k ⟨⟩ Mp; first | rfl | simp) (fun _ _ => top) (fun k ⟨⟩ => True) (fun ⟨⟩ => []) (fun _ => top) (fun c ⟨⟩ => False) ⟨⟩ rfl (fun _ h => h) trivial (by kernel_rfl) (by intro k av hav; exact (foA0_inv hav).elim) (.inl trivial) (fun k a w hm hc hg _ => hm.pick (tF c1 none :: [])) (fun _ _ _ _ => gl_top _) (fun _ _ _ => gl_top _) (fun k x _ => by ((repeat (refine mm_cons rfl ?_)); exact fun p hp => .inl (by first | exact hp | (simp at hp; done) | (simp [hp]; done) | (simp at hp ⊢; first | exact .inl hp | exact hp | (simp [hp]; done))))) (fun c z _ => by ((repeat (refine mm_cons rfl ?_)); exact fun p hp => .inl (by first | exact hp | (simp at hp; done) | (simp [hp]; done) | (simp at hp ⊢; first | exact .inl hp | exact hp | (simp [hp]; done))))) ?_ ?_ ?_ ?_
 ·
  rintro k av ⟨⟩ l D rc n1 W1 Mp hD hll hput hrc hav -
  change wpM _ _ _ _ _ _ _ ((l, Obj.loop rc) :: ([(D, Obj.deferred (some []))] ++ (tF c1 none :: ((b4, .cells (fWt default).toArray 32 (0, 0)) :: (b5, .cells #[.bool false] 4 (0, 0)) :: (Mp ++ []))))) _ _ _
  exfalso; exact foA0_inv hav
  skip
 ·
  rintro ⟨⟩ D0 hD0 -
  refine QM.sub (e' := [(4, _), (5, _)]) au9 ?_
  refine QM.block_normal ?_
  refine QM.then (wpM.seq (wpM.region ?_))
  refine LM.val (ov_build (cs := #[_, _, _]) rfl (by first | rfl | kernel_rfl)) ?_
  refine LM.stW Try.sizeOf32 rfl rfl rfl rfl au7 au8 ?_
  refine LM.st Try.sizeOf4 rfl rfl rfl au5 rfl au8 ?_
  refine LM.nil (QM.sub (e' := [(4, _), (5, _)]) au9 (QM.then ?_))
  refine wpM.ret ?_
  refine QM.leaveCs (ds := (D0 :: [])) (.inl rfl) [.cell 4 32, .cell 5 4] Try.results31 (hd_cons hD0 hd_nil) (rc_w rfl Try.isAgg32 Try.sizeOf32 rfl (rc_c rfl Try.isAgg4 rfl rc_nil)) ?_
  intro w' hm' hc'
  exact ⟨rfl, hc'⟩
 ·
  rintro ⟨⟩ D0 hD0 hx
  exact hx.elim
 rintro id ⟨⟩ D0 hD0 hx
 exact hx.elim
set_option maxRecDepth 100000 in
theorem twake_nil (key n : Int) (w : World) : Ret Try.prog 11 #[.pointer none, .int .i64 key, .int .i64 n] w (fun u w' => u = .slice none 0 0 ∧ Ext w w') := by
 refine Ret.enterM (l := [.pointer none, .int .i64 key, .int .i64 n]) Try.func11 rfl Try.ntmps11 rfl ([]) (no) (Mem.nil w) ?_
 refine wpM.seq (wpM.region ?_)
 refine LM.as rfl ?_
 refine LM.nil (QM.sub (e' := [(0, _), (1, _), (2, _)]) au9 (QM.then (wpM.seq (wpM.region ?_))))
 refine LM.as rfl ?_
 refine LM.nil (QM.sub (e' := [(0, _), (1, _), (2, _), (7, _)]) au9 (QM.then ?_))
 refine wpM.seq ?_
 refine wpM.block ?_
 refine wpM.loopK0 (α := Unit) (fun ⟨⟩ => [(7, .slice none 0 0)]) [(0, _), (1, _), (2, _)] (fun ⟨⟩ => []) (fun ⟨⟩ => True) (fun ⟨⟩ => 0) (⟨⟩) ⟨au2, rfl, rfl, rfl, trivial⟩ au1 trivial ?_
 rintro ⟨⟩ -
 change wpM _ _ _ _ _ _ _ ([]) _ _ _
 refine wpM.seq ?_
 refine wpM.seq (wpM.region ?_)
 refine LM.mv rfl ?_
 refine LM.val (ov_len Try.underlying29 rfl) ?_
 refine LM.mv rfl ?_
 refine LM.val (ov_lss rfl rfl) ?_
 refine LM.nil (QM.sub (e' := [(0, _), (1, _), (2, _), (7, _), (13, _)]) au9 (QM.then ?_))
 refine wpM.condD rfl (fun h1 => ?_) (fun h1 => ?_)
 ·
  refine wpM.skip ?_
  refine QM.then ?_
  refine wpM.block ?_
  refine wpM.seq (wpM.region ?_)
  refine LM.mv rfl (LM.mv rfl ?_)
  refine LM.callE (oc_call (enters_fn Try.func31 (by kernel_rfl) rfl) rfl) (fun w hm hc hg => tfirst_nil key w) ?_
  refine LM.mv rfl ?_
  refine LM.val (ov_extract rfl rfl) ?_
  refine LM.val (ov_extract rfl rfl) ?_
  refine LM.alloc Try.zeroValue32 rfl (fun b8 hb8 => ?_)
  refine LM.stW Try.sizeOf32 rfl rfl rfl rfl au7 au8 ?_
  refine LM.as rfl ?_
  refine LM.nil (QM.sub (e' := [(0, _), (1, _), (2, _), (7, _), (8, _), (9, _)]) au9 (QM.then ?_))
  refine wpM.seq ?_
  refine wpM.seq (wpM.region ?_)
  refine LM.mv rfl ?_
  first | refine LM.val (ov_notD rfl) ?_ | refine LM.val (ov_not rfl) ?_
  refine LM.nil (QM.sub (e' := [(0, _), (1, _), (2, _), (7, _), (8, _), (21, _)]) au9 (QM.then ?_))
  first | refine wpM.condD rfl (fun h2 => ?_) (fun h2 => ?_) | refine wpM.condB rfl (fun h2 => ?_) (fun h2 => ?_)
  ·
   refine wpM.exit ?_
   refine QM.then_exit ?_
   refine QM.block_miss rfl ?_
   refine QM.then_exit ?_
   refine QM.block_hit ?_
   refine QM.then (wpM.seq (wpM.region ?_))
   refine LM.mv rfl (LM.as rfl ?_)
   refine LM.nil (QM.sub (e' := [(6, _)]) ⟨rfl, trivial⟩ (QM.then ?_))
   refine wpM.ret ?_
   refine QM.leave (.inl rfl) [.tmp 6] Try.results11 rfl ?_
   intro w' hm' hc' hg'
   exact ⟨rfl, hc'⟩
  cases h2
 refine wpM.exit ?_
 refine QM.then_exit ?_
 refine QM.then_exit ?_
 refine QM.block_hit ?_
 refine QM.then (wpM.seq (wpM.region ?_))
 refine LM.mv rfl (LM.as rfl ?_)
 refine LM.nil (QM.sub (e' := [(6, _)]) ⟨rfl, trivial⟩ (QM.then ?_))
 refine wpM.ret ?_
 refine QM.leave (.inl rfl) [.tmp 6] Try.results11 rfl ?_
 intro w' hm' hc' hg'
 exact ⟨rfl, hc'⟩
set_option maxRecDepth 100000 in
theorem trequeue_nil (fr to n : Int) (w : World) : Ret Try.prog 16 #[.pointer none, .int .i64 fr, .int .i64 to, .int .i64 n] w (fun u w' => u = .int .i64 0 ∧ Ext w w') := by
 refine Ret.enterM (l := [.pointer none, .int .i64 fr, .int .i64 to, .int .i64 n]) Try.func16 rfl Try.ntmps16 rfl ([]) (no) (Mem.nil w) ?_
 refine wpM.seq (wpM.region ?_)
 refine LM.as rfl ?_
 refine LM.nil (QM.sub (e' := [(0, _), (1, _), (2, _), (3, _)]) au9 (QM.then (wpM.seq (wpM.region ?_))))
 refine LM.as rfl ?_
 refine LM.nil (QM.sub (e' := [(0, _), (1, _), (2, _), (3, _), (9, _)]) au9 (QM.then ?_))
 refine wpM.seq ?_
 refine wpM.block ?_
 refine wpM.loopK0 (α := Unit) (fun ⟨⟩ => [(9, .int .i64 0)]) [(0, _), (1, _), (2, _), (3, _)] (fun ⟨⟩ => []) (fun ⟨⟩ => True) (fun ⟨⟩ => 0) (⟨⟩) ⟨au2, rfl, rfl, rfl, rfl, trivial⟩ au1 trivial ?_
 rintro ⟨⟩ -
 change wpM _ _ _ _ _ _ _ ([]) _ _ _
 refine wpM.seq ?_
 refine wpM.seq (wpM.region ?_)
 refine LM.mv rfl (LM.mv rfl ?_)
 refine LM.val (ov_neq rfl rfl) ?_
 refine LM.mv rfl ?_
 refine LM.splitD (t := 15) rfl (fun h1 => ?_) (fun h1 => ?_)
 ·
  refine LM.sp 15 rfl rfl rfl (LM.mv rfl (LM.sp 15 rfl rfl rfl (LM.mv rfl (LM.sp 15 rfl rfl rfl ?_))))
  refine LM.val (ov_lss rfl rfl) ?_
  refine LM.val (ov_pickT rfl rfl) ?_
  refine LM.mv rfl ?_
  refine LM.splitD (t := 20) rfl (fun h2 => ?_) (fun h2 => ?_)
  ·
   refine LM.sp 20 rfl rfl rfl (LM.mv rfl (LM.sp 20 rfl rfl rfl (LM.mv rfl (LM.sp 20 rfl rfl rfl ?_))))
   refine LM.callE (oc_call (enters_fn Try.func24 (by kernel_rfl) rfl) rfl) (fun w hm hc hg => tcount_nil to w) ?_
   refine LM.sp 20 rfl rfl rfl (LM.mv rfl (LM.sp 20 rfl rfl rfl ?_))
   refine LM.callE (oc_call (enters_fn Try.func35 (by kernel_rfl) rfl) rfl) (fun w hm hc hg => troom_nil w) ?_
   refine LM.sp 20 rfl rfl rfl ?_
   refine LM.val (ov_lss rfl rfl) ?_
   refine LM.val (ov_pickT rfl rfl) ?_
   refine LM.nil (QM.sub (e' := [(0, _), (1, _), (2, _), (3, _), (9, _), (27, _)]) au9 (QM.then ?_))
   refine wpM.condD rfl (fun h3 => ?_) (fun h3 => ?_)
   ·
    omega
   refine wpM.exit ?_
   refine QM.then_exit ?_
   refine QM.then_exit ?_
   refine QM.block_hit ?_
   refine QM.then (wpM.seq (wpM.region ?_))
   refine LM.mv rfl (LM.as rfl ?_)
   refine LM.nil (QM.sub (e' := [(8, _)]) ⟨rfl, trivial⟩ (QM.then ?_))
   refine wpM.ret ?_
   refine QM.leave (.inl rfl) [.tmp 8] Try.results16 rfl ?_
   intro w' hm' hc' hg'
   exact ⟨rfl, hc'⟩
  refine LM.dr 20 rfl rfl rfl (LM.dr 20 rfl rfl rfl (LM.dr 20 rfl rfl rfl (LM.dr 20 rfl rfl rfl (LM.dr 20 rfl rfl rfl (LM.dr 20 rfl rfl rfl ?_)))))
  refine LM.val (ov_pickF rfl rfl) ?_
  refine LM.nil (QM.sub (e' := [(0, _), (1, _), (2, _), (3, _), (9, _), (27, _)]) au9 (QM.then ?_))
  refine wpM.condF rfl ?_
  refine wpM.exit ?_
  refine QM.then_exit ?_
  refine QM.then_exit ?_
  refine QM.block_hit ?_
  refine QM.then (wpM.seq (wpM.region ?_))
  refine LM.mv rfl (LM.as rfl ?_)
  refine LM.nil (QM.sub (e' := [(8, _)]) ⟨rfl, trivial⟩ (QM.then ?_))
  refine wpM.ret ?_
  refine QM.leave (.inl rfl) [.tmp 8] Try.results16 rfl ?_
  intro w' hm' hc' hg'
  exact ⟨rfl, hc'⟩
 refine LM.dr 15 rfl rfl rfl (LM.dr 15 rfl rfl rfl (LM.dr 15 rfl rfl rfl ?_))
 refine LM.val (ov_pickF rfl rfl) ?_
 refine LM.mv rfl (LM.dr 20 rfl rfl rfl (LM.dr 20 rfl rfl rfl (LM.dr 20 rfl rfl rfl (LM.dr 20 rfl rfl rfl (LM.dr 20 rfl rfl rfl ?_)))))
 refine LM.dr 20 rfl rfl rfl ?_
 refine LM.val (ov_pickF rfl rfl) ?_
 refine LM.nil (QM.sub (e' := [(0, _), (1, _), (2, _), (3, _), (9, _), (27, _)]) au9 (QM.then ?_))
 refine wpM.condF rfl ?_
 refine wpM.exit ?_
 refine QM.then_exit ?_
 refine QM.then_exit ?_
 refine QM.block_hit ?_
 refine QM.then (wpM.seq (wpM.region ?_))
 refine LM.mv rfl (LM.as rfl ?_)
 refine LM.nil (QM.sub (e' := [(8, _)]) ⟨rfl, trivial⟩ (QM.then ?_))
 refine wpM.ret ?_
 refine QM.leave (.inl rfl) [.tmp 8] Try.results16 rfl ?_
 intro w' hm' hc' hg'
 exact ⟨rfl, hc'⟩
end Go.Eng
namespace Go.Eng
open Go Go.Proofs Go.RowKit
theorem wt_yes {most each : Int} {L : List Wt} {v : Wt} (h : wtE most each L v = 0) : wtL most each L v = L ++ [v] := by
  unfold wtE at h; unfold wtL
  by_cases c : ∃ x ∈ L, x.who = v.who
  · rw [if_pos c] at h; cases h
  · rw [if_neg c] at h ⊢
    by_cases c2 : most ≤ (L.length : Int)
    · rw [if_pos c2] at h; cases h
    · rw [if_neg c2] at h ⊢
      unfold entE at h; unfold entL
      by_cases c3 : each ≤ (cntL L v.key : Int)
      · rw [if_pos c3] at h; cases h
      · rw [if_neg c3]
theorem wt_not {most each : Int} {L : List Wt} {v : Wt} (h : ¬ wtE most each L v = 0) : wtL most each L v = L := by
  unfold wtE at h; unfold wtL
  by_cases c : ∃ x ∈ L, x.who = v.who
  · rw [if_pos c]
  · rw [if_neg c] at h ⊢
    by_cases c2 : most ≤ (L.length : Int)
    · rw [if_pos c2]
    · rw [if_neg c2] at h ⊢
      unfold entE at h; unfold entL
      by_cases c3 : each ≤ (cntL L v.key : Int)
      · rw [if_pos c3]
      · rw [if_neg c3] at h; exact absurd rfl h
theorem map_er {α β : Type} (f : α → β) : ∀ (l : List α) (i : Nat), (l.eraseIdx i).map f = (l.map f).eraseIdx i
  | [], _ => rfl
  | _ :: _, 0 => rfl
  | x :: l, i + 1 => by simp only [List.eraseIdx_cons_succ, List.map_cons]; rw [map_er f l i]
theorem who_at (L : List Wt) {i : Nat} (h : i < L.length) : (L.map (·.who)).getD i 0 = (wg L i).who := by
  unfold wg; rw [List.getD_eq_getElem?_getD, List.getD_eq_getElem?_getD, List.getElem?_map, List.getElem?_eq_getElem h]; rfl
abbrev sF (c : Nat) (ad : Option Addr) (n cap : Nat) : Nat × Obj := (c, .cells #[.slice ad n cap] 29 (0, 0))
abbrev maxU : BitVec 64 := 18446744073709551615#64
set_option maxRecDepth 100000 in
set_option maxHeartbeats 2000000 in
theorem waitqOnce (key bu : Int) {l : List Wt} {ad0 : Option Addr} {n cap0 : Nat} (w : World) (hn : n = l.length) (hl : Sr fWt 3 l (.slice ad0 n cap0) w) : Ret Try.prog 4 #[.slice ad0 n cap0, .int .i64 key, .int .i64 bu] w (fun v w' => v = .bool true ∧ Ext w w') := by
 refine Ret.enterM (l := [.slice ad0 n cap0, .int .i64 key, .int .i64 bu]) Try.func4 rfl Try.ntmps4 rfl ([]) (no) (Mem.nil w) ?_
 refine wpM.seq (wpM.region ?_)
 refine LM.box rfl rfl (fun b4 hb4 => ?_)
 refine LM.alloc Try.zeroValue4 rfl (fun b6 hb6 => ?_)
 refine LM.nil (QM.sub (e' := [(0, _), (2, _), (4, _), (6, _)]) au9 (QM.then ?_))
 refine wpM.seq ?_
 refine wpM.seq (wpM.region ?_)
 refine LM.callE (oc_call (enters_fn Try.func5 (by kernel_rfl) rfl) rfl) (fun w hm hc hg => awake08_spec w) ?_
 first | refine LM.val (ov_notD rfl) ?_ | refine LM.val (ov_not rfl) ?_
 refine LM.nil (QM.sub (e' := [(0, _), (2, _), (4, _), (6, _), (20, _)]) au9 (QM.then ?_))
 first | refine wpM.condD rfl (fun h1 => ?_) (fun h1 => ?_) | refine wpM.condB rfl (fun h1 => ?_) (fun h1 => ?_)
 ·
  cases h1
 refine wpM.skip ?_
 refine QM.then ?_
 refine wpM.seq ?_
 refine wpM.seq (wpM.region ?_)
 refine LM.mv rfl ?_
 refine LM.val (ov_len Try.underlying46 rfl) ?_
 refine LM.val (ov_gtr rfl rfl) ?_
 refine LM.nil (QM.sub (e' := [(0, _), (2, _), (4, _), (6, _), (23, _)]) au9 (QM.then ?_))
 refine wpM.condD rfl (fun h2 => ?_) (fun h2 => ?_)
 ·
  refine wpM.seq (wpM.region ?_)
  refine LM.st Try.sizeOf4 rfl rfl rfl au5 rfl au8 ?_
  refine LM.nil (QM.sub (e' := [(6, _)]) ⟨rfl, trivial⟩ (QM.then ?_))
  refine wpM.ret ?_
  refine QM.then_ret ?_
  refine QM.leaveCF Try.results4 rfl Try.isAgg4 rfl ?_
  intro w' hm' hc' hg'
  exact ⟨rfl, hc'⟩
 refine wpM.skip ?_
 refine QM.then (wpM.seq (wpM.region ?_))
 refine LM.mv rfl ?_
 refine LM.callT (oc_call (enters_fn Try.func6 (by kernel_rfl) rfl) rfl) TbN.mono (fun w hm hc hg => tnew_spec bu 100 100 w) ?_
 rintro u25 m25 ⟨bt, rfl, h25⟩ hge25; rw [newMost100] at h25
 refine LM.as rfl ?_
 refine LM.nil (QM.sub (e' := [(0, _), (4, _), (6, _), (7, _)]) au9 (QM.then (wpM.seq (wpM.region ?_))))
 refine LM.alloc Try.zeroValue29 rfl (fun b8 hb8 => ?_)
 refine LM.nil (QM.sub (e' := [(0, _), (4, _), (6, _), (7, _), (8, _)]) au9 (QM.then ?_))
 refine wpM.seq ?_
 refine wpM.seq (wpM.region ?_)
 refine LM.mv rfl ?_
 refine LM.val (ov_len Try.underlying46 rfl) ?_
 refine LM.mv rfl ?_
 refine LM.nil (QM.sub (e' := [(4, _), (6, _), (7, _), (8, _), (26, _), (27, _), (28, _)]) au9 (QM.then ?_))
 refine wpM.block ?_
 refine wpM.loopK0 (α := Nat × List Wt × Option Addr × Nat × Nat × Mem0 × Mem0) (fun ⟨i, L, ad, no, cap, mo, mt⟩ => [(28, .int .i64 (i : Nat))]) [(4, _), (6, _), (7, _), (8, _), (26, _), (27, _)] (fun ⟨i, L, ad, no, cap, mo, mt⟩ => iF b4 key :: bF b6 false :: sF b8 ad no cap :: (mo ++ (mt ++ []))) (fun ⟨i, L, ad, no, cap, mo, mt⟩ => i ≤ l.length ∧ L.length ≤ i ∧ (∀ x ∈ L, x.key = key) ∧ TbM 100 100 w.heap.size i L bt mt ∧ Sl fI 3 1 w.heap.size (L.map (·.who)) (.slice ad no cap) mo) (fun ⟨i, L, ad, no, cap, mo, mt⟩ => l.length - i) ((0, [], none, 0, 0, [], m25)) ⟨au2, rfl, rfl, rfl, rfl, rfl, rfl, trivial⟩ au1 ⟨Nat.zero_le _, Nat.le_refl _, fun x hx => (by cases hx), h25, Sl.nil _ _ _ _⟩ ?_
 rintro ⟨i, L, ad, no, cap, mo, mt⟩ ⟨hi, hLi, hkey, hT, ho⟩
 change wpM _ _ _ _ _ _ _ (iF b4 key :: bF b6 false :: sF b8 ad no cap :: (mo ++ (mt ++ []))) _ _ _
 have hlm : (L.map (·.who)).length = L.length := List.length_map ..
 refine wpM.seq (wpM.region ?_)
 refine LM.val (ov_lss rfl rfl) ?_
 refine LM.nil (QM.sub (e' := [(4, _), (6, _), (7, _), (8, _), (26, _), (27, _), (28, _), (29, _)]) au9 (QM.then ?_))
 refine wpM.seq ?_
 refine wpM.condD rfl (fun h3 => ?_) (fun h3 => ?_)
 ·
  refine wpM.skip ?_
  refine QM.then ?_
  refine wpM.seq ?_
  refine wpM.block ?_
  refine wpM.seq (wpM.region ?_)
  refine LM.val (ov_idxSN au6 Try.underlying46 Try.sizeOf32 rfl rfl (by omega)) ?_
  first | refine LM.rd (om_slA (by assumption) (by intro _; rfl) Try.isAgg32 Try.sizeOf32 rfl au3) ?_ | refine LM.rdC (om_srEA (by assumption) (by intro _; rfl) Try.isAgg32 Try.sizeOf32 rfl au3 id) ?_ | refine LM.rd (om_ldW Try.isAgg32 Try.sizeOf32 rfl rfl) ?_ | refine LM.rd (om_ldA Try.isAgg32 Try.sizeOf32 rfl (vs := [_, _, _]) rfl ⟨rfl, rfl, rfl, trivial⟩) ?_
  refine LM.alloc Try.zeroValue32 rfl (fun b10 hb10 => ?_)
  refine LM.stW Try.sizeOf32 rfl rfl rfl rfl au7 au8 ?_
  refine LM.nil (QM.sub (e' := [(4, _), (6, _), (7, _), (8, _), (10, _), (26, _), (27, _), (28, _)]) au9 (QM.then (wpM.seq (wpM.region ?_))))
  refine LM.rd (om_ld Try.isAgg3 rfl rfl) ?_
  refine LM.val (ov_field Try.underlying32 rfl Try.sizeOf3 rfl (k := 1) rfl rfl) ?_
  refine LM.st Try.sizeOf3 rfl rfl rfl au5 rfl au8 ?_
  refine LM.nil (QM.sub (e' := [(4, _), (6, _), (7, _), (8, _), (10, _), (26, _), (27, _), (28, _)]) au9 (QM.then (wpM.seq (wpM.region ?_))))
  refine LM.mv rfl ?_
  refine LM.rd (om_ldW Try.isAgg32 Try.sizeOf32 rfl rfl) ?_
  refine LM.cU (oc_call (enters_fn Try.func8 (by kernel_rfl) rfl) rfl) (fun w hm hc hg => twait_spec (toKey (l.getD i default) key) w hT (by omega) hc.size (hm.pick mt)) hT.wlk (fun p hp hlt => absurd hlt (Nat.not_lt_of_le (hT.ge p hp))) ?_
  rintro u36 m36 ⟨rfl, h36⟩ -
  refine LM.val (ov_eql rfl rfl) ?_
  refine LM.nil (QM.sub (e' := [(4, _), (6, _), (7, _), (8, _), (10, _), (26, _), (27, _), (28, _), (37, _)]) au9 (QM.then ?_))
  refine wpM.condD rfl (fun h4 => ?_) (fun h4 => ?_)
  ·
   refine wpM.region ?_
   refine LM.rd (om_ld Try.isAgg29 rfl rfl) ?_
   refine LM.val (ov_field Try.underlying32 rfl Try.sizeOf3 rfl (k := 0) rfl rfl) ?_
   refine LM.rd (om_ld Try.isAgg3 rfl rfl) ?_
   refine LM.single Try.underlying29 Try.sizeOf3 Try.zeroValue3 rfl rfl rfl rfl rfl (fun b41 hb41 => ?_)
   refine LM.app (a := (l.getD i default).who) Try.underlying29 Try.typeInfo3 rfl rfl rfl rfl rfl rfl rfl (by assumption) (by rfl) (by intro _; rfl) (by intro _ u hu; simp [fI] at hu; (repeat (first | (rcases hu with rfl | hu) | subst hu | rfl))) (by first | exact Nat.le_refl _ | omega) au10 (by first | omega | (unfold maxLen; omega)) (by simp only [Try.t3]; omega) (fun ad42 n42 cap42 m42 hn42 hs42 hin42 => ?_)
   refine LM.st Try.sizeOf29 rfl rfl rfl au5 rfl au8 ?_
   refine LM.nil (QM.sub (e' := [(4, _), (6, _), (7, _), (8, _), (26, _), (27, _), (28, _)]) au9 ?_)
   refine QM.block_normal ?_
   refine QM.then (wpM.region ?_)
   refine LM.val (ov_add64 rfl rfl (by omega)) ?_
   refine LM.mv rfl ?_
   refine LM.nil (QM.sub (e' := [(4, _), (6, _), (7, _), (8, _), (26, _), (27, _), (28, _)]) au9 ?_)
   refine QM.againK (i + 1, L ++ [toKey (l.getD i default) key], ad42, n42, cap42, m42, m36) ⟨au2, rfl, rfl, rfl, rfl, rfl, rfl, trivial⟩ au1 (fun _ h => h) ?_ ?_
   · exact ⟨by omega, by rw [List.length_append, List.length_singleton]; omega, fun x hx => by rcases List.mem_append.1 hx with hx | hx; exact hkey x hx; rw [List.mem_singleton] at hx; subst hx; rfl, by rw [← wt_yes h4]; exact h36, by rw [List.map_append]; exact hs42⟩
   · first | omega | (dsimp only; omega)
  refine wpM.skip ?_
  refine QM.block_normal ?_
  refine QM.then (wpM.region ?_)
  refine LM.val (ov_add64 rfl rfl (by omega)) ?_
  refine LM.mv rfl ?_
  refine LM.nil (QM.sub (e' := [(4, _), (6, _), (7, _), (8, _), (26, _), (27, _), (28, _)]) au9 ?_)
  refine QM.againK (i + 1, L, ad, no, cap, mo, m36) ⟨au2, rfl, rfl, rfl, rfl, rfl, rfl, trivial⟩ au1 (fun _ h => h) ?_ ?_
  · exact ⟨by omega, by omega, hkey, by rw [wt_not h4] at h36; exact h36, ho⟩
  · first | omega | (dsimp only; omega)
 obtain ⟨bh, S, mq, mh, rfl, hq, hS, hH⟩ := hT; have hwd := hq.lim.2.2.2; have hids := hS.ids; have hlen60 : L.length ≤ 60 := (by omega)
 refine wpM.exit ?_
 refine QM.then_exit ?_
 refine QM.then_exit ?_
 refine QM.block_hit ?_
 refine QM.then ?_
 refine wpM.seq ?_
 refine wpM.seq (wpM.region ?_)
 refine LM.mv rfl ?_
 refine LM.callT (oc_call (enters_fn Try.func21 (by kernel_rfl) rfl) rfl) ExA.mono (fun w hm hc hg => expire_spec (some ⟨bt, 0, none⟩) maxU w) ?_
 rintro u45 m45 ⟨c1, c2, rfl, rfl, hc1, hc2⟩ -
 refine LM.nil (QM.sub (e' := [(4, _), (6, _), (7, _), (8, _), (45, _)]) au9 (QM.then ?_))
 refine wpM.block ?_
 refine wpM.toRange (α := Option Addr × Nat × Nat × Mem0) (fun k ⟨ae, ne, ce, me⟩ => iF b4 key :: bF b6 false :: sF b8 ae ne ce :: (me ++ (tF c1 (some ⟨bt, 0, none⟩) :: uF c2 maxU :: (mq ++ mh) ++ []))) ((ad, no, cap, mo)) au1 ?_
 refine wpM.rangeS (α := Option Addr × Nat × Nat × Mem0) (β := Unit) (enters_fn Try.func40 (by kernel_rfl) rfl) rfl (expire_seq (c1 := c1) (c2 := c2) (u := maxU) hq hS hH) (fun k ⟨ae, ne, ce, me⟩ Mp => iF b4 key :: bF b6 false :: sF b8 ae ne ce :: (me ++ (Mp ++ []))) (by rintro k ⟨ae, ne, ce, me⟩ Mp; first | rfl | simp) (fun k ⟨ae, ne, ce, me⟩ Mp => top) (fun k ⟨ae, ne, ce, me⟩ => Sl fI 3 1 w.heap.size ((exL L (S.take k)).map (·.who)) (.slice ae ne ce) me) (fun ⟨⟩ => []) (fun _ => top) (fun c ⟨⟩ => False) (ad, no, cap, mo) rfl (fun _ h => h) ho (by kernel_rfl) (by intro k av hav; obtain ⟨hkd, rfl⟩ := exA_inv hav; rfl) (by intro p hp; simp only [List.mem_cons, List.mem_append] at hp; rcases hp with rfl | rfl | hp | hp; rfl; rfl; exact hq.wlk p hp; exact hS.wlk p hp) (by intro p hp hlt; simp only [List.mem_cons, List.mem_append] at hp; rcases hp with rfl | rfl | hp | hp; exact absurd hlt (Nat.not_lt_of_le hc1); exact absurd hlt (Nat.not_lt_of_le hc2); exact absurd hlt (Nat.not_lt_of_le (hq.ge p hp)); exact absurd hlt (Nat.not_lt_of_le (hS.ge p hp))) (.inl trivial) (fun _ _ _ _ _ _ _ _ => trivial) (fun _ _ _ _ _ _ _ _ _ _ _ _ _ => trivial) (fun _ _ _ _ _ => gl_top _) (fun _ _ _ => gl_top _) (fun k x hx => mm_cons rfl (mm_cons rfl (mm_cons rfl (mm_app hx.wlk mm_nil)))) (fun c z _ => by ((repeat (refine mm_cons rfl ?_)); exact fun p hp => .inl (by first | exact hp | (simp at hp; done) | (simp [hp]; done) | (simp at hp ⊢; first | exact .inl hp | exact hp | (simp [hp]; done))))) ?_ ?_ ?_ ?_
 ·
  rintro k av ⟨ae, ne, ce, me⟩ l D rc n1 W1 Mp hnn hD hll hput hrc hav hT hin he
  change wpM _ _ _ _ _ _ _ ((l, Obj.loop rc) :: ([(D, Obj.deferred (some []))] ++ (iF b4 key :: bF b6 false :: sF b8 ae ne ce :: (me ++ (Mp ++ []))))) _ _ _
  obtain ⟨hkd, rfl⟩ := exA_inv hav; have hkS : k < S.length := (by have := dueN_le maxU S; omega); obtain ⟨x1, x2, x3, x4⟩ := ex_k hH hwd hids hkS; have hkx := hkey _ (exL_mem.1 x1).1; have hwdk := exL_wd (l := S.take k) hwd; have hme := he.len; rw [List.length_map] at hme; have hlk := exL_len L (S.take k); have hml : ((exL L (S.take k)).map (·.who)).length = (exL L (S.take k)).length := List.length_map ..
  refine wpM.region ?_
  refine LM.alloc Try.zeroValue32 rfl (fun b11 hb11 => ?_)
  refine LM.stW Try.sizeOf32 rfl rfl rfl rfl au7 au8 ?_
  refine LM.nil (QM.sub (e' := [(4, _), (6, _), (8, _), (11, _)]) au9 ?_)
  refine QM.toBodyF (hput k ⟨ae, ne, ce, me⟩ Mp) hll ?_
  refine wpM.block ?_
  refine wpM.seq ?_
  refine wpM.seq (wpM.region ?_)
  refine LM.val (ov_field Try.underlying32 rfl Try.sizeOf30 rfl (k := 2) rfl rfl) ?_
  refine LM.rd (om_ld Try.isAgg30 rfl rfl) ?_
  refine LM.val (ov_ueql (b := 0#64) rfl rfl) ?_
  refine LM.mv rfl ?_
  refine LM.splitD (t := 50) rfl (fun h5 => ?_) (fun h5 => ?_)
  ·
   exact absurd h5 x4
  refine LM.sp 50 rfl rfl rfl (LM.val (ov_field Try.underlying32 rfl Try.sizeOf3 rfl (k := 1) rfl rfl) (LM.sp 50 rfl rfl rfl ?_))
  refine LM.rd (om_ld Try.isAgg3 rfl rfl) ?_
  refine LM.sp 50 rfl rfl rfl ?_
  refine LM.rd (om_ld Try.isAgg3 rfl rfl) ?_
  refine LM.sp 50 rfl rfl rfl ?_
  refine LM.val (ov_neq rfl rfl) ?_
  refine LM.val (ov_pickF rfl rfl) ?_
  refine LM.nil (QM.sub (e' := [(6, _), (8, _), (11, _), (55, _)]) au9 (QM.then ?_))
  refine wpM.condD rfl (fun h6 => ?_) (fun h6 => ?_)
  ·
   exact absurd hkx h6
  refine wpM.skip ?_
  refine QM.then (wpM.seq (wpM.region ?_))
  refine LM.rd (om_ld Try.isAgg29 rfl rfl) ?_
  refine LM.val (ov_len Try.underlying29 rfl) ?_
  refine LM.mv rfl ?_
  refine LM.nil (QM.sub (e' := [(8, _), (11, _), (56, _), (57, _), (58, _)]) au9 (QM.then ?_))
  refine wpM.block ?_
  refine wpM.loopK0 (α := Nat) (fun j => [(58, .int .i64 (j : Nat))]) [(8, _), (11, _), (56, _), (57, _)] (fun j => (l, Obj.loop (busyOf rc)) :: (D, Obj.deferred (some [])) :: (b11, .cells (fWt (exW L (sd S k).id)).toArray 32 (0, 0)) :: iF b4 key :: bF b6 false :: sF b8 ae ne ce :: (me ++ (Mp ++ []))) (fun j => j ≤ (exL L (S.take k)).length ∧ ∀ q, q < j → (wg (exL L (S.take k)) q).who ≠ (sd S k).id) (fun j => (exL L (S.take k)).length - j) (0) ⟨au2, rfl, rfl, rfl, rfl, trivial⟩ au1 ⟨Nat.zero_le _, fun q hq => by omega⟩ ?_
  rintro j ⟨hj, hz⟩
  change wpM _ _ _ _ _ _ _ ((l, Obj.loop (busyOf rc)) :: (D, Obj.deferred (some [])) :: (b11, .cells (fWt (exW L (sd S k).id)).toArray 32 (0, 0)) :: iF b4 key :: bF b6 false :: sF b8 ae ne ce :: (me ++ (Mp ++ []))) _ _ _
  refine wpM.seq (wpM.region ?_)
  refine LM.val (ov_lss rfl rfl) ?_
  refine LM.nil (QM.sub (e' := [(8, _), (11, _), (56, _), (57, _), (58, _), (59, _)]) au9 (QM.then ?_))
  refine wpM.seq ?_
  refine wpM.condD rfl (fun h7 => ?_) (fun h7 => ?_)
  ·
   refine wpM.skip ?_
   refine QM.then ?_
   refine wpM.seq ?_
   refine wpM.block ?_
   refine wpM.seq (wpM.region ?_)
   refine LM.mv rfl ?_
   refine LM.val (ov_idxSN au6 Try.underlying29 Try.sizeOf3 rfl rfl (by omega)) ?_
   refine LM.rd (om_sl1 (by assumption) (by intro _; rfl) Try.isAgg3 rfl rfl (by exact getq 0 au4) (by rfl)) ?_
   refine LM.as rfl (LM.as rfl ?_)
   refine LM.nil (QM.sub (e' := [(8, _), (11, _), (12, _), (13, _), (56, _), (57, _), (58, _)]) au9 (QM.then (wpM.seq (wpM.region ?_))))
   refine LM.mv rfl (LM.val (ov_field Try.underlying32 rfl Try.sizeOf3 rfl (k := 0) rfl rfl) ?_)
   refine LM.rd (om_ld Try.isAgg3 rfl rfl) ?_
   refine LM.val (ov_eql rfl rfl) ?_
   refine LM.nil (QM.sub (e' := [(8, _), (11, _), (12, _), (56, _), (57, _), (58, _), (66, _)]) au9 (QM.then ?_))
   refine wpM.condD rfl (fun h8 => ?_) (fun h8 => ?_)
   ·
    refine wpM.seq ?_
    refine wpM.keep (sF b8 ae ne ce :: []) (fun _ => True) (.one 1 1 (.one 2 0 (.one 3 0 (.one 5 1 (.one 6 0 (.one 7 0 (.one 8 0 (.one 0 2 (.one 4 2 (.one 9 2 (.last 10))))))))))) (by kernel_rfl) (by kernel_rfl) au1 (fun _ _ => trivial) ?_
    refine KD.rd rfl rfl (om_ld Try.isAgg29 rfl rfl) ?_
    refine KD.val rfl rfl (ov_move rfl) ?_
    refine KD.val rfl rfl (ov_subHi Try.underlying29 Try.sizeOf3 rfl rfl (by omega) (by omega)) ?_
    refine KD.rd rfl rfl (om_ld Try.isAgg29 rfl rfl) ?_
    refine KD.val rfl rfl (ov_move rfl) ?_
    refine KD.val rfl rfl (ov_add64 rfl rfl (by omega)) ?_
    refine KD.val rfl rfl (ov_subLo (j + 1) Try.underlying29 Try.sizeOf3 rfl rfl rfl (by omega)) ?_
    refine KD.one rfl ?_
    refine LM.row0 Try.underlying29 Try.sizeOf3 rfl (fun b67 hb67 => ?_); have hs67 : Sl fI 3 1 w.heap.size ([] : List Int) (.slice (some ⟨b67, 0, none⟩) 0 0) [(b67, .cells (([] : List Value).toArray) 3 (0, 0))] := .void hb67 (Nat.zero_le _) rfl
    refine LM.nil ?_
    refine QM.one au1 (fun _ _ => trivial) ?_
    refine KD.one rfl ?_
    refine LM.appN (ys := ((exL L (S.take k)).map (·.who)).take j) (m := [(b67, .cells (([] : List Value).toArray) 3 (0, 0))]) Try.underlying29 Try.typeInfo3 rfl rfl rfl rfl rfl rfl rfl hs67 (fun w hm hc hg => (by have hz := (he.srM (by intro _; rfl) hm).take (k := j) (by omega); exact hz)) (by intro _; rfl) (by intro _ u hu; simp [fI] at hu; (repeat (first | (rcases hu with rfl | hu) | subst hu | rfl))) (Nat.le_refl _) (fun p hp hlt => absurd hlt (Nat.not_lt_of_le (Sl.ge hs67 p hp))) (by unfold maxLen; simp only [List.length_nil, List.length_take, List.length_drop, List.length_append, List.length_cons, List.length_map]; omega) (by simp only [Try.t3, List.length_nil, List.length_take, List.length_drop, List.length_append, List.length_cons, List.length_map]; omega) (fun ad71 n71 cap71 m71 hn71 hs71 hin71 => ?_)
    refine LM.nil ?_
    refine QM.one au1 (fun _ _ => trivial) ?_
    refine KD.one rfl ?_
    refine LM.appN (ys := ((exL L (S.take k)).map (·.who)).drop (j + 1)) (m := m71) Try.underlying29 Try.typeInfo3 rfl rfl rfl rfl rfl rfl rfl hs71 (fun w hm hc hg => ((he.srM (by intro _; rfl) hm).drop (l := j + 1) (by omega))) (by intro _; rfl) (by intro _ u hu; simp [fI] at hu; (repeat (first | (rcases hu with rfl | hu) | subst hu | rfl))) (Nat.le_refl _) (fun p hp hlt => absurd hlt (Nat.not_lt_of_le (Sl.ge hs71 p hp))) (by unfold maxLen; simp only [List.length_nil, List.length_take, List.length_drop, List.length_append, List.length_cons, List.length_map]; omega) (by simp only [Try.t3, List.length_nil, List.length_take, List.length_drop, List.length_append, List.length_cons, List.length_map]; omega) (fun ad76 n76 cap76 m76 hn76 hs76 hin76 => ?_); have hwj : (wg (exL L (S.take k)) j).who = (sd S k).id := (by rw [← who_at _ (by omega)]; exact h8.trans x2); have hs76' : Sl fI 3 1 w.heap.size ((exL L (S.take (k + 1))).map (·.who)) (.slice ad76 n76 cap76) m76 := (by rw [List.nil_append, ← List.eraseIdx_eq_take_drop_succ, ← map_er, wg_rm hwdk (by omega), hwj, ← exL_succ hkS] at hs76; exact hs76)
    refine LM.nil ?_
    refine QM.one au1 (fun _ _ => trivial) ?_
    refine KD.last rfl ?_
    refine LM.st Try.sizeOf29 rfl rfl rfl au5 rfl au8 ?_
    refine LM.nil ?_
    refine QM.qn ?_
    refine QM.sub (e' := []) trivial (QM.then ?_)
    refine wpM.exit ?_
    refine QM.block_miss rfl ?_
    refine QM.then_exit ?_
    refine QM.then_exit ?_
    refine QM.block_hit ?_
    refine QM.block_normal ?_
    refine QM.next (ad76, n76, cap76, m76) (SubM.mem au1) (fun _ h => h) ?_
    · exact hs76'
   refine wpM.skip ?_
   refine QM.block_normal ?_
   refine QM.then (wpM.region ?_)
   refine LM.val (ov_add64 rfl rfl (by omega)) ?_
   refine LM.mv rfl ?_
   refine LM.nil (QM.sub (e' := [(8, _), (11, _), (56, _), (57, _), (58, _)]) au9 ?_)
   refine QM.againK (j + 1) ⟨au2, rfl, rfl, rfl, rfl, trivial⟩ au1 (fun _ h => h) ?_ ?_
   · exact ⟨by omega, fun q hq => by rcases Nat.lt_or_ge q j with z | z; exact hz q z; rw [show q = j by omega]; intro z2; exact h8 (by rw [who_at _ (by omega), x2]; exact z2)⟩
   · omega
  exfalso; obtain ⟨q, hq1, hq2⟩ := wg_of x1; exact hz q (by omega) (by rw [hq2]; exact x2)
 ·
  rintro ⟨ae, ne, ce, me⟩ Mp D0 hD0 hT hin he
  dsimp only
  obtain ⟨mq1, mh1, rest, hq1, hS1, hpm⟩ := hT; have hT1 : TbM 100 100 w.heap.size _ (exL L (S.take (exA maxU L S).length)) bt (mq1 ++ mh1) := ⟨bh, _, mq1, mh1, rfl, hq1, hS1, tbh_k hH hids _⟩; have hkey1 : ∀ x ∈ exL L (S.take (exA maxU L S).length), x.key = key := fun x hx => hkey x (exL_mem.1 hx).1; have hwd1 := exL_wd (l := S.take (exA maxU L S).length) hwd; have hlk := exL_len L (S.take (exA maxU L S).length); generalize exL L (S.take (exA maxU L S).length) = L1 at hT1 he hkey1 hwd1 hlk; generalize hmt1 : mq1 ++ mh1 = mt1 at hT1; refine QM.mem (M' := (D0, Obj.deferred (some [])) :: iF b4 key :: bF b6 false :: sF b8 ae ne ce :: (me ++ (mt1 ++ []))) (fun w hm => ?_) ?_; (have h9 := hm.perm ((((((hpm.append_right []).append_left me).cons _).cons _).cons _).cons _); rw [hmt1] at h9; refine h9.sub ?_; simp only [List.append_nil]; exact ((((List.sublist_append_left mt1 rest).append_left me).cons_cons _).cons_cons _).cons_cons _ |>.cons_cons _)
  refine QM.sub (e' := [(4, _), (6, _), (7, _), (8, _)]) au9 ?_
  refine QM.block_normal ?_
  refine QM.then (wpM.seq (wpM.region ?_))
  refine LM.as rfl ?_
  refine LM.nil (QM.sub (e' := [(4, _), (6, _), (7, _), (8, _), (14, _)]) au9 (QM.then (wpM.seq (wpM.region ?_))))
  refine LM.mv rfl ?_
  refine LM.callE (oc_call (enters_fn Try.func13 (by kernel_rfl) rfl) rfl) (fun w hm hc hg => tcancel_nil 1 w) ?_
  refine LM.mv rfl ?_
  refine LM.val (ov_extract rfl rfl) ?_
  refine LM.val (ov_extract rfl rfl) ?_
  refine LM.alloc Try.zeroValue32 rfl (fun b15 hb15 => ?_)
  refine LM.stW Try.sizeOf32 rfl rfl rfl rfl au7 au8 ?_
  refine LM.as rfl ?_
  refine LM.nil (QM.sub (e' := [(4, _), (6, _), (7, _), (8, _), (14, _), (16, _)]) au9 (QM.then (wpM.seq (wpM.region ?_))))
  refine LM.mv rfl ?_
  refine LM.callE (oc_call (enters_fn Try.func19 (by kernel_rfl) rfl) rfl) (fun w hm hc hg => twho_nil 1 w) ?_
  refine LM.mv rfl ?_
  refine LM.val (ov_extract rfl rfl) ?_
  refine LM.val (ov_extract rfl rfl) ?_
  refine LM.alloc Try.zeroValue32 rfl (fun b17 hb17 => ?_)
  refine LM.stW Try.sizeOf32 rfl rfl rfl rfl au7 au8 ?_
  refine LM.as rfl ?_
  refine LM.nil (QM.sub (e' := [(4, _), (6, _), (7, _), (8, _), (14, _), (16, _), (18, _)]) au9 (QM.then ?_))
  refine wpM.seq ?_
  refine wpM.seq (wpM.region ?_)
  refine LM.mv rfl ?_
  refine LM.callT (oc_call (enters_fn Try.func22 (by kernel_rfl) rfl) rfl) OfT.mono (fun w hm hc hg => of_spec none 1 w) ?_
  rintro u89 m89 ⟨c3, c4, rfl, rfl, hc3, hc4⟩ -
  refine LM.nil (QM.sub (e' := [(4, _), (6, _), (7, _), (8, _), (14, _), (16, _), (18, _), (89, _)]) au9 (QM.then ?_))
  refine wpM.block ?_
  refine wpM.toRange (α := Unit) (fun k ⟨⟩ => tF c3 none :: (D0, Obj.deferred (some [])) :: iF b4 key :: bF b6 false :: sF b8 ae ne ce :: (me ++ (mt1 ++ []))) (⟨⟩) au1 ?_
  refine wpM.rangeP (α := Unit) (β := Unit) (enters_fn Try.func42 (by kernel_rfl) rfl) rfl (of_seq_nil (c1 := c3) (c2 := c4) (key := 1)) (fun k ⟨⟩ Mp => tF c3 none :: (D0, Obj.deferred (some [])) :: iF b4 key :: bF b6 false :: sF b8 ae ne ce :: (me ++ (mt1 ++ (Mp ++ [])))) (by rintro k ⟨⟩ Mp; first | rfl | simp) (fun _ _ => top) (fun k ⟨⟩ => True) (fun ⟨⟩ => []) (fun _ => top) (fun c ⟨⟩ => False) ⟨⟩ rfl (fun _ h => h) trivial (by kernel_rfl) (by intro k av hav; exact (foA0_inv hav).elim) (.inl trivial) (fun k a w hm hc hg _ => hm.pick (tF c3 none :: [])) (fun _ _ _ _ => gl_top _) (fun _ _ _ => gl_top _) (fun _ _ _ p hp => .inl hp) (fun c z _ => by ((repeat (refine mm_cons rfl ?_)); exact fun p hp => .inl (by first | exact hp | (simp at hp; done) | (simp [hp]; done) | (simp at hp ⊢; first | exact .inl hp | exact hp | (simp [hp]; done))))) ?_ ?_ ?_ ?_
  ·
   rintro k av ⟨⟩ l D rc n1 W1 Mp hD hll hput hrc hav -
   change wpM _ _ _ _ _ _ _ ((l, Obj.loop rc) :: ([(D, Obj.deferred (some []))] ++ (tF c3 none :: (D0, Obj.deferred (some [])) :: iF b4 key :: bF b6 false :: sF b8 ae ne ce :: (me ++ (mt1 ++ (Mp ++ [])))))) _ _ _
   exfalso; exact foA0_inv hav
   skip
  ·
   rintro ⟨⟩ D1 hD1 -
   refine QM.sub (e' := [(4, _), (6, _), (7, _), (8, _), (14, _), (16, _), (18, _)]) au9 ?_
   refine QM.block_normal ?_
   refine QM.then ?_
   refine wpM.seq ?_
   refine wpM.seq (wpM.region ?_)
   refine LM.mv rfl ?_
   refine LM.callT (oc_call (enters_fn Try.func21 (by kernel_rfl) rfl) rfl) ExA.mono (fun w hm hc hg => expire_spec none 9#64 w) ?_
   rintro u92 m92 ⟨c5, c6, rfl, rfl, hc5, hc6⟩ -
   refine LM.nil (QM.sub (e' := [(4, _), (6, _), (7, _), (8, _), (14, _), (16, _), (18, _), (92, _)]) au9 (QM.then ?_))
   refine wpM.block ?_
   refine wpM.toRange (α := Unit) (fun k ⟨⟩ => tF c5 none :: (D1, Obj.deferred (some [])) :: (D0, Obj.deferred (some [])) :: iF b4 key :: bF b6 false :: sF b8 ae ne ce :: (me ++ (mt1 ++ []))) (⟨⟩) au1 ?_
   refine wpM.rangeP (α := Unit) (β := Unit) (enters_fn Try.func40 (by kernel_rfl) rfl) rfl (expire_nil (c1 := c5) (c2 := c6)) (fun k ⟨⟩ Mp => tF c5 none :: (D1, Obj.deferred (some [])) :: (D0, Obj.deferred (some [])) :: iF b4 key :: bF b6 false :: sF b8 ae ne ce :: (me ++ (mt1 ++ (Mp ++ [])))) (by rintro k ⟨⟩ Mp; first | rfl | simp) (fun _ _ => top) (fun k ⟨⟩ => True) (fun ⟨⟩ => []) (fun _ => top) (fun c ⟨⟩ => False) ⟨⟩ rfl (fun _ h => h) trivial (by kernel_rfl) (by intro k av hav; exact (foA0_inv hav).elim) (.inl trivial) (fun k a w hm hc hg _ => hm.pick (tF c5 none :: [])) (fun _ _ _ _ => gl_top _) (fun _ _ _ => gl_top _) (fun _ _ _ p hp => .inl hp) (fun c z _ => by ((repeat (refine mm_cons rfl ?_)); exact fun p hp => .inl (by first | exact hp | (simp at hp; done) | (simp [hp]; done) | (simp at hp ⊢; first | exact .inl hp | exact hp | (simp [hp]; done))))) ?_ ?_ ?_ ?_
   ·
    rintro k av ⟨⟩ l D rc n1 W1 Mp hD hll hput hrc hav -
    change wpM _ _ _ _ _ _ _ ((l, Obj.loop rc) :: ([(D, Obj.deferred (some []))] ++ (tF c5 none :: (D1, Obj.deferred (some [])) :: (D0, Obj.deferred (some [])) :: iF b4 key :: bF b6 false :: sF b8 ae ne ce :: (me ++ (mt1 ++ (Mp ++ [])))))) _ _ _
    exfalso; exact foA0_inv hav
    skip
   ·
    rintro ⟨⟩ D2 hD2 -
    refine QM.sub (e' := [(4, _), (6, _), (7, _), (8, _), (14, _), (16, _), (18, _)]) au9 ?_
    refine QM.block_normal ?_
    refine QM.then ?_
    refine wpM.seq ?_
    refine wpM.keep (iF b4 key :: sF b8 ae ne ce :: []) (fun _ => True) (.one 0 0 (.one 1 1 (.one 3 1 (.one 2 2 (.one 4 2 (.one 5 0 (.one 6 0 (.one 7 1 (.one 8 2 (.one 9 0 (.one 10 0 (.one 11 0 (.one 12 0 (.one 13 0 (.one 14 2 (.one 15 0 (.one 16 0 (.one 17 0 (.one 18 0 (.one 19 0 (.one 20 2 (.one 21 0 (.one 22 0 (.one 23 0 (.one 24 0 (.one 25 0 (.one 26 0 (.one 27 0 (.one 28 0 (.one 29 0 (.one 30 0 (.one 31 0 (.one 32 0 (.one 33 2 (.one 34 0 (.one 35 0 (.one 36 0 (.one 37 0 (.one 38 0 (.one 40 0 (.one 43 0 (.one 39 2 (.one 41 2 (.one 42 0 (.one 44 2 (.one 45 0 (.one 46 0 (.one 47 0 (.one 48 2 .nil))))))))))))))))))))))))))))))))))))))))))))))))) (by kernel_rfl) (by kernel_rfl) au1 (fun _ _ => trivial) ?_
    refine KD.val rfl rfl (ov_move rfl) ?_
    refine KD.rd rfl rfl (om_ld Try.isAgg3 rfl rfl) ?_
    refine KD.rd rfl rfl (om_ld Try.isAgg29 rfl rfl) ?_
    refine KD.one rfl ?_
    refine LM.cU (oc_call (enters_fn Try.func11 (by kernel_rfl) rfl) rfl) (fun w hm hc hg => twake_k key 100 w hT1 hc.size (hm.pick mt1)) hT1.wlk (fun p hp hlt => absurd hlt (Nat.not_lt_of_le (hT1.ge p hp))) ?_
    rintro u96 m96 ⟨mo96, mt96, hs96, rfl, ht96⟩ -; rw [wakeF_all _ [] L1 hkey1 hwd1 (Nat.le_refl _) (by rw [List.length_nil]; omega), List.nil_append] at hs96; rw [wakeF_all _ [] L1 hkey1 hwd1 (Nat.le_refl _) (by rw [List.length_nil]; omega)] at ht96; obtain ⟨ad96, n96, cap96, rfl, hn96⟩ : ∃ ad n cap, u96 = .slice ad n cap ∧ n = (L1.map (·.who)).length := (by obtain ⟨ad, cap, hu⟩ := hs96.form; exact ⟨ad, _, cap, hu, rfl⟩)
    refine LM.nil ?_
    refine QM.one au1 (fun _ _ => trivial) ?_
    refine KD.one rfl ?_
    refine LM.callE (oc_call (enters_fn Try.func10 (by kernel_rfl) rfl) rfl) (fun w hm hc hg => ints_spec (xs := L1.map (·.who)) w hn96 he.len.1 (by rw [List.length_map]; omega) (hs96.srM (by intro _; rfl) hm) (he.srM (by intro _; rfl) hm)) ?_
    refine LM.nil ?_
    refine QM.one au1 (fun _ _ => trivial) ?_
    refine KD.val rfl rfl (ov_move rfl) ?_
    first | refine KD.splitD (t := 99) rfl (fun h9 => ?_) (fun h9 => ?_) | refine KD.splitB (t := 99) rfl (fun h9 => ?_) (fun h9 => ?_)
    ·
     refine KD.val rfl ⟨99, _, rfl, rfl, rfl⟩ (ov_move rfl) ?_
     refine KD.rd rfl ⟨99, _, rfl, rfl, rfl⟩ (om_ld Try.isAgg3 rfl rfl) ?_
     refine KD.one rfl ?_
     refine LM.sp 99 rfl rfl rfl ?_
     refine LM.cU (oc_call (enters_fn Try.func11 (by kernel_rfl) rfl) rfl) (fun w hm hc hg => twake_k key 100 w ht96 hc.size (hm.pick mt96)) ht96.wlk (fun p hp hlt => absurd hlt (Nat.not_lt_of_le (ht96.ge p hp))) ?_
     rintro u102 m102 ⟨mo102, mt102, hs102, rfl, ht102⟩ -; obtain ⟨ad102, n102, cap102, rfl, hn102⟩ : ∃ ad n cap, u102 = .slice ad n cap ∧ n = 0 := (by obtain ⟨ad, cap, hu⟩ := hs102.form; exact ⟨ad, _, cap, hu, rfl⟩)
     refine LM.nil ?_
     refine QM.one au1 (fun _ _ => trivial) ?_
     refine KD.val rfl ⟨99, _, rfl, rfl, rfl⟩ (ov_len Try.underlying29 rfl) ?_
     refine KD.val rfl ⟨99, _, rfl, rfl, rfl⟩ (ov_eql rfl rfl) ?_
     refine KD.val rfl rfl (ov_pickT rfl rfl) ?_
     refine KD.val rfl rfl (ov_move rfl) ?_
     refine KD.splitD (t := 106) rfl (fun h10 => ?_) (fun h10 => ?_)
     ·
      refine KD.val rfl ⟨106, _, rfl, rfl, rfl⟩ (ov_move rfl) ?_
      refine KD.one rfl ?_
      refine LM.sp 106 rfl rfl rfl ?_
      refine LM.callE (oc_call (enters_fn Try.func23 (by kernel_rfl) rfl) rfl) (fun w hm hc hg => (by have q := tlen_spec w ht102 (hm.pick mt102); exact q)) ?_
      refine LM.nil ?_
      refine QM.one au1 (fun _ _ => trivial) ?_
      refine KD.val rfl ⟨106, _, rfl, rfl, rfl⟩ (ov_eql rfl rfl) ?_
      refine KD.val rfl rfl (ov_pickT rfl rfl) ?_
      refine KD.val rfl rfl (ov_move rfl) ?_
      refine KD.splitD (t := 111) rfl (fun h11 => ?_) (fun h11 => ?_)
      ·
       refine KD.val rfl ⟨111, _, rfl, rfl, rfl⟩ (ov_move rfl) ?_
       refine KD.val rfl ⟨111, _, rfl, rfl, rfl⟩ (ov_build (cs := #[_, _, _]) rfl (by first | rfl | kernel_rfl)) ?_
       refine KD.one rfl ?_
       refine LM.sp 111 rfl rfl rfl ?_
       refine LM.callE (oc_call (enters_fn Try.func8 (by kernel_rfl) rfl) rfl) (fun w hm hc hg => twait_nil default w) ?_
       refine LM.nil ?_
       refine QM.one au1 (fun _ _ => trivial) ?_
       refine KD.val rfl ⟨111, _, rfl, rfl, rfl⟩ (ov_eql rfl rfl) ?_
       refine KD.val rfl rfl (ov_pickT rfl rfl) ?_
       refine KD.val rfl rfl (ov_move rfl) ?_
       refine KD.splitD (t := 117) rfl (fun h12 => ?_) (fun h12 => ?_)
       ·
        refine KD.val rfl ⟨117, _, rfl, rfl, rfl⟩ (ov_move rfl) ?_
        first | refine KD.val rfl ⟨117, _, rfl, rfl, rfl⟩ (ov_notD rfl) ?_ | refine KD.val rfl ⟨117, _, rfl, rfl, rfl⟩ (ov_not rfl) ?_
        refine KD.val rfl rfl (ov_pickT rfl rfl) ?_
        refine KD.val rfl rfl (ov_move rfl) ?_
        first | refine KD.splitD (t := 121) rfl (fun h13 => ?_) (fun h13 => ?_) | refine KD.splitB (t := 121) rfl (fun h13 => ?_) (fun h13 => ?_)
        ·
         refine KD.val rfl ⟨121, _, rfl, rfl, rfl⟩ (ov_move rfl) ?_
         first | refine KD.val rfl ⟨121, _, rfl, rfl, rfl⟩ (ov_notD rfl) ?_ | refine KD.val rfl ⟨121, _, rfl, rfl, rfl⟩ (ov_not rfl) ?_
         refine KD.val rfl rfl (ov_pickT rfl rfl) ?_
         refine KD.val rfl rfl (ov_move rfl) ?_
         first | refine KD.splitD (t := 125) rfl (fun h14 => ?_) (fun h14 => ?_) | refine KD.splitB (t := 125) rfl (fun h14 => ?_) (fun h14 => ?_)
         ·
          refine KD.val rfl ⟨125, _, rfl, rfl, rfl⟩ (ov_move rfl) ?_
          refine KD.one rfl ?_
          refine LM.sp 125 rfl rfl rfl ?_
          refine LM.callE (oc_call (enters_fn Try.func11 (by kernel_rfl) rfl) rfl) (fun w hm hc hg => twake_nil 1 1 w) ?_
          refine LM.nil ?_
          refine QM.one au1 (fun _ _ => trivial) ?_
          refine KD.val rfl ⟨125, _, rfl, rfl, rfl⟩ (ov_len Try.underlying29 rfl) ?_
          refine KD.val rfl ⟨125, _, rfl, rfl, rfl⟩ (ov_eql rfl rfl) ?_
          refine KD.val rfl rfl (ov_pickT rfl rfl) ?_
          refine KD.val rfl rfl (ov_move rfl) ?_
          refine KD.splitD (t := 131) rfl (fun h15 => ?_) (fun h15 => ?_)
          ·
           refine KD.val rfl ⟨131, _, rfl, rfl, rfl⟩ (ov_move rfl) ?_
           refine KD.val rfl ⟨131, _, rfl, rfl, rfl⟩ (ov_move rfl) ?_
           refine KD.val rfl ⟨131, _, rfl, rfl, rfl⟩ (ov_move rfl) ?_
           refine KD.one rfl ?_
           refine LM.sp 131 rfl rfl rfl ?_
           refine LM.callE (oc_call (enters_fn Try.func16 (by kernel_rfl) rfl) rfl) (fun w hm hc hg => trequeue_nil 1 2 3 w) ?_
           refine LM.nil ?_
           refine QM.one au1 (fun _ _ => trivial) ?_
           refine KD.one rfl ?_
           refine LM.sp 131 rfl rfl rfl ?_
           refine LM.callE (oc_call (enters_fn Try.func24 (by kernel_rfl) rfl) rfl) (fun w hm hc hg => tcount_nil 1 w) ?_
           refine LM.nil ?_
           refine QM.one au1 (fun _ _ => trivial) ?_
           refine KD.val rfl ⟨131, _, rfl, rfl, rfl⟩ (ov_add64 rfl rfl (by omega)) ?_
           refine KD.one rfl ?_
           refine LM.sp 131 rfl rfl rfl ?_
           refine LM.callE (oc_call (enters_fn Try.func23 (by kernel_rfl) rfl) rfl) (fun w hm hc hg => tlen_nil w) ?_
           refine LM.nil ?_
           refine QM.one au1 (fun _ _ => trivial) ?_
           refine KD.val rfl ⟨131, _, rfl, rfl, rfl⟩ (ov_add64 rfl rfl (by omega)) ?_
           refine KD.val rfl ⟨131, _, rfl, rfl, rfl⟩ (ov_eql rfl rfl) ?_
           refine KD.val rfl rfl (ov_pickT rfl rfl) ?_
           refine KD.one rfl ?_
           refine LM.st Try.sizeOf4 rfl rfl rfl au5 rfl au8 ?_
           refine LM.nil ?_
           refine QM.one au1 (fun _ _ => trivial) ?_
           refine KD.nil ?_
           refine QM.sub (e' := [(6, _)]) ⟨rfl, trivial⟩ (QM.then ?_)
           refine wpM.ret ?_
           refine QM.leaveCDF (ds := [D2, D1, D0]) Try.results4 rfl (fun D h => by simp only [List.mem_cons, List.not_mem_nil, or_false] at h; omega) Try.isAgg4 rfl ?_
           intro w' hm' hc'
           exact ⟨rfl, hc'⟩
          first | cases h15 | exact absurd rfl h15 | (simp at h15; done) | (exfalso; simp at h15; omega) | (exfalso; omega)
         cases h14
        cases h13
       first | cases h12 | exact absurd rfl h12 | (simp at h12; done) | (exfalso; simp at h12; omega) | (exfalso; omega)
      first | cases h11 | exact absurd rfl h11 | (simp at h11; done) | (exfalso; simp at h11; omega) | (exfalso; omega)
     first | cases h10 | exact absurd rfl h10 | (simp at h10; done) | (exfalso; simp at h10; omega) | (exfalso; omega)
    cases h9
   ·
    rintro ⟨⟩ D2 hD2 hx
    exact hx.elim
   rintro id ⟨⟩ D2 hD2 hx
   exact hx.elim
  ·
   rintro ⟨⟩ D1 hD1 hx
   exact hx.elim
  rintro id ⟨⟩ D1 hD1 hx
  exact hx.elim
 ·
  rintro ⟨⟩ D0 hD0 hx
  exact hx.elim
 rintro id ⟨⟩ D0 hD0 hx
 exact hx.elim
end Go.Eng
namespace Go.Eng
open Go Go.Proofs Go.RowKit
set_option maxRecDepth 100000 in
theorem rdb_api_Wait : Rdb Try.prog 32 fWt (fun a => (-9223372036854775808 ≤ a.who ∧ a.who ≤ 9223372036854775807) ∧ (-9223372036854775808 ≤ a.key ∧ a.key ≤ 9223372036854775807)) := fun {H enc w base sp held fuel cs x} h => by
  obtain ⟨h1, h2⟩ := trod_fields Try.underlying32 h
  rw [show Try.prog.cellsOf 32 = 3 by kernel_rfl] at h1
  have c3 : Try.prog.cellsOf 3 = 1 := by kernel_rfl
  have c30 : Try.prog.cellsOf 30 = 1 := by kernel_rfl
  match cs, h1 with
  | [a0, a1, a2], _ =>
    simp only [List.forall_mem_cons, c3, c30, List.drop_succ_cons, List.drop_zero, List.take_succ_cons, List.take_zero] at h2
    obtain ⟨⟨_, _, f0⟩, ⟨_, _, f1⟩, ⟨_, _, f2⟩, _⟩ := h2
    obtain ⟨m0, e0, _, w0⟩ := DataW.trod_int Try.underlying3 f0
    obtain ⟨m1, e1, _, w1⟩ := DataW.trod_int Try.underlying3 f1
    obtain ⟨m2, e2, _, w2⟩ := DataW.trod_int Try.underlying30 f2
    obtain ⟨x2, rfl⟩ := bv_of (bounds_u64 w2)
    simp only [List.cons.injEq, and_true] at e0 e1 e2
    subst e0
    subst e1
    subst e2
    exact ⟨⟨m0, m1, x2⟩, rfl, ⟨bounds_i64 w0, bounds_i64 w1⟩⟩
end Go.Eng
