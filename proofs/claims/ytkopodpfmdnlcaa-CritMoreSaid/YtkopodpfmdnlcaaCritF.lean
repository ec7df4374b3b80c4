/- The walks of the two laws of critical sections. No condition. -/
import Derived.Test.YtkopodpfmdnlcaaCritE
import Derived.Test.YtkopodpfmdnlcaaEng12
set_option linter.unusedVariables false
set_option linter.unusedSimpArgs false
namespace Go.Eng
open Go Go.Proofs Go.RowKit

def xs11 : List COp := [⟨2, 0, 0⟩, ⟨1, 2, 0⟩, ⟨6, 0, 0⟩]
theorem small11 : smallO xs11 := ⟨by decide, fun o ho => by simp [xs11] at ho; rcases ho with rfl | rfl | rfl <;> decide⟩
theorem long11 : longL xs11 0 (filN (tkT xs11) xs11.length) = 2 := by decide +kernel
theorem longest_at {xs : List COp} {x : Int} {fv : Bool} {ad : Option Addr} {n cap : Nat} (lock : Int) (hx : longL xs lock (filN (tkT xs) xs.length) = x) (w : World) (hn : n = xs.length) (hl : Sr fO 3 xs (.slice ad n cap) w) (hs : smallO xs) :
    Ret Try.prog 10 #[pV fv ad n cap, .int .i64 lock] w (fun v w' => v = .int .i64 x ∧ Ext w w') := hx ▸ longest_spec lock w hn hl hs
theorem check_at {xs : List COp} {ls : List CLk} {x : Int × Int} {fv : Bool} {ad ad2 : Option Addr} {n cap n2 cap2 : Nat} (progs : Int) (hx : ckO fv xs ls progs = x) (w : World) (hn : n = xs.length) (hl : Sr fO 3 xs (.slice ad n cap) w) (hn2 : n2 = ls.length) (hl2 : Sr fL 5 ls (.slice ad2 n2 cap2) w) :
    Ret Try.prog 7 #[pV fv ad n cap, .slice ad2 n2 cap2, .int .i64 progs] w (fun v w' => v = .tuple #[.int .i64 x.1, .int .i64 x.2] ∧ Ext w w') := hx ▸ check_spec progs w hn hl hn2 hl2
theorem secA11 {k : Nat} {a : Array Value} (h : (secA xs11)[k]? = some a) : k = 0 ∧ a = #[sV 0 2 0 2] := by
  obtain ⟨p, hp, rfl⟩ := secA_inv h
  have h1 := fil_inv hp
  have h0 : p = 0 := by
    obtain ⟨a1, a2, a3⟩ := h1
    have : p = 0 ∨ p = 1 ∨ p = 2 := by simp [xs11] at a1; omega
    rcases this with rfl | rfl | rfl
    · rfl
    · exact absurd a2 (by decide)
    · exact absurd a2 (by decide)
  subst h0
  exact ⟨by rw [← h1.2.2]; rfl, by rw [show secV xs11 0 = sV 0 2 0 2 by unfold secV; rw [show secO xs11 0 = (1, 2) from by decide]; rfl]⟩
theorem moreL_snoc {more : Int} {ls : List CLk} {j : Nat} (h : j < ls.length) : moreL more (ls.take (j + 1)) = moreL more (ls.take j) ++ [{ ls.getD j default with cr := mx0 (ls.getD j default).cr % 1000 + more + 1000 }] := by
  unfold moreL; rw [take_snoc default h, List.map_append]; rfl
theorem secA11_len : (secA xs11).length = 1 := by rw [secA_len]; decide
set_option maxRecDepth 100000 in
set_option maxHeartbeats 1000000 in
theorem awake11 (w : World) : Ret Try.prog 5 #[] w (fun v w' => v = .bool true ∧ Ext w w') := by
  refine Ret.enterM (l := []) Try.func5 rfl Try.ntmps5 rfl ([]) (no) (Mem.nil w) ?_
  refine wpM.seq ?_
  refine wpM.region ?_
  refine LM.val (ov_assign rfl) ?_
  refine LM.nil ?_
  refine QM.sub (e' := []) trivial ?_
  refine QM.then ?_
  refine wpM.seq ?_
  refine wpM.region ?_
  refine LM.val (ov_build (cs := #[_, _, _]) rfl (by first | rfl | kernel_rfl)) ?_
  refine LM.val (ov_build (cs := #[_, _, _]) rfl (by first | rfl | kernel_rfl)) ?_
  refine LM.val (ov_build (cs := #[_, _, _]) rfl (by first | rfl | kernel_rfl)) ?_
  refine LM.row (vs := [_, _, _]) Try.underlying22 Try.sizeOf38 Try.zeroValue38 rfl rfl rfl rfl rfl rfl (fun b11 hb11 => ?_)
  refine LM.val (ov_build (cs := #[_, _]) rfl (by first | rfl | kernel_rfl)) ?_
  refine LM.alloc Try.zeroValue24 rfl (fun b1 hb1 => ?_)
  first | refine LM.stW Try.sizeOf24 rfl rfl rfl rfl (by first | rfl | decide | (simp; done)) (fun hlt => absurd hlt (by omega)) ?_ | refine LM.st Try.sizeOf24 rfl rfl rfl (by first | decide | exact Nat.le_of_ble_eq_true rfl | (simp; done) | (simp; omega)) rfl (fun hlt => absurd hlt (by omega)) ?_
  refine LM.nil ?_
  refine QM.sub (e' := [(1, _)]) ⟨rfl, trivial⟩ ?_
  refine QM.then ?_
  refine wpM.seq ?_
  refine wpM.seq ?_
  refine wpM.region ?_
  first | refine LM.rd (om_ldW Try.isAgg24 Try.sizeOf24 rfl rfl) ?_ | refine LM.rd (om_ldA Try.isAgg24 Try.sizeOf24 rfl (vs := [_, _]) rfl ⟨rfl, rfl, trivial⟩) ?_
  refine LM.callE (oc_call (enters_fn Try.func10 (by kernel_rfl) rfl) rfl) (fun w hm hc hg => longest_at (xs := xs11) 0 long11 w rfl (row_sr 3 (hm.at b11) rfl rfl (fun _ => rfl)) small11) ?_
  refine LM.val (ov_neq rfl rfl) ?_
  refine LM.nil ?_
  refine QM.sub (e' := [(1, _), (15, _)]) ⟨rfl, rfl, trivial⟩ ?_
  refine QM.then ?_
  first | refine wpM.condD rfl (fun h1 => ?_) (fun h1 => ?_) | refine wpM.condB rfl (fun h1 => ?_) (fun h1 => ?_)
  ·
    refine wpM.seq ?_
    refine wpM.region ?_
    refine LM.val (ov_assign rfl) ?_
    refine LM.nil ?_
    refine QM.sub (e' := [(0, _)]) ⟨rfl, trivial⟩ ?_
    refine QM.then ?_
    refine wpM.ret ?_
    refine QM.then_ret ?_
    refine QM.leave (.inl rfl) [.tmp 0] Try.results5 rfl ?_
    intro w' hm' hc' hg'
    -- leaf 1: h1+
    first | exact ⟨rfl, hc'⟩ | (refine ⟨?_, hc'⟩; simp only [resV, decide_true]; done) | (exfalso; first | omega | contradiction | (simp at *; done))
  ·
    refine wpM.skip ?_
    refine QM.then ?_
    refine wpM.seq ?_
    refine wpM.region ?_
    refine LM.alloc Try.zeroValue3 rfl (fun b2 hb2 => ?_)
    refine LM.st Try.sizeOf3 rfl rfl rfl (by first | decide | exact Nat.le_of_ble_eq_true rfl | (simp; done) | (simp; omega)) rfl (fun hlt => absurd hlt (by omega)) ?_
    refine LM.nil ?_
    refine QM.sub (e' := [(1, _), (2, _)]) ⟨rfl, rfl, trivial⟩ ?_
    refine QM.then ?_
    refine wpM.seq ?_
    refine wpM.seq ?_
    refine wpM.region ?_
    first | refine LM.rd (om_ldW Try.isAgg24 Try.sizeOf24 rfl rfl) ?_ | refine LM.rd (om_ldA Try.isAgg24 Try.sizeOf24 rfl (vs := [_, _]) rfl ⟨rfl, rfl, trivial⟩) ?_
    refine LM.callT (oc_call (enters_fn Try.func11 (by kernel_rfl) rfl) rfl) SecsT.mono (fun w hm hc hg => secs_spec false (some ⟨b11, 0, none⟩) 3 3 w) ?_
    rintro u17 m17 ⟨c1, rfl, rfl, hc1⟩ -
    refine LM.nil ?_
    refine QM.sub (e' := [(1, _), (2, _), (17, _)]) ⟨rfl, rfl, rfl, trivial⟩ ?_
    refine QM.then ?_
    refine wpM.block ?_
    refine wpM.toRange (α := Int) (fun k v => iB b2 v :: pB c1 false (some ⟨b11, 0, none⟩) 3 3 :: pB b1 false (some ⟨b11, 0, none⟩) 3 3 :: (b11, .cells (arr fO xs11 []) 38 (0, 0)) :: []) (0) (by (repeat' (first | exact SubM.nil _ | refine SubM.cons rfl ?_ | refine SubM.app ?_))) ?_
    refine wpM.range (α := Int) (β := Unit) (enters_fn Try.func20 (by kernel_rfl) rfl) rfl (secs_seq (xs := xs11) rfl small11) (fun k v => iB b2 v :: pB c1 false (some ⟨b11, 0, none⟩) 3 3 :: pB b1 false (some ⟨b11, 0, none⟩) 3 3 :: (b11, .cells (arr fO xs11 []) 38 (0, 0)) :: []) (fun _ _ => top) (fun k v => k ≤ 1 ∧ v = 4 * (k : Int)) (fun ⟨⟩ => []) (fun _ => top) (fun c ⟨⟩ => False) 0 rfl (fun _ h => h) ⟨Nat.zero_le _, by simp⟩ (by kernel_rfl) (by intro k av hav; obtain ⟨hk0, rfl⟩ := secA11 hav; rfl) (.inl trivial) (fun k a w hm hc _ _ => ⟨SubM.mem (by (repeat' (first | exact SubM.nil _ | refine SubM.cons rfl ?_ | refine SubM.app ?_))) w hm, row_sr 3 (hm.at b11) rfl rfl (fun _ => rfl)⟩) (fun _ _ _ _ => gl_top _) (fun _ _ _ => gl_top _) (fun k x _ => mm_cons rfl (mm_cons rfl (mm_cons rfl (mm_cons rfl mm_nil)))) (fun c z _ => by ((repeat (refine mm_cons rfl ?_)); exact fun p hp => .inl (by first | exact hp | (simp at hp; done) | (simp [hp]; done) | (simp at hp ⊢; first | exact .inl hp | exact hp | (simp [hp]; done))))) ?_ ?_ ?_ ?_
    ·
      rintro k av v l D rc n1 W1 hD hll hput hrc hav ⟨hk, hv⟩
      change wpM _ _ _ _ _ _ _ ((l, Obj.loop rc) :: ([(D, Obj.deferred (some []))] ++ (iB b2 v :: pB c1 false (some ⟨b11, 0, none⟩) 3 3 :: pB b1 false (some ⟨b11, 0, none⟩) 3 3 :: (b11, .cells (arr fO xs11 []) 38 (0, 0)) :: []))) _ _ _
      obtain ⟨hk0, rfl⟩ := secA11 hav
      refine wpM.region ?_
      refine LM.alloc Try.zeroValue44 rfl (fun b3 hb3 => ?_)
      first | refine LM.stW Try.sizeOf44 rfl rfl rfl rfl (by first | rfl | decide | (simp; done)) (fun hlt => absurd hlt (by omega)) ?_ | refine LM.st Try.sizeOf44 rfl rfl rfl (by first | decide | exact Nat.le_of_ble_eq_true rfl | (simp; done) | (simp; omega)) rfl (fun hlt => absurd hlt (by omega)) ?_
      refine LM.nil ?_
      refine QM.sub (e' := [(2, _), (3, _)]) ⟨rfl, rfl, trivial⟩ ?_
      refine QM.toBodyF (hput k v) hll ?_
      refine wpM.block ?_
      refine wpM.region ?_
      first | refine LM.rd (om_ld Try.isAgg3 rfl rfl) ?_
      refine LM.val (ov_field Try.underlying44 rfl Try.sizeOf3 rfl (k := 3) rfl rfl) ?_
      first | refine LM.rd (om_ld Try.isAgg3 rfl rfl) ?_
      refine LM.val (ov_field Try.underlying44 rfl Try.sizeOf3 rfl (k := 1) rfl rfl) ?_
      first | refine LM.rd (om_ld Try.isAgg3 rfl rfl) ?_
      refine LM.val (ov_add64 rfl rfl (by omega)) ?_
      refine LM.val (ov_add64 rfl rfl (by omega)) ?_
      refine LM.st Try.sizeOf3 rfl rfl rfl (by first | decide | exact Nat.le_of_ble_eq_true rfl | (simp; done) | (simp; omega)) rfl (fun hlt => absurd hlt (by omega)) ?_
      refine LM.nil ?_
      refine QM.sub (e' := []) trivial ?_
      refine QM.block_normal ?_
      -- next1: h1-
      refine QM.next (_) (SubM.mem (by (repeat' (first | exact SubM.nil _ | refine SubM.cons rfl ?_ | refine SubM.app ?_)))) (fun _ h => h) ?_
      · exact ⟨by omega, by omega⟩
    ·
      rintro v D0 hD0 ⟨hk, hv⟩
      rw [secA11_len] at hv
      refine QM.sub (e' := [(1, _), (2, _)]) ⟨rfl, rfl, trivial⟩ ?_
      refine QM.block_normal ?_
      refine QM.then ?_
      refine wpM.seq ?_
      refine wpM.region ?_
      first | refine LM.rd (om_ldW Try.isAgg24 Try.sizeOf24 rfl rfl) ?_ | refine LM.rd (om_ldA Try.isAgg24 Try.sizeOf24 rfl (vs := [_, _]) rfl ⟨rfl, rfl, trivial⟩) ?_
      refine LM.val (ov_build (cs := #[_, _, _, _, _]) rfl (by first | rfl | kernel_rfl)) ?_
      refine LM.single Try.underlying25 Try.sizeOf35 Try.zeroValue35 rfl rfl rfl rfl rfl (fun b29 hb29 => ?_)
      refine LM.callE (oc_call (enters_fn Try.func7 (by kernel_rfl) rfl) rfl) (fun w hm hc hg => check_at (xs := xs11) (ls := [⟨false, 0, 2, 0, 0⟩]) (x := (0, 0)) 1 (by decide +kernel) w rfl (row_sr 3 (hm.at b11) rfl rfl (fun _ => rfl)) rfl (row_sr 1 (hm.at b29) rfl rfl (fun _ => rfl))) ?_
      refine LM.val (ov_move rfl) ?_
      refine LM.val (ov_extract rfl rfl) ?_
      refine LM.val (ov_extract rfl rfl) ?_
      refine LM.val (ov_assign rfl) ?_
      refine LM.val (ov_assign rfl) ?_
      refine LM.nil ?_
      refine QM.sub (e' := [(1, _), (2, _), (5, _)]) ⟨rfl, rfl, rfl, trivial⟩ ?_
      refine QM.then ?_
      refine wpM.seq ?_
      refine wpM.region ?_
      first | refine LM.rd (om_ldW Try.isAgg24 Try.sizeOf24 rfl rfl) ?_ | refine LM.rd (om_ldA Try.isAgg24 Try.sizeOf24 rfl (vs := [_, _]) rfl ⟨rfl, rfl, trivial⟩) ?_
      refine LM.val (ov_build (cs := #[_, _, _, _, _]) rfl (by first | rfl | kernel_rfl)) ?_
      refine LM.single Try.underlying25 Try.sizeOf35 Try.zeroValue35 rfl rfl rfl rfl rfl (fun b36 hb36 => ?_)
      refine LM.callE (oc_call (enters_fn Try.func7 (by kernel_rfl) rfl) rfl) (fun w hm hc hg => check_at (xs := xs11) (ls := [⟨false, 0, 1, 0, 0⟩]) (x := (0, 13)) 1 (by decide +kernel) w rfl (row_sr 3 (hm.at b11) rfl rfl (fun _ => rfl)) rfl (row_sr 1 (hm.at b36) rfl rfl (fun _ => rfl))) ?_
      refine LM.val (ov_move rfl) ?_
      refine LM.val (ov_extract rfl rfl) ?_
      refine LM.val (ov_extract rfl rfl) ?_
      refine LM.val (ov_assign rfl) ?_
      refine LM.val (ov_assign rfl) ?_
      refine LM.nil ?_
      refine QM.sub (e' := [(1, _), (2, _), (5, _), (7, _)]) ⟨rfl, rfl, rfl, rfl, trivial⟩ ?_
      refine QM.then ?_
      refine wpM.seq ?_
      refine wpM.region ?_
      first | refine LM.rd (om_ld Try.isAgg3 rfl rfl) ?_
      refine LM.val (ov_eql rfl rfl) ?_
      refine LM.val (ov_move rfl) ?_
      first | refine LM.splitD (t := 42) rfl (fun h2 => ?_) (fun h2 => ?_) | refine LM.splitB (t := 42) rfl (fun h2 => ?_) (fun h2 => ?_)
      ·
        refine LM.strip (t := 42) rfl rfl rfl ?_
        refine LM.val (ov_move rfl) ?_
        refine LM.strip (t := 42) rfl rfl rfl ?_
        refine LM.val (ov_eql rfl rfl) ?_
        refine LM.val (ov_pickT rfl rfl) ?_
        refine LM.val (ov_move rfl) ?_
        first | refine LM.splitD (t := 46) rfl (fun h3 => ?_) (fun h3 => ?_) | refine LM.splitB (t := 46) rfl (fun h3 => ?_) (fun h3 => ?_)
        ·
          refine LM.strip (t := 46) rfl rfl rfl ?_
          refine LM.val (ov_move rfl) ?_
          refine LM.strip (t := 46) rfl rfl rfl ?_
          refine LM.val (ov_eql rfl rfl) ?_
          refine LM.val (ov_pickT rfl rfl) ?_
          refine LM.val (ov_move rfl) ?_
          first | refine LM.splitD (t := 50) rfl (fun h4 => ?_) (fun h4 => ?_) | refine LM.splitB (t := 50) rfl (fun h4 => ?_) (fun h4 => ?_)
          ·
            refine LM.strip (t := 50) rfl rfl rfl ?_
            first | refine LM.rd (om_ldW Try.isAgg24 Try.sizeOf24 rfl rfl) ?_ | refine LM.rd (om_ldA Try.isAgg24 Try.sizeOf24 rfl (vs := [_, _]) rfl ⟨rfl, rfl, trivial⟩) ?_
            refine LM.strip (t := 50) rfl rfl rfl ?_
            refine LM.callE (oc_call (enters_fn Try.func10 (by kernel_rfl) rfl) rfl) (fun w hm hc hg => longest_at (xs := xs11) 0 long11 w rfl (row_sr 3 (hm.at b11) rfl rfl (fun _ => rfl)) small11) ?_
            refine LM.strip (t := 50) rfl rfl rfl ?_
            refine LM.val (ov_eql rfl rfl) ?_
            refine LM.val (ov_pickT rfl rfl) ?_
            refine LM.val (ov_assign rfl) ?_
            refine LM.nil ?_
            refine QM.sub (e' := [(0, _)]) ⟨rfl, trivial⟩ ?_
            refine QM.then ?_
            refine wpM.ret ?_
            refine QM.leaveDF (ds := [D0]) (.inl rfl) [.tmp 0] Try.results5 rfl (fun D h => by simp only [List.mem_cons, List.not_mem_nil, or_false] at h; omega) ?_
            intro w' hm' hc'
            -- leaf 2: h1- h2+ h3+ h4+
            first | exact ⟨rfl, hc'⟩ | (refine ⟨?_, hc'⟩; simp only [resV, decide_true]; done) | (exfalso; first | omega | contradiction | (simp at *; done))
          ·
            refine LM.drop (t := 50) rfl rfl rfl ?_
            refine LM.drop (t := 50) rfl rfl rfl ?_
            refine LM.drop (t := 50) rfl rfl rfl ?_
            refine LM.val (ov_pickF rfl rfl) ?_
            refine LM.val (ov_assign rfl) ?_
            refine LM.nil ?_
            refine QM.sub (e' := [(0, _)]) ⟨rfl, trivial⟩ ?_
            refine QM.then ?_
            refine wpM.ret ?_
            refine QM.leaveDF (ds := [D0]) (.inl rfl) [.tmp 0] Try.results5 rfl (fun D h => by simp only [List.mem_cons, List.not_mem_nil, or_false] at h; omega) ?_
            intro w' hm' hc'
            -- leaf 3: h1- h2+ h3+ h4-
            first | exact ⟨rfl, hc'⟩ | (refine ⟨?_, hc'⟩; simp only [resV, decide_true]; done) | (exfalso; first | omega | contradiction | (simp at *; done))
        ·
          refine LM.drop (t := 46) rfl rfl rfl ?_
          refine LM.drop (t := 46) rfl rfl rfl ?_
          refine LM.val (ov_pickF rfl rfl) ?_
          refine LM.val (ov_move rfl) ?_
          refine LM.drop (t := 50) rfl rfl rfl ?_
          refine LM.drop (t := 50) rfl rfl rfl ?_
          refine LM.drop (t := 50) rfl rfl rfl ?_
          refine LM.val (ov_pickF rfl rfl) ?_
          refine LM.val (ov_assign rfl) ?_
          refine LM.nil ?_
          refine QM.sub (e' := [(0, _)]) ⟨rfl, trivial⟩ ?_
          refine QM.then ?_
          refine wpM.ret ?_
          refine QM.leaveDF (ds := [D0]) (.inl rfl) [.tmp 0] Try.results5 rfl (fun D h => by simp only [List.mem_cons, List.not_mem_nil, or_false] at h; omega) ?_
          intro w' hm' hc'
          -- leaf 4: h1- h2+ h3-
          first | exact ⟨rfl, hc'⟩ | (refine ⟨?_, hc'⟩; simp only [resV, decide_true]; done) | (exfalso; first | omega | contradiction | (simp at *; done))
      ·
        refine LM.drop (t := 42) rfl rfl rfl ?_
        refine LM.drop (t := 42) rfl rfl rfl ?_
        refine LM.val (ov_pickF rfl rfl) ?_
        refine LM.val (ov_move rfl) ?_
        refine LM.drop (t := 46) rfl rfl rfl ?_
        refine LM.drop (t := 46) rfl rfl rfl ?_
        refine LM.val (ov_pickF rfl rfl) ?_
        refine LM.val (ov_move rfl) ?_
        refine LM.drop (t := 50) rfl rfl rfl ?_
        refine LM.drop (t := 50) rfl rfl rfl ?_
        refine LM.drop (t := 50) rfl rfl rfl ?_
        refine LM.val (ov_pickF rfl rfl) ?_
        refine LM.val (ov_assign rfl) ?_
        refine LM.nil ?_
        refine QM.sub (e' := [(0, _)]) ⟨rfl, trivial⟩ ?_
        refine QM.then ?_
        refine wpM.ret ?_
        refine QM.leaveDF (ds := [D0]) (.inl rfl) [.tmp 0] Try.results5 rfl (fun D h => by simp only [List.mem_cons, List.not_mem_nil, or_false] at h; omega) ?_
        intro w' hm' hc'
        -- leaf 5: h1- h2-
        first | exact ⟨rfl, hc'⟩ | (refine ⟨?_, hc'⟩; simp only [resV, decide_true]; done) | (exfalso; first | omega | contradiction | (simp at *; done))
    ·
      rintro ⟨⟩ D0 hD0 hx
      first | exact hx.elim | cases hx.1
    ·
      rintro id ⟨⟩ D0 hD0 hx
      first | exact hx.elim | cases hx.1 | cases hx

set_option maxRecDepth 100000 in
theorem critChecks {xs : List COp} {ls : List CLk} {fv : Bool} {ad ad2 : Option Addr} {n cap n2 cap2 : Nat} (progs : Int) (w : World) (hn : n = xs.length) (hl : Sr fO 3 xs (.slice ad n cap) w) (hn2 : n2 = ls.length) (hl2 : Sr fL 5 ls (.slice ad2 n2 cap2) w) : Ret Try.prog 3 #[pV fv ad n cap, .slice ad2 n2 cap2, .int .i64 progs] w (fun v w' => v = .bool true ∧ Ext w w') := by
  refine Ret.enterM (l := [pV fv ad n cap, .slice ad2 n2 cap2, .int .i64 progs]) Try.func3 rfl Try.ntmps3 rfl ([]) (no) (Mem.nil w) ?_
  refine wpM.seq ?_
  refine wpM.region ?_
  refine LM.box rfl rfl (fun b3 hb3 => ?_)
  refine LM.val (ov_assign rfl) ?_
  refine LM.nil ?_
  refine QM.sub (e' := [(1, _), (2, _), (3, _)]) ⟨rfl, rfl, rfl, trivial⟩ ?_
  refine QM.then ?_
  refine wpM.seq ?_
  refine wpM.seq ?_
  refine wpM.region ?_
  refine LM.callE (oc_call (enters_fn Try.func5 (by kernel_rfl) rfl) rfl) (fun w hm hc hg => awake11 w) ?_
  first | refine LM.val (ov_notD rfl) ?_ | refine LM.val (ov_not rfl) ?_
  refine LM.nil ?_
  refine QM.sub (e' := [(1, _), (2, _), (3, _), (12, _)]) ⟨rfl, rfl, rfl, rfl, trivial⟩ ?_
  refine QM.then ?_
  first | refine wpM.condD rfl (fun h1 => ?_) (fun h1 => ?_) | refine wpM.condB rfl (fun h1 => ?_) (fun h1 => ?_)
  ·
    refine wpM.seq ?_
    refine wpM.region ?_
    refine LM.val (ov_assign rfl) ?_
    refine LM.nil ?_
    refine QM.sub (e' := [(6, _)]) ⟨rfl, trivial⟩ ?_
    refine QM.then ?_
    refine wpM.ret ?_
    refine QM.then_ret ?_
    refine QM.leave (.inl rfl) [.tmp 6] Try.results3 rfl ?_
    intro w' hm' hc' hg'
    -- leaf 1: h1+
    first | exact ⟨rfl, hc'⟩ | (refine ⟨?_, hc'⟩; simp only [resV, decide_true]; done) | (exfalso; first | omega | contradiction | (simp at *; done))
  ·
    refine wpM.skip ?_
    refine QM.then ?_
    refine wpM.seq ?_
    refine wpM.seq ?_
    refine wpM.region ?_
    first | refine LM.rd (om_ldW Try.isAgg24 Try.sizeOf24 rfl rfl) ?_ | refine LM.rd (om_ldA Try.isAgg24 Try.sizeOf24 rfl (vs := [_, _]) rfl ⟨rfl, rfl, trivial⟩) ?_
    refine LM.callE (oc_call (enters_fn Try.func6 (by kernel_rfl) rfl) rfl) (fun w hm hc hg => small_spec w hn (hl.ext hc)) ?_
    first | refine LM.val (ov_notD rfl) ?_ | refine LM.val (ov_not rfl) ?_
    refine LM.val (ov_move rfl) ?_
    first | refine LM.splitD (t := 16) rfl (fun h2 => ?_) (fun h2 => ?_) | refine LM.splitB (t := 16) rfl (fun h2 => ?_) (fun h2 => ?_)
    ·
      refine LM.drop (t := 16) rfl rfl rfl ?_
      refine LM.drop (t := 16) rfl rfl rfl ?_
      refine LM.drop (t := 16) rfl rfl rfl ?_
      refine LM.val (ov_pickT rfl rfl) ?_
      refine LM.nil ?_
      refine QM.sub (e' := [(1, _), (2, _), (3, _), (20, _)]) ⟨rfl, rfl, rfl, rfl, trivial⟩ ?_
      refine QM.then ?_
      refine wpM.condT rfl ?_
      refine wpM.seq ?_
      refine wpM.region ?_
      refine LM.val (ov_assign rfl) ?_
      refine LM.nil ?_
      refine QM.sub (e' := [(6, _)]) ⟨rfl, trivial⟩ ?_
      refine QM.then ?_
      refine wpM.ret ?_
      refine QM.then_ret ?_
      refine QM.leave (.inl rfl) [.tmp 6] Try.results3 rfl ?_
      intro w' hm' hc' hg'
      -- leaf 2: h1- h2+
      first | exact ⟨rfl, hc'⟩ | (refine ⟨?_, hc'⟩; simp only [resV, decide_true]; done) | (exfalso; first | omega | contradiction | (simp at *; done))
    ·
      refine LM.strip (t := 16) rfl rfl rfl ?_
      refine LM.val (ov_move rfl) ?_
      refine LM.strip (t := 16) rfl rfl rfl ?_
      refine LM.val (ov_len Try.underlying25 rfl) ?_
      refine LM.strip (t := 16) rfl rfl rfl ?_
      refine LM.val (ov_gtr rfl rfl) ?_
      refine LM.val (ov_pickF rfl rfl) ?_
      refine LM.nil ?_
      refine QM.sub (e' := [(1, _), (2, _), (3, _), (20, _)]) ⟨rfl, rfl, rfl, rfl, trivial⟩ ?_
      refine QM.then ?_
      first | refine wpM.condD rfl (fun h3 => ?_) (fun h3 => ?_) | refine wpM.condB rfl (fun h3 => ?_) (fun h3 => ?_)
      ·
        refine wpM.seq ?_
        refine wpM.region ?_
        refine LM.val (ov_assign rfl) ?_
        refine LM.nil ?_
        refine QM.sub (e' := [(6, _)]) ⟨rfl, trivial⟩ ?_
        refine QM.then ?_
        refine wpM.ret ?_
        refine QM.then_ret ?_
        refine QM.leave (.inl rfl) [.tmp 6] Try.results3 rfl ?_
        intro w' hm' hc' hg'
        -- leaf 3: h1- h2- h3+
        first | exact ⟨rfl, hc'⟩ | (refine ⟨?_, hc'⟩; simp only [resV, decide_true]; done) | (exfalso; first | omega | contradiction | (simp at *; done))
      ·
        refine wpM.skip ?_
        refine QM.then ?_
        refine wpM.seq ?_
        refine wpM.region ?_
        first | refine LM.rd (om_ldW Try.isAgg24 Try.sizeOf24 rfl rfl) ?_ | refine LM.rd (om_ldA Try.isAgg24 Try.sizeOf24 rfl (vs := [_, _]) rfl ⟨rfl, rfl, trivial⟩) ?_
        refine LM.val (ov_move rfl) ?_
        refine LM.val (ov_move rfl) ?_
        refine LM.callE (oc_call (enters_fn Try.func7 (by kernel_rfl) rfl) rfl) (fun w hm hc hg => check_spec progs w hn (hl.ext hc) hn2 (hl2.ext hc)) ?_
        refine LM.val (ov_move rfl) ?_
        refine LM.val (ov_extract rfl rfl) ?_
        refine LM.val (ov_extract rfl rfl) ?_
        refine LM.val (ov_assign rfl) ?_
        refine LM.val (ov_assign rfl) ?_
        refine LM.nil ?_
        refine QM.sub (e' := [(1, _), (2, _), (3, _), (7, _), (8, _)]) ⟨rfl, rfl, rfl, rfl, rfl, trivial⟩ ?_
        refine QM.then ?_
        refine wpM.seq ?_
        refine wpM.region ?_
        first | refine LM.rd (om_ldW Try.isAgg24 Try.sizeOf24 rfl rfl) ?_ | refine LM.rd (om_ldA Try.isAgg24 Try.sizeOf24 rfl (vs := [_, _]) rfl ⟨rfl, rfl, trivial⟩) ?_
        refine LM.val (ov_move rfl) ?_
        refine LM.val (ov_move rfl) ?_
        refine LM.callE (oc_call (enters_fn Try.func8 (by kernel_rfl) rfl) rfl) (fun w hm hc hg => rcheck_spec progs w hn (hl.ext hc) hn2 (hl2.ext hc)) ?_
        refine LM.val (ov_move rfl) ?_
        refine LM.val (ov_extract rfl rfl) ?_
        refine LM.val (ov_extract rfl rfl) ?_
        refine LM.val (ov_assign rfl) ?_
        refine LM.val (ov_assign rfl) ?_
        refine LM.nil ?_
        refine QM.sub (e' := [(7, _), (8, _), (9, _), (10, _)]) ⟨rfl, rfl, rfl, rfl, trivial⟩ ?_
        refine QM.then ?_
        refine wpM.seq ?_
        refine wpM.region ?_
        refine LM.val (ov_move rfl) ?_
        refine LM.val (ov_move rfl) ?_
        refine LM.val (ov_eql rfl rfl) ?_
        refine LM.val (ov_move rfl) ?_
        first | refine LM.splitD (t := 38) rfl (fun h4 => ?_) (fun h4 => ?_) | refine LM.splitB (t := 38) rfl (fun h4 => ?_) (fun h4 => ?_)
        ·
          refine LM.strip (t := 38) rfl rfl rfl ?_
          refine LM.val (ov_move rfl) ?_
          refine LM.strip (t := 38) rfl rfl rfl ?_
          refine LM.val (ov_move rfl) ?_
          refine LM.strip (t := 38) rfl rfl rfl ?_
          refine LM.val (ov_eql rfl rfl) ?_
          refine LM.val (ov_pickT rfl rfl) ?_
          refine LM.val (ov_assign rfl) ?_
          refine LM.nil ?_
          refine QM.sub (e' := [(6, _)]) ⟨rfl, trivial⟩ ?_
          refine QM.then ?_
          refine wpM.ret ?_
          refine QM.leave (.inl rfl) [.tmp 6] Try.results3 rfl ?_
          intro w' hm' hc' hg'
          -- leaf 4: h1- h2- h3- h4+
          first | exact ⟨rfl, hc'⟩ | (refine ⟨?_, hc'⟩; simp only [resV, decide_true]; done) | (exfalso; first | omega | contradiction | (simp at *; done))
        ·
          refine LM.drop (t := 38) rfl rfl rfl ?_
          refine LM.drop (t := 38) rfl rfl rfl ?_
          refine LM.drop (t := 38) rfl rfl rfl ?_
          refine LM.val (ov_pickF rfl rfl) ?_
          refine LM.val (ov_assign rfl) ?_
          refine LM.nil ?_
          refine QM.sub (e' := [(6, _)]) ⟨rfl, trivial⟩ ?_
          refine QM.then ?_
          refine wpM.ret ?_
          refine QM.leave (.inl rfl) [.tmp 6] Try.results3 rfl ?_
          intro w' hm' hc' hg'
          -- leaf 5: h1- h2- h3- h4-
          first | exact ⟨rfl, hc'⟩ | (refine ⟨?_, hc'⟩; simp only [resV, decide_true]; done) | (exfalso; first | omega | contradiction | (simp at *; done))

set_option maxRecDepth 100000 in
set_option maxHeartbeats 1000000 in
theorem critMore {xs : List COp} {ls : List CLk} {fv : Bool} {ad ad2 : Option Addr} {n cap n2 cap2 : Nat} (more : Int) (w : World) (hn : n = xs.length) (hl : Sr fO 3 xs (.slice ad n cap) w) (hn2 : n2 = ls.length) (hl2 : Sr fL 5 ls (.slice ad2 n2 cap2) w) (hmore : 0 ≤ more ∧ more ≤ 255) : Ret Try.prog 4 #[pV fv ad n cap, .slice ad2 n2 cap2, .int .u8 more] w (fun v w' => v = .bool true ∧ Ext w w') := by
  refine Ret.enterM (l := [pV fv ad n cap, .slice ad2 n2 cap2, .int .u8 more]) Try.func4 rfl Try.ntmps4 rfl ([]) (no) (Mem.nil w) ?_
  refine wpM.seq ?_
  refine wpM.region ?_
  refine LM.box rfl rfl (fun b3 hb3 => ?_)
  refine LM.val (ov_assign rfl) ?_
  refine LM.nil ?_
  refine QM.sub (e' := [(1, _), (2, _), (3, _)]) ⟨rfl, rfl, rfl, trivial⟩ ?_
  refine QM.then ?_
  refine wpM.seq ?_
  refine wpM.seq ?_
  refine wpM.region ?_
  refine LM.callE (oc_call (enters_fn Try.func5 (by kernel_rfl) rfl) rfl) (fun w hm hc hg => awake11 w) ?_
  first | refine LM.val (ov_notD rfl) ?_ | refine LM.val (ov_not rfl) ?_
  refine LM.nil ?_
  refine QM.sub (e' := [(1, _), (2, _), (3, _), (17, _)]) ⟨rfl, rfl, rfl, rfl, trivial⟩ ?_
  refine QM.then ?_
  first | refine wpM.condD rfl (fun h1 => ?_) (fun h1 => ?_) | refine wpM.condB rfl (fun h1 => ?_) (fun h1 => ?_)
  ·
    refine wpM.seq ?_
    refine wpM.region ?_
    refine LM.val (ov_assign rfl) ?_
    refine LM.nil ?_
    refine QM.sub (e' := [(6, _)]) ⟨rfl, trivial⟩ ?_
    refine QM.then ?_
    refine wpM.ret ?_
    refine QM.then_ret ?_
    refine QM.leave (.inl rfl) [.tmp 6] Try.results4 rfl ?_
    intro w' hm' hc' hg'
    -- leaf 1: h1+
    first | exact ⟨rfl, hc'⟩ | (refine ⟨?_, hc'⟩; simp only [resV, decide_true]; done) | (exfalso; first | omega | contradiction | (simp at *; done))
  ·
    refine wpM.skip ?_
    refine QM.then ?_
    refine wpM.seq ?_
    refine wpM.seq ?_
    refine wpM.region ?_
    first | refine LM.rd (om_ldW Try.isAgg24 Try.sizeOf24 rfl rfl) ?_ | refine LM.rd (om_ldA Try.isAgg24 Try.sizeOf24 rfl (vs := [_, _]) rfl ⟨rfl, rfl, trivial⟩) ?_
    refine LM.callE (oc_call (enters_fn Try.func6 (by kernel_rfl) rfl) rfl) (fun w hm hc hg => small_spec w hn (hl.ext hc)) ?_
    first | refine LM.val (ov_notD rfl) ?_ | refine LM.val (ov_not rfl) ?_
    refine LM.val (ov_move rfl) ?_
    first | refine LM.splitD (t := 21) rfl (fun h2 => ?_) (fun h2 => ?_) | refine LM.splitB (t := 21) rfl (fun h2 => ?_) (fun h2 => ?_)
    ·
      refine LM.drop (t := 21) rfl rfl rfl ?_
      refine LM.drop (t := 21) rfl rfl rfl ?_
      refine LM.drop (t := 21) rfl rfl rfl ?_
      refine LM.val (ov_pickT rfl rfl) ?_
      refine LM.val (ov_move rfl) ?_
      refine LM.drop (t := 26) rfl rfl rfl ?_
      refine LM.drop (t := 26) rfl rfl rfl ?_
      refine LM.drop (t := 26) rfl rfl rfl ?_
      refine LM.val (ov_pickT rfl rfl) ?_
      refine LM.nil ?_
      refine QM.sub (e' := [(1, _), (2, _), (3, _), (30, _)]) ⟨rfl, rfl, rfl, rfl, trivial⟩ ?_
      refine QM.then ?_
      refine wpM.condT rfl ?_
      refine wpM.seq ?_
      refine wpM.region ?_
      refine LM.val (ov_assign rfl) ?_
      refine LM.nil ?_
      refine QM.sub (e' := [(6, _)]) ⟨rfl, trivial⟩ ?_
      refine QM.then ?_
      refine wpM.ret ?_
      refine QM.then_ret ?_
      refine QM.leave (.inl rfl) [.tmp 6] Try.results4 rfl ?_
      intro w' hm' hc' hg'
      -- leaf 2: h1- h2+
      first | exact ⟨rfl, hc'⟩ | (refine ⟨?_, hc'⟩; simp only [resV, decide_true]; done) | (exfalso; first | omega | contradiction | (simp at *; done))
    ·
      refine LM.strip (t := 21) rfl rfl rfl ?_
      refine LM.val (ov_move rfl) ?_
      refine LM.strip (t := 21) rfl rfl rfl ?_
      refine LM.val (ov_len Try.underlying25 rfl) ?_
      refine LM.strip (t := 21) rfl rfl rfl ?_
      refine LM.val (ov_gtr rfl rfl) ?_
      refine LM.val (ov_pickF rfl rfl) ?_
      refine LM.val (ov_move rfl) ?_
      first | refine LM.splitD (t := 26) rfl (fun h3 => ?_) (fun h3 => ?_) | refine LM.splitB (t := 26) rfl (fun h3 => ?_) (fun h3 => ?_)
      ·
        refine LM.drop (t := 26) rfl rfl rfl ?_
        refine LM.drop (t := 26) rfl rfl rfl ?_
        refine LM.drop (t := 26) rfl rfl rfl ?_
        refine LM.val (ov_pickT rfl rfl) ?_
        refine LM.nil ?_
        refine QM.sub (e' := [(1, _), (2, _), (3, _), (30, _)]) ⟨rfl, rfl, rfl, rfl, trivial⟩ ?_
        refine QM.then ?_
        refine wpM.condT rfl ?_
        refine wpM.seq ?_
        refine wpM.region ?_
        refine LM.val (ov_assign rfl) ?_
        refine LM.nil ?_
        refine QM.sub (e' := [(6, _)]) ⟨rfl, trivial⟩ ?_
        refine QM.then ?_
        refine wpM.ret ?_
        refine QM.then_ret ?_
        refine QM.leave (.inl rfl) [.tmp 6] Try.results4 rfl ?_
        intro w' hm' hc' hg'
        -- leaf 3: h1- h2- h3+
        first | exact ⟨rfl, hc'⟩ | (refine ⟨?_, hc'⟩; simp only [resV, decide_true]; done) | (exfalso; first | omega | contradiction | (simp at *; done))
      ·
        refine LM.strip (t := 26) rfl rfl rfl ?_
        first | refine LM.rd (om_ldW Try.isAgg24 Try.sizeOf24 rfl rfl) ?_ | refine LM.rd (om_ldA Try.isAgg24 Try.sizeOf24 rfl (vs := [_, _]) rfl ⟨rfl, rfl, trivial⟩) ?_
        refine LM.strip (t := 26) rfl rfl rfl ?_
        refine LM.callE (oc_call (enters_fn Try.func9 (by kernel_rfl) rfl) rfl) (fun w hm hc hg => rmay_spec w hn (hl.ext hc)) ?_
        refine LM.strip (t := 26) rfl rfl rfl ?_
        first | refine LM.val (ov_notD rfl) ?_ | refine LM.val (ov_not rfl) ?_
        refine LM.val (ov_pickF rfl rfl) ?_
        refine LM.nil ?_
        refine QM.sub (e' := [(1, _), (2, _), (3, _), (30, _)]) ⟨rfl, rfl, rfl, rfl, trivial⟩ ?_
        refine QM.then ?_
        first | refine wpM.condD rfl (fun h4 => ?_) (fun h4 => ?_) | refine wpM.condB rfl (fun h4 => ?_) (fun h4 => ?_)
        ·
          refine wpM.seq ?_
          refine wpM.region ?_
          refine LM.val (ov_assign rfl) ?_
          refine LM.nil ?_
          refine QM.sub (e' := [(6, _)]) ⟨rfl, trivial⟩ ?_
          refine QM.then ?_
          refine wpM.ret ?_
          refine QM.then_ret ?_
          refine QM.leave (.inl rfl) [.tmp 6] Try.results4 rfl ?_
          intro w' hm' hc' hg'
          -- leaf 4: h1- h2- h3- h4+
          first | exact ⟨rfl, hc'⟩ | (refine ⟨?_, hc'⟩; simp only [resV, decide_true]; done) | (exfalso; first | omega | contradiction | (simp at *; done))
        ·
          refine wpM.skip ?_
          refine QM.then ?_
          refine wpM.seq ?_
          refine wpM.region ?_
          first | refine LM.rd (om_ldW Try.isAgg24 Try.sizeOf24 rfl rfl) ?_ | refine LM.rd (om_ldA Try.isAgg24 Try.sizeOf24 rfl (vs := [_, _]) rfl ⟨rfl, rfl, trivial⟩) ?_
          refine LM.val (ov_move rfl) ?_
          refine LM.callE (oc_call (enters_fn Try.func7 (by kernel_rfl) rfl) rfl) (fun w hm hc hg => check_spec 8 w hn (hl.ext hc) hn2 (hl2.ext hc)) ?_
          refine LM.val (ov_move rfl) ?_
          refine LM.val (ov_extract rfl rfl) ?_
          refine LM.val (ov_extract rfl rfl) ?_
          refine LM.val (ov_assign rfl) ?_
          refine LM.val (ov_assign rfl) ?_
          refine LM.nil ?_
          refine QM.sub (e' := [(1, _), (2, _), (3, _), (8, _)]) ⟨rfl, rfl, rfl, rfl, trivial⟩ ?_
          refine QM.then ?_
          refine wpM.seq ?_
          refine wpM.region ?_
          refine LM.val (ov_assign rfl) ?_
          refine LM.nil ?_
          refine QM.sub (e' := [(1, _), (2, _), (3, _), (8, _), (9, _)]) ⟨rfl, rfl, rfl, rfl, rfl, trivial⟩ ?_
          refine QM.then ?_
          refine wpM.seq ?_
          refine wpM.seq ?_
          refine wpM.region ?_
          refine LM.val (ov_move rfl) ?_
          refine LM.val (ov_len Try.underlying25 rfl) ?_
          refine LM.val (ov_move rfl) ?_
          refine LM.nil ?_
          refine QM.sub (e' := [(1, _), (2, _), (3, _), (8, _), (9, _), (37, _), (38, _), (39, _)]) ⟨rfl, rfl, rfl, rfl, rfl, rfl, rfl, rfl, trivial⟩ ?_
          refine QM.then ?_
          refine wpM.block ?_
          refine wpM.loopK0 (α := Nat × Option Addr × Nat × Nat × Mem0) (fun ⟨j, ad9, n9, cap9, m9⟩ => [(9, .slice ad9 n9 cap9), (39, .int .i64 (j : Nat))]) [(1, _), (2, _), (3, _), (8, _), (37, _), (38, _)] (fun ⟨j, ad9, n9, cap9, m9⟩ => m9 ++ (pB b3 fv ad n cap :: [])) (fun ⟨j, ad9, n9, cap9, m9⟩ => j ≤ ls.length ∧ n9 = j ∧ Sl fL 35 5 w.heap.size (moreL more (ls.take j)) (.slice ad9 n9 cap9) m9) (fun ⟨j, ad9, n9, cap9, m9⟩ => ls.length - j) ((0, none, 0, 0, [])) ⟨(by first | rfl | exact lk rfl (by congr 1; omega) | exact lk rfl (by simp)), (by first | rfl | exact lk rfl (by congr 1; omega) | exact lk rfl (by simp)), rfl, rfl, rfl, rfl, rfl, rfl, trivial⟩ (by (repeat' (first | exact SubM.nil _ | refine SubM.cons rfl ?_ | refine SubM.app ?_))) ⟨Nat.zero_le _, rfl, .nil _ _ _ _⟩ ?_
          rintro ⟨j, ad9, n9, cap9, m9⟩ ⟨hj, hnj, hs9⟩
          change wpM _ _ _ _ _ _ _ (m9 ++ (pB b3 fv ad n cap :: [])) _ _ _
          have hml : (moreL more (ls.take j)).length = j := (by simp [moreL]; omega)
          refine wpM.seq ?_
          refine wpM.region ?_
          refine LM.val (ov_lss rfl rfl) ?_
          refine LM.nil ?_
          refine QM.sub (e' := [(1, _), (2, _), (3, _), (8, _), (9, _), (37, _), (38, _), (39, _), (40, _)]) ⟨rfl, rfl, rfl, rfl, rfl, rfl, rfl, rfl, rfl, trivial⟩ ?_
          refine QM.then ?_
          refine wpM.seq ?_
          first | refine wpM.condD rfl (fun h5 => ?_) (fun h5 => ?_) | refine wpM.condB rfl (fun h5 => ?_) (fun h5 => ?_)
          ·
            refine wpM.skip ?_
            refine QM.then ?_
            refine wpM.seq ?_
            refine wpM.block ?_
            refine wpM.seq ?_
            refine wpM.region ?_
            first | refine LM.val (ov_idxSN (by first | exact Sr.spt (by assumption) | exact Sl.spt (by assumption)) Try.underlying25 Try.sizeOf35 rfl rfl (by omega)) ?_ | refine LM.val (ov_idxS (by first | exact Sr.spt (by assumption) | exact Sl.spt (by assumption)) Try.underlying25 Try.sizeOf35 rfl rfl (by omega)) ?_ | refine LM.val (ov_idx Try.underlying25 Try.sizeOf35 rfl rfl (by omega)) ?_
            first | refine LM.rd (om_slA (by assumption) (by intro _; rfl) Try.isAgg35 Try.sizeOf35 rfl (by exact getq default (by first | omega | (simp only [List.length_set, List.length_append, List.length_cons, List.length_nil]; omega)))) ?_ | refine LM.rdC (om_srEA (by assumption) (by intro _; rfl) Try.isAgg35 Try.sizeOf35 rfl (by exact getq default (by first | omega | (simp only [List.length_set, List.length_append, List.length_cons, List.length_nil]; omega))) id) ?_ | refine LM.rd (om_ldW Try.isAgg35 Try.sizeOf35 rfl rfl) ?_ | refine LM.rd (om_ldA Try.isAgg35 Try.sizeOf35 rfl (vs := [_, _, _, _, _]) rfl ⟨rfl, rfl, rfl, rfl, rfl, trivial⟩) ?_
            refine LM.alloc Try.zeroValue35 rfl (fun b11 hb11 => ?_)
            first | refine LM.stW Try.sizeOf35 rfl rfl rfl rfl (by first | rfl | decide | (simp; done)) (fun hlt => absurd hlt (by omega)) ?_ | refine LM.st Try.sizeOf35 rfl rfl rfl (by first | decide | exact Nat.le_of_ble_eq_true rfl | (simp; done) | (simp; omega)) rfl (fun hlt => absurd hlt (by omega)) ?_
            refine LM.nil ?_
            refine QM.sub (e' := [(1, _), (2, _), (3, _), (8, _), (9, _), (11, _), (37, _), (38, _), (39, _)]) ⟨rfl, rfl, rfl, rfl, rfl, rfl, rfl, rfl, rfl, trivial⟩ ?_
            refine QM.then ?_
            refine wpM.seq ?_
            refine wpM.region ?_
            refine LM.val (ov_field Try.underlying35 rfl Try.sizeOf3 rfl (k := 2) rfl rfl) ?_
            first | refine LM.rd (om_ld Try.isAgg3 rfl rfl) ?_
            refine LM.val (ov_max rfl rfl) ?_
            have hmx := mx0_le (ls.getD j default).cr; have hmq : (if 0 > (ls.getD j default).cr then 0 else (ls.getD j default).cr) = mx0 (ls.getD j default).cr := rfl; rw [hmq]
            refine LM.val (ov_rem64 rfl rfl (by omega) (by omega)) ?_
            refine LM.val (ov_move rfl) ?_
            refine LM.val (ov_to64 Try.underlying5 Try.underlying3 rfl (by omega)) ?_
            refine LM.val (ov_add64 rfl rfl (by omega)) ?_
            refine LM.val (ov_add64 rfl rfl (by omega)) ?_
            refine LM.val (ov_field Try.underlying35 rfl Try.sizeOf3 rfl (k := 2) rfl rfl) ?_
            refine LM.st Try.sizeOf3 rfl rfl rfl (by first | decide | exact Nat.le_of_ble_eq_true rfl | (simp; done) | (simp; omega)) rfl (fun hlt => absurd hlt (by omega)) ?_
            refine LM.nil ?_
            refine QM.sub (e' := [(1, _), (2, _), (3, _), (8, _), (9, _), (11, _), (37, _), (38, _), (39, _)]) ⟨rfl, rfl, rfl, rfl, rfl, rfl, rfl, rfl, rfl, trivial⟩ ?_
            refine QM.then ?_
            refine wpM.region ?_
            refine LM.val (ov_move rfl) ?_
            first | refine LM.rd (om_ldW Try.isAgg35 Try.sizeOf35 rfl rfl) ?_ | refine LM.rd (om_ldA Try.isAgg35 Try.sizeOf35 rfl (vs := [_, _, _, _, _]) rfl ⟨rfl, rfl, rfl, rfl, rfl, trivial⟩) ?_
            refine LM.single Try.underlying25 Try.sizeOf35 Try.zeroValue35 rfl rfl rfl rfl rfl (fun b54 hb54 => ?_)
            refine LM.app (a := { ls.getD j default with cr := mx0 (ls.getD j default).cr % 1000 + more + 1000 }) Try.underlying25 Try.typeInfo35 rfl rfl rfl rfl rfl rfl rfl (by assumption) (by rfl) (by intro _; rfl) (by intro _ u hu; simp [fL] at hu; (repeat (first | (rcases hu with rfl | hu) | subst hu | rfl))) (by first | exact Nat.le_refl _ | omega) (fun p hp hlt => absurd hlt (Nat.not_lt_of_le (Sl.ge (by assumption) p hp))) (by first | omega | (unfold maxLen; omega)) (by simp only [Try.t35]; omega) (fun ad55 n55 cap55 m55 hn55 hs55 hin55 => ?_)
            refine LM.val (ov_assign rfl) ?_
            refine LM.nil ?_
            refine QM.sub (e' := [(1, _), (2, _), (3, _), (8, _), (9, _), (37, _), (38, _), (39, _)]) ⟨rfl, rfl, rfl, rfl, rfl, rfl, rfl, rfl, trivial⟩ ?_
            refine QM.block_normal ?_
            refine QM.then ?_
            refine wpM.region ?_
            refine LM.val (ov_add64 rfl rfl (by omega)) ?_
            refine LM.val (ov_move rfl) ?_
            refine LM.nil ?_
            refine QM.sub (e' := [(1, _), (2, _), (3, _), (8, _), (9, _), (37, _), (38, _), (39, _)]) ⟨rfl, rfl, rfl, rfl, rfl, rfl, rfl, rfl, trivial⟩ ?_
            -- again1: h1- h2- h3- h4- h5+
            refine QM.againK ((j + 1, ad55, n55, cap55, m55)) ⟨(by first | rfl | exact lk rfl (by congr 1; omega) | exact lk rfl (by simp)), (by first | rfl | exact lk rfl (by congr 1; omega) | exact lk rfl (by simp)), rfl, rfl, rfl, rfl, rfl, rfl, trivial⟩ (by (repeat' (first | exact SubM.nil _ | refine SubM.cons rfl ?_ | refine SubM.app ?_))) (fun _ h => h) ?_ ?_
            · exact ⟨by omega, by rw [hn55, hml], by rw [moreL_snoc (by omega)]; exact hs55⟩
            · first | omega | (dsimp only; omega)
          ·
            have hjl : j = ls.length := (by omega); subst hjl; rw [List.take_length] at hs9 hml
            refine wpM.exit ?_
            refine QM.then_exit ?_
            refine QM.then_exit ?_
            refine QM.block_hit ?_
            refine QM.then ?_
            refine wpM.seq ?_
            refine wpM.keep (pB b3 fv ad n cap :: []) (fun _ => True) [(0, 1), (1, 0), (2, 0), (3, 2), (4, 2), (5, 2), (6, 0), (7, 0), (8, 0), (9, 0), (10, 0)] (by kernel_rfl) (by kernel_rfl) (by (repeat' (first | exact SubM.nil _ | refine SubM.cons rfl ?_ | refine SubM.app ?_))) (fun _ _ => trivial) ?_
            first | refine KD.rd rfl rfl (om_ldW Try.isAgg24 Try.sizeOf24 rfl rfl) ?_ | refine KD.rd rfl rfl (om_ldA Try.isAgg24 Try.sizeOf24 rfl (vs := [_, _]) rfl ⟨rfl, rfl, trivial⟩) ?_
            refine KD.val rfl rfl (ov_move rfl) ?_
            refine KD.val rfl rfl (ov_build (cs := #[_, _, _, _, _]) rfl (by first | rfl | kernel_rfl)) ?_
            refine KD.one rfl ?_
            refine LM.single Try.underlying25 Try.sizeOf35 Try.zeroValue35 rfl rfl rfl rfl rfl (fun b61 hb61 => ?_)
            refine LM.nil ?_
            refine QM.one (by (repeat' (first | exact SubM.nil _ | refine SubM.cons rfl ?_ | refine SubM.app ?_))) (fun _ _ => trivial) ?_
            refine KD.one rfl ?_
            refine LM.app (a := default) Try.underlying25 Try.typeInfo35 rfl rfl rfl rfl rfl rfl rfl (by assumption) (by rfl) (by intro _; rfl) (by intro _ u hu; simp [fL] at hu; (repeat (first | (rcases hu with rfl | hu) | subst hu | rfl))) (by first | exact Nat.le_refl _ | omega) (fun p hp hlt => absurd hlt (Nat.not_lt_of_le (Sl.ge (by assumption) p hp))) (by first | omega | (unfold maxLen; omega)) (by simp only [Try.t35]; omega) (fun ad62 n62 cap62 m62 hn62 hs62 hin62 => ?_)
            refine LM.nil ?_
            refine QM.one (by (repeat' (first | exact SubM.nil _ | refine SubM.cons rfl ?_ | refine SubM.app ?_))) (fun _ _ => trivial) ?_
            refine KD.one rfl ?_
            refine LM.callE (oc_call (enters_fn Try.func7 (by kernel_rfl) rfl) rfl) (fun w hm hc hg => check_spec (ls := moreL more ls ++ [default]) 9 w hn (hl.ext hc) (by rw [hn62]; simp) (hs62.srM (fun _ => rfl) hm)) ?_
            refine LM.nil ?_
            refine QM.one (by (repeat' (first | exact SubM.nil _ | refine SubM.cons rfl ?_ | refine SubM.app ?_))) (fun _ _ => trivial) ?_
            refine KD.val rfl rfl (ov_move rfl) ?_
            refine KD.val rfl rfl (ov_extract rfl rfl) ?_
            refine KD.val rfl rfl (ov_extract rfl rfl) ?_
            refine KD.val rfl rfl (ov_assign rfl) ?_
            refine KD.val rfl rfl (ov_assign rfl) ?_
            refine KD.nil ?_
            refine QM.sub (e' := [(1, _), (8, _), (13, _)]) ⟨rfl, rfl, rfl, trivial⟩ ?_
            refine QM.then ?_
            refine wpM.seq ?_
            refine wpM.seq ?_
            refine wpM.region ?_
            refine LM.val (ov_move rfl) ?_
            refine LM.val (ov_neq rfl rfl) ?_
            refine LM.nil ?_
            refine QM.sub (e' := [(1, _), (13, _), (67, _)]) ⟨rfl, rfl, rfl, trivial⟩ ?_
            refine QM.then ?_
            first | refine wpM.condD rfl (fun h6 => ?_) (fun h6 => ?_) | refine wpM.condB rfl (fun h6 => ?_) (fun h6 => ?_)
            ·
              refine wpM.seq ?_
              refine wpM.region ?_
              refine LM.val (ov_assign rfl) ?_
              refine LM.nil ?_
              refine QM.sub (e' := [(6, _)]) ⟨rfl, trivial⟩ ?_
              refine QM.then ?_
              refine wpM.ret ?_
              refine QM.then_ret ?_
              refine QM.leave (.inl rfl) [.tmp 6] Try.results4 rfl ?_
              intro w' hm' hc' hg'
              -- leaf 5: h1- h2- h3- h4- h5- h6+
              first | exact ⟨rfl, hc'⟩ | (refine ⟨?_, hc'⟩; simp only [resV, decide_true]; done) | (exfalso; first | omega | contradiction | (simp at *; done))
            ·
              refine wpM.skip ?_
              refine QM.then ?_
              refine wpM.seq ?_
              refine wpM.seq ?_
              refine wpM.region ?_
              refine LM.val (ov_move rfl) ?_
              refine LM.val (ov_len Try.underlying25 rfl) ?_
              refine LM.val (ov_move rfl) ?_
              refine LM.nil ?_
              refine QM.sub (e' := [(13, _), (68, _), (69, _), (70, _)]) ⟨rfl, rfl, rfl, rfl, trivial⟩ ?_
              refine QM.then ?_
              refine wpM.block ?_
              refine wpM.loopK0 (α := Nat) (fun j => [(70, .int .i64 (j : Nat))]) [(13, _), (68, _), (69, _)] (fun j => []) (fun j => j ≤ ls.length ∧ ∀ x ∈ ls.take j, x.cr ≤ 1000) (fun j => ls.length - j) (0) ⟨(by first | rfl | exact lk rfl (by congr 1; omega) | exact lk rfl (by simp)), rfl, rfl, rfl, trivial⟩ (by (repeat' (first | exact SubM.nil _ | refine SubM.cons rfl ?_ | refine SubM.app ?_))) ⟨Nat.zero_le _, fun x hx => by cases hx⟩ ?_
              rintro j ⟨hj, hcr⟩
              change wpM _ _ _ _ _ _ _ ([]) _ _ _
              refine wpM.seq ?_
              refine wpM.region ?_
              refine LM.val (ov_lss rfl rfl) ?_
              refine LM.nil ?_
              refine QM.sub (e' := [(13, _), (68, _), (69, _), (70, _), (71, _)]) ⟨rfl, rfl, rfl, rfl, rfl, trivial⟩ ?_
              refine QM.then ?_
              refine wpM.seq ?_
              first | refine wpM.condD rfl (fun h7 => ?_) (fun h7 => ?_) | refine wpM.condB rfl (fun h7 => ?_) (fun h7 => ?_)
              ·
                refine wpM.skip ?_
                refine QM.then ?_
                refine wpM.seq ?_
                refine wpM.block ?_
                refine wpM.seq ?_
                refine wpM.region ?_
                first | refine LM.val (ov_idxSN (by first | exact Sr.spt (by assumption) | exact Sl.spt (by assumption)) Try.underlying25 Try.sizeOf35 rfl rfl (by omega)) ?_ | refine LM.val (ov_idxS (by first | exact Sr.spt (by assumption) | exact Sl.spt (by assumption)) Try.underlying25 Try.sizeOf35 rfl rfl (by omega)) ?_ | refine LM.val (ov_idx Try.underlying25 Try.sizeOf35 rfl rfl (by omega)) ?_
                first | refine LM.rd (om_slA (by assumption) (by intro _; rfl) Try.isAgg35 Try.sizeOf35 rfl (by exact getq default (by first | omega | (simp only [List.length_set, List.length_append, List.length_cons, List.length_nil]; omega)))) ?_ | refine LM.rdC (om_srEA (by assumption) (by intro _; rfl) Try.isAgg35 Try.sizeOf35 rfl (by exact getq default (by first | omega | (simp only [List.length_set, List.length_append, List.length_cons, List.length_nil]; omega))) id) ?_ | refine LM.rd (om_ldW Try.isAgg35 Try.sizeOf35 rfl rfl) ?_ | refine LM.rd (om_ldA Try.isAgg35 Try.sizeOf35 rfl (vs := [_, _, _, _, _]) rfl ⟨rfl, rfl, rfl, rfl, rfl, trivial⟩) ?_
                refine LM.alloc Try.zeroValue35 rfl (fun b15 hb15 => ?_)
                first | refine LM.stW Try.sizeOf35 rfl rfl rfl rfl (by first | rfl | decide | (simp; done)) (fun hlt => absurd hlt (by omega)) ?_ | refine LM.st Try.sizeOf35 rfl rfl rfl (by first | decide | exact Nat.le_of_ble_eq_true rfl | (simp; done) | (simp; omega)) rfl (fun hlt => absurd hlt (by omega)) ?_
                refine LM.nil ?_
                refine QM.sub (e' := [(13, _), (15, _), (68, _), (69, _), (70, _)]) ⟨rfl, rfl, rfl, rfl, rfl, trivial⟩ ?_
                refine QM.then ?_
                refine wpM.seq ?_
                refine wpM.region ?_
                refine LM.val (ov_field Try.underlying35 rfl Try.sizeOf3 rfl (k := 2) rfl rfl) ?_
                first | refine LM.rd (om_ld Try.isAgg3 rfl rfl) ?_
                refine LM.val (ov_gtr rfl rfl) ?_
                refine LM.nil ?_
                refine QM.sub (e' := [(13, _), (68, _), (69, _), (70, _), (76, _)]) ⟨rfl, rfl, rfl, rfl, rfl, trivial⟩ ?_
                refine QM.then ?_
                first | refine wpM.condD rfl (fun h8 => ?_) (fun h8 => ?_) | refine wpM.condB rfl (fun h8 => ?_) (fun h8 => ?_)
                ·
                  refine wpM.seq ?_
                  refine wpM.region ?_
                  refine LM.val (ov_assign rfl) ?_
                  refine LM.nil ?_
                  refine QM.sub (e' := [(6, _)]) ⟨rfl, trivial⟩ ?_
                  refine QM.then ?_
                  refine wpM.ret ?_
                  refine QM.block_ret ?_
                  refine QM.then_ret ?_
                  refine QM.then_ret ?_
                  refine QM.block_ret ?_
                  refine QM.then_ret ?_
                  refine QM.leave (.inl rfl) [.tmp 6] Try.results4 rfl ?_
                  intro w' hm' hc' hg'
                  -- leaf 6: h1- h2- h3- h4- h5- h6- h7+ h8+
                  first | exact ⟨rfl, hc'⟩ | (refine ⟨?_, hc'⟩; simp only [resV, decide_true]; done) | (exfalso; first | omega | contradiction | (simp at *; done))
                ·
                  refine wpM.skip ?_
                  refine QM.block_normal ?_
                  refine QM.then ?_
                  refine wpM.region ?_
                  refine LM.val (ov_add64 rfl rfl (by omega)) ?_
                  refine LM.val (ov_move rfl) ?_
                  refine LM.nil ?_
                  refine QM.sub (e' := [(13, _), (68, _), (69, _), (70, _)]) ⟨rfl, rfl, rfl, rfl, trivial⟩ ?_
                  -- again1: h1- h2- h3- h4- h5- h6- h7+ h8-
                  refine QM.againK (j + 1) ⟨(by first | rfl | exact lk rfl (by congr 1; omega) | exact lk rfl (by simp)), rfl, rfl, rfl, trivial⟩ (by (repeat' (first | exact SubM.nil _ | refine SubM.cons rfl ?_ | refine SubM.app ?_))) (fun _ h => h) ?_ ?_
                  · exact ⟨by omega, fun x hx => by rw [take_snoc default (by omega), List.mem_append, List.mem_singleton] at hx; rcases hx with hx | rfl; exact hcr x hx; omega⟩
                  · first | omega | (dsimp only; omega)
              ·
                refine wpM.exit ?_
                refine QM.then_exit ?_
                refine QM.then_exit ?_
                refine QM.block_hit ?_
                refine QM.then ?_
                refine wpM.seq ?_
                refine wpM.region ?_
                refine LM.val (ov_move rfl) ?_
                refine LM.val (ov_eql rfl rfl) ?_
                refine LM.val (ov_assign rfl) ?_
                refine LM.nil ?_
                refine QM.sub (e' := [(6, _)]) ⟨rfl, trivial⟩ ?_
                refine QM.then ?_
                refine wpM.ret ?_
                refine QM.leave (.inl rfl) [.tmp 6] Try.results4 rfl ?_
                intro w' hm' hc' hg'
                -- leaf 7: h1- h2- h3- h4- h5- h6- h7-
                have hjl : j = ls.length := (by omega); subst hjl; rw [List.take_length] at hcr; have h8 : (ckO fv xs ls 8).2 = 0 := Classical.not_not.1 h6; refine ⟨?_, hc'⟩; simp only [resV]; rw [ck_more hmore.1 hcr h8]; rfl

end Go.Eng

