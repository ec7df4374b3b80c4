/- The walks of the scanner of scripts. No condition. -/
import Derived.Test.YtbndlommbpkijaaDoorTokD
set_option linter.unusedVariables false
set_option linter.unusedSimpArgs false
namespace Go.Eng
open Go Go.Proofs Go.RowKit

abbrev xO (s : List UInt8) (i : Nat) (last kind : Int) : Obj := .cells #[vS s, .int .i64 (i : Nat), .int .i64 last, .int .i64 kind] 83 (0, 0)
abbrev xB (b : Nat) (s : List UInt8) (i : Nat) (last kind : Int) : Nat × Obj := (b, xO s i last kind)
set_option maxRecDepth 100000 in
theorem run_spec {of : List UInt8} {p : UInt8 → Bool} (hp : ∀ c, of.contains c = p c) (hof : of.length < 4294967281) (ha : of.all (fun b => decide (b.toNat < 128)) = true) (b : Nat) (s : List UInt8) (i : Nat) (last kind : Int) (w : World) (hi : i ≤ s.length) (hs : s.length ≤ 1000000000) (hM : Mem w [xB b s i last kind]) : Ret Tryd.prog 81 #[.pointer (some ⟨b, 0, none⟩), vS of] w (WrP b (vS ((s.drop i).take (runL p s i))) (xO s (i + runL p s i) last kind) w) := by
 have hti : ((i : Nat) : Int).toNat = i := Int.toNat_natCast i; have htl := trim_len hp s ((i : Nat) : Int).toNat; have hdl : (s.drop ((i : Nat) : Int).toNat).length = s.length - ((i : Nat) : Int).toNat := List.length_drop; have hrr : runL p s ((i : Nat) : Int).toNat = runL p s i := (by rw [hti])
 refine Ret.enterM (l := [.pointer (some ⟨b, 0, none⟩), vS of]) Tryd.func81 rfl Tryd.ntmps81 rfl ([xB b s i last kind]) ((fun x => x = b)) hM ?_
 refine wpM.seq ?_
 refine wpM.region ?_
 refine LM.val (ov_assign rfl) ?_
 refine LM.nil ?_
 refine QM.sub (e' := [(0, _), (1, _)]) ⟨rfl, rfl, trivial⟩ ?_
 refine QM.then ?_
 refine wpM.seq ?_
 refine wpM.draw [(0, 0), (1, 0), (2, 0), (3, 1), (4, 0), (5, 0), (6, 0), (7, 1), (8, 0), (9, 0)] (by kernel_rfl) (by kernel_rfl) ?_
 refine LD.val rfl rfl (ov_move rfl) ?_
 refine LD.val rfl rfl (ov_nilCheck rfl) ?_
 refine LD.val rfl rfl (ov_field Tryd.underlying83 rfl Tryd.sizeOf9 rfl (k := 0) rfl rfl) ?_
 first | refine LD.rd rfl rfl (om_ld Tryd.isAgg9 rfl rfl) ?_
 refine LD.val rfl rfl (ov_move rfl) ?_
 refine LD.val rfl rfl (ov_nilCheck rfl) ?_
 refine LD.val rfl rfl (ov_field Tryd.underlying83 rfl Tryd.sizeOf3 rfl (k := 1) rfl rfl) ?_
 first | refine LD.rd rfl rfl (om_ld Tryd.isAgg3 rfl rfl) ?_
 refine LD.val rfl rfl (ov_sslcLo Tryd.underlying9 rfl rfl (by omega) (by omega)) ?_
 refine LD.val rfl rfl (ov_assign rfl) ?_
 refine LD.nil ?_
 refine QM.sub (e' := [(0, _), (1, _), (5, _)]) ⟨rfl, rfl, rfl, trivial⟩ ?_
 refine QM.then ?_
 refine wpM.seq ?_
 refine wpM.region ?_
 refine LM.val (ov_move rfl) ?_
 refine LM.val (ov_slenL Tryd.underlying9 rfl) ?_
 refine LM.val (ov_move rfl) ?_
 refine LM.val (ov_move rfl) ?_
 refine LM.callE (oc_call (enters_fn Tryd.func116 (by kernel_rfl) rfl) rfl) (fun w hm hc hg => tleft_ret _ of hof ha w) ?_
 refine LM.val (ov_slenL Tryd.underlying9 rfl) ?_
 refine LM.val (ov_sub64 rfl rfl (by omega)) ?_
 refine LM.val (ov_assign rfl) ?_
 refine LM.nil ?_
 refine QM.sub (e' := [(0, _), (5, _), (6, _)]) ⟨rfl, rfl, rfl, trivial⟩ ?_
 refine QM.then ?_
 refine wpM.seq ?_
 refine wpM.region ?_
 refine LM.val (ov_move rfl) ?_
 refine LM.val (ov_nilCheck rfl) ?_
 refine LM.val (ov_field Tryd.underlying83 rfl Tryd.sizeOf3 rfl (k := 1) rfl rfl) ?_
 first | refine LM.rd (om_ld Tryd.isAgg3 rfl rfl) ?_
 refine LM.val (ov_move rfl) ?_
 refine LM.val (ov_add64 rfl rfl (by omega)) ?_
 refine LM.val (ov_nilCheck rfl) ?_
 refine LM.val (ov_field Tryd.underlying83 rfl Tryd.sizeOf3 rfl (k := 1) rfl rfl) ?_
 refine LM.st Tryd.sizeOf3 rfl rfl rfl (by first | decide | exact Nat.le_of_ble_eq_true rfl | (simp; done) | (simp; omega)) rfl (fun _ => rfl) ?_
 refine LM.nil ?_
 refine QM.sub (e' := [(5, _), (6, _)]) ⟨rfl, rfl, trivial⟩ ?_
 refine QM.then ?_
 refine wpM.seq ?_
 refine wpM.region ?_
 refine LM.val (ov_move rfl) ?_
 refine LM.val (ov_move rfl) ?_
 refine LM.val (ov_sslcHi Tryd.underlying9 rfl rfl (by omega) (by omega)) ?_
 refine LM.val (ov_assign rfl) ?_
 refine LM.nil ?_
 refine QM.sub (e' := [(4, _)]) ⟨rfl, trivial⟩ ?_
 refine QM.then ?_
 refine wpM.ret ?_
 refine QM.leave (.inl rfl) [.tmp 4] Tryd.results81 rfl ?_
 intro w' hm' hc' hg'
 have hAB : (((s.drop ((i : Nat) : Int).toNat).length : Nat) : Int) - (((Lib.trimLeftS (s.drop ((i : Nat) : Int).toNat) of).length : Nat) : Int) = ((runL p s i : Nat) : Int) := (by omega); have h3 := hm'.at b; rw [hAB] at h3; refine ⟨?_, hc', h3⟩; show vS ((s.drop ((i : Nat) : Int).toNat).take ((((s.drop ((i : Nat) : Int).toNat).length : Nat) : Int) - (((Lib.trimLeftS (s.drop ((i : Nat) : Int).toNat) of).length : Nat) : Int)).toNat) = _; rw [hAB, hti, Int.toNat_natCast]

set_option maxRecDepth 100000 in
theorem skip_spec (b : Nat) (s : List UInt8) (i : Nat) (last kind : Int) (w : World) (hi : i ≤ s.length) (hs : s.length ≤ 1000000000) (hM : Mem w [xB b s i last kind]) : Ret Tryd.prog 43 #[.pointer (some ⟨b, 0, none⟩)] w (WrP b (.tuple #[]) (xO s (skipO s i) last kind) w) := by
 refine Ret.enterM (l := [.pointer (some ⟨b, 0, none⟩)]) Tryd.func43 rfl Tryd.ntmps43 rfl ([xB b s i last kind]) ((fun x => x = b)) hM ?_
 refine wpM.seq ?_
 refine wpM.region ?_
 refine LM.val (ov_move rfl) ?_
 refine LM.cW (oc_call (enters_fn Tryd.func81 (by kernel_rfl) rfl) rfl) (fun w hm hc hg => run_spec blanks_blank (by decide) (by decide) b s i last kind w hi hs (hm.pick _)) rfl (fun _ => rfl) ?_
 refine LM.nil ?_
 refine QM.sub (e' := [(0, _)]) ⟨rfl, trivial⟩ ?_
 refine QM.then ?_
 refine wpM.block ?_
 refine wpM.loopK0 (α := Nat × Nat) (fun ⟨i1, j⟩ => []) [(0, _)] (fun ⟨i1, j⟩ => xB b s j last kind :: []) (fun ⟨i1, j⟩ => i1 ≤ s.length ∧ skipO s i1 = skipO s i ∧ j = i1 + runL blankB s i1) (fun ⟨i1, j⟩ => s.length - i1) ((i, i + runL blankB s i)) ⟨rfl, trivial⟩ (by (repeat' (first | exact SubM.nil _ | refine SubM.cons rfl ?_ | refine SubM.app ?_))) ⟨hi, rfl, rfl⟩ ?_
 rintro ⟨i1, j⟩ ⟨hi1, hsk, hj⟩
 change wpM _ _ _ _ _ _ _ (xB b s j last kind :: []) _ _ _
 have hrl := runL_le blankB s i1; have hrn := runL_le notNl s j; have hjt : ((j : Nat) : Int).toNat = j := Int.toNat_natCast j
 refine wpM.seq ?_
 refine wpM.seq ?_
 refine wpM.draw [(0, 0), (1, 0), (2, 0), (3, 1), (4, 0), (5, 0), (6, 0), (7, 1), (8, 0), (9, 2)] (by kernel_rfl) (by kernel_rfl) ?_
 refine LD.val rfl rfl (ov_move rfl) ?_
 refine LD.val rfl rfl (ov_nilCheck rfl) ?_
 refine LD.val rfl rfl (ov_field Tryd.underlying83 rfl Tryd.sizeOf9 rfl (k := 0) rfl rfl) ?_
 first | refine LD.rd rfl rfl (om_ld Tryd.isAgg9 rfl rfl) ?_
 refine LD.val rfl rfl (ov_move rfl) ?_
 refine LD.val rfl rfl (ov_nilCheck rfl) ?_
 refine LD.val rfl rfl (ov_field Tryd.underlying83 rfl Tryd.sizeOf3 rfl (k := 1) rfl rfl) ?_
 first | refine LD.rd rfl rfl (om_ld Tryd.isAgg3 rfl rfl) ?_
 refine LD.val rfl rfl (ov_sslcLo Tryd.underlying9 rfl rfl (by omega) (by omega)) ?_
 refine LD.callE rfl rfl (oc_call (enters_fn Tryd.func82 (by kernel_rfl) rfl) rfl) (fun w hm hc hg => pre_ret _ [35] w) ?_
 refine LD.nil ?_
 refine QM.sub (e' := [(0, _), (14, _)]) ⟨rfl, rfl, trivial⟩ ?_
 refine QM.then ?_
 first | refine wpM.condD rfl (fun h1 => ?_) (fun h1 => ?_) | refine wpM.condB rfl (fun h1 => ?_) (fun h1 => ?_)
 ·
  have hph : Lib.hasPrefix (s.drop ((j : Nat) : Int).toNat) [35] = (decide (j < s.length) && hashB (s.getD j 0)) := (by rw [hjt]; exact pre_hash); have hidx : Lib.indexByte (s.drop ((j : Nat) : Int).toNat) (Int.toNat 10).toUInt8 = if runL notNl s j = s.length - j then -1 else ((runL notNl s j : Nat) : Int) := (by rw [hjt]; have := idx_nl (s.drop j); rw [List.length_drop] at this; exact this); have hjl : j < s.length := (by have q := hph.symm.trans h1; simp only [Bool.and_eq_true, decide_eq_true_eq] at q; exact q.1); have hgo := hash_go hjl (by have q := hph.symm.trans h1; simp only [Bool.and_eq_true, decide_eq_true_eq] at q; exact q.2)
  refine wpM.skip ?_
  refine QM.then ?_
  refine wpM.seq ?_
  refine wpM.block ?_
  refine wpM.seq ?_
  refine wpM.draw [(0, 0), (1, 0), (2, 0), (3, 1), (4, 0), (5, 0), (6, 0), (7, 1), (8, 0), (9, 2), (10, 0)] (by kernel_rfl) (by kernel_rfl) ?_
  refine LD.val rfl rfl (ov_move rfl) ?_
  refine LD.val rfl rfl (ov_nilCheck rfl) ?_
  refine LD.val rfl rfl (ov_field Tryd.underlying83 rfl Tryd.sizeOf9 rfl (k := 0) rfl rfl) ?_
  first | refine LD.rd rfl rfl (om_ld Tryd.isAgg9 rfl rfl) ?_
  refine LD.val rfl rfl (ov_move rfl) ?_
  refine LD.val rfl rfl (ov_nilCheck rfl) ?_
  refine LD.val rfl rfl (ov_field Tryd.underlying83 rfl Tryd.sizeOf3 rfl (k := 1) rfl rfl) ?_
  first | refine LD.rd rfl rfl (om_ld Tryd.isAgg3 rfl rfl) ?_
  refine LD.val rfl rfl (ov_sslcLo Tryd.underlying9 rfl rfl (by omega) (by omega)) ?_
  refine LD.callE rfl rfl (oc_call (enters_fn Tryd.func55 (by kernel_rfl) rfl) rfl) (fun w hm hc hg => idx_ret _ 10 w) ?_
  refine LD.val rfl rfl (ov_assign rfl) ?_
  refine LD.nil ?_
  refine QM.sub (e' := [(0, _), (2, _)]) ⟨rfl, rfl, trivial⟩ ?_
  refine QM.then ?_
  refine wpM.seq ?_
  refine wpM.seq ?_
  refine wpM.region ?_
  refine LM.val (ov_move rfl) ?_
  refine LM.val (ov_lss rfl rfl) ?_
  refine LM.nil ?_
  refine QM.sub (e' := [(0, _), (2, _), (28, _)]) ⟨rfl, rfl, rfl, trivial⟩ ?_
  refine QM.then ?_
  refine wpM.joinK (α := Unit) (fun ⟨⟩ => [(2, .int .i64 (runL notNl s j : Nat))]) [(0, _)] (fun ⟨⟩ => xB b s j last kind :: []) (fun ⟨⟩ => True) ⟨rfl, trivial⟩ ?_ ?_
  ·
   first | refine wpM.condD rfl (fun h2 => ?_) (fun h2 => ?_) | refine wpM.condB rfl (fun h2 => ?_) (fun h2 => ?_)
   ·
    have hrv : runL notNl s j = s.length - j := (by have q := h2; rw [hidx] at q; split at q <;> omega)
    refine wpM.draw [(0, 0), (1, 0), (2, 0), (3, 1), (4, 0), (5, 0), (6, 0), (7, 0), (8, 1), (9, 0), (10, 0)] (by kernel_rfl) (by kernel_rfl) ?_
    refine LD.val rfl rfl (ov_move rfl) ?_
    refine LD.val rfl rfl (ov_nilCheck rfl) ?_
    refine LD.val rfl rfl (ov_field Tryd.underlying83 rfl Tryd.sizeOf9 rfl (k := 0) rfl rfl) ?_
    first | refine LD.rd rfl rfl (om_ld Tryd.isAgg9 rfl rfl) ?_
    refine LD.val rfl rfl (ov_slenL Tryd.underlying9 rfl) ?_
    refine LD.val rfl rfl (ov_move rfl) ?_
    refine LD.val rfl rfl (ov_nilCheck rfl) ?_
    refine LD.val rfl rfl (ov_field Tryd.underlying83 rfl Tryd.sizeOf3 rfl (k := 1) rfl rfl) ?_
    first | refine LD.rd rfl rfl (om_ld Tryd.isAgg3 rfl rfl) ?_
    refine LD.val rfl rfl (ov_sub64 rfl rfl (by omega)) ?_
    refine LD.val rfl rfl (ov_assign rfl) ?_
    refine LD.nil ?_
    refine QM.sub (e' := [(0, _), (2, _)]) ⟨rfl, rfl, trivial⟩ ?_
    refine QM.meetK (⟨⟩) ⟨(by first | rfl | exact lk rfl (by congr 1; omega) | exact lk rfl (by show Value.int .i64 (Lib.indexByte (s.drop ((j : Nat) : Int).toNat) (Int.toNat 10).toUInt8) = _; rw [hrv])), rfl, trivial⟩ (by (repeat' (first | exact SubM.nil _ | refine SubM.cons rfl ?_ | refine SubM.app ?_))) ?_
    · trivial
   ·
    have hrv : Lib.indexByte (s.drop ((j : Nat) : Int).toNat) (Int.toNat 10).toUInt8 = ((runL notNl s j : Nat) : Int) := (by have q := h2; rw [hidx] at q ⊢; split at q <;> split <;> omega)
    refine wpM.skip ?_
    refine QM.meetK (⟨⟩) ⟨(by first | rfl | exact lk rfl (by congr 1; omega) | exact lk rfl (by show Value.int .i64 (Lib.indexByte (s.drop ((j : Nat) : Int).toNat) (Int.toNat 10).toUInt8) = _; rw [hrv])), rfl, trivial⟩ (by (repeat' (first | exact SubM.nil _ | refine SubM.cons rfl ?_ | refine SubM.app ?_))) ?_
    · trivial
  ·
   rintro ⟨⟩ -
   change QM _ _ _ _ _ (xB b s j last kind :: []) _ _ _
   refine QM.then ?_
   refine wpM.region ?_
   refine LM.val (ov_move rfl) ?_
   refine LM.val (ov_nilCheck rfl) ?_
   refine LM.val (ov_field Tryd.underlying83 rfl Tryd.sizeOf3 rfl (k := 1) rfl rfl) ?_
   first | refine LM.rd (om_ld Tryd.isAgg3 rfl rfl) ?_
   refine LM.val (ov_move rfl) ?_
   refine LM.val (ov_add64 rfl rfl (by omega)) ?_
   refine LM.val (ov_nilCheck rfl) ?_
   refine LM.val (ov_field Tryd.underlying83 rfl Tryd.sizeOf3 rfl (k := 1) rfl rfl) ?_
   refine LM.st Tryd.sizeOf3 rfl rfl rfl (by first | decide | exact Nat.le_of_ble_eq_true rfl | (simp; done) | (simp; omega)) rfl (fun _ => rfl) ?_
   refine LM.nil ?_
   refine QM.sub (e' := [(0, _)]) ⟨rfl, trivial⟩ ?_
   refine QM.block_normal ?_
   refine QM.then ?_
   refine wpM.region ?_
   change LM _ _ _ _ _ _ _ _ (xB b s (j + runL notNl s j) last kind :: []) _ _ _
   refine LM.val (ov_move rfl) ?_
   refine LM.cW (oc_call (enters_fn Tryd.func81 (by kernel_rfl) rfl) rfl) (fun w hm hc hg => run_spec blanks_blank (by decide) (by decide) b s (j + runL notNl s j) last kind w (by omega) hs (hm.pick _)) rfl (fun _ => rfl) ?_
   refine LM.nil ?_
   refine QM.sub (e' := [(0, _)]) ⟨rfl, trivial⟩ ?_
   refine QM.againK ((j + runL notNl s j, j + runL notNl s j + runL blankB s (j + runL notNl s j))) ⟨rfl, trivial⟩ (by (repeat' (first | exact SubM.nil _ | refine SubM.cons rfl ?_ | refine SubM.app ?_))) (fun _ h => h) ?_ ?_
   · exact ⟨by omega, by rw [← hsk, skip_go (i := i1) (by rw [← hj]; exact hph.symm.trans h1), ← hj], rfl⟩
   · first | omega | (dsimp only; omega)
 ·
  refine wpM.exit ?_
  refine QM.then_exit ?_
  refine QM.then_exit ?_
  refine QM.block_hit ?_
  refine QM.leave (.inr rfl) [] Tryd.results43 rfl ?_
  intro w' hm' hc' hg'
  have hph : Lib.hasPrefix (s.drop ((j : Nat) : Int).toNat) [35] = (decide (j < s.length) && hashB (s.getD j 0)) := (by rw [hjt]; exact pre_hash); refine ⟨rfl, hc', ?_⟩; rw [← hsk, skip_stop (i := i1) (by rw [← hj]; exact hph.symm.trans h1), ← hj]; exact hm'.at b

end Go.Eng

