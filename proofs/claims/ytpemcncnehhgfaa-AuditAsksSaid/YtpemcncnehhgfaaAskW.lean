/- The walks of an audit's first two laws. No condition. -/
import Derived.Test.YtpemcncnehhgfaaAskIt
import Derived.Test.YtpemcncnehhgfaaAudOpen
set_option linter.unusedVariables false
set_option linter.unusedSimpArgs false
namespace Go.Eng
open Go Go.Proofs Go.RowKit

def evs28 : List Ev := [⟨2#64, 4, 1, 0, 0⟩, ⟨3#64, 6, 2, 0, 0⟩, ⟨5#64, 5, 1, 0, 0⟩, ⟨5#64, 4, 2, 0, 0⟩]
def hol28 : List St := [⟨1, 0, 2#64, 5#64, 1, false⟩, ⟨2, 0, 5#64, 0#64, 0, false⟩]
def wai28 : List St := [⟨2, 0, 3#64, 5#64, 1, false⟩]
theorem hol28_eq : eachT holdEnd 4 evs28 = hol28 := by decide
theorem wai28_eq : eachT waitEnd 6 evs28 = wai28 := by decide
theorem beside_at {l : List St} {o : Option (Nat × Nat)} (ho : bOf l = o) {ad : Option Addr} {n cap : Nat} (w : World) (hn : n = l.length) (hl : Sr fT 6 l (.slice ad n cap) w) (hx2 : l.length ≤ 1000000000000) : Ret Try.prog 42 #[.slice ad n cap] w (fun v w' => v = besV o ∧ Ext w w') := ho ▸ beside_spec w hn hl hx2
def lonV (o : Option (Nat × BitVec 64)) : Value := match o with | some p => .tuple #[.int .i64 (p.1 : Nat), .bool true] | none => .tuple #[.int .i64 0, .bool false]
theorem longest_at {l : List St} {o : Option (Nat × BitVec 64)} (ho : lonF l l.length = o) {ad : Option Addr} {n cap : Nat} (w : World) (hn : n = l.length) (hl : Sr fT 6 l (.slice ad n cap) w) (hx2 : l.length ≤ 1000000000000) : Ret Try.prog 44 #[.slice ad n cap] w (fun v w' => v = lonV o ∧ Ext w w') := ho ▸ longest_spec w hn hl hx2
theorem fT_len (a : St) : (fT a).length = 6 := rfl
set_option maxRecDepth 100000 in
set_option maxHeartbeats 1000000 in
theorem awake28 (w : World) : Ret Try.prog 37 #[] w (fun v w' => v = .bool true ∧ Ext w w') := by
  refine Ret.enterM (l := []) Try.func37 rfl Try.ntmps37 rfl ([]) (no) (Mem.nil w) ?_
  refine wpM.seq ?_
  refine wpM.region ?_
  refine LM.val (ov_assign rfl) ?_
  refine LM.nil ?_
  refine QM.sub (e' := []) trivial ?_
  refine QM.then ?_
  refine wpM.seq ?_
  refine wpM.region ?_
  refine LM.val (ov_build (cs := #[_, _, _, _, _]) rfl (by first | rfl | kernel_rfl)) ?_
  refine LM.val (ov_build (cs := #[_, _, _, _, _]) rfl (by first | rfl | kernel_rfl)) ?_
  refine LM.val (ov_build (cs := #[_, _, _, _, _]) rfl (by first | rfl | kernel_rfl)) ?_
  refine LM.val (ov_build (cs := #[_, _, _, _, _]) rfl (by first | rfl | kernel_rfl)) ?_
  refine LM.row (vs := [_, _, _, _]) Try.underlying59 Try.sizeOf97 Try.zeroValue97 rfl rfl rfl rfl rfl rfl (fun b13 hb13 => ?_)
  refine LM.val (ov_assign rfl) ?_
  refine LM.nil ?_
  refine QM.sub (e' := [(1, _)]) ⟨rfl, trivial⟩ ?_
  refine QM.then ?_
  refine wpM.seq ?_
  refine wpM.region ?_
  refine LM.val (ov_move rfl) ?_
  refine LM.cS (oc_call (enters_fn Try.func41 (by kernel_rfl) rfl) rfl) (fun w hm hc hg => hol28_eq ▸ Holds_spec (evs := evs28) w rfl (Sr.row (hm.at b13) rfl rfl (by decide) (fun _ => rfl)) (by decide)) (fun ad15 n15 cap15 m15 hn15 hs15 => ?_)
  have hn15 : n15 = 2 := hn15
  refine LM.val (ov_move rfl) ?_
  refine LM.cS (oc_call (enters_fn Try.func39 (by kernel_rfl) rfl) rfl) (fun w hm hc hg => wai28_eq ▸ Waits_spec (evs := evs28) w rfl (Sr.row (hm.at b13) rfl rfl (by decide) (fun _ => rfl)) (by decide)) (fun ad17 n17 cap17 m17 hn17 hs17 => ?_)
  have hn17 : n17 = 1 := hn17
  refine LM.val (ov_assign rfl) ?_
  refine LM.val (ov_assign rfl) ?_
  refine LM.nil ?_
  refine QM.sub (e' := [(2, _), (3, _)]) ⟨rfl, rfl, trivial⟩ ?_
  refine QM.then ?_
  refine wpM.seq ?_
  refine wpM.region ?_
  refine LM.val (ov_move rfl) ?_
  refine LM.callE (oc_call (enters_fn Try.func42 (by kernel_rfl) rfl) rfl) (fun w hm hc hg => beside_at (l := hol28) (o := none) (by decide) w hn15 (hs15.srM fT_len hm) (by decide)) ?_
  refine LM.val (ov_move rfl) ?_
  refine LM.val (ov_extract rfl rfl) ?_
  refine LM.val (ov_extract rfl rfl) ?_
  refine LM.val (ov_extract rfl rfl) ?_
  refine LM.val (ov_assign rfl) ?_
  refine LM.val (ov_assign rfl) ?_
  refine LM.val (ov_assign rfl) ?_
  refine LM.nil ?_
  refine QM.sub (e' := [(2, _), (3, _), (6, _)]) ⟨rfl, rfl, rfl, trivial⟩ ?_
  refine QM.then ?_
  refine wpM.seq ?_
  refine wpM.region ?_
  refine LM.val (ov_move rfl) ?_
  refine LM.callE (oc_call (enters_fn Try.func44 (by kernel_rfl) rfl) rfl) (fun w hm hc hg => longest_at (l := hol28) (o := some (0, 3#64)) (by decide) w hn15 (hs15.srM fT_len hm) (by decide)) ?_
  refine LM.val (ov_move rfl) ?_
  refine LM.val (ov_extract rfl rfl) ?_
  refine LM.val (ov_extract rfl rfl) ?_
  refine LM.val (ov_assign rfl) ?_
  refine LM.val (ov_assign rfl) ?_
  refine LM.nil ?_
  refine QM.sub (e' := [(2, _), (3, _), (6, _), (7, _), (8, _)]) ⟨rfl, rfl, rfl, rfl, rfl, trivial⟩ ?_
  refine QM.then ?_
  refine wpM.seq ?_
  refine wpM.region ?_
  refine LM.val (ov_move rfl) ?_
  refine LM.val (ov_len Try.underlying61 rfl) ?_
  refine LM.val (ov_eql rfl rfl) ?_
  refine LM.val (ov_move rfl) ?_
  first | refine LM.splitD (t := 32) rfl (fun h1 => ?_) (fun h1 => ?_) | refine LM.splitB (t := 32) rfl (fun h1 => ?_) (fun h1 => ?_)
  ·
    refine LM.strip (t := 32) rfl rfl rfl ?_
    refine LM.val (ov_move rfl) ?_
    refine LM.strip (t := 32) rfl rfl rfl ?_
    first | refine LM.val (ov_idxSN (i := 0) (by first | exact Sr.spt (by assumption) | exact Sl.spt (by assumption)) Try.underlying61 Try.sizeOf72 rfl rfl (by omega)) ?_ | refine LM.val (ov_idxSN (by first | exact Sr.spt (by assumption) | exact Sl.spt (by assumption)) Try.underlying61 Try.sizeOf72 rfl rfl (by omega)) ?_ | refine LM.val (ov_idxS (by first | exact Sr.spt (by assumption) | exact Sl.spt (by assumption)) Try.underlying61 Try.sizeOf72 rfl rfl (by omega)) ?_ | refine LM.val (ov_idx Try.underlying61 Try.sizeOf72 rfl rfl (by omega)) ?_
    refine LM.strip (t := 32) rfl rfl rfl ?_
    refine LM.rd (om_slA hs15 (by intro _; rfl) Try.isAgg72 Try.sizeOf72 rfl (show hol28[0]? = some ⟨1, 0, 2#64, 5#64, 1, false⟩ from rfl)) ?_
    refine LM.strip (t := 32) rfl rfl rfl ?_
    refine LM.val (ov_build (cs := #[_, _, _, _, _, _]) rfl (by first | rfl | kernel_rfl)) ?_
    refine LM.strip (t := 32) rfl rfl rfl ?_
    refine LM.val (ov_aeql Try.underlying72 (by kernel_rfl) (by kernel_rfl) (by decide) rfl rfl (by rfl) ⟨(by first | rfl | trivial), (by first | rfl | trivial), (by first | rfl | trivial), (by first | rfl | trivial), (by first | rfl | trivial), (by first | rfl | trivial), trivial⟩) ?_
    refine LM.val (ov_pickT rfl rfl) ?_
    refine LM.val (ov_move rfl) ?_
    first | refine LM.splitD (t := 39) rfl (fun h2 => ?_) (fun h2 => ?_) | refine LM.splitB (t := 39) rfl (fun h2 => ?_) (fun h2 => ?_)
    ·
      refine LM.strip (t := 39) rfl rfl rfl ?_
      refine LM.val (ov_move rfl) ?_
      refine LM.strip (t := 39) rfl rfl rfl ?_
      first | refine LM.val (ov_idxSN (i := 1) (by first | exact Sr.spt (by assumption) | exact Sl.spt (by assumption)) Try.underlying61 Try.sizeOf72 rfl rfl (by omega)) ?_ | refine LM.val (ov_idxSN (by first | exact Sr.spt (by assumption) | exact Sl.spt (by assumption)) Try.underlying61 Try.sizeOf72 rfl rfl (by omega)) ?_ | refine LM.val (ov_idxS (by first | exact Sr.spt (by assumption) | exact Sl.spt (by assumption)) Try.underlying61 Try.sizeOf72 rfl rfl (by omega)) ?_ | refine LM.val (ov_idx Try.underlying61 Try.sizeOf72 rfl rfl (by omega)) ?_
      refine LM.strip (t := 39) rfl rfl rfl ?_
      refine LM.val (ov_field Try.underlying72 rfl Try.sizeOf3 rfl (k := 4) rfl rfl) ?_
      refine LM.strip (t := 39) rfl rfl rfl ?_
      refine LM.rd (om_slE (j := 4) hs15 (by intro _; rfl) Try.isAgg3 rfl rfl (show hol28[1]? = some ⟨2, 0, 5#64, 0#64, 0, false⟩ from rfl) rfl rfl) ?_
      refine LM.strip (t := 39) rfl rfl rfl ?_
      refine LM.val (ov_eql rfl rfl) ?_
      refine LM.val (ov_pickT rfl rfl) ?_
      refine LM.val (ov_move rfl) ?_
      first | refine LM.splitD (t := 46) rfl (fun h3 => ?_) (fun h3 => ?_) | refine LM.splitB (t := 46) rfl (fun h3 => ?_) (fun h3 => ?_)
      ·
        refine LM.strip (t := 46) rfl rfl rfl ?_
        refine LM.val (ov_move rfl) ?_
        refine LM.strip (t := 46) rfl rfl rfl ?_
        refine LM.val (ov_len Try.underlying61 rfl) ?_
        refine LM.strip (t := 46) rfl rfl rfl ?_
        refine LM.val (ov_eql rfl rfl) ?_
        refine LM.val (ov_pickT rfl rfl) ?_
        refine LM.val (ov_move rfl) ?_
        first | refine LM.splitD (t := 51) rfl (fun h4 => ?_) (fun h4 => ?_) | refine LM.splitB (t := 51) rfl (fun h4 => ?_) (fun h4 => ?_)
        ·
          refine LM.strip (t := 51) rfl rfl rfl ?_
          refine LM.val (ov_move rfl) ?_
          refine LM.strip (t := 51) rfl rfl rfl ?_
          first | refine LM.val (ov_idxSN (i := 0) (by first | exact Sr.spt (by assumption) | exact Sl.spt (by assumption)) Try.underlying61 Try.sizeOf72 rfl rfl (by omega)) ?_ | refine LM.val (ov_idxSN (by first | exact Sr.spt (by assumption) | exact Sl.spt (by assumption)) Try.underlying61 Try.sizeOf72 rfl rfl (by omega)) ?_ | refine LM.val (ov_idxS (by first | exact Sr.spt (by assumption) | exact Sl.spt (by assumption)) Try.underlying61 Try.sizeOf72 rfl rfl (by omega)) ?_ | refine LM.val (ov_idx Try.underlying61 Try.sizeOf72 rfl rfl (by omega)) ?_
          refine LM.strip (t := 51) rfl rfl rfl ?_
          refine LM.rd (om_slA hs17 (by intro _; rfl) Try.isAgg72 Try.sizeOf72 rfl (show wai28[0]? = some ⟨2, 0, 3#64, 5#64, 1, false⟩ from rfl)) ?_
          refine LM.strip (t := 51) rfl rfl rfl ?_
          refine LM.val (ov_build (cs := #[_, _, _, _, _, _]) rfl (by first | rfl | kernel_rfl)) ?_
          refine LM.strip (t := 51) rfl rfl rfl ?_
          refine LM.val (ov_aeql Try.underlying72 (by kernel_rfl) (by kernel_rfl) (by decide) rfl rfl (by rfl) ⟨(by first | rfl | trivial), (by first | rfl | trivial), (by first | rfl | trivial), (by first | rfl | trivial), (by first | rfl | trivial), (by first | rfl | trivial), trivial⟩) ?_
          refine LM.val (ov_pickT rfl rfl) ?_
          refine LM.val (ov_move rfl) ?_
          first | refine LM.splitD (t := 58) rfl (fun h5 => ?_) (fun h5 => ?_) | refine LM.splitB (t := 58) rfl (fun h5 => ?_) (fun h5 => ?_)
          ·
            refine LM.strip (t := 58) rfl rfl rfl ?_
            refine LM.val (ov_move rfl) ?_
            refine LM.strip (t := 58) rfl rfl rfl ?_
            first | refine LM.val (ov_notD rfl) ?_ | refine LM.val (ov_not rfl) ?_
            refine LM.val (ov_pickT rfl rfl) ?_
            refine LM.val (ov_move rfl) ?_
            first | refine LM.splitD (t := 62) rfl (fun h6 => ?_) (fun h6 => ?_) | refine LM.splitB (t := 62) rfl (fun h6 => ?_) (fun h6 => ?_)
            ·
              refine LM.strip (t := 62) rfl rfl rfl ?_
              refine LM.val (ov_move rfl) ?_
              refine LM.strip (t := 62) rfl rfl rfl ?_
              refine LM.val (ov_eql rfl rfl) ?_
              refine LM.val (ov_pickT rfl rfl) ?_
              refine LM.val (ov_move rfl) ?_
              first | refine LM.splitD (t := 66) rfl (fun h7 => ?_) (fun h7 => ?_) | refine LM.splitB (t := 66) rfl (fun h7 => ?_) (fun h7 => ?_)
              ·
                refine LM.strip (t := 66) rfl rfl rfl ?_
                refine LM.val (ov_move rfl) ?_
                refine LM.val (ov_pickT rfl rfl) ?_
                refine LM.val (ov_assign rfl) ?_
                refine LM.nil ?_
                refine QM.sub (e' := [(0, _)]) ⟨rfl, trivial⟩ ?_
                refine QM.then ?_
                refine wpM.ret ?_
                refine QM.leave (.inl rfl) [.tmp 0] Try.results37 rfl ?_
                intro w' hm' hc' hg'
                -- leaf 1: h1+ h2+ h3+ h4+ h5+ h6+ h7+
                first | exact ⟨rfl, hc'⟩ | (exfalso; first | omega | contradiction | (revert h2; decide) | (revert h4; decide) | (revert h5; decide) | (simp at *; done))
              ·
                refine LM.drop (t := 66) rfl rfl rfl ?_
                refine LM.val (ov_pickF rfl rfl) ?_
                refine LM.val (ov_assign rfl) ?_
                refine LM.nil ?_
                refine QM.sub (e' := [(0, _)]) ⟨rfl, trivial⟩ ?_
                refine QM.then ?_
                refine wpM.ret ?_
                refine QM.leave (.inl rfl) [.tmp 0] Try.results37 rfl ?_
                intro w' hm' hc' hg'
                -- leaf 2: h1+ h2+ h3+ h4+ h5+ h6+ h7-
                first | exact ⟨rfl, hc'⟩ | (exfalso; first | omega | contradiction | (revert h2; decide) | (revert h4; decide) | (revert h5; decide) | (simp at *; done))
            ·
              refine LM.drop (t := 62) rfl rfl rfl ?_
              refine LM.drop (t := 62) rfl rfl rfl ?_
              refine LM.val (ov_pickF rfl rfl) ?_
              refine LM.val (ov_move rfl) ?_
              refine LM.drop (t := 66) rfl rfl rfl ?_
              refine LM.val (ov_pickF rfl rfl) ?_
              refine LM.val (ov_assign rfl) ?_
              refine LM.nil ?_
              refine QM.sub (e' := [(0, _)]) ⟨rfl, trivial⟩ ?_
              refine QM.then ?_
              refine wpM.ret ?_
              refine QM.leave (.inl rfl) [.tmp 0] Try.results37 rfl ?_
              intro w' hm' hc' hg'
              -- leaf 3: h1+ h2+ h3+ h4+ h5+ h6-
              first | exact ⟨rfl, hc'⟩ | (exfalso; first | omega | contradiction | (revert h2; decide) | (revert h4; decide) | (revert h5; decide) | (simp at *; done))
          ·
            refine LM.drop (t := 58) rfl rfl rfl ?_
            refine LM.drop (t := 58) rfl rfl rfl ?_
            refine LM.val (ov_pickF rfl rfl) ?_
            refine LM.val (ov_move rfl) ?_
            refine LM.drop (t := 62) rfl rfl rfl ?_
            refine LM.drop (t := 62) rfl rfl rfl ?_
            refine LM.val (ov_pickF rfl rfl) ?_
            refine LM.val (ov_move rfl) ?_
            refine LM.drop (t := 66) rfl rfl rfl ?_
            refine LM.val (ov_pickF rfl rfl) ?_
            refine LM.val (ov_assign rfl) ?_
            refine LM.nil ?_
            refine QM.sub (e' := [(0, _)]) ⟨rfl, trivial⟩ ?_
            refine QM.then ?_
            refine wpM.ret ?_
            refine QM.leave (.inl rfl) [.tmp 0] Try.results37 rfl ?_
            intro w' hm' hc' hg'
            -- leaf 4: h1+ h2+ h3+ h4+ h5-
            first | exact ⟨rfl, hc'⟩ | (exfalso; first | omega | contradiction | (revert h2; decide) | (revert h4; decide) | (revert h5; decide) | (simp at *; done))
        ·
          refine LM.drop (t := 51) rfl rfl rfl ?_
          refine LM.drop (t := 51) rfl rfl rfl ?_
          refine LM.drop (t := 51) rfl rfl rfl ?_
          refine LM.drop (t := 51) rfl rfl rfl ?_
          refine LM.drop (t := 51) rfl rfl rfl ?_
          refine LM.val (ov_pickF rfl rfl) ?_
          refine LM.val (ov_move rfl) ?_
          refine LM.drop (t := 58) rfl rfl rfl ?_
          refine LM.drop (t := 58) rfl rfl rfl ?_
          refine LM.val (ov_pickF rfl rfl) ?_
          refine LM.val (ov_move rfl) ?_
          refine LM.drop (t := 62) rfl rfl rfl ?_
          refine LM.drop (t := 62) rfl rfl rfl ?_
          refine LM.val (ov_pickF rfl rfl) ?_
          refine LM.val (ov_move rfl) ?_
          refine LM.drop (t := 66) rfl rfl rfl ?_
          refine LM.val (ov_pickF rfl rfl) ?_
          refine LM.val (ov_assign rfl) ?_
          refine LM.nil ?_
          refine QM.sub (e' := [(0, _)]) ⟨rfl, trivial⟩ ?_
          refine QM.then ?_
          refine wpM.ret ?_
          refine QM.leave (.inl rfl) [.tmp 0] Try.results37 rfl ?_
          intro w' hm' hc' hg'
          -- leaf 5: h1+ h2+ h3+ h4-
          first | exact ⟨rfl, hc'⟩ | (exfalso; first | omega | contradiction | (revert h2; decide) | (revert h4; decide) | (revert h5; decide) | (simp at *; done))
      ·
        refine LM.drop (t := 46) rfl rfl rfl ?_
        refine LM.drop (t := 46) rfl rfl rfl ?_
        refine LM.drop (t := 46) rfl rfl rfl ?_
        refine LM.val (ov_pickF rfl rfl) ?_
        refine LM.val (ov_move rfl) ?_
        refine LM.drop (t := 51) rfl rfl rfl ?_
        refine LM.drop (t := 51) rfl rfl rfl ?_
        refine LM.drop (t := 51) rfl rfl rfl ?_
        refine LM.drop (t := 51) rfl rfl rfl ?_
        refine LM.drop (t := 51) rfl rfl rfl ?_
        refine LM.val (ov_pickF rfl rfl) ?_
        refine LM.val (ov_move rfl) ?_
        refine LM.drop (t := 58) rfl rfl rfl ?_
        refine LM.drop (t := 58) rfl rfl rfl ?_
        refine LM.val (ov_pickF rfl rfl) ?_
        refine LM.val (ov_move rfl) ?_
        refine LM.drop (t := 62) rfl rfl rfl ?_
        refine LM.drop (t := 62) rfl rfl rfl ?_
        refine LM.val (ov_pickF rfl rfl) ?_
        refine LM.val (ov_move rfl) ?_
        refine LM.drop (t := 66) rfl rfl rfl ?_
        refine LM.val (ov_pickF rfl rfl) ?_
        refine LM.val (ov_assign rfl) ?_
        refine LM.nil ?_
        refine QM.sub (e' := [(0, _)]) ⟨rfl, trivial⟩ ?_
        refine QM.then ?_
        refine wpM.ret ?_
        refine QM.leave (.inl rfl) [.tmp 0] Try.results37 rfl ?_
        intro w' hm' hc' hg'
        -- leaf 6: h1+ h2+ h3-
        first | exact ⟨rfl, hc'⟩ | (exfalso; first | omega | contradiction | (revert h2; decide) | (revert h4; decide) | (revert h5; decide) | (simp at *; done))
    ·
      refine LM.drop (t := 39) rfl rfl rfl ?_
      refine LM.drop (t := 39) rfl rfl rfl ?_
      refine LM.drop (t := 39) rfl rfl rfl ?_
      refine LM.drop (t := 39) rfl rfl rfl ?_
      refine LM.drop (t := 39) rfl rfl rfl ?_
      refine LM.val (ov_pickF rfl rfl) ?_
      refine LM.val (ov_move rfl) ?_
      refine LM.drop (t := 46) rfl rfl rfl ?_
      refine LM.drop (t := 46) rfl rfl rfl ?_
      refine LM.drop (t := 46) rfl rfl rfl ?_
      refine LM.val (ov_pickF rfl rfl) ?_
      refine LM.val (ov_move rfl) ?_
      refine LM.drop (t := 51) rfl rfl rfl ?_
      refine LM.drop (t := 51) rfl rfl rfl ?_
      refine LM.drop (t := 51) rfl rfl rfl ?_
      refine LM.drop (t := 51) rfl rfl rfl ?_
      refine LM.drop (t := 51) rfl rfl rfl ?_
      refine LM.val (ov_pickF rfl rfl) ?_
      refine LM.val (ov_move rfl) ?_
      refine LM.drop (t := 58) rfl rfl rfl ?_
      refine LM.drop (t := 58) rfl rfl rfl ?_
      refine LM.val (ov_pickF rfl rfl) ?_
      refine LM.val (ov_move rfl) ?_
      refine LM.drop (t := 62) rfl rfl rfl ?_
      refine LM.drop (t := 62) rfl rfl rfl ?_
      refine LM.val (ov_pickF rfl rfl) ?_
      refine LM.val (ov_move rfl) ?_
      refine LM.drop (t := 66) rfl rfl rfl ?_
      refine LM.val (ov_pickF rfl rfl) ?_
      refine LM.val (ov_assign rfl) ?_
      refine LM.nil ?_
      refine QM.sub (e' := [(0, _)]) ⟨rfl, trivial⟩ ?_
      refine QM.then ?_
      refine wpM.ret ?_
      refine QM.leave (.inl rfl) [.tmp 0] Try.results37 rfl ?_
      intro w' hm' hc' hg'
      -- leaf 7: h1+ h2-
      first | exact ⟨rfl, hc'⟩ | (exfalso; first | omega | contradiction | (revert h2; decide) | (revert h4; decide) | (revert h5; decide) | (simp at *; done))
  ·
    refine LM.drop (t := 32) rfl rfl rfl ?_
    refine LM.drop (t := 32) rfl rfl rfl ?_
    refine LM.drop (t := 32) rfl rfl rfl ?_
    refine LM.drop (t := 32) rfl rfl rfl ?_
    refine LM.drop (t := 32) rfl rfl rfl ?_
    refine LM.val (ov_pickF rfl rfl) ?_
    refine LM.val (ov_move rfl) ?_
    refine LM.drop (t := 39) rfl rfl rfl ?_
    refine LM.drop (t := 39) rfl rfl rfl ?_
    refine LM.drop (t := 39) rfl rfl rfl ?_
    refine LM.drop (t := 39) rfl rfl rfl ?_
    refine LM.drop (t := 39) rfl rfl rfl ?_
    refine LM.val (ov_pickF rfl rfl) ?_
    refine LM.val (ov_move rfl) ?_
    refine LM.drop (t := 46) rfl rfl rfl ?_
    refine LM.drop (t := 46) rfl rfl rfl ?_
    refine LM.drop (t := 46) rfl rfl rfl ?_
    refine LM.val (ov_pickF rfl rfl) ?_
    refine LM.val (ov_move rfl) ?_
    refine LM.drop (t := 51) rfl rfl rfl ?_
    refine LM.drop (t := 51) rfl rfl rfl ?_
    refine LM.drop (t := 51) rfl rfl rfl ?_
    refine LM.drop (t := 51) rfl rfl rfl ?_
    refine LM.drop (t := 51) rfl rfl rfl ?_
    refine LM.val (ov_pickF rfl rfl) ?_
    refine LM.val (ov_move rfl) ?_
    refine LM.drop (t := 58) rfl rfl rfl ?_
    refine LM.drop (t := 58) rfl rfl rfl ?_
    refine LM.val (ov_pickF rfl rfl) ?_
    refine LM.val (ov_move rfl) ?_
    refine LM.drop (t := 62) rfl rfl rfl ?_
    refine LM.drop (t := 62) rfl rfl rfl ?_
    refine LM.val (ov_pickF rfl rfl) ?_
    refine LM.val (ov_move rfl) ?_
    refine LM.drop (t := 66) rfl rfl rfl ?_
    refine LM.val (ov_pickF rfl rfl) ?_
    refine LM.val (ov_assign rfl) ?_
    refine LM.nil ?_
    refine QM.sub (e' := [(0, _)]) ⟨rfl, trivial⟩ ?_
    refine QM.then ?_
    refine wpM.ret ?_
    refine QM.leave (.inl rfl) [.tmp 0] Try.results37 rfl ?_
    intro w' hm' hc' hg'
    -- leaf 8: h1-
    first | exact ⟨rfl, hc'⟩ | (exfalso; first | omega | contradiction | (revert h2; decide) | (revert h4; decide) | (revert h5; decide) | (simp at *; done))

set_option maxRecDepth 100000 in
theorem auditStays {l : List Ev} {ad : Option Addr} {n cap : Nat} (w : World) (hn : n = l.length) (hl : Sr fE 5 l (.slice ad n cap) w) : Ret Try.prog 9 #[.slice ad n cap] w (fun v w' => v = .bool true ∧ Ext w w') := by
  refine Ret.enterM (l := [.slice ad n cap]) Try.func9 rfl Try.ntmps9 rfl ([]) (no) (Mem.nil w) ?_
  refine wpM.seq ?_
  refine wpM.region ?_
  refine LM.val (ov_assign rfl) ?_
  refine LM.nil ?_
  refine QM.sub (e' := [(0, _)]) ⟨rfl, trivial⟩ ?_
  refine QM.then ?_
  refine wpM.seq ?_
  refine wpM.seq ?_
  refine wpM.region ?_
  refine LM.callE (oc_call (enters_fn Try.func37 (by kernel_rfl) rfl) rfl) (fun w hm hc hg => awake28 w) ?_
  first | refine LM.val (ov_notD rfl) ?_ | refine LM.val (ov_not rfl) ?_
  refine LM.nil ?_
  refine QM.sub (e' := [(0, _), (4, _)]) ⟨rfl, rfl, trivial⟩ ?_
  refine QM.then ?_
  first | refine wpM.condD rfl (fun h1 => ?_) (fun h1 => ?_) | refine wpM.condB rfl (fun h1 => ?_) (fun h1 => ?_)
  ·
    refine wpM.seq ?_
    refine wpM.region ?_
    refine LM.val (ov_assign rfl) ?_
    refine LM.nil ?_
    refine QM.sub (e' := [(2, _)]) ⟨rfl, trivial⟩ ?_
    refine QM.then ?_
    refine wpM.ret ?_
    refine QM.then_ret ?_
    refine QM.leave (.inl rfl) [.tmp 2] Try.results9 rfl ?_
    intro w' hm' hc' hg'
    -- leaf 1: h1+
    first | exact ⟨rfl, hc'⟩ | (refine ⟨?_, hc'⟩; simp only [resV, decide_true]; done) | (exfalso; first | omega | contradiction | (simp at *; done))
  ·
    refine wpM.skip ?_
    refine QM.then ?_
    refine wpM.seq ?_
    refine wpM.seq ?_
    refine wpM.region ?_
    refine LM.val (ov_move rfl) ?_
    refine LM.val (ov_len Try.underlying59 rfl) ?_
    refine LM.val (ov_gtr rfl rfl) ?_
    refine LM.nil ?_
    refine QM.sub (e' := [(0, _), (7, _)]) ⟨rfl, rfl, trivial⟩ ?_
    refine QM.then ?_
    first | refine wpM.condD rfl (fun h2 => ?_) (fun h2 => ?_) | refine wpM.condB rfl (fun h2 => ?_) (fun h2 => ?_)
    ·
      refine wpM.seq ?_
      refine wpM.region ?_
      refine LM.val (ov_assign rfl) ?_
      refine LM.nil ?_
      refine QM.sub (e' := [(2, _)]) ⟨rfl, trivial⟩ ?_
      refine QM.then ?_
      refine wpM.ret ?_
      refine QM.then_ret ?_
      refine QM.leave (.inl rfl) [.tmp 2] Try.results9 rfl ?_
      intro w' hm' hc' hg'
      -- leaf 2: h1- h2+
      first | exact ⟨rfl, hc'⟩ | (refine ⟨?_, hc'⟩; simp only [resV, decide_true]; done) | (exfalso; first | omega | contradiction | (simp at *; done))
    ·
      refine wpM.skip ?_
      refine QM.then ?_
      refine wpM.seq ?_
      refine wpM.region ?_
      refine LM.val (ov_move rfl) ?_
      refine LM.cS (oc_call (enters_fn Try.func39 (by kernel_rfl) rfl) rfl) (fun w hm hc hg => Waits_spec w hn (hl.ext hc) (by omega)) (fun ad9 n9 cap9 m9 hn9 hs9 => ?_)
      refine LM.val (ov_move rfl) ?_
      refine LM.cS (oc_call (enters_fn Try.func40 (by kernel_rfl) rfl) rfl) (fun w hm hc hg => rstays_waitEnd w hn (hl.ext hc) (by omega)) (fun ad11 n11 cap11 m11 hn11 hs11 => ?_)
      refine LM.callE (oc_call (enters_fn Try.func38 (by kernel_rfl) rfl) rfl) (fun w hm hc hg => same28_spec w hn9 hn11 (hs9.srM fT_len hm) (hs11.srM fT_len hm) (by have := eachT_len waitEnd 6 l; omega)) ?_
      refine LM.val (ov_move rfl) ?_
      first | refine LM.splitD (t := 13) rfl (fun h3 => ?_) (fun h3 => ?_) | refine LM.splitB (t := 13) rfl (fun h3 => ?_) (fun h3 => ?_)
      ·
        refine LM.strip (t := 13) rfl rfl rfl ?_
        refine LM.val (ov_move rfl) ?_
        refine LM.strip (t := 13) rfl rfl rfl ?_
        refine LM.cS (oc_call (enters_fn Try.func41 (by kernel_rfl) rfl) rfl) (fun w hm hc hg => Holds_spec w hn (hl.ext hc) (by omega)) (fun ad15 n15 cap15 m15 hn15 hs15 => ?_)
        refine LM.strip (t := 13) rfl rfl rfl ?_
        refine LM.val (ov_move rfl) ?_
        refine LM.strip (t := 13) rfl rfl rfl ?_
        refine LM.cS (oc_call (enters_fn Try.func40 (by kernel_rfl) rfl) rfl) (fun w hm hc hg => rstays_holdEnd w hn (hl.ext hc) (by omega)) (fun ad17 n17 cap17 m17 hn17 hs17 => ?_)
        refine LM.strip (t := 13) rfl rfl rfl ?_
        refine LM.callE (oc_call (enters_fn Try.func38 (by kernel_rfl) rfl) rfl) (fun w hm hc hg => same28_spec w hn15 hn17 (hs15.srM fT_len hm) (hs17.srM fT_len hm) (by have := eachT_len holdEnd 4 l; omega)) ?_
        refine LM.val (ov_pickT rfl rfl) ?_
        refine LM.val (ov_assign rfl) ?_
        refine LM.nil ?_
        refine QM.sub (e' := [(2, _)]) ⟨rfl, trivial⟩ ?_
        refine QM.then ?_
        refine wpM.ret ?_
        refine QM.leave (.inl rfl) [.tmp 2] Try.results9 rfl ?_
        intro w' hm' hc' hg'
        -- leaf 3: h1- h2- h3+
        first | exact ⟨rfl, hc'⟩ | (refine ⟨?_, hc'⟩; simp only [resV, decide_true]; done) | (exfalso; first | omega | contradiction | (simp at *; done))
      ·
        refine LM.drop (t := 13) rfl rfl rfl ?_
        refine LM.drop (t := 13) rfl rfl rfl ?_
        refine LM.drop (t := 13) rfl rfl rfl ?_
        refine LM.drop (t := 13) rfl rfl rfl ?_
        refine LM.drop (t := 13) rfl rfl rfl ?_
        refine LM.val (ov_pickF rfl rfl) ?_
        refine LM.val (ov_assign rfl) ?_
        refine LM.nil ?_
        refine QM.sub (e' := [(2, _)]) ⟨rfl, trivial⟩ ?_
        refine QM.then ?_
        refine wpM.ret ?_
        refine QM.leave (.inl rfl) [.tmp 2] Try.results9 rfl ?_
        intro w' hm' hc' hg'
        -- leaf 4: h1- h2- h3-
        first | exact ⟨rfl, hc'⟩ | (refine ⟨?_, hc'⟩; simp only [resV, decide_true]; done) | (exfalso; first | omega | contradiction | (simp at *; done))

end Go.Eng

