/-
  Contracts of the functions that the statement reaches, and the logic in which they are proved (no condition): parts W59, Bal4.
-/
import Derived.Test.YtlhemheagekhaaaGreatDoorA14
set_option linter.all false
namespace Go.T
open Go Go.Proofs
set_option maxRecDepth 20000
structure bothY2_ok_L0 (c s : Str) where
 d : Bool
theorem bothY2_ok (c s : Str) : FcY (α := Str) Tryz.prog 254 7300 [.box 7300 0, .box 7301 0] [(7300, .cells [.raw (.slice none 0 0)]), (7301, .cells [.snap 2 true [[.str c, .str s]]])] (fun x => [.str x, .agg [.str [], .str s]]) (fun p => p = [c]) (fun p => p = [c]) := by
 refine FcY.mk' Tryz.func254 rfl Tryz.ntmps254 rfl (fun t w => results_none Tryz.results254 t _ w) (fun idL lb ids B X Y => ?_)
 refine Run.block ?_
 refine Run.loop (ι := bothY2_ok_L0 c s) (fun sx => [(0, yv lb), (1, .box 7300 0), (2, .box 7301 0)]) (fun sx => ([(7300, .cells [.raw (.slice none 0 0)]), (7301, .cells [.snap 2 (!sx.d) (bif sx.d then [] else [[.str c, .str s]])])] ++ B (bif sx.d then [c] else []))) (fun sx => (bif sx.d then 0 else 1)) ⟨false⟩ ?_ ?_
 ·exact Le.mk (ps_ok (Y.has _) rfl) (.same rfl rfl (.same rfl rfl (.same rfl rfl .nil))) (.eq rfl (by first | rfl | (simp; done)) rfl (.eq rfl (by first | rfl | (simp; done)) rfl (.tail (tail_ok (own := [(7300, _), (7301, _)]) (own' := [(7300, _), (7301, _)]) rfl (Y.free _) (Y.okb _)))))
 ·rintro ⟨d⟩
  show Run _ _ _ _ [(0, yv lb), (1, .box 7300 0), (2, .box 7301 0)] ([(7300, .cells [.raw (.slice none 0 0)]), (7301, .cells [.snap 2 (!d) (bif d then [] else [[.str c, .str s]])])] ++ B (bif d then [c] else []))
  cases d
  ·skip
   refine Run.seq (Run.seq (Run.reg [.r, .p, .p, .p, .r, .p, .p, .p] ?_))
   refine .R rfl (q_load1 Tryz.isAgg153 rfl rfl rfl) <| .P rfl (q_lenNil Tryz.underlying153 rfl) <| .P rfl (q_gtr rfl rfl) <| .mv rfl rfl <| .r rfl (on_of rfl rfl rfl (rfl)) (q_load1 Tryz.isAgg153 rfl rfl rfl) <| .p rfl (on_of rfl rfl rfl (rfl)) (fun _ => q_lenI Tryz.underlying153 rfl _) <| .p rfl (on_of rfl rfl rfl (rfl)) (fun _ => q_gtr rfl rfl _) <| .P rfl (q_pickF rfl (rfl) rfl) <| .nil ?_
   refine Run.condT rfl (rfl) ?_
   refine Run.skip ?_
   refine Run.block ?_
   refine Run.seq (Run.reg [.p] ?_)
   refine .ag rfl rfl <| .nil ?_
   refine Run.seq (Run.reg [.w] ?_)
   refine .W rfl (q_alloc 7302 Tryz.zeroValue242 (Y.free _ 7302 (by decide) (by decide))) <| .nil ?_
   refine Run.seq ?_
   refine Run.block ?_
   refine Run.seq (Run.regD [.r, .p, .p, .p, .r, .p, .p, .p, .r, .p, .p, .p, .r, .p, .p, .p, .p, .p, .p, .p] Tryz_mixed (by decide +kernel) ?_)
   refine .R rfl (q_load1 Tryz.isAgg153 rfl rfl rfl) <| .P rfl (q_lenI Tryz.underlying153 rfl) <| .P rfl (q_eql rfl rfl) <| .mv rfl rfl <| .r rfl (on_of rfl rfl rfl (rfl)) (q_load1 Tryz.isAgg153 rfl rfl rfl) <| .p rfl (on_of rfl rfl rfl (rfl)) (fun _ => q_lenNil Tryz.underlying153 rfl _) <| .p rfl (on_of rfl rfl rfl (rfl)) (fun _ => q_gtr rfl rfl _) <| .p rfl (on_of rfl rfl rfl (rfl)) (fun _ => q_move rfl _) ?_
   refine .off rfl (off_of rfl rfl rfl (rfl)) ?_
   refine .off rfl (off_of rfl rfl rfl (rfl)) ?_
   refine .off rfl (off_of rfl rfl rfl (rfl)) ?_
   refine .off rfl (off_of rfl rfl rfl (rfl)) ?_
   refine .off rfl (off_of rfl rfl rfl (rfl)) ?_
   refine .off rfl (off_of rfl rfl rfl (rfl)) ?_
   refine .off rfl (off_of rfl rfl rfl (rfl)) ?_
   refine .off rfl (off_of rfl rfl rfl (rfl)) ?_
   refine .off rfl (off_of rfl rfl rfl (rfl)) ?_
   refine .p rfl (on_of rfl rfl rfl (rfl)) (fun _ => q_pickF rfl (rfl) rfl _) <| .P rfl (q_pickF rfl (rfl) rfl) <| .ag rfl rfl <| .nil ?_
   refine Run.condF rfl rfl ?_
   refine Run.reg [.r, .p, .p, .p, .p] ?_
   refine .R rfl (q_load1 Tryz.isAgg153 rfl rfl rfl) <| .P rfl (q_indexI Tryz.underlying153 Tryz.sizeOf157 rfl rfl (by decide) rfl) <| .P rfl (q_fieldI (n := 0) 9 0 Tryz.underlying157 Tryz.sizeOf9 rfl rfl rfl) <| .P rfl (q_loadI Tryz.isAgg9 rfl) <| .ag rfl rfl <| .nil ?_
   refine Run.nil (bq_norm ?_)
   refine Run.seq (Run.seq (Run.reg [.r, .p, .p, .p, .r, .p, .p, .p, .p, .p, .p] ?_))
   refine .R rfl (q_load1 Tryz.isAgg153 rfl rfl rfl) <| .P rfl (q_lenNil Tryz.underlying153 rfl) <| .P rfl (q_gtr rfl rfl) <| .mv rfl rfl ?_
   refine .off rfl (off_of rfl rfl rfl (rfl)) ?_
   refine .off rfl (off_of rfl rfl rfl (rfl)) ?_
   refine .off rfl (off_of rfl rfl rfl (rfl)) ?_
   refine .off rfl (off_of rfl rfl rfl (rfl)) ?_
   refine .off rfl (off_of rfl rfl rfl (rfl)) ?_
   refine .off rfl (off_of rfl rfl rfl (rfl)) ?_
   refine .P rfl (q_pickF rfl (rfl) rfl) <| .nil ?_
   refine Run.condF rfl rfl ?_
   refine Run.skip ?_
   refine Run.seq (Run.seq (Run.reg [.r, .p, .p, .p, .r, .p, .p, .p, .p, .p, .p] ?_))
   refine .R rfl (q_load1 Tryz.isAgg153 rfl rfl rfl) <| .P rfl (q_lenI Tryz.underlying153 rfl) <| .P rfl (q_gtr rfl rfl) <| .mv rfl rfl <| .r rfl (on_of rfl rfl rfl (rfl)) (q_load1 Tryz.isAgg153 rfl rfl rfl) <| .p rfl (on_of rfl rfl rfl (rfl)) (fun _ => q_indexI Tryz.underlying153 Tryz.sizeOf157 rfl rfl (by decide) rfl _) <| .p rfl (on_of rfl rfl rfl (rfl)) (fun _ => q_fieldI (n := 0) 9 0 Tryz.underlying157 Tryz.sizeOf9 rfl rfl rfl _) <| .p rfl (on_of rfl rfl rfl (rfl)) (fun _ => q_loadI Tryz.isAgg9 rfl _) <| .p rfl (on_of rfl rfl rfl (rfl)) (fun _ => q_move rfl _) <| .p rfl (on_of rfl rfl rfl (rfl)) (fun _ => q_eqlS rfl rfl _) <| .P rfl (q_pickT rfl (rfl) rfl) <| .nil ?_
   refine Run.condT rfl (by simp) ?_
   refine Run.regA [(0, yv lb), (1, .box 7300 0), (2, .box 7301 0), (4, .str c), (5, .box 7302 0)] ([(7302, .cells [.str [], .str s]), (7300, .cells [.raw (.slice none 0 0)]), (7301, .cells [.snap 2 false []])] ++ B ([])) Tryz_mixed ?_ ?_
   ·refine TxA.two (i := 0) (j := 4) (by decide +kernel) ?_ ?_
    ·refine AStep.mk' rfl rfl trivial (q_load1 Tryz.isAgg153 rfl rfl rfl) ?_
     refine TxA.two (i := 1) (j := 4) (by decide +kernel) ?_ ?_
     ·refine AStep.mk' rfl rfl trivial (q_indexI Tryz.underlying153 Tryz.sizeOf157 rfl rfl (by decide) rfl _) ?_
      refine TxA.two (i := 2) (j := 4) (by decide +kernel) ?_ ?_
      ·refine AStep.mk' rfl rfl trivial (q_fieldI (n := 0) 54 1 Tryz.underlying157 Tryz.sizeOf54 rfl rfl rfl _) ?_
       refine TxA.two (i := 3) (j := 4) (by decide +kernel) ?_ ?_
       ·refine AStep.mk' rfl rfl trivial (q_loadI Tryz.isAgg54 rfl _) ?_
        refine TxA.two (i := 4) (j := 6) (by decide +kernel) ?_ ?_
        ·refine AStep.mk' rfl rfl trivial (q_load1 Tryz.isAgg153 rfl rfl rfl) ?_
         refine TxA.two (i := 5) (j := 6) (by decide +kernel) ?_ ?_
         ·refine AStep.mk' rfl rfl trivial (q_sliceI Tryz.underlying153 Tryz.sizeOf157 rfl (l := 1) (r := []) (.inr ⟨_, _, rfl, rfl⟩) (.inl ⟨rfl, rfl⟩) (by simp) (by simp) rfl _) ?_
          refine TxA.one (i := 6) (by decide +kernel) ?_
          refine AStep.mk' rfl rfl trivial (q_indexBA (o2 := 1) Tryz.underlying242 Tryz.sizeOf54 rfl rfl (by decide) (by decide) rfl _) ?_
          refine TxA.one (i := 7) (by decide +kernel) ?_
          refine AStep.mk' rfl rfl trivial (q_store1 Tryz.sizeOf54 rfl rfl rfl rfl (by first | (simp; done) | decide)) ?_
          refine TxA.one (i := 8) (by decide +kernel) ?_
          refine AStep.mk' rfl rfl trivial (q_store1 Tryz.sizeOf153 rfl rfl rfl rfl (by first | (simp; done) | decide)) ?_
          exact TxA.nil (by decide +kernel) (Le.mk (ps_ok (Y.has _) rfl) (.same rfl rfl (.same rfl rfl (.same rfl rfl (.same rfl rfl (.same rfl rfl .nil))))) (.eq rfl (by first | rfl | (simp; done)) rfl (.eq rfl (by first | rfl | (simp; done)) rfl (.eq rfl (by first | rfl | (simp; done)) rfl (.tail (tail_ok (own := [(7302, _), (7300, _), (7301, _)]) (own' := [(7302, _), (7300, _), (7301, _)]) rfl (Y.free _) (Y.okb _)))))))
         ·refine AStep.mk' rfl rfl trivial (q_indexBA (o2 := 1) Tryz.underlying242 Tryz.sizeOf54 rfl rfl (by decide) (by decide) rfl _) ?_
          refine TxA.two (i := 5) (j := 7) (by decide +kernel) ?_ ?_
          ·refine AStep.mk' rfl rfl trivial (q_sliceI Tryz.underlying153 Tryz.sizeOf157 rfl (l := 1) (r := []) (.inr ⟨_, _, rfl, rfl⟩) (.inl ⟨rfl, rfl⟩) (by simp) (by simp) rfl _) ?_
           refine TxA.one (i := 7) (by decide +kernel) ?_
           refine AStep.mk' rfl rfl trivial (q_store1 Tryz.sizeOf54 rfl rfl rfl rfl (by first | (simp; done) | decide)) ?_
           refine TxA.one (i := 8) (by decide +kernel) ?_
           refine AStep.mk' rfl rfl trivial (q_store1 Tryz.sizeOf153 rfl rfl rfl rfl (by first | (simp; done) | decide)) ?_
           exact TxA.nil (by decide +kernel) (Le.mk (ps_ok (Y.has _) rfl) (.same rfl rfl (.same rfl rfl (.same rfl rfl (.same rfl rfl (.same rfl rfl .nil))))) (.eq rfl (by first | rfl | (simp; done)) rfl (.eq rfl (by first | rfl | (simp; done)) rfl (.eq rfl (by first | rfl | (simp; done)) rfl (.tail (tail_ok (own := [(7302, _), (7300, _), (7301, _)]) (own' := [(7302, _), (7300, _), (7301, _)]) rfl (Y.free _) (Y.okb _)))))))
          ·refine AStep.mk' rfl rfl trivial (q_store1 Tryz.sizeOf54 rfl rfl rfl rfl (by first | (simp; done) | decide)) ?_
           refine TxA.one (i := 5) (by decide +kernel) ?_
           refine AStep.mk' rfl rfl trivial (q_sliceI Tryz.underlying153 Tryz.sizeOf157 rfl (l := 1) (r := []) (.inr ⟨_, _, rfl, rfl⟩) (.inl ⟨rfl, rfl⟩) (by simp) (by simp) rfl _) ?_
           refine TxA.one (i := 8) (by decide +kernel) ?_
           refine AStep.mk' rfl rfl trivial (q_store1 Tryz.sizeOf153 rfl rfl rfl rfl (by first | (simp; done) | decide)) ?_
           exact TxA.nil (by decide +kernel) (Le.mk (ps_ok (Y.has _) rfl) (.same rfl rfl (.same rfl rfl (.same rfl rfl (.same rfl rfl (.same rfl rfl .nil))))) (.eq rfl (by first | rfl | (simp; done)) rfl (.eq rfl (by first | rfl | (simp; done)) rfl (.eq rfl (by first | rfl | (simp; done)) rfl (.tail (tail_ok (own := [(7302, _), (7300, _), (7301, _)]) (own' := [(7302, _), (7300, _), (7301, _)]) rfl (Y.free _) (Y.okb _)))))))
        ·refine AStep.mk' rfl rfl trivial (q_indexBA (o2 := 1) Tryz.underlying242 Tryz.sizeOf54 rfl rfl (by decide) (by decide) rfl _) ?_
         refine TxA.two (i := 4) (j := 7) (by decide +kernel) ?_ ?_
         ·refine AStep.mk' rfl rfl trivial (q_load1 Tryz.isAgg153 rfl rfl rfl) ?_
          refine TxA.two (i := 5) (j := 7) (by decide +kernel) ?_ ?_
          ·refine AStep.mk' rfl rfl trivial (q_sliceI Tryz.underlying153 Tryz.sizeOf157 rfl (l := 1) (r := []) (.inr ⟨_, _, rfl, rfl⟩) (.inl ⟨rfl, rfl⟩) (by simp) (by simp) rfl _) ?_
           refine TxA.one (i := 7) (by decide +kernel) ?_
           refine AStep.mk' rfl rfl trivial (q_store1 Tryz.sizeOf54 rfl rfl rfl rfl (by first | (simp; done) | decide)) ?_
           refine TxA.one (i := 8) (by decide +kernel) ?_
           refine AStep.mk' rfl rfl trivial (q_store1 Tryz.sizeOf153 rfl rfl rfl rfl (by first | (simp; done) | decide)) ?_
           exact TxA.nil (by decide +kernel) (Le.mk (ps_ok (Y.has _) rfl) (.same rfl rfl (.same rfl rfl (.same rfl rfl (.same rfl rfl (.same rfl rfl .nil))))) (.eq rfl (by first | rfl | (simp; done)) rfl (.eq rfl (by first | rfl | (simp; done)) rfl (.eq rfl (by first | rfl | (simp; done)) rfl (.tail (tail_ok (own := [(7302, _), (7300, _), (7301, _)]) (own' := [(7302, _), (7300, _), (7301, _)]) rfl (Y.free _) (Y.okb _)))))))
          ·refine AStep.mk' rfl rfl trivial (q_store1 Tryz.sizeOf54 rfl rfl rfl rfl (by first | (simp; done) | decide)) ?_
           refine TxA.one (i := 5) (by decide +kernel) ?_
           refine AStep.mk' rfl rfl trivial (q_sliceI Tryz.underlying153 Tryz.sizeOf157 rfl (l := 1) (r := []) (.inr ⟨_, _, rfl, rfl⟩) (.inl ⟨rfl, rfl⟩) (by simp) (by simp) rfl _) ?_
           refine TxA.one (i := 8) (by decide +kernel) ?_
           refine AStep.mk' rfl rfl trivial (q_store1 Tryz.sizeOf153 rfl rfl rfl rfl (by first | (simp; done) | decide)) ?_
           exact TxA.nil (by decide +kernel) (Le.mk (ps_ok (Y.has _) rfl) (.same rfl rfl (.same rfl rfl (.same rfl rfl (.same rfl rfl (.same rfl rfl .nil))))) (.eq rfl (by first | rfl | (simp; done)) rfl (.eq rfl (by first | rfl | (simp; done)) rfl (.eq rfl (by first | rfl | (simp; done)) rfl (.tail (tail_ok (own := [(7302, _), (7300, _), (7301, _)]) (own' := [(7302, _), (7300, _), (7301, _)]) rfl (Y.free _) (Y.okb _)))))))
         ·refine AStep.mk' rfl rfl trivial (q_store1 Tryz.sizeOf54 rfl rfl rfl rfl (by first | (simp; done) | decide)) ?_
          refine TxA.one (i := 4) (by decide +kernel) ?_
          refine AStep.mk' rfl rfl trivial (q_load1 Tryz.isAgg153 rfl rfl rfl) ?_
          refine TxA.one (i := 5) (by decide +kernel) ?_
          refine AStep.mk' rfl rfl trivial (q_sliceI Tryz.underlying153 Tryz.sizeOf157 rfl (l := 1) (r := []) (.inr ⟨_, _, rfl, rfl⟩) (.inl ⟨rfl, rfl⟩) (by simp) (by simp) rfl _) ?_
          refine TxA.one (i := 8) (by decide +kernel) ?_
          refine AStep.mk' rfl rfl trivial (q_store1 Tryz.sizeOf153 rfl rfl rfl rfl (by first | (simp; done) | decide)) ?_
          exact TxA.nil (by decide +kernel) (Le.mk (ps_ok (Y.has _) rfl) (.same rfl rfl (.same rfl rfl (.same rfl rfl (.same rfl rfl (.same rfl rfl .nil))))) (.eq rfl (by first | rfl | (simp; done)) rfl (.eq rfl (by first | rfl | (simp; done)) rfl (.eq rfl (by first | rfl | (simp; done)) rfl (.tail (tail_ok (own := [(7302, _), (7300, _), (7301, _)]) (own' := [(7302, _), (7300, _), (7301, _)]) rfl (Y.free _) (Y.okb _)))))))
       ·refine AStep.mk' rfl rfl trivial (q_load1 Tryz.isAgg153 rfl rfl rfl) ?_
        refine TxA.two (i := 3) (j := 5) (by decide +kernel) ?_ ?_
        ·refine AStep.mk' rfl rfl trivial (q_loadI Tryz.isAgg54 rfl _) ?_
         refine TxA.two (i := 5) (j := 6) (by decide +kernel) ?_ ?_
         ·refine AStep.mk' rfl rfl trivial (q_sliceI Tryz.underlying153 Tryz.sizeOf157 rfl (l := 1) (r := []) (.inr ⟨_, _, rfl, rfl⟩) (.inl ⟨rfl, rfl⟩) (by simp) (by simp) rfl _) ?_
          refine TxA.one (i := 6) (by decide +kernel) ?_
          refine AStep.mk' rfl rfl trivial (q_indexBA (o2 := 1) Tryz.underlying242 Tryz.sizeOf54 rfl rfl (by decide) (by decide) rfl _) ?_
          refine TxA.one (i := 7) (by decide +kernel) ?_
          refine AStep.mk' rfl rfl trivial (q_store1 Tryz.sizeOf54 rfl rfl rfl rfl (by first | (simp; done) | decide)) ?_
          refine TxA.one (i := 8) (by decide +kernel) ?_
          refine AStep.mk' rfl rfl trivial (q_store1 Tryz.sizeOf153 rfl rfl rfl rfl (by first | (simp; done) | decide)) ?_
          exact TxA.nil (by decide +kernel) (Le.mk (ps_ok (Y.has _) rfl) (.same rfl rfl (.same rfl rfl (.same rfl rfl (.same rfl rfl (.same rfl rfl .nil))))) (.eq rfl (by first | rfl | (simp; done)) rfl (.eq rfl (by first | rfl | (simp; done)) rfl (.eq rfl (by first | rfl | (simp; done)) rfl (.tail (tail_ok (own := [(7302, _), (7300, _), (7301, _)]) (own' := [(7302, _), (7300, _), (7301, _)]) rfl (Y.free _) (Y.okb _)))))))
         ·refine AStep.mk' rfl rfl trivial (q_indexBA (o2 := 1) Tryz.underlying242 Tryz.sizeOf54 rfl rfl (by decide) (by decide) rfl _) ?_
          refine TxA.two (i := 5) (j := 7) (by decide +kernel) ?_ ?_
          ·refine AStep.mk' rfl rfl trivial (q_sliceI Tryz.underlying153 Tryz.sizeOf157 rfl (l := 1) (r := []) (.inr ⟨_, _, rfl, rfl⟩) (.inl ⟨rfl, rfl⟩) (by simp) (by simp) rfl _) ?_
           refine TxA.one (i := 7) (by decide +kernel) ?_
           refine AStep.mk' rfl rfl trivial (q_store1 Tryz.sizeOf54 rfl rfl rfl rfl (by first | (simp; done) | decide)) ?_
           refine TxA.one (i := 8) (by decide +kernel) ?_
           refine AStep.mk' rfl rfl trivial (q_store1 Tryz.sizeOf153 rfl rfl rfl rfl (by first | (simp; done) | decide)) ?_
           exact TxA.nil (by decide +kernel) (Le.mk (ps_ok (Y.has _) rfl) (.same rfl rfl (.same rfl rfl (.same rfl rfl (.same rfl rfl (.same rfl rfl .nil))))) (.eq rfl (by first | rfl | (simp; done)) rfl (.eq rfl (by first | rfl | (simp; done)) rfl (.eq rfl (by first | rfl | (simp; done)) rfl (.tail (tail_ok (own := [(7302, _), (7300, _), (7301, _)]) (own' := [(7302, _), (7300, _), (7301, _)]) rfl (Y.free _) (Y.okb _)))))))
          ·refine AStep.mk' rfl rfl trivial (q_store1 Tryz.sizeOf54 rfl rfl rfl rfl (by first | (simp; done) | decide)) ?_
           refine TxA.one (i := 5) (by decide +kernel) ?_
           refine AStep.mk' rfl rfl trivial (q_sliceI Tryz.underlying153 Tryz.sizeOf157 rfl (l := 1) (r := []) (.inr ⟨_, _, rfl, rfl⟩) (.inl ⟨rfl, rfl⟩) (by simp) (by simp) rfl _) ?_
           refine TxA.one (i := 8) (by decide +kernel) ?_
           refine AStep.mk' rfl rfl trivial (q_store1 Tryz.sizeOf153 rfl rfl rfl rfl (by first | (simp; done) | decide)) ?_
           exact TxA.nil (by decide +kernel) (Le.mk (ps_ok (Y.has _) rfl) (.same rfl rfl (.same rfl rfl (.same rfl rfl (.same rfl rfl (.same rfl rfl .nil))))) (.eq rfl (by first | rfl | (simp; done)) rfl (.eq rfl (by first | rfl | (simp; done)) rfl (.eq rfl (by first | rfl | (simp; done)) rfl (.tail (tail_ok (own := [(7302, _), (7300, _), (7301, _)]) (own' := [(7302, _), (7300, _), (7301, _)]) rfl (Y.free _) (Y.okb _)))))))
        ·refine AStep.mk' rfl rfl trivial (q_sliceI Tryz.underlying153 Tryz.sizeOf157 rfl (l := 1) (r := []) (.inr ⟨_, _, rfl, rfl⟩) (.inl ⟨rfl, rfl⟩) (by simp) (by simp) rfl _) ?_
         refine TxA.one (i := 3) (by decide +kernel) ?_
         refine AStep.mk' rfl rfl trivial (q_loadI Tryz.isAgg54 rfl _) ?_
         refine TxA.one (i := 6) (by decide +kernel) ?_
         refine AStep.mk' rfl rfl trivial (q_indexBA (o2 := 1) Tryz.underlying242 Tryz.sizeOf54 rfl rfl (by decide) (by decide) rfl _) ?_
         refine TxA.one (i := 7) (by decide +kernel) ?_
         refine AStep.mk' rfl rfl trivial (q_store1 Tryz.sizeOf54 rfl rfl rfl rfl (by first | (simp; done) | decide)) ?_
         refine TxA.one (i := 8) (by decide +kernel) ?_
         refine AStep.mk' rfl rfl trivial (q_store1 Tryz.sizeOf153 rfl rfl rfl rfl (by first | (simp; done) | decide)) ?_
         exact TxA.nil (by decide +kernel) (Le.mk (ps_ok (Y.has _) rfl) (.same rfl rfl (.same rfl rfl (.same rfl rfl (.same rfl rfl (.same rfl rfl .nil))))) (.eq rfl (by first | rfl | (simp; done)) rfl (.eq rfl (by first | rfl | (simp; done)) rfl (.eq rfl (by first | rfl | (simp; done)) rfl (.tail (tail_ok (own := [(7302, _), (7300, _), (7301, _)]) (own' := [(7302, _), (7300, _), (7301, _)]) rfl (Y.free _) (Y.okb _)))))))
      ·refine AStep.mk' rfl rfl trivial (q_load1 Tryz.isAgg153 rfl rfl rfl) ?_
       refine TxA.two (i := 2) (j := 5) (by decide +kernel) ?_ ?_
       ·refine AStep.mk' rfl rfl trivial (q_fieldI (n := 0) 54 1 Tryz.underlying157 Tryz.sizeOf54 rfl rfl rfl _) ?_
        refine TxA.two (i := 3) (j := 5) (by decide +kernel) ?_ ?_
        ·refine AStep.mk' rfl rfl trivial (q_loadI Tryz.isAgg54 rfl _) ?_
         refine TxA.two (i := 5) (j := 6) (by decide +kernel) ?_ ?_
         ·refine AStep.mk' rfl rfl trivial (q_sliceI Tryz.underlying153 Tryz.sizeOf157 rfl (l := 1) (r := []) (.inr ⟨_, _, rfl, rfl⟩) (.inl ⟨rfl, rfl⟩) (by simp) (by simp) rfl _) ?_
          refine TxA.one (i := 6) (by decide +kernel) ?_
          refine AStep.mk' rfl rfl trivial (q_indexBA (o2 := 1) Tryz.underlying242 Tryz.sizeOf54 rfl rfl (by decide) (by decide) rfl _) ?_
          refine TxA.one (i := 7) (by decide +kernel) ?_
          refine AStep.mk' rfl rfl trivial (q_store1 Tryz.sizeOf54 rfl rfl rfl rfl (by first | (simp; done) | decide)) ?_
          refine TxA.one (i := 8) (by decide +kernel) ?_
          refine AStep.mk' rfl rfl trivial (q_store1 Tryz.sizeOf153 rfl rfl rfl rfl (by first | (simp; done) | decide)) ?_
          exact TxA.nil (by decide +kernel) (Le.mk (ps_ok (Y.has _) rfl) (.same rfl rfl (.same rfl rfl (.same rfl rfl (.same rfl rfl (.same rfl rfl .nil))))) (.eq rfl (by first | rfl | (simp; done)) rfl (.eq rfl (by first | rfl | (simp; done)) rfl (.eq rfl (by first | rfl | (simp; done)) rfl (.tail (tail_ok (own := [(7302, _), (7300, _), (7301, _)]) (own' := [(7302, _), (7300, _), (7301, _)]) rfl (Y.free _) (Y.okb _)))))))
         ·refine AStep.mk' rfl rfl trivial (q_indexBA (o2 := 1) Tryz.underlying242 Tryz.sizeOf54 rfl rfl (by decide) (by decide) rfl _) ?_
          refine TxA.two (i := 5) (j := 7) (by decide +kernel) ?_ ?_
          ·refine AStep.mk' rfl rfl trivial (q_sliceI Tryz.underlying153 Tryz.sizeOf157 rfl (l := 1) (r := []) (.inr ⟨_, _, rfl, rfl⟩) (.inl ⟨rfl, rfl⟩) (by simp) (by simp) rfl _) ?_
           refine TxA.one (i := 7) (by decide +kernel) ?_
           refine AStep.mk' rfl rfl trivial (q_store1 Tryz.sizeOf54 rfl rfl rfl rfl (by first | (simp; done) | decide)) ?_
           refine TxA.one (i := 8) (by decide +kernel) ?_
           refine AStep.mk' rfl rfl trivial (q_store1 Tryz.sizeOf153 rfl rfl rfl rfl (by first | (simp; done) | decide)) ?_
           exact TxA.nil (by decide +kernel) (Le.mk (ps_ok (Y.has _) rfl) (.same rfl rfl (.same rfl rfl (.same rfl rfl (.same rfl rfl (.same rfl rfl .nil))))) (.eq rfl (by first | rfl | (simp; done)) rfl (.eq rfl (by first | rfl | (simp; done)) rfl (.eq rfl (by first | rfl | (simp; done)) rfl (.tail (tail_ok (own := [(7302, _), (7300, _), (7301, _)]) (own' := [(7302, _), (7300, _), (7301, _)]) rfl (Y.free _) (Y.okb _)))))))
          ·refine AStep.mk' rfl rfl trivial (q_store1 Tryz.sizeOf54 rfl rfl rfl rfl (by first | (simp; done) | decide)) ?_
           refine TxA.one (i := 5) (by decide +kernel) ?_
           refine AStep.mk' rfl rfl trivial (q_sliceI Tryz.underlying153 Tryz.sizeOf157 rfl (l := 1) (r := []) (.inr ⟨_, _, rfl, rfl⟩) (.inl ⟨rfl, rfl⟩) (by simp) (by simp) rfl _) ?_
           refine TxA.one (i := 8) (by decide +kernel) ?_
           refine AStep.mk' rfl rfl trivial (q_store1 Tryz.sizeOf153 rfl rfl rfl rfl (by first | (simp; done) | decide)) ?_
           exact TxA.nil (by decide +kernel) (Le.mk (ps_ok (Y.has _) rfl) (.same rfl rfl (.same rfl rfl (.same rfl rfl (.same rfl rfl (.same rfl rfl .nil))))) (.eq rfl (by first | rfl | (simp; done)) rfl (.eq rfl (by first | rfl | (simp; done)) rfl (.eq rfl (by first | rfl | (simp; done)) rfl (.tail (tail_ok (own := [(7302, _), (7300, _), (7301, _)]) (own' := [(7302, _), (7300, _), (7301, _)]) rfl (Y.free _) (Y.okb _)))))))
        ·refine AStep.mk' rfl rfl trivial (q_sliceI Tryz.underlying153 Tryz.sizeOf157 rfl (l := 1) (r := []) (.inr ⟨_, _, rfl, rfl⟩) (.inl ⟨rfl, rfl⟩) (by simp) (by simp) rfl _) ?_
         refine TxA.one (i := 3) (by decide +kernel) ?_
         refine AStep.mk' rfl rfl trivial (q_loadI Tryz.isAgg54 rfl _) ?_
         refine TxA.one (i := 6) (by decide +kernel) ?_
         refine AStep.mk' rfl rfl trivial (q_indexBA (o2 := 1) Tryz.underlying242 Tryz.sizeOf54 rfl rfl (by decide) (by decide) rfl _) ?_
         refine TxA.one (i := 7) (by decide +kernel) ?_
         refine AStep.mk' rfl rfl trivial (q_store1 Tryz.sizeOf54 rfl rfl rfl rfl (by first | (simp; done) | decide)) ?_
         refine TxA.one (i := 8) (by decide +kernel) ?_
         refine AStep.mk' rfl rfl trivial (q_store1 Tryz.sizeOf153 rfl rfl rfl rfl (by first | (simp; done) | decide)) ?_
         exact TxA.nil (by decide +kernel) (Le.mk (ps_ok (Y.has _) rfl) (.same rfl rfl (.same rfl rfl (.same rfl rfl (.same rfl rfl (.same rfl rfl .nil))))) (.eq rfl (by first | rfl | (simp; done)) rfl (.eq rfl (by first | rfl | (simp; done)) rfl (.eq rfl (by first | rfl | (simp; done)) rfl (.tail (tail_ok (own := [(7302, _), (7300, _), (7301, _)]) (own' := [(7302, _), (7300, _), (7301, _)]) rfl (Y.free _) (Y.okb _)))))))
       ·refine AStep.mk' rfl rfl trivial (q_sliceI Tryz.underlying153 Tryz.sizeOf157 rfl (l := 1) (r := []) (.inr ⟨_, _, rfl, rfl⟩) (.inl ⟨rfl, rfl⟩) (by simp) (by simp) rfl _) ?_
        refine TxA.one (i := 2) (by decide +kernel) ?_
        refine AStep.mk' rfl rfl trivial (q_fieldI (n := 0) 54 1 Tryz.underlying157 Tryz.sizeOf54 rfl rfl rfl _) ?_
        refine TxA.one (i := 3) (by decide +kernel) ?_
        refine AStep.mk' rfl rfl trivial (q_loadI Tryz.isAgg54 rfl _) ?_
        refine TxA.one (i := 6) (by decide +kernel) ?_
        refine AStep.mk' rfl rfl trivial (q_indexBA (o2 := 1) Tryz.underlying242 Tryz.sizeOf54 rfl rfl (by decide) (by decide) rfl _) ?_
        refine TxA.one (i := 7) (by decide +kernel) ?_
        refine AStep.mk' rfl rfl trivial (q_store1 Tryz.sizeOf54 rfl rfl rfl rfl (by first | (simp; done) | decide)) ?_
        refine TxA.one (i := 8) (by decide +kernel) ?_
        refine AStep.mk' rfl rfl trivial (q_store1 Tryz.sizeOf153 rfl rfl rfl rfl (by first | (simp; done) | decide)) ?_
        exact TxA.nil (by decide +kernel) (Le.mk (ps_ok (Y.has _) rfl) (.same rfl rfl (.same rfl rfl (.same rfl rfl (.same rfl rfl (.same rfl rfl .nil))))) (.eq rfl (by first | rfl | (simp; done)) rfl (.eq rfl (by first | rfl | (simp; done)) rfl (.eq rfl (by first | rfl | (simp; done)) rfl (.tail (tail_ok (own := [(7302, _), (7300, _), (7301, _)]) (own' := [(7302, _), (7300, _), (7301, _)]) rfl (Y.free _) (Y.okb _)))))))
     ·refine AStep.mk' rfl rfl trivial (q_load1 Tryz.isAgg153 rfl rfl rfl) ?_
      refine TxA.two (i := 1) (j := 5) (by decide +kernel) ?_ ?_
      ·refine AStep.mk' rfl rfl trivial (q_indexI Tryz.underlying153 Tryz.sizeOf157 rfl rfl (by decide) rfl _) ?_
       refine TxA.two (i := 2) (j := 5) (by decide +kernel) ?_ ?_
       ·refine AStep.mk' rfl rfl trivial (q_fieldI (n := 0) 54 1 Tryz.underlying157 Tryz.sizeOf54 rfl rfl rfl _) ?_
        refine TxA.two (i := 3) (j := 5) (by decide +kernel) ?_ ?_
        ·refine AStep.mk' rfl rfl trivial (q_loadI Tryz.isAgg54 rfl _) ?_
         refine TxA.two (i := 5) (j := 6) (by decide +kernel) ?_ ?_
         ·refine AStep.mk' rfl rfl trivial (q_sliceI Tryz.underlying153 Tryz.sizeOf157 rfl (l := 1) (r := []) (.inr ⟨_, _, rfl, rfl⟩) (.inl ⟨rfl, rfl⟩) (by simp) (by simp) rfl _) ?_
          refine TxA.one (i := 6) (by decide +kernel) ?_
          refine AStep.mk' rfl rfl trivial (q_indexBA (o2 := 1) Tryz.underlying242 Tryz.sizeOf54 rfl rfl (by decide) (by decide) rfl _) ?_
          refine TxA.one (i := 7) (by decide +kernel) ?_
          refine AStep.mk' rfl rfl trivial (q_store1 Tryz.sizeOf54 rfl rfl rfl rfl (by first | (simp; done) | decide)) ?_
          refine TxA.one (i := 8) (by decide +kernel) ?_
          refine AStep.mk' rfl rfl trivial (q_store1 Tryz.sizeOf153 rfl rfl rfl rfl (by first | (simp; done) | decide)) ?_
          exact TxA.nil (by decide +kernel) (Le.mk (ps_ok (Y.has _) rfl) (.same rfl rfl (.same rfl rfl (.same rfl rfl (.same rfl rfl (.same rfl rfl .nil))))) (.eq rfl (by first | rfl | (simp; done)) rfl (.eq rfl (by first | rfl | (simp; done)) rfl (.eq rfl (by first | rfl | (simp; done)) rfl (.tail (tail_ok (own := [(7302, _), (7300, _), (7301, _)]) (own' := [(7302, _), (7300, _), (7301, _)]) rfl (Y.free _) (Y.okb _)))))))
         ·refine AStep.mk' rfl rfl trivial (q_indexBA (o2 := 1) Tryz.underlying242 Tryz.sizeOf54 rfl rfl (by decide) (by decide) rfl _) ?_
          refine TxA.two (i := 5) (j := 7) (by decide +kernel) ?_ ?_
          ·refine AStep.mk' rfl rfl trivial (q_sliceI Tryz.underlying153 Tryz.sizeOf157 rfl (l := 1) (r := []) (.inr ⟨_, _, rfl, rfl⟩) (.inl ⟨rfl, rfl⟩) (by simp) (by simp) rfl _) ?_
           refine TxA.one (i := 7) (by decide +kernel) ?_
           refine AStep.mk' rfl rfl trivial (q_store1 Tryz.sizeOf54 rfl rfl rfl rfl (by first | (simp; done) | decide)) ?_
           refine TxA.one (i := 8) (by decide +kernel) ?_
           refine AStep.mk' rfl rfl trivial (q_store1 Tryz.sizeOf153 rfl rfl rfl rfl (by first | (simp; done) | decide)) ?_
           exact TxA.nil (by decide +kernel) (Le.mk (ps_ok (Y.has _) rfl) (.same rfl rfl (.same rfl rfl (.same rfl rfl (.same rfl rfl (.same rfl rfl .nil))))) (.eq rfl (by first | rfl | (simp; done)) rfl (.eq rfl (by first | rfl | (simp; done)) rfl (.eq rfl (by first | rfl | (simp; done)) rfl (.tail (tail_ok (own := [(7302, _), (7300, _), (7301, _)]) (own' := [(7302, _), (7300, _), (7301, _)]) rfl (Y.free _) (Y.okb _)))))))
          ·refine AStep.mk' rfl rfl trivial (q_store1 Tryz.sizeOf54 rfl rfl rfl rfl (by first | (simp; done) | decide)) ?_
           refine TxA.one (i := 5) (by decide +kernel) ?_
           refine AStep.mk' rfl rfl trivial (q_sliceI Tryz.underlying153 Tryz.sizeOf157 rfl (l := 1) (r := []) (.inr ⟨_, _, rfl, rfl⟩) (.inl ⟨rfl, rfl⟩) (by simp) (by simp) rfl _) ?_
           refine TxA.one (i := 8) (by decide +kernel) ?_
           refine AStep.mk' rfl rfl trivial (q_store1 Tryz.sizeOf153 rfl rfl rfl rfl (by first | (simp; done) | decide)) ?_
           exact TxA.nil (by decide +kernel) (Le.mk (ps_ok (Y.has _) rfl) (.same rfl rfl (.same rfl rfl (.same rfl rfl (.same rfl rfl (.same rfl rfl .nil))))) (.eq rfl (by first | rfl | (simp; done)) rfl (.eq rfl (by first | rfl | (simp; done)) rfl (.eq rfl (by first | rfl | (simp; done)) rfl (.tail (tail_ok (own := [(7302, _), (7300, _), (7301, _)]) (own' := [(7302, _), (7300, _), (7301, _)]) rfl (Y.free _) (Y.okb _)))))))
        ·refine AStep.mk' rfl rfl trivial (q_sliceI Tryz.underlying153 Tryz.sizeOf157 rfl (l := 1) (r := []) (.inr ⟨_, _, rfl, rfl⟩) (.inl ⟨rfl, rfl⟩) (by simp) (by simp) rfl _) ?_
         refine TxA.one (i := 3) (by decide +kernel) ?_
         refine AStep.mk' rfl rfl trivial (q_loadI Tryz.isAgg54 rfl _) ?_
         refine TxA.one (i := 6) (by decide +kernel) ?_
         refine AStep.mk' rfl rfl trivial (q_indexBA (o2 := 1) Tryz.underlying242 Tryz.sizeOf54 rfl rfl (by decide) (by decide) rfl _) ?_
         refine TxA.one (i := 7) (by decide +kernel) ?_
         refine AStep.mk' rfl rfl trivial (q_store1 Tryz.sizeOf54 rfl rfl rfl rfl (by first | (simp; done) | decide)) ?_
         refine TxA.one (i := 8) (by decide +kernel) ?_
         refine AStep.mk' rfl rfl trivial (q_store1 Tryz.sizeOf153 rfl rfl rfl rfl (by first | (simp; done) | decide)) ?_
         exact TxA.nil (by decide +kernel) (Le.mk (ps_ok (Y.has _) rfl) (.same rfl rfl (.same rfl rfl (.same rfl rfl (.same rfl rfl (.same rfl rfl .nil))))) (.eq rfl (by first | rfl | (simp; done)) rfl (.eq rfl (by first | rfl | (simp; done)) rfl (.eq rfl (by first | rfl | (simp; done)) rfl (.tail (tail_ok (own := [(7302, _), (7300, _), (7301, _)]) (own' := [(7302, _), (7300, _), (7301, _)]) rfl (Y.free _) (Y.okb _)))))))
       ·refine AStep.mk' rfl rfl trivial (q_sliceI Tryz.underlying153 Tryz.sizeOf157 rfl (l := 1) (r := []) (.inr ⟨_, _, rfl, rfl⟩) (.inl ⟨rfl, rfl⟩) (by simp) (by simp) rfl _) ?_
        refine TxA.one (i := 2) (by decide +kernel) ?_
        refine AStep.mk' rfl rfl trivial (q_fieldI (n := 0) 54 1 Tryz.underlying157 Tryz.sizeOf54 rfl rfl rfl _) ?_
        refine TxA.one (i := 3) (by decide +kernel) ?_
        refine AStep.mk' rfl rfl trivial (q_loadI Tryz.isAgg54 rfl _) ?_
        refine TxA.one (i := 6) (by decide +kernel) ?_
        refine AStep.mk' rfl rfl trivial (q_indexBA (o2 := 1) Tryz.underlying242 Tryz.sizeOf54 rfl rfl (by decide) (by decide) rfl _) ?_
        refine TxA.one (i := 7) (by decide +kernel) ?_
        refine AStep.mk' rfl rfl trivial (q_store1 Tryz.sizeOf54 rfl rfl rfl rfl (by first | (simp; done) | decide)) ?_
        refine TxA.one (i := 8) (by decide +kernel) ?_
        refine AStep.mk' rfl rfl trivial (q_store1 Tryz.sizeOf153 rfl rfl rfl rfl (by first | (simp; done) | decide)) ?_
        exact TxA.nil (by decide +kernel) (Le.mk (ps_ok (Y.has _) rfl) (.same rfl rfl (.same rfl rfl (.same rfl rfl (.same rfl rfl (.same rfl rfl .nil))))) (.eq rfl (by first | rfl | (simp; done)) rfl (.eq rfl (by first | rfl | (simp; done)) rfl (.eq rfl (by first | rfl | (simp; done)) rfl (.tail (tail_ok (own := [(7302, _), (7300, _), (7301, _)]) (own' := [(7302, _), (7300, _), (7301, _)]) rfl (Y.free _) (Y.okb _)))))))
      ·refine AStep.mk' rfl rfl trivial (q_sliceI Tryz.underlying153 Tryz.sizeOf157 rfl (l := 1) (r := []) (.inr ⟨_, _, rfl, rfl⟩) (.inl ⟨rfl, rfl⟩) (by simp) (by simp) rfl _) ?_
       refine TxA.one (i := 1) (by decide +kernel) ?_
       refine AStep.mk' rfl rfl trivial (q_indexI Tryz.underlying153 Tryz.sizeOf157 rfl rfl (by decide) rfl _) ?_
       refine TxA.one (i := 2) (by decide +kernel) ?_
       refine AStep.mk' rfl rfl trivial (q_fieldI (n := 0) 54 1 Tryz.underlying157 Tryz.sizeOf54 rfl rfl rfl _) ?_
       refine TxA.one (i := 3) (by decide +kernel) ?_
       refine AStep.mk' rfl rfl trivial (q_loadI Tryz.isAgg54 rfl _) ?_
       refine TxA.one (i := 6) (by decide +kernel) ?_
       refine AStep.mk' rfl rfl trivial (q_indexBA (o2 := 1) Tryz.underlying242 Tryz.sizeOf54 rfl rfl (by decide) (by decide) rfl _) ?_
       refine TxA.one (i := 7) (by decide +kernel) ?_
       refine AStep.mk' rfl rfl trivial (q_store1 Tryz.sizeOf54 rfl rfl rfl rfl (by first | (simp; done) | decide)) ?_
       refine TxA.one (i := 8) (by decide +kernel) ?_
       refine AStep.mk' rfl rfl trivial (q_store1 Tryz.sizeOf153 rfl rfl rfl rfl (by first | (simp; done) | decide)) ?_
       exact TxA.nil (by decide +kernel) (Le.mk (ps_ok (Y.has _) rfl) (.same rfl rfl (.same rfl rfl (.same rfl rfl (.same rfl rfl (.same rfl rfl .nil))))) (.eq rfl (by first | rfl | (simp; done)) rfl (.eq rfl (by first | rfl | (simp; done)) rfl (.eq rfl (by first | rfl | (simp; done)) rfl (.tail (tail_ok (own := [(7302, _), (7300, _), (7301, _)]) (own' := [(7302, _), (7300, _), (7301, _)]) rfl (Y.free _) (Y.okb _)))))))
    ·refine AStep.mk' rfl rfl trivial (q_load1 Tryz.isAgg153 rfl rfl rfl) ?_
     refine TxA.two (i := 0) (j := 5) (by decide +kernel) ?_ ?_
     ·refine AStep.mk' rfl rfl trivial (q_load1 Tryz.isAgg153 rfl rfl rfl) ?_
      refine TxA.two (i := 1) (j := 5) (by decide +kernel) ?_ ?_
      ·refine AStep.mk' rfl rfl trivial (q_indexI Tryz.underlying153 Tryz.sizeOf157 rfl rfl (by decide) rfl _) ?_
       refine TxA.two (i := 2) (j := 5) (by decide +kernel) ?_ ?_
       ·refine AStep.mk' rfl rfl trivial (q_fieldI (n := 0) 54 1 Tryz.underlying157 Tryz.sizeOf54 rfl rfl rfl _) ?_
        refine TxA.two (i := 3) (j := 5) (by decide +kernel) ?_ ?_
        ·refine AStep.mk' rfl rfl trivial (q_loadI Tryz.isAgg54 rfl _) ?_
         refine TxA.two (i := 5) (j := 6) (by decide +kernel) ?_ ?_
         ·refine AStep.mk' rfl rfl trivial (q_sliceI Tryz.underlying153 Tryz.sizeOf157 rfl (l := 1) (r := []) (.inr ⟨_, _, rfl, rfl⟩) (.inl ⟨rfl, rfl⟩) (by simp) (by simp) rfl _) ?_
          refine TxA.one (i := 6) (by decide +kernel) ?_
          refine AStep.mk' rfl rfl trivial (q_indexBA (o2 := 1) Tryz.underlying242 Tryz.sizeOf54 rfl rfl (by decide) (by decide) rfl _) ?_
          refine TxA.one (i := 7) (by decide +kernel) ?_
          refine AStep.mk' rfl rfl trivial (q_store1 Tryz.sizeOf54 rfl rfl rfl rfl (by first | (simp; done) | decide)) ?_
          refine TxA.one (i := 8) (by decide +kernel) ?_
          refine AStep.mk' rfl rfl trivial (q_store1 Tryz.sizeOf153 rfl rfl rfl rfl (by first | (simp; done) | decide)) ?_
          exact TxA.nil (by decide +kernel) (Le.mk (ps_ok (Y.has _) rfl) (.same rfl rfl (.same rfl rfl (.same rfl rfl (.same rfl rfl (.same rfl rfl .nil))))) (.eq rfl (by first | rfl | (simp; done)) rfl (.eq rfl (by first | rfl | (simp; done)) rfl (.eq rfl (by first | rfl | (simp; done)) rfl (.tail (tail_ok (own := [(7302, _), (7300, _), (7301, _)]) (own' := [(7302, _), (7300, _), (7301, _)]) rfl (Y.free _) (Y.okb _)))))))
         ·refine AStep.mk' rfl rfl trivial (q_indexBA (o2 := 1) Tryz.underlying242 Tryz.sizeOf54 rfl rfl (by decide) (by decide) rfl _) ?_
          refine TxA.two (i := 5) (j := 7) (by decide +kernel) ?_ ?_
          ·refine AStep.mk' rfl rfl trivial (q_sliceI Tryz.underlying153 Tryz.sizeOf157 rfl (l := 1) (r := []) (.inr ⟨_, _, rfl, rfl⟩) (.inl ⟨rfl, rfl⟩) (by simp) (by simp) rfl _) ?_
           refine TxA.one (i := 7) (by decide +kernel) ?_
           refine AStep.mk' rfl rfl trivial (q_store1 Tryz.sizeOf54 rfl rfl rfl rfl (by first | (simp; done) | decide)) ?_
           refine TxA.one (i := 8) (by decide +kernel) ?_
           refine AStep.mk' rfl rfl trivial (q_store1 Tryz.sizeOf153 rfl rfl rfl rfl (by first | (simp; done) | decide)) ?_
           exact TxA.nil (by decide +kernel) (Le.mk (ps_ok (Y.has _) rfl) (.same rfl rfl (.same rfl rfl (.same rfl rfl (.same rfl rfl (.same rfl rfl .nil))))) (.eq rfl (by first | rfl | (simp; done)) rfl (.eq rfl (by first | rfl | (simp; done)) rfl (.eq rfl (by first | rfl | (simp; done)) rfl (.tail (tail_ok (own := [(7302, _), (7300, _), (7301, _)]) (own' := [(7302, _), (7300, _), (7301, _)]) rfl (Y.free _) (Y.okb _)))))))
          ·refine AStep.mk' rfl rfl trivial (q_store1 Tryz.sizeOf54 rfl rfl rfl rfl (by first | (simp; done) | decide)) ?_
           refine TxA.one (i := 5) (by decide +kernel) ?_
           refine AStep.mk' rfl rfl trivial (q_sliceI Tryz.underlying153 Tryz.sizeOf157 rfl (l := 1) (r := []) (.inr ⟨_, _, rfl, rfl⟩) (.inl ⟨rfl, rfl⟩) (by simp) (by simp) rfl _) ?_
           refine TxA.one (i := 8) (by decide +kernel) ?_
           refine AStep.mk' rfl rfl trivial (q_store1 Tryz.sizeOf153 rfl rfl rfl rfl (by first | (simp; done) | decide)) ?_
           exact TxA.nil (by decide +kernel) (Le.mk (ps_ok (Y.has _) rfl) (.same rfl rfl (.same rfl rfl (.same rfl rfl (.same rfl rfl (.same rfl rfl .nil))))) (.eq rfl (by first | rfl | (simp; done)) rfl (.eq rfl (by first | rfl | (simp; done)) rfl (.eq rfl (by first | rfl | (simp; done)) rfl (.tail (tail_ok (own := [(7302, _), (7300, _), (7301, _)]) (own' := [(7302, _), (7300, _), (7301, _)]) rfl (Y.free _) (Y.okb _)))))))
        ·refine AStep.mk' rfl rfl trivial (q_sliceI Tryz.underlying153 Tryz.sizeOf157 rfl (l := 1) (r := []) (.inr ⟨_, _, rfl, rfl⟩) (.inl ⟨rfl, rfl⟩) (by simp) (by simp) rfl _) ?_
         refine TxA.one (i := 3) (by decide +kernel) ?_
         refine AStep.mk' rfl rfl trivial (q_loadI Tryz.isAgg54 rfl _) ?_
         refine TxA.one (i := 6) (by decide +kernel) ?_
         refine AStep.mk' rfl rfl trivial (q_indexBA (o2 := 1) Tryz.underlying242 Tryz.sizeOf54 rfl rfl (by decide) (by decide) rfl _) ?_
         refine TxA.one (i := 7) (by decide +kernel) ?_
         refine AStep.mk' rfl rfl trivial (q_store1 Tryz.sizeOf54 rfl rfl rfl rfl (by first | (simp; done) | decide)) ?_
         refine TxA.one (i := 8) (by decide +kernel) ?_
         refine AStep.mk' rfl rfl trivial (q_store1 Tryz.sizeOf153 rfl rfl rfl rfl (by first | (simp; done) | decide)) ?_
         exact TxA.nil (by decide +kernel) (Le.mk (ps_ok (Y.has _) rfl) (.same rfl rfl (.same rfl rfl (.same rfl rfl (.same rfl rfl (.same rfl rfl .nil))))) (.eq rfl (by first | rfl | (simp; done)) rfl (.eq rfl (by first | rfl | (simp; done)) rfl (.eq rfl (by first | rfl | (simp; done)) rfl (.tail (tail_ok (own := [(7302, _), (7300, _), (7301, _)]) (own' := [(7302, _), (7300, _), (7301, _)]) rfl (Y.free _) (Y.okb _)))))))
       ·refine AStep.mk' rfl rfl trivial (q_sliceI Tryz.underlying153 Tryz.sizeOf157 rfl (l := 1) (r := []) (.inr ⟨_, _, rfl, rfl⟩) (.inl ⟨rfl, rfl⟩) (by simp) (by simp) rfl _) ?_
        refine TxA.one (i := 2) (by decide +kernel) ?_
        refine AStep.mk' rfl rfl trivial (q_fieldI (n := 0) 54 1 Tryz.underlying157 Tryz.sizeOf54 rfl rfl rfl _) ?_
        refine TxA.one (i := 3) (by decide +kernel) ?_
        refine AStep.mk' rfl rfl trivial (q_loadI Tryz.isAgg54 rfl _) ?_
        refine TxA.one (i := 6) (by decide +kernel) ?_
        refine AStep.mk' rfl rfl trivial (q_indexBA (o2 := 1) Tryz.underlying242 Tryz.sizeOf54 rfl rfl (by decide) (by decide) rfl _) ?_
        refine TxA.one (i := 7) (by decide +kernel) ?_
        refine AStep.mk' rfl rfl trivial (q_store1 Tryz.sizeOf54 rfl rfl rfl rfl (by first | (simp; done) | decide)) ?_
        refine TxA.one (i := 8) (by decide +kernel) ?_
        refine AStep.mk' rfl rfl trivial (q_store1 Tryz.sizeOf153 rfl rfl rfl rfl (by first | (simp; done) | decide)) ?_
        exact TxA.nil (by decide +kernel) (Le.mk (ps_ok (Y.has _) rfl) (.same rfl rfl (.same rfl rfl (.same rfl rfl (.same rfl rfl (.same rfl rfl .nil))))) (.eq rfl (by first | rfl | (simp; done)) rfl (.eq rfl (by first | rfl | (simp; done)) rfl (.eq rfl (by first | rfl | (simp; done)) rfl (.tail (tail_ok (own := [(7302, _), (7300, _), (7301, _)]) (own' := [(7302, _), (7300, _), (7301, _)]) rfl (Y.free _) (Y.okb _)))))))
      ·refine AStep.mk' rfl rfl trivial (q_sliceI Tryz.underlying153 Tryz.sizeOf157 rfl (l := 1) (r := []) (.inr ⟨_, _, rfl, rfl⟩) (.inl ⟨rfl, rfl⟩) (by simp) (by simp) rfl _) ?_
       refine TxA.one (i := 1) (by decide +kernel) ?_
       refine AStep.mk' rfl rfl trivial (q_indexI Tryz.underlying153 Tryz.sizeOf157 rfl rfl (by decide) rfl _) ?_
       refine TxA.one (i := 2) (by decide +kernel) ?_
       refine AStep.mk' rfl rfl trivial (q_fieldI (n := 0) 54 1 Tryz.underlying157 Tryz.sizeOf54 rfl rfl rfl _) ?_
       refine TxA.one (i := 3) (by decide +kernel) ?_
       refine AStep.mk' rfl rfl trivial (q_loadI Tryz.isAgg54 rfl _) ?_
       refine TxA.one (i := 6) (by decide +kernel) ?_
       refine AStep.mk' rfl rfl trivial (q_indexBA (o2 := 1) Tryz.underlying242 Tryz.sizeOf54 rfl rfl (by decide) (by decide) rfl _) ?_
       refine TxA.one (i := 7) (by decide +kernel) ?_
       refine AStep.mk' rfl rfl trivial (q_store1 Tryz.sizeOf54 rfl rfl rfl rfl (by first | (simp; done) | decide)) ?_
       refine TxA.one (i := 8) (by decide +kernel) ?_
       refine AStep.mk' rfl rfl trivial (q_store1 Tryz.sizeOf153 rfl rfl rfl rfl (by first | (simp; done) | decide)) ?_
       exact TxA.nil (by decide +kernel) (Le.mk (ps_ok (Y.has _) rfl) (.same rfl rfl (.same rfl rfl (.same rfl rfl (.same rfl rfl (.same rfl rfl .nil))))) (.eq rfl (by first | rfl | (simp; done)) rfl (.eq rfl (by first | rfl | (simp; done)) rfl (.eq rfl (by first | rfl | (simp; done)) rfl (.tail (tail_ok (own := [(7302, _), (7300, _), (7301, _)]) (own' := [(7302, _), (7300, _), (7301, _)]) rfl (Y.free _) (Y.okb _)))))))
     ·refine AStep.mk' rfl rfl trivial (q_sliceI Tryz.underlying153 Tryz.sizeOf157 rfl (l := 1) (r := []) (.inr ⟨_, _, rfl, rfl⟩) (.inl ⟨rfl, rfl⟩) (by simp) (by simp) rfl _) ?_
      refine TxA.one (i := 0) (by decide +kernel) ?_
      refine AStep.mk' rfl rfl trivial (q_load1 Tryz.isAgg153 rfl rfl rfl) ?_
      refine TxA.one (i := 1) (by decide +kernel) ?_
      refine AStep.mk' rfl rfl trivial (q_indexI Tryz.underlying153 Tryz.sizeOf157 rfl rfl (by decide) rfl _) ?_
      refine TxA.one (i := 2) (by decide +kernel) ?_
      refine AStep.mk' rfl rfl trivial (q_fieldI (n := 0) 54 1 Tryz.underlying157 Tryz.sizeOf54 rfl rfl rfl _) ?_
      refine TxA.one (i := 3) (by decide +kernel) ?_
      refine AStep.mk' rfl rfl trivial (q_loadI Tryz.isAgg54 rfl _) ?_
      refine TxA.one (i := 6) (by decide +kernel) ?_
      refine AStep.mk' rfl rfl trivial (q_indexBA (o2 := 1) Tryz.underlying242 Tryz.sizeOf54 rfl rfl (by decide) (by decide) rfl _) ?_
      refine TxA.one (i := 7) (by decide +kernel) ?_
      refine AStep.mk' rfl rfl trivial (q_store1 Tryz.sizeOf54 rfl rfl rfl rfl (by first | (simp; done) | decide)) ?_
      refine TxA.one (i := 8) (by decide +kernel) ?_
      refine AStep.mk' rfl rfl trivial (q_store1 Tryz.sizeOf153 rfl rfl rfl rfl (by first | (simp; done) | decide)) ?_
      exact TxA.nil (by decide +kernel) (Le.mk (ps_ok (Y.has _) rfl) (.same rfl rfl (.same rfl rfl (.same rfl rfl (.same rfl rfl (.same rfl rfl .nil))))) (.eq rfl (by first | rfl | (simp; done)) rfl (.eq rfl (by first | rfl | (simp; done)) rfl (.eq rfl (by first | rfl | (simp; done)) rfl (.tail (tail_ok (own := [(7302, _), (7300, _), (7301, _)]) (own' := [(7302, _), (7300, _), (7301, _)]) rfl (Y.free _) (Y.okb _)))))))
   ·skip
    refine Run.seq (Run.regT ?_)
    refine Tx.q rfl trivial (q_move rfl _) ?_
    refine Tx.q rfl trivial (q_move rfl _) ?_
    refine Tx.q rfl trivial (q_loadW Tryz.isAgg242 Tryz.sizeOf242 rfl rfl rfl) ?_
    refine Tx.weak (Le.mk (obs' := [(7300, _), (7301, _)] ++ B ([])) (ps_ok (Y.has _) rfl) (show EnvLe _ _ [(0, _), (1, _), (2, _), (4, _), (78, _), (79, _), (80, _)] from (.same rfl rfl (.same rfl rfl (.same rfl rfl (.same rfl rfl (.same rfl rfl (.same rfl rfl (.same rfl rfl .nil)))))))) (.cons (i := 7300) rfl rfl (.cons (i := 7301) rfl rfl (.tail (tail_ok (own := [(7302, _), (7300, _), (7301, _)]) (own' := [(7300, _), (7301, _)]) rfl (Y.free _) (Y.okb _)))))) ?_
    refine Tx.y Y (own := [(7300, _), (7301, _)]) (pre := []) (env' := [(0, _), (1, _), (2, _), (4, _), (78, _), (79, _), (80, _)]) c rfl rfl rfl trivial rfl rfl rfl rfl rfl rfl (.cons rfl rfl (.cons rfl rfl (.cons rfl rfl (.cons rfl rfl (.cons rfl rfl (.cons rfl rfl (.cons rfl rfl .nil))))))) ?_ (fun o hX => ?_)
    ·skip
     refine Tx.q rfl trivial (q_not rfl _) ?_
     refine Tx.nil ?_
     refine Run.condF rfl rfl ?_
     refine Run.skip ?_
     refine Run.nil (bq_norm ?_)
     refine Run.nil (tq_norm ?_)
     exact ⟨⟨true⟩, by exact Nat.zero_lt_one, Le.mk (ps_ok (Y.has _) rfl) (.same rfl rfl (.same rfl rfl (.same rfl rfl .nil))) (.eq rfl (by first | rfl | (simp; done)) rfl (.eq rfl (by first | rfl | (simp; done)) rfl (.tail (tail_ok (own := [(7300, _), (7301, _)]) (own' := [(7300, _), (7301, _)]) rfl (Y.free _) (Y.okb _)))))⟩
    ·skip
     refine Tx.q rfl trivial (q_not rfl _) ?_
     refine Tx.nil ?_
     refine Run.condT rfl rfl ?_
     refine Run.ret (bq_ret (tq_ret (bq_ret (?_))))
     exact retY_x (.inl rfl) o hX (own_get (own := [(7300, _), (7301, _)]) rfl (Y.freeX _ hX))
  ·skip
   refine Run.seq (Run.seq (Run.reg [.r, .p, .p, .p, .r, .p, .p, .p] ?_))
   refine .R rfl (q_load1 Tryz.isAgg153 rfl rfl rfl) <| .P rfl (q_lenNil Tryz.underlying153 rfl) <| .P rfl (q_gtr rfl rfl) <| .mv rfl rfl <| .r rfl (on_of rfl rfl rfl (rfl)) (q_load1 Tryz.isAgg153 rfl rfl rfl) <| .p rfl (on_of rfl rfl rfl (rfl)) (fun _ => q_lenI Tryz.underlying153 rfl _) <| .p rfl (on_of rfl rfl rfl (rfl)) (fun _ => q_gtr rfl rfl _) <| .P rfl (q_pickF rfl (rfl) rfl) <| .nil ?_
   refine Run.condF rfl (rfl) ?_
   refine Run.exit (tq_exit (bq_exit ?_))
   refine Run.nil ?_
   exact retY_fin (.inr rfl) ([c]) (by rfl) (own_get (own := [(7300, _), (7301, _)]) rfl (Y.free _))
theorem bothF2_ok (c s : Str) : FcO Tryz.prog 209 [.raw (.slice none 0 0), .snap 2 true [[.str c, .str s]]] [] (.fn (.func 254) [] [.box 7300 0, .box 7301 0]) [(7300, .cells [.raw (.slice none 0 0)]), (7301, .cells [.snap 2 true [[.str c, .str s]]])] := by
 refine FcO.mk' [4] Tryz.func209 rfl Tryz.ntmps209 rfl rfl rfl (fun t w => results_tmp Tryz.results209 t _ w) ?_
 refine Run.seq (Run.reg [.w, .w, .p] ?_)
 refine .W rfl (q_box1 7300 rfl rfl rfl) <| .W rfl (q_box1 7301 rfl rfl rfl) <| .ag rfl rfl <| .nil ?_
 refine Run.seq (Run.reg [.p, .p] ?_)
 refine .P rfl (q_makeFunc (xs := []) (ys := _) rfl rfl) <| .ag rfl rfl <| .nil ?_
 refine Run.ret (?_)
 exact retO1 rfl (by exact Sub.refl _) (.eq rfl (by rfl) rfl (.eq rfl (by rfl) rfl .nil))
theorem addS_ne {s : Str} (h : val s ≠ 0) : addS [] s ≠ [] := by
 have : val [] = 0 := rfl
 unfold addS; rw [this, ne_eq, ofInt_nil]; omega
theorem sum2_ok (c s : Str) (hv : val s ≠ 0) (hs : s.length ≤ 4000) : Fc Tryz.prog 167 [.raw (.slice none 0 0), .snap 2 true [[.str c, .str s]]] (.tup [.snap 2 false [[.str c, .str (addS [] s)]], .i 0]) := by
 refine Fc.mk' [4, 5] Tryz.func167 rfl Tryz.ntmps167 rfl rfl rfl (fun t w => results_tmp2 Tryz.results167 t _ w) ?_
 refine Run.seq (Run.reg [.p, .p] ?_)
 refine .ag rfl rfl <| .ag rfl rfl <| .nil ?_
 refine Run.seq (Run.reg [.w] ?_)
 refine .W rfl (q_alloc 0 Tryz.zeroValue153 rfl) <| .nil ?_
 refine Run.seq (Run.seq (Run.reg [.p, .p, .w] ?_))
 refine .mv rfl rfl <| .mv rfl rfl <| .W rfl (q_callO Tryz.call209 rfl (bothF2_ok _ _) .nil rfl rfl) <| .nil ?_
 refine Run.block ?_
 refine Run.rangeF (α := Str) 7900 [0] [(0, _), (1, _), (4, _), (5, _), (6, _), (10, _), (11, _)] (fun (pre : List (Str)) => [(0, .cells [.gs 1 pre.length]), (1, .arr 2 (pre.map fun x => [.str x, .str (addS [] s)]))]) (fun _ _ => False) rfl Tryz.call254 (bothY2_ok c s) (env1 := [(0, _), (1, _), (4, _), (5, _), (6, _), (10, _), (11, _), (12, _)]) ((Le.own0 1 2).trans <| (Le.subO 0 0 rfl rfl (Sub.gsNil 1)).trans <| Le.mk (obs' := [(7300, _), (7301, _)] ++ (fun (pre : List (Str)) => [(0, .cells [.gs 1 pre.length]), (1, .arr 2 (pre.map fun x => [.str x, .str (addS [] s)]))]) []) rfl (show EnvLe _ _ [(0, _), (1, _), (4, _), (5, _), (6, _), (10, _), (11, _), (12, _)] from (.same rfl rfl (.same rfl rfl (.same rfl rfl (.same rfl rfl (.same rfl rfl (.same rfl rfl (.same rfl rfl (.same rfl rfl .nil))))))))) (.cons (i := 7300) rfl rfl (.cons (i := 7301) rfl rfl (.eq rfl (by first | rfl | (simp; done)) rfl (.eq rfl (by first | rfl | (simp; done)) rfl .nil))))) rfl rfl (fun _ => rfl) (.cons rfl rfl (.cons rfl rfl (.cons rfl rfl (.cons rfl rfl (.cons rfl rfl (.cons rfl rfl (.cons rfl rfl .nil))))))) rfl (fun _ => rfl) (by rintro j o h; exact h.elim) (fun _ => Obs.okB_get rfl) (by rintro j o h; exact h.elim) (fun _ => freeB_get rfl) (by rintro j o h; exact h.elim) (by decide) rfl (fun pre x hok => ?_) (fun xs hfin => ?_) (fun _ _ h => h.elim)
 ·skip
  have hpl := congrArg List.length hok
  simp only [List.length_append, List.length_singleton] at hpl
  refine Run.seq (Run.reg [.p] ?_)
  refine .ag rfl rfl <| .nil ?_
  refine Run.reg [.w, .w] ?_
  refine .W rfl (q_alloc 2 Tryz.zeroValue242 rfl) <| .W rfl (q_storeW Tryz.sizeOf242 rfl rfl rfl rfl rfl rfl) <| .nil ?_
  refine Run.nil ⟨rfl, ?_⟩
  refine Run.block ?_
  refine Run.seq (Run.reg [.p, .r, .p, .r, .p, .p] ?_)
  refine .P rfl (q_indexBA (o2 := 0) Tryz.underlying242 Tryz.sizeOf54 rfl rfl (by decide) (by decide) rfl) <| .R rfl (q_load1 Tryz.isAgg54 rfl rfl rfl) <| .P rfl (q_indexBA (o2 := 1) Tryz.underlying242 Tryz.sizeOf54 rfl rfl (by decide) (by decide) rfl) <| .R rfl (q_load1 Tryz.isAgg54 rfl rfl rfl) <| .P rfl (q_call Tryz.call27 rfl (add_ok _ _ (by simp) hs)) <| .ag rfl rfl <| .nil ?_
  refine Run.seq (Run.reg [.p, .p] ?_)
  refine .mv rfl rfl <| .P rfl (q_neqS rfl rfl) <| .nil ?_
  refine Run.condT rfl (by simpa using addS_ne hv) ?_
  refine Run.reg [.r, .p, .p, .p, .p, .w, .w] ?_
  refine .R rfl (q_load1 Tryz.isAgg153 rfl rfl rfl) <| .mv rfl rfl <| .mv rfl rfl <| .P rfl (q_build (pl := #[(0, 1), (1, 1)]) Tryz.underlying157 Tryz.zeroValue157 (fun w => by kernel_rfl) rfl rfl) <| .P rfl (q_buildSlice' (n := 1) (rows := [[.str x, .str (addS [] s)]]) Tryz.underlying153 Tryz.sizeOf157 rfl rfl rfl Tryz.zeroValue157 rfl rfl rfl rfl rfl rfl rfl) <| .W rfl (q_append 3 Tryz.underlying153 Tryz.underlying153 Tryz.sizeOf157 Tryz.typeInfo157 Tryz.zeroValue157 rfl (bt := 32) rfl rfl rfl rfl (by simp) rfl rfl (by simp; omega)) <| .W rfl (q_store1 Tryz.sizeOf153 rfl rfl rfl rfl (by first | (simp; done) | decide)) <| .nil ?_
  refine Run.nil (bq_norm ?_)
  refine Run.nil ?_
  exact ⟨rfl, (Le.mk (env' := []) (obs' := [(7900, _), (0, _), (3, _)]) rfl .nil (.cons (i := 7900) rfl rfl (.cons (i := 0) rfl rfl (.cons (i := 3) rfl rfl .nil)))).trans <| (Le.renO 0 0 3 1 rfl rfl rfl (by simp) rfl).trans <| Le.mk rfl .nil (.cons rfl rfl (.eq rfl (by first | rfl | (simp; done) | (simp; omega)) rfl (.eq rfl (by first | rfl | (simp; done) | (simp; omega)) rfl .nil)))⟩
 ·skip
  subst hfin
  refine Run.nil (bq_norm ?_)
  refine Run.seq (Run.seq (Run.reg [.r, .p, .p] ?_))
  refine .R rfl (q_load1 Tryz.isAgg153 rfl rfl rfl) <| .P rfl (q_lenG Tryz.underlying153 rfl) <| .P rfl (q_gtr rfl rfl) <| .nil ?_
  refine Run.condF rfl (by simp) ?_
  refine Run.skip ?_
  refine Run.seq (Run.reg [.r, .p, .p] ?_)
  refine .R rfl (q_load1 Tryz.isAgg153 rfl rfl rfl) <| .ag rfl rfl <| .ag rfl rfl <| .nil ?_
  refine Run.weak (Le.freeze 4 1 rfl rfl (by simp)) ?_
  refine Run.ret (?_)
  exact ret2 rfl rfl (Sub.snap (by rfl)) (Sub.int (by rfl))
theorem put2_ok (c s : Str) (hc : isCode c = true) (hn : checkNum s = 0) (hv : val s ≠ 0) (hs : s.length ≤ 4000) : Fc Tryz.prog 116 [.raw (.slice none 0 0), .agg [.str c, .str s]] (.tup [.snap 2 false [[.str c, .str (addS [] s)]], .i 0]) := by
 refine Fc.mk' [4, 5] Tryz.func116 rfl Tryz.ntmps116 rfl rfl rfl (fun t w => results_tmp2 Tryz.results116 t _ w) ?_
 refine Run.seq (Run.reg [.w, .p, .p] ?_)
 refine .W rfl (q_boxA 0 rfl rfl) <| .ag rfl rfl <| .ag rfl rfl <| .nil ?_
 refine Run.seq ?_
 refine Run.block ?_
 refine Run.seq (Run.reg [.p, .p, .p, .p] ?_)
 refine .mv rfl rfl <| .P rfl (q_call Tryz.call165 rfl moneyNil_ok) <| .P rfl (q_neq rfl rfl) <| .ag rfl rfl <| .nil ?_
 refine Run.condF rfl (rfl) ?_
 refine Run.seq (Run.reg [.p, .r, .p, .p, .p] ?_)
 refine .P rfl (q_fieldB (n := 0) 9 0 Tryz.underlying157 Tryz.sizeOf9 rfl rfl) <| .R rfl (q_load1 Tryz.isAgg9 rfl rfl rfl) <| .P rfl (q_call Tryz.call166 rfl (isCode_ok _)) <| .P rfl (q_not rfl) <| .ag rfl rfl <| .nil ?_
 refine Run.condF rfl (by simp [hc]) ?_
 refine Run.seq (Run.reg [.p, .r, .p, .p, .p] ?_)
 refine .P rfl (q_fieldB (n := 0) 54 1 Tryz.underlying157 Tryz.sizeOf54 rfl rfl) <| .R rfl (q_load1 Tryz.isAgg54 rfl rfl rfl) <| .P rfl (q_call Tryz.call117 rfl (intCheck_ok _)) <| .P rfl (q_neq rfl rfl) <| .ag rfl rfl <| .nil ?_
 refine Run.condF rfl (by simp [hn]) ?_
 refine Run.skip ?_
 refine Run.nil (bq_norm ?_)
 refine Run.seq (Run.reg [.p, .r, .p, .p, .p, .p, .p, .p] ?_)
 refine .mv rfl rfl <| .R rfl (q_loadW Tryz.isAgg157 Tryz.sizeOf157 rfl rfl rfl) <| .P rfl (q_buildSlice' (n := 1) (rows := [[.str c, .str s]]) Tryz.underlying153 Tryz.sizeOf157 rfl rfl rfl Tryz.zeroValue157 rfl rfl rfl rfl rfl rfl rfl) <| .P rfl (q_call Tryz.call167 rfl (sum2_ok _ _ (by first | assumption | omega | (simp at *; omega)) (by first | assumption | omega | (simp at *; omega)))) <| .P rfl (q_extract rfl rfl) <| .P rfl (q_extract rfl rfl) <| .ag rfl rfl <| .ag rfl rfl <| .nil ?_
 refine Run.ret (?_)
 exact ret2 rfl rfl (Sub.snap (by rfl)) (Sub.int (by rfl))
end Go.T
namespace Go.T
open Go Go.Proofs
/-! Posted entries. -/
def okP (p : Posted) : Bool := decide (checkE p.entry = 0) && validDay p.day && decide (p.entry.day ≤ p.day) && decide (1 ≤ p.known) && isName p.by_
def adjK : List Posted → Bool
  | x :: y :: r => decide (x.known ≤ y.known) && adjK (y :: r)
  | _ => true
def okPs (l : List Posted) : Bool := decide (l.length ≤ 10000) && l.all okP && adjK l
theorem adjK_snoc : ∀ (l : List Posted) (x : Posted), adjK (l ++ [x]) = (adjK l && (decide (l.length = 0) || decide ((l.getLastD default).known ≤ x.known)))
  | [], x => by simp [adjK]
  | [y], x => by simp [adjK]
  | y :: z :: r, x => by
    have ih := adjK_snoc (z :: r) x
    simp only [List.cons_append] at *
    simp only [adjK, ih, Bool.and_assoc]
    simp
theorem adjK_app : ∀ (l r : List Posted), adjK (l ++ r) = true → adjK l = true
  | [], _, _ => rfl
  | [x], _, _ => rfl
  | x :: y :: l, r, h => by
    simp only [List.cons_append, adjK, Bool.and_eq_true] at *
    exact ⟨h.1, adjK_app (y :: l) r (by simpa using h.2)⟩
theorem okPs_bad {l pre rest : List Posted} {x : Posted} (hx : l = pre ++ x :: rest) (h : okP x = false ∨ (0 < pre.length ∧ x.known < (pre.getLastD default).known)) : okPs l = false := by
  subst hx
  rw [Bool.eq_false_iff]
  intro hp
  simp only [okPs, Bool.and_eq_true, List.all_append, List.all_cons] at hp
  rcases h with h | ⟨h1, h2⟩
  · have := hp.1.2.2.1; rw [h] at this; cases this
  · have h3 : adjK ((pre ++ [x]) ++ rest) = true := by simpa using hp.2
    have h4 := adjK_app _ _ h3
    rw [adjK_snoc] at h4
    simp only [Bool.and_eq_true, Bool.or_eq_true, decide_eq_true_eq] at h4
    omega
theorem okPs_end {l pre : List Posted} (hx : l = pre ++ []) (h : pre.all okP = true ∧ adjK pre = true) (hl : l.length ≤ 10000) : okPs l = true := by
  simp only [List.append_nil] at hx
  subst hx
  simp [okPs, hl, h.1, h.2]
theorem okPs_step {pre : List Posted} {x : Posted} (h : pre.all okP = true ∧ adjK pre = true) (h1 : okP x = true) (h2 : ¬ (0 < pre.length ∧ x.known < (pre.getLastD default).known)) : (pre ++ [x]).all okP = true ∧ adjK (pre ++ [x]) = true := by
  refine ⟨by simp [List.all_append, h.1, h1], ?_⟩
  rw [adjK_snoc, h.2]
  simp only [Bool.true_and, Bool.or_eq_true, decide_eq_true_eq]
  omega
def upTo (d : Int) (l : List Posted) : List Entry := (l.filter fun p => decide (p.day ≤ d)).map (·.entry)
def trialP (d : Int) (l : List Posted) : List Balance := trialB 84005 (upTo d l)
def smallPs (l : List Posted) : Prop := ∀ p ∈ l, smallE p.entry
theorem upTo_snoc (d : Int) (l : List Posted) (x : Posted) : upTo d (l ++ [x]) = upTo d l ++ (if x.day ≤ d then [x.entry] else []) := by
  unfold upTo
  by_cases h : x.day ≤ d <;> simp [List.filter_append, h]
theorem upTo_len (d : Int) (l : List Posted) : (upTo d l).length ≤ l.length := by simp only [upTo, List.length_map]; exact List.length_filter_le _ _
theorem upTo_mem {d : Int} {l : List Posted} {e : Entry} (h : e ∈ upTo d l) : ∃ p ∈ l, p.entry = e := by
  obtain ⟨p, hp, rfl⟩ := List.mem_map.1 h
  exact ⟨p, (List.mem_filter.1 hp).1, rfl⟩
theorem okPs_mem {l : List Posted} (h : okPs l = true) : ∀ p ∈ l, okP p = true := by
  simp only [okPs, Bool.and_eq_true] at h
  exact List.all_eq_true.1 h.1.2
theorem okP_parts {p : Posted} (h : okP p = true) : checkE p.entry = 0 ∧ validDay p.day = true ∧ p.entry.day ≤ p.day ∧ 1 ≤ p.known ∧ isName p.by_ = true := by
  simp only [okP, Bool.and_eq_true, decide_eq_true_eq] at h
  exact ⟨h.1.1.1.1, h.1.1.1.2, h.1.1.2, h.1.2, h.2⟩
theorem upTo_valid {d : Int} {l : List Posted} (h : okPs l = true) : validE (upTo d l) = true := by
  unfold validE
  rw [List.all_eq_true]
  intro e he
  obtain ⟨p, hp, rfl⟩ := upTo_mem he
  simpa using (okP_parts (okPs_mem h p hp)).1
/-! Balances in order. -/
structure fldB (b : Balance) : Prop where
  code : checkCode b.account = 0
  cur : isCode b.currency = true
  num : checkNum b.amount = 0
  v : -10000000000000000000000 < val b.amount ∧ val b.amount < 10000000000000000000000
  key : okPair (bkey b)
  len : b.amount.length ≤ 31
structure BalOK (l : List Balance) : Prop where
  bal : IsBal l
  fld : ∀ b ∈ l, fldB b
  len : l.length ≤ 100000
theorem checkNum_ofInt (n : Int) : checkNum (ofInt n) = 0 := by
  have : canon (ofInt n) = ofInt n := by
    unfold canon
    rw [digits_ofInt]
    unfold ofInt
    by_cases h : n < 0 <;> simp [h]
  simp [checkNum, this]
theorem checkLines_mem : ∀ (l pre : List Line), checkLines pre l = 0 → ∀ x ∈ l, checkFields x = 0 ∧ x.amount ≠ []
  | [], _, _, x, hx => by simp at hx
  | y :: l, pre, h, x, hx => by
    simp only [checkLines] at h
    split at h
    · rename_i h1; exact absurd h h1
    · rename_i h1
      split at h
      · omega
      · rename_i h2
        split at h
        · omega
        · rcases List.mem_cons.1 hx with rfl | hx
          · exact ⟨by simpa using h1, h2⟩
          · exact checkLines_mem l _ h x hx
theorem checkFields_parts {x : Line} (h : checkFields x = 0) : checkCode x.account = 0 ∧ isCode x.currency = true ∧ checkNum x.amount = 0 := by
  unfold checkFields at h
  split at h
  · omega
  · rename_i h1
    split at h
    · rename_i h2
      split at h
      · omega
      · rename_i h3; exact ⟨by simpa using h1, h2, by simpa using h3⟩
    · omega
theorem checkE_line {e : Entry} (h : checkE e = 0) : ∀ x ∈ e.lines, checkFields x = 0 ∧ x.amount ≠ [] := checkLines_mem e.lines [] (checkE_parts.1 h).2.2.2.1
theorem linesM_keys {m : List (Key × Str)} {ls : List Line} {k : Key} (h : k ∈ (linesM m ls).map (·.1)) : k ∈ m.map (·.1) ∨ ∃ x ∈ ls, lkey x = k := by
  induction ls using rev_ind with
  | h0 => exact .inl h
  | h1 ls x ih =>
    rw [linesM_snoc, addG, keys_setG] at h
    have h' : k ∈ (linesM m ls).map (·.1) ∨ k = lkey x := by
      split at h
      · exact .inl h
      · rcases List.mem_append.1 h with h | h
        · exact .inl h
        · simp at h; exact .inr h
    rcases h' with h' | h'
    · rcases ih h' with g | ⟨y, g1, g2⟩
      · exact .inl g
      · exact .inr ⟨y, by simp [g1], g2⟩
    · exact .inr ⟨x, by simp, h'.symm⟩
theorem trM_keys {d : Int} {es : List Entry} {k : Key} (h : k ∈ (trM d es).map (·.1)) : ∃ e ∈ es, ∃ x ∈ e.lines, lkey x = k := by
  induction es using rev_ind with
  | h0 => simp [trM] at h
  | h1 es x ih =>
    by_cases hd : x.day ≤ d
    · rw [trM_T hd] at h
      rcases linesM_keys h with g | ⟨y, g1, g2⟩
      · obtain ⟨e, h1, h2⟩ := ih g; exact ⟨e, by simp [h1], h2⟩
      · exact ⟨x, by simp, y, g1, g2⟩
    · rw [trM_F hd] at h
      obtain ⟨e, h1, h2⟩ := ih h; exact ⟨e, by simp [h1], h2⟩
theorem listK_mem {ks : List Key} {g : Key → Str} {b : Balance} (h : b ∈ listK ks g) : bkey b ∈ ks ∧ b.amount = g (bkey b) := by
  unfold listK at h
  obtain ⟨k, hk, h2⟩ := List.mem_filterMap.1 h
  split at h2
  · cases h2; exact ⟨hk, rfl⟩
  · cases h2
theorem listM_mem {m : List (Key × Str)} {b : Balance} (h : b ∈ listM m) : bkey b ∈ m.map (·.1) ∧ b.amount = getG [] m (bkey b) := by
  have := listK_mem h
  exact ⟨(sortK_perm0 _).subset this.1, this.2⟩
theorem listM_len (m : List (Key × Str)) : (listM m).length ≤ m.length := by
  have := listK_len (sortK (m.map (·.1))) (getG [] m)
  rw [(sortK_perm0 _).length_eq, List.length_map] at this
  exact this
theorem trialB_ok {d : Int} {es : List Entry} (h : ∀ e ∈ es, smallE e ∧ checkE e = 0) (hl : es.length ≤ 1000) : BalOK (trialB d es) := by
  refine ⟨(trialB_bal d es).1, fun b hb => ?_, ?_⟩
  · obtain ⟨h1, h2⟩ := listM_mem hb
    obtain ⟨e, he, x, hx, hk⟩ := trM_keys h1
    have hf := checkFields_parts (checkE_line (h e he).2 x hx).1
    have hs := (h e he).1.2.2 x hx
    have e1 : x.account = b.account := congrArg Prod.fst hk
    have e2 : x.currency = b.currency := congrArg Prod.snd hk
    have hv := (trM_val d es).val (bkey b)
    have b1 := sumE_bound (k := bkey b) (es := es.filter fun e => decide (e.day ≤ d)) (fun e he => (h e (List.mem_filter.1 he).1).1)
    have b3 := List.length_filter_le (fun e : Entry => decide (e.day ≤ d)) es
    rw [hv] at h2
    refine ⟨e1 ▸ hf.1, e2 ▸ hf.2.1, by rw [h2]; exact checkNum_ofInt _, by rw [h2, val_ofInt]; constructor <;> omega, okPair_60 (by rw [← hk]; exact ⟨hs.1, hs.2.1⟩), by rw [h2]; exact ofInt_len30 (by constructor <;> omega)⟩
  · have h1 := listM_len (trM d es)
    have h2 := (trM_ok (d := d) (es := es) (fun e he => (h e he).1)).2
    unfold trialB; omega
/-! Differences of balances. -/
def sumBM (m : List (Key × Str)) (l : List Balance) : List (Key × Str) := l.foldl (fun m x => addG m (bkey x) x.amount) m
def difBM (m : List (Key × Str)) (l : List Balance) : List (Key × Str) := l.foldl (fun m x => addG m (bkey x) (negS x.amount)) m
theorem sumBM_snoc (m : List (Key × Str)) (l : List Balance) (x : Balance) : sumBM m (l ++ [x]) = addG (sumBM m l) (bkey x) x.amount := by simp [sumBM]
theorem difBM_snoc (m : List (Key × Str)) (l : List Balance) (x : Balance) : difBM m (l ++ [x]) = addG (difBM m l) (bkey x) (negS x.amount) := by simp [difBM]
theorem MapV.plus {m : List (Key × Str)} {f : Key → Int} (h : MapV m f) (l : List Balance) : MapV (sumBM m l) (fun k => f k + balK k l) := by
  induction l using rev_ind with
  | h0 => exact h.eqf (fun k => by simp [balK])
  | h1 l x ih =>
    rw [sumBM_snoc]
    refine (ih.add _ _).eqf fun k => ?_
    rw [balK_append]; simp only [balK]; omega
theorem MapV.less {m : List (Key × Str)} {f : Key → Int} (h : MapV m f) (l : List Balance) : MapV (difBM m l) (fun k => f k - balK k l) := by
  induction l using rev_ind with
  | h0 => exact h.eqf (fun k => by simp [balK])
  | h1 l x ih =>
    rw [difBM_snoc]
    refine (ih.add _ _).eqf fun k => ?_
    rw [balK_append, val_negS]; simp only [balK]; split <;> omega
theorem balK_bound {k : Key} {l : List Balance} (h : ∀ b ∈ l, fldB b) : -(l.length * 10000000000000000000000 : Int) ≤ balK k l ∧ balK k l ≤ l.length * 10000000000000000000000 := by
  induction l with
  | nil => simp [balK]
  | cons x l ih =>
    have h1 := ih (fun b hb => h b (List.mem_cons_of_mem _ hb))
    have h2 := (h x List.mem_cons_self).v
    simp only [balK, List.length_cons]
    split <;> omega
theorem okM.plus {m : List (Key × Str)} {n : Nat} (h : okM m n) {l : List Balance} (hl : ∀ b ∈ l, fldB b) : okM (sumBM m l) (n + l.length) := by
  induction l using rev_ind with
  | h0 => exact h
  | h1 l x ih =>
    rw [sumBM_snoc, List.length_append]
    exact (ih fun b hb => hl b (by simp [hb])).add (hl x (by simp)).key _
theorem okM.less {m : List (Key × Str)} {n : Nat} (h : okM m n) {l : List Balance} (hl : ∀ b ∈ l, fldB b) : okM (difBM m l) (n + l.length) := by
  induction l using rev_ind with
  | h0 => exact h
  | h1 l x ih =>
    rw [difBM_snoc, List.length_append]
    exact (ih fun b hb => hl b (by simp [hb])).add (hl x (by simp)).key _
def minusB (a b : List Balance) : List Balance := listM (difBM (sumBM [] a) b)
theorem minusB_bal (a b : List Balance) : IsBal (minusB a b) ∧ ∀ k, balK k (minusB a b) = balK k a - balK k b := by
  have := listM_bal ((MapV.nil.plus a).less b)
  exact ⟨this.1, fun k => by rw [minusB, this.2]; simp⟩
theorem plus_get {a : List Balance} (k : Key) (h : ∀ x ∈ a, fldB x) (ha : a.length ≤ 100000) : (getG [] (sumBM [] a) k).length ≤ 31 := by
  refine (MapV.nil.plus a).len ?_
  have := balK_bound (k := k) h
  constructor <;> omega
theorem less_get {a b : List Balance} (k : Key) (h : ∀ x ∈ a, fldB x) (ha : a.length ≤ 100000) (h' : ∀ x ∈ b, fldB x) (hb : b.length ≤ 100000) : (getG [] (difBM (sumBM [] a) b) k).length ≤ 31 := by
  refine ((MapV.nil.plus a).less b).len ?_
  have h1 := balK_bound (k := k) h
  have h2 := balK_bound (k := k) h'
  constructor <;> omega
theorem difBM_ok {a b : List Balance} (h : ∀ x ∈ a, fldB x) (h' : ∀ x ∈ b, fldB x) : okM (difBM (sumBM [] a) b) (a.length + b.length) := by
  simpa using ((okM.nil.plus h).less h')
end Go.T
