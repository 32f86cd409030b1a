/-
  Contracts of the functions that the statement reaches, and the logic in which they are proved (no condition): parts W28, W29, W30, W31, W32, W33.
-/
import Derived.Test.YtlhemheagekhaaaGreatDoorA10
set_option linter.all false
namespace Go.T
open Go Go.Proofs
set_option maxRecDepth 20000
theorem account_ok (s : Str) : Fc Tryz.prog 115 [.str s] (.i (checkCode s)) := by
 refine Fc.mk' [2] Tryz.func115 rfl Tryz.ntmps115 rfl rfl rfl (fun t w => results_tmp Tryz.results115 t _ w) ?_
 refine Run.seq (Run.reg [.p] ?_)
 refine .ag rfl rfl <| .nil ?_
 refine Run.seq (Run.seq (Run.reg [.p, .p, .p] ?_))
 refine .mv rfl rfl <| .P rfl (q_call Tryz.call164 rfl (formed_ok _)) <| .P rfl (q_not rfl) <| .nil ?_
 refine Run.cond rfl (fun h1 => ?_) (fun h1 => ?_)
 ·have ph1 := h1; try simp only [bs] at ph1
  refine Run.seq (Run.reg [.p] ?_)
  refine .ag rfl rfl <| .nil ?_
  refine Run.ret (?_)
  exact ret1 rfl (Sub.int (by unfold checkCode; generalize ((segments s).all isName && decide ((segments s).length ≤ 6)) = b at *; cases b <;> simp_all))
 ·have ph1 := h1; try simp only [bs] at ph1
  refine Run.skip ?_
  refine Run.seq (Run.reg [.p] ?_)
  refine .ag rfl rfl <| .nil ?_
  refine Run.ret (?_)
  exact ret1 rfl (Sub.int (by unfold checkCode; generalize ((segments s).all isName && decide ((segments s).length ≤ 6)) = b at *; cases b <;> simp_all))
structure moneyNil_ok_L0  where
 u : Unit
theorem moneyNil_ok  : Fc Tryz.prog 165 [.raw (.slice none 0 0)] (.i 0) := by
 refine Fc.mk' [2] Tryz.func165 rfl Tryz.ntmps165 rfl rfl rfl (fun t w => results_tmp Tryz.results165 t _ w) ?_
 refine Run.seq (Run.reg [.p] ?_)
 refine .ag rfl rfl <| .nil ?_
 refine Run.seq (Run.seq (Run.reg [.p, .p, .p] ?_))
 refine .mv rfl rfl <| .P rfl (q_lenNil Tryz.underlying153 rfl) <| .P rfl (q_gtr rfl rfl) <| .nil ?_
 refine Run.condF rfl (rfl) ?_
 refine Run.skip ?_
 refine Run.seq (Run.seq (Run.reg [.p, .p, .p] ?_))
 refine .mv rfl rfl <| .P rfl (q_lenNil Tryz.underlying153 rfl) <| .mv rfl rfl <| .nil ?_
 refine Run.block ?_
 refine Run.loop (ι := moneyNil_ok_L0) (fun sx => [(8, .raw (.slice none 0 0)), (9, .i 0), (10, .i 0)]) (fun sx => []) (fun sx => 0) ⟨()⟩ ?_ ?_
 ·exact Le.mk rfl (.same rfl rfl (.cons rfl Sub.intA rfl (.cons rfl Sub.intA rfl .nil))) .nil
 ·rintro ⟨u⟩
  show Run _ _ _ _ [(8, .raw (.slice none 0 0)), (9, .i 0), (10, .i 0)] []
  skip
  ·skip
   refine Run.seq (Run.reg [.p] ?_)
   refine .P rfl (q_lss rfl rfl) <| .nil ?_
   refine Run.seq ?_
   refine Run.condF rfl (rfl) ?_
   refine Run.exit (tq_exit (bq_exit ?_))
   refine Run.seq (Run.reg [.p] ?_)
   refine .ag rfl rfl <| .nil ?_
   refine Run.ret (?_)
   exact ret1 rfl (Sub.int (by rfl))
structure bothY_ok_L0 (c : Str) where
 d : Bool
theorem bothY_ok (c : Str) : FcY (α := Str) Tryz.prog 254 7300 [.box 7300 0, .box 7301 0] [(7300, .cells [.raw (.slice none 0 0)]), (7301, .cells [.snap 2 true [[.str c, .str []]]])] (fun s => [.str s, .agg [.str [], .str []]]) (fun p => p = [c]) (fun p => p = [c]) := by
 refine FcY.mk' Tryz.func254 rfl Tryz.ntmps254 rfl (fun t w => results_none Tryz.results254 t _ w) (fun idL lb ids B X Y => ?_)
 refine Run.block ?_
 refine Run.loop (ι := bothY_ok_L0 c) (fun sx => [(0, yv lb), (1, .box 7300 0), (2, .box 7301 0)]) (fun sx => ([(7300, .cells [.raw (.slice none 0 0)]), (7301, .cells [.snap 2 (!sx.d) (bif sx.d then [] else [[.str c, .str []]])])] ++ B (bif sx.d then [c] else []))) (fun sx => (bif sx.d then 0 else 1)) ⟨false⟩ ?_ ?_
 ·exact Le.mk (ps_ok (Y.has _) rfl) (.same rfl rfl (.same rfl rfl (.same rfl rfl .nil))) (.eqA rfl rfl (.eqA rfl rfl (.tail (tail_ok (own := [(7300, _), (7301, _)]) (own' := [(7300, _), (7301, _)]) rfl (Y.free _) (Y.okb _)))))
 ·rintro ⟨d⟩
  show Run _ _ _ _ [(0, yv lb), (1, .box 7300 0), (2, .box 7301 0)] ([(7300, .cells [.raw (.slice none 0 0)]), (7301, .cells [.snap 2 (!d) (bif d then [] else [[.str c, .str []]])])] ++ B (bif d then [c] else []))
  cases d
  ·skip
   refine Run.seq (Run.seq (Run.reg [.r, .p, .p, .p, .r, .p, .p, .p] ?_))
   refine .R rfl (q_load1 Tryz.isAgg153 rfl rfl rfl) <| .P rfl (q_lenNil Tryz.underlying153 rfl) <| .P rfl (q_gtr rfl rfl) <| .mv rfl rfl <| .r rfl (on_of rfl rfl rfl (rfl)) (q_load1 Tryz.isAgg153 rfl rfl rfl) <| .p rfl (on_of rfl rfl rfl (rfl)) (fun _ => q_lenI Tryz.underlying153 rfl _) <| .p rfl (on_of rfl rfl rfl (rfl)) (fun _ => q_gtr rfl rfl _) <| .P rfl (q_pickF rfl (rfl) rfl) <| .nil ?_
   refine Run.condT rfl (rfl) ?_
   refine Run.skip ?_
   refine Run.block ?_
   refine Run.seq (Run.reg [.p] ?_)
   refine .ag rfl rfl <| .nil ?_
   refine Run.seq (Run.reg [.w] ?_)
   refine .W rfl (q_alloc 7302 Tryz.zeroValue242 (Y.free _ 7302 (by decide) (by decide))) <| .nil ?_
   refine Run.seq ?_
   refine Run.block ?_
   refine Run.seq (Run.regD [.r, .p, .p, .p, .r, .p, .p, .p, .r, .p, .p, .p, .r, .p, .p, .p, .p, .p, .p, .p] Tryz_mixed (by decide +kernel) ?_)
   refine .R rfl (q_load1 Tryz.isAgg153 rfl rfl rfl) <| .P rfl (q_lenI Tryz.underlying153 rfl) <| .P rfl (q_eql rfl rfl) <| .mv rfl rfl <| .r rfl (on_of rfl rfl rfl (rfl)) (q_load1 Tryz.isAgg153 rfl rfl rfl) <| .p rfl (on_of rfl rfl rfl (rfl)) (fun _ => q_lenNil Tryz.underlying153 rfl _) <| .p rfl (on_of rfl rfl rfl (rfl)) (fun _ => q_gtr rfl rfl _) <| .p rfl (on_of rfl rfl rfl (rfl)) (fun _ => q_move rfl _) ?_
   refine .off rfl (off_of rfl rfl rfl (rfl)) ?_
   refine .off rfl (off_of rfl rfl rfl (rfl)) ?_
   refine .off rfl (off_of rfl rfl rfl (rfl)) ?_
   refine .off rfl (off_of rfl rfl rfl (rfl)) ?_
   refine .off rfl (off_of rfl rfl rfl (rfl)) ?_
   refine .off rfl (off_of rfl rfl rfl (rfl)) ?_
   refine .off rfl (off_of rfl rfl rfl (rfl)) ?_
   refine .off rfl (off_of rfl rfl rfl (rfl)) ?_
   refine .off rfl (off_of rfl rfl rfl (rfl)) ?_
   refine .p rfl (on_of rfl rfl rfl (rfl)) (fun _ => q_pickF rfl (rfl) rfl _) <| .P rfl (q_pickF rfl (rfl) rfl) <| .ag rfl rfl <| .nil ?_
   refine Run.condF rfl rfl ?_
   refine Run.reg [.r, .p, .p, .p, .p] ?_
   refine .R rfl (q_load1 Tryz.isAgg153 rfl rfl rfl) <| .P rfl (q_indexI Tryz.underlying153 Tryz.sizeOf157 rfl rfl (by decide) rfl) <| .P rfl (q_fieldI (n := 0) 9 0 Tryz.underlying157 Tryz.sizeOf9 rfl rfl rfl) <| .P rfl (q_loadI Tryz.isAgg9 rfl) <| .ag rfl rfl <| .nil ?_
   refine Run.nil (bq_norm ?_)
   refine Run.seq (Run.seq (Run.reg [.r, .p, .p, .p, .r, .p, .p, .p, .p, .p, .p] ?_))
   refine .R rfl (q_load1 Tryz.isAgg153 rfl rfl rfl) <| .P rfl (q_lenNil Tryz.underlying153 rfl) <| .P rfl (q_gtr rfl rfl) <| .mv rfl rfl ?_
   refine .off rfl (off_of rfl rfl rfl (rfl)) ?_
   refine .off rfl (off_of rfl rfl rfl (rfl)) ?_
   refine .off rfl (off_of rfl rfl rfl (rfl)) ?_
   refine .off rfl (off_of rfl rfl rfl (rfl)) ?_
   refine .off rfl (off_of rfl rfl rfl (rfl)) ?_
   refine .off rfl (off_of rfl rfl rfl (rfl)) ?_
   refine .P rfl (q_pickF rfl (rfl) rfl) <| .nil ?_
   refine Run.condF rfl rfl ?_
   refine Run.skip ?_
   refine Run.seq (Run.seq (Run.reg [.r, .p, .p, .p, .r, .p, .p, .p, .p, .p, .p] ?_))
   refine .R rfl (q_load1 Tryz.isAgg153 rfl rfl rfl) <| .P rfl (q_lenI Tryz.underlying153 rfl) <| .P rfl (q_gtr rfl rfl) <| .mv rfl rfl <| .r rfl (on_of rfl rfl rfl (rfl)) (q_load1 Tryz.isAgg153 rfl rfl rfl) <| .p rfl (on_of rfl rfl rfl (rfl)) (fun _ => q_indexI Tryz.underlying153 Tryz.sizeOf157 rfl rfl (by decide) rfl _) <| .p rfl (on_of rfl rfl rfl (rfl)) (fun _ => q_fieldI (n := 0) 9 0 Tryz.underlying157 Tryz.sizeOf9 rfl rfl rfl _) <| .p rfl (on_of rfl rfl rfl (rfl)) (fun _ => q_loadI Tryz.isAgg9 rfl _) <| .p rfl (on_of rfl rfl rfl (rfl)) (fun _ => q_move rfl _) <| .p rfl (on_of rfl rfl rfl (rfl)) (fun _ => q_eqlS rfl rfl _) <| .P rfl (q_pickT rfl (rfl) rfl) <| .nil ?_
   refine Run.condT rfl (by simp) ?_
   refine Run.regA [(0, yv lb), (1, .box 7300 0), (2, .box 7301 0), (4, .str c), (5, .box 7302 0)] ([(7302, .cells [.str [], .str []]), (7300, .cells [.raw (.slice none 0 0)]), (7301, .cells [.snap 2 false []])] ++ B ([])) Tryz_mixed ?_ ?_
   ·refine TxA.two (i := 0) (j := 4) (by decide +kernel) ?_ ?_
    ·refine AStep.mk' rfl rfl trivial (q_load1 Tryz.isAgg153 rfl rfl rfl) ?_
     refine TxA.two (i := 1) (j := 4) (by decide +kernel) ?_ ?_
     ·refine AStep.mk' rfl rfl trivial (q_indexI Tryz.underlying153 Tryz.sizeOf157 rfl rfl (by decide) rfl _) ?_
      refine TxA.two (i := 2) (j := 4) (by decide +kernel) ?_ ?_
      ·refine AStep.mk' rfl rfl trivial (q_fieldI (n := 0) 54 1 Tryz.underlying157 Tryz.sizeOf54 rfl rfl rfl _) ?_
       refine TxA.two (i := 3) (j := 4) (by decide +kernel) ?_ ?_
       ·refine AStep.mk' rfl rfl trivial (q_loadI Tryz.isAgg54 rfl _) ?_
        refine TxA.two (i := 4) (j := 6) (by decide +kernel) ?_ ?_
        ·refine AStep.mk' rfl rfl trivial (q_load1 Tryz.isAgg153 rfl rfl rfl) ?_
         refine TxA.two (i := 5) (j := 6) (by decide +kernel) ?_ ?_
         ·refine AStep.mk' rfl rfl trivial (q_sliceI Tryz.underlying153 Tryz.sizeOf157 rfl (l := 1) (r := []) (.inr ⟨_, _, rfl, rfl⟩) (.inl ⟨rfl, rfl⟩) (by simp) (by simp) rfl _) ?_
          refine TxA.one (i := 6) (by decide +kernel) ?_
          refine AStep.mk' rfl rfl trivial (q_indexBA (o2 := 1) Tryz.underlying242 Tryz.sizeOf54 rfl rfl (by decide) (by decide) rfl _) ?_
          refine TxA.one (i := 7) (by decide +kernel) ?_
          refine AStep.mk' rfl rfl trivial (q_store1 Tryz.sizeOf54 rfl rfl rfl rfl (by first | (simp; done) | decide)) ?_
          refine TxA.one (i := 8) (by decide +kernel) ?_
          refine AStep.mk' rfl rfl trivial (q_store1 Tryz.sizeOf153 rfl rfl rfl rfl (by first | (simp; done) | decide)) ?_
          exact TxA.nil (by decide +kernel) (Le.mk (ps_ok (Y.has _) rfl) (.same rfl rfl (.same rfl rfl (.same rfl rfl (.same rfl rfl (.same rfl rfl .nil))))) (.eqA rfl rfl (.eqA rfl rfl (.eqA rfl rfl (.tail (tail_ok (own := [(7302, _), (7300, _), (7301, _)]) (own' := [(7302, _), (7300, _), (7301, _)]) rfl (Y.free _) (Y.okb _)))))))
         ·refine AStep.mk' rfl rfl trivial (q_indexBA (o2 := 1) Tryz.underlying242 Tryz.sizeOf54 rfl rfl (by decide) (by decide) rfl _) ?_
          refine TxA.two (i := 5) (j := 7) (by decide +kernel) ?_ ?_
          ·refine AStep.mk' rfl rfl trivial (q_sliceI Tryz.underlying153 Tryz.sizeOf157 rfl (l := 1) (r := []) (.inr ⟨_, _, rfl, rfl⟩) (.inl ⟨rfl, rfl⟩) (by simp) (by simp) rfl _) ?_
           refine TxA.one (i := 7) (by decide +kernel) ?_
           refine AStep.mk' rfl rfl trivial (q_store1 Tryz.sizeOf54 rfl rfl rfl rfl (by first | (simp; done) | decide)) ?_
           refine TxA.one (i := 8) (by decide +kernel) ?_
           refine AStep.mk' rfl rfl trivial (q_store1 Tryz.sizeOf153 rfl rfl rfl rfl (by first | (simp; done) | decide)) ?_
           exact TxA.nil (by decide +kernel) (Le.mk (ps_ok (Y.has _) rfl) (.same rfl rfl (.same rfl rfl (.same rfl rfl (.same rfl rfl (.same rfl rfl .nil))))) (.eqA rfl rfl (.eqA rfl rfl (.eqA rfl rfl (.tail (tail_ok (own := [(7302, _), (7300, _), (7301, _)]) (own' := [(7302, _), (7300, _), (7301, _)]) rfl (Y.free _) (Y.okb _)))))))
          ·refine AStep.mk' rfl rfl trivial (q_store1 Tryz.sizeOf54 rfl rfl rfl rfl (by first | (simp; done) | decide)) ?_
           refine TxA.one (i := 5) (by decide +kernel) ?_
           refine AStep.mk' rfl rfl trivial (q_sliceI Tryz.underlying153 Tryz.sizeOf157 rfl (l := 1) (r := []) (.inr ⟨_, _, rfl, rfl⟩) (.inl ⟨rfl, rfl⟩) (by simp) (by simp) rfl _) ?_
           refine TxA.one (i := 8) (by decide +kernel) ?_
           refine AStep.mk' rfl rfl trivial (q_store1 Tryz.sizeOf153 rfl rfl rfl rfl (by first | (simp; done) | decide)) ?_
           exact TxA.nil (by decide +kernel) (Le.mk (ps_ok (Y.has _) rfl) (.same rfl rfl (.same rfl rfl (.same rfl rfl (.same rfl rfl (.same rfl rfl .nil))))) (.eqA rfl rfl (.eqA rfl rfl (.eqA rfl rfl (.tail (tail_ok (own := [(7302, _), (7300, _), (7301, _)]) (own' := [(7302, _), (7300, _), (7301, _)]) rfl (Y.free _) (Y.okb _)))))))
        ·refine AStep.mk' rfl rfl trivial (q_indexBA (o2 := 1) Tryz.underlying242 Tryz.sizeOf54 rfl rfl (by decide) (by decide) rfl _) ?_
         refine TxA.two (i := 4) (j := 7) (by decide +kernel) ?_ ?_
         ·refine AStep.mk' rfl rfl trivial (q_load1 Tryz.isAgg153 rfl rfl rfl) ?_
          refine TxA.two (i := 5) (j := 7) (by decide +kernel) ?_ ?_
          ·refine AStep.mk' rfl rfl trivial (q_sliceI Tryz.underlying153 Tryz.sizeOf157 rfl (l := 1) (r := []) (.inr ⟨_, _, rfl, rfl⟩) (.inl ⟨rfl, rfl⟩) (by simp) (by simp) rfl _) ?_
           refine TxA.one (i := 7) (by decide +kernel) ?_
           refine AStep.mk' rfl rfl trivial (q_store1 Tryz.sizeOf54 rfl rfl rfl rfl (by first | (simp; done) | decide)) ?_
           refine TxA.one (i := 8) (by decide +kernel) ?_
           refine AStep.mk' rfl rfl trivial (q_store1 Tryz.sizeOf153 rfl rfl rfl rfl (by first | (simp; done) | decide)) ?_
           exact TxA.nil (by decide +kernel) (Le.mk (ps_ok (Y.has _) rfl) (.same rfl rfl (.same rfl rfl (.same rfl rfl (.same rfl rfl (.same rfl rfl .nil))))) (.eqA rfl rfl (.eqA rfl rfl (.eqA rfl rfl (.tail (tail_ok (own := [(7302, _), (7300, _), (7301, _)]) (own' := [(7302, _), (7300, _), (7301, _)]) rfl (Y.free _) (Y.okb _)))))))
          ·refine AStep.mk' rfl rfl trivial (q_store1 Tryz.sizeOf54 rfl rfl rfl rfl (by first | (simp; done) | decide)) ?_
           refine TxA.one (i := 5) (by decide +kernel) ?_
           refine AStep.mk' rfl rfl trivial (q_sliceI Tryz.underlying153 Tryz.sizeOf157 rfl (l := 1) (r := []) (.inr ⟨_, _, rfl, rfl⟩) (.inl ⟨rfl, rfl⟩) (by simp) (by simp) rfl _) ?_
           refine TxA.one (i := 8) (by decide +kernel) ?_
           refine AStep.mk' rfl rfl trivial (q_store1 Tryz.sizeOf153 rfl rfl rfl rfl (by first | (simp; done) | decide)) ?_
           exact TxA.nil (by decide +kernel) (Le.mk (ps_ok (Y.has _) rfl) (.same rfl rfl (.same rfl rfl (.same rfl rfl (.same rfl rfl (.same rfl rfl .nil))))) (.eqA rfl rfl (.eqA rfl rfl (.eqA rfl rfl (.tail (tail_ok (own := [(7302, _), (7300, _), (7301, _)]) (own' := [(7302, _), (7300, _), (7301, _)]) rfl (Y.free _) (Y.okb _)))))))
         ·refine AStep.mk' rfl rfl trivial (q_store1 Tryz.sizeOf54 rfl rfl rfl rfl (by first | (simp; done) | decide)) ?_
          refine TxA.one (i := 4) (by decide +kernel) ?_
          refine AStep.mk' rfl rfl trivial (q_load1 Tryz.isAgg153 rfl rfl rfl) ?_
          refine TxA.one (i := 5) (by decide +kernel) ?_
          refine AStep.mk' rfl rfl trivial (q_sliceI Tryz.underlying153 Tryz.sizeOf157 rfl (l := 1) (r := []) (.inr ⟨_, _, rfl, rfl⟩) (.inl ⟨rfl, rfl⟩) (by simp) (by simp) rfl _) ?_
          refine TxA.one (i := 8) (by decide +kernel) ?_
          refine AStep.mk' rfl rfl trivial (q_store1 Tryz.sizeOf153 rfl rfl rfl rfl (by first | (simp; done) | decide)) ?_
          exact TxA.nil (by decide +kernel) (Le.mk (ps_ok (Y.has _) rfl) (.same rfl rfl (.same rfl rfl (.same rfl rfl (.same rfl rfl (.same rfl rfl .nil))))) (.eqA rfl rfl (.eqA rfl rfl (.eqA rfl rfl (.tail (tail_ok (own := [(7302, _), (7300, _), (7301, _)]) (own' := [(7302, _), (7300, _), (7301, _)]) rfl (Y.free _) (Y.okb _)))))))
       ·refine AStep.mk' rfl rfl trivial (q_load1 Tryz.isAgg153 rfl rfl rfl) ?_
        refine TxA.two (i := 3) (j := 5) (by decide +kernel) ?_ ?_
        ·refine AStep.mk' rfl rfl trivial (q_loadI Tryz.isAgg54 rfl _) ?_
         refine TxA.two (i := 5) (j := 6) (by decide +kernel) ?_ ?_
         ·refine AStep.mk' rfl rfl trivial (q_sliceI Tryz.underlying153 Tryz.sizeOf157 rfl (l := 1) (r := []) (.inr ⟨_, _, rfl, rfl⟩) (.inl ⟨rfl, rfl⟩) (by simp) (by simp) rfl _) ?_
          refine TxA.one (i := 6) (by decide +kernel) ?_
          refine AStep.mk' rfl rfl trivial (q_indexBA (o2 := 1) Tryz.underlying242 Tryz.sizeOf54 rfl rfl (by decide) (by decide) rfl _) ?_
          refine TxA.one (i := 7) (by decide +kernel) ?_
          refine AStep.mk' rfl rfl trivial (q_store1 Tryz.sizeOf54 rfl rfl rfl rfl (by first | (simp; done) | decide)) ?_
          refine TxA.one (i := 8) (by decide +kernel) ?_
          refine AStep.mk' rfl rfl trivial (q_store1 Tryz.sizeOf153 rfl rfl rfl rfl (by first | (simp; done) | decide)) ?_
          exact TxA.nil (by decide +kernel) (Le.mk (ps_ok (Y.has _) rfl) (.same rfl rfl (.same rfl rfl (.same rfl rfl (.same rfl rfl (.same rfl rfl .nil))))) (.eqA rfl rfl (.eqA rfl rfl (.eqA rfl rfl (.tail (tail_ok (own := [(7302, _), (7300, _), (7301, _)]) (own' := [(7302, _), (7300, _), (7301, _)]) rfl (Y.free _) (Y.okb _)))))))
         ·refine AStep.mk' rfl rfl trivial (q_indexBA (o2 := 1) Tryz.underlying242 Tryz.sizeOf54 rfl rfl (by decide) (by decide) rfl _) ?_
          refine TxA.two (i := 5) (j := 7) (by decide +kernel) ?_ ?_
          ·refine AStep.mk' rfl rfl trivial (q_sliceI Tryz.underlying153 Tryz.sizeOf157 rfl (l := 1) (r := []) (.inr ⟨_, _, rfl, rfl⟩) (.inl ⟨rfl, rfl⟩) (by simp) (by simp) rfl _) ?_
           refine TxA.one (i := 7) (by decide +kernel) ?_
           refine AStep.mk' rfl rfl trivial (q_store1 Tryz.sizeOf54 rfl rfl rfl rfl (by first | (simp; done) | decide)) ?_
           refine TxA.one (i := 8) (by decide +kernel) ?_
           refine AStep.mk' rfl rfl trivial (q_store1 Tryz.sizeOf153 rfl rfl rfl rfl (by first | (simp; done) | decide)) ?_
           exact TxA.nil (by decide +kernel) (Le.mk (ps_ok (Y.has _) rfl) (.same rfl rfl (.same rfl rfl (.same rfl rfl (.same rfl rfl (.same rfl rfl .nil))))) (.eqA rfl rfl (.eqA rfl rfl (.eqA rfl rfl (.tail (tail_ok (own := [(7302, _), (7300, _), (7301, _)]) (own' := [(7302, _), (7300, _), (7301, _)]) rfl (Y.free _) (Y.okb _)))))))
          ·refine AStep.mk' rfl rfl trivial (q_store1 Tryz.sizeOf54 rfl rfl rfl rfl (by first | (simp; done) | decide)) ?_
           refine TxA.one (i := 5) (by decide +kernel) ?_
           refine AStep.mk' rfl rfl trivial (q_sliceI Tryz.underlying153 Tryz.sizeOf157 rfl (l := 1) (r := []) (.inr ⟨_, _, rfl, rfl⟩) (.inl ⟨rfl, rfl⟩) (by simp) (by simp) rfl _) ?_
           refine TxA.one (i := 8) (by decide +kernel) ?_
           refine AStep.mk' rfl rfl trivial (q_store1 Tryz.sizeOf153 rfl rfl rfl rfl (by first | (simp; done) | decide)) ?_
           exact TxA.nil (by decide +kernel) (Le.mk (ps_ok (Y.has _) rfl) (.same rfl rfl (.same rfl rfl (.same rfl rfl (.same rfl rfl (.same rfl rfl .nil))))) (.eqA rfl rfl (.eqA rfl rfl (.eqA rfl rfl (.tail (tail_ok (own := [(7302, _), (7300, _), (7301, _)]) (own' := [(7302, _), (7300, _), (7301, _)]) rfl (Y.free _) (Y.okb _)))))))
        ·refine AStep.mk' rfl rfl trivial (q_sliceI Tryz.underlying153 Tryz.sizeOf157 rfl (l := 1) (r := []) (.inr ⟨_, _, rfl, rfl⟩) (.inl ⟨rfl, rfl⟩) (by simp) (by simp) rfl _) ?_
         refine TxA.one (i := 3) (by decide +kernel) ?_
         refine AStep.mk' rfl rfl trivial (q_loadI Tryz.isAgg54 rfl _) ?_
         refine TxA.one (i := 6) (by decide +kernel) ?_
         refine AStep.mk' rfl rfl trivial (q_indexBA (o2 := 1) Tryz.underlying242 Tryz.sizeOf54 rfl rfl (by decide) (by decide) rfl _) ?_
         refine TxA.one (i := 7) (by decide +kernel) ?_
         refine AStep.mk' rfl rfl trivial (q_store1 Tryz.sizeOf54 rfl rfl rfl rfl (by first | (simp; done) | decide)) ?_
         refine TxA.one (i := 8) (by decide +kernel) ?_
         refine AStep.mk' rfl rfl trivial (q_store1 Tryz.sizeOf153 rfl rfl rfl rfl (by first | (simp; done) | decide)) ?_
         exact TxA.nil (by decide +kernel) (Le.mk (ps_ok (Y.has _) rfl) (.same rfl rfl (.same rfl rfl (.same rfl rfl (.same rfl rfl (.same rfl rfl .nil))))) (.eqA rfl rfl (.eqA rfl rfl (.eqA rfl rfl (.tail (tail_ok (own := [(7302, _), (7300, _), (7301, _)]) (own' := [(7302, _), (7300, _), (7301, _)]) rfl (Y.free _) (Y.okb _)))))))
      ·refine AStep.mk' rfl rfl trivial (q_load1 Tryz.isAgg153 rfl rfl rfl) ?_
       refine TxA.two (i := 2) (j := 5) (by decide +kernel) ?_ ?_
       ·refine AStep.mk' rfl rfl trivial (q_fieldI (n := 0) 54 1 Tryz.underlying157 Tryz.sizeOf54 rfl rfl rfl _) ?_
        refine TxA.two (i := 3) (j := 5) (by decide +kernel) ?_ ?_
        ·refine AStep.mk' rfl rfl trivial (q_loadI Tryz.isAgg54 rfl _) ?_
         refine TxA.two (i := 5) (j := 6) (by decide +kernel) ?_ ?_
         ·refine AStep.mk' rfl rfl trivial (q_sliceI Tryz.underlying153 Tryz.sizeOf157 rfl (l := 1) (r := []) (.inr ⟨_, _, rfl, rfl⟩) (.inl ⟨rfl, rfl⟩) (by simp) (by simp) rfl _) ?_
          refine TxA.one (i := 6) (by decide +kernel) ?_
          refine AStep.mk' rfl rfl trivial (q_indexBA (o2 := 1) Tryz.underlying242 Tryz.sizeOf54 rfl rfl (by decide) (by decide) rfl _) ?_
          refine TxA.one (i := 7) (by decide +kernel) ?_
          refine AStep.mk' rfl rfl trivial (q_store1 Tryz.sizeOf54 rfl rfl rfl rfl (by first | (simp; done) | decide)) ?_
          refine TxA.one (i := 8) (by decide +kernel) ?_
          refine AStep.mk' rfl rfl trivial (q_store1 Tryz.sizeOf153 rfl rfl rfl rfl (by first | (simp; done) | decide)) ?_
          exact TxA.nil (by decide +kernel) (Le.mk (ps_ok (Y.has _) rfl) (.same rfl rfl (.same rfl rfl (.same rfl rfl (.same rfl rfl (.same rfl rfl .nil))))) (.eqA rfl rfl (.eqA rfl rfl (.eqA rfl rfl (.tail (tail_ok (own := [(7302, _), (7300, _), (7301, _)]) (own' := [(7302, _), (7300, _), (7301, _)]) rfl (Y.free _) (Y.okb _)))))))
         ·refine AStep.mk' rfl rfl trivial (q_indexBA (o2 := 1) Tryz.underlying242 Tryz.sizeOf54 rfl rfl (by decide) (by decide) rfl _) ?_
          refine TxA.two (i := 5) (j := 7) (by decide +kernel) ?_ ?_
          ·refine AStep.mk' rfl rfl trivial (q_sliceI Tryz.underlying153 Tryz.sizeOf157 rfl (l := 1) (r := []) (.inr ⟨_, _, rfl, rfl⟩) (.inl ⟨rfl, rfl⟩) (by simp) (by simp) rfl _) ?_
           refine TxA.one (i := 7) (by decide +kernel) ?_
           refine AStep.mk' rfl rfl trivial (q_store1 Tryz.sizeOf54 rfl rfl rfl rfl (by first | (simp; done) | decide)) ?_
           refine TxA.one (i := 8) (by decide +kernel) ?_
           refine AStep.mk' rfl rfl trivial (q_store1 Tryz.sizeOf153 rfl rfl rfl rfl (by first | (simp; done) | decide)) ?_
           exact TxA.nil (by decide +kernel) (Le.mk (ps_ok (Y.has _) rfl) (.same rfl rfl (.same rfl rfl (.same rfl rfl (.same rfl rfl (.same rfl rfl .nil))))) (.eqA rfl rfl (.eqA rfl rfl (.eqA rfl rfl (.tail (tail_ok (own := [(7302, _), (7300, _), (7301, _)]) (own' := [(7302, _), (7300, _), (7301, _)]) rfl (Y.free _) (Y.okb _)))))))
          ·refine AStep.mk' rfl rfl trivial (q_store1 Tryz.sizeOf54 rfl rfl rfl rfl (by first | (simp; done) | decide)) ?_
           refine TxA.one (i := 5) (by decide +kernel) ?_
           refine AStep.mk' rfl rfl trivial (q_sliceI Tryz.underlying153 Tryz.sizeOf157 rfl (l := 1) (r := []) (.inr ⟨_, _, rfl, rfl⟩) (.inl ⟨rfl, rfl⟩) (by simp) (by simp) rfl _) ?_
           refine TxA.one (i := 8) (by decide +kernel) ?_
           refine AStep.mk' rfl rfl trivial (q_store1 Tryz.sizeOf153 rfl rfl rfl rfl (by first | (simp; done) | decide)) ?_
           exact TxA.nil (by decide +kernel) (Le.mk (ps_ok (Y.has _) rfl) (.same rfl rfl (.same rfl rfl (.same rfl rfl (.same rfl rfl (.same rfl rfl .nil))))) (.eqA rfl rfl (.eqA rfl rfl (.eqA rfl rfl (.tail (tail_ok (own := [(7302, _), (7300, _), (7301, _)]) (own' := [(7302, _), (7300, _), (7301, _)]) rfl (Y.free _) (Y.okb _)))))))
        ·refine AStep.mk' rfl rfl trivial (q_sliceI Tryz.underlying153 Tryz.sizeOf157 rfl (l := 1) (r := []) (.inr ⟨_, _, rfl, rfl⟩) (.inl ⟨rfl, rfl⟩) (by simp) (by simp) rfl _) ?_
         refine TxA.one (i := 3) (by decide +kernel) ?_
         refine AStep.mk' rfl rfl trivial (q_loadI Tryz.isAgg54 rfl _) ?_
         refine TxA.one (i := 6) (by decide +kernel) ?_
         refine AStep.mk' rfl rfl trivial (q_indexBA (o2 := 1) Tryz.underlying242 Tryz.sizeOf54 rfl rfl (by decide) (by decide) rfl _) ?_
         refine TxA.one (i := 7) (by decide +kernel) ?_
         refine AStep.mk' rfl rfl trivial (q_store1 Tryz.sizeOf54 rfl rfl rfl rfl (by first | (simp; done) | decide)) ?_
         refine TxA.one (i := 8) (by decide +kernel) ?_
         refine AStep.mk' rfl rfl trivial (q_store1 Tryz.sizeOf153 rfl rfl rfl rfl (by first | (simp; done) | decide)) ?_
         exact TxA.nil (by decide +kernel) (Le.mk (ps_ok (Y.has _) rfl) (.same rfl rfl (.same rfl rfl (.same rfl rfl (.same rfl rfl (.same rfl rfl .nil))))) (.eqA rfl rfl (.eqA rfl rfl (.eqA rfl rfl (.tail (tail_ok (own := [(7302, _), (7300, _), (7301, _)]) (own' := [(7302, _), (7300, _), (7301, _)]) rfl (Y.free _) (Y.okb _)))))))
       ·refine AStep.mk' rfl rfl trivial (q_sliceI Tryz.underlying153 Tryz.sizeOf157 rfl (l := 1) (r := []) (.inr ⟨_, _, rfl, rfl⟩) (.inl ⟨rfl, rfl⟩) (by simp) (by simp) rfl _) ?_
        refine TxA.one (i := 2) (by decide +kernel) ?_
        refine AStep.mk' rfl rfl trivial (q_fieldI (n := 0) 54 1 Tryz.underlying157 Tryz.sizeOf54 rfl rfl rfl _) ?_
        refine TxA.one (i := 3) (by decide +kernel) ?_
        refine AStep.mk' rfl rfl trivial (q_loadI Tryz.isAgg54 rfl _) ?_
        refine TxA.one (i := 6) (by decide +kernel) ?_
        refine AStep.mk' rfl rfl trivial (q_indexBA (o2 := 1) Tryz.underlying242 Tryz.sizeOf54 rfl rfl (by decide) (by decide) rfl _) ?_
        refine TxA.one (i := 7) (by decide +kernel) ?_
        refine AStep.mk' rfl rfl trivial (q_store1 Tryz.sizeOf54 rfl rfl rfl rfl (by first | (simp; done) | decide)) ?_
        refine TxA.one (i := 8) (by decide +kernel) ?_
        refine AStep.mk' rfl rfl trivial (q_store1 Tryz.sizeOf153 rfl rfl rfl rfl (by first | (simp; done) | decide)) ?_
        exact TxA.nil (by decide +kernel) (Le.mk (ps_ok (Y.has _) rfl) (.same rfl rfl (.same rfl rfl (.same rfl rfl (.same rfl rfl (.same rfl rfl .nil))))) (.eqA rfl rfl (.eqA rfl rfl (.eqA rfl rfl (.tail (tail_ok (own := [(7302, _), (7300, _), (7301, _)]) (own' := [(7302, _), (7300, _), (7301, _)]) rfl (Y.free _) (Y.okb _)))))))
     ·refine AStep.mk' rfl rfl trivial (q_load1 Tryz.isAgg153 rfl rfl rfl) ?_
      refine TxA.two (i := 1) (j := 5) (by decide +kernel) ?_ ?_
      ·refine AStep.mk' rfl rfl trivial (q_indexI Tryz.underlying153 Tryz.sizeOf157 rfl rfl (by decide) rfl _) ?_
       refine TxA.two (i := 2) (j := 5) (by decide +kernel) ?_ ?_
       ·refine AStep.mk' rfl rfl trivial (q_fieldI (n := 0) 54 1 Tryz.underlying157 Tryz.sizeOf54 rfl rfl rfl _) ?_
        refine TxA.two (i := 3) (j := 5) (by decide +kernel) ?_ ?_
        ·refine AStep.mk' rfl rfl trivial (q_loadI Tryz.isAgg54 rfl _) ?_
         refine TxA.two (i := 5) (j := 6) (by decide +kernel) ?_ ?_
         ·refine AStep.mk' rfl rfl trivial (q_sliceI Tryz.underlying153 Tryz.sizeOf157 rfl (l := 1) (r := []) (.inr ⟨_, _, rfl, rfl⟩) (.inl ⟨rfl, rfl⟩) (by simp) (by simp) rfl _) ?_
          refine TxA.one (i := 6) (by decide +kernel) ?_
          refine AStep.mk' rfl rfl trivial (q_indexBA (o2 := 1) Tryz.underlying242 Tryz.sizeOf54 rfl rfl (by decide) (by decide) rfl _) ?_
          refine TxA.one (i := 7) (by decide +kernel) ?_
          refine AStep.mk' rfl rfl trivial (q_store1 Tryz.sizeOf54 rfl rfl rfl rfl (by first | (simp; done) | decide)) ?_
          refine TxA.one (i := 8) (by decide +kernel) ?_
          refine AStep.mk' rfl rfl trivial (q_store1 Tryz.sizeOf153 rfl rfl rfl rfl (by first | (simp; done) | decide)) ?_
          exact TxA.nil (by decide +kernel) (Le.mk (ps_ok (Y.has _) rfl) (.same rfl rfl (.same rfl rfl (.same rfl rfl (.same rfl rfl (.same rfl rfl .nil))))) (.eqA rfl rfl (.eqA rfl rfl (.eqA rfl rfl (.tail (tail_ok (own := [(7302, _), (7300, _), (7301, _)]) (own' := [(7302, _), (7300, _), (7301, _)]) rfl (Y.free _) (Y.okb _)))))))
         ·refine AStep.mk' rfl rfl trivial (q_indexBA (o2 := 1) Tryz.underlying242 Tryz.sizeOf54 rfl rfl (by decide) (by decide) rfl _) ?_
          refine TxA.two (i := 5) (j := 7) (by decide +kernel) ?_ ?_
          ·refine AStep.mk' rfl rfl trivial (q_sliceI Tryz.underlying153 Tryz.sizeOf157 rfl (l := 1) (r := []) (.inr ⟨_, _, rfl, rfl⟩) (.inl ⟨rfl, rfl⟩) (by simp) (by simp) rfl _) ?_
           refine TxA.one (i := 7) (by decide +kernel) ?_
           refine AStep.mk' rfl rfl trivial (q_store1 Tryz.sizeOf54 rfl rfl rfl rfl (by first | (simp; done) | decide)) ?_
           refine TxA.one (i := 8) (by decide +kernel) ?_
           refine AStep.mk' rfl rfl trivial (q_store1 Tryz.sizeOf153 rfl rfl rfl rfl (by first | (simp; done) | decide)) ?_
           exact TxA.nil (by decide +kernel) (Le.mk (ps_ok (Y.has _) rfl) (.same rfl rfl (.same rfl rfl (.same rfl rfl (.same rfl rfl (.same rfl rfl .nil))))) (.eqA rfl rfl (.eqA rfl rfl (.eqA rfl rfl (.tail (tail_ok (own := [(7302, _), (7300, _), (7301, _)]) (own' := [(7302, _), (7300, _), (7301, _)]) rfl (Y.free _) (Y.okb _)))))))
          ·refine AStep.mk' rfl rfl trivial (q_store1 Tryz.sizeOf54 rfl rfl rfl rfl (by first | (simp; done) | decide)) ?_
           refine TxA.one (i := 5) (by decide +kernel) ?_
           refine AStep.mk' rfl rfl trivial (q_sliceI Tryz.underlying153 Tryz.sizeOf157 rfl (l := 1) (r := []) (.inr ⟨_, _, rfl, rfl⟩) (.inl ⟨rfl, rfl⟩) (by simp) (by simp) rfl _) ?_
           refine TxA.one (i := 8) (by decide +kernel) ?_
           refine AStep.mk' rfl rfl trivial (q_store1 Tryz.sizeOf153 rfl rfl rfl rfl (by first | (simp; done) | decide)) ?_
           exact TxA.nil (by decide +kernel) (Le.mk (ps_ok (Y.has _) rfl) (.same rfl rfl (.same rfl rfl (.same rfl rfl (.same rfl rfl (.same rfl rfl .nil))))) (.eqA rfl rfl (.eqA rfl rfl (.eqA rfl rfl (.tail (tail_ok (own := [(7302, _), (7300, _), (7301, _)]) (own' := [(7302, _), (7300, _), (7301, _)]) rfl (Y.free _) (Y.okb _)))))))
        ·refine AStep.mk' rfl rfl trivial (q_sliceI Tryz.underlying153 Tryz.sizeOf157 rfl (l := 1) (r := []) (.inr ⟨_, _, rfl, rfl⟩) (.inl ⟨rfl, rfl⟩) (by simp) (by simp) rfl _) ?_
         refine TxA.one (i := 3) (by decide +kernel) ?_
         refine AStep.mk' rfl rfl trivial (q_loadI Tryz.isAgg54 rfl _) ?_
         refine TxA.one (i := 6) (by decide +kernel) ?_
         refine AStep.mk' rfl rfl trivial (q_indexBA (o2 := 1) Tryz.underlying242 Tryz.sizeOf54 rfl rfl (by decide) (by decide) rfl _) ?_
         refine TxA.one (i := 7) (by decide +kernel) ?_
         refine AStep.mk' rfl rfl trivial (q_store1 Tryz.sizeOf54 rfl rfl rfl rfl (by first | (simp; done) | decide)) ?_
         refine TxA.one (i := 8) (by decide +kernel) ?_
         refine AStep.mk' rfl rfl trivial (q_store1 Tryz.sizeOf153 rfl rfl rfl rfl (by first | (simp; done) | decide)) ?_
         exact TxA.nil (by decide +kernel) (Le.mk (ps_ok (Y.has _) rfl) (.same rfl rfl (.same rfl rfl (.same rfl rfl (.same rfl rfl (.same rfl rfl .nil))))) (.eqA rfl rfl (.eqA rfl rfl (.eqA rfl rfl (.tail (tail_ok (own := [(7302, _), (7300, _), (7301, _)]) (own' := [(7302, _), (7300, _), (7301, _)]) rfl (Y.free _) (Y.okb _)))))))
       ·refine AStep.mk' rfl rfl trivial (q_sliceI Tryz.underlying153 Tryz.sizeOf157 rfl (l := 1) (r := []) (.inr ⟨_, _, rfl, rfl⟩) (.inl ⟨rfl, rfl⟩) (by simp) (by simp) rfl _) ?_
        refine TxA.one (i := 2) (by decide +kernel) ?_
        refine AStep.mk' rfl rfl trivial (q_fieldI (n := 0) 54 1 Tryz.underlying157 Tryz.sizeOf54 rfl rfl rfl _) ?_
        refine TxA.one (i := 3) (by decide +kernel) ?_
        refine AStep.mk' rfl rfl trivial (q_loadI Tryz.isAgg54 rfl _) ?_
        refine TxA.one (i := 6) (by decide +kernel) ?_
        refine AStep.mk' rfl rfl trivial (q_indexBA (o2 := 1) Tryz.underlying242 Tryz.sizeOf54 rfl rfl (by decide) (by decide) rfl _) ?_
        refine TxA.one (i := 7) (by decide +kernel) ?_
        refine AStep.mk' rfl rfl trivial (q_store1 Tryz.sizeOf54 rfl rfl rfl rfl (by first | (simp; done) | decide)) ?_
        refine TxA.one (i := 8) (by decide +kernel) ?_
        refine AStep.mk' rfl rfl trivial (q_store1 Tryz.sizeOf153 rfl rfl rfl rfl (by first | (simp; done) | decide)) ?_
        exact TxA.nil (by decide +kernel) (Le.mk (ps_ok (Y.has _) rfl) (.same rfl rfl (.same rfl rfl (.same rfl rfl (.same rfl rfl (.same rfl rfl .nil))))) (.eqA rfl rfl (.eqA rfl rfl (.eqA rfl rfl (.tail (tail_ok (own := [(7302, _), (7300, _), (7301, _)]) (own' := [(7302, _), (7300, _), (7301, _)]) rfl (Y.free _) (Y.okb _)))))))
      ·refine AStep.mk' rfl rfl trivial (q_sliceI Tryz.underlying153 Tryz.sizeOf157 rfl (l := 1) (r := []) (.inr ⟨_, _, rfl, rfl⟩) (.inl ⟨rfl, rfl⟩) (by simp) (by simp) rfl _) ?_
       refine TxA.one (i := 1) (by decide +kernel) ?_
       refine AStep.mk' rfl rfl trivial (q_indexI Tryz.underlying153 Tryz.sizeOf157 rfl rfl (by decide) rfl _) ?_
       refine TxA.one (i := 2) (by decide +kernel) ?_
       refine AStep.mk' rfl rfl trivial (q_fieldI (n := 0) 54 1 Tryz.underlying157 Tryz.sizeOf54 rfl rfl rfl _) ?_
       refine TxA.one (i := 3) (by decide +kernel) ?_
       refine AStep.mk' rfl rfl trivial (q_loadI Tryz.isAgg54 rfl _) ?_
       refine TxA.one (i := 6) (by decide +kernel) ?_
       refine AStep.mk' rfl rfl trivial (q_indexBA (o2 := 1) Tryz.underlying242 Tryz.sizeOf54 rfl rfl (by decide) (by decide) rfl _) ?_
       refine TxA.one (i := 7) (by decide +kernel) ?_
       refine AStep.mk' rfl rfl trivial (q_store1 Tryz.sizeOf54 rfl rfl rfl rfl (by first | (simp; done) | decide)) ?_
       refine TxA.one (i := 8) (by decide +kernel) ?_
       refine AStep.mk' rfl rfl trivial (q_store1 Tryz.sizeOf153 rfl rfl rfl rfl (by first | (simp; done) | decide)) ?_
       exact TxA.nil (by decide +kernel) (Le.mk (ps_ok (Y.has _) rfl) (.same rfl rfl (.same rfl rfl (.same rfl rfl (.same rfl rfl (.same rfl rfl .nil))))) (.eqA rfl rfl (.eqA rfl rfl (.eqA rfl rfl (.tail (tail_ok (own := [(7302, _), (7300, _), (7301, _)]) (own' := [(7302, _), (7300, _), (7301, _)]) rfl (Y.free _) (Y.okb _)))))))
    ·refine AStep.mk' rfl rfl trivial (q_load1 Tryz.isAgg153 rfl rfl rfl) ?_
     refine TxA.two (i := 0) (j := 5) (by decide +kernel) ?_ ?_
     ·refine AStep.mk' rfl rfl trivial (q_load1 Tryz.isAgg153 rfl rfl rfl) ?_
      refine TxA.two (i := 1) (j := 5) (by decide +kernel) ?_ ?_
      ·refine AStep.mk' rfl rfl trivial (q_indexI Tryz.underlying153 Tryz.sizeOf157 rfl rfl (by decide) rfl _) ?_
       refine TxA.two (i := 2) (j := 5) (by decide +kernel) ?_ ?_
       ·refine AStep.mk' rfl rfl trivial (q_fieldI (n := 0) 54 1 Tryz.underlying157 Tryz.sizeOf54 rfl rfl rfl _) ?_
        refine TxA.two (i := 3) (j := 5) (by decide +kernel) ?_ ?_
        ·refine AStep.mk' rfl rfl trivial (q_loadI Tryz.isAgg54 rfl _) ?_
         refine TxA.two (i := 5) (j := 6) (by decide +kernel) ?_ ?_
         ·refine AStep.mk' rfl rfl trivial (q_sliceI Tryz.underlying153 Tryz.sizeOf157 rfl (l := 1) (r := []) (.inr ⟨_, _, rfl, rfl⟩) (.inl ⟨rfl, rfl⟩) (by simp) (by simp) rfl _) ?_
          refine TxA.one (i := 6) (by decide +kernel) ?_
          refine AStep.mk' rfl rfl trivial (q_indexBA (o2 := 1) Tryz.underlying242 Tryz.sizeOf54 rfl rfl (by decide) (by decide) rfl _) ?_
          refine TxA.one (i := 7) (by decide +kernel) ?_
          refine AStep.mk' rfl rfl trivial (q_store1 Tryz.sizeOf54 rfl rfl rfl rfl (by first | (simp; done) | decide)) ?_
          refine TxA.one (i := 8) (by decide +kernel) ?_
          refine AStep.mk' rfl rfl trivial (q_store1 Tryz.sizeOf153 rfl rfl rfl rfl (by first | (simp; done) | decide)) ?_
          exact TxA.nil (by decide +kernel) (Le.mk (ps_ok (Y.has _) rfl) (.same rfl rfl (.same rfl rfl (.same rfl rfl (.same rfl rfl (.same rfl rfl .nil))))) (.eqA rfl rfl (.eqA rfl rfl (.eqA rfl rfl (.tail (tail_ok (own := [(7302, _), (7300, _), (7301, _)]) (own' := [(7302, _), (7300, _), (7301, _)]) rfl (Y.free _) (Y.okb _)))))))
         ·refine AStep.mk' rfl rfl trivial (q_indexBA (o2 := 1) Tryz.underlying242 Tryz.sizeOf54 rfl rfl (by decide) (by decide) rfl _) ?_
          refine TxA.two (i := 5) (j := 7) (by decide +kernel) ?_ ?_
          ·refine AStep.mk' rfl rfl trivial (q_sliceI Tryz.underlying153 Tryz.sizeOf157 rfl (l := 1) (r := []) (.inr ⟨_, _, rfl, rfl⟩) (.inl ⟨rfl, rfl⟩) (by simp) (by simp) rfl _) ?_
           refine TxA.one (i := 7) (by decide +kernel) ?_
           refine AStep.mk' rfl rfl trivial (q_store1 Tryz.sizeOf54 rfl rfl rfl rfl (by first | (simp; done) | decide)) ?_
           refine TxA.one (i := 8) (by decide +kernel) ?_
           refine AStep.mk' rfl rfl trivial (q_store1 Tryz.sizeOf153 rfl rfl rfl rfl (by first | (simp; done) | decide)) ?_
           exact TxA.nil (by decide +kernel) (Le.mk (ps_ok (Y.has _) rfl) (.same rfl rfl (.same rfl rfl (.same rfl rfl (.same rfl rfl (.same rfl rfl .nil))))) (.eqA rfl rfl (.eqA rfl rfl (.eqA rfl rfl (.tail (tail_ok (own := [(7302, _), (7300, _), (7301, _)]) (own' := [(7302, _), (7300, _), (7301, _)]) rfl (Y.free _) (Y.okb _)))))))
          ·refine AStep.mk' rfl rfl trivial (q_store1 Tryz.sizeOf54 rfl rfl rfl rfl (by first | (simp; done) | decide)) ?_
           refine TxA.one (i := 5) (by decide +kernel) ?_
           refine AStep.mk' rfl rfl trivial (q_sliceI Tryz.underlying153 Tryz.sizeOf157 rfl (l := 1) (r := []) (.inr ⟨_, _, rfl, rfl⟩) (.inl ⟨rfl, rfl⟩) (by simp) (by simp) rfl _) ?_
           refine TxA.one (i := 8) (by decide +kernel) ?_
           refine AStep.mk' rfl rfl trivial (q_store1 Tryz.sizeOf153 rfl rfl rfl rfl (by first | (simp; done) | decide)) ?_
           exact TxA.nil (by decide +kernel) (Le.mk (ps_ok (Y.has _) rfl) (.same rfl rfl (.same rfl rfl (.same rfl rfl (.same rfl rfl (.same rfl rfl .nil))))) (.eqA rfl rfl (.eqA rfl rfl (.eqA rfl rfl (.tail (tail_ok (own := [(7302, _), (7300, _), (7301, _)]) (own' := [(7302, _), (7300, _), (7301, _)]) rfl (Y.free _) (Y.okb _)))))))
        ·refine AStep.mk' rfl rfl trivial (q_sliceI Tryz.underlying153 Tryz.sizeOf157 rfl (l := 1) (r := []) (.inr ⟨_, _, rfl, rfl⟩) (.inl ⟨rfl, rfl⟩) (by simp) (by simp) rfl _) ?_
         refine TxA.one (i := 3) (by decide +kernel) ?_
         refine AStep.mk' rfl rfl trivial (q_loadI Tryz.isAgg54 rfl _) ?_
         refine TxA.one (i := 6) (by decide +kernel) ?_
         refine AStep.mk' rfl rfl trivial (q_indexBA (o2 := 1) Tryz.underlying242 Tryz.sizeOf54 rfl rfl (by decide) (by decide) rfl _) ?_
         refine TxA.one (i := 7) (by decide +kernel) ?_
         refine AStep.mk' rfl rfl trivial (q_store1 Tryz.sizeOf54 rfl rfl rfl rfl (by first | (simp; done) | decide)) ?_
         refine TxA.one (i := 8) (by decide +kernel) ?_
         refine AStep.mk' rfl rfl trivial (q_store1 Tryz.sizeOf153 rfl rfl rfl rfl (by first | (simp; done) | decide)) ?_
         exact TxA.nil (by decide +kernel) (Le.mk (ps_ok (Y.has _) rfl) (.same rfl rfl (.same rfl rfl (.same rfl rfl (.same rfl rfl (.same rfl rfl .nil))))) (.eqA rfl rfl (.eqA rfl rfl (.eqA rfl rfl (.tail (tail_ok (own := [(7302, _), (7300, _), (7301, _)]) (own' := [(7302, _), (7300, _), (7301, _)]) rfl (Y.free _) (Y.okb _)))))))
       ·refine AStep.mk' rfl rfl trivial (q_sliceI Tryz.underlying153 Tryz.sizeOf157 rfl (l := 1) (r := []) (.inr ⟨_, _, rfl, rfl⟩) (.inl ⟨rfl, rfl⟩) (by simp) (by simp) rfl _) ?_
        refine TxA.one (i := 2) (by decide +kernel) ?_
        refine AStep.mk' rfl rfl trivial (q_fieldI (n := 0) 54 1 Tryz.underlying157 Tryz.sizeOf54 rfl rfl rfl _) ?_
        refine TxA.one (i := 3) (by decide +kernel) ?_
        refine AStep.mk' rfl rfl trivial (q_loadI Tryz.isAgg54 rfl _) ?_
        refine TxA.one (i := 6) (by decide +kernel) ?_
        refine AStep.mk' rfl rfl trivial (q_indexBA (o2 := 1) Tryz.underlying242 Tryz.sizeOf54 rfl rfl (by decide) (by decide) rfl _) ?_
        refine TxA.one (i := 7) (by decide +kernel) ?_
        refine AStep.mk' rfl rfl trivial (q_store1 Tryz.sizeOf54 rfl rfl rfl rfl (by first | (simp; done) | decide)) ?_
        refine TxA.one (i := 8) (by decide +kernel) ?_
        refine AStep.mk' rfl rfl trivial (q_store1 Tryz.sizeOf153 rfl rfl rfl rfl (by first | (simp; done) | decide)) ?_
        exact TxA.nil (by decide +kernel) (Le.mk (ps_ok (Y.has _) rfl) (.same rfl rfl (.same rfl rfl (.same rfl rfl (.same rfl rfl (.same rfl rfl .nil))))) (.eqA rfl rfl (.eqA rfl rfl (.eqA rfl rfl (.tail (tail_ok (own := [(7302, _), (7300, _), (7301, _)]) (own' := [(7302, _), (7300, _), (7301, _)]) rfl (Y.free _) (Y.okb _)))))))
      ·refine AStep.mk' rfl rfl trivial (q_sliceI Tryz.underlying153 Tryz.sizeOf157 rfl (l := 1) (r := []) (.inr ⟨_, _, rfl, rfl⟩) (.inl ⟨rfl, rfl⟩) (by simp) (by simp) rfl _) ?_
       refine TxA.one (i := 1) (by decide +kernel) ?_
       refine AStep.mk' rfl rfl trivial (q_indexI Tryz.underlying153 Tryz.sizeOf157 rfl rfl (by decide) rfl _) ?_
       refine TxA.one (i := 2) (by decide +kernel) ?_
       refine AStep.mk' rfl rfl trivial (q_fieldI (n := 0) 54 1 Tryz.underlying157 Tryz.sizeOf54 rfl rfl rfl _) ?_
       refine TxA.one (i := 3) (by decide +kernel) ?_
       refine AStep.mk' rfl rfl trivial (q_loadI Tryz.isAgg54 rfl _) ?_
       refine TxA.one (i := 6) (by decide +kernel) ?_
       refine AStep.mk' rfl rfl trivial (q_indexBA (o2 := 1) Tryz.underlying242 Tryz.sizeOf54 rfl rfl (by decide) (by decide) rfl _) ?_
       refine TxA.one (i := 7) (by decide +kernel) ?_
       refine AStep.mk' rfl rfl trivial (q_store1 Tryz.sizeOf54 rfl rfl rfl rfl (by first | (simp; done) | decide)) ?_
       refine TxA.one (i := 8) (by decide +kernel) ?_
       refine AStep.mk' rfl rfl trivial (q_store1 Tryz.sizeOf153 rfl rfl rfl rfl (by first | (simp; done) | decide)) ?_
       exact TxA.nil (by decide +kernel) (Le.mk (ps_ok (Y.has _) rfl) (.same rfl rfl (.same rfl rfl (.same rfl rfl (.same rfl rfl (.same rfl rfl .nil))))) (.eqA rfl rfl (.eqA rfl rfl (.eqA rfl rfl (.tail (tail_ok (own := [(7302, _), (7300, _), (7301, _)]) (own' := [(7302, _), (7300, _), (7301, _)]) rfl (Y.free _) (Y.okb _)))))))
     ·refine AStep.mk' rfl rfl trivial (q_sliceI Tryz.underlying153 Tryz.sizeOf157 rfl (l := 1) (r := []) (.inr ⟨_, _, rfl, rfl⟩) (.inl ⟨rfl, rfl⟩) (by simp) (by simp) rfl _) ?_
      refine TxA.one (i := 0) (by decide +kernel) ?_
      refine AStep.mk' rfl rfl trivial (q_load1 Tryz.isAgg153 rfl rfl rfl) ?_
      refine TxA.one (i := 1) (by decide +kernel) ?_
      refine AStep.mk' rfl rfl trivial (q_indexI Tryz.underlying153 Tryz.sizeOf157 rfl rfl (by decide) rfl _) ?_
      refine TxA.one (i := 2) (by decide +kernel) ?_
      refine AStep.mk' rfl rfl trivial (q_fieldI (n := 0) 54 1 Tryz.underlying157 Tryz.sizeOf54 rfl rfl rfl _) ?_
      refine TxA.one (i := 3) (by decide +kernel) ?_
      refine AStep.mk' rfl rfl trivial (q_loadI Tryz.isAgg54 rfl _) ?_
      refine TxA.one (i := 6) (by decide +kernel) ?_
      refine AStep.mk' rfl rfl trivial (q_indexBA (o2 := 1) Tryz.underlying242 Tryz.sizeOf54 rfl rfl (by decide) (by decide) rfl _) ?_
      refine TxA.one (i := 7) (by decide +kernel) ?_
      refine AStep.mk' rfl rfl trivial (q_store1 Tryz.sizeOf54 rfl rfl rfl rfl (by first | (simp; done) | decide)) ?_
      refine TxA.one (i := 8) (by decide +kernel) ?_
      refine AStep.mk' rfl rfl trivial (q_store1 Tryz.sizeOf153 rfl rfl rfl rfl (by first | (simp; done) | decide)) ?_
      exact TxA.nil (by decide +kernel) (Le.mk (ps_ok (Y.has _) rfl) (.same rfl rfl (.same rfl rfl (.same rfl rfl (.same rfl rfl (.same rfl rfl .nil))))) (.eqA rfl rfl (.eqA rfl rfl (.eqA rfl rfl (.tail (tail_ok (own := [(7302, _), (7300, _), (7301, _)]) (own' := [(7302, _), (7300, _), (7301, _)]) rfl (Y.free _) (Y.okb _)))))))
   ·skip
    refine Run.seq (Run.regT ?_)
    refine Tx.q rfl trivial (q_move rfl _) ?_
    refine Tx.q rfl trivial (q_move rfl _) ?_
    refine Tx.q rfl trivial (q_loadW Tryz.isAgg242 Tryz.sizeOf242 rfl rfl rfl) ?_
    refine Tx.weak (Le.mk (obs' := [(7300, _), (7301, _)] ++ B ([])) (ps_ok (Y.has _) rfl) (show EnvLe _ _ [(0, _), (1, _), (2, _), (4, _), (78, _), (79, _), (80, _)] from (.same rfl rfl (.same rfl rfl (.same rfl rfl (.same rfl rfl (.same rfl rfl (.same rfl rfl (.same rfl rfl .nil)))))))) (.cons (i := 7300) rfl rfl (.cons (i := 7301) rfl rfl (.tail (tail_ok (own := [(7302, _), (7300, _), (7301, _)]) (own' := [(7300, _), (7301, _)]) rfl (Y.free _) (Y.okb _)))))) ?_
    refine Tx.y Y (own := [(7300, _), (7301, _)]) (pre := []) (env' := [(0, _), (1, _), (2, _), (4, _), (78, _), (79, _), (80, _)]) c rfl rfl rfl trivial rfl rfl rfl rfl rfl rfl (.cons rfl rfl (.cons rfl rfl (.cons rfl rfl (.cons rfl rfl (.cons rfl rfl (.cons rfl rfl (.cons rfl rfl .nil))))))) ?_ (fun o hX => ?_)
    ·skip
     refine Tx.q rfl trivial (q_not rfl _) ?_
     refine Tx.nil ?_
     refine Run.condF rfl rfl ?_
     refine Run.skip ?_
     refine Run.nil (bq_norm ?_)
     refine Run.nil (tq_norm ?_)
     exact ⟨⟨true⟩, by exact Nat.zero_lt_one, Le.mk (ps_ok (Y.has _) rfl) (.same rfl rfl (.same rfl rfl (.same rfl rfl .nil))) (.eqA rfl rfl (.eqA rfl rfl (.tail (tail_ok (own := [(7300, _), (7301, _)]) (own' := [(7300, _), (7301, _)]) rfl (Y.free _) (Y.okb _)))))⟩
    ·skip
     refine Tx.q rfl trivial (q_not rfl _) ?_
     refine Tx.nil ?_
     refine Run.condT rfl rfl ?_
     refine Run.ret (bq_ret (tq_ret (bq_ret (?_))))
     exact retY_x (.inl rfl) o hX (own_get (own := [(7300, _), (7301, _)]) rfl (Y.freeX _ hX))
  ·skip
   refine Run.seq (Run.seq (Run.reg [.r, .p, .p, .p, .r, .p, .p, .p] ?_))
   refine .R rfl (q_load1 Tryz.isAgg153 rfl rfl rfl) <| .P rfl (q_lenNil Tryz.underlying153 rfl) <| .P rfl (q_gtr rfl rfl) <| .mv rfl rfl <| .r rfl (on_of rfl rfl rfl (rfl)) (q_load1 Tryz.isAgg153 rfl rfl rfl) <| .p rfl (on_of rfl rfl rfl (rfl)) (fun _ => q_lenI Tryz.underlying153 rfl _) <| .p rfl (on_of rfl rfl rfl (rfl)) (fun _ => q_gtr rfl rfl _) <| .P rfl (q_pickF rfl (rfl) rfl) <| .nil ?_
   refine Run.condF rfl (rfl) ?_
   refine Run.exit (tq_exit (bq_exit ?_))
   refine Run.nil ?_
   exact retY_fin (.inr rfl) ([c]) (by rfl) (own_get (own := [(7300, _), (7301, _)]) rfl (Y.free _))
end Go.T
namespace Go.T
open Go Go.Proofs
set_option maxRecDepth 20000
theorem bothF_ok (c : Str) : FcO Tryz.prog 209 [.raw (.slice none 0 0), .snap 2 true [[.str c, .str []]]] [] (.fn (.func 254) [] [.box 7300 0, .box 7301 0]) [(7300, .cells [.raw (.slice none 0 0)]), (7301, .cells [.snap 2 true [[.str c, .str []]]])] := by
 refine FcO.mk' [4] Tryz.func209 rfl Tryz.ntmps209 rfl rfl rfl (fun t w => results_tmp Tryz.results209 t _ w) ?_
 refine Run.seq (Run.reg [.w, .w, .p] ?_)
 refine .W rfl (q_box1 7300 rfl rfl rfl) <| .W rfl (q_box1 7301 rfl rfl rfl) <| .ag rfl rfl <| .nil ?_
 refine Run.seq (Run.reg [.p, .p] ?_)
 refine .P rfl (q_makeFunc (xs := []) (ys := _) rfl rfl) <| .ag rfl rfl <| .nil ?_
 refine Run.ret (?_)
 exact retO1 rfl (by exact Sub.refl _) (.eq rfl (by rfl) rfl (.eq rfl (by rfl) rfl .nil))
theorem addS_nil : addS [] [] = [] := by
 have : val [] = 0 := rfl
 unfold addS; rw [this]; simp [ofInt, natDig_zero]
theorem sumNil_ok (c : Str) : Fc Tryz.prog 167 [.raw (.slice none 0 0), .snap 2 true [[.str c, .str []]]] (.tup [.snap 2 false [], .i 0]) := by
 refine Fc.mk' [4, 5] Tryz.func167 rfl Tryz.ntmps167 rfl rfl rfl (fun t w => results_tmp2 Tryz.results167 t _ w) ?_
 refine Run.seq (Run.reg [.p, .p] ?_)
 refine .ag rfl rfl <| .ag rfl rfl <| .nil ?_
 refine Run.seq (Run.reg [.w] ?_)
 refine .W rfl (q_alloc 0 Tryz.zeroValue153 rfl) <| .nil ?_
 refine Run.seq (Run.seq (Run.reg [.p, .p, .w] ?_))
 refine .mv rfl rfl <| .mv rfl rfl <| .W rfl (q_callO Tryz.call209 rfl (bothF_ok _) .nil rfl rfl) <| .nil ?_
 refine Run.block ?_
 refine Run.rangeF (α := Str) 7900 [0] [(0, _), (1, _), (4, _), (5, _), (6, _), (10, _), (11, _)] (fun (pre : List (Str)) => [(0, .cells [.raw (.slice none 0 0)])]) (fun _ _ => False) rfl Tryz.call254 (bothY_ok c) (env1 := [(0, _), (1, _), (4, _), (5, _), (6, _), (10, _), (11, _), (12, _)]) (Le.mk (obs' := [(7300, _), (7301, _)] ++ (fun (pre : List (Str)) => [(0, .cells [.raw (.slice none 0 0)])]) []) rfl (show EnvLe _ _ [(0, _), (1, _), (4, _), (5, _), (6, _), (10, _), (11, _), (12, _)] from (.same rfl rfl (.same rfl rfl (.same rfl rfl (.same rfl rfl (.same rfl rfl (.same rfl rfl (.same rfl rfl (.same rfl rfl .nil))))))))) (.cons (i := 7300) rfl rfl (.cons (i := 7301) rfl rfl (.eqA rfl rfl .nil)))) rfl rfl (fun _ => rfl) (.cons rfl rfl (.cons rfl rfl (.cons rfl rfl (.cons rfl rfl (.cons rfl rfl (.cons rfl rfl (.cons rfl rfl .nil))))))) rfl (fun _ => rfl) (by rintro j o h; exact h.elim) (fun _ => Obs.okB_get rfl) (by rintro j o h; exact h.elim) (fun _ => freeB_get rfl) (by rintro j o h; exact h.elim) (by decide) rfl (fun pre x hok => ?_) (fun xs hfin => ?_) (fun _ _ h => h.elim)
 ·skip
  refine Run.seq (Run.reg [.p] ?_)
  refine .ag rfl rfl <| .nil ?_
  refine Run.reg [.w, .w] ?_
  refine .W rfl (q_alloc 1 Tryz.zeroValue242 rfl) <| .W rfl (q_storeW Tryz.sizeOf242 rfl rfl rfl rfl rfl rfl) <| .nil ?_
  refine Run.nil ⟨rfl, ?_⟩
  refine Run.block ?_
  refine Run.seq (Run.reg [.p, .r, .p, .r, .p, .p] ?_)
  refine .P rfl (q_indexBA (o2 := 0) Tryz.underlying242 Tryz.sizeOf54 rfl rfl (by decide) (by decide) rfl) <| .R rfl (q_load1 Tryz.isAgg54 rfl rfl rfl) <| .P rfl (q_indexBA (o2 := 1) Tryz.underlying242 Tryz.sizeOf54 rfl rfl (by decide) (by decide) rfl) <| .R rfl (q_load1 Tryz.isAgg54 rfl rfl rfl) <| .P rfl (q_call Tryz.call27 rfl (add_ok _ _ (by simp) (by simp))) <| .ag rfl rfl <| .nil ?_
  refine Run.seq (Run.reg [.p, .p] ?_)
  refine .mv rfl rfl <| .P rfl (q_neqS rfl rfl) <| .nil ?_
  refine Run.condF rfl (by rw [addS_nil]; simp) ?_
  refine Run.skip ?_
  refine Run.nil (bq_norm ?_)
  refine Run.nil ?_
  exact ⟨rfl, Le.mk rfl .nil (.cons rfl rfl (.eq rfl (by first | rfl | (simp; done) | (simp; omega)) rfl .nil))⟩
 ·skip
  refine Run.nil (bq_norm ?_)
  refine Run.seq (Run.seq (Run.reg [.r, .p, .p] ?_))
  refine .R rfl (q_load1 Tryz.isAgg153 rfl rfl rfl) <| .P rfl (q_lenNil Tryz.underlying153 rfl) <| .P rfl (q_gtr rfl rfl) <| .nil ?_
  refine Run.condF rfl (rfl) ?_
  refine Run.skip ?_
  refine Run.seq (Run.reg [.r, .p, .p] ?_)
  refine .R rfl (q_load1 Tryz.isAgg153 rfl rfl rfl) <| .ag rfl rfl <| .ag rfl rfl <| .nil ?_
  refine Run.ret (?_)
  exact ret2 rfl rfl (by exact Sub.nil _ _) (Sub.int (by rfl))
theorem putNil_ok (c : Str) : Fc Tryz.prog 116 [.raw (.slice none 0 0), .agg [.str c, .str []]] (.tup [.snap 2 false [], .i (if isCode c then 0 else 23)]) := by
 refine Fc.mk' [4, 5] Tryz.func116 rfl Tryz.ntmps116 rfl rfl rfl (fun t w => results_tmp2 Tryz.results116 t _ w) ?_
 refine Run.seq (Run.reg [.w, .p, .p] ?_)
 refine .W rfl (q_boxA 0 rfl rfl) <| .ag rfl rfl <| .ag rfl rfl <| .nil ?_
 refine Run.seq ?_
 refine Run.block ?_
 refine Run.seq (Run.reg [.p, .p, .p, .p] ?_)
 refine .mv rfl rfl <| .P rfl (q_call Tryz.call165 rfl moneyNil_ok) <| .P rfl (q_neq rfl rfl) <| .ag rfl rfl <| .nil ?_
 refine Run.cond rfl (fun h1 => ?_) (fun h1 => ?_)
 ·have ph1 := h1; try simp only [bs] at ph1
  refine Run.seq (Run.reg [.p, .p] ?_)
  refine .ag rfl rfl <| .ag rfl rfl <| .nil ?_
  refine Run.ret (bq_ret (?_))
  exact ret2 rfl rfl (by exact Sub.nil _ _) (Sub.int (by simp_all [show checkNum [] = 0 from rfl]))
 ·have ph1 := h1; try simp only [bs] at ph1
  refine Run.seq (Run.reg [.p, .r, .p, .p, .p] ?_)
  refine .P rfl (q_fieldB (n := 0) 9 0 Tryz.underlying157 Tryz.sizeOf9 rfl rfl) <| .R rfl (q_load1 Tryz.isAgg9 rfl rfl rfl) <| .P rfl (q_call Tryz.call166 rfl (isCode_ok _)) <| .P rfl (q_not rfl) <| .ag rfl rfl <| .nil ?_
  refine Run.cond rfl (fun h2 => ?_) (fun h2 => ?_)
  ·have ph2 := h2; try simp only [bs] at ph2
   refine Run.seq (Run.reg [.p, .p] ?_)
   refine .ag rfl rfl <| .ag rfl rfl <| .nil ?_
   refine Run.ret (bq_ret (?_))
   exact ret2 rfl rfl (by exact Sub.nil _ _) (Sub.int (by simp_all [show checkNum [] = 0 from rfl]))
  ·have ph2 := h2; try simp only [bs] at ph2
   refine Run.seq (Run.reg [.p, .r, .p, .p, .p] ?_)
   refine .P rfl (q_fieldB (n := 0) 54 1 Tryz.underlying157 Tryz.sizeOf54 rfl rfl) <| .R rfl (q_load1 Tryz.isAgg54 rfl rfl rfl) <| .P rfl (q_call Tryz.call117 rfl (intCheck_ok _)) <| .P rfl (q_neq rfl rfl) <| .ag rfl rfl <| .nil ?_
   refine Run.cond rfl (fun h3 => ?_) (fun h3 => ?_)
   ·have ph3 := h3; try simp only [bs] at ph3
    refine Run.seq (Run.reg [.p, .p] ?_)
    refine .ag rfl rfl <| .ag rfl rfl <| .nil ?_
    refine Run.ret (bq_ret (?_))
    exact ret2 rfl rfl (by exact Sub.nil _ _) (Sub.int (by simp_all [show checkNum [] = 0 from rfl]))
   ·have ph3 := h3; try simp only [bs] at ph3
    refine Run.skip ?_
    refine Run.nil (bq_norm ?_)
    refine Run.seq (Run.reg [.p, .r, .p, .p, .p, .p, .p, .p] ?_)
    refine .mv rfl rfl <| .R rfl (q_loadW Tryz.isAgg157 Tryz.sizeOf157 rfl rfl rfl) <| .P rfl (q_buildSlice' (n := 1) (rows := [[.str c, .str []]]) Tryz.underlying153 Tryz.sizeOf157 rfl rfl rfl Tryz.zeroValue157 rfl rfl rfl rfl rfl rfl rfl) <| .P rfl (q_call Tryz.call167 rfl (sumNil_ok _)) <| .P rfl (q_extract rfl rfl) <| .P rfl (q_extract rfl rfl) <| .ag rfl rfl <| .ag rfl rfl <| .nil ?_
    refine Run.ret (?_)
    exact ret2 rfl rfl (Sub.snap (by rfl)) (Sub.int (by simp_all [show checkNum [] = 0 from rfl]))
theorem place_ok (l : Line) : Fc Tryz.prog 61 [.agg (encLine l)] (.agg [.str l.account, .str l.currency]) := by
 refine Fc.mkR Tryz.func61 rfl Tryz.ntmps61 rfl rfl rfl ?_
 refine Run.seq (Run.reg [.w, .w] ?_)
 refine .W rfl (q_boxA 0 rfl rfl) <| .W rfl (q_alloc 1 Tryz.zeroValue95 rfl) <| .nil ?_
 refine Run.seq (Run.reg [.p, .r, .p, .r, .p, .w] ?_)
 refine .P rfl (q_fieldB (n := 0) 9 0 Tryz.underlying92 Tryz.sizeOf9 rfl rfl) <| .R rfl (q_load1 Tryz.isAgg9 rfl rfl rfl) <| .P rfl (q_fieldB (n := 0) 9 1 Tryz.underlying92 Tryz.sizeOf9 rfl rfl) <| .R rfl (q_load1 Tryz.isAgg9 rfl rfl rfl) <| .P rfl (q_build (pl := #[(0, 1), (1, 1)]) Tryz.underlying95 Tryz.zeroValue95 (fun w => by kernel_rfl) rfl rfl) <| .W rfl (q_storeW Tryz.sizeOf95 rfl rfl rfl rfl rfl rfl) <| .nil ?_
 refine Run.ret (?_)
 exact Rd.cA Tryz.results61 Tryz.isAgg95 Tryz.sizeOf95 rfl rfl rfl (Sub.agg (.cons (Sub.str (by rfl)) (.cons (Sub.str (by rfl)) .nil)))
end Go.T
namespace Go.T
open Go Go.Proofs
set_option maxRecDepth 20000
def orI : List Int → Int
 | [] => 0
 | x :: r => if x ≠ 0 then x else orI r
section
variable [Noise]
structure or_ok_L0 (l : List Int) where
 pre : List Int
 rest : List Int
 hx : l = pre ++ rest
 hp : orI rest = orI l
theorem or_ok (l : List Int) : Fc Tryz.prog 118 [.snap 1 true (l.map fun n => [.i n])] (.i (orI l)) := by
 refine Fc.mk' [2] Tryz.func118 rfl Tryz.ntmps118 rfl rfl rfl (fun t w => results_tmp Tryz.results118 t _ w) ?_
 refine Run.bSnap 0 rfl (fun hb => ?_)
 simp only [List.length_map, big] at hb
 refine Run.seq (Run.reg [.p] ?_)
 refine .ag rfl rfl <| .nil ?_
 refine Run.seq (Run.reg [.p] ?_)
 refine .ag rfl rfl <| .nil ?_
 refine Run.seq (Run.seq (Run.reg [.p, .p, .p] ?_))
 refine .mv rfl rfl <| .P rfl (q_lenI Tryz.underlying193 rfl) <| .mv rfl rfl <| .nil ?_
 refine Run.block ?_
 refine Run.loop (ι := or_ok_L0 l) (fun sx => [(3, .i 0), (6, .snap 1 true (l.map fun n => [.i n])), (7, .i l.length), (8, .i sx.pre.length)]) (fun sx => []) (fun sx => sx.rest.length) ⟨[], l, rfl, rfl⟩ ?_ ?_
 ·exact Le.mk rfl (.cons rfl Sub.intA rfl (.same rfl rfl (.cons rfl Sub.intA rfl (.cons rfl Sub.intA rfl .nil)))) .nil
 ·rintro ⟨pre, rest, hx, hp⟩
  show Run _ _ _ _ [(3, .i 0), (6, .snap 1 true (l.map fun n => [.i n])), (7, .i l.length), (8, .i pre.length)] []
  have hl := congrArg List.length hx
  simp only [List.length_append] at hl
  rcases rest with _ | ⟨x, rest⟩
  ·skip
   refine Run.seq (Run.reg [.p] ?_)
   refine .P rfl (q_lss rfl rfl) <| .nil ?_
   refine Run.seq ?_
   refine Run.condF rfl (by simp at hl ⊢; omega) ?_
   refine Run.exit (tq_exit (bq_exit ?_))
   refine Run.seq (Run.reg [.p, .p] ?_)
   refine .mv rfl rfl <| .ag rfl rfl <| .nil ?_
   refine Run.ret (?_)
   exact ret1 rfl (Sub.int (by first | (rw [← hp]; rfl) | (rw [← hp]; simp [orI]; omega) | (rw [← hp]; simp at *; simp [orI, *])))
  ·simp only [List.length_cons] at hl
   refine Run.seq (Run.reg [.p] ?_)
   refine .P rfl (q_lss rfl rfl) <| .nil ?_
   refine Run.seq ?_
   refine Run.condT rfl (by simp; omega) ?_
   refine Run.skip ?_
   refine Run.seq ?_
   refine Run.block ?_
   refine Run.seq (Run.reg [.p, .p, .p] ?_)
   refine .P rfl (q_indexI Tryz.underlying193 Tryz.sizeOf3 rfl rfl (by omega) (idx_mid (fun n => [D.i n]) hx rfl)) <| .P rfl (q_loadI Tryz.isAgg3 rfl) <| .ag rfl rfl <| .nil ?_
   refine Run.seq (Run.reg [.p, .p, .p] ?_)
   refine .mv rfl rfl <| .mv rfl rfl <| .P rfl (q_neq rfl rfl) <| .nil ?_
   refine Run.cond rfl (fun h1 => ?_) (fun h1 => ?_)
   ·have ph1 := h1; try simp only [bs] at ph1
    refine Run.seq (Run.reg [.p, .p] ?_)
    refine .mv rfl rfl <| .ag rfl rfl <| .nil ?_
    refine Run.ret (bq_ret (tq_ret (bq_ret (?_))))
    exact ret1 rfl (Sub.int (by first | (rw [← hp]; rfl) | (rw [← hp]; simp [orI]; omega) | (rw [← hp]; simp at *; simp [orI, *])))
   ·have ph1 := h1; try simp only [bs] at ph1
    refine Run.skip ?_
    refine Run.nil (bq_norm ?_)
    refine Run.reg [.p, .p] ?_
    refine .P rfl (q_add rfl rfl (wrap64_ok (by omega) (by omega))) <| .mv rfl rfl <| .nil ?_
    refine Run.nil (tq_norm ?_)
    exact ⟨⟨pre ++ [x], rest, by simp [hx], by rw [← hp]; simp at *; simp [orI, *]⟩, by simp, Le.mk rfl (.cons rfl Sub.intA rfl (.same rfl rfl (.cons rfl Sub.intA rfl (.cons rfl Sub.intA rfl .nil)))) .nil⟩
theorem keyCmp_ok (a b c d : Str) : Fc Tryz.prog 62 [.agg [.str a, .str b], .agg [.str c, .str d]] (.i (orI [cmpT a c, cmpT b d])) := by
 refine Fc.mk' [4] Tryz.func62 rfl Tryz.ntmps62 rfl rfl rfl (fun t w => results_tmp Tryz.results62 t _ w) ?_
 refine Run.seq (Run.reg [.w, .w, .p] ?_)
 refine .W rfl (q_boxA 0 rfl rfl) <| .W rfl (q_boxA 1 rfl rfl) <| .ag rfl rfl <| .nil ?_
 refine Run.seq (Run.regD [.p, .r, .p, .r, .p, .p, .r, .p, .r, .p, .p, .p, .p] Tryz_mixed (by decide +kernel) ?_)
 refine .P rfl (q_fieldB (n := 0) 9 0 Tryz.underlying95 Tryz.sizeOf9 rfl rfl) <| .R rfl (q_load1 Tryz.isAgg9 rfl rfl rfl) <| .P rfl (q_fieldB (n := 0) 9 0 Tryz.underlying95 Tryz.sizeOf9 rfl rfl) <| .R rfl (q_load1 Tryz.isAgg9 rfl rfl rfl) <| .P rfl (q_call Tryz.call119 rfl (cmpS_ok _ _)) <| .P rfl (q_fieldB (n := 0) 9 1 Tryz.underlying95 Tryz.sizeOf9 rfl rfl) <| .R rfl (q_load1 Tryz.isAgg9 rfl rfl rfl) <| .P rfl (q_fieldB (n := 0) 9 1 Tryz.underlying95 Tryz.sizeOf9 rfl rfl) <| .R rfl (q_load1 Tryz.isAgg9 rfl rfl rfl) <| .P rfl (q_call Tryz.call119 rfl (cmpS_ok _ _)) <| .P rfl (q_buildSlice' (n := 2) (rows := [cmpT a c, cmpT b d].map fun n => [.i n]) Tryz.underlying193 Tryz.sizeOf3 rfl rfl rfl Tryz.zeroValue3 rfl rfl rfl rfl rfl rfl rfl) <| .P rfl (q_call Tryz.call118 rfl (or_ok [cmpT a c, cmpT b d])) <| .ag rfl rfl <| .nil ?_
 refine Run.ret (?_)
 exact ret1 rfl (Sub.int (by rfl))
theorem ledgerCmp_ok (a b c d : Str) : Fc Tryz.prog 124 [.agg [.str a, .str b], .agg [.str c, .str d]] (.i (orI [cmpT a c, cmpT b d])) := by
 refine Fc.mk' [4] Tryz.func124 rfl Tryz.ntmps124 rfl rfl rfl (fun t w => results_tmp Tryz.results124 t _ w) ?_
 refine Run.seq (Run.reg [.w, .w, .p] ?_)
 refine .W rfl (q_boxA 0 rfl rfl) <| .W rfl (q_boxA 1 rfl rfl) <| .ag rfl rfl <| .nil ?_
 refine Run.seq (Run.regD [.p, .r, .p, .r, .p, .p, .r, .p, .r, .p, .p, .p, .p] Tryz_mixed (by decide +kernel) ?_)
 refine .P rfl (q_fieldB (n := 0) 9 0 Tryz.underlying110 Tryz.sizeOf9 rfl rfl) <| .R rfl (q_load1 Tryz.isAgg9 rfl rfl rfl) <| .P rfl (q_fieldB (n := 0) 9 0 Tryz.underlying110 Tryz.sizeOf9 rfl rfl) <| .R rfl (q_load1 Tryz.isAgg9 rfl rfl rfl) <| .P rfl (q_call Tryz.call119 rfl (cmpS_ok _ _)) <| .P rfl (q_fieldB (n := 0) 9 1 Tryz.underlying110 Tryz.sizeOf9 rfl rfl) <| .R rfl (q_load1 Tryz.isAgg9 rfl rfl rfl) <| .P rfl (q_fieldB (n := 0) 9 1 Tryz.underlying110 Tryz.sizeOf9 rfl rfl) <| .R rfl (q_load1 Tryz.isAgg9 rfl rfl rfl) <| .P rfl (q_call Tryz.call119 rfl (cmpS_ok _ _)) <| .P rfl (q_buildSlice' (n := 2) (rows := [cmpT a c, cmpT b d].map fun n => [.i n]) Tryz.underlying193 Tryz.sizeOf3 rfl rfl rfl Tryz.zeroValue3 rfl rfl rfl rfl rfl rfl rfl) <| .P rfl (q_call Tryz.call118 rfl (or_ok [cmpT a c, cmpT b d])) <| .ag rfl rfl <| .nil ?_
 refine Run.ret (?_)
 exact ret1 rfl (Sub.int (by rfl))
end
theorem checkLine_ok (l : Line) : Fc Tryz.prog 60 [.agg (encLine l)] (.i (checkFields l)) := by
 refine Fc.mk' [2] Tryz.func60 rfl Tryz.ntmps60 rfl rfl rfl (fun t w => results_tmp Tryz.results60 t _ w) ?_
 refine Run.seq (Run.reg [.w, .p] ?_)
 refine .W rfl (q_boxA 0 rfl rfl) <| .ag rfl rfl <| .nil ?_
 refine Run.seq (Run.seq (Run.reg [.p, .r, .p, .p] ?_))
 refine .P rfl (q_fieldB (n := 0) 9 0 Tryz.underlying92 Tryz.sizeOf9 rfl rfl) <| .R rfl (q_load1 Tryz.isAgg9 rfl rfl rfl) <| .P rfl (q_call Tryz.call115 rfl (account_ok _)) <| .P rfl (q_neq rfl rfl) <| .nil ?_
 refine Run.cond rfl (fun h1 => ?_) (fun h1 => ?_)
 ·have ph1 := h1; try simp only [bs] at ph1
  refine Run.seq (Run.reg [.p] ?_)
  refine .ag rfl rfl <| .nil ?_
  refine Run.ret (?_)
  exact ret1 rfl (Sub.int (by unfold checkFields; grind))
 ·have ph1 := h1; try simp only [bs] at ph1
  refine Run.skip ?_
  refine Run.seq (Run.seq (Run.reg [.p, .r, .p, .p, .p, .p, .p, .p, .p] ?_))
  refine .P rfl (q_fieldB (n := 0) 9 1 Tryz.underlying92 Tryz.sizeOf9 rfl rfl) <| .R rfl (q_load1 Tryz.isAgg9 rfl rfl rfl) <| .P rfl (q_build (pl := #[(0, 1), (1, 1)]) Tryz.underlying157 Tryz.zeroValue157 (fun w => by kernel_rfl) rfl rfl) <| .P rfl (q_call Tryz.call116 rfl (putNil_ok _)) <| .mv rfl rfl <| .P rfl (q_extract rfl rfl) <| .P rfl (q_extract rfl rfl) <| .ag rfl rfl <| .ag rfl rfl <| .nil ?_
  refine Run.seq (Run.reg [.p, .p] ?_)
  refine .mv rfl rfl <| .P rfl (q_neq rfl rfl) <| .nil ?_
  refine Run.cond rfl (fun h2 => ?_) (fun h2 => ?_)
  ·have ph2 := h2; try simp only [bs] at ph2
   refine Run.seq (Run.reg [.p] ?_)
   refine .ag rfl rfl <| .nil ?_
   refine Run.ret (?_)
   exact ret1 rfl (Sub.int (by unfold checkFields; grind))
  ·have ph2 := h2; try simp only [bs] at ph2
   refine Run.skip ?_
   refine Run.seq (Run.seq (Run.reg [.p, .r, .p, .p] ?_))
   refine .P rfl (q_fieldB (n := 0) 54 2 Tryz.underlying92 Tryz.sizeOf54 rfl rfl) <| .R rfl (q_load1 Tryz.isAgg54 rfl rfl rfl) <| .P rfl (q_call Tryz.call117 rfl (intCheck_ok _)) <| .P rfl (q_neq rfl rfl) <| .nil ?_
   refine Run.cond rfl (fun h3 => ?_) (fun h3 => ?_)
   ·have ph3 := h3; try simp only [bs] at ph3
    refine Run.seq (Run.reg [.p] ?_)
    refine .ag rfl rfl <| .nil ?_
    refine Run.ret (?_)
    exact ret1 rfl (Sub.int (by unfold checkFields; grind))
   ·have ph3 := h3; try simp only [bs] at ph3
    refine Run.skip ?_
    refine Run.seq (Run.reg [.p] ?_)
    refine .ag rfl rfl <| .nil ?_
    refine Run.ret (?_)
    exact ret1 rfl (Sub.int (by unfold checkFields; grind))
end Go.T
namespace Go.T
open Go Go.Proofs
set_option maxRecDepth 20000
structure balances_ok_L0 (ls : List Line) where
 pre : List Line
 rest : List Line
 hx : ls = pre ++ rest
structure balances_ok_L1 (ls : List Line) where
 seen : List Nat
 hp : ∀ j ∈ seen, vAt (balM ls) j = []
theorem balances_ok (ls : List Line) (hl : ls.length ≤ 66) (ha : ∀ l ∈ ls, l.amount.length ≤ 14) : Fc Tryz.prog 63 [sLines ls] (.b (allNil (balM ls))) := by
 refine Fc.mk' [2] Tryz.func63 rfl Tryz.ntmps63 rfl rfl rfl (fun t w => results_tmp Tryz.results63 t _ w) ?_
 refine Run.bSnap 0 rfl (fun hb => ?_)
 simp only [List.length_map, big] at hb
 refine Run.seq (Run.reg [.p] ?_)
 refine .ag rfl rfl <| .nil ?_
 refine Run.seq (Run.reg [.w, .p] ?_)
 refine .W rfl (q_makeMapS 0 rfl) <| .ag rfl rfl <| .nil ?_
 refine Run.seq (Run.seq (Run.reg [.p, .p, .p] ?_))
 refine .mv rfl rfl <| .P rfl (q_lenI Tryz.underlying35 rfl) <| .mv rfl rfl <| .nil ?_
 refine Run.block ?_
 refine Run.loop (ι := balances_ok_L0 ls) (fun sx => [(3, .mapr 0), (9, sLines ls), (10, .i ls.length), (11, .i sx.pre.length)]) (fun sx => [(0, .mp (encSM (balM sx.pre)))]) (fun sx => sx.rest.length) ⟨[], ls, rfl⟩ ?_ ?_
 ·exact Le.mk rfl (.same rfl rfl (.same rfl rfl (.cons rfl Sub.intA rfl (.cons rfl Sub.intA rfl .nil)))) (.eq rfl (by first | rfl | rw [balM_snoc]) (okB_SM _ _) .nil)
 ·rintro ⟨pre, rest, hx⟩
  show Run _ _ _ _ [(3, .mapr 0), (9, sLines ls), (10, .i ls.length), (11, .i pre.length)] [(0, .mp (encSM (balM pre)))]
  have hl := congrArg List.length hx
  simp only [List.length_append] at hl
  rcases rest with _ | ⟨x, rest⟩
  ·have hpre : pre = ls := by rw [hx]; simp
   refine Run.seq (Run.reg [.p] ?_)
   refine .P rfl (q_lss rfl rfl) <| .nil ?_
   refine Run.seq ?_
   refine Run.condF rfl (by simp at hl ⊢; omega) ?_
   refine Run.exit (tq_exit (bq_exit ?_))
   refine Run.seq (Run.seq (Run.reg [.p, .w] ?_))
   refine .mv rfl rfl <| .W rfl (q_rangeS 1 Tryz.underlying53 rfl rfl rfl) <| .nil ?_
   refine Run.block ?_
   refine Run.loop (ι := balances_ok_L1 ls) (fun sx => [(3, .mapr 0), (27, .box 1 0)]) (fun sx => [(0, .mp (encSM (balM ls))), (1, .mi 0 (balM ls).length sx.seen)]) (fun sx => unseen (balM ls).length sx.seen) ⟨[], by simp⟩ ?_ ?_
   ·exact Le.mk rfl (.same rfl rfl (.same rfl rfl .nil)) (.eq rfl (by first | rfl | rw [hpre]) (okB_SM _ _) (.eq rfl (by first | rfl | rw [hpre]) rfl .nil))
   ·rintro ⟨seen, hp⟩
    show Run _ _ _ _ [(3, .mapr 0), (27, .box 1 0)] [(0, .mp (encSM (balM ls))), (1, .mi 0 (balM ls).length seen)]
    refine Run.seq (Run.regT ?_)
    refine Tx.n rfl trivial (q_nextS rfl rfl rfl) (fun nb hnb => ?_)
    rcases nb with _ | nj
    ·dsimp only [nextD, nextO]
     refine Tx.q rfl trivial (q_extract rfl rfl _) ?_
     refine Tx.nil ?_
     refine Run.seq ?_
     refine Run.condF rfl rfl ?_
     refine Run.exit (tq_exit (bq_exit ?_))
     refine Run.seq (Run.reg [.p] ?_)
     refine .ag rfl rfl <| .nil ?_
     refine Run.ret (?_)
     exact ret1 rfl (Sub.bool (by first | exact (allNil_F (And.left hnb) (by simpa using ‹decide _ = true›)).symm | exact (allNil_T (fun j hj => hp j (hnb j hj))).symm))
    ·dsimp only [nextD, nextO]
     refine Tx.q rfl trivial (q_extract rfl rfl _) ?_
     refine Tx.nil ?_
     refine Run.seq ?_
     refine Run.condT rfl rfl ?_
     refine Run.skip ?_
     refine Run.block ?_
     refine Run.seq (Run.reg [.r, .p, .p] ?_)
     refine .R rfl (q_entryS rfl rfl rfl (And.left hnb)) <| .P rfl (q_extract rfl rfl) <| .ag rfl rfl <| .nil ?_
     refine Run.seq (Run.reg [.p, .p] ?_)
     refine .mv rfl rfl <| .P rfl (q_neqS rfl rfl) <| .nil ?_
     refine Run.cond rfl (fun h1 => ?_) (fun h1 => ?_)
     ·have ph1 := h1; try simp only [bs] at ph1
      refine Run.seq (Run.reg [.p] ?_)
      refine .ag rfl rfl <| .nil ?_
      refine Run.ret (bq_ret (tq_ret (bq_ret (?_))))
      exact ret1 rfl (Sub.bool (by first | exact (allNil_F (And.left hnb) (by simpa using ‹decide _ = true›)).symm | exact (allNil_T (fun j hj => hp j (hnb j hj))).symm))
     ·have ph1 := h1; try simp only [bs] at ph1
      refine Run.skip ?_
      refine Run.nil (bq_norm ?_)
      refine Run.nil (tq_norm ?_)
      exact ⟨⟨seen ++ [nj], by simp at *; grind⟩, by exact unseen_lt (And.left hnb) (And.right hnb), Le.mk rfl (.same rfl rfl (.same rfl rfl .nil)) (.eq rfl (by first | rfl | rw [hpre]) (okB_SM _ _) (.eq rfl (by first | rfl | rw [hpre]) rfl .nil))⟩
  ·simp only [List.length_cons] at hl
   have hpa : ∀ l ∈ pre, l.amount.length ≤ 14 := fun l hl => ha l (by rw [hx]; simp [hl])
   have hxa := ha x (by rw [hx]; simp)
   refine Run.seq (Run.reg [.p] ?_)
   refine .P rfl (q_lss rfl rfl) <| .nil ?_
   refine Run.seq ?_
   refine Run.condT rfl (by simp; omega) ?_
   refine Run.skip ?_
   refine Run.seq ?_
   refine Run.block ?_
   refine Run.seq (Run.reg [.p, .p, .w, .w] ?_)
   refine .P rfl (q_indexI Tryz.underlying35 Tryz.sizeOf92 rfl rfl (by omega) (idx_mid encLine hx rfl)) <| .P rfl (q_loadIA Tryz.isAgg92 Tryz.sizeOf92 rfl rfl) <| .W rfl (q_alloc 1 Tryz.zeroValue92 rfl) <| .W rfl (q_storeW Tryz.sizeOf92 rfl rfl rfl rfl rfl rfl) <| .nil ?_
   refine Run.regD [.p, .p, .r, .p, .p, .r, .r, .p, .r, .p, .w] Tryz_mixed (by decide +kernel) ?_
   refine .mv rfl rfl <| .P rfl (q_fieldB (n := 0) 9 1 Tryz.underlying92 Tryz.sizeOf9 rfl rfl) <| .R rfl (q_load1 Tryz.isAgg9 rfl rfl rfl) <| .mv rfl rfl <| .P rfl (q_fieldB (n := 0) 9 1 Tryz.underlying92 Tryz.sizeOf9 rfl rfl) <| .R rfl (q_load1 Tryz.isAgg9 rfl rfl rfl) <| .R rfl (q_lookupS Tryz.underlying53 Tryz.underlying9 Tryz.zeroValue54 rfl rfl rfl) <| .P rfl (q_fieldB (n := 0) 54 2 Tryz.underlying92 Tryz.sizeOf54 rfl rfl) <| .R rfl (q_load1 Tryz.isAgg54 rfl rfl rfl) <| .P rfl (q_call Tryz.call27 rfl (add_ok _ _ (by have := balM_len pre hpa x.currency; omega) (by omega))) <| .W rfl (q_mapUpdateS Tryz.underlying53 Tryz.underlying9 rfl rfl rfl rfl) <| .nil ?_
   refine Run.nil (bq_norm ?_)
   refine Run.reg [.p, .p] ?_
   refine .P rfl (q_add rfl rfl (wrap64_ok (by omega) (by omega))) <| .mv rfl rfl <| .nil ?_
   refine Run.nil (tq_norm ?_)
   exact ⟨⟨pre ++ [x], rest, by simp [hx]⟩, by simp, Le.mk rfl (.same rfl rfl (.same rfl rfl (.cons rfl Sub.intA rfl (.cons rfl Sub.intA rfl .nil)))) (.eq rfl (by first | rfl | rw [balM_snoc]) (okB_SM _ _) .nil)⟩
end Go.T
namespace Go.T
open Go Go.Proofs
set_option maxRecDepth 20000
theorem orI_cmp (a b : Line) : orI [cmpT a.account b.account, cmpT a.currency b.currency] = cmpLine a b := by
 unfold cmpLine; simp only [orI]; split <;> (try split) <;> simp_all
structure check_ok_L0 (e : Entry) where
 pre : List Line
 rest : List Line
 hx : e.lines = pre ++ rest
 hp : checkLines [] e.lines = checkLines pre rest
 h0 : checkHead e = 0 ∧ e.lines.length ≠ 0 ∧ e.lines.length ≤ 64
theorem check_ok (e : Entry) (hs : smallE e) : Fc Tryz.prog 18 [.agg (encEntry e)] (.i (checkE e)) := by
 refine Fc.mk' [2] Tryz.func18 rfl Tryz.ntmps18 rfl rfl rfl (fun t w => results_tmp Tryz.results18 t _ w) ?_
 refine Run.bAgg 0 2 rfl rfl (fun hb => ?_)
 simp only [List.length_map, big] at hb
 refine Run.seq (Run.reg [.w, .p] ?_)
 refine .W rfl (q_boxA 0 rfl rfl) <| .ag rfl rfl <| .nil ?_
 refine Run.seq (Run.seq (Run.reg [.r, .p, .p] ?_))
 refine .R rfl (q_loadW Tryz.isAgg37 Tryz.sizeOf37 rfl rfl rfl) <| .P rfl (q_call Tryz.call59 rfl (checkHead_ok _)) <| .ag rfl rfl <| .nil ?_
 refine Run.seq (Run.reg [.p, .p] ?_)
 refine .mv rfl rfl <| .P rfl (q_neq rfl rfl) <| .nil ?_
 refine Run.cond rfl (fun h1 => ?_) (fun h1 => ?_)
 ·have ph1 := h1; try simp only [bs] at ph1
  refine Run.seq (Run.reg [.p, .p] ?_)
  refine .mv rfl rfl <| .ag rfl rfl <| .nil ?_
  refine Run.ret (?_)
  exact ret1 rfl (Sub.int (by first | (simp only [orI_cmp, allNil_bal] at *; grind [checkE, checkLines]) | grind [checkE, checkLines]))
 ·have ph1 := h1; try simp only [bs] at ph1
  refine Run.skip ?_
  refine Run.seq (Run.seq (Run.reg [.p, .r, .p, .p] ?_))
  refine .P rfl (q_fieldB (n := 0) 35 2 Tryz.underlying37 Tryz.sizeOf35 rfl rfl) <| .R rfl (q_load1 Tryz.isAgg35 rfl rfl rfl) <| .P rfl (q_lenI Tryz.underlying35 rfl) <| .P rfl (q_eql rfl rfl) <| .nil ?_
  refine Run.cond rfl (fun h2 => ?_) (fun h2 => ?_)
  ·have ph2 := h2; try simp only [bs] at ph2
   refine Run.seq (Run.reg [.p] ?_)
   refine .ag rfl rfl <| .nil ?_
   refine Run.ret (?_)
   exact ret1 rfl (Sub.int (by first | (simp only [orI_cmp, allNil_bal] at *; grind [checkE, checkLines]) | grind [checkE, checkLines]))
  ·have ph2 := h2; try simp only [bs] at ph2
   refine Run.skip ?_
   refine Run.seq (Run.seq (Run.reg [.p, .r, .p, .p] ?_))
   refine .P rfl (q_fieldB (n := 0) 35 2 Tryz.underlying37 Tryz.sizeOf35 rfl rfl) <| .R rfl (q_load1 Tryz.isAgg35 rfl rfl rfl) <| .P rfl (q_lenI Tryz.underlying35 rfl) <| .P rfl (q_gtr rfl rfl) <| .nil ?_
   refine Run.cond rfl (fun h3 => ?_) (fun h3 => ?_)
   ·have ph3 := h3; try simp only [bs] at ph3
    refine Run.seq (Run.reg [.p] ?_)
    refine .ag rfl rfl <| .nil ?_
    refine Run.ret (?_)
    exact ret1 rfl (Sub.int (by first | (simp only [orI_cmp, allNil_bal] at *; grind [checkE, checkLines]) | grind [checkE, checkLines]))
   ·have ph3 := h3; try simp only [bs] at ph3
    refine Run.skip ?_
    refine Run.seq (Run.seq (Run.reg [.p, .r, .p, .p] ?_))
    refine .P rfl (q_fieldB (n := 0) 35 2 Tryz.underlying37 Tryz.sizeOf35 rfl rfl) <| .R rfl (q_load1 Tryz.isAgg35 rfl rfl rfl) <| .P rfl (q_lenI Tryz.underlying35 rfl) <| .mv rfl rfl <| .nil ?_
    refine Run.block ?_
    refine Run.loop (ι := check_ok_L0 e) (fun sx => [(1, .box 0 0), (21, sLines e.lines), (22, .i e.lines.length), (23, .i sx.pre.length)]) (fun sx => [(0, .cells (encEntry e))]) (fun sx => sx.rest.length) ⟨[], e.lines, rfl, rfl, by omega⟩ ?_ ?_
    ·exact Le.mk rfl (.same rfl rfl (.same rfl rfl (.cons rfl Sub.intA rfl (.cons rfl Sub.intA rfl .nil)))) (.cons rfl rfl .nil)
    ·rintro ⟨pre, rest, hx, hp, h0⟩
     show Run _ _ _ _ [(1, .box 0 0), (21, sLines e.lines), (22, .i e.lines.length), (23, .i pre.length)] [(0, .cells (encEntry e))]
     have hl := congrArg List.length hx
     simp only [List.length_append] at hl
     rcases rest with _ | ⟨x, rest⟩
     ·skip
      refine Run.seq (Run.reg [.p] ?_)
      refine .P rfl (q_lss rfl rfl) <| .nil ?_
      refine Run.seq ?_
      refine Run.condF rfl (by simp at hl ⊢; omega) ?_
      refine Run.exit (tq_exit (bq_exit ?_))
      refine Run.seq (Run.seq (Run.reg [.p, .r, .p, .p] ?_))
      refine .P rfl (q_fieldB (n := 0) 35 2 Tryz.underlying37 Tryz.sizeOf35 rfl rfl) <| .R rfl (q_load1 Tryz.isAgg35 rfl rfl rfl) <| .P rfl (q_call Tryz.call63 rfl (balances_ok _ hs.2.1 (fun l hl => (hs.2.2 l hl).2.2))) <| .P rfl (q_not rfl) <| .nil ?_
      refine Run.cond rfl (fun h4 => ?_) (fun h4 => ?_)
      ·have ph4 := h4; try simp only [bs] at ph4
       refine Run.seq (Run.reg [.p] ?_)
       refine .ag rfl rfl <| .nil ?_
       refine Run.ret (?_)
       exact ret1 rfl (Sub.int (by first | (simp only [orI_cmp, allNil_bal] at *; grind [checkE, checkLines]) | grind [checkE, checkLines]))
      ·have ph4 := h4; try simp only [bs] at ph4
       refine Run.skip ?_
       refine Run.seq (Run.reg [.p] ?_)
       refine .ag rfl rfl <| .nil ?_
       refine Run.ret (?_)
       exact ret1 rfl (Sub.int (by first | (simp only [orI_cmp, allNil_bal] at *; grind [checkE, checkLines]) | grind [checkE, checkLines]))
     ·simp only [List.length_cons] at hl
      refine Run.seq (Run.reg [.p] ?_)
      refine .P rfl (q_lss rfl rfl) <| .nil ?_
      refine Run.seq ?_
      refine Run.condT rfl (by simp; omega) ?_
      refine Run.skip ?_
      refine Run.seq ?_
      refine Run.block ?_
      refine Run.seq (Run.reg [.p, .p, .p, .w, .p, .w] ?_)
      refine .mv rfl rfl <| .P rfl (q_indexI Tryz.underlying35 Tryz.sizeOf92 rfl rfl (by omega) (idx_mid encLine hx rfl)) <| .P rfl (q_loadIA Tryz.isAgg92 Tryz.sizeOf92 rfl rfl) <| .W rfl (q_alloc 1 Tryz.zeroValue92 rfl) <| .ag rfl rfl <| .W rfl (q_storeW Tryz.sizeOf92 rfl rfl rfl rfl rfl rfl) <| .nil ?_
      refine Run.seq (Run.seq (Run.reg [.r, .p, .p] ?_))
      refine .R rfl (q_loadW Tryz.isAgg92 Tryz.sizeOf92 rfl rfl rfl) <| .P rfl (q_call Tryz.call60 rfl (checkLine_ok _)) <| .ag rfl rfl <| .nil ?_
      refine Run.seq (Run.reg [.p, .p] ?_)
      refine .mv rfl rfl <| .P rfl (q_neq rfl rfl) <| .nil ?_
      refine Run.cond rfl (fun h5 => ?_) (fun h5 => ?_)
      ·have ph5 := h5; try simp only [bs] at ph5
       refine Run.seq (Run.reg [.p, .p] ?_)
       refine .mv rfl rfl <| .ag rfl rfl <| .nil ?_
       refine Run.ret (bq_ret (tq_ret (bq_ret (?_))))
       exact ret1 rfl (Sub.int (by first | (simp only [orI_cmp, allNil_bal] at *; grind [checkE, checkLines]) | grind [checkE, checkLines]))
      ·have ph5 := h5; try simp only [bs] at ph5
       refine Run.skip ?_
       refine Run.seq (Run.seq (Run.reg [.p, .r, .p] ?_))
       refine .P rfl (q_fieldB (n := 0) 54 2 Tryz.underlying92 Tryz.sizeOf54 rfl rfl) <| .R rfl (q_load1 Tryz.isAgg54 rfl rfl rfl) <| .P rfl (q_eqlS rfl rfl) <| .nil ?_
       refine Run.cond rfl (fun h6 => ?_) (fun h6 => ?_)
       ·have ph6 := h6; try simp only [bs] at ph6
        refine Run.seq (Run.reg [.p] ?_)
        refine .ag rfl rfl <| .nil ?_
        refine Run.ret (bq_ret (tq_ret (bq_ret (?_))))
        exact ret1 rfl (Sub.int (by first | (simp only [orI_cmp, allNil_bal] at *; grind [checkE, checkLines]) | grind [checkE, checkLines]))
       ·have ph6 := h6; try simp only [bs] at ph6
        refine Run.skip ?_
        refine Run.seq (Run.regD [.p, .p, .p, .p, .r, .p, .p, .p, .p, .p, .r, .p, .p, .p, .p] Tryz_mixed (by decide +kernel) ?_)
        refine .mv rfl rfl <| .P rfl (q_gtr rfl rfl) <| .mv rfl rfl <| .gT rfl (.inl rfl) rfl rfl rfl (fun hg => pk (fun _ => q_fieldB (n := 0) 35 2 Tryz.underlying37 Tryz.sizeOf35 rfl rfl _)) <| .gT rfl (.inr rfl) rfl rfl rfl (fun hg => rk (q_load1 Tryz.isAgg35 (opT rfl hg) rfl rfl)) <| .gT rfl (.inl rfl) rfl rfl rfl (fun hg => pk (fun _ => q_move rfl _)) <| .gT rfl (.inl rfl) rfl rfl rfl (fun hg => pk (fun _ => q_sub (opT rfl hg) rfl (wrap64_ok (by first | omega | (simp; done) | (simp; omega) | (simp at *; omega)) (by first | omega | (simp; done) | (simp; omega) | (simp at *; omega))) _)) <| .gT rfl (.inl rfl) rfl rfl rfl (fun hg => pk (fun _ => q_indexI Tryz.underlying35 Tryz.sizeOf92 (opT rfl hg) (opT rfl hg) (by simp at hg; omega) (idx_last encLine hx (by simp at hg; omega) (by omega)) _)) <| .gT rfl (.inl rfl) rfl rfl rfl (fun hg => pk (fun _ => q_loadIA Tryz.isAgg92 Tryz.sizeOf92 (opT rfl hg) rfl _)) <| .gT rfl (.inl rfl) rfl rfl rfl (fun hg => pk (fun _ => q_call Tryz.call61 (opsC (opT rfl hg) (rfl)) (place_ok _) _)) <| .gT rfl (.inr rfl) rfl rfl rfl (fun hg => rk (q_loadW Tryz.isAgg92 Tryz.sizeOf92 rfl rfl rfl)) <| .gT rfl (.inl rfl) rfl rfl rfl (fun hg => pk (fun _ => q_call Tryz.call61 (opsC (opT rfl hg) (rfl)) (place_ok _) _)) <| .gT rfl (.inl rfl) rfl rfl rfl (fun hg => pk (fun _ => q_call Tryz.call62 (opsC (opT rfl hg) (opsC (opT rfl hg) (rfl))) (keyCmp_ok _ _ _ _) _)) <| .gT rfl (.inl rfl) rfl rfl rfl (fun hg => pk (fun _ => q_geq (opT rfl hg) rfl _)) ?_
        refine .P rfl (q_and rfl rfl) <| .nil ?_
        refine Run.cond rfl (fun h7 => ?_) (fun h7 => ?_)
        ·have ph7 := h7; try simp only [bs] at ph7
         refine Run.seq (Run.reg [.p] ?_)
         refine .ag rfl rfl <| .nil ?_
         refine Run.ret (bq_ret (tq_ret (bq_ret (?_))))
         exact ret1 rfl (Sub.int (by first | (simp only [orI_cmp, allNil_bal] at *; grind [checkE, checkLines]) | grind [checkE, checkLines]))
        ·have ph7 := h7; try simp only [bs] at ph7
         refine Run.skip ?_
         refine Run.nil (bq_norm ?_)
         refine Run.reg [.p, .p] ?_
         refine .P rfl (q_add rfl rfl (wrap64_ok (by first | omega | (simp; done) | (simp; omega) | (simp at *; omega)) (by first | omega | (simp; done) | (simp; omega) | (simp at *; omega)))) <| .mv rfl rfl <| .nil ?_
         refine Run.nil (tq_norm ?_)
         exact ⟨⟨pre ++ [x], rest, by simp [hx], by simp only [orI_cmp] at *; grind [checkLines], h0⟩, by simp, Le.mk rfl (.same rfl rfl (.same rfl rfl (.cons rfl Sub.intA rfl (.cons rfl Sub.intA rfl .nil)))) (.cons rfl rfl .nil)⟩
end Go.T
namespace Go.T
open Go Go.Proofs
set_option maxRecDepth 20000
theorem isNaND_ok (d : Int) : Fc Tryz.prog 204 [.i d] (.b false) := by
 refine Fc.mk' [2] Tryz.func204 rfl Tryz.ntmps204 rfl rfl rfl (fun t w => results_tmp Tryz.results204 t _ w) ?_
 refine Run.seq (Run.reg [.p] ?_)
 refine .ag rfl rfl <| .nil ?_
 refine Run.seq (Run.reg [.p, .p, .p, .p] ?_)
 refine .mv rfl rfl <| .mv rfl rfl <| .P rfl (q_neq rfl rfl) <| .ag rfl rfl <| .nil ?_
 refine Run.ret (?_)
 exact ret1 rfl (Sub.bool (by simp))
def cmpD (a b : Int) : Int := if a < b then -1 else if b < a then 1 else 0
def cmpLn (a b : Line) : Int := orI [orI [cmpT a.account b.account, cmpT a.currency b.currency], signI (val a.amount - val b.amount)]
def cmpLs : List Line → List Line → Int
 | [], [] => 0
 | [], _ :: _ => -1
 | _ :: _, [] => 1
 | a :: x, b :: y => if cmpLn a b ≠ 0 then cmpLn a b else cmpLs x y
def cmpEn (a b : Entry) : Int := orI [cmpD a.day b.day, cmpT a.cause b.cause, cmpLs a.lines b.lines]
theorem cmpD_ok (a b : Int) : Fc Tryz.prog 153 [.i a, .i b] (.i (cmpD a b)) := by
 refine Fc.mk' [4] Tryz.func153 rfl Tryz.ntmps153 rfl rfl rfl (fun t w => results_tmp Tryz.results153 t _ w) ?_
 refine Run.seq (Run.reg [.p] ?_)
 refine .ag rfl rfl <| .nil ?_
 refine Run.seq (Run.reg [.p, .p, .p] ?_)
 refine .mv rfl rfl <| .P rfl (q_call Tryz.call204 rfl (isNaND_ok _)) <| .ag rfl rfl <| .nil ?_
 refine Run.seq (Run.reg [.p, .p, .p] ?_)
 refine .mv rfl rfl <| .P rfl (q_call Tryz.call204 rfl (isNaND_ok _)) <| .ag rfl rfl <| .nil ?_
 refine Run.seq (Run.seq (Run.reg [.p] ?_))
 refine .mv rfl rfl <| .nil ?_
 refine Run.condF rfl rfl ?_
 refine Run.skip ?_
 refine Run.seq (Run.seq (Run.reg [.p] ?_))
 refine .mv rfl rfl <| .nil ?_
 refine Run.condF rfl rfl ?_
 refine Run.skip ?_
 refine Run.seq (Run.seq (Run.reg [.p, .p, .p] ?_))
 refine .mv rfl rfl <| .mv rfl rfl <| .P rfl (q_lss rfl rfl) <| .nil ?_
 refine Run.cond rfl (fun h1 => ?_) (fun h1 => ?_)
 ·have ph1 := h1; try simp only [bs] at ph1
  refine Run.seq (Run.reg [.p] ?_)
  refine .ag rfl rfl <| .nil ?_
  refine Run.ret (?_)
  exact ret1 rfl (Sub.int (by grind [cmpD]))
 ·have ph1 := h1; try simp only [bs] at ph1
  refine Run.skip ?_
  refine Run.seq (Run.seq (Run.reg [.p, .p, .p] ?_))
  refine .mv rfl rfl <| .mv rfl rfl <| .P rfl (q_gtr rfl rfl) <| .nil ?_
  refine Run.cond rfl (fun h2 => ?_) (fun h2 => ?_)
  ·have ph2 := h2; try simp only [bs] at ph2
   refine Run.seq (Run.reg [.p] ?_)
   refine .ag rfl rfl <| .nil ?_
   refine Run.ret (?_)
   exact ret1 rfl (Sub.int (by grind [cmpD]))
  ·have ph2 := h2; try simp only [bs] at ph2
   refine Run.skip ?_
   refine Run.seq (Run.reg [.p] ?_)
   refine .ag rfl rfl <| .nil ?_
   refine Run.ret (?_)
   exact ret1 rfl (Sub.int (by grind [cmpD]))
theorem cmpLn_ok (a b : Line) (ha : a.amount.length ≤ 4000) (hb : b.amount.length ≤ 4000) : Fc Tryz.prog 155 [.agg (encLine a), .agg (encLine b)] (.i (cmpLn a b)) := by
 refine Fc.mk' [4] Tryz.func155 rfl Tryz.ntmps155 rfl rfl rfl (fun t w => results_tmp Tryz.results155 t _ w) ?_
 refine Run.seq (Run.reg [.w, .w, .p] ?_)
 refine .W rfl (q_boxA 0 rfl rfl) <| .W rfl (q_boxA 1 rfl rfl) <| .ag rfl rfl <| .nil ?_
 refine Run.seq (Run.regD [.r, .p, .r, .p, .p, .p, .r, .p, .r, .p, .p, .p, .p] Tryz_mixed (by decide +kernel) ?_)
 refine .R rfl (q_loadW Tryz.isAgg92 Tryz.sizeOf92 rfl rfl rfl) <| .P rfl (q_call Tryz.call61 rfl (place_ok _)) <| .R rfl (q_loadW Tryz.isAgg92 Tryz.sizeOf92 rfl rfl rfl) <| .P rfl (q_call Tryz.call61 rfl (place_ok _)) <| .P rfl (q_call Tryz.call62 rfl (keyCmp_ok _ _ _ _)) <| .P rfl (q_fieldB (n := 0) 54 2 Tryz.underlying92 Tryz.sizeOf54 rfl rfl) <| .R rfl (q_load1 Tryz.isAgg54 rfl rfl rfl) <| .P rfl (q_fieldB (n := 0) 54 2 Tryz.underlying92 Tryz.sizeOf54 rfl rfl) <| .R rfl (q_load1 Tryz.isAgg54 rfl rfl rfl) <| .P rfl (q_call Tryz.call28 rfl (compare_ok _ _ ha hb)) <| .P rfl (q_buildSlice' (n := 2) (rows := [orI [cmpT a.account b.account, cmpT a.currency b.currency], signI (val a.amount - val b.amount)].map fun n => [.i n]) Tryz.underlying193 Tryz.sizeOf3 rfl rfl rfl Tryz.zeroValue3 rfl rfl rfl rfl rfl rfl rfl) <| .P rfl (q_call Tryz.call118 rfl (or_ok [orI [cmpT a.account b.account, cmpT a.currency b.currency], signI (val a.amount - val b.amount)])) <| .ag rfl rfl <| .nil ?_
 refine Run.ret (?_)
 exact ret1 rfl (Sub.int (by rfl))
end Go.T
