/-
  Contracts of the functions that the statement reaches, and the logic in which they are proved (no condition): parts W67, Bal11, W68.
-/
import Derived.Test.YtlhemheagekhaaaGreatDoorA17
set_option linter.all false
namespace Go.T
open Go Go.Proofs
set_option maxRecDepth 20000
structure refTrial_ok_L0 (l : List Posted) (d : Int) where
 pre : List Posted
 rest : List Posted
 hx : l = pre ++ rest
structure refTrial_ok_L1 (l : List Posted) (d : Int) (pre : List Posted) (x : Posted) where
 preq : List Line
 restq : List Line
 hxq : x.entry.lines = preq ++ restq
theorem refTrial_ok (l : List Posted) (d : Int) (hs : smallPs l) (h13 : amt13L l) (hl16 : l.length ≤ 16) : Fc Tryz.prog 35 [sPosteds l, .i d] (.tup [sBals (trialX d l), .i (errX d l)]) := by
 refine Fc.mk' [4, 5] Tryz.func35 rfl Tryz.ntmps35 rfl rfl rfl (fun t w => results_tmp2 Tryz.results35 t _ w) ?_
 refine Run.seq (Run.reg [.p, .p] ?_)
 refine .ag rfl rfl <| .ag rfl rfl <| .nil ?_
 refine Run.seq (Run.seq (Run.reg [.p, .p, .p] ?_))
 refine .mv rfl rfl <| .P rfl (q_call Tryz.call26 rfl (check50_ok _ (by first | assumption | omega | (simp at *; omega)))) <| .P rfl (q_neq rfl rfl) <| .nil ?_
 refine Run.cond rfl (fun h1 => ?_) (fun h1 => ?_)
 ·have ph1 := h1; try simp only [bs] at ph1
  refine Run.seq (Run.reg [.p, .p, .p] ?_)
  refine .P rfl (q_buildSlice0 Tryz.underlying45 Tryz.sizeOf56) <| .ag rfl rfl <| .ag rfl rfl <| .nil ?_
  refine Run.ret (?_)
  exact ret2 rfl rfl (by exact (Sub.empty _ _ _).trans (Sub.snap (by simp [trialX]; grind))) (Sub.int (by first | (simp [errX]; grind) | (simp [trialX]; grind) | (rw [hpre, refT_trialP hok, trialX_ok hok (by grind)])))
 ·have ph1 := h1; try simp only [bs] at ph1
  have hok : okPs l = true := by cases ho : okPs l <;> simp_all
  refine Run.skip ?_
  refine Run.seq (Run.seq (Run.reg [.p, .p, .p] ?_))
  refine .mv rfl rfl <| .P rfl (q_call Tryz.call88 rfl (check06_ok _)) <| .P rfl (q_neq rfl rfl) <| .nil ?_
  refine Run.cond rfl (fun h2 => ?_) (fun h2 => ?_)
  ·have ph2 := h2; try simp only [bs] at ph2
   refine Run.seq (Run.reg [.p, .p, .p] ?_)
   refine .P rfl (q_buildSlice0 Tryz.underlying45 Tryz.sizeOf56) <| .ag rfl rfl <| .ag rfl rfl <| .nil ?_
   refine Run.ret (?_)
   exact ret2 rfl rfl (by exact (Sub.empty _ _ _).trans (Sub.snap (by simp [trialX]; grind))) (Sub.int (by first | (simp [errX]; grind) | (simp [trialX]; grind) | (rw [hpre, refT_trialP hok, trialX_ok hok (by grind)])))
  ·have ph2 := h2; try simp only [bs] at ph2
   refine Run.skip ?_
   refine Run.seq (Run.reg [.p, .p] ?_)
   refine .P rfl (q_buildSlice0 Tryz.underlying45 Tryz.sizeOf56) <| .ag rfl rfl <| .nil ?_
   refine Run.seq (Run.seq (Run.reg [.p] ?_))
   refine .ag rfl rfl <| .nil ?_
   refine Run.block ?_
   refine Run.loop (ι := refTrial_ok_L0 l d) (fun sx => [(0, sPosteds l), (1, .i d), (6, sBals (refT d sx.pre)), (7, .i sx.pre.length)]) (fun sx => []) (fun sx => sx.rest.length) ⟨[], l, rfl⟩ ?_ ?_
   ·exact Le.mk rfl (.same rfl rfl (.cons rfl Sub.intA rfl (.cons rfl (by first | exact Sub.refl _ | exact (Sub.empty _ _ _).trans (Sub.snap rfl) | exact Sub.snap (by first | rw [refT_T (by omega), hxq, List.append_nil] | rw [refT_F (by omega)])) rfl (.cons rfl Sub.intA rfl .nil)))) .nil
   ·rintro ⟨pre, rest, hx⟩
    show Run _ _ _ _ [(0, sPosteds l), (1, .i d), (6, sBals (refT d pre)), (7, .i pre.length)] []
    have hl := congrArg List.length hx
    simp only [List.length_append] at hl
    rcases rest with _ | ⟨x, rest⟩
    ·have hpre : pre = l := by simp [hx]
     refine Run.seq (Run.seq (Run.reg [.p, .p, .p, .p] ?_))
     refine .mv rfl rfl <| .mv rfl rfl <| .P rfl (q_lenI Tryz.underlying27 rfl) <| .P rfl (q_lss rfl rfl) <| .nil ?_
     refine Run.condF rfl (by simp at hl ⊢; omega) ?_
     refine Run.exit (tq_exit (bq_exit ?_))
     refine Run.seq (Run.reg [.p, .p, .p] ?_)
     refine .mv rfl rfl <| .ag rfl rfl <| .ag rfl rfl <| .nil ?_
     refine Run.ret (?_)
     exact ret2 rfl rfl (Sub.snap (by first | (simp [errX]; grind) | (simp [trialX]; grind) | (rw [hpre, refT_trialP hok, trialX_ok hok (by grind)]))) (Sub.int (by first | (simp [errX]; grind) | (simp [trialX]; grind) | (rw [hpre, refT_trialP hok, trialX_ok hok (by grind)])))
    ·simp only [List.length_cons] at hl
     have hxs := hs x (by rw [hx]; simp)
     have hx66 := hxs.2.1
     have hxc := (okP_parts (okPs_mem hok x (by rw [hx]; simp))).1
     have hB := refT_B (d := d) (l := pre) (fun p hp => (okP_parts (okPs_mem hok p (by rw [hx]; simp [hp]))).1) (fun p hp => h13 p (by rw [hx]; simp [hp])) (fun p hp => hs p (by rw [hx]; simp [hp]))
     refine Run.seq (Run.seq (Run.reg [.p, .p, .p, .p] ?_))
     refine .mv rfl rfl <| .mv rfl rfl <| .P rfl (q_lenI Tryz.underlying27 rfl) <| .P rfl (q_lss rfl rfl) <| .nil ?_
     refine Run.condT rfl (by simp; omega) ?_
     refine Run.skip ?_
     refine Run.seq ?_
     refine Run.block ?_
     refine Run.seq (Run.seq (Run.reg [.p, .p, .p, .p, .p, .p, .p] ?_))
     refine .mv rfl rfl <| .mv rfl rfl <| .P rfl (q_indexI Tryz.underlying27 Tryz.sizeOf39 rfl rfl (by omega) (idx_mid encPosted hx rfl)) <| .P rfl (q_fieldI (n := 0) 34 0 Tryz.underlying39 Tryz.sizeOf34 rfl rfl rfl) <| .P rfl (q_loadI Tryz.isAgg34 rfl) <| .mv rfl rfl <| .P rfl (q_gtr rfl rfl) <| .nil ?_
     refine Run.cond rfl (fun h3 => ?_) (fun h3 => ?_)
     ·have ph3 := h3; try simp only [bs] at ph3
      refine Run.exit (bq_exit ?_)
      refine Run.reg [.p, .p, .p] ?_
      refine .mv rfl rfl <| .P rfl (q_add rfl rfl (wrap64_ok (by first | omega | (simp; done) | (simp; omega) | (simp at *; omega)) (by first | omega | (simp; done) | (simp; omega) | (simp at *; omega)))) <| .ag rfl rfl <| .nil ?_
      refine Run.nil (tq_norm ?_)
      exact ⟨⟨pre ++ [x], rest, by simp [hx]⟩, by simp, Le.mk rfl (.same rfl rfl (.cons rfl Sub.intA rfl (.cons rfl (by first | exact Sub.refl _ | exact (Sub.empty _ _ _).trans (Sub.snap rfl) | exact Sub.snap (by first | rw [refT_T (by omega), hxq, List.append_nil] | rw [refT_F (by omega)])) rfl (.cons rfl Sub.intA rfl .nil)))) .nil⟩
     ·have ph3 := h3; try simp only [bs] at ph3
      refine Run.skip ?_
      refine Run.seq (Run.reg [.p] ?_)
      refine .ag rfl rfl <| .nil ?_
      refine Run.block ?_
      refine Run.loop (ι := refTrial_ok_L1 l d pre x) (fun sx => [(0, sPosteds l), (1, .i d), (6, sBals (putL (refT d pre) sx.preq)), (7, .i pre.length), (8, .i sx.preq.length)]) (fun sx => []) (fun sx => sx.restq.length) ⟨[], x.entry.lines, rfl⟩ ?_ ?_
      ·exact Le.mk rfl (.same rfl rfl (.cons rfl Sub.intA rfl (.cons rfl (by first | exact Sub.refl _ | exact (Sub.empty _ _ _).trans (Sub.snap rfl) | exact Sub.snap (by rw [putL_snoc])) rfl (.cons rfl Sub.intA rfl (.cons rfl Sub.intA rfl .nil))))) .nil
      ·rintro ⟨preq, restq, hxq⟩
       show Run _ _ _ _ [(0, sPosteds l), (1, .i d), (6, sBals (putL (refT d pre) preq)), (7, .i pre.length), (8, .i preq.length)] []
       have hlq := congrArg List.length hxq
       simp only [List.length_append] at hlq
       rcases restq with _ | ⟨xq, restq⟩
       ·skip
        refine Run.seq (Run.seq (Run.reg [.p, .p, .p, .p, .p, .p, .p, .p, .p] ?_))
        refine .mv rfl rfl <| .mv rfl rfl <| .mv rfl rfl <| .P rfl (q_indexI Tryz.underlying27 Tryz.sizeOf39 rfl rfl (by omega) (idx_mid encPosted hx rfl)) <| .P rfl (q_fieldI (n := 2) 37 3 Tryz.underlying39 Tryz.sizeOf37 rfl rfl rfl) <| .P rfl (q_fieldI (n := 0) 35 2 Tryz.underlying37 Tryz.sizeOf35 rfl rfl rfl) <| .P rfl (q_loadI Tryz.isAgg35 rfl) <| .P rfl (q_lenI Tryz.underlying35 rfl) <| .P rfl (q_lss rfl rfl) <| .nil ?_
        refine Run.condF rfl (by simp at hlq ⊢; omega) ?_
        refine Run.exit (tq_exit (bq_exit ?_))
        refine Run.nil (bq_norm ?_)
        refine Run.reg [.p, .p, .p] ?_
        refine .mv rfl rfl <| .P rfl (q_add rfl rfl (wrap64_ok (by first | omega | (simp; done) | (simp; omega) | (simp at *; omega)) (by first | omega | (simp; done) | (simp; omega) | (simp at *; omega)))) <| .ag rfl rfl <| .nil ?_
        refine Run.nil (tq_norm ?_)
        exact ⟨⟨pre ++ [x], rest, by simp [hx]⟩, by simp, Le.mk rfl (.same rfl rfl (.cons rfl Sub.intA rfl (.cons rfl (by first | exact Sub.refl _ | exact (Sub.empty _ _ _).trans (Sub.snap rfl) | exact Sub.snap (by first | rw [refT_T (by omega), hxq, List.append_nil] | rw [refT_F (by omega)])) rfl (.cons rfl Sub.intA rfl .nil)))) .nil⟩
       ·simp only [List.length_cons] at hlq
        have hqs := hxs.2.2 xq (by rw [hxq]; simp)
        have hBq := hB.lines (ls := preq) (fun y hy => (checkE_line hxc y (by rw [hxq]; simp [hy])).1) (fun y hy => h13 x (by rw [hx]; simp) y (by rw [hxq]; simp [hy]))
        have hBl := hBq.len
        refine Run.seq (Run.seq (Run.reg [.p, .p, .p, .p, .p, .p, .p, .p, .p] ?_))
        refine .mv rfl rfl <| .mv rfl rfl <| .mv rfl rfl <| .P rfl (q_indexI Tryz.underlying27 Tryz.sizeOf39 rfl rfl (by omega) (idx_mid encPosted hx rfl)) <| .P rfl (q_fieldI (n := 2) 37 3 Tryz.underlying39 Tryz.sizeOf37 rfl rfl rfl) <| .P rfl (q_fieldI (n := 0) 35 2 Tryz.underlying37 Tryz.sizeOf35 rfl rfl rfl) <| .P rfl (q_loadI Tryz.isAgg35 rfl) <| .P rfl (q_lenI Tryz.underlying35 rfl) <| .P rfl (q_lss rfl rfl) <| .nil ?_
        refine Run.condT rfl (by simp; omega) ?_
        refine Run.skip ?_
        refine Run.seq ?_
        refine Run.block ?_
        refine Run.seq (Run.reg [.p, .p, .p, .p, .p, .p, .p, .p, .p, .w, .w] ?_)
        refine .mv rfl rfl <| .mv rfl rfl <| .P rfl (q_indexI Tryz.underlying27 Tryz.sizeOf39 rfl rfl (by omega) (idx_mid encPosted hx rfl)) <| .P rfl (q_fieldI (n := 2) 37 3 Tryz.underlying39 Tryz.sizeOf37 rfl rfl rfl) <| .P rfl (q_fieldI (n := 0) 35 2 Tryz.underlying37 Tryz.sizeOf35 rfl rfl rfl) <| .P rfl (q_loadI Tryz.isAgg35 rfl) <| .mv rfl rfl <| .P rfl (q_indexI Tryz.underlying35 Tryz.sizeOf92 rfl rfl (by omega) (idx_mid encLine hxq rfl)) <| .P rfl (q_loadIA Tryz.isAgg92 Tryz.sizeOf92 rfl rfl) <| .W rfl (q_alloc 0 Tryz.zeroValue92 rfl) <| .W rfl (q_storeW Tryz.sizeOf92 rfl rfl rfl rfl rfl rfl) <| .nil ?_
        refine Run.reg [.p, .p, .r, .p, .r, .p, .r, .p, .p, .p] ?_
        refine .mv rfl rfl <| .P rfl (q_fieldB (n := 0) 9 0 Tryz.underlying92 Tryz.sizeOf9 rfl rfl) <| .R rfl (q_load1 Tryz.isAgg9 rfl rfl rfl) <| .P rfl (q_fieldB (n := 0) 9 1 Tryz.underlying92 Tryz.sizeOf9 rfl rfl) <| .R rfl (q_load1 Tryz.isAgg9 rfl rfl rfl) <| .P rfl (q_fieldB (n := 0) 54 2 Tryz.underlying92 Tryz.sizeOf54 rfl rfl) <| .R rfl (q_load1 Tryz.isAgg54 rfl rfl rfl) <| .P rfl (q_build (pl := #[(0, 1), (1, 1), (2, 1)]) Tryz.underlying56 Tryz.zeroValue56 (fun w => by kernel_rfl) rfl rfl) <| .P rfl (q_call Tryz.call89 rfl (putB_ok (putL (refT d pre) preq) (toBal xq) (by omega) (dig_17 (by have := h13 x (by rw [hx]; simp) xq (by rw [hxq]; simp); show xq.amount.length ≤ 17; omega)) (hBq.dig (by omega)))) <| .ag rfl rfl <| .nil ?_
        refine Run.nil (bq_norm ?_)
        refine Run.reg [.p, .p, .p] ?_
        refine .mv rfl rfl <| .P rfl (q_add rfl rfl (wrap64_ok (by first | omega | (simp; done) | (simp; omega) | (simp at *; omega)) (by first | omega | (simp; done) | (simp; omega) | (simp at *; omega)))) <| .ag rfl rfl <| .nil ?_
        refine Run.nil (tq_norm ?_)
        exact ⟨⟨preq ++ [xq], restq, by simp [hxq]⟩, by simp, Le.mk rfl (.same rfl rfl (.cons rfl Sub.intA rfl (.cons rfl (by first | exact Sub.refl _ | exact (Sub.empty _ _ _).trans (Sub.snap rfl) | exact Sub.snap (by rw [putL_snoc])) rfl (.cons rfl Sub.intA rfl (.cons rfl Sub.intA rfl .nil))))) .nil⟩
theorem fil_T {p : Posted → Bool} {l : List Posted} {x : Posted} (h : p x = true) : (l ++ [x]).filter p = l.filter p ++ [x] := by rw [List.filter_append]; simp [h]
theorem fil_F {p : Posted → Bool} {l : List Posted} {x : Posted} (h : p x = false) : (l ++ [x]).filter p = l.filter p := by rw [List.filter_append]; simp [h]
theorem fil_len (p : Posted → Bool) (l : List Posted) : (l.filter p).length ≤ l.length := List.length_filter_le _ _
structure refAdjusting_ok_L0 (l : List Posted) where
 pre : List Posted
 rest : List Posted
 hx : l = pre ++ rest
theorem refAdjusting_ok (l : List Posted) (hl0 : l.length ≤ 1000000) : Fc Tryz.prog 38 [sPosteds l] (sPosteds (l.filter adjP)) := by
 refine Fc.mk' [2] Tryz.func38 rfl Tryz.ntmps38 rfl rfl rfl (fun t w => results_tmp Tryz.results38 t _ w) ?_
 refine Run.seq (Run.reg [.p] ?_)
 refine .ag rfl rfl <| .nil ?_
 refine Run.seq (Run.reg [.p, .p] ?_)
 refine .P rfl (q_buildSlice0 Tryz.underlying27 Tryz.sizeOf39) <| .ag rfl rfl <| .nil ?_
 refine Run.seq (Run.seq (Run.reg [.p] ?_))
 refine .ag rfl rfl <| .nil ?_
 refine Run.block ?_
 refine Run.loop (ι := refAdjusting_ok_L0 l) (fun sx => [(0, sPosteds l), (3, .gs 0 (sx.pre.filter adjP).length), (4, .i sx.pre.length)]) (fun sx => [(0, .arr 6 ((sx.pre.filter adjP).map encPosted))]) (fun sx => sx.rest.length) ⟨[], l, rfl⟩ ?_ ?_
 ·exact (Le.own0 0 6).trans <| Le.mk rfl (.same rfl rfl (.cons rfl (Sub.gsEmpty _ _) rfl (.cons rfl Sub.intA rfl .nil))) (.arr rfl (by first | rfl | (rw [fil_T (by simpa [adjP] using ph1)]; simp; done) | (rw [fil_F (by simpa [adjP] using ph1)])) .nil)
 ·rintro ⟨pre, rest, hx⟩
  show Run _ _ _ _ [(0, sPosteds l), (3, .gs 0 (pre.filter adjP).length), (4, .i pre.length)] [(0, .arr 6 ((pre.filter adjP).map encPosted))]
  have hl := congrArg List.length hx
  simp only [List.length_append] at hl
  have hfl := fil_len adjP pre
  rcases rest with _ | ⟨x, rest⟩
  ·skip
   refine Run.seq (Run.seq (Run.reg [.p, .p, .p, .p] ?_))
   refine .mv rfl rfl <| .mv rfl rfl <| .P rfl (q_lenI Tryz.underlying27 rfl) <| .P rfl (q_lss rfl rfl) <| .nil ?_
   refine Run.condF rfl (by simp at hl ⊢; omega) ?_
   refine Run.exit (tq_exit (bq_exit ?_))
   refine Run.seq (Run.reg [.p, .p] ?_)
   refine .mv rfl rfl <| .ag rfl rfl <| .nil ?_
   refine Run.weak (Le.freeze 2 0 rfl rfl (by simp)) ?_
   refine Run.ret (?_)
   exact ret1 rfl (Sub.snap (by rw [hx, List.append_nil]))
  ·simp only [List.length_cons] at hl
   refine Run.seq (Run.seq (Run.reg [.p, .p, .p, .p] ?_))
   refine .mv rfl rfl <| .mv rfl rfl <| .P rfl (q_lenI Tryz.underlying27 rfl) <| .P rfl (q_lss rfl rfl) <| .nil ?_
   refine Run.condT rfl (by simp; omega) ?_
   refine Run.skip ?_
   refine Run.seq ?_
   refine Run.block ?_
   refine Run.seq (Run.regD [.p, .p, .p, .p, .p, .p, .p, .p, .p, .p, .p, .p] Tryz_mixed (by decide +kernel) ?_)
   refine .mv rfl rfl <| .mv rfl rfl <| .P rfl (q_indexI Tryz.underlying27 Tryz.sizeOf39 rfl rfl (by omega) (idx_mid encPosted hx rfl)) <| .P rfl (q_fieldI (n := 0) 34 0 Tryz.underlying39 Tryz.sizeOf34 rfl rfl rfl) <| .P rfl (q_loadI Tryz.isAgg34 rfl) <| .mv rfl rfl <| .mv rfl rfl <| .P rfl (q_indexI Tryz.underlying27 Tryz.sizeOf39 rfl rfl (by omega) (idx_mid encPosted hx rfl)) <| .P rfl (q_fieldI (n := 2) 37 3 Tryz.underlying39 Tryz.sizeOf37 rfl rfl rfl) <| .P rfl (q_fieldI (n := 0) 34 0 Tryz.underlying37 Tryz.sizeOf34 rfl rfl rfl) <| .P rfl (q_loadI Tryz.isAgg34 rfl) <| .P rfl (q_gtr rfl rfl) <| .nil ?_
   refine Run.cond rfl (fun h1 => ?_) (fun h1 => ?_)
   ·have ph1 := h1; try simp only [bs] at ph1
    refine Run.reg [.p, .p, .p, .p, .p, .p, .w, .p] ?_
    refine .mv rfl rfl <| .mv rfl rfl <| .mv rfl rfl <| .P rfl (q_indexI Tryz.underlying27 Tryz.sizeOf39 rfl rfl (by omega) (idx_mid encPosted hx rfl)) <| .P rfl (q_loadIA Tryz.isAgg39 Tryz.sizeOf39 rfl rfl) <| .P rfl (q_buildSlice' (n := 1) (rows := [encPosted x]) Tryz.underlying27 Tryz.sizeOf39 rfl rfl rfl Tryz.zeroValue39 rfl rfl rfl rfl rfl rfl rfl) <| .W rfl (q_append 1 Tryz.underlying27 Tryz.underlying27 Tryz.sizeOf39 Tryz.typeInfo39 Tryz.zeroValue39 rfl (bt := 80) rfl rfl rfl rfl (by simp) rfl rfl (by simp; omega)) <| .ag rfl rfl <| .nil ?_
    refine Run.nil (bq_norm ?_)
    refine Run.reg [.p, .p, .p] ?_
    refine .mv rfl rfl <| .P rfl (q_add rfl rfl (wrap64_ok (by first | omega | (simp; done) | (simp; omega) | (simp at *; omega)) (by first | omega | (simp; done) | (simp; omega) | (simp at *; omega)))) <| .ag rfl rfl <| .nil ?_
    refine Run.nil (tq_norm ?_)
    exact ⟨⟨pre ++ [x], rest, by simp [hx]⟩, by simp, (Le.mk (obs' := [(1, _)]) rfl (show EnvLe _ _ [(0, _), (3, _), (4, _)] from (.same rfl rfl (.same rfl rfl (.same rfl rfl .nil)))) (.cons (i := 1) rfl rfl .nil)).trans <| (Le.ren 3 1 0 rfl rfl (by simp) rfl).trans <| Le.mk rfl (.same rfl rfl (.cons rfl (Sub.gs (by first | rfl | (rw [fil_T (by simpa [adjP] using ph1)]; simp; done) | (rw [fil_F (by simpa [adjP] using ph1)]))) rfl (.cons rfl Sub.intA rfl .nil))) (.arr rfl (by first | rfl | (rw [fil_T (by simpa [adjP] using ph1)]; simp; done) | (rw [fil_F (by simpa [adjP] using ph1)])) .nil)⟩
   ·have ph1 := h1; try simp only [bs] at ph1
    refine Run.skip ?_
    refine Run.nil (bq_norm ?_)
    refine Run.reg [.p, .p, .p] ?_
    refine .mv rfl rfl <| .P rfl (q_add rfl rfl (wrap64_ok (by first | omega | (simp; done) | (simp; omega) | (simp at *; omega)) (by first | omega | (simp; done) | (simp; omega) | (simp at *; omega)))) <| .ag rfl rfl <| .nil ?_
    refine Run.nil (tq_norm ?_)
    exact ⟨⟨pre ++ [x], rest, by simp [hx]⟩, by simp, Le.mk rfl (.same rfl rfl (.cons rfl (Sub.gs (by first | rfl | (rw [fil_T (by simpa [adjP] using ph1)]; simp; done) | (rw [fil_F (by simpa [adjP] using ph1)]))) rfl (.cons rfl Sub.intA rfl .nil))) (.arr rfl (by first | rfl | (rw [fil_T (by simpa [adjP] using ph1)]; simp; done) | (rw [fil_F (by simpa [adjP] using ph1)])) .nil)⟩
structure refBetween_ok_L0 (l : List Posted) (a b : Int) where
 pre : List Posted
 rest : List Posted
 hx : l = pre ++ rest
theorem refBetween_ok (l : List Posted) (a b : Int) (hs : smallPs l) : Fc Tryz.prog 36 [sPosteds l, .i a, .i b] (.tup [sPosteds (if okPs l && decide (0 ≤ a) && decide (a ≤ b) then betwK a b l else []), .i (if okPs l then if a < 0 ∨ b < a then 2 else 0 else 1)]) := by
 refine Fc.mk' [6, 7] Tryz.func36 rfl Tryz.ntmps36 rfl rfl rfl (fun t w => results_tmp2 Tryz.results36 t _ w) ?_
 refine Run.seq (Run.reg [.p, .p] ?_)
 refine .ag rfl rfl <| .ag rfl rfl <| .nil ?_
 refine Run.seq (Run.seq (Run.reg [.p, .p, .p] ?_))
 refine .mv rfl rfl <| .P rfl (q_call Tryz.call26 rfl (check50_ok _ (by first | assumption | omega | (simp at *; omega)))) <| .P rfl (q_neq rfl rfl) <| .nil ?_
 refine Run.cond rfl (fun h1 => ?_) (fun h1 => ?_)
 ·have ph1 := h1; try simp only [bs] at ph1
  have hok : okPs l = false := by cases ho : okPs l <;> simp_all
  refine Run.seq (Run.reg [.p, .p, .p] ?_)
  refine .P rfl (q_buildSlice0 Tryz.underlying27 Tryz.sizeOf39) <| .ag rfl rfl <| .ag rfl rfl <| .nil ?_
  refine Run.ret (?_)
  exact ret2 rfl rfl (by first | exact (Sub.empty _ _ _).trans (Sub.snap (nil_b1 hok)) | exact (Sub.empty _ _ _).trans (Sub.snap (nil_b2 ph2))) (Sub.int (by first | (rw [hok]; rfl) | (simp only [hok, if_true, Bool.true_and]; first | rw [if_pos (by omega)] | rw [if_neg (by omega)] | rw [if_pos (by simp; omega), hx, List.append_nil])))
 ·have ph1 := h1; try simp only [bs] at ph1
  have hok : okPs l = true := by cases ho : okPs l <;> simp_all
  have hl1 : l.length ≤ 10000 := by have := hok; simp only [okPs, Bool.and_eq_true, decide_eq_true_eq] at this; exact this.1.1
  refine Run.skip ?_
  refine Run.seq (Run.seq (Run.reg [.p, .p, .p, .p, .p, .p, .p] ?_))
  refine .mv rfl rfl <| .P rfl (q_lss rfl rfl) <| .mv rfl rfl <| .gF rfl (.inl rfl) rfl rfl rfl (fun hg => pk (fun _ => q_move rfl _)) <| .gF rfl (.inl rfl) rfl rfl rfl (fun hg => pk (fun _ => q_move rfl _)) <| .gF rfl (.inl rfl) rfl rfl rfl (fun hg => pk (fun _ => q_gtr (opT rfl (nt hg)) (opT rfl (nt hg)) _)) <| .P rfl (q_or rfl rfl) <| .nil ?_
  refine Run.cond rfl (fun h2 => ?_) (fun h2 => ?_)
  ·have ph2 := h2; try simp only [bs] at ph2
   refine Run.seq (Run.reg [.p, .p, .p] ?_)
   refine .P rfl (q_buildSlice0 Tryz.underlying27 Tryz.sizeOf39) <| .ag rfl rfl <| .ag rfl rfl <| .nil ?_
   refine Run.ret (?_)
   exact ret2 rfl rfl (by first | exact (Sub.empty _ _ _).trans (Sub.snap (nil_b1 hok)) | exact (Sub.empty _ _ _).trans (Sub.snap (nil_b2 ph2))) (Sub.int (by first | (rw [hok]; rfl) | (simp only [hok, if_true, Bool.true_and]; first | rw [if_pos (by omega)] | rw [if_neg (by omega)] | rw [if_pos (by simp; omega), hx, List.append_nil])))
  ·have ph2 := h2; try simp only [bs] at ph2
   refine Run.skip ?_
   refine Run.seq (Run.reg [.p, .p] ?_)
   refine .P rfl (q_buildSlice0 Tryz.underlying27 Tryz.sizeOf39) <| .ag rfl rfl <| .nil ?_
   refine Run.seq (Run.seq (Run.reg [.p] ?_))
   refine .ag rfl rfl <| .nil ?_
   refine Run.block ?_
   refine Run.loop (ι := refBetween_ok_L0 l a b) (fun sx => [(0, sPosteds l), (1, .i a), (2, .i b), (8, .gs 0 (betwK a b sx.pre).length), (9, .i sx.pre.length)]) (fun sx => [(0, .arr 6 ((betwK a b sx.pre).map encPosted))]) (fun sx => sx.rest.length) ⟨[], l, rfl⟩ ?_ ?_
   ·exact (Le.own0 0 6).trans <| Le.mk rfl (.same rfl rfl (.cons rfl Sub.intA rfl (.cons rfl Sub.intA rfl (.cons rfl (Sub.gsEmpty _ _) rfl (.cons rfl Sub.intA rfl .nil))))) (.arr rfl (by first | rfl | (unfold betwK; rw [fil_T (by simpa [btw] using ph3)]; simp; done) | (unfold betwK; rw [fil_F (by simp [btw]; grind)])) .nil)
   ·rintro ⟨pre, rest, hx⟩
    show Run _ _ _ _ [(0, sPosteds l), (1, .i a), (2, .i b), (8, .gs 0 (betwK a b pre).length), (9, .i pre.length)] [(0, .arr 6 ((betwK a b pre).map encPosted))]
    have hl := congrArg List.length hx
    simp only [List.length_append] at hl
    have hfl : (betwK a b pre).length ≤ pre.length := fil_len (btw a b) pre
    rcases rest with _ | ⟨x, rest⟩
    ·skip
     refine Run.seq (Run.seq (Run.reg [.p, .p, .p, .p] ?_))
     refine .mv rfl rfl <| .mv rfl rfl <| .P rfl (q_lenI Tryz.underlying27 rfl) <| .P rfl (q_lss rfl rfl) <| .nil ?_
     refine Run.condF rfl (by simp at hl ⊢; omega) ?_
     refine Run.exit (tq_exit (bq_exit ?_))
     refine Run.seq (Run.reg [.p, .p, .p] ?_)
     refine .mv rfl rfl <| .ag rfl rfl <| .ag rfl rfl <| .nil ?_
     refine Run.weak (Le.freeze 6 0 rfl rfl (by simp)) ?_
     refine Run.ret (?_)
     exact ret2 rfl rfl (Sub.snap (by first | (rw [hok]; rfl) | (simp only [hok, if_true, Bool.true_and]; first | rw [if_pos (by omega)] | rw [if_neg (by omega)] | rw [if_pos (by simp; omega), hx, List.append_nil]))) (Sub.int (by first | (rw [hok]; rfl) | (simp only [hok, if_true, Bool.true_and]; first | rw [if_pos (by omega)] | rw [if_neg (by omega)] | rw [if_pos (by simp; omega), hx, List.append_nil])))
    ·simp only [List.length_cons] at hl
     refine Run.seq (Run.seq (Run.reg [.p, .p, .p, .p] ?_))
     refine .mv rfl rfl <| .mv rfl rfl <| .P rfl (q_lenI Tryz.underlying27 rfl) <| .P rfl (q_lss rfl rfl) <| .nil ?_
     refine Run.condT rfl (by simp; omega) ?_
     refine Run.skip ?_
     refine Run.seq ?_
     refine Run.block ?_
     refine Run.seq (Run.reg [.p, .p, .p, .p, .p, .p, .p, .p, .p, .p, .p, .p, .p, .p, .p, .p] ?_)
     refine .mv rfl rfl <| .mv rfl rfl <| .P rfl (q_indexI Tryz.underlying27 Tryz.sizeOf39 rfl rfl (by omega) (idx_mid encPosted hx rfl)) <| .P rfl (q_fieldI (n := 0) 3 1 Tryz.underlying39 Tryz.sizeOf3 rfl rfl rfl) <| .P rfl (q_loadI Tryz.isAgg3 rfl) <| .mv rfl rfl <| .P rfl (q_gtr rfl rfl) <| .mv rfl rfl <| .gT rfl (.inl rfl) rfl rfl rfl (fun hg => pk (fun _ => q_move rfl _)) <| .gT rfl (.inl rfl) rfl rfl rfl (fun hg => pk (fun _ => q_move rfl _)) <| .gT rfl (.inl rfl) rfl rfl rfl (fun hg => pk (fun _ => q_indexI Tryz.underlying27 Tryz.sizeOf39 (opT rfl hg) (opT rfl hg) (by omega) (idx_mid encPosted hx rfl) _)) <| .gT rfl (.inl rfl) rfl rfl rfl (fun hg => pk (fun _ => q_fieldI (n := 0) 3 1 Tryz.underlying39 Tryz.sizeOf3 rfl (opT rfl hg) rfl _)) <| .gT rfl (.inl rfl) rfl rfl rfl (fun hg => pk (fun _ => q_loadI Tryz.isAgg3 (opT rfl hg) _)) <| .gT rfl (.inl rfl) rfl rfl rfl (fun hg => pk (fun _ => q_move rfl _)) <| .gT rfl (.inl rfl) rfl rfl rfl (fun hg => pk (fun _ => q_leq (opT rfl hg) (opT rfl hg) _)) <| .P rfl (q_and rfl rfl) <| .nil ?_
     refine Run.cond rfl (fun h3 => ?_) (fun h3 => ?_)
     ·have ph3 := h3; try simp only [bs] at ph3
      refine Run.reg [.p, .p, .p, .p, .p, .p, .w, .p] ?_
      refine .mv rfl rfl <| .mv rfl rfl <| .mv rfl rfl <| .P rfl (q_indexI Tryz.underlying27 Tryz.sizeOf39 rfl rfl (by omega) (idx_mid encPosted hx rfl)) <| .P rfl (q_loadIA Tryz.isAgg39 Tryz.sizeOf39 rfl rfl) <| .P rfl (q_buildSlice' (n := 1) (rows := [encPosted x]) Tryz.underlying27 Tryz.sizeOf39 rfl rfl rfl Tryz.zeroValue39 rfl rfl rfl rfl rfl rfl rfl) <| .W rfl (q_append 1 Tryz.underlying27 Tryz.underlying27 Tryz.sizeOf39 Tryz.typeInfo39 Tryz.zeroValue39 rfl (bt := 80) rfl rfl rfl rfl (by simp) rfl rfl (by simp; omega)) <| .ag rfl rfl <| .nil ?_
      refine Run.nil (bq_norm ?_)
      refine Run.reg [.p, .p, .p] ?_
      refine .mv rfl rfl <| .P rfl (q_add rfl rfl (wrap64_ok (by first | omega | (simp; done) | (simp; omega) | (simp at *; omega)) (by first | omega | (simp; done) | (simp; omega) | (simp at *; omega)))) <| .ag rfl rfl <| .nil ?_
      refine Run.nil (tq_norm ?_)
      exact ⟨⟨pre ++ [x], rest, by simp [hx]⟩, by simp, (Le.mk (obs' := [(1, _)]) rfl (show EnvLe _ _ [(0, _), (1, _), (2, _), (8, _), (9, _)] from (.same rfl rfl (.same rfl rfl (.same rfl rfl (.same rfl rfl (.same rfl rfl .nil)))))) (.cons (i := 1) rfl rfl .nil)).trans <| (Le.ren 8 1 0 rfl rfl (by simp) rfl).trans <| Le.mk rfl (.same rfl rfl (.cons rfl Sub.intA rfl (.cons rfl Sub.intA rfl (.cons rfl (Sub.gs (by first | rfl | (unfold betwK; rw [fil_T (by simpa [btw] using ph3)]; simp; done) | (unfold betwK; rw [fil_F (by simp [btw]; grind)]))) rfl (.cons rfl Sub.intA rfl .nil))))) (.arr rfl (by first | rfl | (unfold betwK; rw [fil_T (by simpa [btw] using ph3)]; simp; done) | (unfold betwK; rw [fil_F (by simp [btw]; grind)])) .nil)⟩
     ·have ph3 := h3; try simp only [bs] at ph3
      refine Run.skip ?_
      refine Run.nil (bq_norm ?_)
      refine Run.reg [.p, .p, .p] ?_
      refine .mv rfl rfl <| .P rfl (q_add rfl rfl (wrap64_ok (by first | omega | (simp; done) | (simp; omega) | (simp at *; omega)) (by first | omega | (simp; done) | (simp; omega) | (simp at *; omega)))) <| .ag rfl rfl <| .nil ?_
      refine Run.nil (tq_norm ?_)
      exact ⟨⟨pre ++ [x], rest, by simp [hx]⟩, by simp, Le.mk rfl (.same rfl rfl (.cons rfl Sub.intA rfl (.cons rfl Sub.intA rfl (.cons rfl (Sub.gs (by first | rfl | (unfold betwK; rw [fil_T (by simpa [btw] using ph3)]; simp; done) | (unfold betwK; rw [fil_F (by simp [btw]; grind)]))) rfl (.cons rfl Sub.intA rfl .nil))))) (.arr rfl (by first | rfl | (unfold betwK; rw [fil_T (by simpa [btw] using ph3)]; simp; done) | (unfold betwK; rw [fil_F (by simp [btw]; grind)])) .nil)⟩
structure eqTerms_ok_L0 (a b : List Term) where
 pre : List Term
 rest : List Term
 sb : List Term
 hx : a = pre ++ rest
 hxb : b = pre ++ sb
 hll : rest.length = sb.length
theorem eqTerms_ok (a b : List Term) : Fc Tryz.prog 39 [sTerms a, sTerms b] (.b (decide (a = b))) := by
 refine Fc.mk' [4] Tryz.func39 rfl Tryz.ntmps39 rfl rfl rfl (fun t w => results_tmp Tryz.results39 t _ w) ?_
 refine Run.bSnap 0 rfl (fun hb => ?_)
 simp only [List.length_map, big] at hb
 refine Run.seq (Run.reg [.p] ?_)
 refine .ag rfl rfl <| .nil ?_
 refine Run.seq (Run.seq (Run.reg [.p, .p, .p, .p, .p] ?_))
 refine .mv rfl rfl <| .P rfl (q_lenI Tryz.underlying63 rfl) <| .mv rfl rfl <| .P rfl (q_lenI Tryz.underlying63 rfl) <| .P rfl (q_neq rfl rfl) <| .nil ?_
 refine Run.cond rfl (fun h1 => ?_) (fun h1 => ?_)
 ·have ph1 := h1; try simp only [bs] at ph1
  refine Run.seq (Run.reg [.p] ?_)
  refine .ag rfl rfl <| .nil ?_
  refine Run.ret (?_)
  exact ret1 rfl (Sub.bool (by first | (obtain rfl : sb = [] := List.length_eq_zero_iff.1 hll.symm; simp [hx, hxb]; done) | (subst hx; subst hxb; simp; intro h; subst h; simp_all) | grind))
 ·have ph1 := h1; try simp only [bs] at ph1
  refine Run.skip ?_
  refine Run.seq (Run.seq (Run.reg [.p, .p, .p] ?_))
  refine .mv rfl rfl <| .P rfl (q_lenI Tryz.underlying63 rfl) <| .mv rfl rfl <| .nil ?_
  refine Run.block ?_
  refine Run.loop (ι := eqTerms_ok_L0 a b) (fun sx => [(0, sTerms a), (1, sTerms b), (12, .i a.length), (13, .i sx.pre.length)]) (fun sx => []) (fun sx => sx.rest.length) ⟨[], a, b, rfl, rfl, by grind⟩ ?_ ?_
  ·exact Le.mk rfl (.same rfl rfl (.same rfl rfl (.cons rfl Sub.intA rfl (.cons rfl Sub.intA rfl .nil)))) .nil
  ·rintro ⟨pre, rest, sb, hx, hxb, hll⟩
   show Run _ _ _ _ [(0, sTerms a), (1, sTerms b), (12, .i a.length), (13, .i pre.length)] []
   have hl := congrArg List.length hx
   simp only [List.length_append] at hl
   rcases rest with _ | ⟨x, rest⟩
   ·skip
    refine Run.seq (Run.reg [.p] ?_)
    refine .P rfl (q_lss rfl rfl) <| .nil ?_
    refine Run.seq ?_
    refine Run.condF rfl (by simp at hl ⊢; omega) ?_
    refine Run.exit (tq_exit (bq_exit ?_))
    refine Run.seq (Run.reg [.p] ?_)
    refine .ag rfl rfl <| .nil ?_
    refine Run.ret (?_)
    exact ret1 rfl (Sub.bool (by first | (obtain rfl : sb = [] := List.length_eq_zero_iff.1 hll.symm; simp [hx, hxb]; done) | (subst hx; subst hxb; simp; intro h; subst h; simp_all) | grind))
   ·simp only [List.length_cons] at hl
    rcases sb with _ | ⟨y, sb⟩
    ·simp at hll
    refine Run.seq (Run.reg [.p] ?_)
    refine .P rfl (q_lss rfl rfl) <| .nil ?_
    refine Run.seq ?_
    refine Run.condT rfl (by simp; omega) ?_
    refine Run.skip ?_
    refine Run.seq ?_
    refine Run.block ?_
    refine Run.seq (Run.reg [.p, .p] ?_)
    refine .mv rfl rfl <| .ag rfl rfl <| .nil ?_
    refine Run.seq (Run.regD [.p, .p, .p, .p, .p, .p, .p, .p, .p] Tryz_mixed (by decide +kernel) ?_)
    refine .mv rfl rfl <| .mv rfl rfl <| .P rfl (q_indexI Tryz.underlying63 Tryz.sizeOf67 rfl rfl (by omega) (idx_mid encTerm hx rfl)) <| .P rfl (q_loadIA Tryz.isAgg67 Tryz.sizeOf67 rfl rfl) <| .mv rfl rfl <| .mv rfl rfl <| .P rfl (q_indexI Tryz.underlying63 Tryz.sizeOf67 rfl rfl (by omega) (idx_mid encTerm hxb rfl)) <| .P rfl (q_loadIA Tryz.isAgg67 Tryz.sizeOf67 rfl rfl) <| .P rfl (q_neqA (xs := [x.name, x.amount]) (ys := [y.name, y.amount]) Tryz.underlying67 (by kernel_rfl) (by kernel_rfl) (.cons (by decide +kernel) Tryz.underlying9 Tryz.isAgg9 rfl (.cons (by decide +kernel) Tryz.underlying54 Tryz.isAgg54 rfl (.nil _))) rfl rfl rfl rfl rfl rfl) <| .nil ?_
    refine Run.cond rfl (fun h2 => ?_) (fun h2 => ?_)
    ·have ph2 := h2; try simp only [bs] at ph2
     refine Run.seq (Run.reg [.p] ?_)
     refine .ag rfl rfl <| .nil ?_
     refine Run.ret (bq_ret (tq_ret (bq_ret (?_))))
     exact ret1 rfl (Sub.bool (by first | (obtain rfl : sb = [] := List.length_eq_zero_iff.1 hll.symm; simp [hx, hxb]; done) | (subst hx; subst hxb; simp; intro h; subst h; simp_all) | grind))
    ·have ph2 := h2; try simp only [bs] at ph2
     refine Run.skip ?_
     refine Run.nil (bq_norm ?_)
     refine Run.reg [.p, .p] ?_
     refine .P rfl (q_add rfl rfl (wrap64_ok (by omega) (by omega))) <| .mv rfl rfl <| .nil ?_
     refine Run.nil (tq_norm ?_)
     exact ⟨⟨pre ++ [x], rest, sb, by simp [hx], by rw [hxb, show x = y by cases x; cases y; simp_all]; simp, by simpa using hll⟩, by simp, Le.mk rfl (.same rfl rfl (.same rfl rfl (.cons rfl Sub.intA rfl (.cons rfl Sub.intA rfl .nil)))) .nil⟩
structure eqLines_ok_L0 (a b : List Line) where
 pre : List Line
 rest : List Line
 sb : List Line
 hx : a = pre ++ rest
 hxb : b = pre ++ sb
 hll : rest.length = sb.length
theorem eqLines_ok (a b : List Line) : Fc Tryz.prog 150 [sLines a, sLines b] (.b (decide (a = b))) := by
 refine Fc.mk' [4] Tryz.func150 rfl Tryz.ntmps150 rfl rfl rfl (fun t w => results_tmp Tryz.results150 t _ w) ?_
 refine Run.bSnap 0 rfl (fun hb => ?_)
 simp only [List.length_map, big] at hb
 refine Run.seq (Run.reg [.p] ?_)
 refine .ag rfl rfl <| .nil ?_
 refine Run.seq (Run.seq (Run.reg [.p, .p, .p, .p, .p] ?_))
 refine .mv rfl rfl <| .P rfl (q_lenI Tryz.underlying35 rfl) <| .mv rfl rfl <| .P rfl (q_lenI Tryz.underlying35 rfl) <| .P rfl (q_neq rfl rfl) <| .nil ?_
 refine Run.cond rfl (fun h1 => ?_) (fun h1 => ?_)
 ·have ph1 := h1; try simp only [bs] at ph1
  refine Run.seq (Run.reg [.p] ?_)
  refine .ag rfl rfl <| .nil ?_
  refine Run.ret (?_)
  exact ret1 rfl (Sub.bool (by first | (obtain rfl : sb = [] := List.length_eq_zero_iff.1 hll.symm; simp [hx, hxb]; done) | (subst hx; subst hxb; simp; intro h; subst h; simp_all) | grind))
 ·have ph1 := h1; try simp only [bs] at ph1
  refine Run.skip ?_
  refine Run.seq (Run.seq (Run.reg [.p, .p, .p] ?_))
  refine .mv rfl rfl <| .P rfl (q_lenI Tryz.underlying35 rfl) <| .mv rfl rfl <| .nil ?_
  refine Run.block ?_
  refine Run.loop (ι := eqLines_ok_L0 a b) (fun sx => [(0, sLines a), (1, sLines b), (12, .i a.length), (13, .i sx.pre.length)]) (fun sx => []) (fun sx => sx.rest.length) ⟨[], a, b, rfl, rfl, by grind⟩ ?_ ?_
  ·exact Le.mk rfl (.same rfl rfl (.same rfl rfl (.cons rfl Sub.intA rfl (.cons rfl Sub.intA rfl .nil)))) .nil
  ·rintro ⟨pre, rest, sb, hx, hxb, hll⟩
   show Run _ _ _ _ [(0, sLines a), (1, sLines b), (12, .i a.length), (13, .i pre.length)] []
   have hl := congrArg List.length hx
   simp only [List.length_append] at hl
   rcases rest with _ | ⟨x, rest⟩
   ·skip
    refine Run.seq (Run.reg [.p] ?_)
    refine .P rfl (q_lss rfl rfl) <| .nil ?_
    refine Run.seq ?_
    refine Run.condF rfl (by simp at hl ⊢; omega) ?_
    refine Run.exit (tq_exit (bq_exit ?_))
    refine Run.seq (Run.reg [.p] ?_)
    refine .ag rfl rfl <| .nil ?_
    refine Run.ret (?_)
    exact ret1 rfl (Sub.bool (by first | (obtain rfl : sb = [] := List.length_eq_zero_iff.1 hll.symm; simp [hx, hxb]; done) | (subst hx; subst hxb; simp; intro h; subst h; simp_all) | grind))
   ·simp only [List.length_cons] at hl
    rcases sb with _ | ⟨y, sb⟩
    ·simp at hll
    refine Run.seq (Run.reg [.p] ?_)
    refine .P rfl (q_lss rfl rfl) <| .nil ?_
    refine Run.seq ?_
    refine Run.condT rfl (by simp; omega) ?_
    refine Run.skip ?_
    refine Run.seq ?_
    refine Run.block ?_
    refine Run.seq (Run.reg [.p, .p] ?_)
    refine .mv rfl rfl <| .ag rfl rfl <| .nil ?_
    refine Run.seq (Run.regD [.p, .p, .p, .p, .p, .p, .p, .p, .p] Tryz_mixed (by decide +kernel) ?_)
    refine .mv rfl rfl <| .mv rfl rfl <| .P rfl (q_indexI Tryz.underlying35 Tryz.sizeOf92 rfl rfl (by omega) (idx_mid encLine hx rfl)) <| .P rfl (q_loadIA Tryz.isAgg92 Tryz.sizeOf92 rfl rfl) <| .mv rfl rfl <| .mv rfl rfl <| .P rfl (q_indexI Tryz.underlying35 Tryz.sizeOf92 rfl rfl (by omega) (idx_mid encLine hxb rfl)) <| .P rfl (q_loadIA Tryz.isAgg92 Tryz.sizeOf92 rfl rfl) <| .P rfl (q_neqA (xs := [x.account, x.currency, x.amount]) (ys := [y.account, y.currency, y.amount]) Tryz.underlying92 (by kernel_rfl) (by kernel_rfl) (.cons (by decide +kernel) Tryz.underlying9 Tryz.isAgg9 rfl (.cons (by decide +kernel) Tryz.underlying9 Tryz.isAgg9 rfl (.cons (by decide +kernel) Tryz.underlying54 Tryz.isAgg54 rfl (.nil _)))) rfl rfl rfl rfl rfl rfl) <| .nil ?_
    refine Run.cond rfl (fun h2 => ?_) (fun h2 => ?_)
    ·have ph2 := h2; try simp only [bs] at ph2
     refine Run.seq (Run.reg [.p] ?_)
     refine .ag rfl rfl <| .nil ?_
     refine Run.ret (bq_ret (tq_ret (bq_ret (?_))))
     exact ret1 rfl (Sub.bool (by first | (obtain rfl : sb = [] := List.length_eq_zero_iff.1 hll.symm; simp [hx, hxb]; done) | (subst hx; subst hxb; simp; intro h; subst h; simp_all) | grind))
    ·have ph2 := h2; try simp only [bs] at ph2
     refine Run.skip ?_
     refine Run.nil (bq_norm ?_)
     refine Run.reg [.p, .p] ?_
     refine .P rfl (q_add rfl rfl (wrap64_ok (by omega) (by omega))) <| .mv rfl rfl <| .nil ?_
     refine Run.nil (tq_norm ?_)
     exact ⟨⟨pre ++ [x], rest, sb, by simp [hx], by rw [hxb, show x = y by cases x; cases y; simp_all]; simp, by simpa using hll⟩, by simp, Le.mk rfl (.same rfl rfl (.same rfl rfl (.cons rfl Sub.intA rfl (.cons rfl Sub.intA rfl .nil)))) .nil⟩
theorem sameE1_ok (a b : Entry) : Fc Tryz.prog 149 [.agg (encEntry a), .agg (encEntry b)] (.b (decide (a = b))) := by
 refine Fc.mk' [4] Tryz.func149 rfl Tryz.ntmps149 rfl rfl rfl (fun t w => results_tmp Tryz.results149 t _ w) ?_
 refine Run.seq (Run.reg [.w, .w, .p] ?_)
 refine .W rfl (q_boxA 0 rfl rfl) <| .W rfl (q_boxA 1 rfl rfl) <| .ag rfl rfl <| .nil ?_
 refine Run.seq (Run.reg [.p, .r, .p, .r, .p, .p, .p, .r, .p, .r, .p, .p, .p, .p, .r, .p, .r, .p, .p, .p] ?_)
 refine .P rfl (q_fieldB (n := 0) 34 0 Tryz.underlying37 Tryz.sizeOf34 rfl rfl) <| .R rfl (q_load1 Tryz.isAgg34 rfl rfl rfl) <| .P rfl (q_fieldB (n := 0) 34 0 Tryz.underlying37 Tryz.sizeOf34 rfl rfl) <| .R rfl (q_load1 Tryz.isAgg34 rfl rfl rfl) <| .P rfl (q_eql rfl rfl) <| .mv rfl rfl <| .gT rfl (.inl rfl) rfl rfl rfl (fun hg => pk (fun _ => q_fieldB (n := 0) 9 1 Tryz.underlying37 Tryz.sizeOf9 rfl rfl _)) <| .gT rfl (.inr rfl) rfl rfl rfl (fun hg => rk (q_load1 Tryz.isAgg9 (opT rfl hg) rfl rfl)) <| .gT rfl (.inl rfl) rfl rfl rfl (fun hg => pk (fun _ => q_fieldB (n := 0) 9 1 Tryz.underlying37 Tryz.sizeOf9 rfl rfl _)) <| .gT rfl (.inr rfl) rfl rfl rfl (fun hg => rk (q_load1 Tryz.isAgg9 (opT rfl hg) rfl rfl)) <| .gT rfl (.inl rfl) rfl rfl rfl (fun hg => pk (fun _ => q_eqlS (opT rfl hg) (opT rfl hg) _)) <| .P rfl (q_and rfl rfl) <| .mv rfl rfl <| .gT rfl (.inl rfl) rfl rfl rfl (fun hg => pk (fun _ => q_fieldB (n := 0) 35 2 Tryz.underlying37 Tryz.sizeOf35 rfl rfl _)) <| .gT rfl (.inr rfl) rfl rfl rfl (fun hg => rk (q_load1 Tryz.isAgg35 (opT rfl hg) rfl rfl)) <| .gT rfl (.inl rfl) rfl rfl rfl (fun hg => pk (fun _ => q_fieldB (n := 0) 35 2 Tryz.underlying37 Tryz.sizeOf35 rfl rfl _)) <| .gT rfl (.inr rfl) rfl rfl rfl (fun hg => rk (q_load1 Tryz.isAgg35 (opT rfl hg) rfl rfl)) <| .gT rfl (.inl rfl) rfl rfl rfl (fun hg => pk (fun _ => q_call Tryz.call150 (opsC (opT rfl hg) (opsC (opT rfl hg) (rfl))) (eqLines_ok _ _) _)) <| .P rfl (q_and rfl rfl) <| .ag rfl rfl <| .nil ?_
 refine Run.ret (?_)
 exact ret1 rfl (Sub.bool (by (cases a; cases b; simp; grind)))
structure eqEntries_ok_L0 (a b : List Entry) where
 pre : List Entry
 rest : List Entry
 sb : List Entry
 hx : a = pre ++ rest
 hxb : b = pre ++ sb
 hll : rest.length = sb.length
theorem eqEntries_ok (a b : List Entry) : Fc Tryz.prog 148 [sEntries a, sEntries b, .fn (.func 149) [] []] (.b (decide (a = b))) := by
 refine Fc.mk' [6] Tryz.func148 rfl Tryz.ntmps148 rfl rfl rfl (fun t w => results_tmp Tryz.results148 t _ w) ?_
 refine Run.bSnap 0 rfl (fun hb => ?_)
 simp only [List.length_map, big] at hb
 refine Run.seq (Run.reg [.p] ?_)
 refine .ag rfl rfl <| .nil ?_
 refine Run.seq (Run.seq (Run.reg [.p, .p, .p, .p, .p] ?_))
 refine .mv rfl rfl <| .P rfl (q_lenI Tryz.underlying22 rfl) <| .mv rfl rfl <| .P rfl (q_lenI Tryz.underlying22 rfl) <| .P rfl (q_neq rfl rfl) <| .nil ?_
 refine Run.cond rfl (fun h1 => ?_) (fun h1 => ?_)
 ·have ph1 := h1; try simp only [bs] at ph1
  refine Run.seq (Run.reg [.p] ?_)
  refine .ag rfl rfl <| .nil ?_
  refine Run.ret (?_)
  exact ret1 rfl (Sub.bool (by first | (obtain rfl : sb = [] := List.length_eq_zero_iff.1 hll.symm; simp [hx, hxb]; done) | (subst hx; subst hxb; simp; intro h; subst h; simp_all) | grind))
 ·have ph1 := h1; try simp only [bs] at ph1
  refine Run.skip ?_
  refine Run.seq (Run.seq (Run.reg [.p, .p, .p] ?_))
  refine .mv rfl rfl <| .P rfl (q_lenI Tryz.underlying22 rfl) <| .mv rfl rfl <| .nil ?_
  refine Run.block ?_
  refine Run.loop (ι := eqEntries_ok_L0 a b) (fun sx => [(0, sEntries a), (1, sEntries b), (2, .fn (.func 149) [] []), (15, sEntries a), (16, .i a.length), (17, .i sx.pre.length)]) (fun sx => []) (fun sx => sx.rest.length) ⟨[], a, b, rfl, rfl, by grind⟩ ?_ ?_
  ·exact Le.mk rfl (.same rfl rfl (.same rfl rfl (.same rfl rfl (.same rfl rfl (.cons rfl Sub.intA rfl (.cons rfl Sub.intA rfl .nil)))))) .nil
  ·rintro ⟨pre, rest, sb, hx, hxb, hll⟩
   show Run _ _ _ _ [(0, sEntries a), (1, sEntries b), (2, .fn (.func 149) [] []), (15, sEntries a), (16, .i a.length), (17, .i pre.length)] []
   have hl := congrArg List.length hx
   simp only [List.length_append] at hl
   rcases rest with _ | ⟨x, rest⟩
   ·skip
    refine Run.seq (Run.reg [.p] ?_)
    refine .P rfl (q_lss rfl rfl) <| .nil ?_
    refine Run.seq ?_
    refine Run.condF rfl (by simp at hl ⊢; omega) ?_
    refine Run.exit (tq_exit (bq_exit ?_))
    refine Run.seq (Run.reg [.p] ?_)
    refine .ag rfl rfl <| .nil ?_
    refine Run.ret (?_)
    exact ret1 rfl (Sub.bool (by first | (obtain rfl : sb = [] := List.length_eq_zero_iff.1 hll.symm; simp [hx, hxb]; done) | (subst hx; subst hxb; simp; intro h; subst h; simp_all) | grind))
   ·simp only [List.length_cons] at hl
    rcases sb with _ | ⟨y, sb⟩
    ·simp at hll
    refine Run.seq (Run.reg [.p] ?_)
    refine .P rfl (q_lss rfl rfl) <| .nil ?_
    refine Run.seq ?_
    refine Run.condT rfl (by simp; omega) ?_
    refine Run.skip ?_
    refine Run.seq ?_
    refine Run.block ?_
    refine Run.seq (Run.reg [.p, .p, .p, .w, .p, .w] ?_)
    refine .mv rfl rfl <| .P rfl (q_indexI Tryz.underlying22 Tryz.sizeOf37 rfl rfl (by omega) (idx_mid encEntry hx rfl)) <| .P rfl (q_loadIA Tryz.isAgg37 Tryz.sizeOf37 rfl rfl) <| .W rfl (q_alloc 0 Tryz.zeroValue37 rfl) <| .ag rfl rfl <| .W rfl (q_storeW Tryz.sizeOf37 rfl rfl rfl rfl rfl rfl) <| .nil ?_
    refine Run.seq (Run.reg [.p, .p, .p, .p, .w, .w] ?_)
    refine .mv rfl rfl <| .mv rfl rfl <| .P rfl (q_indexI Tryz.underlying22 Tryz.sizeOf37 rfl rfl (by omega) (idx_mid encEntry hxb rfl)) <| .P rfl (q_loadIA Tryz.isAgg37 Tryz.sizeOf37 rfl rfl) <| .W rfl (q_alloc 1 Tryz.zeroValue37 rfl) <| .W rfl (q_storeW Tryz.sizeOf37 rfl rfl rfl rfl rfl rfl) <| .nil ?_
    refine Run.seq (Run.reg [.p, .r, .r, .p, .p] ?_)
    refine .mv rfl rfl <| .R rfl (q_loadW Tryz.isAgg37 Tryz.sizeOf37 rfl rfl rfl) <| .R rfl (q_loadW Tryz.isAgg37 Tryz.sizeOf37 rfl rfl rfl) <| .P rfl (q_callF Tryz.call149 rfl rfl (sameE1_ok _ _)) <| .P rfl (q_not rfl) <| .nil ?_
    refine Run.cond rfl (fun h2 => ?_) (fun h2 => ?_)
    ·have ph2 := h2; try simp only [bs] at ph2
     refine Run.seq (Run.reg [.p] ?_)
     refine .ag rfl rfl <| .nil ?_
     refine Run.ret (bq_ret (tq_ret (bq_ret (?_))))
     exact ret1 rfl (Sub.bool (by first | (obtain rfl : sb = [] := List.length_eq_zero_iff.1 hll.symm; simp [hx, hxb]; done) | (subst hx; subst hxb; simp; intro h; subst h; simp_all) | grind))
    ·have ph2 := h2; try simp only [bs] at ph2
     refine Run.skip ?_
     refine Run.nil (bq_norm ?_)
     refine Run.reg [.p, .p] ?_
     refine .P rfl (q_add rfl rfl (wrap64_ok (by omega) (by omega))) <| .mv rfl rfl <| .nil ?_
     refine Run.nil (tq_norm ?_)
     exact ⟨⟨pre ++ [x], rest, sb, by simp [hx], by rw [hxb, show x = y by simp_all]; simp, by simpa using hll⟩, by simp, Le.mk rfl (.same rfl rfl (.same rfl rfl (.same rfl rfl (.same rfl rfl (.cons rfl Sub.intA rfl (.cons rfl Sub.intA rfl .nil)))))) .nil⟩
theorem entrySame_ok (a b : List Entry) : Fc Tryz.prog 94 [sEntries a, sEntries b] (.b (decide (a = b))) := by
 refine Fc.mk' [4] Tryz.func94 rfl Tryz.ntmps94 rfl rfl rfl (fun t w => results_tmp Tryz.results94 t _ w) ?_
 refine Run.seq (Run.reg [.p] ?_)
 refine .ag rfl rfl <| .nil ?_
 refine Run.seq (Run.reg [.p, .p, .p, .p] ?_)
 refine .mv rfl rfl <| .mv rfl rfl <| .P rfl (q_call Tryz.call148 rfl (eqEntries_ok _ _)) <| .ag rfl rfl <| .nil ?_
 refine Run.ret (?_)
 exact ret1 rfl (Sub.bool (by rfl))
theorem entrySameT_ok (x y : Entry) : Fc Tryz.prog 94 [.snap 3 true [encEntry x], .snap 3 true [encEntry y]] (.b (decide (x = y))) := by
 have h := entrySame_ok [x] [y]
 have e : decide ([x] = [y]) = decide (x = y) := by simp
 rw [e] at h
 exact Fc.sub h (.cons (.unfull ..) (.cons (.unfull ..) .nil)) (.refl _)
end Go.T
namespace Go.T
open Go Go.Proofs
theorem sumBy_b13 {k : Key} {s : Str} {l : List Posted} (h : smallPs l) (h13 : amt13L l) : -(l.length * 660000000000000 : Int) ≤ sumBy k s l ∧ sumBy k s l ≤ l.length * 660000000000000 := by
 induction l with
 | nil => simp [sumBy]
 | cons x l ih =>
  have h1 := ih (fun p hp => h p (List.mem_cons_of_mem _ hp)) (fun p hp => h13 p (List.mem_cons_of_mem _ hp))
  have g2 := (h x List.mem_cons_self).2.1
  have h2 := sumK_b13 (k := k) (ls := x.entry.lines) (h13 x List.mem_cons_self)
  simp only [sumBy, List.length_cons]
  split <;> omega
theorem exT_dig {k : Key} {l : List Posted} (h : smallPs l) (h13 : amt13L l) (hl : l.length ≤ 16) : ∀ t ∈ exT k l, (digits t.amount).1.length ≤ 17 := by
 intro t ht
 rw [(exT_ts k l).amt t ht]
 have := sumBy_b13 (k := k) (s := t.name) h h13
 exact ofInt_digits (by constructor <;> omega)
theorem amtE_dig {k : Key} {e : Entry} (h : smallE e) (h13 : ∀ x ∈ e.lines, x.amount.length ≤ 13) : (digits (amtE k e)).1.length ≤ 17 := by
 have g2 := h.2.1
 have h2 := sumK_b13 (k := k) (ls := e.lines) h13
 exact ofInt_digits (by constructor <;> omega)
theorem exT_len (k : Key) (l : List Posted) : (exT k l).length ≤ l.length := by
 have ins : ∀ (o : List Term) (s n : Str), (insT o s n).length ≤ o.length + 1 := by
  intro o s n
  induction o with
  | nil => simp [insT]
  | cons x r ih =>
   unfold insT
   split
   ·simp; omega
   ·split <;> simp
 induction l using rev_ind with
 | h0 => simp [exT]
 | h1 l x ih =>
  rw [exT_snoc, List.length_append]
  have := ins (exT k l) x.by_ (amtE k x.entry)
  simp; omega
theorem insT_app {s n : Str} : ∀ {p : List Term} (r : List Term), (∀ t ∈ p, Str.lt t.name s = true) → insT (p ++ r) s n = p ++ insT r s n
 | [], _, _ => rfl
 | t :: p, r, h => by
  have ih := insT_app (s := s) (n := n) (p := p) r fun u hu => h u (List.mem_cons_of_mem _ hu)
  rw [List.cons_append, insT, if_pos (h t List.mem_cons_self), ih]; rfl
theorem ins_nil {o p : List Term} {s n : Str} (hx : o = p ++ []) (hp : ∀ t ∈ p, Str.lt t.name s = true) : insT o s n = p ++ [⟨s, n⟩] := by rw [hx, insT_app _ hp]; rfl
theorem ins_ne {o p r : List Term} {y : Term} {s n : Str} (hx : o = p ++ y :: r) (hp : ∀ t ∈ p, Str.lt t.name s = true) (h1 : Str.lt y.name s = false) (h2 : y.name ≠ s) : insT o s n = p ++ ⟨s, n⟩ :: y :: r := by
 rw [hx, insT_app _ hp, insT, if_neg (by rw [h1]; simp), if_neg h2]
theorem ins_eq {o p r : List Term} {y : Term} {s n : Str} (hx : o = p ++ y :: r) (hp : ∀ t ∈ p, Str.lt t.name s = true) (h1 : Str.lt y.name s = false) (h2 : y.name = s) : insT o s n = p ++ ⟨y.name, addS y.amount n⟩ :: r := by
 rw [hx, insT_app _ hp, insT, if_neg (by rw [h1]; simp), if_pos h2]
theorem neT_snoc (l : List Term) (x : Term) : neT (l ++ [x]) = neT l ++ (if x.amount ≠ [] then [x] else []) := by
 unfold neT
 rw [List.filter_append]
 by_cases h : x.amount = [] <;> simp [h]
theorem neT_len (l : List Term) : (neT l).length ≤ l.length := List.length_filter_le _ _
theorem rowT_mid {α β : Type} (f : α → β) {l p r : List α} {y : α} (hx : l = p ++ y :: r) : (l.map f)[p.length]? = some (f y) := by
 subst hx; simp
theorem rowT_set {p r : List Term} {y z : Term} {o : List Term} (hx : o = p ++ y :: r) : (o.map encTerm).set p.length (encTerm z) = (p ++ z :: r).map encTerm := by
 subst hx
 have e : (p.map encTerm).length = p.length := by simp
 rw [List.map_append, ← e, List.set_append_right _ _ (Nat.le_refl _)]
 simp
section
variable {k : Key} {pre : List Posted} {x : Posted} {pt rt : List Term} {y : Term}
theorem ex_end0 (hxt : exT k pre = pt ++ []) (hp : ∀ t ∈ pt, Str.lt t.name x.by_ = true) : List.take pt.length (List.map encTerm (exT k pre)) ++ [encTerm ⟨x.by_, amtE k x.entry⟩] = List.map encTerm (exT k (pre ++ [x])) := by
 rw [exT_snoc, ins_nil hxt hp, hxt]
 have e : List.take pt.length (List.map encTerm pt) = List.map encTerm pt := List.take_of_length_le (by simp)
 simp [e]
theorem ex_len0 (hxt : exT k pre = pt ++ []) (hp : ∀ t ∈ pt, Str.lt t.name x.by_ = true) : (List.take pt.length (List.map encTerm (exT k pre))).length + [encTerm ⟨x.by_, amtE k x.entry⟩].length = (exT k (pre ++ [x])).length := by
 have := congrArg List.length (ex_end0 hxt hp)
 rw [List.length_append, List.length_map] at this
 exact this
theorem ex_end1 (hxt : exT k pre = pt ++ y :: rt) (hp : ∀ t ∈ pt, Str.lt t.name x.by_ = true) (h1 : Str.lt y.name x.by_ = false) (h2 : y.name = x.by_) : (List.map encTerm (exT k pre)).set pt.length ((encTerm y).set 1 (D.str (addS y.amount (amtE k x.entry)))) = List.map encTerm (exT k (pre ++ [x])) := by
 rw [exT_snoc, ins_eq hxt hp h1 h2]
 exact rowT_set (z := ⟨y.name, addS y.amount (amtE k x.entry)⟩) hxt
theorem ex_len1 (hxt : exT k pre = pt ++ y :: rt) (hp : ∀ t ∈ pt, Str.lt t.name x.by_ = true) (h1 : Str.lt y.name x.by_ = false) (h2 : y.name = x.by_) : (exT k pre).length = (exT k (pre ++ [x])).length := by
 rw [exT_snoc, ins_eq hxt hp h1 h2, hxt]; simp
theorem ex_end2 (hxt : exT k pre = pt ++ y :: rt) (hp : ∀ t ∈ pt, Str.lt t.name x.by_ = true) (h1 : Str.lt y.name x.by_ = false) (h2 : ¬ y.name = x.by_) : List.take pt.length (List.map encTerm (exT k pre)) ++ ([encTerm ⟨x.by_, amtE k x.entry⟩] ++ List.map encTerm (y :: rt)) = List.map encTerm (exT k (pre ++ [x])) := by
 rw [exT_snoc, ins_ne hxt hp h1 h2, hxt]; simp
theorem ex_len2 (hxt : exT k pre = pt ++ y :: rt) (hp : ∀ t ∈ pt, Str.lt t.name x.by_ = true) (h1 : Str.lt y.name x.by_ = false) (h2 : ¬ y.name = x.by_) : (List.take pt.length (List.map encTerm (exT k pre))).length + ([encTerm ⟨x.by_, amtE k x.entry⟩] ++ List.map encTerm (y :: rt)).length = (exT k (pre ++ [x])).length := by
 have := congrArg List.length (ex_end2 hxt hp h1 h2)
 rw [List.length_append, List.length_map] at this
 exact this
end
end Go.T
namespace Go.T
open Go Go.Proofs
set_option maxRecDepth 20000
theorem sameP1_ok (a b : Posted) : Fc Tryz.prog 93 [.agg (encPosted a), .agg (encPosted b)] (.b (decide (a = b))) := by
 refine Fc.mk' [4] Tryz.func93 rfl Tryz.ntmps93 rfl rfl rfl (fun t w => results_tmp Tryz.results93 t _ w) ?_
 refine Run.seq (Run.reg [.w, .w, .p] ?_)
 refine .W rfl (q_boxA 0 rfl rfl) <| .W rfl (q_boxA 1 rfl rfl) <| .ag rfl rfl <| .nil ?_
 refine Run.seq (Run.reg [.p, .r, .p, .r, .p, .p, .p, .r, .p, .r, .p, .p, .p, .p, .r, .p, .r, .p, .p, .p, .p, .r, .p, .p, .r, .p, .p, .p, .p] ?_)
 refine .P rfl (q_fieldB (n := 0) 34 0 Tryz.underlying39 Tryz.sizeOf34 rfl rfl) <| .R rfl (q_load1 Tryz.isAgg34 rfl rfl rfl) <| .P rfl (q_fieldB (n := 0) 34 0 Tryz.underlying39 Tryz.sizeOf34 rfl rfl) <| .R rfl (q_load1 Tryz.isAgg34 rfl rfl rfl) <| .P rfl (q_eql rfl rfl) <| .mv rfl rfl <| .gT rfl (.inl rfl) rfl rfl rfl (fun hg => pk (fun _ => q_fieldB (n := 0) 3 1 Tryz.underlying39 Tryz.sizeOf3 rfl rfl _)) <| .gT rfl (.inr rfl) rfl rfl rfl (fun hg => rk (q_load1 Tryz.isAgg3 (opT rfl hg) rfl rfl)) <| .gT rfl (.inl rfl) rfl rfl rfl (fun hg => pk (fun _ => q_fieldB (n := 0) 3 1 Tryz.underlying39 Tryz.sizeOf3 rfl rfl _)) <| .gT rfl (.inr rfl) rfl rfl rfl (fun hg => rk (q_load1 Tryz.isAgg3 (opT rfl hg) rfl rfl)) <| .gT rfl (.inl rfl) rfl rfl rfl (fun hg => pk (fun _ => q_eql (opT rfl hg) (opT rfl hg) _)) <| .P rfl (q_and rfl rfl) <| .mv rfl rfl <| .gT rfl (.inl rfl) rfl rfl rfl (fun hg => pk (fun _ => q_fieldB (n := 0) 9 2 Tryz.underlying39 Tryz.sizeOf9 rfl rfl _)) <| .gT rfl (.inr rfl) rfl rfl rfl (fun hg => rk (q_load1 Tryz.isAgg9 (opT rfl hg) rfl rfl)) <| .gT rfl (.inl rfl) rfl rfl rfl (fun hg => pk (fun _ => q_fieldB (n := 0) 9 2 Tryz.underlying39 Tryz.sizeOf9 rfl rfl _)) <| .gT rfl (.inr rfl) rfl rfl rfl (fun hg => rk (q_load1 Tryz.isAgg9 (opT rfl hg) rfl rfl)) <| .gT rfl (.inl rfl) rfl rfl rfl (fun hg => pk (fun _ => q_eqlS (opT rfl hg) (opT rfl hg) _)) <| .P rfl (q_and rfl rfl) <| .mv rfl rfl ?_
 refine .split (t := 24) rfl (fun h1 => ?_) (fun h1 => ?_)
 ·have ph1 := h1; try simp only [bs] at ph1
  refine .p rfl (on_of rfl rfl rfl h1) (fun _ => q_fieldB (n := 2) 37 3 Tryz.underlying39 Tryz.sizeOf37 rfl rfl _) <| .r rfl (on_of rfl rfl rfl h1) (q_loadA Tryz.isAgg37 Tryz.sizeOf37 rfl rfl (by simp) rfl) <| .p rfl (on_of rfl rfl rfl h1) (fun _ => q_buildSlice' (n := 1) (rows := [encEntry a.entry]) Tryz.underlying22 Tryz.sizeOf37 rfl rfl rfl Tryz.zeroValue37 rfl rfl rfl rfl rfl rfl rfl _) <| .p rfl (on_of rfl rfl rfl h1) (fun _ => q_fieldB (n := 2) 37 3 Tryz.underlying39 Tryz.sizeOf37 rfl rfl _) <| .r rfl (on_of rfl rfl rfl h1) (q_loadA Tryz.isAgg37 Tryz.sizeOf37 rfl rfl (by simp) rfl) <| .p rfl (on_of rfl rfl rfl h1) (fun _ => q_buildSlice' (n := 1) (rows := [encEntry b.entry]) Tryz.underlying22 Tryz.sizeOf37 rfl rfl rfl Tryz.zeroValue37 rfl rfl rfl rfl rfl rfl rfl _) <| .p rfl (on_of rfl rfl rfl h1) (fun _ => q_call Tryz.call94 rfl (entrySameT_ok _ _) _) <| .P rfl (q_pickT rfl h1 rfl) <| .ag rfl rfl <| .nil ?_
  refine Run.ret (?_)
  exact ret1 rfl (Sub.bool (by (cases a; cases b; simp at *; grind)))
 ·have ph1 := h1; try simp only [bs] at ph1
  refine .off rfl (off_of rfl rfl rfl h1) ?_
  refine .off rfl (off_of rfl rfl rfl h1) ?_
  refine .off rfl (off_of rfl rfl rfl h1) ?_
  refine .off rfl (off_of rfl rfl rfl h1) ?_
  refine .off rfl (off_of rfl rfl rfl h1) ?_
  refine .off rfl (off_of rfl rfl rfl h1) ?_
  refine .off rfl (off_of rfl rfl rfl h1) ?_
  refine .P rfl (q_pickF rfl h1 rfl) <| .ag rfl rfl <| .nil ?_
  refine Run.ret (?_)
  exact ret1 rfl (Sub.bool (by (cases a; cases b; simp at *; grind)))
structure eqPosteds_ok_L0 (a b : List Posted) where
 pre : List Posted
 rest : List Posted
 sb : List Posted
 hx : a = pre ++ rest
 hxb : b = pre ++ sb
 hll : rest.length = sb.length
theorem eqPosteds_ok (a b : List Posted) : Fc Tryz.prog 92 [sPosteds a, sPosteds b, .fn (.func 93) [] []] (.b (decide (a = b))) := by
 refine Fc.mk' [6] Tryz.func92 rfl Tryz.ntmps92 rfl rfl rfl (fun t w => results_tmp Tryz.results92 t _ w) ?_
 refine Run.bSnap 0 rfl (fun hb => ?_)
 simp only [List.length_map, big] at hb
 refine Run.seq (Run.reg [.p] ?_)
 refine .ag rfl rfl <| .nil ?_
 refine Run.seq (Run.seq (Run.reg [.p, .p, .p, .p, .p] ?_))
 refine .mv rfl rfl <| .P rfl (q_lenI Tryz.underlying27 rfl) <| .mv rfl rfl <| .P rfl (q_lenI Tryz.underlying27 rfl) <| .P rfl (q_neq rfl rfl) <| .nil ?_
 refine Run.cond rfl (fun h1 => ?_) (fun h1 => ?_)
 ·have ph1 := h1; try simp only [bs] at ph1
  refine Run.seq (Run.reg [.p] ?_)
  refine .ag rfl rfl <| .nil ?_
  refine Run.ret (?_)
  exact ret1 rfl (Sub.bool (by first | (obtain rfl : sb = [] := List.length_eq_zero_iff.1 hll.symm; simp [hx, hxb]; done) | (subst hx; subst hxb; simp; intro h; subst h; simp_all) | grind))
 ·have ph1 := h1; try simp only [bs] at ph1
  refine Run.skip ?_
  refine Run.seq (Run.seq (Run.reg [.p, .p, .p] ?_))
  refine .mv rfl rfl <| .P rfl (q_lenI Tryz.underlying27 rfl) <| .mv rfl rfl <| .nil ?_
  refine Run.block ?_
  refine Run.loop (ι := eqPosteds_ok_L0 a b) (fun sx => [(0, sPosteds a), (1, sPosteds b), (2, .fn (.func 93) [] []), (15, sPosteds a), (16, .i a.length), (17, .i sx.pre.length)]) (fun sx => []) (fun sx => sx.rest.length) ⟨[], a, b, rfl, rfl, by grind⟩ ?_ ?_
  ·exact Le.mk rfl (.same rfl rfl (.same rfl rfl (.same rfl rfl (.same rfl rfl (.cons rfl Sub.intA rfl (.cons rfl Sub.intA rfl .nil)))))) .nil
  ·rintro ⟨pre, rest, sb, hx, hxb, hll⟩
   show Run _ _ _ _ [(0, sPosteds a), (1, sPosteds b), (2, .fn (.func 93) [] []), (15, sPosteds a), (16, .i a.length), (17, .i pre.length)] []
   have hl := congrArg List.length hx
   simp only [List.length_append] at hl
   rcases rest with _ | ⟨x, rest⟩
   ·skip
    refine Run.seq (Run.reg [.p] ?_)
    refine .P rfl (q_lss rfl rfl) <| .nil ?_
    refine Run.seq ?_
    refine Run.condF rfl (by simp at hl ⊢; omega) ?_
    refine Run.exit (tq_exit (bq_exit ?_))
    refine Run.seq (Run.reg [.p] ?_)
    refine .ag rfl rfl <| .nil ?_
    refine Run.ret (?_)
    exact ret1 rfl (Sub.bool (by first | (obtain rfl : sb = [] := List.length_eq_zero_iff.1 hll.symm; simp [hx, hxb]; done) | (subst hx; subst hxb; simp; intro h; subst h; simp_all) | grind))
   ·simp only [List.length_cons] at hl
    rcases sb with _ | ⟨y, sb⟩
    ·simp at hll
    refine Run.seq (Run.reg [.p] ?_)
    refine .P rfl (q_lss rfl rfl) <| .nil ?_
    refine Run.seq ?_
    refine Run.condT rfl (by simp; omega) ?_
    refine Run.skip ?_
    refine Run.seq ?_
    refine Run.block ?_
    refine Run.seq (Run.reg [.p, .p, .p, .w, .p, .w] ?_)
    refine .mv rfl rfl <| .P rfl (q_indexI Tryz.underlying27 Tryz.sizeOf39 rfl rfl (by omega) (idx_mid encPosted hx rfl)) <| .P rfl (q_loadIA Tryz.isAgg39 Tryz.sizeOf39 rfl rfl) <| .W rfl (q_alloc 0 Tryz.zeroValue39 rfl) <| .ag rfl rfl <| .W rfl (q_storeW Tryz.sizeOf39 rfl rfl rfl rfl rfl rfl) <| .nil ?_
    refine Run.seq (Run.reg [.p, .p, .p, .p, .w, .w] ?_)
    refine .mv rfl rfl <| .mv rfl rfl <| .P rfl (q_indexI Tryz.underlying27 Tryz.sizeOf39 rfl rfl (by omega) (idx_mid encPosted hxb rfl)) <| .P rfl (q_loadIA Tryz.isAgg39 Tryz.sizeOf39 rfl rfl) <| .W rfl (q_alloc 1 Tryz.zeroValue39 rfl) <| .W rfl (q_storeW Tryz.sizeOf39 rfl rfl rfl rfl rfl rfl) <| .nil ?_
    refine Run.seq (Run.reg [.p, .r, .r, .p, .p] ?_)
    refine .mv rfl rfl <| .R rfl (q_loadW Tryz.isAgg39 Tryz.sizeOf39 rfl rfl rfl) <| .R rfl (q_loadW Tryz.isAgg39 Tryz.sizeOf39 rfl rfl rfl) <| .P rfl (q_callF Tryz.call93 rfl rfl (sameP1_ok _ _)) <| .P rfl (q_not rfl) <| .nil ?_
    refine Run.cond rfl (fun h2 => ?_) (fun h2 => ?_)
    ·have ph2 := h2; try simp only [bs] at ph2
     refine Run.seq (Run.reg [.p] ?_)
     refine .ag rfl rfl <| .nil ?_
     refine Run.ret (bq_ret (tq_ret (bq_ret (?_))))
     exact ret1 rfl (Sub.bool (by first | (obtain rfl : sb = [] := List.length_eq_zero_iff.1 hll.symm; simp [hx, hxb]; done) | (subst hx; subst hxb; simp; intro h; subst h; simp_all) | grind))
    ·have ph2 := h2; try simp only [bs] at ph2
     refine Run.skip ?_
     refine Run.nil (bq_norm ?_)
     refine Run.reg [.p, .p] ?_
     refine .P rfl (q_add rfl rfl (wrap64_ok (by omega) (by omega))) <| .mv rfl rfl <| .nil ?_
     refine Run.nil (tq_norm ?_)
     exact ⟨⟨pre ++ [x], rest, sb, by simp [hx], by rw [hxb, show x = y by simp_all]; simp, by simpa using hll⟩, by simp, Le.mk rfl (.same rfl rfl (.same rfl rfl (.same rfl rfl (.same rfl rfl (.cons rfl Sub.intA rfl (.cons rfl Sub.intA rfl .nil)))))) .nil⟩
theorem restSame_ok (a b : List Posted) : Fc Tryz.prog 40 [sPosteds a, sPosteds b] (.b (decide (a = b))) := by
 refine Fc.mk' [4] Tryz.func40 rfl Tryz.ntmps40 rfl rfl rfl (fun t w => results_tmp Tryz.results40 t _ w) ?_
 refine Run.seq (Run.reg [.p] ?_)
 refine .ag rfl rfl <| .nil ?_
 refine Run.seq (Run.reg [.p, .p, .p, .p] ?_)
 refine .mv rfl rfl <| .mv rfl rfl <| .P rfl (q_call Tryz.call92 rfl (eqPosteds_ok _ _)) <| .ag rfl rfl <| .nil ?_
 refine Run.ret (?_)
 exact ret1 rfl (Sub.bool (by rfl))
structure amount35_ok_L0 (e : Entry) (a c : Str) where
 pre : List Line
 rest : List Line
 hx : e.lines = pre ++ rest
theorem amount35_ok (e : Entry) (a c : Str) (hs : smallE e) (h13 : ∀ x ∈ e.lines, x.amount.length ≤ 13) : Fc Tryz.prog 90 [.agg (encEntry e), .str a, .str c] (.str (amtE (a, c) e)) := by
 refine Fc.mk' [6] Tryz.func90 rfl Tryz.ntmps90 rfl rfl rfl (fun t w => results_tmp Tryz.results90 t _ w) ?_
 have hs66 := hs.2.1
 refine Run.seq (Run.reg [.w, .p] ?_)
 refine .W rfl (q_boxA 0 rfl rfl) <| .ag rfl rfl <| .nil ?_
 refine Run.seq (Run.reg [.p] ?_)
 refine .ag rfl rfl <| .nil ?_
 refine Run.seq (Run.seq (Run.reg [.p] ?_))
 refine .ag rfl rfl <| .nil ?_
 refine Run.block ?_
 refine Run.loop (ι := amount35_ok_L0 e a c) (fun sx => [(1, .str a), (2, .str c), (3, .box 0 0), (7, .str (ofInt (sumK (a, c) sx.pre))), (8, .i sx.pre.length)]) (fun sx => [(0, .cells (encEntry e))]) (fun sx => sx.rest.length) ⟨[], e.lines, rfl⟩ ?_ ?_
 ·exact Le.mk rfl (.cons rfl Sub.strA rfl (.cons rfl Sub.strA rfl (.same rfl rfl (.cons rfl (Sub.str (by first | (simp [sumK, ofInt_zero]; done) | (rw [sumK_snoc, if_pos (lkey_iff.2 (by simpa using ph1)), addS_ofInt]; done) | (rw [sumK_snoc, if_neg (fun hh => by have := lkey_iff.1 hh; simp_all)]; simp))) rfl (.cons rfl Sub.intA rfl .nil))))) (.cons rfl rfl .nil)
 ·rintro ⟨pre, rest, hx⟩
  show Run _ _ _ _ [(1, .str a), (2, .str c), (3, .box 0 0), (7, .str (ofInt (sumK (a, c) pre))), (8, .i pre.length)] [(0, .cells (encEntry e))]
  have hl := congrArg List.length hx
  simp only [List.length_append] at hl
  rcases rest with _ | ⟨x, rest⟩
  ·skip
   refine Run.seq (Run.seq (Run.reg [.p, .p, .r, .p, .p] ?_))
   refine .mv rfl rfl <| .P rfl (q_fieldB (n := 0) 35 2 Tryz.underlying37 Tryz.sizeOf35 rfl rfl) <| .R rfl (q_load1 Tryz.isAgg35 rfl rfl rfl) <| .P rfl (q_lenI Tryz.underlying35 rfl) <| .P rfl (q_lss rfl rfl) <| .nil ?_
   refine Run.condF rfl (by simp at hl ⊢; omega) ?_
   refine Run.exit (tq_exit (bq_exit ?_))
   refine Run.seq (Run.reg [.p, .p] ?_)
   refine .mv rfl rfl <| .ag rfl rfl <| .nil ?_
   refine Run.ret (?_)
   exact ret1 rfl (Sub.str (by unfold amtE; rw [hx, List.append_nil]))
  ·simp only [List.length_cons] at hl
   have hxa := h13 x (by rw [hx]; simp)
   have hbd := sumK_b13 (k := (a, c)) (ls := pre) (fun y hy => h13 y (by rw [hx]; simp [hy]))
   have hpl : pre.length ≤ 66 := by omega
   have hal := ofInt_digits (n := sumK (a, c) pre) (by constructor <;> omega)
   refine Run.seq (Run.seq (Run.reg [.p, .p, .r, .p, .p] ?_))
   refine .mv rfl rfl <| .P rfl (q_fieldB (n := 0) 35 2 Tryz.underlying37 Tryz.sizeOf35 rfl rfl) <| .R rfl (q_load1 Tryz.isAgg35 rfl rfl rfl) <| .P rfl (q_lenI Tryz.underlying35 rfl) <| .P rfl (q_lss rfl rfl) <| .nil ?_
   refine Run.condT rfl (by simp; omega) ?_
   refine Run.skip ?_
   refine Run.seq ?_
   refine Run.block ?_
   refine Run.seq (Run.reg [.p, .r, .p, .p, .p, .p, .p, .p, .p, .p, .r, .p, .p, .p, .p, .p, .p, .p] ?_)
   refine .P rfl (q_fieldB (n := 0) 35 2 Tryz.underlying37 Tryz.sizeOf35 rfl rfl) <| .R rfl (q_load1 Tryz.isAgg35 rfl rfl rfl) <| .mv rfl rfl <| .P rfl (q_indexI Tryz.underlying35 Tryz.sizeOf92 rfl rfl (by omega) (idx_mid encLine hx rfl)) <| .P rfl (q_fieldI (n := 0) 9 0 Tryz.underlying92 Tryz.sizeOf9 rfl rfl rfl) <| .P rfl (q_loadI Tryz.isAgg9 rfl) <| .mv rfl rfl <| .P rfl (q_eqlS rfl rfl) <| .mv rfl rfl <| .gT rfl (.inl rfl) rfl rfl rfl (fun hg => pk (fun _ => q_fieldB (n := 0) 35 2 Tryz.underlying37 Tryz.sizeOf35 rfl rfl _)) <| .gT rfl (.inr rfl) rfl rfl rfl (fun hg => rk (q_load1 Tryz.isAgg35 (opT rfl hg) rfl rfl)) <| .gT rfl (.inl rfl) rfl rfl rfl (fun hg => pk (fun _ => q_move rfl _)) <| .gT rfl (.inl rfl) rfl rfl rfl (fun hg => pk (fun _ => q_indexI Tryz.underlying35 Tryz.sizeOf92 (opT rfl hg) (opT rfl hg) (by omega) (idx_mid encLine hx rfl) _)) <| .gT rfl (.inl rfl) rfl rfl rfl (fun hg => pk (fun _ => q_fieldI (n := 0) 9 1 Tryz.underlying92 Tryz.sizeOf9 rfl (opT rfl hg) rfl _)) <| .gT rfl (.inl rfl) rfl rfl rfl (fun hg => pk (fun _ => q_loadI Tryz.isAgg9 (opT rfl hg) _)) <| .gT rfl (.inl rfl) rfl rfl rfl (fun hg => pk (fun _ => q_move rfl _)) <| .gT rfl (.inl rfl) rfl rfl rfl (fun hg => pk (fun _ => q_eqlS (opT rfl hg) (opT rfl hg) _)) <| .P rfl (q_and rfl rfl) <| .nil ?_
   refine Run.cond rfl (fun h1 => ?_) (fun h1 => ?_)
   ·have ph1 := h1; try simp only [bs] at ph1
    refine Run.reg [.p, .p, .r, .p, .p, .p, .p, .p, .p] ?_
    refine .mv rfl rfl <| .P rfl (q_fieldB (n := 0) 35 2 Tryz.underlying37 Tryz.sizeOf35 rfl rfl) <| .R rfl (q_load1 Tryz.isAgg35 rfl rfl rfl) <| .mv rfl rfl <| .P rfl (q_indexI Tryz.underlying35 Tryz.sizeOf92 rfl rfl (by omega) (idx_mid encLine hx rfl)) <| .P rfl (q_fieldI (n := 0) 54 2 Tryz.underlying92 Tryz.sizeOf54 rfl rfl rfl) <| .P rfl (q_loadI Tryz.isAgg54 rfl) <| .P rfl (q_call Tryz.call91 rfl (add01_ok _ _ hal (dig_17 (by omega)))) <| .ag rfl rfl <| .nil ?_
    refine Run.nil (bq_norm ?_)
    refine Run.reg [.p, .p, .p] ?_
    refine .mv rfl rfl <| .P rfl (q_add rfl rfl (wrap64_ok (by first | omega | (simp; done) | (simp; omega) | (simp at *; omega)) (by first | omega | (simp; done) | (simp; omega) | (simp at *; omega)))) <| .ag rfl rfl <| .nil ?_
    refine Run.nil (tq_norm ?_)
    exact ⟨⟨pre ++ [x], rest, by simp [hx]⟩, by simp, Le.mk rfl (.cons rfl Sub.strA rfl (.cons rfl Sub.strA rfl (.same rfl rfl (.cons rfl (Sub.str (by first | (simp [sumK, ofInt_zero]; done) | (rw [sumK_snoc, if_pos (lkey_iff.2 (by simpa using ph1)), addS_ofInt]; done) | (rw [sumK_snoc, if_neg (fun hh => by have := lkey_iff.1 hh; simp_all)]; simp))) rfl (.cons rfl Sub.intA rfl .nil))))) (.cons rfl rfl .nil)⟩
   ·have ph1 := h1; try simp only [bs] at ph1
    refine Run.skip ?_
    refine Run.nil (bq_norm ?_)
    refine Run.reg [.p, .p, .p] ?_
    refine .mv rfl rfl <| .P rfl (q_add rfl rfl (wrap64_ok (by first | omega | (simp; done) | (simp; omega) | (simp at *; omega)) (by first | omega | (simp; done) | (simp; omega) | (simp at *; omega)))) <| .ag rfl rfl <| .nil ?_
    refine Run.nil (tq_norm ?_)
    exact ⟨⟨pre ++ [x], rest, by simp [hx]⟩, by simp, Le.mk rfl (.cons rfl Sub.strA rfl (.cons rfl Sub.strA rfl (.same rfl rfl (.cons rfl (Sub.str (by first | (simp [sumK, ofInt_zero]; done) | (rw [sumK_snoc, if_pos (lkey_iff.2 (by simpa using ph1)), addS_ofInt]; done) | (rw [sumK_snoc, if_neg (fun hh => by have := lkey_iff.1 hh; simp_all)]; simp))) rfl (.cons rfl Sub.intA rfl .nil))))) (.cons rfl rfl .nil)⟩
structure refExplain_ok_L0 (l : List Posted) (a c : Str) where
 pre : List Posted
 rest : List Posted
 hx : l = pre ++ rest
structure refExplain_ok_L2 (l : List Posted) (a c : Str) (pre : List Posted) where
 preq : List Term
 restq : List Term
 hxq : exT (a, c) pre = preq ++ restq
structure refExplain_ok_L1 (l : List Posted) (a c : Str) (pre : List Posted) (x : Posted) where
 pt : List Term
 rt : List Term
 hxt : exT (a, c) pre = pt ++ rt
 hp : ∀ t ∈ pt, Str.lt t.name x.by_ = true
theorem refExplain_ok (l : List Posted) (a c : Str) (hs : smallPs l) (h13 : amt13L l) (hl16 : l.length ≤ 16) : Fc Tryz.prog 37 [sPosteds l, .str a, .str c] (.tup [sTerms (if okPs l then explainT (a, c) l else []), .i (if okPs l then 0 else 1)]) := by
 refine Fc.mk' [6, 7] Tryz.func37 rfl Tryz.ntmps37 rfl rfl rfl (fun t w => results_tmp2 Tryz.results37 t _ w) ?_
 refine Run.seq (Run.reg [.p, .p] ?_)
 refine .ag rfl rfl <| .ag rfl rfl <| .nil ?_
 refine Run.seq (Run.seq (Run.reg [.p, .p, .p] ?_))
 refine .mv rfl rfl <| .P rfl (q_call Tryz.call26 rfl (check50_ok _ (by first | assumption | omega | (simp at *; omega)))) <| .P rfl (q_neq rfl rfl) <| .nil ?_
 refine Run.cond rfl (fun h1 => ?_) (fun h1 => ?_)
 ·have ph1 := h1; try simp only [bs] at ph1
  have hokF : okPs l = false := by cases ho : okPs l <;> simp_all
  refine Run.seq (Run.reg [.p, .p, .p] ?_)
  refine .P rfl (q_buildSlice0 Tryz.underlying63 Tryz.sizeOf67) <| .ag rfl rfl <| .ag rfl rfl <| .nil ?_
  refine Run.ret (?_)
  exact ret2 rfl rfl (by exact (Sub.empty _ _ _).trans (Sub.snap (by rw [hokF]; rfl))) (Sub.int (by first | (rw [hokF]; rfl) | (rw [hok]; rfl) | (rw [hok, if_pos rfl, ← exT_explainT, ← hpre, hxq, List.append_nil])))
 ·have ph1 := h1; try simp only [bs] at ph1
  have hok : okPs l = true := by cases ho : okPs l <;> simp_all
  refine Run.skip ?_
  refine Run.seq (Run.reg [.p, .p] ?_)
  refine .P rfl (q_buildSlice0 Tryz.underlying63 Tryz.sizeOf67) <| .ag rfl rfl <| .nil ?_
  refine Run.seq (Run.seq (Run.reg [.p] ?_))
  refine .ag rfl rfl <| .nil ?_
  refine Run.block ?_
  refine Run.loop (ι := refExplain_ok_L0 l a c) (fun sx => [(0, sPosteds l), (1, .str a), (2, .str c), (8, .gs 0 (exT (a, c) sx.pre).length), (9, .i sx.pre.length)]) (fun sx => [(0, .arr 2 ((exT (a, c) sx.pre).map encTerm))]) (fun sx => sx.rest.length) ⟨[], l, rfl⟩ ?_ ?_
  ·exact (Le.own0 0 2).trans <| Le.mk rfl (.same rfl rfl (.cons rfl Sub.strA rfl (.cons rfl Sub.strA rfl (.cons rfl (Sub.gsEmpty _ _) rfl (.cons rfl Sub.intA rfl .nil))))) (.arr rfl (by first | rfl | exact ex_end0 hxt hp | exact ex_end1 hxt hp h3 ph4 | exact ex_end2 hxt hp h3 ph4) .nil)
  ·rintro ⟨pre, rest, hx⟩
   show Run _ _ _ _ [(0, sPosteds l), (1, .str a), (2, .str c), (8, .gs 0 (exT (a, c) pre).length), (9, .i pre.length)] [(0, .arr 2 ((exT (a, c) pre).map encTerm))]
   have hl := congrArg List.length hx
   simp only [List.length_append] at hl
   rcases rest with _ | ⟨x, rest⟩
   ·have hpre : pre = l := by simp [hx]
    have hel := exT_len (a, c) pre
    refine Run.seq (Run.seq (Run.reg [.p, .p, .p, .p] ?_))
    refine .mv rfl rfl <| .mv rfl rfl <| .P rfl (q_lenI Tryz.underlying27 rfl) <| .P rfl (q_lss rfl rfl) <| .nil ?_
    refine Run.condF rfl (by simp at hl ⊢; omega) ?_
    refine Run.exit (tq_exit (bq_exit ?_))
    refine Run.weak (Le.freeze 8 0 rfl rfl (by simp)) ?_
    refine Run.seq (Run.reg [.p, .p] ?_)
    refine .P rfl (q_buildSlice0 Tryz.underlying63 Tryz.sizeOf67) <| .ag rfl rfl <| .nil ?_
    refine Run.seq (Run.seq (Run.reg [.p] ?_))
    refine .ag rfl rfl <| .nil ?_
    refine Run.block ?_
    refine Run.loop (ι := refExplain_ok_L2 l a c pre) (fun sx => [(8, sTerms (exT (a, c) pre)), (12, .gs 1 (neT sx.preq).length), (13, .i sx.preq.length)]) (fun sx => [(1, .arr 2 ((neT sx.preq).map encTerm))]) (fun sx => sx.restq.length) ⟨[], _, rfl⟩ ?_ ?_
    ·exact (Le.own0 1 2).trans <| Le.mk rfl (.same rfl rfl (.cons rfl (Sub.gsEmpty _ _) rfl (.cons rfl Sub.intA rfl .nil))) (.arr rfl (by first | rfl | (rw [neT_snoc, if_pos (by simpa using ph2)]; simp; done) | (rw [neT_snoc, if_neg (by simpa using ph2)]; simp)) .nil)
    ·rintro ⟨preq, restq, hxq⟩
     show Run _ _ _ _ [(8, sTerms (exT (a, c) pre)), (12, .gs 1 (neT preq).length), (13, .i preq.length)] [(1, .arr 2 ((neT preq).map encTerm))]
     have hlq := congrArg List.length hxq
     simp only [List.length_append] at hlq
     have hnl := neT_len preq
     rcases restq with _ | ⟨xq, restq⟩
     ·skip
      refine Run.seq (Run.seq (Run.reg [.p, .p, .p, .p] ?_))
      refine .mv rfl rfl <| .mv rfl rfl <| .P rfl (q_lenI Tryz.underlying63 rfl) <| .P rfl (q_lss rfl rfl) <| .nil ?_
      refine Run.condF rfl (by simp at hlq ⊢; omega) ?_
      refine Run.exit (tq_exit (bq_exit ?_))
      refine Run.seq (Run.reg [.p, .p, .p] ?_)
      refine .mv rfl rfl <| .ag rfl rfl <| .ag rfl rfl <| .nil ?_
      refine Run.weak (Le.freeze 6 1 rfl rfl (by simp)) ?_
      refine Run.ret (?_)
      exact ret2 rfl rfl (Sub.snap (by first | (rw [hokF]; rfl) | (rw [hok]; rfl) | (rw [hok, if_pos rfl, ← exT_explainT, ← hpre, hxq, List.append_nil]))) (Sub.int (by first | (rw [hokF]; rfl) | (rw [hok]; rfl) | (rw [hok, if_pos rfl, ← exT_explainT, ← hpre, hxq, List.append_nil])))
     ·simp only [List.length_cons] at hlq
      refine Run.seq (Run.seq (Run.reg [.p, .p, .p, .p] ?_))
      refine .mv rfl rfl <| .mv rfl rfl <| .P rfl (q_lenI Tryz.underlying63 rfl) <| .P rfl (q_lss rfl rfl) <| .nil ?_
      refine Run.condT rfl (by simp; omega) ?_
      refine Run.skip ?_
      refine Run.seq ?_
      refine Run.block ?_
      refine Run.seq (Run.reg [.p, .p, .p, .p, .p, .p] ?_)
      refine .mv rfl rfl <| .mv rfl rfl <| .P rfl (q_indexI Tryz.underlying63 Tryz.sizeOf67 rfl rfl (by omega) (idx_mid encTerm hxq rfl)) <| .P rfl (q_fieldI (n := 0) 54 1 Tryz.underlying67 Tryz.sizeOf54 rfl rfl rfl) <| .P rfl (q_loadI Tryz.isAgg54 rfl) <| .P rfl (q_neqS rfl rfl) <| .nil ?_
      refine Run.cond rfl (fun h2 => ?_) (fun h2 => ?_)
      ·have ph2 := h2; try simp only [bs] at ph2
       refine Run.reg [.p, .p, .p, .p, .p, .p, .w, .p] ?_
       refine .mv rfl rfl <| .mv rfl rfl <| .mv rfl rfl <| .P rfl (q_indexI Tryz.underlying63 Tryz.sizeOf67 rfl rfl (by omega) (idx_mid encTerm hxq rfl)) <| .P rfl (q_loadIA Tryz.isAgg67 Tryz.sizeOf67 rfl rfl) <| .P rfl (q_buildSlice' (n := 1) (rows := [encTerm xq]) Tryz.underlying63 Tryz.sizeOf67 rfl rfl rfl Tryz.zeroValue67 rfl rfl rfl rfl rfl rfl rfl) <| .W rfl (q_append 2 Tryz.underlying63 Tryz.underlying63 Tryz.sizeOf67 Tryz.typeInfo67 Tryz.zeroValue67 rfl (bt := 32) rfl rfl rfl rfl (by simp) rfl rfl (by simp; omega)) <| .ag rfl rfl <| .nil ?_
       refine Run.nil (bq_norm ?_)
       refine Run.reg [.p, .p, .p] ?_
       refine .mv rfl rfl <| .P rfl (q_add rfl rfl (wrap64_ok (by first | omega | (simp; done) | (simp; omega) | (simp at *; omega)) (by first | omega | (simp; done) | (simp; omega) | (simp at *; omega)))) <| .ag rfl rfl <| .nil ?_
       refine Run.nil (tq_norm ?_)
       exact ⟨⟨preq ++ [xq], restq, by simp [hxq]⟩, by simp, (Le.mk (obs' := [(2, _)]) rfl (show EnvLe _ _ [(8, _), (12, _), (13, _)] from (.same rfl rfl (.same rfl rfl (.same rfl rfl .nil)))) (.cons (i := 2) rfl rfl .nil)).trans <| (Le.ren 12 2 1 rfl rfl (by simp) rfl).trans <| Le.mk rfl (.same rfl rfl (.cons rfl (Sub.gs (by first | rfl | (rw [neT_snoc, if_pos (by simpa using ph2)]; simp; done) | (rw [neT_snoc, if_neg (by simpa using ph2)]; simp))) rfl (.cons rfl Sub.intA rfl .nil))) (.arr rfl (by first | rfl | (rw [neT_snoc, if_pos (by simpa using ph2)]; simp; done) | (rw [neT_snoc, if_neg (by simpa using ph2)]; simp)) .nil)⟩
      ·have ph2 := h2; try simp only [bs] at ph2
       refine Run.skip ?_
       refine Run.nil (bq_norm ?_)
       refine Run.reg [.p, .p, .p] ?_
       refine .mv rfl rfl <| .P rfl (q_add rfl rfl (wrap64_ok (by first | omega | (simp; done) | (simp; omega) | (simp at *; omega)) (by first | omega | (simp; done) | (simp; omega) | (simp at *; omega)))) <| .ag rfl rfl <| .nil ?_
       refine Run.nil (tq_norm ?_)
       exact ⟨⟨preq ++ [xq], restq, by simp [hxq]⟩, by simp, Le.mk rfl (.same rfl rfl (.cons rfl (Sub.gs (by first | rfl | (rw [neT_snoc, if_pos (by simpa using ph2)]; simp; done) | (rw [neT_snoc, if_neg (by simpa using ph2)]; simp))) rfl (.cons rfl Sub.intA rfl .nil))) (.arr rfl (by first | rfl | (rw [neT_snoc, if_pos (by simpa using ph2)]; simp; done) | (rw [neT_snoc, if_neg (by simpa using ph2)]; simp)) .nil)⟩
   ·simp only [List.length_cons] at hl
    have hxs := hs x (by rw [hx]; simp)
    have hx13 := h13 x (by rw [hx]; simp)
    have hxd := amtE_dig (k := (a, c)) hxs hx13
    have hed := exT_dig (k := (a, c)) (l := pre) (fun p hp => hs p (by rw [hx]; simp [hp])) (fun p hp => h13 p (by rw [hx]; simp [hp])) (by omega)
    have hel := exT_len (a, c) pre
    refine Run.seq (Run.seq (Run.reg [.p, .p, .p, .p] ?_))
    refine .mv rfl rfl <| .mv rfl rfl <| .P rfl (q_lenI Tryz.underlying27 rfl) <| .P rfl (q_lss rfl rfl) <| .nil ?_
    refine Run.condT rfl (by simp; omega) ?_
    refine Run.skip ?_
    refine Run.seq ?_
    refine Run.block ?_
    refine Run.seq (Run.reg [.p, .p, .p, .p, .p, .p, .p, .p, .p] ?_)
    refine .mv rfl rfl <| .mv rfl rfl <| .P rfl (q_indexI Tryz.underlying27 Tryz.sizeOf39 rfl rfl (by omega) (idx_mid encPosted hx rfl)) <| .P rfl (q_fieldI (n := 2) 37 3 Tryz.underlying39 Tryz.sizeOf37 rfl rfl rfl) <| .P rfl (q_loadIA Tryz.isAgg37 Tryz.sizeOf37 rfl rfl) <| .mv rfl rfl <| .mv rfl rfl <| .P rfl (q_call Tryz.call90 rfl (amount35_ok x.entry a c hxs hx13)) <| .ag rfl rfl <| .nil ?_
    refine Run.seq (Run.reg [.p] ?_)
    refine .ag rfl rfl <| .nil ?_
    refine Run.seq ?_
    refine Run.block ?_
    refine Run.loop (ι := refExplain_ok_L1 l a c pre x) (fun sx => [(0, sPosteds l), (1, .str a), (2, .str c), (8, .gs 0 (exT (a, c) pre).length), (9, .i pre.length), (10, .str (amtE (a, c) x.entry)), (11, .i sx.pt.length)]) (fun sx => [(0, .arr 2 ((exT (a, c) pre).map encTerm))]) (fun sx => sx.rt.length) ⟨[], exT (a, c) pre, rfl, by simp⟩ ?_ ?_
    ·exact Le.mk rfl (.same rfl rfl (.cons rfl Sub.strA rfl (.cons rfl Sub.strA rfl (.cons rfl (Sub.gs (by simp)) rfl (.cons rfl Sub.intA rfl (.cons rfl Sub.strA rfl (.cons rfl Sub.intA rfl .nil))))))) (.arr rfl (by simp) .nil)
    ·rintro ⟨pt, rt, hxt, hp⟩
     show Run _ _ _ _ [(0, sPosteds l), (1, .str a), (2, .str c), (8, .gs 0 (exT (a, c) pre).length), (9, .i pre.length), (10, .str (amtE (a, c) x.entry)), (11, .i pt.length)] [(0, .arr 2 ((exT (a, c) pre).map encTerm))]
     have hlt := congrArg List.length hxt
     simp only [List.length_append] at hlt
     rcases rt with _ | ⟨y, rt⟩
     ·simp only [List.length_nil] at hlt
      refine Run.seq (Run.seq (Run.regD [.p, .p, .p, .p, .p, .p, .p, .p, .p, .r, .p, .p, .p, .p, .p, .p, .p] Tryz_mixed (by decide +kernel) ?_))
      refine .mv rfl rfl <| .mv rfl rfl <| .P rfl (q_lenG Tryz.underlying63 rfl) <| .P rfl (q_lss rfl rfl) <| .mv rfl rfl ?_
      refine .off rfl (off_of rfl rfl rfl (by simp; omega)) ?_
      refine .off rfl (off_of rfl rfl rfl (by simp; omega)) ?_
      refine .off rfl (off_of rfl rfl rfl (by simp; omega)) ?_
      refine .off rfl (off_of rfl rfl rfl (by simp; omega)) ?_
      refine .off rfl (off_of rfl rfl rfl (by simp; omega)) ?_
      refine .off rfl (off_of rfl rfl rfl (by simp; omega)) ?_
      refine .off rfl (off_of rfl rfl rfl (by simp; omega)) ?_
      refine .off rfl (off_of rfl rfl rfl (by simp; omega)) ?_
      refine .off rfl (off_of rfl rfl rfl (by simp; omega)) ?_
      refine .off rfl (off_of rfl rfl rfl (by simp; omega)) ?_
      refine .off rfl (off_of rfl rfl rfl (by simp; omega)) ?_
      refine .P rfl (q_pickF rfl (by simp; omega) rfl) <| .nil ?_
      refine Run.condF rfl rfl ?_
      refine Run.exit (tq_exit (bq_exit ?_))
      refine Run.seq (Run.regD [.p, .p, .p, .p, .p, .p, .p, .p, .p, .r, .p, .p, .p, .p, .p, .p, .p] Tryz_mixed (by decide +kernel) ?_)
      refine .mv rfl rfl <| .mv rfl rfl <| .P rfl (q_lenG Tryz.underlying63 rfl) <| .P rfl (q_lss rfl rfl) <| .mv rfl rfl ?_
      refine .off rfl (off_of rfl rfl rfl (by simp; omega)) ?_
      refine .off rfl (off_of rfl rfl rfl (by simp; omega)) ?_
      refine .off rfl (off_of rfl rfl rfl (by simp; omega)) ?_
      refine .off rfl (off_of rfl rfl rfl (by simp; omega)) ?_
      refine .off rfl (off_of rfl rfl rfl (by simp; omega)) ?_
      refine .off rfl (off_of rfl rfl rfl (by simp; omega)) ?_
      refine .off rfl (off_of rfl rfl rfl (by simp; omega)) ?_
      refine .off rfl (off_of rfl rfl rfl (by simp; omega)) ?_
      refine .off rfl (off_of rfl rfl rfl (by simp; omega)) ?_
      refine .off rfl (off_of rfl rfl rfl (by simp; omega)) ?_
      refine .off rfl (off_of rfl rfl rfl (by simp; omega)) ?_
      refine .P rfl (q_pickF rfl (by simp; omega) rfl) <| .nil ?_
      refine Run.condF rfl rfl ?_
      refine Run.weak (Le.freeze 8 0 rfl rfl (by simp)) ?_
      refine Run.regD [.p, .p, .p, .p, .p, .p, .p, .p, .p, .p, .p, .p, .p, .p, .p, .p, .w, .p] Tryz_mixed (by decide +kernel) ?_
      refine .mv rfl rfl <| .mv rfl rfl <| .mv rfl rfl <| .P rfl (q_slice3I (h := pt.length) Tryz.underlying63 Tryz.sizeOf67 rfl rfl rfl (by simp; omega)) <| .mv rfl rfl <| .mv rfl rfl <| .P rfl (q_indexI Tryz.underlying27 Tryz.sizeOf39 rfl rfl (by omega) (idx_mid encPosted hx rfl)) <| .P rfl (q_fieldI (n := 0) 9 2 Tryz.underlying39 Tryz.sizeOf9 rfl rfl rfl) <| .P rfl (q_loadI Tryz.isAgg9 rfl) <| .mv rfl rfl <| .P rfl (q_build (pl := #[(0, 1), (1, 1)]) Tryz.underlying67 Tryz.zeroValue67 (fun w => by kernel_rfl) rfl rfl) <| .P rfl (q_buildSlice' (n := 1) (rows := [encTerm ⟨x.by_, amtE (a, c) x.entry⟩]) Tryz.underlying63 Tryz.sizeOf67 rfl rfl rfl Tryz.zeroValue67 rfl rfl rfl rfl rfl rfl rfl) <| .mv rfl rfl <| .mv rfl rfl <| .P rfl (q_sliceI Tryz.underlying63 Tryz.sizeOf67 rfl (l := pt.length) (h := (exT (a, c) pre).length) (r := []) (.inr ⟨_, _, rfl, rfl⟩) (.inl ⟨rfl, by simp⟩) (by omega) (by simp) (sl_rest encTerm hxt)) <| .P rfl (q_append0 Tryz.underlying63 Tryz.underlying63 Tryz.sizeOf67 rfl rfl) <| .W rfl (q_appendFull 1 Tryz.underlying63 Tryz.underlying63 Tryz.sizeOf67 Tryz.typeInfo67 Tryz.zeroValue67 rfl (bt := 32) rfl rfl rfl rfl rfl (by simp) (by simp; omega)) <| .ag rfl rfl <| .nil ?_
      refine Run.nil (bq_norm ?_)
      refine Run.reg [.p, .p, .p] ?_
      refine .mv rfl rfl <| .P rfl (q_add rfl rfl (wrap64_ok (by first | omega | (simp; done) | (simp; omega) | (simp at *; omega)) (by first | omega | (simp; done) | (simp; omega) | (simp at *; omega)))) <| .ag rfl rfl <| .nil ?_
      refine Run.nil (tq_norm ?_)
      exact ⟨⟨pre ++ [x], rest, by simp [hx]⟩, by simp, (Le.mk (obs' := [(1, _)]) rfl (show EnvLe _ _ [(0, _), (1, _), (2, _), (8, _), (9, _)] from (.same rfl rfl (.same rfl rfl (.same rfl rfl (.same rfl rfl (.same rfl rfl .nil)))))) (.cons (i := 1) rfl rfl .nil)).trans <| (Le.ren 8 1 0 rfl rfl (by simp) rfl).trans <| Le.mk rfl (.same rfl rfl (.cons rfl Sub.strA rfl (.cons rfl Sub.strA rfl (.cons rfl (Sub.gs (by first | rfl | exact ex_len0 hxt hp | exact ex_len1 hxt hp h3 ph4 | exact ex_len2 hxt hp h3 ph4)) rfl (.cons rfl Sub.intA rfl .nil))))) (.arr rfl (by first | rfl | exact ex_end0 hxt hp | exact ex_end1 hxt hp h3 ph4 | exact ex_end2 hxt hp h3 ph4) .nil)⟩
     ·simp only [List.length_cons] at hlt
      have hyd := hed y (by rw [hxt]; simp)
      refine Run.seq (Run.seq (Run.regD [.p, .p, .p, .p, .p, .p, .p, .p, .p, .r, .p, .p, .p, .p, .p, .p, .p] Tryz_mixed (by decide +kernel) ?_))
      refine .mv rfl rfl <| .mv rfl rfl <| .P rfl (q_lenG Tryz.underlying63 rfl) <| .P rfl (q_lss rfl rfl) <| .mv rfl rfl <| .p rfl (on_of rfl rfl rfl (by simp; omega)) (fun _ => q_move rfl _) <| .p rfl (on_of rfl rfl rfl (by simp; omega)) (fun _ => q_move rfl _) <| .p rfl (on_of rfl rfl rfl (by simp; omega)) (fun _ => q_indexG (off := (pt.length) * 2) Tryz.underlying63 Tryz.sizeOf67 rfl rfl (by first | omega | (simp; done) | (simp; omega) | (simp at *; omega)) (by simp; omega) (by first | omega | (simp; done) | (simp; omega) | (simp at *; omega)) _) <| .p rfl (on_of rfl rfl rfl (by simp; omega)) (fun _ => q_fieldG (n := 0) (off' := (pt.length) * 2 + 0) 9 0 Tryz.underlying67 Tryz.sizeOf9 rfl rfl rfl _) <| .r rfl (on_of rfl rfl rfl (by simp; omega)) (q_loadG1 (r := encTerm y) (pt.length) 0 Tryz.isAgg9 rfl rfl rfl (by exact rowT_mid encTerm hxt) rfl) <| .p rfl (on_of rfl rfl rfl (by simp; omega)) (fun _ => q_move rfl _) <| .p rfl (on_of rfl rfl rfl (by simp; omega)) (fun _ => q_move rfl _) <| .p rfl (on_of rfl rfl rfl (by simp; omega)) (fun _ => q_indexI Tryz.underlying27 Tryz.sizeOf39 rfl rfl (by omega) (idx_mid encPosted hx rfl) _) <| .p rfl (on_of rfl rfl rfl (by simp; omega)) (fun _ => q_fieldI (n := 0) 9 2 Tryz.underlying39 Tryz.sizeOf9 rfl rfl rfl _) <| .p rfl (on_of rfl rfl rfl (by simp; omega)) (fun _ => q_loadI Tryz.isAgg9 rfl _) <| .p rfl (on_of rfl rfl rfl (by simp; omega)) (fun _ => q_lssS rfl rfl _) <| .P rfl (q_pickT rfl (by simp; omega) rfl) <| .nil ?_
      refine Run.cond rfl (fun h3 => ?_) (fun h3 => ?_)
      ·have ph3 := h3; try simp only [bs] at ph3
       refine Run.skip ?_
       refine Run.block ?_
       refine Run.reg [.p, .p, .p] ?_
       refine .mv rfl rfl <| .P rfl (q_add rfl rfl (wrap64_ok (by first | omega | (simp; done) | (simp; omega) | (simp at *; omega)) (by first | omega | (simp; done) | (simp; omega) | (simp at *; omega)))) <| .ag rfl rfl <| .nil ?_
       refine Run.nil (bq_norm ?_)
       refine Run.nil (tq_norm ?_)
       exact ⟨⟨pt ++ [y], rt, by simp [hxt], fun z hz => (List.mem_append.1 hz).elim (hp z) (fun hz => by simp at hz; subst hz; assumption)⟩, by simp, Le.mk rfl (.same rfl rfl (.cons rfl Sub.strA rfl (.cons rfl Sub.strA rfl (.cons rfl (Sub.gs (by simp)) rfl (.cons rfl Sub.intA rfl (.cons rfl Sub.strA rfl (.cons rfl Sub.intA rfl .nil))))))) (.arr rfl (by simp) .nil)⟩
      ·have ph3 := h3; try simp only [bs] at ph3
       refine Run.exit (tq_exit (bq_exit ?_))
       refine Run.seq (Run.regD [.p, .p, .p, .p, .p, .p, .p, .p, .p, .r, .p, .p, .p, .p, .p, .p, .p] Tryz_mixed (by decide +kernel) ?_)
       refine .mv rfl rfl <| .mv rfl rfl <| .P rfl (q_lenG Tryz.underlying63 rfl) <| .P rfl (q_lss rfl rfl) <| .mv rfl rfl <| .p rfl (on_of rfl rfl rfl (by simp; omega)) (fun _ => q_move rfl _) <| .p rfl (on_of rfl rfl rfl (by simp; omega)) (fun _ => q_move rfl _) <| .p rfl (on_of rfl rfl rfl (by simp; omega)) (fun _ => q_indexG (off := (pt.length) * 2) Tryz.underlying63 Tryz.sizeOf67 rfl rfl (by first | omega | (simp; done) | (simp; omega) | (simp at *; omega)) (by simp; omega) (by first | omega | (simp; done) | (simp; omega) | (simp at *; omega)) _) <| .p rfl (on_of rfl rfl rfl (by simp; omega)) (fun _ => q_fieldG (n := 0) (off' := (pt.length) * 2 + 0) 9 0 Tryz.underlying67 Tryz.sizeOf9 rfl rfl rfl _) <| .r rfl (on_of rfl rfl rfl (by simp; omega)) (q_loadG1 (r := encTerm y) (pt.length) 0 Tryz.isAgg9 rfl rfl rfl (by exact rowT_mid encTerm hxt) rfl) <| .p rfl (on_of rfl rfl rfl (by simp; omega)) (fun _ => q_move rfl _) <| .p rfl (on_of rfl rfl rfl (by simp; omega)) (fun _ => q_move rfl _) <| .p rfl (on_of rfl rfl rfl (by simp; omega)) (fun _ => q_indexI Tryz.underlying27 Tryz.sizeOf39 rfl rfl (by omega) (idx_mid encPosted hx rfl) _) <| .p rfl (on_of rfl rfl rfl (by simp; omega)) (fun _ => q_fieldI (n := 0) 9 2 Tryz.underlying39 Tryz.sizeOf9 rfl rfl rfl _) <| .p rfl (on_of rfl rfl rfl (by simp; omega)) (fun _ => q_loadI Tryz.isAgg9 rfl _) <| .p rfl (on_of rfl rfl rfl (by simp; omega)) (fun _ => q_eqlS rfl rfl _) <| .P rfl (q_pickT rfl (by simp; omega) rfl) <| .nil ?_
       refine Run.cond rfl (fun h4 => ?_) (fun h4 => ?_)
       ·have ph4 := h4; try simp only [bs] at ph4
        refine Run.reg [.p, .p, .p, .p, .p, .p, .r, .p, .p, .p, .p, .w] ?_
        refine .mv rfl rfl <| .mv rfl rfl <| .mv rfl rfl <| .mv rfl rfl <| .P rfl (q_indexG (off := (pt.length) * 2) Tryz.underlying63 Tryz.sizeOf67 rfl rfl (by first | omega | (simp; done) | (simp; omega) | (simp at *; omega)) (by simp; omega) (by first | omega | (simp; done) | (simp; omega) | (simp at *; omega))) <| .P rfl (q_fieldG (n := 0) (off' := (pt.length) * 2 + 1) 54 1 Tryz.underlying67 Tryz.sizeOf54 rfl rfl rfl) <| .R rfl (q_loadG1 (r := encTerm y) (pt.length) 1 Tryz.isAgg54 rfl rfl rfl (by exact rowT_mid encTerm hxt) rfl) <| .mv rfl rfl <| .P rfl (q_call Tryz.call91 rfl (add01_ok _ _ hyd hxd)) <| .P rfl (q_indexG (off := (pt.length) * 2) Tryz.underlying63 Tryz.sizeOf67 rfl rfl (by first | omega | (simp; done) | (simp; omega) | (simp at *; omega)) (by simp; omega) (by first | omega | (simp; done) | (simp; omega) | (simp at *; omega))) <| .P rfl (q_fieldG (n := 0) (off' := (pt.length) * 2 + 1) 54 1 Tryz.underlying67 Tryz.sizeOf54 rfl rfl rfl) <| .W rfl (q_storeG1 (r := encTerm y) (pt.length) 1 Tryz.sizeOf54 rfl rfl rfl rfl rfl rfl (by exact rowT_mid encTerm hxt) (by simp)) <| .nil ?_
        refine Run.nil (bq_norm ?_)
        refine Run.reg [.p, .p, .p] ?_
        refine .mv rfl rfl <| .P rfl (q_add rfl rfl (wrap64_ok (by first | omega | (simp; done) | (simp; omega) | (simp at *; omega)) (by first | omega | (simp; done) | (simp; omega) | (simp at *; omega)))) <| .ag rfl rfl <| .nil ?_
        refine Run.nil (tq_norm ?_)
        exact ⟨⟨pre ++ [x], rest, by simp [hx]⟩, by simp, Le.mk rfl (.same rfl rfl (.cons rfl Sub.strA rfl (.cons rfl Sub.strA rfl (.cons rfl (Sub.gs (by first | rfl | exact ex_len0 hxt hp | exact ex_len1 hxt hp h3 ph4 | exact ex_len2 hxt hp h3 ph4)) rfl (.cons rfl Sub.intA rfl .nil))))) (.arr rfl (by first | rfl | exact ex_end0 hxt hp | exact ex_end1 hxt hp h3 ph4 | exact ex_end2 hxt hp h3 ph4) .nil)⟩
       ·have ph4 := h4; try simp only [bs] at ph4
        refine Run.weak (Le.freeze 8 0 rfl rfl (by simp)) ?_
        refine Run.regD [.p, .p, .p, .p, .p, .p, .p, .p, .p, .p, .p, .p, .p, .p, .p, .p, .w, .p] Tryz_mixed (by decide +kernel) ?_
        refine .mv rfl rfl <| .mv rfl rfl <| .mv rfl rfl <| .P rfl (q_slice3I (h := pt.length) Tryz.underlying63 Tryz.sizeOf67 rfl rfl rfl (by simp; omega)) <| .mv rfl rfl <| .mv rfl rfl <| .P rfl (q_indexI Tryz.underlying27 Tryz.sizeOf39 rfl rfl (by omega) (idx_mid encPosted hx rfl)) <| .P rfl (q_fieldI (n := 0) 9 2 Tryz.underlying39 Tryz.sizeOf9 rfl rfl rfl) <| .P rfl (q_loadI Tryz.isAgg9 rfl) <| .mv rfl rfl <| .P rfl (q_build (pl := #[(0, 1), (1, 1)]) Tryz.underlying67 Tryz.zeroValue67 (fun w => by kernel_rfl) rfl rfl) <| .P rfl (q_buildSlice' (n := 1) (rows := [encTerm ⟨x.by_, amtE (a, c) x.entry⟩]) Tryz.underlying63 Tryz.sizeOf67 rfl rfl rfl Tryz.zeroValue67 rfl rfl rfl rfl rfl rfl rfl) <| .mv rfl rfl <| .mv rfl rfl <| .P rfl (q_sliceI Tryz.underlying63 Tryz.sizeOf67 rfl (l := pt.length) (h := (exT (a, c) pre).length) (r := (y :: rt).map encTerm) (.inr ⟨_, _, rfl, rfl⟩) (.inl ⟨rfl, by simp⟩) (by omega) (by simp) (sl_rest encTerm hxt)) <| .P rfl (q_appendSnap Tryz.underlying63 Tryz.underlying63 Tryz.sizeOf67 Tryz.typeInfo67 Tryz.zeroValue67 rfl (bt := 32) rfl rfl rfl rfl (by simp) (by simp; omega)) <| .W rfl (q_appendFull 1 Tryz.underlying63 Tryz.underlying63 Tryz.sizeOf67 Tryz.typeInfo67 Tryz.zeroValue67 rfl (bt := 32) rfl rfl rfl rfl rfl (by simp) (by simp; omega)) <| .ag rfl rfl <| .nil ?_
        refine Run.nil (bq_norm ?_)
        refine Run.reg [.p, .p, .p] ?_
        refine .mv rfl rfl <| .P rfl (q_add rfl rfl (wrap64_ok (by first | omega | (simp; done) | (simp; omega) | (simp at *; omega)) (by first | omega | (simp; done) | (simp; omega) | (simp at *; omega)))) <| .ag rfl rfl <| .nil ?_
        refine Run.nil (tq_norm ?_)
        exact ⟨⟨pre ++ [x], rest, by simp [hx]⟩, by simp, (Le.mk (obs' := [(1, _)]) rfl (show EnvLe _ _ [(0, _), (1, _), (2, _), (8, _), (9, _)] from (.same rfl rfl (.same rfl rfl (.same rfl rfl (.same rfl rfl (.same rfl rfl .nil)))))) (.cons (i := 1) rfl rfl .nil)).trans <| (Le.ren 8 1 0 rfl rfl (by simp) rfl).trans <| Le.mk rfl (.same rfl rfl (.cons rfl Sub.strA rfl (.cons rfl Sub.strA rfl (.cons rfl (Sub.gs (by first | rfl | exact ex_len0 hxt hp | exact ex_len1 hxt hp h3 ph4 | exact ex_len2 hxt hp h3 ph4)) rfl (.cons rfl Sub.intA rfl .nil))))) (.arr rfl (by first | rfl | exact ex_end0 hxt hp | exact ex_end1 hxt hp h3 ph4 | exact ex_end2 hxt hp h3 ph4) .nil)⟩
end Go.T
