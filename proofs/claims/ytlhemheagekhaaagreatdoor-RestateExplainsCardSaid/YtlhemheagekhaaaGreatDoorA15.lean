/-
  Contracts of the functions that the statement reaches, and the logic in which they are proved (no condition): parts W60, Law9, W61, Bal5, Bal6, W62, Bal7, W63, Core34, Core35, LayT, Bal8.
-/
import Derived.Test.YtlhemheagekhaaaGreatDoorA14
import Derived.Shelf.SortM.Plain
import Derived.Shelf.SortM.SortNone
set_option linter.all false
namespace Go.T
open Go Go.Proofs
set_option maxRecDepth 20000
theorem restValid_ok (d : Int) : Fc Tryz.prog 68 [.i d] (.b (validDay d)) := by
 refine Fc.mk' [2] Tryz.func68 rfl Tryz.ntmps68 rfl rfl rfl (fun t w => results_tmp Tryz.results68 t _ w) ?_
 refine Run.seq (Run.reg [.p] ?_)
 refine .ag rfl rfl <| .nil ?_
 refine Run.seq (Run.reg [.p, .p, .p, .p, .p, .p, .p] ?_)
 refine .mv rfl rfl <| .P rfl (q_geq rfl rfl) <| .mv rfl rfl <| .gT rfl (.inl rfl) rfl rfl rfl (fun hg => pk (fun _ => q_move rfl _)) <| .gT rfl (.inl rfl) rfl rfl rfl (fun hg => pk (fun _ => q_leq (opT rfl hg) rfl _)) <| .P rfl (q_and rfl rfl) <| .ag rfl rfl <| .nil ?_
 refine Run.ret (?_)
 exact ret1 rfl (Sub.bool (by rfl))
theorem isPosted_ok (p : Posted) (hs : smallE p.entry) : Fc Tryz.prog 122 [.agg (encPosted p)] (.b (okP p)) := by
 refine Fc.mk' [2] Tryz.func122 rfl Tryz.ntmps122 rfl rfl rfl (fun t w => results_tmp Tryz.results122 t _ w) ?_
 refine Run.seq (Run.reg [.w, .p] ?_)
 refine .W rfl (q_boxA 0 rfl rfl) <| .ag rfl rfl <| .nil ?_
 refine Run.seq (Run.reg [.p, .r, .p, .p, .p, .p, .r, .p, .p, .p, .p, .r, .p, .p, .r, .p, .p, .p, .p, .r, .p, .p, .p, .p, .r, .p, .p, .p] ?_)
 refine .P rfl (q_fieldB (n := 2) 37 3 Tryz.underlying39 Tryz.sizeOf37 rfl rfl) <| .R rfl (q_loadA Tryz.isAgg37 Tryz.sizeOf37 rfl rfl (by simp) rfl) <| .P rfl (q_call Tryz.call18 rfl (check_ok p.entry hs)) <| .P rfl (q_eql rfl rfl) <| .mv rfl rfl <| .gT rfl (.inl rfl) rfl rfl rfl (fun hg => pk (fun _ => q_fieldB (n := 0) 34 0 Tryz.underlying39 Tryz.sizeOf34 rfl rfl _)) <| .gT rfl (.inr rfl) rfl rfl rfl (fun hg => rk (q_load1 Tryz.isAgg34 (opT rfl hg) rfl rfl)) <| .gT rfl (.inl rfl) rfl rfl rfl (fun hg => pk (fun _ => q_call Tryz.call68 (opsC (opT rfl hg) (rfl)) (restValid_ok _) _)) <| .P rfl (q_and rfl rfl) <| .mv rfl rfl <| .gT rfl (.inl rfl) rfl rfl rfl (fun hg => pk (fun _ => q_fieldB (n := 0) 34 0 Tryz.underlying39 Tryz.sizeOf34 rfl rfl _)) <| .gT rfl (.inr rfl) rfl rfl rfl (fun hg => rk (q_load1 Tryz.isAgg34 (opT rfl hg) rfl rfl)) <| .gT rfl (.inl rfl) rfl rfl rfl (fun hg => pk (fun _ => q_fieldB (n := 2) 37 3 Tryz.underlying39 Tryz.sizeOf37 rfl rfl _)) <| .gT rfl (.inl rfl) rfl rfl rfl (fun hg => pk (fun _ => q_fieldB (n := 0) 34 0 Tryz.underlying37 Tryz.sizeOf34 rfl (opT rfl hg) _)) <| .gT rfl (.inr rfl) rfl rfl rfl (fun hg => rk (q_load1 Tryz.isAgg34 (opT rfl hg) rfl rfl)) <| .gT rfl (.inl rfl) rfl rfl rfl (fun hg => pk (fun _ => q_geq (opT rfl hg) (opT rfl hg) _)) <| .P rfl (q_and rfl rfl) <| .mv rfl rfl <| .gT rfl (.inl rfl) rfl rfl rfl (fun hg => pk (fun _ => q_fieldB (n := 0) 3 1 Tryz.underlying39 Tryz.sizeOf3 rfl rfl _)) <| .gT rfl (.inr rfl) rfl rfl rfl (fun hg => rk (q_load1 Tryz.isAgg3 (opT rfl hg) rfl rfl)) ?_
 refine .gT rfl (.inl rfl) rfl rfl rfl (fun hg => pk (fun _ => q_geq (opT rfl hg) rfl _)) <| .P rfl (q_and rfl rfl) <| .mv rfl rfl <| .gT rfl (.inl rfl) rfl rfl rfl (fun hg => pk (fun _ => q_fieldB (n := 0) 9 2 Tryz.underlying39 Tryz.sizeOf9 rfl rfl _)) <| .gT rfl (.inr rfl) rfl rfl rfl (fun hg => rk (q_load1 Tryz.isAgg9 (opT rfl hg) rfl rfl)) <| .gT rfl (.inl rfl) rfl rfl rfl (fun hg => pk (fun _ => q_call Tryz.call45 (opsC (opT rfl hg) (rfl)) (name_ok _) _)) <| .P rfl (q_and rfl rfl) <| .ag rfl rfl <| .nil ?_
 refine Run.ret (?_)
 exact ret1 rfl (Sub.bool (by simp [okP, Bool.and_assoc] <;> grind))
structure postList_ok_L0 (l : List Posted) where
 pre : List Posted
 rest : List Posted
 hx : l = pre ++ rest
 hp : pre.all okP = true ∧ adjK pre = true
 hl0 : l.length ≤ 10000
theorem postList_ok (l : List Posted) (hs : smallPs l) : Fc Tryz.prog 67 [sPosteds l] (.b (okPs l)) := by
 refine Fc.mk' [2] Tryz.func67 rfl Tryz.ntmps67 rfl rfl rfl (fun t w => results_tmp Tryz.results67 t _ w) ?_
 refine Run.bSnap 0 rfl (fun hb => ?_)
 simp only [List.length_map, big] at hb
 refine Run.seq (Run.reg [.p] ?_)
 refine .ag rfl rfl <| .nil ?_
 refine Run.seq (Run.seq (Run.reg [.p, .p, .p] ?_))
 refine .mv rfl rfl <| .P rfl (q_lenI Tryz.underlying27 rfl) <| .P rfl (q_gtr rfl rfl) <| .nil ?_
 refine Run.cond rfl (fun h1 => ?_) (fun h1 => ?_)
 ·have ph1 := h1
  try simp only [bs, bne_iff_ne, ne_eq, List.length_map] at ph1
  refine Run.seq (Run.reg [.p] ?_)
  refine .ag rfl rfl <| .nil ?_
  refine Run.ret (?_)
  exact ret1 rfl (Sub.bool (by first | exact (okPs_end hx hp hl0).symm | exact (okPs_bad hx (by grind)).symm | (simp [okPs]; omega)))
 ·have ph1 := h1
  try simp only [bs, bne_iff_ne, ne_eq, List.length_map] at ph1
  refine Run.skip ?_
  refine Run.seq (Run.seq (Run.reg [.p, .p, .p] ?_))
  refine .mv rfl rfl <| .P rfl (q_lenI Tryz.underlying27 rfl) <| .mv rfl rfl <| .nil ?_
  refine Run.block ?_
  refine Run.loop (ι := postList_ok_L0 l) (fun sx => [(0, sPosteds l), (8, sPosteds l), (9, .i l.length), (10, .i sx.pre.length)]) (fun sx => []) (fun sx => sx.rest.length) ⟨[], l, rfl, ⟨rfl, rfl⟩, by simp at *; omega⟩ ?_ ?_
  ·exact Le.mk rfl (.same rfl rfl (.same rfl rfl (.cons rfl Sub.intA rfl (.cons rfl Sub.intA rfl .nil)))) .nil
  ·rintro ⟨pre, rest, hx, hp, hl0⟩
   show Run _ _ _ _ [(0, sPosteds l), (8, sPosteds l), (9, .i l.length), (10, .i pre.length)] []
   have hl := congrArg List.length hx
   simp only [List.length_append] at hl
   rcases rest with _ | ⟨x, rest⟩
   ·skip
    refine Run.seq (Run.reg [.p] ?_)
    refine .P rfl (q_lss rfl rfl) <| .nil ?_
    refine Run.seq ?_
    refine Run.condF rfl (by simp at hl ⊢; omega) ?_
    refine Run.exit (tq_exit (bq_exit ?_))
    refine Run.seq (Run.reg [.p] ?_)
    refine .ag rfl rfl <| .nil ?_
    refine Run.ret (?_)
    exact ret1 rfl (Sub.bool (by first | exact (okPs_end hx hp hl0).symm | exact (okPs_bad hx (by grind)).symm | (simp [okPs]; omega)))
   ·simp only [List.length_cons] at hl
    refine Run.seq (Run.reg [.p] ?_)
    refine .P rfl (q_lss rfl rfl) <| .nil ?_
    refine Run.seq ?_
    refine Run.condT rfl (by simp; omega) ?_
    refine Run.skip ?_
    refine Run.seq ?_
    refine Run.block ?_
    refine Run.seq (Run.reg [.p, .p, .p, .w, .p, .w] ?_)
    refine .mv rfl rfl <| .P rfl (q_indexI Tryz.underlying27 Tryz.sizeOf39 rfl rfl (by omega) (idx_mid encPosted hx rfl)) <| .P rfl (q_loadIA Tryz.isAgg39 Tryz.sizeOf39 rfl rfl) <| .W rfl (q_alloc 0 Tryz.zeroValue39 rfl) <| .ag rfl rfl <| .W rfl (q_storeW Tryz.sizeOf39 rfl rfl rfl rfl rfl rfl) <| .nil ?_
    refine Run.seq (Run.regD [.r, .p, .p, .p, .p, .p, .p, .p, .r, .p, .p, .p, .p, .p, .p, .p, .p, .p] Tryz_mixed (by decide +kernel) ?_)
    refine .R rfl (q_loadW Tryz.isAgg39 Tryz.sizeOf39 rfl rfl rfl) <| .P rfl (q_call Tryz.call122 rfl (isPosted_ok x (hs x (by rw [hx]; simp)))) <| .P rfl (q_not rfl) <| .mv rfl rfl <| .gF rfl (.inl rfl) rfl rfl rfl (fun hg => pk (fun _ => q_move rfl _)) <| .gF rfl (.inl rfl) rfl rfl rfl (fun hg => pk (fun _ => q_gtr (opT rfl (nt hg)) rfl _)) <| .gF rfl (.inl rfl) rfl rfl rfl (fun hg => pk (fun _ => q_move (opT rfl (nt hg)) _)) ?_
    refine .nT rfl (.inl rfl) rfl rfl rfl (fun hc hg => pk (fun _ => q_fieldB (n := 0) 3 1 Tryz.underlying39 Tryz.sizeOf3 rfl rfl _)) ?_
    refine .nT rfl (.inr rfl) rfl rfl rfl (fun hc hg => rk (q_load1 Tryz.isAgg3 (opT rfl (bT hc hg)) rfl rfl)) ?_
    refine .nT rfl (.inl rfl) rfl rfl rfl (fun hc hg => pk (fun _ => q_move rfl _)) ?_
    refine .nT rfl (.inl rfl) rfl rfl rfl (fun hc hg => pk (fun _ => q_move rfl _)) ?_
    refine .nT rfl (.inl rfl) rfl rfl rfl (fun hc hg => pk (fun _ => q_sub (opT rfl (bT hc hg)) rfl (wrap64_ok (by first | omega | (simp; done) | (simp; omega) | (simp at *; omega)) (by first | omega | (simp; done) | (simp; omega) | (simp at *; omega))) _)) ?_
    refine .nT rfl (.inl rfl) rfl rfl rfl (fun hc hg => pk (fun _ => q_indexI Tryz.underlying27 Tryz.sizeOf39 (opT rfl (bT hc hg)) (opT rfl (bT hc hg)) (by simp at hg; omega) (idx_last encPosted hx (by simp at hg; omega) (by omega)) _)) ?_
    refine .nT rfl (.inl rfl) rfl rfl rfl (fun hc hg => pk (fun _ => q_fieldI (n := 0) 3 1 Tryz.underlying39 Tryz.sizeOf3 rfl (opT rfl (bT hc hg)) rfl _)) ?_
    refine .nT rfl (.inl rfl) rfl rfl rfl (fun hc hg => pk (fun _ => q_loadI Tryz.isAgg3 (opT rfl (bT hc hg)) _)) ?_
    refine .nT rfl (.inl rfl) rfl rfl rfl (fun hc hg => pk (fun _ => q_lss (opT rfl (bT hc hg)) (opT rfl (bT hc hg)) _)) ?_
    refine .gF rfl (.inl rfl) rfl rfl rfl (fun hg => pk (fun _ => q_and (opT rfl (nt hg)) (opA rfl (nt hg)) _)) <| .P rfl (q_or rfl rfl) <| .nil ?_
    refine Run.cond rfl (fun h2 => ?_) (fun h2 => ?_)
    ·have ph2 := h2
     try simp only [bs, bne_iff_ne, ne_eq, List.length_map] at ph2
     refine Run.seq (Run.reg [.p] ?_)
     refine .ag rfl rfl <| .nil ?_
     refine Run.ret (bq_ret (tq_ret (bq_ret (?_))))
     exact ret1 rfl (Sub.bool (by first | exact (okPs_end hx hp hl0).symm | exact (okPs_bad hx (by grind)).symm | (simp [okPs]; omega)))
    ·have ph2 := h2
     try simp only [bs, bne_iff_ne, ne_eq, List.length_map] at ph2
     refine Run.skip ?_
     refine Run.nil (bq_norm ?_)
     refine Run.reg [.p, .p] ?_
     refine .P rfl (q_add rfl rfl (wrap64_ok (by first | omega | (simp; done) | (simp; omega) | (simp at *; omega)) (by first | omega | (simp; done) | (simp; omega) | (simp at *; omega)))) <| .mv rfl rfl <| .nil ?_
     refine Run.nil (tq_norm ?_)
     exact ⟨⟨pre ++ [x], rest, by simp [hx], okPs_step hp (by grind) (by grind), hl0⟩, by simp, Le.mk rfl (.same rfl rfl (.same rfl rfl (.cons rfl Sub.intA rfl (.cons rfl Sub.intA rfl .nil)))) .nil⟩
structure trial50_ok_L0 (l : List Posted) (d : Int) where
 pre : List Posted
 rest : List Posted
 hx : l = pre ++ rest
theorem trial50_ok (l : List Posted) (d : Int) (hs : smallPs l) : Fc Tryz.prog 20 [sPosteds l, .i d] (.tup [sBals (if okPs l && validDay d then trialP d l else []), .i (if okPs l then if validDay d then 0 else 13 else 1)]) := by
 refine Fc.mk' [4, 5] Tryz.func20 rfl Tryz.ntmps20 rfl rfl rfl (fun t w => results_tmp2 Tryz.results20 t _ w) ?_
 refine Run.seq (Run.reg [.p, .p] ?_)
 refine .ag rfl rfl <| .ag rfl rfl <| .nil ?_
 refine Run.seq ?_
 refine Run.block ?_
 refine Run.seq (Run.reg [.p, .p, .p, .p] ?_)
 refine .mv rfl rfl <| .P rfl (q_call Tryz.call67 rfl (postList_ok _ (by first | assumption | omega | (simp at *; omega)))) <| .P rfl (q_not rfl) <| .ag rfl rfl <| .nil ?_
 refine Run.cond rfl (fun h1 => ?_) (fun h1 => ?_)
 ·have ph1 := h1
  try simp only [bs, bne_iff_ne, ne_eq, List.length_map] at ph1
  refine Run.seq (Run.reg [.p, .p] ?_)
  refine .ag rfl rfl <| .ag rfl rfl <| .nil ?_
  refine Run.ret (bq_ret (?_))
  exact ret2 rfl rfl (by exact (Sub.nil _ false).trans (Sub.snap (by simp_all))) (Sub.int (by first | (rw [show okPs l = false from by simpa using ph1]; rfl) | (rw [show okPs l = true from by simpa using ph1, show validDay d = false from by simpa using ph2]; rfl) | (have hv := upTo_valid (d := d) hok; have h2 : validDay d = true := (by simpa using ph2); have h3 : validDay 84005 = true := (by decide); simp only [hok, hv, h2, h3, trialP, Bool.and_self, if_true])))
 ·have ph1 := h1
  try simp only [bs, bne_iff_ne, ne_eq, List.length_map] at ph1
  have hok : okPs l = true := by simpa using ph1
  have hl1 : l.length ≤ 10000 := by have := hok; simp only [okPs, Bool.and_eq_true, decide_eq_true_eq] at this; exact this.1.1
  refine Run.seq (Run.reg [.p, .p, .p, .p] ?_)
  refine .mv rfl rfl <| .P rfl (q_call Tryz.call68 rfl (restValid_ok _)) <| .P rfl (q_not rfl) <| .ag rfl rfl <| .nil ?_
  refine Run.cond rfl (fun h2 => ?_) (fun h2 => ?_)
  ·have ph2 := h2
   try simp only [bs, bne_iff_ne, ne_eq, List.length_map] at ph2
   refine Run.seq (Run.reg [.p, .p] ?_)
   refine .ag rfl rfl <| .ag rfl rfl <| .nil ?_
   refine Run.ret (bq_ret (?_))
   exact ret2 rfl rfl (by exact (Sub.nil _ false).trans (Sub.snap (by simp_all))) (Sub.int (by first | (rw [show okPs l = false from by simpa using ph1]; rfl) | (rw [show okPs l = true from by simpa using ph1, show validDay d = false from by simpa using ph2]; rfl) | (have hv := upTo_valid (d := d) hok; have h2 : validDay d = true := (by simpa using ph2); have h3 : validDay 84005 = true := (by decide); simp only [hok, hv, h2, h3, trialP, Bool.and_self, if_true])))
  ·have ph2 := h2
   try simp only [bs, bne_iff_ne, ne_eq, List.length_map] at ph2
   refine Run.skip ?_
   refine Run.nil (bq_norm ?_)
   refine Run.seq (Run.reg [.p] ?_)
   refine .ag rfl rfl <| .nil ?_
   refine Run.seq (Run.seq (Run.reg [.p, .p, .p] ?_))
   refine .mv rfl rfl <| .P rfl (q_lenI Tryz.underlying27 rfl) <| .mv rfl rfl <| .nil ?_
   refine Run.block ?_
   refine Run.loop (ι := trial50_ok_L0 l d) (fun sx => [(1, .i d), (6, .gs 0 (upTo d sx.pre).length), (17, sPosteds l), (18, .i l.length), (19, .i sx.pre.length)]) (fun sx => [(0, .arr 3 ((upTo d sx.pre).map encEntry))]) (fun sx => sx.rest.length) ⟨[], l, rfl⟩ ?_ ?_
   ·exact (Le.own0 0 3).trans <| Le.mk rfl (.cons rfl Sub.intA rfl (.cons rfl (Sub.gsNil _) rfl (.same rfl rfl (.cons rfl Sub.intA rfl (.cons rfl Sub.intA rfl .nil))))) (.arr rfl (by first | rfl | (rw [upTo_snoc, if_pos (by simpa using ph3)]; simp) | (rw [upTo_snoc, if_neg (by simpa using ph3)]; simp)) .nil)
   ·rintro ⟨pre, rest, hx⟩
    show Run _ _ _ _ [(1, .i d), (6, .gs 0 (upTo d pre).length), (17, sPosteds l), (18, .i l.length), (19, .i pre.length)] [(0, .arr 3 ((upTo d pre).map encEntry))]
    have hl := congrArg List.length hx
    simp only [List.length_append] at hl
    have hul := upTo_len d pre
    rcases rest with _ | ⟨x, rest⟩
    ·have hpre : pre = l := by simp [hx]
     subst hpre
     refine Run.seq (Run.reg [.p] ?_)
     refine .P rfl (q_lss rfl rfl) <| .nil ?_
     refine Run.seq ?_
     refine Run.condF rfl (by simp) ?_
     refine Run.exit (tq_exit (bq_exit ?_))
     refine Run.weak (Le.freeze 6 0 rfl rfl (by simp)) ?_
     refine Run.seq (Run.reg [.p, .p, .p, .p, .p, .p] ?_)
     refine .mv rfl rfl <| .P rfl (q_call Tryz.call22 rfl (ledgerTrial_ok (upTo d pre) 84005 (fun e he => by obtain ⟨p, hp, rfl⟩ := upTo_mem he; exact hs p hp) (by omega))) <| .P rfl (q_extract rfl rfl) <| .P rfl (q_extract rfl rfl) <| .ag rfl rfl <| .ag rfl rfl <| .nil ?_
     refine Run.ret (?_)
     exact ret2 rfl rfl (Sub.snap (by first | (rw [show okPs l = false from by simpa using ph1]; rfl) | (rw [show okPs l = true from by simpa using ph1, show validDay d = false from by simpa using ph2]; rfl) | (have hv := upTo_valid (d := d) hok; have h2 : validDay d = true := (by simpa using ph2); have h3 : validDay 84005 = true := (by decide); simp only [hok, hv, h2, h3, trialP, Bool.and_self, if_true]))) (Sub.int (by first | (rw [show okPs l = false from by simpa using ph1]; rfl) | (rw [show okPs l = true from by simpa using ph1, show validDay d = false from by simpa using ph2]; rfl) | (have hv := upTo_valid (d := d) hok; have h2 : validDay d = true := (by simpa using ph2); have h3 : validDay 84005 = true := (by decide); simp only [hok, hv, h2, h3, trialP, Bool.and_self, if_true])))
    ·simp only [List.length_cons] at hl
     refine Run.seq (Run.reg [.p] ?_)
     refine .P rfl (q_lss rfl rfl) <| .nil ?_
     refine Run.seq ?_
     refine Run.condT rfl (by simp; omega) ?_
     refine Run.skip ?_
     refine Run.seq ?_
     refine Run.block ?_
     refine Run.seq (Run.reg [.p, .p, .w, .w] ?_)
     refine .P rfl (q_indexI Tryz.underlying27 Tryz.sizeOf39 rfl rfl (by omega) (idx_mid encPosted hx rfl)) <| .P rfl (q_loadIA Tryz.isAgg39 Tryz.sizeOf39 rfl rfl) <| .W rfl (q_alloc 1 Tryz.zeroValue39 rfl) <| .W rfl (q_storeW Tryz.sizeOf39 rfl rfl rfl rfl rfl rfl) <| .nil ?_
     refine Run.seq (Run.reg [.p, .r, .p, .p] ?_)
     refine .P rfl (q_fieldB (n := 0) 34 0 Tryz.underlying39 Tryz.sizeOf34 rfl rfl) <| .R rfl (q_load1 Tryz.isAgg34 rfl rfl rfl) <| .mv rfl rfl <| .P rfl (q_leq rfl rfl) <| .nil ?_
     refine Run.cond rfl (fun h3 => ?_) (fun h3 => ?_)
     ·have ph3 := h3
      try simp only [bs, bne_iff_ne, ne_eq, List.length_map] at ph3
      refine Run.reg [.p, .p, .r, .p, .w, .p] ?_
      refine .mv rfl rfl <| .P rfl (q_fieldB (n := 2) 37 3 Tryz.underlying39 Tryz.sizeOf37 rfl rfl) <| .R rfl (q_loadA Tryz.isAgg37 Tryz.sizeOf37 rfl rfl (by simp) rfl) <| .P rfl (q_buildSlice' (n := 1) (rows := [encEntry x.entry]) Tryz.underlying22 Tryz.sizeOf37 rfl rfl rfl Tryz.zeroValue37 rfl rfl rfl rfl rfl rfl rfl) <| .W rfl (q_append 2 Tryz.underlying22 Tryz.underlying22 Tryz.sizeOf37 Tryz.typeInfo37 Tryz.zeroValue37 rfl (bt := 48) rfl rfl rfl rfl (by simp) rfl rfl (by simp; omega)) <| .ag rfl rfl <| .nil ?_
      refine Run.nil (bq_norm ?_)
      refine Run.reg [.p, .p] ?_
      refine .P rfl (q_add rfl rfl (wrap64_ok (by first | omega | (simp; done) | (simp; omega) | (simp at *; omega)) (by first | omega | (simp; done) | (simp; omega) | (simp at *; omega)))) <| .mv rfl rfl <| .nil ?_
      refine Run.nil (tq_norm ?_)
      exact ⟨⟨pre ++ [x], rest, by simp [hx]⟩, by simp, (Le.mk (obs' := [(2, _)]) rfl (show EnvLe _ _ [(1, _), (6, _), (17, _), (18, _), (19, _)] from (.same rfl rfl (.same rfl rfl (.same rfl rfl (.same rfl rfl (.same rfl rfl .nil)))))) (.cons (i := 2) rfl rfl .nil)).trans <| (Le.ren 6 2 0 rfl rfl (by simp) rfl).trans <| Le.mk rfl (.cons rfl Sub.intA rfl (.cons rfl (Sub.gs (by first | rfl | (rw [upTo_snoc, if_pos (by simpa using ph3)]; simp; done) | (rw [upTo_snoc, if_neg (by simpa using ph3)]; simp))) rfl (.same rfl rfl (.cons rfl Sub.intA rfl (.cons rfl Sub.intA rfl .nil))))) (.arr rfl (by first | rfl | (rw [upTo_snoc, if_pos (by simpa using ph3)]; simp) | (rw [upTo_snoc, if_neg (by simpa using ph3)]; simp)) .nil)⟩
     ·have ph3 := h3
      try simp only [bs, bne_iff_ne, ne_eq, List.length_map] at ph3
      refine Run.skip ?_
      refine Run.nil (bq_norm ?_)
      refine Run.reg [.p, .p] ?_
      refine .P rfl (q_add rfl rfl (wrap64_ok (by first | omega | (simp; done) | (simp; omega) | (simp at *; omega)) (by first | omega | (simp; done) | (simp; omega) | (simp at *; omega)))) <| .mv rfl rfl <| .nil ?_
      refine Run.nil (tq_norm ?_)
      exact ⟨⟨pre ++ [x], rest, by simp [hx]⟩, by simp, Le.mk rfl (.cons rfl Sub.intA rfl (.cons rfl (Sub.gs (by first | rfl | (rw [upTo_snoc, if_pos (by simpa using ph3)]; simp; done) | (rw [upTo_snoc, if_neg (by simpa using ph3)]; simp))) rfl (.same rfl rfl (.cons rfl Sub.intA rfl (.cons rfl Sub.intA rfl .nil))))) (.arr rfl (by first | rfl | (rw [upTo_snoc, if_pos (by simpa using ph3)]; simp) | (rw [upTo_snoc, if_neg (by simpa using ph3)]; simp)) .nil)⟩
theorem IsBal.last {l pre rest : List Balance} {x : Balance} (h : IsBal l) (hx : l = pre ++ x :: rest) (h0 : 0 < pre.length) : klt (bkey (pre.getLastD default)) (bkey x) = true := by
 subst hx
 have h1 := (List.pairwise_append.1 h.sorted).2.2
 refine h1 _ ?_ x (by simp)
 cases pre with
 | nil => simp at h0
 | cons a l => rw [List.getLastD_cons]; exact List.getLastD_mem_cons
end Go.T
namespace Go.T
open Go Go.Proofs
theorem okP_days {p : Posted} (h : okP p = true) : p.day ≤ 84005 ∧ p.entry.day ≤ 84005 := by
  obtain ⟨_, h2, h3, _⟩ := okP_parts h
  simp only [validDay, Bool.and_eq_true, decide_eq_true_eq] at h2
  omega
theorem sumE_nil_day {L : List Entry} (h : ∀ e ∈ L, e.day ≤ 84005) : L.filter (fun e => decide (e.day ≤ 84005)) = L := List.filter_eq_self.2 fun e he => by simpa using h e he
/-- The balances of a list of posted entries up to a day. -/
theorem trialP_bal {L : List Posted} (d : Int) (h : okPs L = true) : IsBal (trialP d L) ∧ ∀ k, balK k (trialP d L) = sumE k (upTo d L) := by
  have h1 := trialB_bal 84005 (upTo d L)
  refine ⟨h1.1, fun k => ?_⟩
  rw [trialP, h1.2, sumE_nil_day]
  intro e he
  obtain ⟨p, hp, rfl⟩ := upTo_mem he
  exact (okP_days (okPs_mem h p hp)).2
theorem trialP_ok {L : List Posted} (d : Int) (h : okPs L = true) (hs : smallPs L) (hl : L.length ≤ 1000) : BalOK (trialP d L) := by
  refine trialB_ok (fun e he => ?_) (Nat.le_trans (upTo_len d L) hl)
  obtain ⟨p, hp, rfl⟩ := upTo_mem he
  exact ⟨hs p hp, (okP_parts (okPs_mem h p hp)).1⟩
theorem upTo_max {L : List Posted} (h : okPs L = true) : upTo 84005 L = L.map (·.entry) := by
  unfold upTo
  rw [List.filter_eq_self.2 fun p hp => by simpa using (okP_days (okPs_mem h p hp)).1]
/-- All that RestateSteps says, in plain words. -/
structure StepsOK (a b : List Entry) (l : List Close) (n : Int) : Prop where
  c : posts a a l n = []
  len : (posts a b l n).length = (posts b a l n).length
  oks : okPs (posts a b l n ++ posts b a l n) = true
  smalls : smallPs (posts a b l n ++ posts b a l n)
  ok1 : okPs (posts a b l n) = true
  small1 : smallPs (posts a b l n)
  sum : trialP 84005 (posts a b l n ++ posts b a l n) = []
  va : validE a = true
  vb : validE b = true
  oka : BalOK (trialB 84005 a)
  okb : BalOK (trialB 84005 b)
  dif : trialP 84005 (posts a b l n) = minusB (trialB 84005 b) (trialB 84005 a)
end Go.T
namespace Go.T
open Go Go.Proofs
set_option maxRecDepth 20000
end Go.T
namespace Go.T
open Go Go.Proofs
def great50 (l : List Posted) : Bool := l.any (fun p => greatOne p.entry || decide (60 < p.by_.length)) || decide (16 < l.length)
theorem greatOne_small {e : Entry} (h : greatOne e = false) : smallE e := by
  simp only [greatOne, Bool.or_eq_false_iff, Bool.and_eq_false_iff, decide_eq_false_iff_not] at h
  refine ⟨by omega, by omega, fun x hx => ?_⟩
  have h3 := List.any_eq_false.1 h.2 x hx
  simp only [greatLine, Bool.or_eq_true, decide_eq_true_eq, not_or] at h3
  exact ⟨by omega, by omega, by omega⟩
theorem great50_small {l : List Posted} (h : great50 l = false) : smallPs l ∧ l.length ≤ 16 := by
  simp only [great50, Bool.or_eq_false_iff, decide_eq_false_iff_not] at h
  refine ⟨fun p hp => ?_, by omega⟩
  have := List.any_eq_false.1 h.1 p hp
  simp only [Bool.or_eq_true, not_or, Bool.not_eq_true] at this
  exact greatOne_small this.1
theorem great50_T {l pre rest : List Posted} {x : Posted} (hx : l = pre ++ x :: rest) (h : (greatOne x.entry || decide (60 < x.by_.length)) = true) : great50 l = true := by
  subst hx; simp [great50, List.any_append, h]
theorem great50_end {l pre : List Posted} (hx : l = pre ++ []) (h : pre.any (fun p => greatOne p.entry || decide (60 < p.by_.length)) = false) : great50 l = decide (16 < l.length) := by
  simp only [List.append_nil] at hx
  subst hx; simp [great50, h]
/-! Sums of a currency. -/
theorem val_nil : val [] = 0 := rfl
/-! Between two days. -/
end Go.T
namespace Go.T
open Go Go.Proofs
end Go.T
namespace Go.T
open Go Go.Proofs
set_option maxRecDepth 20000
structure great50_ok_L0 (l : List Posted) where
 pre : List Posted
 rest : List Posted
 hx : l = pre ++ rest
 hp : pre.any (fun p => greatOne p.entry || decide (60 < p.by_.length)) = false
theorem great50_ok (l : List Posted) : Fc Tryz.prog 25 [sPosteds l] (.b (great50 l)) := by
 refine Fc.mk' [2] Tryz.func25 rfl Tryz.ntmps25 rfl rfl rfl (fun t w => results_tmp Tryz.results25 t _ w) ?_
 refine Run.bSnap 0 rfl (fun hb => ?_)
 simp only [List.length_map, big] at hb
 refine Run.seq (Run.reg [.p] ?_)
 refine .ag rfl rfl <| .nil ?_
 refine Run.seq (Run.seq (Run.reg [.p] ?_))
 refine .ag rfl rfl <| .nil ?_
 refine Run.block ?_
 refine Run.loop (ι := great50_ok_L0 l) (fun sx => [(0, sPosteds l), (3, .i sx.pre.length)]) (fun sx => []) (fun sx => sx.rest.length) ⟨[], l, rfl, rfl⟩ ?_ ?_
 ·exact Le.mk rfl (.same rfl rfl (.cons rfl Sub.intA rfl .nil)) .nil
 ·rintro ⟨pre, rest, hx, hp⟩
  show Run _ _ _ _ [(0, sPosteds l), (3, .i pre.length)] []
  have hl := congrArg List.length hx
  simp only [List.length_append] at hl
  rcases rest with _ | ⟨x, rest⟩
  ·skip
   refine Run.seq (Run.seq (Run.reg [.p, .p, .p, .p] ?_))
   refine .mv rfl rfl <| .mv rfl rfl <| .P rfl (q_lenI Tryz.underlying27 rfl) <| .P rfl (q_lss rfl rfl) <| .nil ?_
   refine Run.condF rfl (by simp at hl ⊢; omega) ?_
   refine Run.exit (tq_exit (bq_exit ?_))
   refine Run.seq (Run.reg [.p, .p, .p, .p] ?_)
   refine .mv rfl rfl <| .P rfl (q_lenI Tryz.underlying27 rfl) <| .P rfl (q_gtr rfl rfl) <| .ag rfl rfl <| .nil ?_
   refine Run.ret (?_)
   exact ret1 rfl (Sub.bool (by first | exact (great50_T hx (by simp at *; grind)).symm | (rw [great50_end hx hp]; simp; omega)))
  ·simp only [List.length_cons] at hl
   refine Run.seq (Run.seq (Run.reg [.p, .p, .p, .p] ?_))
   refine .mv rfl rfl <| .mv rfl rfl <| .P rfl (q_lenI Tryz.underlying27 rfl) <| .P rfl (q_lss rfl rfl) <| .nil ?_
   refine Run.condT rfl (by simp; omega) ?_
   refine Run.skip ?_
   refine Run.seq ?_
   refine Run.block ?_
   refine Run.seq (Run.reg [.p, .p, .p, .p, .p, .p, .p, .p, .p, .p, .p, .p, .p, .p, .p] ?_)
   refine .mv rfl rfl <| .mv rfl rfl <| .P rfl (q_indexI Tryz.underlying27 Tryz.sizeOf39 rfl rfl (by omega) (idx_mid encPosted hx rfl)) <| .P rfl (q_fieldI (n := 2) 37 3 Tryz.underlying39 Tryz.sizeOf37 rfl rfl rfl) <| .P rfl (q_loadIA Tryz.isAgg37 Tryz.sizeOf37 rfl rfl) <| .P rfl (q_call Tryz.call41 rfl (greatOne_ok x.entry)) <| .mv rfl rfl <| .gF rfl (.inl rfl) rfl rfl rfl (fun hg => pk (fun _ => q_move rfl _)) <| .gF rfl (.inl rfl) rfl rfl rfl (fun hg => pk (fun _ => q_move rfl _)) <| .gF rfl (.inl rfl) rfl rfl rfl (fun hg => pk (fun _ => q_indexI Tryz.underlying27 Tryz.sizeOf39 (opT rfl (nt hg)) (opT rfl (nt hg)) (by omega) (idx_mid encPosted hx rfl) _)) <| .gF rfl (.inl rfl) rfl rfl rfl (fun hg => pk (fun _ => q_fieldI (n := 0) 9 2 Tryz.underlying39 Tryz.sizeOf9 rfl (opT rfl (nt hg)) rfl _)) <| .gF rfl (.inl rfl) rfl rfl rfl (fun hg => pk (fun _ => q_loadI Tryz.isAgg9 (opT rfl (nt hg)) _)) <| .gF rfl (.inl rfl) rfl rfl rfl (fun hg => pk (fun _ => q_lenS Tryz.underlying9 (opT rfl (nt hg)) _)) <| .gF rfl (.inl rfl) rfl rfl rfl (fun hg => pk (fun _ => q_gtr (opT rfl (nt hg)) rfl _)) <| .P rfl (q_or rfl rfl) <| .nil ?_
   refine Run.cond rfl (fun h1 => ?_) (fun h1 => ?_)
   ·have ph1 := h1
    try simp only [bs, bne_iff_ne, ne_eq, List.length_map] at ph1
    refine Run.seq (Run.reg [.p] ?_)
    refine .ag rfl rfl <| .nil ?_
    refine Run.ret (bq_ret (tq_ret (bq_ret (?_))))
    exact ret1 rfl (Sub.bool (by first | exact (great50_T hx (by simp at *; grind)).symm | (rw [great50_end hx hp]; simp; omega)))
   ·have ph1 := h1
    try simp only [bs, bne_iff_ne, ne_eq, List.length_map] at ph1
    refine Run.skip ?_
    refine Run.nil (bq_norm ?_)
    refine Run.reg [.p, .p, .p] ?_
    refine .mv rfl rfl <| .P rfl (q_add rfl rfl (wrap64_ok (by omega) (by omega))) <| .ag rfl rfl <| .nil ?_
    refine Run.nil (tq_norm ?_)
    exact ⟨⟨pre ++ [x], rest, by simp [hx], by simp at *; grind⟩, by simp, Le.mk rfl (.same rfl rfl (.cons rfl Sub.intA rfl .nil)) .nil⟩
theorem check06_ok (d : Int) : Fc Tryz.prog 88 [.i d] (.i (if validDay d then 0 else 13)) := by
 refine Fc.mk' [2] Tryz.func88 rfl Tryz.ntmps88 rfl rfl rfl (fun t w => results_tmp Tryz.results88 t _ w) ?_
 refine Run.seq (Run.reg [.p] ?_)
 refine .ag rfl rfl <| .nil ?_
 refine Run.seq (Run.seq (Run.reg [.p, .p, .p, .p, .p, .p] ?_))
 refine .mv rfl rfl <| .P rfl (q_lss rfl rfl) <| .mv rfl rfl <| .gF rfl (.inl rfl) rfl rfl rfl (fun hg => pk (fun _ => q_move rfl _)) <| .gF rfl (.inl rfl) rfl rfl rfl (fun hg => pk (fun _ => q_gtr (opT rfl (nt hg)) rfl _)) <| .P rfl (q_or rfl rfl) <| .nil ?_
 refine Run.cond rfl (fun h1 => ?_) (fun h1 => ?_)
 ·have ph1 := h1
  try simp only [bs, bne_iff_ne, ne_eq, List.length_map] at ph1
  refine Run.seq (Run.reg [.p] ?_)
  refine .ag rfl rfl <| .nil ?_
  refine Run.ret (?_)
  exact ret1 rfl (Sub.int (by grind [validDay]))
 ·have ph1 := h1
  try simp only [bs, bne_iff_ne, ne_eq, List.length_map] at ph1
  refine Run.skip ?_
  refine Run.seq (Run.reg [.p] ?_)
  refine .ag rfl rfl <| .nil ?_
  refine Run.ret (?_)
  exact ret1 rfl (Sub.int (by grind [validDay]))
theorem validP50_ok (p : Posted) (hs : smallE p.entry) : Fc Tryz.prog 77 [.agg (encPosted p)] (.b (okP p)) := by
 refine Fc.mk' [2] Tryz.func77 rfl Tryz.ntmps77 rfl rfl rfl (fun t w => results_tmp Tryz.results77 t _ w) ?_
 refine Run.seq (Run.reg [.w, .p] ?_)
 refine .W rfl (q_boxA 0 rfl rfl) <| .ag rfl rfl <| .nil ?_
 refine Run.seq (Run.reg [.p, .r, .p, .p, .p, .p, .r, .p, .p, .p, .p, .p, .r, .p, .p, .r, .p, .p, .p, .p, .r, .p, .p, .p, .p, .r, .p, .p, .p] ?_)
 refine .P rfl (q_fieldB (n := 2) 37 3 Tryz.underlying39 Tryz.sizeOf37 rfl rfl) <| .R rfl (q_loadA Tryz.isAgg37 Tryz.sizeOf37 rfl rfl (by simp) rfl) <| .P rfl (q_call Tryz.call56 rfl (check35_ok p.entry hs)) <| .P rfl (q_eql rfl rfl) <| .mv rfl rfl <| .gT rfl (.inl rfl) rfl rfl rfl (fun hg => pk (fun _ => q_fieldB (n := 0) 34 0 Tryz.underlying39 Tryz.sizeOf34 rfl rfl _)) <| .gT rfl (.inr rfl) rfl rfl rfl (fun hg => rk (q_load1 Tryz.isAgg34 (opT rfl hg) rfl rfl)) <| .gT rfl (.inl rfl) rfl rfl rfl (fun hg => pk (fun _ => q_call Tryz.call88 (opsC (opT rfl hg) (rfl)) (check06_ok _) _)) <| .gT rfl (.inl rfl) rfl rfl rfl (fun hg => pk (fun _ => q_eql (opT rfl hg) rfl _)) <| .P rfl (q_and rfl rfl) <| .mv rfl rfl <| .gT rfl (.inl rfl) rfl rfl rfl (fun hg => pk (fun _ => q_fieldB (n := 0) 34 0 Tryz.underlying39 Tryz.sizeOf34 rfl rfl _)) <| .gT rfl (.inr rfl) rfl rfl rfl (fun hg => rk (q_load1 Tryz.isAgg34 (opT rfl hg) rfl rfl)) <| .gT rfl (.inl rfl) rfl rfl rfl (fun hg => pk (fun _ => q_fieldB (n := 2) 37 3 Tryz.underlying39 Tryz.sizeOf37 rfl rfl _)) <| .gT rfl (.inl rfl) rfl rfl rfl (fun hg => pk (fun _ => q_fieldB (n := 0) 34 0 Tryz.underlying37 Tryz.sizeOf34 rfl (opT rfl hg) _)) <| .gT rfl (.inr rfl) rfl rfl rfl (fun hg => rk (q_load1 Tryz.isAgg34 (opT rfl hg) rfl rfl)) <| .gT rfl (.inl rfl) rfl rfl rfl (fun hg => pk (fun _ => q_geq (opT rfl hg) (opT rfl hg) _)) <| .P rfl (q_and rfl rfl) <| .mv rfl rfl <| .gT rfl (.inl rfl) rfl rfl rfl (fun hg => pk (fun _ => q_fieldB (n := 0) 3 1 Tryz.underlying39 Tryz.sizeOf3 rfl rfl _)) ?_
 refine .gT rfl (.inr rfl) rfl rfl rfl (fun hg => rk (q_load1 Tryz.isAgg3 (opT rfl hg) rfl rfl)) <| .gT rfl (.inl rfl) rfl rfl rfl (fun hg => pk (fun _ => q_geq (opT rfl hg) rfl _)) <| .P rfl (q_and rfl rfl) <| .mv rfl rfl <| .gT rfl (.inl rfl) rfl rfl rfl (fun hg => pk (fun _ => q_fieldB (n := 0) 9 2 Tryz.underlying39 Tryz.sizeOf9 rfl rfl _)) <| .gT rfl (.inr rfl) rfl rfl rfl (fun hg => rk (q_load1 Tryz.isAgg9 (opT rfl hg) rfl rfl)) <| .gT rfl (.inl rfl) rfl rfl rfl (fun hg => pk (fun _ => q_call Tryz.call50 (opsC (opT rfl hg) (rfl)) (name10_ok _) _)) <| .P rfl (q_and rfl rfl) <| .ag rfl rfl <| .nil ?_
 refine Run.ret (?_)
 exact ret1 rfl (Sub.bool (by cases hv : validDay p.day <;> simp [okP, Bool.and_assoc, hv] <;> grind))
structure check50_ok_L0 (l : List Posted) where
 pre : List Posted
 rest : List Posted
 hx : l = pre ++ rest
 hp : pre.all okP = true ∧ adjK pre = true
 hl0 : l.length ≤ 10000
theorem check50_ok (l : List Posted) (hs : smallPs l) : Fc Tryz.prog 26 [sPosteds l] (.i (if okPs l then 0 else 1)) := by
 refine Fc.mk' [2] Tryz.func26 rfl Tryz.ntmps26 rfl rfl rfl (fun t w => results_tmp Tryz.results26 t _ w) ?_
 refine Run.bSnap 0 rfl (fun hb => ?_)
 simp only [List.length_map, big] at hb
 refine Run.seq (Run.reg [.p] ?_)
 refine .ag rfl rfl <| .nil ?_
 refine Run.seq (Run.seq (Run.reg [.p, .p, .p] ?_))
 refine .mv rfl rfl <| .P rfl (q_lenI Tryz.underlying27 rfl) <| .P rfl (q_gtr rfl rfl) <| .nil ?_
 refine Run.cond rfl (fun h1 => ?_) (fun h1 => ?_)
 ·have ph1 := h1
  try simp only [bs, bne_iff_ne, ne_eq, List.length_map] at ph1
  refine Run.seq (Run.reg [.p] ?_)
  refine .ag rfl rfl <| .nil ?_
  refine Run.ret (?_)
  exact ret1 rfl (Sub.int (by first | (rw [okPs_end hx hp hl0]; rfl) | (rw [okPs_bad hx (by grind)]; rfl) | (rw [show okPs l = false by simp [okPs]; omega]; rfl)))
 ·have ph1 := h1
  try simp only [bs, bne_iff_ne, ne_eq, List.length_map] at ph1
  refine Run.skip ?_
  refine Run.seq (Run.seq (Run.reg [.p] ?_))
  refine .ag rfl rfl <| .nil ?_
  refine Run.block ?_
  refine Run.loop (ι := check50_ok_L0 l) (fun sx => [(0, sPosteds l), (3, .i sx.pre.length)]) (fun sx => []) (fun sx => sx.rest.length) ⟨[], l, rfl, ⟨rfl, rfl⟩, by simp at *; omega⟩ ?_ ?_
  ·exact Le.mk rfl (.same rfl rfl (.cons rfl Sub.intA rfl .nil)) .nil
  ·rintro ⟨pre, rest, hx, hp, hl0⟩
   show Run _ _ _ _ [(0, sPosteds l), (3, .i pre.length)] []
   have hl := congrArg List.length hx
   simp only [List.length_append] at hl
   rcases rest with _ | ⟨x, rest⟩
   ·skip
    refine Run.seq (Run.seq (Run.reg [.p, .p, .p, .p] ?_))
    refine .mv rfl rfl <| .mv rfl rfl <| .P rfl (q_lenI Tryz.underlying27 rfl) <| .P rfl (q_lss rfl rfl) <| .nil ?_
    refine Run.condF rfl (by simp at hl ⊢; omega) ?_
    refine Run.exit (tq_exit (bq_exit ?_))
    refine Run.seq (Run.reg [.p] ?_)
    refine .ag rfl rfl <| .nil ?_
    refine Run.ret (?_)
    exact ret1 rfl (Sub.int (by first | (rw [okPs_end hx hp hl0]; rfl) | (rw [okPs_bad hx (by grind)]; rfl) | (rw [show okPs l = false by simp [okPs]; omega]; rfl)))
   ·simp only [List.length_cons] at hl
    refine Run.seq (Run.seq (Run.reg [.p, .p, .p, .p] ?_))
    refine .mv rfl rfl <| .mv rfl rfl <| .P rfl (q_lenI Tryz.underlying27 rfl) <| .P rfl (q_lss rfl rfl) <| .nil ?_
    refine Run.condT rfl (by simp; omega) ?_
    refine Run.skip ?_
    refine Run.seq ?_
    refine Run.block ?_
    refine Run.seq (Run.regD [.p, .p, .p, .p, .p, .p, .p, .p, .p, .p, .p, .p, .p, .p, .p, .p, .p, .p, .p, .p, .p, .p, .p, .p] Tryz_mixed (by decide +kernel) ?_)
    refine .mv rfl rfl <| .mv rfl rfl <| .P rfl (q_indexI Tryz.underlying27 Tryz.sizeOf39 rfl rfl (by omega) (idx_mid encPosted hx rfl)) <| .P rfl (q_loadIA Tryz.isAgg39 Tryz.sizeOf39 rfl rfl) <| .P rfl (q_call Tryz.call77 rfl (validP50_ok x (hs x (by rw [hx]; simp)))) <| .P rfl (q_not rfl) <| .mv rfl rfl <| .gF rfl (.inl rfl) rfl rfl rfl (fun hg => pk (fun _ => q_move rfl _)) <| .gF rfl (.inl rfl) rfl rfl rfl (fun hg => pk (fun _ => q_gtr (opT rfl (nt hg)) rfl _)) <| .gF rfl (.inl rfl) rfl rfl rfl (fun hg => pk (fun _ => q_move (opT rfl (nt hg)) _)) ?_
    refine .nT rfl (.inl rfl) rfl rfl rfl (fun hc hg => pk (fun _ => q_move rfl _)) ?_
    refine .nT rfl (.inl rfl) rfl rfl rfl (fun hc hg => pk (fun _ => q_move rfl _)) ?_
    refine .nT rfl (.inl rfl) rfl rfl rfl (fun hc hg => pk (fun _ => q_indexI Tryz.underlying27 Tryz.sizeOf39 (opT rfl (bT hc hg)) (opT rfl (bT hc hg)) (by omega) (idx_mid encPosted hx rfl) _)) ?_
    refine .nT rfl (.inl rfl) rfl rfl rfl (fun hc hg => pk (fun _ => q_fieldI (n := 0) 3 1 Tryz.underlying39 Tryz.sizeOf3 rfl (opT rfl (bT hc hg)) rfl _)) ?_
    refine .nT rfl (.inl rfl) rfl rfl rfl (fun hc hg => pk (fun _ => q_loadI Tryz.isAgg3 (opT rfl (bT hc hg)) _)) ?_
    refine .nT rfl (.inl rfl) rfl rfl rfl (fun hc hg => pk (fun _ => q_move rfl _)) ?_
    refine .nT rfl (.inl rfl) rfl rfl rfl (fun hc hg => pk (fun _ => q_move rfl _)) ?_
    refine .nT rfl (.inl rfl) rfl rfl rfl (fun hc hg => pk (fun _ => q_sub (opT rfl (bT hc hg)) rfl (wrap64_ok (by first | omega | (simp; done) | (simp; omega) | (simp at *; omega)) (by first | omega | (simp; done) | (simp; omega) | (simp at *; omega))) _)) ?_
    refine .nT rfl (.inl rfl) rfl rfl rfl (fun hc hg => pk (fun _ => q_indexI Tryz.underlying27 Tryz.sizeOf39 (opT rfl (bT hc hg)) (opT rfl (bT hc hg)) (by simp at hg; omega) (idx_last encPosted hx (by simp at hg; omega) (by omega)) _)) ?_
    refine .nT rfl (.inl rfl) rfl rfl rfl (fun hc hg => pk (fun _ => q_fieldI (n := 0) 3 1 Tryz.underlying39 Tryz.sizeOf3 rfl (opT rfl (bT hc hg)) rfl _)) ?_
    refine .nT rfl (.inl rfl) rfl rfl rfl (fun hc hg => pk (fun _ => q_loadI Tryz.isAgg3 (opT rfl (bT hc hg)) _)) ?_
    refine .nT rfl (.inl rfl) rfl rfl rfl (fun hc hg => pk (fun _ => q_lss (opT rfl (bT hc hg)) (opT rfl (bT hc hg)) _)) ?_
    refine .gF rfl (.inl rfl) rfl rfl rfl (fun hg => pk (fun _ => q_and (opT rfl (nt hg)) (opA rfl (nt hg)) _)) <| .P rfl (q_or rfl rfl) <| .nil ?_
    refine Run.cond rfl (fun h2 => ?_) (fun h2 => ?_)
    ·have ph2 := h2
     try simp only [bs, bne_iff_ne, ne_eq, List.length_map] at ph2
     refine Run.seq (Run.reg [.p] ?_)
     refine .ag rfl rfl <| .nil ?_
     refine Run.ret (bq_ret (tq_ret (bq_ret (?_))))
     exact ret1 rfl (Sub.int (by first | (rw [okPs_end hx hp hl0]; rfl) | (rw [okPs_bad hx (by grind)]; rfl) | (rw [show okPs l = false by simp [okPs]; omega]; rfl)))
    ·have ph2 := h2
     try simp only [bs, bne_iff_ne, ne_eq, List.length_map] at ph2
     refine Run.skip ?_
     refine Run.nil (bq_norm ?_)
     refine Run.reg [.p, .p, .p] ?_
     refine .mv rfl rfl <| .P rfl (q_add rfl rfl (wrap64_ok (by first | omega | (simp; done) | (simp; omega) | (simp at *; omega)) (by first | omega | (simp; done) | (simp; omega) | (simp at *; omega)))) <| .ag rfl rfl <| .nil ?_
     refine Run.nil (tq_norm ?_)
     exact ⟨⟨pre ++ [x], rest, by simp [hx], okPs_step hp (by grind) (by grind), hl0⟩, by simp, Le.mk rfl (.same rfl rfl (.cons rfl Sub.intA rfl .nil)) .nil⟩
end Go.T
namespace Go.T
open Go Go.Proofs
end Go.T
namespace Go.T
open Go Go.Proofs
set_option maxRecDepth 20000
theorem trialD_ok (l : List Posted) (hs : smallPs l) (hok : okPs l = true) : Fc Tryz.prog 20 [sPosteds l, .i 84005] (.tup [sBals (trialP 84005 l), .i 0]) := by
 have := trial50_ok l 84005 hs
 rw [hok] at this
 exact this
end Go.T
namespace Go.T
open Go Go.Proofs Go.Shelf Go.RowKit Go.Lib Go.Sort
variable [Noise]
theorem putRow_one (W : World) (blk off : Nat) (d : Array (List UInt8)) : putRow encStr W blk off d = putRowK (fun s : List UInt8 => [encStr s]) 1 W blk off d := by
  unfold putRowK putRow
  congr 1
  funext c
  unfold putCells
  congr 1
  funext k x
  simp only [size_flatK, Nat.mul_one]
  by_cases h : off ≤ k ∧ k < off + d.size
  · rw [if_pos h, if_pos h, get_flatK _ _ _ _ (by omega)]
    simp [Nat.mod_one]
  · rw [if_neg h, if_neg h]
theorem holds_one {w : World} {blk off : Nat} {d : Array (List UInt8)} (h : HoldsK (fun s : List UInt8 => [encStr s]) 1 w blk off d) : Holds encStr w blk off d := by
  intro j hj
  have := h j (by simpa using hj)
  rw [get_flatK _ _ _ _ (by omega)] at this
  simpa [Nat.mod_one] using this
abbrev StrS := {s : Str // s.length ≤ big}
instance : Inhabited StrS := ⟨⟨[], by simp [big]⟩⟩
theorem elemStr : Elem 1 (fun x : StrS => [D.str x.1]) (fun x => [encStr x.1]) := by
  refine ⟨fun _ => rfl, fun _ => rfl, fun x v hv => ?_, fun x w O ρ vs h => ?_, fun x w O ρ => ?_⟩
  · simp only [List.mem_cons, List.not_mem_nil, or_false] at hv
    subst hv; rfl
  · simp only [Vs, V] at h
    obtain ⟨_, _, rfl, h1, rfl⟩ := h
    rw [h1.1]
  · simp only [Vs, V]
    exact ⟨_, _, rfl, ⟨rfl, x.2⟩, rfl⟩
theorem flatK_val (d : List StrS) : flatK (fun x : StrS => [encStr x.1]) 1 d.toArray = flatK (fun s : List UInt8 => [encStr s]) 1 (d.map Subtype.val).toArray := by
  apply Array.ext
  · simp
  · intro i h1 h2
    simp only [size_flatK, List.size_toArray] at h1
    have hi : i < d.length := by omega
    have e1 := get_flatK (fun x : StrS => [encStr x.1]) 1 d.toArray i (by simpa using h1)
    have e2 := get_flatK (fun s : List UInt8 => [encStr s]) 1 (d.map Subtype.val).toArray i (by simpa using h1)
    rw [getElem!_pos _ i (by simpa using h1)] at e1
    rw [getElem!_pos _ i (by simpa using h1)] at e2
    rw [e1, e2]
    simp [Nat.mod_one, hi]
theorem sortStr_FcO {P : Program} {r : Ren} (L : SlLaysM.n6 P r) (id : Nat) (l : List StrS) (hl : l.length < 4611686018427387904) (l2 : List StrS) (hl2 : l2.map Subtype.val = (l.map Subtype.val).mergeSort fun x y => decide (x ≤ y)) :
    FcO P (r.f 6) [.gs id l.length] [(id, .arr 1 (l.map fun x => [D.str x.1]))] (.tup []) [(id, .arr 1 (l2.map fun x => [D.str x.1]))] := ⟨fun w O ρ vals hok hgl hv => by
  have hlen : l2.length = l.length := by have := congrArg List.length hl2; simpa using this
  simp only [Vs, V] at hv
  obtain ⟨v1, us, rfl, h1, rfl⟩ := hv
  rcases h1 with ⟨hn, a, rfl⟩ | ⟨hn, loc, hloc, rfl⟩
  · obtain rfl : l = [] := List.length_eq_zero_iff.1 hn
    obtain rfl : l2 = [] := List.length_eq_zero_iff.1 hlen
    refine Calls.mono (AnyM.slices_Sort_string_none L a 0 w) ?_
    rintro e w' ⟨rfl, rfl⟩
    exact ⟨_, ρ, rfl, Tr.refl hok, by simp [V, Vs]⟩
  · have hget : Obs.get [(id, Ob.arr 1 (l.map fun x => [D.str x.1]))] id = some (.arr 1 (l.map fun x => [D.str x.1])) := by simp [Obs.get]
    have hlive : (Ob.arr 1 (l.map fun x : StrS => [D.str x.1])).live = true := by
      cases l with
      | nil => simp at hn
      | cons x l => rfl
    obtain ⟨l', h3, hnO, c, T, hb, hsz, hln, hvr⟩ := hok.own id _ hget hlive
    rw [hloc] at h3; cases h3
    have hH0 := holds_of_Vr elemStr hb hvr
    have hH : HoldsK (fun s : List UInt8 => [encStr s]) 1 w loc.b loc.off (l.map Subtype.val).toArray := by
      unfold HoldsK at *
      rw [← flatK_val]; exact hH0
    have hblk : loc.b < w.heap.size := (Array.getElem?_eq_some_iff.1 hb).1
    have key := AnyM.slices_Sort_string L loc.b loc.off loc.cap (l.map Subtype.val) w (holds_one hH) hblk (by simpa using hl)
    rw [List.length_map] at key
    refine Calls.mono key ?_
    rintro e w' ⟨rfl, n, os, rfl⟩
    have hworld : grow (putRow encStr (Sort.ahead w n) loc.b loc.off ((l.map Subtype.val).mergeSort fun x y => decide (x ≤ y)).toArray) os = sortWorldK (fun x : StrS => [encStr x.1]) 1 w loc.b loc.off n l2.toArray os := by
      rw [putRow_one, ← hl2]
      unfold sortWorldK putRowK
      rw [flatK_val]
    rw [hworld]
    have hheap : (sortWorldK (fun x : StrS => [encStr x.1]) 1 w loc.b loc.off n l2.toArray os).heap[loc.b]? = some (.cells (putCells _root_.id loc.off (flatK (fun x : StrS => [encStr x.1]) 1 l2.toArray) c) T (0, 0)) := by
      unfold sortWorldK putRowK putRow mapBlock Sort.grow Sort.ahead
      simp only
      rw [Array.getElem?_append_left (by simpa using hblk), Array.getElem?_modify, if_pos rfl, hb]; rfl
    have hsize : w.heap.size ≤ (sortWorldK (fun x : StrS => [encStr x.1]) 1 w loc.b loc.off n l2.toArray os).heap.size := size_sortWorldK_c _ 1 w loc.b loc.off n l2.toArray os
    have hH2 : HoldsK (fun x : StrS => [encStr x.1]) 1 (sortWorldK (fun x : StrS => [encStr x.1]) 1 w loc.b loc.off n l2.toArray os) loc.b loc.off l2.toArray := holdsK_sortWorldK_c _ 1 w loc.b loc.off l.toArray l2.toArray n os hH0 hblk (by simpa using hlen)
    have hown2 : ∀ b, Owned ρ [(id, Ob.arr 1 (l2.map fun x => [D.str x.1]))] b → Owned ρ [(id, Ob.arr 1 (l.map fun x => [D.str x.1]))] b := by
      rintro b ⟨i, o, q, g1, g2, g3, g4⟩
      obtain ⟨rfl, _⟩ := get_one g1
      exact ⟨_, _, q, hget, hlive, g3, g4⟩
    refine ⟨_, ρ, rfl, ⟨RhoLe.refl _, hsize, fun b hb1 hb2 => ?_, fun b hb1 => .inl (hown2 b hb1), ⟨fun b hb1 => Nat.lt_of_lt_of_le (hok.lt b hb1) hsize, fun i hi => ?_, fun i o g1 g2 => ?_, fun i j o o' q q' g1 g2 _ _ _ _ _ => ?_⟩, rfl, rfl, .inl ⟨rfl, Nat.le_add_right _ _⟩⟩, by simp [V, Vs]⟩
    · refine heap_sortWorld hb1 fun e => hb2 ?_
      exact ⟨id, _, loc, hget, hlive, hloc, e.symm⟩
    · exact hok.fresh i (get_none1 hi)
    · obtain ⟨rfl, rfl⟩ := get_one g1
      exact ⟨loc, hloc, hnO, _, T, hheap, by simpa [putCells] using hsz, by simpa [hlen] using hln, Vr_of_holds elemStr hH2⟩
    · exact (get_one g1).1.trans (get_one g2).1.symm⟩
end Go.T
namespace Go.T
open Go
variable [Noise]
@[reducible] def okStr (s : Str) : Prop := s.length ≤ big
theorem findNow_str (k : Str) : ∀ (es : List MapEntry) (ks : List Str) (i : Nat), es.map (·.key) = ks.map vStr → Instr.findNow .string (vStr k) es i = some ((findK k ks i).map fun j => (j, (es[j - i]?.map (·.val)).getD undef))
  | [], [], i, _ => by simp [Instr.findNow, findK]
  | [], _ :: _, i, h => by simp at h
  | _ :: _, [], i, h => by simp at h
  | e :: es, x :: ks, i, h => by
    simp only [List.map_cons, List.cons.injEq] at h
    have ih := findNow_str k es ks (i + 1) h.2
    simp only [Instr.findNow, h.1, Instr.sameNow, str_beq]
    by_cases hx : k = x
    · subst hx; simp [findK]
    · simp only [findK, hx, if_false, decide_false]
      rw [ih]
      cases hf : findK k ks (i + 1) with
      | none => rfl
      | some j =>
        have := findK_ge hf
        simp only [Option.map_some]
        rw [show j - i = (j - (i + 1)) + 1 by omega, List.getElem?_cons_succ]
theorem keyStr {P : Program} {kt : TypeId} (hu : P.underlying kt = some .string) : KeyT P kt D.str vStr okStr := by
  refine ⟨?_, ?_, ?_, ?_, ?_⟩
  · intro w O ρ k v h
    simp only [V] at h
    exact h
  · intro w O ρ k h
    simp only [V]
    exact ⟨trivial, h⟩
  · intro b k w _
    show (Instr.checkKey b (9999 + 1) kt _).run P w = _
    rw [Instr.checkKey]; simp [run_und hu]
  · intro k es ks w hes _ _
    have := findNow_str k es ks 0 hes
    simp only [Nat.sub_zero] at this
    simp [Instr.findKey, run_und hu, this]
  · intro k w
    simp [Instr.keyThatStays, Instr.sameBits, str_beq]
end Go.T
namespace Go.Proofs
open Go.Shelf Go.RowKit Go.Lib Go.Sort
set_option maxRecDepth 20000
def Tryz.sortStr_ren : Go.Shelf.Ren := ⟨fun | 6 => 139 | 8 => 152 | 9 => 187 | 19 => 202 | 20 => 203 | 21 => 236 | 22 => 237 | 23 => 238 | 24 => 239 | 25 => 240 | 26 => 241 | 27 => 242 | 28 => 243 | 29 => 244 | 31 => 248 | 32 => 249 | 36 => 275 | 37 => 276 | 38 => 277 | 39 => 169 | 41 => 288 | n => n, fun | 0 => 0 | 3 => 3 | 4 => 4 | 5 => 5 | 9 => 9 | 26 => 124 | 27 => 124 | 29 => 9 | 32 => 202 | 35 => 228 | 36 => 229 | 41 => 190 | 44 => 235 | 46 => 171 | 53 => 274 | 57 => 278 | 63 => 305 | 64 => 306 | n => n, fun | n => n⟩
theorem Tryz.sortStr : Go.Proofs.SlLaysM.n6 Tryz.prog Tryz.sortStr_ren := {
  mixed := by kernel_rfl
  f6 := ⟨Tryz.f139.name, by decide, Tryz.func139.trans (congrArg some (by kernel_rfl))⟩
  f8 := Tryz.func152.trans (congrArg some (by kernel_rfl))
  f9 := ⟨Tryz.f187.name, by decide, Tryz.func187.trans (congrArg some (by kernel_rfl))⟩
  f19 := Tryz.func202.trans (congrArg some (by kernel_rfl))
  f20 := Tryz.func203.trans (congrArg some (by kernel_rfl))
  f21 := ⟨Tryz.f236.name, by decide, Tryz.func236.trans (congrArg some (by kernel_rfl))⟩
  f22 := ⟨Tryz.f237.name, by decide, Tryz.func237.trans (congrArg some (by kernel_rfl))⟩
  f23 := ⟨Tryz.f238.name, by decide, Tryz.func238.trans (congrArg some (by kernel_rfl))⟩
  f24 := ⟨Tryz.f239.name, by decide, Tryz.func239.trans (congrArg some (by kernel_rfl))⟩
  f25 := ⟨Tryz.f240.name, by decide, Tryz.func240.trans (congrArg some (by kernel_rfl))⟩
  f26 := ⟨Tryz.f241.name, by decide, Tryz.func241.trans (congrArg some (by kernel_rfl))⟩
  f27 := ⟨Tryz.f242.name, by decide, Tryz.func242.trans (congrArg some (by kernel_rfl))⟩
  f28 := ⟨Tryz.f243.name, by decide, Tryz.func243.trans (congrArg some (by kernel_rfl))⟩
  f29 := ⟨Tryz.f244.name, by decide, Tryz.func244.trans (congrArg some (by kernel_rfl))⟩
  f31 := Tryz.func248.trans (congrArg some (by kernel_rfl))
  f32 := Tryz.func249.trans (congrArg some (by kernel_rfl))
  f36 := ⟨Tryz.f275.name, by decide, Tryz.func275.trans (congrArg some (by kernel_rfl))⟩
  f37 := ⟨Tryz.f276.name, by decide, Tryz.func276.trans (congrArg some (by kernel_rfl))⟩
  f38 := ⟨Tryz.f277.name, by decide, Tryz.func277.trans (congrArg some (by kernel_rfl))⟩
  f39 := ⟨Tryz.f169.name, by decide, Tryz.func169.trans (congrArg some (by kernel_rfl))⟩
  f41 := ⟨Tryz.f288.name, by decide, Tryz.func288.trans (congrArg some (by kernel_rfl))⟩
  t0 := Tryz.underlying0
  a0 := Tryz.isAgg0
  z0 := Tryz.sizeOf0
  v0 := Tryz.zeroValue0
  t3 := Tryz.underlying3
  a3 := Tryz.isAgg3
  z3 := Tryz.sizeOf3
  v3 := Tryz.zeroValue3
  t4 := Tryz.underlying4
  a4 := Tryz.isAgg4
  z4 := Tryz.sizeOf4
  v4 := Tryz.zeroValue4
  t5 := Tryz.underlying5
  a5 := Tryz.isAgg5
  z5 := Tryz.sizeOf5
  v5 := Tryz.zeroValue5
  t9 := Tryz.underlying9
  a9 := Tryz.isAgg9
  z9 := Tryz.sizeOf9
  v9 := Tryz.zeroValue9
  t26 := Tryz.underlying124
  a26 := Tryz.isAgg124
  z26 := Tryz.sizeOf124
  v26 := Tryz.zeroValue124
  t27 := Tryz.underlying124
  a27 := Tryz.isAgg124
  z27 := Tryz.sizeOf124
  v27 := Tryz.zeroValue124
  t29 := Tryz.underlying9
  a29 := Tryz.isAgg9
  z29 := Tryz.sizeOf9
  v29 := Tryz.zeroValue9
  t32 := Tryz.underlying202
  a32 := Tryz.isAgg202
  z32 := Tryz.sizeOf202
  v32 := Tryz.zeroValue202
  t35 := Tryz.underlying228
  a35 := Tryz.isAgg228
  z35 := Tryz.sizeOf228
  v35 := Tryz.zeroValue228
  t36 := Tryz.underlying229
  a36 := Tryz.isAgg229
  z36 := Tryz.sizeOf229
  v36 := Tryz.zeroValue229
  t41 := Tryz.underlying190
  a41 := Tryz.isAgg190
  z41 := Tryz.sizeOf190
  v41 := Tryz.zeroValue190
  t44 := Tryz.underlying235
  a44 := Tryz.isAgg235
  z44 := Tryz.sizeOf235
  v44 := Tryz.zeroValue235
  t46 := Tryz.underlying171
  a46 := Tryz.isAgg171
  z46 := Tryz.sizeOf171
  v46 := Tryz.zeroValue171
  t53 := Tryz.underlying274
  a53 := Tryz.isAgg274
  z53 := Tryz.sizeOf274
  v53 := Tryz.zeroValue274
  t57 := Tryz.underlying278
  a57 := Tryz.isAgg278
  z57 := Tryz.sizeOf278
  v57 := Tryz.zeroValue278
  t63 := Tryz.underlying305
  a63 := Tryz.isAgg305
  z63 := Tryz.sizeOf305
  v63 := Tryz.zeroValue305
  t64 := Tryz.underlying306
  a64 := Tryz.isAgg306
  z64 := Tryz.sizeOf306
  v64 := Tryz.zeroValue306
}
end Go.Proofs
namespace Go.T
open Go Go.Proofs
theorem strLt_iff : ∀ a b : Str, Str.lt a b = true ↔ a < b
  | [], [] => by simp [Str.lt, Op.bytesLess]
  | [], _ :: _ => by simp [Str.lt, Op.bytesLess]
  | _ :: _, [] => by simp [Str.lt, Op.bytesLess]
  | x :: a, y :: b => by
    rw [lt_cons, List.cons_lt_cons_iff]
    have ih := strLt_iff a b
    simp only [Bool.or_eq_true, Bool.and_eq_true, decide_eq_true_eq, ih]
    rfl
theorem strLe_iff (a b : Str) : decide (a ≤ b) = !Str.lt b a := by
  rw [Bool.eq_iff_iff]
  simp only [decide_eq_true_eq, Bool.not_eq_true', Bool.eq_false_iff, ne_eq, strLt_iff]
  exact (List.not_lt (l₁ := b) (l₂ := a)).symm
def sortS (l : List Str) : List Str := l.mergeSort fun x y => decide (x ≤ y)
theorem sortS_perm0 (l : List Str) : (sortS l).Perm l := List.mergeSort_perm l _
theorem lt_ntrans {x y z : Str} (h1 : Str.lt x y = false) (h2 : Str.lt y z = false) : Str.lt x z = false := by
  cases h : Str.lt x z with
  | false => rfl
  | true =>
    cases h3 : Str.lt y x with
    | true => have := lt_trans' _ _ _ h3 h; rw [h2] at this; cases this
    | false => have := lt_total _ _ h1 h3; subst this; rw [h2] at h; cases h
theorem sortS_sorted {l : List Str} (h : l.Nodup) : (sortS l).Pairwise fun a b => Str.lt a b = true := by
  have h1 := List.pairwise_mergeSort (le := fun x y : Str => decide (x ≤ y)) (fun a b c h1 h2 => by rw [strLe_iff, Bool.not_eq_true'] at *; exact lt_ntrans h2 h1) (fun a b => by rw [strLe_iff, strLe_iff]; cases hb : Str.lt b a with | false => rfl | true => simp [lt_asymm _ _ hb]) l
  have h2 : (sortS l).Nodup := (sortS_perm0 l).nodup_iff.2 h
  refine (h1.and h2).imp ?_
  rintro a b ⟨g1, g2⟩
  cases h3 : Str.lt a b with
  | true => rfl
  | false => rw [strLe_iff, Bool.not_eq_true'] at g1; exact absurd (lt_total _ _ h3 g1) g2
def emb (s : Str) : Key := (s, [])
theorem klt_emb (a b : Str) : klt (emb a) (emb b) = Str.lt a b := by simp [klt, emb, lt_irrefl]
theorem sortS_emb {l : List Str} (h : l.Nodup) : ((sortS l).map emb).Pairwise fun a b => klt a b = true := by
  rw [List.pairwise_map]
  exact (sortS_sorted h).imp fun {a b} hab => by rw [klt_emb]; exact hab
theorem sortS_perm {a b : List Str} (h : a.Perm b) (hb : b.Nodup) : sortS a = sortS b := by
  have h1 := sorted_ext (sortS_emb (h.nodup_iff.2 hb)) (sortS_emb hb) (((sortS_perm0 a).trans (h.trans (sortS_perm0 b).symm)).map emb)
  have h2 := congrArg (List.map Prod.fst) h1
  simpa [emb, Function.comp_def] using h2
/-! Terms. -/
@[reducible] def sTerms (l : List Term) : D := .snap 2 false (l.map encTerm)
def toB (t : Term) : Balance := ⟨t.name, [], t.amount⟩
def termK (ks : List Str) (g : Str → Str) : List Term := ks.filterMap fun s => if g s ≠ [] then some ⟨s, g s⟩ else none
theorem termK_snoc (ks : List Str) (g : Str → Str) (k : Str) : termK (ks ++ [k]) g = termK ks g ++ (if g k ≠ [] then [⟨k, g k⟩] else []) := by
  simp only [termK, List.filterMap_append, List.filterMap_cons, List.filterMap_nil]
  split <;> simp_all
theorem termK_len (ks : List Str) (g : Str → Str) : (termK ks g).length ≤ ks.length := List.length_filterMap_le _ _
theorem termK_toB (g : Str → Str) (g' : Key → Str) (h : ∀ s, g' (emb s) = g s) : ∀ ks : List Str, (termK ks g).map toB = listK (ks.map emb) g'
  | [] => rfl
  | k :: ks => by
    have ih := termK_toB g g' h ks
    by_cases e : g k = []
    · have e1 : termK (k :: ks) g = termK ks g := by simp [termK, List.filterMap_cons, e]
      have e2 : listK ((k :: ks).map emb) g' = listK (ks.map emb) g' := by simp [listK, List.filterMap_cons, h, e]
      rw [e1, e2, ih]
    · have e1 : termK (k :: ks) g = ⟨k, g k⟩ :: termK ks g := by simp [termK, List.filterMap_cons, e]
      have e2 : listK ((k :: ks).map emb) g' = ⟨k, [], g k⟩ :: listK (ks.map emb) g' := by
        have : g' (k, []) = g k := h k
        simp [listK, List.filterMap_cons, emb, this, e]
      rw [e1, e2, List.map_cons, ih]; rfl
def termsM (m : List (Str × Str)) : List Term := termK (sortS (m.map (·.1))) (getG [] m)
theorem termsM_bal {m : List (Str × Str)} {f : Str → Int} (h : MapV m f) : IsBal ((termsM m).map toB) ∧ ∀ k : Key, balK k ((termsM m).map toB) = if k.2 = [] then f k.1 else 0 := by
  have e : (termsM m).map toB = listK ((sortS (m.map (·.1))).map emb) (fun k => if k.2 = [] then getG [] m k.1 else []) := termK_toB _ _ (fun s => by simp [emb]) _
  rw [e]
  refine listK_bal (sortS_emb h.nodup) (fun k => if k.2 = [] then f k.1 else 0) _ (fun k => ?_) (fun k hk => ?_)
  · by_cases hk : k.2 = []
    · simp [hk, h.val]
    · simp [hk, ofInt_zero]
  · by_cases hk2 : k.2 = []
    · simp only [hk2, if_true]
      refine h.out fun hm => hk (List.mem_map.2 ⟨k.1, (sortS_perm0 _).symm.subset hm, Prod.ext rfl hk2.symm⟩)
    · simp [hk2]
/-! Explain. -/
def amtE (k : Key) (e : Entry) : Str := ofInt (sumK k e.lines)
def exM (k : Key) (l : List Posted) : List (Str × Str) := l.foldl (fun m p => addG m p.by_ (amtE k p.entry)) []
theorem exM_snoc (k : Key) (l : List Posted) (x : Posted) : exM k (l ++ [x]) = addG (exM k l) x.by_ (amtE k x.entry) := by simp [exM]
def sumBy (k : Key) (s : Str) : List Posted → Int
  | [] => 0
  | p :: l => (if p.by_ = s then sumK k p.entry.lines else 0) + sumBy k s l
theorem sumBy_snoc (k : Key) (s : Str) (l : List Posted) (x : Posted) : sumBy k s (l ++ [x]) = sumBy k s l + (if x.by_ = s then sumK k x.entry.lines else 0) := by
  induction l with
  | nil => simp [sumBy]
  | cons p l ih => simp only [List.cons_append, sumBy, ih]; omega
theorem exM_val (k : Key) (l : List Posted) : MapV (exM k l) (fun s => sumBy k s l) := by
  induction l using rev_ind with
  | h0 => exact ⟨List.nodup_nil, fun s => by simp [exM, getG, sumBy, ofInt_zero]⟩
  | h1 l x ih =>
    rw [exM_snoc]
    have := ih.add x.by_ (amtE k x.entry)
    refine ⟨this.nodup, fun s => ?_⟩
    rw [this.val, sumBy_snoc, amtE, val_ofInt]
theorem sumBy_bound {k : Key} {s : Str} {l : List Posted} (h : smallPs l) : -(l.length * 6600000000000000 : Int) ≤ sumBy k s l ∧ sumBy k s l ≤ l.length * 6600000000000000 := by
  induction l with
  | nil => simp [sumBy]
  | cons x l ih =>
    have h1 := ih (fun p hp => h p (List.mem_cons_of_mem _ hp))
    obtain ⟨_, g2, g3⟩ := h x List.mem_cons_self
    have h2 := sumK_bound (k := k) (ls := x.entry.lines) (fun y hy => (g3 y hy).2.2)
    simp only [sumBy, List.length_cons]
    split <;> omega
theorem exM_get {k : Key} {s : Str} {l : List Posted} (h : smallPs l) (hl : l.length ≤ 10000) : (getG [] (exM k l) s).length ≤ 31 := by
  refine (exM_val k l).len ?_
  have := sumBy_bound (k := k) (s := s) h
  constructor <;> omega
theorem amtE_len {k : Key} {e : Entry} (h : smallE e) : (amtE k e).length ≤ 31 := by
  obtain ⟨_, g2, g3⟩ := h
  have h2 := sumK_bound (k := k) (ls := e.lines) (fun y hy => (g3 y hy).2.2)
  exact ofInt_len30 (by constructor <;> omega)
theorem exM_keys {k : Key} {l : List Posted} {s : Str} (h : s ∈ (exM k l).map (·.1)) : ∃ p ∈ l, p.by_ = s := by
  induction l using rev_ind with
  | h0 => simp [exM] at h
  | h1 l x ih =>
    rw [exM_snoc, addG, keys_setG] at h
    have h' : s ∈ (exM k l).map (·.1) ∨ s = x.by_ := by
      split at h
      · exact .inl h
      · rcases List.mem_append.1 h with h | h
        · exact .inl h
        · simp at h; exact .inr h
    rcases h' with h' | h'
    · obtain ⟨p, h1, h2⟩ := ih h'; exact ⟨p, by simp [h1], h2⟩
    · exact ⟨x, by simp, h'.symm⟩
theorem exM_len (k : Key) (l : List Posted) : (exM k l).length ≤ l.length := by
  induction l using rev_ind with
  | h0 => simp [exM]
  | h1 l x ih =>
    have := setG_len ([] : Str) (exM k l) x.by_ (addS (getG [] (exM k l) x.by_) (amtE k x.entry))
    rw [exM_snoc, addG, List.length_append]
    split at this <;> simp <;> omega
/-! The sum of all terms. -/
def allS {κ : Type} : List (κ × Str) → Int
  | [] => 0
  | p :: m => val p.2 + allS m
theorem allS_setG {κ : Type} [DecidableEq κ] (k : κ) (v : Str) : ∀ m : List (κ × Str), allS (setG m k v) = allS m + (val v - val (getG [] m k))
  | [] => by simp [setG, allS, getG, val_nil]
  | (a, u) :: r => by
    by_cases h : k = a
    · subst h; simp only [setG, if_true, allS, getG]; omega
    · have ih := allS_setG k v r
      simp only [setG, if_neg h, allS, getG, ih]; omega
theorem allS_exM {k : Key} {l : List Posted} : allS (exM k l) = sumE k (l.map (·.entry)) := by
  induction l using rev_ind with
  | h0 => rfl
  | h1 l x ih =>
    rw [exM_snoc, addG, allS_setG, ih, List.map_append, sumE_append, addS, val_ofInt, amtE, val_ofInt]
    simp [sumE]; omega
def sumT : List Term → Int
  | [] => 0
  | t :: l => val t.amount + sumT l
theorem sumT_append (a b : List Term) : sumT (a ++ b) = sumT a + sumT b := by
  induction a with
  | nil => simp [sumT]
  | cons x a ih => simp only [List.cons_append, sumT, ih]; omega
def sumG (g : Str → Str) : List Str → Int
  | [] => 0
  | s :: l => val (g s) + sumG g l
theorem sumG_perm {g : Str → Str} {a b : List Str} (h : a.Perm b) : sumG g a = sumG g b := by
  induction h with
  | nil => rfl
  | cons _ _ ih => simp [sumG, ih]
  | swap => simp only [sumG]; omega
  | trans _ _ h1 h2 => rw [h1, h2]
theorem sumT_termK (g : Str → Str) : ∀ ks : List Str, sumT (termK ks g) = sumG g ks
  | [] => rfl
  | k :: ks => by
    have ih := sumT_termK g ks
    by_cases e : g k = []
    · have e1 : termK (k :: ks) g = termK ks g := by simp [termK, List.filterMap_cons, e]
      rw [e1, ih]; simp [sumG, e, val_nil]
    · have e1 : termK (k :: ks) g = ⟨k, g k⟩ :: termK ks g := by simp [termK, List.filterMap_cons, e]
      rw [e1]; simp only [sumT, sumG, ih]
theorem sumG_congr {g g' : Str → Str} : ∀ {ks : List Str}, (∀ k ∈ ks, g k = g' k) → sumG g ks = sumG g' ks
  | [], _ => rfl
  | k :: ks, h => by simp only [sumG]; rw [h k List.mem_cons_self, sumG_congr fun q hq => h q (List.mem_cons_of_mem _ hq)]
theorem sumG_map : ∀ m : List (Str × Str), (m.map (·.1)).Nodup → sumG (getG [] m) (m.map (·.1)) = allS m
  | [], _ => rfl
  | (a, u) :: r, h => by
    simp only [List.map_cons, List.nodup_cons] at h
    simp only [List.map_cons, sumG, allS]
    rw [sumG_congr (g' := getG [] r) (ks := r.map (·.1)), sumG_map r h.2]
    · simp [getG]
    · intro k hk
      have : k ≠ a := by rintro rfl; exact h.1 hk
      simp [getG, this]
/-- The terms of an account. -/
def explainT (k : Key) (l : List Posted) : List Term := termsM (exM k l)
theorem explainT_sum (k : Key) (l : List Posted) : sumT (explainT k l) = sumE k (l.map (·.entry)) := by
  unfold explainT termsM
  rw [sumT_termK, sumG_perm (sortS_perm0 _), sumG_map _ (exM_val k l).nodup, allS_exM]
theorem termK_mem {ks : List Str} {g : Str → Str} {t : Term} (h : t ∈ termK ks g) : t.name ∈ ks ∧ t.amount = g t.name ∧ t.amount ≠ [] := by
  unfold termK at h
  obtain ⟨k, hk, h2⟩ := List.mem_filterMap.1 h
  split at h2
  · rename_i hne; cases h2; exact ⟨hk, rfl, hne⟩
  · cases h2
structure TermOK (l : List Posted) (t : Term) : Prop where
  ne : t.amount ≠ []
  nm : ∃ p ∈ l, p.by_ = t.name
  len : t.amount.length ≤ 31
theorem explainT_mem {k : Key} {l : List Posted} (hs : smallPs l) (hl : l.length ≤ 10000) : ∀ t ∈ explainT k l, TermOK l t := by
  intro t ht
  obtain ⟨h1, h2, h3⟩ := termK_mem ht
  refine ⟨h3, exM_keys ((sortS_perm0 _).subset h1), by rw [h2]; exact exM_get hs hl⟩
theorem explainT_sorted (k : Key) (l : List Posted) : (explainT k l).Pairwise fun a b => Str.lt a.name b.name = true := by
  have h := (termsM_bal (exM_val k l)).1.sorted
  rw [List.pairwise_map] at h
  refine h.imp fun {a b} hab => ?_
  have : klt (emb a.name) (emb b.name) = true := hab
  rwa [klt_emb] at this
theorem explainT_len (k : Key) (l : List Posted) : (explainT k l).length ≤ l.length := by
  have h1 := termK_len (sortS ((exM k l).map (·.1))) (getG [] (exM k l))
  rw [(sortS_perm0 _).length_eq, List.length_map] at h1
  exact Nat.le_trans h1 (exM_len k l)
theorem sumT_bound {l : List Term} (h : ∀ t ∈ l, t.amount.length ≤ 31) : -(l.length * 10000000000000000000000000000000 : Int) ≤ sumT l ∧ sumT l ≤ l.length * 10000000000000000000000000000000 := by
  induction l with
  | nil => simp [sumT]
  | cons x l ih =>
    have h1 := ih fun t ht => h t (List.mem_cons_of_mem _ ht)
    have h2 := val_bd x.amount
    have h3 : (10 ^ x.amount.length : Nat) ≤ 10 ^ 31 := Nat.pow_le_pow_right (by omega) (h x List.mem_cons_self)
    simp only [sumT, List.length_cons]
    omega
end Go.T
