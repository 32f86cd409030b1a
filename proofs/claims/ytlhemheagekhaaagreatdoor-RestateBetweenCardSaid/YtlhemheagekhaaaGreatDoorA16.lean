/-
  Contracts of the functions that the statement reaches, and the logic in which they are proved (no condition): parts W60, Law9, W61, Bal5, Bal6, W62, Bal7.
-/
import Derived.Test.YtlhemheagekhaaaGreatDoorA15
set_option linter.all false
namespace Go.T
open Go Go.Proofs
set_option maxRecDepth 20000
theorem restValid_ok (d : Int) : Fc Tryz.prog 68 [.i d] (.b (validDay d)) := by
 refine Fc.mk' [2] Tryz.func68 rfl Tryz.ntmps68 rfl rfl rfl (fun t w => results_tmp Tryz.results68 t _ w) ?_
 refine Run.seq (Run.reg [.p] ?_)
 refine .ag rfl rfl <| .nil ?_
 refine Run.seq (Run.reg [.p, .p, .p, .p, .p, .p, .p] ?_)
 refine .mv rfl rfl <| .P rfl (q_geq rfl rfl) <| .mv rfl rfl <| .gT rfl (.inl rfl) rfl rfl rfl (fun hg => pk (fun _ => q_move rfl _)) <| .gT rfl (.inl rfl) rfl rfl rfl (fun hg => pk (fun _ => q_leq (opT rfl hg) rfl _)) <| .P rfl (q_and rfl rfl) <| .ag rfl rfl <| .nil ?_
 refine Run.ret (?_)
 exact ret1 rfl (Sub.bool (by rfl))
theorem isPosted_ok (p : Posted) (hs : smallE p.entry) : Fc Tryz.prog 122 [.agg (encPosted p)] (.b (okP p)) := by
 refine Fc.mk' [2] Tryz.func122 rfl Tryz.ntmps122 rfl rfl rfl (fun t w => results_tmp Tryz.results122 t _ w) ?_
 refine Run.seq (Run.reg [.w, .p] ?_)
 refine .W rfl (q_boxA 0 rfl rfl) <| .ag rfl rfl <| .nil ?_
 refine Run.seq (Run.reg [.p, .r, .p, .p, .p, .p, .r, .p, .p, .p, .p, .r, .p, .p, .r, .p, .p, .p, .p, .r, .p, .p, .p, .p, .r, .p, .p, .p] ?_)
 refine .P rfl (q_fieldB (n := 2) 37 3 Tryz.underlying39 Tryz.sizeOf37 rfl rfl) <| .R rfl (q_loadA Tryz.isAgg37 Tryz.sizeOf37 rfl rfl (by simp) rfl) <| .P rfl (q_call Tryz.call18 rfl (check_ok p.entry hs)) <| .P rfl (q_eql rfl rfl) <| .mv rfl rfl <| .gT rfl (.inl rfl) rfl rfl rfl (fun hg => pk (fun _ => q_fieldB (n := 0) 34 0 Tryz.underlying39 Tryz.sizeOf34 rfl rfl _)) <| .gT rfl (.inr rfl) rfl rfl rfl (fun hg => rk (q_load1 Tryz.isAgg34 (opT rfl hg) rfl rfl)) <| .gT rfl (.inl rfl) rfl rfl rfl (fun hg => pk (fun _ => q_call Tryz.call68 (opsC (opT rfl hg) (rfl)) (restValid_ok _) _)) <| .P rfl (q_and rfl rfl) <| .mv rfl rfl <| .gT rfl (.inl rfl) rfl rfl rfl (fun hg => pk (fun _ => q_fieldB (n := 0) 34 0 Tryz.underlying39 Tryz.sizeOf34 rfl rfl _)) <| .gT rfl (.inr rfl) rfl rfl rfl (fun hg => rk (q_load1 Tryz.isAgg34 (opT rfl hg) rfl rfl)) <| .gT rfl (.inl rfl) rfl rfl rfl (fun hg => pk (fun _ => q_fieldB (n := 2) 37 3 Tryz.underlying39 Tryz.sizeOf37 rfl rfl _)) <| .gT rfl (.inl rfl) rfl rfl rfl (fun hg => pk (fun _ => q_fieldB (n := 0) 34 0 Tryz.underlying37 Tryz.sizeOf34 rfl (opT rfl hg) _)) <| .gT rfl (.inr rfl) rfl rfl rfl (fun hg => rk (q_load1 Tryz.isAgg34 (opT rfl hg) rfl rfl)) <| .gT rfl (.inl rfl) rfl rfl rfl (fun hg => pk (fun _ => q_geq (opT rfl hg) (opT rfl hg) _)) <| .P rfl (q_and rfl rfl) <| .mv rfl rfl <| .gT rfl (.inl rfl) rfl rfl rfl (fun hg => pk (fun _ => q_fieldB (n := 0) 3 1 Tryz.underlying39 Tryz.sizeOf3 rfl rfl _)) <| .gT rfl (.inr rfl) rfl rfl rfl (fun hg => rk (q_load1 Tryz.isAgg3 (opT rfl hg) rfl rfl)) ?_
 refine .gT rfl (.inl rfl) rfl rfl rfl (fun hg => pk (fun _ => q_geq (opT rfl hg) rfl _)) <| .P rfl (q_and rfl rfl) <| .mv rfl rfl <| .gT rfl (.inl rfl) rfl rfl rfl (fun hg => pk (fun _ => q_fieldB (n := 0) 9 2 Tryz.underlying39 Tryz.sizeOf9 rfl rfl _)) <| .gT rfl (.inr rfl) rfl rfl rfl (fun hg => rk (q_load1 Tryz.isAgg9 (opT rfl hg) rfl rfl)) <| .gT rfl (.inl rfl) rfl rfl rfl (fun hg => pk (fun _ => q_call Tryz.call45 (opsC (opT rfl hg) (rfl)) (name_ok _) _)) <| .P rfl (q_and rfl rfl) <| .ag rfl rfl <| .nil ?_
 refine Run.ret (?_)
 exact ret1 rfl (Sub.bool (by simp [okP, Bool.and_assoc] <;> grind))
structure postList_ok_L0 (l : List Posted) where
 pre : List Posted
 rest : List Posted
 hx : l = pre ++ rest
 hp : pre.all okP = true ∧ adjK pre = true
 hl0 : l.length ≤ 10000
theorem postList_ok (l : List Posted) (hs : smallPs l) : Fc Tryz.prog 67 [sPosteds l] (.b (okPs l)) := by
 refine Fc.mk' [2] Tryz.func67 rfl Tryz.ntmps67 rfl rfl rfl (fun t w => results_tmp Tryz.results67 t _ w) ?_
 refine Run.bSnap 0 rfl (fun hb => ?_)
 simp only [List.length_map, big] at hb
 refine Run.seq (Run.reg [.p] ?_)
 refine .ag rfl rfl <| .nil ?_
 refine Run.seq (Run.seq (Run.reg [.p, .p, .p] ?_))
 refine .mv rfl rfl <| .P rfl (q_lenI Tryz.underlying27 rfl) <| .P rfl (q_gtr rfl rfl) <| .nil ?_
 refine Run.cond rfl (fun h1 => ?_) (fun h1 => ?_)
 ·have ph1 := h1
  try simp only [bs, bne_iff_ne, ne_eq, List.length_map] at ph1
  refine Run.seq (Run.reg [.p] ?_)
  refine .ag rfl rfl <| .nil ?_
  refine Run.ret (?_)
  exact ret1 rfl (Sub.bool (by first | exact (okPs_end hx hp hl0).symm | exact (okPs_bad hx (by grind)).symm | (simp [okPs]; omega)))
 ·have ph1 := h1
  try simp only [bs, bne_iff_ne, ne_eq, List.length_map] at ph1
  refine Run.skip ?_
  refine Run.seq (Run.seq (Run.reg [.p, .p, .p] ?_))
  refine .mv rfl rfl <| .P rfl (q_lenI Tryz.underlying27 rfl) <| .mv rfl rfl <| .nil ?_
  refine Run.block ?_
  refine Run.loop (ι := postList_ok_L0 l) (fun sx => [(0, sPosteds l), (8, sPosteds l), (9, .i l.length), (10, .i sx.pre.length)]) (fun sx => []) (fun sx => sx.rest.length) ⟨[], l, rfl, ⟨rfl, rfl⟩, by simp at *; omega⟩ ?_ ?_
  ·exact Le.mk rfl (.same rfl rfl (.same rfl rfl (.cons rfl Sub.intA rfl (.cons rfl Sub.intA rfl .nil)))) .nil
  ·rintro ⟨pre, rest, hx, hp, hl0⟩
   show Run _ _ _ _ [(0, sPosteds l), (8, sPosteds l), (9, .i l.length), (10, .i pre.length)] []
   have hl := congrArg List.length hx
   simp only [List.length_append] at hl
   rcases rest with _ | ⟨x, rest⟩
   ·skip
    refine Run.seq (Run.reg [.p] ?_)
    refine .P rfl (q_lss rfl rfl) <| .nil ?_
    refine Run.seq ?_
    refine Run.condF rfl (by simp at hl ⊢; omega) ?_
    refine Run.exit (tq_exit (bq_exit ?_))
    refine Run.seq (Run.reg [.p] ?_)
    refine .ag rfl rfl <| .nil ?_
    refine Run.ret (?_)
    exact ret1 rfl (Sub.bool (by first | exact (okPs_end hx hp hl0).symm | exact (okPs_bad hx (by grind)).symm | (simp [okPs]; omega)))
   ·simp only [List.length_cons] at hl
    refine Run.seq (Run.reg [.p] ?_)
    refine .P rfl (q_lss rfl rfl) <| .nil ?_
    refine Run.seq ?_
    refine Run.condT rfl (by simp; omega) ?_
    refine Run.skip ?_
    refine Run.seq ?_
    refine Run.block ?_
    refine Run.seq (Run.reg [.p, .p, .p, .w, .p, .w] ?_)
    refine .mv rfl rfl <| .P rfl (q_indexI Tryz.underlying27 Tryz.sizeOf39 rfl rfl (by omega) (idx_mid encPosted hx rfl)) <| .P rfl (q_loadIA Tryz.isAgg39 Tryz.sizeOf39 rfl rfl) <| .W rfl (q_alloc 0 Tryz.zeroValue39 rfl) <| .ag rfl rfl <| .W rfl (q_storeW Tryz.sizeOf39 rfl rfl rfl rfl rfl rfl) <| .nil ?_
    refine Run.seq (Run.regD [.r, .p, .p, .p, .p, .p, .p, .p, .r, .p, .p, .p, .p, .p, .p, .p, .p, .p] Tryz_mixed (by decide +kernel) ?_)
    refine .R rfl (q_loadW Tryz.isAgg39 Tryz.sizeOf39 rfl rfl rfl) <| .P rfl (q_call Tryz.call122 rfl (isPosted_ok x (hs x (by rw [hx]; simp)))) <| .P rfl (q_not rfl) <| .mv rfl rfl <| .gF rfl (.inl rfl) rfl rfl rfl (fun hg => pk (fun _ => q_move rfl _)) <| .gF rfl (.inl rfl) rfl rfl rfl (fun hg => pk (fun _ => q_gtr (opT rfl (nt hg)) rfl _)) <| .gF rfl (.inl rfl) rfl rfl rfl (fun hg => pk (fun _ => q_move (opT rfl (nt hg)) _)) ?_
    refine .nT rfl (.inl rfl) rfl rfl rfl (fun hc hg => pk (fun _ => q_fieldB (n := 0) 3 1 Tryz.underlying39 Tryz.sizeOf3 rfl rfl _)) ?_
    refine .nT rfl (.inr rfl) rfl rfl rfl (fun hc hg => rk (q_load1 Tryz.isAgg3 (opT rfl (bT hc hg)) rfl rfl)) ?_
    refine .nT rfl (.inl rfl) rfl rfl rfl (fun hc hg => pk (fun _ => q_move rfl _)) ?_
    refine .nT rfl (.inl rfl) rfl rfl rfl (fun hc hg => pk (fun _ => q_move rfl _)) ?_
    refine .nT rfl (.inl rfl) rfl rfl rfl (fun hc hg => pk (fun _ => q_sub (opT rfl (bT hc hg)) rfl (wrap64_ok (by first | omega | (simp; done) | (simp; omega) | (simp at *; omega)) (by first | omega | (simp; done) | (simp; omega) | (simp at *; omega))) _)) ?_
    refine .nT rfl (.inl rfl) rfl rfl rfl (fun hc hg => pk (fun _ => q_indexI Tryz.underlying27 Tryz.sizeOf39 (opT rfl (bT hc hg)) (opT rfl (bT hc hg)) (by simp at hg; omega) (idx_last encPosted hx (by simp at hg; omega) (by omega)) _)) ?_
    refine .nT rfl (.inl rfl) rfl rfl rfl (fun hc hg => pk (fun _ => q_fieldI (n := 0) 3 1 Tryz.underlying39 Tryz.sizeOf3 rfl (opT rfl (bT hc hg)) rfl _)) ?_
    refine .nT rfl (.inl rfl) rfl rfl rfl (fun hc hg => pk (fun _ => q_loadI Tryz.isAgg3 (opT rfl (bT hc hg)) _)) ?_
    refine .nT rfl (.inl rfl) rfl rfl rfl (fun hc hg => pk (fun _ => q_lss (opT rfl (bT hc hg)) (opT rfl (bT hc hg)) _)) ?_
    refine .gF rfl (.inl rfl) rfl rfl rfl (fun hg => pk (fun _ => q_and (opT rfl (nt hg)) (opA rfl (nt hg)) _)) <| .P rfl (q_or rfl rfl) <| .nil ?_
    refine Run.cond rfl (fun h2 => ?_) (fun h2 => ?_)
    ·have ph2 := h2
     try simp only [bs, bne_iff_ne, ne_eq, List.length_map] at ph2
     refine Run.seq (Run.reg [.p] ?_)
     refine .ag rfl rfl <| .nil ?_
     refine Run.ret (bq_ret (tq_ret (bq_ret (?_))))
     exact ret1 rfl (Sub.bool (by first | exact (okPs_end hx hp hl0).symm | exact (okPs_bad hx (by grind)).symm | (simp [okPs]; omega)))
    ·have ph2 := h2
     try simp only [bs, bne_iff_ne, ne_eq, List.length_map] at ph2
     refine Run.skip ?_
     refine Run.nil (bq_norm ?_)
     refine Run.reg [.p, .p] ?_
     refine .P rfl (q_add rfl rfl (wrap64_ok (by first | omega | (simp; done) | (simp; omega) | (simp at *; omega)) (by first | omega | (simp; done) | (simp; omega) | (simp at *; omega)))) <| .mv rfl rfl <| .nil ?_
     refine Run.nil (tq_norm ?_)
     exact ⟨⟨pre ++ [x], rest, by simp [hx], okPs_step hp (by grind) (by grind), hl0⟩, by simp, Le.mk rfl (.same rfl rfl (.same rfl rfl (.cons rfl Sub.intA rfl (.cons rfl Sub.intA rfl .nil)))) .nil⟩
structure trial50_ok_L0 (l : List Posted) (d : Int) where
 pre : List Posted
 rest : List Posted
 hx : l = pre ++ rest
theorem trial50_ok (l : List Posted) (d : Int) (hs : smallPs l) : Fc Tryz.prog 20 [sPosteds l, .i d] (.tup [sBals (if okPs l && validDay d then trialP d l else []), .i (if okPs l then if validDay d then 0 else 13 else 1)]) := by
 refine Fc.mk' [4, 5] Tryz.func20 rfl Tryz.ntmps20 rfl rfl rfl (fun t w => results_tmp2 Tryz.results20 t _ w) ?_
 refine Run.seq (Run.reg [.p, .p] ?_)
 refine .ag rfl rfl <| .ag rfl rfl <| .nil ?_
 refine Run.seq ?_
 refine Run.block ?_
 refine Run.seq (Run.reg [.p, .p, .p, .p] ?_)
 refine .mv rfl rfl <| .P rfl (q_call Tryz.call67 rfl (postList_ok _ (by first | assumption | omega | (simp at *; omega)))) <| .P rfl (q_not rfl) <| .ag rfl rfl <| .nil ?_
 refine Run.cond rfl (fun h1 => ?_) (fun h1 => ?_)
 ·have ph1 := h1
  try simp only [bs, bne_iff_ne, ne_eq, List.length_map] at ph1
  refine Run.seq (Run.reg [.p, .p] ?_)
  refine .ag rfl rfl <| .ag rfl rfl <| .nil ?_
  refine Run.ret (bq_ret (?_))
  exact ret2 rfl rfl (by exact (Sub.nil _ false).trans (Sub.snap (by simp_all))) (Sub.int (by first | (rw [show okPs l = false from by simpa using ph1]; rfl) | (rw [show okPs l = true from by simpa using ph1, show validDay d = false from by simpa using ph2]; rfl) | (have hv := upTo_valid (d := d) hok; have h2 : validDay d = true := (by simpa using ph2); have h3 : validDay 84005 = true := (by decide); simp only [hok, hv, h2, h3, trialP, Bool.and_self, if_true])))
 ·have ph1 := h1
  try simp only [bs, bne_iff_ne, ne_eq, List.length_map] at ph1
  have hok : okPs l = true := by simpa using ph1
  have hl1 : l.length ≤ 10000 := by have := hok; simp only [okPs, Bool.and_eq_true, decide_eq_true_eq] at this; exact this.1.1
  refine Run.seq (Run.reg [.p, .p, .p, .p] ?_)
  refine .mv rfl rfl <| .P rfl (q_call Tryz.call68 rfl (restValid_ok _)) <| .P rfl (q_not rfl) <| .ag rfl rfl <| .nil ?_
  refine Run.cond rfl (fun h2 => ?_) (fun h2 => ?_)
  ·have ph2 := h2
   try simp only [bs, bne_iff_ne, ne_eq, List.length_map] at ph2
   refine Run.seq (Run.reg [.p, .p] ?_)
   refine .ag rfl rfl <| .ag rfl rfl <| .nil ?_
   refine Run.ret (bq_ret (?_))
   exact ret2 rfl rfl (by exact (Sub.nil _ false).trans (Sub.snap (by simp_all))) (Sub.int (by first | (rw [show okPs l = false from by simpa using ph1]; rfl) | (rw [show okPs l = true from by simpa using ph1, show validDay d = false from by simpa using ph2]; rfl) | (have hv := upTo_valid (d := d) hok; have h2 : validDay d = true := (by simpa using ph2); have h3 : validDay 84005 = true := (by decide); simp only [hok, hv, h2, h3, trialP, Bool.and_self, if_true])))
  ·have ph2 := h2
   try simp only [bs, bne_iff_ne, ne_eq, List.length_map] at ph2
   refine Run.skip ?_
   refine Run.nil (bq_norm ?_)
   refine Run.seq (Run.reg [.p] ?_)
   refine .ag rfl rfl <| .nil ?_
   refine Run.seq (Run.seq (Run.reg [.p, .p, .p] ?_))
   refine .mv rfl rfl <| .P rfl (q_lenI Tryz.underlying27 rfl) <| .mv rfl rfl <| .nil ?_
   refine Run.block ?_
   refine Run.loop (ι := trial50_ok_L0 l d) (fun sx => [(1, .i d), (6, .gs 0 (upTo d sx.pre).length), (17, sPosteds l), (18, .i l.length), (19, .i sx.pre.length)]) (fun sx => [(0, .arr 3 ((upTo d sx.pre).map encEntry))]) (fun sx => sx.rest.length) ⟨[], l, rfl⟩ ?_ ?_
   ·exact (Le.own0 0 3).trans <| Le.mk rfl (.cons rfl Sub.intA rfl (.cons rfl (Sub.gsNil _) rfl (.same rfl rfl (.cons rfl Sub.intA rfl (.cons rfl Sub.intA rfl .nil))))) (.arr rfl (by first | rfl | (rw [upTo_snoc, if_pos (by simpa using ph3)]; simp) | (rw [upTo_snoc, if_neg (by simpa using ph3)]; simp)) .nil)
   ·rintro ⟨pre, rest, hx⟩
    show Run _ _ _ _ [(1, .i d), (6, .gs 0 (upTo d pre).length), (17, sPosteds l), (18, .i l.length), (19, .i pre.length)] [(0, .arr 3 ((upTo d pre).map encEntry))]
    have hl := congrArg List.length hx
    simp only [List.length_append] at hl
    have hul := upTo_len d pre
    rcases rest with _ | ⟨x, rest⟩
    ·have hpre : pre = l := by simp [hx]
     subst hpre
     refine Run.seq (Run.reg [.p] ?_)
     refine .P rfl (q_lss rfl rfl) <| .nil ?_
     refine Run.seq ?_
     refine Run.condF rfl (by simp) ?_
     refine Run.exit (tq_exit (bq_exit ?_))
     refine Run.weak (Le.freeze 6 0 rfl rfl (by simp)) ?_
     refine Run.seq (Run.reg [.p, .p, .p, .p, .p, .p] ?_)
     refine .mv rfl rfl <| .P rfl (q_call Tryz.call22 rfl (ledgerTrial_ok (upTo d pre) 84005 (fun e he => by obtain ⟨p, hp, rfl⟩ := upTo_mem he; exact hs p hp) (by omega))) <| .P rfl (q_extract rfl rfl) <| .P rfl (q_extract rfl rfl) <| .ag rfl rfl <| .ag rfl rfl <| .nil ?_
     refine Run.ret (?_)
     exact ret2 rfl rfl (Sub.snap (by first | (rw [show okPs l = false from by simpa using ph1]; rfl) | (rw [show okPs l = true from by simpa using ph1, show validDay d = false from by simpa using ph2]; rfl) | (have hv := upTo_valid (d := d) hok; have h2 : validDay d = true := (by simpa using ph2); have h3 : validDay 84005 = true := (by decide); simp only [hok, hv, h2, h3, trialP, Bool.and_self, if_true]))) (Sub.int (by first | (rw [show okPs l = false from by simpa using ph1]; rfl) | (rw [show okPs l = true from by simpa using ph1, show validDay d = false from by simpa using ph2]; rfl) | (have hv := upTo_valid (d := d) hok; have h2 : validDay d = true := (by simpa using ph2); have h3 : validDay 84005 = true := (by decide); simp only [hok, hv, h2, h3, trialP, Bool.and_self, if_true])))
    ·simp only [List.length_cons] at hl
     refine Run.seq (Run.reg [.p] ?_)
     refine .P rfl (q_lss rfl rfl) <| .nil ?_
     refine Run.seq ?_
     refine Run.condT rfl (by simp; omega) ?_
     refine Run.skip ?_
     refine Run.seq ?_
     refine Run.block ?_
     refine Run.seq (Run.reg [.p, .p, .w, .w] ?_)
     refine .P rfl (q_indexI Tryz.underlying27 Tryz.sizeOf39 rfl rfl (by omega) (idx_mid encPosted hx rfl)) <| .P rfl (q_loadIA Tryz.isAgg39 Tryz.sizeOf39 rfl rfl) <| .W rfl (q_alloc 1 Tryz.zeroValue39 rfl) <| .W rfl (q_storeW Tryz.sizeOf39 rfl rfl rfl rfl rfl rfl) <| .nil ?_
     refine Run.seq (Run.reg [.p, .r, .p, .p] ?_)
     refine .P rfl (q_fieldB (n := 0) 34 0 Tryz.underlying39 Tryz.sizeOf34 rfl rfl) <| .R rfl (q_load1 Tryz.isAgg34 rfl rfl rfl) <| .mv rfl rfl <| .P rfl (q_leq rfl rfl) <| .nil ?_
     refine Run.cond rfl (fun h3 => ?_) (fun h3 => ?_)
     ·have ph3 := h3
      try simp only [bs, bne_iff_ne, ne_eq, List.length_map] at ph3
      refine Run.reg [.p, .p, .r, .p, .w, .p] ?_
      refine .mv rfl rfl <| .P rfl (q_fieldB (n := 2) 37 3 Tryz.underlying39 Tryz.sizeOf37 rfl rfl) <| .R rfl (q_loadA Tryz.isAgg37 Tryz.sizeOf37 rfl rfl (by simp) rfl) <| .P rfl (q_buildSlice' (n := 1) (rows := [encEntry x.entry]) Tryz.underlying22 Tryz.sizeOf37 rfl rfl rfl Tryz.zeroValue37 rfl rfl rfl rfl rfl rfl rfl) <| .W rfl (q_append 2 Tryz.underlying22 Tryz.underlying22 Tryz.sizeOf37 Tryz.typeInfo37 Tryz.zeroValue37 rfl (bt := 48) rfl rfl rfl rfl (by simp) rfl rfl (by simp; omega)) <| .ag rfl rfl <| .nil ?_
      refine Run.nil (bq_norm ?_)
      refine Run.reg [.p, .p] ?_
      refine .P rfl (q_add rfl rfl (wrap64_ok (by first | omega | (simp; done) | (simp; omega) | (simp at *; omega)) (by first | omega | (simp; done) | (simp; omega) | (simp at *; omega)))) <| .mv rfl rfl <| .nil ?_
      refine Run.nil (tq_norm ?_)
      exact ⟨⟨pre ++ [x], rest, by simp [hx]⟩, by simp, (Le.mk (obs' := [(2, _)]) rfl (show EnvLe _ _ [(1, _), (6, _), (17, _), (18, _), (19, _)] from (.same rfl rfl (.same rfl rfl (.same rfl rfl (.same rfl rfl (.same rfl rfl .nil)))))) (.cons (i := 2) rfl rfl .nil)).trans <| (Le.ren 6 2 0 rfl rfl (by simp) rfl).trans <| Le.mk rfl (.cons rfl Sub.intA rfl (.cons rfl (Sub.gs (by first | rfl | (rw [upTo_snoc, if_pos (by simpa using ph3)]; simp; done) | (rw [upTo_snoc, if_neg (by simpa using ph3)]; simp))) rfl (.same rfl rfl (.cons rfl Sub.intA rfl (.cons rfl Sub.intA rfl .nil))))) (.arr rfl (by first | rfl | (rw [upTo_snoc, if_pos (by simpa using ph3)]; simp) | (rw [upTo_snoc, if_neg (by simpa using ph3)]; simp)) .nil)⟩
     ·have ph3 := h3
      try simp only [bs, bne_iff_ne, ne_eq, List.length_map] at ph3
      refine Run.skip ?_
      refine Run.nil (bq_norm ?_)
      refine Run.reg [.p, .p] ?_
      refine .P rfl (q_add rfl rfl (wrap64_ok (by first | omega | (simp; done) | (simp; omega) | (simp at *; omega)) (by first | omega | (simp; done) | (simp; omega) | (simp at *; omega)))) <| .mv rfl rfl <| .nil ?_
      refine Run.nil (tq_norm ?_)
      exact ⟨⟨pre ++ [x], rest, by simp [hx]⟩, by simp, Le.mk rfl (.cons rfl Sub.intA rfl (.cons rfl (Sub.gs (by first | rfl | (rw [upTo_snoc, if_pos (by simpa using ph3)]; simp; done) | (rw [upTo_snoc, if_neg (by simpa using ph3)]; simp))) rfl (.same rfl rfl (.cons rfl Sub.intA rfl (.cons rfl Sub.intA rfl .nil))))) (.arr rfl (by first | rfl | (rw [upTo_snoc, if_pos (by simpa using ph3)]; simp) | (rw [upTo_snoc, if_neg (by simpa using ph3)]; simp)) .nil)⟩
theorem negS_len (s : Str) : (negS s).length ≤ s.length + 1 := by
 have := digits_len s
 unfold negS
 split <;> simp <;> omega
theorem orI_neg {b c : Balance} (h : klt (bkey b) (bkey c) = true) : decide (0 ≤ orI [cmpT b.account c.account, cmpT b.currency c.currency]) = false := by
 have h1 := kcmp_lt (bkey b) (bkey c)
 rw [h] at h1
 simp only [decide_eq_true_eq] at h1
 have h2 : kcmp (bkey b) (bkey c) = orI [cmpT b.account c.account, cmpT b.currency c.currency] := rfl
 rw [← h2]; simp; exact h1
theorem IsBal.last {l pre rest : List Balance} {x : Balance} (h : IsBal l) (hx : l = pre ++ x :: rest) (h0 : 0 < pre.length) : klt (bkey (pre.getLastD default)) (bkey x) = true := by
 subst hx
 have h1 := (List.pairwise_append.1 h.sorted).2.2
 refine h1 _ ?_ x (by simp)
 cases pre with
 | nil => simp at h0
 | cons a l => rw [List.getLastD_cons]; exact List.getLastD_mem_cons
structure balList_ok_L0 (l : List Balance) where
 pre : List Balance
 rest : List Balance
 hx : l = pre ++ rest
theorem balList_ok (l : List Balance) (hb0 : BalOK l) : Fc Tryz.prog 73 [sBals l] (.b true) := by
 refine Fc.mk' [2] Tryz.func73 rfl Tryz.ntmps73 rfl rfl rfl (fun t w => results_tmp Tryz.results73 t _ w) ?_
 refine Run.bSnap 0 rfl (fun hb => ?_)
 simp only [List.length_map, big] at hb
 refine Run.seq (Run.reg [.p] ?_)
 refine .ag rfl rfl <| .nil ?_
 refine Run.seq (Run.seq (Run.reg [.p, .p, .p] ?_))
 refine .mv rfl rfl <| .P rfl (q_lenI Tryz.underlying45 rfl) <| .mv rfl rfl <| .nil ?_
 refine Run.block ?_
 refine Run.loop (ι := balList_ok_L0 l) (fun sx => [(0, sBals l), (7, sBals l), (8, .i l.length), (9, .i sx.pre.length)]) (fun sx => []) (fun sx => sx.rest.length) ⟨[], l, rfl⟩ ?_ ?_
 ·exact Le.mk rfl (.same rfl rfl (.same rfl rfl (.cons rfl Sub.intA rfl (.cons rfl Sub.intA rfl .nil)))) .nil
 ·rintro ⟨pre, rest, hx⟩
  show Run _ _ _ _ [(0, sBals l), (7, sBals l), (8, .i l.length), (9, .i pre.length)] []
  have hl := congrArg List.length hx
  simp only [List.length_append] at hl
  rcases rest with _ | ⟨x, rest⟩
  ·skip
   refine Run.seq (Run.reg [.p] ?_)
   refine .P rfl (q_lss rfl rfl) <| .nil ?_
   refine Run.seq ?_
   refine Run.condF rfl (by simp at hl ⊢; omega) ?_
   refine Run.exit (tq_exit (bq_exit ?_))
   refine Run.seq (Run.reg [.p] ?_)
   refine .ag rfl rfl <| .nil ?_
   refine Run.ret (?_)
   exact ret1 rfl (Sub.bool (by rfl))
  ·simp only [List.length_cons] at hl
   have hxb := hb0.fld x (by rw [hx]; simp)
   have hxa := hb0.bal.amt x (by rw [hx]; simp)
   have hne : x.amount ≠ [] := by intro e; have := hxa.2; rw [e] at this; exact this rfl
   refine Run.seq (Run.reg [.p] ?_)
   refine .P rfl (q_lss rfl rfl) <| .nil ?_
   refine Run.seq ?_
   refine Run.condT rfl (by simp; omega) ?_
   refine Run.skip ?_
   refine Run.seq ?_
   refine Run.block ?_
   refine Run.seq (Run.reg [.p, .p, .p, .w, .p, .w] ?_)
   refine .mv rfl rfl <| .P rfl (q_indexI Tryz.underlying45 Tryz.sizeOf56 rfl rfl (by omega) (idx_mid encBalance hx rfl)) <| .P rfl (q_loadIA Tryz.isAgg56 Tryz.sizeOf56 rfl rfl) <| .W rfl (q_alloc 0 Tryz.zeroValue56 rfl) <| .ag rfl rfl <| .W rfl (q_storeW Tryz.sizeOf56 rfl rfl rfl rfl rfl rfl) <| .nil ?_
   refine Run.seq (Run.seq (Run.reg [.p, .r, .p, .r, .p, .p, .p, .p, .p, .p, .p] ?_))
   refine .P rfl (q_fieldB (n := 0) 9 1 Tryz.underlying56 Tryz.sizeOf9 rfl rfl) <| .R rfl (q_load1 Tryz.isAgg9 rfl rfl rfl) <| .P rfl (q_fieldB (n := 0) 54 2 Tryz.underlying56 Tryz.sizeOf54 rfl rfl) <| .R rfl (q_load1 Tryz.isAgg54 rfl rfl rfl) <| .P rfl (q_build (pl := #[(0, 1), (1, 1)]) Tryz.underlying157 Tryz.zeroValue157 (fun w => by kernel_rfl) rfl rfl) <| .P rfl (q_call Tryz.call116 rfl (put2_ok _ _ hxb.cur hxb.num hxa.2 (by have := hxb.len; omega))) <| .mv rfl rfl <| .P rfl (q_extract rfl rfl) <| .P rfl (q_extract rfl rfl) <| .ag rfl rfl <| .ag rfl rfl <| .nil ?_
   refine Run.seq (Run.reg [.p, .p, .p, .p, .r, .p, .p, .p, .p, .r, .p, .p, .p] ?_)
   refine .mv rfl rfl <| .P rfl (q_neq rfl rfl) <| .mv rfl rfl <| .gF rfl (.inl rfl) rfl rfl rfl (fun hg => pk (fun _ => q_fieldB (n := 0) 54 2 Tryz.underlying56 Tryz.sizeOf54 rfl rfl _)) <| .gF rfl (.inr rfl) rfl rfl rfl (fun hg => rk (q_load1 Tryz.isAgg54 (opT rfl (nt hg)) rfl rfl)) <| .gF rfl (.inl rfl) rfl rfl rfl (fun hg => pk (fun _ => q_eqlS (opT rfl (nt hg)) rfl _)) <| .P rfl (q_or rfl rfl) <| .mv rfl rfl <| .gF rfl (.inl rfl) rfl rfl rfl (fun hg => pk (fun _ => q_fieldB (n := 0) 9 0 Tryz.underlying56 Tryz.sizeOf9 rfl rfl _)) <| .gF rfl (.inr rfl) rfl rfl rfl (fun hg => rk (q_load1 Tryz.isAgg9 (opT rfl (nt hg)) rfl rfl)) <| .gF rfl (.inl rfl) rfl rfl rfl (fun hg => pk (fun _ => q_call Tryz.call115 (opsC (opT rfl (nt hg)) (rfl)) (account_ok _) _)) <| .gF rfl (.inl rfl) rfl rfl rfl (fun hg => pk (fun _ => q_neq (opT rfl (nt hg)) rfl _)) <| .P rfl (q_or rfl rfl) <| .nil ?_
   refine Run.condF rfl (by simp [hxb.code, hne]) ?_
   refine Run.skip ?_
   refine Run.seq (Run.regD [.p, .p, .p, .p, .p, .p, .p, .p, .p, .p, .p, .p, .p, .p, .p, .p, .p, .r, .p, .r, .p, .p, .p, .p] Tryz_mixed (by decide +kernel) ?_)
   refine .mv rfl rfl <| .P rfl (q_gtr rfl rfl) <| .mv rfl rfl ?_
   refine .split (t := 38) rfl (fun h1 => ?_) (fun h1 => ?_)
   ·have ph1 := h1
    try simp only [bs, bne_iff_ne, ne_eq, List.length_map] at ph1
    refine .p rfl (on_of rfl rfl rfl h1) (fun _ => q_move rfl _) <| .p rfl (on_of rfl rfl rfl h1) (fun _ => q_move rfl _) <| .p rfl (on_of rfl rfl rfl h1) (fun _ => q_sub rfl rfl (wrap64_ok (by first | omega | (simp; done) | (simp; omega) | (simp at *; omega)) (by first | omega | (simp; done) | (simp; omega) | (simp at *; omega))) _) <| .p rfl (on_of rfl rfl rfl h1) (fun _ => q_indexI Tryz.underlying45 Tryz.sizeOf56 rfl rfl (by simp at *; omega) (idx_last encBalance hx (by simp at *; omega) (by omega)) _) <| .p rfl (on_of rfl rfl rfl h1) (fun _ => q_fieldI (n := 0) 9 0 Tryz.underlying56 Tryz.sizeOf9 rfl rfl rfl _) <| .p rfl (on_of rfl rfl rfl h1) (fun _ => q_loadI Tryz.isAgg9 rfl _) <| .p rfl (on_of rfl rfl rfl h1) (fun _ => q_move rfl _) <| .p rfl (on_of rfl rfl rfl h1) (fun _ => q_move rfl _) <| .p rfl (on_of rfl rfl rfl h1) (fun _ => q_sub rfl rfl (wrap64_ok (by first | omega | (simp; done) | (simp; omega) | (simp at *; omega)) (by first | omega | (simp; done) | (simp; omega) | (simp at *; omega))) _) <| .p rfl (on_of rfl rfl rfl h1) (fun _ => q_indexI Tryz.underlying45 Tryz.sizeOf56 rfl rfl (by simp at *; omega) (idx_last encBalance hx (by simp at *; omega) (by omega)) _) <| .p rfl (on_of rfl rfl rfl h1) (fun _ => q_fieldI (n := 0) 9 1 Tryz.underlying56 Tryz.sizeOf9 rfl rfl rfl _) <| .p rfl (on_of rfl rfl rfl h1) (fun _ => q_loadI Tryz.isAgg9 rfl _) <| .p rfl (on_of rfl rfl rfl h1) (fun _ => q_build (pl := #[(0, 1), (1, 1)]) Tryz.underlying110 Tryz.zeroValue110 (fun w => by kernel_rfl) rfl rfl _) ?_
    refine .p rfl (on_of rfl rfl rfl h1) (fun _ => q_fieldB (n := 0) 9 0 Tryz.underlying56 Tryz.sizeOf9 rfl rfl _) <| .r rfl (on_of rfl rfl rfl h1) (q_load1 Tryz.isAgg9 rfl rfl rfl) <| .p rfl (on_of rfl rfl rfl h1) (fun _ => q_fieldB (n := 0) 9 1 Tryz.underlying56 Tryz.sizeOf9 rfl rfl _) <| .r rfl (on_of rfl rfl rfl h1) (q_load1 Tryz.isAgg9 rfl rfl rfl) <| .p rfl (on_of rfl rfl rfl h1) (fun _ => q_build (pl := #[(0, 1), (1, 1)]) Tryz.underlying110 Tryz.zeroValue110 (fun w => by kernel_rfl) rfl rfl _) <| .p rfl (on_of rfl rfl rfl h1) (fun _ => q_call Tryz.call124 rfl (ledgerCmp_ok _ _ _ _) _) <| .p rfl (on_of rfl rfl rfl h1) (fun _ => q_geq rfl rfl _) <| .P rfl (q_pickT rfl h1 rfl) <| .nil ?_
    refine Run.condF rfl (by exact orI_neg (hb0.bal.last hx (by simp at *; omega))) ?_
    refine Run.skip ?_
    refine Run.nil (bq_norm ?_)
    refine Run.reg [.p, .p] ?_
    refine .P rfl (q_add rfl rfl (wrap64_ok (by first | omega | (simp; done) | (simp; omega) | (simp at *; omega)) (by first | omega | (simp; done) | (simp; omega) | (simp at *; omega)))) <| .mv rfl rfl <| .nil ?_
    refine Run.nil (tq_norm ?_)
    exact ⟨⟨pre ++ [x], rest, by simp [hx]⟩, by simp, Le.mk rfl (.same rfl rfl (.same rfl rfl (.cons rfl Sub.intA rfl (.cons rfl Sub.intA rfl .nil)))) .nil⟩
   ·have ph1 := h1
    try simp only [bs, bne_iff_ne, ne_eq, List.length_map] at ph1
    refine .off rfl (off_of rfl rfl rfl h1) ?_
    refine .off rfl (off_of rfl rfl rfl h1) ?_
    refine .off rfl (off_of rfl rfl rfl h1) ?_
    refine .off rfl (off_of rfl rfl rfl h1) ?_
    refine .off rfl (off_of rfl rfl rfl h1) ?_
    refine .off rfl (off_of rfl rfl rfl h1) ?_
    refine .off rfl (off_of rfl rfl rfl h1) ?_
    refine .off rfl (off_of rfl rfl rfl h1) ?_
    refine .off rfl (off_of rfl rfl rfl h1) ?_
    refine .off rfl (off_of rfl rfl rfl h1) ?_
    refine .off rfl (off_of rfl rfl rfl h1) ?_
    refine .off rfl (off_of rfl rfl rfl h1) ?_
    refine .off rfl (off_of rfl rfl rfl h1) ?_
    refine .off rfl (off_of rfl rfl rfl h1) ?_
    refine .off rfl (off_of rfl rfl rfl h1) ?_
    refine .off rfl (off_of rfl rfl rfl h1) ?_
    refine .off rfl (off_of rfl rfl rfl h1) ?_
    refine .off rfl (off_of rfl rfl rfl h1) ?_
    refine .off rfl (off_of rfl rfl rfl h1) ?_
    refine .off rfl (off_of rfl rfl rfl h1) ?_
    refine .P rfl (q_pickF rfl h1 rfl) <| .nil ?_
    refine Run.condF rfl rfl ?_
    refine Run.skip ?_
    refine Run.nil (bq_norm ?_)
    refine Run.reg [.p, .p] ?_
    refine .P rfl (q_add rfl rfl (wrap64_ok (by first | omega | (simp; done) | (simp; omega) | (simp at *; omega)) (by first | omega | (simp; done) | (simp; omega) | (simp at *; omega)))) <| .mv rfl rfl <| .nil ?_
    refine Run.nil (tq_norm ?_)
    exact ⟨⟨pre ++ [x], rest, by simp [hx]⟩, by simp, Le.mk rfl (.same rfl rfl (.same rfl rfl (.cons rfl Sub.intA rfl (.cons rfl Sub.intA rfl .nil)))) .nil⟩
structure minusB_ok_L0 (a b : List Balance) where
 pre : List Balance
 rest : List Balance
 hx : a = pre ++ rest
structure minusB_ok_L1 (a b : List Balance) (pre : List Balance) where
 preq : List Balance
 restq : List Balance
 hxq : b = preq ++ restq
theorem minusB_ok (a b : List Balance) (ha : BalOK a) (hb : BalOK b) : Fc Tryz.prog 23 [sBals a, sBals b] (.tup [sBals (minusB a b), .i 0]) := by
 refine Fc.mk' [4, 5] Tryz.func23 rfl Tryz.ntmps23 rfl rfl rfl (fun t w => results_tmp2 Tryz.results23 t _ w) ?_
 have hal0 := ha.len
 have hbl0 := hb.len
 refine Run.seq (Run.reg [.p, .p] ?_)
 refine .ag rfl rfl <| .ag rfl rfl <| .nil ?_
 refine Run.seq (Run.seq (Run.reg [.p, .p, .p, .p, .p, .p, .p, .p] ?_))
 refine .mv rfl rfl <| .P rfl (q_call Tryz.call73 rfl (balList_ok a ha)) <| .P rfl (q_not rfl) <| .mv rfl rfl <| .p rfl (on_of rfl rfl rfl rfl) (fun _ => q_move rfl _) <| .p rfl (on_of rfl rfl rfl rfl) (fun _ => q_call Tryz.call73 rfl (balList_ok b hb) _) <| .p rfl (on_of rfl rfl rfl rfl) (fun _ => q_not rfl _) <| .P rfl (q_pickF rfl rfl rfl) <| .nil ?_
 refine Run.condF rfl rfl ?_
 refine Run.skip ?_
 refine Run.seq (Run.reg [.w, .p] ?_)
 refine .W rfl (q_makeMapG 0 kPair (D.str) rfl) <| .ag rfl rfl <| .nil ?_
 refine Run.seq (Run.seq (Run.reg [.p, .p, .p] ?_))
 refine .mv rfl rfl <| .P rfl (q_lenI Tryz.underlying45 rfl) <| .mv rfl rfl <| .nil ?_
 refine Run.block ?_
 refine Run.loop (ι := minusB_ok_L0 a b) (fun sx => [(1, sBals b), (6, .mapr 0), (20, sBals a), (21, .i a.length), (22, .i sx.pre.length)]) (fun sx => [(0, .mp (encGM kPair D.str (sumBM [] sx.pre)))]) (fun sx => sx.rest.length) ⟨[], a, rfl⟩ ?_ ?_
 ·exact Le.mk rfl (.same rfl rfl (.same rfl rfl (.same rfl rfl (.cons rfl Sub.intA rfl (.cons rfl Sub.intA rfl .nil))))) (.eq rfl (by first | rfl | rw [sumBM_snoc]) (okB_KM _ _) .nil)
 ·rintro ⟨pre, rest, hx⟩
  show Run _ _ _ _ [(1, sBals b), (6, .mapr 0), (20, sBals a), (21, .i a.length), (22, .i pre.length)] [(0, .mp (encGM kPair D.str (sumBM [] pre)))]
  have hl := congrArg List.length hx
  simp only [List.length_append] at hl
  rcases rest with _ | ⟨x, rest⟩
  ·have hpre : pre = a := by simp [hx]
   have hap : BalOK pre := hpre ▸ ha
   refine Run.seq (Run.reg [.p] ?_)
   refine .P rfl (q_lss rfl rfl) <| .nil ?_
   refine Run.seq ?_
   refine Run.condF rfl (by simp at hl ⊢; omega) ?_
   refine Run.exit (tq_exit (bq_exit ?_))
   refine Run.seq (Run.seq (Run.reg [.p, .p, .p] ?_))
   refine .mv rfl rfl <| .P rfl (q_lenI Tryz.underlying45 rfl) <| .mv rfl rfl <| .nil ?_
   refine Run.block ?_
   refine Run.loop (ι := minusB_ok_L1 a b pre) (fun sx => [(6, .mapr 0), (36, sBals b), (37, .i b.length), (38, .i sx.preq.length)]) (fun sx => [(0, .mp (encGM kPair D.str (difBM (sumBM [] pre) sx.preq)))]) (fun sx => sx.restq.length) ⟨[], b, rfl⟩ ?_ ?_
   ·exact Le.mk rfl (.same rfl rfl (.same rfl rfl (.cons rfl Sub.intA rfl (.cons rfl Sub.intA rfl .nil)))) (.eq rfl (by first | rfl | rw [difBM_snoc]) (okB_KM _ _) .nil)
   ·rintro ⟨preq, restq, hxq⟩
    show Run _ _ _ _ [(6, .mapr 0), (36, sBals b), (37, .i b.length), (38, .i preq.length)] [(0, .mp (encGM kPair D.str (difBM (sumBM [] pre) preq)))]
    have hlq := congrArg List.length hxq
    simp only [List.length_append] at hlq
    rcases restq with _ | ⟨xq, restq⟩
    ·have hpreq : preq = b := by simp [hxq]
     have hbp : BalOK preq := hpreq ▸ hb
     have hok := difBM_ok hap.fld hbp.fld
     have hmv := (MapV.nil.plus pre).less preq
     have hal := hap.len
     have hbl := hbp.len
     refine Run.seq (Run.reg [.p] ?_)
     refine .P rfl (q_lss rfl rfl) <| .nil ?_
     refine Run.seq ?_
     refine Run.condF rfl (by simp at hlq ⊢; omega) ?_
     refine Run.exit (tq_exit (bq_exit ?_))
     refine Run.weak (Le.freezeM (kD := kPair) (vD := D.str) (m := (difBM (sumBM [] pre) preq)) 6 0 rfl rfl (fun _ => rfl) (fun _ => rfl)) ?_
     refine Run.seq (Run.reg [.p, .p, .p, .p] ?_)
     refine .mv rfl rfl <| .P rfl (q_call Tryz.call76 rfl (list_ok (difBM (sumBM [] pre) preq) (by have := hok.2; omega) hok.1 hmv.nodup)) <| .ag rfl rfl <| .ag rfl rfl <| .nil ?_
     refine Run.ret (?_)
     exact ret2 rfl rfl (Sub.snap (by unfold minusB; rw [← hpre, ← hpreq])) (Sub.int (by rfl))
    ·simp only [List.length_cons] at hlq
     have hxb := hb.fld xq (by rw [hxq]; simp)
     have hbl := hb.len
     have hal := hap.len
     have hgl := less_get (a := pre) (b := preq) (bkey xq) hap.fld hal (fun y hy => hb.fld y (by rw [hxq]; simp [hy])) (by omega)
     have hxl := hxb.len
     have hnl : (negS xq.amount).length ≤ 32 := by have := negS_len xq.amount; omega
     refine Run.seq (Run.reg [.p] ?_)
     refine .P rfl (q_lss rfl rfl) <| .nil ?_
     refine Run.seq ?_
     refine Run.condT rfl (by simp; omega) ?_
     refine Run.skip ?_
     refine Run.seq ?_
     refine Run.block ?_
     refine Run.seq (Run.reg [.p, .p, .w, .w] ?_)
     refine .P rfl (q_indexI Tryz.underlying45 Tryz.sizeOf56 rfl rfl (by omega) (idx_mid encBalance hxq rfl)) <| .P rfl (q_loadIA Tryz.isAgg56 Tryz.sizeOf56 rfl rfl) <| .W rfl (q_alloc 1 Tryz.zeroValue56 rfl) <| .W rfl (q_storeW Tryz.sizeOf56 rfl rfl rfl rfl rfl rfl) <| .nil ?_
     refine Run.regD [.p, .p, .r, .p, .r, .p, .p, .r, .p, .w] Tryz_mixed (by decide +kernel) ?_
     refine .mv rfl rfl <| .P rfl (q_fieldB (n := 0) 9 0 Tryz.underlying56 Tryz.sizeOf9 rfl rfl) <| .R rfl (q_load1 Tryz.isAgg9 rfl rfl rfl) <| .P rfl (q_fieldB (n := 0) 9 1 Tryz.underlying56 Tryz.sizeOf9 rfl rfl) <| .R rfl (q_load1 Tryz.isAgg9 rfl rfl rfl) <| .P rfl (q_build (pl := #[(0, 1), (1, 1)]) Tryz.underlying110 Tryz.zeroValue110 (fun w => by kernel_rfl) rfl rfl) <| .P rfl (q_fieldB (n := 0) 54 2 Tryz.underlying56 Tryz.sizeOf54 rfl rfl) <| .R rfl (q_load1 Tryz.isAgg54 rfl rfl rfl) <| .P rfl (q_call Tryz.call75 rfl (neg2_ok _ (by omega))) <| .W rfl (q_callO Tryz.call74 rfl (addKey_ok (difBM (sumBM [] pre) preq) (bkey xq) (negS xq.amount) (by omega) (by omega)) (.cons rfl (okB_KM _ _) .nil) rfl rfl) <| .nil ?_
     refine Run.nil (bq_norm ?_)
     refine Run.reg [.p, .p] ?_
     refine .P rfl (q_add rfl rfl (wrap64_ok (by first | omega | (simp; done) | (simp; omega) | (simp at *; omega)) (by first | omega | (simp; done) | (simp; omega) | (simp at *; omega)))) <| .mv rfl rfl <| .nil ?_
     refine Run.nil (tq_norm ?_)
     exact ⟨⟨preq ++ [xq], restq, by simp [hxq]⟩, by simp, Le.mk rfl (.same rfl rfl (.same rfl rfl (.cons rfl Sub.intA rfl (.cons rfl Sub.intA rfl .nil)))) (.eq rfl (by first | rfl | rw [difBM_snoc]) (okB_KM _ _) .nil)⟩
  ·simp only [List.length_cons] at hl
   have hxb := ha.fld x (by rw [hx]; simp)
   have hal := ha.len
   have hgl := plus_get (a := pre) (bkey x) (fun y hy => ha.fld y (by rw [hx]; simp [hy])) (by omega)
   have hxl := hxb.len
   refine Run.seq (Run.reg [.p] ?_)
   refine .P rfl (q_lss rfl rfl) <| .nil ?_
   refine Run.seq ?_
   refine Run.condT rfl (by simp; omega) ?_
   refine Run.skip ?_
   refine Run.seq ?_
   refine Run.block ?_
   refine Run.seq (Run.reg [.p, .p, .w, .w] ?_)
   refine .P rfl (q_indexI Tryz.underlying45 Tryz.sizeOf56 rfl rfl (by omega) (idx_mid encBalance hx rfl)) <| .P rfl (q_loadIA Tryz.isAgg56 Tryz.sizeOf56 rfl rfl) <| .W rfl (q_alloc 1 Tryz.zeroValue56 rfl) <| .W rfl (q_storeW Tryz.sizeOf56 rfl rfl rfl rfl rfl rfl) <| .nil ?_
   refine Run.reg [.p, .p, .r, .p, .r, .p, .p, .r, .w] ?_
   refine .mv rfl rfl <| .P rfl (q_fieldB (n := 0) 9 0 Tryz.underlying56 Tryz.sizeOf9 rfl rfl) <| .R rfl (q_load1 Tryz.isAgg9 rfl rfl rfl) <| .P rfl (q_fieldB (n := 0) 9 1 Tryz.underlying56 Tryz.sizeOf9 rfl rfl) <| .R rfl (q_load1 Tryz.isAgg9 rfl rfl rfl) <| .P rfl (q_build (pl := #[(0, 1), (1, 1)]) Tryz.underlying110 Tryz.zeroValue110 (fun w => by kernel_rfl) rfl rfl) <| .P rfl (q_fieldB (n := 0) 54 2 Tryz.underlying56 Tryz.sizeOf54 rfl rfl) <| .R rfl (q_load1 Tryz.isAgg54 rfl rfl rfl) <| .W rfl (q_callO Tryz.call74 rfl (addKey_ok (sumBM [] pre) (bkey x) x.amount (by omega) (by omega)) (.cons rfl (okB_KM _ _) .nil) rfl rfl) <| .nil ?_
   refine Run.nil (bq_norm ?_)
   refine Run.reg [.p, .p] ?_
   refine .P rfl (q_add rfl rfl (wrap64_ok (by first | omega | (simp; done) | (simp; omega) | (simp at *; omega)) (by first | omega | (simp; done) | (simp; omega) | (simp at *; omega)))) <| .mv rfl rfl <| .nil ?_
   refine Run.nil (tq_norm ?_)
   exact ⟨⟨pre ++ [x], rest, by simp [hx]⟩, by simp, Le.mk rfl (.same rfl rfl (.same rfl rfl (.same rfl rfl (.cons rfl Sub.intA rfl (.cons rfl Sub.intA rfl .nil))))) (.eq rfl (by first | rfl | rw [sumBM_snoc]) (okB_KM _ _) .nil)⟩
structure same43_ok_L0 (a b : List Balance) where
 pre : List Balance
 rest : List Balance
 sb : List Balance
 hx : a = pre ++ rest
 hxb : b = pre ++ sb
 hll : rest.length = sb.length
theorem same43_ok (a b : List Balance) : Fc Tryz.prog 24 [sBals a, sBals b] (.b (decide (a = b))) := by
 refine Fc.mk' [4] Tryz.func24 rfl Tryz.ntmps24 rfl rfl rfl (fun t w => results_tmp Tryz.results24 t _ w) ?_
 refine Run.bSnap 0 rfl (fun hb => ?_)
 simp only [List.length_map, big] at hb
 refine Run.seq (Run.reg [.p] ?_)
 refine .ag rfl rfl <| .nil ?_
 refine Run.seq (Run.seq (Run.reg [.p, .p, .p, .p, .p] ?_))
 refine .mv rfl rfl <| .P rfl (q_lenI Tryz.underlying45 rfl) <| .mv rfl rfl <| .P rfl (q_lenI Tryz.underlying45 rfl) <| .P rfl (q_neq rfl rfl) <| .nil ?_
 refine Run.cond rfl (fun h1 => ?_) (fun h1 => ?_)
 ·have ph1 := h1
  try simp only [bs, bne_iff_ne, ne_eq, List.length_map] at ph1
  refine Run.seq (Run.reg [.p] ?_)
  refine .ag rfl rfl <| .nil ?_
  refine Run.ret (?_)
  exact ret1 rfl (Sub.bool (by first | (obtain rfl : sb = [] := List.length_eq_zero_iff.1 hll.symm; simp [hx, hxb]; done) | (subst hx; subst hxb; simp; intro h; subst h; simp_all) | grind))
 ·have ph1 := h1
  try simp only [bs, bne_iff_ne, ne_eq, List.length_map] at ph1
  refine Run.skip ?_
  refine Run.seq (Run.seq (Run.reg [.p] ?_))
  refine .ag rfl rfl <| .nil ?_
  refine Run.block ?_
  refine Run.loop (ι := same43_ok_L0 a b) (fun sx => [(0, sBals a), (1, sBals b), (5, .i sx.pre.length)]) (fun sx => []) (fun sx => sx.rest.length) ⟨[], a, b, rfl, rfl, by grind⟩ ?_ ?_
  ·exact Le.mk rfl (.same rfl rfl (.same rfl rfl (.cons rfl Sub.intA rfl .nil))) .nil
  ·rintro ⟨pre, rest, sb, hx, hxb, hll⟩
   show Run _ _ _ _ [(0, sBals a), (1, sBals b), (5, .i pre.length)] []
   have hl := congrArg List.length hx
   simp only [List.length_append] at hl
   rcases rest with _ | ⟨x, rest⟩
   ·skip
    refine Run.seq (Run.seq (Run.reg [.p, .p, .p, .p] ?_))
    refine .mv rfl rfl <| .mv rfl rfl <| .P rfl (q_lenI Tryz.underlying45 rfl) <| .P rfl (q_lss rfl rfl) <| .nil ?_
    refine Run.condF rfl (by simp at hl ⊢; omega) ?_
    refine Run.exit (tq_exit (bq_exit ?_))
    refine Run.seq (Run.reg [.p] ?_)
    refine .ag rfl rfl <| .nil ?_
    refine Run.ret (?_)
    exact ret1 rfl (Sub.bool (by first | (obtain rfl : sb = [] := List.length_eq_zero_iff.1 hll.symm; simp [hx, hxb]; done) | (subst hx; subst hxb; simp; intro h; subst h; simp_all) | grind))
   ·simp only [List.length_cons] at hl
    rcases sb with _ | ⟨y, sb⟩
    ·simp at hll
    refine Run.seq (Run.seq (Run.reg [.p, .p, .p, .p] ?_))
    refine .mv rfl rfl <| .mv rfl rfl <| .P rfl (q_lenI Tryz.underlying45 rfl) <| .P rfl (q_lss rfl rfl) <| .nil ?_
    refine Run.condT rfl (by simp; omega) ?_
    refine Run.skip ?_
    refine Run.seq ?_
    refine Run.block ?_
    refine Run.seq (Run.regD [.p, .p, .p, .p, .p, .p, .p, .p, .p] Tryz_mixed (by decide +kernel) ?_)
    refine .mv rfl rfl <| .mv rfl rfl <| .P rfl (q_indexI Tryz.underlying45 Tryz.sizeOf56 rfl rfl (by omega) (idx_mid encBalance hx rfl)) <| .P rfl (q_loadIA Tryz.isAgg56 Tryz.sizeOf56 rfl rfl) <| .mv rfl rfl <| .mv rfl rfl <| .P rfl (q_indexI Tryz.underlying45 Tryz.sizeOf56 rfl rfl (by omega) (idx_mid encBalance hxb rfl)) <| .P rfl (q_loadIA Tryz.isAgg56 Tryz.sizeOf56 rfl rfl) <| .P rfl (q_neqA (xs := [x.account, x.currency, x.amount]) (ys := [y.account, y.currency, y.amount]) Tryz.underlying56 (by kernel_rfl) (by kernel_rfl) (.cons (by decide +kernel) Tryz.underlying9 Tryz.isAgg9 rfl (.cons (by decide +kernel) Tryz.underlying9 Tryz.isAgg9 rfl (.cons (by decide +kernel) Tryz.underlying54 Tryz.isAgg54 rfl (.nil _)))) rfl rfl rfl rfl rfl rfl) <| .nil ?_
    refine Run.cond rfl (fun h2 => ?_) (fun h2 => ?_)
    ·have ph2 := h2
     try simp only [bs, bne_iff_ne, ne_eq, List.length_map] at ph2
     refine Run.seq (Run.reg [.p] ?_)
     refine .ag rfl rfl <| .nil ?_
     refine Run.ret (bq_ret (tq_ret (bq_ret (?_))))
     exact ret1 rfl (Sub.bool (by first | (obtain rfl : sb = [] := List.length_eq_zero_iff.1 hll.symm; simp [hx, hxb]; done) | (subst hx; subst hxb; simp; intro h; subst h; simp_all) | grind))
    ·have ph2 := h2
     try simp only [bs, bne_iff_ne, ne_eq, List.length_map] at ph2
     refine Run.skip ?_
     refine Run.nil (bq_norm ?_)
     refine Run.reg [.p, .p, .p] ?_
     refine .mv rfl rfl <| .P rfl (q_add rfl rfl (wrap64_ok (by omega) (by omega))) <| .ag rfl rfl <| .nil ?_
     refine Run.nil (tq_norm ?_)
     exact ⟨⟨pre ++ [x], rest, sb, by simp [hx], by rw [hxb, show x = y by cases x; cases y; simp_all]; simp, by simpa using hll⟩, by simp, Le.mk rfl (.same rfl rfl (.same rfl rfl (.cons rfl Sub.intA rfl .nil))) .nil⟩
end Go.T
namespace Go.T
open Go Go.Proofs
theorem okP_days {p : Posted} (h : okP p = true) : p.day ≤ 84005 ∧ p.entry.day ≤ 84005 := by
  obtain ⟨_, h2, h3, _⟩ := okP_parts h
  simp only [validDay, Bool.and_eq_true, decide_eq_true_eq] at h2
  omega
theorem sumE_nil_day {L : List Entry} (h : ∀ e ∈ L, e.day ≤ 84005) : L.filter (fun e => decide (e.day ≤ 84005)) = L := List.filter_eq_self.2 fun e he => by simpa using h e he
/-- The balances of a list of posted entries up to a day. -/
theorem trialP_bal {L : List Posted} (d : Int) (h : okPs L = true) : IsBal (trialP d L) ∧ ∀ k, balK k (trialP d L) = sumE k (upTo d L) := by
  have h1 := trialB_bal 84005 (upTo d L)
  refine ⟨h1.1, fun k => ?_⟩
  rw [trialP, h1.2, sumE_nil_day]
  intro e he
  obtain ⟨p, hp, rfl⟩ := upTo_mem he
  exact (okP_days (okPs_mem h p hp)).2
theorem trialP_ok {L : List Posted} (d : Int) (h : okPs L = true) (hs : smallPs L) (hl : L.length ≤ 1000) : BalOK (trialP d L) := by
  refine trialB_ok (fun e he => ?_) (Nat.le_trans (upTo_len d L) hl)
  obtain ⟨p, hp, rfl⟩ := upTo_mem he
  exact ⟨hs p hp, (okP_parts (okPs_mem h p hp)).1⟩
theorem upTo_max {L : List Posted} (h : okPs L = true) : upTo 84005 L = L.map (·.entry) := by
  unfold upTo
  rw [List.filter_eq_self.2 fun p hp => by simpa using (okP_days (okPs_mem h p hp)).1]
/-- All that RestateSteps says, in plain words. -/
structure StepsOK (a b : List Entry) (l : List Close) (n : Int) : Prop where
  c : posts a a l n = []
  len : (posts a b l n).length = (posts b a l n).length
  oks : okPs (posts a b l n ++ posts b a l n) = true
  smalls : smallPs (posts a b l n ++ posts b a l n)
  ok1 : okPs (posts a b l n) = true
  small1 : smallPs (posts a b l n)
  sum : trialP 84005 (posts a b l n ++ posts b a l n) = []
  va : validE a = true
  vb : validE b = true
  oka : BalOK (trialB 84005 a)
  okb : BalOK (trialB 84005 b)
  dif : trialP 84005 (posts a b l n) = minusB (trialB 84005 b) (trialB 84005 a)
end Go.T
namespace Go.T
open Go Go.Proofs
set_option maxRecDepth 20000
end Go.T
namespace Go.T
open Go Go.Proofs
def great50 (l : List Posted) : Bool := l.any (fun p => greatOne p.entry || decide (60 < p.by_.length)) || decide (16 < l.length)
theorem greatOne_small {e : Entry} (h : greatOne e = false) : smallE e := by
  simp only [greatOne, Bool.or_eq_false_iff, Bool.and_eq_false_iff, decide_eq_false_iff_not] at h
  refine ⟨by omega, by omega, fun x hx => ?_⟩
  have h3 := List.any_eq_false.1 h.2 x hx
  simp only [greatLine, Bool.or_eq_true, decide_eq_true_eq, not_or] at h3
  exact ⟨by omega, by omega, by omega⟩
theorem great50_small {l : List Posted} (h : great50 l = false) : smallPs l ∧ l.length ≤ 16 := by
  simp only [great50, Bool.or_eq_false_iff, decide_eq_false_iff_not] at h
  refine ⟨fun p hp => ?_, by omega⟩
  have := List.any_eq_false.1 h.1 p hp
  simp only [Bool.or_eq_true, not_or, Bool.not_eq_true] at this
  exact greatOne_small this.1
theorem great50_T {l pre rest : List Posted} {x : Posted} (hx : l = pre ++ x :: rest) (h : (greatOne x.entry || decide (60 < x.by_.length)) = true) : great50 l = true := by
  subst hx; simp [great50, List.any_append, h]
theorem great50_end {l pre : List Posted} (hx : l = pre ++ []) (h : pre.any (fun p => greatOne p.entry || decide (60 < p.by_.length)) = false) : great50 l = decide (16 < l.length) := by
  simp only [List.append_nil] at hx
  subst hx; simp [great50, h]
/-! Sums of a currency. -/
/-! Between two days. -/
end Go.T
namespace Go.T
open Go Go.Proofs
end Go.T
namespace Go.T
open Go Go.Proofs
set_option maxRecDepth 20000
structure great50_ok_L0 (l : List Posted) where
 pre : List Posted
 rest : List Posted
 hx : l = pre ++ rest
 hp : pre.any (fun p => greatOne p.entry || decide (60 < p.by_.length)) = false
theorem great50_ok (l : List Posted) : Fc Tryz.prog 25 [sPosteds l] (.b (great50 l)) := by
 refine Fc.mk' [2] Tryz.func25 rfl Tryz.ntmps25 rfl rfl rfl (fun t w => results_tmp Tryz.results25 t _ w) ?_
 refine Run.bSnap 0 rfl (fun hb => ?_)
 simp only [List.length_map, big] at hb
 refine Run.seq (Run.reg [.p] ?_)
 refine .ag rfl rfl <| .nil ?_
 refine Run.seq (Run.seq (Run.reg [.p] ?_))
 refine .ag rfl rfl <| .nil ?_
 refine Run.block ?_
 refine Run.loop (ι := great50_ok_L0 l) (fun sx => [(0, sPosteds l), (3, .i sx.pre.length)]) (fun sx => []) (fun sx => sx.rest.length) ⟨[], l, rfl, rfl⟩ ?_ ?_
 ·exact Le.mk rfl (.same rfl rfl (.cons rfl Sub.intA rfl .nil)) .nil
 ·rintro ⟨pre, rest, hx, hp⟩
  show Run _ _ _ _ [(0, sPosteds l), (3, .i pre.length)] []
  have hl := congrArg List.length hx
  simp only [List.length_append] at hl
  rcases rest with _ | ⟨x, rest⟩
  ·skip
   refine Run.seq (Run.seq (Run.reg [.p, .p, .p, .p] ?_))
   refine .mv rfl rfl <| .mv rfl rfl <| .P rfl (q_lenI Tryz.underlying27 rfl) <| .P rfl (q_lss rfl rfl) <| .nil ?_
   refine Run.condF rfl (by simp at hl ⊢; omega) ?_
   refine Run.exit (tq_exit (bq_exit ?_))
   refine Run.seq (Run.reg [.p, .p, .p, .p] ?_)
   refine .mv rfl rfl <| .P rfl (q_lenI Tryz.underlying27 rfl) <| .P rfl (q_gtr rfl rfl) <| .ag rfl rfl <| .nil ?_
   refine Run.ret (?_)
   exact ret1 rfl (Sub.bool (by first | exact (great50_T hx (by simp at *; grind)).symm | (rw [great50_end hx hp]; simp; omega)))
  ·simp only [List.length_cons] at hl
   refine Run.seq (Run.seq (Run.reg [.p, .p, .p, .p] ?_))
   refine .mv rfl rfl <| .mv rfl rfl <| .P rfl (q_lenI Tryz.underlying27 rfl) <| .P rfl (q_lss rfl rfl) <| .nil ?_
   refine Run.condT rfl (by simp; omega) ?_
   refine Run.skip ?_
   refine Run.seq ?_
   refine Run.block ?_
   refine Run.seq (Run.reg [.p, .p, .p, .p, .p, .p, .p, .p, .p, .p, .p, .p, .p, .p, .p] ?_)
   refine .mv rfl rfl <| .mv rfl rfl <| .P rfl (q_indexI Tryz.underlying27 Tryz.sizeOf39 rfl rfl (by omega) (idx_mid encPosted hx rfl)) <| .P rfl (q_fieldI (n := 2) 37 3 Tryz.underlying39 Tryz.sizeOf37 rfl rfl rfl) <| .P rfl (q_loadIA Tryz.isAgg37 Tryz.sizeOf37 rfl rfl) <| .P rfl (q_call Tryz.call41 rfl (greatOne_ok x.entry)) <| .mv rfl rfl <| .gF rfl (.inl rfl) rfl rfl rfl (fun hg => pk (fun _ => q_move rfl _)) <| .gF rfl (.inl rfl) rfl rfl rfl (fun hg => pk (fun _ => q_move rfl _)) <| .gF rfl (.inl rfl) rfl rfl rfl (fun hg => pk (fun _ => q_indexI Tryz.underlying27 Tryz.sizeOf39 (opT rfl (nt hg)) (opT rfl (nt hg)) (by omega) (idx_mid encPosted hx rfl) _)) <| .gF rfl (.inl rfl) rfl rfl rfl (fun hg => pk (fun _ => q_fieldI (n := 0) 9 2 Tryz.underlying39 Tryz.sizeOf9 rfl (opT rfl (nt hg)) rfl _)) <| .gF rfl (.inl rfl) rfl rfl rfl (fun hg => pk (fun _ => q_loadI Tryz.isAgg9 (opT rfl (nt hg)) _)) <| .gF rfl (.inl rfl) rfl rfl rfl (fun hg => pk (fun _ => q_lenS Tryz.underlying9 (opT rfl (nt hg)) _)) <| .gF rfl (.inl rfl) rfl rfl rfl (fun hg => pk (fun _ => q_gtr (opT rfl (nt hg)) rfl _)) <| .P rfl (q_or rfl rfl) <| .nil ?_
   refine Run.cond rfl (fun h1 => ?_) (fun h1 => ?_)
   ·have ph1 := h1
    try simp only [bs, bne_iff_ne, ne_eq, List.length_map] at ph1
    refine Run.seq (Run.reg [.p] ?_)
    refine .ag rfl rfl <| .nil ?_
    refine Run.ret (bq_ret (tq_ret (bq_ret (?_))))
    exact ret1 rfl (Sub.bool (by first | exact (great50_T hx (by simp at *; grind)).symm | (rw [great50_end hx hp]; simp; omega)))
   ·have ph1 := h1
    try simp only [bs, bne_iff_ne, ne_eq, List.length_map] at ph1
    refine Run.skip ?_
    refine Run.nil (bq_norm ?_)
    refine Run.reg [.p, .p, .p] ?_
    refine .mv rfl rfl <| .P rfl (q_add rfl rfl (wrap64_ok (by omega) (by omega))) <| .ag rfl rfl <| .nil ?_
    refine Run.nil (tq_norm ?_)
    exact ⟨⟨pre ++ [x], rest, by simp [hx], by simp at *; grind⟩, by simp, Le.mk rfl (.same rfl rfl (.cons rfl Sub.intA rfl .nil)) .nil⟩
theorem check06_ok (d : Int) : Fc Tryz.prog 88 [.i d] (.i (if validDay d then 0 else 13)) := by
 refine Fc.mk' [2] Tryz.func88 rfl Tryz.ntmps88 rfl rfl rfl (fun t w => results_tmp Tryz.results88 t _ w) ?_
 refine Run.seq (Run.reg [.p] ?_)
 refine .ag rfl rfl <| .nil ?_
 refine Run.seq (Run.seq (Run.reg [.p, .p, .p, .p, .p, .p] ?_))
 refine .mv rfl rfl <| .P rfl (q_lss rfl rfl) <| .mv rfl rfl <| .gF rfl (.inl rfl) rfl rfl rfl (fun hg => pk (fun _ => q_move rfl _)) <| .gF rfl (.inl rfl) rfl rfl rfl (fun hg => pk (fun _ => q_gtr (opT rfl (nt hg)) rfl _)) <| .P rfl (q_or rfl rfl) <| .nil ?_
 refine Run.cond rfl (fun h1 => ?_) (fun h1 => ?_)
 ·have ph1 := h1
  try simp only [bs, bne_iff_ne, ne_eq, List.length_map] at ph1
  refine Run.seq (Run.reg [.p] ?_)
  refine .ag rfl rfl <| .nil ?_
  refine Run.ret (?_)
  exact ret1 rfl (Sub.int (by grind [validDay]))
 ·have ph1 := h1
  try simp only [bs, bne_iff_ne, ne_eq, List.length_map] at ph1
  refine Run.skip ?_
  refine Run.seq (Run.reg [.p] ?_)
  refine .ag rfl rfl <| .nil ?_
  refine Run.ret (?_)
  exact ret1 rfl (Sub.int (by grind [validDay]))
theorem validP50_ok (p : Posted) (hs : smallE p.entry) : Fc Tryz.prog 77 [.agg (encPosted p)] (.b (okP p)) := by
 refine Fc.mk' [2] Tryz.func77 rfl Tryz.ntmps77 rfl rfl rfl (fun t w => results_tmp Tryz.results77 t _ w) ?_
 refine Run.seq (Run.reg [.w, .p] ?_)
 refine .W rfl (q_boxA 0 rfl rfl) <| .ag rfl rfl <| .nil ?_
 refine Run.seq (Run.reg [.p, .r, .p, .p, .p, .p, .r, .p, .p, .p, .p, .p, .r, .p, .p, .r, .p, .p, .p, .p, .r, .p, .p, .p, .p, .r, .p, .p, .p] ?_)
 refine .P rfl (q_fieldB (n := 2) 37 3 Tryz.underlying39 Tryz.sizeOf37 rfl rfl) <| .R rfl (q_loadA Tryz.isAgg37 Tryz.sizeOf37 rfl rfl (by simp) rfl) <| .P rfl (q_call Tryz.call56 rfl (check35_ok p.entry hs)) <| .P rfl (q_eql rfl rfl) <| .mv rfl rfl <| .gT rfl (.inl rfl) rfl rfl rfl (fun hg => pk (fun _ => q_fieldB (n := 0) 34 0 Tryz.underlying39 Tryz.sizeOf34 rfl rfl _)) <| .gT rfl (.inr rfl) rfl rfl rfl (fun hg => rk (q_load1 Tryz.isAgg34 (opT rfl hg) rfl rfl)) <| .gT rfl (.inl rfl) rfl rfl rfl (fun hg => pk (fun _ => q_call Tryz.call88 (opsC (opT rfl hg) (rfl)) (check06_ok _) _)) <| .gT rfl (.inl rfl) rfl rfl rfl (fun hg => pk (fun _ => q_eql (opT rfl hg) rfl _)) <| .P rfl (q_and rfl rfl) <| .mv rfl rfl <| .gT rfl (.inl rfl) rfl rfl rfl (fun hg => pk (fun _ => q_fieldB (n := 0) 34 0 Tryz.underlying39 Tryz.sizeOf34 rfl rfl _)) <| .gT rfl (.inr rfl) rfl rfl rfl (fun hg => rk (q_load1 Tryz.isAgg34 (opT rfl hg) rfl rfl)) <| .gT rfl (.inl rfl) rfl rfl rfl (fun hg => pk (fun _ => q_fieldB (n := 2) 37 3 Tryz.underlying39 Tryz.sizeOf37 rfl rfl _)) <| .gT rfl (.inl rfl) rfl rfl rfl (fun hg => pk (fun _ => q_fieldB (n := 0) 34 0 Tryz.underlying37 Tryz.sizeOf34 rfl (opT rfl hg) _)) <| .gT rfl (.inr rfl) rfl rfl rfl (fun hg => rk (q_load1 Tryz.isAgg34 (opT rfl hg) rfl rfl)) <| .gT rfl (.inl rfl) rfl rfl rfl (fun hg => pk (fun _ => q_geq (opT rfl hg) (opT rfl hg) _)) <| .P rfl (q_and rfl rfl) <| .mv rfl rfl <| .gT rfl (.inl rfl) rfl rfl rfl (fun hg => pk (fun _ => q_fieldB (n := 0) 3 1 Tryz.underlying39 Tryz.sizeOf3 rfl rfl _)) ?_
 refine .gT rfl (.inr rfl) rfl rfl rfl (fun hg => rk (q_load1 Tryz.isAgg3 (opT rfl hg) rfl rfl)) <| .gT rfl (.inl rfl) rfl rfl rfl (fun hg => pk (fun _ => q_geq (opT rfl hg) rfl _)) <| .P rfl (q_and rfl rfl) <| .mv rfl rfl <| .gT rfl (.inl rfl) rfl rfl rfl (fun hg => pk (fun _ => q_fieldB (n := 0) 9 2 Tryz.underlying39 Tryz.sizeOf9 rfl rfl _)) <| .gT rfl (.inr rfl) rfl rfl rfl (fun hg => rk (q_load1 Tryz.isAgg9 (opT rfl hg) rfl rfl)) <| .gT rfl (.inl rfl) rfl rfl rfl (fun hg => pk (fun _ => q_call Tryz.call50 (opsC (opT rfl hg) (rfl)) (name10_ok _) _)) <| .P rfl (q_and rfl rfl) <| .ag rfl rfl <| .nil ?_
 refine Run.ret (?_)
 exact ret1 rfl (Sub.bool (by cases hv : validDay p.day <;> simp [okP, Bool.and_assoc, hv] <;> grind))
structure check50_ok_L0 (l : List Posted) where
 pre : List Posted
 rest : List Posted
 hx : l = pre ++ rest
 hp : pre.all okP = true ∧ adjK pre = true
 hl0 : l.length ≤ 10000
theorem check50_ok (l : List Posted) (hs : smallPs l) : Fc Tryz.prog 26 [sPosteds l] (.i (if okPs l then 0 else 1)) := by
 refine Fc.mk' [2] Tryz.func26 rfl Tryz.ntmps26 rfl rfl rfl (fun t w => results_tmp Tryz.results26 t _ w) ?_
 refine Run.bSnap 0 rfl (fun hb => ?_)
 simp only [List.length_map, big] at hb
 refine Run.seq (Run.reg [.p] ?_)
 refine .ag rfl rfl <| .nil ?_
 refine Run.seq (Run.seq (Run.reg [.p, .p, .p] ?_))
 refine .mv rfl rfl <| .P rfl (q_lenI Tryz.underlying27 rfl) <| .P rfl (q_gtr rfl rfl) <| .nil ?_
 refine Run.cond rfl (fun h1 => ?_) (fun h1 => ?_)
 ·have ph1 := h1
  try simp only [bs, bne_iff_ne, ne_eq, List.length_map] at ph1
  refine Run.seq (Run.reg [.p] ?_)
  refine .ag rfl rfl <| .nil ?_
  refine Run.ret (?_)
  exact ret1 rfl (Sub.int (by first | (rw [okPs_end hx hp hl0]; rfl) | (rw [okPs_bad hx (by grind)]; rfl) | (rw [show okPs l = false by simp [okPs]; omega]; rfl)))
 ·have ph1 := h1
  try simp only [bs, bne_iff_ne, ne_eq, List.length_map] at ph1
  refine Run.skip ?_
  refine Run.seq (Run.seq (Run.reg [.p] ?_))
  refine .ag rfl rfl <| .nil ?_
  refine Run.block ?_
  refine Run.loop (ι := check50_ok_L0 l) (fun sx => [(0, sPosteds l), (3, .i sx.pre.length)]) (fun sx => []) (fun sx => sx.rest.length) ⟨[], l, rfl, ⟨rfl, rfl⟩, by simp at *; omega⟩ ?_ ?_
  ·exact Le.mk rfl (.same rfl rfl (.cons rfl Sub.intA rfl .nil)) .nil
  ·rintro ⟨pre, rest, hx, hp, hl0⟩
   show Run _ _ _ _ [(0, sPosteds l), (3, .i pre.length)] []
   have hl := congrArg List.length hx
   simp only [List.length_append] at hl
   rcases rest with _ | ⟨x, rest⟩
   ·skip
    refine Run.seq (Run.seq (Run.reg [.p, .p, .p, .p] ?_))
    refine .mv rfl rfl <| .mv rfl rfl <| .P rfl (q_lenI Tryz.underlying27 rfl) <| .P rfl (q_lss rfl rfl) <| .nil ?_
    refine Run.condF rfl (by simp at hl ⊢; omega) ?_
    refine Run.exit (tq_exit (bq_exit ?_))
    refine Run.seq (Run.reg [.p] ?_)
    refine .ag rfl rfl <| .nil ?_
    refine Run.ret (?_)
    exact ret1 rfl (Sub.int (by first | (rw [okPs_end hx hp hl0]; rfl) | (rw [okPs_bad hx (by grind)]; rfl) | (rw [show okPs l = false by simp [okPs]; omega]; rfl)))
   ·simp only [List.length_cons] at hl
    refine Run.seq (Run.seq (Run.reg [.p, .p, .p, .p] ?_))
    refine .mv rfl rfl <| .mv rfl rfl <| .P rfl (q_lenI Tryz.underlying27 rfl) <| .P rfl (q_lss rfl rfl) <| .nil ?_
    refine Run.condT rfl (by simp; omega) ?_
    refine Run.skip ?_
    refine Run.seq ?_
    refine Run.block ?_
    refine Run.seq (Run.regD [.p, .p, .p, .p, .p, .p, .p, .p, .p, .p, .p, .p, .p, .p, .p, .p, .p, .p, .p, .p, .p, .p, .p, .p] Tryz_mixed (by decide +kernel) ?_)
    refine .mv rfl rfl <| .mv rfl rfl <| .P rfl (q_indexI Tryz.underlying27 Tryz.sizeOf39 rfl rfl (by omega) (idx_mid encPosted hx rfl)) <| .P rfl (q_loadIA Tryz.isAgg39 Tryz.sizeOf39 rfl rfl) <| .P rfl (q_call Tryz.call77 rfl (validP50_ok x (hs x (by rw [hx]; simp)))) <| .P rfl (q_not rfl) <| .mv rfl rfl <| .gF rfl (.inl rfl) rfl rfl rfl (fun hg => pk (fun _ => q_move rfl _)) <| .gF rfl (.inl rfl) rfl rfl rfl (fun hg => pk (fun _ => q_gtr (opT rfl (nt hg)) rfl _)) <| .gF rfl (.inl rfl) rfl rfl rfl (fun hg => pk (fun _ => q_move (opT rfl (nt hg)) _)) ?_
    refine .nT rfl (.inl rfl) rfl rfl rfl (fun hc hg => pk (fun _ => q_move rfl _)) ?_
    refine .nT rfl (.inl rfl) rfl rfl rfl (fun hc hg => pk (fun _ => q_move rfl _)) ?_
    refine .nT rfl (.inl rfl) rfl rfl rfl (fun hc hg => pk (fun _ => q_indexI Tryz.underlying27 Tryz.sizeOf39 (opT rfl (bT hc hg)) (opT rfl (bT hc hg)) (by omega) (idx_mid encPosted hx rfl) _)) ?_
    refine .nT rfl (.inl rfl) rfl rfl rfl (fun hc hg => pk (fun _ => q_fieldI (n := 0) 3 1 Tryz.underlying39 Tryz.sizeOf3 rfl (opT rfl (bT hc hg)) rfl _)) ?_
    refine .nT rfl (.inl rfl) rfl rfl rfl (fun hc hg => pk (fun _ => q_loadI Tryz.isAgg3 (opT rfl (bT hc hg)) _)) ?_
    refine .nT rfl (.inl rfl) rfl rfl rfl (fun hc hg => pk (fun _ => q_move rfl _)) ?_
    refine .nT rfl (.inl rfl) rfl rfl rfl (fun hc hg => pk (fun _ => q_move rfl _)) ?_
    refine .nT rfl (.inl rfl) rfl rfl rfl (fun hc hg => pk (fun _ => q_sub (opT rfl (bT hc hg)) rfl (wrap64_ok (by first | omega | (simp; done) | (simp; omega) | (simp at *; omega)) (by first | omega | (simp; done) | (simp; omega) | (simp at *; omega))) _)) ?_
    refine .nT rfl (.inl rfl) rfl rfl rfl (fun hc hg => pk (fun _ => q_indexI Tryz.underlying27 Tryz.sizeOf39 (opT rfl (bT hc hg)) (opT rfl (bT hc hg)) (by simp at hg; omega) (idx_last encPosted hx (by simp at hg; omega) (by omega)) _)) ?_
    refine .nT rfl (.inl rfl) rfl rfl rfl (fun hc hg => pk (fun _ => q_fieldI (n := 0) 3 1 Tryz.underlying39 Tryz.sizeOf3 rfl (opT rfl (bT hc hg)) rfl _)) ?_
    refine .nT rfl (.inl rfl) rfl rfl rfl (fun hc hg => pk (fun _ => q_loadI Tryz.isAgg3 (opT rfl (bT hc hg)) _)) ?_
    refine .nT rfl (.inl rfl) rfl rfl rfl (fun hc hg => pk (fun _ => q_lss (opT rfl (bT hc hg)) (opT rfl (bT hc hg)) _)) ?_
    refine .gF rfl (.inl rfl) rfl rfl rfl (fun hg => pk (fun _ => q_and (opT rfl (nt hg)) (opA rfl (nt hg)) _)) <| .P rfl (q_or rfl rfl) <| .nil ?_
    refine Run.cond rfl (fun h2 => ?_) (fun h2 => ?_)
    ·have ph2 := h2
     try simp only [bs, bne_iff_ne, ne_eq, List.length_map] at ph2
     refine Run.seq (Run.reg [.p] ?_)
     refine .ag rfl rfl <| .nil ?_
     refine Run.ret (bq_ret (tq_ret (bq_ret (?_))))
     exact ret1 rfl (Sub.int (by first | (rw [okPs_end hx hp hl0]; rfl) | (rw [okPs_bad hx (by grind)]; rfl) | (rw [show okPs l = false by simp [okPs]; omega]; rfl)))
    ·have ph2 := h2
     try simp only [bs, bne_iff_ne, ne_eq, List.length_map] at ph2
     refine Run.skip ?_
     refine Run.nil (bq_norm ?_)
     refine Run.reg [.p, .p, .p] ?_
     refine .mv rfl rfl <| .P rfl (q_add rfl rfl (wrap64_ok (by first | omega | (simp; done) | (simp; omega) | (simp at *; omega)) (by first | omega | (simp; done) | (simp; omega) | (simp at *; omega)))) <| .ag rfl rfl <| .nil ?_
     refine Run.nil (tq_norm ?_)
     exact ⟨⟨pre ++ [x], rest, by simp [hx], okPs_step hp (by grind) (by grind), hl0⟩, by simp, Le.mk rfl (.same rfl rfl (.cons rfl Sub.intA rfl .nil)) .nil⟩
end Go.T
namespace Go.T
open Go Go.Proofs
def btw (a b : Int) (p : Posted) : Bool := decide (a < p.known) && decide (p.known ≤ b)
def betwK (a b : Int) (l : List Posted) : List Posted := l.filter (btw a b)
theorem adjK_pairwise : ∀ {l : List Posted}, adjK l = true ↔ l.Pairwise fun p q => p.known ≤ q.known
  | [] => by simp [adjK]
  | [x] => by simp [adjK]
  | x :: y :: r => by
    have ih := adjK_pairwise (l := y :: r)
    simp only [adjK, Bool.and_eq_true, decide_eq_true_eq]
    rw [ih]
    refine Iff.trans ?_ List.pairwise_cons.symm
    constructor
    · rintro ⟨h1, h2⟩
      refine ⟨fun z hz => ?_, h2⟩
      rcases List.mem_cons.1 hz with rfl | hz
      · exact h1
      · have := (List.pairwise_cons.1 h2).1 z hz; omega
    · rintro ⟨h1, h2⟩; exact ⟨h1 y (by simp), h2⟩
theorem okPs_sorted {l : List Posted} (h : okPs l = true) : l.Pairwise fun p q => p.known ≤ q.known := by
  simp only [okPs, Bool.and_eq_true] at h
  exact adjK_pairwise.1 h.2
theorem okPs_sub {l m : List Posted} (h : okPs l = true) (hs : m.Sublist l) : okPs m = true := by
  have h0 := h
  simp only [okPs, Bool.and_eq_true, decide_eq_true_eq] at h ⊢
  refine ⟨⟨Nat.le_trans hs.length_le h.1.1, List.all_eq_true.2 fun p hp => List.all_eq_true.1 h.1.2 p (hs.subset hp)⟩, adjK_pairwise.2 ((okPs_sorted h0).sublist hs)⟩
theorem betwK_sub (a b : Int) (l : List Posted) : (betwK a b l).Sublist l := List.filter_sublist
theorem small_sub {l m : List Posted} (h : smallPs l) (hs : m.Sublist l) : smallPs m := fun p hp => h p (hs.subset hp)
theorem betwK_split {m n : Int} (h0 : 0 ≤ m) (hmn : m ≤ n) : ∀ {l : List Posted}, (l.Pairwise fun p q => p.known ≤ q.known) → betwK 0 m l ++ betwK m n l = betwK 0 n l
  | [], _ => rfl
  | x :: l, h => by
    obtain ⟨h1, h2⟩ := List.pairwise_cons.1 h
    have ih := betwK_split h0 hmn h2
    by_cases c1 : x.known ≤ m
    · by_cases c0 : 0 < x.known
      · have e1 : betwK 0 m (x :: l) = x :: betwK 0 m l := by simp [betwK, btw, c1, c0]
        have e2 : betwK m n (x :: l) = betwK m n l := by simp [betwK, btw, List.filter_cons]; omega
        have e3 : betwK 0 n (x :: l) = x :: betwK 0 n l := by simp [betwK, btw, c0, List.filter_cons]; omega
        rw [e1, e2, e3, List.cons_append, ih]
      · have e1 : betwK 0 m (x :: l) = betwK 0 m l := by simp [betwK, btw, c0]
        have e2 : betwK m n (x :: l) = betwK m n l := by simp [betwK, btw, List.filter_cons]; omega
        have e3 : betwK 0 n (x :: l) = betwK 0 n l := by simp [betwK, btw, c0]
        rw [e1, e2, e3, ih]
    · have hz : ∀ {r : List Posted}, (∀ y ∈ r, x.known ≤ y.known) → betwK 0 m r = [] := fun {r} hr => List.filter_eq_nil_iff.2 fun y hy => by have := hr y hy; simp [btw]; omega
      have e1 : betwK 0 m (x :: l) = [] := hz fun y hy => by
        rcases List.mem_cons.1 hy with rfl | hy
        · exact Int.le_refl _
        · exact h1 y hy
      have e0 : betwK 0 m l = [] := hz h1
      rw [e0, List.nil_append] at ih
      rw [e1, List.nil_append]
      by_cases c2 : x.known ≤ n
      · have e2 : betwK m n (x :: l) = x :: betwK m n l := by simp [betwK, btw, List.filter_cons]; omega
        have e3 : betwK 0 n (x :: l) = x :: betwK 0 n l := by simp [betwK, btw, List.filter_cons]; omega
        rw [e2, e3, ih]
      · have e2 : betwK m n (x :: l) = betwK m n l := by simp [betwK, btw, c2]
        have e3 : betwK 0 n (x :: l) = betwK 0 n l := by simp [betwK, btw, c2]
        rw [e2, e3, ih]
theorem betwK_all {l : List Posted} (h : okPs l = true) (h0 : 0 < l.length) (hl : (l.getLastD default).known ≤ 4611686018427387904) : betwK 0 4611686018427387904 l = l := by
  refine List.filter_eq_self.2 fun p hp => ?_
  have h1 := (okP_parts (okPs_mem h p hp)).2.2.2.1
  have h2 : p.known ≤ (l.getLastD default).known := by
    have hs := okPs_sorted h
    rcases List.eq_nil_or_concat l with rfl | ⟨r, z, rfl⟩
    · simp at hp
    · have e : (r ++ [z]).getLastD default = z := by simp [List.getLastD_eq_getLast?]
      simp only [List.concat_eq_append] at *
      rw [e]
      rcases List.mem_append.1 hp with hp | hp
      · exact (List.pairwise_append.1 hs).2.2 p hp z (by simp)
      · simp at hp; subst hp; exact Int.le_refl _
  simp [btw]; omega
theorem betwK_trial {l : List Posted} {m n : Int} (h : okPs l = true) (h0 : 0 ≤ m) (hmn : m ≤ n) : minusB (trialP 84005 (betwK 0 n l)) (trialP 84005 (betwK 0 m l)) = trialP 84005 (betwK m n l) := by
  have o1 := okPs_sub h (betwK_sub 0 n l)
  have o2 := okPs_sub h (betwK_sub 0 m l)
  have o3 := okPs_sub h (betwK_sub m n l)
  have h1 := minusB_bal (trialP 84005 (betwK 0 n l)) (trialP 84005 (betwK 0 m l))
  refine IsBal.ext h1.1 (trialP_bal _ o3).1 fun k => ?_
  rw [h1.2, (trialP_bal _ o1).2, (trialP_bal _ o2).2, (trialP_bal _ o3).2, upTo_max o1, upTo_max o2, upTo_max o3, ← betwK_split h0 hmn (okPs_sorted h), List.map_append, sumE_append]
  omega
end Go.T
