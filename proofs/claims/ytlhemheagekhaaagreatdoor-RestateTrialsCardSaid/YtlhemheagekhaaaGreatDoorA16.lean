/-
  Contracts of the functions that the statement reaches, and the logic in which they are proved (no condition): parts W60, Law9, W61, Bal5, Bal6.
-/
import Derived.Test.YtlhemheagekhaaaGreatDoorA15
set_option linter.all false
namespace Go.T
open Go Go.Proofs
set_option maxRecDepth 20000
theorem restValid_ok (d : Int) : Fc Tryz.prog 68 [.i d] (.b (validDay d)) := by
 refine Fc.mk' [2] Tryz.func68 rfl Tryz.ntmps68 rfl rfl rfl (fun t w => results_tmp Tryz.results68 t _ w) ?_
 refine Run.seq (Run.reg [.p] ?_)
 refine .ag rfl rfl <| .nil ?_
 refine Run.seq (Run.reg [.p, .p, .p, .p, .p, .p, .p] ?_)
 refine .mv rfl rfl <| .P rfl (q_geq rfl rfl) <| .mv rfl rfl <| .gT rfl (.inl rfl) rfl rfl rfl (fun hg => pk (fun _ => q_move rfl _)) <| .gT rfl (.inl rfl) rfl rfl rfl (fun hg => pk (fun _ => q_leq (opT rfl hg) rfl _)) <| .P rfl (q_and rfl rfl) <| .ag rfl rfl <| .nil ?_
 refine Run.ret (?_)
 exact ret1 rfl (Sub.bool (by rfl))
theorem isPosted_ok (p : Posted) (hs : smallE p.entry) : Fc Tryz.prog 122 [.agg (encPosted p)] (.b (okP p)) := by
 refine Fc.mk' [2] Tryz.func122 rfl Tryz.ntmps122 rfl rfl rfl (fun t w => results_tmp Tryz.results122 t _ w) ?_
 refine Run.seq (Run.reg [.w, .p] ?_)
 refine .W rfl (q_boxA 0 rfl rfl) <| .ag rfl rfl <| .nil ?_
 refine Run.seq (Run.reg [.p, .r, .p, .p, .p, .p, .r, .p, .p, .p, .p, .r, .p, .p, .r, .p, .p, .p, .p, .r, .p, .p, .p, .p, .r, .p, .p, .p] ?_)
 refine .P rfl (q_fieldB (n := 2) 37 3 Tryz.underlying39 Tryz.sizeOf37 rfl rfl) <| .R rfl (q_loadA Tryz.isAgg37 Tryz.sizeOf37 rfl rfl (by simp) rfl) <| .P rfl (q_call Tryz.call18 rfl (check_ok p.entry hs)) <| .P rfl (q_eql rfl rfl) <| .mv rfl rfl <| .gT rfl (.inl rfl) rfl rfl rfl (fun hg => pk (fun _ => q_fieldB (n := 0) 34 0 Tryz.underlying39 Tryz.sizeOf34 rfl rfl _)) <| .gT rfl (.inr rfl) rfl rfl rfl (fun hg => rk (q_load1 Tryz.isAgg34 (opT rfl hg) rfl rfl)) <| .gT rfl (.inl rfl) rfl rfl rfl (fun hg => pk (fun _ => q_call Tryz.call68 (opsC (opT rfl hg) (rfl)) (restValid_ok _) _)) <| .P rfl (q_and rfl rfl) <| .mv rfl rfl <| .gT rfl (.inl rfl) rfl rfl rfl (fun hg => pk (fun _ => q_fieldB (n := 0) 34 0 Tryz.underlying39 Tryz.sizeOf34 rfl rfl _)) <| .gT rfl (.inr rfl) rfl rfl rfl (fun hg => rk (q_load1 Tryz.isAgg34 (opT rfl hg) rfl rfl)) <| .gT rfl (.inl rfl) rfl rfl rfl (fun hg => pk (fun _ => q_fieldB (n := 2) 37 3 Tryz.underlying39 Tryz.sizeOf37 rfl rfl _)) <| .gT rfl (.inl rfl) rfl rfl rfl (fun hg => pk (fun _ => q_fieldB (n := 0) 34 0 Tryz.underlying37 Tryz.sizeOf34 rfl (opT rfl hg) _)) <| .gT rfl (.inr rfl) rfl rfl rfl (fun hg => rk (q_load1 Tryz.isAgg34 (opT rfl hg) rfl rfl)) <| .gT rfl (.inl rfl) rfl rfl rfl (fun hg => pk (fun _ => q_geq (opT rfl hg) (opT rfl hg) _)) <| .P rfl (q_and rfl rfl) <| .mv rfl rfl <| .gT rfl (.inl rfl) rfl rfl rfl (fun hg => pk (fun _ => q_fieldB (n := 0) 3 1 Tryz.underlying39 Tryz.sizeOf3 rfl rfl _)) <| .gT rfl (.inr rfl) rfl rfl rfl (fun hg => rk (q_load1 Tryz.isAgg3 (opT rfl hg) rfl rfl)) ?_
 refine .gT rfl (.inl rfl) rfl rfl rfl (fun hg => pk (fun _ => q_geq (opT rfl hg) rfl _)) <| .P rfl (q_and rfl rfl) <| .mv rfl rfl <| .gT rfl (.inl rfl) rfl rfl rfl (fun hg => pk (fun _ => q_fieldB (n := 0) 9 2 Tryz.underlying39 Tryz.sizeOf9 rfl rfl _)) <| .gT rfl (.inr rfl) rfl rfl rfl (fun hg => rk (q_load1 Tryz.isAgg9 (opT rfl hg) rfl rfl)) <| .gT rfl (.inl rfl) rfl rfl rfl (fun hg => pk (fun _ => q_call Tryz.call45 (opsC (opT rfl hg) (rfl)) (name_ok _) _)) <| .P rfl (q_and rfl rfl) <| .ag rfl rfl <| .nil ?_
 refine Run.ret (?_)
 exact ret1 rfl (Sub.bool (by simp [okP, Bool.and_assoc] <;> grind))
structure postList_ok_L0 (l : List Posted) where
 pre : List Posted
 rest : List Posted
 hx : l = pre ++ rest
 hp : pre.all okP = true ∧ adjK pre = true
 hl0 : l.length ≤ 10000
theorem postList_ok (l : List Posted) (hs : smallPs l) : Fc Tryz.prog 67 [sPosteds l] (.b (okPs l)) := by
 refine Fc.mk' [2] Tryz.func67 rfl Tryz.ntmps67 rfl rfl rfl (fun t w => results_tmp Tryz.results67 t _ w) ?_
 refine Run.bSnap 0 rfl (fun hb => ?_)
 simp only [List.length_map, big] at hb
 refine Run.seq (Run.reg [.p] ?_)
 refine .ag rfl rfl <| .nil ?_
 refine Run.seq (Run.seq (Run.reg [.p, .p, .p] ?_))
 refine .mv rfl rfl <| .P rfl (q_lenI Tryz.underlying27 rfl) <| .P rfl (q_gtr rfl rfl) <| .nil ?_
 refine Run.cond rfl (fun h1 => ?_) (fun h1 => ?_)
 ·have ph1 := h1
  try simp only [bs, bne_iff_ne, ne_eq, List.length_map] at ph1
  refine Run.seq (Run.reg [.p] ?_)
  refine .ag rfl rfl <| .nil ?_
  refine Run.ret (?_)
  exact ret1 rfl (Sub.bool (by first | exact (okPs_end hx hp hl0).symm | exact (okPs_bad hx (by grind)).symm | (simp [okPs]; omega)))
 ·have ph1 := h1
  try simp only [bs, bne_iff_ne, ne_eq, List.length_map] at ph1
  refine Run.skip ?_
  refine Run.seq (Run.seq (Run.reg [.p, .p, .p] ?_))
  refine .mv rfl rfl <| .P rfl (q_lenI Tryz.underlying27 rfl) <| .mv rfl rfl <| .nil ?_
  refine Run.block ?_
  refine Run.loop (ι := postList_ok_L0 l) (fun sx => [(0, sPosteds l), (8, sPosteds l), (9, .i l.length), (10, .i sx.pre.length)]) (fun sx => []) (fun sx => sx.rest.length) ⟨[], l, rfl, ⟨rfl, rfl⟩, by simp at *; omega⟩ ?_ ?_
  ·exact Le.mk rfl (.same rfl rfl (.same rfl rfl (.cons rfl Sub.intA rfl (.cons rfl Sub.intA rfl .nil)))) .nil
  ·rintro ⟨pre, rest, hx, hp, hl0⟩
   show Run _ _ _ _ [(0, sPosteds l), (8, sPosteds l), (9, .i l.length), (10, .i pre.length)] []
   have hl := congrArg List.length hx
   simp only [List.length_append] at hl
   rcases rest with _ | ⟨x, rest⟩
   ·skip
    refine Run.seq (Run.reg [.p] ?_)
    refine .P rfl (q_lss rfl rfl) <| .nil ?_
    refine Run.seq ?_
    refine Run.condF rfl (by simp at hl ⊢; omega) ?_
    refine Run.exit (tq_exit (bq_exit ?_))
    refine Run.seq (Run.reg [.p] ?_)
    refine .ag rfl rfl <| .nil ?_
    refine Run.ret (?_)
    exact ret1 rfl (Sub.bool (by first | exact (okPs_end hx hp hl0).symm | exact (okPs_bad hx (by grind)).symm | (simp [okPs]; omega)))
   ·simp only [List.length_cons] at hl
    refine Run.seq (Run.reg [.p] ?_)
    refine .P rfl (q_lss rfl rfl) <| .nil ?_
    refine Run.seq ?_
    refine Run.condT rfl (by simp; omega) ?_
    refine Run.skip ?_
    refine Run.seq ?_
    refine Run.block ?_
    refine Run.seq (Run.reg [.p, .p, .p, .w, .p, .w] ?_)
    refine .mv rfl rfl <| .P rfl (q_indexI Tryz.underlying27 Tryz.sizeOf39 rfl rfl (by omega) (idx_mid encPosted hx rfl)) <| .P rfl (q_loadIA Tryz.isAgg39 Tryz.sizeOf39 rfl rfl) <| .W rfl (q_alloc 0 Tryz.zeroValue39 rfl) <| .ag rfl rfl <| .W rfl (q_storeW Tryz.sizeOf39 rfl rfl rfl rfl rfl rfl) <| .nil ?_
    refine Run.seq (Run.regD [.r, .p, .p, .p, .p, .p, .p, .p, .r, .p, .p, .p, .p, .p, .p, .p, .p, .p] Tryz_mixed (by decide +kernel) ?_)
    refine .R rfl (q_loadW Tryz.isAgg39 Tryz.sizeOf39 rfl rfl rfl) <| .P rfl (q_call Tryz.call122 rfl (isPosted_ok x (hs x (by rw [hx]; simp)))) <| .P rfl (q_not rfl) <| .mv rfl rfl <| .gF rfl (.inl rfl) rfl rfl rfl (fun hg => pk (fun _ => q_move rfl _)) <| .gF rfl (.inl rfl) rfl rfl rfl (fun hg => pk (fun _ => q_gtr (opT rfl (nt hg)) rfl _)) <| .gF rfl (.inl rfl) rfl rfl rfl (fun hg => pk (fun _ => q_move (opT rfl (nt hg)) _)) ?_
    refine .nT rfl (.inl rfl) rfl rfl rfl (fun hc hg => pk (fun _ => q_fieldB (n := 0) 3 1 Tryz.underlying39 Tryz.sizeOf3 rfl rfl _)) ?_
    refine .nT rfl (.inr rfl) rfl rfl rfl (fun hc hg => rk (q_load1 Tryz.isAgg3 (opT rfl (bT hc hg)) rfl rfl)) ?_
    refine .nT rfl (.inl rfl) rfl rfl rfl (fun hc hg => pk (fun _ => q_move rfl _)) ?_
    refine .nT rfl (.inl rfl) rfl rfl rfl (fun hc hg => pk (fun _ => q_move rfl _)) ?_
    refine .nT rfl (.inl rfl) rfl rfl rfl (fun hc hg => pk (fun _ => q_sub (opT rfl (bT hc hg)) rfl (wrap64_ok (by first | omega | (simp; done) | (simp; omega) | (simp at *; omega)) (by first | omega | (simp; done) | (simp; omega) | (simp at *; omega))) _)) ?_
    refine .nT rfl (.inl rfl) rfl rfl rfl (fun hc hg => pk (fun _ => q_indexI Tryz.underlying27 Tryz.sizeOf39 (opT rfl (bT hc hg)) (opT rfl (bT hc hg)) (by simp at hg; omega) (idx_last encPosted hx (by simp at hg; omega) (by omega)) _)) ?_
    refine .nT rfl (.inl rfl) rfl rfl rfl (fun hc hg => pk (fun _ => q_fieldI (n := 0) 3 1 Tryz.underlying39 Tryz.sizeOf3 rfl (opT rfl (bT hc hg)) rfl _)) ?_
    refine .nT rfl (.inl rfl) rfl rfl rfl (fun hc hg => pk (fun _ => q_loadI Tryz.isAgg3 (opT rfl (bT hc hg)) _)) ?_
    refine .nT rfl (.inl rfl) rfl rfl rfl (fun hc hg => pk (fun _ => q_lss (opT rfl (bT hc hg)) (opT rfl (bT hc hg)) _)) ?_
    refine .gF rfl (.inl rfl) rfl rfl rfl (fun hg => pk (fun _ => q_and (opT rfl (nt hg)) (opA rfl (nt hg)) _)) <| .P rfl (q_or rfl rfl) <| .nil ?_
    refine Run.cond rfl (fun h2 => ?_) (fun h2 => ?_)
    ·have ph2 := h2
     try simp only [bs, bne_iff_ne, ne_eq, List.length_map] at ph2
     refine Run.seq (Run.reg [.p] ?_)
     refine .ag rfl rfl <| .nil ?_
     refine Run.ret (bq_ret (tq_ret (bq_ret (?_))))
     exact ret1 rfl (Sub.bool (by first | exact (okPs_end hx hp hl0).symm | exact (okPs_bad hx (by grind)).symm | (simp [okPs]; omega)))
    ·have ph2 := h2
     try simp only [bs, bne_iff_ne, ne_eq, List.length_map] at ph2
     refine Run.skip ?_
     refine Run.nil (bq_norm ?_)
     refine Run.reg [.p, .p] ?_
     refine .P rfl (q_add rfl rfl (wrap64_ok (by first | omega | (simp; done) | (simp; omega) | (simp at *; omega)) (by first | omega | (simp; done) | (simp; omega) | (simp at *; omega)))) <| .mv rfl rfl <| .nil ?_
     refine Run.nil (tq_norm ?_)
     exact ⟨⟨pre ++ [x], rest, by simp [hx], okPs_step hp (by grind) (by grind), hl0⟩, by simp, Le.mk rfl (.same rfl rfl (.same rfl rfl (.cons rfl Sub.intA rfl (.cons rfl Sub.intA rfl .nil)))) .nil⟩
structure trial50_ok_L0 (l : List Posted) (d : Int) where
 pre : List Posted
 rest : List Posted
 hx : l = pre ++ rest
theorem trial50_ok (l : List Posted) (d : Int) (hs : smallPs l) : Fc Tryz.prog 20 [sPosteds l, .i d] (.tup [sBals (if okPs l && validDay d then trialP d l else []), .i (if okPs l then if validDay d then 0 else 13 else 1)]) := by
 refine Fc.mk' [4, 5] Tryz.func20 rfl Tryz.ntmps20 rfl rfl rfl (fun t w => results_tmp2 Tryz.results20 t _ w) ?_
 refine Run.seq (Run.reg [.p, .p] ?_)
 refine .ag rfl rfl <| .ag rfl rfl <| .nil ?_
 refine Run.seq ?_
 refine Run.block ?_
 refine Run.seq (Run.reg [.p, .p, .p, .p] ?_)
 refine .mv rfl rfl <| .P rfl (q_call Tryz.call67 rfl (postList_ok _ (by first | assumption | omega | (simp at *; omega)))) <| .P rfl (q_not rfl) <| .ag rfl rfl <| .nil ?_
 refine Run.cond rfl (fun h1 => ?_) (fun h1 => ?_)
 ·have ph1 := h1
  try simp only [bs, bne_iff_ne, ne_eq, List.length_map] at ph1
  refine Run.seq (Run.reg [.p, .p] ?_)
  refine .ag rfl rfl <| .ag rfl rfl <| .nil ?_
  refine Run.ret (bq_ret (?_))
  exact ret2 rfl rfl (by exact (Sub.nil _ false).trans (Sub.snap (by simp_all))) (Sub.int (by first | (rw [show okPs l = false from by simpa using ph1]; rfl) | (rw [show okPs l = true from by simpa using ph1, show validDay d = false from by simpa using ph2]; rfl) | (have hv := upTo_valid (d := d) hok; have h2 : validDay d = true := (by simpa using ph2); have h3 : validDay 84005 = true := (by decide); simp only [hok, hv, h2, h3, trialP, Bool.and_self, if_true])))
 ·have ph1 := h1
  try simp only [bs, bne_iff_ne, ne_eq, List.length_map] at ph1
  have hok : okPs l = true := by simpa using ph1
  have hl1 : l.length ≤ 10000 := by have := hok; simp only [okPs, Bool.and_eq_true, decide_eq_true_eq] at this; exact this.1.1
  refine Run.seq (Run.reg [.p, .p, .p, .p] ?_)
  refine .mv rfl rfl <| .P rfl (q_call Tryz.call68 rfl (restValid_ok _)) <| .P rfl (q_not rfl) <| .ag rfl rfl <| .nil ?_
  refine Run.cond rfl (fun h2 => ?_) (fun h2 => ?_)
  ·have ph2 := h2
   try simp only [bs, bne_iff_ne, ne_eq, List.length_map] at ph2
   refine Run.seq (Run.reg [.p, .p] ?_)
   refine .ag rfl rfl <| .ag rfl rfl <| .nil ?_
   refine Run.ret (bq_ret (?_))
   exact ret2 rfl rfl (by exact (Sub.nil _ false).trans (Sub.snap (by simp_all))) (Sub.int (by first | (rw [show okPs l = false from by simpa using ph1]; rfl) | (rw [show okPs l = true from by simpa using ph1, show validDay d = false from by simpa using ph2]; rfl) | (have hv := upTo_valid (d := d) hok; have h2 : validDay d = true := (by simpa using ph2); have h3 : validDay 84005 = true := (by decide); simp only [hok, hv, h2, h3, trialP, Bool.and_self, if_true])))
  ·have ph2 := h2
   try simp only [bs, bne_iff_ne, ne_eq, List.length_map] at ph2
   refine Run.skip ?_
   refine Run.nil (bq_norm ?_)
   refine Run.seq (Run.reg [.p] ?_)
   refine .ag rfl rfl <| .nil ?_
   refine Run.seq (Run.seq (Run.reg [.p, .p, .p] ?_))
   refine .mv rfl rfl <| .P rfl (q_lenI Tryz.underlying27 rfl) <| .mv rfl rfl <| .nil ?_
   refine Run.block ?_
   refine Run.loop (ι := trial50_ok_L0 l d) (fun sx => [(1, .i d), (6, .gs 0 (upTo d sx.pre).length), (17, sPosteds l), (18, .i l.length), (19, .i sx.pre.length)]) (fun sx => [(0, .arr 3 ((upTo d sx.pre).map encEntry))]) (fun sx => sx.rest.length) ⟨[], l, rfl⟩ ?_ ?_
   ·exact (Le.own0 0 3).trans <| Le.mk rfl (.cons rfl Sub.intA rfl (.cons rfl (Sub.gsNil _) rfl (.same rfl rfl (.cons rfl Sub.intA rfl (.cons rfl Sub.intA rfl .nil))))) (.arr rfl (by first | rfl | (rw [upTo_snoc, if_pos (by simpa using ph3)]; simp) | (rw [upTo_snoc, if_neg (by simpa using ph3)]; simp)) .nil)
   ·rintro ⟨pre, rest, hx⟩
    show Run _ _ _ _ [(1, .i d), (6, .gs 0 (upTo d pre).length), (17, sPosteds l), (18, .i l.length), (19, .i pre.length)] [(0, .arr 3 ((upTo d pre).map encEntry))]
    have hl := congrArg List.length hx
    simp only [List.length_append] at hl
    have hul := upTo_len d pre
    rcases rest with _ | ⟨x, rest⟩
    ·have hpre : pre = l := by simp [hx]
     subst hpre
     refine Run.seq (Run.reg [.p] ?_)
     refine .P rfl (q_lss rfl rfl) <| .nil ?_
     refine Run.seq ?_
     refine Run.condF rfl (by simp) ?_
     refine Run.exit (tq_exit (bq_exit ?_))
     refine Run.weak (Le.freeze 6 0 rfl rfl (by simp)) ?_
     refine Run.seq (Run.reg [.p, .p, .p, .p, .p, .p] ?_)
     refine .mv rfl rfl <| .P rfl (q_call Tryz.call22 rfl (ledgerTrial_ok (upTo d pre) 84005 (fun e he => by obtain ⟨p, hp, rfl⟩ := upTo_mem he; exact hs p hp) (by omega))) <| .P rfl (q_extract rfl rfl) <| .P rfl (q_extract rfl rfl) <| .ag rfl rfl <| .ag rfl rfl <| .nil ?_
     refine Run.ret (?_)
     exact ret2 rfl rfl (Sub.snap (by first | (rw [show okPs l = false from by simpa using ph1]; rfl) | (rw [show okPs l = true from by simpa using ph1, show validDay d = false from by simpa using ph2]; rfl) | (have hv := upTo_valid (d := d) hok; have h2 : validDay d = true := (by simpa using ph2); have h3 : validDay 84005 = true := (by decide); simp only [hok, hv, h2, h3, trialP, Bool.and_self, if_true]))) (Sub.int (by first | (rw [show okPs l = false from by simpa using ph1]; rfl) | (rw [show okPs l = true from by simpa using ph1, show validDay d = false from by simpa using ph2]; rfl) | (have hv := upTo_valid (d := d) hok; have h2 : validDay d = true := (by simpa using ph2); have h3 : validDay 84005 = true := (by decide); simp only [hok, hv, h2, h3, trialP, Bool.and_self, if_true])))
    ·simp only [List.length_cons] at hl
     refine Run.seq (Run.reg [.p] ?_)
     refine .P rfl (q_lss rfl rfl) <| .nil ?_
     refine Run.seq ?_
     refine Run.condT rfl (by simp; omega) ?_
     refine Run.skip ?_
     refine Run.seq ?_
     refine Run.block ?_
     refine Run.seq (Run.reg [.p, .p, .w, .w] ?_)
     refine .P rfl (q_indexI Tryz.underlying27 Tryz.sizeOf39 rfl rfl (by omega) (idx_mid encPosted hx rfl)) <| .P rfl (q_loadIA Tryz.isAgg39 Tryz.sizeOf39 rfl rfl) <| .W rfl (q_alloc 1 Tryz.zeroValue39 rfl) <| .W rfl (q_storeW Tryz.sizeOf39 rfl rfl rfl rfl rfl rfl) <| .nil ?_
     refine Run.seq (Run.reg [.p, .r, .p, .p] ?_)
     refine .P rfl (q_fieldB (n := 0) 34 0 Tryz.underlying39 Tryz.sizeOf34 rfl rfl) <| .R rfl (q_load1 Tryz.isAgg34 rfl rfl rfl) <| .mv rfl rfl <| .P rfl (q_leq rfl rfl) <| .nil ?_
     refine Run.cond rfl (fun h3 => ?_) (fun h3 => ?_)
     ·have ph3 := h3
      try simp only [bs, bne_iff_ne, ne_eq, List.length_map] at ph3
      refine Run.reg [.p, .p, .r, .p, .w, .p] ?_
      refine .mv rfl rfl <| .P rfl (q_fieldB (n := 2) 37 3 Tryz.underlying39 Tryz.sizeOf37 rfl rfl) <| .R rfl (q_loadA Tryz.isAgg37 Tryz.sizeOf37 rfl rfl (by simp) rfl) <| .P rfl (q_buildSlice' (n := 1) (rows := [encEntry x.entry]) Tryz.underlying22 Tryz.sizeOf37 rfl rfl rfl Tryz.zeroValue37 rfl rfl rfl rfl rfl rfl rfl) <| .W rfl (q_append 2 Tryz.underlying22 Tryz.underlying22 Tryz.sizeOf37 Tryz.typeInfo37 Tryz.zeroValue37 rfl (bt := 48) rfl rfl rfl rfl (by simp) rfl rfl (by simp; omega)) <| .ag rfl rfl <| .nil ?_
      refine Run.nil (bq_norm ?_)
      refine Run.reg [.p, .p] ?_
      refine .P rfl (q_add rfl rfl (wrap64_ok (by first | omega | (simp; done) | (simp; omega) | (simp at *; omega)) (by first | omega | (simp; done) | (simp; omega) | (simp at *; omega)))) <| .mv rfl rfl <| .nil ?_
      refine Run.nil (tq_norm ?_)
      exact ⟨⟨pre ++ [x], rest, by simp [hx]⟩, by simp, (Le.mk (obs' := [(2, _)]) rfl (show EnvLe _ _ [(1, _), (6, _), (17, _), (18, _), (19, _)] from (.same rfl rfl (.same rfl rfl (.same rfl rfl (.same rfl rfl (.same rfl rfl .nil)))))) (.cons (i := 2) rfl rfl .nil)).trans <| (Le.ren 6 2 0 rfl rfl (by simp) rfl).trans <| Le.mk rfl (.cons rfl Sub.intA rfl (.cons rfl (Sub.gs (by first | rfl | (rw [upTo_snoc, if_pos (by simpa using ph3)]; simp; done) | (rw [upTo_snoc, if_neg (by simpa using ph3)]; simp))) rfl (.same rfl rfl (.cons rfl Sub.intA rfl (.cons rfl Sub.intA rfl .nil))))) (.arr rfl (by first | rfl | (rw [upTo_snoc, if_pos (by simpa using ph3)]; simp) | (rw [upTo_snoc, if_neg (by simpa using ph3)]; simp)) .nil)⟩
     ·have ph3 := h3
      try simp only [bs, bne_iff_ne, ne_eq, List.length_map] at ph3
      refine Run.skip ?_
      refine Run.nil (bq_norm ?_)
      refine Run.reg [.p, .p] ?_
      refine .P rfl (q_add rfl rfl (wrap64_ok (by first | omega | (simp; done) | (simp; omega) | (simp at *; omega)) (by first | omega | (simp; done) | (simp; omega) | (simp at *; omega)))) <| .mv rfl rfl <| .nil ?_
      refine Run.nil (tq_norm ?_)
      exact ⟨⟨pre ++ [x], rest, by simp [hx]⟩, by simp, Le.mk rfl (.cons rfl Sub.intA rfl (.cons rfl (Sub.gs (by first | rfl | (rw [upTo_snoc, if_pos (by simpa using ph3)]; simp; done) | (rw [upTo_snoc, if_neg (by simpa using ph3)]; simp))) rfl (.same rfl rfl (.cons rfl Sub.intA rfl (.cons rfl Sub.intA rfl .nil))))) (.arr rfl (by first | rfl | (rw [upTo_snoc, if_pos (by simpa using ph3)]; simp) | (rw [upTo_snoc, if_neg (by simpa using ph3)]; simp)) .nil)⟩
theorem negS_len (s : Str) : (negS s).length ≤ s.length + 1 := by
 have := digits_len s
 unfold negS
 split <;> simp <;> omega
theorem orI_neg {b c : Balance} (h : klt (bkey b) (bkey c) = true) : decide (0 ≤ orI [cmpT b.account c.account, cmpT b.currency c.currency]) = false := by
 have h1 := kcmp_lt (bkey b) (bkey c)
 rw [h] at h1
 simp only [decide_eq_true_eq] at h1
 have h2 : kcmp (bkey b) (bkey c) = orI [cmpT b.account c.account, cmpT b.currency c.currency] := rfl
 rw [← h2]; simp; exact h1
theorem IsBal.last {l pre rest : List Balance} {x : Balance} (h : IsBal l) (hx : l = pre ++ x :: rest) (h0 : 0 < pre.length) : klt (bkey (pre.getLastD default)) (bkey x) = true := by
 subst hx
 have h1 := (List.pairwise_append.1 h.sorted).2.2
 refine h1 _ ?_ x (by simp)
 cases pre with
 | nil => simp at h0
 | cons a l => rw [List.getLastD_cons]; exact List.getLastD_mem_cons
structure balList_ok_L0 (l : List Balance) where
 pre : List Balance
 rest : List Balance
 hx : l = pre ++ rest
theorem balList_ok (l : List Balance) (hb0 : BalOK l) : Fc Tryz.prog 73 [sBals l] (.b true) := by
 refine Fc.mk' [2] Tryz.func73 rfl Tryz.ntmps73 rfl rfl rfl (fun t w => results_tmp Tryz.results73 t _ w) ?_
 refine Run.bSnap 0 rfl (fun hb => ?_)
 simp only [List.length_map, big] at hb
 refine Run.seq (Run.reg [.p] ?_)
 refine .ag rfl rfl <| .nil ?_
 refine Run.seq (Run.seq (Run.reg [.p, .p, .p] ?_))
 refine .mv rfl rfl <| .P rfl (q_lenI Tryz.underlying45 rfl) <| .mv rfl rfl <| .nil ?_
 refine Run.block ?_
 refine Run.loop (ι := balList_ok_L0 l) (fun sx => [(0, sBals l), (7, sBals l), (8, .i l.length), (9, .i sx.pre.length)]) (fun sx => []) (fun sx => sx.rest.length) ⟨[], l, rfl⟩ ?_ ?_
 ·exact Le.mk rfl (.same rfl rfl (.same rfl rfl (.cons rfl Sub.intA rfl (.cons rfl Sub.intA rfl .nil)))) .nil
 ·rintro ⟨pre, rest, hx⟩
  show Run _ _ _ _ [(0, sBals l), (7, sBals l), (8, .i l.length), (9, .i pre.length)] []
  have hl := congrArg List.length hx
  simp only [List.length_append] at hl
  rcases rest with _ | ⟨x, rest⟩
  ·skip
   refine Run.seq (Run.reg [.p] ?_)
   refine .P rfl (q_lss rfl rfl) <| .nil ?_
   refine Run.seq ?_
   refine Run.condF rfl (by simp at hl ⊢; omega) ?_
   refine Run.exit (tq_exit (bq_exit ?_))
   refine Run.seq (Run.reg [.p] ?_)
   refine .ag rfl rfl <| .nil ?_
   refine Run.ret (?_)
   exact ret1 rfl (Sub.bool (by rfl))
  ·simp only [List.length_cons] at hl
   have hxb := hb0.fld x (by rw [hx]; simp)
   have hxa := hb0.bal.amt x (by rw [hx]; simp)
   have hne : x.amount ≠ [] := by intro e; have := hxa.2; rw [e] at this; exact this rfl
   refine Run.seq (Run.reg [.p] ?_)
   refine .P rfl (q_lss rfl rfl) <| .nil ?_
   refine Run.seq ?_
   refine Run.condT rfl (by simp; omega) ?_
   refine Run.skip ?_
   refine Run.seq ?_
   refine Run.block ?_
   refine Run.seq (Run.reg [.p, .p, .p, .w, .p, .w] ?_)
   refine .mv rfl rfl <| .P rfl (q_indexI Tryz.underlying45 Tryz.sizeOf56 rfl rfl (by omega) (idx_mid encBalance hx rfl)) <| .P rfl (q_loadIA Tryz.isAgg56 Tryz.sizeOf56 rfl rfl) <| .W rfl (q_alloc 0 Tryz.zeroValue56 rfl) <| .ag rfl rfl <| .W rfl (q_storeW Tryz.sizeOf56 rfl rfl rfl rfl rfl rfl) <| .nil ?_
   refine Run.seq (Run.seq (Run.reg [.p, .r, .p, .r, .p, .p, .p, .p, .p, .p, .p] ?_))
   refine .P rfl (q_fieldB (n := 0) 9 1 Tryz.underlying56 Tryz.sizeOf9 rfl rfl) <| .R rfl (q_load1 Tryz.isAgg9 rfl rfl rfl) <| .P rfl (q_fieldB (n := 0) 54 2 Tryz.underlying56 Tryz.sizeOf54 rfl rfl) <| .R rfl (q_load1 Tryz.isAgg54 rfl rfl rfl) <| .P rfl (q_build (pl := #[(0, 1), (1, 1)]) Tryz.underlying157 Tryz.zeroValue157 (fun w => by kernel_rfl) rfl rfl) <| .P rfl (q_call Tryz.call116 rfl (put2_ok _ _ hxb.cur hxb.num hxa.2 (by have := hxb.len; omega))) <| .mv rfl rfl <| .P rfl (q_extract rfl rfl) <| .P rfl (q_extract rfl rfl) <| .ag rfl rfl <| .ag rfl rfl <| .nil ?_
   refine Run.seq (Run.reg [.p, .p, .p, .p, .r, .p, .p, .p, .p, .r, .p, .p, .p] ?_)
   refine .mv rfl rfl <| .P rfl (q_neq rfl rfl) <| .mv rfl rfl <| .gF rfl (.inl rfl) rfl rfl rfl (fun hg => pk (fun _ => q_fieldB (n := 0) 54 2 Tryz.underlying56 Tryz.sizeOf54 rfl rfl _)) <| .gF rfl (.inr rfl) rfl rfl rfl (fun hg => rk (q_load1 Tryz.isAgg54 (opT rfl (nt hg)) rfl rfl)) <| .gF rfl (.inl rfl) rfl rfl rfl (fun hg => pk (fun _ => q_eqlS (opT rfl (nt hg)) rfl _)) <| .P rfl (q_or rfl rfl) <| .mv rfl rfl <| .gF rfl (.inl rfl) rfl rfl rfl (fun hg => pk (fun _ => q_fieldB (n := 0) 9 0 Tryz.underlying56 Tryz.sizeOf9 rfl rfl _)) <| .gF rfl (.inr rfl) rfl rfl rfl (fun hg => rk (q_load1 Tryz.isAgg9 (opT rfl (nt hg)) rfl rfl)) <| .gF rfl (.inl rfl) rfl rfl rfl (fun hg => pk (fun _ => q_call Tryz.call115 (opsC (opT rfl (nt hg)) (rfl)) (account_ok _) _)) <| .gF rfl (.inl rfl) rfl rfl rfl (fun hg => pk (fun _ => q_neq (opT rfl (nt hg)) rfl _)) <| .P rfl (q_or rfl rfl) <| .nil ?_
   refine Run.condF rfl (by simp [hxb.code, hne]) ?_
   refine Run.skip ?_
   refine Run.seq (Run.regD [.p, .p, .p, .p, .p, .p, .p, .p, .p, .p, .p, .p, .p, .p, .p, .p, .p, .r, .p, .r, .p, .p, .p, .p] Tryz_mixed (by decide +kernel) ?_)
   refine .mv rfl rfl <| .P rfl (q_gtr rfl rfl) <| .mv rfl rfl ?_
   refine .split (t := 38) rfl (fun h1 => ?_) (fun h1 => ?_)
   ·have ph1 := h1
    try simp only [bs, bne_iff_ne, ne_eq, List.length_map] at ph1
    refine .p rfl (on_of rfl rfl rfl h1) (fun _ => q_move rfl _) <| .p rfl (on_of rfl rfl rfl h1) (fun _ => q_move rfl _) <| .p rfl (on_of rfl rfl rfl h1) (fun _ => q_sub rfl rfl (wrap64_ok (by first | omega | (simp; done) | (simp; omega) | (simp at *; omega)) (by first | omega | (simp; done) | (simp; omega) | (simp at *; omega))) _) <| .p rfl (on_of rfl rfl rfl h1) (fun _ => q_indexI Tryz.underlying45 Tryz.sizeOf56 rfl rfl (by simp at *; omega) (idx_last encBalance hx (by simp at *; omega) (by omega)) _) <| .p rfl (on_of rfl rfl rfl h1) (fun _ => q_fieldI (n := 0) 9 0 Tryz.underlying56 Tryz.sizeOf9 rfl rfl rfl _) <| .p rfl (on_of rfl rfl rfl h1) (fun _ => q_loadI Tryz.isAgg9 rfl _) <| .p rfl (on_of rfl rfl rfl h1) (fun _ => q_move rfl _) <| .p rfl (on_of rfl rfl rfl h1) (fun _ => q_move rfl _) <| .p rfl (on_of rfl rfl rfl h1) (fun _ => q_sub rfl rfl (wrap64_ok (by first | omega | (simp; done) | (simp; omega) | (simp at *; omega)) (by first | omega | (simp; done) | (simp; omega) | (simp at *; omega))) _) <| .p rfl (on_of rfl rfl rfl h1) (fun _ => q_indexI Tryz.underlying45 Tryz.sizeOf56 rfl rfl (by simp at *; omega) (idx_last encBalance hx (by simp at *; omega) (by omega)) _) <| .p rfl (on_of rfl rfl rfl h1) (fun _ => q_fieldI (n := 0) 9 1 Tryz.underlying56 Tryz.sizeOf9 rfl rfl rfl _) <| .p rfl (on_of rfl rfl rfl h1) (fun _ => q_loadI Tryz.isAgg9 rfl _) <| .p rfl (on_of rfl rfl rfl h1) (fun _ => q_build (pl := #[(0, 1), (1, 1)]) Tryz.underlying110 Tryz.zeroValue110 (fun w => by kernel_rfl) rfl rfl _) ?_
    refine .p rfl (on_of rfl rfl rfl h1) (fun _ => q_fieldB (n := 0) 9 0 Tryz.underlying56 Tryz.sizeOf9 rfl rfl _) <| .r rfl (on_of rfl rfl rfl h1) (q_load1 Tryz.isAgg9 rfl rfl rfl) <| .p rfl (on_of rfl rfl rfl h1) (fun _ => q_fieldB (n := 0) 9 1 Tryz.underlying56 Tryz.sizeOf9 rfl rfl _) <| .r rfl (on_of rfl rfl rfl h1) (q_load1 Tryz.isAgg9 rfl rfl rfl) <| .p rfl (on_of rfl rfl rfl h1) (fun _ => q_build (pl := #[(0, 1), (1, 1)]) Tryz.underlying110 Tryz.zeroValue110 (fun w => by kernel_rfl) rfl rfl _) <| .p rfl (on_of rfl rfl rfl h1) (fun _ => q_call Tryz.call124 rfl (ledgerCmp_ok _ _ _ _) _) <| .p rfl (on_of rfl rfl rfl h1) (fun _ => q_geq rfl rfl _) <| .P rfl (q_pickT rfl h1 rfl) <| .nil ?_
    refine Run.condF rfl (by exact orI_neg (hb0.bal.last hx (by simp at *; omega))) ?_
    refine Run.skip ?_
    refine Run.nil (bq_norm ?_)
    refine Run.reg [.p, .p] ?_
    refine .P rfl (q_add rfl rfl (wrap64_ok (by first | omega | (simp; done) | (simp; omega) | (simp at *; omega)) (by first | omega | (simp; done) | (simp; omega) | (simp at *; omega)))) <| .mv rfl rfl <| .nil ?_
    refine Run.nil (tq_norm ?_)
    exact ⟨⟨pre ++ [x], rest, by simp [hx]⟩, by simp, Le.mk rfl (.same rfl rfl (.same rfl rfl (.cons rfl Sub.intA rfl (.cons rfl Sub.intA rfl .nil)))) .nil⟩
   ·have ph1 := h1
    try simp only [bs, bne_iff_ne, ne_eq, List.length_map] at ph1
    refine .off rfl (off_of rfl rfl rfl h1) ?_
    refine .off rfl (off_of rfl rfl rfl h1) ?_
    refine .off rfl (off_of rfl rfl rfl h1) ?_
    refine .off rfl (off_of rfl rfl rfl h1) ?_
    refine .off rfl (off_of rfl rfl rfl h1) ?_
    refine .off rfl (off_of rfl rfl rfl h1) ?_
    refine .off rfl (off_of rfl rfl rfl h1) ?_
    refine .off rfl (off_of rfl rfl rfl h1) ?_
    refine .off rfl (off_of rfl rfl rfl h1) ?_
    refine .off rfl (off_of rfl rfl rfl h1) ?_
    refine .off rfl (off_of rfl rfl rfl h1) ?_
    refine .off rfl (off_of rfl rfl rfl h1) ?_
    refine .off rfl (off_of rfl rfl rfl h1) ?_
    refine .off rfl (off_of rfl rfl rfl h1) ?_
    refine .off rfl (off_of rfl rfl rfl h1) ?_
    refine .off rfl (off_of rfl rfl rfl h1) ?_
    refine .off rfl (off_of rfl rfl rfl h1) ?_
    refine .off rfl (off_of rfl rfl rfl h1) ?_
    refine .off rfl (off_of rfl rfl rfl h1) ?_
    refine .off rfl (off_of rfl rfl rfl h1) ?_
    refine .P rfl (q_pickF rfl h1 rfl) <| .nil ?_
    refine Run.condF rfl rfl ?_
    refine Run.skip ?_
    refine Run.nil (bq_norm ?_)
    refine Run.reg [.p, .p] ?_
    refine .P rfl (q_add rfl rfl (wrap64_ok (by first | omega | (simp; done) | (simp; omega) | (simp at *; omega)) (by first | omega | (simp; done) | (simp; omega) | (simp at *; omega)))) <| .mv rfl rfl <| .nil ?_
    refine Run.nil (tq_norm ?_)
    exact ⟨⟨pre ++ [x], rest, by simp [hx]⟩, by simp, Le.mk rfl (.same rfl rfl (.same rfl rfl (.cons rfl Sub.intA rfl (.cons rfl Sub.intA rfl .nil)))) .nil⟩
structure minusB_ok_L0 (a b : List Balance) where
 pre : List Balance
 rest : List Balance
 hx : a = pre ++ rest
structure minusB_ok_L1 (a b : List Balance) (pre : List Balance) where
 preq : List Balance
 restq : List Balance
 hxq : b = preq ++ restq
theorem minusB_ok (a b : List Balance) (ha : BalOK a) (hb : BalOK b) : Fc Tryz.prog 23 [sBals a, sBals b] (.tup [sBals (minusB a b), .i 0]) := by
 refine Fc.mk' [4, 5] Tryz.func23 rfl Tryz.ntmps23 rfl rfl rfl (fun t w => results_tmp2 Tryz.results23 t _ w) ?_
 have hal0 := ha.len
 have hbl0 := hb.len
 refine Run.seq (Run.reg [.p, .p] ?_)
 refine .ag rfl rfl <| .ag rfl rfl <| .nil ?_
 refine Run.seq (Run.seq (Run.reg [.p, .p, .p, .p, .p, .p, .p, .p] ?_))
 refine .mv rfl rfl <| .P rfl (q_call Tryz.call73 rfl (balList_ok a ha)) <| .P rfl (q_not rfl) <| .mv rfl rfl <| .p rfl (on_of rfl rfl rfl rfl) (fun _ => q_move rfl _) <| .p rfl (on_of rfl rfl rfl rfl) (fun _ => q_call Tryz.call73 rfl (balList_ok b hb) _) <| .p rfl (on_of rfl rfl rfl rfl) (fun _ => q_not rfl _) <| .P rfl (q_pickF rfl rfl rfl) <| .nil ?_
 refine Run.condF rfl rfl ?_
 refine Run.skip ?_
 refine Run.seq (Run.reg [.w, .p] ?_)
 refine .W rfl (q_makeMapG 0 kPair (D.str) rfl) <| .ag rfl rfl <| .nil ?_
 refine Run.seq (Run.seq (Run.reg [.p, .p, .p] ?_))
 refine .mv rfl rfl <| .P rfl (q_lenI Tryz.underlying45 rfl) <| .mv rfl rfl <| .nil ?_
 refine Run.block ?_
 refine Run.loop (ι := minusB_ok_L0 a b) (fun sx => [(1, sBals b), (6, .mapr 0), (20, sBals a), (21, .i a.length), (22, .i sx.pre.length)]) (fun sx => [(0, .mp (encGM kPair D.str (sumBM [] sx.pre)))]) (fun sx => sx.rest.length) ⟨[], a, rfl⟩ ?_ ?_
 ·exact Le.mk rfl (.same rfl rfl (.same rfl rfl (.same rfl rfl (.cons rfl Sub.intA rfl (.cons rfl Sub.intA rfl .nil))))) (.eq rfl (by first | rfl | rw [sumBM_snoc]) (okB_KM _ _) .nil)
 ·rintro ⟨pre, rest, hx⟩
  show Run _ _ _ _ [(1, sBals b), (6, .mapr 0), (20, sBals a), (21, .i a.length), (22, .i pre.length)] [(0, .mp (encGM kPair D.str (sumBM [] pre)))]
  have hl := congrArg List.length hx
  simp only [List.length_append] at hl
  rcases rest with _ | ⟨x, rest⟩
  ·have hpre : pre = a := by simp [hx]
   have hap : BalOK pre := hpre ▸ ha
   refine Run.seq (Run.reg [.p] ?_)
   refine .P rfl (q_lss rfl rfl) <| .nil ?_
   refine Run.seq ?_
   refine Run.condF rfl (by simp at hl ⊢; omega) ?_
   refine Run.exit (tq_exit (bq_exit ?_))
   refine Run.seq (Run.seq (Run.reg [.p, .p, .p] ?_))
   refine .mv rfl rfl <| .P rfl (q_lenI Tryz.underlying45 rfl) <| .mv rfl rfl <| .nil ?_
   refine Run.block ?_
   refine Run.loop (ι := minusB_ok_L1 a b pre) (fun sx => [(6, .mapr 0), (36, sBals b), (37, .i b.length), (38, .i sx.preq.length)]) (fun sx => [(0, .mp (encGM kPair D.str (difBM (sumBM [] pre) sx.preq)))]) (fun sx => sx.restq.length) ⟨[], b, rfl⟩ ?_ ?_
   ·exact Le.mk rfl (.same rfl rfl (.same rfl rfl (.cons rfl Sub.intA rfl (.cons rfl Sub.intA rfl .nil)))) (.eq rfl (by first | rfl | rw [difBM_snoc]) (okB_KM _ _) .nil)
   ·rintro ⟨preq, restq, hxq⟩
    show Run _ _ _ _ [(6, .mapr 0), (36, sBals b), (37, .i b.length), (38, .i preq.length)] [(0, .mp (encGM kPair D.str (difBM (sumBM [] pre) preq)))]
    have hlq := congrArg List.length hxq
    simp only [List.length_append] at hlq
    rcases restq with _ | ⟨xq, restq⟩
    ·have hpreq : preq = b := by simp [hxq]
     have hbp : BalOK preq := hpreq ▸ hb
     have hok := difBM_ok hap.fld hbp.fld
     have hmv := (MapV.nil.plus pre).less preq
     have hal := hap.len
     have hbl := hbp.len
     refine Run.seq (Run.reg [.p] ?_)
     refine .P rfl (q_lss rfl rfl) <| .nil ?_
     refine Run.seq ?_
     refine Run.condF rfl (by simp at hlq ⊢; omega) ?_
     refine Run.exit (tq_exit (bq_exit ?_))
     refine Run.weak (Le.freezeM (kD := kPair) (vD := D.str) (m := (difBM (sumBM [] pre) preq)) 6 0 rfl rfl (fun _ => rfl) (fun _ => rfl)) ?_
     refine Run.seq (Run.reg [.p, .p, .p, .p] ?_)
     refine .mv rfl rfl <| .P rfl (q_call Tryz.call76 rfl (list_ok (difBM (sumBM [] pre) preq) (by have := hok.2; omega) hok.1 hmv.nodup)) <| .ag rfl rfl <| .ag rfl rfl <| .nil ?_
     refine Run.ret (?_)
     exact ret2 rfl rfl (Sub.snap (by unfold minusB; rw [← hpre, ← hpreq])) (Sub.int (by rfl))
    ·simp only [List.length_cons] at hlq
     have hxb := hb.fld xq (by rw [hxq]; simp)
     have hbl := hb.len
     have hal := hap.len
     have hgl := less_get (a := pre) (b := preq) (bkey xq) hap.fld hal (fun y hy => hb.fld y (by rw [hxq]; simp [hy])) (by omega)
     have hxl := hxb.len
     have hnl : (negS xq.amount).length ≤ 32 := by have := negS_len xq.amount; omega
     refine Run.seq (Run.reg [.p] ?_)
     refine .P rfl (q_lss rfl rfl) <| .nil ?_
     refine Run.seq ?_
     refine Run.condT rfl (by simp; omega) ?_
     refine Run.skip ?_
     refine Run.seq ?_
     refine Run.block ?_
     refine Run.seq (Run.reg [.p, .p, .w, .w] ?_)
     refine .P rfl (q_indexI Tryz.underlying45 Tryz.sizeOf56 rfl rfl (by omega) (idx_mid encBalance hxq rfl)) <| .P rfl (q_loadIA Tryz.isAgg56 Tryz.sizeOf56 rfl rfl) <| .W rfl (q_alloc 1 Tryz.zeroValue56 rfl) <| .W rfl (q_storeW Tryz.sizeOf56 rfl rfl rfl rfl rfl rfl) <| .nil ?_
     refine Run.regD [.p, .p, .r, .p, .r, .p, .p, .r, .p, .w] Tryz_mixed (by decide +kernel) ?_
     refine .mv rfl rfl <| .P rfl (q_fieldB (n := 0) 9 0 Tryz.underlying56 Tryz.sizeOf9 rfl rfl) <| .R rfl (q_load1 Tryz.isAgg9 rfl rfl rfl) <| .P rfl (q_fieldB (n := 0) 9 1 Tryz.underlying56 Tryz.sizeOf9 rfl rfl) <| .R rfl (q_load1 Tryz.isAgg9 rfl rfl rfl) <| .P rfl (q_build (pl := #[(0, 1), (1, 1)]) Tryz.underlying110 Tryz.zeroValue110 (fun w => by kernel_rfl) rfl rfl) <| .P rfl (q_fieldB (n := 0) 54 2 Tryz.underlying56 Tryz.sizeOf54 rfl rfl) <| .R rfl (q_load1 Tryz.isAgg54 rfl rfl rfl) <| .P rfl (q_call Tryz.call75 rfl (neg2_ok _ (by omega))) <| .W rfl (q_callO Tryz.call74 rfl (addKey_ok (difBM (sumBM [] pre) preq) (bkey xq) (negS xq.amount) (by omega) (by omega)) (.cons rfl (okB_KM _ _) .nil) rfl rfl) <| .nil ?_
     refine Run.nil (bq_norm ?_)
     refine Run.reg [.p, .p] ?_
     refine .P rfl (q_add rfl rfl (wrap64_ok (by first | omega | (simp; done) | (simp; omega) | (simp at *; omega)) (by first | omega | (simp; done) | (simp; omega) | (simp at *; omega)))) <| .mv rfl rfl <| .nil ?_
     refine Run.nil (tq_norm ?_)
     exact ⟨⟨preq ++ [xq], restq, by simp [hxq]⟩, by simp, Le.mk rfl (.same rfl rfl (.same rfl rfl (.cons rfl Sub.intA rfl (.cons rfl Sub.intA rfl .nil)))) (.eq rfl (by first | rfl | rw [difBM_snoc]) (okB_KM _ _) .nil)⟩
  ·simp only [List.length_cons] at hl
   have hxb := ha.fld x (by rw [hx]; simp)
   have hal := ha.len
   have hgl := plus_get (a := pre) (bkey x) (fun y hy => ha.fld y (by rw [hx]; simp [hy])) (by omega)
   have hxl := hxb.len
   refine Run.seq (Run.reg [.p] ?_)
   refine .P rfl (q_lss rfl rfl) <| .nil ?_
   refine Run.seq ?_
   refine Run.condT rfl (by simp; omega) ?_
   refine Run.skip ?_
   refine Run.seq ?_
   refine Run.block ?_
   refine Run.seq (Run.reg [.p, .p, .w, .w] ?_)
   refine .P rfl (q_indexI Tryz.underlying45 Tryz.sizeOf56 rfl rfl (by omega) (idx_mid encBalance hx rfl)) <| .P rfl (q_loadIA Tryz.isAgg56 Tryz.sizeOf56 rfl rfl) <| .W rfl (q_alloc 1 Tryz.zeroValue56 rfl) <| .W rfl (q_storeW Tryz.sizeOf56 rfl rfl rfl rfl rfl rfl) <| .nil ?_
   refine Run.reg [.p, .p, .r, .p, .r, .p, .p, .r, .w] ?_
   refine .mv rfl rfl <| .P rfl (q_fieldB (n := 0) 9 0 Tryz.underlying56 Tryz.sizeOf9 rfl rfl) <| .R rfl (q_load1 Tryz.isAgg9 rfl rfl rfl) <| .P rfl (q_fieldB (n := 0) 9 1 Tryz.underlying56 Tryz.sizeOf9 rfl rfl) <| .R rfl (q_load1 Tryz.isAgg9 rfl rfl rfl) <| .P rfl (q_build (pl := #[(0, 1), (1, 1)]) Tryz.underlying110 Tryz.zeroValue110 (fun w => by kernel_rfl) rfl rfl) <| .P rfl (q_fieldB (n := 0) 54 2 Tryz.underlying56 Tryz.sizeOf54 rfl rfl) <| .R rfl (q_load1 Tryz.isAgg54 rfl rfl rfl) <| .W rfl (q_callO Tryz.call74 rfl (addKey_ok (sumBM [] pre) (bkey x) x.amount (by omega) (by omega)) (.cons rfl (okB_KM _ _) .nil) rfl rfl) <| .nil ?_
   refine Run.nil (bq_norm ?_)
   refine Run.reg [.p, .p] ?_
   refine .P rfl (q_add rfl rfl (wrap64_ok (by first | omega | (simp; done) | (simp; omega) | (simp at *; omega)) (by first | omega | (simp; done) | (simp; omega) | (simp at *; omega)))) <| .mv rfl rfl <| .nil ?_
   refine Run.nil (tq_norm ?_)
   exact ⟨⟨pre ++ [x], rest, by simp [hx]⟩, by simp, Le.mk rfl (.same rfl rfl (.same rfl rfl (.same rfl rfl (.cons rfl Sub.intA rfl (.cons rfl Sub.intA rfl .nil))))) (.eq rfl (by first | rfl | rw [sumBM_snoc]) (okB_KM _ _) .nil)⟩
structure same43_ok_L0 (a b : List Balance) where
 pre : List Balance
 rest : List Balance
 sb : List Balance
 hx : a = pre ++ rest
 hxb : b = pre ++ sb
 hll : rest.length = sb.length
theorem same43_ok (a b : List Balance) : Fc Tryz.prog 24 [sBals a, sBals b] (.b (decide (a = b))) := by
 refine Fc.mk' [4] Tryz.func24 rfl Tryz.ntmps24 rfl rfl rfl (fun t w => results_tmp Tryz.results24 t _ w) ?_
 refine Run.bSnap 0 rfl (fun hb => ?_)
 simp only [List.length_map, big] at hb
 refine Run.seq (Run.reg [.p] ?_)
 refine .ag rfl rfl <| .nil ?_
 refine Run.seq (Run.seq (Run.reg [.p, .p, .p, .p, .p] ?_))
 refine .mv rfl rfl <| .P rfl (q_lenI Tryz.underlying45 rfl) <| .mv rfl rfl <| .P rfl (q_lenI Tryz.underlying45 rfl) <| .P rfl (q_neq rfl rfl) <| .nil ?_
 refine Run.cond rfl (fun h1 => ?_) (fun h1 => ?_)
 ·have ph1 := h1
  try simp only [bs, bne_iff_ne, ne_eq, List.length_map] at ph1
  refine Run.seq (Run.reg [.p] ?_)
  refine .ag rfl rfl <| .nil ?_
  refine Run.ret (?_)
  exact ret1 rfl (Sub.bool (by first | (obtain rfl : sb = [] := List.length_eq_zero_iff.1 hll.symm; simp [hx, hxb]; done) | (subst hx; subst hxb; simp; intro h; subst h; simp_all) | grind))
 ·have ph1 := h1
  try simp only [bs, bne_iff_ne, ne_eq, List.length_map] at ph1
  refine Run.skip ?_
  refine Run.seq (Run.seq (Run.reg [.p] ?_))
  refine .ag rfl rfl <| .nil ?_
  refine Run.block ?_
  refine Run.loop (ι := same43_ok_L0 a b) (fun sx => [(0, sBals a), (1, sBals b), (5, .i sx.pre.length)]) (fun sx => []) (fun sx => sx.rest.length) ⟨[], a, b, rfl, rfl, by grind⟩ ?_ ?_
  ·exact Le.mk rfl (.same rfl rfl (.same rfl rfl (.cons rfl Sub.intA rfl .nil))) .nil
  ·rintro ⟨pre, rest, sb, hx, hxb, hll⟩
   show Run _ _ _ _ [(0, sBals a), (1, sBals b), (5, .i pre.length)] []
   have hl := congrArg List.length hx
   simp only [List.length_append] at hl
   rcases rest with _ | ⟨x, rest⟩
   ·skip
    refine Run.seq (Run.seq (Run.reg [.p, .p, .p, .p] ?_))
    refine .mv rfl rfl <| .mv rfl rfl <| .P rfl (q_lenI Tryz.underlying45 rfl) <| .P rfl (q_lss rfl rfl) <| .nil ?_
    refine Run.condF rfl (by simp at hl ⊢; omega) ?_
    refine Run.exit (tq_exit (bq_exit ?_))
    refine Run.seq (Run.reg [.p] ?_)
    refine .ag rfl rfl <| .nil ?_
    refine Run.ret (?_)
    exact ret1 rfl (Sub.bool (by first | (obtain rfl : sb = [] := List.length_eq_zero_iff.1 hll.symm; simp [hx, hxb]; done) | (subst hx; subst hxb; simp; intro h; subst h; simp_all) | grind))
   ·simp only [List.length_cons] at hl
    rcases sb with _ | ⟨y, sb⟩
    ·simp at hll
    refine Run.seq (Run.seq (Run.reg [.p, .p, .p, .p] ?_))
    refine .mv rfl rfl <| .mv rfl rfl <| .P rfl (q_lenI Tryz.underlying45 rfl) <| .P rfl (q_lss rfl rfl) <| .nil ?_
    refine Run.condT rfl (by simp; omega) ?_
    refine Run.skip ?_
    refine Run.seq ?_
    refine Run.block ?_
    refine Run.seq (Run.regD [.p, .p, .p, .p, .p, .p, .p, .p, .p] Tryz_mixed (by decide +kernel) ?_)
    refine .mv rfl rfl <| .mv rfl rfl <| .P rfl (q_indexI Tryz.underlying45 Tryz.sizeOf56 rfl rfl (by omega) (idx_mid encBalance hx rfl)) <| .P rfl (q_loadIA Tryz.isAgg56 Tryz.sizeOf56 rfl rfl) <| .mv rfl rfl <| .mv rfl rfl <| .P rfl (q_indexI Tryz.underlying45 Tryz.sizeOf56 rfl rfl (by omega) (idx_mid encBalance hxb rfl)) <| .P rfl (q_loadIA Tryz.isAgg56 Tryz.sizeOf56 rfl rfl) <| .P rfl (q_neqA (xs := [x.account, x.currency, x.amount]) (ys := [y.account, y.currency, y.amount]) Tryz.underlying56 (by kernel_rfl) (by kernel_rfl) (.cons (by decide +kernel) Tryz.underlying9 Tryz.isAgg9 rfl (.cons (by decide +kernel) Tryz.underlying9 Tryz.isAgg9 rfl (.cons (by decide +kernel) Tryz.underlying54 Tryz.isAgg54 rfl (.nil _)))) rfl rfl rfl rfl rfl rfl) <| .nil ?_
    refine Run.cond rfl (fun h2 => ?_) (fun h2 => ?_)
    ·have ph2 := h2
     try simp only [bs, bne_iff_ne, ne_eq, List.length_map] at ph2
     refine Run.seq (Run.reg [.p] ?_)
     refine .ag rfl rfl <| .nil ?_
     refine Run.ret (bq_ret (tq_ret (bq_ret (?_))))
     exact ret1 rfl (Sub.bool (by first | (obtain rfl : sb = [] := List.length_eq_zero_iff.1 hll.symm; simp [hx, hxb]; done) | (subst hx; subst hxb; simp; intro h; subst h; simp_all) | grind))
    ·have ph2 := h2
     try simp only [bs, bne_iff_ne, ne_eq, List.length_map] at ph2
     refine Run.skip ?_
     refine Run.nil (bq_norm ?_)
     refine Run.reg [.p, .p, .p] ?_
     refine .mv rfl rfl <| .P rfl (q_add rfl rfl (wrap64_ok (by omega) (by omega))) <| .ag rfl rfl <| .nil ?_
     refine Run.nil (tq_norm ?_)
     exact ⟨⟨pre ++ [x], rest, sb, by simp [hx], by rw [hxb, show x = y by cases x; cases y; simp_all]; simp, by simpa using hll⟩, by simp, Le.mk rfl (.same rfl rfl (.same rfl rfl (.cons rfl Sub.intA rfl .nil))) .nil⟩
end Go.T
namespace Go.T
open Go Go.Proofs
theorem okP_days {p : Posted} (h : okP p = true) : p.day ≤ 84005 ∧ p.entry.day ≤ 84005 := by
  obtain ⟨_, h2, h3, _⟩ := okP_parts h
  simp only [validDay, Bool.and_eq_true, decide_eq_true_eq] at h2
  omega
theorem sumE_nil_day {L : List Entry} (h : ∀ e ∈ L, e.day ≤ 84005) : L.filter (fun e => decide (e.day ≤ 84005)) = L := List.filter_eq_self.2 fun e he => by simpa using h e he
/-- The balances of a list of posted entries up to a day. -/
theorem trialP_bal {L : List Posted} (d : Int) (h : okPs L = true) : IsBal (trialP d L) ∧ ∀ k, balK k (trialP d L) = sumE k (upTo d L) := by
  have h1 := trialB_bal 84005 (upTo d L)
  refine ⟨h1.1, fun k => ?_⟩
  rw [trialP, h1.2, sumE_nil_day]
  intro e he
  obtain ⟨p, hp, rfl⟩ := upTo_mem he
  exact (okP_days (okPs_mem h p hp)).2
theorem trialP_ok {L : List Posted} (d : Int) (h : okPs L = true) (hs : smallPs L) (hl : L.length ≤ 1000) : BalOK (trialP d L) := by
  refine trialB_ok (fun e he => ?_) (Nat.le_trans (upTo_len d L) hl)
  obtain ⟨p, hp, rfl⟩ := upTo_mem he
  exact ⟨hs p hp, (okP_parts (okPs_mem h p hp)).1⟩
/-- All that RestateSteps says, in plain words. -/
structure StepsOK (a b : List Entry) (l : List Close) (n : Int) : Prop where
  c : posts a a l n = []
  len : (posts a b l n).length = (posts b a l n).length
  oks : okPs (posts a b l n ++ posts b a l n) = true
  smalls : smallPs (posts a b l n ++ posts b a l n)
  ok1 : okPs (posts a b l n) = true
  small1 : smallPs (posts a b l n)
  sum : trialP 84005 (posts a b l n ++ posts b a l n) = []
  va : validE a = true
  vb : validE b = true
  oka : BalOK (trialB 84005 a)
  okb : BalOK (trialB 84005 b)
  dif : trialP 84005 (posts a b l n) = minusB (trialB 84005 b) (trialB 84005 a)
end Go.T
namespace Go.T
open Go Go.Proofs
set_option maxRecDepth 20000
end Go.T
namespace Go.T
open Go Go.Proofs
def great50 (l : List Posted) : Bool := l.any (fun p => greatOne p.entry || decide (60 < p.by_.length)) || decide (16 < l.length)
theorem greatOne_small {e : Entry} (h : greatOne e = false) : smallE e := by
  simp only [greatOne, Bool.or_eq_false_iff, Bool.and_eq_false_iff, decide_eq_false_iff_not] at h
  refine ⟨by omega, by omega, fun x hx => ?_⟩
  have h3 := List.any_eq_false.1 h.2 x hx
  simp only [greatLine, Bool.or_eq_true, decide_eq_true_eq, not_or] at h3
  exact ⟨by omega, by omega, by omega⟩
theorem great50_small {l : List Posted} (h : great50 l = false) : smallPs l ∧ l.length ≤ 16 := by
  simp only [great50, Bool.or_eq_false_iff, decide_eq_false_iff_not] at h
  refine ⟨fun p hp => ?_, by omega⟩
  have := List.any_eq_false.1 h.1 p hp
  simp only [Bool.or_eq_true, not_or, Bool.not_eq_true] at this
  exact greatOne_small this.1
theorem great50_T {l pre rest : List Posted} {x : Posted} (hx : l = pre ++ x :: rest) (h : (greatOne x.entry || decide (60 < x.by_.length)) = true) : great50 l = true := by
  subst hx; simp [great50, List.any_append, h]
theorem great50_end {l pre : List Posted} (hx : l = pre ++ []) (h : pre.any (fun p => greatOne p.entry || decide (60 < p.by_.length)) = false) : great50 l = decide (16 < l.length) := by
  simp only [List.append_nil] at hx
  subst hx; simp [great50, h]
/-- The result and the error of Trial. -/
def trialX (d : Int) (l : List Posted) : List Balance := if okPs l && validDay d then trialP d l else []
def errX (d : Int) (l : List Posted) : Int := if okPs l then if validDay d then 0 else 13 else 1
theorem trialX_ok {d : Int} {l : List Posted} (h : okPs l = true) (hd : validDay d = true) : trialX d l = trialP d l := by simp [trialX, h, hd]
theorem errX_0 {d : Int} {l : List Posted} (h : okPs l = true) : errX d l = 0 ↔ validDay d = true := by
  cases hd : validDay d <;> simp [errX, h, hd]
theorem errX_13 {d : Int} {l : List Posted} (h : okPs l = true) (he : errX d l ≠ 0) : errX d l = 13 := by
  cases hd : validDay d <;> simp [errX, h, hd] at *
/-! Sums of a currency. -/
def toLine (b : Balance) : Line := ⟨b.account, b.currency, b.amount⟩
def curS (c : Str) : List (Key × Str) → Int
  | [] => 0
  | p :: m => (if p.1.2 = c then val p.2 else 0) + curS c m
theorem val_nil : val [] = 0 := rfl
theorem curS_setG (c : Str) (k : Key) (v : Str) : ∀ m : List (Key × Str), curS c (setG m k v) = curS c m + (if k.2 = c then val v - val (getG [] m k) else 0)
  | [] => by simp [setG, curS, getG, val_nil]
  | (a, u) :: r => by
    by_cases h : k = a
    · subst h
      simp only [setG, if_true, curS, getG]
      split <;> omega
    · have ih := curS_setG c k v r
      simp only [setG, if_neg h, curS, getG, ih]
      omega
theorem curS_addG (c : Str) (m : List (Key × Str)) (k : Key) (a : Str) : curS c (addG m k a) = curS c m + (if k.2 = c then val a else 0) := by
  rw [addG, curS_setG]
  have : val (addS (getG [] m k) a) = val (getG [] m k) + val a := by rw [addS, val_ofInt]
  split <;> omega
theorem curS_lines (c : Str) (m : List (Key × Str)) (ls : List Line) : curS c (linesM m ls) = curS c m + sumV c ls := by
  induction ls using rev_ind with
  | h0 => simp [linesM, sumV]
  | h1 ls x ih =>
    rw [linesM_snoc, curS_addG, ih, sumV_append]
    simp only [sumV, lkey]
    split <;> simp_all <;> omega
theorem sumV_none {c : Str} {ls : List Line} (h : ∀ l ∈ ls, l.currency ≠ c) : sumV c ls = 0 := by
  induction ls with
  | nil => rfl
  | cons x ls ih => simp only [sumV, if_neg (h x List.mem_cons_self), ih fun l hl => h l (List.mem_cons_of_mem _ hl)]; rfl
theorem balanced_all {ls : List Line} (h : balanced ls = true) (c : Str) : sumV c ls = 0 := by
  by_cases hc : ∃ x ∈ ls, x.currency = c
  · obtain ⟨x, hx, rfl⟩ := hc
    simpa using List.all_eq_true.1 h x hx
  · exact sumV_none fun l hl e => hc ⟨l, hl, e⟩
theorem curS_trM (c : Str) (d : Int) {es : List Entry} (h : ∀ e ∈ es, checkE e = 0) : curS c (trM d es) = 0 := by
  induction es using rev_ind with
  | h0 => rfl
  | h1 es x ih =>
    have ih := ih fun e he => h e (by simp [he])
    by_cases hd : x.day ≤ d
    · rw [trM_T hd, curS_lines, ih, balanced_all (checkE_parts.1 (h x (by simp))).2.2.2.2]; rfl
    · rw [trM_F hd, ih]
def curK (c : Str) (g : Key → Str) : List Key → Int
  | [] => 0
  | k :: ks => (if k.2 = c then val (g k) else 0) + curK c g ks
theorem curK_perm {c : Str} {g : Key → Str} {a b : List Key} (h : a.Perm b) : curK c g a = curK c g b := by
  induction h with
  | nil => rfl
  | cons _ _ ih => simp [curK, ih]
  | swap => simp only [curK]; omega
  | trans _ _ h1 h2 => rw [h1, h2]
theorem curK_list (c : Str) (g : Key → Str) : ∀ ks : List Key, sumV c ((listK ks g).map toLine) = curK c g ks
  | [] => rfl
  | k :: ks => by
    have ih := curK_list c g ks
    by_cases h : g k = []
    · have e1 : listK (k :: ks) g = listK ks g := by simp [listK, List.filterMap_cons, h]
      rw [e1, ih]; simp [curK, h, val_nil]
    · have e1 : listK (k :: ks) g = ⟨k.1, k.2, g k⟩ :: listK ks g := by simp [listK, List.filterMap_cons, h]
      rw [e1, List.map_cons, sumV, ih, curK]; rfl
theorem curK_congr {c : Str} {g g' : Key → Str} : ∀ {ks : List Key}, (∀ k ∈ ks, g k = g' k) → curK c g ks = curK c g' ks
  | [], _ => rfl
  | k :: ks, h => by simp only [curK]; rw [h k List.mem_cons_self, curK_congr fun q hq => h q (List.mem_cons_of_mem _ hq)]
theorem curK_map (c : Str) : ∀ m : List (Key × Str), (m.map (·.1)).Nodup → curK c (getG [] m) (m.map (·.1)) = curS c m
  | [], _ => rfl
  | (a, u) :: r, h => by
    simp only [List.map_cons, List.nodup_cons] at h
    simp only [List.map_cons, curK, curS]
    rw [curK_congr (g' := getG [] r) (ks := r.map (·.1)), curK_map c r h.2]
    · simp [getG]
    · intro k hk
      have : k ≠ a := by rintro rfl; exact h.1 hk
      simp [getG, this]
theorem trialB_cur (c : Str) (d : Int) {es : List Entry} (h : ∀ e ∈ es, checkE e = 0) : sumV c ((trialB d es).map toLine) = 0 := by
  unfold trialB listM
  rw [curK_list, curK_perm (sortK_perm0 _), curK_map c _ (trM_val d es).nodup, curS_trM c d h]
theorem trialP_cur (c : Str) {d : Int} {l : List Posted} (h : okPs l = true) : sumV c ((trialP d l).map toLine) = 0 :=
  trialB_cur c _ fun e he => by obtain ⟨p, hp, rfl⟩ := upTo_mem he; exact (okP_parts (okPs_mem h p hp)).1
theorem trialP_allNil {d : Int} {l : List Posted} (h : okPs l = true) : allNil (balM ((trialP d l).map toLine)) = true := by
  rw [allNil_bal, balanced, List.all_eq_true]
  intro x _
  simpa using trialP_cur x.currency h
theorem allNil_vAt {m : SM} (h : allNil m = true) {j : Nat} (hj : j < m.length) : vAt m j = [] := by
  have := List.all_eq_true.1 h m[j] (List.getElem_mem hj)
  simpa [vAt, hj] using this
/-! Between two days. -/
def betw (a b : Int) (l : List Posted) : List Entry := (l.filter fun p => decide (a < p.day) && decide (p.day ≤ b)).map (·.entry)
theorem betw_snoc (a b : Int) (l : List Posted) (x : Posted) : betw a b (l ++ [x]) = betw a b l ++ (if a < x.day ∧ x.day ≤ b then [x.entry] else []) := by
  unfold betw
  by_cases h : a < x.day <;> by_cases h' : x.day ≤ b <;> simp [List.filter_append, h, h']
theorem betw_len (a b : Int) (l : List Posted) : (betw a b l).length ≤ l.length := by simp only [betw, List.length_map]; exact List.length_filter_le _ _
theorem betw_mem {a b : Int} {l : List Posted} {e : Entry} (h : e ∈ betw a b l) : ∃ p ∈ l, p.entry = e := by
  obtain ⟨p, hp, rfl⟩ := List.mem_map.1 h
  exact ⟨p, (List.mem_filter.1 hp).1, rfl⟩
theorem betw_sum {a b : Int} (hab : a ≤ b) (k : Key) (l : List Posted) : sumE k (upTo b l) = sumE k (upTo a l) + sumE k (betw a b l) := by
  induction l using rev_ind with
  | h0 => simp [upTo, betw, sumE]
  | h1 l x ih =>
    rw [upTo_snoc, upTo_snoc, betw_snoc, sumE_append, sumE_append, sumE_append, ih]
    by_cases h1 : x.day ≤ a
    · rw [if_pos h1, if_pos (by omega), if_neg (by omega)]; simp [sumE]; omega
    · by_cases h2 : x.day ≤ b
      · rw [if_neg h1, if_pos h2, if_pos (by omega)]; simp [sumE]; omega
      · rw [if_neg h1, if_neg h2, if_neg (by omega)]; simp [sumE]
theorem betw_valid {a b : Int} {l : List Posted} (h : okPs l = true) : validE (betw a b l) = true := by
  unfold validE
  rw [List.all_eq_true]
  intro e he
  obtain ⟨p, hp, rfl⟩ := betw_mem he
  simpa using (okP_parts (okPs_mem h p hp)).1
theorem betw_trial {a b : Int} (hab : a ≤ b) {l : List Posted} (h : okPs l = true) : minusB (trialP b l) (trialP a l) = trialB 84005 (betw a b l) := by
  have h1 := minusB_bal (trialP b l) (trialP a l)
  have h2 := trialB_bal 84005 (betw a b l)
  refine IsBal.ext h1.1 h2.1 fun k => ?_
  rw [h1.2, h2.2, (trialP_bal b h).2, (trialP_bal a h).2, betw_sum hab, sumE_nil_day]
  · omega
  · intro e he
    obtain ⟨p, hp, rfl⟩ := betw_mem he
    exact (okP_days (okPs_mem h p hp)).2
end Go.T
namespace Go.T
open Go Go.Proofs
theorem sumV_bal {c : Str} {l : List Balance} (h : ∀ b ∈ l, fldB b) : -(l.length * 10000000000000000000000 : Int) ≤ sumV c (l.map toLine) ∧ sumV c (l.map toLine) ≤ l.length * 10000000000000000000000 := by
  induction l with
  | nil => simp [sumV]
  | cons x l ih =>
    have h1 := ih (fun b hb => h b (List.mem_cons_of_mem _ hb))
    have h2 := (h x List.mem_cons_self).v
    have e : (toLine x).amount = x.amount := rfl
    simp only [List.map_cons, sumV, List.length_cons, e]
    split <;> omega
theorem balM_len31 {c : Str} {l : List Balance} (h : ∀ b ∈ l, fldB b) (hl : l.length ≤ 100000) : (getSM (balM (l.map toLine)) c).length ≤ 31 := by
  rw [balM_get]
  have := sumV_bal (c := c) h
  exact ofInt_len30 (by constructor <;> omega)
end Go.T
