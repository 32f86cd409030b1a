/-
  Contracts of the functions that the statement reaches, and the logic in which they are proved (no condition): parts W60, Law9, W61, Card1, Card2, Card3.
-/
import Derived.Test.YtlhemheagekhaaaGreatDoorA16
import Derived.ChangeArms
import Derived.SizedLaws
import Derived.ProofKit
import Derived.OpenShut
import Derived.ReadAgain
import Derived.LaidMore
import Derived.Test.YtlhemheagekhaaaGreatDoorCards
import Derived.Test.YtlhemheagekhaaaGreatDoorTie
import Derived.Lay
import Derived.SevenTiedAt
import Derived.Stop.Joined
set_option linter.all false
namespace Go.T
open Go Go.Proofs
set_option maxRecDepth 20000
theorem restValid_ok (d : Int) : Fc Tryz.prog 68 [.i d] (.b (validDay d)) := by
 refine Fc.mk' [2] Tryz.func68 rfl Tryz.ntmps68 rfl rfl rfl (fun t w => results_tmp Tryz.results68 t _ w) ?_
 refine Run.seq (Run.reg [.p] ?_)
 refine .ag rfl rfl <| .nil ?_
 refine Run.seq (Run.reg [.p, .p, .p, .p, .p, .p, .p] ?_)
 refine .mv rfl rfl <| .P rfl (q_geq rfl rfl) <| .mv rfl rfl <| .gT rfl (.inl rfl) rfl rfl rfl (fun hg => pk (fun _ => q_move rfl _)) <| .gT rfl (.inl rfl) rfl rfl rfl (fun hg => pk (fun _ => q_leq (opT rfl hg) rfl _)) <| .P rfl (q_and rfl rfl) <| .ag rfl rfl <| .nil ?_
 refine Run.ret (?_)
 exact ret1 rfl (Sub.bool (by rfl))
theorem isPosted_ok (p : Posted) (hs : smallE p.entry) : Fc Tryz.prog 122 [.agg (encPosted p)] (.b (okP p)) := by
 refine Fc.mk' [2] Tryz.func122 rfl Tryz.ntmps122 rfl rfl rfl (fun t w => results_tmp Tryz.results122 t _ w) ?_
 refine Run.seq (Run.reg [.w, .p] ?_)
 refine .W rfl (q_boxA 0 rfl rfl) <| .ag rfl rfl <| .nil ?_
 refine Run.seq (Run.reg [.p, .r, .p, .p, .p, .p, .r, .p, .p, .p, .p, .r, .p, .p, .r, .p, .p, .p, .p, .r, .p, .p, .p, .p, .r, .p, .p, .p] ?_)
 refine .P rfl (q_fieldB (n := 2) 37 3 Tryz.underlying39 Tryz.sizeOf37 rfl rfl) <| .R rfl (q_loadA Tryz.isAgg37 Tryz.sizeOf37 rfl rfl (by simp) rfl) <| .P rfl (q_call Tryz.call18 rfl (check_ok p.entry hs)) <| .P rfl (q_eql rfl rfl) <| .mv rfl rfl <| .gT rfl (.inl rfl) rfl rfl rfl (fun hg => pk (fun _ => q_fieldB (n := 0) 34 0 Tryz.underlying39 Tryz.sizeOf34 rfl rfl _)) <| .gT rfl (.inr rfl) rfl rfl rfl (fun hg => rk (q_load1 Tryz.isAgg34 (opT rfl hg) rfl rfl)) <| .gT rfl (.inl rfl) rfl rfl rfl (fun hg => pk (fun _ => q_call Tryz.call68 (opsC (opT rfl hg) (rfl)) (restValid_ok _) _)) <| .P rfl (q_and rfl rfl) <| .mv rfl rfl <| .gT rfl (.inl rfl) rfl rfl rfl (fun hg => pk (fun _ => q_fieldB (n := 0) 34 0 Tryz.underlying39 Tryz.sizeOf34 rfl rfl _)) <| .gT rfl (.inr rfl) rfl rfl rfl (fun hg => rk (q_load1 Tryz.isAgg34 (opT rfl hg) rfl rfl)) <| .gT rfl (.inl rfl) rfl rfl rfl (fun hg => pk (fun _ => q_fieldB (n := 2) 37 3 Tryz.underlying39 Tryz.sizeOf37 rfl rfl _)) <| .gT rfl (.inl rfl) rfl rfl rfl (fun hg => pk (fun _ => q_fieldB (n := 0) 34 0 Tryz.underlying37 Tryz.sizeOf34 rfl (opT rfl hg) _)) <| .gT rfl (.inr rfl) rfl rfl rfl (fun hg => rk (q_load1 Tryz.isAgg34 (opT rfl hg) rfl rfl)) <| .gT rfl (.inl rfl) rfl rfl rfl (fun hg => pk (fun _ => q_geq (opT rfl hg) (opT rfl hg) _)) <| .P rfl (q_and rfl rfl) <| .mv rfl rfl <| .gT rfl (.inl rfl) rfl rfl rfl (fun hg => pk (fun _ => q_fieldB (n := 0) 3 1 Tryz.underlying39 Tryz.sizeOf3 rfl rfl _)) <| .gT rfl (.inr rfl) rfl rfl rfl (fun hg => rk (q_load1 Tryz.isAgg3 (opT rfl hg) rfl rfl)) ?_
 refine .gT rfl (.inl rfl) rfl rfl rfl (fun hg => pk (fun _ => q_geq (opT rfl hg) rfl _)) <| .P rfl (q_and rfl rfl) <| .mv rfl rfl <| .gT rfl (.inl rfl) rfl rfl rfl (fun hg => pk (fun _ => q_fieldB (n := 0) 9 2 Tryz.underlying39 Tryz.sizeOf9 rfl rfl _)) <| .gT rfl (.inr rfl) rfl rfl rfl (fun hg => rk (q_load1 Tryz.isAgg9 (opT rfl hg) rfl rfl)) <| .gT rfl (.inl rfl) rfl rfl rfl (fun hg => pk (fun _ => q_call Tryz.call45 (opsC (opT rfl hg) (rfl)) (name_ok _) _)) <| .P rfl (q_and rfl rfl) <| .ag rfl rfl <| .nil ?_
 refine Run.ret (?_)
 exact ret1 rfl (Sub.bool (by simp [okP, Bool.and_assoc] <;> grind))
structure postList_ok_L0 (l : List Posted) where
 pre : List Posted
 rest : List Posted
 hx : l = pre ++ rest
 hp : pre.all okP = true ∧ adjK pre = true
 hl0 : l.length ≤ 10000
theorem postList_ok (l : List Posted) (hs : smallPs l) : Fc Tryz.prog 67 [sPosteds l] (.b (okPs l)) := by
 refine Fc.mk' [2] Tryz.func67 rfl Tryz.ntmps67 rfl rfl rfl (fun t w => results_tmp Tryz.results67 t _ w) ?_
 refine Run.bSnap 0 rfl (fun hb => ?_)
 simp only [List.length_map, big] at hb
 refine Run.seq (Run.reg [.p] ?_)
 refine .ag rfl rfl <| .nil ?_
 refine Run.seq (Run.seq (Run.reg [.p, .p, .p] ?_))
 refine .mv rfl rfl <| .P rfl (q_lenI Tryz.underlying27 rfl) <| .P rfl (q_gtr rfl rfl) <| .nil ?_
 refine Run.cond rfl (fun h1 => ?_) (fun h1 => ?_)
 ·have ph1 := h1
  try simp only [bs, bne_iff_ne, ne_eq, List.length_map] at ph1
  refine Run.seq (Run.reg [.p] ?_)
  refine .ag rfl rfl <| .nil ?_
  refine Run.ret (?_)
  exact ret1 rfl (Sub.bool (by first | exact (okPs_end hx hp hl0).symm | exact (okPs_bad hx (by grind)).symm | (simp [okPs]; omega)))
 ·have ph1 := h1
  try simp only [bs, bne_iff_ne, ne_eq, List.length_map] at ph1
  refine Run.skip ?_
  refine Run.seq (Run.seq (Run.reg [.p, .p, .p] ?_))
  refine .mv rfl rfl <| .P rfl (q_lenI Tryz.underlying27 rfl) <| .mv rfl rfl <| .nil ?_
  refine Run.block ?_
  refine Run.loop (ι := postList_ok_L0 l) (fun sx => [(0, sPosteds l), (8, sPosteds l), (9, .i l.length), (10, .i sx.pre.length)]) (fun sx => []) (fun sx => sx.rest.length) ⟨[], l, rfl, ⟨rfl, rfl⟩, by simp at *; omega⟩ ?_ ?_
  ·exact Le.mk rfl (.same rfl rfl (.same rfl rfl (.cons rfl Sub.intA rfl (.cons rfl Sub.intA rfl .nil)))) .nil
  ·rintro ⟨pre, rest, hx, hp, hl0⟩
   show Run _ _ _ _ [(0, sPosteds l), (8, sPosteds l), (9, .i l.length), (10, .i pre.length)] []
   have hl := congrArg List.length hx
   simp only [List.length_append] at hl
   rcases rest with _ | ⟨x, rest⟩
   ·skip
    refine Run.seq (Run.reg [.p] ?_)
    refine .P rfl (q_lss rfl rfl) <| .nil ?_
    refine Run.seq ?_
    refine Run.condF rfl (by simp at hl ⊢; omega) ?_
    refine Run.exit (tq_exit (bq_exit ?_))
    refine Run.seq (Run.reg [.p] ?_)
    refine .ag rfl rfl <| .nil ?_
    refine Run.ret (?_)
    exact ret1 rfl (Sub.bool (by first | exact (okPs_end hx hp hl0).symm | exact (okPs_bad hx (by grind)).symm | (simp [okPs]; omega)))
   ·simp only [List.length_cons] at hl
    refine Run.seq (Run.reg [.p] ?_)
    refine .P rfl (q_lss rfl rfl) <| .nil ?_
    refine Run.seq ?_
    refine Run.condT rfl (by simp; omega) ?_
    refine Run.skip ?_
    refine Run.seq ?_
    refine Run.block ?_
    refine Run.seq (Run.reg [.p, .p, .p, .w, .p, .w] ?_)
    refine .mv rfl rfl <| .P rfl (q_indexI Tryz.underlying27 Tryz.sizeOf39 rfl rfl (by omega) (idx_mid encPosted hx rfl)) <| .P rfl (q_loadIA Tryz.isAgg39 Tryz.sizeOf39 rfl rfl) <| .W rfl (q_alloc 0 Tryz.zeroValue39 rfl) <| .ag rfl rfl <| .W rfl (q_storeW Tryz.sizeOf39 rfl rfl rfl rfl rfl rfl) <| .nil ?_
    refine Run.seq (Run.regD [.r, .p, .p, .p, .p, .p, .p, .p, .r, .p, .p, .p, .p, .p, .p, .p, .p, .p] Tryz_mixed (by decide +kernel) ?_)
    refine .R rfl (q_loadW Tryz.isAgg39 Tryz.sizeOf39 rfl rfl rfl) <| .P rfl (q_call Tryz.call122 rfl (isPosted_ok x (hs x (by rw [hx]; simp)))) <| .P rfl (q_not rfl) <| .mv rfl rfl <| .gF rfl (.inl rfl) rfl rfl rfl (fun hg => pk (fun _ => q_move rfl _)) <| .gF rfl (.inl rfl) rfl rfl rfl (fun hg => pk (fun _ => q_gtr (opT rfl (nt hg)) rfl _)) <| .gF rfl (.inl rfl) rfl rfl rfl (fun hg => pk (fun _ => q_move (opT rfl (nt hg)) _)) ?_
    refine .nT rfl (.inl rfl) rfl rfl rfl (fun hc hg => pk (fun _ => q_fieldB (n := 0) 3 1 Tryz.underlying39 Tryz.sizeOf3 rfl rfl _)) ?_
    refine .nT rfl (.inr rfl) rfl rfl rfl (fun hc hg => rk (q_load1 Tryz.isAgg3 (opT rfl (bT hc hg)) rfl rfl)) ?_
    refine .nT rfl (.inl rfl) rfl rfl rfl (fun hc hg => pk (fun _ => q_move rfl _)) ?_
    refine .nT rfl (.inl rfl) rfl rfl rfl (fun hc hg => pk (fun _ => q_move rfl _)) ?_
    refine .nT rfl (.inl rfl) rfl rfl rfl (fun hc hg => pk (fun _ => q_sub (opT rfl (bT hc hg)) rfl (wrap64_ok (by first | omega | (simp; done) | (simp; omega) | (simp at *; omega)) (by first | omega | (simp; done) | (simp; omega) | (simp at *; omega))) _)) ?_
    refine .nT rfl (.inl rfl) rfl rfl rfl (fun hc hg => pk (fun _ => q_indexI Tryz.underlying27 Tryz.sizeOf39 (opT rfl (bT hc hg)) (opT rfl (bT hc hg)) (by simp at hg; omega) (idx_last encPosted hx (by simp at hg; omega) (by omega)) _)) ?_
    refine .nT rfl (.inl rfl) rfl rfl rfl (fun hc hg => pk (fun _ => q_fieldI (n := 0) 3 1 Tryz.underlying39 Tryz.sizeOf3 rfl (opT rfl (bT hc hg)) rfl _)) ?_
    refine .nT rfl (.inl rfl) rfl rfl rfl (fun hc hg => pk (fun _ => q_loadI Tryz.isAgg3 (opT rfl (bT hc hg)) _)) ?_
    refine .nT rfl (.inl rfl) rfl rfl rfl (fun hc hg => pk (fun _ => q_lss (opT rfl (bT hc hg)) (opT rfl (bT hc hg)) _)) ?_
    refine .gF rfl (.inl rfl) rfl rfl rfl (fun hg => pk (fun _ => q_and (opT rfl (nt hg)) (opA rfl (nt hg)) _)) <| .P rfl (q_or rfl rfl) <| .nil ?_
    refine Run.cond rfl (fun h2 => ?_) (fun h2 => ?_)
    ·have ph2 := h2
     try simp only [bs, bne_iff_ne, ne_eq, List.length_map] at ph2
     refine Run.seq (Run.reg [.p] ?_)
     refine .ag rfl rfl <| .nil ?_
     refine Run.ret (bq_ret (tq_ret (bq_ret (?_))))
     exact ret1 rfl (Sub.bool (by first | exact (okPs_end hx hp hl0).symm | exact (okPs_bad hx (by grind)).symm | (simp [okPs]; omega)))
    ·have ph2 := h2
     try simp only [bs, bne_iff_ne, ne_eq, List.length_map] at ph2
     refine Run.skip ?_
     refine Run.nil (bq_norm ?_)
     refine Run.reg [.p, .p] ?_
     refine .P rfl (q_add rfl rfl (wrap64_ok (by first | omega | (simp; done) | (simp; omega) | (simp at *; omega)) (by first | omega | (simp; done) | (simp; omega) | (simp at *; omega)))) <| .mv rfl rfl <| .nil ?_
     refine Run.nil (tq_norm ?_)
     exact ⟨⟨pre ++ [x], rest, by simp [hx], okPs_step hp (by grind) (by grind), hl0⟩, by simp, Le.mk rfl (.same rfl rfl (.same rfl rfl (.cons rfl Sub.intA rfl (.cons rfl Sub.intA rfl .nil)))) .nil⟩
structure trial50_ok_L0 (l : List Posted) (d : Int) where
 pre : List Posted
 rest : List Posted
 hx : l = pre ++ rest
theorem trial50_ok (l : List Posted) (d : Int) (hs : smallPs l) : Fc Tryz.prog 20 [sPosteds l, .i d] (.tup [sBals (if okPs l && validDay d then trialP d l else []), .i (if okPs l then if validDay d then 0 else 13 else 1)]) := by
 refine Fc.mk' [4, 5] Tryz.func20 rfl Tryz.ntmps20 rfl rfl rfl (fun t w => results_tmp2 Tryz.results20 t _ w) ?_
 refine Run.seq (Run.reg [.p, .p] ?_)
 refine .ag rfl rfl <| .ag rfl rfl <| .nil ?_
 refine Run.seq ?_
 refine Run.block ?_
 refine Run.seq (Run.reg [.p, .p, .p, .p] ?_)
 refine .mv rfl rfl <| .P rfl (q_call Tryz.call67 rfl (postList_ok _ (by first | assumption | omega | (simp at *; omega)))) <| .P rfl (q_not rfl) <| .ag rfl rfl <| .nil ?_
 refine Run.cond rfl (fun h1 => ?_) (fun h1 => ?_)
 ·have ph1 := h1
  try simp only [bs, bne_iff_ne, ne_eq, List.length_map] at ph1
  refine Run.seq (Run.reg [.p, .p] ?_)
  refine .ag rfl rfl <| .ag rfl rfl <| .nil ?_
  refine Run.ret (bq_ret (?_))
  exact ret2 rfl rfl (by exact (Sub.nil _ false).trans (Sub.snap (by simp_all))) (Sub.int (by first | (rw [show okPs l = false from by simpa using ph1]; rfl) | (rw [show okPs l = true from by simpa using ph1, show validDay d = false from by simpa using ph2]; rfl) | (have hv := upTo_valid (d := d) hok; have h2 : validDay d = true := (by simpa using ph2); have h3 : validDay 84005 = true := (by decide); simp only [hok, hv, h2, h3, trialP, Bool.and_self, if_true])))
 ·have ph1 := h1
  try simp only [bs, bne_iff_ne, ne_eq, List.length_map] at ph1
  have hok : okPs l = true := by simpa using ph1
  have hl1 : l.length ≤ 10000 := by have := hok; simp only [okPs, Bool.and_eq_true, decide_eq_true_eq] at this; exact this.1.1
  refine Run.seq (Run.reg [.p, .p, .p, .p] ?_)
  refine .mv rfl rfl <| .P rfl (q_call Tryz.call68 rfl (restValid_ok _)) <| .P rfl (q_not rfl) <| .ag rfl rfl <| .nil ?_
  refine Run.cond rfl (fun h2 => ?_) (fun h2 => ?_)
  ·have ph2 := h2
   try simp only [bs, bne_iff_ne, ne_eq, List.length_map] at ph2
   refine Run.seq (Run.reg [.p, .p] ?_)
   refine .ag rfl rfl <| .ag rfl rfl <| .nil ?_
   refine Run.ret (bq_ret (?_))
   exact ret2 rfl rfl (by exact (Sub.nil _ false).trans (Sub.snap (by simp_all))) (Sub.int (by first | (rw [show okPs l = false from by simpa using ph1]; rfl) | (rw [show okPs l = true from by simpa using ph1, show validDay d = false from by simpa using ph2]; rfl) | (have hv := upTo_valid (d := d) hok; have h2 : validDay d = true := (by simpa using ph2); have h3 : validDay 84005 = true := (by decide); simp only [hok, hv, h2, h3, trialP, Bool.and_self, if_true])))
  ·have ph2 := h2
   try simp only [bs, bne_iff_ne, ne_eq, List.length_map] at ph2
   refine Run.skip ?_
   refine Run.nil (bq_norm ?_)
   refine Run.seq (Run.reg [.p] ?_)
   refine .ag rfl rfl <| .nil ?_
   refine Run.seq (Run.seq (Run.reg [.p, .p, .p] ?_))
   refine .mv rfl rfl <| .P rfl (q_lenI Tryz.underlying27 rfl) <| .mv rfl rfl <| .nil ?_
   refine Run.block ?_
   refine Run.loop (ι := trial50_ok_L0 l d) (fun sx => [(1, .i d), (6, .gs 0 (upTo d sx.pre).length), (17, sPosteds l), (18, .i l.length), (19, .i sx.pre.length)]) (fun sx => [(0, .arr 3 ((upTo d sx.pre).map encEntry))]) (fun sx => sx.rest.length) ⟨[], l, rfl⟩ ?_ ?_
   ·exact (Le.own0 0 3).trans <| Le.mk rfl (.cons rfl Sub.intA rfl (.cons rfl (Sub.gsNil _) rfl (.same rfl rfl (.cons rfl Sub.intA rfl (.cons rfl Sub.intA rfl .nil))))) (.arr rfl (by first | rfl | (rw [upTo_snoc, if_pos (by simpa using ph3)]; simp) | (rw [upTo_snoc, if_neg (by simpa using ph3)]; simp)) .nil)
   ·rintro ⟨pre, rest, hx⟩
    show Run _ _ _ _ [(1, .i d), (6, .gs 0 (upTo d pre).length), (17, sPosteds l), (18, .i l.length), (19, .i pre.length)] [(0, .arr 3 ((upTo d pre).map encEntry))]
    have hl := congrArg List.length hx
    simp only [List.length_append] at hl
    have hul := upTo_len d pre
    rcases rest with _ | ⟨x, rest⟩
    ·have hpre : pre = l := by simp [hx]
     subst hpre
     refine Run.seq (Run.reg [.p] ?_)
     refine .P rfl (q_lss rfl rfl) <| .nil ?_
     refine Run.seq ?_
     refine Run.condF rfl (by simp) ?_
     refine Run.exit (tq_exit (bq_exit ?_))
     refine Run.weak (Le.freeze 6 0 rfl rfl (by simp)) ?_
     refine Run.seq (Run.reg [.p, .p, .p, .p, .p, .p] ?_)
     refine .mv rfl rfl <| .P rfl (q_call Tryz.call22 rfl (ledgerTrial_ok (upTo d pre) 84005 (fun e he => by obtain ⟨p, hp, rfl⟩ := upTo_mem he; exact hs p hp) (by omega))) <| .P rfl (q_extract rfl rfl) <| .P rfl (q_extract rfl rfl) <| .ag rfl rfl <| .ag rfl rfl <| .nil ?_
     refine Run.ret (?_)
     exact ret2 rfl rfl (Sub.snap (by first | (rw [show okPs l = false from by simpa using ph1]; rfl) | (rw [show okPs l = true from by simpa using ph1, show validDay d = false from by simpa using ph2]; rfl) | (have hv := upTo_valid (d := d) hok; have h2 : validDay d = true := (by simpa using ph2); have h3 : validDay 84005 = true := (by decide); simp only [hok, hv, h2, h3, trialP, Bool.and_self, if_true]))) (Sub.int (by first | (rw [show okPs l = false from by simpa using ph1]; rfl) | (rw [show okPs l = true from by simpa using ph1, show validDay d = false from by simpa using ph2]; rfl) | (have hv := upTo_valid (d := d) hok; have h2 : validDay d = true := (by simpa using ph2); have h3 : validDay 84005 = true := (by decide); simp only [hok, hv, h2, h3, trialP, Bool.and_self, if_true])))
    ·simp only [List.length_cons] at hl
     refine Run.seq (Run.reg [.p] ?_)
     refine .P rfl (q_lss rfl rfl) <| .nil ?_
     refine Run.seq ?_
     refine Run.condT rfl (by simp; omega) ?_
     refine Run.skip ?_
     refine Run.seq ?_
     refine Run.block ?_
     refine Run.seq (Run.reg [.p, .p, .w, .w] ?_)
     refine .P rfl (q_indexI Tryz.underlying27 Tryz.sizeOf39 rfl rfl (by omega) (idx_mid encPosted hx rfl)) <| .P rfl (q_loadIA Tryz.isAgg39 Tryz.sizeOf39 rfl rfl) <| .W rfl (q_alloc 1 Tryz.zeroValue39 rfl) <| .W rfl (q_storeW Tryz.sizeOf39 rfl rfl rfl rfl rfl rfl) <| .nil ?_
     refine Run.seq (Run.reg [.p, .r, .p, .p] ?_)
     refine .P rfl (q_fieldB (n := 0) 34 0 Tryz.underlying39 Tryz.sizeOf34 rfl rfl) <| .R rfl (q_load1 Tryz.isAgg34 rfl rfl rfl) <| .mv rfl rfl <| .P rfl (q_leq rfl rfl) <| .nil ?_
     refine Run.cond rfl (fun h3 => ?_) (fun h3 => ?_)
     ·have ph3 := h3
      try simp only [bs, bne_iff_ne, ne_eq, List.length_map] at ph3
      refine Run.reg [.p, .p, .r, .p, .w, .p] ?_
      refine .mv rfl rfl <| .P rfl (q_fieldB (n := 2) 37 3 Tryz.underlying39 Tryz.sizeOf37 rfl rfl) <| .R rfl (q_loadA Tryz.isAgg37 Tryz.sizeOf37 rfl rfl (by simp) rfl) <| .P rfl (q_buildSlice' (n := 1) (rows := [encEntry x.entry]) Tryz.underlying22 Tryz.sizeOf37 rfl rfl rfl Tryz.zeroValue37 rfl rfl rfl rfl rfl rfl rfl) <| .W rfl (q_append 2 Tryz.underlying22 Tryz.underlying22 Tryz.sizeOf37 Tryz.typeInfo37 Tryz.zeroValue37 rfl (bt := 48) rfl rfl rfl rfl (by simp) rfl rfl (by simp; omega)) <| .ag rfl rfl <| .nil ?_
      refine Run.nil (bq_norm ?_)
      refine Run.reg [.p, .p] ?_
      refine .P rfl (q_add rfl rfl (wrap64_ok (by first | omega | (simp; done) | (simp; omega) | (simp at *; omega)) (by first | omega | (simp; done) | (simp; omega) | (simp at *; omega)))) <| .mv rfl rfl <| .nil ?_
      refine Run.nil (tq_norm ?_)
      exact ⟨⟨pre ++ [x], rest, by simp [hx]⟩, by simp, (Le.mk (obs' := [(2, _)]) rfl (show EnvLe _ _ [(1, _), (6, _), (17, _), (18, _), (19, _)] from (.same rfl rfl (.same rfl rfl (.same rfl rfl (.same rfl rfl (.same rfl rfl .nil)))))) (.cons (i := 2) rfl rfl .nil)).trans <| (Le.ren 6 2 0 rfl rfl (by simp) rfl).trans <| Le.mk rfl (.cons rfl Sub.intA rfl (.cons rfl (Sub.gs (by first | rfl | (rw [upTo_snoc, if_pos (by simpa using ph3)]; simp; done) | (rw [upTo_snoc, if_neg (by simpa using ph3)]; simp))) rfl (.same rfl rfl (.cons rfl Sub.intA rfl (.cons rfl Sub.intA rfl .nil))))) (.arr rfl (by first | rfl | (rw [upTo_snoc, if_pos (by simpa using ph3)]; simp) | (rw [upTo_snoc, if_neg (by simpa using ph3)]; simp)) .nil)⟩
     ·have ph3 := h3
      try simp only [bs, bne_iff_ne, ne_eq, List.length_map] at ph3
      refine Run.skip ?_
      refine Run.nil (bq_norm ?_)
      refine Run.reg [.p, .p] ?_
      refine .P rfl (q_add rfl rfl (wrap64_ok (by first | omega | (simp; done) | (simp; omega) | (simp at *; omega)) (by first | omega | (simp; done) | (simp; omega) | (simp at *; omega)))) <| .mv rfl rfl <| .nil ?_
      refine Run.nil (tq_norm ?_)
      exact ⟨⟨pre ++ [x], rest, by simp [hx]⟩, by simp, Le.mk rfl (.cons rfl Sub.intA rfl (.cons rfl (Sub.gs (by first | rfl | (rw [upTo_snoc, if_pos (by simpa using ph3)]; simp; done) | (rw [upTo_snoc, if_neg (by simpa using ph3)]; simp))) rfl (.same rfl rfl (.cons rfl Sub.intA rfl (.cons rfl Sub.intA rfl .nil))))) (.arr rfl (by first | rfl | (rw [upTo_snoc, if_pos (by simpa using ph3)]; simp) | (rw [upTo_snoc, if_neg (by simpa using ph3)]; simp)) .nil)⟩
theorem negS_len (s : Str) : (negS s).length ≤ s.length + 1 := by
 have := digits_len s
 unfold negS
 split <;> simp <;> omega
theorem orI_neg {b c : Balance} (h : klt (bkey b) (bkey c) = true) : decide (0 ≤ orI [cmpT b.account c.account, cmpT b.currency c.currency]) = false := by
 have h1 := kcmp_lt (bkey b) (bkey c)
 rw [h] at h1
 simp only [decide_eq_true_eq] at h1
 have h2 : kcmp (bkey b) (bkey c) = orI [cmpT b.account c.account, cmpT b.currency c.currency] := rfl
 rw [← h2]; simp; exact h1
theorem IsBal.last {l pre rest : List Balance} {x : Balance} (h : IsBal l) (hx : l = pre ++ x :: rest) (h0 : 0 < pre.length) : klt (bkey (pre.getLastD default)) (bkey x) = true := by
 subst hx
 have h1 := (List.pairwise_append.1 h.sorted).2.2
 refine h1 _ ?_ x (by simp)
 cases pre with
 | nil => simp at h0
 | cons a l => rw [List.getLastD_cons]; exact List.getLastD_mem_cons
structure balList_ok_L0 (l : List Balance) where
 pre : List Balance
 rest : List Balance
 hx : l = pre ++ rest
theorem balList_ok (l : List Balance) (hb0 : BalOK l) : Fc Tryz.prog 73 [sBals l] (.b true) := by
 refine Fc.mk' [2] Tryz.func73 rfl Tryz.ntmps73 rfl rfl rfl (fun t w => results_tmp Tryz.results73 t _ w) ?_
 refine Run.bSnap 0 rfl (fun hb => ?_)
 simp only [List.length_map, big] at hb
 refine Run.seq (Run.reg [.p] ?_)
 refine .ag rfl rfl <| .nil ?_
 refine Run.seq (Run.seq (Run.reg [.p, .p, .p] ?_))
 refine .mv rfl rfl <| .P rfl (q_lenI Tryz.underlying45 rfl) <| .mv rfl rfl <| .nil ?_
 refine Run.block ?_
 refine Run.loop (ι := balList_ok_L0 l) (fun sx => [(0, sBals l), (7, sBals l), (8, .i l.length), (9, .i sx.pre.length)]) (fun sx => []) (fun sx => sx.rest.length) ⟨[], l, rfl⟩ ?_ ?_
 ·exact Le.mk rfl (.same rfl rfl (.same rfl rfl (.cons rfl Sub.intA rfl (.cons rfl Sub.intA rfl .nil)))) .nil
 ·rintro ⟨pre, rest, hx⟩
  show Run _ _ _ _ [(0, sBals l), (7, sBals l), (8, .i l.length), (9, .i pre.length)] []
  have hl := congrArg List.length hx
  simp only [List.length_append] at hl
  rcases rest with _ | ⟨x, rest⟩
  ·skip
   refine Run.seq (Run.reg [.p] ?_)
   refine .P rfl (q_lss rfl rfl) <| .nil ?_
   refine Run.seq ?_
   refine Run.condF rfl (by simp at hl ⊢; omega) ?_
   refine Run.exit (tq_exit (bq_exit ?_))
   refine Run.seq (Run.reg [.p] ?_)
   refine .ag rfl rfl <| .nil ?_
   refine Run.ret (?_)
   exact ret1 rfl (Sub.bool (by rfl))
  ·simp only [List.length_cons] at hl
   have hxb := hb0.fld x (by rw [hx]; simp)
   have hxa := hb0.bal.amt x (by rw [hx]; simp)
   have hne : x.amount ≠ [] := by intro e; have := hxa.2; rw [e] at this; exact this rfl
   refine Run.seq (Run.reg [.p] ?_)
   refine .P rfl (q_lss rfl rfl) <| .nil ?_
   refine Run.seq ?_
   refine Run.condT rfl (by simp; omega) ?_
   refine Run.skip ?_
   refine Run.seq ?_
   refine Run.block ?_
   refine Run.seq (Run.reg [.p, .p, .p, .w, .p, .w] ?_)
   refine .mv rfl rfl <| .P rfl (q_indexI Tryz.underlying45 Tryz.sizeOf56 rfl rfl (by omega) (idx_mid encBalance hx rfl)) <| .P rfl (q_loadIA Tryz.isAgg56 Tryz.sizeOf56 rfl rfl) <| .W rfl (q_alloc 0 Tryz.zeroValue56 rfl) <| .ag rfl rfl <| .W rfl (q_storeW Tryz.sizeOf56 rfl rfl rfl rfl rfl rfl) <| .nil ?_
   refine Run.seq (Run.seq (Run.reg [.p, .r, .p, .r, .p, .p, .p, .p, .p, .p, .p] ?_))
   refine .P rfl (q_fieldB (n := 0) 9 1 Tryz.underlying56 Tryz.sizeOf9 rfl rfl) <| .R rfl (q_load1 Tryz.isAgg9 rfl rfl rfl) <| .P rfl (q_fieldB (n := 0) 54 2 Tryz.underlying56 Tryz.sizeOf54 rfl rfl) <| .R rfl (q_load1 Tryz.isAgg54 rfl rfl rfl) <| .P rfl (q_build (pl := #[(0, 1), (1, 1)]) Tryz.underlying157 Tryz.zeroValue157 (fun w => by kernel_rfl) rfl rfl) <| .P rfl (q_call Tryz.call116 rfl (put2_ok _ _ hxb.cur hxb.num hxa.2 (by have := hxb.len; omega))) <| .mv rfl rfl <| .P rfl (q_extract rfl rfl) <| .P rfl (q_extract rfl rfl) <| .ag rfl rfl <| .ag rfl rfl <| .nil ?_
   refine Run.seq (Run.reg [.p, .p, .p, .p, .r, .p, .p, .p, .p, .r, .p, .p, .p] ?_)
   refine .mv rfl rfl <| .P rfl (q_neq rfl rfl) <| .mv rfl rfl <| .gF rfl (.inl rfl) rfl rfl rfl (fun hg => pk (fun _ => q_fieldB (n := 0) 54 2 Tryz.underlying56 Tryz.sizeOf54 rfl rfl _)) <| .gF rfl (.inr rfl) rfl rfl rfl (fun hg => rk (q_load1 Tryz.isAgg54 (opT rfl (nt hg)) rfl rfl)) <| .gF rfl (.inl rfl) rfl rfl rfl (fun hg => pk (fun _ => q_eqlS (opT rfl (nt hg)) rfl _)) <| .P rfl (q_or rfl rfl) <| .mv rfl rfl <| .gF rfl (.inl rfl) rfl rfl rfl (fun hg => pk (fun _ => q_fieldB (n := 0) 9 0 Tryz.underlying56 Tryz.sizeOf9 rfl rfl _)) <| .gF rfl (.inr rfl) rfl rfl rfl (fun hg => rk (q_load1 Tryz.isAgg9 (opT rfl (nt hg)) rfl rfl)) <| .gF rfl (.inl rfl) rfl rfl rfl (fun hg => pk (fun _ => q_call Tryz.call115 (opsC (opT rfl (nt hg)) (rfl)) (account_ok _) _)) <| .gF rfl (.inl rfl) rfl rfl rfl (fun hg => pk (fun _ => q_neq (opT rfl (nt hg)) rfl _)) <| .P rfl (q_or rfl rfl) <| .nil ?_
   refine Run.condF rfl (by simp [hxb.code, hne]) ?_
   refine Run.skip ?_
   refine Run.seq (Run.regD [.p, .p, .p, .p, .p, .p, .p, .p, .p, .p, .p, .p, .p, .p, .p, .p, .p, .r, .p, .r, .p, .p, .p, .p] Tryz_mixed (by decide +kernel) ?_)
   refine .mv rfl rfl <| .P rfl (q_gtr rfl rfl) <| .mv rfl rfl ?_
   refine .split (t := 38) rfl (fun h1 => ?_) (fun h1 => ?_)
   ·have ph1 := h1
    try simp only [bs, bne_iff_ne, ne_eq, List.length_map] at ph1
    refine .p rfl (on_of rfl rfl rfl h1) (fun _ => q_move rfl _) <| .p rfl (on_of rfl rfl rfl h1) (fun _ => q_move rfl _) <| .p rfl (on_of rfl rfl rfl h1) (fun _ => q_sub rfl rfl (wrap64_ok (by first | omega | (simp; done) | (simp; omega) | (simp at *; omega)) (by first | omega | (simp; done) | (simp; omega) | (simp at *; omega))) _) <| .p rfl (on_of rfl rfl rfl h1) (fun _ => q_indexI Tryz.underlying45 Tryz.sizeOf56 rfl rfl (by simp at *; omega) (idx_last encBalance hx (by simp at *; omega) (by omega)) _) <| .p rfl (on_of rfl rfl rfl h1) (fun _ => q_fieldI (n := 0) 9 0 Tryz.underlying56 Tryz.sizeOf9 rfl rfl rfl _) <| .p rfl (on_of rfl rfl rfl h1) (fun _ => q_loadI Tryz.isAgg9 rfl _) <| .p rfl (on_of rfl rfl rfl h1) (fun _ => q_move rfl _) <| .p rfl (on_of rfl rfl rfl h1) (fun _ => q_move rfl _) <| .p rfl (on_of rfl rfl rfl h1) (fun _ => q_sub rfl rfl (wrap64_ok (by first | omega | (simp; done) | (simp; omega) | (simp at *; omega)) (by first | omega | (simp; done) | (simp; omega) | (simp at *; omega))) _) <| .p rfl (on_of rfl rfl rfl h1) (fun _ => q_indexI Tryz.underlying45 Tryz.sizeOf56 rfl rfl (by simp at *; omega) (idx_last encBalance hx (by simp at *; omega) (by omega)) _) <| .p rfl (on_of rfl rfl rfl h1) (fun _ => q_fieldI (n := 0) 9 1 Tryz.underlying56 Tryz.sizeOf9 rfl rfl rfl _) <| .p rfl (on_of rfl rfl rfl h1) (fun _ => q_loadI Tryz.isAgg9 rfl _) <| .p rfl (on_of rfl rfl rfl h1) (fun _ => q_build (pl := #[(0, 1), (1, 1)]) Tryz.underlying110 Tryz.zeroValue110 (fun w => by kernel_rfl) rfl rfl _) ?_
    refine .p rfl (on_of rfl rfl rfl h1) (fun _ => q_fieldB (n := 0) 9 0 Tryz.underlying56 Tryz.sizeOf9 rfl rfl _) <| .r rfl (on_of rfl rfl rfl h1) (q_load1 Tryz.isAgg9 rfl rfl rfl) <| .p rfl (on_of rfl rfl rfl h1) (fun _ => q_fieldB (n := 0) 9 1 Tryz.underlying56 Tryz.sizeOf9 rfl rfl _) <| .r rfl (on_of rfl rfl rfl h1) (q_load1 Tryz.isAgg9 rfl rfl rfl) <| .p rfl (on_of rfl rfl rfl h1) (fun _ => q_build (pl := #[(0, 1), (1, 1)]) Tryz.underlying110 Tryz.zeroValue110 (fun w => by kernel_rfl) rfl rfl _) <| .p rfl (on_of rfl rfl rfl h1) (fun _ => q_call Tryz.call124 rfl (ledgerCmp_ok _ _ _ _) _) <| .p rfl (on_of rfl rfl rfl h1) (fun _ => q_geq rfl rfl _) <| .P rfl (q_pickT rfl h1 rfl) <| .nil ?_
    refine Run.condF rfl (by exact orI_neg (hb0.bal.last hx (by simp at *; omega))) ?_
    refine Run.skip ?_
    refine Run.nil (bq_norm ?_)
    refine Run.reg [.p, .p] ?_
    refine .P rfl (q_add rfl rfl (wrap64_ok (by first | omega | (simp; done) | (simp; omega) | (simp at *; omega)) (by first | omega | (simp; done) | (simp; omega) | (simp at *; omega)))) <| .mv rfl rfl <| .nil ?_
    refine Run.nil (tq_norm ?_)
    exact ⟨⟨pre ++ [x], rest, by simp [hx]⟩, by simp, Le.mk rfl (.same rfl rfl (.same rfl rfl (.cons rfl Sub.intA rfl (.cons rfl Sub.intA rfl .nil)))) .nil⟩
   ·have ph1 := h1
    try simp only [bs, bne_iff_ne, ne_eq, List.length_map] at ph1
    refine .off rfl (off_of rfl rfl rfl h1) ?_
    refine .off rfl (off_of rfl rfl rfl h1) ?_
    refine .off rfl (off_of rfl rfl rfl h1) ?_
    refine .off rfl (off_of rfl rfl rfl h1) ?_
    refine .off rfl (off_of rfl rfl rfl h1) ?_
    refine .off rfl (off_of rfl rfl rfl h1) ?_
    refine .off rfl (off_of rfl rfl rfl h1) ?_
    refine .off rfl (off_of rfl rfl rfl h1) ?_
    refine .off rfl (off_of rfl rfl rfl h1) ?_
    refine .off rfl (off_of rfl rfl rfl h1) ?_
    refine .off rfl (off_of rfl rfl rfl h1) ?_
    refine .off rfl (off_of rfl rfl rfl h1) ?_
    refine .off rfl (off_of rfl rfl rfl h1) ?_
    refine .off rfl (off_of rfl rfl rfl h1) ?_
    refine .off rfl (off_of rfl rfl rfl h1) ?_
    refine .off rfl (off_of rfl rfl rfl h1) ?_
    refine .off rfl (off_of rfl rfl rfl h1) ?_
    refine .off rfl (off_of rfl rfl rfl h1) ?_
    refine .off rfl (off_of rfl rfl rfl h1) ?_
    refine .off rfl (off_of rfl rfl rfl h1) ?_
    refine .P rfl (q_pickF rfl h1 rfl) <| .nil ?_
    refine Run.condF rfl rfl ?_
    refine Run.skip ?_
    refine Run.nil (bq_norm ?_)
    refine Run.reg [.p, .p] ?_
    refine .P rfl (q_add rfl rfl (wrap64_ok (by first | omega | (simp; done) | (simp; omega) | (simp at *; omega)) (by first | omega | (simp; done) | (simp; omega) | (simp at *; omega)))) <| .mv rfl rfl <| .nil ?_
    refine Run.nil (tq_norm ?_)
    exact ⟨⟨pre ++ [x], rest, by simp [hx]⟩, by simp, Le.mk rfl (.same rfl rfl (.same rfl rfl (.cons rfl Sub.intA rfl (.cons rfl Sub.intA rfl .nil)))) .nil⟩
structure minusB_ok_L0 (a b : List Balance) where
 pre : List Balance
 rest : List Balance
 hx : a = pre ++ rest
structure minusB_ok_L1 (a b : List Balance) (pre : List Balance) where
 preq : List Balance
 restq : List Balance
 hxq : b = preq ++ restq
theorem minusB_ok (a b : List Balance) (ha : BalOK a) (hb : BalOK b) : Fc Tryz.prog 23 [sBals a, sBals b] (.tup [sBals (minusB a b), .i 0]) := by
 refine Fc.mk' [4, 5] Tryz.func23 rfl Tryz.ntmps23 rfl rfl rfl (fun t w => results_tmp2 Tryz.results23 t _ w) ?_
 have hal0 := ha.len
 have hbl0 := hb.len
 refine Run.seq (Run.reg [.p, .p] ?_)
 refine .ag rfl rfl <| .ag rfl rfl <| .nil ?_
 refine Run.seq (Run.seq (Run.reg [.p, .p, .p, .p, .p, .p, .p, .p] ?_))
 refine .mv rfl rfl <| .P rfl (q_call Tryz.call73 rfl (balList_ok a ha)) <| .P rfl (q_not rfl) <| .mv rfl rfl <| .p rfl (on_of rfl rfl rfl rfl) (fun _ => q_move rfl _) <| .p rfl (on_of rfl rfl rfl rfl) (fun _ => q_call Tryz.call73 rfl (balList_ok b hb) _) <| .p rfl (on_of rfl rfl rfl rfl) (fun _ => q_not rfl _) <| .P rfl (q_pickF rfl rfl rfl) <| .nil ?_
 refine Run.condF rfl rfl ?_
 refine Run.skip ?_
 refine Run.seq (Run.reg [.w, .p] ?_)
 refine .W rfl (q_makeMapG 0 kPair (D.str) rfl) <| .ag rfl rfl <| .nil ?_
 refine Run.seq (Run.seq (Run.reg [.p, .p, .p] ?_))
 refine .mv rfl rfl <| .P rfl (q_lenI Tryz.underlying45 rfl) <| .mv rfl rfl <| .nil ?_
 refine Run.block ?_
 refine Run.loop (ι := minusB_ok_L0 a b) (fun sx => [(1, sBals b), (6, .mapr 0), (20, sBals a), (21, .i a.length), (22, .i sx.pre.length)]) (fun sx => [(0, .mp (encGM kPair D.str (sumBM [] sx.pre)))]) (fun sx => sx.rest.length) ⟨[], a, rfl⟩ ?_ ?_
 ·exact Le.mk rfl (.same rfl rfl (.same rfl rfl (.same rfl rfl (.cons rfl Sub.intA rfl (.cons rfl Sub.intA rfl .nil))))) (.eq rfl (by first | rfl | rw [sumBM_snoc]) (okB_KM _ _) .nil)
 ·rintro ⟨pre, rest, hx⟩
  show Run _ _ _ _ [(1, sBals b), (6, .mapr 0), (20, sBals a), (21, .i a.length), (22, .i pre.length)] [(0, .mp (encGM kPair D.str (sumBM [] pre)))]
  have hl := congrArg List.length hx
  simp only [List.length_append] at hl
  rcases rest with _ | ⟨x, rest⟩
  ·have hpre : pre = a := by simp [hx]
   have hap : BalOK pre := hpre ▸ ha
   refine Run.seq (Run.reg [.p] ?_)
   refine .P rfl (q_lss rfl rfl) <| .nil ?_
   refine Run.seq ?_
   refine Run.condF rfl (by simp at hl ⊢; omega) ?_
   refine Run.exit (tq_exit (bq_exit ?_))
   refine Run.seq (Run.seq (Run.reg [.p, .p, .p] ?_))
   refine .mv rfl rfl <| .P rfl (q_lenI Tryz.underlying45 rfl) <| .mv rfl rfl <| .nil ?_
   refine Run.block ?_
   refine Run.loop (ι := minusB_ok_L1 a b pre) (fun sx => [(6, .mapr 0), (36, sBals b), (37, .i b.length), (38, .i sx.preq.length)]) (fun sx => [(0, .mp (encGM kPair D.str (difBM (sumBM [] pre) sx.preq)))]) (fun sx => sx.restq.length) ⟨[], b, rfl⟩ ?_ ?_
   ·exact Le.mk rfl (.same rfl rfl (.same rfl rfl (.cons rfl Sub.intA rfl (.cons rfl Sub.intA rfl .nil)))) (.eq rfl (by first | rfl | rw [difBM_snoc]) (okB_KM _ _) .nil)
   ·rintro ⟨preq, restq, hxq⟩
    show Run _ _ _ _ [(6, .mapr 0), (36, sBals b), (37, .i b.length), (38, .i preq.length)] [(0, .mp (encGM kPair D.str (difBM (sumBM [] pre) preq)))]
    have hlq := congrArg List.length hxq
    simp only [List.length_append] at hlq
    rcases restq with _ | ⟨xq, restq⟩
    ·have hpreq : preq = b := by simp [hxq]
     have hbp : BalOK preq := hpreq ▸ hb
     have hok := difBM_ok hap.fld hbp.fld
     have hmv := (MapV.nil.plus pre).less preq
     have hal := hap.len
     have hbl := hbp.len
     refine Run.seq (Run.reg [.p] ?_)
     refine .P rfl (q_lss rfl rfl) <| .nil ?_
     refine Run.seq ?_
     refine Run.condF rfl (by simp at hlq ⊢; omega) ?_
     refine Run.exit (tq_exit (bq_exit ?_))
     refine Run.weak (Le.freezeM (kD := kPair) (vD := D.str) (m := (difBM (sumBM [] pre) preq)) 6 0 rfl rfl (fun _ => rfl) (fun _ => rfl)) ?_
     refine Run.seq (Run.reg [.p, .p, .p, .p] ?_)
     refine .mv rfl rfl <| .P rfl (q_call Tryz.call76 rfl (list_ok (difBM (sumBM [] pre) preq) (by have := hok.2; omega) hok.1 hmv.nodup)) <| .ag rfl rfl <| .ag rfl rfl <| .nil ?_
     refine Run.ret (?_)
     exact ret2 rfl rfl (Sub.snap (by unfold minusB; rw [← hpre, ← hpreq])) (Sub.int (by rfl))
    ·simp only [List.length_cons] at hlq
     have hxb := hb.fld xq (by rw [hxq]; simp)
     have hbl := hb.len
     have hal := hap.len
     have hgl := less_get (a := pre) (b := preq) (bkey xq) hap.fld hal (fun y hy => hb.fld y (by rw [hxq]; simp [hy])) (by omega)
     have hxl := hxb.len
     have hnl : (negS xq.amount).length ≤ 32 := by have := negS_len xq.amount; omega
     refine Run.seq (Run.reg [.p] ?_)
     refine .P rfl (q_lss rfl rfl) <| .nil ?_
     refine Run.seq ?_
     refine Run.condT rfl (by simp; omega) ?_
     refine Run.skip ?_
     refine Run.seq ?_
     refine Run.block ?_
     refine Run.seq (Run.reg [.p, .p, .w, .w] ?_)
     refine .P rfl (q_indexI Tryz.underlying45 Tryz.sizeOf56 rfl rfl (by omega) (idx_mid encBalance hxq rfl)) <| .P rfl (q_loadIA Tryz.isAgg56 Tryz.sizeOf56 rfl rfl) <| .W rfl (q_alloc 1 Tryz.zeroValue56 rfl) <| .W rfl (q_storeW Tryz.sizeOf56 rfl rfl rfl rfl rfl rfl) <| .nil ?_
     refine Run.regD [.p, .p, .r, .p, .r, .p, .p, .r, .p, .w] Tryz_mixed (by decide +kernel) ?_
     refine .mv rfl rfl <| .P rfl (q_fieldB (n := 0) 9 0 Tryz.underlying56 Tryz.sizeOf9 rfl rfl) <| .R rfl (q_load1 Tryz.isAgg9 rfl rfl rfl) <| .P rfl (q_fieldB (n := 0) 9 1 Tryz.underlying56 Tryz.sizeOf9 rfl rfl) <| .R rfl (q_load1 Tryz.isAgg9 rfl rfl rfl) <| .P rfl (q_build (pl := #[(0, 1), (1, 1)]) Tryz.underlying110 Tryz.zeroValue110 (fun w => by kernel_rfl) rfl rfl) <| .P rfl (q_fieldB (n := 0) 54 2 Tryz.underlying56 Tryz.sizeOf54 rfl rfl) <| .R rfl (q_load1 Tryz.isAgg54 rfl rfl rfl) <| .P rfl (q_call Tryz.call75 rfl (neg2_ok _ (by omega))) <| .W rfl (q_callO Tryz.call74 rfl (addKey_ok (difBM (sumBM [] pre) preq) (bkey xq) (negS xq.amount) (by omega) (by omega)) (.cons rfl (okB_KM _ _) .nil) rfl rfl) <| .nil ?_
     refine Run.nil (bq_norm ?_)
     refine Run.reg [.p, .p] ?_
     refine .P rfl (q_add rfl rfl (wrap64_ok (by first | omega | (simp; done) | (simp; omega) | (simp at *; omega)) (by first | omega | (simp; done) | (simp; omega) | (simp at *; omega)))) <| .mv rfl rfl <| .nil ?_
     refine Run.nil (tq_norm ?_)
     exact ⟨⟨preq ++ [xq], restq, by simp [hxq]⟩, by simp, Le.mk rfl (.same rfl rfl (.same rfl rfl (.cons rfl Sub.intA rfl (.cons rfl Sub.intA rfl .nil)))) (.eq rfl (by first | rfl | rw [difBM_snoc]) (okB_KM _ _) .nil)⟩
  ·simp only [List.length_cons] at hl
   have hxb := ha.fld x (by rw [hx]; simp)
   have hal := ha.len
   have hgl := plus_get (a := pre) (bkey x) (fun y hy => ha.fld y (by rw [hx]; simp [hy])) (by omega)
   have hxl := hxb.len
   refine Run.seq (Run.reg [.p] ?_)
   refine .P rfl (q_lss rfl rfl) <| .nil ?_
   refine Run.seq ?_
   refine Run.condT rfl (by simp; omega) ?_
   refine Run.skip ?_
   refine Run.seq ?_
   refine Run.block ?_
   refine Run.seq (Run.reg [.p, .p, .w, .w] ?_)
   refine .P rfl (q_indexI Tryz.underlying45 Tryz.sizeOf56 rfl rfl (by omega) (idx_mid encBalance hx rfl)) <| .P rfl (q_loadIA Tryz.isAgg56 Tryz.sizeOf56 rfl rfl) <| .W rfl (q_alloc 1 Tryz.zeroValue56 rfl) <| .W rfl (q_storeW Tryz.sizeOf56 rfl rfl rfl rfl rfl rfl) <| .nil ?_
   refine Run.reg [.p, .p, .r, .p, .r, .p, .p, .r, .w] ?_
   refine .mv rfl rfl <| .P rfl (q_fieldB (n := 0) 9 0 Tryz.underlying56 Tryz.sizeOf9 rfl rfl) <| .R rfl (q_load1 Tryz.isAgg9 rfl rfl rfl) <| .P rfl (q_fieldB (n := 0) 9 1 Tryz.underlying56 Tryz.sizeOf9 rfl rfl) <| .R rfl (q_load1 Tryz.isAgg9 rfl rfl rfl) <| .P rfl (q_build (pl := #[(0, 1), (1, 1)]) Tryz.underlying110 Tryz.zeroValue110 (fun w => by kernel_rfl) rfl rfl) <| .P rfl (q_fieldB (n := 0) 54 2 Tryz.underlying56 Tryz.sizeOf54 rfl rfl) <| .R rfl (q_load1 Tryz.isAgg54 rfl rfl rfl) <| .W rfl (q_callO Tryz.call74 rfl (addKey_ok (sumBM [] pre) (bkey x) x.amount (by omega) (by omega)) (.cons rfl (okB_KM _ _) .nil) rfl rfl) <| .nil ?_
   refine Run.nil (bq_norm ?_)
   refine Run.reg [.p, .p] ?_
   refine .P rfl (q_add rfl rfl (wrap64_ok (by first | omega | (simp; done) | (simp; omega) | (simp at *; omega)) (by first | omega | (simp; done) | (simp; omega) | (simp at *; omega)))) <| .mv rfl rfl <| .nil ?_
   refine Run.nil (tq_norm ?_)
   exact ⟨⟨pre ++ [x], rest, by simp [hx]⟩, by simp, Le.mk rfl (.same rfl rfl (.same rfl rfl (.same rfl rfl (.cons rfl Sub.intA rfl (.cons rfl Sub.intA rfl .nil))))) (.eq rfl (by first | rfl | rw [sumBM_snoc]) (okB_KM _ _) .nil)⟩
structure same43_ok_L0 (a b : List Balance) where
 pre : List Balance
 rest : List Balance
 sb : List Balance
 hx : a = pre ++ rest
 hxb : b = pre ++ sb
 hll : rest.length = sb.length
theorem same43_ok (a b : List Balance) : Fc Tryz.prog 24 [sBals a, sBals b] (.b (decide (a = b))) := by
 refine Fc.mk' [4] Tryz.func24 rfl Tryz.ntmps24 rfl rfl rfl (fun t w => results_tmp Tryz.results24 t _ w) ?_
 refine Run.bSnap 0 rfl (fun hb => ?_)
 simp only [List.length_map, big] at hb
 refine Run.seq (Run.reg [.p] ?_)
 refine .ag rfl rfl <| .nil ?_
 refine Run.seq (Run.seq (Run.reg [.p, .p, .p, .p, .p] ?_))
 refine .mv rfl rfl <| .P rfl (q_lenI Tryz.underlying45 rfl) <| .mv rfl rfl <| .P rfl (q_lenI Tryz.underlying45 rfl) <| .P rfl (q_neq rfl rfl) <| .nil ?_
 refine Run.cond rfl (fun h1 => ?_) (fun h1 => ?_)
 ·have ph1 := h1
  try simp only [bs, bne_iff_ne, ne_eq, List.length_map] at ph1
  refine Run.seq (Run.reg [.p] ?_)
  refine .ag rfl rfl <| .nil ?_
  refine Run.ret (?_)
  exact ret1 rfl (Sub.bool (by first | (obtain rfl : sb = [] := List.length_eq_zero_iff.1 hll.symm; simp [hx, hxb]; done) | (subst hx; subst hxb; simp; intro h; subst h; simp_all) | grind))
 ·have ph1 := h1
  try simp only [bs, bne_iff_ne, ne_eq, List.length_map] at ph1
  refine Run.skip ?_
  refine Run.seq (Run.seq (Run.reg [.p] ?_))
  refine .ag rfl rfl <| .nil ?_
  refine Run.block ?_
  refine Run.loop (ι := same43_ok_L0 a b) (fun sx => [(0, sBals a), (1, sBals b), (5, .i sx.pre.length)]) (fun sx => []) (fun sx => sx.rest.length) ⟨[], a, b, rfl, rfl, by grind⟩ ?_ ?_
  ·exact Le.mk rfl (.same rfl rfl (.same rfl rfl (.cons rfl Sub.intA rfl .nil))) .nil
  ·rintro ⟨pre, rest, sb, hx, hxb, hll⟩
   show Run _ _ _ _ [(0, sBals a), (1, sBals b), (5, .i pre.length)] []
   have hl := congrArg List.length hx
   simp only [List.length_append] at hl
   rcases rest with _ | ⟨x, rest⟩
   ·skip
    refine Run.seq (Run.seq (Run.reg [.p, .p, .p, .p] ?_))
    refine .mv rfl rfl <| .mv rfl rfl <| .P rfl (q_lenI Tryz.underlying45 rfl) <| .P rfl (q_lss rfl rfl) <| .nil ?_
    refine Run.condF rfl (by simp at hl ⊢; omega) ?_
    refine Run.exit (tq_exit (bq_exit ?_))
    refine Run.seq (Run.reg [.p] ?_)
    refine .ag rfl rfl <| .nil ?_
    refine Run.ret (?_)
    exact ret1 rfl (Sub.bool (by first | (obtain rfl : sb = [] := List.length_eq_zero_iff.1 hll.symm; simp [hx, hxb]; done) | (subst hx; subst hxb; simp; intro h; subst h; simp_all) | grind))
   ·simp only [List.length_cons] at hl
    rcases sb with _ | ⟨y, sb⟩
    ·simp at hll
    refine Run.seq (Run.seq (Run.reg [.p, .p, .p, .p] ?_))
    refine .mv rfl rfl <| .mv rfl rfl <| .P rfl (q_lenI Tryz.underlying45 rfl) <| .P rfl (q_lss rfl rfl) <| .nil ?_
    refine Run.condT rfl (by simp; omega) ?_
    refine Run.skip ?_
    refine Run.seq ?_
    refine Run.block ?_
    refine Run.seq (Run.regD [.p, .p, .p, .p, .p, .p, .p, .p, .p] Tryz_mixed (by decide +kernel) ?_)
    refine .mv rfl rfl <| .mv rfl rfl <| .P rfl (q_indexI Tryz.underlying45 Tryz.sizeOf56 rfl rfl (by omega) (idx_mid encBalance hx rfl)) <| .P rfl (q_loadIA Tryz.isAgg56 Tryz.sizeOf56 rfl rfl) <| .mv rfl rfl <| .mv rfl rfl <| .P rfl (q_indexI Tryz.underlying45 Tryz.sizeOf56 rfl rfl (by omega) (idx_mid encBalance hxb rfl)) <| .P rfl (q_loadIA Tryz.isAgg56 Tryz.sizeOf56 rfl rfl) <| .P rfl (q_neqA (xs := [x.account, x.currency, x.amount]) (ys := [y.account, y.currency, y.amount]) Tryz.underlying56 (by kernel_rfl) (by kernel_rfl) (.cons (by decide +kernel) Tryz.underlying9 Tryz.isAgg9 rfl (.cons (by decide +kernel) Tryz.underlying9 Tryz.isAgg9 rfl (.cons (by decide +kernel) Tryz.underlying54 Tryz.isAgg54 rfl (.nil _)))) rfl rfl rfl rfl rfl rfl) <| .nil ?_
    refine Run.cond rfl (fun h2 => ?_) (fun h2 => ?_)
    ·have ph2 := h2
     try simp only [bs, bne_iff_ne, ne_eq, List.length_map] at ph2
     refine Run.seq (Run.reg [.p] ?_)
     refine .ag rfl rfl <| .nil ?_
     refine Run.ret (bq_ret (tq_ret (bq_ret (?_))))
     exact ret1 rfl (Sub.bool (by first | (obtain rfl : sb = [] := List.length_eq_zero_iff.1 hll.symm; simp [hx, hxb]; done) | (subst hx; subst hxb; simp; intro h; subst h; simp_all) | grind))
    ·have ph2 := h2
     try simp only [bs, bne_iff_ne, ne_eq, List.length_map] at ph2
     refine Run.skip ?_
     refine Run.nil (bq_norm ?_)
     refine Run.reg [.p, .p, .p] ?_
     refine .mv rfl rfl <| .P rfl (q_add rfl rfl (wrap64_ok (by omega) (by omega))) <| .ag rfl rfl <| .nil ?_
     refine Run.nil (tq_norm ?_)
     exact ⟨⟨pre ++ [x], rest, sb, by simp [hx], by rw [hxb, show x = y by cases x; cases y; simp_all]; simp, by simpa using hll⟩, by simp, Le.mk rfl (.same rfl rfl (.same rfl rfl (.cons rfl Sub.intA rfl .nil))) .nil⟩
end Go.T
namespace Go.T
open Go Go.Proofs
theorem validIn_symm {a b : List Entry} {l : List Close} (h : validIn a b l = true) : validIn b a l = true := by
  obtain ⟨h1, h2, h3, h4, h5⟩ := validIn_parts h
  rw [validE_append, Bool.and_eq_true] at h5
  simp [validIn, h1, h2, h3, h4, validE_append, h5.1, h5.2]
theorem validIn_self {a b : List Entry} {l : List Close} (h : validIn a b l = true) : validIn a a l = true := by
  obtain ⟨h1, h2, h3, h4, h5⟩ := validIn_parts h
  rw [validE_append, Bool.and_eq_true] at h5
  simp [validIn, h1, h3, h4, validE_append, h5.1]
theorem adjK_const {n : Int} : ∀ {L : List Posted}, (∀ p ∈ L, p.known = n) → adjK L = true
  | [], _ => rfl
  | [_], _ => rfl
  | x :: y :: r, h => by
    simp only [adjK, Bool.and_eq_true, decide_eq_true_eq]
    refine ⟨?_, adjK_const (L := y :: r) fun p hp => h p (List.mem_cons_of_mem _ hp)⟩
    rw [h x (by simp), h y (by simp)]; exact Int.le_refl _
theorem okPs_posts {l : List Close} {n : Int} {L : List Posted} (hn : 1 ≤ n) (h : ∀ p ∈ L, PostOK l n p) (hl : L.length ≤ 10000) : okPs L = true := by
  simp only [okPs, Bool.and_eq_true, decide_eq_true_eq]
  refine ⟨⟨hl, List.all_eq_true.2 fun p hp => ?_⟩, adjK_const fun p hp => (h p hp).known⟩
  have hp := h p hp
  have hd := hp.day
  have h1 := hp.d1
  simp only [okP, Bool.and_eq_true, decide_eq_true_eq, validDay]
  refine ⟨⟨⟨⟨hp.check, by omega⟩, by omega⟩, by rw [hp.known]; exact hn⟩, by rw [hp.by_]; decide⟩
theorem small_posts {l : List Close} {n : Int} {L : List Posted} (h : ∀ p ∈ L, PostOK l n p) : smallPs L := fun p hp => (h p hp).small
theorem okP_days {p : Posted} (h : okP p = true) : p.day ≤ 84005 ∧ p.entry.day ≤ 84005 := by
  obtain ⟨_, h2, h3, _⟩ := okP_parts h
  simp only [validDay, Bool.and_eq_true, decide_eq_true_eq] at h2
  omega
theorem sumE_nil_day {L : List Entry} (h : ∀ e ∈ L, e.day ≤ 84005) : L.filter (fun e => decide (e.day ≤ 84005)) = L := List.filter_eq_self.2 fun e he => by simpa using h e he
/-- The balances of a list of posted entries up to a day. -/
theorem trialP_bal {L : List Posted} (d : Int) (h : okPs L = true) : IsBal (trialP d L) ∧ ∀ k, balK k (trialP d L) = sumE k (upTo d L) := by
  have h1 := trialB_bal 84005 (upTo d L)
  refine ⟨h1.1, fun k => ?_⟩
  rw [trialP, h1.2, sumE_nil_day]
  intro e he
  obtain ⟨p, hp, rfl⟩ := upTo_mem he
  exact (okP_days (okPs_mem h p hp)).2
theorem upTo_max {L : List Posted} (h : okPs L = true) : upTo 84005 L = L.map (·.entry) := by
  unfold upTo
  rw [List.filter_eq_self.2 fun p hp => by simpa using (okP_days (okPs_mem h p hp)).1]
theorem posts_entries (a b : List Entry) (l : List Close) (n : Int) : (posts a b l n).map (·.entry) = chg a b := by
  unfold posts
  rw [List.map_map]
  conv => { rhs; rw [← List.map_id (chg a b)] }
  rfl
theorem bal_nil {l : List Balance} (h : IsBal l) (h0 : ∀ k, balK k l = 0) : l = [] := IsBal.ext h IsBal.nil fun k => by rw [h0]; rfl
/-- All that RestateSteps says, in plain words. -/
structure StepsOK (a b : List Entry) (l : List Close) (n : Int) : Prop where
  c : posts a a l n = []
  len : (posts a b l n).length = (posts b a l n).length
  oks : okPs (posts a b l n ++ posts b a l n) = true
  smalls : smallPs (posts a b l n ++ posts b a l n)
  ok1 : okPs (posts a b l n) = true
  small1 : smallPs (posts a b l n)
  sum : trialP 84005 (posts a b l n ++ posts b a l n) = []
  va : validE a = true
  vb : validE b = true
  oka : BalOK (trialB 84005 a)
  okb : BalOK (trialB 84005 b)
  dif : trialP 84005 (posts a b l n) = minusB (trialB 84005 b) (trialB 84005 a)
theorem steps_ok {a b : List Entry} {l : List Close} {n : Int} (h : validIn a b l = true) (hn : 1 ≤ n) : StepsOK a b l n := by
  have p1 := posts_ok (known := n) h
  have p2 := posts_ok (known := n) (validIn_symm h)
  have l1 := posts_len (known := n) h
  have l2 := posts_len (known := n) (validIn_symm h)
  obtain ⟨g1, g2, g3, g4, g5⟩ := validIn_parts h
  have s1 := great_small g1
  have s2 := great_small g2
  rw [validE_append, Bool.and_eq_true] at g5
  have pa : ∀ p ∈ posts a b l n ++ posts b a l n, PostOK l n p := fun p hp => (List.mem_append.1 hp).elim (p1 p) (p2 p)
  have o1 := okPs_posts hn p1 (by omega)
  have oa := okPs_posts hn pa (by simp; omega)
  have day : ∀ {e : Entry}, checkE e = 0 → e.day ≤ 84005 := fun {e} he => by
    have := validDay_checkE he; omega
  have t0 : ∀ x : List Entry, validE x = true → ∀ k, balK k (trialB 84005 x) = sumE k x := fun x hx k => by
    rw [(trialB_bal 84005 x).2, sumE_nil_day fun e he => day (validE_mem hx e he)]
  refine ⟨by simp [posts, chg_self], by simp [posts, chg_sym_len a b], oa, small_posts pa, o1, small_posts p1, ?_, g5.1, g5.2, trialB_ok (fun e he => ⟨s1.2 e he, validE_mem g5.1 e he⟩) (by omega), trialB_ok (fun e he => ⟨s2.2 e he, validE_mem g5.2 e he⟩) (by omega), ?_⟩
  · have h1 := trialP_bal 84005 oa
    refine bal_nil h1.1 fun k => ?_
    rw [h1.2, upTo_max oa, List.map_append, posts_entries, posts_entries, sumE_append, chg_sum, chg_sum]; omega
  · have h1 := trialP_bal 84005 o1
    have h2 := minusB_bal (trialB 84005 b) (trialB 84005 a)
    refine IsBal.ext h1.1 h2.1 fun k => ?_
    rw [h1.2, upTo_max o1, posts_entries, chg_sum, h2.2, t0 b g5.2, t0 a g5.1]
end Go.T
namespace Go.T
open Go Go.Proofs
set_option maxRecDepth 20000
theorem cloneP_ok (l : List Posted) (hs : l.length ≤ 1000) : FcO Tryz.prog 21 [sPosteds l] [] (.gs 7600 l.length) [(7600, .arr 6 (l.map encPosted))] := by
 refine FcO.mk' [2] Tryz.func21 rfl Tryz.ntmps21 rfl rfl rfl (fun t w => results_tmp Tryz.results21 t _ w) ?_
 refine Run.seq (Run.reg [.p] ?_)
 refine .ag rfl rfl <| .nil ?_
 refine Run.seq (Run.seq (Run.regT ?_))
 refine Tx.q rfl trivial (q_move rfl _) ?_
 refine Tx.n rfl trivial (q_eqlNilN Tryz.underlying27 rfl rfl _) (fun nb hnb => ?_)
 dsimp only
 refine Tx.nil ?_
 refine Run.cond rfl (fun h1 => ?_) (fun h1 => ?_)
 ·have ph1 := h1
  try simp only [bs, bne_iff_ne, ne_eq, List.length_map] at ph1
  refine Run.seq (Run.reg [.p] ?_)
  refine .ag rfl rfl <| .nil ?_
  have hl0 : l = [] := by
   by_cases hc : l = []
   ·exact hc
   ·have := hnb (by simpa using hc); simp_all
  subst hl0
  refine Run.weak (Le.own0 7600 6) ?_
  refine Run.ret (?_)
  exact retO1 rfl (by exact Sub.gsNil _) (.eq rfl (by first | rfl | simp) rfl .nil)
 ·have ph1 := h1
  try simp only [bs, bne_iff_ne, ne_eq, List.length_map] at ph1
  refine Run.skip ?_
  refine Run.seq (Run.reg [.p, .p, .w, .p] ?_)
  refine .P rfl (q_buildSlice0 Tryz.underlying27 Tryz.sizeOf39) <| .mv rfl rfl <| .W rfl (QStep.own0 7599 6 (t := 5) rfl (Sub.gsEmpty _ _) (q_append 7600 Tryz.underlying27 Tryz.underlying27 Tryz.sizeOf39 Tryz.typeInfo39 Tryz.zeroValue39 rfl (bt := 80) rfl rfl rfl rfl rfl rfl rfl (by simp; omega))) <| .ag rfl rfl <| .nil ?_
  refine Run.ret (?_)
  exact retO1 rfl (by exact Sub.gs (by simp)) (.eq rfl (by first | rfl | simp) rfl .nil)
theorem lawSteps_ok (a b : List Entry) (l : List Close) (n : Int) (hn : 0 ≤ n ∧ n ≤ 255) : Fc Tryz.prog 5 [sEntries a, sEntries b, sCloses l, .raw (.int .u8 n)] (.b true) := by
 refine Fc.mk' [8] Tryz.func5 rfl Tryz.ntmps5 rfl rfl rfl (fun t w => results_tmp Tryz.results5 t _ w) ?_
 refine Run.seq (Run.reg [.p] ?_)
 refine .ag rfl rfl <| .nil ?_
 refine Run.seq (Run.reg [.p, .p, .p, .p, .p] ?_)
 refine .mv rfl rfl <| .P rfl (q_conv Tryz.underlying5 Tryz.underlying3 rfl (wrap64_ok (by first | omega | (simp; done) | (simp; omega) | (simp at *; omega)) (by first | omega | (simp; done) | (simp; omega) | (simp at *; omega)))) <| .P rfl (q_rem rfl rfl (by decide) (Int.tmod_eq_emod_of_nonneg (b := 20) hn.1)) <| .P rfl (q_add rfl rfl (wrap64_ok (by first | omega | (simp; done) | (simp; omega) | (simp at *; omega)) (by first | omega | (simp; done) | (simp; omega) | (simp at *; omega)))) <| .ag rfl rfl <| .nil ?_
 refine Run.seq (Run.seq (Run.reg [.p, .p, .p, .p, .p] ?_))
 refine .mv rfl rfl <| .mv rfl rfl <| .mv rfl rfl <| .P rfl (q_call Tryz.call16 rfl (validIn_ok _ _ _)) <| .P rfl (q_not rfl) <| .nil ?_
 refine Run.cond rfl (fun h1 => ?_) (fun h1 => ?_)
 ·have ph1 := h1
  try simp only [bs, bne_iff_ne, ne_eq, List.length_map] at ph1
  refine Run.seq (Run.reg [.p, .p] ?_)
  refine .P rfl (q_call Tryz.call12 rfl awake_ok) <| .ag rfl rfl <| .nil ?_
  refine Run.ret (?_)
  exact ret1 rfl (Sub.bool (by first | rfl | simp [hso.ok1, hd0, hso.dif]))
 ·have ph1 := h1
  try simp only [bs, bne_iff_ne, ne_eq, List.length_map] at ph1
  have hvi : validIn a b l = true := by simpa using ph1
  have hso := steps_ok (n := 1 + n % 20) hvi (by omega)
  have hpl := posts_len (known := 1 + n % 20) hvi
  have hpl2 := posts_len (known := 1 + n % 20) (validIn_symm hvi)
  have hsl := hso.len
  obtain ⟨hg1, hg2, _, _, _⟩ := validIn_parts hvi
  have hs1 := great_small hg1
  have hs2 := great_small hg2
  have hd0 : validDay 84005 = true := by decide
  refine Run.skip ?_
  refine Run.seq (Run.reg [.p, .p, .p, .p, .p, .p, .p, .p, .p, .p] ?_)
  refine .mv rfl rfl <| .mv rfl rfl <| .mv rfl rfl <| .mv rfl rfl <| .P rfl (q_call Tryz.call13 rfl (stepD_ok a b l (1 + n % 20) hvi (by omega))) <| .mv rfl rfl <| .P rfl (q_extract rfl rfl) <| .P rfl (q_extract rfl rfl) <| .ag rfl rfl <| .ag rfl rfl <| .nil ?_
  refine Run.seq (Run.reg [.p, .p, .p, .p, .p, .p, .p, .p, .p, .p] ?_)
  refine .mv rfl rfl <| .mv rfl rfl <| .mv rfl rfl <| .mv rfl rfl <| .P rfl (q_call Tryz.call13 rfl (stepD_ok b a l (1 + n % 20) (validIn_symm hvi) (by omega))) <| .mv rfl rfl <| .P rfl (q_extract rfl rfl) <| .P rfl (q_extract rfl rfl) <| .ag rfl rfl <| .ag rfl rfl <| .nil ?_
  refine Run.seq (Run.reg [.p, .p, .p, .p, .p, .p, .p, .p, .p, .p] ?_)
  refine .mv rfl rfl <| .mv rfl rfl <| .mv rfl rfl <| .mv rfl rfl <| .P rfl (q_call Tryz.call13 rfl (stepD_ok a a l (1 + n % 20) (validIn_self hvi) (by omega))) <| .mv rfl rfl <| .P rfl (q_extract rfl rfl) <| .P rfl (q_extract rfl rfl) <| .ag rfl rfl <| .ag rfl rfl <| .nil ?_
  refine Run.seq (Run.seq (Run.reg [.p, .p, .p, .p, .p, .p, .p, .p, .p, .p, .p, .p, .p, .p, .p, .p, .p, .p, .p, .p, .p, .p] ?_))
  refine .mv rfl rfl <| .P rfl (q_neq rfl rfl) <| .mv rfl rfl <| .gF rfl (.inl rfl) rfl rfl rfl (fun hg => pk (fun _ => q_move rfl _)) <| .gF rfl (.inl rfl) rfl rfl rfl (fun hg => pk (fun _ => q_neq (opT rfl (nt hg)) rfl _)) <| .P rfl (q_or rfl rfl) <| .mv rfl rfl <| .gF rfl (.inl rfl) rfl rfl rfl (fun hg => pk (fun _ => q_move rfl _)) <| .gF rfl (.inl rfl) rfl rfl rfl (fun hg => pk (fun _ => q_neq (opT rfl (nt hg)) rfl _)) <| .P rfl (q_or rfl rfl) <| .mv rfl rfl <| .gF rfl (.inl rfl) rfl rfl rfl (fun hg => pk (fun _ => q_move rfl _)) <| .gF rfl (.inl rfl) rfl rfl rfl (fun hg => pk (fun _ => q_lenI Tryz.underlying27 (opT rfl (nt hg)) _)) <| .gF rfl (.inl rfl) rfl rfl rfl (fun hg => pk (fun _ => q_neq (opT rfl (nt hg)) rfl _)) <| .P rfl (q_or rfl rfl) <| .mv rfl rfl <| .gF rfl (.inl rfl) rfl rfl rfl (fun hg => pk (fun _ => q_move rfl _)) <| .gF rfl (.inl rfl) rfl rfl rfl (fun hg => pk (fun _ => q_lenI Tryz.underlying27 (opT rfl (nt hg)) _)) <| .gF rfl (.inl rfl) rfl rfl rfl (fun hg => pk (fun _ => q_move rfl _)) <| .gF rfl (.inl rfl) rfl rfl rfl (fun hg => pk (fun _ => q_lenI Tryz.underlying27 (opT rfl (nt hg)) _)) <| .gF rfl (.inl rfl) rfl rfl rfl (fun hg => pk (fun _ => q_neq (opT rfl (nt hg)) (opT rfl (nt hg)) _)) <| .P rfl (q_or rfl rfl) <| .nil ?_
  refine Run.condF rfl (by simp [hso.c, hso.len]) ?_
  refine Run.skip ?_
  refine Run.seq (Run.regT ?_)
  refine Tx.q rfl trivial (q_move rfl _) ?_
  refine Tx.q rfl trivial (q_callO Tryz.call21 rfl (cloneP_ok _ (by omega)) .nil rfl rfl) ?_
  refine Tx.q rfl trivial (q_move rfl _) ?_
  refine Tx.q rfl trivial (q_append 0 Tryz.underlying27 Tryz.underlying27 Tryz.sizeOf39 Tryz.typeInfo39 Tryz.zeroValue39 rfl (bt := 80) rfl rfl rfl rfl (by simp) rfl rfl (by simp; omega)) ?_
  refine Tx.weak (Le.freeze 86 0 rfl rfl (by simp)) ?_
  refine Tx.q rfl trivial (q_call Tryz.call20 (by rw [← List.map_append]; rfl) (trial50_ok (posts a b l (1 + n % 20) ++ posts b a l (1 + n % 20)) 84005 hso.smalls) _) ?_
  refine Tx.q rfl trivial (q_move rfl _) ?_
  refine Tx.q rfl trivial (q_extract rfl rfl _) ?_
  refine Tx.q rfl trivial (q_extract rfl rfl _) ?_
  refine Tx.q rfl trivial (q_assign rfl _) ?_
  refine Tx.q rfl trivial (q_assign rfl _) ?_
  refine Tx.nil ?_
  refine Run.seq (Run.reg [.p, .p, .p, .p, .p, .p, .p] ?_)
  refine .mv rfl rfl <| .P rfl (q_call Tryz.call20 rfl (trial50_ok (posts a b l (1 + n % 20)) 84005 hso.small1)) <| .mv rfl rfl <| .P rfl (q_extract rfl rfl) <| .P rfl (q_extract rfl rfl) <| .ag rfl rfl <| .ag rfl rfl <| .nil ?_
  refine Run.seq (Run.reg [.p, .p, .p, .p, .p, .p, .p] ?_)
  refine .mv rfl rfl <| .P rfl (q_call Tryz.call22 rfl (ledgerTrial_ok a 84005 hs1.2 (by omega))) <| .mv rfl rfl <| .P rfl (q_extract rfl rfl) <| .P rfl (q_extract rfl rfl) <| .ag rfl rfl <| .ag rfl rfl <| .nil ?_
  refine Run.seq (Run.reg [.p, .p, .p, .p, .p, .p, .p] ?_)
  refine .mv rfl rfl <| .P rfl (q_call Tryz.call22 rfl (ledgerTrial_ok b 84005 hs2.2 (by omega))) <| .mv rfl rfl <| .P rfl (q_extract rfl rfl) <| .P rfl (q_extract rfl rfl) <| .ag rfl rfl <| .ag rfl rfl <| .nil ?_
  refine Run.seq (Run.seq (Run.reg [.p, .p, .p, .p, .p, .p, .p, .p, .p, .p, .p, .p, .p, .p, .p, .p, .p, .p, .p] ?_))
  refine .mv rfl rfl <| .P rfl (q_neq rfl rfl) <| .mv rfl rfl <| .gF rfl (.inl rfl) rfl rfl rfl (fun hg => pk (fun _ => q_move rfl _)) <| .gF rfl (.inl rfl) rfl rfl rfl (fun hg => pk (fun _ => q_neq (opT rfl (nt hg)) rfl _)) <| .P rfl (q_or rfl rfl) <| .mv rfl rfl <| .gF rfl (.inl rfl) rfl rfl rfl (fun hg => pk (fun _ => q_move rfl _)) <| .gF rfl (.inl rfl) rfl rfl rfl (fun hg => pk (fun _ => q_neq (opT rfl (nt hg)) rfl _)) <| .P rfl (q_or rfl rfl) <| .mv rfl rfl <| .gF rfl (.inl rfl) rfl rfl rfl (fun hg => pk (fun _ => q_move rfl _)) <| .gF rfl (.inl rfl) rfl rfl rfl (fun hg => pk (fun _ => q_neq (opT rfl (nt hg)) rfl _)) <| .P rfl (q_or rfl rfl) <| .mv rfl rfl <| .gF rfl (.inl rfl) rfl rfl rfl (fun hg => pk (fun _ => q_move rfl _)) <| .gF rfl (.inl rfl) rfl rfl rfl (fun hg => pk (fun _ => q_lenI Tryz.underlying45 (opT rfl (nt hg)) _)) <| .gF rfl (.inl rfl) rfl rfl rfl (fun hg => pk (fun _ => q_neq (opT rfl (nt hg)) rfl _)) <| .P rfl (q_or rfl rfl) <| .nil ?_
  refine Run.condF rfl (by simp [hso.oks, hso.ok1, hd0, hso.sum, hso.va, hso.vb]) ?_
  refine Run.skip ?_
  refine Run.seq (Run.reg [.p, .p, .p, .p, .p, .p, .p, .p] ?_)
  refine .mv rfl rfl <| .mv rfl rfl <| .P rfl (q_call Tryz.call23 (by simp only [hso.va, hso.vb, hd0, Bool.and_self, if_true]; rfl) (minusB_ok (trialB 84005 b) (trialB 84005 a) hso.okb hso.oka)) <| .mv rfl rfl <| .P rfl (q_extract rfl rfl) <| .P rfl (q_extract rfl rfl) <| .ag rfl rfl <| .ag rfl rfl <| .nil ?_
  refine Run.seq (Run.reg [.p, .p, .p, .p, .p, .p, .p, .p, .p, .p, .p] ?_)
  refine .mv rfl rfl <| .P rfl (q_eql rfl rfl) <| .mv rfl rfl <| .gT rfl (.inl rfl) rfl rfl rfl (fun hg => pk (fun _ => q_move rfl _)) <| .gT rfl (.inl rfl) rfl rfl rfl (fun hg => pk (fun _ => q_move rfl _)) <| .gT rfl (.inl rfl) rfl rfl rfl (fun hg => pk (fun _ => q_call Tryz.call24 (opsC (opT rfl hg) (opsC (opT rfl hg) (rfl))) (same43_ok _ _) _)) <| .P rfl (q_and rfl rfl) <| .mv rfl rfl <| .gT rfl (.inl rfl) rfl rfl rfl (fun hg => pk (fun _ => q_call Tryz.call12 rfl awake_ok _)) <| .P rfl (q_and rfl rfl) <| .ag rfl rfl <| .nil ?_
  refine Run.ret (?_)
  exact ret1 rfl (Sub.bool (by first | rfl | simp [hso.ok1, hd0, hso.dif]))
end Go.T
namespace Go.T
open Go
def noO : Nat → Prop := fun _ => False
/-- What is read as data of the type is described by typed data. -/
structure Dec (P : Program) (t : TypeId) (α : Type) (enc : α → List D) : Prop where
  out : ∀ {H : Type} {eH : TypeId × Value → H} {w : World} {fuel : Nat} {cs : List Value} {x : DataW H × List MemPlace}, DataW.trod eH P w 0 (fun _ => true) true fuel t cs = some x → (∀ n ∈ x.1.weights P t, n ≤ reachBytes) →
    ∃ a : α, (∀ u ∈ cs, u.oneCell' = true) ∧ Vs w noO rho0 (enc a) cs
theorem Dec.int {P : Program} {t : TypeId} (ht : P.underlying t = some (.int .i64)) : Dec P t Int (fun n => [.i n]) := ⟨fun h _ => by
  obtain ⟨n, rfl, _, _⟩ := DataW.trod_int ht h
  exact ⟨n, by simp [Value.oneCell'], by simp [Vs, V]⟩⟩
theorem Dec.bool {P : Program} {t : TypeId} (ht : P.underlying t = some .bool) : Dec P t Bool (fun n => [.b n]) := ⟨fun h _ => by
  obtain ⟨n, rfl, _⟩ := DataW.trod_bool ht h
  exact ⟨n, by simp [Value.oneCell'], by simp [Vs, V]⟩⟩
theorem Dec.str {P : Program} {t : TypeId} (ht : P.underlying t = some .string) : Dec P t Str (fun n => [.str n]) := ⟨fun h hw => by
  obtain ⟨s, rfl, rfl, _⟩ := DataW.trod_string ht h
  have := hw s.data.toList.length (by simp [DataW.weights])
  refine ⟨s.data.toList, by simp [Value.oneCell'], ?_⟩
  simp only [Vs, V]
  refine ⟨_, _, rfl, ⟨by simp, ?_⟩, rfl⟩
  have := reachBytes_lt
  unfold big
  omega⟩
/-- The fields of a struct, from an offset on. -/
structure DecF (P : Program) (fs : List Field) (off : Nat) (α : Type) (enc : α → List D) : Prop where
  out : ∀ {H : Type} {eH : TypeId × Value → H} {w : World} {fuel : Nat} {cs : List Value} {xs : List (DataW H × List MemPlace)}, xs.length = fs.length →
    (∀ (i : Nat) (f : Field), fs[i]? = some f → DataW.trod eH P w 0 (fun _ => true) true fuel f.type ((cs.drop f.offset).take (P.cellsOf f.type)) = xs[i]?) → (∀ n ∈ DataW.weightsEach P (fs.map (·.type)) (xs.map (·.1)), n ≤ reachBytes) →
    ∃ a : α, (∀ u ∈ (cs.drop off).take ((fs.map fun f => P.cellsOf f.type).sum), u.oneCell' = true) ∧ Vs w noO rho0 (enc a) ((cs.drop off).take ((fs.map fun f => P.cellsOf f.type).sum))
theorem DecF.nil {P : Program} {off : Nat} : DecF P [] off Unit (fun _ => []) := ⟨fun _ _ _ => ⟨(), by simp, by simp [Vs]⟩⟩
theorem Vs.app {w : World} {O : Nat → Prop} {ρ : Rho} : ∀ {ds es : List D} {us vs : List Value}, Vs w O ρ ds us → Vs w O ρ es vs → Vs w O ρ (ds ++ es) (us ++ vs)
  | [], es, us, vs, h, h' => by simp only [Vs] at h; subst h; simpa using h'
  | d :: ds, es, us, vs, h, h' => by
    simp only [Vs] at h
    obtain ⟨u, us, rfl, h1, h2⟩ := h
    simp only [List.cons_append, Vs]
    exact ⟨_, _, rfl, h1, Vs.app h2 h'⟩
theorem DecF.cons {P : Program} {f : Field} {fs : List Field} {off n : Nat} {α β : Type} {enc : α → List D} {enc' : β → List D} (h1 : Dec P f.type α enc) (ho : f.offset = off) (hn : P.cellsOf f.type = n) (h2 : DecF P fs (off + n) β enc') : DecF P (f :: fs) off (α × β) (fun x => enc x.1 ++ enc' x.2) := ⟨fun {H eH w fuel cs xs} hl hr hw => by
  match xs, hl with
  | x :: xs, hl =>
    have hx := hr 0 f rfl
    simp only [List.map_cons, DataW.weightsEach, List.mem_append] at hw
    obtain ⟨a, ha, hva⟩ := h1.out (by simpa using hx) (fun n hn => hw n (.inl hn))
    obtain ⟨b, hb, hvb⟩ := h2.out (xs := xs) (by simpa using hl) (fun i g hg => by simpa using hr (i + 1) g (by simpa using hg)) (fun n hn => hw n (.inr hn))
    rw [ho, hn] at ha hva
    have e : (cs.drop off).take (((f :: fs).map fun f => P.cellsOf f.type).sum) = (cs.drop off).take n ++ (cs.drop (off + n)).take ((fs.map fun f => P.cellsOf f.type).sum) := by
      rw [List.map_cons, List.sum_cons, hn, List.take_add, List.drop_drop]
    rw [e]
    exact ⟨(a, b), fun u hu => (List.mem_append.1 hu).elim (ha u) (hb u), Vs.app hva hvb⟩⟩
theorem Dec.struct {P : Program} {t : TypeId} {fs : List Field} {α : Type} {enc : α → List D} (ht : P.underlying t = some (.struct fs.toArray)) (hc : P.cellsOf t = (fs.map fun f => P.cellsOf f.type).sum) (h : DecF P fs 0 α enc) : Dec P t α enc := ⟨fun {H eH w fuel cs x} hr hw => by
  obtain ⟨xs, n, _, rfl, hl, hlen, hf⟩ := DataW.trod_struct ht hr
  simp only [DataW.weights, ht, List.map_map] at hw
  obtain ⟨a, h1, h2⟩ := h.out (by simpa using hlen) (fun i f hi => hf i f (by simpa using hi)) (fun n hn => hw n (by simpa [Function.comp_def] using hn))
  have e : (cs.drop 0).take ((fs.map fun f => P.cellsOf f.type).sum) = cs := by
    rw [List.drop_zero, ← hc, ← hl, List.take_length]
  rw [e] at h1 h2
  exact ⟨a, h1, h2⟩⟩
theorem Dec.map {P : Program} {t : TypeId} {α β : Type} {enc : α → List D} {enc' : β → List D} (h : Dec P t α enc) (f : α → β) (he : ∀ a, enc' (f a) = enc a) : Dec P t β enc' := ⟨fun hr hw => by
  obtain ⟨a, h1, h2⟩ := h.out hr hw
  exact ⟨f a, h1, by rw [he]; exact h2⟩⟩
theorem Vs.toVc {w : World} {O : Nat → Prop} {b : Nat} : ∀ {ds : List D} {cs : List Value} {off : Nat}, Vs w O rho0 ds cs → (∀ u ∈ cs, u.oneCell' = true) → (∀ j u, cs[j]? = some u → w.cell? ⟨b, off + j, none⟩ = some u) → Vc w O b off ds
  | [], _, _, _, _, _ => by simp [Vc]
  | d :: ds, cs, off, h, h1, hc => by
    simp only [Vs] at h
    obtain ⟨u, us, rfl, h2, h3⟩ := h
    simp only [Vc]
    refine ⟨⟨u, ⟨by simpa using hc 0 u rfl, h1 u List.mem_cons_self⟩, h2⟩, Vs.toVc h3 (fun v hv => h1 v (List.mem_cons_of_mem _ hv)) (fun j v hj => ?_)⟩
    have := hc (j + 1) v (by simpa using hj)
    rwa [show off + (j + 1) = off + 1 + j by omega] at this
theorem cells_get {w : World} {a : Addr} {n : Nat} {cs : List Value} (h : w.cells? 0 a n = some cs) : cs.length = n ∧ ∀ j, j < n → w.cell? (a.add j) = cs[j]? := by
  unfold World.cells? at h
  rw [if_pos (Nat.zero_le _)] at h
  exact ⟨by simpa using mapM_some_length h, fun j hj => by simpa using mapM_some_get h j j (by simp [hj])⟩
theorem spot_none {w : World} {a : Addr} {u : Value} (h : w.cell? a = some u) : a.spot = none := by
  cases hsp : a.spot with
  | none => rfl
  | some s =>
    simp only [World.cell?] at h
    split at h
    · simp [hsp] at h
    · cases h
theorem Vr_of {w : World} {b sz : Nat} {α : Type} {enc : α → List D} : ∀ {l : List α} {off : Nat}, (∀ i a, l[i]? = some a → (enc a).length = sz ∧ Vc w noO b (off + i * sz) (enc a)) → Vr w noO b off sz (l.map enc)
  | [], _, _ => by simp [Vr]
  | a :: l, off, h => by
    simp only [List.map_cons, Vr]
    refine ⟨by simpa using h 0 a rfl, Vr_of fun i a' hi => ?_⟩
    have := h (i + 1) a' (by simpa using hi)
    rwa [show off + (i + 1) * sz = off + sz + i * sz by rw [Nat.add_mul]; omega] at this
theorem exists_list {α : Type} {p : Nat → α → Prop} : ∀ (n : Nat), (∀ i, i < n → ∃ a, p i a) → ∃ l : List α, l.length = n ∧ ∀ i a, l[i]? = some a → p i a
  | 0, _ => ⟨[], rfl, by simp⟩
  | n + 1, h => by
    obtain ⟨l, h1, h2⟩ := exists_list n (fun i hi => h i (by omega))
    obtain ⟨a, ha⟩ := h n (by omega)
    refine ⟨l ++ [a], by simp [h1], fun i a' hi => ?_⟩
    by_cases e : i < l.length
    · rw [List.getElem?_append_left e] at hi; exact h2 i a' hi
    · rw [List.getElem?_append_right (by omega)] at hi
      have : i = n := by
        by_cases e2 : i - l.length = 0
        · omega
        · simp [List.getElem?_cons, e2] at hi
      subst this
      simp [h1] at hi
      subst hi
      exact ha
theorem weightsAll_mem {H : Type} {P : Program} {e : TypeId} : ∀ {ds : List (DataW H)} {i : Nat} {d : DataW H}, ds[i]? = some d → ∀ n ∈ d.weights P e, n ∈ DataW.weightsAll P e ds
  | d0 :: ds, 0, d, h, n, hn => by
    simp only [List.getElem?_cons_zero, Option.some.injEq] at h
    subst h
    simp only [DataW.weightsAll, List.mem_append]
    exact .inl hn
  | d0 :: ds, i + 1, d, h, n, hn => by
    simp only [DataW.weightsAll, List.mem_append]
    exact .inr (weightsAll_mem (by simpa using h) n hn)
  | [], _, _, h, _, _ => by simp at h
theorem Dec.slice {P : Program} {t e : TypeId} {α : Type} {enc : α → List D} {sz k : Nat} (ht : P.underlying t = some (.slice e)) (hc : P.cellsOf e = sz) (hz : sz ≠ 0) (hb : P.bytesOf e = k + 1) (h : Dec P e α enc) (hl : ∀ a, (enc a).length = sz) : Dec P t (List α) (fun l => [.snap sz false (l.map enc)]) := ⟨fun {H eH w fuel cs x} hr hw => by
  rcases DataW.trod_slice ht hr with ⟨rfl, rfl⟩ | ⟨a, len, cap, elems, rest, n, rfl, rfl, rfl, _, hlc, hcap, hel, hget, hsp, _⟩
  · refine ⟨[], by simp [Value.oneCell'], ?_⟩
    simp only [Vs, V, List.map_nil]
    exact ⟨_, _, rfl, ⟨none, 0, rfl, ⟨Nat.le_refl _, by simp⟩, by simp, by simp⟩, rfl⟩
  · simp only [DataW.weights, ht, List.mem_cons, List.mem_append, hb] at hw
    have hlen : len ≤ big := by
      have h1 := hw _ (.inl rfl)
      simp only [List.length_map, hel] at h1
      have h2 := reachBytes_lt
      have h3 : len + rest.length ≤ (len + rest.length) * (k + 1) := Nat.le_mul_of_pos_right _ (by omega)
      unfold big
      omega
    have hq : ∀ i, i < len → ∃ y : α, (enc y).length = sz ∧ ∃ cs : List Value, cs.length = sz ∧ (∀ u ∈ cs, u.oneCell' = true) ∧ Vs w noO rho0 (enc y) cs ∧ ∀ j, j < sz → w.cell? ((a.add (i * sz)).add j) = cs[j]? := by
      intro i hi
      have hg := hget i hi
      rw [hc] at hg
      have hi' : i < elems.length := by omega
      rw [List.getElem?_eq_getElem hi'] at hg
      obtain ⟨cs, hcs, hg⟩ := Option.bind_eq_some_iff.1 hg
      obtain ⟨y, h1, h2⟩ := h.out hg (fun n hn => hw n (.inr (.inl (weightsAll_mem (i := i) (d := elems[i].1) (by simp [hi']) n hn))))
      obtain ⟨h3, h4⟩ := cells_get hcs
      exact ⟨y, hl y, cs, h3, h1, h2, h4⟩
    obtain ⟨l, hll, hp⟩ := exists_list len hq
    refine ⟨l, by simp [Value.oneCell'], ?_⟩
    simp only [Vs, V, List.length_map]
    refine ⟨_, _, rfl, ⟨some a, cap, by rw [hll], ⟨by omega, by omega⟩, by simp, fun hne => ?_⟩, rfl⟩
    have hpos : 0 < len := by
      cases l with
      | nil => simp at hne
      | cons _ _ => simp at hll; omega
    have h0 : ∃ u, w.cell? a = some u := by
      obtain ⟨y, _, cs, h1, _, _, h4⟩ := hq 0 hpos
      have h5 := h4 0 (by omega)
      have h6 : 0 < cs.length := by omega
      rw [List.getElem?_eq_getElem h6] at h5
      exact ⟨cs[0], by simpa [Addr.add] using h5⟩
    obtain ⟨u, hu⟩ := h0
    have hs := spot_none hu
    obtain ⟨b, off, sp⟩ := a
    simp only at hs
    subst hs
    refine ⟨b, off, rfl, ⟨cell_lt hu, fun h => h⟩, Vr_of fun i y hi => ?_⟩
    obtain ⟨g1, cs, g2, g3, g4, g5⟩ := hp i y hi
    refine ⟨g1, Vs.toVc g4 g3 fun j v hj => ?_⟩
    have hj' : j < sz := by
      have := (List.getElem?_eq_some_iff.1 hj).1
      omega
    rw [← hj, ← g5 j hj']
    congr 1
    unfold Addr.add
    by_cases e1 : i * sz = 0 <;> by_cases e2 : j = 0 <;> simp [e1, e2]⟩
end Go.T
namespace Go.T
open Go Go.ChangeShapes Go.WideShapes Go.RowKit Go.ChangeAt
structure DecL (P : Program) (ts : List TypeId) (α : Type) (enc : α → List D) : Prop where
  out : ∀ {H : Type} {eH : TypeId × Value → H} {w : World} {base : Nat} {vs : List Value} {ds : List (DataW H)} {p : List MemPlace}, DataW.TrodAll eH P w 0 (fun _ => true) true ts vs ds p →
    (∀ (j : Nat) t v, ts[j]? = some t → vs[j]? = some v → Value.okWide P w .any base t v) → (∀ n ∈ DataW.weightsEach P ts ds, n ≤ reachBytes) → ∃ a : α, Vs w noO rho0 (enc a) vs
def OneTy (P : Program) (t : TypeId) : Prop := ∀ w base v, Value.okWide P w .any base t v → v.cells.toList = [v]
theorem OneTy.slice {P : Program} {t e : TypeId} (ht : P.underlying t = some (.slice e)) : OneTy P t := fun w base v h => by
  obtain ⟨a, l, c, rfl⟩ := okWide_slice ht h; rfl
theorem OneTy.str {P : Program} {t : TypeId} (ht : P.underlying t = some .string) : OneTy P t := fun w base v h => by
  obtain ⟨a, rfl⟩ := okWide_string ht h; rfl
theorem OneTy.int {P : Program} {t : TypeId} {k : IntKind} (ht : P.underlying t = some (.int k)) : OneTy P t := fun w base v h => by
  obtain ⟨a, rfl⟩ := okWide_int ht h; rfl
theorem DecL.nil {P : Program} : DecL P [] Unit (fun _ => []) := ⟨fun {H eH w base vs ds p} h _ _ => by
  match vs, ds, h with
  | [], [], _ => exact ⟨(), by simp [Vs]⟩⟩
theorem DecL.cons {P : Program} {t : TypeId} {ts : List TypeId} {α β : Type} {e : α → D} {enc : β → List D} (h1 : Dec P t α (fun a => [e a])) (ho : OneTy P t) (h2 : DecL P ts β enc) : DecL P (t :: ts) (α × β) (fun x => e x.1 :: enc x.2) := ⟨fun {H eH w base vs ds p} h hv hw => by
  match vs, ds, h with
  | v :: vs, d :: ds, ⟨p1, q1, ⟨fuel, hf⟩, h4, _⟩ =>
    simp only [DataW.weightsEach, List.mem_append] at hw
    obtain ⟨b, hb⟩ := h2.out h4 (fun j t v ht hv' => hv (j + 1) t v (by simpa using ht) (by simpa using hv')) (fun n hn => hw n (.inr hn))
    rw [ho w base v (hv 0 t v rfl rfl)] at hf
    obtain ⟨a, _, ha⟩ := h1.out hf (fun n hn => hw n (.inl hn))
    simp only [Vs] at ha
    obtain ⟨u, us, e1, ha, rfl⟩ := ha
    cases e1
    exact ⟨(a, b), v, vs, rfl, ha, hb⟩⟩
theorem Keep.keptBut {w w' : World} (h : Keep w w') (may : MemPlace → Prop) : w.keptBut w' may := by
  refine ⟨h.os.1, h.os.2.1, fun i hi => ?_⟩
  rw [h.same i hi]
  split <;> simp_all
theorem Keep.sameAt {w w' : World} (h : Keep w w') {p : MemPlace} (hp : p.block < w.heap.size) : w.sameAt w' p := by
  cases p with
  | cell b off =>
    simp only [MemPlace.block] at hp
    simp [World.sameAt, World.cell?, h.same b hp]
  | map b => exact h.same b hp
theorem trodAll_keep {H : Type} {eH : TypeId × Value → H} {P : Program} {w w' : World} {sp : Nat → Bool} (hk : Keep w w') : ∀ {ts : List TypeId} {vs : List Value} {ds : List (DataW H)} {p : List MemPlace}, DataW.TrodAll eH P w 0 sp true ts vs ds p → (∀ x ∈ p, x.block < w.heap.size) → DataW.TrodAll eH P w' 0 sp true ts vs ds p
  | [], vs, ds, p, h, _ => by
    match vs, ds, h with
    | [], [], h => exact h
  | t :: ts, vs, ds, p, h, hp => by
    match vs, ds, h with
    | v :: vs, d :: ds, ⟨p1, q1, ⟨fuel, hf⟩, h4, e⟩ =>
      subst e
      exact ⟨p1, q1, ⟨fuel, DataW.trod_carry _ _ _ _ hf fun x hx => hk.sameAt (hp x (List.mem_append_left _ hx))⟩, trodAll_keep hk h4 (fun x hx => hp x (List.mem_append_right _ hx)), rfl⟩
theorem trodAll_len {H : Type} {eH : TypeId × Value → H} {P : Program} {w : World} {sp : Nat → Bool} : ∀ {ts : List TypeId} {vs : List Value} {ds : List (DataW H)} {p : List MemPlace}, DataW.TrodAll eH P w 0 sp true ts vs ds p → ds.length = ts.length
  | [], vs, ds, p, h => by
    match vs, ds, h with
    | [], [], h => rfl
  | t :: ts, vs, ds, p, h => by
    match vs, ds, h with
    | v :: vs, d :: ds, ⟨p1, q1, _, h4, e⟩ => simp [trodAll_len h4]
theorem law_contract {P : Program} {f : FuncId} {fn : Func} {s : ChangeSpec} {α : Type} {encs : α → List D} {tb : TypeId}
    (hkids : Kids P (· < P.types.size)) (hfull : ∀ t e, t < P.types.size → P.underlying t = some (.slice e) → 0 < P.cellsOf e)
    (hts : ∀ t ∈ fn.params.toList, t < P.types.size) (hvars : s.vars = []) (hres : fn.resultTypes = #[tb]) (hb : P.underlying tb = some .bool)
    (hsp : ∀ (H : Type) (ds : List (DataW H)), ds.length = fn.params.size → s.fn H ds = { results := [.lit (.bool true)], args := ds })
    (hdec : DecL P fn.params.toList α encs) (hlaw : ∀ a, Fc P f (encs a) (.b true))
    {H : Type} {enc : TypeId × Value → H} {W : World} {base : Nat} {args : Array Value} {ds gs : List (DataW H)} {before : List MemPlace}
    (hval : ∀ (j : Nat) t v, fn.params[j]? = some t → args[j]? = some v → Value.okWide P W .any base t v)
    (hW : DataW.Whole enc P fn.params.toList s.vars false W args.toList ds gs before)
    (hsz : (DataW.weightsEach P (fn.params.toList ++ s.plain.varTypes P) (ds ++ gs)).all (· ≤ reachBytes) = true) (hgl : Gl W noO) :
    Calls P f args W fun e W' => ∃ v, e = .returned v ∧ s.post enc P fn false true false false W args v W' := by
  have hW' := hW
  obtain ⟨p, q, hA, hV, rfl, _, _⟩ := hW
  rw [hvars] at hV
  obtain ⟨rfl, rfl⟩ := trodVars_none hV
  have hvt : s.plain.varTypes P = [] := by simp [ChangeSpec.plain, DataSpec.varTypes, hvars]
  rw [hvt, List.append_nil, List.append_nil] at hsz
  obtain ⟨a, ha⟩ := hdec.out hA (fun j t v ht hv => hval j t v (by simpa using ht) (by simpa using hv)) (fun n hn => by simpa using List.all_eq_true.1 hsz n hn)
  have hlen := trodAll_len hA
  have hlt : ∀ x ∈ p, x.block < W.heap.size := fun x hx => hA.lt x hx
  refine ((hlaw a).out W noO rho0 args.toList (fun b h => h.elim) hgl ha).mono ?_
  rintro e W' ⟨v, rfl, hv, hk⟩
  simp only [V] at hv
  subst hv
  have hf : s.fn H (ds ++ []) = { results := [.lit (.bool true)], args := ds } := by rw [List.append_nil]; exact hsp H ds (by simpa using hlen)
  refine ⟨_, rfl, ds, [], p ++ [], [], p, [], hW', ?_, ?_, ?_, hk.keptBut _, fun h => by cases h⟩
  · rw [hf, hres]
    exact trodAll_mk1 (shut_bool hb _)
  · rw [hf]
    exact DataW.TrodAll.respare hkids hfull hts (trodAll_keep hk hA hlt) (fun x hx => by simpa using hlt x hx)
  · rw [hf, hvars]
    rfl
/-- A table of integers that is listed: its block. -/
theorem laid_cells {P : Program} {W : World} {n : String} {k : IntKind} {zs : List Int} {rest : List (String × DataW Unit)} {g t e : Nat} (hg : P.globalNamed n = some g) (ht : (P.globals[g]?).map (·.type) = some t) (hu : P.underlying t = some (.array zs.length e)) (he : P.underlying e = some (.int k)) (hce : P.cellsOf e = 1) (hct : P.cellsOf t = zs.length)
    (pre : List (String × DataW Unit)) (hL : laidMet P (pre ++ (n, .agg (zs.map fun z => .lit (.int k z))) :: rest) W) : ∃ T fr, W.heap[g]? = some (.cells (zs.map fun z => Value.int k z).toArray T fr) := by
  obtain ⟨ps, h, hx⟩ := hL
  clear hx
  induction pre generalizing ps with
  | cons x pre ih =>
    obtain ⟨_, _, _, _, _, q, _, _, _, _, h, _⟩ := h
    exact ih q h
  | nil =>
    obtain ⟨g', t', cs, fuel, p, q, hg', ht', hv, hd, _⟩ := h
    obtain rfl := Option.some.inj (hg.symm.trans hg')
    obtain rfl := Option.some.inj (ht.symm.trans ht')
    obtain ⟨xs, m, _, ex, hcl, hl, hel⟩ := DataW.trod_array hu hd
    have e3 : xs.map (·.1) = zs.map fun z => .lit (.int k z) := (DataW.agg.inj (Prod.mk.inj ex).1).symm
    have key : cs = (zs.map fun z => Value.int k z).toArray := by
      apply Array.ext'
      apply List.ext_getElem?
      intro r
      by_cases hr : r < zs.length
      · have hE := hel r hr
        rw [hce, Nat.mul_one, List.getElem?_eq_getElem (by omega)] at hE
        obtain ⟨z, e1, e2, _⟩ := DataW.trod_int he hE
        have e4 : (xs.map (·.1))[r]? = (zs.map fun n => (DataW.lit (.int k n) : DataW Unit))[r]? := by rw [e3]
        rw [List.getElem?_map, List.getElem?_map, List.getElem?_eq_getElem (by omega : r < xs.length), List.getElem?_eq_getElem hr, e2] at e4
        simp only [Option.map_some, Option.some.injEq, DataW.lit.injEq, Lit.int.injEq, true_and] at e4
        have h0 : ((cs.toList.drop r).take 1)[0]? = some (.int k z) := by rw [e1]; rfl
        have h1 : cs.toList[r]? = some (.int k z) := by simpa using h0
        rw [h1, List.toList_toArray, List.getElem?_map, List.getElem?_eq_getElem hr, e4]; rfl
      · have : cs.toList.length = zs.length := by rw [hcl, hct]
        rw [List.getElem?_eq_none (by omega), List.getElem?_eq_none (by simp; omega)]
    simp only [World.var?, hg, Option.bind_some] at hv
    split at hv
    · rename_i c T fr hb
      cases hv
      exact ⟨T, fr, by rw [hb, key]⟩
    · cases hv
end Go.T
namespace Go.T
open Go Go.Proofs Go.ChangeShapes Go.WideShapes Go.RowKit Go.ChangeAt
set_option maxRecDepth 100000
theorem tz_kids : Kids Tryz.prog (· < Tryz.prog.types.size) := kids_rows (by kernel_rfl) (by kernel_rfl)
theorem tz_full : ∀ t e, t < Tryz.prog.types.size → Tryz.prog.underlying t = some (.slice e) → 0 < Tryz.prog.cellsOf e := slices_full_of Tryz.prog (by kernel_rfl)
theorem tz_own : ownKnob Tryz.prog.godebug = none := by kernel_rfl
theorem tz_size : Tryz.prog.types.size = 337 := by kernel_rfl
theorem d_day : Dec Tryz.prog 34 Int (fun n => [.i n]) := .int Tryz.underlying34
theorem d_int : Dec Tryz.prog 3 Int (fun n => [.i n]) := .int Tryz.underlying3
theorem d_str : Dec Tryz.prog 9 Str (fun n => [.str n]) := .str Tryz.underlying9
theorem c3 : Tryz.prog.cellsOf 3 = 1 := by kernel_rfl
theorem c9 : Tryz.prog.cellsOf 9 = 1 := by kernel_rfl
theorem c54 : Tryz.prog.cellsOf 54 = 1 := by kernel_rfl
theorem c35 : Tryz.prog.cellsOf 35 = 1 := by kernel_rfl
theorem c34 : Tryz.prog.cellsOf 34 = 1 := by kernel_rfl
theorem d_line : Dec Tryz.prog 92 Line encLine :=
  (Dec.struct Tryz.underlying92 (by kernel_rfl) (.cons d_str rfl c9 (.cons d_str rfl c9 (.cons (.str Tryz.underlying54) rfl c54 .nil)))).map (fun x => ⟨x.1, x.2.1, x.2.2.1⟩) (fun a => rfl)
theorem d_lines : Dec Tryz.prog 35 (List Line) (fun l => [sLines l]) := .slice (sz := 3) (k := 47) Tryz.underlying35 (by kernel_rfl) (by decide) (by kernel_rfl) d_line (fun _ => rfl)
theorem d_entry : Dec Tryz.prog 37 Entry encEntry :=
  (Dec.struct Tryz.underlying37 (by kernel_rfl) (.cons d_day rfl c34 (.cons d_str rfl c9 (.cons d_lines rfl c35 .nil)))).map (fun x => ⟨x.1, x.2.1, x.2.2.1⟩) (fun a => rfl)
theorem d_entries : Dec Tryz.prog 22 (List Entry) (fun l => [sEntries l]) := .slice (sz := 3) (k := 47) Tryz.underlying22 (by kernel_rfl) (by decide) (by kernel_rfl) d_entry (fun _ => rfl)
theorem d_close : Dec Tryz.prog 76 Close encClose :=
  (Dec.struct Tryz.underlying76 (by kernel_rfl) (.cons d_day rfl c34 (.cons d_int rfl c3 .nil))).map (fun x => ⟨x.1, x.2.1⟩) (fun a => rfl)
theorem d_closes : Dec Tryz.prog 23 (List Close) (fun l => [sCloses l]) := .slice (sz := 2) (k := 15) Tryz.underlying23 (by kernel_rfl) (by decide) (by kernel_rfl) d_close (fun _ => rfl)
def laidL : List (String × DataW Unit) := Go.Proofs.YtlhemheagekhaaaGreatDoor.Rows.restateStepRow.laid
theorem gl_of {W : World} (h : laidMetH Tryz.prog laidL W) : Gl W noO := by
  rw [MakeChecks.laidMetH_plain _ _ _ (by kernel_rfl)] at h
  intro g vs hm
  simp only [gtab, List.mem_singleton, Prod.mk.injEq] at hm
  obtain ⟨rfl, rfl⟩ := hm
  refine ⟨?_, fun h => h⟩
  have := laid_cells (P := Tryz.prog) (W := W) (n := "internal/strconv.uint64pow10") (k := .u64) (zs := pow10s.map fun (n : Nat) => (n : Int)) (g := 2) (t := 298) (e := 171) (by kernel_rfl) (by kernel_rfl) Tryz.underlying298 Tryz.underlying171 (by kernel_rfl) (by kernel_rfl) (laidL.take 2) (rest := laidL.drop 3) h
  simpa [Function.comp_def] using this
end Go.T
