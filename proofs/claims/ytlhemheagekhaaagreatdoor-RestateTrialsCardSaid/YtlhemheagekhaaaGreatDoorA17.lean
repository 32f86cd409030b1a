/-
  Contracts of the functions that the statement reaches, and the logic in which they are proved (no condition): parts W62, Card1, Card2, Card3.
-/
import Derived.Test.YtlhemheagekhaaaGreatDoorA16
import Derived.ChangeArms
import Derived.SizedLaws
import Derived.ProofKit
import Derived.OpenShut
import Derived.ReadAgain
import Derived.LaidMore
import Derived.Test.YtlhemheagekhaaaGreatDoorCards
import Derived.Test.YtlhemheagekhaaaGreatDoorTie
import Derived.Lay
import Derived.SevenTiedAt
import Derived.Stop.Joined
set_option linter.all false
namespace Go.T
open Go Go.Proofs
set_option maxRecDepth 20000
structure great50_ok_L0 (l : List Posted) where
 pre : List Posted
 rest : List Posted
 hx : l = pre ++ rest
 hp : pre.any (fun p => greatOne p.entry || decide (60 < p.by_.length)) = false
theorem great50_ok (l : List Posted) : Fc Tryz.prog 25 [sPosteds l] (.b (great50 l)) := by
 refine Fc.mk' [2] Tryz.func25 rfl Tryz.ntmps25 rfl rfl rfl (fun t w => results_tmp Tryz.results25 t _ w) ?_
 refine Run.bSnap 0 rfl (fun hb => ?_)
 simp only [List.length_map, big] at hb
 refine Run.seq (Run.reg [.p] ?_)
 refine .ag rfl rfl <| .nil ?_
 refine Run.seq (Run.seq (Run.reg [.p] ?_))
 refine .ag rfl rfl <| .nil ?_
 refine Run.block ?_
 refine Run.loop (ι := great50_ok_L0 l) (fun sx => [(0, sPosteds l), (3, .i sx.pre.length)]) (fun sx => []) (fun sx => sx.rest.length) ⟨[], l, rfl, rfl⟩ ?_ ?_
 ·exact Le.mk rfl (.same rfl rfl (.cons rfl Sub.intA rfl .nil)) .nil
 ·rintro ⟨pre, rest, hx, hp⟩
  show Run _ _ _ _ [(0, sPosteds l), (3, .i pre.length)] []
  have hl := congrArg List.length hx
  simp only [List.length_append] at hl
  rcases rest with _ | ⟨x, rest⟩
  ·skip
   refine Run.seq (Run.seq (Run.reg [.p, .p, .p, .p] ?_))
   refine .mv rfl rfl <| .mv rfl rfl <| .P rfl (q_lenI Tryz.underlying27 rfl) <| .P rfl (q_lss rfl rfl) <| .nil ?_
   refine Run.condF rfl (by simp at hl ⊢; omega) ?_
   refine Run.exit (tq_exit (bq_exit ?_))
   refine Run.seq (Run.reg [.p, .p, .p, .p] ?_)
   refine .mv rfl rfl <| .P rfl (q_lenI Tryz.underlying27 rfl) <| .P rfl (q_gtr rfl rfl) <| .ag rfl rfl <| .nil ?_
   refine Run.ret (?_)
   exact ret1 rfl (Sub.bool (by first | exact (great50_T hx (by simp at *; grind)).symm | (rw [great50_end hx hp]; simp; omega)))
  ·simp only [List.length_cons] at hl
   refine Run.seq (Run.seq (Run.reg [.p, .p, .p, .p] ?_))
   refine .mv rfl rfl <| .mv rfl rfl <| .P rfl (q_lenI Tryz.underlying27 rfl) <| .P rfl (q_lss rfl rfl) <| .nil ?_
   refine Run.condT rfl (by simp; omega) ?_
   refine Run.skip ?_
   refine Run.seq ?_
   refine Run.block ?_
   refine Run.seq (Run.reg [.p, .p, .p, .p, .p, .p, .p, .p, .p, .p, .p, .p, .p, .p, .p] ?_)
   refine .mv rfl rfl <| .mv rfl rfl <| .P rfl (q_indexI Tryz.underlying27 Tryz.sizeOf39 rfl rfl (by omega) (idx_mid encPosted hx rfl)) <| .P rfl (q_fieldI (n := 2) 37 3 Tryz.underlying39 Tryz.sizeOf37 rfl rfl rfl) <| .P rfl (q_loadIA Tryz.isAgg37 Tryz.sizeOf37 rfl rfl) <| .P rfl (q_call Tryz.call41 rfl (greatOne_ok x.entry)) <| .mv rfl rfl <| .gF rfl (.inl rfl) rfl rfl rfl (fun hg => pk (fun _ => q_move rfl _)) <| .gF rfl (.inl rfl) rfl rfl rfl (fun hg => pk (fun _ => q_move rfl _)) <| .gF rfl (.inl rfl) rfl rfl rfl (fun hg => pk (fun _ => q_indexI Tryz.underlying27 Tryz.sizeOf39 (opT rfl (nt hg)) (opT rfl (nt hg)) (by omega) (idx_mid encPosted hx rfl) _)) <| .gF rfl (.inl rfl) rfl rfl rfl (fun hg => pk (fun _ => q_fieldI (n := 0) 9 2 Tryz.underlying39 Tryz.sizeOf9 rfl (opT rfl (nt hg)) rfl _)) <| .gF rfl (.inl rfl) rfl rfl rfl (fun hg => pk (fun _ => q_loadI Tryz.isAgg9 (opT rfl (nt hg)) _)) <| .gF rfl (.inl rfl) rfl rfl rfl (fun hg => pk (fun _ => q_lenS Tryz.underlying9 (opT rfl (nt hg)) _)) <| .gF rfl (.inl rfl) rfl rfl rfl (fun hg => pk (fun _ => q_gtr (opT rfl (nt hg)) rfl _)) <| .P rfl (q_or rfl rfl) <| .nil ?_
   refine Run.cond rfl (fun h1 => ?_) (fun h1 => ?_)
   ·have ph1 := h1
    try simp only [bs, bne_iff_ne, ne_eq, List.length_map] at ph1
    refine Run.seq (Run.reg [.p] ?_)
    refine .ag rfl rfl <| .nil ?_
    refine Run.ret (bq_ret (tq_ret (bq_ret (?_))))
    exact ret1 rfl (Sub.bool (by first | exact (great50_T hx (by simp at *; grind)).symm | (rw [great50_end hx hp]; simp; omega)))
   ·have ph1 := h1
    try simp only [bs, bne_iff_ne, ne_eq, List.length_map] at ph1
    refine Run.skip ?_
    refine Run.nil (bq_norm ?_)
    refine Run.reg [.p, .p, .p] ?_
    refine .mv rfl rfl <| .P rfl (q_add rfl rfl (wrap64_ok (by omega) (by omega))) <| .ag rfl rfl <| .nil ?_
    refine Run.nil (tq_norm ?_)
    exact ⟨⟨pre ++ [x], rest, by simp [hx], by simp at *; grind⟩, by simp, Le.mk rfl (.same rfl rfl (.cons rfl Sub.intA rfl .nil)) .nil⟩
theorem check06_ok (d : Int) : Fc Tryz.prog 88 [.i d] (.i (if validDay d then 0 else 13)) := by
 refine Fc.mk' [2] Tryz.func88 rfl Tryz.ntmps88 rfl rfl rfl (fun t w => results_tmp Tryz.results88 t _ w) ?_
 refine Run.seq (Run.reg [.p] ?_)
 refine .ag rfl rfl <| .nil ?_
 refine Run.seq (Run.seq (Run.reg [.p, .p, .p, .p, .p, .p] ?_))
 refine .mv rfl rfl <| .P rfl (q_lss rfl rfl) <| .mv rfl rfl <| .gF rfl (.inl rfl) rfl rfl rfl (fun hg => pk (fun _ => q_move rfl _)) <| .gF rfl (.inl rfl) rfl rfl rfl (fun hg => pk (fun _ => q_gtr (opT rfl (nt hg)) rfl _)) <| .P rfl (q_or rfl rfl) <| .nil ?_
 refine Run.cond rfl (fun h1 => ?_) (fun h1 => ?_)
 ·have ph1 := h1
  try simp only [bs, bne_iff_ne, ne_eq, List.length_map] at ph1
  refine Run.seq (Run.reg [.p] ?_)
  refine .ag rfl rfl <| .nil ?_
  refine Run.ret (?_)
  exact ret1 rfl (Sub.int (by grind [validDay]))
 ·have ph1 := h1
  try simp only [bs, bne_iff_ne, ne_eq, List.length_map] at ph1
  refine Run.skip ?_
  refine Run.seq (Run.reg [.p] ?_)
  refine .ag rfl rfl <| .nil ?_
  refine Run.ret (?_)
  exact ret1 rfl (Sub.int (by grind [validDay]))
theorem validP50_ok (p : Posted) (hs : smallE p.entry) : Fc Tryz.prog 77 [.agg (encPosted p)] (.b (okP p)) := by
 refine Fc.mk' [2] Tryz.func77 rfl Tryz.ntmps77 rfl rfl rfl (fun t w => results_tmp Tryz.results77 t _ w) ?_
 refine Run.seq (Run.reg [.w, .p] ?_)
 refine .W rfl (q_boxA 0 rfl rfl) <| .ag rfl rfl <| .nil ?_
 refine Run.seq (Run.reg [.p, .r, .p, .p, .p, .p, .r, .p, .p, .p, .p, .p, .r, .p, .p, .r, .p, .p, .p, .p, .r, .p, .p, .p, .p, .r, .p, .p, .p] ?_)
 refine .P rfl (q_fieldB (n := 2) 37 3 Tryz.underlying39 Tryz.sizeOf37 rfl rfl) <| .R rfl (q_loadA Tryz.isAgg37 Tryz.sizeOf37 rfl rfl (by simp) rfl) <| .P rfl (q_call Tryz.call56 rfl (check35_ok p.entry hs)) <| .P rfl (q_eql rfl rfl) <| .mv rfl rfl <| .gT rfl (.inl rfl) rfl rfl rfl (fun hg => pk (fun _ => q_fieldB (n := 0) 34 0 Tryz.underlying39 Tryz.sizeOf34 rfl rfl _)) <| .gT rfl (.inr rfl) rfl rfl rfl (fun hg => rk (q_load1 Tryz.isAgg34 (opT rfl hg) rfl rfl)) <| .gT rfl (.inl rfl) rfl rfl rfl (fun hg => pk (fun _ => q_call Tryz.call88 (opsC (opT rfl hg) (rfl)) (check06_ok _) _)) <| .gT rfl (.inl rfl) rfl rfl rfl (fun hg => pk (fun _ => q_eql (opT rfl hg) rfl _)) <| .P rfl (q_and rfl rfl) <| .mv rfl rfl <| .gT rfl (.inl rfl) rfl rfl rfl (fun hg => pk (fun _ => q_fieldB (n := 0) 34 0 Tryz.underlying39 Tryz.sizeOf34 rfl rfl _)) <| .gT rfl (.inr rfl) rfl rfl rfl (fun hg => rk (q_load1 Tryz.isAgg34 (opT rfl hg) rfl rfl)) <| .gT rfl (.inl rfl) rfl rfl rfl (fun hg => pk (fun _ => q_fieldB (n := 2) 37 3 Tryz.underlying39 Tryz.sizeOf37 rfl rfl _)) <| .gT rfl (.inl rfl) rfl rfl rfl (fun hg => pk (fun _ => q_fieldB (n := 0) 34 0 Tryz.underlying37 Tryz.sizeOf34 rfl (opT rfl hg) _)) <| .gT rfl (.inr rfl) rfl rfl rfl (fun hg => rk (q_load1 Tryz.isAgg34 (opT rfl hg) rfl rfl)) <| .gT rfl (.inl rfl) rfl rfl rfl (fun hg => pk (fun _ => q_geq (opT rfl hg) (opT rfl hg) _)) <| .P rfl (q_and rfl rfl) <| .mv rfl rfl <| .gT rfl (.inl rfl) rfl rfl rfl (fun hg => pk (fun _ => q_fieldB (n := 0) 3 1 Tryz.underlying39 Tryz.sizeOf3 rfl rfl _)) ?_
 refine .gT rfl (.inr rfl) rfl rfl rfl (fun hg => rk (q_load1 Tryz.isAgg3 (opT rfl hg) rfl rfl)) <| .gT rfl (.inl rfl) rfl rfl rfl (fun hg => pk (fun _ => q_geq (opT rfl hg) rfl _)) <| .P rfl (q_and rfl rfl) <| .mv rfl rfl <| .gT rfl (.inl rfl) rfl rfl rfl (fun hg => pk (fun _ => q_fieldB (n := 0) 9 2 Tryz.underlying39 Tryz.sizeOf9 rfl rfl _)) <| .gT rfl (.inr rfl) rfl rfl rfl (fun hg => rk (q_load1 Tryz.isAgg9 (opT rfl hg) rfl rfl)) <| .gT rfl (.inl rfl) rfl rfl rfl (fun hg => pk (fun _ => q_call Tryz.call50 (opsC (opT rfl hg) (rfl)) (name10_ok _) _)) <| .P rfl (q_and rfl rfl) <| .ag rfl rfl <| .nil ?_
 refine Run.ret (?_)
 exact ret1 rfl (Sub.bool (by cases hv : validDay p.day <;> simp [okP, Bool.and_assoc, hv] <;> grind))
structure check50_ok_L0 (l : List Posted) where
 pre : List Posted
 rest : List Posted
 hx : l = pre ++ rest
 hp : pre.all okP = true ∧ adjK pre = true
 hl0 : l.length ≤ 10000
theorem check50_ok (l : List Posted) (hs : smallPs l) : Fc Tryz.prog 26 [sPosteds l] (.i (if okPs l then 0 else 1)) := by
 refine Fc.mk' [2] Tryz.func26 rfl Tryz.ntmps26 rfl rfl rfl (fun t w => results_tmp Tryz.results26 t _ w) ?_
 refine Run.bSnap 0 rfl (fun hb => ?_)
 simp only [List.length_map, big] at hb
 refine Run.seq (Run.reg [.p] ?_)
 refine .ag rfl rfl <| .nil ?_
 refine Run.seq (Run.seq (Run.reg [.p, .p, .p] ?_))
 refine .mv rfl rfl <| .P rfl (q_lenI Tryz.underlying27 rfl) <| .P rfl (q_gtr rfl rfl) <| .nil ?_
 refine Run.cond rfl (fun h1 => ?_) (fun h1 => ?_)
 ·have ph1 := h1
  try simp only [bs, bne_iff_ne, ne_eq, List.length_map] at ph1
  refine Run.seq (Run.reg [.p] ?_)
  refine .ag rfl rfl <| .nil ?_
  refine Run.ret (?_)
  exact ret1 rfl (Sub.int (by first | (rw [okPs_end hx hp hl0]; rfl) | (rw [okPs_bad hx (by grind)]; rfl) | (rw [show okPs l = false by simp [okPs]; omega]; rfl)))
 ·have ph1 := h1
  try simp only [bs, bne_iff_ne, ne_eq, List.length_map] at ph1
  refine Run.skip ?_
  refine Run.seq (Run.seq (Run.reg [.p] ?_))
  refine .ag rfl rfl <| .nil ?_
  refine Run.block ?_
  refine Run.loop (ι := check50_ok_L0 l) (fun sx => [(0, sPosteds l), (3, .i sx.pre.length)]) (fun sx => []) (fun sx => sx.rest.length) ⟨[], l, rfl, ⟨rfl, rfl⟩, by simp at *; omega⟩ ?_ ?_
  ·exact Le.mk rfl (.same rfl rfl (.cons rfl Sub.intA rfl .nil)) .nil
  ·rintro ⟨pre, rest, hx, hp, hl0⟩
   show Run _ _ _ _ [(0, sPosteds l), (3, .i pre.length)] []
   have hl := congrArg List.length hx
   simp only [List.length_append] at hl
   rcases rest with _ | ⟨x, rest⟩
   ·skip
    refine Run.seq (Run.seq (Run.reg [.p, .p, .p, .p] ?_))
    refine .mv rfl rfl <| .mv rfl rfl <| .P rfl (q_lenI Tryz.underlying27 rfl) <| .P rfl (q_lss rfl rfl) <| .nil ?_
    refine Run.condF rfl (by simp at hl ⊢; omega) ?_
    refine Run.exit (tq_exit (bq_exit ?_))
    refine Run.seq (Run.reg [.p] ?_)
    refine .ag rfl rfl <| .nil ?_
    refine Run.ret (?_)
    exact ret1 rfl (Sub.int (by first | (rw [okPs_end hx hp hl0]; rfl) | (rw [okPs_bad hx (by grind)]; rfl) | (rw [show okPs l = false by simp [okPs]; omega]; rfl)))
   ·simp only [List.length_cons] at hl
    refine Run.seq (Run.seq (Run.reg [.p, .p, .p, .p] ?_))
    refine .mv rfl rfl <| .mv rfl rfl <| .P rfl (q_lenI Tryz.underlying27 rfl) <| .P rfl (q_lss rfl rfl) <| .nil ?_
    refine Run.condT rfl (by simp; omega) ?_
    refine Run.skip ?_
    refine Run.seq ?_
    refine Run.block ?_
    refine Run.seq (Run.regD [.p, .p, .p, .p, .p, .p, .p, .p, .p, .p, .p, .p, .p, .p, .p, .p, .p, .p, .p, .p, .p, .p, .p, .p] Tryz_mixed (by decide +kernel) ?_)
    refine .mv rfl rfl <| .mv rfl rfl <| .P rfl (q_indexI Tryz.underlying27 Tryz.sizeOf39 rfl rfl (by omega) (idx_mid encPosted hx rfl)) <| .P rfl (q_loadIA Tryz.isAgg39 Tryz.sizeOf39 rfl rfl) <| .P rfl (q_call Tryz.call77 rfl (validP50_ok x (hs x (by rw [hx]; simp)))) <| .P rfl (q_not rfl) <| .mv rfl rfl <| .gF rfl (.inl rfl) rfl rfl rfl (fun hg => pk (fun _ => q_move rfl _)) <| .gF rfl (.inl rfl) rfl rfl rfl (fun hg => pk (fun _ => q_gtr (opT rfl (nt hg)) rfl _)) <| .gF rfl (.inl rfl) rfl rfl rfl (fun hg => pk (fun _ => q_move (opT rfl (nt hg)) _)) ?_
    refine .nT rfl (.inl rfl) rfl rfl rfl (fun hc hg => pk (fun _ => q_move rfl _)) ?_
    refine .nT rfl (.inl rfl) rfl rfl rfl (fun hc hg => pk (fun _ => q_move rfl _)) ?_
    refine .nT rfl (.inl rfl) rfl rfl rfl (fun hc hg => pk (fun _ => q_indexI Tryz.underlying27 Tryz.sizeOf39 (opT rfl (bT hc hg)) (opT rfl (bT hc hg)) (by omega) (idx_mid encPosted hx rfl) _)) ?_
    refine .nT rfl (.inl rfl) rfl rfl rfl (fun hc hg => pk (fun _ => q_fieldI (n := 0) 3 1 Tryz.underlying39 Tryz.sizeOf3 rfl (opT rfl (bT hc hg)) rfl _)) ?_
    refine .nT rfl (.inl rfl) rfl rfl rfl (fun hc hg => pk (fun _ => q_loadI Tryz.isAgg3 (opT rfl (bT hc hg)) _)) ?_
    refine .nT rfl (.inl rfl) rfl rfl rfl (fun hc hg => pk (fun _ => q_move rfl _)) ?_
    refine .nT rfl (.inl rfl) rfl rfl rfl (fun hc hg => pk (fun _ => q_move rfl _)) ?_
    refine .nT rfl (.inl rfl) rfl rfl rfl (fun hc hg => pk (fun _ => q_sub (opT rfl (bT hc hg)) rfl (wrap64_ok (by first | omega | (simp; done) | (simp; omega) | (simp at *; omega)) (by first | omega | (simp; done) | (simp; omega) | (simp at *; omega))) _)) ?_
    refine .nT rfl (.inl rfl) rfl rfl rfl (fun hc hg => pk (fun _ => q_indexI Tryz.underlying27 Tryz.sizeOf39 (opT rfl (bT hc hg)) (opT rfl (bT hc hg)) (by simp at hg; omega) (idx_last encPosted hx (by simp at hg; omega) (by omega)) _)) ?_
    refine .nT rfl (.inl rfl) rfl rfl rfl (fun hc hg => pk (fun _ => q_fieldI (n := 0) 3 1 Tryz.underlying39 Tryz.sizeOf3 rfl (opT rfl (bT hc hg)) rfl _)) ?_
    refine .nT rfl (.inl rfl) rfl rfl rfl (fun hc hg => pk (fun _ => q_loadI Tryz.isAgg3 (opT rfl (bT hc hg)) _)) ?_
    refine .nT rfl (.inl rfl) rfl rfl rfl (fun hc hg => pk (fun _ => q_lss (opT rfl (bT hc hg)) (opT rfl (bT hc hg)) _)) ?_
    refine .gF rfl (.inl rfl) rfl rfl rfl (fun hg => pk (fun _ => q_and (opT rfl (nt hg)) (opA rfl (nt hg)) _)) <| .P rfl (q_or rfl rfl) <| .nil ?_
    refine Run.cond rfl (fun h2 => ?_) (fun h2 => ?_)
    ·have ph2 := h2
     try simp only [bs, bne_iff_ne, ne_eq, List.length_map] at ph2
     refine Run.seq (Run.reg [.p] ?_)
     refine .ag rfl rfl <| .nil ?_
     refine Run.ret (bq_ret (tq_ret (bq_ret (?_))))
     exact ret1 rfl (Sub.int (by first | (rw [okPs_end hx hp hl0]; rfl) | (rw [okPs_bad hx (by grind)]; rfl) | (rw [show okPs l = false by simp [okPs]; omega]; rfl)))
    ·have ph2 := h2
     try simp only [bs, bne_iff_ne, ne_eq, List.length_map] at ph2
     refine Run.skip ?_
     refine Run.nil (bq_norm ?_)
     refine Run.reg [.p, .p, .p] ?_
     refine .mv rfl rfl <| .P rfl (q_add rfl rfl (wrap64_ok (by first | omega | (simp; done) | (simp; omega) | (simp at *; omega)) (by first | omega | (simp; done) | (simp; omega) | (simp at *; omega)))) <| .ag rfl rfl <| .nil ?_
     refine Run.nil (tq_norm ?_)
     exact ⟨⟨pre ++ [x], rest, by simp [hx], okPs_step hp (by grind) (by grind), hl0⟩, by simp, Le.mk rfl (.same rfl rfl (.cons rfl Sub.intA rfl .nil)) .nil⟩
theorem trial50X_ok (l : List Posted) (d : Int) (hs : smallPs l) : Fc Tryz.prog 20 [sPosteds l, .i d] (.tup [sBals (trialX d l), .i (errX d l)]) := trial50_ok l d hs
structure lawTrialsA_ok_L0 (l : List Posted) (d later : Int) where
 pre : List Balance
 rest : List Balance
 hx : trialX d l = pre ++ rest
structure lawTrialsA_ok_L1 (l : List Posted) (d later : Int) (pre : List Balance) where
 seen : List Nat
structure lawTrialsA_ok_L2 (l : List Posted) (d later : Int) where
 preq : List Posted
 restq : List Posted
 hxq : l = preq ++ restq
theorem lawTrialsA_ok (l : List Posted) (d later : Int) (hdl : d ≤ later) : Fc Tryz.prog 6 [sPosteds l, .i d, .i later] (.b true) := by
 refine Fc.mk' [6] Tryz.func6 rfl Tryz.ntmps6 rfl rfl rfl (fun t w => results_tmp Tryz.results6 t _ w) ?_
 refine Run.seq (Run.reg [.p] ?_)
 refine .ag rfl rfl <| .nil ?_
 refine Run.seq (Run.seq (Run.reg [.p, .p, .p, .p, .p, .p, .p] ?_))
 refine .mv rfl rfl <| .P rfl (q_call Tryz.call25 rfl (great50_ok _)) <| .mv rfl rfl <| .gF rfl (.inl rfl) rfl rfl rfl (fun hg => pk (fun _ => q_move rfl _)) <| .gF rfl (.inl rfl) rfl rfl rfl (fun hg => pk (fun _ => q_call Tryz.call26 (opsC (opT rfl (nt hg)) (rfl)) (check50_ok l (great50_small (by simpa using hg)).1) _)) <| .gF rfl (.inl rfl) rfl rfl rfl (fun hg => pk (fun _ => q_neq (opT rfl (nt hg)) rfl _)) <| .P rfl (q_or rfl rfl) <| .nil ?_
 refine Run.cond rfl (fun h1 => ?_) (fun h1 => ?_)
 ·have ph1 := h1
  try simp only [bs, bne_iff_ne, ne_eq, List.length_map] at ph1
  refine Run.seq (Run.reg [.p, .p] ?_)
  refine .P rfl (q_call Tryz.call12 rfl awake_ok) <| .ag rfl rfl <| .nil ?_
  refine Run.ret (?_)
  exact ret1 rfl (Sub.bool (by first | rfl | (simp [hee]; done) | (rcases hee with he | he <;> simp [he]; done) | (rw [hpreq, betw_valid hok, betw_trial (by omega) hok]; simp [show validDay 84005 = true by decide])))
 ·have ph1 := h1
  try simp only [bs, bne_iff_ne, ne_eq, List.length_map] at ph1
  simp only [Bool.or_eq_false_iff] at h1
  have hgr : great50 l = false := by cases hg : great50 l <;> simp_all
  obtain ⟨hs, hl16⟩ := great50_small hgr
  have hok : okPs l = true := by cases ho : okPs l <;> simp_all
  refine Run.skip ?_
  refine Run.seq (Run.seq (Run.reg [.p, .p, .p] ?_))
  refine .mv rfl rfl <| .mv rfl rfl <| .P rfl (q_gtr rfl rfl) <| .nil ?_
  refine Run.condF rfl (by simpa using hdl) ?_
  refine Run.skip ?_
  refine Run.seq (Run.reg [.p, .p, .p, .p, .p, .p, .p, .p] ?_)
  refine .mv rfl rfl <| .mv rfl rfl <| .P rfl (q_call Tryz.call20 rfl (trial50X_ok l d hs)) <| .mv rfl rfl <| .P rfl (q_extract rfl rfl) <| .P rfl (q_extract rfl rfl) <| .ag rfl rfl <| .ag rfl rfl <| .nil ?_
  refine Run.seq (Run.reg [.p, .p, .p, .p, .p, .p, .p, .p] ?_)
  refine .mv rfl rfl <| .mv rfl rfl <| .P rfl (q_call Tryz.call20 rfl (trial50X_ok l later hs)) <| .mv rfl rfl <| .P rfl (q_extract rfl rfl) <| .P rfl (q_extract rfl rfl) <| .ag rfl rfl <| .ag rfl rfl <| .nil ?_
  refine Run.seq (Run.seq (Run.reg [.p, .p, .p, .p, .p, .p] ?_))
  refine .mv rfl rfl <| .P rfl (q_neq rfl rfl) <| .mv rfl rfl <| .gF rfl (.inl rfl) rfl rfl rfl (fun hg => pk (fun _ => q_move rfl _)) <| .gF rfl (.inl rfl) rfl rfl rfl (fun hg => pk (fun _ => q_neq (opT rfl (nt hg)) rfl _)) <| .P rfl (q_or rfl rfl) <| .nil ?_
  refine Run.cond rfl (fun h2 => ?_) (fun h2 => ?_)
  ·have ph2 := h2
   try simp only [bs, bne_iff_ne, ne_eq, List.length_map] at ph2
   have hee : errX d l = 13 ∨ errX later l = 13 := by
    by_cases he : errX d l = 0
    ·exact .inr (errX_13 hok (by simp_all))
    ·exact .inl (errX_13 hok he)
   refine Run.seq (Run.reg [.p, .p, .p, .p, .p, .p, .p, .p, .p, .p] ?_)
   refine .mv rfl rfl <| .P rfl (q_eql rfl rfl) <| .mv rfl rfl <| .gF rfl (.inl rfl) rfl rfl rfl (fun hg => pk (fun _ => q_move rfl _)) <| .gF rfl (.inl rfl) rfl rfl rfl (fun hg => pk (fun _ => q_eql (opT rfl (nt hg)) rfl _)) <| .P rfl (q_or rfl rfl) <| .mv rfl rfl <| .gT rfl (.inl rfl) rfl rfl rfl (fun hg => pk (fun _ => q_call Tryz.call12 rfl awake_ok _)) <| .P rfl (q_and rfl rfl) <| .ag rfl rfl <| .nil ?_
   refine Run.ret (?_)
   exact ret1 rfl (Sub.bool (by first | rfl | (simp [hee]; done) | (rcases hee with he | he <;> simp [he]; done) | (rw [hpreq, betw_valid hok, betw_trial (by omega) hok]; simp [show validDay 84005 = true by decide])))
  ·have ph2 := h2
   try simp only [bs, bne_iff_ne, ne_eq, List.length_map] at ph2
   have hv1 : validDay d = true := (errX_0 hok).1 (by simp_all)
   have hv2 : validDay later = true := (errX_0 hok).1 (by simp_all)
   have hXe := trialX_ok hok hv1
   have hYe := trialX_ok hok hv2
   have hX := trialP_ok d hok hs (by omega)
   have hY := trialP_ok later hok hs (by omega)
   refine Run.skip ?_
   refine Run.seq (Run.reg [.w, .p] ?_)
   refine .W rfl (q_makeMapS 0 rfl) <| .ag rfl rfl <| .nil ?_
   refine Run.seq (Run.seq (Run.reg [.p, .p, .p] ?_))
   refine .mv rfl rfl <| .P rfl (q_lenI Tryz.underlying45 rfl) <| .mv rfl rfl <| .nil ?_
   refine Run.block ?_
   refine Run.loop (ι := lawTrialsA_ok_L0 l d later) (fun sx => [(0, sPosteds l), (1, .i d), (2, .i later), (7, sBals (trialX d l)), (9, sBals (trialX later l)), (11, .mapr 0), (64, sBals (trialX d l)), (65, .i (trialX d l).length), (66, .i sx.pre.length)]) (fun sx => [(0, .mp (encSM (balM (sx.pre.map toLine))))]) (fun sx => sx.rest.length) ⟨[], _, rfl⟩ ?_ ?_
   ·exact Le.mk rfl (.same rfl rfl (.cons rfl Sub.intA rfl (.cons rfl Sub.intA rfl (.same rfl rfl (.same rfl rfl (.same rfl rfl (.same rfl rfl (.cons rfl Sub.intA rfl (.cons rfl Sub.intA rfl .nil))))))))) (.eq rfl (by first | rfl | (rw [List.map_append, List.map_singleton, balM_snoc]; rfl)) (okB_SM _ _) .nil)
   ·rintro ⟨pre, rest, hx⟩
    show Run _ _ _ _ [(0, sPosteds l), (1, .i d), (2, .i later), (7, sBals (trialX d l)), (9, sBals (trialX later l)), (11, .mapr 0), (64, sBals (trialX d l)), (65, .i (trialX d l).length), (66, .i pre.length)] [(0, .mp (encSM (balM (pre.map toLine))))]
    have hl := congrArg List.length hx
    simp only [List.length_append] at hl
    rcases rest with _ | ⟨x, rest⟩
    ·have hpre : pre = trialX d l := by simp [hx]
     have han : allNil (balM (pre.map toLine)) = true := by rw [hpre, hXe]; exact trialP_allNil hok
     refine Run.seq (Run.reg [.p] ?_)
     refine .P rfl (q_lss rfl rfl) <| .nil ?_
     refine Run.seq ?_
     refine Run.condF rfl (by simp at hl ⊢; omega) ?_
     refine Run.exit (tq_exit (bq_exit ?_))
     refine Run.seq (Run.seq (Run.reg [.p, .w] ?_))
     refine .mv rfl rfl <| .W rfl (q_rangeS 1 Tryz.underlying53 rfl rfl rfl) <| .nil ?_
     refine Run.block ?_
     refine Run.loop (ι := lawTrialsA_ok_L1 l d later pre) (fun sx => [(0, sPosteds l), (1, .i d), (2, .i later), (7, sBals (trialX d l)), (9, sBals (trialX later l)), (82, .box 1 0)]) (fun sx => [(0, .mp (encSM (balM (pre.map toLine)))), (1, .mi 0 (balM (pre.map toLine)).length sx.seen)]) (fun sx => unseen (balM (pre.map toLine)).length sx.seen) ⟨[]⟩ ?_ ?_
     ·exact Le.mk rfl (.same rfl rfl (.cons rfl Sub.intA rfl (.cons rfl Sub.intA rfl (.same rfl rfl (.same rfl rfl (.same rfl rfl .nil)))))) (.eq rfl (by rfl) (okB_SM _ _) (.cons rfl rfl .nil))
     ·rintro ⟨seen⟩
      show Run _ _ _ _ [(0, sPosteds l), (1, .i d), (2, .i later), (7, sBals (trialX d l)), (9, sBals (trialX later l)), (82, .box 1 0)] [(0, .mp (encSM (balM (pre.map toLine)))), (1, .mi 0 (balM (pre.map toLine)).length seen)]
      refine Run.seq (Run.regT ?_)
      refine Tx.n rfl trivial (q_nextS rfl rfl rfl) (fun nb hnb => ?_)
      rcases nb with _ | nj
      ·dsimp only [nextD, nextO]
       refine Tx.q rfl trivial (q_extract rfl rfl _) ?_
       refine Tx.nil ?_
       refine Run.seq ?_
       refine Run.condF rfl rfl ?_
       refine Run.exit (tq_exit (bq_exit ?_))
       refine Run.seq (Run.reg [.p] ?_)
       refine .ag rfl rfl <| .nil ?_
       refine Run.seq (Run.seq (Run.reg [.p, .p, .p] ?_))
       refine .mv rfl rfl <| .P rfl (q_lenI Tryz.underlying27 rfl) <| .mv rfl rfl <| .nil ?_
       refine Run.block ?_
       refine Run.loop (ι := lawTrialsA_ok_L2 l d later) (fun sx => [(1, .i d), (2, .i later), (7, sBals (trialX d l)), (9, sBals (trialX later l)), (16, .gs 2 (betw d later sx.preq).length), (90, sPosteds l), (91, .i l.length), (92, .i sx.preq.length)]) (fun sx => [(2, .arr 3 ((betw d later sx.preq).map encEntry))]) (fun sx => sx.restq.length) ⟨[], l, rfl⟩ ?_ ?_
       ·exact (Le.own0 2 3).trans <| Le.mk rfl (.cons rfl Sub.intA rfl (.cons rfl Sub.intA rfl (.same rfl rfl (.same rfl rfl (.cons rfl (Sub.gsNil _) rfl (.same rfl rfl (.cons rfl Sub.intA rfl (.cons rfl Sub.intA rfl .nil)))))))) (.arr rfl (by first | rfl | (rw [betw_snoc, if_pos (by simp at *; omega)]; simp; done) | (rw [betw_snoc, if_neg (by simp at *; omega)]; simp)) .nil)
       ·rintro ⟨preq, restq, hxq⟩
        show Run _ _ _ _ [(1, .i d), (2, .i later), (7, sBals (trialX d l)), (9, sBals (trialX later l)), (16, .gs 2 (betw d later preq).length), (90, sPosteds l), (91, .i l.length), (92, .i preq.length)] [(2, .arr 3 ((betw d later preq).map encEntry))]
        have hlq := congrArg List.length hxq
        simp only [List.length_append] at hlq
        have hbl := betw_len d later preq
        rcases restq with _ | ⟨xq, restq⟩
        ·have hpreq : preq = l := by simp [hxq]
         refine Run.seq (Run.reg [.p] ?_)
         refine .P rfl (q_lss rfl rfl) <| .nil ?_
         refine Run.seq ?_
         refine Run.condF rfl (by simp at hlq ⊢; omega) ?_
         refine Run.exit (tq_exit (bq_exit ?_))
         refine Run.seq (Run.reg [.p, .p, .p, .p, .p, .p, .p, .p] ?_)
         refine .mv rfl rfl <| .mv rfl rfl <| .P rfl (q_call Tryz.call23 (by rw [hYe, hXe]; rfl) (minusB_ok _ _ hY hX)) <| .mv rfl rfl <| .P rfl (q_extract rfl rfl) <| .P rfl (q_extract rfl rfl) <| .ag rfl rfl <| .ag rfl rfl <| .nil ?_
         refine Run.weak (Le.freeze 16 2 rfl rfl (by simp)) ?_
         refine Run.seq (Run.reg [.p, .p, .p, .p, .p, .p, .p] ?_)
         refine .mv rfl rfl <| .P rfl (q_call Tryz.call22 rfl (ledgerTrial_ok (betw d later preq) 84005 (fun e he => by obtain ⟨p, hp, rfl⟩ := betw_mem he; rw [hpreq] at hp; exact hs p hp) (by omega))) <| .mv rfl rfl <| .P rfl (q_extract rfl rfl) <| .P rfl (q_extract rfl rfl) <| .ag rfl rfl <| .ag rfl rfl <| .nil ?_
         refine Run.seq (Run.reg [.p, .p, .p, .p, .p, .p, .p, .p, .p, .p, .p, .p, .p, .p, .p] ?_)
         refine .mv rfl rfl <| .P rfl (q_eql rfl rfl) <| .mv rfl rfl <| .gT rfl (.inl rfl) rfl rfl rfl (fun hg => pk (fun _ => q_move rfl _)) <| .gT rfl (.inl rfl) rfl rfl rfl (fun hg => pk (fun _ => q_eql (opT rfl hg) rfl _)) <| .P rfl (q_and rfl rfl) <| .mv rfl rfl <| .gT rfl (.inl rfl) rfl rfl rfl (fun hg => pk (fun _ => q_move rfl _)) <| .gT rfl (.inl rfl) rfl rfl rfl (fun hg => pk (fun _ => q_move rfl _)) <| .gT rfl (.inl rfl) rfl rfl rfl (fun hg => pk (fun _ => q_call Tryz.call24 (opsC (opT rfl hg) (opsC (opT rfl hg) (rfl))) (same43_ok _ _) _)) <| .P rfl (q_and rfl rfl) <| .mv rfl rfl <| .gT rfl (.inl rfl) rfl rfl rfl (fun hg => pk (fun _ => q_call Tryz.call12 rfl awake_ok _)) <| .P rfl (q_and rfl rfl) <| .ag rfl rfl <| .nil ?_
         refine Run.ret (?_)
         exact ret1 rfl (Sub.bool (by first | rfl | (simp [hee]; done) | (rcases hee with he | he <;> simp [he]; done) | (rw [hpreq, betw_valid hok, betw_trial (by omega) hok]; simp [show validDay 84005 = true by decide])))
        ·simp only [List.length_cons] at hlq
         refine Run.seq (Run.reg [.p] ?_)
         refine .P rfl (q_lss rfl rfl) <| .nil ?_
         refine Run.seq ?_
         refine Run.condT rfl (by simp; omega) ?_
         refine Run.skip ?_
         refine Run.seq ?_
         refine Run.block ?_
         refine Run.seq (Run.reg [.p, .p, .w, .w] ?_)
         refine .P rfl (q_indexI Tryz.underlying27 Tryz.sizeOf39 rfl rfl (by omega) (idx_mid encPosted hxq rfl)) <| .P rfl (q_loadIA Tryz.isAgg39 Tryz.sizeOf39 rfl rfl) <| .W rfl (q_alloc 3 Tryz.zeroValue39 rfl) <| .W rfl (q_storeW Tryz.sizeOf39 rfl rfl rfl rfl rfl rfl) <| .nil ?_
         refine Run.seq (Run.reg [.p, .p, .r, .p, .p, .p, .r, .p, .p, .p] ?_)
         refine .mv rfl rfl <| .P rfl (q_fieldB (n := 0) 34 0 Tryz.underlying39 Tryz.sizeOf34 rfl rfl) <| .R rfl (q_load1 Tryz.isAgg34 rfl rfl rfl) <| .P rfl (q_lss rfl rfl) <| .mv rfl rfl <| .gT rfl (.inl rfl) rfl rfl rfl (fun hg => pk (fun _ => q_fieldB (n := 0) 34 0 Tryz.underlying39 Tryz.sizeOf34 rfl rfl _)) <| .gT rfl (.inr rfl) rfl rfl rfl (fun hg => rk (q_load1 Tryz.isAgg34 (opT rfl hg) rfl rfl)) <| .gT rfl (.inl rfl) rfl rfl rfl (fun hg => pk (fun _ => q_move rfl _)) <| .gT rfl (.inl rfl) rfl rfl rfl (fun hg => pk (fun _ => q_leq (opT rfl hg) (opT rfl hg) _)) <| .P rfl (q_and rfl rfl) <| .nil ?_
         refine Run.cond rfl (fun h3 => ?_) (fun h3 => ?_)
         ·have ph3 := h3
          try simp only [bs, bne_iff_ne, ne_eq, List.length_map] at ph3
          refine Run.reg [.p, .p, .r, .p, .w, .p] ?_
          refine .mv rfl rfl <| .P rfl (q_fieldB (n := 2) 37 3 Tryz.underlying39 Tryz.sizeOf37 rfl rfl) <| .R rfl (q_loadA Tryz.isAgg37 Tryz.sizeOf37 rfl rfl (by simp) rfl) <| .P rfl (q_buildSlice' (n := 1) (rows := [encEntry xq.entry]) Tryz.underlying22 Tryz.sizeOf37 rfl rfl rfl Tryz.zeroValue37 rfl rfl rfl rfl rfl rfl rfl) <| .W rfl (q_append 4 Tryz.underlying22 Tryz.underlying22 Tryz.sizeOf37 Tryz.typeInfo37 Tryz.zeroValue37 rfl (bt := 48) rfl rfl rfl rfl (by simp) rfl rfl (by simp; omega)) <| .ag rfl rfl <| .nil ?_
          refine Run.nil (bq_norm ?_)
          refine Run.reg [.p, .p] ?_
          refine .P rfl (q_add rfl rfl (wrap64_ok (by first | omega | (simp; done) | (simp; omega) | (simp at *; omega)) (by first | omega | (simp; done) | (simp; omega) | (simp at *; omega)))) <| .mv rfl rfl <| .nil ?_
          refine Run.nil (tq_norm ?_)
          exact ⟨⟨preq ++ [xq], restq, by simp [hxq]⟩, by simp, (Le.mk (obs' := [(4, _)]) rfl (show EnvLe _ _ [(1, _), (2, _), (7, _), (9, _), (16, _), (90, _), (91, _), (92, _)] from (.same rfl rfl (.same rfl rfl (.same rfl rfl (.same rfl rfl (.same rfl rfl (.same rfl rfl (.same rfl rfl (.same rfl rfl .nil))))))))) (.cons (i := 4) rfl rfl .nil)).trans <| (Le.ren 16 4 2 rfl rfl (by simp) rfl).trans <| Le.mk rfl (.cons rfl Sub.intA rfl (.cons rfl Sub.intA rfl (.same rfl rfl (.same rfl rfl (.cons rfl (Sub.gs (by first | rfl | (rw [betw_snoc, if_pos (by simp at *; omega)]; simp; done) | (rw [betw_snoc, if_neg (by simp at *; omega)]; simp))) rfl (.same rfl rfl (.cons rfl Sub.intA rfl (.cons rfl Sub.intA rfl .nil)))))))) (.arr rfl (by first | rfl | (rw [betw_snoc, if_pos (by simp at *; omega)]; simp; done) | (rw [betw_snoc, if_neg (by simp at *; omega)]; simp)) .nil)⟩
         ·have ph3 := h3
          try simp only [bs, bne_iff_ne, ne_eq, List.length_map] at ph3
          refine Run.skip ?_
          refine Run.nil (bq_norm ?_)
          refine Run.reg [.p, .p] ?_
          refine .P rfl (q_add rfl rfl (wrap64_ok (by first | omega | (simp; done) | (simp; omega) | (simp at *; omega)) (by first | omega | (simp; done) | (simp; omega) | (simp at *; omega)))) <| .mv rfl rfl <| .nil ?_
          refine Run.nil (tq_norm ?_)
          exact ⟨⟨preq ++ [xq], restq, by simp [hxq]⟩, by simp, Le.mk rfl (.cons rfl Sub.intA rfl (.cons rfl Sub.intA rfl (.same rfl rfl (.same rfl rfl (.cons rfl (Sub.gs (by first | rfl | (rw [betw_snoc, if_pos (by simp at *; omega)]; simp; done) | (rw [betw_snoc, if_neg (by simp at *; omega)]; simp))) rfl (.same rfl rfl (.cons rfl Sub.intA rfl (.cons rfl Sub.intA rfl .nil)))))))) (.arr rfl (by first | rfl | (rw [betw_snoc, if_pos (by simp at *; omega)]; simp; done) | (rw [betw_snoc, if_neg (by simp at *; omega)]; simp)) .nil)⟩
      ·dsimp only [nextD, nextO]
       refine Tx.q rfl trivial (q_extract rfl rfl _) ?_
       refine Tx.nil ?_
       refine Run.seq ?_
       refine Run.condT rfl rfl ?_
       refine Run.skip ?_
       refine Run.block ?_
       refine Run.seq (Run.reg [.r, .p, .p] ?_)
       refine .R rfl (q_entryS rfl rfl rfl (And.left hnb)) <| .P rfl (q_extract rfl rfl) <| .ag rfl rfl <| .nil ?_
       refine Run.seq (Run.reg [.p, .p, .p] ?_)
       refine .mv rfl rfl <| .P rfl (q_call Tryz.call28 rfl (compare_ok _ _ (by rw [allNil_vAt han (And.left hnb)]; simp) (by simp))) <| .P rfl (q_neq rfl rfl) <| .nil ?_
       refine Run.condF rfl (by rw [allNil_vAt han (And.left hnb)]; decide) ?_
       refine Run.skip ?_
       refine Run.nil (bq_norm ?_)
       refine Run.nil (tq_norm ?_)
       exact ⟨⟨seen ++ [nj]⟩, by exact unseen_lt (And.left hnb) (And.right hnb), Le.mk rfl (.same rfl rfl (.cons rfl Sub.intA rfl (.cons rfl Sub.intA rfl (.same rfl rfl (.same rfl rfl (.same rfl rfl .nil)))))) (.eq rfl (by rfl) (okB_SM _ _) (.cons rfl rfl .nil))⟩
    ·simp only [List.length_cons] at hl
     have hxb := hX.fld x (by rw [← hXe, hx]; simp)
     have hXl := hX.len
     rw [← hXe] at hXl
     have hgl := balM_len31 (c := x.currency) (l := pre) (fun b hb => hX.fld b (by rw [← hXe, hx]; simp [hb])) (by omega)
     have hxl := hxb.len
     refine Run.seq (Run.reg [.p] ?_)
     refine .P rfl (q_lss rfl rfl) <| .nil ?_
     refine Run.seq ?_
     refine Run.condT rfl (by simp; omega) ?_
     refine Run.skip ?_
     refine Run.seq ?_
     refine Run.block ?_
     refine Run.seq (Run.reg [.p, .p, .w, .w] ?_)
     refine .P rfl (q_indexI Tryz.underlying45 Tryz.sizeOf56 rfl rfl (by omega) (idx_mid encBalance hx rfl)) <| .P rfl (q_loadIA Tryz.isAgg56 Tryz.sizeOf56 rfl rfl) <| .W rfl (q_alloc 1 Tryz.zeroValue56 rfl) <| .W rfl (q_storeW Tryz.sizeOf56 rfl rfl rfl rfl rfl rfl) <| .nil ?_
     refine Run.regD [.p, .p, .r, .p, .p, .r, .r, .p, .r, .p, .w] Tryz_mixed (by decide +kernel) ?_
     refine .mv rfl rfl <| .P rfl (q_fieldB (n := 0) 9 1 Tryz.underlying56 Tryz.sizeOf9 rfl rfl) <| .R rfl (q_load1 Tryz.isAgg9 rfl rfl rfl) <| .mv rfl rfl <| .P rfl (q_fieldB (n := 0) 9 1 Tryz.underlying56 Tryz.sizeOf9 rfl rfl) <| .R rfl (q_load1 Tryz.isAgg9 rfl rfl rfl) <| .R rfl (q_lookupS Tryz.underlying53 Tryz.underlying9 Tryz.zeroValue54 rfl rfl rfl) <| .P rfl (q_fieldB (n := 0) 54 2 Tryz.underlying56 Tryz.sizeOf54 rfl rfl) <| .R rfl (q_load1 Tryz.isAgg54 rfl rfl rfl) <| .P rfl (q_call Tryz.call27 rfl (add_ok _ _ (by have := hgl; omega) (by omega))) <| .W rfl (q_mapUpdateS Tryz.underlying53 Tryz.underlying9 rfl rfl rfl rfl) <| .nil ?_
     refine Run.nil (bq_norm ?_)
     refine Run.reg [.p, .p] ?_
     refine .P rfl (q_add rfl rfl (wrap64_ok (by first | omega | (simp; done) | (simp; omega) | (simp at *; omega)) (by first | omega | (simp; done) | (simp; omega) | (simp at *; omega)))) <| .mv rfl rfl <| .nil ?_
     refine Run.nil (tq_norm ?_)
     exact ⟨⟨pre ++ [x], rest, by simp [hx]⟩, by simp, Le.mk rfl (.same rfl rfl (.cons rfl Sub.intA rfl (.cons rfl Sub.intA rfl (.same rfl rfl (.same rfl rfl (.same rfl rfl (.same rfl rfl (.cons rfl Sub.intA rfl (.cons rfl Sub.intA rfl .nil))))))))) (.eq rfl (by first | rfl | (rw [List.map_append, List.map_singleton, balM_snoc]; rfl)) (okB_SM _ _) .nil)⟩
structure lawTrialsB_ok_L0 (l : List Posted) (d later : Int) where
 pre : List Balance
 rest : List Balance
 hx : trialX later l = pre ++ rest
structure lawTrialsB_ok_L1 (l : List Posted) (d later : Int) (pre : List Balance) where
 seen : List Nat
structure lawTrialsB_ok_L2 (l : List Posted) (d later : Int) where
 preq : List Posted
 restq : List Posted
 hxq : l = preq ++ restq
theorem lawTrialsB_ok (l : List Posted) (d later : Int) (hdl : later < d) : Fc Tryz.prog 6 [sPosteds l, .i d, .i later] (.b true) := by
 refine Fc.mk' [6] Tryz.func6 rfl Tryz.ntmps6 rfl rfl rfl (fun t w => results_tmp Tryz.results6 t _ w) ?_
 refine Run.seq (Run.reg [.p] ?_)
 refine .ag rfl rfl <| .nil ?_
 refine Run.seq (Run.seq (Run.reg [.p, .p, .p, .p, .p, .p, .p] ?_))
 refine .mv rfl rfl <| .P rfl (q_call Tryz.call25 rfl (great50_ok _)) <| .mv rfl rfl <| .gF rfl (.inl rfl) rfl rfl rfl (fun hg => pk (fun _ => q_move rfl _)) <| .gF rfl (.inl rfl) rfl rfl rfl (fun hg => pk (fun _ => q_call Tryz.call26 (opsC (opT rfl (nt hg)) (rfl)) (check50_ok l (great50_small (by simpa using hg)).1) _)) <| .gF rfl (.inl rfl) rfl rfl rfl (fun hg => pk (fun _ => q_neq (opT rfl (nt hg)) rfl _)) <| .P rfl (q_or rfl rfl) <| .nil ?_
 refine Run.cond rfl (fun h1 => ?_) (fun h1 => ?_)
 ·have ph1 := h1
  try simp only [bs, bne_iff_ne, ne_eq, List.length_map] at ph1
  refine Run.seq (Run.reg [.p, .p] ?_)
  refine .P rfl (q_call Tryz.call12 rfl awake_ok) <| .ag rfl rfl <| .nil ?_
  refine Run.ret (?_)
  exact ret1 rfl (Sub.bool (by first | rfl | (simp [hee]; done) | (rcases hee with he | he <;> simp [he]; done) | (rw [hpreq, betw_valid hok, betw_trial (by omega) hok]; simp [show validDay 84005 = true by decide])))
 ·have ph1 := h1
  try simp only [bs, bne_iff_ne, ne_eq, List.length_map] at ph1
  simp only [Bool.or_eq_false_iff] at h1
  have hgr : great50 l = false := by cases hg : great50 l <;> simp_all
  obtain ⟨hs, hl16⟩ := great50_small hgr
  have hok : okPs l = true := by cases ho : okPs l <;> simp_all
  refine Run.skip ?_
  refine Run.seq (Run.seq (Run.reg [.p, .p, .p] ?_))
  refine .mv rfl rfl <| .mv rfl rfl <| .P rfl (q_gtr rfl rfl) <| .nil ?_
  refine Run.condT rfl (by simpa using hdl) ?_
  refine Run.reg [.p, .p, .p, .p] ?_
  refine .mv rfl rfl <| .mv rfl rfl <| .ag rfl rfl <| .ag rfl rfl <| .nil ?_
  refine Run.seq (Run.reg [.p, .p, .p, .p, .p, .p, .p, .p] ?_)
  refine .mv rfl rfl <| .mv rfl rfl <| .P rfl (q_call Tryz.call20 rfl (trial50X_ok l later hs)) <| .mv rfl rfl <| .P rfl (q_extract rfl rfl) <| .P rfl (q_extract rfl rfl) <| .ag rfl rfl <| .ag rfl rfl <| .nil ?_
  refine Run.seq (Run.reg [.p, .p, .p, .p, .p, .p, .p, .p] ?_)
  refine .mv rfl rfl <| .mv rfl rfl <| .P rfl (q_call Tryz.call20 rfl (trial50X_ok l d hs)) <| .mv rfl rfl <| .P rfl (q_extract rfl rfl) <| .P rfl (q_extract rfl rfl) <| .ag rfl rfl <| .ag rfl rfl <| .nil ?_
  refine Run.seq (Run.seq (Run.reg [.p, .p, .p, .p, .p, .p] ?_))
  refine .mv rfl rfl <| .P rfl (q_neq rfl rfl) <| .mv rfl rfl <| .gF rfl (.inl rfl) rfl rfl rfl (fun hg => pk (fun _ => q_move rfl _)) <| .gF rfl (.inl rfl) rfl rfl rfl (fun hg => pk (fun _ => q_neq (opT rfl (nt hg)) rfl _)) <| .P rfl (q_or rfl rfl) <| .nil ?_
  refine Run.cond rfl (fun h2 => ?_) (fun h2 => ?_)
  ·have ph2 := h2
   try simp only [bs, bne_iff_ne, ne_eq, List.length_map] at ph2
   have hee : errX later l = 13 ∨ errX d l = 13 := by
    by_cases he : errX later l = 0
    ·exact .inr (errX_13 hok (by simp_all))
    ·exact .inl (errX_13 hok he)
   refine Run.seq (Run.reg [.p, .p, .p, .p, .p, .p, .p, .p, .p, .p] ?_)
   refine .mv rfl rfl <| .P rfl (q_eql rfl rfl) <| .mv rfl rfl <| .gF rfl (.inl rfl) rfl rfl rfl (fun hg => pk (fun _ => q_move rfl _)) <| .gF rfl (.inl rfl) rfl rfl rfl (fun hg => pk (fun _ => q_eql (opT rfl (nt hg)) rfl _)) <| .P rfl (q_or rfl rfl) <| .mv rfl rfl <| .gT rfl (.inl rfl) rfl rfl rfl (fun hg => pk (fun _ => q_call Tryz.call12 rfl awake_ok _)) <| .P rfl (q_and rfl rfl) <| .ag rfl rfl <| .nil ?_
   refine Run.ret (?_)
   exact ret1 rfl (Sub.bool (by first | rfl | (simp [hee]; done) | (rcases hee with he | he <;> simp [he]; done) | (rw [hpreq, betw_valid hok, betw_trial (by omega) hok]; simp [show validDay 84005 = true by decide])))
  ·have ph2 := h2
   try simp only [bs, bne_iff_ne, ne_eq, List.length_map] at ph2
   have hv1 : validDay later = true := (errX_0 hok).1 (by simp_all)
   have hv2 : validDay d = true := (errX_0 hok).1 (by simp_all)
   have hXe := trialX_ok hok hv1
   have hYe := trialX_ok hok hv2
   have hX := trialP_ok later hok hs (by omega)
   have hY := trialP_ok d hok hs (by omega)
   refine Run.skip ?_
   refine Run.seq (Run.reg [.w, .p] ?_)
   refine .W rfl (q_makeMapS 0 rfl) <| .ag rfl rfl <| .nil ?_
   refine Run.seq (Run.seq (Run.reg [.p, .p, .p] ?_))
   refine .mv rfl rfl <| .P rfl (q_lenI Tryz.underlying45 rfl) <| .mv rfl rfl <| .nil ?_
   refine Run.block ?_
   refine Run.loop (ι := lawTrialsB_ok_L0 l d later) (fun sx => [(0, sPosteds l), (1, .i later), (2, .i d), (7, sBals (trialX later l)), (9, sBals (trialX d l)), (11, .mapr 0), (64, sBals (trialX later l)), (65, .i (trialX later l).length), (66, .i sx.pre.length)]) (fun sx => [(0, .mp (encSM (balM (sx.pre.map toLine))))]) (fun sx => sx.rest.length) ⟨[], _, rfl⟩ ?_ ?_
   ·exact Le.mk rfl (.same rfl rfl (.cons rfl Sub.intA rfl (.cons rfl Sub.intA rfl (.same rfl rfl (.same rfl rfl (.same rfl rfl (.same rfl rfl (.cons rfl Sub.intA rfl (.cons rfl Sub.intA rfl .nil))))))))) (.eq rfl (by first | rfl | (rw [List.map_append, List.map_singleton, balM_snoc]; rfl)) (okB_SM _ _) .nil)
   ·rintro ⟨pre, rest, hx⟩
    show Run _ _ _ _ [(0, sPosteds l), (1, .i later), (2, .i d), (7, sBals (trialX later l)), (9, sBals (trialX d l)), (11, .mapr 0), (64, sBals (trialX later l)), (65, .i (trialX later l).length), (66, .i pre.length)] [(0, .mp (encSM (balM (pre.map toLine))))]
    have hl := congrArg List.length hx
    simp only [List.length_append] at hl
    rcases rest with _ | ⟨x, rest⟩
    ·have hpre : pre = trialX later l := by simp [hx]
     have han : allNil (balM (pre.map toLine)) = true := by rw [hpre, hXe]; exact trialP_allNil hok
     refine Run.seq (Run.reg [.p] ?_)
     refine .P rfl (q_lss rfl rfl) <| .nil ?_
     refine Run.seq ?_
     refine Run.condF rfl (by simp at hl ⊢; omega) ?_
     refine Run.exit (tq_exit (bq_exit ?_))
     refine Run.seq (Run.seq (Run.reg [.p, .w] ?_))
     refine .mv rfl rfl <| .W rfl (q_rangeS 1 Tryz.underlying53 rfl rfl rfl) <| .nil ?_
     refine Run.block ?_
     refine Run.loop (ι := lawTrialsB_ok_L1 l d later pre) (fun sx => [(0, sPosteds l), (1, .i later), (2, .i d), (7, sBals (trialX later l)), (9, sBals (trialX d l)), (82, .box 1 0)]) (fun sx => [(0, .mp (encSM (balM (pre.map toLine)))), (1, .mi 0 (balM (pre.map toLine)).length sx.seen)]) (fun sx => unseen (balM (pre.map toLine)).length sx.seen) ⟨[]⟩ ?_ ?_
     ·exact Le.mk rfl (.same rfl rfl (.cons rfl Sub.intA rfl (.cons rfl Sub.intA rfl (.same rfl rfl (.same rfl rfl (.same rfl rfl .nil)))))) (.eq rfl (by rfl) (okB_SM _ _) (.cons rfl rfl .nil))
     ·rintro ⟨seen⟩
      show Run _ _ _ _ [(0, sPosteds l), (1, .i later), (2, .i d), (7, sBals (trialX later l)), (9, sBals (trialX d l)), (82, .box 1 0)] [(0, .mp (encSM (balM (pre.map toLine)))), (1, .mi 0 (balM (pre.map toLine)).length seen)]
      refine Run.seq (Run.regT ?_)
      refine Tx.n rfl trivial (q_nextS rfl rfl rfl) (fun nb hnb => ?_)
      rcases nb with _ | nj
      ·dsimp only [nextD, nextO]
       refine Tx.q rfl trivial (q_extract rfl rfl _) ?_
       refine Tx.nil ?_
       refine Run.seq ?_
       refine Run.condF rfl rfl ?_
       refine Run.exit (tq_exit (bq_exit ?_))
       refine Run.seq (Run.reg [.p] ?_)
       refine .ag rfl rfl <| .nil ?_
       refine Run.seq (Run.seq (Run.reg [.p, .p, .p] ?_))
       refine .mv rfl rfl <| .P rfl (q_lenI Tryz.underlying27 rfl) <| .mv rfl rfl <| .nil ?_
       refine Run.block ?_
       refine Run.loop (ι := lawTrialsB_ok_L2 l d later) (fun sx => [(1, .i later), (2, .i d), (7, sBals (trialX later l)), (9, sBals (trialX d l)), (16, .gs 2 (betw later d sx.preq).length), (90, sPosteds l), (91, .i l.length), (92, .i sx.preq.length)]) (fun sx => [(2, .arr 3 ((betw later d sx.preq).map encEntry))]) (fun sx => sx.restq.length) ⟨[], l, rfl⟩ ?_ ?_
       ·exact (Le.own0 2 3).trans <| Le.mk rfl (.cons rfl Sub.intA rfl (.cons rfl Sub.intA rfl (.same rfl rfl (.same rfl rfl (.cons rfl (Sub.gsNil _) rfl (.same rfl rfl (.cons rfl Sub.intA rfl (.cons rfl Sub.intA rfl .nil)))))))) (.arr rfl (by first | rfl | (rw [betw_snoc, if_pos (by simp at *; omega)]; simp; done) | (rw [betw_snoc, if_neg (by simp at *; omega)]; simp)) .nil)
       ·rintro ⟨preq, restq, hxq⟩
        show Run _ _ _ _ [(1, .i later), (2, .i d), (7, sBals (trialX later l)), (9, sBals (trialX d l)), (16, .gs 2 (betw later d preq).length), (90, sPosteds l), (91, .i l.length), (92, .i preq.length)] [(2, .arr 3 ((betw later d preq).map encEntry))]
        have hlq := congrArg List.length hxq
        simp only [List.length_append] at hlq
        have hbl := betw_len later d preq
        rcases restq with _ | ⟨xq, restq⟩
        ·have hpreq : preq = l := by simp [hxq]
         refine Run.seq (Run.reg [.p] ?_)
         refine .P rfl (q_lss rfl rfl) <| .nil ?_
         refine Run.seq ?_
         refine Run.condF rfl (by simp at hlq ⊢; omega) ?_
         refine Run.exit (tq_exit (bq_exit ?_))
         refine Run.seq (Run.reg [.p, .p, .p, .p, .p, .p, .p, .p] ?_)
         refine .mv rfl rfl <| .mv rfl rfl <| .P rfl (q_call Tryz.call23 (by rw [hYe, hXe]; rfl) (minusB_ok _ _ hY hX)) <| .mv rfl rfl <| .P rfl (q_extract rfl rfl) <| .P rfl (q_extract rfl rfl) <| .ag rfl rfl <| .ag rfl rfl <| .nil ?_
         refine Run.weak (Le.freeze 16 2 rfl rfl (by simp)) ?_
         refine Run.seq (Run.reg [.p, .p, .p, .p, .p, .p, .p] ?_)
         refine .mv rfl rfl <| .P rfl (q_call Tryz.call22 rfl (ledgerTrial_ok (betw later d preq) 84005 (fun e he => by obtain ⟨p, hp, rfl⟩ := betw_mem he; rw [hpreq] at hp; exact hs p hp) (by omega))) <| .mv rfl rfl <| .P rfl (q_extract rfl rfl) <| .P rfl (q_extract rfl rfl) <| .ag rfl rfl <| .ag rfl rfl <| .nil ?_
         refine Run.seq (Run.reg [.p, .p, .p, .p, .p, .p, .p, .p, .p, .p, .p, .p, .p, .p, .p] ?_)
         refine .mv rfl rfl <| .P rfl (q_eql rfl rfl) <| .mv rfl rfl <| .gT rfl (.inl rfl) rfl rfl rfl (fun hg => pk (fun _ => q_move rfl _)) <| .gT rfl (.inl rfl) rfl rfl rfl (fun hg => pk (fun _ => q_eql (opT rfl hg) rfl _)) <| .P rfl (q_and rfl rfl) <| .mv rfl rfl <| .gT rfl (.inl rfl) rfl rfl rfl (fun hg => pk (fun _ => q_move rfl _)) <| .gT rfl (.inl rfl) rfl rfl rfl (fun hg => pk (fun _ => q_move rfl _)) <| .gT rfl (.inl rfl) rfl rfl rfl (fun hg => pk (fun _ => q_call Tryz.call24 (opsC (opT rfl hg) (opsC (opT rfl hg) (rfl))) (same43_ok _ _) _)) <| .P rfl (q_and rfl rfl) <| .mv rfl rfl <| .gT rfl (.inl rfl) rfl rfl rfl (fun hg => pk (fun _ => q_call Tryz.call12 rfl awake_ok _)) <| .P rfl (q_and rfl rfl) <| .ag rfl rfl <| .nil ?_
         refine Run.ret (?_)
         exact ret1 rfl (Sub.bool (by first | rfl | (simp [hee]; done) | (rcases hee with he | he <;> simp [he]; done) | (rw [hpreq, betw_valid hok, betw_trial (by omega) hok]; simp [show validDay 84005 = true by decide])))
        ·simp only [List.length_cons] at hlq
         refine Run.seq (Run.reg [.p] ?_)
         refine .P rfl (q_lss rfl rfl) <| .nil ?_
         refine Run.seq ?_
         refine Run.condT rfl (by simp; omega) ?_
         refine Run.skip ?_
         refine Run.seq ?_
         refine Run.block ?_
         refine Run.seq (Run.reg [.p, .p, .w, .w] ?_)
         refine .P rfl (q_indexI Tryz.underlying27 Tryz.sizeOf39 rfl rfl (by omega) (idx_mid encPosted hxq rfl)) <| .P rfl (q_loadIA Tryz.isAgg39 Tryz.sizeOf39 rfl rfl) <| .W rfl (q_alloc 3 Tryz.zeroValue39 rfl) <| .W rfl (q_storeW Tryz.sizeOf39 rfl rfl rfl rfl rfl rfl) <| .nil ?_
         refine Run.seq (Run.reg [.p, .p, .r, .p, .p, .p, .r, .p, .p, .p] ?_)
         refine .mv rfl rfl <| .P rfl (q_fieldB (n := 0) 34 0 Tryz.underlying39 Tryz.sizeOf34 rfl rfl) <| .R rfl (q_load1 Tryz.isAgg34 rfl rfl rfl) <| .P rfl (q_lss rfl rfl) <| .mv rfl rfl <| .gT rfl (.inl rfl) rfl rfl rfl (fun hg => pk (fun _ => q_fieldB (n := 0) 34 0 Tryz.underlying39 Tryz.sizeOf34 rfl rfl _)) <| .gT rfl (.inr rfl) rfl rfl rfl (fun hg => rk (q_load1 Tryz.isAgg34 (opT rfl hg) rfl rfl)) <| .gT rfl (.inl rfl) rfl rfl rfl (fun hg => pk (fun _ => q_move rfl _)) <| .gT rfl (.inl rfl) rfl rfl rfl (fun hg => pk (fun _ => q_leq (opT rfl hg) (opT rfl hg) _)) <| .P rfl (q_and rfl rfl) <| .nil ?_
         refine Run.cond rfl (fun h3 => ?_) (fun h3 => ?_)
         ·have ph3 := h3
          try simp only [bs, bne_iff_ne, ne_eq, List.length_map] at ph3
          refine Run.reg [.p, .p, .r, .p, .w, .p] ?_
          refine .mv rfl rfl <| .P rfl (q_fieldB (n := 2) 37 3 Tryz.underlying39 Tryz.sizeOf37 rfl rfl) <| .R rfl (q_loadA Tryz.isAgg37 Tryz.sizeOf37 rfl rfl (by simp) rfl) <| .P rfl (q_buildSlice' (n := 1) (rows := [encEntry xq.entry]) Tryz.underlying22 Tryz.sizeOf37 rfl rfl rfl Tryz.zeroValue37 rfl rfl rfl rfl rfl rfl rfl) <| .W rfl (q_append 4 Tryz.underlying22 Tryz.underlying22 Tryz.sizeOf37 Tryz.typeInfo37 Tryz.zeroValue37 rfl (bt := 48) rfl rfl rfl rfl (by simp) rfl rfl (by simp; omega)) <| .ag rfl rfl <| .nil ?_
          refine Run.nil (bq_norm ?_)
          refine Run.reg [.p, .p] ?_
          refine .P rfl (q_add rfl rfl (wrap64_ok (by first | omega | (simp; done) | (simp; omega) | (simp at *; omega)) (by first | omega | (simp; done) | (simp; omega) | (simp at *; omega)))) <| .mv rfl rfl <| .nil ?_
          refine Run.nil (tq_norm ?_)
          exact ⟨⟨preq ++ [xq], restq, by simp [hxq]⟩, by simp, (Le.mk (obs' := [(4, _)]) rfl (show EnvLe _ _ [(1, _), (2, _), (7, _), (9, _), (16, _), (90, _), (91, _), (92, _)] from (.same rfl rfl (.same rfl rfl (.same rfl rfl (.same rfl rfl (.same rfl rfl (.same rfl rfl (.same rfl rfl (.same rfl rfl .nil))))))))) (.cons (i := 4) rfl rfl .nil)).trans <| (Le.ren 16 4 2 rfl rfl (by simp) rfl).trans <| Le.mk rfl (.cons rfl Sub.intA rfl (.cons rfl Sub.intA rfl (.same rfl rfl (.same rfl rfl (.cons rfl (Sub.gs (by first | rfl | (rw [betw_snoc, if_pos (by simp at *; omega)]; simp; done) | (rw [betw_snoc, if_neg (by simp at *; omega)]; simp))) rfl (.same rfl rfl (.cons rfl Sub.intA rfl (.cons rfl Sub.intA rfl .nil)))))))) (.arr rfl (by first | rfl | (rw [betw_snoc, if_pos (by simp at *; omega)]; simp; done) | (rw [betw_snoc, if_neg (by simp at *; omega)]; simp)) .nil)⟩
         ·have ph3 := h3
          try simp only [bs, bne_iff_ne, ne_eq, List.length_map] at ph3
          refine Run.skip ?_
          refine Run.nil (bq_norm ?_)
          refine Run.reg [.p, .p] ?_
          refine .P rfl (q_add rfl rfl (wrap64_ok (by first | omega | (simp; done) | (simp; omega) | (simp at *; omega)) (by first | omega | (simp; done) | (simp; omega) | (simp at *; omega)))) <| .mv rfl rfl <| .nil ?_
          refine Run.nil (tq_norm ?_)
          exact ⟨⟨preq ++ [xq], restq, by simp [hxq]⟩, by simp, Le.mk rfl (.cons rfl Sub.intA rfl (.cons rfl Sub.intA rfl (.same rfl rfl (.same rfl rfl (.cons rfl (Sub.gs (by first | rfl | (rw [betw_snoc, if_pos (by simp at *; omega)]; simp; done) | (rw [betw_snoc, if_neg (by simp at *; omega)]; simp))) rfl (.same rfl rfl (.cons rfl Sub.intA rfl (.cons rfl Sub.intA rfl .nil)))))))) (.arr rfl (by first | rfl | (rw [betw_snoc, if_pos (by simp at *; omega)]; simp; done) | (rw [betw_snoc, if_neg (by simp at *; omega)]; simp)) .nil)⟩
      ·dsimp only [nextD, nextO]
       refine Tx.q rfl trivial (q_extract rfl rfl _) ?_
       refine Tx.nil ?_
       refine Run.seq ?_
       refine Run.condT rfl rfl ?_
       refine Run.skip ?_
       refine Run.block ?_
       refine Run.seq (Run.reg [.r, .p, .p] ?_)
       refine .R rfl (q_entryS rfl rfl rfl (And.left hnb)) <| .P rfl (q_extract rfl rfl) <| .ag rfl rfl <| .nil ?_
       refine Run.seq (Run.reg [.p, .p, .p] ?_)
       refine .mv rfl rfl <| .P rfl (q_call Tryz.call28 rfl (compare_ok _ _ (by rw [allNil_vAt han (And.left hnb)]; simp) (by simp))) <| .P rfl (q_neq rfl rfl) <| .nil ?_
       refine Run.condF rfl (by rw [allNil_vAt han (And.left hnb)]; decide) ?_
       refine Run.skip ?_
       refine Run.nil (bq_norm ?_)
       refine Run.nil (tq_norm ?_)
       exact ⟨⟨seen ++ [nj]⟩, by exact unseen_lt (And.left hnb) (And.right hnb), Le.mk rfl (.same rfl rfl (.cons rfl Sub.intA rfl (.cons rfl Sub.intA rfl (.same rfl rfl (.same rfl rfl (.same rfl rfl .nil)))))) (.eq rfl (by rfl) (okB_SM _ _) (.cons rfl rfl .nil))⟩
    ·simp only [List.length_cons] at hl
     have hxb := hX.fld x (by rw [← hXe, hx]; simp)
     have hXl := hX.len
     rw [← hXe] at hXl
     have hgl := balM_len31 (c := x.currency) (l := pre) (fun b hb => hX.fld b (by rw [← hXe, hx]; simp [hb])) (by omega)
     have hxl := hxb.len
     refine Run.seq (Run.reg [.p] ?_)
     refine .P rfl (q_lss rfl rfl) <| .nil ?_
     refine Run.seq ?_
     refine Run.condT rfl (by simp; omega) ?_
     refine Run.skip ?_
     refine Run.seq ?_
     refine Run.block ?_
     refine Run.seq (Run.reg [.p, .p, .w, .w] ?_)
     refine .P rfl (q_indexI Tryz.underlying45 Tryz.sizeOf56 rfl rfl (by omega) (idx_mid encBalance hx rfl)) <| .P rfl (q_loadIA Tryz.isAgg56 Tryz.sizeOf56 rfl rfl) <| .W rfl (q_alloc 1 Tryz.zeroValue56 rfl) <| .W rfl (q_storeW Tryz.sizeOf56 rfl rfl rfl rfl rfl rfl) <| .nil ?_
     refine Run.regD [.p, .p, .r, .p, .p, .r, .r, .p, .r, .p, .w] Tryz_mixed (by decide +kernel) ?_
     refine .mv rfl rfl <| .P rfl (q_fieldB (n := 0) 9 1 Tryz.underlying56 Tryz.sizeOf9 rfl rfl) <| .R rfl (q_load1 Tryz.isAgg9 rfl rfl rfl) <| .mv rfl rfl <| .P rfl (q_fieldB (n := 0) 9 1 Tryz.underlying56 Tryz.sizeOf9 rfl rfl) <| .R rfl (q_load1 Tryz.isAgg9 rfl rfl rfl) <| .R rfl (q_lookupS Tryz.underlying53 Tryz.underlying9 Tryz.zeroValue54 rfl rfl rfl) <| .P rfl (q_fieldB (n := 0) 54 2 Tryz.underlying56 Tryz.sizeOf54 rfl rfl) <| .R rfl (q_load1 Tryz.isAgg54 rfl rfl rfl) <| .P rfl (q_call Tryz.call27 rfl (add_ok _ _ (by have := hgl; omega) (by omega))) <| .W rfl (q_mapUpdateS Tryz.underlying53 Tryz.underlying9 rfl rfl rfl rfl) <| .nil ?_
     refine Run.nil (bq_norm ?_)
     refine Run.reg [.p, .p] ?_
     refine .P rfl (q_add rfl rfl (wrap64_ok (by first | omega | (simp; done) | (simp; omega) | (simp at *; omega)) (by first | omega | (simp; done) | (simp; omega) | (simp at *; omega)))) <| .mv rfl rfl <| .nil ?_
     refine Run.nil (tq_norm ?_)
     exact ⟨⟨pre ++ [x], rest, by simp [hx]⟩, by simp, Le.mk rfl (.same rfl rfl (.cons rfl Sub.intA rfl (.cons rfl Sub.intA rfl (.same rfl rfl (.same rfl rfl (.same rfl rfl (.same rfl rfl (.cons rfl Sub.intA rfl (.cons rfl Sub.intA rfl .nil))))))))) (.eq rfl (by first | rfl | (rw [List.map_append, List.map_singleton, balM_snoc]; rfl)) (okB_SM _ _) .nil)⟩
theorem lawTrials_ok (l : List Posted) (d later : Int) : Fc Tryz.prog 6 [sPosteds l, .i d, .i later] (.b true) := by
 by_cases h : d ≤ later
 ·exact lawTrialsA_ok l d later h
 ·exact lawTrialsB_ok l d later (by omega)
end Go.T
namespace Go.T
open Go
def noO : Nat → Prop := fun _ => False
/-- What is read as data of the type is described by typed data. -/
structure Dec (P : Program) (t : TypeId) (α : Type) (enc : α → List D) : Prop where
  out : ∀ {H : Type} {eH : TypeId × Value → H} {w : World} {fuel : Nat} {cs : List Value} {x : DataW H × List MemPlace}, DataW.trod eH P w 0 (fun _ => true) true fuel t cs = some x → (∀ n ∈ x.1.weights P t, n ≤ reachBytes) →
    ∃ a : α, (∀ u ∈ cs, u.oneCell' = true) ∧ Vs w noO rho0 (enc a) cs
theorem Dec.int {P : Program} {t : TypeId} (ht : P.underlying t = some (.int .i64)) : Dec P t Int (fun n => [.i n]) := ⟨fun h _ => by
  obtain ⟨n, rfl, _, _⟩ := DataW.trod_int ht h
  exact ⟨n, by simp [Value.oneCell'], by simp [Vs, V]⟩⟩
theorem Dec.bool {P : Program} {t : TypeId} (ht : P.underlying t = some .bool) : Dec P t Bool (fun n => [.b n]) := ⟨fun h _ => by
  obtain ⟨n, rfl, _⟩ := DataW.trod_bool ht h
  exact ⟨n, by simp [Value.oneCell'], by simp [Vs, V]⟩⟩
theorem Dec.str {P : Program} {t : TypeId} (ht : P.underlying t = some .string) : Dec P t Str (fun n => [.str n]) := ⟨fun h hw => by
  obtain ⟨s, rfl, rfl, _⟩ := DataW.trod_string ht h
  have := hw s.data.toList.length (by simp [DataW.weights])
  refine ⟨s.data.toList, by simp [Value.oneCell'], ?_⟩
  simp only [Vs, V]
  refine ⟨_, _, rfl, ⟨by simp, ?_⟩, rfl⟩
  have := reachBytes_lt
  unfold big
  omega⟩
/-- The fields of a struct, from an offset on. -/
structure DecF (P : Program) (fs : List Field) (off : Nat) (α : Type) (enc : α → List D) : Prop where
  out : ∀ {H : Type} {eH : TypeId × Value → H} {w : World} {fuel : Nat} {cs : List Value} {xs : List (DataW H × List MemPlace)}, xs.length = fs.length →
    (∀ (i : Nat) (f : Field), fs[i]? = some f → DataW.trod eH P w 0 (fun _ => true) true fuel f.type ((cs.drop f.offset).take (P.cellsOf f.type)) = xs[i]?) → (∀ n ∈ DataW.weightsEach P (fs.map (·.type)) (xs.map (·.1)), n ≤ reachBytes) →
    ∃ a : α, (∀ u ∈ (cs.drop off).take ((fs.map fun f => P.cellsOf f.type).sum), u.oneCell' = true) ∧ Vs w noO rho0 (enc a) ((cs.drop off).take ((fs.map fun f => P.cellsOf f.type).sum))
theorem DecF.nil {P : Program} {off : Nat} : DecF P [] off Unit (fun _ => []) := ⟨fun _ _ _ => ⟨(), by simp, by simp [Vs]⟩⟩
theorem Vs.app {w : World} {O : Nat → Prop} {ρ : Rho} : ∀ {ds es : List D} {us vs : List Value}, Vs w O ρ ds us → Vs w O ρ es vs → Vs w O ρ (ds ++ es) (us ++ vs)
  | [], es, us, vs, h, h' => by simp only [Vs] at h; subst h; simpa using h'
  | d :: ds, es, us, vs, h, h' => by
    simp only [Vs] at h
    obtain ⟨u, us, rfl, h1, h2⟩ := h
    simp only [List.cons_append, Vs]
    exact ⟨_, _, rfl, h1, Vs.app h2 h'⟩
theorem DecF.cons {P : Program} {f : Field} {fs : List Field} {off n : Nat} {α β : Type} {enc : α → List D} {enc' : β → List D} (h1 : Dec P f.type α enc) (ho : f.offset = off) (hn : P.cellsOf f.type = n) (h2 : DecF P fs (off + n) β enc') : DecF P (f :: fs) off (α × β) (fun x => enc x.1 ++ enc' x.2) := ⟨fun {H eH w fuel cs xs} hl hr hw => by
  match xs, hl with
  | x :: xs, hl =>
    have hx := hr 0 f rfl
    simp only [List.map_cons, DataW.weightsEach, List.mem_append] at hw
    obtain ⟨a, ha, hva⟩ := h1.out (by simpa using hx) (fun n hn => hw n (.inl hn))
    obtain ⟨b, hb, hvb⟩ := h2.out (xs := xs) (by simpa using hl) (fun i g hg => by simpa using hr (i + 1) g (by simpa using hg)) (fun n hn => hw n (.inr hn))
    rw [ho, hn] at ha hva
    have e : (cs.drop off).take (((f :: fs).map fun f => P.cellsOf f.type).sum) = (cs.drop off).take n ++ (cs.drop (off + n)).take ((fs.map fun f => P.cellsOf f.type).sum) := by
      rw [List.map_cons, List.sum_cons, hn, List.take_add, List.drop_drop]
    rw [e]
    exact ⟨(a, b), fun u hu => (List.mem_append.1 hu).elim (ha u) (hb u), Vs.app hva hvb⟩⟩
theorem Dec.struct {P : Program} {t : TypeId} {fs : List Field} {α : Type} {enc : α → List D} (ht : P.underlying t = some (.struct fs.toArray)) (hc : P.cellsOf t = (fs.map fun f => P.cellsOf f.type).sum) (h : DecF P fs 0 α enc) : Dec P t α enc := ⟨fun {H eH w fuel cs x} hr hw => by
  obtain ⟨xs, n, _, rfl, hl, hlen, hf⟩ := DataW.trod_struct ht hr
  simp only [DataW.weights, ht, List.map_map] at hw
  obtain ⟨a, h1, h2⟩ := h.out (by simpa using hlen) (fun i f hi => hf i f (by simpa using hi)) (fun n hn => hw n (by simpa [Function.comp_def] using hn))
  have e : (cs.drop 0).take ((fs.map fun f => P.cellsOf f.type).sum) = cs := by
    rw [List.drop_zero, ← hc, ← hl, List.take_length]
  rw [e] at h1 h2
  exact ⟨a, h1, h2⟩⟩
theorem Dec.map {P : Program} {t : TypeId} {α β : Type} {enc : α → List D} {enc' : β → List D} (h : Dec P t α enc) (f : α → β) (he : ∀ a, enc' (f a) = enc a) : Dec P t β enc' := ⟨fun hr hw => by
  obtain ⟨a, h1, h2⟩ := h.out hr hw
  exact ⟨f a, h1, by rw [he]; exact h2⟩⟩
theorem Vs.toVc {w : World} {O : Nat → Prop} {b : Nat} : ∀ {ds : List D} {cs : List Value} {off : Nat}, Vs w O rho0 ds cs → (∀ u ∈ cs, u.oneCell' = true) → (∀ j u, cs[j]? = some u → w.cell? ⟨b, off + j, none⟩ = some u) → Vc w O b off ds
  | [], _, _, _, _, _ => by simp [Vc]
  | d :: ds, cs, off, h, h1, hc => by
    simp only [Vs] at h
    obtain ⟨u, us, rfl, h2, h3⟩ := h
    simp only [Vc]
    refine ⟨⟨u, ⟨by simpa using hc 0 u rfl, h1 u List.mem_cons_self⟩, h2⟩, Vs.toVc h3 (fun v hv => h1 v (List.mem_cons_of_mem _ hv)) (fun j v hj => ?_)⟩
    have := hc (j + 1) v (by simpa using hj)
    rwa [show off + (j + 1) = off + 1 + j by omega] at this
theorem cells_get {w : World} {a : Addr} {n : Nat} {cs : List Value} (h : w.cells? 0 a n = some cs) : cs.length = n ∧ ∀ j, j < n → w.cell? (a.add j) = cs[j]? := by
  unfold World.cells? at h
  rw [if_pos (Nat.zero_le _)] at h
  exact ⟨by simpa using mapM_some_length h, fun j hj => by simpa using mapM_some_get h j j (by simp [hj])⟩
theorem spot_none {w : World} {a : Addr} {u : Value} (h : w.cell? a = some u) : a.spot = none := by
  cases hsp : a.spot with
  | none => rfl
  | some s =>
    simp only [World.cell?] at h
    split at h
    · simp [hsp] at h
    · cases h
theorem Vr_of {w : World} {b sz : Nat} {α : Type} {enc : α → List D} : ∀ {l : List α} {off : Nat}, (∀ i a, l[i]? = some a → (enc a).length = sz ∧ Vc w noO b (off + i * sz) (enc a)) → Vr w noO b off sz (l.map enc)
  | [], _, _ => by simp [Vr]
  | a :: l, off, h => by
    simp only [List.map_cons, Vr]
    refine ⟨by simpa using h 0 a rfl, Vr_of fun i a' hi => ?_⟩
    have := h (i + 1) a' (by simpa using hi)
    rwa [show off + (i + 1) * sz = off + sz + i * sz by rw [Nat.add_mul]; omega] at this
theorem exists_list {α : Type} {p : Nat → α → Prop} : ∀ (n : Nat), (∀ i, i < n → ∃ a, p i a) → ∃ l : List α, l.length = n ∧ ∀ i a, l[i]? = some a → p i a
  | 0, _ => ⟨[], rfl, by simp⟩
  | n + 1, h => by
    obtain ⟨l, h1, h2⟩ := exists_list n (fun i hi => h i (by omega))
    obtain ⟨a, ha⟩ := h n (by omega)
    refine ⟨l ++ [a], by simp [h1], fun i a' hi => ?_⟩
    by_cases e : i < l.length
    · rw [List.getElem?_append_left e] at hi; exact h2 i a' hi
    · rw [List.getElem?_append_right (by omega)] at hi
      have : i = n := by
        by_cases e2 : i - l.length = 0
        · omega
        · simp [List.getElem?_cons, e2] at hi
      subst this
      simp [h1] at hi
      subst hi
      exact ha
theorem weightsAll_mem {H : Type} {P : Program} {e : TypeId} : ∀ {ds : List (DataW H)} {i : Nat} {d : DataW H}, ds[i]? = some d → ∀ n ∈ d.weights P e, n ∈ DataW.weightsAll P e ds
  | d0 :: ds, 0, d, h, n, hn => by
    simp only [List.getElem?_cons_zero, Option.some.injEq] at h
    subst h
    simp only [DataW.weightsAll, List.mem_append]
    exact .inl hn
  | d0 :: ds, i + 1, d, h, n, hn => by
    simp only [DataW.weightsAll, List.mem_append]
    exact .inr (weightsAll_mem (by simpa using h) n hn)
  | [], _, _, h, _, _ => by simp at h
theorem Dec.slice {P : Program} {t e : TypeId} {α : Type} {enc : α → List D} {sz k : Nat} (ht : P.underlying t = some (.slice e)) (hc : P.cellsOf e = sz) (hz : sz ≠ 0) (hb : P.bytesOf e = k + 1) (h : Dec P e α enc) (hl : ∀ a, (enc a).length = sz) : Dec P t (List α) (fun l => [.snap sz false (l.map enc)]) := ⟨fun {H eH w fuel cs x} hr hw => by
  rcases DataW.trod_slice ht hr with ⟨rfl, rfl⟩ | ⟨a, len, cap, elems, rest, n, rfl, rfl, rfl, _, hlc, hcap, hel, hget, hsp, _⟩
  · refine ⟨[], by simp [Value.oneCell'], ?_⟩
    simp only [Vs, V, List.map_nil]
    exact ⟨_, _, rfl, ⟨none, 0, rfl, ⟨Nat.le_refl _, by simp⟩, by simp, by simp⟩, rfl⟩
  · simp only [DataW.weights, ht, List.mem_cons, List.mem_append, hb] at hw
    have hlen : len ≤ big := by
      have h1 := hw _ (.inl rfl)
      simp only [List.length_map, hel] at h1
      have h2 := reachBytes_lt
      have h3 : len + rest.length ≤ (len + rest.length) * (k + 1) := Nat.le_mul_of_pos_right _ (by omega)
      unfold big
      omega
    have hq : ∀ i, i < len → ∃ y : α, (enc y).length = sz ∧ ∃ cs : List Value, cs.length = sz ∧ (∀ u ∈ cs, u.oneCell' = true) ∧ Vs w noO rho0 (enc y) cs ∧ ∀ j, j < sz → w.cell? ((a.add (i * sz)).add j) = cs[j]? := by
      intro i hi
      have hg := hget i hi
      rw [hc] at hg
      have hi' : i < elems.length := by omega
      rw [List.getElem?_eq_getElem hi'] at hg
      obtain ⟨cs, hcs, hg⟩ := Option.bind_eq_some_iff.1 hg
      obtain ⟨y, h1, h2⟩ := h.out hg (fun n hn => hw n (.inr (.inl (weightsAll_mem (i := i) (d := elems[i].1) (by simp [hi']) n hn))))
      obtain ⟨h3, h4⟩ := cells_get hcs
      exact ⟨y, hl y, cs, h3, h1, h2, h4⟩
    obtain ⟨l, hll, hp⟩ := exists_list len hq
    refine ⟨l, by simp [Value.oneCell'], ?_⟩
    simp only [Vs, V, List.length_map]
    refine ⟨_, _, rfl, ⟨some a, cap, by rw [hll], ⟨by omega, by omega⟩, by simp, fun hne => ?_⟩, rfl⟩
    have hpos : 0 < len := by
      cases l with
      | nil => simp at hne
      | cons _ _ => simp at hll; omega
    have h0 : ∃ u, w.cell? a = some u := by
      obtain ⟨y, _, cs, h1, _, _, h4⟩ := hq 0 hpos
      have h5 := h4 0 (by omega)
      have h6 : 0 < cs.length := by omega
      rw [List.getElem?_eq_getElem h6] at h5
      exact ⟨cs[0], by simpa [Addr.add] using h5⟩
    obtain ⟨u, hu⟩ := h0
    have hs := spot_none hu
    obtain ⟨b, off, sp⟩ := a
    simp only at hs
    subst hs
    refine ⟨b, off, rfl, ⟨cell_lt hu, fun h => h⟩, Vr_of fun i y hi => ?_⟩
    obtain ⟨g1, cs, g2, g3, g4, g5⟩ := hp i y hi
    refine ⟨g1, Vs.toVc g4 g3 fun j v hj => ?_⟩
    have hj' : j < sz := by
      have := (List.getElem?_eq_some_iff.1 hj).1
      omega
    rw [← hj, ← g5 j hj']
    congr 1
    unfold Addr.add
    by_cases e1 : i * sz = 0 <;> by_cases e2 : j = 0 <;> simp [e1, e2]⟩
end Go.T
namespace Go.T
open Go Go.ChangeShapes Go.WideShapes Go.RowKit Go.ChangeAt
structure DecL (P : Program) (ts : List TypeId) (α : Type) (enc : α → List D) : Prop where
  out : ∀ {H : Type} {eH : TypeId × Value → H} {w : World} {base : Nat} {vs : List Value} {ds : List (DataW H)} {p : List MemPlace}, DataW.TrodAll eH P w 0 (fun _ => true) true ts vs ds p →
    (∀ (j : Nat) t v, ts[j]? = some t → vs[j]? = some v → Value.okWide P w .any base t v) → (∀ n ∈ DataW.weightsEach P ts ds, n ≤ reachBytes) → ∃ a : α, Vs w noO rho0 (enc a) vs
def OneTy (P : Program) (t : TypeId) : Prop := ∀ w base v, Value.okWide P w .any base t v → v.cells.toList = [v]
theorem OneTy.slice {P : Program} {t e : TypeId} (ht : P.underlying t = some (.slice e)) : OneTy P t := fun w base v h => by
  obtain ⟨a, l, c, rfl⟩ := okWide_slice ht h; rfl
theorem OneTy.str {P : Program} {t : TypeId} (ht : P.underlying t = some .string) : OneTy P t := fun w base v h => by
  obtain ⟨a, rfl⟩ := okWide_string ht h; rfl
theorem OneTy.int {P : Program} {t : TypeId} {k : IntKind} (ht : P.underlying t = some (.int k)) : OneTy P t := fun w base v h => by
  obtain ⟨a, rfl⟩ := okWide_int ht h; rfl
theorem DecL.nil {P : Program} : DecL P [] Unit (fun _ => []) := ⟨fun {H eH w base vs ds p} h _ _ => by
  match vs, ds, h with
  | [], [], _ => exact ⟨(), by simp [Vs]⟩⟩
theorem DecL.cons {P : Program} {t : TypeId} {ts : List TypeId} {α β : Type} {e : α → D} {enc : β → List D} (h1 : Dec P t α (fun a => [e a])) (ho : OneTy P t) (h2 : DecL P ts β enc) : DecL P (t :: ts) (α × β) (fun x => e x.1 :: enc x.2) := ⟨fun {H eH w base vs ds p} h hv hw => by
  match vs, ds, h with
  | v :: vs, d :: ds, ⟨p1, q1, ⟨fuel, hf⟩, h4, _⟩ =>
    simp only [DataW.weightsEach, List.mem_append] at hw
    obtain ⟨b, hb⟩ := h2.out h4 (fun j t v ht hv' => hv (j + 1) t v (by simpa using ht) (by simpa using hv')) (fun n hn => hw n (.inr hn))
    rw [ho w base v (hv 0 t v rfl rfl)] at hf
    obtain ⟨a, _, ha⟩ := h1.out hf (fun n hn => hw n (.inl hn))
    simp only [Vs] at ha
    obtain ⟨u, us, e1, ha, rfl⟩ := ha
    cases e1
    exact ⟨(a, b), v, vs, rfl, ha, hb⟩⟩
theorem Keep.keptBut {w w' : World} (h : Keep w w') (may : MemPlace → Prop) : w.keptBut w' may := by
  refine ⟨h.os.1, h.os.2.1, fun i hi => ?_⟩
  rw [h.same i hi]
  split <;> simp_all
theorem Keep.sameAt {w w' : World} (h : Keep w w') {p : MemPlace} (hp : p.block < w.heap.size) : w.sameAt w' p := by
  cases p with
  | cell b off =>
    simp only [MemPlace.block] at hp
    simp [World.sameAt, World.cell?, h.same b hp]
  | map b => exact h.same b hp
theorem trodAll_keep {H : Type} {eH : TypeId × Value → H} {P : Program} {w w' : World} {sp : Nat → Bool} (hk : Keep w w') : ∀ {ts : List TypeId} {vs : List Value} {ds : List (DataW H)} {p : List MemPlace}, DataW.TrodAll eH P w 0 sp true ts vs ds p → (∀ x ∈ p, x.block < w.heap.size) → DataW.TrodAll eH P w' 0 sp true ts vs ds p
  | [], vs, ds, p, h, _ => by
    match vs, ds, h with
    | [], [], h => exact h
  | t :: ts, vs, ds, p, h, hp => by
    match vs, ds, h with
    | v :: vs, d :: ds, ⟨p1, q1, ⟨fuel, hf⟩, h4, e⟩ =>
      subst e
      exact ⟨p1, q1, ⟨fuel, DataW.trod_carry _ _ _ _ hf fun x hx => hk.sameAt (hp x (List.mem_append_left _ hx))⟩, trodAll_keep hk h4 (fun x hx => hp x (List.mem_append_right _ hx)), rfl⟩
theorem trodAll_len {H : Type} {eH : TypeId × Value → H} {P : Program} {w : World} {sp : Nat → Bool} : ∀ {ts : List TypeId} {vs : List Value} {ds : List (DataW H)} {p : List MemPlace}, DataW.TrodAll eH P w 0 sp true ts vs ds p → ds.length = ts.length
  | [], vs, ds, p, h => by
    match vs, ds, h with
    | [], [], h => rfl
  | t :: ts, vs, ds, p, h => by
    match vs, ds, h with
    | v :: vs, d :: ds, ⟨p1, q1, _, h4, e⟩ => simp [trodAll_len h4]
theorem law_contract {P : Program} {f : FuncId} {fn : Func} {s : ChangeSpec} {α : Type} {encs : α → List D} {tb : TypeId}
    (hkids : Kids P (· < P.types.size)) (hfull : ∀ t e, t < P.types.size → P.underlying t = some (.slice e) → 0 < P.cellsOf e)
    (hts : ∀ t ∈ fn.params.toList, t < P.types.size) (hvars : s.vars = []) (hres : fn.resultTypes = #[tb]) (hb : P.underlying tb = some .bool)
    (hsp : ∀ (H : Type) (ds : List (DataW H)), ds.length = fn.params.size → s.fn H ds = { results := [.lit (.bool true)], args := ds })
    (hdec : DecL P fn.params.toList α encs) (hlaw : ∀ a, Fc P f (encs a) (.b true))
    {H : Type} {enc : TypeId × Value → H} {W : World} {base : Nat} {args : Array Value} {ds gs : List (DataW H)} {before : List MemPlace}
    (hval : ∀ (j : Nat) t v, fn.params[j]? = some t → args[j]? = some v → Value.okWide P W .any base t v)
    (hW : DataW.Whole enc P fn.params.toList s.vars false W args.toList ds gs before)
    (hsz : (DataW.weightsEach P (fn.params.toList ++ s.plain.varTypes P) (ds ++ gs)).all (· ≤ reachBytes) = true) (hgl : Gl W noO) :
    Calls P f args W fun e W' => ∃ v, e = .returned v ∧ s.post enc P fn false true false false W args v W' := by
  have hW' := hW
  obtain ⟨p, q, hA, hV, rfl, _, _⟩ := hW
  rw [hvars] at hV
  obtain ⟨rfl, rfl⟩ := trodVars_none hV
  have hvt : s.plain.varTypes P = [] := by simp [ChangeSpec.plain, DataSpec.varTypes, hvars]
  rw [hvt, List.append_nil, List.append_nil] at hsz
  obtain ⟨a, ha⟩ := hdec.out hA (fun j t v ht hv => hval j t v (by simpa using ht) (by simpa using hv)) (fun n hn => by simpa using List.all_eq_true.1 hsz n hn)
  have hlen := trodAll_len hA
  have hlt : ∀ x ∈ p, x.block < W.heap.size := fun x hx => hA.lt x hx
  refine ((hlaw a).out W noO rho0 args.toList (fun b h => h.elim) hgl ha).mono ?_
  rintro e W' ⟨v, rfl, hv, hk⟩
  simp only [V] at hv
  subst hv
  have hf : s.fn H (ds ++ []) = { results := [.lit (.bool true)], args := ds } := by rw [List.append_nil]; exact hsp H ds (by simpa using hlen)
  refine ⟨_, rfl, ds, [], p ++ [], [], p, [], hW', ?_, ?_, ?_, hk.keptBut _, fun h => by cases h⟩
  · rw [hf, hres]
    exact trodAll_mk1 (shut_bool hb _)
  · rw [hf]
    exact DataW.TrodAll.respare hkids hfull hts (trodAll_keep hk hA hlt) (fun x hx => by simpa using hlt x hx)
  · rw [hf, hvars]
    rfl
/-- A table of integers that is listed: its block. -/
theorem laid_cells {P : Program} {W : World} {n : String} {k : IntKind} {zs : List Int} {rest : List (String × DataW Unit)} {g t e : Nat} (hg : P.globalNamed n = some g) (ht : (P.globals[g]?).map (·.type) = some t) (hu : P.underlying t = some (.array zs.length e)) (he : P.underlying e = some (.int k)) (hce : P.cellsOf e = 1) (hct : P.cellsOf t = zs.length)
    (pre : List (String × DataW Unit)) (hL : laidMet P (pre ++ (n, .agg (zs.map fun z => .lit (.int k z))) :: rest) W) : ∃ T fr, W.heap[g]? = some (.cells (zs.map fun z => Value.int k z).toArray T fr) := by
  obtain ⟨ps, h, hx⟩ := hL
  clear hx
  induction pre generalizing ps with
  | cons x pre ih =>
    obtain ⟨_, _, _, _, _, q, _, _, _, _, h, _⟩ := h
    exact ih q h
  | nil =>
    obtain ⟨g', t', cs, fuel, p, q, hg', ht', hv, hd, _⟩ := h
    obtain rfl := Option.some.inj (hg.symm.trans hg')
    obtain rfl := Option.some.inj (ht.symm.trans ht')
    obtain ⟨xs, m, _, ex, hcl, hl, hel⟩ := DataW.trod_array hu hd
    have e3 : xs.map (·.1) = zs.map fun z => .lit (.int k z) := (DataW.agg.inj (Prod.mk.inj ex).1).symm
    have key : cs = (zs.map fun z => Value.int k z).toArray := by
      apply Array.ext'
      apply List.ext_getElem?
      intro r
      by_cases hr : r < zs.length
      · have hE := hel r hr
        rw [hce, Nat.mul_one, List.getElem?_eq_getElem (by omega)] at hE
        obtain ⟨z, e1, e2, _⟩ := DataW.trod_int he hE
        have e4 : (xs.map (·.1))[r]? = (zs.map fun n => (DataW.lit (.int k n) : DataW Unit))[r]? := by rw [e3]
        rw [List.getElem?_map, List.getElem?_map, List.getElem?_eq_getElem (by omega : r < xs.length), List.getElem?_eq_getElem hr, e2] at e4
        simp only [Option.map_some, Option.some.injEq, DataW.lit.injEq, Lit.int.injEq, true_and] at e4
        have h0 : ((cs.toList.drop r).take 1)[0]? = some (.int k z) := by rw [e1]; rfl
        have h1 : cs.toList[r]? = some (.int k z) := by simpa using h0
        rw [h1, List.toList_toArray, List.getElem?_map, List.getElem?_eq_getElem hr, e4]; rfl
      · have : cs.toList.length = zs.length := by rw [hcl, hct]
        rw [List.getElem?_eq_none (by omega), List.getElem?_eq_none (by simp; omega)]
    simp only [World.var?, hg, Option.bind_some] at hv
    split at hv
    · rename_i c T fr hb
      cases hv
      exact ⟨T, fr, by rw [hb, key]⟩
    · cases hv
end Go.T
namespace Go.T
open Go Go.Proofs Go.ChangeShapes Go.WideShapes Go.RowKit Go.ChangeAt
set_option maxRecDepth 100000
theorem tz_kids : Kids Tryz.prog (· < Tryz.prog.types.size) := kids_rows (by kernel_rfl) (by kernel_rfl)
theorem tz_full : ∀ t e, t < Tryz.prog.types.size → Tryz.prog.underlying t = some (.slice e) → 0 < Tryz.prog.cellsOf e := slices_full_of Tryz.prog (by kernel_rfl)
theorem tz_own : ownKnob Tryz.prog.godebug = none := by kernel_rfl
theorem tz_size : Tryz.prog.types.size = 337 := by kernel_rfl
theorem d_day : Dec Tryz.prog 34 Int (fun n => [.i n]) := .int Tryz.underlying34
theorem d_int : Dec Tryz.prog 3 Int (fun n => [.i n]) := .int Tryz.underlying3
theorem d_str : Dec Tryz.prog 9 Str (fun n => [.str n]) := .str Tryz.underlying9
theorem c3 : Tryz.prog.cellsOf 3 = 1 := by kernel_rfl
theorem c9 : Tryz.prog.cellsOf 9 = 1 := by kernel_rfl
theorem c54 : Tryz.prog.cellsOf 54 = 1 := by kernel_rfl
theorem c35 : Tryz.prog.cellsOf 35 = 1 := by kernel_rfl
theorem c37 : Tryz.prog.cellsOf 37 = 3 := by kernel_rfl
theorem c34 : Tryz.prog.cellsOf 34 = 1 := by kernel_rfl
theorem d_line : Dec Tryz.prog 92 Line encLine :=
  (Dec.struct Tryz.underlying92 (by kernel_rfl) (.cons d_str rfl c9 (.cons d_str rfl c9 (.cons (.str Tryz.underlying54) rfl c54 .nil)))).map (fun x => ⟨x.1, x.2.1, x.2.2.1⟩) (fun a => rfl)
theorem d_lines : Dec Tryz.prog 35 (List Line) (fun l => [sLines l]) := .slice (sz := 3) (k := 47) Tryz.underlying35 (by kernel_rfl) (by decide) (by kernel_rfl) d_line (fun _ => rfl)
theorem d_entry : Dec Tryz.prog 37 Entry encEntry :=
  (Dec.struct Tryz.underlying37 (by kernel_rfl) (.cons d_day rfl c34 (.cons d_str rfl c9 (.cons d_lines rfl c35 .nil)))).map (fun x => ⟨x.1, x.2.1, x.2.2.1⟩) (fun a => rfl)
theorem d_posted : Dec Tryz.prog 39 Posted encPosted :=
  (Dec.struct Tryz.underlying39 (by kernel_rfl) (.cons d_day rfl c34 (.cons d_int rfl c3 (.cons d_str rfl c9 (.cons d_entry rfl c37 .nil))))).map (fun x => ⟨x.1, x.2.1, x.2.2.1, x.2.2.2.1⟩) (fun a => rfl)
theorem d_posteds : Dec Tryz.prog 27 (List Posted) (fun l => [sPosteds l]) := .slice (sz := 6) (k := 79) Tryz.underlying27 (by kernel_rfl) (by decide) (by kernel_rfl) d_posted (fun _ => rfl)
def laidL : List (String × DataW Unit) := Go.Proofs.YtlhemheagekhaaaGreatDoor.Rows.restateStepRow.laid
theorem gl_of {W : World} (h : laidMetH Tryz.prog laidL W) : Gl W noO := by
  rw [MakeChecks.laidMetH_plain _ _ _ (by kernel_rfl)] at h
  intro g vs hm
  simp only [gtab, List.mem_singleton, Prod.mk.injEq] at hm
  obtain ⟨rfl, rfl⟩ := hm
  refine ⟨?_, fun h => h⟩
  have := laid_cells (P := Tryz.prog) (W := W) (n := "internal/strconv.uint64pow10") (k := .u64) (zs := pow10s.map fun (n : Nat) => (n : Int)) (g := 2) (t := 298) (e := 171) (by kernel_rfl) (by kernel_rfl) Tryz.underlying298 Tryz.underlying171 (by kernel_rfl) (by kernel_rfl) (laidL.take 2) (rest := laidL.drop 3) h
  simpa [Function.comp_def] using this
end Go.T
