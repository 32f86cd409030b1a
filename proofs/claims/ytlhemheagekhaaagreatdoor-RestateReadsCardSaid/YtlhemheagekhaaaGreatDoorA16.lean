/-
  Contracts of the functions that the statement reaches, and the logic in which they are proved (no condition): parts W62, Bal7, W63, Core34, Core35, LayT, Bal8, W64, Bal9, W65.
-/
import Derived.Test.YtlhemheagekhaaaGreatDoorA15
import Derived.Shelf.SortM.Plain
import Derived.Shelf.SortM.SortNone
set_option linter.all false
namespace Go.T
open Go Go.Proofs
set_option maxRecDepth 20000
structure great50_ok_L0 (l : List Posted) where
 pre : List Posted
 rest : List Posted
 hx : l = pre ++ rest
 hp : pre.any (fun p => greatOne p.entry || decide (60 < p.by_.length)) = false
theorem great50_ok (l : List Posted) : Fc Tryz.prog 25 [sPosteds l] (.b (great50 l)) := by
 refine Fc.mk' [2] Tryz.func25 rfl Tryz.ntmps25 rfl rfl rfl (fun t w => results_tmp Tryz.results25 t _ w) ?_
 refine Run.bSnap 0 rfl (fun hb => ?_)
 simp only [List.length_map, big] at hb
 refine Run.seq (Run.reg [.p] ?_)
 refine .ag rfl rfl <| .nil ?_
 refine Run.seq (Run.seq (Run.reg [.p] ?_))
 refine .ag rfl rfl <| .nil ?_
 refine Run.block ?_
 refine Run.loop (ι := great50_ok_L0 l) (fun sx => [(0, sPosteds l), (3, .i sx.pre.length)]) (fun sx => []) (fun sx => sx.rest.length) ⟨[], l, rfl, rfl⟩ ?_ ?_
 ·exact Le.mk rfl (.same rfl rfl (.cons rfl Sub.intA rfl .nil)) .nil
 ·rintro ⟨pre, rest, hx, hp⟩
  show Run _ _ _ _ [(0, sPosteds l), (3, .i pre.length)] []
  have hl := congrArg List.length hx
  simp only [List.length_append] at hl
  rcases rest with _ | ⟨x, rest⟩
  ·skip
   refine Run.seq (Run.seq (Run.reg [.p, .p, .p, .p] ?_))
   refine .mv rfl rfl <| .mv rfl rfl <| .P rfl (q_lenI Tryz.underlying27 rfl) <| .P rfl (q_lss rfl rfl) <| .nil ?_
   refine Run.condF rfl (by simp at hl ⊢; omega) ?_
   refine Run.exit (tq_exit (bq_exit ?_))
   refine Run.seq (Run.reg [.p, .p, .p, .p] ?_)
   refine .mv rfl rfl <| .P rfl (q_lenI Tryz.underlying27 rfl) <| .P rfl (q_gtr rfl rfl) <| .ag rfl rfl <| .nil ?_
   refine Run.ret (?_)
   exact ret1 rfl (Sub.bool (by first | exact (great50_T hx (by simp at *; grind)).symm | (rw [great50_end hx hp]; simp; omega)))
  ·simp only [List.length_cons] at hl
   refine Run.seq (Run.seq (Run.reg [.p, .p, .p, .p] ?_))
   refine .mv rfl rfl <| .mv rfl rfl <| .P rfl (q_lenI Tryz.underlying27 rfl) <| .P rfl (q_lss rfl rfl) <| .nil ?_
   refine Run.condT rfl (by simp; omega) ?_
   refine Run.skip ?_
   refine Run.seq ?_
   refine Run.block ?_
   refine Run.seq (Run.reg [.p, .p, .p, .p, .p, .p, .p, .p, .p, .p, .p, .p, .p, .p, .p] ?_)
   refine .mv rfl rfl <| .mv rfl rfl <| .P rfl (q_indexI Tryz.underlying27 Tryz.sizeOf39 rfl rfl (by omega) (idx_mid encPosted hx rfl)) <| .P rfl (q_fieldI (n := 2) 37 3 Tryz.underlying39 Tryz.sizeOf37 rfl rfl rfl) <| .P rfl (q_loadIA Tryz.isAgg37 Tryz.sizeOf37 rfl rfl) <| .P rfl (q_call Tryz.call41 rfl (greatOne_ok x.entry)) <| .mv rfl rfl <| .gF rfl (.inl rfl) rfl rfl rfl (fun hg => pk (fun _ => q_move rfl _)) <| .gF rfl (.inl rfl) rfl rfl rfl (fun hg => pk (fun _ => q_move rfl _)) <| .gF rfl (.inl rfl) rfl rfl rfl (fun hg => pk (fun _ => q_indexI Tryz.underlying27 Tryz.sizeOf39 (opT rfl (nt hg)) (opT rfl (nt hg)) (by omega) (idx_mid encPosted hx rfl) _)) <| .gF rfl (.inl rfl) rfl rfl rfl (fun hg => pk (fun _ => q_fieldI (n := 0) 9 2 Tryz.underlying39 Tryz.sizeOf9 rfl (opT rfl (nt hg)) rfl _)) <| .gF rfl (.inl rfl) rfl rfl rfl (fun hg => pk (fun _ => q_loadI Tryz.isAgg9 (opT rfl (nt hg)) _)) <| .gF rfl (.inl rfl) rfl rfl rfl (fun hg => pk (fun _ => q_lenS Tryz.underlying9 (opT rfl (nt hg)) _)) <| .gF rfl (.inl rfl) rfl rfl rfl (fun hg => pk (fun _ => q_gtr (opT rfl (nt hg)) rfl _)) <| .P rfl (q_or rfl rfl) <| .nil ?_
   refine Run.cond rfl (fun h1 => ?_) (fun h1 => ?_)
   ·have ph1 := h1; try simp only [bs] at ph1
    refine Run.seq (Run.reg [.p] ?_)
    refine .ag rfl rfl <| .nil ?_
    refine Run.ret (bq_ret (tq_ret (bq_ret (?_))))
    exact ret1 rfl (Sub.bool (by first | exact (great50_T hx (by simp at *; grind)).symm | (rw [great50_end hx hp]; simp; omega)))
   ·have ph1 := h1; try simp only [bs] at ph1
    refine Run.skip ?_
    refine Run.nil (bq_norm ?_)
    refine Run.reg [.p, .p, .p] ?_
    refine .mv rfl rfl <| .P rfl (q_add rfl rfl (wrap64_ok (by omega) (by omega))) <| .ag rfl rfl <| .nil ?_
    refine Run.nil (tq_norm ?_)
    exact ⟨⟨pre ++ [x], rest, by simp [hx], by simp at *; grind⟩, by simp, Le.mk rfl (.same rfl rfl (.cons rfl Sub.intA rfl .nil)) .nil⟩
theorem check06_ok (d : Int) : Fc Tryz.prog 88 [.i d] (.i (if validDay d then 0 else 13)) := by
 refine Fc.mk' [2] Tryz.func88 rfl Tryz.ntmps88 rfl rfl rfl (fun t w => results_tmp Tryz.results88 t _ w) ?_
 refine Run.seq (Run.reg [.p] ?_)
 refine .ag rfl rfl <| .nil ?_
 refine Run.seq (Run.seq (Run.reg [.p, .p, .p, .p, .p, .p] ?_))
 refine .mv rfl rfl <| .P rfl (q_lss rfl rfl) <| .mv rfl rfl <| .gF rfl (.inl rfl) rfl rfl rfl (fun hg => pk (fun _ => q_move rfl _)) <| .gF rfl (.inl rfl) rfl rfl rfl (fun hg => pk (fun _ => q_gtr (opT rfl (nt hg)) rfl _)) <| .P rfl (q_or rfl rfl) <| .nil ?_
 refine Run.cond rfl (fun h1 => ?_) (fun h1 => ?_)
 ·have ph1 := h1; try simp only [bs] at ph1
  refine Run.seq (Run.reg [.p] ?_)
  refine .ag rfl rfl <| .nil ?_
  refine Run.ret (?_)
  exact ret1 rfl (Sub.int (by grind [validDay]))
 ·have ph1 := h1; try simp only [bs] at ph1
  refine Run.skip ?_
  refine Run.seq (Run.reg [.p] ?_)
  refine .ag rfl rfl <| .nil ?_
  refine Run.ret (?_)
  exact ret1 rfl (Sub.int (by grind [validDay]))
theorem validP50_ok (p : Posted) (hs : smallE p.entry) : Fc Tryz.prog 77 [.agg (encPosted p)] (.b (okP p)) := by
 refine Fc.mk' [2] Tryz.func77 rfl Tryz.ntmps77 rfl rfl rfl (fun t w => results_tmp Tryz.results77 t _ w) ?_
 refine Run.seq (Run.reg [.w, .p] ?_)
 refine .W rfl (q_boxA 0 rfl rfl) <| .ag rfl rfl <| .nil ?_
 refine Run.seq (Run.reg [.p, .r, .p, .p, .p, .p, .r, .p, .p, .p, .p, .p, .r, .p, .p, .r, .p, .p, .p, .p, .r, .p, .p, .p, .p, .r, .p, .p, .p] ?_)
 refine .P rfl (q_fieldB (n := 2) 37 3 Tryz.underlying39 Tryz.sizeOf37 rfl rfl) <| .R rfl (q_loadA Tryz.isAgg37 Tryz.sizeOf37 rfl rfl (by simp) rfl) <| .P rfl (q_call Tryz.call56 rfl (check35_ok p.entry hs)) <| .P rfl (q_eql rfl rfl) <| .mv rfl rfl <| .gT rfl (.inl rfl) rfl rfl rfl (fun hg => pk (fun _ => q_fieldB (n := 0) 34 0 Tryz.underlying39 Tryz.sizeOf34 rfl rfl _)) <| .gT rfl (.inr rfl) rfl rfl rfl (fun hg => rk (q_load1 Tryz.isAgg34 (opT rfl hg) rfl rfl)) <| .gT rfl (.inl rfl) rfl rfl rfl (fun hg => pk (fun _ => q_call Tryz.call88 (opsC (opT rfl hg) (rfl)) (check06_ok _) _)) <| .gT rfl (.inl rfl) rfl rfl rfl (fun hg => pk (fun _ => q_eql (opT rfl hg) rfl _)) <| .P rfl (q_and rfl rfl) <| .mv rfl rfl <| .gT rfl (.inl rfl) rfl rfl rfl (fun hg => pk (fun _ => q_fieldB (n := 0) 34 0 Tryz.underlying39 Tryz.sizeOf34 rfl rfl _)) <| .gT rfl (.inr rfl) rfl rfl rfl (fun hg => rk (q_load1 Tryz.isAgg34 (opT rfl hg) rfl rfl)) <| .gT rfl (.inl rfl) rfl rfl rfl (fun hg => pk (fun _ => q_fieldB (n := 2) 37 3 Tryz.underlying39 Tryz.sizeOf37 rfl rfl _)) <| .gT rfl (.inl rfl) rfl rfl rfl (fun hg => pk (fun _ => q_fieldB (n := 0) 34 0 Tryz.underlying37 Tryz.sizeOf34 rfl (opT rfl hg) _)) <| .gT rfl (.inr rfl) rfl rfl rfl (fun hg => rk (q_load1 Tryz.isAgg34 (opT rfl hg) rfl rfl)) <| .gT rfl (.inl rfl) rfl rfl rfl (fun hg => pk (fun _ => q_geq (opT rfl hg) (opT rfl hg) _)) <| .P rfl (q_and rfl rfl) <| .mv rfl rfl <| .gT rfl (.inl rfl) rfl rfl rfl (fun hg => pk (fun _ => q_fieldB (n := 0) 3 1 Tryz.underlying39 Tryz.sizeOf3 rfl rfl _)) ?_
 refine .gT rfl (.inr rfl) rfl rfl rfl (fun hg => rk (q_load1 Tryz.isAgg3 (opT rfl hg) rfl rfl)) <| .gT rfl (.inl rfl) rfl rfl rfl (fun hg => pk (fun _ => q_geq (opT rfl hg) rfl _)) <| .P rfl (q_and rfl rfl) <| .mv rfl rfl <| .gT rfl (.inl rfl) rfl rfl rfl (fun hg => pk (fun _ => q_fieldB (n := 0) 9 2 Tryz.underlying39 Tryz.sizeOf9 rfl rfl _)) <| .gT rfl (.inr rfl) rfl rfl rfl (fun hg => rk (q_load1 Tryz.isAgg9 (opT rfl hg) rfl rfl)) <| .gT rfl (.inl rfl) rfl rfl rfl (fun hg => pk (fun _ => q_call Tryz.call50 (opsC (opT rfl hg) (rfl)) (name10_ok _) _)) <| .P rfl (q_and rfl rfl) <| .ag rfl rfl <| .nil ?_
 refine Run.ret (?_)
 exact ret1 rfl (Sub.bool (by cases hv : validDay p.day <;> simp [okP, Bool.and_assoc, hv] <;> grind))
structure check50_ok_L0 (l : List Posted) where
 pre : List Posted
 rest : List Posted
 hx : l = pre ++ rest
 hp : pre.all okP = true ∧ adjK pre = true
 hl0 : l.length ≤ 10000
theorem check50_ok (l : List Posted) (hs : smallPs l) : Fc Tryz.prog 26 [sPosteds l] (.i (if okPs l then 0 else 1)) := by
 refine Fc.mk' [2] Tryz.func26 rfl Tryz.ntmps26 rfl rfl rfl (fun t w => results_tmp Tryz.results26 t _ w) ?_
 refine Run.bSnap 0 rfl (fun hb => ?_)
 simp only [List.length_map, big] at hb
 refine Run.seq (Run.reg [.p] ?_)
 refine .ag rfl rfl <| .nil ?_
 refine Run.seq (Run.seq (Run.reg [.p, .p, .p] ?_))
 refine .mv rfl rfl <| .P rfl (q_lenI Tryz.underlying27 rfl) <| .P rfl (q_gtr rfl rfl) <| .nil ?_
 refine Run.cond rfl (fun h1 => ?_) (fun h1 => ?_)
 ·have ph1 := h1; try simp only [bs] at ph1
  refine Run.seq (Run.reg [.p] ?_)
  refine .ag rfl rfl <| .nil ?_
  refine Run.ret (?_)
  exact ret1 rfl (Sub.int (by first | (rw [okPs_end hx hp hl0]; rfl) | (rw [okPs_bad hx (by grind)]; rfl) | (rw [show okPs l = false by simp [okPs]; omega]; rfl)))
 ·have ph1 := h1; try simp only [bs] at ph1
  refine Run.skip ?_
  refine Run.seq (Run.seq (Run.reg [.p] ?_))
  refine .ag rfl rfl <| .nil ?_
  refine Run.block ?_
  refine Run.loop (ι := check50_ok_L0 l) (fun sx => [(0, sPosteds l), (3, .i sx.pre.length)]) (fun sx => []) (fun sx => sx.rest.length) ⟨[], l, rfl, ⟨rfl, rfl⟩, by simp at *; omega⟩ ?_ ?_
  ·exact Le.mk rfl (.same rfl rfl (.cons rfl Sub.intA rfl .nil)) .nil
  ·rintro ⟨pre, rest, hx, hp, hl0⟩
   show Run _ _ _ _ [(0, sPosteds l), (3, .i pre.length)] []
   have hl := congrArg List.length hx
   simp only [List.length_append] at hl
   rcases rest with _ | ⟨x, rest⟩
   ·skip
    refine Run.seq (Run.seq (Run.reg [.p, .p, .p, .p] ?_))
    refine .mv rfl rfl <| .mv rfl rfl <| .P rfl (q_lenI Tryz.underlying27 rfl) <| .P rfl (q_lss rfl rfl) <| .nil ?_
    refine Run.condF rfl (by simp at hl ⊢; omega) ?_
    refine Run.exit (tq_exit (bq_exit ?_))
    refine Run.seq (Run.reg [.p] ?_)
    refine .ag rfl rfl <| .nil ?_
    refine Run.ret (?_)
    exact ret1 rfl (Sub.int (by first | (rw [okPs_end hx hp hl0]; rfl) | (rw [okPs_bad hx (by grind)]; rfl) | (rw [show okPs l = false by simp [okPs]; omega]; rfl)))
   ·simp only [List.length_cons] at hl
    refine Run.seq (Run.seq (Run.reg [.p, .p, .p, .p] ?_))
    refine .mv rfl rfl <| .mv rfl rfl <| .P rfl (q_lenI Tryz.underlying27 rfl) <| .P rfl (q_lss rfl rfl) <| .nil ?_
    refine Run.condT rfl (by simp; omega) ?_
    refine Run.skip ?_
    refine Run.seq ?_
    refine Run.block ?_
    refine Run.seq (Run.regD [.p, .p, .p, .p, .p, .p, .p, .p, .p, .p, .p, .p, .p, .p, .p, .p, .p, .p, .p, .p, .p, .p, .p, .p] Tryz_mixed (by decide +kernel) ?_)
    refine .mv rfl rfl <| .mv rfl rfl <| .P rfl (q_indexI Tryz.underlying27 Tryz.sizeOf39 rfl rfl (by omega) (idx_mid encPosted hx rfl)) <| .P rfl (q_loadIA Tryz.isAgg39 Tryz.sizeOf39 rfl rfl) <| .P rfl (q_call Tryz.call77 rfl (validP50_ok x (hs x (by rw [hx]; simp)))) <| .P rfl (q_not rfl) <| .mv rfl rfl <| .gF rfl (.inl rfl) rfl rfl rfl (fun hg => pk (fun _ => q_move rfl _)) <| .gF rfl (.inl rfl) rfl rfl rfl (fun hg => pk (fun _ => q_gtr (opT rfl (nt hg)) rfl _)) <| .gF rfl (.inl rfl) rfl rfl rfl (fun hg => pk (fun _ => q_move (opT rfl (nt hg)) _)) ?_
    refine .nT rfl (.inl rfl) rfl rfl rfl (fun hc hg => pk (fun _ => q_move rfl _)) ?_
    refine .nT rfl (.inl rfl) rfl rfl rfl (fun hc hg => pk (fun _ => q_move rfl _)) ?_
    refine .nT rfl (.inl rfl) rfl rfl rfl (fun hc hg => pk (fun _ => q_indexI Tryz.underlying27 Tryz.sizeOf39 (opT rfl (bT hc hg)) (opT rfl (bT hc hg)) (by omega) (idx_mid encPosted hx rfl) _)) ?_
    refine .nT rfl (.inl rfl) rfl rfl rfl (fun hc hg => pk (fun _ => q_fieldI (n := 0) 3 1 Tryz.underlying39 Tryz.sizeOf3 rfl (opT rfl (bT hc hg)) rfl _)) ?_
    refine .nT rfl (.inl rfl) rfl rfl rfl (fun hc hg => pk (fun _ => q_loadI Tryz.isAgg3 (opT rfl (bT hc hg)) _)) ?_
    refine .nT rfl (.inl rfl) rfl rfl rfl (fun hc hg => pk (fun _ => q_move rfl _)) ?_
    refine .nT rfl (.inl rfl) rfl rfl rfl (fun hc hg => pk (fun _ => q_move rfl _)) ?_
    refine .nT rfl (.inl rfl) rfl rfl rfl (fun hc hg => pk (fun _ => q_sub (opT rfl (bT hc hg)) rfl (wrap64_ok (by first | omega | (simp; done) | (simp; omega) | (simp at *; omega)) (by first | omega | (simp; done) | (simp; omega) | (simp at *; omega))) _)) ?_
    refine .nT rfl (.inl rfl) rfl rfl rfl (fun hc hg => pk (fun _ => q_indexI Tryz.underlying27 Tryz.sizeOf39 (opT rfl (bT hc hg)) (opT rfl (bT hc hg)) (by simp at hg; omega) (idx_last encPosted hx (by simp at hg; omega) (by omega)) _)) ?_
    refine .nT rfl (.inl rfl) rfl rfl rfl (fun hc hg => pk (fun _ => q_fieldI (n := 0) 3 1 Tryz.underlying39 Tryz.sizeOf3 rfl (opT rfl (bT hc hg)) rfl _)) ?_
    refine .nT rfl (.inl rfl) rfl rfl rfl (fun hc hg => pk (fun _ => q_loadI Tryz.isAgg3 (opT rfl (bT hc hg)) _)) ?_
    refine .nT rfl (.inl rfl) rfl rfl rfl (fun hc hg => pk (fun _ => q_lss (opT rfl (bT hc hg)) (opT rfl (bT hc hg)) _)) ?_
    refine .gF rfl (.inl rfl) rfl rfl rfl (fun hg => pk (fun _ => q_and (opT rfl (nt hg)) (opA rfl (nt hg)) _)) <| .P rfl (q_or rfl rfl) <| .nil ?_
    refine Run.cond rfl (fun h2 => ?_) (fun h2 => ?_)
    ·have ph2 := h2; try simp only [bs] at ph2
     refine Run.seq (Run.reg [.p] ?_)
     refine .ag rfl rfl <| .nil ?_
     refine Run.ret (bq_ret (tq_ret (bq_ret (?_))))
     exact ret1 rfl (Sub.int (by first | (rw [okPs_end hx hp hl0]; rfl) | (rw [okPs_bad hx (by grind)]; rfl) | (rw [show okPs l = false by simp [okPs]; omega]; rfl)))
    ·have ph2 := h2; try simp only [bs] at ph2
     refine Run.skip ?_
     refine Run.nil (bq_norm ?_)
     refine Run.reg [.p, .p, .p] ?_
     refine .mv rfl rfl <| .P rfl (q_add rfl rfl (wrap64_ok (by first | omega | (simp; done) | (simp; omega) | (simp at *; omega)) (by first | omega | (simp; done) | (simp; omega) | (simp at *; omega)))) <| .ag rfl rfl <| .nil ?_
     refine Run.nil (tq_norm ?_)
     exact ⟨⟨pre ++ [x], rest, by simp [hx], okPs_step hp (by grind) (by grind), hl0⟩, by simp, Le.mk rfl (.same rfl rfl (.cons rfl Sub.intA rfl .nil)) .nil⟩
theorem trial50X_ok (l : List Posted) (d : Int) (hs : smallPs l) : Fc Tryz.prog 20 [sPosteds l, .i d] (.tup [sBals (trialX d l), .i (errX d l)]) := trial50_ok l d hs
end Go.T
namespace Go.T
open Go Go.Proofs
def btw (a b : Int) (p : Posted) : Bool := decide (a < p.known) && decide (p.known ≤ b)
def betwK (a b : Int) (l : List Posted) : List Posted := l.filter (btw a b)
end Go.T
namespace Go.T
open Go Go.Proofs
set_option maxRecDepth 20000
theorem btw_ok (p : Posted) (a b : Int) : Fc Tryz.prog 82 [.agg (encPosted p), .iptr [.i a], .iptr [.i b]] (.b (btw a b p)) := by
 refine Fc.mk' [4] Tryz.func82 rfl Tryz.ntmps82 rfl rfl rfl (fun t w => results_tmp Tryz.results82 t _ w) ?_
 refine Run.seq (Run.reg [.w, .p] ?_)
 refine .W rfl (q_boxA 0 rfl rfl) <| .ag rfl rfl <| .nil ?_
 refine Run.seq (Run.reg [.p, .r, .p, .p, .p, .p, .r, .p, .p, .p, .p] ?_)
 refine .P rfl (q_fieldB (n := 0) 3 1 Tryz.underlying39 Tryz.sizeOf3 rfl rfl) <| .R rfl (q_load1 Tryz.isAgg3 rfl rfl rfl) <| .P rfl (q_loadI Tryz.isAgg3 rfl) <| .P rfl (q_gtr rfl rfl) <| .mv rfl rfl <| .gT rfl (.inl rfl) rfl rfl rfl (fun hg => pk (fun _ => q_fieldB (n := 0) 3 1 Tryz.underlying39 Tryz.sizeOf3 rfl rfl _)) <| .gT rfl (.inr rfl) rfl rfl rfl (fun hg => rk (q_load1 Tryz.isAgg3 (opT rfl hg) rfl rfl)) <| .gT rfl (.inl rfl) rfl rfl rfl (fun hg => pk (fun _ => q_loadI Tryz.isAgg3 rfl _)) <| .gT rfl (.inl rfl) rfl rfl rfl (fun hg => pk (fun _ => q_leq (opT rfl hg) (opT rfl hg) _)) <| .P rfl (q_and rfl rfl) <| .ag rfl rfl <| .nil ?_
 refine Run.ret (?_)
 exact ret1 rfl (Sub.bool (by rfl))
theorem filterB_ok (l : List Posted) (a b : Int) : Fc Tryz.prog 65 [sPosteds l, .fn (.func 82) [] [.iptr [.i a], .iptr [.i b]]] (.fn (.func 121) [] [.iptr [sPosteds l], .iptr [.fn (.func 82) [] [.iptr [.i a], .iptr [.i b]]]]) := by
 refine Fc.mk' [4] Tryz.func65 rfl Tryz.ntmps65 rfl rfl rfl (fun t w => results_tmp Tryz.results65 t _ w) ?_
 refine Run.seq (Run.reg [.w, .w, .p] ?_)
 refine .W rfl (q_box1 0 rfl rfl rfl) <| .W rfl (q_box1 1 rfl rfl rfl) <| .ag rfl rfl <| .nil ?_
 refine Run.weak (Le.freezeB 2 0 rfl rfl rfl rfl) ?_
 refine Run.weak (Le.freezeB 3 1 rfl rfl rfl rfl) ?_
 refine Run.seq (Run.reg [.p, .p] ?_)
 refine .P rfl (q_makeFunc (xs := []) (ys := _) rfl rfl) <| .ag rfl rfl <| .nil ?_
 refine Run.ret (?_)
 exact ret1 rfl (by exact Sub.refl _)
structure filterBY_ok_L0 (l : List Posted) (a b : Int) where
 pre : List Posted
 rest : List Posted
 acc : List Posted
 hx : l = pre ++ rest
 hacc : acc = pre.filter (btw a b)
theorem filterBY_ok (l : List Posted) (a b : Int) (hl : l.length ≤ 1000000) : FcY (α := Posted) Tryz.prog 121 8000 [.iptr [sPosteds l], .iptr [.fn (.func 82) [] [.iptr [.i a], .iptr [.i b]]]] [] (fun p => [.agg (encPosted p)]) (fun p => p <+: l.filter (btw a b)) (fun p => p = l.filter (btw a b)) := by
 refine FcY.mk' Tryz.func121 rfl Tryz.ntmps121 rfl (fun t w => results_none Tryz.results121 t _ w) (fun idL lb ids B X Y => ?_)
 refine Run.seq (Run.reg [.p, .p, .p] ?_)
 refine .P rfl (q_loadI Tryz.isAgg27 rfl) <| .P rfl (q_lenI Tryz.underlying27 rfl) <| .mv rfl rfl <| .nil ?_
 refine Run.block ?_
 refine Run.loop (ι := filterBY_ok_L0 l a b) (fun sx => [(0, yv lb), (1, .iptr [sPosteds l]), (2, .iptr [.fn (.func 82) [] [.iptr [.i a], .iptr [.i b]]]), (6, sPosteds l), (7, .i l.length), (8, .i sx.pre.length)]) (fun sx => ([] ++ B sx.acc)) (fun sx => sx.rest.length) ⟨[], l, [], rfl, rfl⟩ ?_ ?_
 ·exact Le.mk (ps_ok (Y.has _) rfl) (.same rfl rfl (.same rfl rfl (.same rfl rfl (.same rfl rfl (.cons rfl Sub.intA rfl (.cons rfl Sub.intA rfl .nil)))))) (.tail (tail_ok (own := []) (own' := []) rfl (Y.free _) (Y.okb _)))
 ·rintro ⟨pre, rest, acc, hx, hacc⟩
  show Run _ _ _ _ [(0, yv lb), (1, .iptr [sPosteds l]), (2, .iptr [.fn (.func 82) [] [.iptr [.i a], .iptr [.i b]]]), (6, sPosteds l), (7, .i l.length), (8, .i pre.length)] ([] ++ B acc)
  have hl := congrArg List.length hx
  simp only [List.length_append] at hl
  rcases rest with _ | ⟨x, rest⟩
  ·skip
   refine Run.seq (Run.reg [.p] ?_)
   refine .P rfl (q_lss rfl rfl) <| .nil ?_
   refine Run.seq ?_
   refine Run.condF rfl (by simp at hl ⊢; omega) ?_
   refine Run.exit (tq_exit (bq_exit ?_))
   refine Run.nil ?_
   exact retY_fin (.inr rfl) (acc) (by rw [hacc, hx]; simp) (own_get (own := []) rfl (Y.free _))
  ·simp only [List.length_cons] at hl
   refine Run.seq (Run.reg [.p] ?_)
   refine .P rfl (q_lss rfl rfl) <| .nil ?_
   refine Run.seq ?_
   refine Run.condT rfl (by simp; omega) ?_
   refine Run.skip ?_
   refine Run.seq ?_
   refine Run.block ?_
   refine Run.seq (Run.reg [.p, .p, .w, .w] ?_)
   refine .P rfl (q_indexI Tryz.underlying27 Tryz.sizeOf39 rfl rfl (by omega) (idx_mid encPosted hx rfl)) <| .P rfl (q_loadIA Tryz.isAgg39 Tryz.sizeOf39 rfl rfl) <| .W rfl (q_alloc 8000 Tryz.zeroValue39 (Y.free _ 8000 (by decide) (by decide))) <| .W rfl (q_storeW Tryz.sizeOf39 rfl rfl rfl rfl rfl rfl) <| .nil ?_
   refine Run.seq (Run.regT ?_)
   refine Tx.q rfl trivial (q_loadI Tryz.isAgg69 rfl _) ?_
   refine Tx.q rfl trivial (q_loadW Tryz.isAgg39 Tryz.sizeOf39 rfl rfl rfl) ?_
   refine Tx.q rfl trivial (q_callF Tryz.call82 rfl rfl (btw_ok _ _ _) _) ?_
   refine Tx.q rfl trivial (q_move rfl _) ?_
   refine Tx.split (t := 15) rfl (fun h1 => ?_) (fun h1 => ?_)
   ·have ph1 := h1; try simp only [bs] at ph1
    refine Tx.q rfl (on_of rfl rfl rfl h1) (q_move rfl _) ?_
    refine Tx.q rfl (on_of rfl rfl rfl h1) (q_loadW Tryz.isAgg39 Tryz.sizeOf39 rfl rfl rfl) ?_
    refine Tx.weak (Le.mk (obs' := [] ++ B (acc)) (ps_ok (Y.has _) rfl) (show EnvLe _ _ [(0, _), (1, _), (2, _), (6, _), (7, _), (8, _), (9, _), (10, _), (11, _), (12, _), (13, _), (14, _), (15, _), (16, _), (17, _)] from (.same rfl rfl (.same rfl rfl (.same rfl rfl (.same rfl rfl (.same rfl rfl (.same rfl rfl (.same rfl rfl (.same rfl rfl (.same rfl rfl (.same rfl rfl (.same rfl rfl (.same rfl rfl (.same rfl rfl (.same rfl rfl (.same rfl rfl .nil)))))))))))))))) (.tail (tail_ok (own := [(8000, _)]) (own' := []) rfl (Y.free _) (Y.okb _)))) ?_
    refine Tx.y Y (own := []) (pre := acc) (env' := [(0, _), (1, _), (2, _), (6, _), (7, _), (8, _), (9, _), (10, _), (11, _), (12, _), (13, _), (14, _), (15, _), (16, _), (17, _)]) x rfl rfl rfl (on_of rfl rfl rfl h1) rfl rfl rfl (⟨rest.filter (btw a b), by rw [hacc, hx]; simp_all⟩) rfl rfl (.cons rfl rfl (.cons rfl rfl (.cons rfl rfl (.cons rfl rfl (.cons rfl rfl (.cons rfl rfl (.cons rfl rfl (.cons rfl rfl (.cons rfl rfl (.cons rfl rfl (.cons rfl rfl (.cons rfl rfl (.cons rfl rfl (.cons rfl rfl (.cons rfl rfl .nil))))))))))))))) ?_ (fun o hX => ?_)
    ·skip
     refine Tx.q rfl (on_of rfl rfl rfl h1) (q_not rfl _) ?_
     refine Tx.q rfl trivial (q_pickT rfl h1 rfl _) ?_
     refine Tx.nil ?_
     refine Run.condF rfl rfl ?_
     refine Run.skip ?_
     refine Run.nil (bq_norm ?_)
     refine Run.reg [.p, .p] ?_
     refine .P rfl (q_add rfl rfl (wrap64_ok (by omega) (by omega))) <| .mv rfl rfl <| .nil ?_
     refine Run.nil (tq_norm ?_)
     exact ⟨⟨pre ++ [x], rest, acc ++ [x], by simp [hx], by rw [hacc]; simp_all⟩, by simp, Le.mk (ps_ok (Y.has _) rfl) (.same rfl rfl (.same rfl rfl (.same rfl rfl (.same rfl rfl (.cons rfl Sub.intA rfl (.cons rfl Sub.intA rfl .nil)))))) (.tail (tail_ok (own := []) (own' := []) rfl (Y.free _) (Y.okb _)))⟩
    ·skip
     refine Tx.q rfl (on_of rfl rfl rfl h1) (q_not rfl _) ?_
     refine Tx.q rfl trivial (q_pickT rfl h1 rfl _) ?_
     refine Tx.nil ?_
     refine Run.condT rfl rfl ?_
     refine Run.ret (bq_ret (tq_ret (bq_ret (?_))))
     exact retY_x (.inl rfl) o hX (own_get (own := []) rfl (Y.freeX _ hX))
   ·have ph1 := h1; try simp only [bs] at ph1
    refine Tx.off rfl (off_of rfl rfl rfl h1) ?_
    refine Tx.off rfl (off_of rfl rfl rfl h1) ?_
    refine Tx.off rfl (off_of rfl rfl rfl h1) ?_
    refine Tx.off rfl (off_of rfl rfl rfl h1) ?_
    refine Tx.q rfl trivial (q_pickF rfl h1 rfl _) ?_
    refine Tx.nil ?_
    refine Run.condF rfl rfl ?_
    refine Run.skip ?_
    refine Run.nil (bq_norm ?_)
    refine Run.reg [.p, .p] ?_
    refine .P rfl (q_add rfl rfl (wrap64_ok (by omega) (by omega))) <| .mv rfl rfl <| .nil ?_
    refine Run.nil (tq_norm ?_)
    exact ⟨⟨pre ++ [x], rest, acc, by simp [hx], by rw [hacc]; simp_all⟩, by simp, Le.mk (ps_ok (Y.has _) rfl) (.same rfl rfl (.same rfl rfl (.same rfl rfl (.same rfl rfl (.cons rfl Sub.intA rfl (.cons rfl Sub.intA rfl .nil)))))) (.tail (tail_ok (own := [(8000, _)]) (own' := []) rfl (Y.free _) (Y.okb _)))⟩
theorem appendSeqB_ok (l : List Posted) (a b : Int) (hl : l.length ≤ 1000000) : Fc Tryz.prog 120 [.raw (.slice none 0 0), .fn (.func 121) [] [.iptr [sPosteds l], .iptr [.fn (.func 82) [] [.iptr [.i a], .iptr [.i b]]]]] (sPosteds (betwK a b l)) := by
 refine Fc.mk' [4] Tryz.func120 rfl Tryz.ntmps120 rfl rfl rfl (fun t w => results_tmp Tryz.results120 t _ w) ?_
 refine Run.seq (Run.reg [.w, .p] ?_)
 refine .W rfl (q_box1 0 rfl rfl rfl) <| .ag rfl rfl <| .nil ?_
 refine Run.seq (Run.seq (Run.reg [.p] ?_))
 refine .mv rfl rfl <| .nil ?_
 refine Run.block ?_
 refine Run.rangeF (α := Posted) 7900 [0] [(0, _), (1, _), (2, _), (4, _), (6, _)] (fun (pre : List (Posted)) => [(0, .cells [.gs 1 pre.length]), (1, .arr 6 (pre.map encPosted))]) (fun _ _ => False) rfl Tryz.call121 (filterBY_ok l a b hl) (env1 := [(0, _), (1, _), (2, _), (4, _), (6, _)]) ((Le.own0 1 6).trans <| (Le.subO 0 0 rfl rfl (Sub.gsNil 1)).trans <| Le.mk (obs' := [] ++ (fun (pre : List (Posted)) => [(0, .cells [.gs 1 pre.length]), (1, .arr 6 (pre.map encPosted))]) []) rfl (show EnvLe _ _ [(0, _), (1, _), (2, _), (4, _), (6, _)] from (.same rfl rfl (.same rfl rfl (.same rfl rfl (.same rfl rfl (.same rfl rfl .nil)))))) (.eqA rfl rfl (.eqA rfl rfl .nil))) rfl rfl (fun _ => rfl) (.cons rfl rfl (.cons rfl rfl (.cons rfl rfl (.cons rfl rfl (.cons rfl rfl .nil))))) rfl (fun _ => rfl) (by rintro j o h; exact h.elim) (fun _ => Obs.okB_get rfl) (by rintro j o h; exact h.elim) (fun _ => freeB_get rfl) (by rintro j o h; exact h.elim) (by decide) rfl (fun pre x hok => ?_) (fun xs hfin => ?_) (fun _ _ h => h.elim)
 ·skip
  have hpl := hok.length_le
  have hfl := List.length_filter_le (btw a b) l
  simp only [List.length_append, List.length_singleton] at hpl
  refine Run.reg [.w, .w] ?_
  refine .W rfl (q_alloc 2 Tryz.zeroValue39 rfl) <| .W rfl (q_storeW Tryz.sizeOf39 rfl rfl rfl rfl rfl rfl) <| .nil ?_
  refine Run.nil ⟨rfl, ?_⟩
  refine Run.block ?_
  refine Run.reg [.r, .r, .p, .w, .w] ?_
  refine .R rfl (q_load1 Tryz.isAgg27 rfl rfl rfl) <| .R rfl (q_loadW Tryz.isAgg39 Tryz.sizeOf39 rfl rfl rfl) <| .P rfl (q_buildSlice' (n := 1) (rows := [encPosted x]) Tryz.underlying27 Tryz.sizeOf39 rfl rfl rfl Tryz.zeroValue39 rfl rfl rfl rfl rfl rfl rfl) <| .W rfl (q_append 3 Tryz.underlying27 Tryz.underlying27 Tryz.sizeOf39 Tryz.typeInfo39 Tryz.zeroValue39 rfl (bt := 80) rfl rfl rfl rfl (by simp) rfl rfl (by simp; omega)) <| .W rfl (q_store1 Tryz.sizeOf27 rfl rfl rfl rfl (by first | (simp; done) | decide)) <| .nil ?_
  refine Run.nil (bq_norm ?_)
  refine Run.nil ?_
  exact ⟨rfl, (Le.mk (env' := []) (obs' := [(7900, _), (0, _), (3, _)]) rfl .nil (.cons (i := 7900) rfl rfl (.cons (i := 0) rfl rfl (.cons (i := 3) rfl rfl .nil)))).trans <| (Le.renO 0 0 3 1 rfl rfl rfl (by simp) rfl).trans <| Le.mk rfl .nil (.cons rfl rfl (.eq rfl (by first | rfl | (simp; done) | (simp; omega)) rfl (.eq rfl (by first | rfl | (simp; done) | (simp; omega)) rfl .nil)))⟩
 ·skip
  subst hfin
  refine Run.nil (bq_norm ?_)
  refine Run.seq (Run.reg [.r, .p] ?_)
  refine .R rfl (q_load1 Tryz.isAgg27 rfl rfl rfl) <| .ag rfl rfl <| .nil ?_
  refine Run.weak (Le.freeze 4 1 rfl rfl (by simp)) ?_
  refine Run.ret (?_)
  exact ret1 rfl (Sub.snap (by rfl))
theorem collectB_ok (l : List Posted) (a b : Int) (hl : l.length ≤ 1000000) : Fc Tryz.prog 64 [.fn (.func 121) [] [.iptr [sPosteds l], .iptr [.fn (.func 82) [] [.iptr [.i a], .iptr [.i b]]]]] (sPosteds (betwK a b l)) := by
 refine Fc.mk' [2] Tryz.func64 rfl Tryz.ntmps64 rfl rfl rfl (fun t w => results_tmp Tryz.results64 t _ w) ?_
 refine Run.seq (Run.reg [.p] ?_)
 refine .ag rfl rfl <| .nil ?_
 refine Run.seq (Run.reg [.p, .p, .p] ?_)
 refine .mv rfl rfl <| .P rfl (q_call Tryz.call120 rfl (appendSeqB_ok _ _ _ (by first | assumption | omega | (simp at *; omega)))) <| .ag rfl rfl <| .nil ?_
 refine Run.ret (?_)
 exact ret1 rfl (Sub.snap (by rfl))
theorem nil_b1 {l : List Posted} {a b : Int} (h : okPs l = false) : ([] : List (List D)) = List.map encPosted (if okPs l && decide (0 ≤ a) && decide (a ≤ b) then betwK a b l else []) := by simp [h]
theorem nil_b2 {l : List Posted} {a b : Int} (h : a < 0 ∨ b < a) : ([] : List (List D)) = List.map encPosted (if okPs l && decide (0 ≤ a) && decide (a ≤ b) then betwK a b l else []) := by
 rw [if_neg (by simp only [Bool.and_eq_true, decide_eq_true_eq]; omega)]; rfl
theorem between_ok (l : List Posted) (a b : Int) (hs : smallPs l) : Fc Tryz.prog 29 [sPosteds l, .i a, .i b] (.tup [sPosteds (if okPs l && decide (0 ≤ a) && decide (a ≤ b) then betwK a b l else []), .i (if okPs l then if a < 0 ∨ b < a then 2 else 0 else 1)]) := by
 refine Fc.mk' [6, 7] Tryz.func29 rfl Tryz.ntmps29 rfl rfl rfl (fun t w => results_tmp2 Tryz.results29 t _ w) ?_
 refine Run.seq (Run.reg [.w, .w, .p, .p] ?_)
 refine .W rfl (q_box1 0 rfl rfl rfl) <| .W rfl (q_box1 1 rfl rfl rfl) <| .ag rfl rfl <| .ag rfl rfl <| .nil ?_
 refine Run.seq ?_
 refine Run.block ?_
 refine Run.seq (Run.reg [.p, .p, .p, .p] ?_)
 refine .mv rfl rfl <| .P rfl (q_call Tryz.call67 rfl (postList_ok _ (by first | assumption | omega | (simp at *; omega)))) <| .P rfl (q_not rfl) <| .ag rfl rfl <| .nil ?_
 refine Run.cond rfl (fun h1 => ?_) (fun h1 => ?_)
 ·have ph1 := h1; try simp only [bs] at ph1
  refine Run.seq (Run.reg [.p, .p] ?_)
  refine .ag rfl rfl <| .ag rfl rfl <| .nil ?_
  refine Run.ret (bq_ret (?_))
  exact ret2 rfl rfl (by first | exact (Sub.nil _ false).trans (Sub.snap (nil_b1 (by simpa using ph1))) | exact (Sub.nil _ false).trans (Sub.snap (nil_b2 ph2))) (Sub.int (by first | (rw [show okPs l = false from by simpa using ph1]; rfl) | (simp only [show okPs l = true from by simpa using ph1, if_true, Bool.true_and]; first | rw [if_pos (by omega)] | rw [if_neg (by omega)] | rw [if_pos (by simp; omega)])))
 ·have ph1 := h1; try simp only [bs] at ph1
  have hok : okPs l = true := by simpa using ph1
  have hl1 : l.length ≤ 10000 := by have := hok; simp only [okPs, Bool.and_eq_true, decide_eq_true_eq] at this; exact this.1.1
  refine Run.seq (Run.reg [.r, .p, .p, .r, .r, .p, .p, .p] ?_)
  refine .R rfl (q_load1 Tryz.isAgg3 rfl rfl rfl) <| .P rfl (q_lss rfl rfl) <| .mv rfl rfl <| .gF rfl (.inr rfl) rfl rfl rfl (fun hg => rk (q_load1 Tryz.isAgg3 rfl rfl rfl)) <| .gF rfl (.inr rfl) rfl rfl rfl (fun hg => rk (q_load1 Tryz.isAgg3 rfl rfl rfl)) <| .gF rfl (.inl rfl) rfl rfl rfl (fun hg => pk (fun _ => q_gtr (opT rfl (nt hg)) (opT rfl (nt hg)) _)) <| .P rfl (q_or rfl rfl) <| .ag rfl rfl <| .nil ?_
  refine Run.cond rfl (fun h2 => ?_) (fun h2 => ?_)
  ·have ph2 := h2; try simp only [bs] at ph2
   refine Run.seq (Run.reg [.p, .p] ?_)
   refine .ag rfl rfl <| .ag rfl rfl <| .nil ?_
   refine Run.ret (bq_ret (?_))
   exact ret2 rfl rfl (by first | exact (Sub.nil _ false).trans (Sub.snap (nil_b1 (by simpa using ph1))) | exact (Sub.nil _ false).trans (Sub.snap (nil_b2 ph2))) (Sub.int (by first | (rw [show okPs l = false from by simpa using ph1]; rfl) | (simp only [show okPs l = true from by simpa using ph1, if_true, Bool.true_and]; first | rw [if_pos (by omega)] | rw [if_neg (by omega)] | rw [if_pos (by simp; omega)])))
  ·have ph2 := h2; try simp only [bs] at ph2
   refine Run.skip ?_
   refine Run.nil (bq_norm ?_)
   refine Run.weak (Le.freezeB 4 0 rfl rfl rfl rfl) ?_
   refine Run.weak (Le.freezeB 5 1 rfl rfl rfl rfl) ?_
   refine Run.seq (Run.reg [.p, .p, .p, .p, .p, .p] ?_)
   refine .mv rfl rfl <| .P rfl (q_makeFunc (xs := []) (ys := _) rfl rfl) <| .P rfl (q_call Tryz.call65 rfl (filterB_ok _ _ _)) <| .P rfl (q_call Tryz.call64 rfl (collectB_ok _ _ _ (by first | assumption | omega | (simp at *; omega)))) <| .ag rfl rfl <| .ag rfl rfl <| .nil ?_
   refine Run.ret (?_)
   exact ret2 rfl rfl (Sub.snap (by first | (rw [show okPs l = false from by simpa using ph1]; rfl) | (simp only [show okPs l = true from by simpa using ph1, if_true, Bool.true_and]; first | rw [if_pos (by omega)] | rw [if_neg (by omega)] | rw [if_pos (by simp; omega)]))) (Sub.int (by first | (rw [show okPs l = false from by simpa using ph1]; rfl) | (simp only [show okPs l = true from by simpa using ph1, if_true, Bool.true_and]; first | rw [if_pos (by omega)] | rw [if_neg (by omega)] | rw [if_pos (by simp; omega)])))
end Go.T
namespace Go.T
open Go Go.Proofs Go.Shelf Go.RowKit Go.Lib Go.Sort
variable [Noise]
theorem putRow_one (W : World) (blk off : Nat) (d : Array (List UInt8)) : putRow encStr W blk off d = putRowK (fun s : List UInt8 => [encStr s]) 1 W blk off d := by
 unfold putRowK putRow
 congr 1
 funext c
 unfold putCells
 congr 1
 funext k x
 simp only [size_flatK, Nat.mul_one]
 by_cases h : off ≤ k ∧ k < off + d.size
 ·rw [if_pos h, if_pos h, get_flatK _ _ _ _ (by omega)]
  simp [Nat.mod_one]
 ·rw [if_neg h, if_neg h]
theorem holds_one {w : World} {blk off : Nat} {d : Array (List UInt8)} (h : HoldsK (fun s : List UInt8 => [encStr s]) 1 w blk off d) : Holds encStr w blk off d := by
 intro j hj
 have := h j (by simpa using hj)
 rw [get_flatK _ _ _ _ (by omega)] at this
 simpa [Nat.mod_one] using this
abbrev StrS := {s : Str // s.length ≤ big}
instance : Inhabited StrS := ⟨⟨[], by simp [big]⟩⟩
theorem elemStr : Elem 1 (fun x : StrS => [D.str x.1]) (fun x => [encStr x.1]) := by
 refine ⟨fun _ => rfl, fun _ => rfl, fun x v hv => ?_, fun x w O ρ vs h => ?_, fun x w O ρ => ?_⟩
 ·simp only [List.mem_cons, List.not_mem_nil, or_false] at hv
  subst hv; rfl
 ·simp only [Vs, V] at h
  obtain ⟨_, _, rfl, h1, rfl⟩ := h
  rw [h1.1]
 ·simp only [Vs, V]
  exact ⟨_, _, rfl, ⟨rfl, x.2⟩, rfl⟩
theorem flatK_val (d : List StrS) : flatK (fun x : StrS => [encStr x.1]) 1 d.toArray = flatK (fun s : List UInt8 => [encStr s]) 1 (d.map Subtype.val).toArray := by
 apply Array.ext
 ·simp
 ·intro i h1 h2
  simp only [size_flatK, List.size_toArray] at h1
  have hi : i < d.length := by omega
  have e1 := get_flatK (fun x : StrS => [encStr x.1]) 1 d.toArray i (by simpa using h1)
  have e2 := get_flatK (fun s : List UInt8 => [encStr s]) 1 (d.map Subtype.val).toArray i (by simpa using h1)
  rw [getElem!_pos _ i (by simpa using h1)] at e1
  rw [getElem!_pos _ i (by simpa using h1)] at e2
  rw [e1, e2]
  simp [Nat.mod_one, hi]
theorem sortStr_FcO {P : Program} {r : Ren} (L : SlLaysM.n6 P r) (id : Nat) (l : List StrS) (hl : l.length < 4611686018427387904) (l2 : List StrS) (hl2 : l2.map Subtype.val = (l.map Subtype.val).mergeSort fun x y => decide (x ≤ y)) :
  FcO P (r.f 6) [.gs id l.length] [(id, .arr 1 (l.map fun x => [D.str x.1]))] (.tup []) [(id, .arr 1 (l2.map fun x => [D.str x.1]))] := ⟨fun w O ρ vals hok hgl hv => by
 have hlen : l2.length = l.length := by have := congrArg List.length hl2; simpa using this
 simp only [Vs, V] at hv
 obtain ⟨v1, us, rfl, h1, rfl⟩ := hv
 rcases h1 with ⟨hn, a, rfl⟩ | ⟨hn, loc, hloc, rfl⟩
 ·obtain rfl : l = [] := List.length_eq_zero_iff.1 hn
  obtain rfl : l2 = [] := List.length_eq_zero_iff.1 hlen
  refine Calls.mono (AnyM.slices_Sort_string_none L a 0 w) ?_
  rintro e w' ⟨rfl, rfl⟩
  exact ⟨_, ρ, rfl, Tr.refl hok, by simp [V, Vs]⟩
 ·have hget : Obs.get [(id, Ob.arr 1 (l.map fun x => [D.str x.1]))] id = some (.arr 1 (l.map fun x => [D.str x.1])) := by simp [Obs.get]
  have hlive : (Ob.arr 1 (l.map fun x : StrS => [D.str x.1])).live = true := by
   cases l with
   | nil => simp at hn
   | cons x l => rfl
  obtain ⟨l', h3, hnO, c, T, hb, hsz, hln, hvr⟩ := hok.own id _ hget hlive
  rw [hloc] at h3; cases h3
  have hH0 := holds_of_Vr elemStr hb hvr
  have hH : HoldsK (fun s : List UInt8 => [encStr s]) 1 w loc.b loc.off (l.map Subtype.val).toArray := by
   unfold HoldsK at *
   rw [← flatK_val]; exact hH0
  have hblk : loc.b < w.heap.size := (Array.getElem?_eq_some_iff.1 hb).1
  have key := AnyM.slices_Sort_string L loc.b loc.off loc.cap (l.map Subtype.val) w (holds_one hH) hblk (by simpa using hl)
  rw [List.length_map] at key
  refine Calls.mono key ?_
  rintro e w' ⟨rfl, n, os, rfl⟩
  have hworld : grow (putRow encStr (Sort.ahead w n) loc.b loc.off ((l.map Subtype.val).mergeSort fun x y => decide (x ≤ y)).toArray) os = sortWorldK (fun x : StrS => [encStr x.1]) 1 w loc.b loc.off n l2.toArray os := by
   rw [putRow_one, ← hl2]
   unfold sortWorldK putRowK
   rw [flatK_val]
  rw [hworld]
  have hheap : (sortWorldK (fun x : StrS => [encStr x.1]) 1 w loc.b loc.off n l2.toArray os).heap[loc.b]? = some (.cells (putCells _root_.id loc.off (flatK (fun x : StrS => [encStr x.1]) 1 l2.toArray) c) T (0, 0)) := by
   unfold sortWorldK putRowK putRow mapBlock Sort.grow Sort.ahead
   simp only
   rw [Array.getElem?_append_left (by simpa using hblk), Array.getElem?_modify, if_pos rfl, hb]; rfl
  have hsize : w.heap.size ≤ (sortWorldK (fun x : StrS => [encStr x.1]) 1 w loc.b loc.off n l2.toArray os).heap.size := size_sortWorldK_c _ 1 w loc.b loc.off n l2.toArray os
  have hH2 : HoldsK (fun x : StrS => [encStr x.1]) 1 (sortWorldK (fun x : StrS => [encStr x.1]) 1 w loc.b loc.off n l2.toArray os) loc.b loc.off l2.toArray := holdsK_sortWorldK_c _ 1 w loc.b loc.off l.toArray l2.toArray n os hH0 hblk (by simpa using hlen)
  have hown2 : ∀ b, Owned ρ [(id, Ob.arr 1 (l2.map fun x => [D.str x.1]))] b → Owned ρ [(id, Ob.arr 1 (l.map fun x => [D.str x.1]))] b := by
   rintro b ⟨i, o, q, g1, g2, g3, g4⟩
   obtain ⟨rfl, _⟩ := get_one g1
   exact ⟨_, _, q, hget, hlive, g3, g4⟩
  refine ⟨_, ρ, rfl, ⟨RhoLe.refl _, hsize, fun b hb1 hb2 => ?_, fun b hb1 => .inl (hown2 b hb1), ⟨fun b hb1 => Nat.lt_of_lt_of_le (hok.lt b hb1) hsize, fun i hi => ?_, fun i o g1 g2 => ?_, fun i j o o' q q' g1 g2 _ _ _ _ _ => ?_⟩, rfl, rfl, .inl ⟨rfl, Nat.le_add_right _ _⟩⟩, by simp [V, Vs]⟩
  ·refine heap_sortWorld hb1 fun e => hb2 ?_
   exact ⟨id, _, loc, hget, hlive, hloc, e.symm⟩
  ·exact hok.fresh i (get_none1 hi)
  ·obtain ⟨rfl, rfl⟩ := get_one g1
   exact ⟨loc, hloc, hnO, _, T, hheap, by simpa [putCells] using hsz, by simpa [hlen] using hln, Vr_of_holds elemStr hH2⟩
  ·exact (get_one g1).1.trans (get_one g2).1.symm⟩
end Go.T
namespace Go.T
open Go
variable [Noise]
@[reducible] def okStr (s : Str) : Prop := s.length ≤ big
theorem findNow_str (k : Str) : ∀ (es : List MapEntry) (ks : List Str) (i : Nat), es.map (·.key) = ks.map vStr → Instr.findNow .string (vStr k) es i = some ((findK k ks i).map fun j => (j, (es[j - i]?.map (·.val)).getD undef))
 | [], [], i, _ => by simp [Instr.findNow, findK]
 | [], _ :: _, i, h => by simp at h
 | _ :: _, [], i, h => by simp at h
 | e :: es, x :: ks, i, h => by
  simp only [List.map_cons, List.cons.injEq] at h
  have ih := findNow_str k es ks (i + 1) h.2
  simp only [Instr.findNow, h.1, Instr.sameNow, str_beq]
  by_cases hx : k = x
  ·subst hx; simp [findK]
  ·simp only [findK, hx, if_false, decide_false]
   rw [ih]
   cases hf : findK k ks (i + 1) with
   | none => rfl
   | some j =>
    have := findK_ge hf
    simp only [Option.map_some]
    rw [show j - i = (j - (i + 1)) + 1 by omega, List.getElem?_cons_succ]
theorem keyStr {P : Program} {kt : TypeId} (hu : P.underlying kt = some .string) : KeyT P kt D.str vStr okStr := by
 refine ⟨?_, ?_, ?_, ?_, ?_⟩
 ·intro w O ρ k v h
  simp only [V] at h
  exact h
 ·intro w O ρ k h
  simp only [V]
  exact ⟨trivial, h⟩
 ·intro b k w _
  show (Instr.checkKey b (9999 + 1) kt _).run P w = _
  rw [Instr.checkKey]; simp [run_und hu]
 ·intro k es ks w hes _ _
  have := findNow_str k es ks 0 hes
  simp only [Nat.sub_zero] at this
  simp [Instr.findKey, run_und hu, this]
 ·intro k w
  simp [Instr.keyThatStays, Instr.sameBits, str_beq]
end Go.T
namespace Go.Proofs
open Go.Shelf Go.RowKit Go.Lib Go.Sort
set_option maxRecDepth 20000
def Tryz.sortStr_ren : Go.Shelf.Ren := ⟨fun | 6 => 139 | 8 => 152 | 9 => 187 | 19 => 202 | 20 => 203 | 21 => 236 | 22 => 237 | 23 => 238 | 24 => 239 | 25 => 240 | 26 => 241 | 27 => 242 | 28 => 243 | 29 => 244 | 31 => 248 | 32 => 249 | 36 => 275 | 37 => 276 | 38 => 277 | 39 => 169 | 41 => 288 | n => n, fun | 0 => 0 | 3 => 3 | 4 => 4 | 5 => 5 | 9 => 9 | 26 => 124 | 27 => 124 | 29 => 9 | 32 => 202 | 35 => 228 | 36 => 229 | 41 => 190 | 44 => 235 | 46 => 171 | 53 => 274 | 57 => 278 | 63 => 305 | 64 => 306 | n => n, fun | n => n⟩
theorem Tryz.sortStr : Go.Proofs.SlLaysM.n6 Tryz.prog Tryz.sortStr_ren := {
 mixed := by kernel_rfl
 f6 := ⟨Tryz.f139.name, by decide, Tryz.func139.trans (congrArg some (by kernel_rfl))⟩
 f8 := Tryz.func152.trans (congrArg some (by kernel_rfl))
 f9 := ⟨Tryz.f187.name, by decide, Tryz.func187.trans (congrArg some (by kernel_rfl))⟩
 f19 := Tryz.func202.trans (congrArg some (by kernel_rfl))
 f20 := Tryz.func203.trans (congrArg some (by kernel_rfl))
 f21 := ⟨Tryz.f236.name, by decide, Tryz.func236.trans (congrArg some (by kernel_rfl))⟩
 f22 := ⟨Tryz.f237.name, by decide, Tryz.func237.trans (congrArg some (by kernel_rfl))⟩
 f23 := ⟨Tryz.f238.name, by decide, Tryz.func238.trans (congrArg some (by kernel_rfl))⟩
 f24 := ⟨Tryz.f239.name, by decide, Tryz.func239.trans (congrArg some (by kernel_rfl))⟩
 f25 := ⟨Tryz.f240.name, by decide, Tryz.func240.trans (congrArg some (by kernel_rfl))⟩
 f26 := ⟨Tryz.f241.name, by decide, Tryz.func241.trans (congrArg some (by kernel_rfl))⟩
 f27 := ⟨Tryz.f242.name, by decide, Tryz.func242.trans (congrArg some (by kernel_rfl))⟩
 f28 := ⟨Tryz.f243.name, by decide, Tryz.func243.trans (congrArg some (by kernel_rfl))⟩
 f29 := ⟨Tryz.f244.name, by decide, Tryz.func244.trans (congrArg some (by kernel_rfl))⟩
 f31 := Tryz.func248.trans (congrArg some (by kernel_rfl))
 f32 := Tryz.func249.trans (congrArg some (by kernel_rfl))
 f36 := ⟨Tryz.f275.name, by decide, Tryz.func275.trans (congrArg some (by kernel_rfl))⟩
 f37 := ⟨Tryz.f276.name, by decide, Tryz.func276.trans (congrArg some (by kernel_rfl))⟩
 f38 := ⟨Tryz.f277.name, by decide, Tryz.func277.trans (congrArg some (by kernel_rfl))⟩
 f39 := ⟨Tryz.f169.name, by decide, Tryz.func169.trans (congrArg some (by kernel_rfl))⟩
 f41 := ⟨Tryz.f288.name, by decide, Tryz.func288.trans (congrArg some (by kernel_rfl))⟩
 t0 := Tryz.underlying0
 a0 := Tryz.isAgg0
 z0 := Tryz.sizeOf0
 v0 := Tryz.zeroValue0
 t3 := Tryz.underlying3
 a3 := Tryz.isAgg3
 z3 := Tryz.sizeOf3
 v3 := Tryz.zeroValue3
 t4 := Tryz.underlying4
 a4 := Tryz.isAgg4
 z4 := Tryz.sizeOf4
 v4 := Tryz.zeroValue4
 t5 := Tryz.underlying5
 a5 := Tryz.isAgg5
 z5 := Tryz.sizeOf5
 v5 := Tryz.zeroValue5
 t9 := Tryz.underlying9
 a9 := Tryz.isAgg9
 z9 := Tryz.sizeOf9
 v9 := Tryz.zeroValue9
 t26 := Tryz.underlying124
 a26 := Tryz.isAgg124
 z26 := Tryz.sizeOf124
 v26 := Tryz.zeroValue124
 t27 := Tryz.underlying124
 a27 := Tryz.isAgg124
 z27 := Tryz.sizeOf124
 v27 := Tryz.zeroValue124
 t29 := Tryz.underlying9
 a29 := Tryz.isAgg9
 z29 := Tryz.sizeOf9
 v29 := Tryz.zeroValue9
 t32 := Tryz.underlying202
 a32 := Tryz.isAgg202
 z32 := Tryz.sizeOf202
 v32 := Tryz.zeroValue202
 t35 := Tryz.underlying228
 a35 := Tryz.isAgg228
 z35 := Tryz.sizeOf228
 v35 := Tryz.zeroValue228
 t36 := Tryz.underlying229
 a36 := Tryz.isAgg229
 z36 := Tryz.sizeOf229
 v36 := Tryz.zeroValue229
 t41 := Tryz.underlying190
 a41 := Tryz.isAgg190
 z41 := Tryz.sizeOf190
 v41 := Tryz.zeroValue190
 t44 := Tryz.underlying235
 a44 := Tryz.isAgg235
 z44 := Tryz.sizeOf235
 v44 := Tryz.zeroValue235
 t46 := Tryz.underlying171
 a46 := Tryz.isAgg171
 z46 := Tryz.sizeOf171
 v46 := Tryz.zeroValue171
 t53 := Tryz.underlying274
 a53 := Tryz.isAgg274
 z53 := Tryz.sizeOf274
 v53 := Tryz.zeroValue274
 t57 := Tryz.underlying278
 a57 := Tryz.isAgg278
 z57 := Tryz.sizeOf278
 v57 := Tryz.zeroValue278
 t63 := Tryz.underlying305
 a63 := Tryz.isAgg305
 z63 := Tryz.sizeOf305
 v63 := Tryz.zeroValue305
 t64 := Tryz.underlying306
 a64 := Tryz.isAgg306
 z64 := Tryz.sizeOf306
 v64 := Tryz.zeroValue306
}
end Go.Proofs
namespace Go.T
open Go Go.Proofs
theorem strLt_iff : ∀ a b : Str, Str.lt a b = true ↔ a < b
 | [], [] => by simp [Str.lt, Op.bytesLess]
 | [], _ :: _ => by simp [Str.lt, Op.bytesLess]
 | _ :: _, [] => by simp [Str.lt, Op.bytesLess]
 | x :: a, y :: b => by
  rw [lt_cons, List.cons_lt_cons_iff]
  have ih := strLt_iff a b
  simp only [Bool.or_eq_true, Bool.and_eq_true, decide_eq_true_eq, ih]
  rfl
theorem strLe_iff (a b : Str) : decide (a ≤ b) = !Str.lt b a := by
 rw [Bool.eq_iff_iff]
 simp only [decide_eq_true_eq, Bool.not_eq_true', Bool.eq_false_iff, ne_eq, strLt_iff]
 exact (List.not_lt (l₁ := b) (l₂ := a)).symm
def sortS (l : List Str) : List Str := l.mergeSort fun x y => decide (x ≤ y)
theorem sortS_perm0 (l : List Str) : (sortS l).Perm l := List.mergeSort_perm l _
theorem lt_ntrans {x y z : Str} (h1 : Str.lt x y = false) (h2 : Str.lt y z = false) : Str.lt x z = false := by
 cases h : Str.lt x z with
 | false => rfl
 | true =>
  cases h3 : Str.lt y x with
  | true => have := lt_trans' _ _ _ h3 h; rw [h2] at this; cases this
  | false => have := lt_total _ _ h1 h3; subst this; rw [h2] at h; cases h
theorem sortS_sorted {l : List Str} (h : l.Nodup) : (sortS l).Pairwise fun a b => Str.lt a b = true := by
 have h1 := List.pairwise_mergeSort (le := fun x y : Str => decide (x ≤ y)) (fun a b c h1 h2 => by rw [strLe_iff, Bool.not_eq_true'] at *; exact lt_ntrans h2 h1) (fun a b => by rw [strLe_iff, strLe_iff]; cases hb : Str.lt b a with | false => rfl | true => simp [lt_asymm _ _ hb]) l
 have h2 : (sortS l).Nodup := (sortS_perm0 l).nodup_iff.2 h
 refine (h1.and h2).imp ?_
 rintro a b ⟨g1, g2⟩
 cases h3 : Str.lt a b with
 | true => rfl
 | false => rw [strLe_iff, Bool.not_eq_true'] at g1; exact absurd (lt_total _ _ h3 g1) g2
def emb (s : Str) : Key := (s, [])
theorem klt_emb (a b : Str) : klt (emb a) (emb b) = Str.lt a b := by simp [klt, emb, lt_irrefl]
theorem sortS_emb {l : List Str} (h : l.Nodup) : ((sortS l).map emb).Pairwise fun a b => klt a b = true := by
 rw [List.pairwise_map]
 exact (sortS_sorted h).imp fun {a b} hab => by rw [klt_emb]; exact hab
theorem sortS_perm {a b : List Str} (h : a.Perm b) (hb : b.Nodup) : sortS a = sortS b := by
 have h1 := sorted_ext (sortS_emb (h.nodup_iff.2 hb)) (sortS_emb hb) (((sortS_perm0 a).trans (h.trans (sortS_perm0 b).symm)).map emb)
 have h2 := congrArg (List.map Prod.fst) h1
 simpa [emb, Function.comp_def] using h2
/-! Terms. -/
@[reducible] def sTerms (l : List Term) : D := .snap 2 false (l.map encTerm)
def toB (t : Term) : Balance := ⟨t.name, [], t.amount⟩
theorem toB_inj : Function.Injective toB := fun a b h => by
 cases a; cases b
 simp only [toB, Balance.mk.injEq] at h
 obtain ⟨rfl, _, rfl⟩ := h; rfl
def termK (ks : List Str) (g : Str → Str) : List Term := ks.filterMap fun s => if g s ≠ [] then some ⟨s, g s⟩ else none
theorem termK_snoc (ks : List Str) (g : Str → Str) (k : Str) : termK (ks ++ [k]) g = termK ks g ++ (if g k ≠ [] then [⟨k, g k⟩] else []) := by
 simp only [termK, List.filterMap_append, List.filterMap_cons, List.filterMap_nil]
 split <;> simp_all
theorem termK_len (ks : List Str) (g : Str → Str) : (termK ks g).length ≤ ks.length := List.length_filterMap_le _ _
theorem termK_toB (g : Str → Str) (g' : Key → Str) (h : ∀ s, g' (emb s) = g s) : ∀ ks : List Str, (termK ks g).map toB = listK (ks.map emb) g'
 | [] => rfl
 | k :: ks => by
  have ih := termK_toB g g' h ks
  by_cases e : g k = []
  ·have e1 : termK (k :: ks) g = termK ks g := by simp [termK, List.filterMap_cons, e]
   have e2 : listK ((k :: ks).map emb) g' = listK (ks.map emb) g' := by simp [listK, List.filterMap_cons, h, e]
   rw [e1, e2, ih]
  ·have e1 : termK (k :: ks) g = ⟨k, g k⟩ :: termK ks g := by simp [termK, List.filterMap_cons, e]
   have e2 : listK ((k :: ks).map emb) g' = ⟨k, [], g k⟩ :: listK (ks.map emb) g' := by
    have : g' (k, []) = g k := h k
    simp [listK, List.filterMap_cons, emb, this, e]
   rw [e1, e2, List.map_cons, ih]; rfl
def termsM (m : List (Str × Str)) : List Term := termK (sortS (m.map (·.1))) (getG [] m)
theorem termsM_bal {m : List (Str × Str)} {f : Str → Int} (h : MapV m f) : IsBal ((termsM m).map toB) ∧ ∀ k : Key, balK k ((termsM m).map toB) = if k.2 = [] then f k.1 else 0 := by
 have e : (termsM m).map toB = listK ((sortS (m.map (·.1))).map emb) (fun k => if k.2 = [] then getG [] m k.1 else []) := termK_toB _ _ (fun s => by simp [emb]) _
 rw [e]
 refine listK_bal (sortS_emb h.nodup) (fun k => if k.2 = [] then f k.1 else 0) _ (fun k => ?_) (fun k hk => ?_)
 ·by_cases hk : k.2 = []
  ·simp [hk, h.val]
  ·simp [hk, ofInt_zero]
 ·by_cases hk2 : k.2 = []
  ·simp only [hk2, if_true]
   refine h.out fun hm => hk (List.mem_map.2 ⟨k.1, (sortS_perm0 _).symm.subset hm, Prod.ext rfl hk2.symm⟩)
  ·simp [hk2]
/-! Explain. -/
def amtE (k : Key) (e : Entry) : Str := ofInt (sumK k e.lines)
def exM (k : Key) (l : List Posted) : List (Str × Str) := l.foldl (fun m p => addG m p.by_ (amtE k p.entry)) []
theorem exM_snoc (k : Key) (l : List Posted) (x : Posted) : exM k (l ++ [x]) = addG (exM k l) x.by_ (amtE k x.entry) := by simp [exM]
def sumBy (k : Key) (s : Str) : List Posted → Int
 | [] => 0
 | p :: l => (if p.by_ = s then sumK k p.entry.lines else 0) + sumBy k s l
theorem sumBy_snoc (k : Key) (s : Str) (l : List Posted) (x : Posted) : sumBy k s (l ++ [x]) = sumBy k s l + (if x.by_ = s then sumK k x.entry.lines else 0) := by
 induction l with
 | nil => simp [sumBy]
 | cons p l ih => simp only [List.cons_append, sumBy, ih]; omega
theorem exM_val (k : Key) (l : List Posted) : MapV (exM k l) (fun s => sumBy k s l) := by
 induction l using rev_ind with
 | h0 => exact ⟨List.nodup_nil, fun s => by simp [exM, getG, sumBy, ofInt_zero]⟩
 | h1 l x ih =>
  rw [exM_snoc]
  have := ih.add x.by_ (amtE k x.entry)
  refine ⟨this.nodup, fun s => ?_⟩
  rw [this.val, sumBy_snoc, amtE, val_ofInt]
theorem sumBy_bound {k : Key} {s : Str} {l : List Posted} (h : smallPs l) : -(l.length * 6600000000000000 : Int) ≤ sumBy k s l ∧ sumBy k s l ≤ l.length * 6600000000000000 := by
 induction l with
 | nil => simp [sumBy]
 | cons x l ih =>
  have h1 := ih (fun p hp => h p (List.mem_cons_of_mem _ hp))
  obtain ⟨_, g2, g3⟩ := h x List.mem_cons_self
  have h2 := sumK_bound (k := k) (ls := x.entry.lines) (fun y hy => (g3 y hy).2.2)
  simp only [sumBy, List.length_cons]
  split <;> omega
theorem exM_get {k : Key} {s : Str} {l : List Posted} (h : smallPs l) (hl : l.length ≤ 10000) : (getG [] (exM k l) s).length ≤ 31 := by
 refine (exM_val k l).len ?_
 have := sumBy_bound (k := k) (s := s) h
 constructor <;> omega
theorem amtE_len {k : Key} {e : Entry} (h : smallE e) : (amtE k e).length ≤ 31 := by
 obtain ⟨_, g2, g3⟩ := h
 have h2 := sumK_bound (k := k) (ls := e.lines) (fun y hy => (g3 y hy).2.2)
 exact ofInt_len30 (by constructor <;> omega)
theorem exM_keys {k : Key} {l : List Posted} {s : Str} (h : s ∈ (exM k l).map (·.1)) : ∃ p ∈ l, p.by_ = s := by
 induction l using rev_ind with
 | h0 => simp [exM] at h
 | h1 l x ih =>
  rw [exM_snoc, addG, keys_setG] at h
  have h' : s ∈ (exM k l).map (·.1) ∨ s = x.by_ := by
   split at h
   ·exact .inl h
   ·rcases List.mem_append.1 h with h | h
    ·exact .inl h
    ·simp at h; exact .inr h
  rcases h' with h' | h'
  ·obtain ⟨p, h1, h2⟩ := ih h'; exact ⟨p, by simp [h1], h2⟩
  ·exact ⟨x, by simp, h'.symm⟩
theorem exM_len (k : Key) (l : List Posted) : (exM k l).length ≤ l.length := by
 induction l using rev_ind with
 | h0 => simp [exM]
 | h1 l x ih =>
  have := setG_len ([] : Str) (exM k l) x.by_ (addS (getG [] (exM k l) x.by_) (amtE k x.entry))
  rw [exM_snoc, addG, List.length_append]
  split at this <;> simp <;> omega
/-! The sum of all terms. -/
/-- The terms of an account. -/
def explainT (k : Key) (l : List Posted) : List Term := termsM (exM k l)
end Go.T
namespace Go.T
open Go Go.Proofs
set_option maxRecDepth 20000
theorem small0_ok  : Fc Tryz.prog 227 [.i 0] (.str [48]) := by
 refine Fc.mk' [2] Tryz.func227 rfl Tryz.ntmps227 rfl rfl rfl (fun t w => results_tmp Tryz.results227 t _ w) ?_
 refine Run.seq (Run.reg [.p] ?_)
 refine .ag rfl rfl <| .nil ?_
 refine Run.seq (Run.seq (Run.reg [.p, .p] ?_))
 refine .mv rfl rfl <| .P rfl (q_lss rfl rfl) <| .nil ?_
 refine Run.condT rfl (rfl) ?_
 refine Run.seq (Run.reg [.p, .p, .p, .p, .p] ?_)
 refine .mv rfl rfl <| .mv rfl rfl <| .P rfl (q_add rfl rfl (wrap64_ok (by omega) (by omega))) <| .P rfl (q_sliceS Tryz.underlying9 rfl (l := 0) (h := 1) (r := [48]) (.inr ⟨_, _, rfl, rfl⟩) (.inr ⟨_, _, rfl, rfl⟩) (by decide) (by decide) rfl) <| .ag rfl rfl <| .nil ?_
 refine Run.ret (?_)
 exact ret1 rfl (Sub.str (by rfl))
theorem formatInt0_ok  : Fc Tryz.prog 274 [.i 0, .i 10] (.str [48]) := by
 refine Fc.mk' [4] Tryz.func274 rfl Tryz.ntmps274 rfl rfl rfl (fun t w => results_tmp Tryz.results274 t _ w) ?_
 refine Run.seq (Run.reg [.p] ?_)
 refine .ag rfl rfl <| .nil ?_
 refine Run.seq (Run.seq (Run.reg [.p, .p] ?_))
 refine .mv rfl rfl <| .P rfl (q_eql rfl rfl) <| .nil ?_
 refine Run.condT rfl (rfl) ?_
 refine Run.seq (Run.seq (Run.reg [.p, .p, .p, .p, .p, .p] ?_))
 refine .mv rfl rfl <| .P rfl (q_leq rfl rfl) <| .mv rfl rfl <| .gT rfl (.inl rfl) rfl rfl rfl (fun hg => pk (fun _ => q_move rfl _)) <| .gT rfl (.inl rfl) rfl rfl rfl (fun hg => pk (fun _ => q_lss (opT rfl hg) rfl _)) <| .P rfl (q_and rfl rfl) <| .nil ?_
 refine Run.condT rfl (rfl) ?_
 refine Run.seq (Run.reg [.p, .p, .p] ?_)
 refine .mv rfl rfl <| .P rfl (q_call Tryz.call227 rfl small0_ok) <| .ag rfl rfl <| .nil ?_
 refine Run.ret (?_)
 exact ret1 rfl (Sub.str (by rfl))
theorem itoa0i_ok  : Fc Tryz.prog 235 [.i 0] (.str [48]) := by
 refine Fc.mk' [2] Tryz.func235 rfl Tryz.ntmps235 rfl rfl rfl (fun t w => results_tmp Tryz.results235 t _ w) ?_
 refine Run.seq (Run.reg [.p] ?_)
 refine .ag rfl rfl <| .nil ?_
 refine Run.seq (Run.reg [.p, .p, .p] ?_)
 refine .mv rfl rfl <| .P rfl (q_call Tryz.call274 rfl formatInt0_ok) <| .ag rfl rfl <| .nil ?_
 refine Run.ret (?_)
 exact ret1 rfl (Sub.str (by rfl))
theorem itoa0_ok  : Fc Tryz.prog 185 [.i 0] (.str [48]) := by
 refine Fc.mk' [2] Tryz.func185 rfl Tryz.ntmps185 rfl rfl rfl (fun t w => results_tmp Tryz.results185 t _ w) ?_
 refine Run.seq (Run.reg [.p] ?_)
 refine .ag rfl rfl <| .nil ?_
 refine Run.seq (Run.reg [.p, .p, .p] ?_)
 refine .mv rfl rfl <| .P rfl (q_call Tryz.call235 rfl itoa0i_ok) <| .ag rfl rfl <| .nil ?_
 refine Run.ret (?_)
 exact ret1 rfl (Sub.str (by rfl))
theorem of0_ok  : Fc Tryz.prog 137 [.i 0] (.str []) := by
 refine Fc.mk' [2] Tryz.func137 rfl Tryz.ntmps137 rfl rfl rfl (fun t w => results_tmp Tryz.results137 t _ w) ?_
 refine Run.seq (Run.reg [.p] ?_)
 refine .ag rfl rfl <| .nil ?_
 refine Run.seq (Run.reg [.p, .p, .p, .p] ?_)
 refine .mv rfl rfl <| .P rfl (q_call Tryz.call185 rfl itoa0_ok) <| .P rfl (q_call Tryz.call168 rfl (canonical_ok _)) <| .ag rfl rfl <| .nil ?_
 refine Run.ret (?_)
 exact ret1 rfl (Sub.str (by decide))
theorem sumK_snoc (k : Key) (l : List Line) (x : Line) : sumK k (l ++ [x]) = sumK k l + (if lkey x = k then val x.amount else 0) := by rw [sumK_append]; simp only [sumK]; omega
theorem lkey_iff {x : Line} {a c : Str} : lkey x = (a, c) ↔ x.account = a ∧ x.currency = c := by simp [lkey]
theorem tzKeyS : KeyT Tryz.prog 9 D.str vStr okStr := keyStr Tryz.underlying9
theorem okB_SG (f : Nat → Bool) (m : List (Str × Str)) : Ob.okB f (.mp (encGM D.str D.str m)) = true := by
 have h2 : ∀ l : List Str, D.okB.okL f (l.map .str) = true := by
  intro l
  induction l with
  | nil => rfl
  | cons a l ih => simp only [List.map_cons, D.okB.okL, D.okB, ih]; rfl
 have e1 : (encGM D.str D.str m).map (·.1) = (m.map (·.1)).map .str := by simp [encGM]
 have e2 : (encGM D.str D.str m).map (·.2) = (m.map (·.2)).map .str := by simp [encGM]
 simp only [Ob.okB]
 rw [e1, e2, h2, h2]; rfl
structure amount_ok_L0 (e : Entry) (a c : Str) where
 pre : List Line
 rest : List Line
 hx : e.lines = pre ++ rest
theorem amount_ok (e : Entry) (a c : Str) (hs : smallE e) : Fc Tryz.prog 84 [.agg (encEntry e), .str a, .str c] (.str (amtE (a, c) e)) := by
 refine Fc.mk' [6] Tryz.func84 rfl Tryz.ntmps84 rfl rfl rfl (fun t w => results_tmp Tryz.results84 t _ w) ?_
 have hs66 := hs.2.1
 refine Run.seq (Run.reg [.w, .p] ?_)
 refine .W rfl (q_boxA 0 rfl rfl) <| .ag rfl rfl <| .nil ?_
 refine Run.seq (Run.reg [.p, .p] ?_)
 refine .P rfl (q_call Tryz.call137 rfl of0_ok) <| .ag rfl rfl <| .nil ?_
 refine Run.seq (Run.seq (Run.reg [.p, .r, .p, .p] ?_))
 refine .P rfl (q_fieldB (n := 0) 35 2 Tryz.underlying37 Tryz.sizeOf35 rfl rfl) <| .R rfl (q_load1 Tryz.isAgg35 rfl rfl rfl) <| .P rfl (q_lenI Tryz.underlying35 rfl) <| .mv rfl rfl <| .nil ?_
 refine Run.block ?_
 refine Run.loop (ι := amount_ok_L0 e a c) (fun sx => [(1, .str a), (2, .str c), (7, .str (ofInt (sumK (a, c) sx.pre))), (12, sLines e.lines), (13, .i e.lines.length), (14, .i sx.pre.length)]) (fun sx => []) (fun sx => sx.rest.length) ⟨[], e.lines, rfl⟩ ?_ ?_
 ·exact Le.mk rfl (.cons rfl Sub.strA rfl (.cons rfl Sub.strA rfl (.cons rfl (Sub.str (by first | (simp [sumK, ofInt_zero]; done) | (rw [sumK_snoc, if_pos (lkey_iff.2 (by simpa using ph1)), addS_ofInt]; done) | (rw [sumK_snoc, if_neg (fun hh => by have := lkey_iff.1 hh; simp_all)]; simp))) rfl (.same rfl rfl (.cons rfl Sub.intA rfl (.cons rfl Sub.intA rfl .nil)))))) .nil
 ·rintro ⟨pre, rest, hx⟩
  show Run _ _ _ _ [(1, .str a), (2, .str c), (7, .str (ofInt (sumK (a, c) pre))), (12, sLines e.lines), (13, .i e.lines.length), (14, .i pre.length)] []
  have hl := congrArg List.length hx
  simp only [List.length_append] at hl
  rcases rest with _ | ⟨x, rest⟩
  ·skip
   refine Run.seq (Run.reg [.p] ?_)
   refine .P rfl (q_lss rfl rfl) <| .nil ?_
   refine Run.seq ?_
   refine Run.condF rfl (by simp at hl ⊢; omega) ?_
   refine Run.exit (tq_exit (bq_exit ?_))
   refine Run.seq (Run.reg [.p, .p] ?_)
   refine .mv rfl rfl <| .ag rfl rfl <| .nil ?_
   refine Run.ret (?_)
   exact ret1 rfl (Sub.str (by unfold amtE; rw [hx, List.append_nil]))
  ·simp only [List.length_cons] at hl
   have hxa := (hs.2.2 x (by rw [hx]; simp)).2.2
   have hbd := sumK_bound (k := (a, c)) (ls := pre) (fun y hy => (hs.2.2 y (by rw [hx]; simp [hy])).2.2)
   have hpl : pre.length ≤ 66 := by omega
   have hal := ofInt_len30 (n := sumK (a, c) pre) (by constructor <;> omega)
   refine Run.seq (Run.reg [.p] ?_)
   refine .P rfl (q_lss rfl rfl) <| .nil ?_
   refine Run.seq ?_
   refine Run.condT rfl (by simp; omega) ?_
   refine Run.skip ?_
   refine Run.seq ?_
   refine Run.block ?_
   refine Run.seq (Run.reg [.p, .p, .w, .w] ?_)
   refine .P rfl (q_indexI Tryz.underlying35 Tryz.sizeOf92 rfl rfl (by omega) (idx_mid encLine hx rfl)) <| .P rfl (q_loadIA Tryz.isAgg92 Tryz.sizeOf92 rfl rfl) <| .W rfl (q_alloc 1 Tryz.zeroValue92 rfl) <| .W rfl (q_storeW Tryz.sizeOf92 rfl rfl rfl rfl rfl rfl) <| .nil ?_
   refine Run.seq (Run.reg [.p, .r, .p, .p, .p, .p, .r, .p, .p, .p] ?_)
   refine .P rfl (q_fieldB (n := 0) 9 0 Tryz.underlying92 Tryz.sizeOf9 rfl rfl) <| .R rfl (q_load1 Tryz.isAgg9 rfl rfl rfl) <| .mv rfl rfl <| .P rfl (q_eqlS rfl rfl) <| .mv rfl rfl <| .gT rfl (.inl rfl) rfl rfl rfl (fun hg => pk (fun _ => q_fieldB (n := 0) 9 1 Tryz.underlying92 Tryz.sizeOf9 rfl rfl _)) <| .gT rfl (.inr rfl) rfl rfl rfl (fun hg => rk (q_load1 Tryz.isAgg9 (opT rfl hg) rfl rfl)) <| .gT rfl (.inl rfl) rfl rfl rfl (fun hg => pk (fun _ => q_move rfl _)) <| .gT rfl (.inl rfl) rfl rfl rfl (fun hg => pk (fun _ => q_eqlS (opT rfl hg) (opT rfl hg) _)) <| .P rfl (q_and rfl rfl) <| .nil ?_
   refine Run.cond rfl (fun h1 => ?_) (fun h1 => ?_)
   ·have ph1 := h1; try simp only [bs] at ph1
    refine Run.reg [.p, .p, .r, .p, .p] ?_
    refine .mv rfl rfl <| .P rfl (q_fieldB (n := 0) 54 2 Tryz.underlying92 Tryz.sizeOf54 rfl rfl) <| .R rfl (q_load1 Tryz.isAgg54 rfl rfl rfl) <| .P rfl (q_call Tryz.call27 rfl (add_ok _ _ (by omega) (by omega))) <| .ag rfl rfl <| .nil ?_
    refine Run.nil (bq_norm ?_)
    refine Run.reg [.p, .p] ?_
    refine .P rfl (q_add rfl rfl (wrap64_ok (by first | omega | (simp; done) | (simp; omega) | (simp at *; omega)) (by first | omega | (simp; done) | (simp; omega) | (simp at *; omega)))) <| .mv rfl rfl <| .nil ?_
    refine Run.nil (tq_norm ?_)
    exact ⟨⟨pre ++ [x], rest, by simp [hx]⟩, by simp, Le.mk rfl (.cons rfl Sub.strA rfl (.cons rfl Sub.strA rfl (.cons rfl (Sub.str (by first | (simp [sumK, ofInt_zero]; done) | (rw [sumK_snoc, if_pos (lkey_iff.2 (by simpa using ph1)), addS_ofInt]; done) | (rw [sumK_snoc, if_neg (fun hh => by have := lkey_iff.1 hh; simp_all)]; simp))) rfl (.same rfl rfl (.cons rfl Sub.intA rfl (.cons rfl Sub.intA rfl .nil)))))) .nil⟩
   ·have ph1 := h1; try simp only [bs] at ph1
    refine Run.skip ?_
    refine Run.nil (bq_norm ?_)
    refine Run.reg [.p, .p] ?_
    refine .P rfl (q_add rfl rfl (wrap64_ok (by first | omega | (simp; done) | (simp; omega) | (simp at *; omega)) (by first | omega | (simp; done) | (simp; omega) | (simp at *; omega)))) <| .mv rfl rfl <| .nil ?_
    refine Run.nil (tq_norm ?_)
    exact ⟨⟨pre ++ [x], rest, by simp [hx]⟩, by simp, Le.mk rfl (.cons rfl Sub.strA rfl (.cons rfl Sub.strA rfl (.cons rfl (Sub.str (by first | (simp [sumK, ofInt_zero]; done) | (rw [sumK_snoc, if_pos (lkey_iff.2 (by simpa using ph1)), addS_ofInt]; done) | (rw [sumK_snoc, if_neg (fun hh => by have := lkey_iff.1 hh; simp_all)]; simp))) rfl (.same rfl rfl (.cons rfl Sub.intA rfl (.cons rfl Sub.intA rfl .nil)))))) .nil⟩
abbrev SMp := List (Str × Str)
def keyAtS (m : SMp) (j : Nat) : Option Str := m[j]?.map (·.1)
theorem keyAtS_range (m : SMp) : (List.range m.length).filterMap (keyAtS m) = m.map (·.1) := by
 induction m with
 | nil => rfl
 | cons p m ih =>
  rw [List.length_cons, List.range_succ_eq_map, List.filterMap_cons]
  simp only [keyAtS, List.getElem?_cons_zero, Option.map_some, List.map_cons, List.filterMap_map]
  congr 1
theorem keysS_perm {m : SMp} {seen : List Nat} (hn : seen.Nodup) (hlt : ∀ j ∈ seen, j < m.length) (hall : ∀ j, j < m.length → j ∈ seen) : (seen.filterMap (keyAtS m)).Perm (m.map (·.1)) := by
 rw [← keyAtS_range]
 refine List.Perm.filterMap _ ((List.perm_ext_iff_of_nodup hn List.nodup_range).2 fun a => ?_)
 rw [List.mem_range]
 exact ⟨hlt a, hall a⟩
theorem keyAtS_snoc {m : SMp} {seen : List Nat} {j : Nat} {k v : Str} (h : m[j]? = some (k, v)) : (seen ++ [j]).filterMap (keyAtS m) = seen.filterMap (keyAtS m) ++ [k] := by
 rw [List.filterMap_append]; simp [keyAtS, h]
theorem ltS_snoc {m : SMp} {seen : List Nat} {j : Nat} {kv : Str × Str} (h : m[j]? = some kv) (hlt : ∀ j ∈ seen, j < m.length) : ∀ i ∈ seen ++ [j], i < m.length := by
 intro i hi
 rcases List.mem_append.1 hi with hi | hi
 ·exact hlt i hi
 ·simp at hi; subst hi; exact (List.getElem?_eq_some_iff.1 h).1
theorem fmS_len (m : SMp) (seen : List Nat) : (seen.filterMap (keyAtS m)).length ≤ seen.length := List.length_filterMap_le _ _
theorem mapsKeysS_ok (m : SMp) : Fc Tryz.prog 86 [imapG D.str D.str m] (.fn (.func 140) [] [.iptr [imapG D.str D.str m]]) := by
 refine Fc.mk' [2] Tryz.func86 rfl Tryz.ntmps86 rfl rfl rfl (fun t w => results_tmp Tryz.results86 t _ w) ?_
 refine Run.seq (Run.reg [.w, .p] ?_)
 refine .W rfl (q_box1 0 rfl rfl rfl) <| .ag rfl rfl <| .nil ?_
 refine Run.weak (Le.freezeB 1 0 rfl rfl rfl rfl) ?_
 refine Run.seq (Run.reg [.p, .p] ?_)
 refine .P rfl (q_makeFunc (xs := []) (ys := _) rfl rfl) <| .ag rfl rfl <| .nil ?_
 refine Run.ret (?_)
 exact ret1 rfl (by exact Sub.refl _)
structure keysSY_ok_L0 (m : SMp) where
 seen : List Nat
 acc : List Str
 hnd : seen.Nodup
 hlt : ∀ j ∈ seen, j < m.length
 hacc : acc = seen.filterMap (keyAtS m)
theorem keysSY_ok (m : SMp) : FcY (α := Str) Tryz.prog 140 8000 [.iptr [imapG D.str D.str m]] [] (fun p => [D.str p]) (fun p => p.length ≤ m.length) (fun p => p.Perm (m.map (·.1))) := by
 refine FcY.mk' Tryz.func140 rfl Tryz.ntmps140 rfl (fun t w => results_none Tryz.results140 t _ w) (fun idL lb ids B X Y => ?_)
 refine Run.seq (Run.reg [.p, .w] ?_)
 refine .P rfl (q_loadI Tryz.isAgg53 rfl) <| .W rfl (q_rangeI 8000 Tryz.underlying53 rfl (Y.free _ 8000 (by decide) (by decide))) <| .nil ?_
 refine Run.block ?_
 refine Run.loop (ι := keysSY_ok_L0 m) (fun sx => [(0, yv lb), (5, .box 8000 0)]) (fun sx => ([(8000, .mj (m.map fun p => D.str p.1) (m.map fun p => D.str p.2) sx.seen)] ++ B sx.acc)) (fun sx => unseen m.length sx.seen) ⟨[], [], List.nodup_nil, by simp, rfl⟩ ?_ ?_
 ·exact Le.mk (ps_ok (Y.has _) rfl) (.same rfl rfl (.same rfl rfl .nil)) (.eqA rfl rfl (.tail (tail_ok (own := [(8000, _)]) (own' := [(8000, _)]) rfl (Y.free _) (Y.okb _))))
 ·rintro ⟨seen, acc, hnd, hlt, hacc⟩
  show Run _ _ _ _ [(0, yv lb), (5, .box 8000 0)] ([(8000, .mj (m.map fun p => D.str p.1) (m.map fun p => D.str p.2) seen)] ++ B acc)
  refine Run.seq (Run.regT ?_)
  refine Tx.n rfl trivial (q_nextI tzKeyS (vD := D.str) rfl rfl) (fun nb hnb => ?_)
  rcases nb with _ | ⟨nj, nk, nv⟩
  ·dsimp only [nextGD, nextIO]
   refine Tx.q rfl trivial (q_extract rfl rfl _) ?_
   refine Tx.nil ?_
   refine Run.seq ?_
   refine Run.condF rfl rfl ?_
   refine Run.exit (tq_exit (bq_exit ?_))
   refine Run.nil ?_
   exact retY_fin (.inr rfl) (acc) (by rw [hacc]; exact keysS_perm hnd hlt hnb) (own_get (own := [(8000, _)]) rfl (Y.free _))
  ·dsimp only [nextGD, nextIO]
   refine Tx.q rfl trivial (q_extract rfl rfl _) ?_
   refine Tx.nil ?_
   refine Run.seq ?_
   refine Run.condT rfl rfl ?_
   refine Run.skip ?_
   refine Run.block ?_
   refine Run.seq (Run.reg [.r, .p, .p] ?_)
   refine .R rfl (q_entryI tzKeyS (vD := D.str) rfl rfl (And.left hnb)) <| .P rfl (q_extract rfl rfl) <| .ag rfl rfl <| .nil ?_
   refine Run.seq (Run.regT ?_)
   refine Tx.q rfl trivial (q_move rfl _) ?_
   refine Tx.q rfl trivial (q_move rfl _) ?_
   refine Tx.weak (Le.mk (obs' := [(8000, _)] ++ B (acc)) (ps_ok (Y.has _) rfl) (show EnvLe _ _ [(0, _), (5, _), (6, _), (7, _), (8, _), (9, _), (3, _), (10, _), (11, _)] from (.same rfl rfl (.same rfl rfl (.same rfl rfl (.same rfl rfl (.same rfl rfl (.same rfl rfl (.same rfl rfl (.same rfl rfl (.same rfl rfl .nil)))))))))) (.cons (i := 8000) rfl rfl (.tail (tail_ok (own := [(8000, _)]) (own' := [(8000, _)]) rfl (Y.free _) (Y.okb _))))) ?_
   refine Tx.y2 Y (own := [(8000, _)]) (pre := acc) (env' := [(0, _), (5, _), (6, _), (7, _), (8, _), (9, _), (3, _), (10, _), (11, _)]) nk rfl rfl rfl rfl trivial rfl rfl rfl (by have h1 := seen_len (nodup_snoc hnd (And.right hnb)) (ltS_snoc (And.left hnb) hlt); have h2 := fmS_len m seen; simp only [List.length_append, List.length_singleton] at *; rw [hacc]; omega) rfl rfl (.cons rfl rfl (.cons rfl rfl (.cons rfl rfl (.cons rfl rfl (.cons rfl rfl (.cons rfl rfl (.cons rfl rfl (.cons rfl rfl (.cons rfl rfl .nil))))))))) ?_ (fun o hX => ?_)
   ·skip
    refine Tx.q rfl trivial (q_not rfl _) ?_
    refine Tx.nil ?_
    refine Run.condF rfl rfl ?_
    refine Run.skip ?_
    refine Run.nil (bq_norm ?_)
    refine Run.nil (tq_norm ?_)
    exact ⟨⟨seen ++ [nj], acc ++ [nk], nodup_snoc hnd (And.right hnb), ltS_snoc (And.left hnb) hlt, by rw [hacc, keyAtS_snoc (And.left hnb)]⟩, by exact unseen_lt ((List.getElem?_eq_some_iff.1 (And.left hnb)).1) (And.right hnb), Le.mk (ps_ok (Y.has _) rfl) (.same rfl rfl (.same rfl rfl .nil)) (.eqA rfl rfl (.tail (tail_ok (own := [(8000, _)]) (own' := [(8000, _)]) rfl (Y.free _) (Y.okb _))))⟩
   ·skip
    refine Tx.q rfl trivial (q_not rfl _) ?_
    refine Tx.nil ?_
    refine Run.condT rfl rfl ?_
    refine Run.ret (bq_ret (tq_ret (bq_ret (?_))))
    exact retY_x (.inl rfl) o hX (own_get (own := [(8000, _)]) rfl (Y.freeX _ hX))
theorem appendStrs_ok (m : SMp) (hm : m.length ≤ 1000000) : FcOE (ι := List Str) Tryz.prog 186 [.raw (.slice none 0 0), .fn (.func 140) [] [.iptr [imapG D.str D.str m]]] [] (fun p => p.Perm (m.map (·.1))) (fun p => .gs 7800 p.length) (fun p => [(7800, .arr 1 (p.map (fun s => [D.str s])))]) := by
 refine FcOE.mk' [4] Tryz.func186 rfl Tryz.ntmps186 rfl (fun _ => rfl) (fun _ => rfl) (fun t w => results_tmp Tryz.results186 t _ w) ?_
 refine Run.seq (Run.reg [.w, .p] ?_)
 refine .W rfl (q_box1 0 rfl rfl rfl) <| .ag rfl rfl <| .nil ?_
 refine Run.seq (Run.seq (Run.reg [.p] ?_))
 refine .mv rfl rfl <| .nil ?_
 refine Run.block ?_
 refine Run.rangeF (α := Str) 7900 [0] [(0, _), (1, _), (2, _), (4, _), (6, _)] (fun (pre : List (Str)) => [(0, .cells [.gs 7800 pre.length]), (7800, .arr 1 (pre.map (fun s => [D.str s])))]) (fun _ _ => False) rfl Tryz.call140 (keysSY_ok m) (env1 := [(0, _), (1, _), (2, _), (4, _), (6, _)]) ((Le.own0 7800 1).trans <| (Le.subO 0 0 rfl rfl (Sub.gsNil 7800)).trans <| Le.mk (obs' := [] ++ (fun (pre : List (Str)) => [(0, .cells [.gs 7800 pre.length]), (7800, .arr 1 (pre.map (fun s => [D.str s])))]) []) rfl (show EnvLe _ _ [(0, _), (1, _), (2, _), (4, _), (6, _)] from (.same rfl rfl (.same rfl rfl (.same rfl rfl (.same rfl rfl (.same rfl rfl .nil)))))) (.eqA rfl rfl (.eqA rfl rfl .nil))) rfl rfl (fun _ => rfl) (.cons rfl rfl (.cons rfl rfl (.cons rfl rfl (.cons rfl rfl (.cons rfl rfl .nil))))) rfl (fun _ => rfl) (by rintro j o h; exact h.elim) (fun _ => Obs.okB_get rfl) (by rintro j o h; exact h.elim) (fun _ => freeB_get rfl) (by rintro j o h; exact h.elim) (by decide) rfl (fun pre x hok => ?_) (fun xs hfin => ?_) (fun _ _ h => h.elim)
 ·skip
  simp only [List.length_append, List.length_singleton] at hok
  refine Run.reg [.p] ?_
  refine .ag rfl rfl <| .nil ?_
  refine Run.nil ⟨rfl, ?_⟩
  refine Run.block ?_
  refine Run.reg [.r, .p, .p, .w, .w] ?_
  refine .R rfl (q_load1 Tryz.isAgg124 rfl rfl rfl) <| .mv rfl rfl <| .P rfl (q_buildSlice' (n := 1) (rows := [[D.str x]]) Tryz.underlying124 Tryz.sizeOf9 rfl rfl rfl Tryz.zeroValue9 rfl rfl rfl rfl rfl rfl rfl) <| .W rfl (q_append 1 Tryz.underlying124 Tryz.underlying124 Tryz.sizeOf9 Tryz.typeInfo9 Tryz.zeroValue9 rfl (bt := 16) rfl rfl rfl rfl (by simp) rfl rfl (by simp; omega)) <| .W rfl (q_store1 Tryz.sizeOf124 rfl rfl rfl rfl (by first | (simp; done) | decide)) <| .nil ?_
  refine Run.nil (bq_norm ?_)
  refine Run.nil ?_
  exact ⟨rfl, (Le.mk (env' := []) (obs' := [(7900, _), (0, _), (1, _)]) rfl .nil (.cons (i := 7900) rfl rfl (.cons (i := 0) rfl rfl (.cons (i := 1) rfl rfl .nil)))).trans <| (Le.renO 0 0 1 7800 rfl rfl rfl (by simp) rfl).trans <| Le.mk rfl .nil (.cons rfl rfl (.eq rfl (by first | rfl | (simp; done) | (simp; omega)) rfl (.eq rfl (by first | rfl | (simp; done) | (simp; omega)) rfl .nil)))⟩
 ·skip
  refine Run.nil (bq_norm ?_)
  refine Run.seq (Run.reg [.r, .p] ?_)
  refine .R rfl (q_load1 Tryz.isAgg124 rfl rfl rfl) <| .ag rfl rfl <| .nil ?_
  refine Run.ret (?_)
  exact retOE1 (xs) (hfin) rfl (by exact Sub.gs (by simp)) (.eq rfl (by rfl) rfl .nil)
theorem collectStrs_ok (m : SMp) (hm : m.length ≤ 1000000) : FcOE (ι := List Str) Tryz.prog 138 [.fn (.func 140) [] [.iptr [imapG D.str D.str m]]] [] (fun p => p.Perm (m.map (·.1))) (fun p => .gs 7800 p.length) (fun p => [(7800, .arr 1 (p.map (fun s => [D.str s])))]) := by
 refine FcOE.mk' [2] Tryz.func138 rfl Tryz.ntmps138 rfl (fun _ => rfl) (fun _ => rfl) (fun t w => results_tmp Tryz.results138 t _ w) ?_
 refine Run.seq (Run.reg [.p] ?_)
 refine .ag rfl rfl <| .nil ?_
 refine Run.seq (Run.regT ?_)
 refine Tx.q rfl trivial (q_move rfl _) ?_
 refine Tx.n rfl trivial (q_callOE Tryz.call186 rfl (appendStrs_ok m hm) .nil rfl (fun _ => rfl)) (fun nb hnb => ?_)
 dsimp only
 refine Tx.q rfl trivial (q_assign rfl _) ?_
 refine Tx.nil ?_
 refine Run.ret (?_)
 exact retOE1 (nb) (hnb) rfl (by exact Sub.gs (by simp)) (.eq rfl (by rfl) rfl .nil)
theorem sortStrs_ok (l : List Str) (h : ∀ s ∈ l, okStr s) (hl : l.length < 4611686018427387904) : FcO Tryz.prog 139 [.gs 7800 l.length] [(7800, .arr 1 (l.map fun s => [D.str s]))] (.tup []) [(7800, .arr 1 ((sortS l).map fun s => [D.str s]))] := by
 have h2 : ∀ s ∈ sortS l, okStr s := fun s hs => h s ((sortS_perm0 l).subset hs)
 have e1 : (l.attachWith okStr h).map (fun x => [D.str x.1]) = l.map fun s => [D.str s] := by conv => { rhs; rw [← attach_val h, List.map_map] }; rfl
 have e2 : ((sortS l).attachWith okStr h2).map (fun x => [D.str x.1]) = (sortS l).map fun s => [D.str s] := by conv => { rhs; rw [← attach_val h2, List.map_map] }; rfl
 have := sortStr_FcO (r := Tryz.sortStr_ren) Tryz.sortStr 7800 (l.attachWith okStr h) (by simpa using hl) ((sortS l).attachWith okStr h2) (by rw [attach_val, attach_val]; rfl)
 rw [e1, e2, List.length_attachWith] at this
 exact this
theorem sortedStrs_ok (m : SMp) (hm : m.length ≤ 1000000) (hk : ∀ k ∈ m.map (·.1), okStr k) (hn : (m.map (·.1)).Nodup) : Fc Tryz.prog 85 [.fn (.func 140) [] [.iptr [imapG D.str D.str m]]] (sStrs (sortS (m.map (·.1)))) := by
 refine Fc.mk' [2] Tryz.func85 rfl Tryz.ntmps85 rfl rfl rfl (fun t w => results_tmp Tryz.results85 t _ w) ?_
 refine Run.seq (Run.reg [.p] ?_)
 refine .ag rfl rfl <| .nil ?_
 refine Run.seq (Run.regT ?_)
 refine Tx.q rfl trivial (q_move rfl _) ?_
 refine Tx.n rfl trivial (q_callOE Tryz.call138 rfl (collectStrs_ok m hm) .nil rfl (fun _ => rfl)) (fun nb hnb => ?_)
 dsimp only
 refine Tx.q rfl trivial (q_assign rfl _) ?_
 refine Tx.nil ?_
 refine Run.seq (Run.reg [.p, .w] ?_)
 refine .mv rfl rfl <| .W rfl (q_callO Tryz.call139 rfl (sortStrs_ok nb (fun k hk' => hk k (hnb.subset hk')) (by have := hnb.length_eq; simp at this; omega)) (.cons rfl rfl .nil) rfl rfl) <| .nil ?_
 refine Run.seq (Run.reg [.p, .p] ?_)
 refine .mv rfl rfl <| .ag rfl rfl <| .nil ?_
 refine Run.weak (Le.freeze 2 7800 rfl rfl (by have := (sortS_perm0 nb).length_eq; simp [this])) ?_
 refine Run.ret (?_)
 exact ret1 rfl (Sub.snap (by rw [sortS_perm hnb hn]))
structure explain_ok_L0 (l : List Posted) (a c : Str) where
 pre : List Posted
 rest : List Posted
 hx : l = pre ++ rest
structure explain_ok_L1 (l : List Posted) (a c : Str) (pre : List Posted) where
 preq : List Str
 restq : List Str
 hxq : sortS ((exM (a, c) pre).map (·.1)) = preq ++ restq
theorem explain_ok (l : List Posted) (a c : Str) (hs : smallPs l) : Fc Tryz.prog 31 [sPosteds l, .str a, .str c] (.tup [sTerms (if okPs l then explainT (a, c) l else []), .i (if okPs l then 0 else 1)]) := by
 refine Fc.mk' [6, 7] Tryz.func31 rfl Tryz.ntmps31 rfl rfl rfl (fun t w => results_tmp2 Tryz.results31 t _ w) ?_
 refine Run.seq (Run.reg [.p, .p] ?_)
 refine .ag rfl rfl <| .ag rfl rfl <| .nil ?_
 refine Run.seq (Run.seq (Run.reg [.p, .p, .p] ?_))
 refine .mv rfl rfl <| .P rfl (q_call Tryz.call67 rfl (postList_ok _ (by first | assumption | omega | (simp at *; omega)))) <| .P rfl (q_not rfl) <| .nil ?_
 refine Run.cond rfl (fun h1 => ?_) (fun h1 => ?_)
 ·have ph1 := h1; try simp only [bs] at ph1
  refine Run.seq (Run.reg [.p, .p] ?_)
  refine .ag rfl rfl <| .ag rfl rfl <| .nil ?_
  refine Run.ret (?_)
  exact ret2 rfl rfl (by exact (Sub.nil _ false).trans (Sub.snap (by simp_all))) (Sub.int (by first | (rw [show okPs l = false from by simpa using ph1]; rfl) | (rw [hok]; rfl) | (rw [hok, if_pos rfl, ← hpre]; unfold explainT termsM; rw [hxq, List.append_nil])))
 ·have ph1 := h1; try simp only [bs] at ph1
  have hok : okPs l = true := by simpa using ph1
  have hl1 : l.length ≤ 10000 := by have := hok; simp only [okPs, Bool.and_eq_true, decide_eq_true_eq] at this; exact this.1.1
  refine Run.skip ?_
  refine Run.seq (Run.reg [.w, .p] ?_)
  refine .W rfl (q_makeMapG 0 D.str (D.str) rfl) <| .ag rfl rfl <| .nil ?_
  refine Run.seq (Run.seq (Run.reg [.p, .p, .p] ?_))
  refine .mv rfl rfl <| .P rfl (q_lenI Tryz.underlying27 rfl) <| .mv rfl rfl <| .nil ?_
  refine Run.block ?_
  refine Run.loop (ι := explain_ok_L0 l a c) (fun sx => [(1, .str a), (2, .str c), (8, .mapr 0), (19, sPosteds l), (20, .i l.length), (21, .i sx.pre.length)]) (fun sx => [(0, .mp (encGM D.str D.str (exM (a, c) sx.pre)))]) (fun sx => sx.rest.length) ⟨[], l, rfl⟩ ?_ ?_
  ·exact Le.mk rfl (.cons rfl Sub.strA rfl (.cons rfl Sub.strA rfl (.same rfl rfl (.same rfl rfl (.cons rfl Sub.intA rfl (.cons rfl Sub.intA rfl .nil)))))) (.eq rfl (by first | rfl | (rw [exM_snoc]; rfl)) (okB_SG _ _) .nil)
  ·rintro ⟨pre, rest, hx⟩
   show Run _ _ _ _ [(1, .str a), (2, .str c), (8, .mapr 0), (19, sPosteds l), (20, .i l.length), (21, .i pre.length)] [(0, .mp (encGM D.str D.str (exM (a, c) pre)))]
   have hl := congrArg List.length hx
   simp only [List.length_append] at hl
   rcases rest with _ | ⟨x, rest⟩
   ·have hpre : pre = l := by simp [hx]
    have hml := exM_len (a, c) pre
    have hmv := exM_val (a, c) pre
    have hmk : ∀ s ∈ (exM (a, c) pre).map (·.1), okStr s := fun s h => by obtain ⟨p, hp, rfl⟩ := exM_keys h; have := (okP_parts (okPs_mem hok p (hpre ▸ hp))).2.2.2.2; simp only [isName, Bool.and_eq_true, decide_eq_true_eq] at this; simp only [okStr, big]; omega
    refine Run.seq (Run.reg [.p] ?_)
    refine .P rfl (q_lss rfl rfl) <| .nil ?_
    refine Run.seq ?_
    refine Run.condF rfl (by simp at hl ⊢; omega) ?_
    refine Run.exit (tq_exit (bq_exit ?_))
    refine Run.seq (Run.reg [.p] ?_)
    refine .ag rfl rfl <| .nil ?_
    refine Run.weak (Le.freezeM (kD := D.str) (vD := D.str) (m := (exM (a, c) pre)) 8 0 rfl rfl (fun _ => rfl) (fun _ => rfl)) ?_
    refine Run.seq (Run.seq (Run.reg [.p, .p, .p, .p, .p] ?_))
    refine .mv rfl rfl <| .P rfl (q_call Tryz.call86 rfl (mapsKeysS_ok _)) <| .P rfl (q_call Tryz.call85 rfl (sortedStrs_ok (exM (a, c) pre) (by omega) hmk hmv.nodup)) <| .P rfl (q_lenI Tryz.underlying124 rfl) <| .mv rfl rfl <| .nil ?_
    refine Run.block ?_
    refine Run.loop (ι := explain_ok_L1 l a c pre) (fun sx => [(8, imapG D.str D.str (exM (a, c) pre)), (11, .gs 1 (termK sx.preq (getG [] (exM (a, c) pre))).length), (41, sStrs (sortS ((exM (a, c) pre).map (·.1)))), (42, .i (sortS ((exM (a, c) pre).map (·.1))).length), (43, .i sx.preq.length)]) (fun sx => [(1, .arr 2 ((termK sx.preq (getG [] (exM (a, c) pre))).map encTerm))]) (fun sx => sx.restq.length) ⟨[], _, rfl⟩ ?_ ?_
    ·exact (Le.own0 1 2).trans <| Le.mk rfl (.same rfl rfl (.cons rfl (Sub.gsNil _) rfl (.same rfl rfl (.cons rfl Sub.intA rfl (.cons rfl Sub.intA rfl .nil))))) (.arr rfl (by first | rfl | (rw [termK_snoc, if_pos (by simpa using ph2)]; simp; done) | (rw [termK_snoc, if_neg (by simpa using ph2)]; simp)) .nil)
    ·rintro ⟨preq, restq, hxq⟩
     show Run _ _ _ _ [(8, imapG D.str D.str (exM (a, c) pre)), (11, .gs 1 (termK preq (getG [] (exM (a, c) pre))).length), (41, sStrs (sortS ((exM (a, c) pre).map (·.1)))), (42, .i (sortS ((exM (a, c) pre).map (·.1))).length), (43, .i preq.length)] [(1, .arr 2 ((termK preq (getG [] (exM (a, c) pre))).map encTerm))]
     have hlq := congrArg List.length hxq
     simp only [List.length_append] at hlq
     have htl := termK_len preq (getG [] (exM (a, c) pre))
     have hksl : (sortS ((exM (a, c) pre).map (·.1))).length = (exM (a, c) pre).length := by rw [(sortS_perm0 _).length_eq]; simp
     rcases restq with _ | ⟨xq, restq⟩
     ·skip
      refine Run.seq (Run.reg [.p] ?_)
      refine .P rfl (q_lss rfl rfl) <| .nil ?_
      refine Run.seq ?_
      refine Run.condF rfl (by simp at hlq ⊢; omega) ?_
      refine Run.exit (tq_exit (bq_exit ?_))
      refine Run.seq (Run.reg [.p, .p, .p] ?_)
      refine .mv rfl rfl <| .ag rfl rfl <| .ag rfl rfl <| .nil ?_
      refine Run.weak (Le.freeze 6 1 rfl rfl (by simp)) ?_
      refine Run.ret (?_)
      exact ret2 rfl rfl (Sub.snap (by first | (rw [show okPs l = false from by simpa using ph1]; rfl) | (rw [hok]; rfl) | (rw [hok, if_pos rfl, ← hpre]; unfold explainT termsM; rw [hxq, List.append_nil]))) (Sub.int (by first | (rw [show okPs l = false from by simpa using ph1]; rfl) | (rw [hok]; rfl) | (rw [hok, if_pos rfl, ← hpre]; unfold explainT termsM; rw [hxq, List.append_nil])))
     ·simp only [List.length_cons] at hlq
      refine Run.seq (Run.reg [.p] ?_)
      refine .P rfl (q_lss rfl rfl) <| .nil ?_
      refine Run.seq ?_
      refine Run.condT rfl (by simp; omega) ?_
      refine Run.skip ?_
      refine Run.seq ?_
      refine Run.block ?_
      refine Run.seq (Run.reg [.p, .p, .p] ?_)
      refine .P rfl (q_indexI Tryz.underlying124 Tryz.sizeOf9 rfl rfl (by omega) (idx_mid (fun s => [D.str s]) hxq rfl)) <| .P rfl (q_loadI Tryz.isAgg9 rfl) <| .ag rfl rfl <| .nil ?_
      refine Run.seq (Run.reg [.p, .p, .p, .p] ?_)
      refine .mv rfl rfl <| .mv rfl rfl <| .P rfl (fun _ => q_lookupI tzKeyS (vD := D.str) (m := (exM (a, c) pre)) (k := xq) (d := []) Tryz.underlying53 Tryz.zeroValue54 vstr0 rfl rfl rfl rfl) <| .ag rfl rfl <| .nil ?_
      refine Run.seq (Run.reg [.p, .p] ?_)
      refine .mv rfl rfl <| .P rfl (q_neqS rfl rfl) <| .nil ?_
      refine Run.cond rfl (fun h2 => ?_) (fun h2 => ?_)
      ·have ph2 := h2; try simp only [bs] at ph2
       refine Run.reg [.p, .p, .p, .p, .p, .w, .p] ?_
       refine .mv rfl rfl <| .mv rfl rfl <| .mv rfl rfl <| .P rfl (q_build (pl := #[(0, 1), (1, 1)]) Tryz.underlying67 Tryz.zeroValue67 (fun w => by kernel_rfl) rfl rfl) <| .P rfl (q_buildSlice' (n := 1) (rows := [encTerm ⟨xq, getG [] (exM (a, c) pre) xq⟩]) Tryz.underlying63 Tryz.sizeOf67 rfl rfl rfl Tryz.zeroValue67 rfl rfl rfl rfl rfl rfl rfl) <| .W rfl (q_append 2 Tryz.underlying63 Tryz.underlying63 Tryz.sizeOf67 Tryz.typeInfo67 Tryz.zeroValue67 rfl (bt := 32) rfl rfl rfl rfl (by simp) rfl rfl (by simp; omega)) <| .ag rfl rfl <| .nil ?_
       refine Run.nil (bq_norm ?_)
       refine Run.reg [.p, .p] ?_
       refine .P rfl (q_add rfl rfl (wrap64_ok (by first | omega | (simp; done) | (simp; omega) | (simp at *; omega)) (by first | omega | (simp; done) | (simp; omega) | (simp at *; omega)))) <| .mv rfl rfl <| .nil ?_
       refine Run.nil (tq_norm ?_)
       exact ⟨⟨preq ++ [xq], restq, by simp [hxq]⟩, by simp, (Le.mk (obs' := [(2, _)]) rfl (show EnvLe _ _ [(8, _), (11, _), (41, _), (42, _), (43, _)] from (.same rfl rfl (.same rfl rfl (.same rfl rfl (.same rfl rfl (.same rfl rfl .nil)))))) (.cons (i := 2) rfl rfl .nil)).trans <| (Le.ren 11 2 1 rfl rfl (by simp) rfl).trans <| Le.mk rfl (.same rfl rfl (.cons rfl (Sub.gs (by first | rfl | (rw [termK_snoc, if_pos (by simpa using ph2)]; simp; done) | (rw [termK_snoc, if_neg (by simpa using ph2)]; simp))) rfl (.same rfl rfl (.cons rfl Sub.intA rfl (.cons rfl Sub.intA rfl .nil))))) (.arr rfl (by first | rfl | (rw [termK_snoc, if_pos (by simpa using ph2)]; simp; done) | (rw [termK_snoc, if_neg (by simpa using ph2)]; simp)) .nil)⟩
      ·have ph2 := h2; try simp only [bs] at ph2
       refine Run.skip ?_
       refine Run.nil (bq_norm ?_)
       refine Run.reg [.p, .p] ?_
       refine .P rfl (q_add rfl rfl (wrap64_ok (by first | omega | (simp; done) | (simp; omega) | (simp at *; omega)) (by first | omega | (simp; done) | (simp; omega) | (simp at *; omega)))) <| .mv rfl rfl <| .nil ?_
       refine Run.nil (tq_norm ?_)
       exact ⟨⟨preq ++ [xq], restq, by simp [hxq]⟩, by simp, Le.mk rfl (.same rfl rfl (.cons rfl (Sub.gs (by first | rfl | (rw [termK_snoc, if_pos (by simpa using ph2)]; simp; done) | (rw [termK_snoc, if_neg (by simpa using ph2)]; simp))) rfl (.same rfl rfl (.cons rfl Sub.intA rfl (.cons rfl Sub.intA rfl .nil))))) (.arr rfl (by first | rfl | (rw [termK_snoc, if_pos (by simpa using ph2)]; simp; done) | (rw [termK_snoc, if_neg (by simpa using ph2)]; simp)) .nil)⟩
   ·simp only [List.length_cons] at hl
    have hxs := hs x (by rw [hx]; simp)
    have hgl := exM_get (k := (a, c)) (s := x.by_) (l := pre) (fun p hp => hs p (by rw [hx]; simp [hp])) (by omega)
    have hal := amtE_len (k := (a, c)) hxs
    refine Run.seq (Run.reg [.p] ?_)
    refine .P rfl (q_lss rfl rfl) <| .nil ?_
    refine Run.seq ?_
    refine Run.condT rfl (by simp; omega) ?_
    refine Run.skip ?_
    refine Run.seq ?_
    refine Run.block ?_
    refine Run.seq (Run.reg [.p, .p, .w, .w] ?_)
    refine .P rfl (q_indexI Tryz.underlying27 Tryz.sizeOf39 rfl rfl (by omega) (idx_mid encPosted hx rfl)) <| .P rfl (q_loadIA Tryz.isAgg39 Tryz.sizeOf39 rfl rfl) <| .W rfl (q_alloc 1 Tryz.zeroValue39 rfl) <| .W rfl (q_storeW Tryz.sizeOf39 rfl rfl rfl rfl rfl rfl) <| .nil ?_
    refine Run.regD [.p, .p, .r, .p, .p, .r, .r, .p, .r, .p, .p, .p, .p, .w] Tryz_mixed (by decide +kernel) ?_
    refine .mv rfl rfl <| .P rfl (q_fieldB (n := 0) 9 2 Tryz.underlying39 Tryz.sizeOf9 rfl rfl) <| .R rfl (q_load1 Tryz.isAgg9 rfl rfl rfl) <| .mv rfl rfl <| .P rfl (q_fieldB (n := 0) 9 2 Tryz.underlying39 Tryz.sizeOf9 rfl rfl) <| .R rfl (q_load1 Tryz.isAgg9 rfl rfl rfl) <| .R rfl (q_lookupG tzKeyS (vD := D.str) (k := x.by_) (d := []) Tryz.underlying53 Tryz.zeroValue54 vstr0 rfl rfl rfl rfl) <| .P rfl (q_fieldB (n := 2) 37 3 Tryz.underlying39 Tryz.sizeOf37 rfl rfl) <| .R rfl (q_loadA Tryz.isAgg37 Tryz.sizeOf37 rfl rfl (by simp) rfl) <| .mv rfl rfl <| .mv rfl rfl <| .P rfl (q_call Tryz.call84 rfl (amount_ok x.entry a c hxs)) <| .P rfl (q_call Tryz.call27 rfl (add_ok _ _ (by omega) (by omega))) <| .W rfl (q_mapUpdateG tzKeyS (vD := D.str) (k := x.by_) (v := addS (getG [] (exM (a, c) pre) x.by_) (amtE (a, c) x.entry)) Tryz.underlying53 rfl rfl rfl rfl rfl rfl) <| .nil ?_
    refine Run.nil (bq_norm ?_)
    refine Run.reg [.p, .p] ?_
    refine .P rfl (q_add rfl rfl (wrap64_ok (by first | omega | (simp; done) | (simp; omega) | (simp at *; omega)) (by first | omega | (simp; done) | (simp; omega) | (simp at *; omega)))) <| .mv rfl rfl <| .nil ?_
    refine Run.nil (tq_norm ?_)
    exact ⟨⟨pre ++ [x], rest, by simp [hx]⟩, by simp, Le.mk rfl (.cons rfl Sub.strA rfl (.cons rfl Sub.strA rfl (.same rfl rfl (.same rfl rfl (.cons rfl Sub.intA rfl (.cons rfl Sub.intA rfl .nil)))))) (.eq rfl (by first | rfl | (rw [exM_snoc]; rfl)) (okB_SG _ _) .nil)⟩
end Go.T
namespace Go.T
open Go Go.Proofs
end Go.T
namespace Go.T
open Go Go.Proofs
set_option maxRecDepth 20000
end Go.T
