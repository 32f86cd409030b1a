/-
  Contracts of the functions that the statement reaches, and the logic in which they are proved (no condition): parts W63, Card1, Card2, Card3.
-/
import Derived.Test.YtlhemheagekhaaaGreatDoorA16
import Derived.ChangeArms
import Derived.SizedLaws
import Derived.ProofKit
import Derived.OpenShut
import Derived.ReadAgain
import Derived.LaidMore
import Derived.Test.YtlhemheagekhaaaGreatDoorCards
import Derived.Test.YtlhemheagekhaaaGreatDoorTie
import Derived.Lay
import Derived.SevenTiedAt
import Derived.Stop.Joined
set_option linter.all false
namespace Go.T
open Go Go.Proofs
set_option maxRecDepth 20000
theorem btw_ok (p : Posted) (a b : Int) : Fc Tryz.prog 82 [.agg (encPosted p), .iptr [.i a], .iptr [.i b]] (.b (btw a b p)) := by
 refine Fc.mk' [4] Tryz.func82 rfl Tryz.ntmps82 rfl rfl rfl (fun t w => results_tmp Tryz.results82 t _ w) ?_
 refine Run.seq (Run.reg [.w, .p] ?_)
 refine .W rfl (q_boxA 0 rfl rfl) <| .ag rfl rfl <| .nil ?_
 refine Run.seq (Run.reg [.p, .r, .p, .p, .p, .p, .r, .p, .p, .p, .p] ?_)
 refine .P rfl (q_fieldB (n := 0) 3 1 Tryz.underlying39 Tryz.sizeOf3 rfl rfl) <| .R rfl (q_load1 Tryz.isAgg3 rfl rfl rfl) <| .P rfl (q_loadI Tryz.isAgg3 rfl) <| .P rfl (q_gtr rfl rfl) <| .mv rfl rfl <| .gT rfl (.inl rfl) rfl rfl rfl (fun hg => pk (fun _ => q_fieldB (n := 0) 3 1 Tryz.underlying39 Tryz.sizeOf3 rfl rfl _)) <| .gT rfl (.inr rfl) rfl rfl rfl (fun hg => rk (q_load1 Tryz.isAgg3 (opT rfl hg) rfl rfl)) <| .gT rfl (.inl rfl) rfl rfl rfl (fun hg => pk (fun _ => q_loadI Tryz.isAgg3 rfl _)) <| .gT rfl (.inl rfl) rfl rfl rfl (fun hg => pk (fun _ => q_leq (opT rfl hg) (opT rfl hg) _)) <| .P rfl (q_and rfl rfl) <| .ag rfl rfl <| .nil ?_
 refine Run.ret (?_)
 exact ret1 rfl (Sub.bool (by rfl))
theorem filterB_ok (l : List Posted) (a b : Int) : Fc Tryz.prog 65 [sPosteds l, .fn (.func 82) [] [.iptr [.i a], .iptr [.i b]]] (.fn (.func 121) [] [.iptr [sPosteds l], .iptr [.fn (.func 82) [] [.iptr [.i a], .iptr [.i b]]]]) := by
 refine Fc.mk' [4] Tryz.func65 rfl Tryz.ntmps65 rfl rfl rfl (fun t w => results_tmp Tryz.results65 t _ w) ?_
 refine Run.seq (Run.reg [.w, .w, .p] ?_)
 refine .W rfl (q_box1 0 rfl rfl rfl) <| .W rfl (q_box1 1 rfl rfl rfl) <| .ag rfl rfl <| .nil ?_
 refine Run.weak (Le.freezeB 2 0 rfl rfl rfl rfl) ?_
 refine Run.weak (Le.freezeB 3 1 rfl rfl rfl rfl) ?_
 refine Run.seq (Run.reg [.p, .p] ?_)
 refine .P rfl (q_makeFunc (xs := []) (ys := _) rfl rfl) <| .ag rfl rfl <| .nil ?_
 refine Run.ret (?_)
 exact ret1 rfl (by exact Sub.refl _)
structure filterBY_ok_L0 (l : List Posted) (a b : Int) where
 pre : List Posted
 rest : List Posted
 acc : List Posted
 hx : l = pre ++ rest
 hacc : acc = pre.filter (btw a b)
theorem filterBY_ok (l : List Posted) (a b : Int) (hl : l.length ≤ 1000000) : FcY (α := Posted) Tryz.prog 121 8000 [.iptr [sPosteds l], .iptr [.fn (.func 82) [] [.iptr [.i a], .iptr [.i b]]]] [] (fun p => [.agg (encPosted p)]) (fun p => p <+: l.filter (btw a b)) (fun p => p = l.filter (btw a b)) := by
 refine FcY.mk' Tryz.func121 rfl Tryz.ntmps121 rfl (fun t w => results_none Tryz.results121 t _ w) (fun idL lb ids B X Y => ?_)
 refine Run.seq (Run.reg [.p, .p, .p] ?_)
 refine .P rfl (q_loadI Tryz.isAgg27 rfl) <| .P rfl (q_lenI Tryz.underlying27 rfl) <| .mv rfl rfl <| .nil ?_
 refine Run.block ?_
 refine Run.loop (ι := filterBY_ok_L0 l a b) (fun sx => [(0, yv lb), (1, .iptr [sPosteds l]), (2, .iptr [.fn (.func 82) [] [.iptr [.i a], .iptr [.i b]]]), (6, sPosteds l), (7, .i l.length), (8, .i sx.pre.length)]) (fun sx => ([] ++ B sx.acc)) (fun sx => sx.rest.length) ⟨[], l, [], rfl, rfl⟩ ?_ ?_
 ·exact Le.mk (ps_ok (Y.has _) rfl) (.same rfl rfl (.same rfl rfl (.same rfl rfl (.same rfl rfl (.cons rfl Sub.intA rfl (.cons rfl Sub.intA rfl .nil)))))) (.tail (tail_ok (own := []) (own' := []) rfl (Y.free _) (Y.okb _)))
 ·rintro ⟨pre, rest, acc, hx, hacc⟩
  show Run _ _ _ _ [(0, yv lb), (1, .iptr [sPosteds l]), (2, .iptr [.fn (.func 82) [] [.iptr [.i a], .iptr [.i b]]]), (6, sPosteds l), (7, .i l.length), (8, .i pre.length)] ([] ++ B acc)
  have hl := congrArg List.length hx
  simp only [List.length_append] at hl
  rcases rest with _ | ⟨x, rest⟩
  ·skip
   refine Run.seq (Run.reg [.p] ?_)
   refine .P rfl (q_lss rfl rfl) <| .nil ?_
   refine Run.seq ?_
   refine Run.condF rfl (by simp at hl ⊢; omega) ?_
   refine Run.exit (tq_exit (bq_exit ?_))
   refine Run.nil ?_
   exact retY_fin (.inr rfl) (acc) (by rw [hacc, hx]; simp) (own_get (own := []) rfl (Y.free _))
  ·simp only [List.length_cons] at hl
   refine Run.seq (Run.reg [.p] ?_)
   refine .P rfl (q_lss rfl rfl) <| .nil ?_
   refine Run.seq ?_
   refine Run.condT rfl (by simp; omega) ?_
   refine Run.skip ?_
   refine Run.seq ?_
   refine Run.block ?_
   refine Run.seq (Run.reg [.p, .p, .w, .w] ?_)
   refine .P rfl (q_indexI Tryz.underlying27 Tryz.sizeOf39 rfl rfl (by omega) (idx_mid encPosted hx rfl)) <| .P rfl (q_loadIA Tryz.isAgg39 Tryz.sizeOf39 rfl rfl) <| .W rfl (q_alloc 8000 Tryz.zeroValue39 (Y.free _ 8000 (by decide) (by decide))) <| .W rfl (q_storeW Tryz.sizeOf39 rfl rfl rfl rfl rfl rfl) <| .nil ?_
   refine Run.seq (Run.regT ?_)
   refine Tx.q rfl trivial (q_loadI Tryz.isAgg69 rfl _) ?_
   refine Tx.q rfl trivial (q_loadW Tryz.isAgg39 Tryz.sizeOf39 rfl rfl rfl) ?_
   refine Tx.q rfl trivial (q_callF Tryz.call82 rfl rfl (btw_ok _ _ _) _) ?_
   refine Tx.q rfl trivial (q_move rfl _) ?_
   refine Tx.split (t := 15) rfl (fun h1 => ?_) (fun h1 => ?_)
   ·have ph1 := h1
    try simp only [bs, bne_iff_ne, ne_eq, List.length_map] at ph1
    refine Tx.q rfl (on_of rfl rfl rfl h1) (q_move rfl _) ?_
    refine Tx.q rfl (on_of rfl rfl rfl h1) (q_loadW Tryz.isAgg39 Tryz.sizeOf39 rfl rfl rfl) ?_
    refine Tx.weak (Le.mk (obs' := [] ++ B (acc)) (ps_ok (Y.has _) rfl) (show EnvLe _ _ [(0, _), (1, _), (2, _), (6, _), (7, _), (8, _), (9, _), (10, _), (11, _), (12, _), (13, _), (14, _), (15, _), (16, _), (17, _)] from (.same rfl rfl (.same rfl rfl (.same rfl rfl (.same rfl rfl (.same rfl rfl (.same rfl rfl (.same rfl rfl (.same rfl rfl (.same rfl rfl (.same rfl rfl (.same rfl rfl (.same rfl rfl (.same rfl rfl (.same rfl rfl (.same rfl rfl .nil)))))))))))))))) (.tail (tail_ok (own := [(8000, _)]) (own' := []) rfl (Y.free _) (Y.okb _)))) ?_
    refine Tx.y Y (own := []) (pre := acc) (env' := [(0, _), (1, _), (2, _), (6, _), (7, _), (8, _), (9, _), (10, _), (11, _), (12, _), (13, _), (14, _), (15, _), (16, _), (17, _)]) x rfl rfl rfl (on_of rfl rfl rfl h1) rfl rfl rfl (⟨rest.filter (btw a b), by rw [hacc, hx]; simp_all⟩) rfl rfl (.cons rfl rfl (.cons rfl rfl (.cons rfl rfl (.cons rfl rfl (.cons rfl rfl (.cons rfl rfl (.cons rfl rfl (.cons rfl rfl (.cons rfl rfl (.cons rfl rfl (.cons rfl rfl (.cons rfl rfl (.cons rfl rfl (.cons rfl rfl (.cons rfl rfl .nil))))))))))))))) ?_ (fun o hX => ?_)
    ·skip
     refine Tx.q rfl (on_of rfl rfl rfl h1) (q_not rfl _) ?_
     refine Tx.q rfl trivial (q_pickT rfl h1 rfl _) ?_
     refine Tx.nil ?_
     refine Run.condF rfl rfl ?_
     refine Run.skip ?_
     refine Run.nil (bq_norm ?_)
     refine Run.reg [.p, .p] ?_
     refine .P rfl (q_add rfl rfl (wrap64_ok (by omega) (by omega))) <| .mv rfl rfl <| .nil ?_
     refine Run.nil (tq_norm ?_)
     exact ⟨⟨pre ++ [x], rest, acc ++ [x], by simp [hx], by rw [hacc]; simp_all⟩, by simp, Le.mk (ps_ok (Y.has _) rfl) (.same rfl rfl (.same rfl rfl (.same rfl rfl (.same rfl rfl (.cons rfl Sub.intA rfl (.cons rfl Sub.intA rfl .nil)))))) (.tail (tail_ok (own := []) (own' := []) rfl (Y.free _) (Y.okb _)))⟩
    ·skip
     refine Tx.q rfl (on_of rfl rfl rfl h1) (q_not rfl _) ?_
     refine Tx.q rfl trivial (q_pickT rfl h1 rfl _) ?_
     refine Tx.nil ?_
     refine Run.condT rfl rfl ?_
     refine Run.ret (bq_ret (tq_ret (bq_ret (?_))))
     exact retY_x (.inl rfl) o hX (own_get (own := []) rfl (Y.freeX _ hX))
   ·have ph1 := h1
    try simp only [bs, bne_iff_ne, ne_eq, List.length_map] at ph1
    refine Tx.off rfl (off_of rfl rfl rfl h1) ?_
    refine Tx.off rfl (off_of rfl rfl rfl h1) ?_
    refine Tx.off rfl (off_of rfl rfl rfl h1) ?_
    refine Tx.off rfl (off_of rfl rfl rfl h1) ?_
    refine Tx.q rfl trivial (q_pickF rfl h1 rfl _) ?_
    refine Tx.nil ?_
    refine Run.condF rfl rfl ?_
    refine Run.skip ?_
    refine Run.nil (bq_norm ?_)
    refine Run.reg [.p, .p] ?_
    refine .P rfl (q_add rfl rfl (wrap64_ok (by omega) (by omega))) <| .mv rfl rfl <| .nil ?_
    refine Run.nil (tq_norm ?_)
    exact ⟨⟨pre ++ [x], rest, acc, by simp [hx], by rw [hacc]; simp_all⟩, by simp, Le.mk (ps_ok (Y.has _) rfl) (.same rfl rfl (.same rfl rfl (.same rfl rfl (.same rfl rfl (.cons rfl Sub.intA rfl (.cons rfl Sub.intA rfl .nil)))))) (.tail (tail_ok (own := [(8000, _)]) (own' := []) rfl (Y.free _) (Y.okb _)))⟩
theorem appendSeqB_ok (l : List Posted) (a b : Int) (hl : l.length ≤ 1000000) : Fc Tryz.prog 120 [.raw (.slice none 0 0), .fn (.func 121) [] [.iptr [sPosteds l], .iptr [.fn (.func 82) [] [.iptr [.i a], .iptr [.i b]]]]] (sPosteds (betwK a b l)) := by
 refine Fc.mk' [4] Tryz.func120 rfl Tryz.ntmps120 rfl rfl rfl (fun t w => results_tmp Tryz.results120 t _ w) ?_
 refine Run.seq (Run.reg [.w, .p] ?_)
 refine .W rfl (q_box1 0 rfl rfl rfl) <| .ag rfl rfl <| .nil ?_
 refine Run.seq (Run.seq (Run.reg [.p] ?_))
 refine .mv rfl rfl <| .nil ?_
 refine Run.block ?_
 refine Run.rangeF (α := Posted) 7900 [0] [(0, _), (1, _), (2, _), (4, _), (6, _)] (fun (pre : List (Posted)) => [(0, .cells [.gs 1 pre.length]), (1, .arr 6 (pre.map encPosted))]) (fun _ _ => False) rfl Tryz.call121 (filterBY_ok l a b hl) (env1 := [(0, _), (1, _), (2, _), (4, _), (6, _)]) ((Le.own0 1 6).trans <| (Le.subO 0 0 rfl rfl (Sub.gsNil 1)).trans <| Le.mk (obs' := [] ++ (fun (pre : List (Posted)) => [(0, .cells [.gs 1 pre.length]), (1, .arr 6 (pre.map encPosted))]) []) rfl (show EnvLe _ _ [(0, _), (1, _), (2, _), (4, _), (6, _)] from (.same rfl rfl (.same rfl rfl (.same rfl rfl (.same rfl rfl (.same rfl rfl .nil)))))) (.eq rfl (by first | rfl | (simp; done)) rfl (.eq rfl (by first | rfl | (simp; done)) rfl .nil))) rfl rfl (fun _ => rfl) (.cons rfl rfl (.cons rfl rfl (.cons rfl rfl (.cons rfl rfl (.cons rfl rfl .nil))))) rfl (fun _ => rfl) (by rintro j o h; exact h.elim) (fun _ => Obs.okB_get rfl) (by rintro j o h; exact h.elim) (fun _ => freeB_get rfl) (by rintro j o h; exact h.elim) (by decide) rfl (fun pre x hok => ?_) (fun xs hfin => ?_) (fun _ _ h => h.elim)
 ·skip
  have hpl := hok.length_le
  have hfl := List.length_filter_le (btw a b) l
  simp only [List.length_append, List.length_singleton] at hpl
  refine Run.reg [.w, .w] ?_
  refine .W rfl (q_alloc 2 Tryz.zeroValue39 rfl) <| .W rfl (q_storeW Tryz.sizeOf39 rfl rfl rfl rfl rfl rfl) <| .nil ?_
  refine Run.nil ⟨rfl, ?_⟩
  refine Run.block ?_
  refine Run.reg [.r, .r, .p, .w, .w] ?_
  refine .R rfl (q_load1 Tryz.isAgg27 rfl rfl rfl) <| .R rfl (q_loadW Tryz.isAgg39 Tryz.sizeOf39 rfl rfl rfl) <| .P rfl (q_buildSlice' (n := 1) (rows := [encPosted x]) Tryz.underlying27 Tryz.sizeOf39 rfl rfl rfl Tryz.zeroValue39 rfl rfl rfl rfl rfl rfl rfl) <| .W rfl (q_append 3 Tryz.underlying27 Tryz.underlying27 Tryz.sizeOf39 Tryz.typeInfo39 Tryz.zeroValue39 rfl (bt := 80) rfl rfl rfl rfl (by simp) rfl rfl (by simp; omega)) <| .W rfl (q_store1 Tryz.sizeOf27 rfl rfl rfl rfl (by first | (simp; done) | decide)) <| .nil ?_
  refine Run.nil (bq_norm ?_)
  refine Run.nil ?_
  exact ⟨rfl, (Le.mk (env' := []) (obs' := [(7900, _), (0, _), (3, _)]) rfl .nil (.cons (i := 7900) rfl rfl (.cons (i := 0) rfl rfl (.cons (i := 3) rfl rfl .nil)))).trans <| (Le.renO 0 0 3 1 rfl rfl rfl (by simp) rfl).trans <| Le.mk rfl .nil (.cons rfl rfl (.eq rfl (by first | rfl | (simp; done) | (simp; omega)) rfl (.eq rfl (by first | rfl | (simp; done) | (simp; omega)) rfl .nil)))⟩
 ·skip
  subst hfin
  refine Run.nil (bq_norm ?_)
  refine Run.seq (Run.reg [.r, .p] ?_)
  refine .R rfl (q_load1 Tryz.isAgg27 rfl rfl rfl) <| .ag rfl rfl <| .nil ?_
  refine Run.weak (Le.freeze 4 1 rfl rfl (by simp)) ?_
  refine Run.ret (?_)
  exact ret1 rfl (Sub.snap (by rfl))
theorem collectB_ok (l : List Posted) (a b : Int) (hl : l.length ≤ 1000000) : Fc Tryz.prog 64 [.fn (.func 121) [] [.iptr [sPosteds l], .iptr [.fn (.func 82) [] [.iptr [.i a], .iptr [.i b]]]]] (sPosteds (betwK a b l)) := by
 refine Fc.mk' [2] Tryz.func64 rfl Tryz.ntmps64 rfl rfl rfl (fun t w => results_tmp Tryz.results64 t _ w) ?_
 refine Run.seq (Run.reg [.p] ?_)
 refine .ag rfl rfl <| .nil ?_
 refine Run.seq (Run.reg [.p, .p, .p] ?_)
 refine .mv rfl rfl <| .P rfl (q_call Tryz.call120 rfl (appendSeqB_ok _ _ _ (by first | assumption | omega | (simp at *; omega)))) <| .ag rfl rfl <| .nil ?_
 refine Run.ret (?_)
 exact ret1 rfl (Sub.snap (by rfl))
theorem nil_b1 {l : List Posted} {a b : Int} (h : okPs l = false) : ([] : List (List D)) = List.map encPosted (if okPs l && decide (0 ≤ a) && decide (a ≤ b) then betwK a b l else []) := by simp [h]
theorem nil_b2 {l : List Posted} {a b : Int} (h : a < 0 ∨ b < a) : ([] : List (List D)) = List.map encPosted (if okPs l && decide (0 ≤ a) && decide (a ≤ b) then betwK a b l else []) := by
 rw [if_neg (by simp only [Bool.and_eq_true, decide_eq_true_eq]; omega)]; rfl
theorem between_ok (l : List Posted) (a b : Int) (hs : smallPs l) : Fc Tryz.prog 29 [sPosteds l, .i a, .i b] (.tup [sPosteds (if okPs l && decide (0 ≤ a) && decide (a ≤ b) then betwK a b l else []), .i (if okPs l then if a < 0 ∨ b < a then 2 else 0 else 1)]) := by
 refine Fc.mk' [6, 7] Tryz.func29 rfl Tryz.ntmps29 rfl rfl rfl (fun t w => results_tmp2 Tryz.results29 t _ w) ?_
 refine Run.seq (Run.reg [.w, .w, .p, .p] ?_)
 refine .W rfl (q_box1 0 rfl rfl rfl) <| .W rfl (q_box1 1 rfl rfl rfl) <| .ag rfl rfl <| .ag rfl rfl <| .nil ?_
 refine Run.seq ?_
 refine Run.block ?_
 refine Run.seq (Run.reg [.p, .p, .p, .p] ?_)
 refine .mv rfl rfl <| .P rfl (q_call Tryz.call67 rfl (postList_ok _ (by first | assumption | omega | (simp at *; omega)))) <| .P rfl (q_not rfl) <| .ag rfl rfl <| .nil ?_
 refine Run.cond rfl (fun h1 => ?_) (fun h1 => ?_)
 ·have ph1 := h1
  try simp only [bs, bne_iff_ne, ne_eq, List.length_map] at ph1
  refine Run.seq (Run.reg [.p, .p] ?_)
  refine .ag rfl rfl <| .ag rfl rfl <| .nil ?_
  refine Run.ret (bq_ret (?_))
  exact ret2 rfl rfl (by first | exact (Sub.nil _ false).trans (Sub.snap (nil_b1 (by simpa using ph1))) | exact (Sub.nil _ false).trans (Sub.snap (nil_b2 ph2))) (Sub.int (by first | (rw [show okPs l = false from by simpa using ph1]; rfl) | (simp only [show okPs l = true from by simpa using ph1, if_true, Bool.true_and]; first | rw [if_pos (by omega)] | rw [if_neg (by omega)] | rw [if_pos (by simp; omega)])))
 ·have ph1 := h1
  try simp only [bs, bne_iff_ne, ne_eq, List.length_map] at ph1
  have hok : okPs l = true := by simpa using ph1
  have hl1 : l.length ≤ 10000 := by have := hok; simp only [okPs, Bool.and_eq_true, decide_eq_true_eq] at this; exact this.1.1
  refine Run.seq (Run.reg [.r, .p, .p, .r, .r, .p, .p, .p] ?_)
  refine .R rfl (q_load1 Tryz.isAgg3 rfl rfl rfl) <| .P rfl (q_lss rfl rfl) <| .mv rfl rfl <| .gF rfl (.inr rfl) rfl rfl rfl (fun hg => rk (q_load1 Tryz.isAgg3 rfl rfl rfl)) <| .gF rfl (.inr rfl) rfl rfl rfl (fun hg => rk (q_load1 Tryz.isAgg3 rfl rfl rfl)) <| .gF rfl (.inl rfl) rfl rfl rfl (fun hg => pk (fun _ => q_gtr (opT rfl (nt hg)) (opT rfl (nt hg)) _)) <| .P rfl (q_or rfl rfl) <| .ag rfl rfl <| .nil ?_
  refine Run.cond rfl (fun h2 => ?_) (fun h2 => ?_)
  ·have ph2 := h2
   try simp only [bs, bne_iff_ne, ne_eq, List.length_map] at ph2
   refine Run.seq (Run.reg [.p, .p] ?_)
   refine .ag rfl rfl <| .ag rfl rfl <| .nil ?_
   refine Run.ret (bq_ret (?_))
   exact ret2 rfl rfl (by first | exact (Sub.nil _ false).trans (Sub.snap (nil_b1 (by simpa using ph1))) | exact (Sub.nil _ false).trans (Sub.snap (nil_b2 ph2))) (Sub.int (by first | (rw [show okPs l = false from by simpa using ph1]; rfl) | (simp only [show okPs l = true from by simpa using ph1, if_true, Bool.true_and]; first | rw [if_pos (by omega)] | rw [if_neg (by omega)] | rw [if_pos (by simp; omega)])))
  ·have ph2 := h2
   try simp only [bs, bne_iff_ne, ne_eq, List.length_map] at ph2
   refine Run.skip ?_
   refine Run.nil (bq_norm ?_)
   refine Run.weak (Le.freezeB 4 0 rfl rfl rfl rfl) ?_
   refine Run.weak (Le.freezeB 5 1 rfl rfl rfl rfl) ?_
   refine Run.seq (Run.reg [.p, .p, .p, .p, .p, .p] ?_)
   refine .mv rfl rfl <| .P rfl (q_makeFunc (xs := []) (ys := _) rfl rfl) <| .P rfl (q_call Tryz.call65 rfl (filterB_ok _ _ _)) <| .P rfl (q_call Tryz.call64 rfl (collectB_ok _ _ _ (by first | assumption | omega | (simp at *; omega)))) <| .ag rfl rfl <| .ag rfl rfl <| .nil ?_
   refine Run.ret (?_)
   exact ret2 rfl rfl (Sub.snap (by first | (rw [show okPs l = false from by simpa using ph1]; rfl) | (simp only [show okPs l = true from by simpa using ph1, if_true, Bool.true_and]; first | rw [if_pos (by omega)] | rw [if_neg (by omega)] | rw [if_pos (by simp; omega)]))) (Sub.int (by first | (rw [show okPs l = false from by simpa using ph1]; rfl) | (simp only [show okPs l = true from by simpa using ph1, if_true, Bool.true_and]; first | rw [if_pos (by omega)] | rw [if_neg (by omega)] | rw [if_pos (by simp; omega)])))
theorem growP_ok (n : Nat) (h0 : n ≠ 0) (hn : n ≤ 100000) : FcO Tryz.prog 83 [.raw (.slice none 0 0), .i n] [] (.gr 7800 0) [(7800, .res 6)] := by
 refine FcO.mk' [4] Tryz.func83 rfl Tryz.ntmps83 rfl rfl rfl (fun t w => results_tmp Tryz.results83 t _ w) ?_
 refine Run.seq (Run.reg [.p] ?_)
 refine .ag rfl rfl <| .nil ?_
 refine Run.seq (Run.seq (Run.reg [.p, .p] ?_))
 refine .mv rfl rfl <| .P rfl (q_lss rfl rfl) <| .nil ?_
 refine Run.condF rfl (by simp) ?_
 refine Run.skip ?_
 refine Run.seq (Run.seq (Run.reg [.p, .p, .p, .p, .p, .p, .p, .p] ?_))
 refine .mv rfl rfl <| .mv rfl rfl <| .P rfl (q_capNil Tryz.underlying27 rfl) <| .mv rfl rfl <| .P rfl (q_lenNil Tryz.underlying27 rfl) <| .P rfl (q_sub rfl rfl (wrap64_ok (by first | omega | (simp; done) | (simp; omega) | (simp at *; omega)) (by first | omega | (simp; done) | (simp; omega) | (simp at *; omega)))) <| .P rfl (q_sub rfl rfl (wrap64_ok (by first | omega | (simp; done) | (simp; omega) | (simp at *; omega)) (by first | omega | (simp; done) | (simp; omega) | (simp at *; omega)))) <| .ag rfl rfl <| .nil ?_
 refine Run.seq (Run.reg [.p, .p] ?_)
 refine .mv rfl rfl <| .P rfl (q_gtr rfl rfl) <| .nil ?_
 refine Run.condT rfl (by simp; omega) ?_
 refine Run.reg [.p, .p, .p, .p, .p, .w, .p, .p, .p, .p] ?_
 refine .mv rfl rfl <| .mv rfl rfl <| .P rfl (q_capNil Tryz.underlying27 rfl) <| .P rfl (q_sliceNil Tryz.underlying27 Tryz.sizeOf39 rfl rfl) <| .mv rfl rfl <| .W rfl (q_appendMake (n := n) (bt := 80) 7800 Tryz.underlying27 Tryz.underlying3 Tryz.sizeOf39 Tryz.typeInfo39 Tryz.zeroValue39 rfl (by decide) rfl rfl rfl (by simp) h0 (by omega) (by omega) rfl) <| .mv rfl rfl <| .P rfl (q_lenNil Tryz.underlying27 rfl) <| .P rfl (q_sliceGr Tryz.underlying27 Tryz.sizeOf39 rfl rfl) <| .ag rfl rfl <| .nil ?_
 refine Run.seq (Run.reg [.p, .p] ?_)
 refine .mv rfl rfl <| .ag rfl rfl <| .nil ?_
 refine Run.ret (?_)
 exact retO1 rfl (by exact Sub.refl _) (.eq rfl (by rfl) rfl .nil)
theorem growP0_ok  : Fc Tryz.prog 83 [.raw (.slice none 0 0), .i 0] (.raw (.slice none 0 0)) := by
 refine Fc.mk' [4] Tryz.func83 rfl Tryz.ntmps83 rfl rfl rfl (fun t w => results_tmp Tryz.results83 t _ w) ?_
 refine Run.seq (Run.reg [.p] ?_)
 refine .ag rfl rfl <| .nil ?_
 refine Run.seq (Run.seq (Run.reg [.p, .p] ?_))
 refine .mv rfl rfl <| .P rfl (q_lss rfl rfl) <| .nil ?_
 refine Run.condF rfl (rfl) ?_
 refine Run.skip ?_
 refine Run.seq (Run.seq (Run.reg [.p, .p, .p, .p, .p, .p, .p, .p] ?_))
 refine .mv rfl rfl <| .mv rfl rfl <| .P rfl (q_capNil Tryz.underlying27 rfl) <| .mv rfl rfl <| .P rfl (q_lenNil Tryz.underlying27 rfl) <| .P rfl (q_sub rfl rfl (wrap64_ok (by first | omega | (simp; done) | (simp; omega) | (simp at *; omega)) (by first | omega | (simp; done) | (simp; omega) | (simp at *; omega)))) <| .P rfl (q_sub rfl rfl (wrap64_ok (by first | omega | (simp; done) | (simp; omega) | (simp at *; omega)) (by first | omega | (simp; done) | (simp; omega) | (simp at *; omega)))) <| .ag rfl rfl <| .nil ?_
 refine Run.seq (Run.reg [.p, .p] ?_)
 refine .mv rfl rfl <| .P rfl (q_gtr rfl rfl) <| .nil ?_
 refine Run.condF rfl (rfl) ?_
 refine Run.skip ?_
 refine Run.seq (Run.reg [.p, .p] ?_)
 refine .mv rfl rfl <| .ag rfl rfl <| .nil ?_
 refine Run.ret (?_)
 exact ret1 rfl (by exact Sub.refl _)
structure concatPA_ok_L0 (a b : List Posted) where
 k : Nat
 hk : k ≤ 2
structure concatPA_ok_L1 (a b : List Posted) where
 k : Nat
 hk : k ≤ 2
theorem concatPA_ok (a b : List Posted) (hal : a.length ≤ 1000) (hbl : b.length ≤ 1000) (h0 : a.length ≠ 0) : Fc Tryz.prog 30 [.snap 1 true [[sPosteds a], [sPosteds b]]] (sPosteds (a ++ b)) := by
 refine Fc.mk' [2] Tryz.func30 rfl Tryz.ntmps30 rfl rfl rfl (fun t w => results_tmp Tryz.results30 t _ w) ?_
 refine Run.seq (Run.reg [.p] ?_)
 refine .ag rfl rfl <| .nil ?_
 refine Run.seq (Run.reg [.p] ?_)
 refine .ag rfl rfl <| .nil ?_
 refine Run.seq (Run.seq (Run.reg [.p, .p, .p] ?_))
 refine .mv rfl rfl <| .P rfl (q_lenI Tryz.underlying121 rfl) <| .mv rfl rfl <| .nil ?_
 refine Run.block ?_
 refine Run.loop (ι := concatPA_ok_L0 a b) (fun sx => [(0, .snap 1 true [[sPosteds a], [sPosteds b]]), (3, .i (sel sx.k 0 (a.length : Int) ((a.length : Int) + b.length))), (9, .snap 1 true [[sPosteds a], [sPosteds b]]), (10, .i 2), (11, .i sx.k)]) (fun sx => []) (fun sx => 2 - sx.k) ⟨0, by omega⟩ ?_ ?_
 ·exact Le.mk rfl (.same rfl rfl (.cons rfl (Sub.int (by first | rfl | (simp [sel]; done) | (simp [sel]; omega))) rfl (.same rfl rfl (.cons rfl Sub.intA rfl (.cons rfl Sub.intA rfl .nil))))) .nil
 ·rintro ⟨k, hk⟩
  show Run _ _ _ _ [(0, .snap 1 true [[sPosteds a], [sPosteds b]]), (3, .i (sel k 0 (a.length : Int) ((a.length : Int) + b.length))), (9, .snap 1 true [[sPosteds a], [sPosteds b]]), (10, .i 2), (11, .i k)] []
  rcases k with _ | _ | _ | k
  ·dsimp only [sel]
   refine Run.seq (Run.reg [.p] ?_)
   refine .P rfl (q_lss rfl rfl) <| .nil ?_
   refine Run.seq ?_
   refine Run.condT rfl (rfl) ?_
   refine Run.skip ?_
   refine Run.seq ?_
   refine Run.block ?_
   refine Run.seq (Run.reg [.p, .p, .p] ?_)
   refine .P rfl (q_indexI Tryz.underlying121 Tryz.sizeOf27 rfl rfl (by decide) rfl) <| .P rfl (q_loadI Tryz.isAgg27 rfl) <| .ag rfl rfl <| .nil ?_
   refine Run.seq (Run.reg [.p, .p, .p, .p, .p] ?_)
   refine .mv rfl rfl <| .mv rfl rfl <| .P rfl (q_lenI Tryz.underlying27 rfl) <| .P rfl (q_add rfl rfl (wrap64_ok (by first | omega | (simp; done) | (simp; omega) | (simp at *; omega)) (by first | omega | (simp; done) | (simp; omega) | (simp at *; omega)))) <| .ag rfl rfl <| .nil ?_
   refine Run.seq (Run.reg [.p, .p] ?_)
   refine .mv rfl rfl <| .P rfl (q_lss rfl rfl) <| .nil ?_
   refine Run.condF rfl (by simp) ?_
   refine Run.skip ?_
   refine Run.nil (bq_norm ?_)
   refine Run.reg [.p, .p] ?_
   refine .P rfl (q_add rfl rfl (wrap64_ok (by first | omega | (simp; done) | (simp; omega) | (simp at *; omega)) (by first | omega | (simp; done) | (simp; omega) | (simp at *; omega)))) <| .mv rfl rfl <| .nil ?_
   refine Run.nil (tq_norm ?_)
   exact ⟨⟨1, by omega⟩, by dsimp only; omega, Le.mk rfl (.same rfl rfl (.cons rfl (Sub.int (by first | rfl | (simp [sel]; done) | (simp [sel]; omega))) rfl (.same rfl rfl (.cons rfl Sub.intA rfl (.cons rfl Sub.intA rfl .nil))))) .nil⟩
  ·dsimp only [sel]
   refine Run.seq (Run.reg [.p] ?_)
   refine .P rfl (q_lss rfl rfl) <| .nil ?_
   refine Run.seq ?_
   refine Run.condT rfl (rfl) ?_
   refine Run.skip ?_
   refine Run.seq ?_
   refine Run.block ?_
   refine Run.seq (Run.reg [.p, .p, .p] ?_)
   refine .P rfl (q_indexI Tryz.underlying121 Tryz.sizeOf27 rfl rfl (by decide) rfl) <| .P rfl (q_loadI Tryz.isAgg27 rfl) <| .ag rfl rfl <| .nil ?_
   refine Run.seq (Run.reg [.p, .p, .p, .p, .p] ?_)
   refine .mv rfl rfl <| .mv rfl rfl <| .P rfl (q_lenI Tryz.underlying27 rfl) <| .P rfl (q_add rfl rfl (wrap64_ok (by first | omega | (simp; done) | (simp; omega) | (simp at *; omega)) (by first | omega | (simp; done) | (simp; omega) | (simp at *; omega)))) <| .ag rfl rfl <| .nil ?_
   refine Run.seq (Run.reg [.p, .p] ?_)
   refine .mv rfl rfl <| .P rfl (q_lss rfl rfl) <| .nil ?_
   refine Run.condF rfl (by simp; omega) ?_
   refine Run.skip ?_
   refine Run.nil (bq_norm ?_)
   refine Run.reg [.p, .p] ?_
   refine .P rfl (q_add rfl rfl (wrap64_ok (by first | omega | (simp; done) | (simp; omega) | (simp at *; omega)) (by first | omega | (simp; done) | (simp; omega) | (simp at *; omega)))) <| .mv rfl rfl <| .nil ?_
   refine Run.nil (tq_norm ?_)
   exact ⟨⟨2, by omega⟩, by dsimp only; omega, Le.mk rfl (.same rfl rfl (.cons rfl (Sub.int (by first | rfl | (simp [sel]; done) | (simp [sel]; omega))) rfl (.same rfl rfl (.cons rfl Sub.intA rfl (.cons rfl Sub.intA rfl .nil))))) .nil⟩
  ·dsimp only [sel]
   refine Run.seq (Run.reg [.p] ?_)
   refine .P rfl (q_lss rfl rfl) <| .nil ?_
   refine Run.seq ?_
   refine Run.condF rfl (rfl) ?_
   refine Run.exit (tq_exit (bq_exit ?_))
   refine Run.seq (Run.reg [.p, .w, .p] ?_)
   refine .mv rfl rfl <| .W rfl (q_callO Tryz.call83 rfl (growP_ok (a.length + b.length) (by omega) (by omega)) .nil rfl rfl) <| .ag rfl rfl <| .nil ?_
   refine Run.seq (Run.seq (Run.reg [.p, .p, .p] ?_))
   refine .mv rfl rfl <| .P rfl (q_lenI Tryz.underlying121 rfl) <| .mv rfl rfl <| .nil ?_
   refine Run.block ?_
   refine Run.loop (ι := concatPA_ok_L1 a b) (fun sx => [(6, (sel sx.k (.gr 7800 0) (.gs 7801 a.length) (.gs 7801 (a.length + b.length)))), (25, .snap 1 true [[sPosteds a], [sPosteds b]]), (26, .i 2), (27, .i sx.k)]) (fun sx => [(7800, (sel sx.k (.res 6) (.dead) .dead)), (7801, .arr 6 (sel sx.k [] (a.map encPosted) (a.map encPosted ++ b.map encPosted)))]) (fun sx => 2 - sx.k) ⟨0, by omega⟩ ?_ ?_
   ·exact (Le.own0 7801 6).trans <| Le.mk rfl (.cons rfl (by first | exact Sub.refl _ | exact Sub.gsE rfl (by simp)) rfl (.same rfl rfl (.cons rfl Sub.intA rfl (.cons rfl Sub.intA rfl .nil)))) (.eq rfl (by first | rfl | (simp [sel]; done)) rfl (.arr rfl (by first | rfl | (simp [sel]; done)) .nil))
   ·rintro ⟨k, hk⟩
    show Run _ _ _ _ [(6, (sel k (.gr 7800 0) (.gs 7801 a.length) (.gs 7801 (a.length + b.length)))), (25, .snap 1 true [[sPosteds a], [sPosteds b]]), (26, .i 2), (27, .i k)] [(7800, (sel k (.res 6) (.dead) .dead)), (7801, .arr 6 (sel k [] (a.map encPosted) (a.map encPosted ++ b.map encPosted)))]
    rcases k with _ | _ | _ | k
    ·dsimp only [sel]
     refine Run.seq (Run.reg [.p] ?_)
     refine .P rfl (q_lss rfl rfl) <| .nil ?_
     refine Run.seq ?_
     refine Run.condT rfl (rfl) ?_
     refine Run.skip ?_
     refine Run.seq ?_
     refine Run.block ?_
     refine Run.seq (Run.reg [.p, .p, .p] ?_)
     refine .P rfl (q_indexI Tryz.underlying121 Tryz.sizeOf27 rfl rfl (by decide) rfl) <| .P rfl (q_loadI Tryz.isAgg27 rfl) <| .ag rfl rfl <| .nil ?_
     refine Run.reg [.p, .p, .w, .p] ?_
     refine .mv rfl rfl <| .mv rfl rfl <| .W rfl (q_appendGr (bt := 80) 7802 Tryz.underlying27 Tryz.underlying27 Tryz.sizeOf39 Tryz.typeInfo39 Tryz.zeroValue39 rfl rfl rfl rfl rfl rfl (by simp; intro h; simp [h] at *) rfl (by simp; omega)) <| .ag rfl rfl <| .nil ?_
     refine Run.nil (bq_norm ?_)
     refine Run.reg [.p, .p] ?_
     refine .P rfl (q_add rfl rfl (wrap64_ok (by first | omega | (simp; done) | (simp; omega) | (simp at *; omega)) (by first | omega | (simp; done) | (simp; omega) | (simp at *; omega)))) <| .mv rfl rfl <| .nil ?_
     refine Run.nil (tq_norm ?_)
     exact ⟨⟨1, by omega⟩, by dsimp only; omega, (Le.mk (obs' := [(7800, _), (7802, _)]) rfl (show EnvLe _ _ [(6, _), (25, _), (26, _), (27, _)] from (.same rfl rfl (.same rfl rfl (.same rfl rfl (.same rfl rfl .nil))))) (.cons (i := 7800) rfl rfl (.cons (i := 7802) rfl rfl .nil))).trans <| (Le.ren 6 7802 7801 rfl rfl (by simp) rfl).trans <| Le.mk rfl (.cons rfl (by first | exact Sub.refl _ | exact Sub.gsE rfl (by simp)) rfl (.same rfl rfl (.cons rfl Sub.intA rfl (.cons rfl Sub.intA rfl .nil)))) (.eq rfl (by first | rfl | (simp [sel]; done)) rfl (.arr rfl (by first | rfl | (simp [sel]; done)) .nil))⟩
    ·dsimp only [sel]
     refine Run.seq (Run.reg [.p] ?_)
     refine .P rfl (q_lss rfl rfl) <| .nil ?_
     refine Run.seq ?_
     refine Run.condT rfl (rfl) ?_
     refine Run.skip ?_
     refine Run.seq ?_
     refine Run.block ?_
     refine Run.seq (Run.reg [.p, .p, .p] ?_)
     refine .P rfl (q_indexI Tryz.underlying121 Tryz.sizeOf27 rfl rfl (by decide) rfl) <| .P rfl (q_loadI Tryz.isAgg27 rfl) <| .ag rfl rfl <| .nil ?_
     refine Run.reg [.p, .p, .w, .p] ?_
     refine .mv rfl rfl <| .mv rfl rfl <| .W rfl (q_append 7802 Tryz.underlying27 Tryz.underlying27 Tryz.sizeOf39 Tryz.typeInfo39 Tryz.zeroValue39 rfl (bt := 80) rfl rfl rfl rfl (by simp) rfl rfl (by simp; omega)) <| .ag rfl rfl <| .nil ?_
     refine Run.nil (bq_norm ?_)
     refine Run.reg [.p, .p] ?_
     refine .P rfl (q_add rfl rfl (wrap64_ok (by first | omega | (simp; done) | (simp; omega) | (simp at *; omega)) (by first | omega | (simp; done) | (simp; omega) | (simp at *; omega)))) <| .mv rfl rfl <| .nil ?_
     refine Run.nil (tq_norm ?_)
     exact ⟨⟨2, by omega⟩, by dsimp only; omega, (Le.mk (obs' := [(7800, _), (7802, _)]) rfl (show EnvLe _ _ [(6, _), (25, _), (26, _), (27, _)] from (.same rfl rfl (.same rfl rfl (.same rfl rfl (.same rfl rfl .nil))))) (.cons (i := 7800) rfl rfl (.cons (i := 7802) rfl rfl .nil))).trans <| (Le.ren 6 7802 7801 rfl rfl (by simp) rfl).trans <| Le.mk rfl (.cons rfl (by first | exact Sub.refl _ | exact Sub.gsE rfl (by simp)) rfl (.same rfl rfl (.cons rfl Sub.intA rfl (.cons rfl Sub.intA rfl .nil)))) (.eq rfl (by first | rfl | (simp [sel]; done)) rfl (.arr rfl (by first | rfl | (simp [sel]; done)) .nil))⟩
    ·dsimp only [sel]
     refine Run.seq (Run.reg [.p] ?_)
     refine .P rfl (q_lss rfl rfl) <| .nil ?_
     refine Run.seq ?_
     refine Run.condF rfl (rfl) ?_
     refine Run.exit (tq_exit (bq_exit ?_))
     refine Run.seq (Run.reg [.p, .p] ?_)
     refine .mv rfl rfl <| .ag rfl rfl <| .nil ?_
     refine Run.weak (Le.freeze 2 7801 rfl rfl (by simp)) ?_
     refine Run.ret (?_)
     exact ret1 rfl (Sub.snap (by simp))
    ·omega
  ·omega
structure concatPB_ok_L0 (b : List Posted) where
 k : Nat
 hk : k ≤ 2
structure concatPB_ok_L1 (b : List Posted) where
 k : Nat
 hk : k ≤ 2
theorem concatPB_ok (b : List Posted) (hbl : b.length ≤ 1000) (h0 : b.length ≠ 0) : Fc Tryz.prog 30 [.snap 1 true [[sPosteds ([] : List Posted)], [sPosteds b]]] (sPosteds b) := by
 refine Fc.mk' [2] Tryz.func30 rfl Tryz.ntmps30 rfl rfl rfl (fun t w => results_tmp Tryz.results30 t _ w) ?_
 refine Run.seq (Run.reg [.p] ?_)
 refine .ag rfl rfl <| .nil ?_
 refine Run.seq (Run.reg [.p] ?_)
 refine .ag rfl rfl <| .nil ?_
 refine Run.seq (Run.seq (Run.reg [.p, .p, .p] ?_))
 refine .mv rfl rfl <| .P rfl (q_lenI Tryz.underlying121 rfl) <| .mv rfl rfl <| .nil ?_
 refine Run.block ?_
 refine Run.loop (ι := concatPB_ok_L0 b) (fun sx => [(0, .snap 1 true [[sPosteds ([] : List Posted)], [sPosteds b]]), (3, .i (sel sx.k 0 0 (b.length : Int))), (9, .snap 1 true [[sPosteds ([] : List Posted)], [sPosteds b]]), (10, .i 2), (11, .i sx.k)]) (fun sx => []) (fun sx => 2 - sx.k) ⟨0, by omega⟩ ?_ ?_
 ·exact Le.mk rfl (.same rfl rfl (.cons rfl (Sub.int (by first | rfl | (simp [sel]; done) | (simp [sel]; omega))) rfl (.same rfl rfl (.cons rfl Sub.intA rfl (.cons rfl Sub.intA rfl .nil))))) .nil
 ·rintro ⟨k, hk⟩
  show Run _ _ _ _ [(0, .snap 1 true [[sPosteds ([] : List Posted)], [sPosteds b]]), (3, .i (sel k 0 0 (b.length : Int))), (9, .snap 1 true [[sPosteds ([] : List Posted)], [sPosteds b]]), (10, .i 2), (11, .i k)] []
  rcases k with _ | _ | _ | k
  ·dsimp only [sel]
   refine Run.seq (Run.reg [.p] ?_)
   refine .P rfl (q_lss rfl rfl) <| .nil ?_
   refine Run.seq ?_
   refine Run.condT rfl (rfl) ?_
   refine Run.skip ?_
   refine Run.seq ?_
   refine Run.block ?_
   refine Run.seq (Run.reg [.p, .p, .p] ?_)
   refine .P rfl (q_indexI Tryz.underlying121 Tryz.sizeOf27 rfl rfl (by decide) rfl) <| .P rfl (q_loadI Tryz.isAgg27 rfl) <| .ag rfl rfl <| .nil ?_
   refine Run.seq (Run.reg [.p, .p, .p, .p, .p] ?_)
   refine .mv rfl rfl <| .mv rfl rfl <| .P rfl (q_lenI Tryz.underlying27 rfl) <| .P rfl (q_add rfl rfl (wrap64_ok (by first | omega | (simp; done) | (simp; omega) | (simp at *; omega)) (by first | omega | (simp; done) | (simp; omega) | (simp at *; omega)))) <| .ag rfl rfl <| .nil ?_
   refine Run.seq (Run.reg [.p, .p] ?_)
   refine .mv rfl rfl <| .P rfl (q_lss rfl rfl) <| .nil ?_
   refine Run.condF rfl (by simp) ?_
   refine Run.skip ?_
   refine Run.nil (bq_norm ?_)
   refine Run.reg [.p, .p] ?_
   refine .P rfl (q_add rfl rfl (wrap64_ok (by first | omega | (simp; done) | (simp; omega) | (simp at *; omega)) (by first | omega | (simp; done) | (simp; omega) | (simp at *; omega)))) <| .mv rfl rfl <| .nil ?_
   refine Run.nil (tq_norm ?_)
   exact ⟨⟨1, by omega⟩, by dsimp only; omega, Le.mk rfl (.same rfl rfl (.cons rfl (Sub.int (by first | rfl | (simp [sel]; done) | (simp [sel]; omega))) rfl (.same rfl rfl (.cons rfl Sub.intA rfl (.cons rfl Sub.intA rfl .nil))))) .nil⟩
  ·dsimp only [sel]
   refine Run.seq (Run.reg [.p] ?_)
   refine .P rfl (q_lss rfl rfl) <| .nil ?_
   refine Run.seq ?_
   refine Run.condT rfl (rfl) ?_
   refine Run.skip ?_
   refine Run.seq ?_
   refine Run.block ?_
   refine Run.seq (Run.reg [.p, .p, .p] ?_)
   refine .P rfl (q_indexI Tryz.underlying121 Tryz.sizeOf27 rfl rfl (by decide) rfl) <| .P rfl (q_loadI Tryz.isAgg27 rfl) <| .ag rfl rfl <| .nil ?_
   refine Run.seq (Run.reg [.p, .p, .p, .p, .p] ?_)
   refine .mv rfl rfl <| .mv rfl rfl <| .P rfl (q_lenI Tryz.underlying27 rfl) <| .P rfl (q_add rfl rfl (wrap64_ok (by first | omega | (simp; done) | (simp; omega) | (simp at *; omega)) (by first | omega | (simp; done) | (simp; omega) | (simp at *; omega)))) <| .ag rfl rfl <| .nil ?_
   refine Run.seq (Run.reg [.p, .p] ?_)
   refine .mv rfl rfl <| .P rfl (q_lss rfl rfl) <| .nil ?_
   refine Run.condF rfl (by simp) ?_
   refine Run.skip ?_
   refine Run.nil (bq_norm ?_)
   refine Run.reg [.p, .p] ?_
   refine .P rfl (q_add rfl rfl (wrap64_ok (by first | omega | (simp; done) | (simp; omega) | (simp at *; omega)) (by first | omega | (simp; done) | (simp; omega) | (simp at *; omega)))) <| .mv rfl rfl <| .nil ?_
   refine Run.nil (tq_norm ?_)
   exact ⟨⟨2, by omega⟩, by dsimp only; omega, Le.mk rfl (.same rfl rfl (.cons rfl (Sub.int (by first | rfl | (simp [sel]; done) | (simp [sel]; omega))) rfl (.same rfl rfl (.cons rfl Sub.intA rfl (.cons rfl Sub.intA rfl .nil))))) .nil⟩
  ·dsimp only [sel]
   refine Run.seq (Run.reg [.p] ?_)
   refine .P rfl (q_lss rfl rfl) <| .nil ?_
   refine Run.seq ?_
   refine Run.condF rfl (rfl) ?_
   refine Run.exit (tq_exit (bq_exit ?_))
   refine Run.seq (Run.reg [.p, .w, .p] ?_)
   refine .mv rfl rfl <| .W rfl (q_callO Tryz.call83 rfl (growP_ok b.length h0 (by omega)) .nil rfl rfl) <| .ag rfl rfl <| .nil ?_
   refine Run.seq (Run.seq (Run.reg [.p, .p, .p] ?_))
   refine .mv rfl rfl <| .P rfl (q_lenI Tryz.underlying121 rfl) <| .mv rfl rfl <| .nil ?_
   refine Run.block ?_
   refine Run.loop (ι := concatPB_ok_L1 b) (fun sx => [(6, (sel sx.k (.gr 7800 0) (.gr 7800 0) (.gs 7801 b.length))), (25, .snap 1 true [[sPosteds ([] : List Posted)], [sPosteds b]]), (26, .i 2), (27, .i sx.k)]) (fun sx => [(7800, (sel sx.k (.res 6) (.res 6) .dead)), (7801, .arr 6 (sel sx.k [] [] (b.map encPosted)))]) (fun sx => 2 - sx.k) ⟨0, by omega⟩ ?_ ?_
   ·exact (Le.own0 7801 6).trans <| Le.mk rfl (.cons rfl (by first | exact Sub.refl _ | exact Sub.gsE rfl (by simp)) rfl (.same rfl rfl (.cons rfl Sub.intA rfl (.cons rfl Sub.intA rfl .nil)))) (.eq rfl (by first | rfl | (simp [sel]; done)) rfl (.arr rfl (by first | rfl | (simp [sel]; done)) .nil))
   ·rintro ⟨k, hk⟩
    show Run _ _ _ _ [(6, (sel k (.gr 7800 0) (.gr 7800 0) (.gs 7801 b.length))), (25, .snap 1 true [[sPosteds ([] : List Posted)], [sPosteds b]]), (26, .i 2), (27, .i k)] [(7800, (sel k (.res 6) (.res 6) .dead)), (7801, .arr 6 (sel k [] [] (b.map encPosted)))]
    rcases k with _ | _ | _ | k
    ·dsimp only [sel]
     refine Run.seq (Run.reg [.p] ?_)
     refine .P rfl (q_lss rfl rfl) <| .nil ?_
     refine Run.seq ?_
     refine Run.condT rfl (rfl) ?_
     refine Run.skip ?_
     refine Run.seq ?_
     refine Run.block ?_
     refine Run.seq (Run.reg [.p, .p, .p] ?_)
     refine .P rfl (q_indexI Tryz.underlying121 Tryz.sizeOf27 rfl rfl (by decide) rfl) <| .P rfl (q_loadI Tryz.isAgg27 rfl) <| .ag rfl rfl <| .nil ?_
     refine Run.reg [.p, .p, .p, .p] ?_
     refine .mv rfl rfl <| .mv rfl rfl <| .P rfl (q_appendGr0 Tryz.underlying27 Tryz.underlying27 Tryz.sizeOf39 rfl rfl) <| .ag rfl rfl <| .nil ?_
     refine Run.nil (bq_norm ?_)
     refine Run.reg [.p, .p] ?_
     refine .P rfl (q_add rfl rfl (wrap64_ok (by first | omega | (simp; done) | (simp; omega) | (simp at *; omega)) (by first | omega | (simp; done) | (simp; omega) | (simp at *; omega)))) <| .mv rfl rfl <| .nil ?_
     refine Run.nil (tq_norm ?_)
     exact ⟨⟨1, by omega⟩, by dsimp only; omega, Le.mk rfl (.cons rfl (by first | exact Sub.refl _ | exact Sub.gsE rfl (by simp)) rfl (.same rfl rfl (.cons rfl Sub.intA rfl (.cons rfl Sub.intA rfl .nil)))) (.eq rfl (by first | rfl | (simp [sel]; done)) rfl (.arr rfl (by first | rfl | (simp [sel]; done)) .nil))⟩
    ·dsimp only [sel]
     refine Run.seq (Run.reg [.p] ?_)
     refine .P rfl (q_lss rfl rfl) <| .nil ?_
     refine Run.seq ?_
     refine Run.condT rfl (rfl) ?_
     refine Run.skip ?_
     refine Run.seq ?_
     refine Run.block ?_
     refine Run.seq (Run.reg [.p, .p, .p] ?_)
     refine .P rfl (q_indexI Tryz.underlying121 Tryz.sizeOf27 rfl rfl (by decide) rfl) <| .P rfl (q_loadI Tryz.isAgg27 rfl) <| .ag rfl rfl <| .nil ?_
     refine Run.reg [.p, .p, .w, .p] ?_
     refine .mv rfl rfl <| .mv rfl rfl <| .W rfl (q_appendGr (bt := 80) 7802 Tryz.underlying27 Tryz.underlying27 Tryz.sizeOf39 Tryz.typeInfo39 Tryz.zeroValue39 rfl rfl rfl rfl rfl rfl (by simp; intro h; simp [h] at *) rfl (by simp; omega)) <| .ag rfl rfl <| .nil ?_
     refine Run.nil (bq_norm ?_)
     refine Run.reg [.p, .p] ?_
     refine .P rfl (q_add rfl rfl (wrap64_ok (by first | omega | (simp; done) | (simp; omega) | (simp at *; omega)) (by first | omega | (simp; done) | (simp; omega) | (simp at *; omega)))) <| .mv rfl rfl <| .nil ?_
     refine Run.nil (tq_norm ?_)
     exact ⟨⟨2, by omega⟩, by dsimp only; omega, (Le.mk (obs' := [(7800, _), (7802, _)]) rfl (show EnvLe _ _ [(6, _), (25, _), (26, _), (27, _)] from (.same rfl rfl (.same rfl rfl (.same rfl rfl (.same rfl rfl .nil))))) (.cons (i := 7800) rfl rfl (.cons (i := 7802) rfl rfl .nil))).trans <| (Le.ren 6 7802 7801 rfl rfl (by simp) rfl).trans <| Le.mk rfl (.cons rfl (by first | exact Sub.refl _ | exact Sub.gsE rfl (by simp)) rfl (.same rfl rfl (.cons rfl Sub.intA rfl (.cons rfl Sub.intA rfl .nil)))) (.eq rfl (by first | rfl | (simp [sel]; done)) rfl (.arr rfl (by first | rfl | (simp [sel]; done)) .nil))⟩
    ·dsimp only [sel]
     refine Run.seq (Run.reg [.p] ?_)
     refine .P rfl (q_lss rfl rfl) <| .nil ?_
     refine Run.seq ?_
     refine Run.condF rfl (rfl) ?_
     refine Run.exit (tq_exit (bq_exit ?_))
     refine Run.seq (Run.reg [.p, .p] ?_)
     refine .mv rfl rfl <| .ag rfl rfl <| .nil ?_
     refine Run.weak (Le.freeze 2 7801 rfl rfl (by simp)) ?_
     refine Run.ret (?_)
     exact ret1 rfl (Sub.snap (by simp))
    ·omega
  ·omega
structure concatP0_ok_L0  where
 k : Nat
 hk : k ≤ 2
structure concatP0_ok_L1  where
 k : Nat
 hk : k ≤ 2
theorem concatP0_ok  : Fc Tryz.prog 30 [.snap 1 true [[sPosteds ([] : List Posted)], [sPosteds ([] : List Posted)]]] (sPosteds []) := by
 refine Fc.mk' [2] Tryz.func30 rfl Tryz.ntmps30 rfl rfl rfl (fun t w => results_tmp Tryz.results30 t _ w) ?_
 refine Run.seq (Run.reg [.p] ?_)
 refine .ag rfl rfl <| .nil ?_
 refine Run.seq (Run.reg [.p] ?_)
 refine .ag rfl rfl <| .nil ?_
 refine Run.seq (Run.seq (Run.reg [.p, .p, .p] ?_))
 refine .mv rfl rfl <| .P rfl (q_lenI Tryz.underlying121 rfl) <| .mv rfl rfl <| .nil ?_
 refine Run.block ?_
 refine Run.loop (ι := concatP0_ok_L0) (fun sx => [(0, .snap 1 true [[sPosteds ([] : List Posted)], [sPosteds ([] : List Posted)]]), (3, .i 0), (9, .snap 1 true [[sPosteds ([] : List Posted)], [sPosteds ([] : List Posted)]]), (10, .i 2), (11, .i sx.k)]) (fun sx => []) (fun sx => 2 - sx.k) ⟨0, by omega⟩ ?_ ?_
 ·exact Le.mk rfl (.same rfl rfl (.cons rfl Sub.intA rfl (.same rfl rfl (.cons rfl Sub.intA rfl (.cons rfl Sub.intA rfl .nil))))) .nil
 ·rintro ⟨k, hk⟩
  show Run _ _ _ _ [(0, .snap 1 true [[sPosteds ([] : List Posted)], [sPosteds ([] : List Posted)]]), (3, .i 0), (9, .snap 1 true [[sPosteds ([] : List Posted)], [sPosteds ([] : List Posted)]]), (10, .i 2), (11, .i k)] []
  rcases k with _ | _ | _ | k
  ·skip
   refine Run.seq (Run.reg [.p] ?_)
   refine .P rfl (q_lss rfl rfl) <| .nil ?_
   refine Run.seq ?_
   refine Run.condT rfl (rfl) ?_
   refine Run.skip ?_
   refine Run.seq ?_
   refine Run.block ?_
   refine Run.seq (Run.reg [.p, .p, .p] ?_)
   refine .P rfl (q_indexI Tryz.underlying121 Tryz.sizeOf27 rfl rfl (by decide) rfl) <| .P rfl (q_loadI Tryz.isAgg27 rfl) <| .ag rfl rfl <| .nil ?_
   refine Run.seq (Run.reg [.p, .p, .p, .p, .p] ?_)
   refine .mv rfl rfl <| .mv rfl rfl <| .P rfl (q_lenI Tryz.underlying27 rfl) <| .P rfl (q_add rfl rfl (wrap64_ok (by first | omega | (simp; done) | (simp; omega) | (simp at *; omega)) (by first | omega | (simp; done) | (simp; omega) | (simp at *; omega)))) <| .ag rfl rfl <| .nil ?_
   refine Run.seq (Run.reg [.p, .p] ?_)
   refine .mv rfl rfl <| .P rfl (q_lss rfl rfl) <| .nil ?_
   refine Run.condF rfl (by simp) ?_
   refine Run.skip ?_
   refine Run.nil (bq_norm ?_)
   refine Run.reg [.p, .p] ?_
   refine .P rfl (q_add rfl rfl (wrap64_ok (by first | omega | (simp; done) | (simp; omega) | (simp at *; omega)) (by first | omega | (simp; done) | (simp; omega) | (simp at *; omega)))) <| .mv rfl rfl <| .nil ?_
   refine Run.nil (tq_norm ?_)
   exact ⟨⟨1, by omega⟩, by dsimp only; omega, Le.mk rfl (.same rfl rfl (.cons rfl Sub.intA rfl (.same rfl rfl (.cons rfl Sub.intA rfl (.cons rfl Sub.intA rfl .nil))))) .nil⟩
  ·skip
   refine Run.seq (Run.reg [.p] ?_)
   refine .P rfl (q_lss rfl rfl) <| .nil ?_
   refine Run.seq ?_
   refine Run.condT rfl (rfl) ?_
   refine Run.skip ?_
   refine Run.seq ?_
   refine Run.block ?_
   refine Run.seq (Run.reg [.p, .p, .p] ?_)
   refine .P rfl (q_indexI Tryz.underlying121 Tryz.sizeOf27 rfl rfl (by decide) rfl) <| .P rfl (q_loadI Tryz.isAgg27 rfl) <| .ag rfl rfl <| .nil ?_
   refine Run.seq (Run.reg [.p, .p, .p, .p, .p] ?_)
   refine .mv rfl rfl <| .mv rfl rfl <| .P rfl (q_lenI Tryz.underlying27 rfl) <| .P rfl (q_add rfl rfl (wrap64_ok (by first | omega | (simp; done) | (simp; omega) | (simp at *; omega)) (by first | omega | (simp; done) | (simp; omega) | (simp at *; omega)))) <| .ag rfl rfl <| .nil ?_
   refine Run.seq (Run.reg [.p, .p] ?_)
   refine .mv rfl rfl <| .P rfl (q_lss rfl rfl) <| .nil ?_
   refine Run.condF rfl (by simp) ?_
   refine Run.skip ?_
   refine Run.nil (bq_norm ?_)
   refine Run.reg [.p, .p] ?_
   refine .P rfl (q_add rfl rfl (wrap64_ok (by first | omega | (simp; done) | (simp; omega) | (simp at *; omega)) (by first | omega | (simp; done) | (simp; omega) | (simp at *; omega)))) <| .mv rfl rfl <| .nil ?_
   refine Run.nil (tq_norm ?_)
   exact ⟨⟨2, by omega⟩, by dsimp only; omega, Le.mk rfl (.same rfl rfl (.cons rfl Sub.intA rfl (.same rfl rfl (.cons rfl Sub.intA rfl (.cons rfl Sub.intA rfl .nil))))) .nil⟩
  ·skip
   refine Run.seq (Run.reg [.p] ?_)
   refine .P rfl (q_lss rfl rfl) <| .nil ?_
   refine Run.seq ?_
   refine Run.condF rfl (rfl) ?_
   refine Run.exit (tq_exit (bq_exit ?_))
   refine Run.seq (Run.reg [.p, .p, .p] ?_)
   refine .mv rfl rfl <| .P rfl (q_call Tryz.call83 rfl growP0_ok) <| .ag rfl rfl <| .nil ?_
   refine Run.seq (Run.seq (Run.reg [.p, .p, .p] ?_))
   refine .mv rfl rfl <| .P rfl (q_lenI Tryz.underlying121 rfl) <| .mv rfl rfl <| .nil ?_
   refine Run.block ?_
   refine Run.loop (ι := concatP0_ok_L1) (fun sx => [(6, .gs 0 0), (25, .snap 1 true [[sPosteds ([] : List Posted)], [sPosteds ([] : List Posted)]]), (26, .i 2), (27, .i sx.k)]) (fun sx => [(0, .arr 6 [])]) (fun sx => 2 - sx.k) ⟨0, by omega⟩ ?_ ?_
   ·exact (Le.own0 0 6).trans <| Le.mk rfl (.cons rfl (Sub.gsNil _) rfl (.same rfl rfl (.cons rfl Sub.intA rfl (.cons rfl Sub.intA rfl .nil)))) (.arr rfl (by simp) .nil)
   ·rintro ⟨k, hk⟩
    show Run _ _ _ _ [(6, .gs 0 0), (25, .snap 1 true [[sPosteds ([] : List Posted)], [sPosteds ([] : List Posted)]]), (26, .i 2), (27, .i k)] [(0, .arr 6 [])]
    rcases k with _ | _ | _ | k
    ·skip
     refine Run.seq (Run.reg [.p] ?_)
     refine .P rfl (q_lss rfl rfl) <| .nil ?_
     refine Run.seq ?_
     refine Run.condT rfl (rfl) ?_
     refine Run.skip ?_
     refine Run.seq ?_
     refine Run.block ?_
     refine Run.seq (Run.reg [.p, .p, .p] ?_)
     refine .P rfl (q_indexI Tryz.underlying121 Tryz.sizeOf27 rfl rfl (by decide) rfl) <| .P rfl (q_loadI Tryz.isAgg27 rfl) <| .ag rfl rfl <| .nil ?_
     refine Run.reg [.p, .p, .w, .p] ?_
     refine .mv rfl rfl <| .mv rfl rfl <| .W rfl (q_append 1 Tryz.underlying27 Tryz.underlying27 Tryz.sizeOf39 Tryz.typeInfo39 Tryz.zeroValue39 rfl (bt := 80) rfl rfl rfl rfl (by simp) rfl rfl (by simp)) <| .ag rfl rfl <| .nil ?_
     refine Run.nil (bq_norm ?_)
     refine Run.reg [.p, .p] ?_
     refine .P rfl (q_add rfl rfl (wrap64_ok (by first | omega | (simp; done) | (simp; omega) | (simp at *; omega)) (by first | omega | (simp; done) | (simp; omega) | (simp at *; omega)))) <| .mv rfl rfl <| .nil ?_
     refine Run.nil (tq_norm ?_)
     exact ⟨⟨1, by omega⟩, by dsimp only; omega, (Le.mk (obs' := [(1, _)]) rfl (show EnvLe _ _ [(6, _), (25, _), (26, _), (27, _)] from (.same rfl rfl (.same rfl rfl (.same rfl rfl (.same rfl rfl .nil))))) (.cons (i := 1) rfl rfl .nil)).trans <| (Le.ren 6 1 0 rfl rfl (by simp) rfl).trans <| Le.mk rfl (.cons rfl (Sub.gs (by simp)) rfl (.same rfl rfl (.cons rfl Sub.intA rfl (.cons rfl Sub.intA rfl .nil)))) (.arr rfl (by simp) .nil)⟩
    ·skip
     refine Run.seq (Run.reg [.p] ?_)
     refine .P rfl (q_lss rfl rfl) <| .nil ?_
     refine Run.seq ?_
     refine Run.condT rfl (rfl) ?_
     refine Run.skip ?_
     refine Run.seq ?_
     refine Run.block ?_
     refine Run.seq (Run.reg [.p, .p, .p] ?_)
     refine .P rfl (q_indexI Tryz.underlying121 Tryz.sizeOf27 rfl rfl (by decide) rfl) <| .P rfl (q_loadI Tryz.isAgg27 rfl) <| .ag rfl rfl <| .nil ?_
     refine Run.reg [.p, .p, .w, .p] ?_
     refine .mv rfl rfl <| .mv rfl rfl <| .W rfl (q_append 1 Tryz.underlying27 Tryz.underlying27 Tryz.sizeOf39 Tryz.typeInfo39 Tryz.zeroValue39 rfl (bt := 80) rfl rfl rfl rfl (by simp) rfl rfl (by simp)) <| .ag rfl rfl <| .nil ?_
     refine Run.nil (bq_norm ?_)
     refine Run.reg [.p, .p] ?_
     refine .P rfl (q_add rfl rfl (wrap64_ok (by first | omega | (simp; done) | (simp; omega) | (simp at *; omega)) (by first | omega | (simp; done) | (simp; omega) | (simp at *; omega)))) <| .mv rfl rfl <| .nil ?_
     refine Run.nil (tq_norm ?_)
     exact ⟨⟨2, by omega⟩, by dsimp only; omega, (Le.mk (obs' := [(1, _)]) rfl (show EnvLe _ _ [(6, _), (25, _), (26, _), (27, _)] from (.same rfl rfl (.same rfl rfl (.same rfl rfl (.same rfl rfl .nil))))) (.cons (i := 1) rfl rfl .nil)).trans <| (Le.ren 6 1 0 rfl rfl (by simp) rfl).trans <| Le.mk rfl (.cons rfl (Sub.gs (by simp)) rfl (.same rfl rfl (.cons rfl Sub.intA rfl (.cons rfl Sub.intA rfl .nil)))) (.arr rfl (by simp) .nil)⟩
    ·skip
     refine Run.seq (Run.reg [.p] ?_)
     refine .P rfl (q_lss rfl rfl) <| .nil ?_
     refine Run.seq ?_
     refine Run.condF rfl (rfl) ?_
     refine Run.exit (tq_exit (bq_exit ?_))
     refine Run.seq (Run.reg [.p, .p] ?_)
     refine .mv rfl rfl <| .ag rfl rfl <| .nil ?_
     refine Run.weak (Le.freeze 2 0 rfl rfl (by simp)) ?_
     refine Run.ret (?_)
     exact ret1 rfl (Sub.snap (by simp))
    ·omega
  ·omega
theorem concatP_ok (a b : List Posted) (hal : a.length ≤ 1000) (hbl : b.length ≤ 1000) : Fc Tryz.prog 30 [.snap 1 true [[sPosteds a], [sPosteds b]]] (sPosteds (a ++ b)) := by
 by_cases h : a.length = 0
 ·have e := List.length_eq_zero_iff.1 h
  subst e
  by_cases h' : b.length = 0
  ·have e := List.length_eq_zero_iff.1 h'
   subst e
   exact concatP0_ok
  ·exact concatPB_ok b hbl h'
 ·exact concatPA_ok a b hal hbl h
theorem betweenD_ok (l : List Posted) (a b : Int) (hs : smallPs l) (hok : okPs l = true) (h0 : 0 ≤ a) (hab : a ≤ b) : Fc Tryz.prog 29 [sPosteds l, .i a, .i b] (.tup [sPosteds (betwK a b l), .i 0]) := by
 have := between_ok l a b hs
 rw [if_pos (by simp [hok, h0, hab]), if_pos hok, if_neg (by omega)] at this
 exact this
theorem trialD_ok (l : List Posted) (hs : smallPs l) (hok : okPs l = true) : Fc Tryz.prog 20 [sPosteds l, .i 84005] (.tup [sBals (trialP 84005 l), .i 0]) := by
 have := trial50_ok l 84005 hs
 rw [hok] at this
 exact this
theorem dec_all {l : List Posted} (h : okPs l = true) : (decide (0 < (l.length : Int)) && decide ((l.getLastD default).known ≤ 4611686018427387904) && !decide (betwK 0 4611686018427387904 l = l)) = false := by
 by_cases h0 : 0 < l.length
 ·by_cases h1 : (l.getLastD default).known ≤ 4611686018427387904
  ·simp [betwK_all h h0 h1]
  ·rw [show decide ((l.getLastD default).known ≤ 4611686018427387904) = false from decide_eq_false h1]; simp
 ·rw [show decide (0 < (l.length : Int)) = false from decide_eq_false (by omega)]; rfl
theorem lawBetween_ok (l : List Posted) (a b : Int) (ha : 0 ≤ a ∧ a ≤ 255) (hb : 0 ≤ b ∧ b ≤ 255) : Fc Tryz.prog 7 [sPosteds l, .raw (.int .u8 a), .raw (.int .u8 b)] (.b true) := by
 refine Fc.mk' [6] Tryz.func7 rfl Tryz.ntmps7 rfl rfl rfl (fun t w => results_tmp Tryz.results7 t _ w) ?_
 refine Run.seq (Run.reg [.p] ?_)
 refine .ag rfl rfl <| .nil ?_
 refine Run.seq (Run.seq (Run.reg [.p, .p, .p, .p, .p, .p, .p] ?_))
 refine .mv rfl rfl <| .P rfl (q_call Tryz.call25 rfl (great50_ok _)) <| .mv rfl rfl <| .gF rfl (.inl rfl) rfl rfl rfl (fun hg => pk (fun _ => q_move rfl _)) <| .gF rfl (.inl rfl) rfl rfl rfl (fun hg => pk (fun _ => q_call Tryz.call26 (opsC (opT rfl (nt hg)) (rfl)) (check50_ok l (great50_small (by simpa using hg)).1) _)) <| .gF rfl (.inl rfl) rfl rfl rfl (fun hg => pk (fun _ => q_neq (opT rfl (nt hg)) rfl _)) <| .P rfl (q_or rfl rfl) <| .nil ?_
 refine Run.cond rfl (fun h1 => ?_) (fun h1 => ?_)
 ·have ph1 := h1
  try simp only [bs, bne_iff_ne, ne_eq, List.length_map] at ph1
  refine Run.seq (Run.reg [.p, .p] ?_)
  refine .P rfl (q_call Tryz.call12 rfl awake_ok) <| .ag rfl rfl <| .nil ?_
  refine Run.ret (?_)
  exact ret1 rfl (Sub.bool (by first | rfl | (rw [betwK_trial hok (by omega) (by omega)]; simp)))
 ·have ph1 := h1
  try simp only [bs, bne_iff_ne, ne_eq, List.length_map] at ph1
  simp only [Bool.or_eq_false_iff] at h1
  have hgr : great50 l = false := by cases hg : great50 l <;> simp_all
  obtain ⟨hs, hl16⟩ := great50_small hgr
  have hok : okPs l = true := by cases ho : okPs l <;> simp_all
  have hspl := betwK_split (m := min a b) (n := max a b) (by omega) (by omega) (okPs_sorted hok)
  have hk1 := (betwK_sub 0 (min a b) l).length_le
  have hk2 := (betwK_sub (min a b) (max a b) l).length_le
  refine Run.skip ?_
  refine Run.seq (Run.reg [.p, .p, .p, .p, .p, .p, .p, .p, .p, .p] ?_)
  refine .mv rfl rfl <| .mv rfl rfl <| .P rfl (q_min rfl rfl rfl) <| .P rfl (q_conv Tryz.underlying5 Tryz.underlying3 rfl (wrap64_ok (by first | omega | (simp; done) | (simp; omega) | (simp at *; omega)) (by first | omega | (simp; done) | (simp; omega) | (simp at *; omega)))) <| .mv rfl rfl <| .mv rfl rfl <| .P rfl (q_max rfl rfl rfl) <| .P rfl (q_conv Tryz.underlying5 Tryz.underlying3 rfl (wrap64_ok (by first | omega | (simp; done) | (simp; omega) | (simp at *; omega)) (by first | omega | (simp; done) | (simp; omega) | (simp at *; omega)))) <| .ag rfl rfl <| .ag rfl rfl <| .nil ?_
  refine Run.seq (Run.reg [.p, .p, .p, .p, .p, .p, .p, .p] ?_)
  refine .mv rfl rfl <| .mv rfl rfl <| .P rfl (q_call Tryz.call29 rfl (betweenD_ok l (0) (min a b) hs hok (by omega) (by omega))) <| .mv rfl rfl <| .P rfl (q_extract rfl rfl) <| .P rfl (q_extract rfl rfl) <| .ag rfl rfl <| .ag rfl rfl <| .nil ?_
  refine Run.seq (Run.reg [.p, .p, .p, .p, .p, .p, .p, .p, .p] ?_)
  refine .mv rfl rfl <| .mv rfl rfl <| .mv rfl rfl <| .P rfl (q_call Tryz.call29 rfl (betweenD_ok l (min a b) (max a b) hs hok (by omega) (by omega))) <| .mv rfl rfl <| .P rfl (q_extract rfl rfl) <| .P rfl (q_extract rfl rfl) <| .ag rfl rfl <| .ag rfl rfl <| .nil ?_
  refine Run.seq (Run.reg [.p, .p, .p, .p, .p, .p, .p, .p] ?_)
  refine .mv rfl rfl <| .mv rfl rfl <| .P rfl (q_call Tryz.call29 rfl (betweenD_ok l (0) (max a b) hs hok (by omega) (by omega))) <| .mv rfl rfl <| .P rfl (q_extract rfl rfl) <| .P rfl (q_extract rfl rfl) <| .ag rfl rfl <| .ag rfl rfl <| .nil ?_
  refine Run.seq (Run.seq (Run.reg [.p, .p, .p, .p, .p, .p, .p, .p, .p, .p, .p, .p, .p, .p, .p, .p, .p, .p, .p] ?_))
  refine .mv rfl rfl <| .P rfl (q_neq rfl rfl) <| .mv rfl rfl <| .gF rfl (.inl rfl) rfl rfl rfl (fun hg => pk (fun _ => q_move rfl _)) <| .gF rfl (.inl rfl) rfl rfl rfl (fun hg => pk (fun _ => q_neq (opT rfl (nt hg)) rfl _)) <| .P rfl (q_or rfl rfl) <| .mv rfl rfl <| .gF rfl (.inl rfl) rfl rfl rfl (fun hg => pk (fun _ => q_move rfl _)) <| .gF rfl (.inl rfl) rfl rfl rfl (fun hg => pk (fun _ => q_neq (opT rfl (nt hg)) rfl _)) <| .P rfl (q_or rfl rfl) <| .mv rfl rfl <| .p rfl (on_of rfl rfl rfl rfl) (fun _ => q_move rfl _) <| .p rfl (on_of rfl rfl rfl rfl) (fun _ => q_move rfl _) <| .p rfl (on_of rfl rfl rfl rfl) (fun _ => q_buildSlice' (n := 2) (rows := [[sPosteds (betwK 0 (min a b) l)], [sPosteds (betwK (min a b) (max a b) l)]]) Tryz.underlying121 Tryz.sizeOf27 rfl rfl rfl Tryz.zeroValue27 rfl rfl rfl rfl rfl rfl rfl _) <| .p rfl (on_of rfl rfl rfl rfl) (fun _ => q_call Tryz.call30 rfl (concatP_ok _ _ (by omega) (by omega)) _) <| .p rfl (on_of rfl rfl rfl rfl) (fun _ => q_move rfl _) <| .p rfl (on_of rfl rfl rfl rfl) (fun _ => q_call Tryz.call15 rfl (same50_ok _ _) _) <| .p rfl (on_of rfl rfl rfl rfl) (fun _ => q_not rfl _) <| .P rfl (q_pickF rfl rfl rfl) <| .nil ?_
  refine Run.condF rfl (by simp [hspl]) ?_
  refine Run.skip ?_
  refine Run.seq (Run.seq (Run.reg [.p, .p, .p, .p, .p, .p, .p] ?_))
  refine .mv rfl rfl <| .P rfl (q_call Tryz.call29 rfl (betweenD_ok l (0) (4611686018427387904) hs hok (by omega) (by omega))) <| .mv rfl rfl <| .P rfl (q_extract rfl rfl) <| .P rfl (q_extract rfl rfl) <| .ag rfl rfl <| .ag rfl rfl <| .nil ?_
  refine Run.seq (Run.reg [.p, .p, .p, .p, .p, .p, .p, .p, .p, .p, .p, .p, .p, .p, .p, .p, .p, .p, .p, .p, .p, .p, .p] ?_)
  refine .mv rfl rfl <| .P rfl (q_neq rfl rfl) <| .mv rfl rfl <| .gF rfl (.inl rfl) rfl rfl rfl (fun hg => pk (fun _ => q_move rfl _)) <| .gF rfl (.inl rfl) rfl rfl rfl (fun hg => pk (fun _ => q_lenI Tryz.underlying27 (opT rfl (nt hg)) _)) <| .gF rfl (.inl rfl) rfl rfl rfl (fun hg => pk (fun _ => q_gtr (opT rfl (nt hg)) rfl _)) <| .gF rfl (.inl rfl) rfl rfl rfl (fun hg => pk (fun _ => q_move (opT rfl (nt hg)) _)) ?_
  refine .nT rfl (.inl rfl) rfl rfl rfl (fun hc hg => pk (fun _ => q_move rfl _)) ?_
  refine .nT rfl (.inl rfl) rfl rfl rfl (fun hc hg => pk (fun _ => q_move rfl _)) ?_
  refine .nT rfl (.inl rfl) rfl rfl rfl (fun hc hg => pk (fun _ => q_lenI Tryz.underlying27 (opT rfl (bT hc hg)) _)) ?_
  refine .nT rfl (.inl rfl) rfl rfl rfl (fun hc hg => pk (fun _ => q_sub (opT rfl (bT hc hg)) rfl (wrap64_ok (by first | omega | (simp; done) | (simp; omega) | (simp at *; omega)) (by first | omega | (simp; done) | (simp; omega) | (simp at *; omega))) _)) ?_
  refine .nT rfl (.inl rfl) rfl rfl rfl (fun hc hg => pk (fun _ => q_indexI Tryz.underlying27 Tryz.sizeOf39 (opT rfl (bT hc hg)) (opT rfl (bT hc hg)) (by simp at hg ⊢; omega) (idx_last encPosted (l := l) (pre := l) (rest := []) (by simp) (by simp at hg; omega) (by simp)) _)) ?_
  refine .nT rfl (.inl rfl) rfl rfl rfl (fun hc hg => pk (fun _ => q_fieldI (n := 0) 3 1 Tryz.underlying39 Tryz.sizeOf3 rfl (opT rfl (bT hc hg)) rfl _)) ?_
  refine .nT rfl (.inl rfl) rfl rfl rfl (fun hc hg => pk (fun _ => q_loadI Tryz.isAgg3 (opT rfl (bT hc hg)) _)) ?_
  refine .nT rfl (.inl rfl) rfl rfl rfl (fun hc hg => pk (fun _ => q_leq (opT rfl (bT hc hg)) rfl _)) ?_
  refine .gF rfl (.inl rfl) rfl rfl rfl (fun hg => pk (fun _ => q_and (opT rfl (nt hg)) (opA rfl (nt hg)) _)) <| .gF rfl (.inl rfl) rfl rfl rfl (fun hg => pk (fun _ => q_move (opT rfl (nt hg)) _)) ?_
  refine .nT rfl (.inl rfl) rfl rfl rfl (fun hc hg => pk (fun _ => q_move rfl _)) ?_
  refine .nT rfl (.inl rfl) rfl rfl rfl (fun hc hg => pk (fun _ => q_move rfl _)) ?_
  refine .nT rfl (.inl rfl) rfl rfl rfl (fun hc hg => pk (fun _ => q_call Tryz.call15 (opsC (opT rfl (bT hc hg)) (opsC (opT rfl (bT hc hg)) (rfl))) (same50_ok _ _) _)) ?_
  refine .nT rfl (.inl rfl) rfl rfl rfl (fun hc hg => pk (fun _ => q_not (opT rfl (bT hc hg)) _)) ?_
  refine .gF rfl (.inl rfl) rfl rfl rfl (fun hg => pk (fun _ => q_and (opT rfl (nt hg)) (opA rfl (nt hg)) _)) <| .P rfl (q_or rfl rfl) <| .nil ?_
  refine Run.condF rfl (by rw [List.length_map]; exact dec_all hok) ?_
  refine Run.skip ?_
  refine Run.seq (Run.reg [.p, .p, .p, .p, .p, .p, .p] ?_)
  refine .mv rfl rfl <| .P rfl (q_call Tryz.call20 rfl (trialD_ok (betwK (0) (min a b) l) (small_sub hs (betwK_sub _ _ _)) (okPs_sub hok (betwK_sub _ _ _)))) <| .mv rfl rfl <| .P rfl (q_extract rfl rfl) <| .P rfl (q_extract rfl rfl) <| .ag rfl rfl <| .ag rfl rfl <| .nil ?_
  refine Run.seq (Run.reg [.p, .p, .p, .p, .p, .p, .p] ?_)
  refine .mv rfl rfl <| .P rfl (q_call Tryz.call20 rfl (trialD_ok (betwK (min a b) (max a b) l) (small_sub hs (betwK_sub _ _ _)) (okPs_sub hok (betwK_sub _ _ _)))) <| .mv rfl rfl <| .P rfl (q_extract rfl rfl) <| .P rfl (q_extract rfl rfl) <| .ag rfl rfl <| .ag rfl rfl <| .nil ?_
  refine Run.seq (Run.reg [.p, .p, .p, .p, .p, .p, .p] ?_)
  refine .mv rfl rfl <| .P rfl (q_call Tryz.call20 rfl (trialD_ok (betwK (0) (max a b) l) (small_sub hs (betwK_sub _ _ _)) (okPs_sub hok (betwK_sub _ _ _)))) <| .mv rfl rfl <| .P rfl (q_extract rfl rfl) <| .P rfl (q_extract rfl rfl) <| .ag rfl rfl <| .ag rfl rfl <| .nil ?_
  refine Run.seq (Run.seq (Run.reg [.p, .p, .p, .p, .p, .p, .p, .p, .p, .p] ?_))
  refine .mv rfl rfl <| .P rfl (q_neq rfl rfl) <| .mv rfl rfl <| .gF rfl (.inl rfl) rfl rfl rfl (fun hg => pk (fun _ => q_move rfl _)) <| .gF rfl (.inl rfl) rfl rfl rfl (fun hg => pk (fun _ => q_neq (opT rfl (nt hg)) rfl _)) <| .P rfl (q_or rfl rfl) <| .mv rfl rfl <| .gF rfl (.inl rfl) rfl rfl rfl (fun hg => pk (fun _ => q_move rfl _)) <| .gF rfl (.inl rfl) rfl rfl rfl (fun hg => pk (fun _ => q_neq (opT rfl (nt hg)) rfl _)) <| .P rfl (q_or rfl rfl) <| .nil ?_
  refine Run.condF rfl (rfl) ?_
  refine Run.skip ?_
  refine Run.seq (Run.reg [.p, .p, .p, .p, .p, .p, .p, .p] ?_)
  refine .mv rfl rfl <| .mv rfl rfl <| .P rfl (q_call Tryz.call23 rfl (minusB_ok _ _ (trialP_ok _ (okPs_sub hok (betwK_sub _ _ _)) (small_sub hs (betwK_sub _ _ _)) (Nat.le_trans (betwK_sub _ _ _).length_le (by omega))) (trialP_ok _ (okPs_sub hok (betwK_sub _ _ _)) (small_sub hs (betwK_sub _ _ _)) (Nat.le_trans (betwK_sub _ _ _).length_le (by omega))))) <| .mv rfl rfl <| .P rfl (q_extract rfl rfl) <| .P rfl (q_extract rfl rfl) <| .ag rfl rfl <| .ag rfl rfl <| .nil ?_
  refine Run.seq (Run.reg [.p, .p, .p, .p, .p, .p, .p, .p, .p, .p, .p] ?_)
  refine .mv rfl rfl <| .P rfl (q_eql rfl rfl) <| .mv rfl rfl <| .gT rfl (.inl rfl) rfl rfl rfl (fun hg => pk (fun _ => q_move rfl _)) <| .gT rfl (.inl rfl) rfl rfl rfl (fun hg => pk (fun _ => q_move rfl _)) <| .gT rfl (.inl rfl) rfl rfl rfl (fun hg => pk (fun _ => q_call Tryz.call24 (opsC (opT rfl hg) (opsC (opT rfl hg) (rfl))) (same43_ok _ _) _)) <| .P rfl (q_and rfl rfl) <| .mv rfl rfl <| .gT rfl (.inl rfl) rfl rfl rfl (fun hg => pk (fun _ => q_call Tryz.call12 rfl awake_ok _)) <| .P rfl (q_and rfl rfl) <| .ag rfl rfl <| .nil ?_
  refine Run.ret (?_)
  exact ret1 rfl (Sub.bool (by first | rfl | (rw [betwK_trial hok (by omega) (by omega)]; simp)))
end Go.T
namespace Go.T
open Go
def noO : Nat → Prop := fun _ => False
/-- What is read as data of the type is described by typed data. -/
structure Dec (P : Program) (t : TypeId) (α : Type) (enc : α → List D) : Prop where
  out : ∀ {H : Type} {eH : TypeId × Value → H} {w : World} {fuel : Nat} {cs : List Value} {x : DataW H × List MemPlace}, DataW.trod eH P w 0 (fun _ => true) true fuel t cs = some x → (∀ n ∈ x.1.weights P t, n ≤ reachBytes) →
    ∃ a : α, (∀ u ∈ cs, u.oneCell' = true) ∧ Vs w noO rho0 (enc a) cs
theorem Dec.int {P : Program} {t : TypeId} (ht : P.underlying t = some (.int .i64)) : Dec P t Int (fun n => [.i n]) := ⟨fun h _ => by
  obtain ⟨n, rfl, _, _⟩ := DataW.trod_int ht h
  exact ⟨n, by simp [Value.oneCell'], by simp [Vs, V]⟩⟩
theorem Dec.bool {P : Program} {t : TypeId} (ht : P.underlying t = some .bool) : Dec P t Bool (fun n => [.b n]) := ⟨fun h _ => by
  obtain ⟨n, rfl, _⟩ := DataW.trod_bool ht h
  exact ⟨n, by simp [Value.oneCell'], by simp [Vs, V]⟩⟩
theorem Dec.str {P : Program} {t : TypeId} (ht : P.underlying t = some .string) : Dec P t Str (fun n => [.str n]) := ⟨fun h hw => by
  obtain ⟨s, rfl, rfl, _⟩ := DataW.trod_string ht h
  have := hw s.data.toList.length (by simp [DataW.weights])
  refine ⟨s.data.toList, by simp [Value.oneCell'], ?_⟩
  simp only [Vs, V]
  refine ⟨_, _, rfl, ⟨by simp, ?_⟩, rfl⟩
  have := reachBytes_lt
  unfold big
  omega⟩
/-- The fields of a struct, from an offset on. -/
structure DecF (P : Program) (fs : List Field) (off : Nat) (α : Type) (enc : α → List D) : Prop where
  out : ∀ {H : Type} {eH : TypeId × Value → H} {w : World} {fuel : Nat} {cs : List Value} {xs : List (DataW H × List MemPlace)}, xs.length = fs.length →
    (∀ (i : Nat) (f : Field), fs[i]? = some f → DataW.trod eH P w 0 (fun _ => true) true fuel f.type ((cs.drop f.offset).take (P.cellsOf f.type)) = xs[i]?) → (∀ n ∈ DataW.weightsEach P (fs.map (·.type)) (xs.map (·.1)), n ≤ reachBytes) →
    ∃ a : α, (∀ u ∈ (cs.drop off).take ((fs.map fun f => P.cellsOf f.type).sum), u.oneCell' = true) ∧ Vs w noO rho0 (enc a) ((cs.drop off).take ((fs.map fun f => P.cellsOf f.type).sum))
theorem DecF.nil {P : Program} {off : Nat} : DecF P [] off Unit (fun _ => []) := ⟨fun _ _ _ => ⟨(), by simp, by simp [Vs]⟩⟩
theorem Vs.app {w : World} {O : Nat → Prop} {ρ : Rho} : ∀ {ds es : List D} {us vs : List Value}, Vs w O ρ ds us → Vs w O ρ es vs → Vs w O ρ (ds ++ es) (us ++ vs)
  | [], es, us, vs, h, h' => by simp only [Vs] at h; subst h; simpa using h'
  | d :: ds, es, us, vs, h, h' => by
    simp only [Vs] at h
    obtain ⟨u, us, rfl, h1, h2⟩ := h
    simp only [List.cons_append, Vs]
    exact ⟨_, _, rfl, h1, Vs.app h2 h'⟩
theorem DecF.cons {P : Program} {f : Field} {fs : List Field} {off n : Nat} {α β : Type} {enc : α → List D} {enc' : β → List D} (h1 : Dec P f.type α enc) (ho : f.offset = off) (hn : P.cellsOf f.type = n) (h2 : DecF P fs (off + n) β enc') : DecF P (f :: fs) off (α × β) (fun x => enc x.1 ++ enc' x.2) := ⟨fun {H eH w fuel cs xs} hl hr hw => by
  match xs, hl with
  | x :: xs, hl =>
    have hx := hr 0 f rfl
    simp only [List.map_cons, DataW.weightsEach, List.mem_append] at hw
    obtain ⟨a, ha, hva⟩ := h1.out (by simpa using hx) (fun n hn => hw n (.inl hn))
    obtain ⟨b, hb, hvb⟩ := h2.out (xs := xs) (by simpa using hl) (fun i g hg => by simpa using hr (i + 1) g (by simpa using hg)) (fun n hn => hw n (.inr hn))
    rw [ho, hn] at ha hva
    have e : (cs.drop off).take (((f :: fs).map fun f => P.cellsOf f.type).sum) = (cs.drop off).take n ++ (cs.drop (off + n)).take ((fs.map fun f => P.cellsOf f.type).sum) := by
      rw [List.map_cons, List.sum_cons, hn, List.take_add, List.drop_drop]
    rw [e]
    exact ⟨(a, b), fun u hu => (List.mem_append.1 hu).elim (ha u) (hb u), Vs.app hva hvb⟩⟩
theorem Dec.struct {P : Program} {t : TypeId} {fs : List Field} {α : Type} {enc : α → List D} (ht : P.underlying t = some (.struct fs.toArray)) (hc : P.cellsOf t = (fs.map fun f => P.cellsOf f.type).sum) (h : DecF P fs 0 α enc) : Dec P t α enc := ⟨fun {H eH w fuel cs x} hr hw => by
  obtain ⟨xs, n, _, rfl, hl, hlen, hf⟩ := DataW.trod_struct ht hr
  simp only [DataW.weights, ht, List.map_map] at hw
  obtain ⟨a, h1, h2⟩ := h.out (by simpa using hlen) (fun i f hi => hf i f (by simpa using hi)) (fun n hn => hw n (by simpa [Function.comp_def] using hn))
  have e : (cs.drop 0).take ((fs.map fun f => P.cellsOf f.type).sum) = cs := by
    rw [List.drop_zero, ← hc, ← hl, List.take_length]
  rw [e] at h1 h2
  exact ⟨a, h1, h2⟩⟩
theorem Dec.map {P : Program} {t : TypeId} {α β : Type} {enc : α → List D} {enc' : β → List D} (h : Dec P t α enc) (f : α → β) (he : ∀ a, enc' (f a) = enc a) : Dec P t β enc' := ⟨fun hr hw => by
  obtain ⟨a, h1, h2⟩ := h.out hr hw
  exact ⟨f a, h1, by rw [he]; exact h2⟩⟩
theorem Vs.toVc {w : World} {O : Nat → Prop} {b : Nat} : ∀ {ds : List D} {cs : List Value} {off : Nat}, Vs w O rho0 ds cs → (∀ u ∈ cs, u.oneCell' = true) → (∀ j u, cs[j]? = some u → w.cell? ⟨b, off + j, none⟩ = some u) → Vc w O b off ds
  | [], _, _, _, _, _ => by simp [Vc]
  | d :: ds, cs, off, h, h1, hc => by
    simp only [Vs] at h
    obtain ⟨u, us, rfl, h2, h3⟩ := h
    simp only [Vc]
    refine ⟨⟨u, ⟨by simpa using hc 0 u rfl, h1 u List.mem_cons_self⟩, h2⟩, Vs.toVc h3 (fun v hv => h1 v (List.mem_cons_of_mem _ hv)) (fun j v hj => ?_)⟩
    have := hc (j + 1) v (by simpa using hj)
    rwa [show off + (j + 1) = off + 1 + j by omega] at this
theorem cells_get {w : World} {a : Addr} {n : Nat} {cs : List Value} (h : w.cells? 0 a n = some cs) : cs.length = n ∧ ∀ j, j < n → w.cell? (a.add j) = cs[j]? := by
  unfold World.cells? at h
  rw [if_pos (Nat.zero_le _)] at h
  exact ⟨by simpa using mapM_some_length h, fun j hj => by simpa using mapM_some_get h j j (by simp [hj])⟩
theorem spot_none {w : World} {a : Addr} {u : Value} (h : w.cell? a = some u) : a.spot = none := by
  cases hsp : a.spot with
  | none => rfl
  | some s =>
    simp only [World.cell?] at h
    split at h
    · simp [hsp] at h
    · cases h
theorem Vr_of {w : World} {b sz : Nat} {α : Type} {enc : α → List D} : ∀ {l : List α} {off : Nat}, (∀ i a, l[i]? = some a → (enc a).length = sz ∧ Vc w noO b (off + i * sz) (enc a)) → Vr w noO b off sz (l.map enc)
  | [], _, _ => by simp [Vr]
  | a :: l, off, h => by
    simp only [List.map_cons, Vr]
    refine ⟨by simpa using h 0 a rfl, Vr_of fun i a' hi => ?_⟩
    have := h (i + 1) a' (by simpa using hi)
    rwa [show off + (i + 1) * sz = off + sz + i * sz by rw [Nat.add_mul]; omega] at this
theorem exists_list {α : Type} {p : Nat → α → Prop} : ∀ (n : Nat), (∀ i, i < n → ∃ a, p i a) → ∃ l : List α, l.length = n ∧ ∀ i a, l[i]? = some a → p i a
  | 0, _ => ⟨[], rfl, by simp⟩
  | n + 1, h => by
    obtain ⟨l, h1, h2⟩ := exists_list n (fun i hi => h i (by omega))
    obtain ⟨a, ha⟩ := h n (by omega)
    refine ⟨l ++ [a], by simp [h1], fun i a' hi => ?_⟩
    by_cases e : i < l.length
    · rw [List.getElem?_append_left e] at hi; exact h2 i a' hi
    · rw [List.getElem?_append_right (by omega)] at hi
      have : i = n := by
        by_cases e2 : i - l.length = 0
        · omega
        · simp [List.getElem?_cons, e2] at hi
      subst this
      simp [h1] at hi
      subst hi
      exact ha
theorem weightsAll_mem {H : Type} {P : Program} {e : TypeId} : ∀ {ds : List (DataW H)} {i : Nat} {d : DataW H}, ds[i]? = some d → ∀ n ∈ d.weights P e, n ∈ DataW.weightsAll P e ds
  | d0 :: ds, 0, d, h, n, hn => by
    simp only [List.getElem?_cons_zero, Option.some.injEq] at h
    subst h
    simp only [DataW.weightsAll, List.mem_append]
    exact .inl hn
  | d0 :: ds, i + 1, d, h, n, hn => by
    simp only [DataW.weightsAll, List.mem_append]
    exact .inr (weightsAll_mem (by simpa using h) n hn)
  | [], _, _, h, _, _ => by simp at h
theorem Dec.slice {P : Program} {t e : TypeId} {α : Type} {enc : α → List D} {sz k : Nat} (ht : P.underlying t = some (.slice e)) (hc : P.cellsOf e = sz) (hz : sz ≠ 0) (hb : P.bytesOf e = k + 1) (h : Dec P e α enc) (hl : ∀ a, (enc a).length = sz) : Dec P t (List α) (fun l => [.snap sz false (l.map enc)]) := ⟨fun {H eH w fuel cs x} hr hw => by
  rcases DataW.trod_slice ht hr with ⟨rfl, rfl⟩ | ⟨a, len, cap, elems, rest, n, rfl, rfl, rfl, _, hlc, hcap, hel, hget, hsp, _⟩
  · refine ⟨[], by simp [Value.oneCell'], ?_⟩
    simp only [Vs, V, List.map_nil]
    exact ⟨_, _, rfl, ⟨none, 0, rfl, ⟨Nat.le_refl _, by simp⟩, by simp, by simp⟩, rfl⟩
  · simp only [DataW.weights, ht, List.mem_cons, List.mem_append, hb] at hw
    have hlen : len ≤ big := by
      have h1 := hw _ (.inl rfl)
      simp only [List.length_map, hel] at h1
      have h2 := reachBytes_lt
      have h3 : len + rest.length ≤ (len + rest.length) * (k + 1) := Nat.le_mul_of_pos_right _ (by omega)
      unfold big
      omega
    have hq : ∀ i, i < len → ∃ y : α, (enc y).length = sz ∧ ∃ cs : List Value, cs.length = sz ∧ (∀ u ∈ cs, u.oneCell' = true) ∧ Vs w noO rho0 (enc y) cs ∧ ∀ j, j < sz → w.cell? ((a.add (i * sz)).add j) = cs[j]? := by
      intro i hi
      have hg := hget i hi
      rw [hc] at hg
      have hi' : i < elems.length := by omega
      rw [List.getElem?_eq_getElem hi'] at hg
      obtain ⟨cs, hcs, hg⟩ := Option.bind_eq_some_iff.1 hg
      obtain ⟨y, h1, h2⟩ := h.out hg (fun n hn => hw n (.inr (.inl (weightsAll_mem (i := i) (d := elems[i].1) (by simp [hi']) n hn))))
      obtain ⟨h3, h4⟩ := cells_get hcs
      exact ⟨y, hl y, cs, h3, h1, h2, h4⟩
    obtain ⟨l, hll, hp⟩ := exists_list len hq
    refine ⟨l, by simp [Value.oneCell'], ?_⟩
    simp only [Vs, V, List.length_map]
    refine ⟨_, _, rfl, ⟨some a, cap, by rw [hll], ⟨by omega, by omega⟩, by simp, fun hne => ?_⟩, rfl⟩
    have hpos : 0 < len := by
      cases l with
      | nil => simp at hne
      | cons _ _ => simp at hll; omega
    have h0 : ∃ u, w.cell? a = some u := by
      obtain ⟨y, _, cs, h1, _, _, h4⟩ := hq 0 hpos
      have h5 := h4 0 (by omega)
      have h6 : 0 < cs.length := by omega
      rw [List.getElem?_eq_getElem h6] at h5
      exact ⟨cs[0], by simpa [Addr.add] using h5⟩
    obtain ⟨u, hu⟩ := h0
    have hs := spot_none hu
    obtain ⟨b, off, sp⟩ := a
    simp only at hs
    subst hs
    refine ⟨b, off, rfl, ⟨cell_lt hu, fun h => h⟩, Vr_of fun i y hi => ?_⟩
    obtain ⟨g1, cs, g2, g3, g4, g5⟩ := hp i y hi
    refine ⟨g1, Vs.toVc g4 g3 fun j v hj => ?_⟩
    have hj' : j < sz := by
      have := (List.getElem?_eq_some_iff.1 hj).1
      omega
    rw [← hj, ← g5 j hj']
    congr 1
    unfold Addr.add
    by_cases e1 : i * sz = 0 <;> by_cases e2 : j = 0 <;> simp [e1, e2]⟩
end Go.T
namespace Go.T
open Go Go.ChangeShapes Go.WideShapes Go.RowKit Go.ChangeAt
structure DecL (P : Program) (ts : List TypeId) (α : Type) (enc : α → List D) : Prop where
  out : ∀ {H : Type} {eH : TypeId × Value → H} {w : World} {base : Nat} {vs : List Value} {ds : List (DataW H)} {p : List MemPlace}, DataW.TrodAll eH P w 0 (fun _ => true) true ts vs ds p →
    (∀ (j : Nat) t v, ts[j]? = some t → vs[j]? = some v → Value.okWide P w .any base t v) → (∀ n ∈ DataW.weightsEach P ts ds, n ≤ reachBytes) → ∃ a : α, Vs w noO rho0 (enc a) vs
def OneTy (P : Program) (t : TypeId) : Prop := ∀ w base v, Value.okWide P w .any base t v → v.cells.toList = [v]
theorem OneTy.slice {P : Program} {t e : TypeId} (ht : P.underlying t = some (.slice e)) : OneTy P t := fun w base v h => by
  obtain ⟨a, l, c, rfl⟩ := okWide_slice ht h; rfl
theorem OneTy.str {P : Program} {t : TypeId} (ht : P.underlying t = some .string) : OneTy P t := fun w base v h => by
  obtain ⟨a, rfl⟩ := okWide_string ht h; rfl
theorem OneTy.int {P : Program} {t : TypeId} {k : IntKind} (ht : P.underlying t = some (.int k)) : OneTy P t := fun w base v h => by
  obtain ⟨a, rfl⟩ := okWide_int ht h; rfl
theorem DecL.nil {P : Program} : DecL P [] Unit (fun _ => []) := ⟨fun {H eH w base vs ds p} h _ _ => by
  match vs, ds, h with
  | [], [], _ => exact ⟨(), by simp [Vs]⟩⟩
theorem DecL.cons {P : Program} {t : TypeId} {ts : List TypeId} {α β : Type} {e : α → D} {enc : β → List D} (h1 : Dec P t α (fun a => [e a])) (ho : OneTy P t) (h2 : DecL P ts β enc) : DecL P (t :: ts) (α × β) (fun x => e x.1 :: enc x.2) := ⟨fun {H eH w base vs ds p} h hv hw => by
  match vs, ds, h with
  | v :: vs, d :: ds, ⟨p1, q1, ⟨fuel, hf⟩, h4, _⟩ =>
    simp only [DataW.weightsEach, List.mem_append] at hw
    obtain ⟨b, hb⟩ := h2.out h4 (fun j t v ht hv' => hv (j + 1) t v (by simpa using ht) (by simpa using hv')) (fun n hn => hw n (.inr hn))
    rw [ho w base v (hv 0 t v rfl rfl)] at hf
    obtain ⟨a, _, ha⟩ := h1.out hf (fun n hn => hw n (.inl hn))
    simp only [Vs] at ha
    obtain ⟨u, us, e1, ha, rfl⟩ := ha
    cases e1
    exact ⟨(a, b), v, vs, rfl, ha, hb⟩⟩
theorem Keep.keptBut {w w' : World} (h : Keep w w') (may : MemPlace → Prop) : w.keptBut w' may := by
  refine ⟨h.os.1, h.os.2.1, fun i hi => ?_⟩
  rw [h.same i hi]
  split <;> simp_all
theorem Keep.sameAt {w w' : World} (h : Keep w w') {p : MemPlace} (hp : p.block < w.heap.size) : w.sameAt w' p := by
  cases p with
  | cell b off =>
    simp only [MemPlace.block] at hp
    simp [World.sameAt, World.cell?, h.same b hp]
  | map b => exact h.same b hp
theorem trodAll_keep {H : Type} {eH : TypeId × Value → H} {P : Program} {w w' : World} {sp : Nat → Bool} (hk : Keep w w') : ∀ {ts : List TypeId} {vs : List Value} {ds : List (DataW H)} {p : List MemPlace}, DataW.TrodAll eH P w 0 sp true ts vs ds p → (∀ x ∈ p, x.block < w.heap.size) → DataW.TrodAll eH P w' 0 sp true ts vs ds p
  | [], vs, ds, p, h, _ => by
    match vs, ds, h with
    | [], [], h => exact h
  | t :: ts, vs, ds, p, h, hp => by
    match vs, ds, h with
    | v :: vs, d :: ds, ⟨p1, q1, ⟨fuel, hf⟩, h4, e⟩ =>
      subst e
      exact ⟨p1, q1, ⟨fuel, DataW.trod_carry _ _ _ _ hf fun x hx => hk.sameAt (hp x (List.mem_append_left _ hx))⟩, trodAll_keep hk h4 (fun x hx => hp x (List.mem_append_right _ hx)), rfl⟩
theorem trodAll_len {H : Type} {eH : TypeId × Value → H} {P : Program} {w : World} {sp : Nat → Bool} : ∀ {ts : List TypeId} {vs : List Value} {ds : List (DataW H)} {p : List MemPlace}, DataW.TrodAll eH P w 0 sp true ts vs ds p → ds.length = ts.length
  | [], vs, ds, p, h => by
    match vs, ds, h with
    | [], [], h => rfl
  | t :: ts, vs, ds, p, h => by
    match vs, ds, h with
    | v :: vs, d :: ds, ⟨p1, q1, _, h4, e⟩ => simp [trodAll_len h4]
theorem law_contract {P : Program} {f : FuncId} {fn : Func} {s : ChangeSpec} {α : Type} {encs : α → List D} {tb : TypeId}
    (hkids : Kids P (· < P.types.size)) (hfull : ∀ t e, t < P.types.size → P.underlying t = some (.slice e) → 0 < P.cellsOf e)
    (hts : ∀ t ∈ fn.params.toList, t < P.types.size) (hvars : s.vars = []) (hres : fn.resultTypes = #[tb]) (hb : P.underlying tb = some .bool)
    (hsp : ∀ (H : Type) (ds : List (DataW H)), ds.length = fn.params.size → s.fn H ds = { results := [.lit (.bool true)], args := ds })
    (hdec : DecL P fn.params.toList α encs) (hlaw : ∀ a, Fc P f (encs a) (.b true))
    {H : Type} {enc : TypeId × Value → H} {W : World} {base : Nat} {args : Array Value} {ds gs : List (DataW H)} {before : List MemPlace}
    (hval : ∀ (j : Nat) t v, fn.params[j]? = some t → args[j]? = some v → Value.okWide P W .any base t v)
    (hW : DataW.Whole enc P fn.params.toList s.vars false W args.toList ds gs before)
    (hsz : (DataW.weightsEach P (fn.params.toList ++ s.plain.varTypes P) (ds ++ gs)).all (· ≤ reachBytes) = true) (hgl : Gl W noO) :
    Calls P f args W fun e W' => ∃ v, e = .returned v ∧ s.post enc P fn false true false false W args v W' := by
  have hW' := hW
  obtain ⟨p, q, hA, hV, rfl, _, _⟩ := hW
  rw [hvars] at hV
  obtain ⟨rfl, rfl⟩ := trodVars_none hV
  have hvt : s.plain.varTypes P = [] := by simp [ChangeSpec.plain, DataSpec.varTypes, hvars]
  rw [hvt, List.append_nil, List.append_nil] at hsz
  obtain ⟨a, ha⟩ := hdec.out hA (fun j t v ht hv => hval j t v (by simpa using ht) (by simpa using hv)) (fun n hn => by simpa using List.all_eq_true.1 hsz n hn)
  have hlen := trodAll_len hA
  have hlt : ∀ x ∈ p, x.block < W.heap.size := fun x hx => hA.lt x hx
  refine ((hlaw a).out W noO rho0 args.toList (fun b h => h.elim) hgl ha).mono ?_
  rintro e W' ⟨v, rfl, hv, hk⟩
  simp only [V] at hv
  subst hv
  have hf : s.fn H (ds ++ []) = { results := [.lit (.bool true)], args := ds } := by rw [List.append_nil]; exact hsp H ds (by simpa using hlen)
  refine ⟨_, rfl, ds, [], p ++ [], [], p, [], hW', ?_, ?_, ?_, hk.keptBut _, fun h => by cases h⟩
  · rw [hf, hres]
    exact trodAll_mk1 (shut_bool hb _)
  · rw [hf]
    exact DataW.TrodAll.respare hkids hfull hts (trodAll_keep hk hA hlt) (fun x hx => by simpa using hlt x hx)
  · rw [hf, hvars]
    rfl
/-- A table of integers that is listed: its block. -/
theorem laid_cells {P : Program} {W : World} {n : String} {k : IntKind} {zs : List Int} {rest : List (String × DataW Unit)} {g t e : Nat} (hg : P.globalNamed n = some g) (ht : (P.globals[g]?).map (·.type) = some t) (hu : P.underlying t = some (.array zs.length e)) (he : P.underlying e = some (.int k)) (hce : P.cellsOf e = 1) (hct : P.cellsOf t = zs.length)
    (pre : List (String × DataW Unit)) (hL : laidMet P (pre ++ (n, .agg (zs.map fun z => .lit (.int k z))) :: rest) W) : ∃ T fr, W.heap[g]? = some (.cells (zs.map fun z => Value.int k z).toArray T fr) := by
  obtain ⟨ps, h, hx⟩ := hL
  clear hx
  induction pre generalizing ps with
  | cons x pre ih =>
    obtain ⟨_, _, _, _, _, q, _, _, _, _, h, _⟩ := h
    exact ih q h
  | nil =>
    obtain ⟨g', t', cs, fuel, p, q, hg', ht', hv, hd, _⟩ := h
    obtain rfl := Option.some.inj (hg.symm.trans hg')
    obtain rfl := Option.some.inj (ht.symm.trans ht')
    obtain ⟨xs, m, _, ex, hcl, hl, hel⟩ := DataW.trod_array hu hd
    have e3 : xs.map (·.1) = zs.map fun z => .lit (.int k z) := (DataW.agg.inj (Prod.mk.inj ex).1).symm
    have key : cs = (zs.map fun z => Value.int k z).toArray := by
      apply Array.ext'
      apply List.ext_getElem?
      intro r
      by_cases hr : r < zs.length
      · have hE := hel r hr
        rw [hce, Nat.mul_one, List.getElem?_eq_getElem (by omega)] at hE
        obtain ⟨z, e1, e2, _⟩ := DataW.trod_int he hE
        have e4 : (xs.map (·.1))[r]? = (zs.map fun n => (DataW.lit (.int k n) : DataW Unit))[r]? := by rw [e3]
        rw [List.getElem?_map, List.getElem?_map, List.getElem?_eq_getElem (by omega : r < xs.length), List.getElem?_eq_getElem hr, e2] at e4
        simp only [Option.map_some, Option.some.injEq, DataW.lit.injEq, Lit.int.injEq, true_and] at e4
        have h0 : ((cs.toList.drop r).take 1)[0]? = some (.int k z) := by rw [e1]; rfl
        have h1 : cs.toList[r]? = some (.int k z) := by simpa using h0
        rw [h1, List.toList_toArray, List.getElem?_map, List.getElem?_eq_getElem hr, e4]; rfl
      · have : cs.toList.length = zs.length := by rw [hcl, hct]
        rw [List.getElem?_eq_none (by omega), List.getElem?_eq_none (by simp; omega)]
    simp only [World.var?, hg, Option.bind_some] at hv
    split at hv
    · rename_i c T fr hb
      cases hv
      exact ⟨T, fr, by rw [hb, key]⟩
    · cases hv
end Go.T
namespace Go.T
open Go Go.Proofs Go.ChangeShapes Go.WideShapes Go.RowKit Go.ChangeAt
set_option maxRecDepth 100000
theorem tz_kids : Kids Tryz.prog (· < Tryz.prog.types.size) := kids_rows (by kernel_rfl) (by kernel_rfl)
theorem tz_full : ∀ t e, t < Tryz.prog.types.size → Tryz.prog.underlying t = some (.slice e) → 0 < Tryz.prog.cellsOf e := slices_full_of Tryz.prog (by kernel_rfl)
theorem tz_own : ownKnob Tryz.prog.godebug = none := by kernel_rfl
theorem tz_size : Tryz.prog.types.size = 337 := by kernel_rfl
theorem d_day : Dec Tryz.prog 34 Int (fun n => [.i n]) := .int Tryz.underlying34
theorem d_int : Dec Tryz.prog 3 Int (fun n => [.i n]) := .int Tryz.underlying3
theorem d_str : Dec Tryz.prog 9 Str (fun n => [.str n]) := .str Tryz.underlying9
theorem c3 : Tryz.prog.cellsOf 3 = 1 := by kernel_rfl
theorem c9 : Tryz.prog.cellsOf 9 = 1 := by kernel_rfl
theorem c54 : Tryz.prog.cellsOf 54 = 1 := by kernel_rfl
theorem c35 : Tryz.prog.cellsOf 35 = 1 := by kernel_rfl
theorem c37 : Tryz.prog.cellsOf 37 = 3 := by kernel_rfl
theorem c34 : Tryz.prog.cellsOf 34 = 1 := by kernel_rfl
theorem d_line : Dec Tryz.prog 92 Line encLine :=
  (Dec.struct Tryz.underlying92 (by kernel_rfl) (.cons d_str rfl c9 (.cons d_str rfl c9 (.cons (.str Tryz.underlying54) rfl c54 .nil)))).map (fun x => ⟨x.1, x.2.1, x.2.2.1⟩) (fun a => rfl)
theorem d_lines : Dec Tryz.prog 35 (List Line) (fun l => [sLines l]) := .slice (sz := 3) (k := 47) Tryz.underlying35 (by kernel_rfl) (by decide) (by kernel_rfl) d_line (fun _ => rfl)
theorem d_entry : Dec Tryz.prog 37 Entry encEntry :=
  (Dec.struct Tryz.underlying37 (by kernel_rfl) (.cons d_day rfl c34 (.cons d_str rfl c9 (.cons d_lines rfl c35 .nil)))).map (fun x => ⟨x.1, x.2.1, x.2.2.1⟩) (fun a => rfl)
theorem d_posted : Dec Tryz.prog 39 Posted encPosted :=
  (Dec.struct Tryz.underlying39 (by kernel_rfl) (.cons d_day rfl c34 (.cons d_int rfl c3 (.cons d_str rfl c9 (.cons d_entry rfl c37 .nil))))).map (fun x => ⟨x.1, x.2.1, x.2.2.1, x.2.2.2.1⟩) (fun a => rfl)
theorem d_posteds : Dec Tryz.prog 27 (List Posted) (fun l => [sPosteds l]) := .slice (sz := 6) (k := 79) Tryz.underlying27 (by kernel_rfl) (by decide) (by kernel_rfl) d_posted (fun _ => rfl)
def laidL : List (String × DataW Unit) := Go.Proofs.YtlhemheagekhaaaGreatDoor.Rows.restateStepRow.laid
theorem gl_of {W : World} (h : laidMetH Tryz.prog laidL W) : Gl W noO := by
  rw [MakeChecks.laidMetH_plain _ _ _ (by kernel_rfl)] at h
  intro g vs hm
  simp only [gtab, List.mem_singleton, Prod.mk.injEq] at hm
  obtain ⟨rfl, rfl⟩ := hm
  refine ⟨?_, fun h => h⟩
  have := laid_cells (P := Tryz.prog) (W := W) (n := "internal/strconv.uint64pow10") (k := .u64) (zs := pow10s.map fun (n : Nat) => (n : Int)) (g := 2) (t := 298) (e := 171) (by kernel_rfl) (by kernel_rfl) Tryz.underlying298 Tryz.underlying171 (by kernel_rfl) (by kernel_rfl) (laidL.take 2) (rest := laidL.drop 3) h
  simpa [Function.comp_def] using this
end Go.T
