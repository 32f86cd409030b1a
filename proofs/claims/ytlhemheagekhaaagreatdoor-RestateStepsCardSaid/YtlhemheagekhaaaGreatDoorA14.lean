/-
  Contracts of the functions that the statement reaches, and the logic in which they are proved (no condition): parts W47, W48, W49, W50, W51, W52, W53, Law1, W54, Law2, Law3, Law4, Law5, Law6, Law7, Core29.
-/
import Derived.Test.YtlhemheagekhaaaGreatDoorA13
set_option linter.all false
namespace Go.T
open Go Go.Proofs
set_option maxRecDepth 20000
theorem stepP_rows {a b : List Entry} {l : List Close} {known : Int} {by_ : Str} (hv : validE (a ++ b) = true) (hc : checkCloses l = 0) (hk : 1 ≤ known) (hn : isName by_ = true) :
  List.map (fun e => encPosted (postE l known by_ e)) ((mergeE cmpEn (sortI cmpEn a) (sortI cmpEn b)).1.map opposite ++ (mergeE cmpEn (sortI cmpEn a) (sortI cmpEn b)).2) = List.map encPosted (stepP a b l known by_).1 := by
 unfold stepP
 rw [if_neg (by simp [hv, hc]), if_neg (by omega), if_neg (by simp [hn])]
 simp only [chg, List.map_map]
 rfl
theorem stepBad_ok (a b : List Entry) (l : List Close) (known : Int) (by_ : Str) (hal : a.length ≤ 12) (hbl : b.length ≤ 12) (has : ∀ e ∈ a, smallE e) (hbs : ∀ e ∈ b, smallE e) (hv : validE (a ++ b) = false) : Fc Tryz.prog 13 [sEntries a, sEntries b, sCloses l, .i known, .str by_] (.tup [sPosteds (stepP a b l known by_).1, .i (stepP a b l known by_).2]) := by
 refine Fc.mkR Tryz.func13 rfl Tryz.ntmps13 rfl rfl rfl ?_
 refine Run.seq (Run.reg [.w, .w, .w, .w, .w] ?_)
 refine .W rfl (q_box1 0 rfl rfl rfl) <| .W rfl (q_box1 1 rfl rfl rfl) <| .W rfl (q_box1 2 rfl rfl rfl) <| .W rfl (q_alloc 3 Tryz.zeroValue27 rfl) <| .W rfl (q_alloc 4 Tryz.zeroValue28 rfl) <| .nil ?_
 refine Run.seq (Run.reg [.p, .p, .p, .p, .p, .p, .p, .p, .p, .p] ?_)
 refine .mv rfl rfl <| .mv rfl rfl <| .P rfl (q_call Tryz.call43 rfl (minusBad_ok a b hal hbl has hbs hv)) <| .mv rfl rfl <| .P rfl (q_extract rfl rfl) <| .P rfl (q_extract rfl rfl) <| .P rfl (q_extract rfl rfl) <| .ag rfl rfl <| .ag rfl rfl <| .ag rfl rfl <| .nil ?_
 refine Run.seq ?_
 refine Run.block ?_
 refine Run.seq (Run.reg [.p, .p, .p, .r, .p, .p, .p, .p] ?_)
 refine .mv rfl rfl <| .P rfl (q_neq rfl rfl) <| .mv rfl rfl <| .gF rfl (.inr rfl) rfl rfl rfl (fun hg => rk (q_load1 Tryz.isAgg23 rfl rfl rfl)) <| .gF rfl (.inl rfl) rfl rfl rfl (fun hg => pk (fun _ => q_call Tryz.call44 (opsC (opT rfl (nt hg)) (rfl)) (closes_ok _) _)) <| .gF rfl (.inl rfl) rfl rfl rfl (fun hg => pk (fun _ => q_neq (opT rfl (nt hg)) rfl _)) <| .P rfl (q_or rfl rfl) <| .ag rfl rfl <| .nil ?_
 refine Run.condT rfl (by simp) ?_
 refine Run.seq (Run.reg [.w, .w] ?_)
 refine .W rfl (q_store1 Tryz.sizeOf27 rfl rfl rfl rfl (by first | (simp; done) | decide)) <| .W rfl (q_store1 Tryz.sizeOf28 rfl rfl rfl rfl (by first | (simp; done) | decide)) <| .nil ?_
 refine Run.ret (bq_ret (?_))
 exact Rd.c11 Tryz.results13 Tryz.isAgg27 Tryz.isAgg28 rfl rfl rfl rfl ((Sub.nil _ false).trans (Sub.snap (by simp [stepP, hv]))) (Sub.int (by simp [stepP, hv]))
theorem stepGood_ok (a b : List Entry) (l : List Close) (known : Int) (by_ : Str) (hal : a.length ≤ 12) (hbl : b.length ≤ 12) (has : ∀ e ∈ a, smallE e) (hbs : ∀ e ∈ b, smallE e) (hv : validE (a ++ b) = true) : Fc Tryz.prog 13 [sEntries a, sEntries b, sCloses l, .i known, .str by_] (.tup [sPosteds (stepP a b l known by_).1, .i (stepP a b l known by_).2]) := by
 refine Fc.mkR Tryz.func13 rfl Tryz.ntmps13 rfl rfl rfl ?_
 have hm := mergeC_len cmpEn ((sortI cmpEn a).length + (sortI cmpEn b).length) (sortI cmpEn a) (sortI cmpEn b)
 have hm1 : (mergeE cmpEn (sortI cmpEn a) (sortI cmpEn b)).1.length ≤ 12 := Nat.le_trans hm.1 (by rw [sortI_len]; exact hal)
 have hm2 : (mergeE cmpEn (sortI cmpEn a) (sortI cmpEn b)).2.length ≤ 12 := Nat.le_trans hm.2 (by rw [sortI_len]; exact hbl)
 have hc1 : ∀ e ∈ (mergeE cmpEn (sortI cmpEn a) (sortI cmpEn b)).1, smallE e ∧ checkE e = 0 := fun e he => have h := (sortI_mem ..).1 ((mergeC_mem ..).1 he); ⟨has e h, validE_mem hv e (List.mem_append_left _ h)⟩
 have hc2 : ∀ e ∈ (mergeE cmpEn (sortI cmpEn a) (sortI cmpEn b)).2, smallE e ∧ checkE e = 0 := fun e he => have h := (sortI_mem ..).1 ((mergeC_mem ..).2 he); ⟨hbs e h, validE_mem hv e (List.mem_append_right _ h)⟩
 refine Run.seq (Run.reg [.w, .w, .w, .w, .w] ?_)
 refine .W rfl (q_box1 0 rfl rfl rfl) <| .W rfl (q_box1 1 rfl rfl rfl) <| .W rfl (q_box1 2 rfl rfl rfl) <| .W rfl (q_alloc 3 Tryz.zeroValue27 rfl) <| .W rfl (q_alloc 4 Tryz.zeroValue28 rfl) <| .nil ?_
 refine Run.seq (Run.reg [.p, .p, .p, .p, .p, .p, .p, .p, .p, .p] ?_)
 refine .mv rfl rfl <| .mv rfl rfl <| .P rfl (q_call Tryz.call43 rfl (minusGood_ok a b hal hbl has hbs hv)) <| .mv rfl rfl <| .P rfl (q_extract rfl rfl) <| .P rfl (q_extract rfl rfl) <| .P rfl (q_extract rfl rfl) <| .ag rfl rfl <| .ag rfl rfl <| .ag rfl rfl <| .nil ?_
 refine Run.seq ?_
 refine Run.block ?_
 refine Run.seq (Run.reg [.p, .p, .p, .r, .p, .p, .p, .p] ?_)
 refine .mv rfl rfl <| .P rfl (q_neq rfl rfl) <| .mv rfl rfl <| .gF rfl (.inr rfl) rfl rfl rfl (fun hg => rk (q_load1 Tryz.isAgg23 rfl rfl rfl)) <| .gF rfl (.inl rfl) rfl rfl rfl (fun hg => pk (fun _ => q_call Tryz.call44 (opsC (opT rfl (nt hg)) (rfl)) (closes_ok _) _)) <| .gF rfl (.inl rfl) rfl rfl rfl (fun hg => pk (fun _ => q_neq (opT rfl (nt hg)) rfl _)) <| .P rfl (q_or rfl rfl) <| .ag rfl rfl <| .nil ?_
 refine Run.cond rfl (fun h1 => ?_) (fun h1 => ?_)
 ·have ph1 := h1
  try simp only [bs, bne_iff_ne, ne_eq, List.length_map] at ph1
  refine Run.seq (Run.reg [.w, .w] ?_)
  refine .W rfl (q_store1 Tryz.sizeOf27 rfl rfl rfl rfl (by first | (simp; done) | decide)) <| .W rfl (q_store1 Tryz.sizeOf28 rfl rfl rfl rfl (by first | (simp; done) | decide)) <| .nil ?_
  refine Run.ret (bq_ret (?_))
  exact Rd.c11 Tryz.results13 Tryz.isAgg27 Tryz.isAgg28 rfl rfl rfl rfl ((Sub.nil _ false).trans (Sub.snap (by first | exact stepP_rows hv ph1.2 ph2 ph3 | (exfalso; omega) | (simp_all [stepP, chg]; done) | grind [stepP, chg]))) (Sub.int (by first | (exfalso; omega) | (simp_all [stepP]; done) | grind [stepP]))
 ·have ph1 := h1
  try simp only [bs, bne_iff_ne, ne_eq, List.length_map] at ph1
  refine Run.seq (Run.reg [.r, .p, .p] ?_)
  refine .R rfl (q_load1 Tryz.isAgg3 rfl rfl rfl) <| .P rfl (q_lss rfl rfl) <| .ag rfl rfl <| .nil ?_
  refine Run.cond rfl (fun h2 => ?_) (fun h2 => ?_)
  ·have ph2 := h2
   try simp only [bs, bne_iff_ne, ne_eq, List.length_map] at ph2
   refine Run.seq (Run.reg [.w, .w] ?_)
   refine .W rfl (q_store1 Tryz.sizeOf27 rfl rfl rfl rfl (by first | (simp; done) | decide)) <| .W rfl (q_store1 Tryz.sizeOf28 rfl rfl rfl rfl (by first | (simp; done) | decide)) <| .nil ?_
   refine Run.ret (bq_ret (?_))
   exact Rd.c11 Tryz.results13 Tryz.isAgg27 Tryz.isAgg28 rfl rfl rfl rfl ((Sub.nil _ false).trans (Sub.snap (by first | exact stepP_rows hv ph1.2 ph2 ph3 | (exfalso; omega) | (simp_all [stepP, chg]; done) | grind [stepP, chg]))) (Sub.int (by first | (exfalso; omega) | (simp_all [stepP]; done) | grind [stepP]))
  ·have ph2 := h2
   try simp only [bs, bne_iff_ne, ne_eq, List.length_map] at ph2
   refine Run.seq (Run.reg [.r, .p, .p, .p] ?_)
   refine .R rfl (q_load1 Tryz.isAgg9 rfl rfl rfl) <| .P rfl (q_call Tryz.call45 rfl (name_ok _)) <| .P rfl (q_not rfl) <| .ag rfl rfl <| .nil ?_
   refine Run.cond rfl (fun h3 => ?_) (fun h3 => ?_)
   ·have ph3 := h3
    try simp only [bs, bne_iff_ne, ne_eq, List.length_map] at ph3
    refine Run.seq (Run.reg [.w, .w] ?_)
    refine .W rfl (q_store1 Tryz.sizeOf27 rfl rfl rfl rfl (by first | (simp; done) | decide)) <| .W rfl (q_store1 Tryz.sizeOf28 rfl rfl rfl rfl (by first | (simp; done) | decide)) <| .nil ?_
    refine Run.ret (bq_ret (?_))
    exact Rd.c11 Tryz.results13 Tryz.isAgg27 Tryz.isAgg28 rfl rfl rfl rfl ((Sub.nil _ false).trans (Sub.snap (by first | exact stepP_rows hv ph1.2 ph2 ph3 | (exfalso; omega) | (simp_all [stepP, chg]; done) | grind [stepP, chg]))) (Sub.int (by first | (exfalso; omega) | (simp_all [stepP]; done) | grind [stepP]))
   ·have ph3 := h3
    try simp only [bs, bne_iff_ne, ne_eq, List.length_map] at ph3
    refine Run.seq (Run.reg [.p, .p, .p, .p, .p, .p, .p] ?_)
    refine .mv rfl rfl <| .P rfl (q_lenI Tryz.underlying22 rfl) <| .mv rfl rfl <| .P rfl (q_lenI Tryz.underlying22 rfl) <| .P rfl (q_add rfl rfl (wrap64_ok (by first | omega | (simp; done) | (simp; omega) | (simp at *; omega)) (by first | omega | (simp; done) | (simp; omega) | (simp at *; omega)))) <| .P rfl (q_gtr rfl rfl) <| .ag rfl rfl <| .nil ?_
    refine Run.cond rfl (fun h4 => ?_) (fun h4 => ?_)
    ·have ph4 := h4
     try simp only [bs, bne_iff_ne, ne_eq, List.length_map] at ph4
     refine Run.seq (Run.reg [.w, .w] ?_)
     refine .W rfl (q_store1 Tryz.sizeOf27 rfl rfl rfl rfl (by first | (simp; done) | decide)) <| .W rfl (q_store1 Tryz.sizeOf28 rfl rfl rfl rfl (by first | (simp; done) | decide)) <| .nil ?_
     refine Run.ret (bq_ret (?_))
     exact Rd.c11 Tryz.results13 Tryz.isAgg27 Tryz.isAgg28 rfl rfl rfl rfl ((Sub.nil _ false).trans (Sub.snap (by first | exact stepP_rows hv ph1.2 ph2 ph3 | (exfalso; omega) | (simp_all [stepP, chg]; done) | grind [stepP, chg]))) (Sub.int (by first | (exfalso; omega) | (simp_all [stepP]; done) | grind [stepP]))
    ·have ph4 := h4
     try simp only [bs, bne_iff_ne, ne_eq, List.length_map] at ph4
     refine Run.skip ?_
     refine Run.nil (bq_norm ?_)
     refine Run.seq (Run.reg [.w] ?_)
     refine .W rfl (q_alloc 5 Tryz.zeroValue27 rfl) <| .nil ?_
     refine Run.seq (Run.seq (Run.reg [.p, .p, .w] ?_))
     refine .mv rfl rfl <| .mv rfl rfl <| .W rfl (q_callO Tryz.call46 rfl (changeF_ok _ _) .nil rfl rfl) <| .nil ?_
     refine Run.block ?_
     refine Run.rangeF (α := Entry) 7900 [0, 1, 2, 3, 4, 5] [(0, _), (1, _), (2, _), (3, _), (4, _), (7, _), (8, _), (9, _), (10, _), (11, _), (20, _), (21, _), (22, _), (19, _), (23, _), (24, _), (25, _), (12, _), (13, _), (14, _), (27, _), (28, _), (29, _), (33, _), (26, _), (35, _), (36, _), (34, _), (38, _), (39, _), (40, _), (37, _), (42, _), (43, _), (44, _), (45, _), (46, _), (47, _), (41, _), (15, _), (48, _), (49, _)] (fun (pre : List (Entry)) => [(0, .cells [sCloses l]), (1, .cells [.i known]), (2, .cells [.str by_]), (3, .cells [.raw (.slice none 0 0)]), (4, .cells [.i 0]), (5, .cells [.gs 6 pre.length]), (6, .arr 6 (pre.map fun e => encPosted (postE l known by_ e)))]) (fun _ _ => False) rfl Tryz.call101 (changeY_ok (mergeE cmpEn (sortI cmpEn a) (sortI cmpEn b)).1 (mergeE cmpEn (sortI cmpEn a) (sortI cmpEn b)).2 (by omega) (by omega) hc1) (env1 := [(0, _), (1, _), (2, _), (3, _), (4, _), (7, _), (8, _), (9, _), (10, _), (11, _), (20, _), (21, _), (22, _), (19, _), (23, _), (24, _), (25, _), (12, _), (13, _), (14, _), (27, _), (28, _), (29, _), (33, _), (26, _), (35, _), (36, _), (34, _), (38, _), (39, _), (40, _), (37, _), (42, _), (43, _), (44, _), (45, _), (46, _), (47, _), (41, _), (15, _), (48, _), (49, _), (50, _)]) ((Le.own0 6 6).trans <| (Le.subO 5 0 rfl rfl (Sub.gsNil 6)).trans <| Le.mk (obs' := [(7500, _), (7501, _)] ++ (fun (pre : List (Entry)) => [(0, .cells [sCloses l]), (1, .cells [.i known]), (2, .cells [.str by_]), (3, .cells [.raw (.slice none 0 0)]), (4, .cells [.i 0]), (5, .cells [.gs 6 pre.length]), (6, .arr 6 (pre.map fun e => encPosted (postE l known by_ e)))]) []) rfl (show EnvLe _ _ [(0, _), (1, _), (2, _), (3, _), (4, _), (7, _), (8, _), (9, _), (10, _), (11, _), (20, _), (21, _), (22, _), (19, _), (23, _), (24, _), (25, _), (12, _), (13, _), (14, _), (27, _), (28, _), (29, _), (33, _), (26, _), (35, _), (36, _), (34, _), (38, _), (39, _), (40, _), (37, _), (42, _), (43, _), (44, _), (45, _), (46, _), (47, _), (41, _), (15, _), (48, _), (49, _), (50, _)] from (.same rfl rfl (.same rfl rfl (.same rfl rfl (.same rfl rfl (.same rfl rfl (.same rfl rfl (.same rfl rfl (.same rfl rfl (.same rfl rfl (.same rfl rfl (.same rfl rfl (.same rfl rfl (.same rfl rfl (.same rfl rfl (.same rfl rfl (.same rfl rfl (.same rfl rfl (.same rfl rfl (.same rfl rfl (.same rfl rfl (.same rfl rfl (.same rfl rfl (.same rfl rfl (.same rfl rfl (.same rfl rfl (.same rfl rfl (.same rfl rfl (.same rfl rfl (.same rfl rfl (.same rfl rfl (.same rfl rfl (.same rfl rfl (.same rfl rfl (.same rfl rfl (.same rfl rfl (.same rfl rfl (.same rfl rfl (.same rfl rfl (.same rfl rfl (.same rfl rfl (.same rfl rfl (.same rfl rfl (.same rfl rfl .nil)))))))))))))))))))))))))))))))))))))))))))) (.cons (i := 7500) rfl rfl (.cons (i := 7501) rfl rfl (.eq rfl (by first | rfl | (simp; done)) rfl (.eq rfl (by first | rfl | (simp; done)) rfl (.eq rfl (by first | rfl | (simp; done)) rfl (.eq rfl (by first | rfl | (simp; done)) rfl (.eq rfl (by first | rfl | (simp; done)) rfl (.eq rfl (by first | rfl | (simp; done)) rfl (.eq rfl (by first | rfl | (simp; done)) rfl .nil)))))))))) rfl rfl (fun _ => rfl) (.cons rfl rfl (.cons rfl rfl (.cons rfl rfl (.cons rfl rfl (.cons rfl rfl (.cons rfl rfl (.cons rfl rfl (.cons rfl rfl (.cons rfl rfl (.cons rfl rfl (.cons rfl rfl (.cons rfl rfl (.cons rfl rfl (.cons rfl rfl (.cons rfl rfl (.cons rfl rfl (.cons rfl rfl (.cons rfl rfl (.cons rfl rfl (.cons rfl rfl (.cons rfl rfl (.cons rfl rfl (.cons rfl rfl (.cons rfl rfl (.cons rfl rfl (.cons rfl rfl (.cons rfl rfl (.cons rfl rfl (.cons rfl rfl (.cons rfl rfl (.cons rfl rfl (.cons rfl rfl (.cons rfl rfl (.cons rfl rfl (.cons rfl rfl (.cons rfl rfl (.cons rfl rfl (.cons rfl rfl (.cons rfl rfl (.cons rfl rfl (.cons rfl rfl (.cons rfl rfl .nil)))))))))))))))))))))))))))))))))))))))))) rfl (fun _ => rfl) (by rintro j o h; exact h.elim) (fun _ => Obs.okB_get rfl) (by rintro j o h; exact h.elim) (fun _ => freeB_get rfl) (by rintro j o h; exact h.elim) (by decide) rfl (fun pre x hok => ?_) (fun xs hfin => ?_) (fun _ _ h => h.elim)
     ·skip
      have hcc : checkCloses l = 0 := by simp_all
      have hcv := checkCloses_valid hcc
      have hpl := hok.length_le
      simp only [List.length_append, List.length_singleton, List.length_map] at hpl
      have hxd : ¬ (x.day < -25567 ∨ 84005 < x.day) := by
       have hx := hok.subset (List.mem_append_right _ (List.mem_singleton_self x))
       rcases List.mem_append.1 hx with h | h
       ·obtain ⟨e, he, rfl⟩ := List.mem_map.1 h; exact validDay_checkE (e := e) (hc1 e he).2
       ·exact validDay_checkE (hc2 x h).2
      refine Run.reg [.w, .w] ?_
      refine .W rfl (q_alloc 7 Tryz.zeroValue37 rfl) <| .W rfl (q_storeW Tryz.sizeOf37 rfl rfl rfl rfl rfl rfl) <| .nil ?_
      refine Run.nil ⟨rfl, ?_⟩
      refine Run.block ?_
      refine Run.seq (Run.reg [.r, .r, .p, .r, .p, .p, .p, .p, .p, .p] ?_)
      refine .R rfl (q_load1 Tryz.isAgg23 rfl rfl rfl) <| .R rfl (q_load1 Tryz.isAgg3 rfl rfl rfl) <| .P rfl (q_fieldB (n := 0) 34 0 Tryz.underlying37 Tryz.sizeOf34 rfl rfl) <| .R rfl (q_load1 Tryz.isAgg34 rfl rfl rfl) <| .P rfl (q_call Tryz.call47 rfl (posting_ok l known x.day hcc (by omega) hxd (by omega) hcv.1)) <| .mv rfl rfl <| .P rfl (q_extract rfl rfl) <| .P rfl (q_extract rfl rfl) <| .ag rfl rfl <| .ag rfl rfl <| .nil ?_
      refine Run.seq (Run.seq (Run.reg [.p, .p] ?_))
      refine .mv rfl rfl <| .P rfl (q_neq rfl rfl) <| .nil ?_
      refine Run.condF rfl (by simp) ?_
      refine Run.skip ?_
      refine Run.reg [.r, .p, .r, .r, .r, .p, .p, .w, .w] ?_
      refine .R rfl (q_load1 Tryz.isAgg27 rfl rfl rfl) <| .mv rfl rfl <| .R rfl (q_load1 Tryz.isAgg3 rfl rfl rfl) <| .R rfl (q_load1 Tryz.isAgg9 rfl rfl rfl) <| .R rfl (q_loadW Tryz.isAgg37 Tryz.sizeOf37 rfl rfl rfl) <| .P rfl (q_build (pl := #[(0, 1), (1, 1), (2, 1), (3, 3)]) Tryz.underlying39 Tryz.zeroValue39 (fun w => by kernel_rfl) rfl rfl) <| .P rfl (q_buildSlice' (n := 1) (rows := [encPosted (postE l known by_ x)]) Tryz.underlying27 Tryz.sizeOf39 rfl rfl rfl Tryz.zeroValue39 rfl rfl rfl rfl rfl rfl rfl) <| .W rfl (q_append 8 Tryz.underlying27 Tryz.underlying27 Tryz.sizeOf39 Tryz.typeInfo39 Tryz.zeroValue39 rfl (bt := 80) rfl rfl rfl rfl (by simp) rfl rfl (by simp; omega)) <| .W rfl (q_store1 Tryz.sizeOf27 rfl rfl rfl rfl (by first | (simp; done) | decide)) <| .nil ?_
      refine Run.nil (bq_norm ?_)
      refine Run.nil ?_
      exact ⟨rfl, (Le.mk (env' := []) (obs' := [(7900, _), (0, _), (1, _), (2, _), (3, _), (4, _), (5, _), (8, _)]) rfl .nil (.cons (i := 7900) rfl rfl (.cons (i := 0) rfl rfl (.cons (i := 1) rfl rfl (.cons (i := 2) rfl rfl (.cons (i := 3) rfl rfl (.cons (i := 4) rfl rfl (.cons (i := 5) rfl rfl (.cons (i := 8) rfl rfl .nil))))))))).trans <| (Le.renO 5 0 8 6 rfl rfl rfl (by simp) rfl).trans <| Le.mk rfl .nil (.cons rfl rfl (.eq rfl (by first | rfl | (simp; done) | (simp; omega)) rfl (.eq rfl (by first | rfl | (simp; done) | (simp; omega)) rfl (.eq rfl (by first | rfl | (simp; done) | (simp; omega)) rfl (.eq rfl (by first | rfl | (simp; done) | (simp; omega)) rfl (.eq rfl (by first | rfl | (simp; done) | (simp; omega)) rfl (.eq rfl (by first | rfl | (simp; done) | (simp; omega)) rfl (.eq rfl (by first | rfl | (simp; done) | (simp; omega)) rfl .nil))))))))⟩
     ·skip
      subst hfin
      refine Run.nil (bq_norm ?_)
      refine Run.seq (Run.reg [.r, .w, .w] ?_)
      refine .R rfl (q_load1 Tryz.isAgg27 rfl rfl rfl) <| .W rfl (q_store1 Tryz.sizeOf27 rfl rfl rfl rfl (by first | (simp; done) | decide)) <| .W rfl (q_store1 Tryz.sizeOf28 rfl rfl rfl rfl (by first | (simp; done) | decide)) <| .nil ?_
      refine Run.weak (Le.freezeO 3 0 6 rfl rfl rfl (by simp)) ?_
      refine Run.ret (?_)
      exact Rd.c11 Tryz.results13 Tryz.isAgg27 Tryz.isAgg28 rfl rfl rfl rfl (Sub.snap (by first | exact stepP_rows hv ph1.2 ph2 ph3 | (exfalso; omega) | (simp_all [stepP, chg]; done) | grind [stepP, chg])) (Sub.int (by first | (exfalso; omega) | (simp_all [stepP]; done) | grind [stepP]))
end Go.T
namespace Go.T
open Go Go.Proofs
set_option maxRecDepth 20000
def adjP (p : Posted) : Bool := decide (p.entry.day < p.day)
theorem adj_ok (p : Posted) : Fc Tryz.prog 66 [.agg (encPosted p)] (.b (adjP p)) := by
 refine Fc.mk' [2] Tryz.func66 rfl Tryz.ntmps66 rfl rfl rfl (fun t w => results_tmp Tryz.results66 t _ w) ?_
 refine Run.seq (Run.reg [.w, .p] ?_)
 refine .W rfl (q_boxA 0 rfl rfl) <| .ag rfl rfl <| .nil ?_
 refine Run.seq (Run.reg [.p, .r, .p, .p, .r, .p, .p] ?_)
 refine .P rfl (q_fieldB (n := 0) 34 0 Tryz.underlying39 Tryz.sizeOf34 rfl rfl) <| .R rfl (q_load1 Tryz.isAgg34 rfl rfl rfl) <| .P rfl (q_fieldB (n := 2) 37 3 Tryz.underlying39 Tryz.sizeOf37 rfl rfl) <| .P rfl (q_fieldB (n := 0) 34 0 Tryz.underlying37 Tryz.sizeOf34 rfl rfl) <| .R rfl (q_load1 Tryz.isAgg34 rfl rfl rfl) <| .P rfl (q_gtr rfl rfl) <| .ag rfl rfl <| .nil ?_
 refine Run.ret (?_)
 exact ret1 rfl (Sub.bool (by rfl))
theorem filterF_ok (l : List Posted) : Fc Tryz.prog 65 [sPosteds l, .fn (.func 66) [] []] (.fn (.func 121) [] [.iptr [sPosteds l], .iptr [.fn (.func 66) [] []]]) := by
 refine Fc.mk' [4] Tryz.func65 rfl Tryz.ntmps65 rfl rfl rfl (fun t w => results_tmp Tryz.results65 t _ w) ?_
 refine Run.seq (Run.reg [.w, .w, .p] ?_)
 refine .W rfl (q_box1 0 rfl rfl rfl) <| .W rfl (q_box1 1 rfl rfl rfl) <| .ag rfl rfl <| .nil ?_
 refine Run.weak (Le.freezeB 2 0 rfl rfl rfl rfl) ?_
 refine Run.weak (Le.freezeB 3 1 rfl rfl rfl rfl) ?_
 refine Run.seq (Run.reg [.p, .p] ?_)
 refine .P rfl (q_makeFunc (xs := []) (ys := _) rfl rfl) <| .ag rfl rfl <| .nil ?_
 refine Run.ret (?_)
 exact ret1 rfl (by exact Sub.refl _)
structure filterY_ok_L0 (l : List Posted) where
 pre : List Posted
 rest : List Posted
 acc : List Posted
 hx : l = pre ++ rest
 hacc : acc = pre.filter adjP
theorem filterY_ok (l : List Posted) (hl : l.length ≤ 1000000) : FcY (α := Posted) Tryz.prog 121 8000 [.iptr [sPosteds l], .iptr [.fn (.func 66) [] []]] [] (fun p => [.agg (encPosted p)]) (fun p => p <+: l.filter adjP) (fun p => p = l.filter adjP) := by
 refine FcY.mk' Tryz.func121 rfl Tryz.ntmps121 rfl (fun t w => results_none Tryz.results121 t _ w) (fun idL lb ids B X Y => ?_)
 refine Run.seq (Run.reg [.p, .p, .p] ?_)
 refine .P rfl (q_loadI Tryz.isAgg27 rfl) <| .P rfl (q_lenI Tryz.underlying27 rfl) <| .mv rfl rfl <| .nil ?_
 refine Run.block ?_
 refine Run.loop (ι := filterY_ok_L0 l) (fun sx => [(0, yv lb), (1, .iptr [sPosteds l]), (2, .iptr [.fn (.func 66) [] []]), (6, sPosteds l), (7, .i l.length), (8, .i sx.pre.length)]) (fun sx => ([] ++ B sx.acc)) (fun sx => sx.rest.length) ⟨[], l, [], rfl, rfl⟩ ?_ ?_
 ·exact Le.mk (ps_ok (Y.has _) rfl) (.same rfl rfl (.same rfl rfl (.same rfl rfl (.same rfl rfl (.cons rfl Sub.intA rfl (.cons rfl Sub.intA rfl .nil)))))) (.tail (tail_ok (own := []) (own' := []) rfl (Y.free _) (Y.okb _)))
 ·rintro ⟨pre, rest, acc, hx, hacc⟩
  show Run _ _ _ _ [(0, yv lb), (1, .iptr [sPosteds l]), (2, .iptr [.fn (.func 66) [] []]), (6, sPosteds l), (7, .i l.length), (8, .i pre.length)] ([] ++ B acc)
  have hl := congrArg List.length hx
  simp only [List.length_append] at hl
  rcases rest with _ | ⟨x, rest⟩
  ·skip
   refine Run.seq (Run.reg [.p] ?_)
   refine .P rfl (q_lss rfl rfl) <| .nil ?_
   refine Run.seq ?_
   refine Run.condF rfl (by simp at hl ⊢; omega) ?_
   refine Run.exit (tq_exit (bq_exit ?_))
   refine Run.nil ?_
   exact retY_fin (.inr rfl) (acc) (by rw [hacc, hx]; simp) (own_get (own := []) rfl (Y.free _))
  ·simp only [List.length_cons] at hl
   refine Run.seq (Run.reg [.p] ?_)
   refine .P rfl (q_lss rfl rfl) <| .nil ?_
   refine Run.seq ?_
   refine Run.condT rfl (by simp; omega) ?_
   refine Run.skip ?_
   refine Run.seq ?_
   refine Run.block ?_
   refine Run.seq (Run.reg [.p, .p, .w, .w] ?_)
   refine .P rfl (q_indexI Tryz.underlying27 Tryz.sizeOf39 rfl rfl (by omega) (idx_mid encPosted hx rfl)) <| .P rfl (q_loadIA Tryz.isAgg39 Tryz.sizeOf39 rfl rfl) <| .W rfl (q_alloc 8000 Tryz.zeroValue39 (Y.free _ 8000 (by decide) (by decide))) <| .W rfl (q_storeW Tryz.sizeOf39 rfl rfl rfl rfl rfl rfl) <| .nil ?_
   refine Run.seq (Run.regT ?_)
   refine Tx.q rfl trivial (q_loadI Tryz.isAgg69 rfl _) ?_
   refine Tx.q rfl trivial (q_loadW Tryz.isAgg39 Tryz.sizeOf39 rfl rfl rfl) ?_
   refine Tx.q rfl trivial (q_callF Tryz.call66 rfl rfl (adj_ok _) _) ?_
   refine Tx.q rfl trivial (q_move rfl _) ?_
   refine Tx.split (t := 15) rfl (fun h1 => ?_) (fun h1 => ?_)
   ·have ph1 := h1
    try simp only [bs, bne_iff_ne, ne_eq, List.length_map] at ph1
    refine Tx.q rfl (on_of rfl rfl rfl h1) (q_move rfl _) ?_
    refine Tx.q rfl (on_of rfl rfl rfl h1) (q_loadW Tryz.isAgg39 Tryz.sizeOf39 rfl rfl rfl) ?_
    refine Tx.weak (Le.mk (obs' := [] ++ B (acc)) (ps_ok (Y.has _) rfl) (show EnvLe _ _ [(0, _), (1, _), (2, _), (6, _), (7, _), (8, _), (9, _), (10, _), (11, _), (12, _), (13, _), (14, _), (15, _), (16, _), (17, _)] from (.same rfl rfl (.same rfl rfl (.same rfl rfl (.same rfl rfl (.same rfl rfl (.same rfl rfl (.same rfl rfl (.same rfl rfl (.same rfl rfl (.same rfl rfl (.same rfl rfl (.same rfl rfl (.same rfl rfl (.same rfl rfl (.same rfl rfl .nil)))))))))))))))) (.tail (tail_ok (own := [(8000, _)]) (own' := []) rfl (Y.free _) (Y.okb _)))) ?_
    refine Tx.y Y (own := []) (pre := acc) (env' := [(0, _), (1, _), (2, _), (6, _), (7, _), (8, _), (9, _), (10, _), (11, _), (12, _), (13, _), (14, _), (15, _), (16, _), (17, _)]) x rfl rfl rfl (on_of rfl rfl rfl h1) rfl rfl rfl (⟨rest.filter adjP, by rw [hacc, hx]; simp_all⟩) rfl rfl (.cons rfl rfl (.cons rfl rfl (.cons rfl rfl (.cons rfl rfl (.cons rfl rfl (.cons rfl rfl (.cons rfl rfl (.cons rfl rfl (.cons rfl rfl (.cons rfl rfl (.cons rfl rfl (.cons rfl rfl (.cons rfl rfl (.cons rfl rfl (.cons rfl rfl .nil))))))))))))))) ?_ (fun o hX => ?_)
    ·skip
     refine Tx.q rfl (on_of rfl rfl rfl h1) (q_not rfl _) ?_
     refine Tx.q rfl trivial (q_pickT rfl h1 rfl _) ?_
     refine Tx.nil ?_
     refine Run.condF rfl rfl ?_
     refine Run.skip ?_
     refine Run.nil (bq_norm ?_)
     refine Run.reg [.p, .p] ?_
     refine .P rfl (q_add rfl rfl (wrap64_ok (by omega) (by omega))) <| .mv rfl rfl <| .nil ?_
     refine Run.nil (tq_norm ?_)
     exact ⟨⟨pre ++ [x], rest, acc ++ [x], by simp [hx], by rw [hacc]; simp_all⟩, by simp, Le.mk (ps_ok (Y.has _) rfl) (.same rfl rfl (.same rfl rfl (.same rfl rfl (.same rfl rfl (.cons rfl Sub.intA rfl (.cons rfl Sub.intA rfl .nil)))))) (.tail (tail_ok (own := []) (own' := []) rfl (Y.free _) (Y.okb _)))⟩
    ·skip
     refine Tx.q rfl (on_of rfl rfl rfl h1) (q_not rfl _) ?_
     refine Tx.q rfl trivial (q_pickT rfl h1 rfl _) ?_
     refine Tx.nil ?_
     refine Run.condT rfl rfl ?_
     refine Run.ret (bq_ret (tq_ret (bq_ret (?_))))
     exact retY_x (.inl rfl) o hX (own_get (own := []) rfl (Y.freeX _ hX))
   ·have ph1 := h1
    try simp only [bs, bne_iff_ne, ne_eq, List.length_map] at ph1
    refine Tx.off rfl (off_of rfl rfl rfl h1) ?_
    refine Tx.off rfl (off_of rfl rfl rfl h1) ?_
    refine Tx.off rfl (off_of rfl rfl rfl h1) ?_
    refine Tx.off rfl (off_of rfl rfl rfl h1) ?_
    refine Tx.q rfl trivial (q_pickF rfl h1 rfl _) ?_
    refine Tx.nil ?_
    refine Run.condF rfl rfl ?_
    refine Run.skip ?_
    refine Run.nil (bq_norm ?_)
    refine Run.reg [.p, .p] ?_
    refine .P rfl (q_add rfl rfl (wrap64_ok (by omega) (by omega))) <| .mv rfl rfl <| .nil ?_
    refine Run.nil (tq_norm ?_)
    exact ⟨⟨pre ++ [x], rest, acc, by simp [hx], by rw [hacc]; simp_all⟩, by simp, Le.mk (ps_ok (Y.has _) rfl) (.same rfl rfl (.same rfl rfl (.same rfl rfl (.same rfl rfl (.cons rfl Sub.intA rfl (.cons rfl Sub.intA rfl .nil)))))) (.tail (tail_ok (own := [(8000, _)]) (own' := []) rfl (Y.free _) (Y.okb _)))⟩
end Go.T
namespace Go.T
open Go Go.Proofs
set_option maxRecDepth 20000
theorem appendSeq_ok (l : List Posted) (hl : l.length ≤ 1000000) : Fc Tryz.prog 120 [.raw (.slice none 0 0), .fn (.func 121) [] [.iptr [sPosteds l], .iptr [.fn (.func 66) [] []]]] (sPosteds (l.filter adjP)) := by
 refine Fc.mk' [4] Tryz.func120 rfl Tryz.ntmps120 rfl rfl rfl (fun t w => results_tmp Tryz.results120 t _ w) ?_
 refine Run.seq (Run.reg [.w, .p] ?_)
 refine .W rfl (q_box1 0 rfl rfl rfl) <| .ag rfl rfl <| .nil ?_
 refine Run.seq (Run.seq (Run.reg [.p] ?_))
 refine .mv rfl rfl <| .nil ?_
 refine Run.block ?_
 refine Run.rangeF (α := Posted) 7900 [0] [(0, _), (1, _), (2, _), (4, _), (6, _)] (fun (pre : List (Posted)) => [(0, .cells [.gs 1 pre.length]), (1, .arr 6 (pre.map encPosted))]) (fun _ _ => False) rfl Tryz.call121 (filterY_ok l hl) (env1 := [(0, _), (1, _), (2, _), (4, _), (6, _)]) ((Le.own0 1 6).trans <| (Le.subO 0 0 rfl rfl (Sub.gsNil 1)).trans <| Le.mk (obs' := [] ++ (fun (pre : List (Posted)) => [(0, .cells [.gs 1 pre.length]), (1, .arr 6 (pre.map encPosted))]) []) rfl (show EnvLe _ _ [(0, _), (1, _), (2, _), (4, _), (6, _)] from (.same rfl rfl (.same rfl rfl (.same rfl rfl (.same rfl rfl (.same rfl rfl .nil)))))) (.eq rfl (by first | rfl | (simp; done)) rfl (.eq rfl (by first | rfl | (simp; done)) rfl .nil))) rfl rfl (fun _ => rfl) (.cons rfl rfl (.cons rfl rfl (.cons rfl rfl (.cons rfl rfl (.cons rfl rfl .nil))))) rfl (fun _ => rfl) (by rintro j o h; exact h.elim) (fun _ => Obs.okB_get rfl) (by rintro j o h; exact h.elim) (fun _ => freeB_get rfl) (by rintro j o h; exact h.elim) (by decide) rfl (fun pre x hok => ?_) (fun xs hfin => ?_) (fun _ _ h => h.elim)
 ·skip
  have hpl := hok.length_le
  have hfl := List.length_filter_le adjP l
  simp only [List.length_append, List.length_singleton] at hpl
  refine Run.reg [.w, .w] ?_
  refine .W rfl (q_alloc 2 Tryz.zeroValue39 rfl) <| .W rfl (q_storeW Tryz.sizeOf39 rfl rfl rfl rfl rfl rfl) <| .nil ?_
  refine Run.nil ⟨rfl, ?_⟩
  refine Run.block ?_
  refine Run.reg [.r, .r, .p, .w, .w] ?_
  refine .R rfl (q_load1 Tryz.isAgg27 rfl rfl rfl) <| .R rfl (q_loadW Tryz.isAgg39 Tryz.sizeOf39 rfl rfl rfl) <| .P rfl (q_buildSlice' (n := 1) (rows := [encPosted x]) Tryz.underlying27 Tryz.sizeOf39 rfl rfl rfl Tryz.zeroValue39 rfl rfl rfl rfl rfl rfl rfl) <| .W rfl (q_append 3 Tryz.underlying27 Tryz.underlying27 Tryz.sizeOf39 Tryz.typeInfo39 Tryz.zeroValue39 rfl (bt := 80) rfl rfl rfl rfl (by simp) rfl rfl (by simp; omega)) <| .W rfl (q_store1 Tryz.sizeOf27 rfl rfl rfl rfl (by first | (simp; done) | decide)) <| .nil ?_
  refine Run.nil (bq_norm ?_)
  refine Run.nil ?_
  exact ⟨rfl, (Le.mk (env' := []) (obs' := [(7900, _), (0, _), (3, _)]) rfl .nil (.cons (i := 7900) rfl rfl (.cons (i := 0) rfl rfl (.cons (i := 3) rfl rfl .nil)))).trans <| (Le.renO 0 0 3 1 rfl rfl rfl (by simp) rfl).trans <| Le.mk rfl .nil (.cons rfl rfl (.eq rfl (by first | rfl | (simp; done) | (simp; omega)) rfl (.eq rfl (by first | rfl | (simp; done) | (simp; omega)) rfl .nil)))⟩
 ·skip
  subst hfin
  refine Run.nil (bq_norm ?_)
  refine Run.seq (Run.reg [.r, .p] ?_)
  refine .R rfl (q_load1 Tryz.isAgg27 rfl rfl rfl) <| .ag rfl rfl <| .nil ?_
  refine Run.weak (Le.freeze 4 1 rfl rfl (by simp)) ?_
  refine Run.ret (?_)
  exact ret1 rfl (Sub.snap (by rfl))
theorem collect_ok (l : List Posted) (hl : l.length ≤ 1000000) : Fc Tryz.prog 64 [.fn (.func 121) [] [.iptr [sPosteds l], .iptr [.fn (.func 66) [] []]]] (sPosteds (l.filter adjP)) := by
 refine Fc.mk' [2] Tryz.func64 rfl Tryz.ntmps64 rfl rfl rfl (fun t w => results_tmp Tryz.results64 t _ w) ?_
 refine Run.seq (Run.reg [.p] ?_)
 refine .ag rfl rfl <| .nil ?_
 refine Run.seq (Run.reg [.p, .p, .p] ?_)
 refine .mv rfl rfl <| .P rfl (q_call Tryz.call120 rfl (appendSeq_ok _ (by first | assumption | omega | (simp at *; omega)))) <| .ag rfl rfl <| .nil ?_
 refine Run.ret (?_)
 exact ret1 rfl (Sub.snap (by rfl))
theorem adjusting_ok (l : List Posted) (hl : l.length ≤ 1000000) : Fc Tryz.prog 19 [sPosteds l] (sPosteds (l.filter adjP)) := by
 refine Fc.mk' [2] Tryz.func19 rfl Tryz.ntmps19 rfl rfl rfl (fun t w => results_tmp Tryz.results19 t _ w) ?_
 refine Run.seq (Run.reg [.p] ?_)
 refine .ag rfl rfl <| .nil ?_
 refine Run.seq (Run.reg [.p, .p, .p, .p] ?_)
 refine .mv rfl rfl <| .P rfl (q_call Tryz.call65 rfl (filterF_ok _)) <| .P rfl (q_call Tryz.call64 rfl (collect_ok _ (by first | assumption | omega | (simp at *; omega)))) <| .ag rfl rfl <| .nil ?_
 refine Run.ret (?_)
 exact ret1 rfl (Sub.snap (by rfl))
end Go.T
namespace Go.T
open Go Go.Proofs
set_option maxRecDepth 20000
def purch (s : Str) : Entry := ⟨19732, [98, 49], [⟨[49, 46, 99, 97, 115, 104], [85, 83, 68], negS s⟩, ⟨[49, 46, 115, 101, 99, 117, 114, 105, 116, 105, 101, 115, 46, 97, 98, 99], [85, 83, 68], s⟩]⟩
theorem purchase_ok (s : Str) (hs : s.length ≤ 9000) : Fc Tryz.prog 42 [.str s] (.agg (encEntry (purch s))) := by
 refine Fc.mkR Tryz.func42 rfl Tryz.ntmps42 rfl rfl rfl ?_
 refine Run.seq (Run.reg [.w] ?_)
 refine .W rfl (q_alloc 0 Tryz.zeroValue37 rfl) <| .nil ?_
 refine Run.seq (Run.reg [.p, .p, .p, .p, .p, .p, .p, .w] ?_)
 refine .mv rfl rfl <| .P rfl (q_call Tryz.call75 rfl (neg2_ok _ hs)) <| .P rfl (q_build (pl := #[(0, 1), (1, 1), (2, 1)]) Tryz.underlying92 Tryz.zeroValue92 (fun w => by kernel_rfl) rfl rfl) <| .mv rfl rfl <| .P rfl (q_build (pl := #[(0, 1), (1, 1), (2, 1)]) Tryz.underlying92 Tryz.zeroValue92 (fun w => by kernel_rfl) rfl rfl) <| .P rfl (q_buildSlice' (n := 2) (rows := (purch s).lines.map encLine) Tryz.underlying35 Tryz.sizeOf92 rfl rfl rfl Tryz.zeroValue92 rfl rfl rfl rfl rfl rfl rfl) <| .P rfl (q_build (pl := #[(0, 1), (1, 1), (2, 1)]) Tryz.underlying37 Tryz.zeroValue37 (fun w => by kernel_rfl) rfl rfl) <| .W rfl (q_storeW Tryz.sizeOf37 rfl rfl rfl rfl rfl rfl) <| .nil ?_
 refine Run.ret (?_)
 exact Rd.cA Tryz.results42 Tryz.isAgg37 Tryz.sizeOf37 rfl rfl rfl (Sub.agg (.cons (Sub.int (by rfl)) (.cons (Sub.str (by rfl)) (.cons (Sub.snap (by rfl)) .nil))))
end Go.T
namespace Go.T
open Go Go.Proofs
set_option maxRecDepth 20000
theorem step_ok (a b : List Entry) (l : List Close) (known : Int) (by_ : Str) (hal : a.length ≤ 12) (hbl : b.length ≤ 12) (has : ∀ e ∈ a, smallE e) (hbs : ∀ e ∈ b, smallE e) :
  Fc Tryz.prog 13 [sEntries a, sEntries b, sCloses l, .i known, .str by_] (.tup [sPosteds (stepP a b l known by_).1, .i (stepP a b l known by_).2]) := by
 cases hv : validE (a ++ b) with
 | true => exact stepGood_ok a b l known by_ hal hbl has hbs hv
 | false => exact stepBad_ok a b l known by_ hal hbl has hbs hv
def awA : List Entry := [purch [49, 48, 48, 48]]
def awB : List Entry := [purch [57, 57, 48]]
def awC : List Close := [⟨19753, 5⟩]
def awP : List Posted := [⟨19754, 6, [98, 49], purch [45, 49, 48, 48, 48]⟩, ⟨19754, 6, [98, 49], purch [57, 57, 48]⟩]
def awQ : List Posted := [⟨19732, 5, [98, 49], purch [45, 49, 48, 48, 48]⟩, ⟨19732, 5, [98, 49], purch [57, 57, 48]⟩]
theorem aw1 : stepP awA awB awC 6 [98, 49] = (awP, 0) := by decide +kernel
theorem aw2 : stepP awA awB awC 5 [98, 49] = (awQ, 0) := by decide +kernel
theorem Fc.sub {P : Program} {f : FuncId} {xs xs' : List D} {r r' : D} (h : Fc P f xs r) (hs : Subs xs' xs) (hr : Sub r r') : Fc P f xs' r' := ⟨fun w O ρ vals h1 h2 h3 => by
 refine (h.out w O ρ vals h1 h2 (hs.out w O ρ vals h3)).mono ?_
 rintro e w' ⟨v, rfl, hv, hk⟩
 exact ⟨v, rfl, hr.out _ _ _ _ hv, hk⟩⟩
theorem smallP (s : Str) (h : s.length ≤ 12) : smallE (purch s) := by
 refine ⟨by simp [purch], by simp [purch], fun l hl => ?_⟩
 simp only [purch, List.mem_cons, List.not_mem_nil, or_false] at hl
 rcases hl with rfl | rfl
 ·refine ⟨by simp, by simp, ?_⟩
  have := digits_len s
  simp only [negS]
  split
  ·omega
  ·simp; omega
 ·exact ⟨by simp, by simp, by simp; omega⟩
theorem stepAw1 : Fc Tryz.prog 13 [.snap 3 true (awA.map encEntry), .snap 3 true (awB.map encEntry), .snap 2 true (awC.map encClose), .i 6, .str [98, 49]] (.tup [sPosteds awP, .i 0]) := by
 have h := step_ok awA awB awC 6 [98, 49] (by decide) (by decide) (by intro e he; simp only [awA, List.mem_singleton] at he; subst he; exact smallP _ (by decide)) (by intro e he; simp only [awB, List.mem_singleton] at he; subst he; exact smallP _ (by decide))
 rw [aw1] at h
 exact Fc.sub h (.cons (.unfull ..) (.cons (.unfull ..) (.cons (.unfull ..) (.cons (.refl _) (.cons (.refl _) .nil))))) (.refl _)
theorem stepAw2 : Fc Tryz.prog 13 [.snap 3 true (awA.map encEntry), .snap 3 true (awB.map encEntry), .snap 2 true (awC.map encClose), .i 5, .str [98, 49]] (.tup [sPosteds awQ, .i 0]) := by
 have h := step_ok awA awB awC 5 [98, 49] (by decide) (by decide) (by intro e he; simp only [awA, List.mem_singleton] at he; subst he; exact smallP _ (by decide)) (by intro e he; simp only [awB, List.mem_singleton] at he; subst he; exact smallP _ (by decide))
 rw [aw2] at h
 exact Fc.sub h (.cons (.unfull ..) (.cons (.unfull ..) (.cons (.unfull ..) (.cons (.refl _) (.cons (.refl _) .nil))))) (.refl _)
end Go.T
namespace Go.T
open Go Go.Proofs
set_option maxRecDepth 20000
theorem same50T_ok (a b : List Posted) : Fc Tryz.prog 15 [sPosteds a, .snap 6 true (b.map encPosted)] (.b (decide (a = b))) := Fc.sub (same50_ok a b) (.cons (.refl _) (.cons (.unfull ..) .nil)) (.refl _)
theorem awake_ok  : Fc Tryz.prog 12 [] (.b true) := by
 refine Fc.mk' [0] Tryz.func12 rfl Tryz.ntmps12 rfl rfl rfl (fun t w => results_tmp Tryz.results12 t _ w) ?_
 refine Run.seq (Run.reg [.p] ?_)
 refine .ag rfl rfl <| .nil ?_
 refine Run.seq (Run.reg [.p, .p, .p, .p, .p, .p] ?_)
 refine .P rfl (q_call Tryz.call42 rfl (purchase_ok [49, 48, 48, 48] (by decide))) <| .P rfl (q_buildSlice' (n := 1) (rows := awA.map encEntry) Tryz.underlying22 Tryz.sizeOf37 rfl rfl rfl Tryz.zeroValue37 rfl rfl rfl rfl rfl rfl rfl) <| .P rfl (q_call Tryz.call42 rfl (purchase_ok [57, 57, 48] (by decide))) <| .P rfl (q_buildSlice' (n := 1) (rows := awB.map encEntry) Tryz.underlying22 Tryz.sizeOf37 rfl rfl rfl Tryz.zeroValue37 rfl rfl rfl rfl rfl rfl rfl) <| .ag rfl rfl <| .ag rfl rfl <| .nil ?_
 refine Run.seq (Run.reg [.p, .p, .p] ?_)
 refine .P rfl (q_build (pl := #[(0, 1), (1, 1)]) Tryz.underlying76 Tryz.zeroValue76 (fun w => by kernel_rfl) rfl rfl) <| .P rfl (q_buildSlice' (n := 1) (rows := awC.map encClose) Tryz.underlying23 Tryz.sizeOf76 rfl rfl rfl Tryz.zeroValue76 rfl rfl rfl rfl rfl rfl rfl) <| .ag rfl rfl <| .nil ?_
 refine Run.seq (Run.reg [.p, .p, .p, .p, .p, .p, .p, .p, .p] ?_)
 refine .mv rfl rfl <| .mv rfl rfl <| .mv rfl rfl <| .P rfl (q_call Tryz.call13 rfl stepAw1) <| .mv rfl rfl <| .P rfl (q_extract rfl rfl) <| .P rfl (q_extract rfl rfl) <| .ag rfl rfl <| .ag rfl rfl <| .nil ?_
 refine Run.seq (Run.reg [.p, .p, .p, .p, .p, .p, .p, .p, .p] ?_)
 refine .mv rfl rfl <| .mv rfl rfl <| .mv rfl rfl <| .P rfl (q_call Tryz.call13 rfl stepAw2) <| .mv rfl rfl <| .P rfl (q_extract rfl rfl) <| .P rfl (q_extract rfl rfl) <| .ag rfl rfl <| .ag rfl rfl <| .nil ?_
 refine Run.seq (Run.reg [.p, .p, .p, .p, .p, .p] ?_)
 refine .P rfl (q_call Tryz.call42 rfl (purchase_ok [45, 49, 48, 48, 48] (by decide))) <| .P rfl (q_build (pl := #[(0, 1), (1, 1), (2, 1), (3, 3)]) Tryz.underlying39 Tryz.zeroValue39 (fun w => by kernel_rfl) rfl rfl) <| .P rfl (q_call Tryz.call42 rfl (purchase_ok [57, 57, 48] (by decide))) <| .P rfl (q_build (pl := #[(0, 1), (1, 1), (2, 1), (3, 3)]) Tryz.underlying39 Tryz.zeroValue39 (fun w => by kernel_rfl) rfl rfl) <| .P rfl (q_buildSlice' (n := 2) (rows := awP.map encPosted) Tryz.underlying27 Tryz.sizeOf39 rfl rfl rfl Tryz.zeroValue39 rfl rfl rfl rfl rfl rfl rfl) <| .ag rfl rfl <| .nil ?_
 refine Run.seq (Run.reg [.p, .p, .p, .p, .p, .p, .p, .p, .p, .p, .p, .p, .p, .p, .p, .p, .p, .p, .p, .p, .p, .p, .p, .p, .p, .p, .p, .p, .p, .p, .p, .p, .p, .p, .p, .p] ?_)
 refine .mv rfl rfl <| .P rfl (q_eql rfl rfl) <| .mv rfl rfl <| .gT rfl (.inl rfl) rfl rfl rfl (fun hg => pk (fun _ => q_move rfl _)) <| .gT rfl (.inl rfl) rfl rfl rfl (fun hg => pk (fun _ => q_eql (opT rfl hg) rfl _)) <| .P rfl (q_and rfl rfl) <| .mv rfl rfl <| .gT rfl (.inl rfl) rfl rfl rfl (fun hg => pk (fun _ => q_move rfl _)) <| .gT rfl (.inl rfl) rfl rfl rfl (fun hg => pk (fun _ => q_move rfl _)) <| .gT rfl (.inl rfl) rfl rfl rfl (fun hg => pk (fun _ => q_call Tryz.call15 (opsC (opT rfl hg) (opsC (opT rfl hg) (rfl))) (same50T_ok awP awP) _)) <| .P rfl (q_and rfl rfl) <| .mv rfl rfl <| .gT rfl (.inl rfl) rfl rfl rfl (fun hg => pk (fun _ => q_move rfl _)) <| .gT rfl (.inl rfl) rfl rfl rfl (fun hg => pk (fun _ => q_call Tryz.call19 (opsC (opT rfl hg) (rfl)) (adjusting_ok awP (by decide)) _)) <| .gT rfl (.inl rfl) rfl rfl rfl (fun hg => pk (fun _ => q_lenI Tryz.underlying27 (opT rfl hg) _)) <| .gT rfl (.inl rfl) rfl rfl rfl (fun hg => pk (fun _ => q_eql (opT rfl hg) rfl _)) <| .P rfl (q_and rfl rfl) <| .mv rfl rfl <| .gT rfl (.inl rfl) rfl rfl rfl (fun hg => pk (fun _ => q_move rfl _)) <| .gT rfl (.inl rfl) rfl rfl rfl (fun hg => pk (fun _ => q_lenI Tryz.underlying27 (opT rfl hg) _)) <| .gT rfl (.inl rfl) rfl rfl rfl (fun hg => pk (fun _ => q_eql (opT rfl hg) rfl _)) <| .P rfl (q_and rfl rfl) <| .mv rfl rfl <| .gT rfl (.inl rfl) rfl rfl rfl (fun hg => pk (fun _ => q_move rfl _)) <| .gT rfl (.inl rfl) rfl rfl rfl (fun hg => pk (fun _ => q_indexI Tryz.underlying27 Tryz.sizeOf39 (opT rfl hg) rfl (by decide) rfl _)) ?_
 refine .gT rfl (.inl rfl) rfl rfl rfl (fun hg => pk (fun _ => q_fieldI (n := 0) 34 0 Tryz.underlying39 Tryz.sizeOf34 rfl (opT rfl hg) rfl _)) <| .gT rfl (.inl rfl) rfl rfl rfl (fun hg => pk (fun _ => q_loadI Tryz.isAgg34 (opT rfl hg) _)) <| .gT rfl (.inl rfl) rfl rfl rfl (fun hg => pk (fun _ => q_eql (opT rfl hg) rfl _)) <| .P rfl (q_and rfl rfl) <| .mv rfl rfl <| .gT rfl (.inl rfl) rfl rfl rfl (fun hg => pk (fun _ => q_move rfl _)) <| .gT rfl (.inl rfl) rfl rfl rfl (fun hg => pk (fun _ => q_call Tryz.call19 (opsC (opT rfl hg) (rfl)) (adjusting_ok awQ (by decide)) _)) <| .gT rfl (.inl rfl) rfl rfl rfl (fun hg => pk (fun _ => q_lenI Tryz.underlying27 (opT rfl hg) _)) <| .gT rfl (.inl rfl) rfl rfl rfl (fun hg => pk (fun _ => q_eql (opT rfl hg) rfl _)) <| .P rfl (q_and rfl rfl) <| .ag rfl rfl <| .nil ?_
 refine Run.ret (?_)
 exact ret1 rfl (Sub.bool (by decide +kernel))
end Go.T
namespace Go.T
open Go Go.Proofs
set_option maxRecDepth 20000
end Go.T
namespace Go.T
open Go
theorem great_small {l : List Entry} (h : great l = false) : l.length ≤ 10 ∧ ∀ e ∈ l, smallE e := by
  unfold great at h
  rw [Bool.or_eq_false_iff] at h
  refine ⟨by simpa using h.1, fun e he => ?_⟩
  have h2 := List.any_eq_false.1 h.2 e he
  simp only [greatOne, Bool.or_eq_true, not_or, decide_eq_true_eq, List.any_eq_true, not_exists] at h2
  refine ⟨by omega, by omega, fun x hx => ?_⟩
  have h3 := h2.2 x
  simp only [greatLine, Bool.or_eq_true, decide_eq_true_eq, not_and, not_or] at h3
  have := h3 hx
  exact ⟨by omega, by omega, by omega⟩
end Go.T
namespace Go.T
open Go Go.Proofs
set_option maxRecDepth 20000
theorem bad35_ok (e : Entry) (hs : smallE e) : Fc Tryz.prog 55 [.agg (encEntry e)] (.b (decide (checkE e ≠ 0))) := by
 refine Fc.mk' [2] Tryz.func55 rfl Tryz.ntmps55 rfl rfl rfl (fun t w => results_tmp Tryz.results55 t _ w) ?_
 refine Run.seq (Run.reg [.w, .p] ?_)
 refine .W rfl (q_boxA 0 rfl rfl) <| .ag rfl rfl <| .nil ?_
 refine Run.seq (Run.reg [.r, .p, .p, .p] ?_)
 refine .R rfl (q_loadW Tryz.isAgg37 Tryz.sizeOf37 rfl rfl rfl) <| .P rfl (q_call Tryz.call56 rfl (check35_ok _ (by first | assumption | omega | (simp at *; omega)))) <| .P rfl (q_neq rfl rfl) <| .ag rfl rfl <| .nil ?_
 refine Run.ret (?_)
 exact ret1 rfl (Sub.bool (by rfl))
structure indexBad35_ok_L0 (l : List Entry) where
 pre : List Entry
 rest : List Entry
 hx : l = pre ++ rest
 hp : pre.any (fun e => decide (checkE e ≠ 0)) = false
theorem indexBad35_ok (l : List Entry) (hs : ∀ e ∈ l, smallE e) : Fc Tryz.prog 107 [sEntries l, .fn (.func 55) [] []] (.i (if l.any (fun e => decide (checkE e ≠ 0)) then (l.findIdx (fun e => decide (checkE e ≠ 0)) : Int) else -1)) := by
 refine Fc.mk' [4] Tryz.func107 rfl Tryz.ntmps107 rfl rfl rfl (fun t w => results_tmp Tryz.results107 t _ w) ?_
 refine Run.bSnap 0 rfl (fun hb => ?_)
 simp only [List.length_map, big] at hb
 refine Run.seq (Run.reg [.p] ?_)
 refine .ag rfl rfl <| .nil ?_
 refine Run.seq (Run.seq (Run.reg [.p, .p, .p] ?_))
 refine .mv rfl rfl <| .P rfl (q_lenI Tryz.underlying22 rfl) <| .mv rfl rfl <| .nil ?_
 refine Run.block ?_
 refine Run.loop (ι := indexBad35_ok_L0 l) (fun sx => [(0, sEntries l), (1, .fn (.func 55) [] []), (6, sEntries l), (7, .i l.length), (8, .i sx.pre.length)]) (fun sx => []) (fun sx => sx.rest.length) ⟨[], l, rfl, rfl⟩ ?_ ?_
 ·exact Le.mk rfl (.same rfl rfl (.same rfl rfl (.same rfl rfl (.cons rfl Sub.intA rfl (.cons rfl Sub.intA rfl .nil))))) .nil
 ·rintro ⟨pre, rest, hx, hp⟩
  show Run _ _ _ _ [(0, sEntries l), (1, .fn (.func 55) [] []), (6, sEntries l), (7, .i l.length), (8, .i pre.length)] []
  have hl := congrArg List.length hx
  simp only [List.length_append] at hl
  rcases rest with _ | ⟨x, rest⟩
  ·skip
   refine Run.seq (Run.reg [.p] ?_)
   refine .P rfl (q_lss rfl rfl) <| .nil ?_
   refine Run.seq ?_
   refine Run.condF rfl (by simp at hl ⊢; omega) ?_
   refine Run.exit (tq_exit (bq_exit ?_))
   refine Run.seq (Run.reg [.p] ?_)
   refine .ag rfl rfl <| .nil ?_
   refine Run.ret (?_)
   exact ret1 rfl (Sub.int (by first | exact find_T hx hp (by assumption) | exact find_F hx hp))
  ·simp only [List.length_cons] at hl
   refine Run.seq (Run.reg [.p] ?_)
   refine .P rfl (q_lss rfl rfl) <| .nil ?_
   refine Run.seq ?_
   refine Run.condT rfl (by simp; omega) ?_
   refine Run.skip ?_
   refine Run.seq ?_
   refine Run.block ?_
   refine Run.seq (Run.reg [.p, .p] ?_)
   refine .mv rfl rfl <| .ag rfl rfl <| .nil ?_
   refine Run.seq (Run.reg [.p, .p, .p, .p, .p, .p] ?_)
   refine .mv rfl rfl <| .mv rfl rfl <| .mv rfl rfl <| .P rfl (q_indexI Tryz.underlying22 Tryz.sizeOf37 rfl rfl (by omega) (idx_mid encEntry hx rfl)) <| .P rfl (q_loadIA Tryz.isAgg37 Tryz.sizeOf37 rfl rfl) <| .P rfl (q_callF Tryz.call55 rfl rfl (bad35_ok _ (hs x (by rw [hx]; simp)))) <| .nil ?_
   refine Run.cond rfl (fun h1 => ?_) (fun h1 => ?_)
   ·have ph1 := h1
    try simp only [bs, bne_iff_ne, ne_eq, List.length_map] at ph1
    refine Run.seq (Run.reg [.p, .p] ?_)
    refine .mv rfl rfl <| .ag rfl rfl <| .nil ?_
    refine Run.ret (bq_ret (tq_ret (bq_ret (?_))))
    exact ret1 rfl (Sub.int (by first | exact find_T hx hp (by assumption) | exact find_F hx hp))
   ·have ph1 := h1
    try simp only [bs, bne_iff_ne, ne_eq, List.length_map] at ph1
    refine Run.skip ?_
    refine Run.nil (bq_norm ?_)
    refine Run.reg [.p, .p] ?_
    refine .P rfl (q_add rfl rfl (wrap64_ok (by first | omega | (simp; done) | (simp; omega) | (simp at *; omega)) (by first | omega | (simp; done) | (simp; omega) | (simp at *; omega)))) <| .mv rfl rfl <| .nil ?_
    refine Run.nil (tq_norm ?_)
    exact ⟨⟨pre ++ [x], rest, by simp [hx], by simp at *; grind⟩, by simp, Le.mk rfl (.same rfl rfl (.same rfl rfl (.same rfl rfl (.cons rfl Sub.intA rfl (.cons rfl Sub.intA rfl .nil))))) .nil⟩
theorem containsBad35_ok (l : List Entry) (hs : ∀ e ∈ l, smallE e) : Fc Tryz.prog 53 [sEntries l, .fn (.func 55) [] []] (.b (!validE l)) := by
 refine Fc.mk' [4] Tryz.func53 rfl Tryz.ntmps53 rfl rfl rfl (fun t w => results_tmp Tryz.results53 t _ w) ?_
 refine Run.seq (Run.reg [.p] ?_)
 refine .ag rfl rfl <| .nil ?_
 refine Run.seq (Run.reg [.p, .p, .p, .p, .p] ?_)
 refine .mv rfl rfl <| .mv rfl rfl <| .P rfl (q_call Tryz.call107 rfl (indexBad35_ok _ (by first | assumption | omega | (simp at *; omega)))) <| .P rfl (q_geq rfl rfl) <| .ag rfl rfl <| .nil ?_
 refine Run.ret (?_)
 exact ret1 rfl (Sub.bool (by exact valid_close l))
def validIn (a b : List Entry) (l : List Close) : Bool := !great a && !great b && !great49 l && decide (checkCloses l = 0) && validE (a ++ b)
theorem validIn_ok (a b : List Entry) (l : List Close) : Fc Tryz.prog 16 [sEntries a, sEntries b, sCloses l] (.b (validIn a b l)) := by
 refine Fc.mk' [6] Tryz.func16 rfl Tryz.ntmps16 rfl rfl rfl (fun t w => results_tmp Tryz.results16 t _ w) ?_
 refine Run.seq (Run.reg [.p] ?_)
 refine .ag rfl rfl <| .nil ?_
 refine Run.seq (Run.seq (Run.reg [.p, .p, .p, .p, .p, .p, .p, .p, .p, .p, .p, .p, .p, .p, .p] ?_))
 refine .mv rfl rfl <| .P rfl (q_call Tryz.call10 rfl (great35_ok _)) <| .mv rfl rfl <| .gF rfl (.inl rfl) rfl rfl rfl (fun hg => pk (fun _ => q_move rfl _)) <| .gF rfl (.inl rfl) rfl rfl rfl (fun hg => pk (fun _ => q_call Tryz.call10 (opsC (opT rfl (nt hg)) (rfl)) (great35_ok _) _)) <| .P rfl (q_or rfl rfl) <| .mv rfl rfl <| .gF rfl (.inl rfl) rfl rfl rfl (fun hg => pk (fun _ => q_move rfl _)) <| .gF rfl (.inl rfl) rfl rfl rfl (fun hg => pk (fun _ => q_call Tryz.call11 (opsC (opT rfl (nt hg)) (rfl)) (great49_ok _) _)) <| .P rfl (q_or rfl rfl) <| .mv rfl rfl <| .gF rfl (.inl rfl) rfl rfl rfl (fun hg => pk (fun _ => q_move rfl _)) <| .gF rfl (.inl rfl) rfl rfl rfl (fun hg => pk (fun _ => q_call Tryz.call49 (opsC (opT rfl (nt hg)) (rfl)) (check49_ok _) _)) <| .gF rfl (.inl rfl) rfl rfl rfl (fun hg => pk (fun _ => q_neq (opT rfl (nt hg)) rfl _)) <| .P rfl (q_or rfl rfl) <| .nil ?_
 refine Run.cond rfl (fun h1 => ?_) (fun h1 => ?_)
 ·have ph1 := h1
  try simp only [bs, bne_iff_ne, ne_eq, List.length_map] at ph1
  refine Run.seq (Run.reg [.p] ?_)
  refine .ag rfl rfl <| .nil ?_
  refine Run.ret (?_)
  exact ret1 rfl (Sub.bool (by first | (simp_all [validIn]; done) | (simp [validIn]; grind)))
 ·have ph1 := h1
  try simp only [bs, bne_iff_ne, ne_eq, List.length_map] at ph1
  have g1 := great_small (l := a) (by simp_all)
  have g2 := great_small (l := b) (by simp_all)
  refine Run.skip ?_
  refine Run.seq (Run.reg [.p, .p, .p, .p, .p, .p, .p] ?_)
  refine .mv rfl rfl <| .mv rfl rfl <| .P rfl (q_buildSlice' (n := 2) (rows := [[sEntries a], [sEntries b]]) Tryz.underlying146 Tryz.sizeOf22 rfl rfl rfl Tryz.zeroValue22 rfl rfl rfl rfl rfl rfl rfl) <| .P rfl (q_call Tryz.call54 rfl (concat_ok _ _ (by omega) (by omega))) <| .P rfl (q_call Tryz.call53 rfl (containsBad35_ok _ (fun e he => (List.mem_append.1 he).elim (g1.2 e) (g2.2 e)))) <| .P rfl (q_not rfl) <| .ag rfl rfl <| .nil ?_
  refine Run.ret (?_)
  exact ret1 rfl (Sub.bool (by first | (simp_all [validIn]; done) | (simp [validIn]; grind)))
end Go.T
namespace Go.T
open Go
theorem lt_cons (c d : UInt8) (r s : Str) : Str.lt (c :: r) (d :: s) = (decide (c.toNat < d.toNat) || (decide (c = d) && Str.lt r s)) := by
  show (decide (c < d) || (c == d && Op.bytesLess r s)) = _
  have h1 : decide (c < d) = decide (c.toNat < d.toNat) := by simp [UInt8.lt_iff_toNat_lt]
  have h2 : (c == d) = decide (c = d) := by rw [Bool.eq_iff_iff]; simp
  rw [h1, h2]; rfl
theorem natVal_cons (c : UInt8) (r : Str) : natVal (c :: r) = (c.toNat - 48) * 10 ^ r.length + natVal r := by
  have e : natVal (c :: r) = natVal ([c] ++ r) := rfl
  rw [e, natVal_append]; simp [natVal]
theorem lt_val : ∀ (a b : Str), a.length = b.length → a.all isDig = true → b.all isDig = true → (Str.lt a b = true ↔ natVal a < natVal b)
  | [], [], _, _, _ => by simp [Str.lt, Op.bytesLess, natVal]
  | [], _ :: _, h, _, _ => by simp at h
  | _ :: _, [], h, _, _ => by simp at h
  | c :: r, d :: s, h, ha, hb => by
    simp only [List.length_cons, Nat.add_right_cancel_iff] at h
    simp only [List.all_cons, Bool.and_eq_true] at ha hb
    have ih := lt_val r s h ha.2 hb.2
    have hr := natVal_lt r ha.2
    have hs := natVal_lt s hb.2
    rw [lt_cons, natVal_cons, natVal_cons, h] at *
    have hc : 48 ≤ c.toNat := by have := ha.1; simp [isDig] at this; omega
    have hd : 48 ≤ d.toNat := by have := hb.1; simp [isDig] at this; omega
    simp only [Bool.or_eq_true, Bool.and_eq_true, decide_eq_true_eq]
    rcases Nat.lt_trichotomy c.toNat d.toNat with g | g | g
    · have := Nat.mul_le_mul_right (10 ^ s.length) (show c.toNat - 48 + 1 ≤ d.toNat - 48 by omega)
      rw [Nat.add_mul, Nat.one_mul] at this
      constructor
      · intro _; omega
      · intro _; exact .inl g
    · have e : c = d := UInt8.toNat_inj.1 g
      subst e
      simp only [Nat.lt_irrefl, false_or, true_and, ih]
      omega
    · have := Nat.mul_le_mul_right (10 ^ s.length) (show d.toNat - 48 + 1 ≤ c.toNat - 48 by omega)
      rw [Nat.add_mul, Nat.one_mul] at this
      constructor
      · rintro (h | h)
        · omega
        · have := h.1; subst this; omega
      · intro _; omega
theorem natVal_ge {d : Str} (hd : d.all isDig = true) (h0 : d.head? ≠ some 48) (hn : d.length ≠ 0) : 10 ^ (d.length - 1) ≤ natVal d := by
  cases d with
  | nil => simp at hn
  | cons c r =>
    rw [natVal_cons]
    simp only [List.all_cons, Bool.and_eq_true] at hd
    have hc : 48 ≤ c.toNat := by have := hd.1; simp [isDig] at this; omega
    have : c.toNat ≠ 48 := fun e => by simp at h0; exact h0 (UInt8.toNat_inj.1 e)
    have := Nat.mul_le_mul_right (10 ^ r.length) (show 1 ≤ c.toNat - 48 by omega)
    simp only [List.length_cons, Nat.add_sub_cancel]
    omega
theorem natVal_short {a b : Str} (ha : a.all isDig = true) (hb : b.all isDig = true) (h0 : b.head? ≠ some 48) (h : a.length < b.length) : natVal a < natVal b := by
  have h1 := natVal_lt a ha
  have h2 := natVal_ge hb h0 (by omega)
  have h3 : 10 ^ a.length ≤ 10 ^ (b.length - 1) := Nat.pow_le_pow_right (by omega) (by omega)
  omega
theorem numCmp_sign (a b : Str) : numCmp a b = signI (val a - val b) := by
  have da := digits_dig a
  have db := digits_dig b
  have ha := digits_head a
  have hb := digits_head b
  have na : (digits a).2 = true → 0 < natVal (digits a).1 := fun h => by
    have := digits_neg a h
    have e : (digits a).1.length ≠ 0 := by intro e; apply this; rw [List.length_eq_zero_iff.1 e, groupsOf_nil]; rfl
    exact Nat.lt_of_lt_of_le (Nat.pow_pos (by omega)) (natVal_ge da ha e)
  have nb : (digits b).2 = true → 0 < natVal (digits b).1 := fun h => by
    have := digits_neg b h
    have e : (digits b).1.length ≠ 0 := by intro e; apply this; rw [List.length_eq_zero_iff.1 e, groupsOf_nil]; rfl
    exact Nat.lt_of_lt_of_le (Nat.pow_pos (by omega)) (natVal_ge db hb e)
  have key : (natVal (digits a).1 < natVal (digits b).1 ↔ (digits a).1.length < (digits b).1.length ∨ ((digits a).1.length = (digits b).1.length ∧ Str.lt (digits a).1 (digits b).1 = true)) ∧
      (natVal (digits b).1 < natVal (digits a).1 ↔ (digits b).1.length < (digits a).1.length ∨ ((digits a).1.length = (digits b).1.length ∧ Str.lt (digits b).1 (digits a).1 = true)) := by
    rcases Nat.lt_trichotomy (digits a).1.length (digits b).1.length with g | g | g
    · have := natVal_short da db hb g
      constructor <;> constructor <;> intro h <;> omega
    · rw [lt_val _ _ g da db, lt_val _ _ g.symm db da]
      constructor <;> constructor <;> intro h <;> omega
    · have := natVal_short db da ha g
      constructor <;> constructor <;> intro h <;> omega
  unfold numCmp signI val
  cases hna : (digits a).2 <;> cases hnb : (digits b).2 <;> simp only [hna, hnb] at na nb ⊢ <;> simp only [ne_eq, not_true, if_false, Bool.false_eq_true, if_true, not_false_iff, reduceCtorEq] <;> (repeat' split) <;> grind
end Go.T
namespace Go.T
open Go
theorem cmpD_eq (a b : Int) : cmpD a b = if a ≠ b then (if a < b then -1 else 1) else 0 := by unfold cmpD; grind
theorem cmpLn_eq (a b : Line) : cmpLn a b = if cmpLine a b ≠ 0 then cmpLine a b else numCmp a.amount b.amount := by
  unfold cmpLn
  rw [orI_cmp, ← numCmp_sign]
  simp only [orI]
  split
  · rfl
  · split
    · rfl
    · rename_i h; simp at h; exact h.symm
theorem cmpLs_eq : ∀ a b : List Line, cmpLs a b = cmpLines a b
  | [], [] => rfl
  | [], _ :: _ => rfl
  | _ :: _, [] => rfl
  | x :: a, y :: b => by
    simp only [cmpLs, cmpLines, cmpLs_eq a b, cmpLn_eq]
    grind
theorem cmpEn_eq : cmpEn = cmpE := by
  funext a b
  unfold cmpEn cmpE
  rw [cmpD_eq, cmpLs_eq]
  simp only [orI]
  grind
end Go.T
namespace Go.T
open Go
theorem lt_asymm : ∀ a b : Str, Str.lt a b = true → Str.lt b a = false
  | _, [], h => by simp [Str.lt, Op.bytesLess] at h
  | [], _ :: _, _ => by simp [Str.lt, Op.bytesLess]
  | c :: r, d :: s, h => by
    rw [lt_cons] at h ⊢
    have ih := lt_asymm r s
    simp only [Bool.or_eq_true, Bool.and_eq_true, decide_eq_true_eq] at h
    simp only [Bool.or_eq_false_iff, Bool.and_eq_false_iff, decide_eq_false_iff_not]
    rcases h with h | ⟨rfl, h⟩
    · exact ⟨by omega, .inl (by rintro rfl; omega)⟩
    · exact ⟨by omega, .inr (ih h)⟩
theorem cmpT_neg (a b : Str) : cmpT b a = -cmpT a b := by
  have h1 := lt_asymm a b
  have h2 := lt_asymm b a
  unfold cmpT
  cases ha : Str.lt a b <;> cases hb : Str.lt b a <;> simp_all
theorem signI_neg (n : Int) : signI (-n) = -signI n := by unfold signI; grind
theorem numCmp_neg (a b : Str) : numCmp b a = -numCmp a b := by
  rw [numCmp_sign, numCmp_sign, ← signI_neg]; congr 1; omega
theorem cmpLine_neg (a b : Line) : cmpLine b a = -cmpLine a b := by
  unfold cmpLine
  rw [cmpT_neg a.account b.account, cmpT_neg a.currency b.currency]
  grind
theorem cmpLines_neg : ∀ a b : List Line, cmpLines b a = -cmpLines a b
  | [], [] => rfl
  | [], _ :: _ => rfl
  | _ :: _, [] => rfl
  | x :: a, y :: b => by
    simp only [cmpLines, cmpLines_neg a b, cmpLine_neg x y, numCmp_neg x.amount y.amount]
    grind
theorem cmpE_neg (a b : Entry) : cmpE b a = -cmpE a b := by
  unfold cmpE
  rw [cmpT_neg a.cause b.cause, cmpLines_neg a.lines b.lines]
  grind
theorem insI_insR (r : List Entry) (x : Entry) : insI cmpE r x = insR r x := by
  induction r with
  | nil => rfl
  | cons y r ih =>
    simp only [insI, insR, ih]
    have := cmpE_neg x y
    split <;> split <;> first | rfl | omega
theorem sortI_eq (l : List Entry) : sortI cmpE l = sortE l := by
  unfold sortI sortE
  have : insI cmpE = insR := by funext r x; exact insI_insR r x
  rw [this]
theorem lessE_n0 (a : List Entry) : lessE a [] = a := by
  induction a with
  | nil => rfl
  | cons x a ih => simp only [lessE, List.dropWhile, ih]
theorem lessE_l0 {x y : Entry} {a b : List Entry} (h : cmpE y x < 0) : lessE (x :: a) (y :: b) = lessE (x :: a) b := by
  simp only [lessE, List.dropWhile, h, decide_true]
theorem lessE_e0 {x y : Entry} {a b : List Entry} (h : cmpE y x = 0) : lessE (x :: a) (y :: b) = lessE a b := by
  have : ¬ cmpE y x < 0 := by omega
  simp [lessE, List.dropWhile, h]
theorem lessE_g0 {x y : Entry} {a b : List Entry} (h : 0 < cmpE y x) : lessE (x :: a) (y :: b) = x :: lessE a (y :: b) := by
  have h1 : ¬ cmpE y x < 0 := by omega
  have h2 : cmpE y x ≠ 0 := by omega
  simp [lessE, List.dropWhile, h1, h2]
theorem mergeC_less : ∀ (n : Nat) (a b : List Entry), a.length + b.length ≤ n → mergeC cmpE n a b = (lessE a b, lessE b a)
  | n, [], b, _ => by rw [mergeC_nil1, lessE_n0]; rfl
  | n, x :: a, [], _ => by rw [mergeC_nil2, lessE_n0]; rfl
  | 0, x :: a, y :: b, h => by simp at h
  | n + 1, x :: a, y :: b, h => by
    simp only [List.length_cons] at h
    have hn := cmpE_neg x y
    simp only [mergeC]
    by_cases h1 : cmpE x y < 0
    · rw [if_pos h1, mergeC_less n a (y :: b) (by simp; omega), lessE_g0 (x := x) (y := y) (by omega), lessE_l0 (x := y) (y := x) h1]
    · rw [if_neg h1]
      by_cases h2 : 0 < cmpE x y
      · rw [if_pos h2, mergeC_less n (x :: a) b (by simp; omega), lessE_l0 (x := x) (y := y) (by omega), lessE_g0 (x := y) (y := x) h2]
      · rw [if_neg h2, mergeC_less n a b (by omega), lessE_e0 (x := x) (y := y) (by omega), lessE_e0 (x := y) (y := x) (by omega)]
theorem merge_minus (a b : List Entry) : mergeE cmpEn (sortI cmpEn a) (sortI cmpEn b) = (minusE a b, minusE b a) := by
  rw [cmpEn_eq, sortI_eq, sortI_eq]
  exact mergeC_less _ _ _ (Nat.le_refl _)
end Go.T
namespace Go.T
open Go Go.Proofs
theorem validE_append (a b : List Entry) : validE (a ++ b) = (validE a && validE b) := by simp [validE]
end Go.T
namespace Go.T
open Go
theorem val_canon (s : Str) : canon s = ofInt (val s) := by
  have h1 := digits_nat s
  have h2 := digits_neg s
  unfold canon val ofInt
  cases h : (digits s).2 with
  | true =>
    have : natVal (digits s).1 ≠ 0 := fun e => by
      rw [e, natDig_zero] at h1
      exact h2 h (by rw [h1, groupsOf_nil]; rfl)
    simp only [if_true]
    rw [if_pos (by omega), Int.natAbs_neg, Int.natAbs_natCast, ← h1]
  | false =>
    simp only [Bool.false_eq_true, if_false]
    rw [if_neg (by omega), Int.natAbs_natCast, ← h1]
theorem negS_ofInt (s : Str) : negS s = ofInt (-val s) := by
  have h1 := digits_nat s
  have h2 := digits_neg s
  unfold negS val ofInt
  cases h : (digits s).2 with
  | true =>
    simp only [if_true, true_or]
    rw [if_neg (by omega), Int.neg_neg, Int.natAbs_natCast, ← h1]
  | false =>
    simp only [Bool.false_eq_true, if_false, false_or]
    by_cases e : (digits s).1 = []
    · rw [if_pos e, e]
      simp [natVal, natDig_zero]
    · have : natVal (digits s).1 ≠ 0 := fun e' => by rw [e', natDig_zero] at h1; exact e h1
      rw [if_neg e, if_pos (by omega), Int.natAbs_neg, Int.natAbs_natCast, ← h1]
theorem canon_ofInt (n : Int) : canon (ofInt n) = ofInt n := by rw [val_canon, val_ofInt]
theorem val_negS (s : Str) : val (negS s) = -val s := by rw [negS_ofInt, val_ofInt]
theorem val_zero {s : Str} (h : canon s = s) : val s = 0 ↔ s = [] := by
  rw [val_canon] at h
  rw [← ofInt_nil, h]
def negL (l : Line) : Line := { l with amount := negS l.amount }
theorem fields_neg {l : Line} (h : checkFields l = 0) : checkFields (negL l) = 0 := by
  unfold checkFields at h ⊢
  have hn : checkNum (negL l).amount = 0 := by
    unfold checkNum negL
    rw [if_pos]
    rw [negS_ofInt, canon_ofInt]
  simp only [hn]
  simp only [negL] at *
  grind
theorem fields_num {l : Line} (h : checkFields l = 0) : canon l.amount = l.amount := by
  unfold checkFields at h
  have : checkNum l.amount = 0 := by grind
  unfold checkNum at this
  grind
theorem negL_nil {l : Line} (h : checkFields l = 0) (h0 : l.amount ≠ []) : (negL l).amount ≠ [] := by
  show negS l.amount ≠ []
  rw [negS_ofInt, ne_eq, ofInt_nil]
  have : val l.amount ≠ 0 := fun e => h0 ((val_zero (fields_num h)).1 e)
  omega
theorem checkLines_neg : ∀ (l pre : List Line), checkLines pre l = 0 → checkLines (pre.map negL) (l.map negL) = 0
  | [], _, _ => rfl
  | x :: l, pre, h => by
    simp only [checkLines] at h
    split at h
    · contradiction
    · rename_i h1
      simp only [ne_eq, Classical.not_not] at h1
      split at h
      · omega
      · rename_i h2
        split at h
        · omega
        · rename_i h3
          simp only [List.map_cons, checkLines]
          rw [if_neg (by rw [fields_neg h1]; simp), if_neg (negL_nil h1 h2), if_neg]
          · have := checkLines_neg l (pre ++ [x]) h
            simpa using this
          · rintro ⟨g1, g2⟩
            apply h3
            refine ⟨by simpa using g1, ?_⟩
            rcases snoc_cases pre with rfl | ⟨i, q, rfl⟩
            · simp at g1
            · simp only [List.map_append, List.map_cons, List.map_nil, List.getLastD_concat] at g2 ⊢
              exact g2
theorem sumV_neg (c : Str) (l : List Line) : sumV c (l.map negL) = -sumV c l := by
  induction l with
  | nil => rfl
  | cons x l ih =>
    simp only [List.map_cons, sumV, ih]
    have : val (negL x).amount = -val x.amount := val_negS _
    rw [this]
    show (if x.currency = c then -val x.amount else 0) + _ = _
    split <;> omega
theorem balanced_neg {l : List Line} (h : balanced l = true) : balanced (l.map negL) = true := by
  unfold balanced at *
  rw [List.all_eq_true] at *
  intro x hx
  obtain ⟨y, hy, rfl⟩ := List.mem_map.1 hx
  have := h y hy
  simp only [decide_eq_true_eq] at this ⊢
  rw [sumV_neg]
  show -sumV y.currency l = 0
  omega
theorem checkE_parts {e : Entry} : checkE e = 0 ↔ checkHead e = 0 ∧ e.lines.length ≠ 0 ∧ e.lines.length ≤ 64 ∧ checkLines [] e.lines = 0 ∧ balanced e.lines = true := by
  unfold checkE; grind
theorem checkE_opposite {e : Entry} (h : checkE e = 0) : checkE (opposite e) = 0 := by
  rw [checkE_parts] at *
  have e1 : (opposite e).lines = e.lines.map negL := rfl
  rw [e1]
  exact ⟨h.1, by simpa using h.2.1, by simpa using h.2.2.1, checkLines_neg _ _ h.2.2.2.1, balanced_neg h.2.2.2.2⟩
theorem smallE_opposite {e : Entry} (h : smallE e) (h' : ∀ l ∈ e.lines, l.amount.length ≤ 13) : smallE (opposite e) := by
  refine ⟨h.1, by simpa [opposite] using h.2.1, fun l hl => ?_⟩
  obtain ⟨x, hx, rfl⟩ := List.mem_map.1 (show l ∈ e.lines.map negL from hl)
  have := h.2.2 x hx
  refine ⟨this.1, this.2.1, ?_⟩
  have h3 := digits_len x.amount
  have h4 := h' x hx
  show (negS x.amount).length ≤ 14
  unfold negS
  split
  · omega
  · simp; omega
end Go.T
namespace Go.T
open Go Go.Proofs
/-- The text of the laws' own name. -/
@[reducible] def kk : Str := [107]
def openD (l : List Close) (known : Int) : Int := lastOpen (l.takeWhile (fun c : Close => decide (c.known < known)))
def posts (a b : List Entry) (l : List Close) (known : Int) : List Posted := (chg a b).map (postE l known kk)
theorem validIn_parts {a b : List Entry} {l : List Close} (h : validIn a b l = true) : great a = false ∧ great b = false ∧ great49 l = false ∧ checkCloses l = 0 ∧ validE (a ++ b) = true := by
  simp only [validIn, Bool.and_eq_true, Bool.not_eq_true', decide_eq_true_eq] at h
  exact ⟨h.1.1.1.1, h.1.1.1.2, h.1.1.2, h.1.2, h.2⟩
theorem foldl_last (P : Int → Prop) : ∀ (l : List Close) (o : Int), P o → (∀ c ∈ l, P (c.day + 1)) → P (l.foldl (fun _ c => c.day + 1) o)
  | [], _, h, _ => h
  | x :: l, o, _, h => foldl_last P l (x.day + 1) (h x (by simp)) (fun c hc => h c (by simp [hc]))
theorem checkCl_range : ∀ (l pre : List Close), checkCl pre l = 0 → ∀ c ∈ l, -25567 ≤ c.day ∧ c.day < 84005
  | [], _, _, c, hc => by simp at hc
  | x :: l, pre, h, c, hc => by
    simp only [checkCl] at h
    split at h
    · omega
    · split at h
      · omega
      · split at h
        · omega
        · rcases List.mem_cons.1 hc with rfl | hc
          · omega
          · exact checkCl_range l _ h c hc
theorem checkCloses_days {l : List Close} (h : checkCloses l = 0) : ∀ c ∈ l, -25567 ≤ c.day ∧ c.day < 84005 := by
  unfold checkCloses at h
  split at h
  · omega
  · exact checkCl_range l [] h
theorem openD_valid {l : List Close} {known : Int} (h : checkCloses l = 0) : -25567 ≤ openD l known ∧ openD l known ≤ 84005 := by
  unfold openD lastOpen
  refine foldl_last (fun n => -25567 ≤ n ∧ n ≤ 84005) _ _ (by omega) (fun c hc => ?_)
  have := checkCloses_days h c ((List.takeWhile_sublist _).subset hc)
  omega
theorem amt13 {l : List Entry} (h : great l = false) : ∀ e ∈ l, ∀ x ∈ e.lines, x.amount.length ≤ 13 := by
  intro e he x hx
  unfold great at h
  rw [Bool.or_eq_false_iff] at h
  have h2 := List.any_eq_false.1 h.2 e he
  simp only [greatOne, Bool.or_eq_true, not_or, decide_eq_true_eq, List.any_eq_true, not_exists] at h2
  have h3 := h2.2 x
  simp only [greatLine, Bool.or_eq_true, decide_eq_true_eq, not_and, not_or] at h3
  have := h3 hx
  omega
theorem chg_mem {a b : List Entry} (ha : great a = false) (hb : great b = false) (hv : validE (a ++ b) = true) : ∀ e ∈ chg a b, checkE e = 0 ∧ smallE e := by
  intro e he
  unfold chg at he
  rcases List.mem_append.1 he with h | h
  · obtain ⟨x, hx, rfl⟩ := List.mem_map.1 h
    have hm : x ∈ a := (sortI_mem ..).1 ((mergeC_mem ..).1 hx)
    exact ⟨checkE_opposite (validE_mem hv x (List.mem_append_left _ hm)), smallE_opposite ((great_small ha).2 x hm) (amt13 ha x hm)⟩
  · have hm : e ∈ b := (sortI_mem ..).1 ((mergeC_mem ..).2 h)
    exact ⟨validE_mem hv e (List.mem_append_right _ hm), (great_small hb).2 e hm⟩
theorem chg_len (a b : List Entry) : (chg a b).length ≤ a.length + b.length := by
  have := mergeC_len cmpEn ((sortI cmpEn a).length + (sortI cmpEn b).length) (sortI cmpEn a) (sortI cmpEn b)
  rw [sortI_len, sortI_len] at this
  have e : mergeC cmpEn (a.length + b.length) (sortI cmpEn a) (sortI cmpEn b) = mergeE cmpEn (sortI cmpEn a) (sortI cmpEn b) := by unfold mergeE; rw [sortI_len, sortI_len]
  rw [e] at this
  simp [chg]; omega
theorem stepP_valid {a b : List Entry} {l : List Close} {known : Int} (h : validIn a b l = true) (hk : 1 ≤ known) : stepP a b l known kk = (posts a b l known, 0) := by
  obtain ⟨_, _, _, h4, h5⟩ := validIn_parts h
  unfold stepP posts
  rw [if_neg (by simp [h4, h5]), if_neg (by omega), if_neg (by decide)]
theorem stepD_ok (a b : List Entry) (l : List Close) (known : Int) (h : validIn a b l = true) (hk : 1 ≤ known) : Fc Tryz.prog 13 [sEntries a, sEntries b, sCloses l, .i known, .str kk] (.tup [sPosteds (posts a b l known), .i 0]) := by
  obtain ⟨h1, h2, _, _, _⟩ := validIn_parts h
  have g1 := great_small h1
  have g2 := great_small h2
  have := step_ok a b l known kk (by omega) (by omega) g1.2 g2.2
  rwa [stepP_valid h hk] at this
structure PostOK (l : List Close) (known : Int) (p : Posted) : Prop where
  day : p.day = max p.entry.day (openD l known)
  known : p.known = known
  by_ : p.by_ = kk
  check : checkE p.entry = 0
  small : smallE p.entry
  d1 : ¬ (p.day < -25567 ∨ 84005 < p.day)
  d2 : ¬ (p.entry.day < -25567 ∨ 84005 < p.entry.day)
theorem posts_ok {a b : List Entry} {l : List Close} {known : Int} (h : validIn a b l = true) : ∀ p ∈ posts a b l known, PostOK l known p := by
  obtain ⟨h1, h2, h3, h4, h5⟩ := validIn_parts h
  intro p hp
  obtain ⟨e, he, rfl⟩ := List.mem_map.1 hp
  obtain ⟨c1, c2⟩ := chg_mem h1 h2 h5 e he
  have hd := validDay_checkE c1
  have ho := openD_valid (known := known) h4
  refine ⟨rfl, rfl, rfl, c1, c2, ?_, hd⟩
  show ¬ (max e.day (openD l known) < -25567 ∨ 84005 < max e.day (openD l known))
  omega
theorem posts_len {a b : List Entry} {l : List Close} {known : Int} (h : validIn a b l = true) : (posts a b l known).length ≤ 20 := by
  obtain ⟨h1, h2, _, _, _⟩ := validIn_parts h
  have g1 := great_small h1
  have g2 := great_small h2
  have := chg_len a b
  simp only [posts, List.length_map]; omega
end Go.T
namespace Go.T
open Go
open Go.ChangeMaps (setBlock)
variable [Noise]
variable {κ β : Type} [DecidableEq κ]
def findK (k : κ) : List κ → Nat → Option Nat
  | [], _ => none
  | x :: r, i => if k = x then some i else findK k r (i + 1)
/-- Keys that compare by value. -/
structure KeyT (P : Program) (kt : TypeId) (kD : κ → D) (kV : κ → Value) (kOk : κ → Prop) : Prop where
  val : ∀ {w : World} {O : Nat → Prop} {ρ : Rho} {k : κ} {v : Value}, V w O ρ (kD k) v → v = kV k ∧ kOk k
  back : ∀ {w : World} {O : Nat → Prop} {ρ : Rho} {k : κ}, kOk k → V w O ρ (kD k) (kV k)
  check : ∀ (b : Bool) (k : κ) (w : World), kOk k → (Instr.checkKey b 10000 kt (kV k)).run P w = .ok () w
  find : ∀ (k : κ) (es : List MapEntry) (ks : List κ) (w : World), es.map (·.key) = ks.map kV → (∀ x ∈ ks, kOk x) → kOk k →
    (Instr.findKey kt (kV k) es).run P w = .ok ((findK k ks 0).map fun j => (j, (es[j]?.map (·.val)).getD undef)) w
  stays : ∀ (k : κ) (w : World), (Instr.keyThatStays (kV k) (kV k)).run P w = .ok (kV k) w
@[reducible] def encGM (kD : κ → D) (vD : β → D) (m : List (κ × β)) : List (D × D) := m.map fun p => (kD p.1, vD p.2)
def getG (d : β) : List (κ × β) → κ → β
  | [], _ => d
  | (a, v) :: r, k => if k = a then v else getG d r k
def hasG (m : List (κ × β)) (k : κ) : Bool := m.any fun p => decide (k = p.1)
def setG : List (κ × β) → κ → β → List (κ × β)
  | [], k, v => [(k, v)]
  | (a, u) :: r, k, v => if k = a then (k, v) :: r else (a, u) :: setG r k v
theorem findK_cases (d : β) (k : κ) : ∀ (m : List (κ × β)) (i : Nat),
    (findK k (m.map (·.1)) i = none ∧ hasG m k = false ∧ getG d m k = d ∧ ∀ v, setG m k v = m ++ [(k, v)]) ∨
    (∃ j, j < m.length ∧ findK k (m.map (·.1)) i = some (i + j) ∧ m[j]? = some (k, getG d m k) ∧ hasG m k = true ∧ ∀ v, setG m k v = m.set j (k, v))
  | [], i => .inl ⟨rfl, rfl, rfl, fun _ => rfl⟩
  | (a, u) :: m, i => by
    by_cases h : k = a
    · subst h
      exact .inr ⟨0, by simp, by simp [findK], by simp [getG], by simp [hasG], fun v => by simp [setG]⟩
    · rcases findK_cases d k m (i + 1) with ⟨h1, h2, h3, h4⟩ | ⟨j, h1, h2, h3, h4, h5⟩
      · exact .inl ⟨by simp [findK, h, h1], by simpa [hasG, h] using h2, by simp [getG, h, h3], fun v => by simp [setG, h, h4]⟩
      · exact .inr ⟨j + 1, by simp; omega, by simp only [List.map_cons, findK, h, if_false, h2]; congr 1; omega, by simpa [getG, h] using h3, by simpa [hasG, h] using h4, fun v => by simp [setG, h, h5]⟩
section
variable {P : Program} {kt : TypeId} {kD : κ → D} {kV : κ → Value} {kOk : κ → Prop} {vD : β → D}
/-- What the entries of a map hold. -/
structure EsG (w : World) (O : Nat → Prop) (ρ : Rho) (kV : κ → Value) (vD : β → D) (es : Array MapEntry) (m : List (κ × β)) : Prop where
  len : es.size = m.length
  at_ : ∀ (i : Nat) (k : κ) (v : β), m[i]? = some (k, v) → ∃ e, es[i]? = some e ∧ e.born = i ∧ e.key = kV k ∧ V w O ρ (vD v) e.val
theorem EsG.keys {w : World} {O : Nat → Prop} {ρ : Rho} {es : Array MapEntry} {m : List (κ × β)} (h : EsG w O ρ kV vD es m) : es.toList.map (·.key) = (m.map (·.1)).map kV := by
  apply List.ext_getElem?
  intro i
  simp only [List.getElem?_map, Array.getElem?_toList]
  rcases Nat.lt_or_ge i m.length with g | g
  · obtain ⟨e, g1, _, g3, _⟩ := h.at_ i (m[i]).1 (m[i]).2 (by simp [g])
    rw [g1, List.getElem?_eq_getElem g]; simp [g3]
  · rw [Array.getElem?_eq_none (by rw [h.len]; exact g), List.getElem?_eq_none g]; rfl
theorem own_G (hK : KeyT P kt kD kV kOk) {w : World} {O : Nat → Prop} {ρ : Rho} {l : Loc} {m : List (κ × β)} (h : Own w O ρ l (.mp (encGM kD vD m))) : ∃ es, w.heap[l.b]? = some (.map es m.length) ∧ EsG w O ρ kV vD es m ∧ ∀ k ∈ m.map (·.1), kOk k := by
  obtain ⟨es, h1, h2, h3⟩ := h
  simp only [encGM, List.length_map] at h1 h2
  have key : ∀ (i : Nat) (k : κ) (v : β), m[i]? = some (k, v) → ∃ e : MapEntry, es[i]? = some e ∧ e.born = i ∧ e.key = kV k ∧ V w O ρ (vD v) e.val ∧ kOk k := by
    intro i k v hi
    obtain ⟨e, g1, g2, g3, g4⟩ := h3 i (kD k) (vD v) (by simp [encGM, hi])
    have := hK.val g3
    exact ⟨e, g1, g2, this.1, g4, this.2⟩
  refine ⟨es, h1, ⟨h2, fun i k v hi => ?_⟩, fun k hk => ?_⟩
  · obtain ⟨e, g1, g2, g3, g4, _⟩ := key i k v hi; exact ⟨e, g1, g2, g3, g4⟩
  · obtain ⟨p, hp, rfl⟩ := List.mem_map.1 hk
    obtain ⟨i, hi⟩ := List.getElem?_of_mem hp
    obtain ⟨_, _, _, _, _, g5⟩ := key i p.1 p.2 hi
    exact g5
theorem own_G' (hK : KeyT P kt kD kV kOk) {w : World} {O : Nat → Prop} {ρ : Rho} {l : Loc} {m : List (κ × β)} {es : Array MapEntry} (h1 : w.heap[l.b]? = some (.map es m.length)) (h2 : EsG w O ρ kV vD es m) (h3 : ∀ k ∈ m.map (·.1), kOk k) : Own w O ρ l (.mp (encGM kD vD m)) := by
  refine ⟨es, by simpa [encGM] using h1, by simpa [encGM] using h2.len, fun i kd vd hi => ?_⟩
  simp only [encGM, List.getElem?_map, Option.map_eq_some_iff] at hi
  obtain ⟨⟨k, v⟩, g1, g2⟩ := hi
  cases g2
  obtain ⟨e, g3, g4, g5, g6⟩ := h2.at_ i k v g1
  exact ⟨e, g3, g4, by rw [g5]; exact hK.back (h3 k (List.mem_map.2 ⟨(k, v), List.mem_of_getElem? g1, rfl⟩)), g6⟩
variable {env : Env} {dst : Option Tmp} {ty : TypeId} {pos : String} {aft : Array Edge} {g : Option (Nat × Bool)}
theorem q_makeMapG {t : TypeId} {obs : Obs} (id : Nat) (kD : κ → D) (vD : β → D) (hid : obs.get id = none) : QStep P ⟨dst, .makeMap t none, ty, pos, aft, g⟩ env obs (.mapr id) ((id, .mp (encGM kD vD [])) :: obs) := q_makeMapS id hid
theorem lookG (hK : KeyT P kt kD kV kOk) {O : Nat → Prop} {ρ : Rho} {w : World} {t et : TypeId} {id : Nat} {l : Loc} {m : List (κ × β)} {k : κ} {d : β} {obs : Obs} {zv : Value} {c : Bool} (hu : P.underlying t = some (.map kt et)) (hz : (zeroValue et).run P w = .ok zv w) (hzv : V w (Ot O ρ obs) ρ (vD d) zv)
    (hok : ObsOK w O ρ obs) (ho : obs.get id = some (.mp (encGM kD vD m))) (h2 : ρ id = some l) (hk : kOk k) :
    ∃ v, V w (Ot O ρ obs) ρ (vD (getG d m k)) v ∧ (Instr.lookup t (.map (some l.b)) (kV k) c).run P w = .ok (if c then .tuple #[v, .bool (hasG m k)] else v) w := by
  obtain ⟨l', h3, _, hown⟩ := hok.own id _ ho rfl
  rw [h2] at h3; cases h3
  obtain ⟨es, h4, h5, h6⟩ := own_G hK hown
  have hck := fun b => hK.check b k w hk
  have hfk := hK.find k es.toList (m.map (·.1)) w h5.keys h6 hk
  rcases findK_cases d k m 0 with ⟨g1, g2, g3, _⟩ | ⟨j, gj, g1, g2, g3, _⟩
  · refine ⟨zv, by rw [g3]; exact hzv, ?_⟩
    rw [g1] at hfk
    cases c <;> simp [Instr.lookup, run_und hu, MapKept.run_getObj_map h4, hck, hfk, hz, g2]
  · obtain ⟨e, k1, k2, k3, k4⟩ := h5.at_ j k _ g2
    refine ⟨e.val, k4, ?_⟩
    rw [g1] at hfk
    simp only [Option.map_some, Nat.zero_add, Array.getElem?_toList, k1, Option.getD_some] at hfk
    cases c <;> simp [Instr.lookup, run_und hu, MapKept.run_getObj_map h4, hck, hfk, g3]
theorem q_lookupG (hK : KeyT P kt kD kV kOk) {t et : TypeId} {x y : Operand} {id : Nat} {m : List (κ × β)} {k : κ} {d : β} {kd : D} {obs : Obs} {zv : Value} (hu : P.underlying t = some (.map kt et)) (hz : ∀ w, (zeroValue et).run P w = .ok zv w) (hzv : ∀ (w : World) O ρ, V w O ρ (vD d) zv)
    (hx : env.op x = some (.mapr id)) (hy : env.op y = some kd) (hkd : kd = kD k) (ho : obs.get id = some (.mp (encGM kD vD m))) :
    QStep P ⟨dst, .lookup t x y false, ty, pos, aft, g⟩ env obs (vD (getG d m k)) obs :=
  .val fun O ρ a w hok hv => by
    subst hkd
    have hvx := hv x (by simp [Op.operands]) _ hx
    have hvy := hK.val (hv y (by simp [Op.operands]) _ hy)
    simp only [V] at hvx
    obtain ⟨l, h2, e1⟩ := hvx
    obtain ⟨v, h3, h4⟩ := lookG (c := false) hK hu (hz w) (hzv w _ ρ) hok ho h2 hvy.2
    exact ⟨v, by simp [execOp, e1, hvy.1, h4], h3⟩
theorem setG_keys (hOk : κ → Prop) {m : List (κ × β)} {k : κ} {v : β} (h : ∀ x ∈ m.map (·.1), hOk x) (hk : hOk k) : ∀ x ∈ (setG m k v).map (·.1), hOk x := by
  induction m with
  | nil => intro x hx; simp [setG] at hx; subst hx; exact hk
  | cons p r ih =>
    obtain ⟨a, u⟩ := p
    intro x hx
    simp only [setG] at hx
    split at hx
    · simp only [List.map_cons, List.mem_cons] at hx h
      rcases hx with rfl | hx
      · exact hk
      · exact h x (.inr hx)
    · simp only [List.map_cons, List.mem_cons] at hx
      rcases hx with rfl | hx
      · exact h _ (by simp)
      · exact ih (fun y hy => h y (by simp only [List.map_cons, List.mem_cons]; exact .inr hy)) x hx
theorem setG_len (d : β) (m : List (κ × β)) (k : κ) (v : β) : (setG m k v).length = if hasG m k then m.length else m.length + 1 := by
  rcases findK_cases d k m 0 with ⟨_, g2, _, g4⟩ | ⟨j, _, _, _, g4, g5⟩
  · rw [g4, g2]; simp
  · rw [g5, g4]; simp
theorem q_mapUpdateG (hK : KeyT P kt kD kV kOk) {t et : TypeId} {x y z : Operand} {id : Nat} {m : List (κ × β)} {k : κ} {v : β} {kd vd : D} {obs : Obs} (hu : P.underlying t = some (.map kt et))
    (hx : env.op x = some (.mapr id)) (hy : env.op y = some kd) (hz : env.op z = some vd) (hkd : kd = kD k) (hvd : vd = vD v) (ho : obs.get id = some (.mp (encGM kD vD m))) :
    QStep P ⟨dst, .mapUpdate t x y z, ty, pos, aft, g⟩ env obs (.raw undef) (obs.set id (.mp (encGM kD vD (setG m k v)))) :=
  .step fun O ρ a w hok hv => by
    subst hkd; subst hvd
    have hvx := hv x (by simp [Op.operands]) _ hx
    have hvy := hK.val (hv y (by simp [Op.operands]) _ hy)
    have hvz := hv z (by simp [Op.operands]) _ hz
    simp only [V] at hvx
    obtain ⟨l, h2, e1⟩ := hvx
    obtain ⟨l', h3, _, hown⟩ := hok.own id _ ho rfl
    rw [h2] at h3; cases h3
    obtain ⟨es, h4, h5, h6⟩ := own_G hK hown
    have hck := fun b => hK.check b k w hvy.2
    have hfk := hK.find k es.toList (m.map (·.1)) w h5.keys h6 hvy.2
    have hset : ∀ o', (setObj l.b o').run P w = .ok () { w with heap := w.heap.setIfInBounds l.b o' } := fun o' => by simp [setObj, Sem.run, h4]
    have hlt := (Array.getElem?_eq_some_iff.1 h4).1
    have hks := setG_keys kOk (v := v) h6 hvy.2
    rcases findK_cases v k m 0 with ⟨g1, _, _, g4⟩ | ⟨j, gj, g1, g2, _, g4⟩
    · rw [g1] at hfk
      refine ⟨undef, _, ρ, .inr ⟨?_, rfl⟩, Tr.upd (o' := .mp (encGM kD vD (setG m k v))) hok ho rfl h2 (.map (es.push { key := kV k, val := a.eval z, born := m.length }) (m.length + 1)) ?_, by simp [V]⟩
      · simp [execOp, Instr.mapUpdate, run_und hu, e1, hvy.1, MapKept.run_getObj_map h4, hck, hfk, hset]
      · intro hkp
        rw [g4] at hks hkp ⊢
        refine own_G' hK (es := es.push { key := kV k, val := a.eval z, born := m.length }) (by simp [hlt]) ⟨by simp [h5.len], fun i k' v' hi => ?_⟩ hks
        rw [Array.getElem?_push, h5.len]
        by_cases e : i = m.length
        · subst e
          rw [List.getElem?_append_right (Nat.le_refl _)] at hi
          simp at hi
          obtain ⟨rfl, rfl⟩ := hi
          exact ⟨_, by rw [if_pos rfl], rfl, rfl, V.mono hkp (RhoLe.refl _) _ _ hvz⟩
        · have hi' : i < m.length := by
            rcases Nat.lt_or_ge i m.length with q | q
            · exact q
            · rw [List.getElem?_eq_none (by simp; omega)] at hi; cases hi
          rw [List.getElem?_append_left hi'] at hi
          obtain ⟨x, q1, q2, q3, q4⟩ := h5.at_ i k' v' hi
          exact ⟨x, by rw [if_neg e]; exact q1, q2, q3, V.mono hkp (RhoLe.refl _) _ _ q4⟩
    · obtain ⟨e, k1, k2, k3, _⟩ := h5.at_ j k _ g2
      rw [g1] at hfk
      simp only [Option.map_some, Nat.zero_add] at hfk
      refine ⟨undef, _, ρ, .inr ⟨?_, rfl⟩, Tr.upd (o' := .mp (encGM kD vD (setG m k v))) hok ho rfl h2 (.map (es.modify j fun e => { e with key := kV k, val := a.eval z }) m.length) ?_, by simp [V]⟩
      · simp [execOp, Instr.mapUpdate, run_und hu, e1, hvy.1, MapKept.run_getObj_map h4, hck, hfk, hset, k1, k3, hK.stays]
      · intro hkp
        rw [g4] at hks hkp ⊢
        refine own_G' hK (es := es.modify j fun e => { e with key := kV k, val := a.eval z }) (by simp [hlt]) ⟨by simp [h5.len], fun i k' v' hi => ?_⟩ hks
        rw [Array.getElem?_modify]
        rw [List.getElem?_set] at hi
        by_cases e' : j = i
        · subst e'
          rw [if_pos rfl, if_pos gj] at hi
          cases hi
          exact ⟨{ e with key := kV k, val := a.eval z }, by rw [if_pos rfl, k1]; rfl, k2, rfl, V.mono hkp (RhoLe.refl _) _ _ hvz⟩
        · rw [if_neg e'] at hi
          obtain ⟨x, q1, q2, q3, q4⟩ := h5.at_ i k' v' hi
          exact ⟨x, by rw [if_neg e']; exact q1, q2, q3, V.mono hkp (RhoLe.refl _) _ _ q4⟩
theorem EsG.mem {w : World} {O : Nat → Prop} {ρ : Rho} {es : Array MapEntry} {m : List (κ × β)} (h : EsG w O ρ kV vD es m) {e : MapEntry} (he : e ∈ es.toList) : ∃ k v, m[e.born]? = some (k, v) ∧ es[e.born]? = some e ∧ e.key = kV k ∧ V w O ρ (vD v) e.val := by
  obtain ⟨j, hj⟩ := List.getElem?_of_mem he
  rw [Array.getElem?_toList] at hj
  have hlt : j < m.length := by rw [← h.len]; exact (Array.getElem?_eq_some_iff.1 hj).1
  obtain ⟨e', g1, g2, g3, g4⟩ := h.at_ j (m[j]).1 (m[j]).2 (by simp [hlt])
  rw [hj] at g1; cases g1
  subst g2
  exact ⟨_, _, by simp [hlt], hj, g3, g4⟩
theorem EsG.borns {w : World} {O : Nat → Prop} {ρ : Rho} {es : Array MapEntry} {m : List (κ × β)} (h : EsG w O ρ kV vD es m) : es.toList.map (·.born) = List.range m.length := by
  apply List.ext_getElem?
  intro i
  rw [List.getElem?_map, Array.getElem?_toList]
  rcases Nat.lt_or_ge i m.length with g | g
  · obtain ⟨e, g1, g2, _⟩ := h.at_ i (m[i]).1 (m[i]).2 (by simp [g])
    rw [g1, List.getElem?_range g]; simp [g2]
  · rw [Array.getElem?_eq_none (by rw [h.len]; exact g), List.getElem?_eq_none (by simpa using g)]; rfl
def nextGA (m : List (κ × β)) (seen : List Nat) : Option (Nat × κ × β) → Prop
  | none => ∀ j, j < m.length → j ∈ seen
  | some (j, k, v) => m[j]? = some (k, v) ∧ j ∉ seen
@[reducible] def nextGD (kD : κ → D) (vD : β → D) : Option (Nat × κ × β) → D
  | none => .tup [.b false]
  | some (_, k, v) => .tup [.b true, kD k, vD v]
end
/-! Keys that are structs of strings. -/
@[reducible] def vStr (s : Str) : Value := .string ⟨s.toArray⟩
theorem Vs_strs' {w : World} {O : Nat → Prop} {ρ : Rho} : ∀ {ss : List Str}, (∀ s ∈ ss, s.length ≤ big) → Vs w O ρ (ss.map D.str) (ss.map vStr)
  | [], _ => by simp [Vs]
  | s :: ss, h => by
    simp only [List.map_cons, Vs, V]
    exact ⟨_, _, rfl, ⟨rfl, h s (by simp)⟩, Vs_strs' (fun x hx => h x (by simp [hx]))⟩
theorem Vs_strs_big {w : World} {O : Nat → Prop} {ρ : Rho} : ∀ {ss : List Str} {vs : List Value}, Vs w O ρ (ss.map D.str) vs → ∀ s ∈ ss, s.length ≤ big
  | [], _, _ => by simp
  | s :: ss, vs, h => by
    simp only [List.map_cons, Vs, V] at h
    obtain ⟨u, us, rfl, h1, h2⟩ := h
    intro x hx
    rcases List.mem_cons.1 hx with rfl | hx
    · exact h1.2
    · exact Vs_strs_big h2 x hx
theorem findK_ge {k : κ} : ∀ {ks : List κ} {i j : Nat}, findK k ks i = some j → i ≤ j
  | [], _, _, h => by simp [findK] at h
  | x :: ks, i, j, h => by
    simp only [findK] at h
    split at h
    · simp at h; omega
    · have := findK_ge h; omega
theorem findAsking_run {P : Program} {kt : TypeId} {kV : κ → Value} (w : World) (k : κ) (heq : ∀ k', (Op.equal kt (kV k) (kV k')).run P w = .ok (decide (k = k')) w) : ∀ (es : List MapEntry) (ks : List κ) (i : Nat), es.map (·.key) = ks.map kV →
    (Instr.findAsking kt (kV k) es i).run P w = .ok ((findK k ks i).map fun j => (j, (es[j - i]?.map (·.val)).getD undef)) w
  | [], [], i, _ => by simp [Instr.findAsking, findK]
  | [], _ :: _, i, h => by simp at h
  | _ :: _, [], i, h => by simp at h
  | e :: es, x :: ks, i, h => by
    simp only [List.map_cons, List.cons.injEq] at h
    by_cases hx : k = x
    · subst hx
      simp [Instr.findAsking, h.1, heq, findK]
    · have ih := findAsking_run w k heq es ks (i + 1) h.2
      simp only [Instr.findAsking, h.1, Sem.run_bind, heq, Result.andThen_ok, hx, decide_false, Bool.false_eq_true, if_false, ih, findK]
      cases hf : findK k ks (i + 1) with
      | none => rfl
      | some j =>
        have := findK_ge hf
        simp only [Option.map_some]
        rw [show j - i = (j - (i + 1)) + 1 by omega, List.getElem?_cons_succ]
@[reducible] def kPair (p : Str × Str) : D := .agg [.str p.1, .str p.2]
@[reducible] def vPair (p : Str × Str) : Value := .agg #[vStr p.1, vStr p.2]
@[reducible] def okPair (p : Str × Str) : Prop := p.1.length ≤ big ∧ p.2.length ≤ big
theorem keyPair {P : Program} {kt : TypeId} {f1 f2 : Field} (hu : P.underlying kt = some (.struct #[f1, f2])) (hp : P.stoodInHeld kt = false) (hf : StrF P [f1, f2] 0) : KeyT P kt kPair vPair okPair where
  val := by
    intro w O ρ k v h
    simp only [kPair, V] at h
    obtain ⟨vs, rfl, h⟩ := h
    have h1 := Vs_strs (ss := [k.1, k.2]) h
    have h2 := Vs_strs_big (ss := [k.1, k.2]) h
    refine ⟨?_, h2 _ (by simp), h2 _ (by simp)⟩
    have : vs = #[vStr k.1, vStr k.2] := by rw [← Array.toArray_toList (xs := vs), h1]; rfl
    rw [this]
  back := by
    intro w O ρ k h
    simp only [kPair, V]
    exact ⟨_, rfl, Vs_strs' (ss := [k.1, k.2]) (by simp; exact ⟨h.1, h.2⟩)⟩
  check := by
    intro b k w _
    have ck : ∀ (n : Nat) (t : TypeId) (s : Str), P.underlying t = some .string → (Instr.checkKey b (n + 1) t (vStr s)).run P w = .ok () w := fun n t s h => by
      rw [Instr.checkKey]; simp [run_und h]
    cases hf with
    | cons n1 u1 a1 o1 r =>
      cases r with
      | cons n2 u2 a2 o2 r =>
        show (Instr.checkKey b (9999 + 1) kt _).run P w = _
        rw [Instr.checkKey]
        have m1 : f1.name ≠ "_" := by simpa using n1
        have m2 : f2.name ≠ "_" := by simpa using n2
        simp [run_und hu, part, a1, a2, o1, o2, m1, m2, ck 9998 _ _ u1, ck 9998 _ _ u2]
  find := by
    intro k es ks w hes hks hk
    have heq : ∀ k' : Str × Str, (Op.equal kt (vPair k) (vPair k')).run P w = .ok (decide (k = k')) w := fun k' => by
      have hfo : P.fieldsOf kt = #[f1, f2] := by simp [Program.fieldsOf, hu]
      have h3 := run_equalIn_struct (P := P) w 9999 kt #[vStr k.1, vStr k.2] #[vStr k'.1, vStr k'.2] (by rw [hfo]; exact hu) hp
      have h6 := eqFields_str (d := 9998) hf (xs := [k.1, k.2]) (ys := [k'.1, k'.2]) rfl rfl w
      rw [hfo] at h3
      unfold Op.equal Op.maxDepth
      rw [h3]
      simp only [List.drop_zero] at h6
      refine h6.trans ?_
      congr 1
      rw [Bool.eq_iff_iff]
      obtain ⟨a, b⟩ := k
      obtain ⟨a', b'⟩ := k'
      simp
    have hfa := findAsking_run w k heq es ks 0 hes
    simp only [Nat.sub_zero] at hfa
    cases es with
    | nil =>
      cases ks with
      | nil => simp [Instr.findKey, run_und hu, Instr.findNow, findK]
      | cons _ _ => simp at hes
    | cons e es =>
      cases ks with
      | nil => simp at hes
      | cons x ks =>
        simp only [List.map_cons, List.cons.injEq] at hes
        simp [Instr.findKey, run_und hu, Instr.findNow, hes.1, Instr.sameNow]
        simpa using hfa
  stays := by
    intro k w
    simp [Instr.keyThatStays, Instr.sameBits, str_beq]
end Go.T
