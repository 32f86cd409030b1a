/-
  Contracts of the functions that the statement reaches, and the logic in which they are proved (no condition): parts W162, W163, Core65, Core67.
-/
import Derived.Test.YtoaceanbddegbaaGreatDoorA20
set_option linter.all false
namespace Go.T
open Go Go.Proofs Go.Proofs.Tryz
set_option maxRecDepth 20000
theorem agR(b:ah):Fc Tryz.prog 27 [.agg (gM b)] (ew b.bH):=by
 refine Fc.mk' [2] func27 rfl ntmps27 rfl rfl rfl (fun t w=>results_tmp results27 t _ w) ?_;refine go [] ?_;exact an rfl (Sub.refl _)
structure af3(l:List ah)where
 pre:List ah
 rest:List ah
 hx:l=pre++rest
theorem af2(l:List ah)(hl:(l.flatMap ah.bH).length≤1000000):Fc Tryz.prog 26 [cj l,.fn (.func 27) [] [],.fn (.func 28) [] []] (ew (sorted fw (l.flatMap ah.bH))):=by
 refine Fc.mk' [6] func26 rfl ntmps26 rfl rfl rfl (fun t w=>results_tmp results26 t _ w) ?_;refine U.ec 0 rfl (fun hb=>?_);simp only[List.length_map,aH]at hb;refine go [99999] ?_;refine U.loop (ι:=af3 l) (fun sx=>[(0,cj l),(1,.fn (.func 27) [] []),(2,.fn (.func 28) [] []),(7,.gs 9000 (sx.pre.flatMap ah.bH).length),(10,cj l),(11,.i l.length),(12,.i sx.pre.length)]) (fun sx=>[(9000,.arr 2 ((sx.pre.flatMap ah.bH).map bU))]) (fun sx=>sx.rest.length) ⟨[],l,rfl⟩ ?_ ?_
 ·exact(Le.ij 9000 2).trans<|Le.mk rfl (.s rfl rfl (.s rfl rfl (.s rfl rfl (.cons rfl (Sub.qv _) rfl (.s rfl rfl (.cons rfl (Sub.int zS) rfl (.s rfl rfl .nil))))))) (.arr rfl (by rfl) .nil)
 ·rintro⟨pre,rest,hx⟩;show U _ _ _ _ [(0,cj l),(1,.fn (.func 27) [] []),(2,.fn (.func 28) [] []),(7,.gs 9000 (pre.flatMap ah.bH).length),(10,cj l),(11,.i l.length),(12,.i pre.length)] [(9000,.arr 2 ((pre.flatMap ah.bH).map bU))];have hl:=congrArg List.length hx;simp only[List.length_append]at hl;have dN:=congrArg (fun l=>(List.flatMap ah.bH l).length) hx;simp only[List.flatMap_append,List.length_append]at dN;rcases rest with _|⟨x,rest⟩
  ·obtain rfl:l=pre:=by simpa using hx
   refine go [99999] ?_;refine aQ zS ?_;refine go [99999] ?_;refine oW (eu call74 rfl (aj' (l.flatMap ah.bH) zO) (.cons rfl rfl .nil) rfl rfl) ?_;refine U.bC (Le.freeze 6 9000 rfl rfl zS) ?_;refine U.ret (?_);exact bS (J:=[]) rfl (Sub.refl _)
  ·simp only[List.length_cons]at hl;simp only[List.flatMap_cons,List.length_append]at dN;refine go [99999] ?_;refine bM zQ ?_;refine ix zO (bb gM hx rfl) ?_;refine oP (cR call27 rfl rfl (agR x)) ?_;refine oW (dJ 1 underlying25 underlying25 sizeOf39 typeInfo39 zeroValue39 rfl (bt:=32) rfl rfl rfl rfl zS rfl rfl (by simp only[List.length_map];omega)) ?_;refine sd (aB zO) ?_;exact nx ⟨pre++[x],rest,by simp[hx]⟩ zS ((Le.mk (ai:=[(1,_)]) rfl (show du _ _ [(0,_),(1,_),(2,_),(7,_),(10,_),(11,_),(12,_)]from(.s rfl rfl (.s rfl rfl (.s rfl rfl (.s rfl rfl (.s rfl rfl (.s rfl rfl (.s rfl rfl .nil)))))))) (.cons (i:=1) rfl rfl .nil)).trans<|(Le.j4 7 1 9000 rfl rfl zS rfl).trans<|Le.mk rfl (.s rfl rfl (.s rfl rfl (.s rfl rfl (.cons rfl (Sub.gs zS) rfl (.s rfl rfl (.s rfl rfl (.cons rfl (Sub.int zS) rfl .nil))))))) (.arr rfl zS .nil))
theorem agQ(b:ah):Fc Tryz.prog 32 [.agg (gM b)] (fU b.bX):=by
 refine Fc.mk' [2] func32 rfl ntmps32 rfl rfl rfl (fun t w=>results_tmp results32 t _ w) ?_;refine go [] ?_;exact an rfl (Sub.refl _)
structure af1(l:List ah)where
 pre:List ah
 rest:List ah
 hx:l=pre++rest
theorem af0(l:List ah)(hl:(l.flatMap ah.bX).length≤1000000):Fc Tryz.prog 31 [cj l,.fn (.func 32) [] [],.fn (.func 33) [] []] (fU (sorted gA (l.flatMap ah.bX))):=by
 refine Fc.mk' [6] func31 rfl ntmps31 rfl rfl rfl (fun t w=>results_tmp results31 t _ w) ?_;refine U.ec 0 rfl (fun hb=>?_);simp only[List.length_map,aH]at hb;refine go [99999] ?_;refine U.loop (ι:=af1 l) (fun sx=>[(0,cj l),(1,.fn (.func 32) [] []),(2,.fn (.func 33) [] []),(7,.gs 9000 (sx.pre.flatMap ah.bX).length),(10,cj l),(11,.i l.length),(12,.i sx.pre.length)]) (fun sx=>[(9000,.arr 7 ((sx.pre.flatMap ah.bX).map iA))]) (fun sx=>sx.rest.length) ⟨[],l,rfl⟩ ?_ ?_
 ·exact(Le.ij 9000 7).trans<|Le.mk rfl (.s rfl rfl (.s rfl rfl (.s rfl rfl (.cons rfl (Sub.qv _) rfl (.s rfl rfl (.cons rfl (Sub.int zS) rfl (.s rfl rfl .nil))))))) (.arr rfl (by rfl) .nil)
 ·rintro⟨pre,rest,hx⟩;show U _ _ _ _ [(0,cj l),(1,.fn (.func 32) [] []),(2,.fn (.func 33) [] []),(7,.gs 9000 (pre.flatMap ah.bX).length),(10,cj l),(11,.i l.length),(12,.i pre.length)] [(9000,.arr 7 ((pre.flatMap ah.bX).map iA))];have hl:=congrArg List.length hx;simp only[List.length_append]at hl;have dN:=congrArg (fun l=>(List.flatMap ah.bX l).length) hx;simp only[List.flatMap_append,List.length_append]at dN;rcases rest with _|⟨x,rest⟩
  ·obtain rfl:l=pre:=by simpa using hx
   refine go [99999] ?_;refine aQ zS ?_;refine go [99999] ?_;refine oW (eu call77 rfl (aj_ (l.flatMap ah.bX) zO) (.cons rfl rfl .nil) rfl rfl) ?_;refine U.bC (Le.freeze 6 9000 rfl rfl zS) ?_;refine U.ret (?_);exact bS (J:=[]) rfl (Sub.refl _)
  ·simp only[List.length_cons]at hl;simp only[List.flatMap_cons,List.length_append]at dN;refine go [99999] ?_;refine bM zQ ?_;refine ix zO (bb gM hx rfl) ?_;refine oP (cR call32 rfl rfl (agQ x)) ?_;refine oW (dJ 1 underlying24 underlying24 sizeOf97 typeInfo97 zeroValue97 rfl (bt:=96) rfl rfl rfl rfl zS rfl rfl (by simp only[List.length_map];omega)) ?_;refine sd (aB zO) ?_;exact nx ⟨pre++[x],rest,by simp[hx]⟩ zS ((Le.mk (ai:=[(1,_)]) rfl (show du _ _ [(0,_),(1,_),(2,_),(7,_),(10,_),(11,_),(12,_)]from(.s rfl rfl (.s rfl rfl (.s rfl rfl (.s rfl rfl (.s rfl rfl (.s rfl rfl (.s rfl rfl .nil)))))))) (.cons (i:=1) rfl rfl .nil)).trans<|(Le.j4 7 1 9000 rfl rfl zS rfl).trans<|Le.mk rfl (.s rfl rfl (.s rfl rfl (.s rfl rfl (.cons rfl (Sub.gs zS) rfl (.s rfl rfl (.s rfl rfl (.cons rfl (Sub.int zS) rfl .nil))))))) (.arr rfl zS .nil))
theorem agM(b:ah):Fc Tryz.prog 35 [.agg (gM b)] (fQ b.b_):=by
 refine Fc.mk' [2] func35 rfl ntmps35 rfl rfl rfl (fun t w=>results_tmp results35 t _ w) ?_;refine go [] ?_;exact an rfl (Sub.refl _)
structure afZ(l:List ah)where
 pre:List ah
 rest:List ah
 hx:l=pre++rest
theorem afY(l:List ah)(hl:(l.flatMap ah.b_).length≤1000000):Fc Tryz.prog 34 [cj l,.fn (.func 35) [] [],.fn (.func 36) [] []] (fQ (sorted gp (l.flatMap ah.b_))):=by
 refine Fc.mk' [6] func34 rfl ntmps34 rfl rfl rfl (fun t w=>results_tmp results34 t _ w) ?_;refine U.ec 0 rfl (fun hb=>?_);simp only[List.length_map,aH]at hb;refine go [99999] ?_;refine U.loop (ι:=afZ l) (fun sx=>[(0,cj l),(1,.fn (.func 35) [] []),(2,.fn (.func 36) [] []),(7,.gs 9000 (sx.pre.flatMap ah.b_).length),(10,cj l),(11,.i l.length),(12,.i sx.pre.length)]) (fun sx=>[(9000,.arr 10 ((sx.pre.flatMap ah.b_).map gX))]) (fun sx=>sx.rest.length) ⟨[],l,rfl⟩ ?_ ?_
 ·exact(Le.ij 9000 10).trans<|Le.mk rfl (.s rfl rfl (.s rfl rfl (.s rfl rfl (.cons rfl (Sub.qv _) rfl (.s rfl rfl (.cons rfl (Sub.int zS) rfl (.s rfl rfl .nil))))))) (.arr rfl (by rfl) .nil)
 ·rintro⟨pre,rest,hx⟩;show U _ _ _ _ [(0,cj l),(1,.fn (.func 35) [] []),(2,.fn (.func 36) [] []),(7,.gs 9000 (pre.flatMap ah.b_).length),(10,cj l),(11,.i l.length),(12,.i pre.length)] [(9000,.arr 10 ((pre.flatMap ah.b_).map gX))];have hl:=congrArg List.length hx;simp only[List.length_append]at hl;have dN:=congrArg (fun l=>(List.flatMap ah.b_ l).length) hx;simp only[List.flatMap_append,List.length_append]at dN;rcases rest with _|⟨x,rest⟩
  ·obtain rfl:l=pre:=by simpa using hx
   refine go [99999] ?_;refine aQ zS ?_;refine go [99999] ?_;refine oW (eu call78 rfl (aj9 (l.flatMap ah.b_) zO) (.cons rfl rfl .nil) rfl rfl) ?_;refine U.bC (Le.freeze 6 9000 rfl rfl zS) ?_;refine U.ret (?_);exact bS (J:=[]) rfl (Sub.refl _)
  ·simp only[List.length_cons]at hl;simp only[List.flatMap_cons,List.length_append]at dN;refine go [99999] ?_;refine bM zQ ?_;refine ix zO (bb gM hx rfl) ?_;refine oP (cR call35 rfl rfl (agM x)) ?_;refine oW (dJ 1 underlying26 underlying26 sizeOf102 typeInfo102 zeroValue102 rfl (bt:=144) rfl rfl rfl rfl zS rfl rfl (by simp only[List.length_map];omega)) ?_;refine sd (aB zO) ?_;exact nx ⟨pre++[x],rest,by simp[hx]⟩ zS ((Le.mk (ai:=[(1,_)]) rfl (show du _ _ [(0,_),(1,_),(2,_),(7,_),(10,_),(11,_),(12,_)]from(.s rfl rfl (.s rfl rfl (.s rfl rfl (.s rfl rfl (.s rfl rfl (.s rfl rfl (.s rfl rfl .nil)))))))) (.cons (i:=1) rfl rfl .nil)).trans<|(Le.j4 7 1 9000 rfl rfl zS rfl).trans<|Le.mk rfl (.s rfl rfl (.s rfl rfl (.s rfl rfl (.cons rfl (Sub.gs zS) rfl (.s rfl rfl (.s rfl rfl (.cons rfl (Sub.int zS) rfl .nil))))))) (.arr rfl zS .nil))
theorem agT(b:ah):Fc Tryz.prog 40 [.agg (gM b)] (fX b.steps):=by
 refine Fc.mk' [2] func40 rfl ntmps40 rfl rfl rfl (fun t w=>results_tmp results40 t _ w) ?_;refine go [] ?_;exact an rfl (Sub.refl _)
structure af7(l:List ah)where
 pre:List ah
 rest:List ah
 hx:l=pre++rest
theorem af6(l:List ah)(hl:(l.flatMap ah.steps).length≤1000000):Fc Tryz.prog 39 [cj l,.fn (.func 40) [] [],.fn (.func 41) [] []] (fX (sorted gD (l.flatMap ah.steps))):=by
 refine Fc.mk' [6] func39 rfl ntmps39 rfl rfl rfl (fun t w=>results_tmp results39 t _ w) ?_;refine U.ec 0 rfl (fun hb=>?_);simp only[List.length_map,aH]at hb;refine go [99999] ?_;refine U.loop (ι:=af7 l) (fun sx=>[(0,cj l),(1,.fn (.func 40) [] []),(2,.fn (.func 41) [] []),(7,.gs 9000 (sx.pre.flatMap ah.steps).length),(10,cj l),(11,.i l.length),(12,.i sx.pre.length)]) (fun sx=>[(9000,.arr 6 ((sx.pre.flatMap ah.steps).map iC))]) (fun sx=>sx.rest.length) ⟨[],l,rfl⟩ ?_ ?_
 ·exact(Le.ij 9000 6).trans<|Le.mk rfl (.s rfl rfl (.s rfl rfl (.s rfl rfl (.cons rfl (Sub.qv _) rfl (.s rfl rfl (.cons rfl (Sub.int zS) rfl (.s rfl rfl .nil))))))) (.arr rfl (by rfl) .nil)
 ·rintro⟨pre,rest,hx⟩;show U _ _ _ _ [(0,cj l),(1,.fn (.func 40) [] []),(2,.fn (.func 41) [] []),(7,.gs 9000 (pre.flatMap ah.steps).length),(10,cj l),(11,.i l.length),(12,.i pre.length)] [(9000,.arr 6 ((pre.flatMap ah.steps).map iC))];have hl:=congrArg List.length hx;simp only[List.length_append]at hl;have dN:=congrArg (fun l=>(List.flatMap ah.steps l).length) hx;simp only[List.flatMap_append,List.length_append]at dN;rcases rest with _|⟨x,rest⟩
  ·obtain rfl:l=pre:=by simpa using hx
   refine go [99999] ?_;refine aQ zS ?_;refine go [99999] ?_;refine oW (eu call80 rfl (akb (l.flatMap ah.steps) zO) (.cons rfl rfl .nil) rfl rfl) ?_;refine U.bC (Le.freeze 6 9000 rfl rfl zS) ?_;refine U.ret (?_);exact bS (J:=[]) rfl (Sub.refl _)
  ·simp only[List.length_cons]at hl;simp only[List.flatMap_cons,List.length_append]at dN;refine go [99999] ?_;refine bM zQ ?_;refine ix zO (bb gM hx rfl) ?_;refine oP (cR call40 rfl rfl (agT x)) ?_;refine oW (dJ 1 underlying27 underlying27 sizeOf109 typeInfo109 zeroValue109 rfl (bt:=96) rfl rfl rfl rfl zS rfl rfl (by simp only[List.length_map];omega)) ?_;refine sd (aB zO) ?_;exact nx ⟨pre++[x],rest,by simp[hx]⟩ zS ((Le.mk (ai:=[(1,_)]) rfl (show du _ _ [(0,_),(1,_),(2,_),(7,_),(10,_),(11,_),(12,_)]from(.s rfl rfl (.s rfl rfl (.s rfl rfl (.s rfl rfl (.s rfl rfl (.s rfl rfl (.s rfl rfl .nil)))))))) (.cons (i:=1) rfl rfl .nil)).trans<|(Le.j4 7 1 9000 rfl rfl zS rfl).trans<|Le.mk rfl (.s rfl rfl (.s rfl rfl (.s rfl rfl (.cons rfl (Sub.gs zS) rfl (.s rfl rfl (.s rfl rfl (.cons rfl (Sub.int zS) rfl .nil))))))) (.arr rfl zS .nil))
theorem agK(b:ah):Fc Tryz.prog 43 [.agg (gM b)] (fD b.cr):=by
 refine Fc.mk' [2] func43 rfl ntmps43 rfl rfl rfl (fun t w=>results_tmp results43 t _ w) ?_;refine go [] ?_;exact an rfl (Sub.refl _)
structure afV(l:List ah)where
 pre:List ah
 rest:List ah
 hx:l=pre++rest
theorem afU(l:List ah)(hl:(l.flatMap ah.cr).length≤1000000):Fc Tryz.prog 42 [cj l,.fn (.func 43) [] [],.fn (.func 44) [] []] (fD (sorted gn (l.flatMap ah.cr))):=by
 refine Fc.mk' [6] func42 rfl ntmps42 rfl rfl rfl (fun t w=>results_tmp results42 t _ w) ?_;refine U.ec 0 rfl (fun hb=>?_);simp only[List.length_map,aH]at hb;refine go [99999] ?_;refine U.loop (ι:=afV l) (fun sx=>[(0,cj l),(1,.fn (.func 43) [] []),(2,.fn (.func 44) [] []),(7,.gs 9000 (sx.pre.flatMap ah.cr).length),(10,cj l),(11,.i l.length),(12,.i sx.pre.length)]) (fun sx=>[(9000,.arr 7 ((sx.pre.flatMap ah.cr).map ei))]) (fun sx=>sx.rest.length) ⟨[],l,rfl⟩ ?_ ?_
 ·exact(Le.ij 9000 7).trans<|Le.mk rfl (.s rfl rfl (.s rfl rfl (.s rfl rfl (.cons rfl (Sub.qv _) rfl (.s rfl rfl (.cons rfl (Sub.int zS) rfl (.s rfl rfl .nil))))))) (.arr rfl (by rfl) .nil)
 ·rintro⟨pre,rest,hx⟩;show U _ _ _ _ [(0,cj l),(1,.fn (.func 43) [] []),(2,.fn (.func 44) [] []),(7,.gs 9000 (pre.flatMap ah.cr).length),(10,cj l),(11,.i l.length),(12,.i pre.length)] [(9000,.arr 7 ((pre.flatMap ah.cr).map ei))];have hl:=congrArg List.length hx;simp only[List.length_append]at hl;have dN:=congrArg (fun l=>(List.flatMap ah.cr l).length) hx;simp only[List.flatMap_append,List.length_append]at dN;rcases rest with _|⟨x,rest⟩
  ·obtain rfl:l=pre:=by simpa using hx
   refine go [99999] ?_;refine aQ zS ?_;refine go [99999] ?_;refine oW (eu call81 rfl (aj7 (l.flatMap ah.cr) zO) (.cons rfl rfl .nil) rfl rfl) ?_;refine U.bC (Le.freeze 6 9000 rfl rfl zS) ?_;refine U.ret (?_);exact bS (J:=[]) rfl (Sub.refl _)
  ·simp only[List.length_cons]at hl;simp only[List.flatMap_cons,List.length_append]at dN;refine go [99999] ?_;refine bM zQ ?_;refine ix zO (bb gM hx rfl) ?_;refine oP (cR call43 rfl rfl (agK x)) ?_;refine oW (dJ 1 underlying28 underlying28 sizeOf115 typeInfo115 zeroValue115 rfl (bt:=104) rfl rfl rfl rfl zS rfl rfl (by simp only[List.length_map];omega)) ?_;refine sd (aB zO) ?_;exact nx ⟨pre++[x],rest,by simp[hx]⟩ zS ((Le.mk (ai:=[(1,_)]) rfl (show du _ _ [(0,_),(1,_),(2,_),(7,_),(10,_),(11,_),(12,_)]from(.s rfl rfl (.s rfl rfl (.s rfl rfl (.s rfl rfl (.s rfl rfl (.s rfl rfl (.s rfl rfl .nil)))))))) (.cons (i:=1) rfl rfl .nil)).trans<|(Le.j4 7 1 9000 rfl rfl zS rfl).trans<|Le.mk rfl (.s rfl rfl (.s rfl rfl (.s rfl rfl (.cons rfl (Sub.gs zS) rfl (.s rfl rfl (.s rfl rfl (.cons rfl (Sub.int zS) rfl .nil))))))) (.arr rfl zS .nil))
theorem agS(b:ah):Fc Tryz.prog 46 [.agg (gM b)] (fV b.cJ):=by
 refine Fc.mk' [2] func46 rfl ntmps46 rfl rfl rfl (fun t w=>results_tmp results46 t _ w) ?_;refine go [] ?_;exact an rfl (Sub.refl _)
structure af5(l:List ah)where
 pre:List ah
 rest:List ah
 hx:l=pre++rest
theorem af4(l:List ah)(hl:(l.flatMap ah.cJ).length≤1000000):Fc Tryz.prog 45 [cj l,.fn (.func 46) [] [],.fn (.func 47) [] []] (fV (sorted gC (l.flatMap ah.cJ))):=by
 refine Fc.mk' [6] func45 rfl ntmps45 rfl rfl rfl (fun t w=>results_tmp results45 t _ w) ?_;refine U.ec 0 rfl (fun hb=>?_);simp only[List.length_map,aH]at hb;refine go [99999] ?_;refine U.loop (ι:=af5 l) (fun sx=>[(0,cj l),(1,.fn (.func 46) [] []),(2,.fn (.func 47) [] []),(7,.gs 9000 (sx.pre.flatMap ah.cJ).length),(10,cj l),(11,.i l.length),(12,.i sx.pre.length)]) (fun sx=>[(9000,.arr 2 ((sx.pre.flatMap ah.cJ).map iB))]) (fun sx=>sx.rest.length) ⟨[],l,rfl⟩ ?_ ?_
 ·exact(Le.ij 9000 2).trans<|Le.mk rfl (.s rfl rfl (.s rfl rfl (.s rfl rfl (.cons rfl (Sub.qv _) rfl (.s rfl rfl (.cons rfl (Sub.int zS) rfl (.s rfl rfl .nil))))))) (.arr rfl (by rfl) .nil)
 ·rintro⟨pre,rest,hx⟩;show U _ _ _ _ [(0,cj l),(1,.fn (.func 46) [] []),(2,.fn (.func 47) [] []),(7,.gs 9000 (pre.flatMap ah.cJ).length),(10,cj l),(11,.i l.length),(12,.i pre.length)] [(9000,.arr 2 ((pre.flatMap ah.cJ).map iB))];have hl:=congrArg List.length hx;simp only[List.length_append]at hl;have dN:=congrArg (fun l=>(List.flatMap ah.cJ l).length) hx;simp only[List.flatMap_append,List.length_append]at dN;rcases rest with _|⟨x,rest⟩
  ·obtain rfl:l=pre:=by simpa using hx
   refine go [99999] ?_;refine aQ zS ?_;refine go [99999] ?_;refine oW (eu call82 rfl (aka (l.flatMap ah.cJ) zO) (.cons rfl rfl .nil) rfl rfl) ?_;refine U.bC (Le.freeze 6 9000 rfl rfl zS) ?_;refine U.ret (?_);exact bS (J:=[]) rfl (Sub.refl _)
  ·simp only[List.length_cons]at hl;simp only[List.flatMap_cons,List.length_append]at dN;refine go [99999] ?_;refine bM zQ ?_;refine ix zO (bb gM hx rfl) ?_;refine oP (cR call46 rfl rfl (agS x)) ?_;refine oW (dJ 1 underlying29 underlying29 sizeOf120 typeInfo120 zeroValue120 rfl (bt:=24) rfl rfl rfl rfl zS rfl rfl (by simp only[List.length_map];omega)) ?_;refine sd (aB zO) ?_;exact nx ⟨pre++[x],rest,by simp[hx]⟩ zS ((Le.mk (ai:=[(1,_)]) rfl (show du _ _ [(0,_),(1,_),(2,_),(7,_),(10,_),(11,_),(12,_)]from(.s rfl rfl (.s rfl rfl (.s rfl rfl (.s rfl rfl (.s rfl rfl (.s rfl rfl (.s rfl rfl .nil)))))))) (.cons (i:=1) rfl rfl .nil)).trans<|(Le.j4 7 1 9000 rfl rfl zS rfl).trans<|Le.mk rfl (.s rfl rfl (.s rfl rfl (.s rfl rfl (.cons rfl (Sub.gs zS) rfl (.s rfl rfl (.s rfl rfl (.cons rfl (Sub.int zS) rfl .nil))))))) (.arr rfl zS .nil))
theorem agL(b:ah):Fc Tryz.prog 49 [.agg (gM b)] (je b.entries):=by
 refine Fc.mk' [2] func49 rfl ntmps49 rfl rfl rfl (fun t w=>results_tmp results49 t _ w) ?_;refine go [] ?_;exact an rfl (Sub.refl _)
structure afX(l:List ah)where
 pre:List ah
 rest:List ah
 hx:l=pre++rest
theorem afW(l:List ah)(hl:(l.flatMap ah.entries).length≤1000000):Fc Tryz.prog 48 [cj l,.fn (.func 49) [] [],.fn (.func 50) [] []] (je (sorted gz (l.flatMap ah.entries))):=by
 refine Fc.mk' [6] func48 rfl ntmps48 rfl rfl rfl (fun t w=>results_tmp results48 t _ w) ?_;refine U.ec 0 rfl (fun hb=>?_);simp only[List.length_map,aH]at hb;refine go [99999] ?_;refine U.loop (ι:=afX l) (fun sx=>[(0,cj l),(1,.fn (.func 49) [] []),(2,.fn (.func 50) [] []),(7,.gs 9000 (sx.pre.flatMap ah.entries).length),(10,cj l),(11,.i l.length),(12,.i sx.pre.length)]) (fun sx=>[(9000,.arr 3 ((sx.pre.flatMap ah.entries).map hZ))]) (fun sx=>sx.rest.length) ⟨[],l,rfl⟩ ?_ ?_
 ·exact(Le.ij 9000 3).trans<|Le.mk rfl (.s rfl rfl (.s rfl rfl (.s rfl rfl (.cons rfl (Sub.qv _) rfl (.s rfl rfl (.cons rfl (Sub.int zS) rfl (.s rfl rfl .nil))))))) (.arr rfl (by rfl) .nil)
 ·rintro⟨pre,rest,hx⟩;show U _ _ _ _ [(0,cj l),(1,.fn (.func 49) [] []),(2,.fn (.func 50) [] []),(7,.gs 9000 (pre.flatMap ah.entries).length),(10,cj l),(11,.i l.length),(12,.i pre.length)] [(9000,.arr 3 ((pre.flatMap ah.entries).map hZ))];have hl:=congrArg List.length hx;simp only[List.length_append]at hl;have dN:=congrArg (fun l=>(List.flatMap ah.entries l).length) hx;simp only[List.flatMap_append,List.length_append]at dN;rcases rest with _|⟨x,rest⟩
  ·obtain rfl:l=pre:=by simpa using hx
   refine go [99999] ?_;refine aQ zS ?_;refine go [99999] ?_;refine oW (eu call83 rfl (aj8 (l.flatMap ah.entries) zO) (.cons rfl rfl .nil) rfl rfl) ?_;refine U.bC (Le.freeze 6 9000 rfl rfl zS) ?_;refine U.ret (?_);exact bS (J:=[]) rfl (Sub.refl _)
  ·simp only[List.length_cons]at hl;simp only[List.flatMap_cons,List.length_append]at dN;refine go [99999] ?_;refine bM zQ ?_;refine ix zO (bb gM hx rfl) ?_;refine oP (cR call49 rfl rfl (agL x)) ?_;refine oW (dJ 1 underlying32 underlying32 sizeOf45 typeInfo45 zeroValue45 rfl (bt:=48) rfl rfl rfl rfl zS rfl rfl (by simp only[List.length_map];omega)) ?_;refine sd (aB zO) ?_;exact nx ⟨pre++[x],rest,by simp[hx]⟩ zS ((Le.mk (ai:=[(1,_)]) rfl (show du _ _ [(0,_),(1,_),(2,_),(7,_),(10,_),(11,_),(12,_)]from(.s rfl rfl (.s rfl rfl (.s rfl rfl (.s rfl rfl (.s rfl rfl (.s rfl rfl (.s rfl rfl .nil)))))))) (.cons (i:=1) rfl rfl .nil)).trans<|(Le.j4 7 1 9000 rfl rfl zS rfl).trans<|Le.mk rfl (.s rfl rfl (.s rfl rfl (.s rfl rfl (.cons rfl (Sub.gs zS) rfl (.s rfl rfl (.s rfl rfl (.cons rfl (Sub.int zS) rfl .nil))))))) (.arr rfl zS .nil))
theorem nI{l pre rest:List ah}{x:ah}(hx:l=pre++x::rest)(h:decide (jW x.bH≠0)=true):sW l=(Ef,1):=by
 unfold sW;rw[if_pos (by rw[hx,List.any_append,List.any_cons,h];simp)]
theorem MZ{pre:List ah}{x:ah}(hc:pre.any (fun b=>decide (jW b.bH≠0))=false)(h:decide (jW x.bH≠0)=false):(pre++[x]).any (fun b=>decide (jW b.bH≠0))=false:=by rw[List.any_append,hc,List.any_cons,h];rfl
theorem nJ{l:List ah}(hc:l.any (fun b=>decide (jW b.bH≠0))=false)(h:decide ((16:Int)<(((lM (sorted fw (l.flatMap ah.bH))).map bU).length:Int))=true):sW l=(Ef,4):=by
 have h:=of_decide_eq_true h;rw[List.length_map]at h;unfold sW;rw[if_neg (by rw[hc];simp),if_pos (show 16<(B6 l).bH.length from(show 16<(lM (sorted fw (l.flatMap ah.bH))).length by omega))]
theorem nK{l:List ah}(hc:l.any (fun b=>decide (jW b.bH≠0))=false)(h:decide ((16:Int)<(((lM (sorted fw (l.flatMap ah.bH))).map bU).length:Int))=false):sW l=(B6 l,0):=by
 have h:=of_decide_eq_false h;rw[List.length_map]at h;unfold sW;rw[if_neg (by rw[hc];simp),if_neg (show ¬16<(B6 l).bH.length from(show ¬16<(lM (sorted fw (l.flatMap ah.bH))).length by omega))]
theorem fG{n k:Nat}{p:Prop}[Decidable p](h:(decide ((k:Int)<(n:Int))&&decide p)=false)(hk:k<n):¬p:=by
 rw[decide_eq_true (show(k:Int)<(n:Int) by omega),Bool.true_and]at h;exact of_decide_eq_false h
theorem iY{b:Bool}{p:Prop}[Decidable p](h:(b&&decide p)=true):p:=by
 simp only[Bool.and_eq_true]at h;exact of_decide_eq_true h.2
theorem Td{m:bj}(h:decide (m.cV≠[])=true):m.cV≠[]:=of_decide_eq_true h
theorem Tc{m:bj}(h:decide (m.cV≠[])=false):m.cV=[]:=Classical.byContradiction (of_decide_eq_false h)
structure Aq(l:List ah):Prop where
 bX:(l.flatMap ah.bX).length≤900
 bH:(l.flatMap ah.bH).length≤900
 b_:(l.flatMap ah.b_).length≤900
 steps:(l.flatMap ah.steps).length≤900
 cr:(l.flatMap ah.cr).length≤900
 cJ:(l.flatMap ah.cJ).length≤900
 entries:(l.flatMap ah.entries).length≤900
 WH:∀y∈l.flatMap ah.bH,y.cV.length≤20
theorem MU{l:List ah}(h:Aq l):∀y∈sorted fw (l.flatMap ah.bH),y.cV.length≤20:=fun y hy=>h.WH y (aj4.1 hy)
theorem RS{l:List ah}(h:Aq l):(sorted fw (l.flatMap ah.bH)).length≤1000:=by rw[uT];have:=h.bH;omega
structure aeh(l:List ah)where
 pre:List ah
 rest:List ah
 hx:l=pre++rest
 hc:pre.any (fun b=>decide (jW b.bH≠0))=false
theorem aeg(l:List ah)(ho:Aq l):Fc Tryz.prog 14 [cj l] (.bl [.agg (gM (sW l).1),.i (sW l).2]):=by
 refine Fc.j2 func14 rfl ntmps14 rfl rfl rfl ?_;refine U.ec 0 rfl (fun hb=>?_);simp only[List.length_map,aH]at hb;have hO:=ho;obtain⟨o1,o2,o3,o4,o5,o6,o7,o8⟩:=ho;refine go [99999] ?_;refine U.loop (ι:=aeh l) (fun sx=>[(0,cj l),(2,.box 0 0),(3,.i 0),(4,.box 1 0),(7,cj l),(8,.i l.length),(9,.i sx.pre.length)]) (fun sx=>[(0,.cells [.raw (.slice none 0 0),.raw (.slice none 0 0),.raw (.slice none 0 0),.raw (.slice none 0 0),.raw (.slice none 0 0),.raw (.slice none 0 0),.raw (.slice none 0 0)]),(1,.cells [.raw (.slice none 0 0),.raw (.slice none 0 0),.raw (.slice none 0 0),.raw (.slice none 0 0),.raw (.slice none 0 0),.raw (.slice none 0 0),.raw (.slice none 0 0)])]) (fun sx=>sx.rest.length) ⟨[],l,rfl,rfl⟩ ?_ ?_
 ·exact Le.mk rfl (.s rfl rfl (.s rfl rfl (.s rfl rfl (.s rfl rfl (.s rfl rfl (.cons rfl (Sub.int zS) rfl (.s rfl rfl .nil))))))) (.cons rfl rfl (.cons rfl rfl .nil))
 ·rintro⟨pre,rest,hx,hc⟩;show U _ _ _ _ [(0,cj l),(2,.box 0 0),(3,.i 0),(4,.box 1 0),(7,cj l),(8,.i l.length),(9,.i pre.length)] [(0,.cells [.raw (.slice none 0 0),.raw (.slice none 0 0),.raw (.slice none 0 0),.raw (.slice none 0 0),.raw (.slice none 0 0),.raw (.slice none 0 0),.raw (.slice none 0 0)]),(1,.cells [.raw (.slice none 0 0),.raw (.slice none 0 0),.raw (.slice none 0 0),.raw (.slice none 0 0),.raw (.slice none 0 0),.raw (.slice none 0 0),.raw (.slice none 0 0)])];have hl:=congrArg List.length hx;simp only[List.length_append]at hl;rcases rest with _|⟨x,rest⟩
  ·obtain rfl:l=pre:=by simpa using hx
   have eU:=hc;refine go [99999] ?_;refine aQ zS ?_;refine go [99999] ?_;refine oP (aj call26 rfl (af2 _ zO)) ?_;refine oP (aj call30 rfl (akD _ (RS hO) (MU hO))) ?_;refine br (fun h1=>?_) (fun h1=>?_)
   ·refine U.ret (?_);exact Rd.tE results14 isAgg34 sizeOf34 rfl rfl rfl rfl (Sub.agg (.cons ((Sub.nil _ false).trans (Sub.snap (by exact(congrArg (fun r:ah×Int=>List.map iA r.1.bX) (nJ eU zA)).symm))) (.cons ((Sub.nil _ false).trans (Sub.snap (by exact(congrArg (fun r:ah×Int=>List.map bU r.1.bH) (nJ eU zA)).symm))) (.cons ((Sub.nil _ false).trans (Sub.snap (by exact(congrArg (fun r:ah×Int=>List.map gX r.1.b_) (nJ eU zA)).symm))) (.cons ((Sub.nil _ false).trans (Sub.snap (by exact(congrArg (fun r:ah×Int=>List.map iC r.1.steps) (nJ eU zA)).symm))) (.cons ((Sub.nil _ false).trans (Sub.snap (by exact(congrArg (fun r:ah×Int=>List.map ei r.1.cr) (nJ eU zA)).symm))) (.cons ((Sub.nil _ false).trans (Sub.snap (by exact(congrArg (fun r:ah×Int=>List.map iB r.1.cJ) (nJ eU zA)).symm))) (.cons ((Sub.nil _ false).trans (Sub.snap (by exact(congrArg (fun r:ah×Int=>List.map hZ r.1.entries) (nJ eU zA)).symm))) .nil)))))))) (Sub.int (by exact(congrArg (fun r:ah×Int=>r.2) (nJ eU zA)).symm))
   ·refine oP (aj call31 rfl (af0 _ zO)) ?_;refine oP (aj call34 rfl (afY _ zO)) ?_;refine oP (aj call39 rfl (af6 _ zO)) ?_;refine oP (aj call42 rfl (afU _ zO)) ?_;refine oP (aj call45 rfl (af4 _ zO)) ?_;refine oP (aj call48 rfl (afW _ zO)) ?_;refine U.ret (?_);exact Rd.tE results14 isAgg34 sizeOf34 rfl rfl rfl rfl (Sub.agg (.cons (Sub.snap (by exact(congrArg (fun r:ah×Int=>List.map iA r.1.bX) (nK eU zA)).symm)) (.cons (Sub.snap (by exact(congrArg (fun r:ah×Int=>List.map bU r.1.bH) (nK eU zA)).symm)) (.cons (Sub.snap (by exact(congrArg (fun r:ah×Int=>List.map gX r.1.b_) (nK eU zA)).symm)) (.cons (Sub.snap (by exact(congrArg (fun r:ah×Int=>List.map iC r.1.steps) (nK eU zA)).symm)) (.cons (Sub.snap (by exact(congrArg (fun r:ah×Int=>List.map ei r.1.cr) (nK eU zA)).symm)) (.cons (Sub.snap (by exact(congrArg (fun r:ah×Int=>List.map iB r.1.cJ) (nK eU zA)).symm)) (.cons (Sub.snap (by exact(congrArg (fun r:ah×Int=>List.map hZ r.1.entries) (nK eU zA)).symm)) .nil)))))))) (Sub.int (by exact(congrArg (fun r:ah×Int=>r.2) (nK eU zA)).symm))
  ·simp only[List.length_cons]at hl;refine go [99999] ?_;refine bM zQ ?_;refine ix zO (bb gM hx rfl) ?_;refine oP (aj call25 rfl (WV _)) ?_;refine br (fun h2=>?_) (fun h2=>?_)
   ·refine U.ret (lS (u4 (lS (?_))));exact Rd.tE results14 isAgg34 sizeOf34 rfl rfl rfl rfl (Sub.agg (.cons ((Sub.nil _ false).trans (Sub.snap (by exact(congrArg (fun r:ah×Int=>List.map iA r.1.bX) (nI hx zA)).symm))) (.cons ((Sub.nil _ false).trans (Sub.snap (by exact(congrArg (fun r:ah×Int=>List.map bU r.1.bH) (nI hx zA)).symm))) (.cons ((Sub.nil _ false).trans (Sub.snap (by exact(congrArg (fun r:ah×Int=>List.map gX r.1.b_) (nI hx zA)).symm))) (.cons ((Sub.nil _ false).trans (Sub.snap (by exact(congrArg (fun r:ah×Int=>List.map iC r.1.steps) (nI hx zA)).symm))) (.cons ((Sub.nil _ false).trans (Sub.snap (by exact(congrArg (fun r:ah×Int=>List.map ei r.1.cr) (nI hx zA)).symm))) (.cons ((Sub.nil _ false).trans (Sub.snap (by exact(congrArg (fun r:ah×Int=>List.map iB r.1.cJ) (nI hx zA)).symm))) (.cons ((Sub.nil _ false).trans (Sub.snap (by exact(congrArg (fun r:ah×Int=>List.map hZ r.1.entries) (nI hx zA)).symm))) .nil)))))))) (Sub.int (by exact(congrArg (fun r:ah×Int=>r.2) (nI hx zA)).symm))
   ·refine sd (aB zO) ?_;exact nx ⟨pre++[x],rest,by simp[hx],MZ hc zA⟩ zS (Le.mk rfl (.s rfl rfl (.s rfl rfl (.s rfl rfl (.s rfl rfl (.s rfl rfl (.s rfl rfl (.cons rfl (Sub.int zS) rfl .nil))))))) (.cons rfl rfl (.cons rfl rfl .nil)))
structure XA(l:List ah)where
 pre:List ah
 rest:List ah
 acc:List bj
 hx:l=pre++rest
 P9:acc=sorted fw (pre.flatMap ah.bH)
structure XC(l:List ah)where
 out:List bj
 CU:List bj
 r:List bj
 B3:(sorted fw (l.flatMap ah.bH))=CU++r
 hr:out++lM r=lM (sorted fw (l.flatMap ah.bH))
 zG:r.length+out.length≤900
structure XD(l:List ah)(out r:List bj)where
 m:bj
 th:List bj
 q:List bj
 sP:(sorted fw (l.flatMap ah.bH))=th++q
 hq:out++oO m q=lM (sorted fw (l.flatMap ah.bH))
 BM:m.cV.length≤20+2*th.length
 zF:q.length≤r.length
 JD:q.length+out.length+1≤900
structure XB(l:List ah)(pre rest:List ah)(x:ah)where
 av:List bj
 aN:List bj
 bg:x.bH=av++aN
theorem Xz(l:List ah)(ho:Aq l):Fc Tryz.prog 58 [cj l] (ew (lM (sorted fw (l.flatMap ah.bH)))):=by
 refine Fc.mk' [2] func58 rfl ntmps58 rfl rfl rfl (fun t w=>results_tmp results58 t _ w) ?_;refine U.ec 0 rfl (fun hb=>?_);simp only[List.length_map,aH]at hb;have hO:=ho;obtain⟨o1,o2,o3,o4,o5,o6,o7,o8⟩:=ho;have hS:=MU hO;have EO:=RS hO;refine go [99999] ?_;refine U.loop (ι:=XA l) (fun sx=>[(0,cj l),(3,ew sx.acc),(4,.i sx.pre.length)]) (fun sx=>[]) (fun sx=>sx.rest.length) ⟨[],l,[],rfl,by simp[sorted,Ae]⟩ ?_ ?_
 ·exact Le.mk rfl (.s rfl rfl (.cons rfl ((Sub.nil _ false).trans (Sub.snap zS)) rfl (.s rfl rfl .nil))) .nil
 ·rintro⟨pre,rest,acc,hx,P9⟩;show U _ _ _ _ [(0,cj l),(3,ew acc),(4,.i pre.length)] [];have hl:=congrArg List.length hx;simp only[List.length_append]at hl;subst P9;rcases rest with _|⟨x,rest⟩
  ·obtain rfl:l=pre:=by simpa using hx
   refine go [99999] ?_;refine aQ zS ?_;refine go [99999] ?_;refine U.loop (ι:=XC l) (fun sx=>[(3,ew (sorted fw (l.flatMap ah.bH))),(6,.gs 0 sx.out.length),(7,.i sx.CU.length)]) (fun sx=>[(0,.arr 2 (sx.out.map bU))]) (fun sx=>sx.r.length) ⟨[],[],(sorted fw (l.flatMap ah.bH)),by simp,by simp,by rw[uT];simpa using hO.bH⟩ ?_ ?_
   ·exact(Le.ij 0 2).trans<|Le.mk rfl (.s rfl rfl (.cons rfl (Sub.qv _) rfl (.s rfl rfl .nil))) (.arr rfl (by rfl) .nil)
   ·rintro⟨out,CU,r,B3,hr,zG⟩;show U _ _ _ _ [(3,ew (sorted fw (l.flatMap ah.bH))),(6,.gs 0 out.length),(7,.i CU.length)] [(0,.arr 2 (out.map bU))];have vC:=congrArg List.length B3;rw[List.length_append]at vC;rcases r with _|⟨x,r⟩
    ·simp only[List.length_nil]at vC;refine go [99999] ?_;refine aQ (by rw[List.length_map,vC];simp) ?_;refine go [99999] ?_;refine U.bC (Le.freeze 2 0 rfl rfl zS) ?_;refine U.ret (?_);exact bS (J:=[]) rfl (Sub.snap (by rw[←hr];simp[lM]))
    ·simp only[List.length_cons]at vC;refine go [99999] ?_;refine bM (by rw[List.length_map,vC];simp only[decide_eq_true_eq];omega) ?_;refine ix zO (bb bU B3 rfl) ?_;refine sd (aB zO) ?_;refine U.loop (ι:=XD l out r) (fun sx=>[(3,ew (sorted fw (l.flatMap ah.bH))),(6,.gs 0 out.length),(7,.i sx.th.length),(8,.box 1 0)]) (fun sx=>[(0,.arr 2 (out.map bU)),(1,.cells (bU sx.m))]) (fun sx=>sx.q.length) ⟨x,CU++[x],r,by rw[B3];simp,hr,by have:=hS x (by rw[B3];simp);omega,Nat.le_refl _,by simp only[List.length_cons]at zG;omega⟩ ?_ ?_
     ·exact Le.mk rfl (.s rfl rfl (.cons rfl (Sub.gs zS) rfl (.cons rfl (Sub.int zS) rfl (.s rfl rfl .nil)))) (.arr rfl (by rfl) (.cons rfl rfl .nil))
     ·rintro⟨m,th,q,sP,hq,BM,zF,JD⟩;show U _ _ _ _ [(3,ew (sorted fw (l.flatMap ah.bH))),(6,.gs 0 out.length),(7,.i th.length),(8,.box 1 0)] [(0,.arr 2 (out.map bU)),(1,.cells (bU m))];have xB:=congrArg List.length sP;rw[List.length_append]at xB;rcases q with _|⟨z,q⟩
      ·have ac5:=zF;simp only[List.length_nil]at xB JD;refine go [99999] ?_;refine lW (fun hg=>And.intro zO (show _=some (bU default)from absurd (iM hg) (by rw[List.length_map];omega))) ?_;refine ord ?_;refine aQ (by rw[List.length_map,xB];simp) ?_;refine go [99999] ?_;refine br (fun h1=>?_) (fun h1=>?_)
       ·refine oP (cm (n:=1) (rows:=[bU m]) underlying25 sizeOf39 rfl rfl rfl zeroValue39 rfl rfl rfl rfl rfl rfl rfl) ?_;refine oW (dJ 2 underlying25 underlying25 sizeOf39 typeInfo39 zeroValue39 rfl (bt:=32) rfl rfl rfl rfl zS rfl rfl zQ) ?_;refine U.nil (dx ?_);exact⟨⟨out++[m],th,[],sP,Gw hq (FL rfl) (Td zA),by(simp only[List.length_append,List.length_singleton,List.length_cons,List.length_nil];omega)⟩,by(try dsimp only);simp only[List.length_cons,List.length_nil];omega,(Le.mk (ai:=[(2,_)]) rfl (show du _ _ [(3,_),(6,_),(7,_)]from(.s rfl rfl (.s rfl rfl (.s rfl rfl .nil)))) (.cons (i:=2) rfl rfl .nil)).trans<|(Le.j4 6 2 0 rfl rfl zS rfl).trans<|Le.mk rfl (.s rfl rfl (.cons rfl (Sub.gs zS) rfl (.s rfl rfl .nil))) (.arr rfl zS .nil)⟩
       ·refine U.nil (dx ?_);exact⟨⟨out,th,[],sP,Gv hq (FL rfl) (Tc zA),by omega⟩,by(try dsimp only);simp only[List.length_cons,List.length_nil];omega,Le.mk rfl (.s rfl rfl (.cons rfl (Sub.gs zS) rfl (.s rfl rfl .nil))) (.arr rfl (by rfl) .nil)⟩
      ·have h7:=hS z (by rw[sP];simp);have ac5:=zF;simp only[List.length_cons]at xB zF JD;refine go [99999] ?_;refine lW (fun hg=>And.intro zO (bb bU sP rfl)) ?_;refine ord ?_;refine br (fun h2=>?_) (fun h2=>?_)
       ·refine ix zO (bb bU sP rfl) ?_;refine oP (aj call90 rfl (Wt _ _ zO zO)) ?_;refine ord ?_;refine sd (aB zO) ?_;exact nx ⟨⟨m.cur,ma m.cV z.cV⟩,th++[z],q,by rw[sP];simp,Vm hq (iY zA),by have h8:=MM m.cV z.cV BM zO;simp only[List.length_append,List.length_singleton];omega,by omega,by omega⟩ zS (Le.mk rfl (.s rfl rfl (.cons rfl (Sub.gs zS) rfl (.cons rfl (Sub.int zS) rfl (.s rfl rfl .nil)))) (.arr rfl (by rfl) (.cons rfl rfl .nil)))
       ·refine go [99999] ?_;refine br (fun h3=>?_) (fun h3=>?_)
        ·refine oP (cm (n:=1) (rows:=[bU m]) underlying25 sizeOf39 rfl rfl rfl zeroValue39 rfl rfl rfl rfl rfl rfl rfl) ?_;refine oW (dJ 2 underlying25 underlying25 sizeOf39 typeInfo39 zeroValue39 rfl (bt:=32) rfl rfl rfl rfl zS rfl rfl zQ) ?_;refine U.nil (dx ?_);exact⟨⟨out++[m],th,(z::q),sP,Gw hq (FK (fG zA (by rw[List.length_map];omega))) (Td zA),by(simp only[List.length_append,List.length_singleton,List.length_cons,List.length_nil];omega)⟩,by(try dsimp only);simp only[List.length_cons,List.length_nil];omega,(Le.mk (ai:=[(2,_)]) rfl (show du _ _ [(3,_),(6,_),(7,_)]from(.s rfl rfl (.s rfl rfl (.s rfl rfl .nil)))) (.cons (i:=2) rfl rfl .nil)).trans<|(Le.j4 6 2 0 rfl rfl zS rfl).trans<|Le.mk rfl (.s rfl rfl (.cons rfl (Sub.gs zS) rfl (.s rfl rfl .nil))) (.arr rfl zS .nil)⟩
        ·refine U.nil (dx ?_);exact⟨⟨out,th,(z::q),sP,Gv hq (FK (fG zA (by rw[List.length_map];omega))) (Tc zA),by(simp only[List.length_append,List.length_singleton,List.length_cons,List.length_nil];omega)⟩,by(try dsimp only);simp only[List.length_cons,List.length_nil];omega,Le.mk rfl (.s rfl rfl (.cons rfl (Sub.gs zS) rfl (.s rfl rfl .nil))) (.arr rfl (by rfl) .nil)⟩
  ·simp only[List.length_cons]at hl;refine go [99999] ?_;refine bM zQ ?_;refine U.loop (ι:=XB l pre rest x) (fun sx=>[(0,cj l),(3,ew (sorted fw (pre.flatMap ah.bH++sx.av))),(4,.i pre.length),(5,.i sx.av.length)]) (fun sx=>[]) (fun sx=>sx.aN.length) ⟨[],x.bH,rfl⟩ ?_ ?_
   ·exact Le.mk rfl (.s rfl rfl (.cons rfl (Sub.snap (by simp only[List.append_nil,List.append_assoc,List.flatMap_append,List.flatMap_cons,List.flatMap_nil])) rfl (.s rfl rfl (.s rfl rfl .nil)))) .nil
   ·rintro⟨av,aN,bg⟩;show U _ _ _ _ [(0,cj l),(3,ew (sorted fw (pre.flatMap ah.bH++av))),(4,.i pre.length),(5,.i av.length)] [];have bW:=congrArg List.length bg;simp only[List.length_append]at bW;have q1:=congrArg (fun l=>(List.flatMap ah.bH l).length) hx;simp only[List.flatMap_append,List.flatMap_cons,List.length_append]at q1;rcases aN with _|⟨x2,aN⟩
    ·obtain rfl:av=x.bH:=by simpa using bg.symm
     refine go [99999] ?_;refine ix zO (bb gM hx rfl) ?_;refine aQ zS ?_;refine U.nil (dv ?_);refine go [99999] ?_;refine sd (aB zO) ?_;exact nx ⟨pre++[x],rest,_,by simp[hx],by simp⟩ zS (Le.mk rfl (.s rfl rfl (.s rfl rfl (.cons rfl (Sub.int zS) rfl .nil))) .nil)
    ·simp only[List.length_cons]at bW;refine go [99999] ?_;refine ix zO (bb gM hx rfl) ?_;refine bM (by simp only[List.length_map];rw[decide_eq_true_eq];omega) ?_;refine ix zO (bb gM hx rfl) ?_;refine ix zO (bb bU bg rfl) ?_;refine oP (aj call89 rfl (ah4 (pre.flatMap ah.bH++av) x2 (by have q1:=congrArg (fun l=>(List.flatMap ah.bH l).length) hx;have q2:=congrArg List.length bg;simp only[List.flatMap_append,List.flatMap_cons,List.length_append,List.length_cons]at q1 q2⊢;omega))) ?_;refine sd (aB zO) ?_;exact nx ⟨av++[x2],aN,by simp[bg]⟩ zS (Le.mk rfl (.s rfl rfl (.cons rfl (Sub.snap (by simp only[List.append_nil,List.append_assoc,List.flatMap_append,List.flatMap_cons,List.flatMap_nil])) rfl (.s rfl rfl (.cons rfl (Sub.int zS) rfl .nil)))) .nil)
structure aej(l:List ah)where
 pre:List ah
 rest:List ah
 hx:l=pre++rest
 hc:pre.any (fun b=>decide (jW b.bH≠0))=false
structure aek(l:List ah)where
 pre:List ah
 rest:List ah
 hx:l=pre++rest
structure ael(l:List ah)(pre rest:List ah)(x:ah)where
 av:List jR
 aN:List jR
 bg:x.bX=av++aN
structure aem(l:List ah)(pre rest:List ah)(x:ah)where
 av:List jF
 aN:List jF
 bg:x.b_=av++aN
structure aen(l:List ah)(pre rest:List ah)(x:ah)where
 av:List jT
 aN:List jT
 bg:x.steps=av++aN
structure aeo(l:List ah)(pre rest:List ah)(x:ah)where
 av:List jw
 aN:List jw
 bg:x.cr=av++aN
structure aep(l:List ah)(pre rest:List ah)(x:ah)where
 av:List jS
 aN:List jS
 bg:x.cJ=av++aN
structure aeq(l:List ah)(pre rest:List ah)(x:ah)where
 av:List j6
 aN:List j6
 bg:x.entries=av++aN
theorem aei(l:List ah)(ho:Aq l):Fc Tryz.prog 15 [cj l] (.bl [.agg (gM (sW l).1),.i (sW l).2]):=by
 refine Fc.j2 func15 rfl ntmps15 rfl rfl rfl ?_;refine U.ec 0 rfl (fun hb=>?_);simp only[List.length_map,aH]at hb;have hO:=ho;obtain⟨o1,o2,o3,o4,o5,o6,o7,o8⟩:=ho;refine go [99999] ?_;refine U.loop (ι:=aej l) (fun sx=>[(0,cj l),(2,.box 0 0),(3,.i 0),(4,.box 1 0),(5,.i sx.pre.length)]) (fun sx=>[(0,.cells [.raw (.slice none 0 0),.raw (.slice none 0 0),.raw (.slice none 0 0),.raw (.slice none 0 0),.raw (.slice none 0 0),.raw (.slice none 0 0),.raw (.slice none 0 0)]),(1,.cells [.raw (.slice none 0 0),.raw (.slice none 0 0),.raw (.slice none 0 0),.raw (.slice none 0 0),.raw (.slice none 0 0),.raw (.slice none 0 0),.raw (.slice none 0 0)])]) (fun sx=>sx.rest.length) ⟨[],l,rfl,rfl⟩ ?_ ?_
 ·exact Le.mk rfl (.s rfl rfl (.s rfl rfl (.s rfl rfl (.s rfl rfl (.s rfl rfl .nil))))) (.cons rfl rfl (.cons rfl rfl .nil))
 ·rintro⟨pre,rest,hx,hc⟩;show U _ _ _ _ [(0,cj l),(2,.box 0 0),(3,.i 0),(4,.box 1 0),(5,.i pre.length)] [(0,.cells [.raw (.slice none 0 0),.raw (.slice none 0 0),.raw (.slice none 0 0),.raw (.slice none 0 0),.raw (.slice none 0 0),.raw (.slice none 0 0),.raw (.slice none 0 0)]),(1,.cells [.raw (.slice none 0 0),.raw (.slice none 0 0),.raw (.slice none 0 0),.raw (.slice none 0 0),.raw (.slice none 0 0),.raw (.slice none 0 0),.raw (.slice none 0 0)])];have hl:=congrArg List.length hx;simp only[List.length_append]at hl;rcases rest with _|⟨x,rest⟩
  ·obtain rfl:l=pre:=by simpa using hx
   have eU:=hc;refine go [99999] ?_;refine aQ zS ?_;refine go [99999] ?_;refine U.loop (ι:=aek l) (fun sx=>[(0,cj l),(2,.box 0 0),(4,.box 1 0),(6,.i sx.pre.length)]) (fun sx=>[(0,.cells [.raw (.slice none 0 0),.raw (.slice none 0 0),.raw (.slice none 0 0),.raw (.slice none 0 0),.raw (.slice none 0 0),.raw (.slice none 0 0),.raw (.slice none 0 0)]),(1,.cells [fU (sorted gA (sx.pre.flatMap ah.bX)),.raw (.slice none 0 0),fQ (sorted gp (sx.pre.flatMap ah.b_)),fX (sorted gD (sx.pre.flatMap ah.steps)),fD (sorted gn (sx.pre.flatMap ah.cr)),fV (sorted gC (sx.pre.flatMap ah.cJ)),je (sorted gz (sx.pre.flatMap ah.entries))])]) (fun sx=>sx.rest.length) ⟨[],l,rfl⟩ ?_ ?_
   ·exact(Le.eP 1 0 rfl rfl (Sub.nil 7 false)).trans<|(Le.eP 1 2 rfl rfl (Sub.nil 10 false)).trans<|(Le.eP 1 3 rfl rfl (Sub.nil 6 false)).trans<|(Le.eP 1 4 rfl rfl (Sub.nil 7 false)).trans<|(Le.eP 1 5 rfl rfl (Sub.nil 2 false)).trans<|(Le.eP 1 6 rfl rfl (Sub.nil 3 false)).trans<|Le.mk rfl (.s rfl rfl (.s rfl rfl (.s rfl rfl (.s rfl rfl .nil)))) (.cons rfl rfl (.eq rfl (by simp only[List.flatMap_nil,sorted,Ae,List.map_nil];rfl) rfl .nil))
   ·rintro⟨pre,rest,hx⟩;show U _ _ _ _ [(0,cj l),(2,.box 0 0),(4,.box 1 0),(6,.i pre.length)] [(0,.cells [.raw (.slice none 0 0),.raw (.slice none 0 0),.raw (.slice none 0 0),.raw (.slice none 0 0),.raw (.slice none 0 0),.raw (.slice none 0 0),.raw (.slice none 0 0)]),(1,.cells [fU (sorted gA (pre.flatMap ah.bX)),.raw (.slice none 0 0),fQ (sorted gp (pre.flatMap ah.b_)),fX (sorted gD (pre.flatMap ah.steps)),fD (sorted gn (pre.flatMap ah.cr)),fV (sorted gC (pre.flatMap ah.cJ)),je (sorted gz (pre.flatMap ah.entries))])];have hl:=congrArg List.length hx;simp only[List.length_append]at hl;rcases rest with _|⟨x,rest⟩
    ·obtain rfl:l=pre:=by simpa using hx
     refine go [99999] ?_;refine aQ zS ?_;refine go [99999] ?_;refine oP (aj call58 rfl (Xz _ hO)) ?_;refine br (fun h1=>?_) (fun h1=>?_)
     ·refine U.ret (?_);exact Rd.tE results15 isAgg34 sizeOf34 rfl rfl rfl rfl (Sub.agg (.cons ((Sub.nil _ false).trans (Sub.snap (by exact(congrArg (fun r:ah×Int=>List.map iA r.1.bX) (nJ eU zA)).symm))) (.cons ((Sub.nil _ false).trans (Sub.snap (by exact(congrArg (fun r:ah×Int=>List.map bU r.1.bH) (nJ eU zA)).symm))) (.cons ((Sub.nil _ false).trans (Sub.snap (by exact(congrArg (fun r:ah×Int=>List.map gX r.1.b_) (nJ eU zA)).symm))) (.cons ((Sub.nil _ false).trans (Sub.snap (by exact(congrArg (fun r:ah×Int=>List.map iC r.1.steps) (nJ eU zA)).symm))) (.cons ((Sub.nil _ false).trans (Sub.snap (by exact(congrArg (fun r:ah×Int=>List.map ei r.1.cr) (nJ eU zA)).symm))) (.cons ((Sub.nil _ false).trans (Sub.snap (by exact(congrArg (fun r:ah×Int=>List.map iB r.1.cJ) (nJ eU zA)).symm))) (.cons ((Sub.nil _ false).trans (Sub.snap (by exact(congrArg (fun r:ah×Int=>List.map hZ r.1.entries) (nJ eU zA)).symm))) .nil)))))))) (Sub.int (by exact(congrArg (fun r:ah×Int=>r.2) (nJ eU zA)).symm))
     ·refine U.ret (?_);exact Rd.tE results15 isAgg34 sizeOf34 rfl rfl rfl rfl (Sub.agg (.cons (Sub.snap (by exact(congrArg (fun r:ah×Int=>List.map iA r.1.bX) (nK eU zA)).symm)) (.cons (Sub.snap (by exact(congrArg (fun r:ah×Int=>List.map bU r.1.bH) (nK eU zA)).symm)) (.cons (Sub.snap (by exact(congrArg (fun r:ah×Int=>List.map gX r.1.b_) (nK eU zA)).symm)) (.cons (Sub.snap (by exact(congrArg (fun r:ah×Int=>List.map iC r.1.steps) (nK eU zA)).symm)) (.cons (Sub.snap (by exact(congrArg (fun r:ah×Int=>List.map ei r.1.cr) (nK eU zA)).symm)) (.cons (Sub.snap (by exact(congrArg (fun r:ah×Int=>List.map iB r.1.cJ) (nK eU zA)).symm)) (.cons (Sub.snap (by exact(congrArg (fun r:ah×Int=>List.map hZ r.1.entries) (nK eU zA)).symm)) .nil)))))))) (Sub.int (by exact(congrArg (fun r:ah×Int=>r.2) (nK eU zA)).symm))
    ·simp only[List.length_cons]at hl;refine go [99999] ?_;refine bM zQ ?_;refine ix zO (bb gM hx rfl) ?_;refine U.loop (ι:=ael l pre rest x) (fun sx=>[(0,cj l),(2,.box 0 0),(4,.box 1 0),(6,.i pre.length),(7,.box 2 0),(8,.i sx.av.length)]) (fun sx=>[(0,.cells [.raw (.slice none 0 0),.raw (.slice none 0 0),.raw (.slice none 0 0),.raw (.slice none 0 0),.raw (.slice none 0 0),.raw (.slice none 0 0),.raw (.slice none 0 0)]),(1,.cells [fU (sorted gA (pre.flatMap ah.bX++sx.av)),.raw (.slice none 0 0),fQ (sorted gp (pre.flatMap ah.b_)),fX (sorted gD (pre.flatMap ah.steps)),fD (sorted gn (pre.flatMap ah.cr)),fV (sorted gC (pre.flatMap ah.cJ)),je (sorted gz (pre.flatMap ah.entries))]),(2,.cells [fU x.bX,ew x.bH,fQ x.b_,fX x.steps,fD x.cr,fV x.cJ])]) (fun sx=>sx.aN.length) ⟨[],x.bX,rfl⟩ ?_ ?_
     ·exact Le.mk rfl (.s rfl rfl (.s rfl rfl (.s rfl rfl (.s rfl rfl (.s rfl rfl (.s rfl rfl .nil)))))) (.cons rfl rfl (.eq rfl (by simp only[List.append_nil,List.append_assoc,List.flatMap_append,List.flatMap_cons,List.flatMap_nil]) rfl (.cons rfl rfl .nil)))
     ·rintro⟨av,aN,bg⟩;show U _ _ _ _ [(0,cj l),(2,.box 0 0),(4,.box 1 0),(6,.i pre.length),(7,.box 2 0),(8,.i av.length)] [(0,.cells [.raw (.slice none 0 0),.raw (.slice none 0 0),.raw (.slice none 0 0),.raw (.slice none 0 0),.raw (.slice none 0 0),.raw (.slice none 0 0),.raw (.slice none 0 0)]),(1,.cells [fU (sorted gA (pre.flatMap ah.bX++av)),.raw (.slice none 0 0),fQ (sorted gp (pre.flatMap ah.b_)),fX (sorted gD (pre.flatMap ah.steps)),fD (sorted gn (pre.flatMap ah.cr)),fV (sorted gC (pre.flatMap ah.cJ)),je (sorted gz (pre.flatMap ah.entries))]),(2,.cells [fU x.bX,ew x.bH,fQ x.b_,fX x.steps,fD x.cr,fV x.cJ])];have bW:=congrArg List.length bg;simp only[List.length_append]at bW;have q1:=congrArg (fun l=>(List.flatMap ah.bX l).length) hx;simp only[List.flatMap_append,List.flatMap_cons,List.length_append]at q1;rcases aN with _|⟨x2,aN⟩
      ·obtain rfl:av=x.bX:=by simpa using bg.symm
       refine go [99999] ?_;refine aQ zS ?_;refine go [99999] ?_;refine U.loop (ι:=aem l pre rest x) (fun sx=>[(0,cj l),(2,.box 0 0),(4,.box 1 0),(6,.i pre.length),(7,.box 2 0),(9,.i sx.av.length)]) (fun sx=>[(0,.cells [.raw (.slice none 0 0),.raw (.slice none 0 0),.raw (.slice none 0 0),.raw (.slice none 0 0),.raw (.slice none 0 0),.raw (.slice none 0 0),.raw (.slice none 0 0)]),(1,.cells [fU (sorted gA (pre.flatMap ah.bX++x.bX)),.raw (.slice none 0 0),fQ (sorted gp (pre.flatMap ah.b_++sx.av)),fX (sorted gD (pre.flatMap ah.steps)),fD (sorted gn (pre.flatMap ah.cr)),fV (sorted gC (pre.flatMap ah.cJ)),je (sorted gz (pre.flatMap ah.entries))]),(2,.cells [fU x.bX,ew x.bH,fQ x.b_,fX x.steps,fD x.cr,fV x.cJ])]) (fun sx=>sx.aN.length) ⟨[],x.b_,rfl⟩ ?_ ?_
       ·exact Le.mk rfl (.s rfl rfl (.s rfl rfl (.s rfl rfl (.s rfl rfl (.s rfl rfl (.s rfl rfl .nil)))))) (.cons rfl rfl (.eq rfl (by simp only[List.append_nil,List.append_assoc,List.flatMap_append,List.flatMap_cons,List.flatMap_nil]) rfl (.cons rfl rfl .nil)))
       ·rintro⟨av,aN,bg⟩;show U _ _ _ _ [(0,cj l),(2,.box 0 0),(4,.box 1 0),(6,.i pre.length),(7,.box 2 0),(9,.i av.length)] [(0,.cells [.raw (.slice none 0 0),.raw (.slice none 0 0),.raw (.slice none 0 0),.raw (.slice none 0 0),.raw (.slice none 0 0),.raw (.slice none 0 0),.raw (.slice none 0 0)]),(1,.cells [fU (sorted gA (pre.flatMap ah.bX++x.bX)),.raw (.slice none 0 0),fQ (sorted gp (pre.flatMap ah.b_++av)),fX (sorted gD (pre.flatMap ah.steps)),fD (sorted gn (pre.flatMap ah.cr)),fV (sorted gC (pre.flatMap ah.cJ)),je (sorted gz (pre.flatMap ah.entries))]),(2,.cells [fU x.bX,ew x.bH,fQ x.b_,fX x.steps,fD x.cr,fV x.cJ])];have bW:=congrArg List.length bg;simp only[List.length_append]at bW;have q1:=congrArg (fun l=>(List.flatMap ah.b_ l).length) hx;simp only[List.flatMap_append,List.flatMap_cons,List.length_append]at q1;rcases aN with _|⟨x2,aN⟩
        ·obtain rfl:av=x.b_:=by simpa using bg.symm
         refine go [99999] ?_;refine aQ zS ?_;refine go [99999] ?_;refine U.loop (ι:=aen l pre rest x) (fun sx=>[(0,cj l),(2,.box 0 0),(4,.box 1 0),(6,.i pre.length),(7,.box 2 0),(10,.i sx.av.length)]) (fun sx=>[(0,.cells [.raw (.slice none 0 0),.raw (.slice none 0 0),.raw (.slice none 0 0),.raw (.slice none 0 0),.raw (.slice none 0 0),.raw (.slice none 0 0),.raw (.slice none 0 0)]),(1,.cells [fU (sorted gA (pre.flatMap ah.bX++x.bX)),.raw (.slice none 0 0),fQ (sorted gp (pre.flatMap ah.b_++x.b_)),fX (sorted gD (pre.flatMap ah.steps++sx.av)),fD (sorted gn (pre.flatMap ah.cr)),fV (sorted gC (pre.flatMap ah.cJ)),je (sorted gz (pre.flatMap ah.entries))]),(2,.cells [fU x.bX,ew x.bH,fQ x.b_,fX x.steps,fD x.cr,fV x.cJ])]) (fun sx=>sx.aN.length) ⟨[],x.steps,rfl⟩ ?_ ?_
         ·exact Le.mk rfl (.s rfl rfl (.s rfl rfl (.s rfl rfl (.s rfl rfl (.s rfl rfl (.s rfl rfl .nil)))))) (.cons rfl rfl (.eq rfl (by simp only[List.append_nil,List.append_assoc,List.flatMap_append,List.flatMap_cons,List.flatMap_nil]) rfl (.cons rfl rfl .nil)))
         ·rintro⟨av,aN,bg⟩;show U _ _ _ _ [(0,cj l),(2,.box 0 0),(4,.box 1 0),(6,.i pre.length),(7,.box 2 0),(10,.i av.length)] [(0,.cells [.raw (.slice none 0 0),.raw (.slice none 0 0),.raw (.slice none 0 0),.raw (.slice none 0 0),.raw (.slice none 0 0),.raw (.slice none 0 0),.raw (.slice none 0 0)]),(1,.cells [fU (sorted gA (pre.flatMap ah.bX++x.bX)),.raw (.slice none 0 0),fQ (sorted gp (pre.flatMap ah.b_++x.b_)),fX (sorted gD (pre.flatMap ah.steps++av)),fD (sorted gn (pre.flatMap ah.cr)),fV (sorted gC (pre.flatMap ah.cJ)),je (sorted gz (pre.flatMap ah.entries))]),(2,.cells [fU x.bX,ew x.bH,fQ x.b_,fX x.steps,fD x.cr,fV x.cJ])];have bW:=congrArg List.length bg;simp only[List.length_append]at bW;have q1:=congrArg (fun l=>(List.flatMap ah.steps l).length) hx;simp only[List.flatMap_append,List.flatMap_cons,List.length_append]at q1;rcases aN with _|⟨x2,aN⟩
          ·obtain rfl:av=x.steps:=by simpa using bg.symm
           refine go [99999] ?_;refine aQ zS ?_;refine go [99999] ?_;refine U.loop (ι:=aeo l pre rest x) (fun sx=>[(0,cj l),(2,.box 0 0),(4,.box 1 0),(6,.i pre.length),(7,.box 2 0),(11,.i sx.av.length)]) (fun sx=>[(0,.cells [.raw (.slice none 0 0),.raw (.slice none 0 0),.raw (.slice none 0 0),.raw (.slice none 0 0),.raw (.slice none 0 0),.raw (.slice none 0 0),.raw (.slice none 0 0)]),(1,.cells [fU (sorted gA (pre.flatMap ah.bX++x.bX)),.raw (.slice none 0 0),fQ (sorted gp (pre.flatMap ah.b_++x.b_)),fX (sorted gD (pre.flatMap ah.steps++x.steps)),fD (sorted gn (pre.flatMap ah.cr++sx.av)),fV (sorted gC (pre.flatMap ah.cJ)),je (sorted gz (pre.flatMap ah.entries))]),(2,.cells [fU x.bX,ew x.bH,fQ x.b_,fX x.steps,fD x.cr,fV x.cJ])]) (fun sx=>sx.aN.length) ⟨[],x.cr,rfl⟩ ?_ ?_
           ·exact Le.mk rfl (.s rfl rfl (.s rfl rfl (.s rfl rfl (.s rfl rfl (.s rfl rfl (.s rfl rfl .nil)))))) (.cons rfl rfl (.eq rfl (by simp only[List.append_nil,List.append_assoc,List.flatMap_append,List.flatMap_cons,List.flatMap_nil]) rfl (.cons rfl rfl .nil)))
           ·rintro⟨av,aN,bg⟩;show U _ _ _ _ [(0,cj l),(2,.box 0 0),(4,.box 1 0),(6,.i pre.length),(7,.box 2 0),(11,.i av.length)] [(0,.cells [.raw (.slice none 0 0),.raw (.slice none 0 0),.raw (.slice none 0 0),.raw (.slice none 0 0),.raw (.slice none 0 0),.raw (.slice none 0 0),.raw (.slice none 0 0)]),(1,.cells [fU (sorted gA (pre.flatMap ah.bX++x.bX)),.raw (.slice none 0 0),fQ (sorted gp (pre.flatMap ah.b_++x.b_)),fX (sorted gD (pre.flatMap ah.steps++x.steps)),fD (sorted gn (pre.flatMap ah.cr++av)),fV (sorted gC (pre.flatMap ah.cJ)),je (sorted gz (pre.flatMap ah.entries))]),(2,.cells [fU x.bX,ew x.bH,fQ x.b_,fX x.steps,fD x.cr,fV x.cJ])];have bW:=congrArg List.length bg;simp only[List.length_append]at bW;have q1:=congrArg (fun l=>(List.flatMap ah.cr l).length) hx;simp only[List.flatMap_append,List.flatMap_cons,List.length_append]at q1;rcases aN with _|⟨x2,aN⟩
            ·obtain rfl:av=x.cr:=by simpa using bg.symm
             refine go [99999] ?_;refine aQ zS ?_;refine go [99999] ?_;refine U.loop (ι:=aep l pre rest x) (fun sx=>[(0,cj l),(2,.box 0 0),(4,.box 1 0),(6,.i pre.length),(7,.box 2 0),(12,.i sx.av.length)]) (fun sx=>[(0,.cells [.raw (.slice none 0 0),.raw (.slice none 0 0),.raw (.slice none 0 0),.raw (.slice none 0 0),.raw (.slice none 0 0),.raw (.slice none 0 0),.raw (.slice none 0 0)]),(1,.cells [fU (sorted gA (pre.flatMap ah.bX++x.bX)),.raw (.slice none 0 0),fQ (sorted gp (pre.flatMap ah.b_++x.b_)),fX (sorted gD (pre.flatMap ah.steps++x.steps)),fD (sorted gn (pre.flatMap ah.cr++x.cr)),fV (sorted gC (pre.flatMap ah.cJ++sx.av)),je (sorted gz (pre.flatMap ah.entries))]),(2,.cells [fU x.bX,ew x.bH,fQ x.b_,fX x.steps,fD x.cr,fV x.cJ])]) (fun sx=>sx.aN.length) ⟨[],x.cJ,rfl⟩ ?_ ?_
             ·exact Le.mk rfl (.s rfl rfl (.s rfl rfl (.s rfl rfl (.s rfl rfl (.s rfl rfl (.s rfl rfl .nil)))))) (.cons rfl rfl (.eq rfl (by simp only[List.append_nil,List.append_assoc,List.flatMap_append,List.flatMap_cons,List.flatMap_nil]) rfl (.cons rfl rfl .nil)))
             ·rintro⟨av,aN,bg⟩;show U _ _ _ _ [(0,cj l),(2,.box 0 0),(4,.box 1 0),(6,.i pre.length),(7,.box 2 0),(12,.i av.length)] [(0,.cells [.raw (.slice none 0 0),.raw (.slice none 0 0),.raw (.slice none 0 0),.raw (.slice none 0 0),.raw (.slice none 0 0),.raw (.slice none 0 0),.raw (.slice none 0 0)]),(1,.cells [fU (sorted gA (pre.flatMap ah.bX++x.bX)),.raw (.slice none 0 0),fQ (sorted gp (pre.flatMap ah.b_++x.b_)),fX (sorted gD (pre.flatMap ah.steps++x.steps)),fD (sorted gn (pre.flatMap ah.cr++x.cr)),fV (sorted gC (pre.flatMap ah.cJ++av)),je (sorted gz (pre.flatMap ah.entries))]),(2,.cells [fU x.bX,ew x.bH,fQ x.b_,fX x.steps,fD x.cr,fV x.cJ])];have bW:=congrArg List.length bg;simp only[List.length_append]at bW;have q1:=congrArg (fun l=>(List.flatMap ah.cJ l).length) hx;simp only[List.flatMap_append,List.flatMap_cons,List.length_append]at q1;rcases aN with _|⟨x2,aN⟩
              ·obtain rfl:av=x.cJ:=by simpa using bg.symm
               refine go [99999] ?_;refine aQ zS ?_;refine go [99999] ?_;refine U.loop (ι:=aeq l pre rest x) (fun sx=>[(0,cj l),(2,.box 0 0),(4,.box 1 0),(6,.i pre.length),(7,.box 2 0),(13,.i sx.av.length)]) (fun sx=>[(0,.cells [.raw (.slice none 0 0),.raw (.slice none 0 0),.raw (.slice none 0 0),.raw (.slice none 0 0),.raw (.slice none 0 0),.raw (.slice none 0 0),.raw (.slice none 0 0)]),(1,.cells [fU (sorted gA (pre.flatMap ah.bX++x.bX)),.raw (.slice none 0 0),fQ (sorted gp (pre.flatMap ah.b_++x.b_)),fX (sorted gD (pre.flatMap ah.steps++x.steps)),fD (sorted gn (pre.flatMap ah.cr++x.cr)),fV (sorted gC (pre.flatMap ah.cJ++x.cJ)),je (sorted gz (pre.flatMap ah.entries++sx.av))]),(2,.cells [fU x.bX,ew x.bH,fQ x.b_,fX x.steps,fD x.cr,fV x.cJ])]) (fun sx=>sx.aN.length) ⟨[],x.entries,rfl⟩ ?_ ?_
               ·exact Le.mk rfl (.s rfl rfl (.s rfl rfl (.s rfl rfl (.s rfl rfl (.s rfl rfl (.s rfl rfl .nil)))))) (.cons rfl rfl (.eq rfl (by simp only[List.append_nil,List.append_assoc,List.flatMap_append,List.flatMap_cons,List.flatMap_nil]) rfl (.cons rfl rfl .nil)))
               ·rintro⟨av,aN,bg⟩;show U _ _ _ _ [(0,cj l),(2,.box 0 0),(4,.box 1 0),(6,.i pre.length),(7,.box 2 0),(13,.i av.length)] [(0,.cells [.raw (.slice none 0 0),.raw (.slice none 0 0),.raw (.slice none 0 0),.raw (.slice none 0 0),.raw (.slice none 0 0),.raw (.slice none 0 0),.raw (.slice none 0 0)]),(1,.cells [fU (sorted gA (pre.flatMap ah.bX++x.bX)),.raw (.slice none 0 0),fQ (sorted gp (pre.flatMap ah.b_++x.b_)),fX (sorted gD (pre.flatMap ah.steps++x.steps)),fD (sorted gn (pre.flatMap ah.cr++x.cr)),fV (sorted gC (pre.flatMap ah.cJ++x.cJ)),je (sorted gz (pre.flatMap ah.entries++av))]),(2,.cells [fU x.bX,ew x.bH,fQ x.b_,fX x.steps,fD x.cr,fV x.cJ])];have bW:=congrArg List.length bg;simp only[List.length_append]at bW;have q1:=congrArg (fun l=>(List.flatMap ah.entries l).length) hx;simp only[List.flatMap_append,List.flatMap_cons,List.length_append]at q1;rcases aN with _|⟨x2,aN⟩
                ·obtain rfl:av=x.entries:=by simpa using bg.symm
                 refine go [99999] ?_;refine ix zO (bb gM hx rfl) ?_;refine aQ zS ?_;refine U.nil (dv (id:=0) (Q:=fun _ _ _=>False) ?_);refine go [99999] ?_;refine sd (aB zO) ?_;exact nx ⟨pre++[x],rest,by simp[hx]⟩ zS (Le.mk rfl (.s rfl rfl (.s rfl rfl (.s rfl rfl (.cons rfl (Sub.int zS) rfl .nil)))) (.cons rfl rfl (.eq rfl (by simp only[List.append_nil,List.append_assoc,List.flatMap_append,List.flatMap_cons,List.flatMap_nil]) rfl .nil)))
                ·simp only[List.length_cons]at bW;refine go [99999] ?_;refine ix zO (bb gM hx rfl) ?_;refine bM (by simp only[List.length_map];rw[decide_eq_true_eq];omega) ?_;refine ix zO (bb gM hx rfl) ?_;refine ix zO (bb hZ bg rfl) ?_;refine oP (aj call57 rfl (ahY (pre.flatMap ah.entries++av) x2 (by have q1:=congrArg (fun l=>(List.flatMap ah.entries l).length) hx;have q2:=congrArg List.length bg;simp only[List.flatMap_append,List.flatMap_cons,List.length_append,List.length_cons]at q1 q2⊢;omega))) ?_;refine ord ?_;refine sd (aB zO) ?_;exact nx ⟨av++[x2],aN,by simp[bg]⟩ zS (Le.mk rfl (.s rfl rfl (.s rfl rfl (.s rfl rfl (.s rfl rfl (.s rfl rfl (.cons rfl (Sub.int zS) rfl .nil)))))) (.cons rfl rfl (.eq rfl (by simp only[List.append_nil,List.append_assoc,List.flatMap_append,List.flatMap_cons,List.flatMap_nil]) rfl (.cons rfl rfl .nil))))
              ·simp only[List.length_cons]at bW;refine go [99999] ?_;refine bM (by simp only[List.length_map];rw[decide_eq_true_eq];omega) ?_;refine ix zO (bb iB bg rfl) ?_;refine oP (aj call56 rfl (ah6 (pre.flatMap ah.cJ++av) x2 (by have q1:=congrArg (fun l=>(List.flatMap ah.cJ l).length) hx;have q2:=congrArg List.length bg;simp only[List.flatMap_append,List.flatMap_cons,List.length_append,List.length_cons]at q1 q2⊢;omega))) ?_;refine ord ?_;refine sd (aB zO) ?_;exact nx ⟨av++[x2],aN,by simp[bg]⟩ zS (Le.mk rfl (.s rfl rfl (.s rfl rfl (.s rfl rfl (.s rfl rfl (.s rfl rfl (.cons rfl (Sub.int zS) rfl .nil)))))) (.cons rfl rfl (.eq rfl (by simp only[List.append_nil,List.append_assoc,List.flatMap_append,List.flatMap_cons,List.flatMap_nil]) rfl (.cons rfl rfl .nil))))
            ·simp only[List.length_cons]at bW;refine go [99999] ?_;refine bM (by simp only[List.length_map];rw[decide_eq_true_eq];omega) ?_;refine ix zO (bb ei bg rfl) ?_;refine oP (aj call55 rfl (ahW (pre.flatMap ah.cr++av) x2 (by have q1:=congrArg (fun l=>(List.flatMap ah.cr l).length) hx;have q2:=congrArg List.length bg;simp only[List.flatMap_append,List.flatMap_cons,List.length_append,List.length_cons]at q1 q2⊢;omega))) ?_;refine ord ?_;refine sd (aB zO) ?_;exact nx ⟨av++[x2],aN,by simp[bg]⟩ zS (Le.mk rfl (.s rfl rfl (.s rfl rfl (.s rfl rfl (.s rfl rfl (.s rfl rfl (.cons rfl (Sub.int zS) rfl .nil)))))) (.cons rfl rfl (.eq rfl (by simp only[List.append_nil,List.append_assoc,List.flatMap_append,List.flatMap_cons,List.flatMap_nil]) rfl (.cons rfl rfl .nil))))
          ·simp only[List.length_cons]at bW;refine go [99999] ?_;refine bM (by simp only[List.length_map];rw[decide_eq_true_eq];omega) ?_;refine ix zO (bb iC bg rfl) ?_;refine oP (aj call54 rfl (ah8 (pre.flatMap ah.steps++av) x2 (by have q1:=congrArg (fun l=>(List.flatMap ah.steps l).length) hx;have q2:=congrArg List.length bg;simp only[List.flatMap_append,List.flatMap_cons,List.length_append,List.length_cons]at q1 q2⊢;omega))) ?_;refine ord ?_;refine sd (aB zO) ?_;exact nx ⟨av++[x2],aN,by simp[bg]⟩ zS (Le.mk rfl (.s rfl rfl (.s rfl rfl (.s rfl rfl (.s rfl rfl (.s rfl rfl (.cons rfl (Sub.int zS) rfl .nil)))))) (.cons rfl rfl (.eq rfl (by simp only[List.append_nil,List.append_assoc,List.flatMap_append,List.flatMap_cons,List.flatMap_nil]) rfl (.cons rfl rfl .nil))))
        ·simp only[List.length_cons]at bW;refine go [99999] ?_;refine bM (by simp only[List.length_map];rw[decide_eq_true_eq];omega) ?_;refine ix zO (bb gX bg rfl) ?_;refine oP (aj call53 rfl (ah0 (pre.flatMap ah.b_++av) x2 (by have q1:=congrArg (fun l=>(List.flatMap ah.b_ l).length) hx;have q2:=congrArg List.length bg;simp only[List.flatMap_append,List.flatMap_cons,List.length_append,List.length_cons]at q1 q2⊢;omega))) ?_;refine ord ?_;refine sd (aB zO) ?_;exact nx ⟨av++[x2],aN,by simp[bg]⟩ zS (Le.mk rfl (.s rfl rfl (.s rfl rfl (.s rfl rfl (.s rfl rfl (.s rfl rfl (.cons rfl (Sub.int zS) rfl .nil)))))) (.cons rfl rfl (.eq rfl (by simp only[List.append_nil,List.append_assoc,List.flatMap_append,List.flatMap_cons,List.flatMap_nil]) rfl (.cons rfl rfl .nil))))
      ·simp only[List.length_cons]at bW;refine go [99999] ?_;refine bM (by simp only[List.length_map];rw[decide_eq_true_eq];omega) ?_;refine ix zO (bb iA bg rfl) ?_;refine oP (aj call52 rfl (ah2 (pre.flatMap ah.bX++av) x2 (by have q1:=congrArg (fun l=>(List.flatMap ah.bX l).length) hx;have q2:=congrArg List.length bg;simp only[List.flatMap_append,List.flatMap_cons,List.length_append,List.length_cons]at q1 q2⊢;omega))) ?_;refine ord ?_;refine sd (aB zO) ?_;exact nx ⟨av++[x2],aN,by simp[bg]⟩ zS (Le.mk rfl (.s rfl rfl (.s rfl rfl (.s rfl rfl (.s rfl rfl (.s rfl rfl (.cons rfl (Sub.int zS) rfl .nil)))))) (.cons rfl rfl (.eq rfl (by simp only[List.append_nil,List.append_assoc,List.flatMap_append,List.flatMap_cons,List.flatMap_nil]) rfl (.cons rfl rfl .nil))))
  ·simp only[List.length_cons]at hl;refine go [99999] ?_;refine bM zQ ?_;refine ix zO (bb gM hx rfl) ?_;refine oP (aj call51 rfl (WX _)) ?_;refine br (fun h2=>?_) (fun h2=>?_)
   ·refine U.ret (lS (u4 (lS (?_))));exact Rd.tE results15 isAgg34 sizeOf34 rfl rfl rfl rfl (Sub.agg (.cons ((Sub.nil _ false).trans (Sub.snap (by exact(congrArg (fun r:ah×Int=>List.map iA r.1.bX) (nI hx zA)).symm))) (.cons ((Sub.nil _ false).trans (Sub.snap (by exact(congrArg (fun r:ah×Int=>List.map bU r.1.bH) (nI hx zA)).symm))) (.cons ((Sub.nil _ false).trans (Sub.snap (by exact(congrArg (fun r:ah×Int=>List.map gX r.1.b_) (nI hx zA)).symm))) (.cons ((Sub.nil _ false).trans (Sub.snap (by exact(congrArg (fun r:ah×Int=>List.map iC r.1.steps) (nI hx zA)).symm))) (.cons ((Sub.nil _ false).trans (Sub.snap (by exact(congrArg (fun r:ah×Int=>List.map ei r.1.cr) (nI hx zA)).symm))) (.cons ((Sub.nil _ false).trans (Sub.snap (by exact(congrArg (fun r:ah×Int=>List.map iB r.1.cJ) (nI hx zA)).symm))) (.cons ((Sub.nil _ false).trans (Sub.snap (by exact(congrArg (fun r:ah×Int=>List.map hZ r.1.entries) (nI hx zA)).symm))) .nil)))))))) (Sub.int (by exact(congrArg (fun r:ah×Int=>r.2) (nI hx zA)).symm))
   ·refine sd (aB zO) ?_;exact nx ⟨pre++[x],rest,by simp[hx],MZ hc zA⟩ zS (Le.mk rfl (.s rfl rfl (.s rfl rfl (.s rfl rfl (.s rfl rfl (.cons rfl (Sub.int zS) rfl .nil))))) (.cons rfl rfl (.cons rfl rfl .nil)))
end Go.T
namespace Go.T
open Go
variable[bT]
structure Bx where
 bo:Nat
 fi:Nat
 id:Nat
 z:List D
 f:List D
structure q_(listed:Array Bool)(J:aa)(b:Bx):Prop where
 no:aZ listed b.bo=false→J.get b.id=none
 mid:aZ listed b.bo=true→aZ listed b.fi=false→J.get b.id=some (.cells b.z)
 yes:aZ listed b.fi=true→J.get b.id=some (.cells b.f)
 sf:aZ listed b.fi=true→aZ listed b.bo=true
theorem q_.other{listed:Array Bool}{J ai:aa}{b:Bx}{i:Nat}(h:q_ listed J b)(hi:i<listed.size)(h1:i≠b.bo)(h2:i≠b.fi)(ho:ai.get b.id=J.get b.id):q_ (listed.setIfInBounds i true) ai b:=by
 refine⟨fun e=>?_,fun e e'=>?_,fun e=>?_,fun e=>?_⟩
 ·rw[gd hi,if_neg h1]at e;rw[ho];exact h.no e
 ·rw[gd hi,if_neg h1]at e;rw[gd hi,if_neg h2]at e';rw[ho];exact h.mid e e'
 ·rw[gd hi,if_neg h2]at e;rw[ho];exact h.yes e
 ·rw[gd hi,if_neg h2]at e;rw[gd hi,if_neg h1];exact h.sf e
theorem q_.make{listed:Array Bool}{J:aa}{b:Bx}(h:q_ listed J b)(hi:b.bo<listed.size)(hl:aZ listed b.bo=false)(hs:b.bo≠b.fi):q_ (listed.setIfInBounds b.bo true) ((b.id,.cells b.z)::J) b:=by
 have hn:∀{A:Prop},aZ (listed.setIfInBounds b.bo true) b.fi=true→A:=fun e=>by
  rw[gd hi,if_neg hs]at e;rw[h.sf e]at hl;cases hl
 refine⟨fun e=>?_,fun _ _=>by simp[aa.bf],fun e=>hn e,fun e=>hn e⟩;rw[gd hi,if_pos rfl]at e;cases e
theorem q_.fill{listed:Array Bool}{J:aa}{b:Bx}(h:q_ listed J b)(hi:b.fi<listed.size)(hk:aZ listed b.bo=true)(hs:b.bo≠b.fi):q_ (listed.setIfInBounds b.fi true) (J.set b.id (.cells b.f)) b:=by
 have hm:aZ (listed.setIfInBounds b.fi true) b.bo=true:=by rw[gd hi,if_neg (Ne.symm hs)];exact hk
 refine⟨fun e=>?_,fun _ e=>?_,fun _=>by rw[aa.eG,if_pos rfl],fun _=>hm⟩
 ·rw[hm]at e;cases e
 ·rw[gd hi,if_pos rfl]at e;cases e
structure rf(ds:List (Option Nat))(VT:List D)(ez:Env)(b c:Bx)(listed:Array Bool)(env:Env)(J:aa):Prop where
 aE:qd ds (fun i d=>VT[i]?=some d) listed env
 dF:∀t d,ez.get t=some d→env.get t=some d
 b1:q_ listed J b
 b2:q_ listed J c
theorem rf.swap{ds:List (Option Nat)}{VT:List D}{ez:Env}{b c:Bx}{listed:Array Bool}{env:Env}{J:aa}(h:rf ds VT ez b c listed env J):rf ds VT ez c b listed env J:=⟨h.aE,h.dF,h.b2,h.b1⟩
theorem rf.at{ds:List (Option Nat)}{VT:List D}{ez:Env}{b c:Bx}{listed:Array Bool}{env:Env}{J:aa}(h:rf ds VT ez b c listed env J){j t:Nat}{d:D}(hj:aZ listed j=true)(ht:ds[j]?=some (some t))(hd:VT[j]?=some d):env.get t=some d:=by
 obtain⟨d',h1,h2⟩:=h.aE j t hj ht;rw[hd]at h2;cases h2;exact h1
abbrev u7(P:Program)(F:Fr)(ds:List (Option Nat))(VT:List D)(ez:Env)(b c:Bx)(listed:Array Bool)(env:Env)(J:aa)(i:Nat)(o:Oper)(ops:Array Oper):Prop:=
 ∃d ai fH dn,eQ F.N o.dst=true∧On ops env o∧aq P o env J d ai∧Le F (env.put o.dst d) ai fH dn∧rf ds VT ez b c (listed.setIfInBounds i true) fH dn
theorem KR{ops:Array Oper}{env:Env}{o:Oper}(h:o.guard=none):On ops env o:=by unfold On;rw[h];trivial
section
variable{P:Program} {F:Fr} {ds:List (Option Nat)} {VT:List D} {ez:Env} {b c:Bx} {listed:Array Bool} {env:Env} {J:aa} {i t:Nat} {o:Oper} {ops:Array Oper} {d:D}
theorem M6(h:∀t d,ez.get t=some d→env.get t=some d)(hb:(ez.get t).isNone=true):∀s e,ez.get s=some e→Env.get ((t,d)::env) s=some e:=fun s e he=>by
 rw[Env.bf];by_cases E6:t=s
 ·subst E6;rw[he]at hb;cases hb
 ·rw[if_neg E6];exact h s e he
theorem T5(hI:rf ds VT ez b c listed env J)(hs:listed.size=ops.size)(hq:aq P o env J d J)(hV:VT[i]?=some d)(hi:ds[i]?=some (some t))(hd:wX ds=true)(hb:(ez.get t).isNone=true)(hN:eQ F.N (some t)=true)(ho:o.dst=some t)(hg:o.guard=none)(hn:Nat.blt i ops.size=true)
  (hf:(!(i==b.bo)&&!(i==b.fi)&&!(i==c.bo)&&!(i==c.fi))=true):u7 P F ds VT ez b c listed env J i o ops:=by
 have aY:i<listed.size:=by rw[hs];simpa[Nat.blt_eq]using hn
 simp only[Bool.and_eq_true,Bool.not_eq_true',beq_eq_false_iff_ne]at hf;exact⟨d,J,(t,d)::env,J,by rw[ho];exact hN,KR hg,hq,by rw[ho];exact Le.refl _ _ _,hI.aE.put hd aY hi hV,M6 hI.dF hb,hI.b1.other aY hf.1.1.1 hf.1.1.2 rfl,hI.b2.other aY hf.1.2 hf.2 rfl⟩
theorem Sp(hI:rf ds VT ez b c listed env J)(hs:listed.size=ops.size)(hl:aZ listed b.bo=false)(hq:J.get b.id=none→aq P o env J (.box b.id 0) ((b.id,.cells b.z)::J))(hV:VT[b.bo]?=some (.box b.id 0))(hi:ds[b.bo]?=some (some t))(hd:wX ds=true)(hb:(ez.get t).isNone=true)(hN:eQ F.N (some t)=true)(ho:o.dst=some t)(hg:o.guard=none)
  (hn:Nat.blt b.bo ops.size=true)(hf:(!(b.bo==b.fi)&&!(b.bo==c.bo)&&!(b.bo==c.fi)&&!(b.id==c.id))=true):u7 P F ds VT ez b c listed env J b.bo o ops:=by
 have aY:b.bo<listed.size:=by rw[hs];simpa[Nat.blt_eq]using hn
 simp only[Bool.and_eq_true,Bool.not_eq_true',beq_eq_false_iff_ne]at hf;exact⟨_,_,(t,.box b.id 0)::env,_,by rw[ho];exact hN,KR hg,hq (hI.b1.no hl),by rw[ho];exact Le.refl _ _ _,hI.aE.put hd aY hi hV,M6 hI.dF hb,hI.b1.make aY hl hf.1.1.1,hI.b2.other aY hf.1.1.2 hf.1.2 (by rw[aa.bf,if_neg hf.2])⟩
theorem OV(hI:rf ds VT ez b c listed env J)(hs:listed.size=ops.size)(hl:aZ listed b.fi=false)(hk:aZ listed b.bo=true)(hq:J.get b.id=some (.cells b.z)→aq P o env J (.raw undef) (J.set b.id (.cells b.f)))(hi:ds[b.fi]?=some none)(ho:o.dst=none)(hg:o.guard=none)
  (hn:Nat.blt b.fi ops.size=true)(hf:(!(b.bo==b.fi)&&!(b.fi==c.bo)&&!(b.fi==c.fi)&&!(b.id==c.id))=true):u7 P F ds VT ez b c listed env J b.fi o ops:=by
 have aY:b.fi<listed.size:=by rw[hs];simpa[Nat.blt_eq]using hn
 simp only[Bool.and_eq_true,Bool.not_eq_true',beq_eq_false_iff_ne]at hf;exact⟨_,_,env,_,by rw[ho];rfl,KR hg,hq (hI.b1.mid hk hl),by rw[ho];exact Le.refl _ _ _,hI.aE.none aY hi,hI.dF,hI.b1.fill aY hk hf.1.1.1,hI.b2.other aY hf.1.1.2 hf.1.2 (by rw[aa.eG,if_neg hf.2])⟩
theorem u7.swap(h:u7 P F ds VT ez c b listed env J i o ops):u7 P F ds VT ez b c listed env J i o ops:=by
 obtain⟨d,o1,e1,o2,h1,h2,h3,h4,h5⟩:=h;exact⟨d,o1,e1,o2,h1,h2,h3,h4,h5.swap⟩
theorem R1(n j:Nat):aZ (Array.replicate n false) j=false:=by
 unfold aZ;rw[Array.getD_eq_getD_getElem?,Array.getElem?_replicate];split<;>rfl
theorem adW{n:Nat}(h1:J.get b.id=none)(h2:J.get c.id=none):rf ds VT env b c (Array.replicate n false) env J:=by
 refine⟨fun j t h=>?_,fun _ _ h=>h,⟨fun _=>h1,fun e=>?_,fun e=>?_,fun e=>?_⟩,⟨fun _=>h2,fun e=>?_,fun e=>?_,fun e=>?_⟩⟩<;>(first|rw[R1]at h|rw[R1]at e)<;>contradiction
end
end Go.T
namespace Go.T
open Go
section
variable[bT] {P:Program} {env:Env} {dst:Option Tmp} {ty:TypeId} {pos:String} {au:Array Edge} {g:Option (Nat×Bool)}
inductive wN(P:Program)(xs:List Value):List Field→Nat→Prop
 |nil (k:Nat):wN P xs [] k
 |str {f:Field} {fs:List Field} {k:Nat} {s:ByteArray} (hn:(f.name== "_")=false) (hu:P.underlying f.type=some .string) (ha:∀w,(isAgg f.type).run P w=.ok false w) (ho:f.offset=k) (hx:xs[k]?=some (.string s)) (r:wN P xs fs (k+1)):wN P xs (f::fs) k
 |int {f:Field} {fs:List Field} {k:Nat} {kk k2:IntKind} {n:Int} (hn:(f.name== "_")=false) (hu:P.underlying f.type=some (.int k2)) (ha:∀w,(isAgg f.type).run P w=.ok false w) (ho:f.offset=k) (hx:xs[k]?=some (.int kk n)) (r:wN P xs fs (k+1)):wN P xs (f::fs) k
theorem aan{d:Nat}{xs:List Value}{fs:List Field}{k:Nat}(h:wN P xs fs k)(w:World):(Op.eqFields (d+1) xs.toArray xs.toArray fs).run P w=.ok true w:=by
 induction h with
 |nil k=>simp[Op.eqFields]
 |@str f fs k s hn hu ha ho hx r ih=>
  have pf:f.name≠ "_":=by simpa using hn
  simp only[Op.eqFields,pf,ne_eq,not_false_eq_true,if_true,Sem.run_bind,part,ha,Result.andThen_ok,Bool.false_eq_true,if_false,ho];simp only[List.getElem?_toArray,hx,Sem.run_pure,Result.andThen_ok,run_equalIn_string _ _ _ _ _ hu,BEq.rfl,Bool.not_true,Bool.false_eq_true,if_false];exact ih
 |@int f fs k kk k2 n hn hu ha ho hx r ih=>
  have pf:f.name≠ "_":=by simpa using hn
  simp only[Op.eqFields,pf,ne_eq,not_false_eq_true,if_true,Sem.run_bind,part,ha,Result.andThen_ok,Bool.false_eq_true,if_false,ho];simp only[List.getElem?_toArray,hx,Sem.run_pure,Result.andThen_ok,run_equalIn_int _ _ _ _ _ _ _ hu,BEq.rfl,Bool.not_true,Bool.false_eq_true,if_false];exact ih
def valOf:D→Value
 |.str s=>.string ⟨s.toArray⟩
 |.raw v=>v
 |_=>undef
def Lb:D→Bool
 |.str _=>true
 |.raw _=>true
 |_=>false
theorem G8{w:World}{O:Nat→Prop}{ρ:aC}:∀{ds:List D}{vs:List Value},ds.all Lb=true→Vs w O ρ ds vs→vs=ds.map valOf
 |[],vs,_,h=>by simpa[Vs]using h
 |d::ds,vs,hp,h=>by
  simp only[List.all_cons,Bool.and_eq_true]at hp;simp only[Vs]at h;obtain⟨u,us,rfl,h1,h2⟩:=h;rw[G8 hp.2 h2];cases d with
  |str s=>simp only[V]at h1;rw[h1.1];rfl
  |raw v=>simp only[V]at h1;rw[h1];rfl
  |_=>simp[Lb]at hp
theorem yh{t t':TypeId}{x y:Operand}{ds:List D}{fs:List Field}(hu:P.underlying t=some (.struct fs.toArray))(hp:P.stoodInHeld t=false)(hg:P.eqGuardType P.depth t=false)(hf:wN P (ds.map valOf) fs 0)(hs:ds.all Lb=true)
  (hx:env.op x=some (.agg ds))(hy:env.op y=some (.agg ds))(J:aa):aq P ⟨dst,.binOp .neq t x y t',ty,pos,au,g⟩ env J (.raw (.bool false)) J:=
 .val fun _ _ a w _ hv=>by
  have h1:=hv x (by simp[Op.operands]) _ hx;have h2:=hv y (by simp[Op.operands]) _ hy;simp only[V]at h1 h2;obtain⟨us,e1,h1⟩:=h1;obtain⟨vs,e2,h2⟩:=h2;have h1:=G8 hs h1;have h2:=G8 hs h2;have j_:P.fieldsOf t=fs.toArray:=by simp[Program.fieldsOf,hu]
  have h3:=run_equalIn_struct (P:=P) w 9999 t us vs (by rw[j_];exact hu) hp;have h4:us=(ds.map valOf).toArray:=by rw[←h1]
  have h5:vs=(ds.map valOf).toArray:=by rw[←h2]
  have h6:=aan (d:=9998) hf w;rw[j_]at h3;simp only[h4,h5]at h3 e1 e2;refine⟨.bool false,?_,by simp only[V]⟩;simp[execOp,e1,e2,run_eqGuard_agg _ _ _ _ _ _ _ hg,run_neq_struct,h3,h6]
end
end Go.T
