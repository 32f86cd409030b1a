/-
  Contracts of the functions that the statement reaches, and the logic in which they are proved (no condition): parts W164, SpecJ8, W165, Card1, Card2, CardB, CardJ.
-/
import Derived.Test.YtoaceanbddegbaaGreatDoorA21
import Derived.ChangeArms
import Derived.SizedLaws
import Derived.ProofKit
import Derived.OpenShut
import Derived.ReadAgain
import Derived.LaidMore
import Derived.Test.YtoaceanbddegbaaGreatDoorCards
import Derived.Test.YtoaceanbddegbaaGreatDoorTie
import Derived.Lay
import Derived.SevenTiedAt
import Derived.Stop.Joined
set_option linter.all false
namespace Go.T
open Go Go.Proofs Go.Proofs.Tryz
set_option maxRecDepth 20000
@[reducible] def AL(l:List tA):D:=.snap 2 false (l.map y0)
structure aav(l:List jR)where
 pre:List jR
 rest:List jR
 hx:l=pre++rest
theorem aau(l:List jR):Fc Tryz.prog 59 [fU l,fU l] (.b true):=by
 refine Fc.mk' [4] func59 rfl ntmps59 rfl rfl rfl (fun t w=>results_tmp results59 t _ w) ?_;refine U.ec 0 rfl (fun hb=>?_);simp only[List.length_map,aH]at hb;refine go [] ?_;refine aQ zS ?_;refine U.loop (ι:=aav l) (fun sx=>[(0,fU l),(1,fU l),(12,.i l.length),(13,.i sx.pre.length)]) (fun sx=>[]) (fun sx=>sx.rest.length) ⟨[],l,rfl⟩ ?_ ?_
 ·exact Le.mk rfl (.s rfl rfl (.s rfl rfl (.cons rfl (Sub.int zS) rfl (.s rfl rfl .nil)))) .nil
 ·rintro⟨pre,rest,hx⟩;show U _ _ _ _ [(0,fU l),(1,fU l),(12,.i l.length),(13,.i pre.length)] [];have hl:=congrArg List.length hx;simp only[List.length_append]at hl;rcases rest with _|⟨x,rest⟩
  ·skip;refine go [] ?_;refine aQ (by simp at hl⊢;omega) ?_;refine go [] ?_;exact an rfl (Sub.refl _)
  ·simp only[List.length_cons]at hl;refine go [] ?_;refine bM zQ ?_;refine ix zO (bb iA hx rfl) ?_;refine ix zO (bb iA hx rfl) ?_;refine oP (yh underlying97 (by kernel_rfl) (by kernel_rfl) (.str zK underlying9 isAgg9 rfl rfl (.str zK underlying9 isAgg9 rfl rfl (.int zK underlying42 isAgg42 rfl rfl (.int zK underlying42 isAgg42 rfl rfl (.str zK underlying37 isAgg37 rfl rfl (.str zK underlying37 isAgg37 rfl rfl (.str zK underlying37 isAgg37 rfl rfl (.nil _)))))))) rfl rfl rfl) ?_;refine ord ?_;refine aQ rfl ?_;refine sd (aB zO) ?_;exact nx ⟨pre++[x],rest,by simp[hx]⟩ zS (Le.mk rfl (.s rfl rfl (.s rfl rfl (.s rfl rfl (.cons rfl (Sub.int zS) rfl .nil)))) .nil)
structure aax(l:List bj)where
 pre:List bj
 rest:List bj
 hx:l=pre++rest
theorem aaw(l:List bj):Fc Tryz.prog 60 [ew l,ew l] (.b true):=by
 refine Fc.mk' [4] func60 rfl ntmps60 rfl rfl rfl (fun t w=>results_tmp results60 t _ w) ?_;refine U.ec 0 rfl (fun hb=>?_);simp only[List.length_map,aH]at hb;refine go [] ?_;refine aQ zS ?_;refine U.loop (ι:=aax l) (fun sx=>[(0,ew l),(1,ew l),(12,.i l.length),(13,.i sx.pre.length)]) (fun sx=>[]) (fun sx=>sx.rest.length) ⟨[],l,rfl⟩ ?_ ?_
 ·exact Le.mk rfl (.s rfl rfl (.s rfl rfl (.cons rfl (Sub.int zS) rfl (.s rfl rfl .nil)))) .nil
 ·rintro⟨pre,rest,hx⟩;show U _ _ _ _ [(0,ew l),(1,ew l),(12,.i l.length),(13,.i pre.length)] [];have hl:=congrArg List.length hx;simp only[List.length_append]at hl;rcases rest with _|⟨x,rest⟩
  ·skip;refine go [] ?_;refine aQ (by simp at hl⊢;omega) ?_;refine go [] ?_;exact an rfl (Sub.refl _)
  ·simp only[List.length_cons]at hl;refine go [] ?_;refine bM zQ ?_;refine ix zO (bb bU hx rfl) ?_;refine ix zO (bb bU hx rfl) ?_;refine oP (yh underlying39 (by kernel_rfl) (by kernel_rfl) (.str zK underlying9 isAgg9 rfl rfl (.str zK underlying37 isAgg37 rfl rfl (.nil _))) rfl rfl rfl) ?_;refine ord ?_;refine aQ rfl ?_;refine sd (aB zO) ?_;exact nx ⟨pre++[x],rest,by simp[hx]⟩ zS (Le.mk rfl (.s rfl rfl (.s rfl rfl (.s rfl rfl (.cons rfl (Sub.int zS) rfl .nil)))) .nil)
structure aaq(l:List jF)where
 pre:List jF
 rest:List jF
 hx:l=pre++rest
theorem aap(l:List jF):Fc Tryz.prog 61 [fQ l,fQ l] (.b true):=by
 refine Fc.mk' [4] func61 rfl ntmps61 rfl rfl rfl (fun t w=>results_tmp results61 t _ w) ?_;refine U.ec 0 rfl (fun hb=>?_);simp only[List.length_map,aH]at hb;refine go [] ?_;refine aQ zS ?_;refine U.loop (ι:=aaq l) (fun sx=>[(0,fQ l),(1,fQ l),(12,.i l.length),(13,.i sx.pre.length)]) (fun sx=>[]) (fun sx=>sx.rest.length) ⟨[],l,rfl⟩ ?_ ?_
 ·exact Le.mk rfl (.s rfl rfl (.s rfl rfl (.cons rfl (Sub.int zS) rfl (.s rfl rfl .nil)))) .nil
 ·rintro⟨pre,rest,hx⟩;show U _ _ _ _ [(0,fQ l),(1,fQ l),(12,.i l.length),(13,.i pre.length)] [];have hl:=congrArg List.length hx;simp only[List.length_append]at hl;rcases rest with _|⟨x,rest⟩
  ·skip;refine go [] ?_;refine aQ (by simp at hl⊢;omega) ?_;refine go [] ?_;exact an rfl (Sub.refl _)
  ·simp only[List.length_cons]at hl;refine go [] ?_;refine bM zQ ?_;refine ix zO (bb gX hx rfl) ?_;refine ix zO (bb gX hx rfl) ?_;refine oP (yh underlying102 (by kernel_rfl) (by kernel_rfl) (.str zK underlying9 isAgg9 rfl rfl (.str zK underlying9 isAgg9 rfl rfl (.str zK underlying9 isAgg9 rfl rfl (.int zK underlying42 isAgg42 rfl rfl (.int zK underlying42 isAgg42 rfl rfl (.str zK underlying37 isAgg37 rfl rfl (.str zK underlying37 isAgg37 rfl rfl (.str zK underlying37 isAgg37 rfl rfl (.str zK underlying37 isAgg37 rfl rfl (.str zK underlying37 isAgg37 rfl rfl (.nil _))))))))))) rfl rfl rfl) ?_;refine ord ?_;refine aQ rfl ?_;refine sd (aB zO) ?_;exact nx ⟨pre++[x],rest,by simp[hx]⟩ zS (Le.mk rfl (.s rfl rfl (.s rfl rfl (.s rfl rfl (.cons rfl (Sub.int zS) rfl .nil)))) .nil)
structure aaH(l:List jT)where
 pre:List jT
 rest:List jT
 hx:l=pre++rest
theorem aaG(l:List jT):Fc Tryz.prog 62 [fX l,fX l] (.b true):=by
 refine Fc.mk' [4] func62 rfl ntmps62 rfl rfl rfl (fun t w=>results_tmp results62 t _ w) ?_;refine U.ec 0 rfl (fun hb=>?_);simp only[List.length_map,aH]at hb;refine go [] ?_;refine aQ zS ?_;refine U.loop (ι:=aaH l) (fun sx=>[(0,fX l),(1,fX l),(12,.i l.length),(13,.i sx.pre.length)]) (fun sx=>[]) (fun sx=>sx.rest.length) ⟨[],l,rfl⟩ ?_ ?_
 ·exact Le.mk rfl (.s rfl rfl (.s rfl rfl (.cons rfl (Sub.int zS) rfl (.s rfl rfl .nil)))) .nil
 ·rintro⟨pre,rest,hx⟩;show U _ _ _ _ [(0,fX l),(1,fX l),(12,.i l.length),(13,.i pre.length)] [];have hl:=congrArg List.length hx;simp only[List.length_append]at hl;rcases rest with _|⟨x,rest⟩
  ·skip;refine go [] ?_;refine aQ (by simp at hl⊢;omega) ?_;refine go [] ?_;exact an rfl (Sub.refl _)
  ·simp only[List.length_cons]at hl;refine go [] ?_;refine bM zQ ?_;refine ix zO (bb iC hx rfl) ?_;refine ix zO (bb iC hx rfl) ?_;refine oP (yh underlying109 (by kernel_rfl) (by kernel_rfl) (.str zK underlying9 isAgg9 rfl rfl (.str zK underlying9 isAgg9 rfl rfl (.str zK underlying9 isAgg9 rfl rfl (.str zK underlying37 isAgg37 rfl rfl (.str zK underlying37 isAgg37 rfl rfl (.str zK underlying37 isAgg37 rfl rfl (.nil _))))))) rfl rfl rfl) ?_;refine ord ?_;refine aQ rfl ?_;refine sd (aB zO) ?_;exact nx ⟨pre++[x],rest,by simp[hx]⟩ zS (Le.mk rfl (.s rfl rfl (.s rfl rfl (.s rfl rfl (.cons rfl (Sub.int zS) rfl .nil)))) .nil)
structure aaF(l:List jS)where
 pre:List jS
 rest:List jS
 hx:l=pre++rest
theorem aaE(l:List jS):Fc Tryz.prog 65 [fV l,fV l] (.b true):=by
 refine Fc.mk' [4] func65 rfl ntmps65 rfl rfl rfl (fun t w=>results_tmp results65 t _ w) ?_;refine U.ec 0 rfl (fun hb=>?_);simp only[List.length_map,aH]at hb;refine go [] ?_;refine aQ zS ?_;refine U.loop (ι:=aaF l) (fun sx=>[(0,fV l),(1,fV l),(12,.i l.length),(13,.i sx.pre.length)]) (fun sx=>[]) (fun sx=>sx.rest.length) ⟨[],l,rfl⟩ ?_ ?_
 ·exact Le.mk rfl (.s rfl rfl (.s rfl rfl (.cons rfl (Sub.int zS) rfl (.s rfl rfl .nil)))) .nil
 ·rintro⟨pre,rest,hx⟩;show U _ _ _ _ [(0,fV l),(1,fV l),(12,.i l.length),(13,.i pre.length)] [];have hl:=congrArg List.length hx;simp only[List.length_append]at hl;rcases rest with _|⟨x,rest⟩
  ·skip;refine go [] ?_;refine aQ (by simp at hl⊢;omega) ?_;refine go [] ?_;exact an rfl (Sub.refl _)
  ·simp only[List.length_cons]at hl;refine go [] ?_;refine bM zQ ?_;refine ix zO (bb iB hx rfl) ?_;refine ix zO (bb iB hx rfl) ?_;refine oP (yh underlying120 (by kernel_rfl) (by kernel_rfl) (.str zK underlying9 isAgg9 rfl rfl (.int zK underlying53 isAgg53 rfl rfl (.nil _))) rfl rfl rfl) ?_;refine ord ?_;refine aQ rfl ?_;refine sd (aB zO) ?_;exact nx ⟨pre++[x],rest,by simp[hx]⟩ zS (Le.mk rfl (.s rfl rfl (.s rfl rfl (.s rfl rfl (.cons rfl (Sub.int zS) rfl .nil)))) .nil)
structure aaJ(l:List tA)where
 pre:List tA
 rest:List tA
 hx:l=pre++rest
theorem aaI(l:List tA):Fc Tryz.prog 91 [AL l,AL l] (.b true):=by
 refine Fc.mk' [4] func91 rfl ntmps91 rfl rfl rfl (fun t w=>results_tmp results91 t _ w) ?_;refine U.ec 0 rfl (fun hb=>?_);simp only[List.length_map,aH]at hb;refine go [] ?_;refine aQ zS ?_;refine U.loop (ι:=aaJ l) (fun sx=>[(0,AL l),(1,AL l),(12,.i l.length),(13,.i sx.pre.length)]) (fun sx=>[]) (fun sx=>sx.rest.length) ⟨[],l,rfl⟩ ?_ ?_
 ·exact Le.mk rfl (.s rfl rfl (.s rfl rfl (.cons rfl (Sub.int zS) rfl (.s rfl rfl .nil)))) .nil
 ·rintro⟨pre,rest,hx⟩;show U _ _ _ _ [(0,AL l),(1,AL l),(12,.i l.length),(13,.i pre.length)] [];have hl:=congrArg List.length hx;simp only[List.length_append]at hl;rcases rest with _|⟨x,rest⟩
  ·skip;refine go [] ?_;refine aQ (by simp at hl⊢;omega) ?_;refine go [] ?_;exact an rfl (Sub.refl _)
  ·simp only[List.length_cons]at hl;refine go [] ?_;refine bM zQ ?_;refine ix zO (bb y0 hx rfl) ?_;refine ix zO (bb y0 hx rfl) ?_;refine oP (yh underlying162 (by kernel_rfl) (by kernel_rfl) (.str zK underlying9 isAgg9 rfl rfl (.str zK underlying37 isAgg37 rfl rfl (.nil _))) rfl rfl rfl) ?_;refine ord ?_;refine aQ rfl ?_;refine sd (aB zO) ?_;exact nx ⟨pre++[x],rest,by simp[hx]⟩ zS (Le.mk rfl (.s rfl rfl (.s rfl rfl (.s rfl rfl (.cons rfl (Sub.int zS) rfl .nil)))) .nil)
structure aat(l:List dM)where
 pre:List dM
 rest:List dM
 hx:l=pre++rest
theorem aas(l:List dM):Fc Tryz.prog 94 [pz l,pz l] (.b true):=by
 refine Fc.mk' [4] func94 rfl ntmps94 rfl rfl rfl (fun t w=>results_tmp results94 t _ w) ?_;refine U.ec 0 rfl (fun hb=>?_);simp only[List.length_map,aH]at hb;refine go [] ?_;refine aQ zS ?_;refine U.loop (ι:=aat l) (fun sx=>[(0,pz l),(1,pz l),(12,.i l.length),(13,.i sx.pre.length)]) (fun sx=>[]) (fun sx=>sx.rest.length) ⟨[],l,rfl⟩ ?_ ?_
 ·exact Le.mk rfl (.s rfl rfl (.s rfl rfl (.cons rfl (Sub.int zS) rfl (.s rfl rfl .nil)))) .nil
 ·rintro⟨pre,rest,hx⟩;show U _ _ _ _ [(0,pz l),(1,pz l),(12,.i l.length),(13,.i pre.length)] [];have hl:=congrArg List.length hx;simp only[List.length_append]at hl;rcases rest with _|⟨x,rest⟩
  ·skip;refine go [] ?_;refine aQ (by simp at hl⊢;omega) ?_;refine go [] ?_;exact an rfl (Sub.refl _)
  ·simp only[List.length_cons]at hl;refine go [] ?_;refine bM zQ ?_;refine ix zO (bb iZ hx rfl) ?_;refine ix zO (bb iZ hx rfl) ?_;refine oP (yh underlying48 (by kernel_rfl) (by kernel_rfl) (.str zK underlying9 isAgg9 rfl rfl (.str zK underlying9 isAgg9 rfl rfl (.str zK underlying37 isAgg37 rfl rfl (.nil _)))) rfl rfl rfl) ?_;refine ord ?_;refine aQ rfl ?_;refine sd (aB zO) ?_;exact nx ⟨pre++[x],rest,by simp[hx]⟩ zS (Le.mk rfl (.s rfl rfl (.s rfl rfl (.s rfl rfl (.cons rfl (Sub.int zS) rfl .nil)))) .nil)
theorem ajt(x:j6):Fc Tryz.prog 93 [.agg (hZ x),.agg (hZ x)] (.b true):=by
 refine Fc.mk' [4] func93 rfl ntmps93 rfl rfl rfl (fun t w=>results_tmp results93 t _ w) ?_;refine go [] ?_;refine gP (fun hg=>aj call94 rfl (aas _)) ?_;exact an rfl (Sub.bool zS)
structure aaS(l:List j6)where
 pre:List j6
 rest:List j6
 hx:l=pre++rest
theorem aaR(l:List j6):Fc Tryz.prog 92 [je l,je l,.fn (.func 93) [] []] (.b true):=by
 refine Fc.mk' [6] func92 rfl ntmps92 rfl rfl rfl (fun t w=>results_tmp results92 t _ w) ?_;refine U.ec 0 rfl (fun hb=>?_);simp only[List.length_map,aH]at hb;refine go [] ?_;refine aQ zS ?_;refine U.loop (ι:=aaS l) (fun sx=>[(0,je l),(1,je l),(2,.fn (.func 93) [] []),(15,je l),(16,.i l.length),(17,.i sx.pre.length)]) (fun sx=>[]) (fun sx=>sx.rest.length) ⟨[],l,rfl⟩ ?_ ?_
 ·exact Le.mk rfl (.s rfl rfl (.s rfl rfl (.s rfl rfl (.s rfl rfl (.cons rfl (Sub.int zS) rfl (.s rfl rfl .nil)))))) .nil
 ·rintro⟨pre,rest,hx⟩;show U _ _ _ _ [(0,je l),(1,je l),(2,.fn (.func 93) [] []),(15,je l),(16,.i l.length),(17,.i pre.length)] [];have hl:=congrArg List.length hx;simp only[List.length_append]at hl;rcases rest with _|⟨x,rest⟩
  ·skip;refine go [] ?_;refine aQ (by simp at hl⊢;omega) ?_;refine go [] ?_;exact an rfl (Sub.refl _)
  ·simp only[List.length_cons]at hl;refine go [] ?_;refine bM zQ ?_;refine ix zO (bb hZ hx rfl) ?_;refine ix zO (bb hZ hx rfl) ?_;refine oP (cR call93 rfl rfl (ajt x)) ?_;refine aQ rfl ?_;refine sd (aB zO) ?_;exact nx ⟨pre++[x],rest,by simp[hx]⟩ zS (Le.mk rfl (.s rfl rfl (.s rfl rfl (.s rfl rfl (.s rfl rfl (.s rfl rfl (.cons rfl (Sub.int zS) rfl .nil)))))) .nil)
theorem aju(l:List j6):Fc Tryz.prog 66 [je l,je l] (.b true):=by
 refine Fc.mk' [4] func66 rfl ntmps66 rfl rfl rfl (fun t w=>results_tmp results66 t _ w) ?_;refine go [] ?_;refine oP (aj call92 rfl (aaR _)) ?_;exact an rfl (Sub.refl _)
theorem ajs(x:jw):Fc Tryz.prog 64 [.agg (ei x),.agg (ei x)] (.b true):=by
 refine Fc.mk' [4] func64 rfl ntmps64 rfl rfl rfl (fun t w=>results_tmp results64 t _ w) ?_;refine U.seq (U.cH [.w,.w,.p] ?_);refine .W rfl (oG 0 rfl rfl)<|.W rfl (oG 1 rfl rfl)<|.ag rfl rfl<|.nil ?_;refine U.bC (Le.h_ 2 0 rfl rfl rfl rfl) ?_;refine U.bC (Le.h_ 3 1 rfl rfl rfl rfl) ?_;refine U.bC (show Le _ _ _ [(2,.bz (ei x)),(3,.bz (ei x))] []from Le.mk rfl (.s rfl rfl (.s rfl rfl .nil)) .nil) ?_;refine U.seq (U.Uq (A:=fun _:Unit=>True) (fH:=fun _=>[(2,.bz (ei x)),(3,.bz (ei x)),(5,.box 20 0),(6,.box 21 0)]) (dn:=fun _=>[(20,.cells (ei x)),(21,.cells (ei x))]) (rf [some 7,some 8,some 5,some 6,none,none] [.agg (ei x),.agg (ei x),.box 20 0,.box 21 0,.any,.any] [(2,.bz (ei x)),(3,.bz (ei x))] (⟨2,4,20,[.i 0,.i 0,.str [],.str [],.str [],.str [],.raw (.slice none 0 0)],(ei x)⟩:Bx) (⟨3,5,21,[.i 0,.i 0,.str [],.str [],.str [],.str [],.raw (.slice none 0 0)],(ei x)⟩:Bx)) mS zK (adW rfl rfl) ?_ ?_ ?_)
 ·exact⟨(fun _ _ _ hs hI hl hd=>by
   have e2:=hI.dF 2 _ rfl;exact T5 hI hs (p7 isAgg115 sizeOf115 (by exact e2) rfl _) rfl rfl zD rfl rfl rfl rfl rfl rfl),
   (fun _ _ _ hs hI hl hd=>by
   have e3:=hI.dF 3 _ rfl;exact T5 hI hs (p7 isAgg115 sizeOf115 (by exact e3) rfl _) rfl rfl zD rfl rfl rfl rfl rfl rfl),
   (fun _ _ _ hs hI hl hd=>Sp hI hs hl (fun cz=>ln 20 zeroValue115 cz) rfl rfl zD rfl rfl rfl rfl rfl rfl),
   (fun _ _ _ hs hI hl hd=>u7.swap (Sp hI.swap hs hl (fun cz=>ln 21 zeroValue115 cz) rfl rfl zD rfl rfl rfl rfl rfl rfl)),
   (fun _ _ _ hs hI hl hd=>by
   have e5:=hI.at (dp hd 2 zK) (j:=2) rfl rfl;have e7:=hI.at (dp hd 0 zK) (j:=0) rfl rfl;exact OV hI hs hl (dp hd 2 zK) (fun ho=>mJ sizeOf115 (by exact e5) (by exact e7) rfl rfl ho rfl) rfl rfl rfl rfl rfl),
   (fun _ _ _ hs hI hl hd=>by
   have e6:=hI.at (dp hd 3 zK) (j:=3) rfl rfl;have e8:=hI.at (dp hd 1 zK) (j:=1) rfl rfl;exact u7.swap (OV hI.swap hs hl (dp hd 3 zK) (fun ho=>mJ sizeOf115 (by exact e6) (by exact e8) rfl rfl ho rfl) rfl rfl rfl rfl rfl)),trivial⟩
 ·intro listed e ob hs eI hI;exact⟨(),trivial,Le.mk rfl (.cons (hI.dF 2 _ rfl) (Sub.refl _) rfl (.cons (hI.dF 3 _ rfl) (Sub.refl _) rfl (.cons (hI.at (j:=2) (eI 2 zD) rfl rfl) (Sub.refl _) rfl (.cons (hI.at (j:=3) (eI 3 zD) rfl rfl) (Sub.refl _) rfl .nil)))) (.cons (hI.b1.yes (eI 4 zD)) rfl (.cons (hI.b2.yes (eI 5 zD)) rfl .nil))⟩
 intro _ _;refine U.seq (U.cH [.p,.w,.p,.w] ?_);refine .P rfl (bJ (n:=0) 113 6 underlying115 sizeOf113 rfl rfl)<|.W rfl (qX sizeOf113 rfl rfl rfl rfl zS)<|.P rfl (bJ (n:=0) 113 6 underlying115 sizeOf113 rfl rfl)<|.W rfl (qX sizeOf113 rfl rfl rfl rfl zS)<|.nil ?_;refine U.seq (U.cH [.p,.p,.p,.p,.p,.p,.p,.r,.p,.r,.p,.p,.p,.p,.r,.p,.r,.p,.p,.p,.p,.r,.p,.r,.p,.p,.p,.p,.r,.p,.r,.p,.p,.p,.p,.r,.p,.r,.p,.p,.p,.p,.r,.p,.r,.p,.p,.p] ?_);refine .P rfl (oH (n:=0) 113 6 underlying115 sizeOf113 rfl rfl rfl)<|.P rfl (cG isAgg113 rfl)<|.P rfl (oH (n:=0) 113 6 underlying115 sizeOf113 rfl rfl rfl)<|.P rfl (cG isAgg113 rfl)<|.P rfl (aj call91 rfl (aaI _))<|.mv rfl rfl<|.p rfl (cN rfl rfl rfl rfl) (fun _=>bJ (n:=0) 3 0 underlying115 sizeOf3 rfl rfl _)<|.r rfl (cN rfl rfl rfl rfl) (bP isAgg3 rfl rfl rfl)<|.p rfl (cN rfl rfl rfl rfl) (fun _=>bJ (n:=0) 3 0 underlying115 sizeOf3 rfl rfl _)<|.r rfl (cN rfl rfl rfl rfl) (bP isAgg3 rfl rfl rfl)<|.p rfl (cN rfl rfl rfl rfl) (fun _=>l5 rfl rfl _)<|.P rfl (qV rfl rfl rfl)<|.mv rfl rfl<|.p rfl (cN rfl rfl rfl zS) (fun _=>bJ (n:=0) 42 1 underlying115 sizeOf42 rfl rfl _)<|.r rfl (cN rfl rfl rfl zS) (bP isAgg42 rfl rfl rfl)<|.p rfl (cN rfl rfl rfl zS) (fun _=>bJ (n:=0) 42 1 underlying115 sizeOf42 rfl rfl _)<|.r rfl (cN rfl rfl rfl zS) (bP isAgg42 rfl rfl rfl)<|.p rfl (cN rfl rfl rfl zS) (fun _=>l5 rfl rfl _)<|.P rfl (qV rfl zS rfl)<|.mv rfl rfl<|.p rfl (cN rfl rfl rfl zS) (fun _=>bJ (n:=0) 9 2 underlying115 sizeOf9 rfl rfl _)<|.r rfl (cN rfl rfl rfl zS) (bP isAgg9 rfl rfl rfl)<|.p rfl (cN rfl rfl rfl zS) (fun _=>bJ (n:=0) 9 2 underlying115 sizeOf9 rfl rfl _)<|.r rfl (cN rfl rfl rfl zS) (bP isAgg9 rfl rfl rfl) ?_
 refine .p rfl (cN rfl rfl rfl zS) (fun _=>Az rfl rfl _)<|.P rfl (qV rfl zS rfl)<|.mv rfl rfl<|.p rfl (cN rfl rfl rfl zS) (fun _=>bJ (n:=0) 9 3 underlying115 sizeOf9 rfl rfl _)<|.r rfl (cN rfl rfl rfl zS) (bP isAgg9 rfl rfl rfl)<|.p rfl (cN rfl rfl rfl zS) (fun _=>bJ (n:=0) 9 3 underlying115 sizeOf9 rfl rfl _)<|.r rfl (cN rfl rfl rfl zS) (bP isAgg9 rfl rfl rfl)<|.p rfl (cN rfl rfl rfl zS) (fun _=>Az rfl rfl _)<|.P rfl (qV rfl zS rfl)<|.mv rfl rfl<|.p rfl (cN rfl rfl rfl zS) (fun _=>bJ (n:=0) 9 4 underlying115 sizeOf9 rfl rfl _)<|.r rfl (cN rfl rfl rfl zS) (bP isAgg9 rfl rfl rfl)<|.p rfl (cN rfl rfl rfl zS) (fun _=>bJ (n:=0) 9 4 underlying115 sizeOf9 rfl rfl _)<|.r rfl (cN rfl rfl rfl zS) (bP isAgg9 rfl rfl rfl)<|.p rfl (cN rfl rfl rfl zS) (fun _=>Az rfl rfl _)<|.P rfl (qV rfl zS rfl)<|.mv rfl rfl<|.p rfl (cN rfl rfl rfl zS) (fun _=>bJ (n:=0) 9 5 underlying115 sizeOf9 rfl rfl _)<|.r rfl (cN rfl rfl rfl zS) (bP isAgg9 rfl rfl rfl)<|.p rfl (cN rfl rfl rfl zS) (fun _=>bJ (n:=0) 9 5 underlying115 sizeOf9 rfl rfl _)<|.r rfl (cN rfl rfl rfl zS) (bP isAgg9 rfl rfl rfl)<|.p rfl (cN rfl rfl rfl zS) (fun _=>Az rfl rfl _)<|.P rfl (qV rfl zS rfl) ?_;refine .ag rfl rfl<|.nil ?_;refine U.ret (?_);exact bS rfl (Sub.bool zS)
structure aaQ(l:List jw)where
 pre:List jw
 rest:List jw
 hx:l=pre++rest
theorem aaP(l:List jw):Fc Tryz.prog 63 [fD l,fD l,.fn (.func 64) [] []] (.b true):=by
 refine Fc.mk' [6] func63 rfl ntmps63 rfl rfl rfl (fun t w=>results_tmp results63 t _ w) ?_;refine U.ec 0 rfl (fun hb=>?_);simp only[List.length_map,aH]at hb;refine go [] ?_;refine aQ zS ?_;refine U.loop (ι:=aaQ l) (fun sx=>[(0,fD l),(1,fD l),(2,.fn (.func 64) [] []),(15,fD l),(16,.i l.length),(17,.i sx.pre.length)]) (fun sx=>[]) (fun sx=>sx.rest.length) ⟨[],l,rfl⟩ ?_ ?_
 ·exact Le.mk rfl (.s rfl rfl (.s rfl rfl (.s rfl rfl (.s rfl rfl (.cons rfl (Sub.int zS) rfl (.s rfl rfl .nil)))))) .nil
 ·rintro⟨pre,rest,hx⟩;show U _ _ _ _ [(0,fD l),(1,fD l),(2,.fn (.func 64) [] []),(15,fD l),(16,.i l.length),(17,.i pre.length)] [];have hl:=congrArg List.length hx;simp only[List.length_append]at hl;rcases rest with _|⟨x,rest⟩
  ·skip;refine go [] ?_;refine aQ (by simp at hl⊢;omega) ?_;refine go [] ?_;exact an rfl (Sub.refl _)
  ·simp only[List.length_cons]at hl;refine go [] ?_;refine bM zQ ?_;refine ix zO (bb ei hx rfl) ?_;refine ix zO (bb ei hx rfl) ?_;refine oP (cR call64 rfl rfl (ajs x)) ?_;refine aQ rfl ?_;refine sd (aB zO) ?_;exact nx ⟨pre++[x],rest,by simp[hx]⟩ zS (Le.mk rfl (.s rfl rfl (.s rfl rfl (.s rfl rfl (.s rfl rfl (.s rfl rfl (.cons rfl (Sub.int zS) rfl .nil)))))) .nil)
theorem ajq(b:ah):Fc Tryz.prog 16 [.agg (gM b),.agg (gM b)] (.b true):=by
 refine Fc.mk' [4] func16 rfl ntmps16 rfl rfl rfl (fun t w=>results_tmp results16 t _ w) ?_;refine go [] ?_;refine oP (aj call59 rfl (aau _)) ?_;refine gP (fun hg=>aj call60 rfl (aaw _)) ?_;refine gP (fun hg=>aj call61 rfl (aap _)) ?_;refine gP (fun hg=>aj call62 rfl (aaG _)) ?_;refine gP (fun hg=>aj call63 rfl (aaP _)) ?_;refine gP (fun hg=>aj call65 rfl (aaE _)) ?_;refine gP (fun hg=>aj call66 rfl (aju _)) ?_;exact an rfl (Sub.refl _)
end Go.T
namespace Go.T
open Go
structure jx where
 bX:List jR
 bH:List bj
 b_:List jF
 steps:List jT
 cr:List jw
 cJ:List jS
 entries:List Entry
 deriving Inhabited
@[reducible] def kG(b:jx):List D:=[fU b.bX,ew b.bH,fQ b.b_,fX b.steps,fD b.cr,fV b.cJ,.snap 3 false (b.entries.map kC)]
def EG(m:bj):Bool:=decide ((20:Int)<(m.cV.length:Int))
def EF(l:dM):Bool:=decide ((20:Int)<(l.fq.length:Int))
def zi(e:Entry):Bool:=decide ((20:Int)<(e.lines.length:Int))||e.lines.any EF
def Dc(b:jx):Int:=b.bX.length+b.bH.length+b.b_.length+b.steps.length+b.cr.length+b.cJ.length+b.entries.length
def tW(b:jx):Bool:=(decide (60<Dc b)||b.bH.any EG)||b.entries.any zi
theorem ab0{e:Entry}(h:zi e=false):∀l∈e.lines,l.fq.length≤20:=fun l hl=>by
 simp only[zi,Bool.or_eq_false_iff]at h;have:=List.any_eq_false.1 h.2 l hl;simp only[EF,decide_eq_true_eq]at this;omega
def GD(b:jx)(h:∀e∈b.entries,∀l∈e.lines,l.fq.length≤20):ah:=⟨b.bX,b.bH,b.b_,b.steps,b.cr,b.cJ,b.entries.attachWith _ h⟩
theorem aag(b:jx)(h:∀e∈b.entries,∀l∈e.lines,l.fq.length≤20):gM (GD b h)=kG b:=by
 have e:(b.entries.attachWith _ h).map hZ=b.entries.map kC:=by
  apply List.ext_getElem
  ·simp
  ·intro i h1 h2;simp
 unfold gM kG GD je;simp only[e]
structure TA(b:jx):Prop where
 ent:∀e∈b.entries,∀l∈e.lines,l.fq.length≤20
 cV:∀m∈b.bH,m.cV.length≤20
 size:Dc b≤60
theorem abX{b:jx}(h:tW b=false):TA b:=by
 simp only[tW,Bool.or_eq_false_iff,decide_eq_false_iff_not]at h;refine⟨fun e he=>ab0 ?_,fun m hm=>?_,by omega⟩
 ·simpa using List.any_eq_false.1 h.2 e he
 ·have:=List.any_eq_false.1 h.1.2 m hm;simp only[EG,decide_eq_true_eq]at this;omega
theorem VE:∀(l:List jx),(∀b∈l,TA b)→∃l2:List ah,l2.map gM=l.map kG∧l2.length=l.length∧∀b∈l2,(b.bX.length≤60∧b.bH.length≤60∧b.b_.length≤60∧b.steps.length≤60∧b.cr.length≤60∧b.cJ.length≤60∧b.entries.length≤60)∧∀m∈b.bH,m.cV.length≤20
 |[],_=>⟨[],rfl,rfl,fun _ h=>by cases h⟩
 |b::l,h=>by
  obtain⟨l2,h1,h2,h3⟩:=VE l fun x hx=>h x (by simp[hx]);have hb:=h b zS;refine⟨GD b hb.ent::l2,by rw[List.map_cons,List.map_cons,h1,aag],by simp[h2],fun x hx=>?_⟩;rcases List.mem_cons.1 hx with rfl|hx
  ·have:=hb.size;unfold Dc at this;refine⟨?_,hb.cV⟩;simp only[GD,List.length_attachWith];omega
  ·exact h3 x hx
theorem vq{α β:Type}(f:α→List β){k:Nat}:∀(l:List α),(∀b∈l,(f b).length≤k)→(l.flatMap f).length≤k*l.length
 |[],_=>by simp
 |b::l,h=>by
  have h1:=h b zS;have h2:=vq f l fun x hx=>h x (by simp[hx]);rw[List.flatMap_cons,List.length_append,List.length_cons,Nat.mul_succ];omega
open Go.Proofs Go.Proofs.Tryz
set_option maxRecDepth 20000
structure aef(l:List bj)(P:bj→Bool)where
 pre:List bj
 rest:List bj
 hx:l=pre++rest
 hp:pre.any P=false
theorem aee(l:List bj)(f:FuncId)(bx:List D)(ct:D.bk.dw bx=true)(P:bj→Bool)(fy:∀(args:Array Value)(w:World),(callFunc f args).run Tryz.prog w=.ok (.enter f args) w)(hP:∀x∈l,Fc Tryz.prog f (.agg (bU x)::bx) (.b (P x))):Fc Tryz.prog 18 [.snap 2 false (l.map bU),.fn (.func f) [] bx] (.i (rn P l)):=by
 refine Fc.mk' [4] func18 rfl ntmps18 rfl (by simp[D.bk,D.bk.dw,ct]) rfl (fun t w=>results_tmp results18 t _ w) ?_;refine U.ec 0 rfl (fun hb=>?_);simp only[List.length_map,aH]at hb;refine go [] ?_;refine U.loop (ι:=aef l P) (fun sx=>[(0,.snap 2 false (l.map bU)),(1,.fn (.func f) [] bx),(6,.snap 2 false (l.map bU)),(7,.i l.length),(8,.i sx.pre.length)]) (fun sx=>[]) (fun sx=>sx.rest.length) ⟨[],l,rfl,rfl⟩ ?_ ?_
 ·exact Le.mk rfl (.s rfl rfl (.cons rfl (Sub.refl _) (pr ct) (.s rfl rfl (.cons rfl (Sub.int zS) rfl (.s rfl rfl .nil))))) .nil
 ·rintro⟨pre,rest,hx,hp⟩;show U _ _ _ _ [(0,.snap 2 false (l.map bU)),(1,.fn (.func f) [] bx),(6,.snap 2 false (l.map bU)),(7,.i l.length),(8,.i pre.length)] [];have hl:=congrArg List.length hx;simp only[List.length_append]at hl;rcases rest with _|⟨x,rest⟩
  ·skip;refine go [] ?_;refine aQ (by simp at hl⊢;omega) ?_;refine go [] ?_;exact an rfl (Sub.int (by exact vo hx hp))
  ·simp only[List.length_cons]at hl;refine go [] ?_;refine bM zQ ?_;refine ix zO (bb bU hx rfl) ?_;refine oP (cR fy rfl rfl (hP x (by rw[hx];simp))) ?_;refine br (fun h1=>?_) (fun h1=>?_)
   ·exact an rfl (Sub.int (by exact vp hx hp h1))
   ·refine sd (aB zO) ?_;exact nx ⟨pre++[x],rest,by simp[hx],r8 hp h1⟩ zS (Le.mk rfl (.s rfl rfl (.cons rfl (Sub.refl _) (pr ct) (.s rfl rfl (.s rfl rfl (.cons rfl (Sub.int zS) rfl .nil))))) .nil)
theorem WL(l:List bj)(f:FuncId)(bx:List D)(ct:D.bk.dw bx=true)(P:bj→Bool)(fy:∀(args:Array Value)(w:World),(callFunc f args).run Tryz.prog w=.ok (.enter f args) w)(hP:∀x∈l,Fc Tryz.prog f (.agg (bU x)::bx) (.b (P x))):Fc Tryz.prog 7 [.snap 2 false (l.map bU),.fn (.func f) [] bx] (.b (l.any P)):=by
 refine Fc.mk' [4] func7 rfl ntmps7 rfl (by simp[D.bk,D.bk.dw,ct]) rfl (fun t w=>results_tmp results7 t _ w) ?_;refine go [] ?_;refine oP (aj call18 rfl (aee l f bx ct P fy hP)) ?_;exact an rfl (Sub.bool (by exact vm P l))
structure aed(l:List dM)(P:dM→Bool)where
 pre:List dM
 rest:List dM
 hx:l=pre++rest
 hp:pre.any P=false
theorem aec(l:List dM)(f:FuncId)(bx:List D)(ct:D.bk.dw bx=true)(P:dM→Bool)(fy:∀(args:Array Value)(w:World),(callFunc f args).run Tryz.prog w=.ok (.enter f args) w)(hP:∀x∈l,Fc Tryz.prog f (.agg (iZ x)::bx) (.b (P x))):Fc Tryz.prog 20 [.snap 3 false (l.map iZ),.fn (.func f) [] bx] (.i (rn P l)):=by
 refine Fc.mk' [4] func20 rfl ntmps20 rfl (by simp[D.bk,D.bk.dw,ct]) rfl (fun t w=>results_tmp results20 t _ w) ?_;refine U.ec 0 rfl (fun hb=>?_);simp only[List.length_map,aH]at hb;refine go [] ?_;refine U.loop (ι:=aed l P) (fun sx=>[(0,.snap 3 false (l.map iZ)),(1,.fn (.func f) [] bx),(6,.snap 3 false (l.map iZ)),(7,.i l.length),(8,.i sx.pre.length)]) (fun sx=>[]) (fun sx=>sx.rest.length) ⟨[],l,rfl,rfl⟩ ?_ ?_
 ·exact Le.mk rfl (.s rfl rfl (.cons rfl (Sub.refl _) (pr ct) (.s rfl rfl (.cons rfl (Sub.int zS) rfl (.s rfl rfl .nil))))) .nil
 ·rintro⟨pre,rest,hx,hp⟩;show U _ _ _ _ [(0,.snap 3 false (l.map iZ)),(1,.fn (.func f) [] bx),(6,.snap 3 false (l.map iZ)),(7,.i l.length),(8,.i pre.length)] [];have hl:=congrArg List.length hx;simp only[List.length_append]at hl;rcases rest with _|⟨x,rest⟩
  ·skip;refine go [] ?_;refine aQ (by simp at hl⊢;omega) ?_;refine go [] ?_;exact an rfl (Sub.int (by exact vo hx hp))
  ·simp only[List.length_cons]at hl;refine go [] ?_;refine bM zQ ?_;refine ix zO (bb iZ hx rfl) ?_;refine oP (cR fy rfl rfl (hP x (by rw[hx];simp))) ?_;refine br (fun h1=>?_) (fun h1=>?_)
   ·exact an rfl (Sub.int (by exact vp hx hp h1))
   ·refine sd (aB zO) ?_;exact nx ⟨pre++[x],rest,by simp[hx],r8 hp h1⟩ zS (Le.mk rfl (.s rfl rfl (.cons rfl (Sub.refl _) (pr ct) (.s rfl rfl (.s rfl rfl (.cons rfl (Sub.int zS) rfl .nil))))) .nil)
theorem WK(l:List dM)(f:FuncId)(bx:List D)(ct:D.bk.dw bx=true)(P:dM→Bool)(fy:∀(args:Array Value)(w:World),(callFunc f args).run Tryz.prog w=.ok (.enter f args) w)(hP:∀x∈l,Fc Tryz.prog f (.agg (iZ x)::bx) (.b (P x))):Fc Tryz.prog 11 [.snap 3 false (l.map iZ),.fn (.func f) [] bx] (.b (l.any P)):=by
 refine Fc.mk' [4] func11 rfl ntmps11 rfl (by simp[D.bk,D.bk.dw,ct]) rfl (fun t w=>results_tmp results11 t _ w) ?_;refine go [] ?_;refine oP (aj call20 rfl (aec l f bx ct P fy hP)) ?_;exact an rfl (Sub.bool (by exact vm P l))
structure aeb(l:List Entry)(P:Entry→Bool)where
 pre:List Entry
 rest:List Entry
 hx:l=pre++rest
 hp:pre.any P=false
theorem aea(l:List Entry)(f:FuncId)(bx:List D)(ct:D.bk.dw bx=true)(P:Entry→Bool)(fy:∀(args:Array Value)(w:World),(callFunc f args).run Tryz.prog w=.ok (.enter f args) w)(hP:∀x∈l,Fc Tryz.prog f (.agg (kC x)::bx) (.b (P x))):Fc Tryz.prog 19 [.snap 3 false (l.map kC),.fn (.func f) [] bx] (.i (rn P l)):=by
 refine Fc.mk' [4] func19 rfl ntmps19 rfl (by simp[D.bk,D.bk.dw,ct]) rfl (fun t w=>results_tmp results19 t _ w) ?_;refine U.ec 0 rfl (fun hb=>?_);simp only[List.length_map,aH]at hb;refine go [] ?_;refine U.loop (ι:=aeb l P) (fun sx=>[(0,.snap 3 false (l.map kC)),(1,.fn (.func f) [] bx),(6,.snap 3 false (l.map kC)),(7,.i l.length),(8,.i sx.pre.length)]) (fun sx=>[]) (fun sx=>sx.rest.length) ⟨[],l,rfl,rfl⟩ ?_ ?_
 ·exact Le.mk rfl (.s rfl rfl (.cons rfl (Sub.refl _) (pr ct) (.s rfl rfl (.cons rfl (Sub.int zS) rfl (.s rfl rfl .nil))))) .nil
 ·rintro⟨pre,rest,hx,hp⟩;show U _ _ _ _ [(0,.snap 3 false (l.map kC)),(1,.fn (.func f) [] bx),(6,.snap 3 false (l.map kC)),(7,.i l.length),(8,.i pre.length)] [];have hl:=congrArg List.length hx;simp only[List.length_append]at hl;rcases rest with _|⟨x,rest⟩
  ·skip;refine go [] ?_;refine aQ (by simp at hl⊢;omega) ?_;refine go [] ?_;exact an rfl (Sub.int (by exact vo hx hp))
  ·simp only[List.length_cons]at hl;refine go [] ?_;refine bM zQ ?_;refine ix zO (bb kC hx rfl) ?_;refine oP (cR fy rfl rfl (hP x (by rw[hx];simp))) ?_;refine br (fun h1=>?_) (fun h1=>?_)
   ·exact an rfl (Sub.int (by exact vp hx hp h1))
   ·refine sd (aB zO) ?_;exact nx ⟨pre++[x],rest,by simp[hx],r8 hp h1⟩ zS (Le.mk rfl (.s rfl rfl (.cons rfl (Sub.refl _) (pr ct) (.s rfl rfl (.s rfl rfl (.cons rfl (Sub.int zS) rfl .nil))))) .nil)
theorem WJ(l:List Entry)(f:FuncId)(bx:List D)(ct:D.bk.dw bx=true)(P:Entry→Bool)(fy:∀(args:Array Value)(w:World),(callFunc f args).run Tryz.prog w=.ok (.enter f args) w)(hP:∀x∈l,Fc Tryz.prog f (.agg (kC x)::bx) (.b (P x))):Fc Tryz.prog 9 [.snap 3 false (l.map kC),.fn (.func f) [] bx] (.b (l.any P)):=by
 refine Fc.mk' [4] func9 rfl ntmps9 rfl (by simp[D.bk,D.bk.dw,ct]) rfl (fun t w=>results_tmp results9 t _ w) ?_;refine go [] ?_;refine oP (aj call19 rfl (aea l f bx ct P fy hP)) ?_;exact an rfl (Sub.bool (by exact vm P l))
structure ad'(l:List jx)(P:jx→Bool)where
 pre:List jx
 rest:List jx
 hx:l=pre++rest
 hp:pre.any P=false
theorem ad_(l:List jx)(f:FuncId)(bx:List D)(ct:D.bk.dw bx=true)(P:jx→Bool)(fy:∀(args:Array Value)(w:World),(callFunc f args).run Tryz.prog w=.ok (.enter f args) w)(hP:∀x∈l,Fc Tryz.prog f (.agg (kG x)::bx) (.b (P x))):Fc Tryz.prog 17 [.snap 7 false (l.map kG),.fn (.func f) [] bx] (.i (rn P l)):=by
 refine Fc.mk' [4] func17 rfl ntmps17 rfl (by simp[D.bk,D.bk.dw,ct]) rfl (fun t w=>results_tmp results17 t _ w) ?_;refine U.ec 0 rfl (fun hb=>?_);simp only[List.length_map,aH]at hb;refine go [] ?_;refine U.loop (ι:=ad' l P) (fun sx=>[(0,.snap 7 false (l.map kG)),(1,.fn (.func f) [] bx),(6,.snap 7 false (l.map kG)),(7,.i l.length),(8,.i sx.pre.length)]) (fun sx=>[]) (fun sx=>sx.rest.length) ⟨[],l,rfl,rfl⟩ ?_ ?_
 ·exact Le.mk rfl (.s rfl rfl (.cons rfl (Sub.refl _) (pr ct) (.s rfl rfl (.cons rfl (Sub.int zS) rfl (.s rfl rfl .nil))))) .nil
 ·rintro⟨pre,rest,hx,hp⟩;show U _ _ _ _ [(0,.snap 7 false (l.map kG)),(1,.fn (.func f) [] bx),(6,.snap 7 false (l.map kG)),(7,.i l.length),(8,.i pre.length)] [];have hl:=congrArg List.length hx;simp only[List.length_append]at hl;rcases rest with _|⟨x,rest⟩
  ·skip;refine go [] ?_;refine aQ (by simp at hl⊢;omega) ?_;refine go [] ?_;exact an rfl (Sub.int (by exact vo hx hp))
  ·simp only[List.length_cons]at hl;refine go [] ?_;refine bM zQ ?_;refine ix zO (bb kG hx rfl) ?_;refine oP (cR fy rfl rfl (hP x (by rw[hx];simp))) ?_;refine br (fun h1=>?_) (fun h1=>?_)
   ·exact an rfl (Sub.int (by exact vp hx hp h1))
   ·refine sd (aB zO) ?_;exact nx ⟨pre++[x],rest,by simp[hx],r8 hp h1⟩ zS (Le.mk rfl (.s rfl rfl (.cons rfl (Sub.refl _) (pr ct) (.s rfl rfl (.s rfl rfl (.cons rfl (Sub.int zS) rfl .nil))))) .nil)
theorem MV(l:List jx)(f:FuncId)(bx:List D)(ct:D.bk.dw bx=true)(P:jx→Bool)(fy:∀(args:Array Value)(w:World),(callFunc f args).run Tryz.prog w=.ok (.enter f args) w)(hP:∀x∈l,Fc Tryz.prog f (.agg (kG x)::bx) (.b (P x))):Fc Tryz.prog 4 [.snap 7 false (l.map kG),.fn (.func f) [] bx] (.b (l.any P)):=by
 refine Fc.mk' [4] func4 rfl ntmps4 rfl (by simp[D.bk,D.bk.dw,ct]) rfl (fun t w=>results_tmp results4 t _ w) ?_;refine go [] ?_;refine oP (aj call17 rfl (ad_ l f bx ct P fy hP)) ?_;exact an rfl (Sub.bool (by exact vm P l))
theorem ab3(m:bj):Fc Tryz.prog 8 [.agg (bU m)] (.b (EG m)):=by
 refine Fc.mk' [2] func8 rfl ntmps8 rfl rfl rfl (fun t w=>results_tmp results8 t _ w) ?_;refine go [] ?_;exact an rfl (Sub.refl _)
theorem ab2(l:dM):Fc Tryz.prog 12 [.agg (iZ l)] (.b (EF l)):=by
 refine Fc.mk' [2] func12 rfl ntmps12 rfl rfl rfl (fun t w=>results_tmp results12 t _ w) ?_;refine go [] ?_;exact an rfl (Sub.refl _)
theorem ab1(e:Entry):Fc Tryz.prog 10 [.agg (kC e)] (.b (zi e)):=by
 refine Fc.mk' [2] func10 rfl ntmps10 rfl rfl rfl (fun t w=>results_tmp results10 t _ w) ?_;refine go [] ?_;refine gP (fun hg=>aj call11 rfl (WK e.lines _ [] rfl EF call12 (fun x _=>ab2 x))) ?_;exact an rfl (Sub.bool (by simp only[zi,List.length_map]))
theorem ajZ(b:jx):Fc Tryz.prog 6 [.agg (kG b)] (.i (Dc b)):=by
 refine Fc.mk' [2] func6 rfl ntmps6 rfl rfl rfl (fun t w=>results_tmp results6 t _ w) ?_;refine U.rh 0 0 rfl rfl (fun sE=>?_);simp only[List.length_map,aH]at sE;refine U.rh 0 1 rfl rfl (fun j9=>?_);simp only[List.length_map,aH]at j9;refine U.rh 0 2 rfl rfl (fun iG=>?_);simp only[List.length_map,aH]at iG;refine U.rh 0 3 rfl rfl (fun IZ=>?_);simp only[List.length_map,aH]at IZ;refine U.rh 0 4 rfl rfl (fun hb4=>?_);simp only[List.length_map,aH]at hb4;refine U.rh 0 5 rfl rfl (fun hb5=>?_);simp only[List.length_map,aH]at hb5;refine U.rh 0 6 rfl rfl (fun hb6=>?_);simp only[List.length_map,aH]at hb6;refine go [] ?_;refine sd (aW (by simp only[List.length_map];omega) (by simp only[List.length_map];omega)) ?_;refine sd (aW (by simp only[List.length_map];omega) (by simp only[List.length_map];omega)) ?_;refine sd (aW (by simp only[List.length_map];omega) (by simp only[List.length_map];omega)) ?_;refine sd (aW (by simp only[List.length_map];omega) (by simp only[List.length_map];omega)) ?_;refine sd (aW (by simp only[List.length_map];omega) (by simp only[List.length_map];omega)) ?_;refine sd (aW (by simp only[List.length_map];omega) (by simp only[List.length_map];omega)) ?_;exact an rfl (Sub.int (by simp only[Dc,List.length_map]))
theorem PG(b:jx):Fc Tryz.prog 5 [.agg (kG b)] (.b (tW b)):=by
 refine Fc.mk' [2] func5 rfl ntmps5 rfl rfl rfl (fun t w=>results_tmp results5 t _ w) ?_;refine go [] ?_;refine oP (aj call6 rfl (ajZ _)) ?_;refine gP (fun hg=>aj call7 rfl (WL b.bH _ [] rfl EG call8 (fun x _=>ab3 x))) ?_;refine gP (fun hg=>aj call9 rfl (WJ b.entries _ [] rfl zi call10 (fun x _=>ab1 x))) ?_;exact an rfl (Sub.refl _)
theorem aeN(l:List jx)(h:(decide ((4:Int)<(l.length:Int))||l.any tW)=true):Fc Tryz.prog 3 [.snap 7 false (l.map kG)] (.b true):=by
 refine Fc.mk' [2] func3 rfl ntmps3 rfl rfl rfl (fun t w=>results_tmp results3 t _ w) ?_;refine go [] ?_;refine gP (fun hg=>aj call4 rfl (MV l _ [] rfl tW call5 (fun x _=>PG x))) ?_;refine bM (by rw[List.length_map];exact h) ?_;refine oP (aj call13 rfl M5) ?_;exact an rfl (Sub.refl _)
theorem WI(l:List jx)(l2:List ah)(e:l2.map gM=l.map kG):Fc Tryz.prog 4 [cj l2,.fn (.func 5) [] []] (.b (l.any tW)):=by
 unfold cj;rw[e];exact MV l _ [] rfl tW call5 (fun x _=>PG x)
theorem aeP(l:List jx)(l2:List ah)(e:l2.map gM=l.map kG)(hlen:l2.length=l.length)(h:(decide ((4:Int)<(l.length:Int))||l.any tW)=false)(ho:Aq l2):Fc Tryz.prog 3 [cj l2] (.b true):=by
 refine Fc.mk' [2] func3 rfl ntmps3 rfl rfl rfl (fun t w=>results_tmp results3 t _ w) ?_;refine go [] ?_;refine gP (fun hg=>aj call4 rfl (WI l l2 e)) ?_;refine aQ (by rw[List.length_map,hlen];exact h) ?_;refine oP (aj call14 rfl (aeg l2 ho)) ?_;refine oP (aj call15 rfl (aei l2 ho)) ?_;refine oP (aj call16 rfl (ajq _)) ?_;refine gP (fun hg=>aj call13 rfl M5) ?_;exact an rfl (Sub.bool zS)
theorem aeO(l:List jx):Fc Tryz.prog 3 [.snap 7 false (l.map kG)] (.b true):=by
 cases h:(decide ((4:Int)<(l.length:Int))||l.any tW)with
 |true=>exact aeN l h
 |false=>
  have h0:=h;simp only[Bool.or_eq_false_iff,decide_eq_false_iff_not]at h0;obtain⟨l2,h1,h2,h3⟩:=VE l fun b hb=>abX (by simpa using List.any_eq_false.1 h0.2 b hb);rw[←h1];have hl:l2.length≤4:=by omega
  refine aeP l l2 h1 h2 h ⟨?_,?_,?_,?_,?_,?_,?_,fun y hy=>?_⟩
  ·have:=vq ah.bX (k:=60) l2 fun b hb=>(h3 b hb).1.1;omega
  ·have:=vq ah.bH (k:=60) l2 fun b hb=>(h3 b hb).1.2.1;omega
  ·have:=vq ah.b_ (k:=60) l2 fun b hb=>(h3 b hb).1.2.2.1;omega
  ·have:=vq ah.steps (k:=60) l2 fun b hb=>(h3 b hb).1.2.2.2.1;omega
  ·have:=vq ah.cr (k:=60) l2 fun b hb=>(h3 b hb).1.2.2.2.2.1;omega
  ·have:=vq ah.cJ (k:=60) l2 fun b hb=>(h3 b hb).1.2.2.2.2.2.1;omega
  ·have:=vq ah.entries (k:=60) l2 fun b hb=>(h3 b hb).1.2.2.2.2.2.2;omega
  ·obtain⟨b,hb,hy⟩:=List.mem_flatMap.1 hy;exact(h3 b hb).2 y hy
end Go.T
namespace Go.T
open Go
def uD:Nat→Prop:=fun _=>False
structure bB(P:Program)(t:TypeId)(α:Type)(enc:α→List D):Prop where
 out:∀{H:Type}{eH:TypeId×Value→H}{w:World}{eF:Nat}{cs:List Value}{x:DataW H×List MemPlace},DataW.trod eH P w 0 (fun _=>true) true eF t cs=some x→(∀n∈x.1.weights P t,n≤reachBytes)→
  ∃a:α,(∀u∈cs,u.oneCell'=true)∧Vs w uD dX (enc a) cs
theorem bB.int{P:Program}{t:TypeId}(ht:P.underlying t=some (.int .i64)):bB P t Int (fun n=>[.i n]):=⟨fun h _=>by
 obtain⟨n,rfl,_,_⟩:=DataW.trod_int ht h;exact⟨n,by simp[Value.oneCell'],by simp[Vs,V]⟩⟩
theorem bB.str{P:Program}{t:TypeId}(ht:P.underlying t=some .string):bB P t ae (fun n=>[.str n]):=⟨fun h hw=>by
 obtain⟨s,rfl,rfl,_⟩:=DataW.trod_string ht h;have:=hw s.data.toList.length (by simp[DataW.weights]);refine⟨s.data.toList,by simp[Value.oneCell'],?_⟩;simp only[Vs,V];refine⟨_,_,rfl,⟨by simp,?_⟩,rfl⟩;have:=reachBytes_lt;unfold aH;omega⟩
structure yF(P:Program)(fs:List Field)(off:Nat)(α:Type)(enc:α→List D):Prop where
 out:∀{H:Type}{eH:TypeId×Value→H}{w:World}{eF:Nat}{cs:List Value}{xs:List (DataW H×List MemPlace)},xs.length=fs.length→
  (∀(i:Nat)(f:Field),fs[i]?=some f→DataW.trod eH P w 0 (fun _=>true) true eF f.type ((cs.drop f.offset).take (P.cellsOf f.type))=xs[i]?)→(∀n∈DataW.weightsEach P (fs.map (·.type)) (xs.map (·.1)),n≤reachBytes)→
  ∃a:α,(∀u∈(cs.drop off).take ((fs.map fun f=>P.cellsOf f.type).sum),u.oneCell'=true)∧Vs w uD dX (enc a) ((cs.drop off).take ((fs.map fun f=>P.cellsOf f.type).sum))
theorem yF.nil{P:Program}{off:Nat}:yF P [] off Unit (fun _=>[]):=⟨fun _ _ _=>⟨(),by simp,by simp[Vs]⟩⟩
theorem Vs.app{w:World}{O:Nat→Prop}{ρ:aC}:∀{ds es:List D}{us vs:List Value},Vs w O ρ ds us→Vs w O ρ es vs→Vs w O ρ (ds++es) (us++vs)
 |[],es,us,vs,h,h'=>by simp only[Vs]at h;subst h;simpa using h'
 |d::ds,es,us,vs,h,h'=>by
  simp only[Vs]at h;obtain⟨u,us,rfl,h1,h2⟩:=h;simp only[List.cons_append,Vs];exact⟨_,_,rfl,h1,Vs.app h2 h'⟩
theorem yF.cons{P:Program}{f:Field}{fs:List Field}{off n:Nat}{α β:Type}{enc:α→List D}{enc':β→List D}(h1:bB P f.type α enc)(ho:f.offset=off)(hn:P.cellsOf f.type=n)(h2:yF P fs (off+n) β enc'):yF P (f::fs) off (α×β) (fun x=>enc x.1++enc' x.2):=⟨fun{H eH w eF cs xs} hl hr hw=>by
 match xs,hl with
 |x::xs,hl=>
  have hx:=hr 0 f rfl;simp only[List.map_cons,DataW.weightsEach,List.mem_append]at hw;obtain⟨a,ha,QZ⟩:=h1.out (by simpa using hx) (fun n hn=>hw n (.inl hn));obtain⟨b,hb,hvb⟩:=h2.out (xs:=xs) (by simpa using hl) (fun i g hg=>by simpa using hr (i+1) g (by simpa using hg)) (fun n hn=>hw n (.inr hn));rw[ho,hn]at ha QZ;have e:(cs.drop off).take (((f::fs).map fun f=>P.cellsOf f.type).sum)=(cs.drop off).take n++(cs.drop (off+n)).take ((fs.map fun f=>P.cellsOf f.type).sum):=by
   rw[List.map_cons,List.sum_cons,hn,List.take_add,List.drop_drop]
  rw[e];exact⟨(a,b),fun u hu=>(List.mem_append.1 hu).elim (ha u) (hb u),Vs.app QZ hvb⟩⟩
theorem bB.struct{P:Program}{t:TypeId}{fs:List Field}{α:Type}{enc:α→List D}(ht:P.underlying t=some (.struct fs.toArray))(hc:P.cellsOf t=(fs.map fun f=>P.cellsOf f.type).sum)(h:yF P fs 0 α enc):bB P t α enc:=⟨fun{H eH w eF cs x} hr hw=>by
 obtain⟨xs,n,_,rfl,hl,hlen,hf⟩:=DataW.trod_struct ht hr;simp only[DataW.weights,ht,List.map_map]at hw;obtain⟨a,h1,h2⟩:=h.out (by simpa using hlen) (fun i f hi=>hf i f (by simpa using hi)) (fun n hn=>hw n (by simpa[Function.comp_def]using hn));have e:(cs.drop 0).take ((fs.map fun f=>P.cellsOf f.type).sum)=cs:=by
  rw[List.drop_zero,←hc,←hl,List.take_length]
 rw[e]at h1 h2;exact⟨a,h1,h2⟩⟩
theorem bB.map{P:Program}{t:TypeId}{α β:Type}{enc:α→List D}{enc':β→List D}(h:bB P t α enc)(f:α→β)(he:∀a,enc' (f a)=enc a):bB P t β enc':=⟨fun hr hw=>by
 obtain⟨a,h1,h2⟩:=h.out hr hw;exact⟨f a,h1,by rw[he];exact h2⟩⟩
theorem Vs.VG{w:World}{O:Nat→Prop}{b:Nat}:∀{ds:List D}{cs:List Value}{off:Nat},Vs w O dX ds cs→(∀u∈cs,u.oneCell'=true)→(∀j u,cs[j]?=some u→w.cell? ⟨b,off+j,none⟩=some u)→Vc w O b off ds
 |[],_,_,_,_,_=>by simp[Vc]
 |d::ds,cs,off,h,h1,hc=>by
  simp only[Vs]at h;obtain⟨u,us,rfl,h2,h3⟩:=h;simp only[Vc];refine⟨⟨u,⟨by simpa using hc 0 u rfl,h1 u List.mem_cons_self⟩,h2⟩,Vs.VG h3 (fun v hv=>h1 v (List.mem_cons_of_mem _ hv)) (fun j v hj=>?_)⟩;have:=hc (j+1) v (by simpa using hj);rwa[show off+(j+1)=off+1+j by omega]at this
theorem XV{w:World}{a:Addr}{n:Nat}{cs:List Value}(h:w.cells? 0 a n=some cs):cs.length=n∧∀j,j<n→w.cell? (a.add j)=cs[j]?:=by
 unfold World.cells? at h;rw[if_pos (Nat.zero_le _)]at h;exact⟨by simpa using mapM_some_length h,fun j hj=>by simpa using mapM_some_get h j j (by simp[hj])⟩
theorem aj6{w:World}{a:Addr}{u:Value}(h:w.cell? a=some u):a.spot=none:=by
 cases zI:a.spot with
 |none=>rfl
 |some s=>
  simp only[World.cell?]at h;split at h
  ·simp[zI]at h
  ·cases h
theorem My{w:World}{b sz:Nat}{α:Type}{enc:α→List D}:∀{l:List α}{off:Nat},(∀i a,l[i]?=some a→(enc a).length=sz∧Vc w uD b (off+i*sz) (enc a))→Vr w uD b off sz (l.map enc)
 |[],_,_=>by simp[Vr]
 |a::l,off,h=>by
  simp only[List.map_cons,Vr];refine⟨by simpa using h 0 a rfl,My fun i a' hi=>?_⟩;have:=h (i+1) a' (by simpa using hi);rwa[show off+(i+1)*sz=off+sz+i*sz by rw[Nat.add_mul];omega]at this
theorem OE{α:Type}{p:Nat→α→Prop}:∀(n:Nat),(∀i,i<n→∃a,p i a)→∃l:List α,l.length=n∧∀i a,l[i]?=some a→p i a
 |0,_=>⟨[],rfl,by simp⟩
 |n+1,h=>by
  obtain⟨l,h1,h2⟩:=OE n (fun i hi=>h i zO);obtain⟨a,ha⟩:=h n zO;refine⟨l++[a],by simp[h1],fun i a' hi=>?_⟩;by_cases e:i<l.length
  ·rw[List.getElem?_append_left e]at hi;exact h2 i a' hi
  ·rw[List.getElem?_append_right zO]at hi;have:i=n:=by
    by_cases e2:i-l.length=0
    ·omega
    ·simp[List.getElem?_cons,e2]at hi
   subst this;simp[h1]at hi;subst hi;exact ha
theorem V1{H:Type}{P:Program}{e:TypeId}:∀{ds:List (DataW H)}{i:Nat}{d:DataW H},ds[i]?=some d→∀n∈d.weights P e,n∈DataW.weightsAll P e ds
 |d0::ds,0,d,h,n,hn=>by
  simp only[List.getElem?_cons_zero,Option.some.injEq]at h;subst h;simp only[DataW.weightsAll,List.mem_append];exact .inl hn
 |d0::ds,i+1,d,h,n,hn=>by
  simp only[DataW.weightsAll,List.mem_append];exact .inr (V1 (by simpa using h) n hn)
 |[],_,_,h,_,_=>by simp at h
theorem bB.slice{P:Program}{t e:TypeId}{α:Type}{enc:α→List D}{sz k:Nat}(ht:P.underlying t=some (.slice e))(hc:P.cellsOf e=sz)(hz:sz≠0)(hb:P.bytesOf e=k+1)(h:bB P e α enc)(hl:∀a,(enc a).length=sz):bB P t (List α) (fun l=>[.snap sz false (l.map enc)]):=⟨fun{H eH w eF cs x} hr hw=>by
 rcases DataW.trod_slice ht hr with⟨rfl,rfl⟩|⟨a,len,cap,Oq,rest,n,rfl,rfl,rfl,_,hlc,ct,my,fA,zI,_⟩
 ·refine⟨[],by simp[Value.oneCell'],?_⟩;simp only[Vs,V,List.map_nil];exact⟨_,_,rfl,⟨none,0,rfl,⟨Nat.le_refl _,by simp⟩,by simp,by simp⟩,rfl⟩
 ·simp only[DataW.weights,ht,List.mem_cons,List.mem_append,hb]at hw;have hlen:len≤aH:=by
   have h1:=hw _ (.inl rfl);simp only[List.length_map,my]at h1;have h2:=reachBytes_lt;have h3:len+rest.length≤(len+rest.length)*(k+1):=Nat.le_mul_of_pos_right _ zO;unfold aH;omega
  have hq:∀i,i<len→∃y:α,(enc y).length=sz∧∃cs:List Value,cs.length=sz∧(∀u∈cs,u.oneCell'=true)∧Vs w uD dX (enc y) cs∧∀j,j<sz→w.cell? ((a.add (i*sz)).add j)=cs[j]?:=by
   intro i hi;have hg:=fA i hi;rw[hc]at hg;have nw:i<Oq.length:=by omega
   rw[List.getElem?_eq_getElem nw]at hg;obtain⟨cs,I3,hg⟩:=Option.bind_eq_some_iff.1 hg;obtain⟨y,h1,h2⟩:=h.out hg (fun n hn=>hw n (.inr (.inl (V1 (i:=i) (d:=Oq[i].1) (by simp[nw]) n hn))));obtain⟨h3,h4⟩:=XV I3;exact⟨y,hl y,cs,h3,h1,h2,h4⟩
  obtain⟨l,BL,hp⟩:=OE len hq;refine⟨l,by simp[Value.oneCell'],?_⟩;simp only[Vs,V,List.length_map];refine⟨_,_,rfl,⟨some a,cap,by rw[BL],⟨by omega,by omega⟩,by simp,fun aG=>?_⟩,rfl⟩;have JB:0<len:=by
   cases l with
   |nil=>simp at aG
   |cons _ _=>simp at BL;omega
  have h0:∃u,w.cell? a=some u:=by
   obtain⟨y,_,cs,h1,_,_,h4⟩:=hq 0 JB;have h5:=h4 0 zO;have h6:0<cs.length:=by omega
   rw[List.getElem?_eq_getElem h6]at h5;exact⟨cs[0],by simpa[Addr.add]using h5⟩
  obtain⟨u,hu⟩:=h0;have hs:=aj6 hu;obtain⟨b,off,sp⟩:=a;simp only at hs;subst hs;refine⟨b,off,rfl,⟨XT hu,fun h=>h⟩,My fun i y hi=>?_⟩;obtain⟨g1,cs,g2,g3,g4,g5⟩:=hp i y hi;refine⟨g1,Vs.VG g4 g3 fun j v hj=>?_⟩;have Ji:j<sz:=by
   have:=(List.getElem?_eq_some_iff.1 hj).1;omega
  rw[←hj,←g5 j Ji]
  congr 1
  unfold Addr.add;by_cases e1:i*sz=0<;>by_cases e2:j=0<;>simp[e1,e2]⟩
open Go.ChangeShapes Go.WideShapes Go.RowKit Go.ChangeAt
structure wI(P:Program)(ts:List TypeId)(α:Type)(enc:α→List D):Prop where
 out:∀{H:Type}{eH:TypeId×Value→H}{w:World}{ez:Nat}{vs:List Value}{ds:List (DataW H)}{p:List MemPlace},DataW.TrodAll eH P w 0 (fun _=>true) true ts vs ds p→
  (∀(j:Nat) t v,ts[j]?=some t→vs[j]?=some v→Value.okWide P w .any ez t v)→(∀n∈DataW.weightsEach P ts ds,n≤reachBytes)→∃a:α,Vs w uD dX (enc a) vs
def GZ(P:Program)(t:TypeId):Prop:=∀w ez v,Value.okWide P w .any ez t v→v.cells.toList=[v]
theorem GZ.slice{P:Program}{t e:TypeId}(ht:P.underlying t=some (.slice e)):GZ P t:=fun w ez v h=>by
 obtain⟨a,l,c,rfl⟩:=okWide_slice ht h;rfl
theorem wI.nil{P:Program}:wI P [] Unit (fun _=>[]):=⟨fun{H eH w ez vs ds p} h _ _=>by
 match vs,ds,h with
 |[],[],_=>exact⟨(),by simp[Vs]⟩⟩
theorem wI.cons{P:Program}{t:TypeId}{ts:List TypeId}{α β:Type}{e:α→D}{enc:β→List D}(h1:bB P t α (fun a=>[e a]))(ho:GZ P t)(h2:wI P ts β enc):wI P (t::ts) (α×β) (fun x=>e x.1::enc x.2):=⟨fun{H eH w ez vs ds p} h hv hw=>by
 match vs,ds,h with
 |v::vs,d::ds,⟨p1,q1,⟨eF,hf⟩,h4,_⟩=>
  simp only[DataW.weightsEach,List.mem_append]at hw;obtain⟨b,hb⟩:=h2.out h4 (fun j t v ht j0=>hv (j+1) t v (by simpa using ht) (by simpa using j0)) (fun n hn=>hw n (.inr hn));rw[ho w ez v (hv 0 t v rfl rfl)]at hf;obtain⟨a,_,ha⟩:=h1.out hf (fun n hn=>hw n (.inl hn));simp only[Vs]at ha;obtain⟨u,us,e1,ha,rfl⟩:=ha;cases e1;exact⟨(a,b),v,vs,rfl,ha,hb⟩⟩
theorem gL.keptBut{w w':World}(h:gL w w')(may:MemPlace→Prop):w.keptBut w' may:=by
 refine⟨h.os.1,h.os.2.1,fun i hi=>?_⟩;rw[h.same i hi];split<;>simp_all
theorem gL.sameAt{w w':World}(h:gL w w'){p:MemPlace}(hp:p.block<w.heap.size):w.sameAt w' p:=by
 cases p with
 |cell b off=>
  simp only[MemPlace.block]at hp;simp[World.sameAt,World.cell?,h.same b hp]
 |map b=>exact h.same b hp
theorem VM{H:Type}{eH:TypeId×Value→H}{P:Program}{w w':World}{sp:Nat→Bool}(hk:gL w w'):∀{ts:List TypeId}{vs:List Value}{ds:List (DataW H)}{p:List MemPlace},DataW.TrodAll eH P w 0 sp true ts vs ds p→(∀x∈p,x.block<w.heap.size)→DataW.TrodAll eH P w' 0 sp true ts vs ds p
 |[],vs,ds,p,h,_=>by
  match vs,ds,h with
  |[],[],h=>exact h
 |t::ts,vs,ds,p,h,hp=>by
  match vs,ds,h with
  |v::vs,d::ds,⟨p1,q1,⟨eF,hf⟩,h4,e⟩=>
   subst e;exact⟨p1,q1,⟨eF,DataW.trod_carry _ _ _ _ hf fun x hx=>hk.sameAt (hp x (List.mem_append_left _ hx))⟩,VM hk h4 (fun x hx=>hp x (List.mem_append_right _ hx)),rfl⟩
theorem VN{H:Type}{eH:TypeId×Value→H}{P:Program}{w:World}{sp:Nat→Bool}:∀{ts:List TypeId}{vs:List Value}{ds:List (DataW H)}{p:List MemPlace},DataW.TrodAll eH P w 0 sp true ts vs ds p→ds.length=ts.length
 |[],vs,ds,p,h=>by
  match vs,ds,h with
  |[],[],h=>rfl
 |t::ts,vs,ds,p,h=>by
  match vs,ds,h with
  |v::vs,d::ds,⟨p1,q1,_,h4,e⟩=>simp[VN h4]
theorem aeQ{P:Program}{f:FuncId}{fn:Func}{s:ChangeSpec}{α:Type}{Ow:α→List D}{tb:TypeId}
  (acR:Kids P (· <P.types.size))(acN:∀t e,t<P.types.size→P.underlying t=some (.slice e)→0<P.cellsOf e)
  (E6:∀t∈fn.params.toList,t<P.types.size)(JL:s.vars=[])(rE:fn.resultTypes=#[tb])(hb:P.underlying tb=some .bool)
  (zI:∀(H:Type)(ds:List (DataW H)),ds.length=fn.params.size→s.fn H ds={results:=[.lit (.bool true)],args:=ds})
  (xp:wI P fn.params.toList α Ow)(acS:∀a,Fc P f (Ow a) (.b true))
  {H:Type}{enc:TypeId×Value→H}{W:World}{ez:Nat}{args:Array Value}{ds gs:List (DataW H)}{M7:List MemPlace}
  (E8:∀(j:Nat) t v,fn.params[j]?=some t→args[j]?=some v→Value.okWide P W .any ez t v)
  (hW:DataW.Whole enc P fn.params.toList s.vars false W args.toList ds gs M7)
  (aY:(DataW.weightsEach P (fn.params.toList++s.plain.varTypes P) (ds++gs)).all (· ≤reachBytes)=true)(dH:Gl W uD):
  Calls P f args W fun e W'=>∃v,e=.returned v∧s.post enc P fn false true false false W args v W':=by
 have hW':=hW;obtain⟨p,q,hA,hV,rfl,_,_⟩:=hW;rw[JL]at hV;obtain⟨rfl,rfl⟩:=trodVars_none hV;have ue:s.plain.varTypes P=[]:=by simp[ChangeSpec.plain,DataSpec.varTypes,JL]
 rw[ue,List.append_nil,List.append_nil]at aY;obtain⟨a,ha⟩:=xp.out hA (fun j t v ht hv=>E8 j t v (by simpa using ht) (by simpa using hv)) (fun n hn=>by simpa using List.all_eq_true.1 aY n hn);have hlen:=VN hA;have bN:∀x∈p,x.block<W.heap.size:=fun x hx=>hA.lt x hx;refine((acS a).out W uD dX args.toList (fun b h=>h.elim) dH ha).mono ?_;rintro e W' ⟨v,rfl,hv,hk⟩;simp only[V]at hv;subst hv;have hf:s.fn H (ds++[])={results:=[.lit (.bool true)],args:=ds}:=by rw[List.append_nil];exact zI H ds (by simpa using hlen)
 refine⟨_,rfl,ds,[],p++[],[],p,[],hW',?_,?_,?_,hk.keptBut _,fun h=>by cases h⟩
 ·rw[hf,rE];exact trodAll_mk1 (shut_bool hb _)
 ·rw[hf];exact DataW.TrodAll.respare acR acN E6 (VM hk hA bN) (fun x hx=>by simpa using bN x hx)
 ·rw[hf,JL];rfl
theorem aeK{P:Program}{W:World}{n:String}{k:IntKind}{zs:List Int}{rest:List (String×DataW Unit)}{g t e:Nat}(hg:P.globalNamed n=some g)(ht:(P.globals[g]?).map (·.type)=some t)(hu:P.underlying t=some (.array zs.length e))(he:P.underlying e=some (.int k))(hce:P.cellsOf e=1)(hct:P.cellsOf t=zs.length)
  (pre:List (String×DataW Unit))(hL:laidMet P (pre++(n,.agg (zs.map fun z=>.lit (.int k z)))::rest) W):∃T fr,W.heap[g]?=some (.cells (zs.map fun z=>Value.int k z).toArray T fr):=by
 obtain⟨ps,h,hx⟩:=hL;clear hx;induction pre generalizing ps with
 |cons x pre ih=>
  obtain⟨_,_,_,_,_,q,_,_,_,_,h,_⟩:=h;exact ih q h
 |nil=>
  obtain⟨g',t',cs,eF,p,q,nr,JJ,hv,hd,_⟩:=h;obtain rfl:=Option.some.inj (hg.symm.trans nr);obtain rfl:=Option.some.inj (ht.symm.trans JJ);obtain⟨xs,m,_,ex,eU,hl,my⟩:=DataW.trod_array hu hd;have e3:xs.map (·.1)=zs.map fun z=>.lit (.int k z):=(DataW.agg.inj (Prod.mk.inj ex).1).symm;have key:cs=(zs.map fun z=>Value.int k z).toArray:=by
   apply Array.ext';apply List.ext_getElem?;intro r;by_cases hr:r<zs.length
   ·have hE:=my r hr;rw[hce,Nat.mul_one,List.getElem?_eq_getElem zO]at hE;obtain⟨z,e1,e2,_⟩:=DataW.trod_int he hE;have e4:(xs.map (·.1))[r]?=(zs.map fun n=>(DataW.lit (.int k n):DataW Unit))[r]?:=by rw[e3]
    rw[List.getElem?_map,List.getElem?_map,List.getElem?_eq_getElem (by omega:r<xs.length),List.getElem?_eq_getElem hr,e2]at e4;simp only[Option.map_some,Option.some.injEq,DataW.lit.injEq,Lit.int.injEq,true_and]at e4;have h0:((cs.toList.drop r).take 1)[0]?=some (.int k z):=by rw[e1];rfl
    have h1:cs.toList[r]?=some (.int k z):=by simpa using h0
    rw[h1,List.toList_toArray,List.getElem?_map,List.getElem?_eq_getElem hr,e4];rfl
   ·have:cs.toList.length=zs.length:=by rw[eU,hct]
    rw[List.getElem?_eq_none zO,List.getElem?_eq_none zQ]
  simp only[World.var?,hg,Option.bind_some]at hv;split at hv
  ·rename_i c T fr hb;cases hv;exact⟨T,fr,by rw[hb,key]⟩
  ·cases hv
theorem RH{P:Program}{W:World}{n nm:String}{d:DataW Unit}{rest:List (String×DataW Unit)}{g t:Nat}{ms:Array (String×TypeId)}(hg:P.globalNamed n=some g)(ht:(P.globals[g]?).map (·.type)=some t)(hu:P.underlying t=some (.interface ms))
  (pre:List (String×DataW Unit))(hL:laidMet P (pre++(n,.iface nm d)::rest) W):∃te pe T fr,W.heap[g]?=some (.cells #[.iface te pe] T fr):=by
 obtain⟨ps,h,hx⟩:=hL;clear hx;induction pre generalizing ps with
 |cons x pre ih=>
  obtain⟨_,_,_,_,_,q,_,_,_,_,h,_⟩:=h;exact ih q h
 |nil=>
  obtain⟨g',t',cs,eF,p,q,nr,JJ,hv,hd,_⟩:=h;obtain rfl:=Option.some.inj (hg.symm.trans nr);obtain rfl:=Option.some.inj (ht.symm.trans JJ);have key:∃te pe,cs.toList=[.iface te pe]:=by
   cases eF with
   |zero=>simp[DataW.trod]at hd
   |succ m=>
    rw[DataW.trod_step]at hd;unfold DataW.trodStep at hd;rw[hu]at hd;split at hd<;>simp_all
  obtain⟨te,pe,e⟩:=key;have e2:cs=#[.iface te pe]:=by
   apply Array.ext';rw[e]
  subst e2;simp only[World.var?,hg,Option.bind_some]at hv;split at hv
  ·rename_i c T fr hb;cases hv;exact⟨te,pe,T,fr,hb⟩
  ·cases hv
open Go.Proofs
set_option maxRecDepth 100000
theorem am1:Kids Tryz.prog (· <Tryz.prog.types.size):=kids_rows (by kernel_rfl) (by kernel_rfl)
theorem am0:∀t e,t<Tryz.prog.types.size→Tryz.prog.underlying t=some (.slice e)→0<Tryz.prog.cellsOf e:=slices_full_of Tryz.prog (by kernel_rfl)
theorem am2:ownKnob Tryz.prog.godebug=none:=by kernel_rfl
theorem am3:Tryz.prog.types.size=424:=by kernel_rfl
theorem lT:Tryz.prog.cellsOf 9=1:=by kernel_rfl
theorem yN:Tryz.prog.cellsOf 42=1:=by kernel_rfl
theorem oU:Tryz.prog.cellsOf 37=1:=by kernel_rfl
theorem Zu:bB Tryz.prog 97 jR (iA):=
 (bB.struct Tryz.underlying97 (by kernel_rfl) (.cons (bB.str Tryz.underlying9) rfl lT (.cons (bB.str Tryz.underlying9) rfl lT (.cons (bB.int Tryz.underlying42) rfl yN (.cons (bB.int Tryz.underlying42) rfl yN (.cons (bB.str Tryz.underlying37) rfl oU (.cons (bB.str Tryz.underlying37) rfl oU (.cons (bB.str Tryz.underlying37) rfl oU .nil)))))))).map (fun x=>⟨x.1,x.2.1,x.2.2.1,x.2.2.2.1,x.2.2.2.2.1,x.2.2.2.2.2.1,x.2.2.2.2.2.2.1⟩) (fun a=>rfl)
theorem Zh:bB Tryz.prog 24 (List jR) (fun l=>[.snap 7 false (l.map (iA))]):=.slice (sz:=7) (k:=95) Tryz.underlying24 (by kernel_rfl) zD (by kernel_rfl) Zu (fun _=>rfl)
theorem Zq:bB Tryz.prog 39 bj (bU):=
 (bB.struct Tryz.underlying39 (by kernel_rfl) (.cons (bB.str Tryz.underlying9) rfl lT (.cons (bB.str Tryz.underlying37) rfl oU .nil))).map (fun x=>⟨x.1,x.2.1⟩) (fun a=>rfl)
theorem Zi:bB Tryz.prog 25 (List bj) (fun l=>[.snap 2 false (l.map (bU))]):=.slice (sz:=2) (k:=31) Tryz.underlying25 (by kernel_rfl) zD (by kernel_rfl) Zq (fun _=>rfl)
theorem Za:bB Tryz.prog 102 jF (gX):=
 (bB.struct Tryz.underlying102 (by kernel_rfl) (.cons (bB.str Tryz.underlying9) rfl lT (.cons (bB.str Tryz.underlying9) rfl lT (.cons (bB.str Tryz.underlying9) rfl lT (.cons (bB.int Tryz.underlying42) rfl yN (.cons (bB.int Tryz.underlying42) rfl yN (.cons (bB.str Tryz.underlying37) rfl oU (.cons (bB.str Tryz.underlying37) rfl oU (.cons (bB.str Tryz.underlying37) rfl oU (.cons (bB.str Tryz.underlying37) rfl oU (.cons (bB.str Tryz.underlying37) rfl oU .nil))))))))))).map (fun x=>⟨x.1,x.2.1,x.2.2.1,x.2.2.2.1,x.2.2.2.2.1,x.2.2.2.2.2.1,x.2.2.2.2.2.2.1,x.2.2.2.2.2.2.2.1,x.2.2.2.2.2.2.2.2.1,x.2.2.2.2.2.2.2.2.2.1⟩) (fun a=>rfl)
theorem Zj:bB Tryz.prog 26 (List jF) (fun l=>[.snap 10 false (l.map (gX))]):=.slice (sz:=10) (k:=143) Tryz.underlying26 (by kernel_rfl) zD (by kernel_rfl) Za (fun _=>rfl)
theorem Zb:bB Tryz.prog 109 jT (iC):=
 (bB.struct Tryz.underlying109 (by kernel_rfl) (.cons (bB.str Tryz.underlying9) rfl lT (.cons (bB.str Tryz.underlying9) rfl lT (.cons (bB.str Tryz.underlying9) rfl lT (.cons (bB.str Tryz.underlying37) rfl oU (.cons (bB.str Tryz.underlying37) rfl oU (.cons (bB.str Tryz.underlying37) rfl oU .nil))))))).map (fun x=>⟨x.1,x.2.1,x.2.2.1,x.2.2.2.1,x.2.2.2.2.1,x.2.2.2.2.2.1⟩) (fun a=>rfl)
theorem Zk:bB Tryz.prog 27 (List jT) (fun l=>[.snap 6 false (l.map (iC))]):=.slice (sz:=6) (k:=95) Tryz.underlying27 (by kernel_rfl) zD (by kernel_rfl) Zb (fun _=>rfl)
theorem Zf:bB Tryz.prog 162 tA (y0):=
 (bB.struct Tryz.underlying162 (by kernel_rfl) (.cons (bB.str Tryz.underlying9) rfl lT (.cons (bB.str Tryz.underlying37) rfl oU .nil))).map (fun x=>⟨x.1,x.2.1⟩) (fun a=>rfl)
theorem Zc:bB Tryz.prog 113 (List tA) (fun l=>[.snap 2 false (l.map (y0))]):=.slice (sz:=2) (k:=31) Tryz.underlying113 (by kernel_rfl) zD (by kernel_rfl) Zf (fun _=>rfl)
theorem XL:Tryz.prog.cellsOf 3=1:=by kernel_rfl
theorem XE:Tryz.prog.cellsOf 113=1:=by kernel_rfl
theorem Zd:bB Tryz.prog 115 jw (ei):=
 (bB.struct Tryz.underlying115 (by kernel_rfl) (.cons (bB.int Tryz.underlying3) rfl XL (.cons (bB.int Tryz.underlying42) rfl yN (.cons (bB.str Tryz.underlying9) rfl lT (.cons (bB.str Tryz.underlying9) rfl lT (.cons (bB.str Tryz.underlying9) rfl lT (.cons (bB.str Tryz.underlying9) rfl lT (.cons Zc rfl XE .nil)))))))).map (fun x=>⟨x.1,x.2.1,x.2.2.1,x.2.2.2.1,x.2.2.2.2.1,x.2.2.2.2.2.1,x.2.2.2.2.2.2.1⟩) (fun a=>rfl)
theorem Zl:bB Tryz.prog 28 (List jw) (fun l=>[.snap 7 false (l.map (ei))]):=.slice (sz:=7) (k:=103) Tryz.underlying28 (by kernel_rfl) zD (by kernel_rfl) Zd (fun _=>rfl)
theorem XP:Tryz.prog.cellsOf 53=1:=by kernel_rfl
theorem Ze:bB Tryz.prog 120 jS (iB):=
 (bB.struct Tryz.underlying120 (by kernel_rfl) (.cons (bB.str Tryz.underlying9) rfl lT (.cons (bB.int Tryz.underlying53) rfl XP .nil))).map (fun x=>⟨x.1,x.2.1⟩) (fun a=>rfl)
theorem Zm:bB Tryz.prog 29 (List jS) (fun l=>[.snap 2 false (l.map (iB))]):=.slice (sz:=2) (k:=23) Tryz.underlying29 (by kernel_rfl) zD (by kernel_rfl) Ze (fun _=>rfl)
theorem XF:Tryz.prog.cellsOf 24=1:=by kernel_rfl
theorem XG:Tryz.prog.cellsOf 25=1:=by kernel_rfl
theorem XH:Tryz.prog.cellsOf 26=1:=by kernel_rfl
theorem XI:Tryz.prog.cellsOf 27=1:=by kernel_rfl
theorem XJ:Tryz.prog.cellsOf 28=1:=by kernel_rfl
theorem XK:Tryz.prog.cellsOf 29=1:=by kernel_rfl
theorem Zn:bB Tryz.prog 31 (List jR×List bj×List jF×List jT×List jw×List jS) (fun x=>[fU x.1,ew x.2.1,fQ x.2.2.1,fX x.2.2.2.1,fD x.2.2.2.2.1,fV x.2.2.2.2.2]):=
 (bB.struct Tryz.underlying31 (by kernel_rfl) (.cons Zh rfl XF (.cons Zi rfl XG (.cons Zj rfl XH (.cons Zk rfl XI (.cons Zl rfl XJ (.cons Zm rfl XK .nil))))))).map (fun x=>(x.1,x.2.1,x.2.2.1,x.2.2.2.1,x.2.2.2.2.1,x.2.2.2.2.2.1)) (fun a=>rfl)
theorem Zt:bB Tryz.prog 48 dM (iZ):=
 (bB.struct Tryz.underlying48 (by kernel_rfl) (.cons (bB.str Tryz.underlying9) rfl lT (.cons (bB.str Tryz.underlying9) rfl lT (.cons (bB.str Tryz.underlying37) rfl oU .nil)))).map (fun x=>⟨x.1,x.2.1,x.2.2.1⟩) (fun a=>rfl)
theorem Zr:bB Tryz.prog 43 (List dM) (fun l=>[.snap 3 false (l.map (iZ))]):=.slice (sz:=3) (k:=47) Tryz.underlying43 (by kernel_rfl) zD (by kernel_rfl) Zt (fun _=>rfl)
theorem XO:Tryz.prog.cellsOf 43=1:=by kernel_rfl
theorem Zs:bB Tryz.prog 45 Entry (kC):=
 (bB.struct Tryz.underlying45 (by kernel_rfl) (.cons (bB.int Tryz.underlying42) rfl yN (.cons (bB.str Tryz.underlying9) rfl lT (.cons Zr rfl XO .nil)))).map (fun x=>⟨x.1,x.2.1,x.2.2.1⟩) (fun a=>rfl)
theorem Zo:bB Tryz.prog 32 (List Entry) (fun l=>[.snap 3 false (l.map (kC))]):=.slice (sz:=3) (k:=47) Tryz.underlying32 (by kernel_rfl) zD (by kernel_rfl) Zs (fun _=>rfl)
theorem XM:Tryz.prog.cellsOf 31=6:=by kernel_rfl
theorem XN:Tryz.prog.cellsOf 32=1:=by kernel_rfl
theorem Zp:bB Tryz.prog 34 jx (kG):=
 (bB.struct Tryz.underlying34 (by kernel_rfl) (.cons Zn rfl XM (.cons Zo rfl XN .nil))).map (fun x=>⟨x.1.1,x.1.2.1,x.1.2.2.1,x.1.2.2.2.1,x.1.2.2.2.2.1,x.1.2.2.2.2.2,x.2.1⟩) (fun a=>rfl)
theorem Zg:bB Tryz.prog 22 (List jx) (fun l=>[.snap 7 false (l.map (kG))]):=.slice (sz:=7) (k:=167) Tryz.underlying22 (by kernel_rfl) zD (by kernel_rfl) Zp (fun _=>rfl)
def xN:List (String×DataW Unit):=Go.Proofs.YtoaceanbddegbaaGreatDoor.Rows.dependJoinsRow.laid
theorem abT{W:World}(h:laidMetH Tryz.prog xN W):Gl W uD:=by
 rw[MakeChecks.laidMetH_plain _ _ _ (by kernel_rfl)]at h;refine⟨fun g vs hm=>⟨?_,fun h=>h⟩,fun g hm=>⟨?_,fun h=>h⟩⟩
 ·simp only[PX,List.mem_singleton,Prod.mk.injEq]at hm;obtain⟨rfl,rfl⟩:=hm;have:=aeK (P:=Tryz.prog) (W:=W) (n:= "internal/strconv.uint64pow10") (k:=.u64) (zs:=F2.map fun(n:Nat)=>(n:Int)) (g:=2) (t:=376) (e:=243) (by kernel_rfl) (by kernel_rfl) Tryz.underlying376 Tryz.underlying243 (by kernel_rfl) (by kernel_rfl) (xN.take 2) (rest:=xN.drop 3) h;simpa[Function.comp_def]using this
 ·simp only[H4,List.mem_cons,List.not_mem_nil,or_false]at hm;rcases hm with rfl|rfl
  ·exact RH (P:=Tryz.prog) (W:=W) (n:= "strconv.ErrSyntax") (g:=0) (t:=245) (by kernel_rfl) (by kernel_rfl) Tryz.underlying245 (xN.take 5) (rest:=xN.drop 6) h
  ·exact RH (P:=Tryz.prog) (W:=W) (n:= "strconv.ErrRange") (g:=1) (t:=245) (by kernel_rfl) (by kernel_rfl) Tryz.underlying245 (xN.take 4) (rest:=xN.drop 5) h
end Go.T
