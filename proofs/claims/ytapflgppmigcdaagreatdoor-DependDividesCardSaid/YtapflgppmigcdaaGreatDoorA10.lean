/-
  Contracts of the functions that the statement reaches, and the logic in which they are proved (no condition): parts W23, W24, W25, W26, W71, Div1, Div2, Div3, Div4, Div5, Core43.
-/
import Derived.Test.YtapflgppmigcdaaGreatDoorA09
set_option linter.all false
namespace Go.T
open Go Go.Proofs Go.Proofs.Tryz
set_option maxRecDepth 20000
theorem WB(m:List Nat)(hm:m.length≠0)(hs:m.length≤20000):dv Tryz.prog 323 [aE m] [] (.gs 7100 m.length) [(7100,.arr 1 (aV m))]:=by
 refine dv.mk' [2] func323 rfl ntmps323 rfl rfl rfl (fun t w=>results_tmp results323 t _ w) ?_;refine J.seq (J.af [.p] ?_);refine .ag rfl rfl<|.nil ?_;refine J.seq (J.seq (J.af [.p,.p] ?_));refine .mv rfl rfl<|.P rfl (ahQ underlying244 rfl rfl (by intro e;apply hm;simpa using congrArg List.length e))<|.nil ?_;refine J.eQ rfl rfl ?_;refine J.skip ?_;refine J.seq (J.af [.p,.p,.w,.p] ?_);refine .P rfl (SF underlying244 sizeOf184)<|.mv rfl rfl<|.W rfl (aq.mB 7099 1 (t:=5) rfl (Sub.acd _ _) (k_ 7100 underlying244 underlying244 sizeOf184 typeInfo184 zeroValue184 rfl (bt:=8) rfl rfl rfl rfl rfl rfl rfl zQ))<|.ag rfl rfl<|.nil ?_;refine J.ret (?_);exact uE rfl (by exact Sub.gs zS) (.eq rfl zS rfl .nil)
structure afP(x y:List Nat)where
 out:List Nat
 rest:List Nat
 c:Nat
 hl:x.length=out.length+rest.length
 hc:c≤1
 ho:aU rest
 hr:out++gH rest (y.drop out.length) c=gH x y 0
theorem D8(x y:List Nat)(hx:x.length≠0)(v6:x.length≤20000)(AL:y.length≤20000)(jy:aU x)(x_:aU y):Fc Tryz.prog 281 [aE x,aE y] (aE (bh (gH x y 0))):=by
 refine Fc.mk' [4] func281 rfl ntmps281 rfl rfl rfl (fun t w=>results_tmp results281 t _ w) ?_;refine J.seq (J.af [.p] ?_);refine .ag rfl rfl<|.nil ?_;refine J.seq (J.af [.p,.w,.p] ?_);refine .mv rfl rfl<|.W rfl (gE call323 rfl (WB _ zO zO) .nil rfl rfl)<|.ag rfl rfl<|.nil ?_;refine J.seq (J.af [.p] ?_);refine .ag rfl rfl<|.nil ?_;refine J.seq (J.seq (J.af [.p,.p,.p] ?_));refine .mv rfl rfl<|.P rfl (sU underlying244 rfl)<|.mv rfl rfl<|.nil ?_;refine J.block ?_;refine J.loop (ι:=afP x y) (fun sx=>[(1,aE y),(5,.gs 7100 x.length),(6,.raw (.int .u64 (sx.c:Int))),(12,.i x.length),(13,.i sx.out.length)]) (fun sx=>[(7100,.arr 1 (aV (sx.out++sx.rest)))]) (fun sx=>sx.rest.length) ⟨[],x,0,by simp,by omega,jy,by simp⟩ ?_ ?_
 ·exact Le.mk rfl (.s rfl rfl (.cons rfl (Sub.gs zS) rfl (.s rfl rfl (.s rfl rfl (.s rfl rfl .nil))))) (.arr rfl (by rfl) .nil)
 ·rintro⟨out,rest,c,hl,hc,ho,hr⟩;show J _ _ _ _ [(1,aE y),(5,.gs 7100 x.length),(6,.raw (.int .u64 (c:Int))),(12,.i x.length),(13,.i out.length)] [(7100,.arr 1 (aV (out++rest)))];rcases rest with _|⟨a,rest⟩
  ·skip;refine J.seq (J.af [.p] ?_);refine .P rfl (b_ rfl rfl)<|.nil ?_;refine J.seq ?_;refine J.eQ rfl (by simp at hl⊢;omega) ?_;refine J.exit (ei (dZ ?_));refine J.bP (Le.freeze 5 7100 rfl rfl (by simp at hl⊢;omega)) ?_;refine J.seq (J.af [.p,.p,.p] ?_);refine .mv rfl rfl<|.P rfl (ai call284 rfl (qn _))<|.ag rfl rfl<|.nil ?_;refine J.ret (?_);exact dF rfl (Sub.snap (by simp[gH]at hr;simp[hr]))
  ·simp only[List.length_cons]at hl;have ha:=ho a zS;have hb:=Jj (k:=out.length) x_;refine J.seq (J.af [.p] ?_);refine .P rfl (b_ rfl rfl)<|.nil ?_;refine J.seq ?_;refine J.fD rfl zQ ?_;refine J.skip ?_;refine J.seq ?_;refine J.block ?_;refine J.seq (J.af [.p,.p] ?_);refine .mv rfl rfl<|.ag rfl rfl<|.nil ?_;refine J.seq (J.af [.p,.p] ?_);refine .mv rfl rfl<|.ag rfl rfl<|.nil ?_;refine J.seq (J.seq (J.af [.p,.p,.p,.p] ?_));refine .mv rfl rfl<|.mv rfl rfl<|.P rfl (dE underlying244 rfl)<|.P rfl (b_ rfl rfl)<|.nil ?_;refine J.cond rfl (fun h1=>?_) (fun h1=>?_)
   ·refine J.af [.p,.p,.p,.p,.p,.p,.p] ?_;refine .mv rfl rfl<|.mv rfl rfl<|.mv rfl rfl<|.P rfl (fY underlying244 sizeOf184 rfl rfl zO (r_ (Bg (by simp at*;omega)) rfl))<|.P rfl (bX isAgg184 rfl)<|.P rfl (bU rfl rfl (addN (by unfold gB at*;omega)))<|.ag rfl rfl<|.nil ?_;refine J.seq (J.af [.p] ?_);refine .ag rfl rfl<|.nil ?_;refine J.seq (J.seq (J.af [.p,.p,.p,.r,.p,.p] ?_));refine .mv rfl rfl<|.mv rfl rfl<|.P rfl (bM (off:=(out.length)*1) underlying244 sizeOf184 rfl rfl zO zQ zO)<|.R rfl (eI (r:=_) (out.length) 0 isAgg184 rfl rfl rfl (eX _ _ _) rfl)<|.mv rfl rfl<|.P rfl (b_ rfl rfl)<|.nil ?_;refine J.cond rfl (fun h2=>?_) (fun h2=>?_)
    ·have c7:=h2;try simp only[bs]at c7
     refine J.seq (J.af [.p,.p,.p,.r,.p,.p,.w] ?_);refine .mv rfl rfl<|.mv rfl rfl<|.P rfl (bM (off:=(out.length)*1) underlying244 sizeOf184 rfl rfl zO zQ zO)<|.R rfl (eI (r:=_) (out.length) 0 isAgg184 rfl rfl rfl (eX _ _ _) rfl)<|.P rfl (bU rfl rfl (addN (b:=gB) (by unfold gB at*;omega)))<|.P rfl (bM (off:=(out.length)*1) underlying244 sizeOf184 rfl rfl zO zQ zO)<|.W rfl (gn (r:=_) (out.length) 0 sizeOf184 rfl rfl rfl rfl rfl rfl (eX _ _ _) zS)<|.nil ?_;refine J.af [.p] ?_;refine .ag rfl rfl<|.nil ?_;refine J.af [.p,.p,.p,.r,.p,.p,.p,.w] ?_;refine .mv rfl rfl<|.mv rfl rfl<|.P rfl (bM (off:=(out.length)*1) underlying244 sizeOf184 rfl rfl zO zQ zO)<|.R rfl (eI (r:=_) (out.length) 0 isAgg184 rfl rfl rfl (fM (eX _ _ _)) rfl)<|.mv rfl rfl<|.P rfl (dQ rfl rfl (p_ zO (by unfold gB at*;omega)))<|.P rfl (bM (off:=(out.length)*1) underlying244 sizeOf184 rfl rfl zO zQ zO)<|.W rfl (gn (r:=_) (out.length) 0 sizeOf184 rfl rfl rfl rfl rfl rfl (fM (eX _ _ _)) zS)<|.nil ?_;refine J.nil (cC ?_);refine J.af [.p,.p] ?_;refine .P rfl (bU rfl rfl (az zO))<|.mv rfl rfl<|.nil ?_;refine J.nil (dG ?_);exact⟨⟨out++[a+gB-(c+lN y out.length)],rest,1,by simp;omega,by omega,fun u hu=>ho u (by simp[hu]),by rw[←hr,TT (by simp at*;omega),if_pos zO,if_pos zO];simp⟩,by simp,Le.mk rfl (.s rfl rfl (.cons rfl (Sub.gs zS) rfl (.s rfl rfl (.s rfl rfl (.cons rfl (Sub.int zS) rfl .nil))))) (.arr rfl (by skip;simp only[List.set_set,List.set_cons_zero];exact(rN _ _ _ _).trans zS) .nil)⟩
    ·have c7:=h2;try simp only[bs]at c7
     refine J.skip ?_;refine J.af [.p,.p,.p,.r,.p,.p,.p,.w] ?_;refine .mv rfl rfl<|.mv rfl rfl<|.P rfl (bM (off:=(out.length)*1) underlying244 sizeOf184 rfl rfl zO zQ zO)<|.R rfl (eI (r:=_) (out.length) 0 isAgg184 rfl rfl rfl (eX _ _ _) rfl)<|.mv rfl rfl<|.P rfl (dQ rfl rfl (p_ zO (by unfold gB at*;omega)))<|.P rfl (bM (off:=(out.length)*1) underlying244 sizeOf184 rfl rfl zO zQ zO)<|.W rfl (gn (r:=_) (out.length) 0 sizeOf184 rfl rfl rfl rfl rfl rfl (eX _ _ _) zS)<|.nil ?_;refine J.nil (cC ?_);refine J.af [.p,.p] ?_;refine .P rfl (bU rfl rfl (az zO))<|.mv rfl rfl<|.nil ?_;refine J.nil (dG ?_);exact⟨⟨out++[a-(c+lN y out.length)],rest,0,by simp;omega,by omega,fun u hu=>ho u (by simp[hu]),by rw[←hr,TT (by simp at*;omega),if_neg zO,if_neg zO];simp⟩,by simp,Le.mk rfl (.s rfl rfl (.cons rfl (Sub.gs zS) rfl (.s rfl rfl (.s rfl rfl (.cons rfl (Sub.int zS) rfl .nil))))) (.arr rfl (by skip;simp only[List.set_set,List.set_cons_zero];exact(rN _ _ _ _).trans zS) .nil)⟩
   ·refine J.skip ?_;refine J.seq (J.af [.p] ?_);refine .ag rfl rfl<|.nil ?_;refine J.seq (J.seq (J.af [.p,.p,.p,.r,.p,.p] ?_));refine .mv rfl rfl<|.mv rfl rfl<|.P rfl (bM (off:=(out.length)*1) underlying244 sizeOf184 rfl rfl zO zQ zO)<|.R rfl (eI (r:=_) (out.length) 0 isAgg184 rfl rfl rfl (eX _ _ _) rfl)<|.mv rfl rfl<|.P rfl (b_ rfl rfl)<|.nil ?_;refine J.cond rfl (fun h3=>?_) (fun h3=>?_)
    ·have fK:=h3;try simp only[bs]at fK
     refine J.seq (J.af [.p,.p,.p,.r,.p,.p,.w] ?_);refine .mv rfl rfl<|.mv rfl rfl<|.P rfl (bM (off:=(out.length)*1) underlying244 sizeOf184 rfl rfl zO zQ zO)<|.R rfl (eI (r:=_) (out.length) 0 isAgg184 rfl rfl rfl (eX _ _ _) rfl)<|.P rfl (bU rfl rfl (addN (b:=gB) (by unfold gB at*;omega)))<|.P rfl (bM (off:=(out.length)*1) underlying244 sizeOf184 rfl rfl zO zQ zO)<|.W rfl (gn (r:=_) (out.length) 0 sizeOf184 rfl rfl rfl rfl rfl rfl (eX _ _ _) zS)<|.nil ?_;refine J.af [.p] ?_;refine .ag rfl rfl<|.nil ?_;refine J.af [.p,.p,.p,.r,.p,.p,.p,.w] ?_;refine .mv rfl rfl<|.mv rfl rfl<|.P rfl (bM (off:=(out.length)*1) underlying244 sizeOf184 rfl rfl zO zQ zO)<|.R rfl (eI (r:=_) (out.length) 0 isAgg184 rfl rfl rfl (fM (eX _ _ _)) rfl)<|.mv rfl rfl<|.P rfl (dQ rfl rfl (p_ zO (by unfold gB at*;omega)))<|.P rfl (bM (off:=(out.length)*1) underlying244 sizeOf184 rfl rfl zO zQ zO)<|.W rfl (gn (r:=_) (out.length) 0 sizeOf184 rfl rfl rfl rfl rfl rfl (fM (eX _ _ _)) zS)<|.nil ?_;refine J.nil (cC ?_);refine J.af [.p,.p] ?_;refine .P rfl (bU rfl rfl (az zO))<|.mv rfl rfl<|.nil ?_;refine J.nil (dG ?_);exact⟨⟨out++[a+gB-c],rest,1,by simp;omega,by omega,fun u hu=>ho u (by simp[hu]),by rw[←hr,TS (by simp at*;omega),if_pos zO,if_pos zO];simp⟩,by simp,Le.mk rfl (.s rfl rfl (.cons rfl (Sub.gs zS) rfl (.s rfl rfl (.s rfl rfl (.cons rfl (Sub.int zS) rfl .nil))))) (.arr rfl (by skip;simp only[List.set_set,List.set_cons_zero];exact(rN _ _ _ _).trans zS) .nil)⟩
    ·have fK:=h3;try simp only[bs]at fK
     refine J.skip ?_;refine J.af [.p,.p,.p,.r,.p,.p,.p,.w] ?_;refine .mv rfl rfl<|.mv rfl rfl<|.P rfl (bM (off:=(out.length)*1) underlying244 sizeOf184 rfl rfl zO zQ zO)<|.R rfl (eI (r:=_) (out.length) 0 isAgg184 rfl rfl rfl (eX _ _ _) rfl)<|.mv rfl rfl<|.P rfl (dQ rfl rfl (p_ zO (by unfold gB at*;omega)))<|.P rfl (bM (off:=(out.length)*1) underlying244 sizeOf184 rfl rfl zO zQ zO)<|.W rfl (gn (r:=_) (out.length) 0 sizeOf184 rfl rfl rfl rfl rfl rfl (eX _ _ _) zS)<|.nil ?_;refine J.nil (cC ?_);refine J.af [.p,.p] ?_;refine .P rfl (bU rfl rfl (az zO))<|.mv rfl rfl<|.nil ?_;refine J.nil (dG ?_);exact⟨⟨out++[a-c],rest,0,by simp;omega,by omega,fun u hu=>ho u (by simp[hu]),by rw[←hr,TS (by simp at*;omega),if_neg zO,if_neg zO];simp⟩,by simp,Le.mk rfl (.s rfl rfl (.cons rfl (Sub.gs zS) rfl (.s rfl rfl (.s rfl rfl (.cons rfl (Sub.int zS) rfl .nil))))) (.arr rfl (by skip;simp only[List.set_set,List.set_cons_zero];exact(rN _ _ _ _).trans zS) .nil)⟩
structure Sx(p q:List Nat)where
 out:List Nat
 rest:List Nat
 c:Nat
 hl:p.length=out.length+rest.length
 hc:c≤1
 ho:aU rest
 hr:out++gx rest (q.drop out.length) c=gx p q 0
theorem ahw(x y:List Nat)(aB:x.length≠0∨y.length≠0)(v6:x.length≤20000)(AL:y.length≤20000)(jy:aU x)(x_:aU y):Fc Tryz.prog 280 [aE x,aE y] (aE (lS x y)):=by
 refine Fc.mk' [4] func280 rfl ntmps280 rfl rfl rfl (fun t w=>results_tmp results280 t _ w) ?_;refine J.seq (J.af [.p] ?_);refine .ag rfl rfl<|.nil ?_;refine J.seq (J.seq (J.af [.p,.p,.p,.p,.p] ?_));refine .mv rfl rfl<|.P rfl (dE underlying244 rfl)<|.mv rfl rfl<|.P rfl (dE underlying244 rfl)<|.P rfl (b_ rfl rfl)<|.nil ?_;refine J.cond rfl (fun h1=>?_) (fun h1=>?_)
 ·have bE:=h1;try simp only[bs]at bE
  refine J.af [.p,.p,.p,.p] ?_;refine .mv rfl rfl<|.mv rfl rfl<|.ag rfl rfl<|.ag rfl rfl<|.nil ?_;refine J.seq (J.af [.p,.p,.p,.p,.p,.w,.p] ?_);refine .mv rfl rfl<|.P rfl (dE underlying244 rfl)<|.mv rfl rfl<|.P rfl (dE underlying244 rfl)<|.P rfl (bU rfl rfl (eJ zO zQ))<|.W rfl (wN (bt:=8) 0 _ underlying244 sizeOf184 typeInfo184 zeroValue184 rfl rfl rfl rfl rfl rfl (Int.natCast_succ _).symm zO (by rw[List.length_map];omega) zQ zQ rfl)<|.ag rfl rfl<|.nil ?_;refine J.seq (J.af [.p,.p,.w] ?_);refine .mv rfl rfl<|.mv rfl rfl<|.W rfl (SI underlying244 sizeOf184 rfl rfl rfl zS zS (by rw[List.length_map];omega))<|.nil ?_;refine J.seq (J.af [.p] ?_);refine .ag rfl rfl<|.nil ?_;refine J.seq (J.seq (J.af [.p,.p,.p] ?_));refine .mv rfl rfl<|.P rfl (sU underlying244 rfl)<|.mv rfl rfl<|.nil ?_;refine J.block ?_;refine J.loop (ι:=Sx y x) (fun sx=>[(1,aE x),(5,.gs 0 y.length),(6,.raw (.int .u64 (sx.c:Int))),(25,.i y.length),(26,.i sx.out.length)]) (fun sx=>[(0,.arr 1 (aV (sx.out++sx.rest)))]) (fun sx=>sx.rest.length) ⟨[],y,0,by simp,by omega,x_,by simp⟩ ?_ ?_
  ·exact Le.mk rfl (.s rfl rfl (.cons rfl (Sub.gs zS) rfl (.s rfl rfl (.cons rfl (Sub.int zS) rfl (.s rfl rfl .nil))))) (.arr rfl (by rfl) .nil)
  ·rintro⟨out,rest,c,hl,hc,ho,hr⟩;show J _ _ _ _ [(1,aE x),(5,.gs 0 y.length),(6,.raw (.int .u64 (c:Int))),(25,.i y.length),(26,.i out.length)] [(0,.arr 1 (aV (out++rest)))];rcases rest with _|⟨a,rest⟩
   ·skip;refine J.seq (J.af [.p] ?_);refine .P rfl (b_ rfl rfl)<|.nil ?_;refine J.seq ?_;refine J.eQ rfl (by simp at hl⊢;omega) ?_;refine J.exit (ei (dZ ?_));refine J.seq (J.seq (J.af [.p,.p] ?_));refine .mv rfl rfl<|.P rfl (gp rfl rfl)<|.nil ?_;refine J.cond rfl (fun h2=>?_) (fun h2=>?_)
    ·have c7:=h2;try simp only[bs]at c7
     refine J.af [.p,.p,.p,.w,.p] ?_;refine .mv rfl rfl<|.mv rfl rfl<|.P rfl (bI (n:=1) (rows:=aV [c]) underlying244 sizeOf184 rfl rfl rfl zeroValue184 rfl rfl rfl rfl rfl rfl rfl)<|.W rfl (k_ 1 underlying244 underlying244 sizeOf184 typeInfo184 zeroValue184 rfl (bt:=8) rfl rfl rfl rfl (by simp at hl⊢;omega) rfl rfl (by simp at*;omega))<|.ag rfl rfl<|.nil ?_;refine J.seq (J.af [.p,.p] ?_);refine .mv rfl rfl<|.ag rfl rfl<|.nil ?_;refine J.bP (Le.freeze 4 1 rfl rfl (by simp at hl⊢;omega)) ?_;refine J.ret (?_);exact dF rfl (Sub.snap (by(rw[Sw (by simp at*;omega)]);rw[←hr];simp only[gx];(rw[if_pos zO]);try simp))
    ·have c7:=h2;try simp only[bs]at c7
     refine J.skip ?_;refine J.seq (J.af [.p,.p] ?_);refine .mv rfl rfl<|.ag rfl rfl<|.nil ?_;refine J.bP (Le.freeze 4 0 rfl rfl (by simp at hl⊢;omega)) ?_;refine J.ret (?_);exact dF rfl (Sub.snap (by(rw[Sw (by simp at*;omega)]);rw[←hr];simp only[gx];(rw[if_neg zO]);try simp))
   ·simp only[List.length_cons]at hl;have ha:=ho a zS;have hb:=Jj (k:=out.length) jy;refine J.seq (J.af [.p] ?_);refine .P rfl (b_ rfl rfl)<|.nil ?_;refine J.seq ?_;refine J.fD rfl zQ ?_;refine J.skip ?_;refine J.seq ?_;refine J.block ?_;refine J.seq (J.af [.p,.p] ?_);refine .mv rfl rfl<|.ag rfl rfl<|.nil ?_;refine J.seq (J.af [.p,.p,.p,.r,.p,.p,.p,.w] ?_);refine .mv rfl rfl<|.mv rfl rfl<|.P rfl (bM (off:=(out.length)*1) underlying244 sizeOf184 rfl rfl zO zQ zO)<|.R rfl (eI (r:=_) (out.length) 0 isAgg184 rfl rfl rfl (eX _ _ _) rfl)<|.mv rfl rfl<|.P rfl (bU rfl rfl (addN (by unfold gB at*;omega)))<|.P rfl (bM (off:=(out.length)*1) underlying244 sizeOf184 rfl rfl zO zQ zO)<|.W rfl (gn (r:=_) (out.length) 0 sizeOf184 rfl rfl rfl rfl rfl rfl (eX _ _ _) zS)<|.nil ?_;refine J.seq (J.seq (J.af [.p,.p,.p,.p] ?_));refine .mv rfl rfl<|.mv rfl rfl<|.P rfl (dE underlying244 rfl)<|.P rfl (b_ rfl rfl)<|.nil ?_;refine J.cond rfl (fun h3=>?_) (fun h3=>?_)
    ·refine J.rp [.p,.p,.p,.r,.p,.p,.p,.p,.p,.p,.w] nC zK ?_;refine .mv rfl rfl<|.mv rfl rfl<|.P rfl (bM (off:=(out.length)*1) underlying244 sizeOf184 rfl rfl zO zQ zO)<|.R rfl (eI (r:=_) (out.length) 0 isAgg184 rfl rfl rfl (fM (eX _ _ _)) rfl)<|.mv rfl rfl<|.mv rfl rfl<|.P rfl (fY underlying244 sizeOf184 rfl rfl zO (r_ (Bg (by simp at*;omega)) rfl))<|.P rfl (bX isAgg184 rfl)<|.P rfl (bU rfl rfl (addN (by unfold gB at*;omega)))<|.P rfl (bM (off:=(out.length)*1) underlying244 sizeOf184 rfl rfl zO zQ zO)<|.W rfl (gn (r:=_) (out.length) 0 sizeOf184 rfl rfl rfl rfl rfl rfl (fM (eX _ _ _)) zS)<|.nil ?_;refine J.seq (J.af [.p,.p,.p,.r,.p,.p] ?_);refine .mv rfl rfl<|.mv rfl rfl<|.P rfl (bM (off:=(out.length)*1) underlying244 sizeOf184 rfl rfl zO zQ zO)<|.R rfl (eI (r:=_) (out.length) 0 isAgg184 rfl rfl rfl (fM (fM (eX _ _ _))) rfl)<|.P rfl (lT rfl rfl zD (uD (by unfold gB at*;omega)))<|.ag rfl rfl<|.nil ?_;refine J.af [.p,.p,.p,.r,.p,.p,.w] ?_;refine .mv rfl rfl<|.mv rfl rfl<|.P rfl (bM (off:=(out.length)*1) underlying244 sizeOf184 rfl rfl zO zQ zO)<|.R rfl (eI (r:=_) (out.length) 0 isAgg184 rfl rfl rfl (fM (fM (eX _ _ _))) rfl)<|.P rfl (oh rfl rfl zD (s0 _))<|.P rfl (bM (off:=(out.length)*1) underlying244 sizeOf184 rfl rfl zO zQ zO)<|.W rfl (gn (r:=_) (out.length) 0 sizeOf184 rfl rfl rfl rfl rfl rfl (fM (fM (eX _ _ _))) zS)<|.nil ?_;refine J.nil (cC ?_);refine J.af [.p,.p] ?_;refine .P rfl (bU rfl rfl (az zO))<|.mv rfl rfl<|.nil ?_;refine J.nil (dG ?_)
     exact⟨⟨out++[(a+c+lN x out.length)%gB],rest,(a+c+lN x out.length)/gB,by simp;omega,by rw[Nat.div_le_iff_le_mul_add_pred dz];unfold gB at*;omega,fun u hu=>ho u (by simp[hu]),by rw[←hr,Lb (by simp at*;omega)];simp⟩,by simp,Le.mk rfl (.s rfl rfl (.cons rfl (Sub.gs zS) rfl (.s rfl rfl (.s rfl rfl (.cons rfl (Sub.int zS) rfl .nil))))) (.arr rfl (by skip;simp only[List.set_set,List.set_cons_zero];exact(rN _ _ _ _).trans zS) .nil)⟩
    ·refine J.skip ?_;refine J.seq (J.af [.p,.p,.p,.r,.p,.p] ?_);refine .mv rfl rfl<|.mv rfl rfl<|.P rfl (bM (off:=(out.length)*1) underlying244 sizeOf184 rfl rfl zO zQ zO)<|.R rfl (eI (r:=_) (out.length) 0 isAgg184 rfl rfl rfl (fM (eX _ _ _)) rfl)<|.P rfl (lT rfl rfl zD (uD (by unfold gB at*;omega)))<|.ag rfl rfl<|.nil ?_;refine J.af [.p,.p,.p,.r,.p,.p,.w] ?_;refine .mv rfl rfl<|.mv rfl rfl<|.P rfl (bM (off:=(out.length)*1) underlying244 sizeOf184 rfl rfl zO zQ zO)<|.R rfl (eI (r:=_) (out.length) 0 isAgg184 rfl rfl rfl (fM (eX _ _ _)) rfl)<|.P rfl (oh rfl rfl zD (s0 _))<|.P rfl (bM (off:=(out.length)*1) underlying244 sizeOf184 rfl rfl zO zQ zO)<|.W rfl (gn (r:=_) (out.length) 0 sizeOf184 rfl rfl rfl rfl rfl rfl (fM (eX _ _ _)) zS)<|.nil ?_;refine J.nil (cC ?_);refine J.af [.p,.p] ?_;refine .P rfl (bU rfl rfl (az zO))<|.mv rfl rfl<|.nil ?_;refine J.nil (dG ?_);exact⟨⟨out++[(a+c)%gB],rest,(a+c)/gB,by simp;omega,by rw[Nat.div_le_iff_le_mul_add_pred dz];unfold gB at*;omega,fun u hu=>ho u (by simp[hu]),by rw[←hr,La (by simp at*;omega)];simp⟩,by simp,Le.mk rfl (.s rfl rfl (.cons rfl (Sub.gs zS) rfl (.s rfl rfl (.s rfl rfl (.cons rfl (Sub.int zS) rfl .nil))))) (.arr rfl (by skip;simp only[List.set_set,List.set_cons_zero];exact(rN _ _ _ _).trans zS) .nil)⟩
 ·have bE:=h1;try simp only[bs]at bE
  refine J.skip ?_;refine J.seq (J.af [.p,.p,.p,.p,.p,.w,.p] ?_);refine .mv rfl rfl<|.P rfl (dE underlying244 rfl)<|.mv rfl rfl<|.P rfl (dE underlying244 rfl)<|.P rfl (bU rfl rfl (eJ zO zQ))<|.W rfl (wN (bt:=8) 0 _ underlying244 sizeOf184 typeInfo184 zeroValue184 rfl rfl rfl rfl rfl rfl (Int.natCast_succ _).symm zO (by rw[List.length_map];omega) zQ zQ rfl)<|.ag rfl rfl<|.nil ?_;refine J.seq (J.af [.p,.p,.w] ?_);refine .mv rfl rfl<|.mv rfl rfl<|.W rfl (SI underlying244 sizeOf184 rfl rfl rfl zS zS (by rw[List.length_map];omega))<|.nil ?_;refine J.seq (J.af [.p] ?_);refine .ag rfl rfl<|.nil ?_;refine J.seq (J.seq (J.af [.p,.p,.p] ?_));refine .mv rfl rfl<|.P rfl (sU underlying244 rfl)<|.mv rfl rfl<|.nil ?_;refine J.block ?_;refine J.loop (ι:=Sx x y) (fun sx=>[(1,aE y),(5,.gs 0 x.length),(6,.raw (.int .u64 (sx.c:Int))),(25,.i x.length),(26,.i sx.out.length)]) (fun sx=>[(0,.arr 1 (aV (sx.out++sx.rest)))]) (fun sx=>sx.rest.length) ⟨[],x,0,by simp,by omega,jy,by simp⟩ ?_ ?_
  ·exact Le.mk rfl (.s rfl rfl (.cons rfl (Sub.gs zS) rfl (.s rfl rfl (.cons rfl (Sub.int zS) rfl (.s rfl rfl .nil))))) (.arr rfl (by rfl) .nil)
  ·rintro⟨out,rest,c,hl,hc,ho,hr⟩;show J _ _ _ _ [(1,aE y),(5,.gs 0 x.length),(6,.raw (.int .u64 (c:Int))),(25,.i x.length),(26,.i out.length)] [(0,.arr 1 (aV (out++rest)))];rcases rest with _|⟨a,rest⟩
   ·skip;refine J.seq (J.af [.p] ?_);refine .P rfl (b_ rfl rfl)<|.nil ?_;refine J.seq ?_;refine J.eQ rfl (by simp at hl⊢;omega) ?_;refine J.exit (ei (dZ ?_));refine J.seq (J.seq (J.af [.p,.p] ?_));refine .mv rfl rfl<|.P rfl (gp rfl rfl)<|.nil ?_;refine J.cond rfl (fun h4=>?_) (fun h4=>?_)
    ·have gm:=h4;try simp only[bs]at gm
     refine J.af [.p,.p,.p,.w,.p] ?_;refine .mv rfl rfl<|.mv rfl rfl<|.P rfl (bI (n:=1) (rows:=aV [c]) underlying244 sizeOf184 rfl rfl rfl zeroValue184 rfl rfl rfl rfl rfl rfl rfl)<|.W rfl (k_ 1 underlying244 underlying244 sizeOf184 typeInfo184 zeroValue184 rfl (bt:=8) rfl rfl rfl rfl (by simp at hl⊢;omega) rfl rfl (by simp at*;omega))<|.ag rfl rfl<|.nil ?_;refine J.seq (J.af [.p,.p] ?_);refine .mv rfl rfl<|.ag rfl rfl<|.nil ?_;refine J.bP (Le.freeze 4 1 rfl rfl (by simp at hl⊢;omega)) ?_;refine J.ret (?_);exact dF rfl (Sub.snap (by(rw[Sv (by simp at*;omega)]);rw[←hr];simp only[gx];(rw[if_pos zO]);try simp))
    ·have gm:=h4;try simp only[bs]at gm
     refine J.skip ?_;refine J.seq (J.af [.p,.p] ?_);refine .mv rfl rfl<|.ag rfl rfl<|.nil ?_;refine J.bP (Le.freeze 4 0 rfl rfl (by simp at hl⊢;omega)) ?_;refine J.ret (?_);exact dF rfl (Sub.snap (by(rw[Sv (by simp at*;omega)]);rw[←hr];simp only[gx];(rw[if_neg zO]);try simp))
   ·simp only[List.length_cons]at hl;have ha:=ho a zS;have hb:=Jj (k:=out.length) x_;refine J.seq (J.af [.p] ?_);refine .P rfl (b_ rfl rfl)<|.nil ?_;refine J.seq ?_;refine J.fD rfl zQ ?_;refine J.skip ?_;refine J.seq ?_;refine J.block ?_;refine J.seq (J.af [.p,.p] ?_);refine .mv rfl rfl<|.ag rfl rfl<|.nil ?_;refine J.seq (J.af [.p,.p,.p,.r,.p,.p,.p,.w] ?_);refine .mv rfl rfl<|.mv rfl rfl<|.P rfl (bM (off:=(out.length)*1) underlying244 sizeOf184 rfl rfl zO zQ zO)<|.R rfl (eI (r:=_) (out.length) 0 isAgg184 rfl rfl rfl (eX _ _ _) rfl)<|.mv rfl rfl<|.P rfl (bU rfl rfl (addN (by unfold gB at*;omega)))<|.P rfl (bM (off:=(out.length)*1) underlying244 sizeOf184 rfl rfl zO zQ zO)<|.W rfl (gn (r:=_) (out.length) 0 sizeOf184 rfl rfl rfl rfl rfl rfl (eX _ _ _) zS)<|.nil ?_;refine J.seq (J.seq (J.af [.p,.p,.p,.p] ?_));refine .mv rfl rfl<|.mv rfl rfl<|.P rfl (dE underlying244 rfl)<|.P rfl (b_ rfl rfl)<|.nil ?_;refine J.cond rfl (fun h5=>?_) (fun h5=>?_)
    ·refine J.rp [.p,.p,.p,.r,.p,.p,.p,.p,.p,.p,.w] nC zK ?_;refine .mv rfl rfl<|.mv rfl rfl<|.P rfl (bM (off:=(out.length)*1) underlying244 sizeOf184 rfl rfl zO zQ zO)<|.R rfl (eI (r:=_) (out.length) 0 isAgg184 rfl rfl rfl (fM (eX _ _ _)) rfl)<|.mv rfl rfl<|.mv rfl rfl<|.P rfl (fY underlying244 sizeOf184 rfl rfl zO (r_ (Bg (by simp at*;omega)) rfl))<|.P rfl (bX isAgg184 rfl)<|.P rfl (bU rfl rfl (addN (by unfold gB at*;omega)))<|.P rfl (bM (off:=(out.length)*1) underlying244 sizeOf184 rfl rfl zO zQ zO)<|.W rfl (gn (r:=_) (out.length) 0 sizeOf184 rfl rfl rfl rfl rfl rfl (fM (eX _ _ _)) zS)<|.nil ?_;refine J.seq (J.af [.p,.p,.p,.r,.p,.p] ?_);refine .mv rfl rfl<|.mv rfl rfl<|.P rfl (bM (off:=(out.length)*1) underlying244 sizeOf184 rfl rfl zO zQ zO)<|.R rfl (eI (r:=_) (out.length) 0 isAgg184 rfl rfl rfl (fM (fM (eX _ _ _))) rfl)<|.P rfl (lT rfl rfl zD (uD (by unfold gB at*;omega)))<|.ag rfl rfl<|.nil ?_;refine J.af [.p,.p,.p,.r,.p,.p,.w] ?_;refine .mv rfl rfl<|.mv rfl rfl<|.P rfl (bM (off:=(out.length)*1) underlying244 sizeOf184 rfl rfl zO zQ zO)<|.R rfl (eI (r:=_) (out.length) 0 isAgg184 rfl rfl rfl (fM (fM (eX _ _ _))) rfl)<|.P rfl (oh rfl rfl zD (s0 _))<|.P rfl (bM (off:=(out.length)*1) underlying244 sizeOf184 rfl rfl zO zQ zO)<|.W rfl (gn (r:=_) (out.length) 0 sizeOf184 rfl rfl rfl rfl rfl rfl (fM (fM (eX _ _ _))) zS)<|.nil ?_;refine J.nil (cC ?_);refine J.af [.p,.p] ?_;refine .P rfl (bU rfl rfl (az zO))<|.mv rfl rfl<|.nil ?_;refine J.nil (dG ?_)
     exact⟨⟨out++[(a+c+lN y out.length)%gB],rest,(a+c+lN y out.length)/gB,by simp;omega,by rw[Nat.div_le_iff_le_mul_add_pred dz];unfold gB at*;omega,fun u hu=>ho u (by simp[hu]),by rw[←hr,Lb (by simp at*;omega)];simp⟩,by simp,Le.mk rfl (.s rfl rfl (.cons rfl (Sub.gs zS) rfl (.s rfl rfl (.s rfl rfl (.cons rfl (Sub.int zS) rfl .nil))))) (.arr rfl (by skip;simp only[List.set_set,List.set_cons_zero];exact(rN _ _ _ _).trans zS) .nil)⟩
    ·refine J.skip ?_;refine J.seq (J.af [.p,.p,.p,.r,.p,.p] ?_);refine .mv rfl rfl<|.mv rfl rfl<|.P rfl (bM (off:=(out.length)*1) underlying244 sizeOf184 rfl rfl zO zQ zO)<|.R rfl (eI (r:=_) (out.length) 0 isAgg184 rfl rfl rfl (fM (eX _ _ _)) rfl)<|.P rfl (lT rfl rfl zD (uD (by unfold gB at*;omega)))<|.ag rfl rfl<|.nil ?_;refine J.af [.p,.p,.p,.r,.p,.p,.w] ?_;refine .mv rfl rfl<|.mv rfl rfl<|.P rfl (bM (off:=(out.length)*1) underlying244 sizeOf184 rfl rfl zO zQ zO)<|.R rfl (eI (r:=_) (out.length) 0 isAgg184 rfl rfl rfl (fM (eX _ _ _)) rfl)<|.P rfl (oh rfl rfl zD (s0 _))<|.P rfl (bM (off:=(out.length)*1) underlying244 sizeOf184 rfl rfl zO zQ zO)<|.W rfl (gn (r:=_) (out.length) 0 sizeOf184 rfl rfl rfl rfl rfl rfl (fM (eX _ _ _)) zS)<|.nil ?_;refine J.nil (cC ?_);refine J.af [.p,.p] ?_;refine .P rfl (bU rfl rfl (az zO))<|.mv rfl rfl<|.nil ?_;refine J.nil (dG ?_);exact⟨⟨out++[(a+c)%gB],rest,(a+c)/gB,by simp;omega,by rw[Nat.div_le_iff_le_mul_add_pred dz];unfold gB at*;omega,fun u hu=>ho u (by simp[hu]),by rw[←hr,La (by simp at*;omega)];simp⟩,by simp,Le.mk rfl (.s rfl rfl (.cons rfl (Sub.gs zS) rfl (.s rfl rfl (.s rfl rfl (.cons rfl (Sub.int zS) rfl .nil))))) (.arr rfl (by skip;simp only[List.set_set,List.set_cons_zero];exact(rN _ _ _ _).trans zS) .nil)⟩
structure ahz where
 u:Unit
theorem ahy:Fc Tryz.prog 280 [.snap 1 false [],.snap 1 false []] (.snap 1 false []):=by
 refine Fc.mk' [4] func280 rfl ntmps280 rfl rfl rfl (fun t w=>results_tmp results280 t _ w) ?_;refine go [] ?_;refine aR (rfl) ?_;refine sd (eJ zO zS) ?_;refine oP (ah1 (bt:=8) underlying244 sizeOf184 typeInfo184 zeroValue184 rfl rfl rfl rfl (m:=1) rfl zD zD zD) ?_;refine oP (ahM underlying244 sizeOf184 rfl rfl) ?_;refine J.loop (ι:=ahz) (fun sx=>[(5,.snap 1 false []),(6,.raw (.int .u64 ((0:Nat):Int))),(25,.i 0),(26,.i 0)]) (fun sx=>[]) (fun sx=>0) ⟨()⟩ ?_ ?_
 ·exact Le.mk rfl (.s rfl rfl (.s rfl rfl (.s rfl rfl (.s rfl rfl .nil)))) .nil
 ·rintro⟨u⟩;show J _ _ _ _ [(5,.snap 1 false []),(6,.raw (.int .u64 ((0:Nat):Int))),(25,.i 0),(26,.i 0)] []
  skip
  ·skip;refine go [] ?_;refine aR (rfl) ?_;refine go [] ?_;refine aR (rfl) ?_;exact ah rfl (Sub.refl _)
theorem JJ(x y:List Nat)(v6:x.length≤20000)(AL:y.length≤20000)(jy:aU x)(x_:aU y):Fc Tryz.prog 280 [aE x,aE y] (aE (lS x y)):=by
 by_cases h:x.length≠0∨y.length≠0
 ·exact ahw x y h v6 AL jy x_
 ·have e1:x=[]:=List.length_eq_zero_iff.1 zO;have e2:y=[]:=List.length_eq_zero_iff.1 zO;subst e1;subst e2;exact ahy
theorem Lh(n1:Bool)(x:List Nat)(n2:Bool)(y:List Nat)(k1:ng n1 x)(k2:ng n2 y)(hx:x.length≤9000)(hy:y.length≤9000):Fc Tryz.prog 237 [.agg (mb n1 x),.agg (mb n2 y)] (.agg (mb (gK n1 x n2 y).1 (gK n1 x n2 y).2)):=by
 refine Fc.iI func237 rfl ntmps237 rfl rfl rfl ?_;refine go [99999] ?_;refine br (fun h1=>?_) (fun h1=>?_)
 ·refine oP (ai call280 rfl (JJ _ _ zO zO k1.ok k2.ok)) ?_;refine ord ?_;refine J.ret (?_);exact Rd.cA results237 isAgg246 sizeOf246 rfl rfl rfl (Sub.agg (.cons (Sub.bool (by unfold gK;(rw[if_pos zA];done))) (.cons (Sub.snap (by unfold gK;(rw[if_pos zA];done))) .nil)))
 ·refine oP (ai call240 rfl (xm _ _ zO zO)) ?_;refine br (fun h2=>?_) (fun h2=>?_)
  ·have c7:=h2;try simp only[bs]at c7
   refine oP (ai call281 rfl (D8 _ _ (by exact LX zO) zO zO (by exact k2.ok) (by exact k1.ok))) ?_;refine ord ?_;refine J.ret (?_);exact Rd.cA results237 isAgg246 sizeOf246 rfl rfl rfl (Sub.agg (.cons (Sub.bool (by unfold gK;(rw[if_neg (by simpa using ‹(n1==n2)=false›)];(rw[if_pos zO];done)))) (.cons (Sub.snap (by unfold gK;(rw[if_neg (by simpa using ‹(n1==n2)=false›)];(rw[if_pos zO];done)))) .nil)))
  ·have c7:=h2;try simp only[bs]at c7
   refine oP (ai call281 rfl (D8 _ _ (by exact WN k1 k2 zA zO) zO zO (by exact k1.ok) (by exact k2.ok))) ?_;refine ord ?_;refine J.ret (?_);exact Rd.cA results237 isAgg246 sizeOf246 rfl rfl rfl (Sub.agg (.cons (Sub.bool (by unfold gK;(rw[if_neg (by simpa using ‹(n1==n2)=false›)];(rw[if_neg zO];done)))) (.cons (Sub.snap (by unfold gK;(rw[if_neg (by simpa using ‹(n1==n2)=false›)];(rw[if_neg zO];done)))) .nil)))
theorem Vh(s t:aa)(hs:s.length≤4000)(ht:t.length≤4000):Fc Tryz.prog 185 [.str s,.str t] (.str (pr s t)):=by
 refine Fc.mk' [4] func185 rfl ntmps185 rfl rfl rfl (fun t w=>results_tmp results185 t _ w) ?_;have oL:=jO s;have cQ:=pA (digits s).1;have OB:=jO t;have OO:=pA (digits t).1;have h1:=my s;have h2:=my t;have h3:=Lf h1 h2;have h4:=Ld (digits s).2 (digits t).2 (e7 (digits s).1) (e7 (digits t).1);have h5:=Lg h1 h2;refine go [] ?_;refine oP (ai call238 rfl (sY _ zO)) ?_;refine oP (ai call238 rfl (sY _ zO)) ?_;refine oP (ai call237 rfl (Lh _ _ _ _ zA zA zO zO)) ?_;refine oP (ai call239 rfl (zd _ _ zA zO)) ?_;exact ah rfl (Sub.str (by rw[B2 _ h3];unfold pr;rw[←lR s,←lR t,←h5];rfl))
theorem zy(s t:aa)(hs:s.length≤4000)(ht:t.length≤4000):Fc Tryz.prog 186 [.str s,.str t] (.i (fO (val s-val t))):=by
 refine Fc.mk' [4] func186 rfl ntmps186 rfl rfl rfl (fun t w=>results_tmp results186 t _ w) ?_;have oL:=jO s;have cQ:=pA (digits s).1;have OB:=jO t;have OO:=pA (digits t).1;have hb:=WL (e7 (digits s).1) (e7 (digits t).1) zO zO;refine J.seq (J.af [.p] ?_);refine .ag rfl rfl<|.nil ?_;refine J.seq (J.af [.p,.p,.p,.p,.w,.w,.w,.w] ?_);refine .mv rfl rfl<|.P rfl (ai call238 rfl (sY _ zO))<|.mv rfl rfl<|.P rfl (ai call238 rfl (sY _ zO))<|.W rfl (jE 0 zeroValue246 rfl)<|.W rfl (jE 1 zeroValue246 rfl)<|.W rfl (lf sizeOf246 rfl rfl rfl rfl rfl rfl)<|.W rfl (lf sizeOf246 rfl rfl rfl rfl rfl rfl)<|.nil ?_;refine J.seq (J.af [.p,.r,.p,.r,.p,.p] ?_);refine .P rfl (hZ (n:=0) 244 1 underlying246 sizeOf244 rfl rfl)<|.R rfl (iK isAgg244 rfl rfl rfl)<|.P rfl (hZ (n:=0) 244 1 underlying246 sizeOf244 rfl rfl)<|.R rfl (iK isAgg244 rfl rfl rfl)<|.P rfl (ai call240 rfl (xm _ _ zO zO))<|.ag rfl rfl<|.nil ?_;refine J.seq ?_;refine J.block ?_;refine J.seq (J.af [.p,.r,.p,.r,.p,.p] ?_);refine .P rfl (hZ (n:=0) 4 0 underlying246 sizeOf4 rfl rfl)<|.R rfl (iK isAgg4 rfl rfl rfl)<|.P rfl (hZ (n:=0) 4 0 underlying246 sizeOf4 rfl rfl)<|.R rfl (iK isAgg4 rfl rfl rfl)<|.P rfl (EF underlying4 rfl rfl)<|.ag rfl rfl<|.nil ?_;refine J.cond rfl (fun h1=>?_) (fun h1=>?_)
 ·refine J.seq (J.af [.p] ?_);refine .ag rfl rfl<|.nil ?_;refine J.seq (J.af [.p,.r] ?_);refine .P rfl (hZ (n:=0) 4 0 underlying246 sizeOf4 rfl rfl)<|.R rfl (iK isAgg4 rfl rfl rfl)<|.nil ?_;refine J.cond rfl (fun h2=>?_) (fun h2=>?_)
  ·refine J.af [.p] ?_;refine .ag rfl rfl<|.nil ?_;refine J.nil (cC ?_);refine J.seq (J.af [.p,.p,.p,.p] ?_);refine .mv rfl rfl<|.P rfl (yZ rfl rfl rfl)<|.P rfl (BD rfl rfl rfl)<|.ag rfl rfl<|.nil ?_;refine J.ret (?_);exact dF rfl (Sub.int (by rw[←lR s,←lR t,←Cx (my s) (my t)];unfold xk;rw[if_pos h1,if_pos h2]))
  ·refine J.skip ?_;refine J.nil (cC ?_);refine J.seq (J.af [.p,.p,.p,.p] ?_);refine .mv rfl rfl<|.P rfl (yZ rfl rfl rfl)<|.P rfl (BD rfl rfl rfl)<|.ag rfl rfl<|.nil ?_;refine J.ret (?_);exact dF rfl (Sub.int (by rw[←lR s,←lR t,←Cx (my s) (my t)];unfold xk;rw[if_pos h1,if_neg (by simp[h2])]))
 ·refine J.seq (J.af [.p,.r,.p] ?_);refine .P rfl (hZ (n:=0) 4 0 underlying246 sizeOf4 rfl rfl)<|.R rfl (iK isAgg4 rfl rfl rfl)<|.ag rfl rfl<|.nil ?_;refine J.cond rfl (fun h3=>?_) (fun h3=>?_)
  ·refine J.af [.p,.p,.p] ?_;refine .mv rfl rfl<|.P rfl (EE rfl (az zO))<|.ag rfl rfl<|.nil ?_;refine J.nil (cC ?_);refine J.seq (J.af [.p,.p,.p,.p] ?_);refine .mv rfl rfl<|.P rfl (yZ rfl rfl rfl)<|.P rfl (BD rfl rfl rfl)<|.ag rfl rfl<|.nil ?_;refine J.ret (?_);exact dF rfl (Sub.int (by rw[←lR s,←lR t,←Cx (my s) (my t)];unfold xk;rw[if_neg (by simp[h1]),if_pos h3]))
  ·refine J.skip ?_;refine J.nil (cC ?_);refine J.seq (J.af [.p,.p,.p,.p] ?_);refine .mv rfl rfl<|.P rfl (yZ rfl rfl rfl)<|.P rfl (BD rfl rfl rfl)<|.ag rfl rfl<|.nil ?_;refine J.ret (?_);exact dF rfl (Sub.int (by rw[←lR s,←lR t,←Cx (my s) (my t)];unfold xk;rw[if_neg (by simp[h1]),if_neg (by simp[h3])]))
theorem Xt(s:aa)(c:UInt8):Fc Tryz.prog 276 [.str s,.str [c]] (.bf [.str (fk s c).1,.str (fk s c).2.1,.b (fk s c).2.2]):=by
 refine Fc.mk' [4,5,6] func276 rfl ntmps276 rfl rfl rfl (fun t w=>results_tmp3 results276 t _ w) ?_;refine J.l7 0 rfl (fun hb=>?_);simp only[aG]at hb;have hi:=DM c s;refine go [] ?_;refine oP (ai call265 rfl (ado _ _)) ?_;refine br (fun h1=>?_) (fun h1=>?_)
 ·have bE:=h1;try simp only[bs]at bE
  refine oP (rm underlying9 rfl (h:=(Lib.indexByte s c).toNat) (r:=s.take (Lib.indexByte s c).toNat) (.inl ⟨rfl,rfl⟩) (.inr ⟨_,_,rfl,ur rfl zO⟩) zO zO zS) ?_;refine sd (eJ zO zQ) ?_;refine oP (rm underlying9 rfl (l:=(Lib.indexByte s c).toNat+1) (r:=s.drop ((Lib.indexByte s c).toNat+1)) (.inr ⟨_,_,rfl,ur rfl zQ⟩) (.inl ⟨rfl,rfl⟩) zO zO (List.take_of_length_le zS)) ?_;refine ord ?_;exact BO rfl rfl rfl (Sub.str (by unfold fk;rw[if_pos zO])) (Sub.str (by unfold fk;rw[if_pos zO])) (Sub.bool (by unfold fk;rw[if_pos zO]))
 ·have bE:=h1;try simp only[bs]at bE
  exact BO rfl rfl rfl (Sub.str (by unfold fk;rw[if_neg zO])) (Sub.str (by unfold fk;rw[if_neg zO])) (Sub.bool (by unfold fk;rw[if_neg zO]))
theorem ajC(s:aa)(c:UInt8):Fc Tryz.prog 233 [.str s,.str [c]] (.bf [.str (fk s c).1,.str (fk s c).2.1,.b (fk s c).2.2]):=by
 refine Fc.mk' [4,5,6] func233 rfl ntmps233 rfl rfl rfl (fun t w=>results_tmp3 results233 t _ w) ?_;refine go [] ?_;refine oP (ai call276 rfl (Xt _ _)) ?_;exact BO rfl rfl rfl (Sub.refl _) (Sub.refl _) (Sub.refl _)
structure af5(s:aa)where
 pre:List UInt8
 rest:List UInt8
 hx:s=pre++rest
 hp:pre.all q0=true
 hs:1≤s.length∧s.length≤16
theorem yz(s:aa):Fc Tryz.prog 86 [.str s] (.b (isName s)):=by
 refine Fc.mk' [2] func86 rfl ntmps86 rfl rfl rfl (fun t w=>results_tmp results86 t _ w) ?_;refine J.l7 0 rfl (fun hb=>?_);simp only[aG]at hb;refine J.seq (J.af [.p] ?_);refine .ag rfl rfl<|.nil ?_;refine J.seq (J.seq (J.af [.p,.p,.p,.p,.p,.p,.p,.p] ?_));refine .mv rfl rfl<|.P rfl (fZ underlying9 rfl)<|.P rfl (jF rfl rfl)<|.mv rfl rfl<|.gF rfl (.inl rfl) rfl rfl rfl (fun hg=>pk (fun _=>aX rfl _))<|.gF rfl (.inl rfl) rfl rfl rfl (fun hg=>pk (fun _=>fZ underlying9 (bj rfl (nt hg)) _))<|.gF rfl (.inl rfl) rfl rfl rfl (fun hg=>pk (fun _=>gp (bj rfl (nt hg)) rfl _))<|.P rfl (nq rfl rfl)<|.nil ?_;refine J.cond rfl (fun h1=>?_) (fun h1=>?_)
 ·refine J.seq (J.af [.p] ?_);refine .ag rfl rfl<|.nil ?_;refine J.ret (?_);exact dF rfl (Sub.bool (by grind[isName,q0]))
 ·refine J.skip ?_;refine J.seq (J.seq (J.af [.p,.p,.p,.p] ?_));refine .mv rfl rfl<|.P rfl (SG (u:=.string) underlying9 underlying152 underlying5 rfl)<|.P rfl (dE underlying152 rfl)<|.mv rfl rfl<|.nil ?_;refine J.block ?_;refine J.loop (ι:=af5 s) (fun sx=>[(14,.snap 1 false (s.map fun c=>[.raw (.int .u8 (UInt8.toNat c:Int))])),(15,.i s.length),(16,.i sx.pre.length)]) (fun sx=>[]) (fun sx=>sx.rest.length) ⟨[],s,rfl,rfl,by grind⟩ ?_ ?_
  ·exact Le.mk rfl (.s rfl rfl (.cons rfl (Sub.int zS) rfl (.s rfl rfl .nil))) .nil
  ·rintro⟨pre,rest,hx,hp,hs⟩;show J _ _ _ _ [(14,.snap 1 false (s.map fun c=>[.raw (.int .u8 (UInt8.toNat c:Int))])),(15,.i s.length),(16,.i pre.length)] [];have hl:=congrArg List.length hx;simp only[List.length_append]at hl;rcases rest with _|⟨x,rest⟩
   ·skip;refine J.seq (J.af [.p] ?_);refine .P rfl (b_ rfl rfl)<|.nil ?_;refine J.seq ?_;refine J.eQ rfl (by simp at hl⊢;omega) ?_;refine J.exit (ei (dZ ?_));refine J.seq (J.af [.p] ?_);refine .ag rfl rfl<|.nil ?_;refine J.ret (?_);exact dF rfl (Sub.bool (by grind[isName,q0]))
   ·simp only[List.length_cons]at hl;refine J.seq (J.af [.p] ?_);refine .P rfl (b_ rfl rfl)<|.nil ?_;refine J.seq ?_;refine J.fD rfl zQ ?_;refine J.skip ?_;refine J.seq ?_;refine J.block ?_;refine J.seq (J.af [.p,.p,.p] ?_);refine .P rfl (fY underlying152 sizeOf5 rfl rfl zO (bn (fun c=>[D.raw (.int .u8 (UInt8.toNat c:Int))]) hx rfl))<|.P rfl (bX isAgg5 rfl)<|.ag rfl rfl<|.nil ?_;refine J.seq (J.af [.p,.p,.p,.p,.p,.p,.p,.p,.p,.p,.p,.p,.p,.p,.p,.p,.p,.p] ?_);refine .mv rfl rfl<|.P rfl (b_ rfl rfl)<|.mv rfl rfl<|.gF rfl (.inl rfl) rfl rfl rfl (fun hg=>pk (fun _=>aX rfl _))<|.gF rfl (.inl rfl) rfl rfl rfl (fun hg=>pk (fun _=>gp (bj rfl (nt hg)) rfl _))<|.P rfl (nq rfl rfl)<|.mv rfl rfl<|.gT rfl (.inl rfl) rfl rfl rfl (fun hg=>pk (fun _=>aX rfl _))<|.gT rfl (.inl rfl) rfl rfl rfl (fun hg=>pk (fun _=>b_ (bj rfl hg) rfl _))<|.gT rfl (.inl rfl) rfl rfl rfl (fun hg=>pk (fun _=>aX (bj rfl hg) _)) ?_;refine .nF rfl (.inl rfl) rfl rfl rfl (fun hc hg=>pk (fun _=>aX rfl _)) ?_;refine .nF rfl (.inl rfl) rfl rfl rfl (fun hc hg=>pk (fun _=>gp (bj rfl (bF hc hg)) rfl _)) ?_;refine .gT rfl (.inl rfl) rfl rfl rfl (fun hg=>pk (fun _=>nq (bj rfl hg) (Jw rfl hg) _))<|.P rfl (gD rfl rfl)<|.mv rfl rfl<|.gT rfl (.inl rfl) rfl rfl rfl (fun hg=>pk (fun _=>aX rfl _))<|.gT rfl (.inl rfl) rfl rfl rfl (fun hg=>pk (fun _=>wO (bj rfl hg) rfl _))<|.P rfl (gD rfl rfl)<|.nil ?_;refine J.cond rfl (fun h2=>?_) (fun h2=>?_)
    ·refine J.seq (J.af [.p] ?_);refine .ag rfl rfl<|.nil ?_;refine J.ret (jn (rr (jn (?_))));exact dF rfl (Sub.bool (by grind[isName,q0]))
    ·refine J.skip ?_;refine J.nil (cC ?_);refine J.af [.p,.p] ?_;refine .P rfl (bU rfl rfl (az zO))<|.mv rfl rfl<|.nil ?_;refine J.nil (dG ?_);exact⟨⟨pre++[x],rest,by simp[hx],by grind[q0],hs⟩,by simp,Le.mk rfl (.s rfl rfl (.s rfl rfl (.cons rfl (Sub.int zS) rfl .nil))) .nil⟩
structure abK(l:List Fact)(mU:(jb 12 l&&ub 1000 l||jb 1002 l)=false)where
 pre:List Fact
 rest:List Fact
 hx:l=pre++rest
 hp:pre.any tH=false
theorem abJ(l:List Fact):Fc Tryz.prog 83 [bz l] (.b (Hc l)):=by
 refine Fc.mk' [2] func83 rfl ntmps83 rfl rfl rfl (fun t w=>results_tmp results83 t _ w) ?_;refine J.ej 0 rfl (fun hb=>?_);simp only[List.length_map,aG]at hb;refine go [] ?_;refine br (fun h1=>?_) (fun h1=>?_)
 ·exact ah rfl (Sub.bool (by exact sL (by simpa using h1)))
 ·have mU:(jb 12 l&&ub 1000 l||jb 1002 l)=false:=by simpa using h1
  refine J.loop (ι:=abK l mU) (fun sx=>[(0,bz l),(2,.b false),(3,.i sx.pre.length)]) (fun sx=>[]) (fun sx=>sx.rest.length) ⟨[],_,rfl,rfl⟩ ?_ ?_
  ·exact Le.mk rfl (.s rfl rfl (.s rfl rfl (.s rfl rfl .nil))) .nil
  ·rintro⟨pre,rest,hx,hp⟩;show J _ _ _ _ [(0,bz l),(2,.b false),(3,.i pre.length)] [];have hl:=congrArg List.length hx;simp only[List.length_append]at hl;rcases rest with _|⟨x,rest⟩
   ·skip;refine go [] ?_;refine aR (by simp at hl⊢;omega) ?_;refine go [] ?_;exact ah rfl (Sub.bool (by exact k6 mU (qg hx hp).symm))
   ·simp only[List.length_cons]at hl;refine go [] ?_;refine a_ zQ ?_;refine ix zO (bn aM hx rfl) ?_;refine oP (ai call8 rfl (abG _)) ?_;refine br (fun h2=>?_) (fun h2=>?_)
    ·exact ah rfl (Sub.bool (by exact k6 mU (qh hx h2).symm))
    ·refine sd (az zO) ?_;exact nx ⟨pre++[x],rest,by simp[hx],ku hp h2⟩ zS (Le.mk rfl (.s rfl rfl (.s rfl rfl (.cons rfl (Sub.int zS) rfl .nil))) .nil)
theorem abV(l:List Fact):Fc Tryz.prog 37 [bz l] (.b (rU l)):=by
 refine Fc.mk' [2] func37 rfl ntmps37 rfl rfl rfl (fun t w=>results_tmp results37 t _ w) ?_;refine go [] ?_;refine gP (fun hg=>ai call83 rfl (abJ _)) ?_;exact ah rfl (Sub.bool (by simp[rU]))
structure adq(l:List (List Fact))(P:(List Fact)→Bool)where
 pre:List (List Fact)
 rest:List (List Fact)
 hx:l=pre++rest
 hp:pre.any P=false
theorem adp(l:List (List Fact))(f:FuncId)(b8:List D)(dA:D.bG.eG b8=true)(P:(List Fact)→Bool)(gh:∀(args:Array Value)(w:World),(callFunc f args).run Tryz.prog w=.ok (.enter f args) w)(hP:∀x∈l,Fc Tryz.prog f (bz x::b8) (.b (P x))):Fc Tryz.prog 82 [.snap 1 false (l.map fun v=>[bz v]),.fn (.func f) [] b8] (.i (ja P l)):=by
 refine Fc.mk' [4] func82 rfl ntmps82 rfl (by simp[D.bG,D.bG.eG,dA]) rfl (fun t w=>results_tmp results82 t _ w) ?_;refine J.ej 0 rfl (fun hb=>?_);simp only[List.length_map,aG]at hb;refine go [] ?_;refine J.loop (ι:=adq l P) (fun sx=>[(0,.snap 1 false (l.map fun v=>[bz v])),(1,.fn (.func f) [] b8),(6,.snap 1 false (l.map fun v=>[bz v])),(7,.i l.length),(8,.i sx.pre.length)]) (fun sx=>[]) (fun sx=>sx.rest.length) ⟨[],l,rfl,rfl⟩ ?_ ?_
 ·exact Le.mk rfl (.s rfl rfl (.cons rfl (Sub.refl _) (rf dA) (.s rfl rfl (.cons rfl (Sub.int zS) rfl (.s rfl rfl .nil))))) .nil
 ·rintro⟨pre,rest,hx,hp⟩;show J _ _ _ _ [(0,.snap 1 false (l.map fun v=>[bz v])),(1,.fn (.func f) [] b8),(6,.snap 1 false (l.map fun v=>[bz v])),(7,.i l.length),(8,.i pre.length)] [];have hl:=congrArg List.length hx;simp only[List.length_append]at hl;rcases rest with _|⟨x,rest⟩
  ·skip;refine go [] ?_;refine aR (by simp at hl⊢;omega) ?_;refine go [] ?_;exact ah rfl (Sub.int (by exact vy hx hp))
  ·simp only[List.length_cons]at hl;refine go [] ?_;refine a_ zQ ?_;refine ix zO (bn (fun v=>[bz v]) hx rfl) ?_;refine oP (dX gh rfl rfl (hP x (by rw[hx];simp))) ?_;refine br (fun h1=>?_) (fun h1=>?_)
   ·exact ah rfl (Sub.int (by exact tG hx hp h1))
   ·refine sd (az zO) ?_;exact nx ⟨pre++[x],rest,by simp[hx],ku hp h1⟩ zS (Le.mk rfl (.s rfl rfl (.cons rfl (Sub.refl _) (rf dA) (.s rfl rfl (.s rfl rfl (.cons rfl (Sub.int zS) rfl .nil))))) .nil)
theorem Xe(l:List (List Fact))(f:FuncId)(b8:List D)(dA:D.bG.eG b8=true)(P:(List Fact)→Bool)(gh:∀(args:Array Value)(w:World),(callFunc f args).run Tryz.prog w=.ok (.enter f args) w)(hP:∀x∈l,Fc Tryz.prog f (bz x::b8) (.b (P x))):Fc Tryz.prog 36 [.snap 1 false (l.map fun v=>[bz v]),.fn (.func f) [] b8] (.b (l.any P)):=by
 refine Fc.mk' [4] func36 rfl ntmps36 rfl (by simp[D.bG,D.bG.eG,dA]) rfl (fun t w=>results_tmp results36 t _ w) ?_;refine go [] ?_;refine oP (ai call82 rfl (adp l f b8 dA P gh hP)) ?_;exact ah rfl (Sub.bool (by exact vx P l))
theorem N2(s:Setup)(l:List (List Fact)):Fc Tryz.prog 7 [.agg (iR s),.snap 1 false (l.map fun v=>[bz v])] (.b (xM s||l.any rU)):=by
 refine Fc.mk' [4] func7 rfl ntmps7 rfl rfl rfl (fun t w=>results_tmp results7 t _ w) ?_;refine go [] ?_;refine oP (ai call35 rfl (abR _)) ?_;refine gP (fun hg=>ai call36 rfl (Xe l _ [] rfl rU call37 (fun x _=>abV x))) ?_;exact ah rfl (Sub.refl _)
theorem adY(c:cp)(code:aa):Fc Tryz.prog 217 [.agg (qq c),.aY [.str code]] (.b (decide (c.code=code))):=by
 refine Fc.mk' [3] func217 rfl ntmps217 rfl rfl rfl (fun t w=>results_tmp results217 t _ w) ?_;refine go [] ?_;exact ah rfl (Sub.refl _)
structure aa0(l:List cp)(code:aa)where
 pre:List cp
 rest:List cp
 hx:l=pre++rest
 hp:∀c∈pre,c.code≠code
theorem aaZ(l:List cp)(code:aa):Fc Tryz.prog 216 [iL l,.fn (.func 217) [] [.aY [.str code]]] (.bf [.agg (qq (lC code l).1),.b (lC code l).2]):=by
 refine Fc.iI func216 rfl ntmps216 rfl rfl rfl ?_;refine J.ej 0 rfl (fun hb=>?_);simp only[List.length_map,aG]at hb;refine go [99999] ?_;refine J.loop (ι:=aa0 l code) (fun sx=>[(0,iL l),(1,.fn (.func 217) [] [.aY [.str code]]),(4,.box 0 0),(9,iL l),(10,.i l.length),(11,.i sx.pre.length)]) (fun sx=>[(0,.cells [.str [],.raw (.int .i64 0)])]) (fun sx=>sx.rest.length) ⟨[],l,rfl,by simp⟩ ?_ ?_
 ·exact Le.mk rfl (.s rfl rfl (.s rfl rfl (.s rfl rfl (.s rfl rfl (.cons rfl (Sub.int zS) rfl (.s rfl rfl .nil)))))) (.cons rfl rfl .nil)
 ·rintro⟨pre,rest,hx,hp⟩;show J _ _ _ _ [(0,iL l),(1,.fn (.func 217) [] [.aY [.str code]]),(4,.box 0 0),(9,iL l),(10,.i l.length),(11,.i pre.length)] [(0,.cells [.str [],.raw (.int .i64 0)])];have hl:=congrArg List.length hx;simp only[List.length_append]at hl;rcases rest with _|⟨x,rest⟩
  ·skip;refine go [99999] ?_;refine aR (by simp at hl⊢;omega) ?_;refine go [99999] ?_;refine J.ret (?_);exact Rd.Cq results216 isAgg89 sizeOf89 rfl rfl rfl rfl (Sub.agg (.cons (Sub.str (by rw[GN hx hp])) (.cons (Sub.int (by rw[GN hx hp])) .nil))) (Sub.bool (by rw[GN hx hp]))
  ·simp only[List.length_cons]at hl;refine go [99999] ?_;refine a_ zQ ?_;refine ix zO (bn qq hx rfl) ?_;refine oP (dX call217 rfl rfl (adY _ _)) ?_;refine br (fun h1=>?_) (fun h1=>?_)
   ·refine J.ret (jn (rr (jn (?_))));exact Rd.Cq results216 isAgg89 sizeOf89 rfl rfl rfl rfl (Sub.agg (.cons (Sub.str (by rw[GO hx hp (by simpa using h1)])) (.cons (Sub.int (by rw[GO hx hp (by simpa using h1)])) .nil))) (Sub.bool (by rw[GO hx hp (by simpa using h1)]))
   ·refine sd (az zO) ?_;exact nx ⟨pre++[x],rest,by simp[hx],by intro c hc;rcases List.mem_append.1 hc with hc|hc;exact hp c hc;simp at hc;subst hc;simpa using h1⟩ zS (Le.mk rfl (.s rfl rfl (.s rfl rfl (.s rfl rfl (.s rfl rfl (.s rfl rfl (.cons rfl (Sub.int zS) rfl .nil)))))) (.cons rfl rfl .nil))
theorem GP(l:List cp)(code:aa):Fc Tryz.prog 170 [iL l,.str code] (.bf [.agg (qq (lC code l).1),.b (lC code l).2]):=by
 refine Fc.iI func170 rfl ntmps170 rfl rfl rfl ?_;refine go [1,99999] ?_;refine J.bP (Le.gg 3 0 rfl rfl rfl rfl) ?_;refine go [99999] ?_;refine oP (ai call216 rfl (aaZ _ _)) ?_;refine J.ret (?_);exact Rd.Cq results170 isAgg89 sizeOf89 rfl rfl rfl rfl (Sub.agg (.r (.r .nil))) (Sub.refl _)
structure Ws(l:List cp)where
 pre:List cp
 rest:List cp
 hx:l=pre++rest
 jt:l.length≤16
 hp:nH [] l=nH pre rest
theorem Wr(l:List cp):Fc Tryz.prog 117 [iL l] (.i (pv l)):=by
 refine Fc.mk' [2] func117 rfl ntmps117 rfl rfl rfl (fun t w=>results_tmp results117 t _ w) ?_;refine J.ej 0 rfl (fun hb=>?_);simp only[List.length_map,aG]at hb;refine go [10] ?_;refine br (fun h1=>?_) (fun h1=>?_)
 ·exact ah rfl (Sub.int (by unfold pv;rw[if_pos (by simp only[bs]at h1;omega)]))
 ·refine J.loop (ι:=Ws l) (fun sx=>[(0,iL l),(10,iL l),(11,.i l.length),(12,.i sx.pre.length)]) (fun sx=>[]) (fun sx=>sx.rest.length) ⟨[],l,rfl,by simp only[bs]at h1;omega,rfl⟩ ?_ ?_
  ·exact Le.mk rfl (.s rfl rfl (.s rfl rfl (.cons rfl (Sub.int zS) rfl (.s rfl rfl .nil)))) .nil
  ·rintro⟨pre,rest,hx,jt,hp⟩;show J _ _ _ _ [(0,iL l),(10,iL l),(11,.i l.length),(12,.i pre.length)] [];have hl:=congrArg List.length hx;simp only[List.length_append]at hl;rcases rest with _|⟨x,rest⟩
   ·have r2:pv l=0:=by rw[show(0:Int)=nH pre []from rfl,←hp];unfold pv;rw[if_neg zO]
    refine go [10] ?_;refine aR (by simp at hl⊢;omega) ?_;refine go [10] ?_;exact ah rfl (Sub.int (by exact r2.symm))
   ·simp only[List.length_cons]at hl;have r2:pv l=nH pre (x::rest):=by rw[←hp];unfold pv;rw[if_neg zO]
    refine go [10] ?_;refine a_ zQ ?_;refine ix zO (bn qq hx rfl) ?_;refine oP (ai call169 rfl (adV _)) ?_;refine br (fun h2=>?_) (fun h2=>?_)
    ·exact ah rfl (Sub.int (by exact F0 r2 (Xo h2) zD))
    ·refine br (fun h3=>?_) (fun h3=>?_)
     ·exact ah rfl (Sub.int (by exact F0 r2 (Xp h2 h3) zD))
     ·refine J.bP (Le.gg 4 0 rfl rfl rfl rfl) ?_;refine go [] ?_;refine oP (uC underlying22 sizeOf89 rfl (l:=0) (h:=pre.length) (r:=pre.map qq) (.inl ⟨rfl,rfl⟩) (.inr ⟨_,_,rfl,rfl⟩) zO (by simp[hx]) (by rw[hx];simp)) ?_;refine oP (ai call170 rfl (GP pre x.code)) ?_;refine ord ?_;refine br (fun h4=>?_) (fun h4=>?_)
      ·exact ah rfl (Sub.int (by exact F0 r2 (Xq h2 h3 h4) zD))
      ·refine go [10] ?_;refine sd (az zO) ?_;exact nx ⟨pre++[x],rest,by simp[hx],jt,Wq hp (Xn h2 h3 h4)⟩ zS (Le.mk rfl (.s rfl rfl (.s rfl rfl (.s rfl rfl (.cons rfl (Sub.int zS) rfl .nil)))) .nil)
theorem Uf(d:Int):Fc Tryz.prog 172 [.i d] (.b (KJ d)):=by
 refine Fc.mk' [2] func172 rfl ntmps172 rfl rfl rfl (fun t w=>results_tmp results172 t _ w) ?_;refine go [] ?_;exact ah rfl (Sub.refl _)
end Go.T
namespace Go.T
open Go
def au(n:Nat):List Nat:=if h:n=0 then[]else(n%gB)::au (n/gB)
decreasing_by
 unfold gB;omega
theorem oZ:au 0=[]:=by rw[au];simp
theorem wo{n:Nat}(h:n≠0):au n=(n%gB)::au (n/gB):=by rw[au];simp[h]
theorem gk(n:Nat):an (au n)=n:=by
 induction n using Nat.strongRecOn with
 |_ n ih=>
  by_cases e:n=0
  ·subst e;rw[oZ];rfl
  ·rw[wo e,an,ih (n/gB) (by unfold gB;omega)];have:=Nat.mod_add_div n gB;omega
theorem fW(n:Nat):aU (au n):=by
 induction n using Nat.strongRecOn with
 |_ n ih=>
  by_cases e:n=0
  ·subst e;rw[oZ];intro x hx;simp at hx
  ·rw[wo e];intro x hx;rcases List.mem_cons.1 hx with rfl|hx
   ·exact Nat.mod_lt _ dz
   ·exact ih (n/gB) (by unfold gB;omega) x hx
theorem yp(n:Nat):bh (au n)=au n:=by
 refine F_ fun h0 hl=>?_;have key:∀n,n≠0→cY (au n)≠0:=by
  intro n;induction n using Nat.strongRecOn with
  |_ n ih=>
   intro e;rw[wo e];by_cases e2:n/gB=0
   ·rw[e2,oZ];have:n<gB:=by
     rcases Nat.lt_or_ge n gB with h|h
     ·exact h
     ·have:=Nat.div_pos h dz;omega
    simp[cY,Nat.mod_eq_of_lt this,e]
   ·rw[P' (by rw[wo e2];simp)];exact ih (n/gB) (by unfold gB;omega) e2
 by_cases e:n=0
 ·subst e;rw[oZ]at h0;simp at h0
 ·exact key n e hl
theorem QR:∀{x y:List Nat},aU x→aU y→bh x=x→bh y=y→an x=an y→x=y:=by
 intro x;induction x with
 |nil=>
  intro y _ _ _ cy hv;cases y with
  |nil=>rfl
  |cons b y=>have:=A6 cy zS;simp[an]at*;omega
 |cons a x ih=>
  intro y ox oy cx cy hv;cases y with
  |nil=>have:=A6 cx zS;simp[an]at*;omega
  |cons b y=>
   simp only[an]at hv;have ha:=ox a zS;have hb:=oy b zS;have e1:a=b:=by
    have h1:(a+gB*an x)%gB=a:=by rw[Nat.add_mul_mod_self_left];exact Nat.mod_eq_of_lt ha
    have h2:(b+gB*an y)%gB=b:=by rw[Nat.add_mul_mod_self_left];exact Nat.mod_eq_of_lt hb
    rw[←h1,←h2,hv]
   subst e1;have e2:an x=an y:=by
    have:gB*an x=gB*an y:=by omega
    exact Nat.eq_of_mul_eq_mul_left dz this
   have tl:∀{z:List Nat},bh (a::z)=a::z→bh z=z:=by
    intro z hz;refine F_ fun h0 hl=>?_;rcases lV z with rfl|⟨i,t,rfl⟩
    ·simp at h0
    ·have:cY (i++[t])=t:=by simp[cY,List.getLastD_eq_getLast?]
     rw[this]at hl;subst hl;have h:=rJ (a::i);rw[List.cons_append]at h;rw[h]at hz;have:=congrArg List.length hz;have h3:=tw (a::i);simp at this h3;omega
   rw[ih (fun q hq=>ox q (by simp[hq])) (fun q hq=>oy q (by simp[hq])) (tl cx) (tl cy) e2]
theorem afx{x:List Nat}(ox:aU x)(cx:bh x=x):x=au (an x):=QR ox (fW _) cx (yp _) (gk _).symm
theorem YD{α:Type}(p:α→Bool)(l:List α):(l.dropWhile p).dropWhile p=l.dropWhile p:=by
 induction l with
 |nil=>rfl
 |cons a l ih=>
  rw[List.dropWhile_cons];split
  ·exact ih
  ·rename_i h;rw[List.dropWhile_cons];simp[h]
theorem vb{x:List Nat}(ox:aU x):bh x=au (an x):=by
 refine QR (xn ox) (fW _) ?_ (yp _) (by rw[CB,gk]);unfold bh;simp[YD]
section
variable{B P v1 v2 Vr u3 Ur gu q g:Nat}
theorem ace(hP:0<P)(hq:q*((v1*B+v2)*P+Vr)≤(gu*B+u3)*P+Ur)(hU:u3*P+Ur<B*P)(hC:0<v1)(hqB:q≤B-1):q≤min (gu/v1) (B-1):=by
 refine Nat.le_min.2 ⟨?_,hqB⟩;rw[Nat.le_div_iff_mul_le hC];rcases Nat.lt_or_ge gu (q*v1)with h|h
 ·exfalso;have h1:(gu+1)*(B*P)≤q*v1*(B*P):=Nat.mul_le_mul_right _ h;have h2:q*v1*(B*P)≤q*((v1*B+v2)*P+Vr):=by
   have:q*((v1*B+v2)*P+Vr)=q*v1*(B*P)+(q*v2*P+q*Vr):=by
    simp only[Nat.mul_add,Nat.add_mul,Nat.mul_assoc,Nat.add_assoc]
   omega
  have h3:(gu*B+u3)*P+Ur=gu*(B*P)+(u3*P+Ur):=by
   simp only[Nat.add_mul,Nat.mul_assoc,Nat.add_assoc]
  have h4:(gu+1)*(B*P)=gu*(B*P)+B*P:=by rw[Nat.add_mul,Nat.one_mul]
  omega
 ·exact h
theorem acf(hU:Ur<P)(hg:g*v1≤gu)(ht:(gu-g*v1)*B+u3<g*v2)(hq:q*((v1*B+v2)*P+Vr)≤(gu*B+u3)*P+Ur):q≤g-1:=by
 have h1:gu*B+u3<g*(v1*B+v2):=by
  have e1:(gu-g*v1)*B=gu*B-g*v1*B:=Nat.sub_mul _ _ _;have e2:g*(v1*B+v2)=g*v1*B+g*v2:=by rw[Nat.mul_add,Nat.mul_assoc]
  have e3:g*v1*B≤gu*B:=Nat.mul_le_mul_right _ hg;omega
 have h2:(gu*B+u3)*P+Ur<g*((v1*B+v2)*P+Vr):=by
  have e1:(gu*B+u3+1)*P≤g*(v1*B+v2)*P:=Nat.mul_le_mul_right _ h1;have e2:g*((v1*B+v2)*P+Vr)=g*(v1*B+v2)*P+g*Vr:=by rw[Nat.mul_add,Nat.mul_assoc]
  have e3:(gu*B+u3+1)*P=(gu*B+u3)*P+P:=by rw[Nat.add_mul,Nat.one_mul]
  omega
 have h3:q<g:=by
  rcases Nat.lt_or_ge q g with h|h
  ·exact h
  ·have:=Nat.mul_le_mul_right ((v1*B+v2)*P+Vr) h;omega
 omega
theorem acg(hC:0<v1)(hB:0<B)(hg:g*v1≤gu)(hgB:g≤B-1)(kO:v2≤B-1)(hVr:Vr<P)(ht:B≤gu-g*v1∨g*v2≤(gu-g*v1)*B+u3):(g-1)*((v1*B+v2)*P+Vr)≤(gu*B+u3)*P+Ur:=by
 have e2:g*(v1*B+v2)=g*v1*B+g*v2:=by rw[Nat.mul_add,Nat.mul_assoc]
 have e3:g*v1*B≤gu*B:=Nat.mul_le_mul_right _ hg;have e1:(gu-g*v1)*B=gu*B-g*v1*B:=Nat.sub_mul _ _ _;have h1:g*(v1*B+v2)≤gu*B+u3:=by
  rcases ht with ht|ht
  ·have h2:B*B≤(gu-g*v1)*B:=Nat.mul_le_mul_right _ ht;have h3:g*v2≤B*B:=Nat.mul_le_mul zO zO;omega
  ·omega
 have h2:g*(v1*B+v2)*P≤(gu*B+u3)*P:=Nat.mul_le_mul_right _ h1;have h3:g*Vr≤B*P:=Nat.mul_le_mul zO zO;have h4:B*P≤(v1*B+v2)*P:=Nat.mul_le_mul_right _ (by
  have:1*B≤v1*B:=Nat.mul_le_mul_right _ hC;omega)
 have h5:g*((v1*B+v2)*P+Vr)=g*(v1*B+v2)*P+g*Vr:=by rw[Nat.mul_add,Nat.mul_assoc]
 have h6:(g-1)*((v1*B+v2)*P+Vr)=g*((v1*B+v2)*P+Vr)-((v1*B+v2)*P+Vr):=by rw[Nat.sub_mul,Nat.one_mul]
 omega
end
def nth(l:List Nat)(j:Nat):Nat:=(l[j]?).getD 0
theorem Ei{l:List Nat}{j:Nat}(h:j<l.length):l[j]?=some (nth l j):=by
 unfold nth;rw[List.getElem?_eq_getElem h];rfl
theorem dP{l:List Nat}(h:aU l)(j:Nat):nth l j<gB:=by
 unfold nth;cases e:l[j]?with
 |none=>exact dz
 |some x=>exact h x (List.mem_of_getElem? e)
theorem yF{l:List Nat}{i j v:Nat}(h:i<l.length):nth (l.set i v) j=if i=j then v else nth l j:=by
 unfold nth;rw[List.getElem?_set];by_cases e:i=j
 ·subst e;simp[h]
 ·simp[e]
theorem ago{p r:List Nat}{x:Nat}:nth (p++x::r) p.length=x:=by simp[nth]
theorem yq{l:List Nat}{j v:Nat}(h:j<l.length):an (l.set j v)+nth l j*gB^j=an l+v*gB^j:=by
 induction l generalizing j with
 |nil=>simp at h
 |cons a l ih=>
  cases j with
  |zero=>simp only[List.set_cons_zero,an,nth,List.getElem?_cons_zero,Option.getD_some,Nat.pow_zero,Nat.mul_one];omega
  |succ j=>
   have h2:=ih (j:=j) (by simpa using h);have e1:nth (a::l) (j+1)=nth l j:=by simp[nth]
   simp only[List.set_cons_succ,an,e1,Nat.pow_succ];have e2:nth l j*(gB^j*gB)=gB*(nth l j*gB^j):=by rw[←Nat.mul_assoc,Nat.mul_comm]
   have e3:v*(gB^j*gB)=gB*(v*gB^j):=by rw[←Nat.mul_assoc,Nat.mul_comm]
   rw[e2,e3];have e4:gB*(an (l.set j v)+nth l j*gB^j)=gB*(an l+v*gB^j):=by rw[h2]
   rw[Nat.mul_add,Nat.mul_add]at e4;omega
theorem ug{l:List Nat}(h:aU l){j v:Nat}(hv:v<gB):aU (l.set j v):=by
 intro x hx;rcases List.mem_or_eq_of_mem_set hx with hx|rfl
 ·exact h x hx
 ·exact hv
theorem afv{a b:List Nat}(ha:aU a)(hb:aU b):aU (a++b):=fun x hx=>(List.mem_append.1 hx).elim (ha x) (hb x)
theorem QO(n:Nat):aU (List.replicate n 0):=fun x hx=>by rw[(List.mem_replicate.1 hx).2];exact dz
theorem QQ(n:Nat):an (List.replicate n 0)=0:=by
 induction n with
 |zero=>rfl
 |succ n ih=>rw[List.replicate_succ,an,ih];rfl
theorem I0(l:List Nat)(k:Nat)(h:k≤l.length):an l=an (l.take k)+gB^k*an (l.drop k):=by
 conv=>lhs;rw[←List.take_append_drop k l]
 rw[uh,List.length_take,Nat.min_eq_left h]
theorem wq(p:List Nat)(x:Nat):an (p++[x])=an p+x*gB^p.length:=by
 rw[uh];simp only[an,Nat.mul_zero,Nat.add_zero];rw[Nat.mul_comm]
theorem LG{l:List Nat}{j t c a:Nat}(h:j<l.length)(ha:nth l j=a)(ht:t=c+a):an (l.set j (t%gB))+(t/gB)*gB^(j+1)=an l+c*gB^j:=by
 have h1:=yq (v:=t%gB) h;have h2:t%gB*gB^j+t/gB*gB^(j+1)=t*gB^j:=by
  rw[Nat.pow_succ,←Nat.mul_assoc,Nat.mul_right_comm,←Nat.add_mul]
  congr 1
  have:=Nat.mod_add_div t gB;rw[Nat.mul_comm (t/gB)];exact this
 rw[ha]at h1;subst ht;rw[Nat.add_mul]at h2;omega
theorem I1{l:List Nat}{k:Nat}(h:∀j,k≤j→nth l j=0):an l=an (l.take k):=by
 induction l generalizing k with
 |nil=>simp
 |cons a l ih=>
  cases k with
  |zero=>
   have h1:a=0:=by simpa[nth]using h 0 (Nat.le_refl _)
   have h2:=ih (k:=0) (fun j _=>by simpa[nth]using h (j+1) (Nat.zero_le _));simp only[List.take_zero]at h2⊢;simp[an,h1,h2]
  |succ k=>
   have h2:=ih (k:=k) (fun j hj=>by simpa[nth]using h (j+1) zO);simp only[List.take_succ_cons,an,h2]
theorem agn(l:List Nat)(j:Nat):nth l j*gB^j≤an l:=by
 induction l generalizing j with
 |nil=>simp[nth,an]
 |cons a l ih=>
  cases j with
  |zero=>simp[nth,an]
  |succ j=>
   have h:=ih j;have e1:nth (a::l) (j+1)=nth l j:=by simp[nth]
   rw[e1,an,Nat.pow_succ];have e2:nth l j*(gB^j*gB)=gB*(nth l j*gB^j):=by rw[←Nat.mul_assoc,Nat.mul_comm]
   rw[e2];have:=Nat.mul_le_mul_left gB h;omega
theorem RB{l:List Nat}{n j:Nat}(h:an l<gB^n)(hj:n≤j):nth l j=0:=by
 have h1:=agn l j;rcases Nat.eq_zero_or_pos (nth l j)with h2|h2
 ·exact h2
 ·have h3:gB^n≤gB^j:=Nat.pow_le_pow_right dz hj;have h4:1*gB^j≤nth l j*gB^j:=Nat.mul_le_mul_right _ h2;omega
theorem afw{l:List Nat}(h:aU l)(i:Nat):an (l.drop i)=an l/gB^i:=by
 rcases Nat.lt_or_ge l.length i with g|g
 ·rw[List.drop_of_length_le zO];have h1:=sl h;have h2:gB^l.length≤gB^i:=Nat.pow_le_pow_right dz zO;rw[Nat.div_eq_of_lt zO];rfl
 ·have h1:=I0 l i g;have h2:=sl (m:=l.take i) (fun x hx=>h x (List.mem_of_mem_take hx));rw[List.length_take,Nat.min_eq_left g]at h2;rw[h1,Nat.add_mul_div_left _ _ (Nat.pow_pos dz),Nat.div_eq_of_lt h2];omega
theorem vj{l:List Nat}{i:Nat}(h:i<l.length):l.drop i=nth l i::l.drop (i+1):=by
 rw[List.drop_eq_getElem_cons h];simp[nth,h]
theorem alc{l:List Nat}{n:Nat}(h:n+3=l.length):an l=((nth l (n+2)*gB+nth l (n+1))*gB+nth l n)*gB^n+an (l.take n):=by
 rw[I0 l n zO,vj zO,vj zO,vj zO,List.drop_of_length_le zO];simp only[an,Nat.mul_zero,Nat.add_zero];rw[Nat.mul_comm (gB^n)];have:nth l n+gB*(nth l (n+1)+gB*nth l (n+2))=(nth l (n+2)*gB+nth l (n+1))*gB+nth l n:=by
  rw[Nat.mul_add,Nat.add_mul,Nat.mul_comm gB (nth l (n+1)),Nat.mul_comm (nth l (n+2)) gB,Nat.mul_comm (gB*nth l (n+2)) gB];omega
 rw[this];omega
theorem alb{l:List Nat}{n:Nat}(h:n+2=l.length):an l=(nth l (n+1)*gB+nth l n)*gB^n+an (l.take n):=by
 rw[I0 l n zO,vj zO,vj zO,List.drop_of_length_le zO];simp only[an,Nat.mul_zero,Nat.add_zero];rw[Nat.mul_comm (gB^n)];have:nth l n+gB*nth l (n+1)=nth l (n+1)*gB+nth l n:=by rw[Nat.mul_comm gB];omega
 rw[this];omega
def gG:List Nat→Nat→List Nat×Nat
 |[],_=>([],0)
 |a::l,d=>(((gG l d).2*gB+a)/d::(gG l d).1,((gG l d).2*gB+a)%d)
theorem Km(l:List Nat){d:Nat}(hd:0<d):(gG l d).2<d:=by
 cases l with
 |nil=>exact hd
 |cons a l=>exact Nat.mod_lt _ hd
theorem ajc(l:List Nat)(d:Nat):(gG l d).1.length=l.length:=by
 induction l with
 |nil=>rfl
 |cons a l ih=>simp[gG,ih]
theorem aja{r a d:Nat}(hr:r<d)(hd:d<gB)(ha:a<gB):r*gB+a<18446744073709551616:=by
 have:r*gB≤999999999*gB:=Nat.mul_le_mul_right _ (by unfold gB at*;omega);unfold gB at*;omega
theorem ajd{l:List Nat}{d:Nat}(hl:aU l)(hd:0<d):aU (gG l d).1:=by
 induction l with
 |nil=>intro x hx;simp[gG]at hx
 |cons a l ih=>
  intro x hx;simp only[gG,List.mem_cons]at hx;rcases hx with rfl|hx
  ·have h1:=Km l hd;have h2:=hl a zS;rw[Nat.div_lt_iff_lt_mul hd];have h3:((gG l d).2+1)*gB≤d*gB:=Nat.mul_le_mul_right _ h1;rw[Nat.add_mul]at h3;rw[Nat.mul_comm gB d];omega
  ·exact ih (fun y hy=>hl y (by simp[hy])) x hx
theorem aje(l:List Nat)(d:Nat):an l=an (gG l d).1*d+(gG l d).2:=by
 induction l with
 |nil=>simp[gG,an]
 |cons a l ih=>
  have h:=Nat.div_add_mod ((gG l d).2*gB+a) d;simp only[gG,an];rw[ih];generalize (gG l d).2=r at*;generalize an (gG l d).1=q at*;generalize (r*gB+a)/d=u at*;generalize (r*gB+a)%d=v at*;rw[Nat.mul_add,Nat.add_mul,Nat.mul_comm u d,←Nat.mul_assoc,Nat.mul_comm gB r];omega
theorem mulN{a:Nat}{b:Int}{c:Nat}(hb:b=(c:Int))(h:a*c<18446744073709551616):IntKind.u64.wrap ((a:Int)*b)=((a*c:Nat):Int):=by
 subst hb;have e:(a:Int)*(c:Int)=((a*c:Nat):Int):=by simp
 rw[e];exact B_ zO zO
theorem J2{a d:Nat}(h:a<18446744073709551616):IntKind.u64.wrap ((a:Int).tdiv (d:Int))=((a/d:Nat):Int):=by
 have e:(a:Int).tdiv (d:Int)=((a/d:Nat):Int):=by
  rw[Int.tdiv_eq_ediv_of_nonneg zO];simp
 rw[e];have:a/d≤a:=Nat.div_le_self _ _;generalize a/d=q at this⊢;exact B_ zO zO
theorem aix(a d:Nat):(a:Int).tmod (d:Int)=((a%d:Nat):Int):=by
 rw[Int.tmod_eq_emod_of_nonneg zO];simp
theorem Td(i:List Nat)(x:Nat)(s:List Nat):List.replicate (i++[x]).length 0++s=List.replicate i.length 0++0::s:=by simp[List.replicate_succ']
theorem Z1{i:List Nat}{x:Nat}{s:List Nat}:(aV (List.replicate (i++[x]).length 0++s))[i.length]?=some [.raw (.int .u64 ((0:Nat):Int))]:=by
 rw[Td];have h:=eX (List.replicate i.length 0) 0 s;rw[List.length_replicate]at h;exact h
theorem Z2{i:List Nat}{x:Nat}{s:List Nat}{q:Nat}:(aV (List.replicate (i++[x]).length 0++s)).set i.length [.raw (.int .u64 (q:Int))]=aV (List.replicate i.length 0++q::s):=by
 rw[Td];have h:=rN (List.replicate i.length 0) 0 q s;rw[List.length_replicate]at h;exact h
theorem fS{out:List Nat}{j:Nat}(h:j<out.length):(aV out)[j]?=some [.raw (.int .u64 (nth out j:Int))]:=by
 simp[aV,Ei h]
theorem rO{out:List Nat}{j v:Nat}:(aV out).set j [.raw (.int .u64 (v:Int))]=aV (out.set j v):=by
 simp[aV,List.map_set]
def TI(out:List Nat)(c i k V a:Nat)(pre:List Nat):Prop:=
 aU out∧c<gB∧an out+c*gB^(i+pre.length)=V+a*an pre*gB^i∧∀j,i+k≤j→nth out j=0
def TO(out:List Nat)(i k V:Nat):Prop:=aU out∧an out=V∧∀j,i+k≤j→nth out j=0
theorem Fs{out:List Nat}{i k V:Nat}(a:Nat)(h:TO out i k V):TI out 0 i k V a []:=⟨h.1,dz,by simp[an,h.2.1],h.2.2⟩
theorem Fw(x y:List Nat)(n:Nat):TO (List.replicate n 0) 0 y.length (an []*an y):=⟨QO n,by rw[QQ];simp[an],fun j _=>by
 unfold nth;rw[List.getElem?_replicate];split<;>rfl⟩
theorem Fv{c n a b:Nat}(hc:c<gB)(hn:n<gB)(ha:a<gB)(hb:b<gB):c+(n+a*b)<gB*gB:=by
 have h1:a*b≤(gB-1)*(gB-1):=Nat.mul_le_mul zO zO;unfold gB at*;omega
theorem tj{c n a b:Nat}(hc:c<gB)(hn:n<gB)(ha:a<gB)(hb:b<gB):a*b<18446744073709551616∧n+a*b<18446744073709551616∧c+(n+a*b)<18446744073709551616:=by
 have h:=Fv hc hn ha hb;have h2:gB*gB<18446744073709551616:=by decide
 omega
theorem Ft{out pre:List Nat}{c i k V a b:Nat}(h:TI out c i k V a pre)(ha:a<gB)(hb:b<gB)(hk:pre.length<k)(hl:i+pre.length<out.length):
  TI (out.set (i+pre.length) ((c+(nth out (i+pre.length)+a*b))%gB)) ((c+(nth out (i+pre.length)+a*b))/gB) i k V a (pre++[b]):=by
 obtain⟨h1,h2,h3,h4⟩:=h;have fp:=Fv h2 (dP h1 (i+pre.length)) ha hb;refine⟨ug h1 (Nat.mod_lt _ dz),?_,?_,fun j hj=>?_⟩
 ·rw[Nat.div_lt_iff_lt_mul dz];exact fp
 ·have hs:=LG (t:=c+(nth out (i+pre.length)+a*b)) (c:=c+a*b) hl rfl zO;rw[List.length_append,show i+(pre.length+[b].length)=i+pre.length+1 by simp;omega,hs,Nat.add_mul,←Nat.add_assoc,h3,wq,Nat.mul_add,Nat.add_mul,Nat.pow_add];rw[Nat.add_assoc]
  congr 2
  rw[Nat.mul_comm (gB^i),←Nat.mul_assoc,←Nat.mul_assoc]
 ·rw[yF hl,if_neg zO];exact h4 j hj
theorem Fu{out pre y:List Nat}{c a k:Nat}(h:TI out c pre.length y.length (an pre*an y) a y)(hk:0<y.length)(hl:pre.length+y.length<out.length)(hn:k=nth out (pre.length+y.length)+c):
  TO (out.set (pre.length+y.length) k) (pre++[a]).length y.length (an (pre++[a])*an y):=by
 obtain⟨h1,h2,h3,h4⟩:=h;have h0:=h4 (pre.length+y.length) (Nat.le_refl _);subst hn;have hs:=yq (v:=nth out (pre.length+y.length)+c) hl;rw[h0]at hs;rw[h0];refine⟨ug h1 zO,?_,fun j hj=>?_⟩
 ·simp only[Nat.zero_mul,Nat.zero_add,Nat.add_zero]at hs⊢;rw[hs,h3,wq,Nat.add_mul]
  congr 1
  rw[Nat.mul_right_comm]
 ·simp only[List.length_append,List.length_cons,List.length_nil]at hj;rw[yF hl,if_neg zO];exact h4 j zO
theorem K5{out pre y:List Nat}{c a:Nat}(h:TI out c pre.length y.length (an pre*an y) a y)(hk:y.length=0):
  TO out (pre++[a]).length y.length (an (pre++[a])*an y):=by
 obtain⟨h1,h2,h3,h4⟩:=h;have e:=List.eq_nil_of_length_eq_zero hk;subst e;refine⟨h1,?_,fun j hj=>h4 j (by simp at hj⊢;omega)⟩;simp only[an,Nat.mul_zero,Nat.zero_mul]at h3⊢;omega
theorem zi{out x y:List Nat}{i k:Nat}(h:TO out i k (an x*an y)):bh out=au (an x*an y):=by rw[vb h.1,h.2.1]
variable[bV]
theorem Vr.RN{w:World}{O:Nat→Prop}{b sz:Nat}:∀(rows:List (List D))(off:Nat),rows.all (fun r=>Nat.beq r.length sz)=true→Vc w O b off rows.flatten→Vr w O b off sz rows
 |[],off,_,_=>by simp[Vr]
 |r::rs,off,hl,h=>by
  simp only[List.all_cons,Bool.and_eq_true,Nat.beq_eq]at hl;have h1:=h.take r.length;have h2:=h.drop r.length;simp only[List.flatten_cons,List.take_left,List.drop_left]at h1 h2;simp only[Vr];exact⟨⟨hl.1,h1⟩,Vr.RN rs (off+sz) hl.2 (hl.1▸h2)⟩
theorem ah'{P:Program}{env:Env}{dst:Option Tmp}{ty:TypeId}{pos:String}{ar:Array Edge}{g:Option (Nat×Bool)}{t e:TypeId}{x:Operand}{n sz:Nat}{cs:List D}{rows:List (List D)}(hu:P.underlying t=some (.array n e))(hs:∀w,(sizeOf e).run P w=.ok sz w)(hx:env.op x=some (.aY cs))(hn:0<n)(tT:n<4611686018427387904)
  (hr:rows.flatten=cs)(hl:rows.length=n)(fq:rows.all (fun r=>Nat.beq r.length sz)=true)(hb:n≤aG)(U:ae):
  aq P ⟨dst,.slice t x none none none,ty,pos,ar,g⟩ env U (.snap sz true rows) U:=
 .val fun O ρ a w _ hv=>by
  have h1:=hv x (by simp[Op.operands]) _ hx;simp only[V]at h1;obtain⟨b,off,e1,ho,h2⟩:=h1;have Ag:(Instr.sliceBounds false n n none none none).run P w=.ok (0,n,n) w:=by simp[Instr.sliceBounds]
  refine⟨.slice (some ⟨b,off,none⟩) n n,?_,?_⟩
  ·simp[execOp,Instr.sliceAt,Instr.sureAddr,bY hu,e1,Ag,hs,FF]
  ·simp only[V];refine⟨_,n,by rw[hl],⟨by omega,by omega⟩,fun _=>hl.symm,fun _=>⟨b,off,rfl,ho,?_⟩⟩;exact Vr.RN rows off fq (hr▸h2)
theorem SO{P:Program}{env:Env}{dst:Option Tmp}{ty:TypeId}{pos:String}{ar:Array Edge}{g:Option (Nat×Bool)}{t e:TypeId}{x y:Operand}{n sz:Nat}{k:IntKind}{i:Int}{cs r:List D}(hu:P.underlying t=some (.array n e))(ha:∀w,(isAgg e).run P w=.ok true w)(hs:∀w,(sizeOf e).run P w=.ok sz w)
  (hx:env.op x=some (.agg cs))(hy:env.op y=some (.raw (.int k i)))(h0:0≤i)(hi:i<n)(hl:i.toNat*sz+sz≤cs.length)(hr:(cs.drop (i.toNat*sz)).take sz=r)(U:ae):
  aq P ⟨dst,.index t x y,ty,pos,ar,g⟩ env U (.agg r) U:=
 .val fun O ρ a w _ hv=>by
  have h1:=hv x (by simp[Op.operands]) _ hx;have h2:=hv y (by simp[Op.operands]) _ hy;simp only[V]at h1 h2;obtain⟨vs,e1,h3⟩:=h1;refine⟨.agg (vs.extract (i.toNat*sz) (i.toNat*sz+sz)),?_,?_⟩
  ·simp[execOp,Instr.index,h2,asIntOf,bY hu,e1,h0,hi,hs,part,ha]
  ·simp only[V];refine⟨_,rfl,?_⟩;rw[Array.toList_extract,List.extract_eq_take_drop,←hr,Nat.add_sub_cancel_left];exact Vs.take sz (Vs.drop (i.toNat*sz) h3)
end Go.T
