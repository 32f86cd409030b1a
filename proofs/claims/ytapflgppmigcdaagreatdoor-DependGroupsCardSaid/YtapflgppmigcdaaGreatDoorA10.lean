/-
  Contracts of the functions that the statement reaches, and the logic in which they are proved (no condition): parts W23, W24, W25, W26, W71, Div1, Div2, Div3, Div4, Div5, Core43.
-/
import Derived.Test.YtapflgppmigcdaaGreatDoorA09
set_option linter.all false
namespace Go.T
open Go Go.Proofs Go.Proofs.Tryz
set_option maxRecDepth 20000
theorem Zr(m:List Nat)(hm:m.length≠0)(hs:m.length≤20000):dF Tryz.prog 323 [aF m] [] (.gs 7100 m.length) [(7100,.arr 1 (bb m))]:=by
 refine dF.mk' [2] func323 rfl ntmps323 rfl rfl rfl (fun t w=>results_tmp results323 t _ w) ?_;refine J.seq (J.af [.p] ?_);refine .ag rfl rfl<|.nil ?_;refine J.seq (J.seq (J.af [.p,.p] ?_));refine .mv rfl rfl<|.P rfl (ajJ underlying244 rfl rfl (by intro e;apply hm;simpa using congrArg List.length e))<|.nil ?_;refine J.eF rfl rfl ?_;refine J.skip ?_;refine J.seq (J.af [.p,.p,.w,.p] ?_);refine .P rfl (tL underlying244 sizeOf184)<|.mv rfl rfl<|.W rfl (aq.jy 7099 1 (t:=5) rfl (Sub.yA _ _) (fq 7100 underlying244 underlying244 sizeOf184 typeInfo184 zeroValue184 rfl (bt:=8) rfl rfl rfl rfl rfl rfl rfl zQ))<|.ag rfl rfl<|.nil ?_;refine J.ret (?_);exact vm rfl (by exact Sub.gs zS) (.eq rfl zS rfl .nil)
structure ahB(x y:List Nat)where
 out:List Nat
 rest:List Nat
 c:Nat
 hl:x.length=out.length+rest.length
 hc:c≤1
 ho:aR rest
 hr:out++fN rest (y.drop out.length) c=fN x y 0
theorem FF(x y:List Nat)(hx:x.length≠0)(uQ:x.length≤20000)(y0:y.length≤20000)(iG:aR x)(s4:aR y):Fc Tryz.prog 281 [aF x,aF y] (aF (bm (fN x y 0))):=by
 refine Fc.mk' [4] func281 rfl ntmps281 rfl rfl rfl (fun t w=>results_tmp results281 t _ w) ?_;refine J.seq (J.af [.p] ?_);refine .ag rfl rfl<|.nil ?_;refine J.seq (J.af [.p,.w,.p] ?_);refine .mv rfl rfl<|.W rfl (hJ call323 rfl (Zr _ zO zO) .nil rfl rfl)<|.ag rfl rfl<|.nil ?_;refine J.seq (J.af [.p] ?_);refine .ag rfl rfl<|.nil ?_;refine J.seq (J.seq (J.af [.p,.p,.p] ?_));refine .mv rfl rfl<|.P rfl (tM underlying244 rfl)<|.mv rfl rfl<|.nil ?_;refine J.block ?_;refine J.loop (ι:=ahB x y) (fun sx=>[(1,aF y),(5,.gs 7100 x.length),(6,.raw (.int .u64 (sx.c:Int))),(12,.i x.length),(13,.i sx.out.length)]) (fun sx=>[(7100,.arr 1 (bb (sx.out++sx.rest)))]) (fun sx=>sx.rest.length) ⟨[],x,0,by simp,by omega,iG,by simp⟩ ?_ ?_
 ·exact Le.mk rfl (.s rfl rfl (.cons rfl (Sub.gs zS) rfl (.s rfl rfl (.s rfl rfl (.s rfl rfl .nil))))) (.arr rfl (by rfl) .nil)
 ·rintro⟨out,rest,c,hl,hc,ho,hr⟩;show J _ _ _ _ [(1,aF y),(5,.gs 7100 x.length),(6,.raw (.int .u64 (c:Int))),(12,.i x.length),(13,.i out.length)] [(7100,.arr 1 (bb (out++rest)))];rcases rest with _|⟨a,rest⟩
  ·skip;refine J.seq (J.af [.p] ?_);refine .P rfl (bQ rfl rfl)<|.nil ?_;refine J.seq ?_;refine J.eF rfl (by simp at hl⊢;omega) ?_;refine J.exit (dO (dG ?_));refine J.bE (Le.freeze 5 7100 rfl rfl (by simp at hl⊢;omega)) ?_;refine J.seq (J.af [.p,.p,.p] ?_);refine .mv rfl rfl<|.P rfl (ai call284 rfl (q7 _))<|.ag rfl rfl<|.nil ?_;refine J.ret (?_);exact dn rfl (Sub.snap (by simp[fN]at hr;simp[hr]))
  ·simp only[List.length_cons]at hl;have ha:=ho a zS;have hb:=Ll (k:=out.length) s4;refine J.seq (J.af [.p] ?_);refine .P rfl (bQ rfl rfl)<|.nil ?_;refine J.seq ?_;refine J.gu rfl zQ ?_;refine J.skip ?_;refine J.seq ?_;refine J.block ?_;refine J.seq (J.af [.p,.p] ?_);refine .mv rfl rfl<|.ag rfl rfl<|.nil ?_;refine J.seq (J.af [.p,.p] ?_);refine .mv rfl rfl<|.ag rfl rfl<|.nil ?_;refine J.seq (J.seq (J.af [.p,.p,.p,.p] ?_));refine .mv rfl rfl<|.mv rfl rfl<|.P rfl (cY underlying244 rfl)<|.P rfl (bQ rfl rfl)<|.nil ?_;refine J.cond rfl (fun h1=>?_) (fun h1=>?_)
   ·refine J.af [.p,.p,.p,.p,.p,.p,.p] ?_;refine .mv rfl rfl<|.mv rfl rfl<|.mv rfl rfl<|.P rfl (gm underlying244 sizeOf184 rfl rfl zO (s7 (Cf (by simp at*;omega)) rfl))<|.P rfl (bP isAgg184 rfl)<|.P rfl (bU rfl rfl (addN (by unfold gB at*;omega)))<|.ag rfl rfl<|.nil ?_;refine J.seq (J.af [.p] ?_);refine .ag rfl rfl<|.nil ?_;refine J.seq (J.seq (J.af [.p,.p,.p,.r,.p,.p] ?_));refine .mv rfl rfl<|.mv rfl rfl<|.P rfl (bS (off:=(out.length)*1) underlying244 sizeOf184 rfl rfl zO zQ zO)<|.R rfl (eX (r:=_) (out.length) 0 isAgg184 rfl rfl rfl (fj _ _ _) rfl)<|.mv rfl rfl<|.P rfl (bQ rfl rfl)<|.nil ?_;refine J.cond rfl (fun h2=>?_) (fun h2=>?_)
    ·have de:=h2;try simp only[bs]at de
     refine J.seq (J.af [.p,.p,.p,.r,.p,.p,.w] ?_);refine .mv rfl rfl<|.mv rfl rfl<|.P rfl (bS (off:=(out.length)*1) underlying244 sizeOf184 rfl rfl zO zQ zO)<|.R rfl (eX (r:=_) (out.length) 0 isAgg184 rfl rfl rfl (fj _ _ _) rfl)<|.P rfl (bU rfl rfl (addN (b:=gB) (by unfold gB at*;omega)))<|.P rfl (bS (off:=(out.length)*1) underlying244 sizeOf184 rfl rfl zO zQ zO)<|.W rfl (gH (r:=_) (out.length) 0 sizeOf184 rfl rfl rfl rfl rfl rfl (fj _ _ _) zS)<|.nil ?_;refine J.af [.p] ?_;refine .ag rfl rfl<|.nil ?_;refine J.af [.p,.p,.p,.r,.p,.p,.p,.w] ?_;refine .mv rfl rfl<|.mv rfl rfl<|.P rfl (bS (off:=(out.length)*1) underlying244 sizeOf184 rfl rfl zO zQ zO)<|.R rfl (eX (r:=_) (out.length) 0 isAgg184 rfl rfl rfl (gx (fj _ _ _)) rfl)<|.mv rfl rfl<|.P rfl (dw rfl rfl (qO zO (by unfold gB at*;omega)))<|.P rfl (bS (off:=(out.length)*1) underlying244 sizeOf184 rfl rfl zO zQ zO)<|.W rfl (gH (r:=_) (out.length) 0 sizeOf184 rfl rfl rfl rfl rfl rfl (gx (fj _ _ _)) zS)<|.nil ?_;refine J.nil (cn ?_);refine J.af [.p,.p] ?_;refine .P rfl (bU rfl rfl (aw zO))<|.mv rfl rfl<|.nil ?_;refine J.nil (cZ ?_);exact⟨⟨out++[a+gB-(c+k8 y out.length)],rest,1,by simp;omega,by omega,fun u hu=>ho u (by simp[hu]),by rw[←hr,MC (by simp at*;omega),if_pos zO,if_pos zO];simp⟩,by simp,Le.mk rfl (.s rfl rfl (.cons rfl (Sub.gs zS) rfl (.s rfl rfl (.s rfl rfl (.cons rfl (Sub.int zS) rfl .nil))))) (.arr rfl (by skip;simp only[List.set_set,List.set_cons_zero];exact(sF _ _ _ _).trans zS) .nil)⟩
    ·have de:=h2;try simp only[bs]at de
     refine J.skip ?_;refine J.af [.p,.p,.p,.r,.p,.p,.p,.w] ?_;refine .mv rfl rfl<|.mv rfl rfl<|.P rfl (bS (off:=(out.length)*1) underlying244 sizeOf184 rfl rfl zO zQ zO)<|.R rfl (eX (r:=_) (out.length) 0 isAgg184 rfl rfl rfl (fj _ _ _) rfl)<|.mv rfl rfl<|.P rfl (dw rfl rfl (qO zO (by unfold gB at*;omega)))<|.P rfl (bS (off:=(out.length)*1) underlying244 sizeOf184 rfl rfl zO zQ zO)<|.W rfl (gH (r:=_) (out.length) 0 sizeOf184 rfl rfl rfl rfl rfl rfl (fj _ _ _) zS)<|.nil ?_;refine J.nil (cn ?_);refine J.af [.p,.p] ?_;refine .P rfl (bU rfl rfl (aw zO))<|.mv rfl rfl<|.nil ?_;refine J.nil (cZ ?_);exact⟨⟨out++[a-(c+k8 y out.length)],rest,0,by simp;omega,by omega,fun u hu=>ho u (by simp[hu]),by rw[←hr,MC (by simp at*;omega),if_neg zO,if_neg zO];simp⟩,by simp,Le.mk rfl (.s rfl rfl (.cons rfl (Sub.gs zS) rfl (.s rfl rfl (.s rfl rfl (.cons rfl (Sub.int zS) rfl .nil))))) (.arr rfl (by skip;simp only[List.set_set,List.set_cons_zero];exact(sF _ _ _ _).trans zS) .nil)⟩
   ·refine J.skip ?_;refine J.seq (J.af [.p] ?_);refine .ag rfl rfl<|.nil ?_;refine J.seq (J.seq (J.af [.p,.p,.p,.r,.p,.p] ?_));refine .mv rfl rfl<|.mv rfl rfl<|.P rfl (bS (off:=(out.length)*1) underlying244 sizeOf184 rfl rfl zO zQ zO)<|.R rfl (eX (r:=_) (out.length) 0 isAgg184 rfl rfl rfl (fj _ _ _) rfl)<|.mv rfl rfl<|.P rfl (bQ rfl rfl)<|.nil ?_;refine J.cond rfl (fun h3=>?_) (fun h3=>?_)
    ·have fI:=h3;try simp only[bs]at fI
     refine J.seq (J.af [.p,.p,.p,.r,.p,.p,.w] ?_);refine .mv rfl rfl<|.mv rfl rfl<|.P rfl (bS (off:=(out.length)*1) underlying244 sizeOf184 rfl rfl zO zQ zO)<|.R rfl (eX (r:=_) (out.length) 0 isAgg184 rfl rfl rfl (fj _ _ _) rfl)<|.P rfl (bU rfl rfl (addN (b:=gB) (by unfold gB at*;omega)))<|.P rfl (bS (off:=(out.length)*1) underlying244 sizeOf184 rfl rfl zO zQ zO)<|.W rfl (gH (r:=_) (out.length) 0 sizeOf184 rfl rfl rfl rfl rfl rfl (fj _ _ _) zS)<|.nil ?_;refine J.af [.p] ?_;refine .ag rfl rfl<|.nil ?_;refine J.af [.p,.p,.p,.r,.p,.p,.p,.w] ?_;refine .mv rfl rfl<|.mv rfl rfl<|.P rfl (bS (off:=(out.length)*1) underlying244 sizeOf184 rfl rfl zO zQ zO)<|.R rfl (eX (r:=_) (out.length) 0 isAgg184 rfl rfl rfl (gx (fj _ _ _)) rfl)<|.mv rfl rfl<|.P rfl (dw rfl rfl (qO zO (by unfold gB at*;omega)))<|.P rfl (bS (off:=(out.length)*1) underlying244 sizeOf184 rfl rfl zO zQ zO)<|.W rfl (gH (r:=_) (out.length) 0 sizeOf184 rfl rfl rfl rfl rfl rfl (gx (fj _ _ _)) zS)<|.nil ?_;refine J.nil (cn ?_);refine J.af [.p,.p] ?_;refine .P rfl (bU rfl rfl (aw zO))<|.mv rfl rfl<|.nil ?_;refine J.nil (cZ ?_);exact⟨⟨out++[a+gB-c],rest,1,by simp;omega,by omega,fun u hu=>ho u (by simp[hu]),by rw[←hr,MB (by simp at*;omega),if_pos zO,if_pos zO];simp⟩,by simp,Le.mk rfl (.s rfl rfl (.cons rfl (Sub.gs zS) rfl (.s rfl rfl (.s rfl rfl (.cons rfl (Sub.int zS) rfl .nil))))) (.arr rfl (by skip;simp only[List.set_set,List.set_cons_zero];exact(sF _ _ _ _).trans zS) .nil)⟩
    ·have fI:=h3;try simp only[bs]at fI
     refine J.skip ?_;refine J.af [.p,.p,.p,.r,.p,.p,.p,.w] ?_;refine .mv rfl rfl<|.mv rfl rfl<|.P rfl (bS (off:=(out.length)*1) underlying244 sizeOf184 rfl rfl zO zQ zO)<|.R rfl (eX (r:=_) (out.length) 0 isAgg184 rfl rfl rfl (fj _ _ _) rfl)<|.mv rfl rfl<|.P rfl (dw rfl rfl (qO zO (by unfold gB at*;omega)))<|.P rfl (bS (off:=(out.length)*1) underlying244 sizeOf184 rfl rfl zO zQ zO)<|.W rfl (gH (r:=_) (out.length) 0 sizeOf184 rfl rfl rfl rfl rfl rfl (fj _ _ _) zS)<|.nil ?_;refine J.nil (cn ?_);refine J.af [.p,.p] ?_;refine .P rfl (bU rfl rfl (aw zO))<|.mv rfl rfl<|.nil ?_;refine J.nil (cZ ?_);exact⟨⟨out++[a-c],rest,0,by simp;omega,by omega,fun u hu=>ho u (by simp[hu]),by rw[←hr,MB (by simp at*;omega),if_neg zO,if_neg zO];simp⟩,by simp,Le.mk rfl (.s rfl rfl (.cons rfl (Sub.gs zS) rfl (.s rfl rfl (.s rfl rfl (.cons rfl (Sub.int zS) rfl .nil))))) (.arr rfl (by skip;simp only[List.set_set,List.set_cons_zero];exact(sF _ _ _ _).trans zS) .nil)⟩
structure Va(p q:List Nat)where
 out:List Nat
 rest:List Nat
 c:Nat
 hl:p.length=out.length+rest.length
 hc:c≤1
 ho:aR rest
 hr:out++gY rest (q.drop out.length) c=gY p q 0
theorem ajq(x y:List Nat)(aD:x.length≠0∨y.length≠0)(uQ:x.length≤20000)(y0:y.length≤20000)(iG:aR x)(s4:aR y):Fc Tryz.prog 280 [aF x,aF y] (aF (mE x y)):=by
 refine Fc.mk' [4] func280 rfl ntmps280 rfl rfl rfl (fun t w=>results_tmp results280 t _ w) ?_;refine J.seq (J.af [.p] ?_);refine .ag rfl rfl<|.nil ?_;refine J.seq (J.seq (J.af [.p,.p,.p,.p,.p] ?_));refine .mv rfl rfl<|.P rfl (cY underlying244 rfl)<|.mv rfl rfl<|.P rfl (cY underlying244 rfl)<|.P rfl (bQ rfl rfl)<|.nil ?_;refine J.cond rfl (fun h1=>?_) (fun h1=>?_)
 ·have bJ:=h1;try simp only[bs]at bJ
  refine J.af [.p,.p,.p,.p] ?_;refine .mv rfl rfl<|.mv rfl rfl<|.ag rfl rfl<|.ag rfl rfl<|.nil ?_;refine J.seq (J.af [.p,.p,.p,.p,.p,.w,.p] ?_);refine .mv rfl rfl<|.P rfl (cY underlying244 rfl)<|.mv rfl rfl<|.P rfl (cY underlying244 rfl)<|.P rfl (bU rfl rfl (en zO zQ))<|.W rfl (vj (bt:=8) 0 _ underlying244 sizeOf184 typeInfo184 zeroValue184 rfl rfl rfl rfl rfl rfl (Int.natCast_succ _).symm zO (by rw[List.length_map];omega) zQ zQ rfl)<|.ag rfl rfl<|.nil ?_;refine J.seq (J.af [.p,.p,.w] ?_);refine .mv rfl rfl<|.mv rfl rfl<|.W rfl (Vn underlying244 sizeOf184 rfl rfl rfl zS zS (by rw[List.length_map];omega))<|.nil ?_;refine J.seq (J.af [.p] ?_);refine .ag rfl rfl<|.nil ?_;refine J.seq (J.seq (J.af [.p,.p,.p] ?_));refine .mv rfl rfl<|.P rfl (tM underlying244 rfl)<|.mv rfl rfl<|.nil ?_;refine J.block ?_;refine J.loop (ι:=Va y x) (fun sx=>[(1,aF x),(5,.gs 0 y.length),(6,.raw (.int .u64 (sx.c:Int))),(25,.i y.length),(26,.i sx.out.length)]) (fun sx=>[(0,.arr 1 (bb (sx.out++sx.rest)))]) (fun sx=>sx.rest.length) ⟨[],y,0,by simp,by omega,s4,by simp⟩ ?_ ?_
  ·exact Le.mk rfl (.s rfl rfl (.cons rfl (Sub.gs zS) rfl (.s rfl rfl (.cons rfl (Sub.int zS) rfl (.s rfl rfl .nil))))) (.arr rfl (by rfl) .nil)
  ·rintro⟨out,rest,c,hl,hc,ho,hr⟩;show J _ _ _ _ [(1,aF x),(5,.gs 0 y.length),(6,.raw (.int .u64 (c:Int))),(25,.i y.length),(26,.i out.length)] [(0,.arr 1 (bb (out++rest)))];rcases rest with _|⟨a,rest⟩
   ·skip;refine J.seq (J.af [.p] ?_);refine .P rfl (bQ rfl rfl)<|.nil ?_;refine J.seq ?_;refine J.eF rfl (by simp at hl⊢;omega) ?_;refine J.exit (dO (dG ?_));refine J.seq (J.seq (J.af [.p,.p] ?_));refine .mv rfl rfl<|.P rfl (gn rfl rfl)<|.nil ?_;refine J.cond rfl (fun h2=>?_) (fun h2=>?_)
    ·have de:=h2;try simp only[bs]at de
     refine J.af [.p,.p,.p,.w,.p] ?_;refine .mv rfl rfl<|.mv rfl rfl<|.P rfl (bK (n:=1) (rows:=bb [c]) underlying244 sizeOf184 rfl rfl rfl zeroValue184 rfl rfl rfl rfl rfl rfl rfl)<|.W rfl (fq 1 underlying244 underlying244 sizeOf184 typeInfo184 zeroValue184 rfl (bt:=8) rfl rfl rfl rfl (by simp at hl⊢;omega) rfl rfl (by simp at*;omega))<|.ag rfl rfl<|.nil ?_;refine J.seq (J.af [.p,.p] ?_);refine .mv rfl rfl<|.ag rfl rfl<|.nil ?_;refine J.bE (Le.freeze 4 1 rfl rfl (by simp at hl⊢;omega)) ?_;refine J.ret (?_);exact dn rfl (Sub.snap (by(rw[U' (by simp at*;omega)]);rw[←hr];simp only[gY];(rw[if_pos zO]);try simp))
    ·have de:=h2;try simp only[bs]at de
     refine J.skip ?_;refine J.seq (J.af [.p,.p] ?_);refine .mv rfl rfl<|.ag rfl rfl<|.nil ?_;refine J.bE (Le.freeze 4 0 rfl rfl (by simp at hl⊢;omega)) ?_;refine J.ret (?_);exact dn rfl (Sub.snap (by(rw[U' (by simp at*;omega)]);rw[←hr];simp only[gY];(rw[if_neg zO]);try simp))
   ·simp only[List.length_cons]at hl;have ha:=ho a zS;have hb:=Ll (k:=out.length) iG;refine J.seq (J.af [.p] ?_);refine .P rfl (bQ rfl rfl)<|.nil ?_;refine J.seq ?_;refine J.gu rfl zQ ?_;refine J.skip ?_;refine J.seq ?_;refine J.block ?_;refine J.seq (J.af [.p,.p] ?_);refine .mv rfl rfl<|.ag rfl rfl<|.nil ?_;refine J.seq (J.af [.p,.p,.p,.r,.p,.p,.p,.w] ?_);refine .mv rfl rfl<|.mv rfl rfl<|.P rfl (bS (off:=(out.length)*1) underlying244 sizeOf184 rfl rfl zO zQ zO)<|.R rfl (eX (r:=_) (out.length) 0 isAgg184 rfl rfl rfl (fj _ _ _) rfl)<|.mv rfl rfl<|.P rfl (bU rfl rfl (addN (by unfold gB at*;omega)))<|.P rfl (bS (off:=(out.length)*1) underlying244 sizeOf184 rfl rfl zO zQ zO)<|.W rfl (gH (r:=_) (out.length) 0 sizeOf184 rfl rfl rfl rfl rfl rfl (fj _ _ _) zS)<|.nil ?_;refine J.seq (J.seq (J.af [.p,.p,.p,.p] ?_));refine .mv rfl rfl<|.mv rfl rfl<|.P rfl (cY underlying244 rfl)<|.P rfl (bQ rfl rfl)<|.nil ?_;refine J.cond rfl (fun h3=>?_) (fun h3=>?_)
    ·refine J.oU [.p,.p,.p,.r,.p,.p,.p,.p,.p,.p,.w] lh zK ?_;refine .mv rfl rfl<|.mv rfl rfl<|.P rfl (bS (off:=(out.length)*1) underlying244 sizeOf184 rfl rfl zO zQ zO)<|.R rfl (eX (r:=_) (out.length) 0 isAgg184 rfl rfl rfl (gx (fj _ _ _)) rfl)<|.mv rfl rfl<|.mv rfl rfl<|.P rfl (gm underlying244 sizeOf184 rfl rfl zO (s7 (Cf (by simp at*;omega)) rfl))<|.P rfl (bP isAgg184 rfl)<|.P rfl (bU rfl rfl (addN (by unfold gB at*;omega)))<|.P rfl (bS (off:=(out.length)*1) underlying244 sizeOf184 rfl rfl zO zQ zO)<|.W rfl (gH (r:=_) (out.length) 0 sizeOf184 rfl rfl rfl rfl rfl rfl (gx (fj _ _ _)) zS)<|.nil ?_;refine J.seq (J.af [.p,.p,.p,.r,.p,.p] ?_);refine .mv rfl rfl<|.mv rfl rfl<|.P rfl (bS (off:=(out.length)*1) underlying244 sizeOf184 rfl rfl zO zQ zO)<|.R rfl (eX (r:=_) (out.length) 0 isAgg184 rfl rfl rfl (gx (gx (fj _ _ _))) rfl)<|.P rfl (lO rfl rfl zD (vk (by unfold gB at*;omega)))<|.ag rfl rfl<|.nil ?_;refine J.af [.p,.p,.p,.r,.p,.p,.w] ?_;refine .mv rfl rfl<|.mv rfl rfl<|.P rfl (bS (off:=(out.length)*1) underlying244 sizeOf184 rfl rfl zO zQ zO)<|.R rfl (eX (r:=_) (out.length) 0 isAgg184 rfl rfl rfl (gx (gx (fj _ _ _))) rfl)<|.P rfl (oS rfl rfl zD (tR _))<|.P rfl (bS (off:=(out.length)*1) underlying244 sizeOf184 rfl rfl zO zQ zO)<|.W rfl (gH (r:=_) (out.length) 0 sizeOf184 rfl rfl rfl rfl rfl rfl (gx (gx (fj _ _ _))) zS)<|.nil ?_;refine J.nil (cn ?_);refine J.af [.p,.p] ?_;refine .P rfl (bU rfl rfl (aw zO))<|.mv rfl rfl<|.nil ?_;refine J.nil (cZ ?_)
     exact⟨⟨out++[(a+c+k8 x out.length)%gB],rest,(a+c+k8 x out.length)/gB,by simp;omega,by rw[Nat.div_le_iff_le_mul_add_pred dv];unfold gB at*;omega,fun u hu=>ho u (by simp[hu]),by rw[←hr,Nb (by simp at*;omega)];simp⟩,by simp,Le.mk rfl (.s rfl rfl (.cons rfl (Sub.gs zS) rfl (.s rfl rfl (.s rfl rfl (.cons rfl (Sub.int zS) rfl .nil))))) (.arr rfl (by skip;simp only[List.set_set,List.set_cons_zero];exact(sF _ _ _ _).trans zS) .nil)⟩
    ·refine J.skip ?_;refine J.seq (J.af [.p,.p,.p,.r,.p,.p] ?_);refine .mv rfl rfl<|.mv rfl rfl<|.P rfl (bS (off:=(out.length)*1) underlying244 sizeOf184 rfl rfl zO zQ zO)<|.R rfl (eX (r:=_) (out.length) 0 isAgg184 rfl rfl rfl (gx (fj _ _ _)) rfl)<|.P rfl (lO rfl rfl zD (vk (by unfold gB at*;omega)))<|.ag rfl rfl<|.nil ?_;refine J.af [.p,.p,.p,.r,.p,.p,.w] ?_;refine .mv rfl rfl<|.mv rfl rfl<|.P rfl (bS (off:=(out.length)*1) underlying244 sizeOf184 rfl rfl zO zQ zO)<|.R rfl (eX (r:=_) (out.length) 0 isAgg184 rfl rfl rfl (gx (fj _ _ _)) rfl)<|.P rfl (oS rfl rfl zD (tR _))<|.P rfl (bS (off:=(out.length)*1) underlying244 sizeOf184 rfl rfl zO zQ zO)<|.W rfl (gH (r:=_) (out.length) 0 sizeOf184 rfl rfl rfl rfl rfl rfl (gx (fj _ _ _)) zS)<|.nil ?_;refine J.nil (cn ?_);refine J.af [.p,.p] ?_;refine .P rfl (bU rfl rfl (aw zO))<|.mv rfl rfl<|.nil ?_;refine J.nil (cZ ?_);exact⟨⟨out++[(a+c)%gB],rest,(a+c)/gB,by simp;omega,by rw[Nat.div_le_iff_le_mul_add_pred dv];unfold gB at*;omega,fun u hu=>ho u (by simp[hu]),by rw[←hr,Na (by simp at*;omega)];simp⟩,by simp,Le.mk rfl (.s rfl rfl (.cons rfl (Sub.gs zS) rfl (.s rfl rfl (.s rfl rfl (.cons rfl (Sub.int zS) rfl .nil))))) (.arr rfl (by skip;simp only[List.set_set,List.set_cons_zero];exact(sF _ _ _ _).trans zS) .nil)⟩
 ·have bJ:=h1;try simp only[bs]at bJ
  refine J.skip ?_;refine J.seq (J.af [.p,.p,.p,.p,.p,.w,.p] ?_);refine .mv rfl rfl<|.P rfl (cY underlying244 rfl)<|.mv rfl rfl<|.P rfl (cY underlying244 rfl)<|.P rfl (bU rfl rfl (en zO zQ))<|.W rfl (vj (bt:=8) 0 _ underlying244 sizeOf184 typeInfo184 zeroValue184 rfl rfl rfl rfl rfl rfl (Int.natCast_succ _).symm zO (by rw[List.length_map];omega) zQ zQ rfl)<|.ag rfl rfl<|.nil ?_;refine J.seq (J.af [.p,.p,.w] ?_);refine .mv rfl rfl<|.mv rfl rfl<|.W rfl (Vn underlying244 sizeOf184 rfl rfl rfl zS zS (by rw[List.length_map];omega))<|.nil ?_;refine J.seq (J.af [.p] ?_);refine .ag rfl rfl<|.nil ?_;refine J.seq (J.seq (J.af [.p,.p,.p] ?_));refine .mv rfl rfl<|.P rfl (tM underlying244 rfl)<|.mv rfl rfl<|.nil ?_;refine J.block ?_;refine J.loop (ι:=Va x y) (fun sx=>[(1,aF y),(5,.gs 0 x.length),(6,.raw (.int .u64 (sx.c:Int))),(25,.i x.length),(26,.i sx.out.length)]) (fun sx=>[(0,.arr 1 (bb (sx.out++sx.rest)))]) (fun sx=>sx.rest.length) ⟨[],x,0,by simp,by omega,iG,by simp⟩ ?_ ?_
  ·exact Le.mk rfl (.s rfl rfl (.cons rfl (Sub.gs zS) rfl (.s rfl rfl (.cons rfl (Sub.int zS) rfl (.s rfl rfl .nil))))) (.arr rfl (by rfl) .nil)
  ·rintro⟨out,rest,c,hl,hc,ho,hr⟩;show J _ _ _ _ [(1,aF y),(5,.gs 0 x.length),(6,.raw (.int .u64 (c:Int))),(25,.i x.length),(26,.i out.length)] [(0,.arr 1 (bb (out++rest)))];rcases rest with _|⟨a,rest⟩
   ·skip;refine J.seq (J.af [.p] ?_);refine .P rfl (bQ rfl rfl)<|.nil ?_;refine J.seq ?_;refine J.eF rfl (by simp at hl⊢;omega) ?_;refine J.exit (dO (dG ?_));refine J.seq (J.seq (J.af [.p,.p] ?_));refine .mv rfl rfl<|.P rfl (gn rfl rfl)<|.nil ?_;refine J.cond rfl (fun h4=>?_) (fun h4=>?_)
    ·have fU:=h4;try simp only[bs]at fU
     refine J.af [.p,.p,.p,.w,.p] ?_;refine .mv rfl rfl<|.mv rfl rfl<|.P rfl (bK (n:=1) (rows:=bb [c]) underlying244 sizeOf184 rfl rfl rfl zeroValue184 rfl rfl rfl rfl rfl rfl rfl)<|.W rfl (fq 1 underlying244 underlying244 sizeOf184 typeInfo184 zeroValue184 rfl (bt:=8) rfl rfl rfl rfl (by simp at hl⊢;omega) rfl rfl (by simp at*;omega))<|.ag rfl rfl<|.nil ?_;refine J.seq (J.af [.p,.p] ?_);refine .mv rfl rfl<|.ag rfl rfl<|.nil ?_;refine J.bE (Le.freeze 4 1 rfl rfl (by simp at hl⊢;omega)) ?_;refine J.ret (?_);exact dn rfl (Sub.snap (by(rw[U_ (by simp at*;omega)]);rw[←hr];simp only[gY];(rw[if_pos zO]);try simp))
    ·have fU:=h4;try simp only[bs]at fU
     refine J.skip ?_;refine J.seq (J.af [.p,.p] ?_);refine .mv rfl rfl<|.ag rfl rfl<|.nil ?_;refine J.bE (Le.freeze 4 0 rfl rfl (by simp at hl⊢;omega)) ?_;refine J.ret (?_);exact dn rfl (Sub.snap (by(rw[U_ (by simp at*;omega)]);rw[←hr];simp only[gY];(rw[if_neg zO]);try simp))
   ·simp only[List.length_cons]at hl;have ha:=ho a zS;have hb:=Ll (k:=out.length) s4;refine J.seq (J.af [.p] ?_);refine .P rfl (bQ rfl rfl)<|.nil ?_;refine J.seq ?_;refine J.gu rfl zQ ?_;refine J.skip ?_;refine J.seq ?_;refine J.block ?_;refine J.seq (J.af [.p,.p] ?_);refine .mv rfl rfl<|.ag rfl rfl<|.nil ?_;refine J.seq (J.af [.p,.p,.p,.r,.p,.p,.p,.w] ?_);refine .mv rfl rfl<|.mv rfl rfl<|.P rfl (bS (off:=(out.length)*1) underlying244 sizeOf184 rfl rfl zO zQ zO)<|.R rfl (eX (r:=_) (out.length) 0 isAgg184 rfl rfl rfl (fj _ _ _) rfl)<|.mv rfl rfl<|.P rfl (bU rfl rfl (addN (by unfold gB at*;omega)))<|.P rfl (bS (off:=(out.length)*1) underlying244 sizeOf184 rfl rfl zO zQ zO)<|.W rfl (gH (r:=_) (out.length) 0 sizeOf184 rfl rfl rfl rfl rfl rfl (fj _ _ _) zS)<|.nil ?_;refine J.seq (J.seq (J.af [.p,.p,.p,.p] ?_));refine .mv rfl rfl<|.mv rfl rfl<|.P rfl (cY underlying244 rfl)<|.P rfl (bQ rfl rfl)<|.nil ?_;refine J.cond rfl (fun h5=>?_) (fun h5=>?_)
    ·refine J.oU [.p,.p,.p,.r,.p,.p,.p,.p,.p,.p,.w] lh zK ?_;refine .mv rfl rfl<|.mv rfl rfl<|.P rfl (bS (off:=(out.length)*1) underlying244 sizeOf184 rfl rfl zO zQ zO)<|.R rfl (eX (r:=_) (out.length) 0 isAgg184 rfl rfl rfl (gx (fj _ _ _)) rfl)<|.mv rfl rfl<|.mv rfl rfl<|.P rfl (gm underlying244 sizeOf184 rfl rfl zO (s7 (Cf (by simp at*;omega)) rfl))<|.P rfl (bP isAgg184 rfl)<|.P rfl (bU rfl rfl (addN (by unfold gB at*;omega)))<|.P rfl (bS (off:=(out.length)*1) underlying244 sizeOf184 rfl rfl zO zQ zO)<|.W rfl (gH (r:=_) (out.length) 0 sizeOf184 rfl rfl rfl rfl rfl rfl (gx (fj _ _ _)) zS)<|.nil ?_;refine J.seq (J.af [.p,.p,.p,.r,.p,.p] ?_);refine .mv rfl rfl<|.mv rfl rfl<|.P rfl (bS (off:=(out.length)*1) underlying244 sizeOf184 rfl rfl zO zQ zO)<|.R rfl (eX (r:=_) (out.length) 0 isAgg184 rfl rfl rfl (gx (gx (fj _ _ _))) rfl)<|.P rfl (lO rfl rfl zD (vk (by unfold gB at*;omega)))<|.ag rfl rfl<|.nil ?_;refine J.af [.p,.p,.p,.r,.p,.p,.w] ?_;refine .mv rfl rfl<|.mv rfl rfl<|.P rfl (bS (off:=(out.length)*1) underlying244 sizeOf184 rfl rfl zO zQ zO)<|.R rfl (eX (r:=_) (out.length) 0 isAgg184 rfl rfl rfl (gx (gx (fj _ _ _))) rfl)<|.P rfl (oS rfl rfl zD (tR _))<|.P rfl (bS (off:=(out.length)*1) underlying244 sizeOf184 rfl rfl zO zQ zO)<|.W rfl (gH (r:=_) (out.length) 0 sizeOf184 rfl rfl rfl rfl rfl rfl (gx (gx (fj _ _ _))) zS)<|.nil ?_;refine J.nil (cn ?_);refine J.af [.p,.p] ?_;refine .P rfl (bU rfl rfl (aw zO))<|.mv rfl rfl<|.nil ?_;refine J.nil (cZ ?_)
     exact⟨⟨out++[(a+c+k8 y out.length)%gB],rest,(a+c+k8 y out.length)/gB,by simp;omega,by rw[Nat.div_le_iff_le_mul_add_pred dv];unfold gB at*;omega,fun u hu=>ho u (by simp[hu]),by rw[←hr,Nb (by simp at*;omega)];simp⟩,by simp,Le.mk rfl (.s rfl rfl (.cons rfl (Sub.gs zS) rfl (.s rfl rfl (.s rfl rfl (.cons rfl (Sub.int zS) rfl .nil))))) (.arr rfl (by skip;simp only[List.set_set,List.set_cons_zero];exact(sF _ _ _ _).trans zS) .nil)⟩
    ·refine J.skip ?_;refine J.seq (J.af [.p,.p,.p,.r,.p,.p] ?_);refine .mv rfl rfl<|.mv rfl rfl<|.P rfl (bS (off:=(out.length)*1) underlying244 sizeOf184 rfl rfl zO zQ zO)<|.R rfl (eX (r:=_) (out.length) 0 isAgg184 rfl rfl rfl (gx (fj _ _ _)) rfl)<|.P rfl (lO rfl rfl zD (vk (by unfold gB at*;omega)))<|.ag rfl rfl<|.nil ?_;refine J.af [.p,.p,.p,.r,.p,.p,.w] ?_;refine .mv rfl rfl<|.mv rfl rfl<|.P rfl (bS (off:=(out.length)*1) underlying244 sizeOf184 rfl rfl zO zQ zO)<|.R rfl (eX (r:=_) (out.length) 0 isAgg184 rfl rfl rfl (gx (fj _ _ _)) rfl)<|.P rfl (oS rfl rfl zD (tR _))<|.P rfl (bS (off:=(out.length)*1) underlying244 sizeOf184 rfl rfl zO zQ zO)<|.W rfl (gH (r:=_) (out.length) 0 sizeOf184 rfl rfl rfl rfl rfl rfl (gx (fj _ _ _)) zS)<|.nil ?_;refine J.nil (cn ?_);refine J.af [.p,.p] ?_;refine .P rfl (bU rfl rfl (aw zO))<|.mv rfl rfl<|.nil ?_;refine J.nil (cZ ?_);exact⟨⟨out++[(a+c)%gB],rest,(a+c)/gB,by simp;omega,by rw[Nat.div_le_iff_le_mul_add_pred dv];unfold gB at*;omega,fun u hu=>ho u (by simp[hu]),by rw[←hr,Na (by simp at*;omega)];simp⟩,by simp,Le.mk rfl (.s rfl rfl (.cons rfl (Sub.gs zS) rfl (.s rfl rfl (.s rfl rfl (.cons rfl (Sub.int zS) rfl .nil))))) (.arr rfl (by skip;simp only[List.set_set,List.set_cons_zero];exact(sF _ _ _ _).trans zS) .nil)⟩
structure ajt where
 u:Unit
theorem ajs:Fc Tryz.prog 280 [.snap 1 false [],.snap 1 false []] (.snap 1 false []):=by
 refine Fc.mk' [4] func280 rfl ntmps280 rfl rfl rfl (fun t w=>results_tmp results280 t _ w) ?_;refine go [] ?_;refine a_ (rfl) ?_;refine sd (en zO zS) ?_;refine oP (ajU (bt:=8) underlying244 sizeOf184 typeInfo184 zeroValue184 rfl rfl rfl rfl (m:=1) rfl zD zD zD) ?_;refine oP (ajF underlying244 sizeOf184 rfl rfl) ?_;refine J.loop (ι:=ajt) (fun sx=>[(5,.snap 1 false []),(6,.raw (.int .u64 ((0:Nat):Int))),(25,.i 0),(26,.i 0)]) (fun sx=>[]) (fun sx=>0) ⟨()⟩ ?_ ?_
 ·exact Le.mk rfl (.s rfl rfl (.s rfl rfl (.s rfl rfl (.s rfl rfl .nil)))) .nil
 ·rintro⟨u⟩;show J _ _ _ _ [(5,.snap 1 false []),(6,.raw (.int .u64 ((0:Nat):Int))),(25,.i 0),(26,.i 0)] []
  skip
  ·skip;refine go [] ?_;refine a_ (rfl) ?_;refine go [] ?_;refine a_ (rfl) ?_;exact ah rfl (Sub.refl _)
theorem LQ(x y:List Nat)(uQ:x.length≤20000)(y0:y.length≤20000)(iG:aR x)(s4:aR y):Fc Tryz.prog 280 [aF x,aF y] (aF (mE x y)):=by
 by_cases h:x.length≠0∨y.length≠0
 ·exact ajq x y h uQ y0 iG s4
 ·have e1:x=[]:=List.length_eq_zero_iff.1 zO;have e2:y=[]:=List.length_eq_zero_iff.1 zO;subst e1;subst e2;exact ajs
theorem Ng(n1:Bool)(x:List Nat)(n2:Bool)(y:List Nat)(k1:nV n1 x)(k2:nV n2 y)(hx:x.length≤9000)(hy:y.length≤9000):Fc Tryz.prog 237 [.agg (mS n1 x),.agg (mS n2 y)] (.agg (mS (ib n1 x n2 y).1 (ib n1 x n2 y).2)):=by
 refine Fc.je func237 rfl ntmps237 rfl rfl rfl ?_;refine go [99999] ?_;refine br (fun h1=>?_) (fun h1=>?_)
 ·refine oP (ai call280 rfl (LQ _ _ zO zO k1.ok k2.ok)) ?_;refine ord ?_;refine J.ret (?_);exact Rd.cA results237 isAgg246 sizeOf246 rfl rfl rfl (Sub.agg (.cons (Sub.bool (by unfold ib;(rw[if_pos zA];done))) (.cons (Sub.snap (by unfold ib;(rw[if_pos zA];done))) .nil)))
 ·refine oP (ai call240 rfl (x4 _ _ zO zO)) ?_;refine br (fun h2=>?_) (fun h2=>?_)
  ·have de:=h2;try simp only[bs]at de
   refine oP (ai call281 rfl (FF _ _ (by exact NZ zO) zO zO (by exact k2.ok) (by exact k1.ok))) ?_;refine ord ?_;refine J.ret (?_);exact Rd.cA results237 isAgg246 sizeOf246 rfl rfl rfl (Sub.agg (.cons (Sub.bool (by unfold ib;(rw[if_neg (by simpa using ‹(n1==n2)=false›)];(rw[if_pos zO];done)))) (.cons (Sub.snap (by unfold ib;(rw[if_neg (by simpa using ‹(n1==n2)=false›)];(rw[if_pos zO];done)))) .nil)))
  ·have de:=h2;try simp only[bs]at de
   refine oP (ai call281 rfl (FF _ _ (by exact Zw k1 k2 zA zO) zO zO (by exact k1.ok) (by exact k2.ok))) ?_;refine ord ?_;refine J.ret (?_);exact Rd.cA results237 isAgg246 sizeOf246 rfl rfl rfl (Sub.agg (.cons (Sub.bool (by unfold ib;(rw[if_neg (by simpa using ‹(n1==n2)=false›)];(rw[if_neg zO];done)))) (.cons (Sub.snap (by unfold ib;(rw[if_neg (by simpa using ‹(n1==n2)=false›)];(rw[if_neg zO];done)))) .nil)))
theorem X4(s t:aa)(hs:s.length≤4000)(ht:t.length≤4000):Fc Tryz.prog 185 [.str s,.str t] (.str (qb s t)):=by
 refine Fc.mk' [4] func185 rfl ntmps185 rfl rfl rfl (fun t w=>results_tmp results185 t _ w) ?_;have pC:=kW s;have cK:=qh (digits s).1;have QK:=kW t;have QZ:=qh (digits t).1;have h1:=nn s;have h2:=nn t;have h3:=Nd h1 h2;have h4:=Nc (digits s).2 (digits t).2 (fE (digits s).1) (fE (digits t).1);have h5:=Nf h1 h2;refine go [] ?_;refine oP (ai call238 rfl (tQ _ zO)) ?_;refine oP (ai call238 rfl (tQ _ zO)) ?_;refine oP (ai call237 rfl (Ng _ _ _ _ zA zA zO zO)) ?_;refine oP (ai call239 rfl (Al _ _ zA zO)) ?_;exact ah rfl (Sub.str (by rw[C6 _ h3];unfold qb;rw[←mB s,←mB t,←h5];rfl))
theorem AG(s t:aa)(hs:s.length≤4000)(ht:t.length≤4000):Fc Tryz.prog 186 [.str s,.str t] (.i (fw (val s-val t))):=by
 refine Fc.mk' [4] func186 rfl ntmps186 rfl rfl rfl (fun t w=>results_tmp results186 t _ w) ?_;have pC:=kW s;have cK:=qh (digits s).1;have QK:=kW t;have QZ:=qh (digits t).1;have hb:=Zu (fE (digits s).1) (fE (digits t).1) zO zO;refine J.seq (J.af [.p] ?_);refine .ag rfl rfl<|.nil ?_;refine J.seq (J.af [.p,.p,.p,.p,.w,.w,.w,.w] ?_);refine .mv rfl rfl<|.P rfl (ai call238 rfl (tQ _ zO))<|.mv rfl rfl<|.P rfl (ai call238 rfl (tQ _ zO))<|.W rfl (jh 0 zeroValue246 rfl)<|.W rfl (jh 1 zeroValue246 rfl)<|.W rfl (km sizeOf246 rfl rfl rfl rfl rfl rfl)<|.W rfl (km sizeOf246 rfl rfl rfl rfl rfl rfl)<|.nil ?_;refine J.seq (J.af [.p,.r,.p,.r,.p,.p] ?_);refine .P rfl (im (n:=0) 244 1 underlying246 sizeOf244 rfl rfl)<|.R rfl (iV isAgg244 rfl rfl rfl)<|.P rfl (im (n:=0) 244 1 underlying246 sizeOf244 rfl rfl)<|.R rfl (iV isAgg244 rfl rfl rfl)<|.P rfl (ai call240 rfl (x4 _ _ zO zO))<|.ag rfl rfl<|.nil ?_;refine J.seq ?_;refine J.block ?_;refine J.seq (J.af [.p,.r,.p,.r,.p,.p] ?_);refine .P rfl (im (n:=0) 4 0 underlying246 sizeOf4 rfl rfl)<|.R rfl (iV isAgg4 rfl rfl rfl)<|.P rfl (im (n:=0) 4 0 underlying246 sizeOf4 rfl rfl)<|.R rfl (iV isAgg4 rfl rfl rfl)<|.P rfl (z7 underlying4 rfl rfl)<|.ag rfl rfl<|.nil ?_;refine J.cond rfl (fun h1=>?_) (fun h1=>?_)
 ·refine J.seq (J.af [.p] ?_);refine .ag rfl rfl<|.nil ?_;refine J.seq (J.af [.p,.r] ?_);refine .P rfl (im (n:=0) 4 0 underlying246 sizeOf4 rfl rfl)<|.R rfl (iV isAgg4 rfl rfl rfl)<|.nil ?_;refine J.cond rfl (fun h2=>?_) (fun h2=>?_)
  ·refine J.af [.p] ?_;refine .ag rfl rfl<|.nil ?_;refine J.nil (cn ?_);refine J.seq (J.af [.p,.p,.p,.p] ?_);refine .mv rfl rfl<|.P rfl (z1 rfl rfl rfl)<|.P rfl (CG rfl rfl rfl)<|.ag rfl rfl<|.nil ?_;refine J.ret (?_);exact dn rfl (Sub.int (by rw[←mB s,←mB t,←DF (nn s) (nn t)];unfold xZ;rw[if_pos h1,if_pos h2]))
  ·refine J.skip ?_;refine J.nil (cn ?_);refine J.seq (J.af [.p,.p,.p,.p] ?_);refine .mv rfl rfl<|.P rfl (z1 rfl rfl rfl)<|.P rfl (CG rfl rfl rfl)<|.ag rfl rfl<|.nil ?_;refine J.ret (?_);exact dn rfl (Sub.int (by rw[←mB s,←mB t,←DF (nn s) (nn t)];unfold xZ;rw[if_pos h1,if_neg (by simp[h2])]))
 ·refine J.seq (J.af [.p,.r,.p] ?_);refine .P rfl (im (n:=0) 4 0 underlying246 sizeOf4 rfl rfl)<|.R rfl (iV isAgg4 rfl rfl rfl)<|.ag rfl rfl<|.nil ?_;refine J.cond rfl (fun h3=>?_) (fun h3=>?_)
  ·refine J.af [.p,.p,.p] ?_;refine .mv rfl rfl<|.P rfl (Gk rfl (aw zO))<|.ag rfl rfl<|.nil ?_;refine J.nil (cn ?_);refine J.seq (J.af [.p,.p,.p,.p] ?_);refine .mv rfl rfl<|.P rfl (z1 rfl rfl rfl)<|.P rfl (CG rfl rfl rfl)<|.ag rfl rfl<|.nil ?_;refine J.ret (?_);exact dn rfl (Sub.int (by rw[←mB s,←mB t,←DF (nn s) (nn t)];unfold xZ;rw[if_neg (by simp[h1]),if_pos h3]))
  ·refine J.skip ?_;refine J.nil (cn ?_);refine J.seq (J.af [.p,.p,.p,.p] ?_);refine .mv rfl rfl<|.P rfl (z1 rfl rfl rfl)<|.P rfl (CG rfl rfl rfl)<|.ag rfl rfl<|.nil ?_;refine J.ret (?_);exact dn rfl (Sub.int (by rw[←mB s,←mB t,←DF (nn s) (nn t)];unfold xZ;rw[if_neg (by simp[h1]),if_neg (by simp[h3])]))
theorem Z0(s:aa)(c:UInt8):Fc Tryz.prog 276 [.str s,.str [c]] (.bj [.str (fX s c).1,.str (fX s c).2.1,.b (fX s c).2.2]):=by
 refine Fc.mk' [4,5,6] func276 rfl ntmps276 rfl rfl rfl (fun t w=>results_tmp3 results276 t _ w) ?_;refine J.l4 0 rfl (fun hb=>?_);simp only[aG]at hb;have hi:=E_ c s;refine go [] ?_;refine oP (ai call265 rfl (ae2 _ _)) ?_;refine br (fun h1=>?_) (fun h1=>?_)
 ·have bJ:=h1;try simp only[bs]at bJ
  refine oP (r7 underlying9 rfl (h:=(Lib.indexByte s c).toNat) (r:=s.take (Lib.indexByte s c).toNat) (.inl ⟨rfl,rfl⟩) (.inr ⟨_,_,rfl,tw rfl zO⟩) zO zO zS) ?_;refine sd (en zO zQ) ?_;refine oP (r7 underlying9 rfl (l:=(Lib.indexByte s c).toNat+1) (r:=s.drop ((Lib.indexByte s c).toNat+1)) (.inr ⟨_,_,rfl,tw rfl zQ⟩) (.inl ⟨rfl,rfl⟩) zO zO (List.take_of_length_le zS)) ?_;refine ord ?_;exact CQ rfl rfl rfl (Sub.str (by unfold fX;rw[if_pos zO])) (Sub.str (by unfold fX;rw[if_pos zO])) (Sub.bool (by unfold fX;rw[if_pos zO]))
 ·have bJ:=h1;try simp only[bs]at bJ
  exact CQ rfl rfl rfl (Sub.str (by unfold fX;rw[if_neg zO])) (Sub.str (by unfold fX;rw[if_neg zO])) (Sub.bool (by unfold fX;rw[if_neg zO]))
theorem alB(s:aa)(c:UInt8):Fc Tryz.prog 233 [.str s,.str [c]] (.bj [.str (fX s c).1,.str (fX s c).2.1,.b (fX s c).2.2]):=by
 refine Fc.mk' [4,5,6] func233 rfl ntmps233 rfl rfl rfl (fun t w=>results_tmp3 results233 t _ w) ?_;refine go [] ?_;refine oP (ai call276 rfl (Z0 _ _)) ?_;exact CQ rfl rfl rfl (Sub.refl _) (Sub.refl _) (Sub.refl _)
structure ahV(s:aa)where
 pre:List UInt8
 rest:List UInt8
 hx:s=pre++rest
 hp:pre.all rW=true
 hs:1≤s.length∧s.length≤16
theorem zr(s:aa):Fc Tryz.prog 86 [.str s] (.b (isName s)):=by
 refine Fc.mk' [2] func86 rfl ntmps86 rfl rfl rfl (fun t w=>results_tmp results86 t _ w) ?_;refine J.l4 0 rfl (fun hb=>?_);simp only[aG]at hb;refine J.seq (J.af [.p] ?_);refine .ag rfl rfl<|.nil ?_;refine J.seq (J.seq (J.af [.p,.p,.p,.p,.p,.p,.p,.p] ?_));refine .mv rfl rfl<|.P rfl (fV underlying9 rfl)<|.P rfl (jQ rfl rfl)<|.mv rfl rfl<|.gF rfl (.inl rfl) rfl rfl rfl (fun hg=>pk (fun _=>aT rfl _))<|.gF rfl (.inl rfl) rfl rfl rfl (fun hg=>pk (fun _=>fV underlying9 (bh rfl (nt hg)) _))<|.gF rfl (.inl rfl) rfl rfl rfl (fun hg=>pk (fun _=>gn (bh rfl (nt hg)) rfl _))<|.P rfl (nw rfl rfl)<|.nil ?_;refine J.cond rfl (fun h1=>?_) (fun h1=>?_)
 ·refine J.seq (J.af [.p] ?_);refine .ag rfl rfl<|.nil ?_;refine J.ret (?_);exact dn rfl (Sub.bool (by grind[isName,rW]))
 ·refine J.skip ?_;refine J.seq (J.seq (J.af [.p,.p,.p,.p] ?_));refine .mv rfl rfl<|.P rfl (Vk (u:=.string) underlying9 underlying152 underlying5 rfl)<|.P rfl (cY underlying152 rfl)<|.mv rfl rfl<|.nil ?_;refine J.block ?_;refine J.loop (ι:=ahV s) (fun sx=>[(14,.snap 1 false (s.map fun c=>[.raw (.int .u8 (UInt8.toNat c:Int))])),(15,.i s.length),(16,.i sx.pre.length)]) (fun sx=>[]) (fun sx=>sx.rest.length) ⟨[],s,rfl,rfl,by grind⟩ ?_ ?_
  ·exact Le.mk rfl (.s rfl rfl (.cons rfl (Sub.int zS) rfl (.s rfl rfl .nil))) .nil
  ·rintro⟨pre,rest,hx,hp,hs⟩;show J _ _ _ _ [(14,.snap 1 false (s.map fun c=>[.raw (.int .u8 (UInt8.toNat c:Int))])),(15,.i s.length),(16,.i pre.length)] [];have hl:=congrArg List.length hx;simp only[List.length_append]at hl;rcases rest with _|⟨x,rest⟩
   ·skip;refine J.seq (J.af [.p] ?_);refine .P rfl (bQ rfl rfl)<|.nil ?_;refine J.seq ?_;refine J.eF rfl (by simp at hl⊢;omega) ?_;refine J.exit (dO (dG ?_));refine J.seq (J.af [.p] ?_);refine .ag rfl rfl<|.nil ?_;refine J.ret (?_);exact dn rfl (Sub.bool (by grind[isName,rW]))
   ·simp only[List.length_cons]at hl;refine J.seq (J.af [.p] ?_);refine .P rfl (bQ rfl rfl)<|.nil ?_;refine J.seq ?_;refine J.gu rfl zQ ?_;refine J.skip ?_;refine J.seq ?_;refine J.block ?_;refine J.seq (J.af [.p,.p,.p] ?_);refine .P rfl (gm underlying152 sizeOf5 rfl rfl zO (aS (fun c=>[D.raw (.int .u8 (UInt8.toNat c:Int))]) hx rfl))<|.P rfl (bP isAgg5 rfl)<|.ag rfl rfl<|.nil ?_;refine J.seq (J.af [.p,.p,.p,.p,.p,.p,.p,.p,.p,.p,.p,.p,.p,.p,.p,.p,.p,.p] ?_);refine .mv rfl rfl<|.P rfl (bQ rfl rfl)<|.mv rfl rfl<|.gF rfl (.inl rfl) rfl rfl rfl (fun hg=>pk (fun _=>aT rfl _))<|.gF rfl (.inl rfl) rfl rfl rfl (fun hg=>pk (fun _=>gn (bh rfl (nt hg)) rfl _))<|.P rfl (nw rfl rfl)<|.mv rfl rfl<|.gT rfl (.inl rfl) rfl rfl rfl (fun hg=>pk (fun _=>aT rfl _))<|.gT rfl (.inl rfl) rfl rfl rfl (fun hg=>pk (fun _=>bQ (bh rfl hg) rfl _))<|.gT rfl (.inl rfl) rfl rfl rfl (fun hg=>pk (fun _=>aT (bh rfl hg) _)) ?_;refine .nF rfl (.inl rfl) rfl rfl rfl (fun hc hg=>pk (fun _=>aT rfl _)) ?_;refine .nF rfl (.inl rfl) rfl rfl rfl (fun hc hg=>pk (fun _=>gn (bh rfl (bF hc hg)) rfl _)) ?_;refine .gT rfl (.inl rfl) rfl rfl rfl (fun hg=>pk (fun _=>nw (bh rfl hg) (LC rfl hg) _))<|.P rfl (gO rfl rfl)<|.mv rfl rfl<|.gT rfl (.inl rfl) rfl rfl rfl (fun hg=>pk (fun _=>aT rfl _))<|.gT rfl (.inl rfl) rfl rfl rfl (fun hg=>pk (fun _=>z6 (bh rfl hg) rfl _))<|.P rfl (gO rfl rfl)<|.nil ?_;refine J.cond rfl (fun h2=>?_) (fun h2=>?_)
    ·refine J.seq (J.af [.p] ?_);refine .ag rfl rfl<|.nil ?_;refine J.ret (jU (sc (jU (?_))));exact dn rfl (Sub.bool (by grind[isName,rW]))
    ·refine J.skip ?_;refine J.nil (cn ?_);refine J.af [.p,.p] ?_;refine .P rfl (bU rfl rfl (aw zO))<|.mv rfl rfl<|.nil ?_;refine J.nil (cZ ?_);exact⟨⟨pre++[x],rest,by simp[hx],by grind[rW],hs⟩,by simp,Le.mk rfl (.s rfl rfl (.s rfl rfl (.cons rfl (Sub.int zS) rfl .nil))) .nil⟩
structure adp(l:List Fact)(nM:(ig 12 l&&uX 1000 l||ig 1002 l)=false)where
 pre:List Fact
 rest:List Fact
 hx:l=pre++rest
 hp:pre.any px=false
theorem ado(l:List Fact):Fc Tryz.prog 83 [cN l] (.b (I_ l)):=by
 refine Fc.mk' [2] func83 rfl ntmps83 rfl rfl rfl (fun t w=>results_tmp results83 t _ w) ?_;refine J.eu 0 rfl (fun hb=>?_);simp only[List.length_map,aG]at hb;refine go [] ?_;refine br (fun h1=>?_) (fun h1=>?_)
 ·exact ah rfl (Sub.bool (by exact tB (by simpa using h1)))
 ·have nM:(ig 12 l&&uX 1000 l||ig 1002 l)=false:=by simpa using h1
  refine J.loop (ι:=adp l nM) (fun sx=>[(0,cN l),(2,.b false),(3,.i sx.pre.length)]) (fun sx=>[]) (fun sx=>sx.rest.length) ⟨[],_,rfl,rfl⟩ ?_ ?_
  ·exact Le.mk rfl (.s rfl rfl (.s rfl rfl (.s rfl rfl .nil))) .nil
  ·rintro⟨pre,rest,hx,hp⟩;show J _ _ _ _ [(0,cN l),(2,.b false),(3,.i pre.length)] [];have hl:=congrArg List.length hx;simp only[List.length_append]at hl;rcases rest with _|⟨x,rest⟩
   ·skip;refine go [] ?_;refine a_ (by simp at hl⊢;omega) ?_;refine go [] ?_;exact ah rfl (Sub.bool (by exact lI nM (mO hx hp).symm))
   ·simp only[List.length_cons]at hl;refine go [] ?_;refine bk zQ ?_;refine ix zO (aS aX hx rfl) ?_;refine oP (ai call8 rfl (I9 _)) ?_;refine br (fun h2=>?_) (fun h2=>?_)
    ·exact ah rfl (Sub.bool (by exact lI nM (nD hx h2).symm))
    ·refine sd (aw zO) ?_;exact nx ⟨pre++[x],rest,by simp[hx],iZ hp h2⟩ zS (Le.mk rfl (.s rfl rfl (.s rfl rfl (.cons rfl (Sub.int zS) rfl .nil))) .nil)
theorem adA(l:List Fact):Fc Tryz.prog 37 [cN l] (.b (ou l)):=by
 refine Fc.mk' [2] func37 rfl ntmps37 rfl rfl rfl (fun t w=>results_tmp results37 t _ w) ?_;refine go [] ?_;refine gP (fun hg=>ai call83 rfl (ado _)) ?_;exact ah rfl (Sub.bool (by simp[ou]))
structure ae4(l:List (List Fact))(P:(List Fact)→Bool)where
 pre:List (List Fact)
 rest:List (List Fact)
 hx:l=pre++rest
 hp:pre.any P=false
theorem ae3(l:List (List Fact))(f:FuncId)(bC:List D)(cJ:D.bz.ec bC=true)(P:(List Fact)→Bool)(fc:∀(args:Array Value)(w:World),(callFunc f args).run Tryz.prog w=.ok (.enter f args) w)(hP:∀x∈l,Fc Tryz.prog f (cN x::bC) (.b (P x))):Fc Tryz.prog 82 [.snap 1 false (l.map fun v=>[cN v]),.fn (.func f) [] bC] (.i (jq P l)):=by
 refine Fc.mk' [4] func82 rfl ntmps82 rfl (by simp[D.bz,D.bz.ec,cJ]) rfl (fun t w=>results_tmp results82 t _ w) ?_;refine J.eu 0 rfl (fun hb=>?_);simp only[List.length_map,aG]at hb;refine go [] ?_;refine J.loop (ι:=ae4 l P) (fun sx=>[(0,.snap 1 false (l.map fun v=>[cN v])),(1,.fn (.func f) [] bC),(6,.snap 1 false (l.map fun v=>[cN v])),(7,.i l.length),(8,.i sx.pre.length)]) (fun sx=>[]) (fun sx=>sx.rest.length) ⟨[],l,rfl,rfl⟩ ?_ ?_
 ·exact Le.mk rfl (.s rfl rfl (.cons rfl (Sub.refl _) (pV cJ) (.s rfl rfl (.cons rfl (Sub.int zS) rfl (.s rfl rfl .nil))))) .nil
 ·rintro⟨pre,rest,hx,hp⟩;show J _ _ _ _ [(0,.snap 1 false (l.map fun v=>[cN v])),(1,.fn (.func f) [] bC),(6,.snap 1 false (l.map fun v=>[cN v])),(7,.i l.length),(8,.i pre.length)] [];have hl:=congrArg List.length hx;simp only[List.length_append]at hl;rcases rest with _|⟨x,rest⟩
  ·skip;refine go [] ?_;refine a_ (by simp at hl⊢;omega) ?_;refine go [] ?_;exact ah rfl (Sub.int (by exact sM hx hp))
  ·simp only[List.length_cons]at hl;refine go [] ?_;refine bk zQ ?_;refine ix zO (aS (fun v=>[cN v]) hx rfl) ?_;refine oP (ek fc rfl rfl (hP x (by rw[hx];simp))) ?_;refine br (fun h1=>?_) (fun h1=>?_)
   ·exact ah rfl (Sub.int (by exact sN hx hp h1))
   ·refine sd (aw zO) ?_;exact nx ⟨pre++[x],rest,by simp[hx],iZ hp h1⟩ zS (Le.mk rfl (.s rfl rfl (.cons rfl (Sub.refl _) (pV cJ) (.s rfl rfl (.s rfl rfl (.cons rfl (Sub.int zS) rfl .nil))))) .nil)
theorem ZK(l:List (List Fact))(f:FuncId)(bC:List D)(cJ:D.bz.ec bC=true)(P:(List Fact)→Bool)(fc:∀(args:Array Value)(w:World),(callFunc f args).run Tryz.prog w=.ok (.enter f args) w)(hP:∀x∈l,Fc Tryz.prog f (cN x::bC) (.b (P x))):Fc Tryz.prog 36 [.snap 1 false (l.map fun v=>[cN v]),.fn (.func f) [] bC] (.b (l.any P)):=by
 refine Fc.mk' [4] func36 rfl ntmps36 rfl (by simp[D.bz,D.bz.ec,cJ]) rfl (fun t w=>results_tmp results36 t _ w) ?_;refine go [] ?_;refine oP (ai call82 rfl (ae3 l f bC cJ P fc hP)) ?_;exact ah rfl (Sub.bool (by exact ux P l))
theorem Qe(s:Setup)(l:List (List Fact)):Fc Tryz.prog 7 [.agg (fC s),.snap 1 false (l.map fun v=>[cN v])] (.b (py s||l.any ou)):=by
 refine Fc.mk' [4] func7 rfl ntmps7 rfl rfl rfl (fun t w=>results_tmp results7 t _ w) ?_;refine go [] ?_;refine oP (ai call35 rfl (adw _)) ?_;refine gP (fun hg=>ai call36 rfl (ZK l _ [] rfl ou call37 (fun x _=>adA x))) ?_;exact ah rfl (Sub.refl _)
theorem afI(c:bA)(code:aa):Fc Tryz.prog 217 [.agg (l_ c),.bc [.str code]] (.b (decide (c.code=code))):=by
 refine Fc.mk' [3] func217 rfl ntmps217 rfl rfl rfl (fun t w=>results_tmp results217 t _ w) ?_;refine go [] ?_;exact ah rfl (Sub.refl _)
structure acE(l:List bA)(code:aa)where
 pre:List bA
 rest:List bA
 hx:l=pre++rest
 hp:∀c∈pre,c.code≠code
theorem acD(l:List bA)(code:aa):Fc Tryz.prog 216 [fM l,.fn (.func 217) [] [.bc [.str code]]] (.bj [.agg (l_ (mb code l).1),.b (mb code l).2]):=by
 refine Fc.je func216 rfl ntmps216 rfl rfl rfl ?_;refine J.eu 0 rfl (fun hb=>?_);simp only[List.length_map,aG]at hb;refine go [99999] ?_;refine J.loop (ι:=acE l code) (fun sx=>[(0,fM l),(1,.fn (.func 217) [] [.bc [.str code]]),(4,.box 0 0),(9,fM l),(10,.i l.length),(11,.i sx.pre.length)]) (fun sx=>[(0,.cells [.str [],.raw (.int .i64 0)])]) (fun sx=>sx.rest.length) ⟨[],l,rfl,by simp⟩ ?_ ?_
 ·exact Le.mk rfl (.s rfl rfl (.s rfl rfl (.s rfl rfl (.s rfl rfl (.cons rfl (Sub.int zS) rfl (.s rfl rfl .nil)))))) (.cons rfl rfl .nil)
 ·rintro⟨pre,rest,hx,hp⟩;show J _ _ _ _ [(0,fM l),(1,.fn (.func 217) [] [.bc [.str code]]),(4,.box 0 0),(9,fM l),(10,.i l.length),(11,.i pre.length)] [(0,.cells [.str [],.raw (.int .i64 0)])];have hl:=congrArg List.length hx;simp only[List.length_append]at hl;rcases rest with _|⟨x,rest⟩
  ·skip;refine go [99999] ?_;refine a_ (by simp at hl⊢;omega) ?_;refine go [99999] ?_;refine J.ret (?_);exact Rd.Dz results216 isAgg89 sizeOf89 rfl rfl rfl rfl (Sub.agg (.cons (Sub.str (by rw[IE hx hp])) (.cons (Sub.int (by rw[IE hx hp])) .nil))) (Sub.bool (by rw[IE hx hp]))
  ·simp only[List.length_cons]at hl;refine go [99999] ?_;refine bk zQ ?_;refine ix zO (aS l_ hx rfl) ?_;refine oP (ek call217 rfl rfl (afI _ _)) ?_;refine br (fun h1=>?_) (fun h1=>?_)
   ·refine J.ret (jU (sc (jU (?_))));exact Rd.Dz results216 isAgg89 sizeOf89 rfl rfl rfl rfl (Sub.agg (.cons (Sub.str (by rw[IF hx hp (by simpa using h1)])) (.cons (Sub.int (by rw[IF hx hp (by simpa using h1)])) .nil))) (Sub.bool (by rw[IF hx hp (by simpa using h1)]))
   ·refine sd (aw zO) ?_;exact nx ⟨pre++[x],rest,by simp[hx],by intro c hc;rcases List.mem_append.1 hc with hc|hc;exact hp c hc;simp at hc;subst hc;simpa using h1⟩ zS (Le.mk rfl (.s rfl rfl (.s rfl rfl (.s rfl rfl (.s rfl rfl (.s rfl rfl (.cons rfl (Sub.int zS) rfl .nil)))))) (.cons rfl rfl .nil))
theorem IG(l:List bA)(code:aa):Fc Tryz.prog 170 [fM l,.str code] (.bj [.agg (l_ (mb code l).1),.b (mb code l).2]):=by
 refine Fc.je func170 rfl ntmps170 rfl rfl rfl ?_;refine go [1,99999] ?_;refine J.bE (Le.fY 3 0 rfl rfl rfl rfl) ?_;refine go [99999] ?_;refine oP (ai call216 rfl (acD _ _)) ?_;refine J.ret (?_);exact Rd.Dz results170 isAgg89 sizeOf89 rfl rfl rfl rfl (Sub.agg (.r (.r .nil))) (Sub.refl _)
structure Zj(l:List bA)where
 pre:List bA
 rest:List bA
 hx:l=pre++rest
 jc:l.length≤16
 hp:lk [] l=lk pre rest
theorem Zi(l:List bA):Fc Tryz.prog 117 [fM l] (.i (l6 l)):=by
 refine Fc.mk' [2] func117 rfl ntmps117 rfl rfl rfl (fun t w=>results_tmp results117 t _ w) ?_;refine J.eu 0 rfl (fun hb=>?_);simp only[List.length_map,aG]at hb;refine go [10] ?_;refine br (fun h1=>?_) (fun h1=>?_)
 ·exact ah rfl (Sub.int (by unfold l6;rw[if_pos (by simp only[bs]at h1;omega)]))
 ·refine J.loop (ι:=Zj l) (fun sx=>[(0,fM l),(10,fM l),(11,.i l.length),(12,.i sx.pre.length)]) (fun sx=>[]) (fun sx=>sx.rest.length) ⟨[],l,rfl,by simp only[bs]at h1;omega,rfl⟩ ?_ ?_
  ·exact Le.mk rfl (.s rfl rfl (.s rfl rfl (.cons rfl (Sub.int zS) rfl (.s rfl rfl .nil)))) .nil
  ·rintro⟨pre,rest,hx,jc,hp⟩;show J _ _ _ _ [(0,fM l),(10,fM l),(11,.i l.length),(12,.i pre.length)] [];have hl:=congrArg List.length hx;simp only[List.length_append]at hl;rcases rest with _|⟨x,rest⟩
   ·have m6:l6 l=0:=by rw[show(0:Int)=lk pre []from rfl,←hp];unfold l6;rw[if_neg zO]
    refine go [10] ?_;refine a_ (by simp at hl⊢;omega) ?_;refine go [10] ?_;exact ah rfl (Sub.int (by exact m6.symm))
   ·simp only[List.length_cons]at hl;have m6:l6 l=lk pre (x::rest):=by rw[←hp];unfold l6;rw[if_neg zO]
    refine go [10] ?_;refine bk zQ ?_;refine ix zO (aS l_ hx rfl) ?_;refine oP (ai call169 rfl (afF _)) ?_;refine br (fun h2=>?_) (fun h2=>?_)
    ·exact ah rfl (Sub.int (by exact xY m6 (N9 h2) zD))
    ·refine br (fun h3=>?_) (fun h3=>?_)
     ·exact ah rfl (Sub.int (by exact xY m6 (N_ h2 h3) zD))
     ·refine J.bE (Le.fY 4 0 rfl rfl rfl rfl) ?_;refine go [] ?_;refine oP (oT underlying22 sizeOf89 rfl (l:=0) (h:=pre.length) (r:=pre.map l_) (.inl ⟨rfl,rfl⟩) (.inr ⟨_,_,rfl,rfl⟩) zO (by simp[hx]) (by rw[hx];simp)) ?_;refine oP (ai call170 rfl (IG pre x.code)) ?_;refine ord ?_;refine br (fun h4=>?_) (fun h4=>?_)
      ·exact ah rfl (Sub.int (by exact xY m6 (ZW h2 h3 h4) zD))
      ·refine go [10] ?_;refine sd (aw zO) ?_;exact nx ⟨pre++[x],rest,by simp[hx],jc,NS hp (ZV h2 h3 h4)⟩ zS (Le.mk rfl (.s rfl rfl (.s rfl rfl (.s rfl rfl (.cons rfl (Sub.int zS) rfl .nil)))) .nil)
theorem W1(d:Int):Fc Tryz.prog 172 [.i d] (.b (xI d)):=by
 refine Fc.mk' [2] func172 rfl ntmps172 rfl rfl rfl (fun t w=>results_tmp results172 t _ w) ?_;refine go [] ?_;exact ah rfl (Sub.refl _)
end Go.T
namespace Go.T
open Go
def ak(n:Nat):List Nat:=if h:n=0 then[]else(n%gB)::ak (n/gB)
decreasing_by
 unfold gB;omega
theorem ng:ak 0=[]:=by rw[ak];simp
theorem u5{n:Nat}(h:n≠0):ak n=(n%gB)::ak (n/gB):=by rw[ak];simp[h]
theorem e5(n:Nat):an (ak n)=n:=by
 induction n using Nat.strongRecOn with
 |_ n ih=>
  by_cases e:n=0
  ·subst e;rw[ng];rfl
  ·rw[u5 e,an,ih (n/gB) (by unfold gB;omega)];have:=Nat.mod_add_div n gB;omega
theorem eN(n:Nat):aR (ak n):=by
 induction n using Nat.strongRecOn with
 |_ n ih=>
  by_cases e:n=0
  ·subst e;rw[ng];intro x hx;simp at hx
  ·rw[u5 e];intro x hx;rcases List.mem_cons.1 hx with rfl|hx
   ·exact Nat.mod_lt _ dv
   ·exact ih (n/gB) (by unfold gB;omega) x hx
theorem u2(n:Nat):bm (ak n)=ak n:=by
 refine HO fun h0 hl=>?_;have key:∀n,n≠0→cR (ak n)≠0:=by
  intro n;induction n using Nat.strongRecOn with
  |_ n ih=>
   intro e;rw[u5 e];by_cases e2:n/gB=0
   ·rw[e2,ng];have:n<gB:=by
     rcases Nat.lt_or_ge n gB with h|h
     ·exact h
     ·have:=Nat.div_pos h dv;omega
    simp[cR,Nat.mod_eq_of_lt this,e]
   ·rw[Sr (by rw[u5 e2];simp)];exact ih (n/gB) (by unfold gB;omega) e2
 by_cases e:n=0
 ·subst e;rw[ng]at h0;simp at h0
 ·exact key n e hl
theorem Tq:∀{x y:List Nat},aR x→aR y→bm x=x→bm y=y→an x=an y→x=y:=by
 intro x;induction x with
 |nil=>
  intro y _ _ _ cy hv;cases y with
  |nil=>rfl
  |cons b y=>have:=B5 cy zS;simp[an]at*;omega
 |cons a x ih=>
  intro y ox oy cx cy hv;cases y with
  |nil=>have:=B5 cx zS;simp[an]at*;omega
  |cons b y=>
   simp only[an]at hv;have ha:=ox a zS;have hb:=oy b zS;have e1:a=b:=by
    have h1:(a+gB*an x)%gB=a:=by rw[Nat.add_mul_mod_self_left];exact Nat.mod_eq_of_lt ha
    have h2:(b+gB*an y)%gB=b:=by rw[Nat.add_mul_mod_self_left];exact Nat.mod_eq_of_lt hb
    rw[←h1,←h2,hv]
   subst e1;have e2:an x=an y:=by
    have:gB*an x=gB*an y:=by omega
    exact Nat.eq_of_mul_eq_mul_left dv this
   have tl:∀{z:List Nat},bm (a::z)=a::z→bm z=z:=by
    intro z hz;refine HO fun h0 hl=>?_;rcases lV z with rfl|⟨i,t,rfl⟩
    ·simp at h0
    ·have:cR (i++[t])=t:=by simp[cR,List.getLastD_eq_getLast?]
     rw[this]at hl;subst hl;have h:=sv (a::i);rw[List.cons_append]at h;rw[h]at hz;have:=congrArg List.length hz;have h3:=um (a::i);simp at this h3;omega
   rw[ih (fun q hq=>ox q (by simp[hq])) (fun q hq=>oy q (by simp[hq])) (tl cx) (tl cy) e2]
theorem ahj{x:List Nat}(ox:aR x)(cx:bm x=x):x=ak (an x):=Tq ox (eN _) cx (u2 _) (e5 _).symm
theorem abh{α:Type}(p:α→Bool)(l:List α):(l.dropWhile p).dropWhile p=l.dropWhile p:=by
 induction l with
 |nil=>rfl
 |cons a l ih=>
  rw[List.dropWhile_cons];split
  ·exact ih
  ·rename_i h;rw[List.dropWhile_cons];simp[h]
theorem q0{x:List Nat}(ox:aR x):bm x=ak (an x):=by
 refine Tq (x5 ox) (eN _) ?_ (u2 _) (by rw[DM,e5]);unfold bm;simp[abh]
section
variable{B P v1 v2 Vr u3 Ur gS q g:Nat}
theorem adV(hP:0<P)(hq:q*((v1*B+v2)*P+Vr)≤(gS*B+u3)*P+Ur)(hU:u3*P+Ur<B*P)(iE:0<v1)(hqB:q≤B-1):q≤min (gS/v1) (B-1):=by
 refine Nat.le_min.2 ⟨?_,hqB⟩;rw[Nat.le_div_iff_mul_le iE];rcases Nat.lt_or_ge gS (q*v1)with h|h
 ·exfalso;have h1:(gS+1)*(B*P)≤q*v1*(B*P):=Nat.mul_le_mul_right _ h;have h2:q*v1*(B*P)≤q*((v1*B+v2)*P+Vr):=by
   have:q*((v1*B+v2)*P+Vr)=q*v1*(B*P)+(q*v2*P+q*Vr):=by
    simp only[Nat.mul_add,Nat.add_mul,Nat.mul_assoc,Nat.add_assoc]
   omega
  have h3:(gS*B+u3)*P+Ur=gS*(B*P)+(u3*P+Ur):=by
   simp only[Nat.add_mul,Nat.mul_assoc,Nat.add_assoc]
  have h4:(gS+1)*(B*P)=gS*(B*P)+B*P:=by rw[Nat.add_mul,Nat.one_mul]
  omega
 ·exact h
theorem adW(hU:Ur<P)(hg:g*v1≤gS)(ht:(gS-g*v1)*B+u3<g*v2)(hq:q*((v1*B+v2)*P+Vr)≤(gS*B+u3)*P+Ur):q≤g-1:=by
 have h1:gS*B+u3<g*(v1*B+v2):=by
  have e1:(gS-g*v1)*B=gS*B-g*v1*B:=Nat.sub_mul _ _ _;have e2:g*(v1*B+v2)=g*v1*B+g*v2:=by rw[Nat.mul_add,Nat.mul_assoc]
  have e3:g*v1*B≤gS*B:=Nat.mul_le_mul_right _ hg;omega
 have h2:(gS*B+u3)*P+Ur<g*((v1*B+v2)*P+Vr):=by
  have e1:(gS*B+u3+1)*P≤g*(v1*B+v2)*P:=Nat.mul_le_mul_right _ h1;have e2:g*((v1*B+v2)*P+Vr)=g*(v1*B+v2)*P+g*Vr:=by rw[Nat.mul_add,Nat.mul_assoc]
  have e3:(gS*B+u3+1)*P=(gS*B+u3)*P+P:=by rw[Nat.add_mul,Nat.one_mul]
  omega
 have h3:q<g:=by
  rcases Nat.lt_or_ge q g with h|h
  ·exact h
  ·have:=Nat.mul_le_mul_right ((v1*B+v2)*P+Vr) h;omega
 omega
theorem adX(iE:0<v1)(hB:0<B)(hg:g*v1≤gS)(hgB:g≤B-1)(lC:v2≤B-1)(hVr:Vr<P)(ht:B≤gS-g*v1∨g*v2≤(gS-g*v1)*B+u3):(g-1)*((v1*B+v2)*P+Vr)≤(gS*B+u3)*P+Ur:=by
 have e2:g*(v1*B+v2)=g*v1*B+g*v2:=by rw[Nat.mul_add,Nat.mul_assoc]
 have e3:g*v1*B≤gS*B:=Nat.mul_le_mul_right _ hg;have e1:(gS-g*v1)*B=gS*B-g*v1*B:=Nat.sub_mul _ _ _;have h1:g*(v1*B+v2)≤gS*B+u3:=by
  rcases ht with ht|ht
  ·have h2:B*B≤(gS-g*v1)*B:=Nat.mul_le_mul_right _ ht;have h3:g*v2≤B*B:=Nat.mul_le_mul zO zO;omega
  ·omega
 have h2:g*(v1*B+v2)*P≤(gS*B+u3)*P:=Nat.mul_le_mul_right _ h1;have h3:g*Vr≤B*P:=Nat.mul_le_mul zO zO;have h4:B*P≤(v1*B+v2)*P:=Nat.mul_le_mul_right _ (by
  have:1*B≤v1*B:=Nat.mul_le_mul_right _ iE;omega)
 have h5:g*((v1*B+v2)*P+Vr)=g*(v1*B+v2)*P+g*Vr:=by rw[Nat.mul_add,Nat.mul_assoc]
 have h6:(g-1)*((v1*B+v2)*P+Vr)=g*((v1*B+v2)*P+Vr)-((v1*B+v2)*P+Vr):=by rw[Nat.sub_mul,Nat.one_mul]
 omega
end
def nth(l:List Nat)(j:Nat):Nat:=(l[j]?).getD 0
theorem FT{l:List Nat}{j:Nat}(h:j<l.length):l[j]?=some (nth l j):=by
 unfold nth;rw[List.getElem?_eq_getElem h];rfl
theorem dZ{l:List Nat}(h:aR l)(j:Nat):nth l j<gB:=by
 unfold nth;cases e:l[j]?with
 |none=>exact dv
 |some x=>exact h x (List.mem_of_getElem? e)
theorem zz{l:List Nat}{i j v:Nat}(h:i<l.length):nth (l.set i v) j=if i=j then v else nth l j:=by
 unfold nth;rw[List.getElem?_set];by_cases e:i=j
 ·subst e;simp[h]
 ·simp[e]
theorem aie{p r:List Nat}{x:Nat}:nth (p++x::r) p.length=x:=by simp[nth]
theorem zi{l:List Nat}{j v:Nat}(h:j<l.length):an (l.set j v)+nth l j*gB^j=an l+v*gB^j:=by
 induction l generalizing j with
 |nil=>simp at h
 |cons a l ih=>
  cases j with
  |zero=>simp only[List.set_cons_zero,an,nth,List.getElem?_cons_zero,Option.getD_some,Nat.pow_zero,Nat.mul_one];omega
  |succ j=>
   have h2:=ih (j:=j) (by simpa using h);have e1:nth (a::l) (j+1)=nth l j:=by simp[nth]
   simp only[List.set_cons_succ,an,e1,Nat.pow_succ];have e2:nth l j*(gB^j*gB)=gB*(nth l j*gB^j):=by rw[←Nat.mul_assoc,Nat.mul_comm]
   have e3:v*(gB^j*gB)=gB*(v*gB^j):=by rw[←Nat.mul_assoc,Nat.mul_comm]
   rw[e2,e3];have e4:gB*(an (l.set j v)+nth l j*gB^j)=gB*(an l+v*gB^j):=by rw[h2]
   rw[Nat.mul_add,Nat.mul_add]at e4;omega
theorem u6{l:List Nat}(h:aR l){j v:Nat}(hv:v<gB):aR (l.set j v):=by
 intro x hx;rcases List.mem_or_eq_of_mem_set hx with hx|rfl
 ·exact h x hx
 ·exact hv
theorem ahh{a b:List Nat}(ha:aR a)(hb:aR b):aR (a++b):=fun x hx=>(List.mem_append.1 hx).elim (ha x) (hb x)
theorem Tn(n:Nat):aR (List.replicate n 0):=fun x hx=>by rw[(List.mem_replicate.1 hx).2];exact dv
theorem Tp(n:Nat):an (List.replicate n 0)=0:=by
 induction n with
 |zero=>rfl
 |succ n ih=>rw[List.replicate_succ,an,ih];rfl
theorem KT(l:List Nat)(k:Nat)(h:k≤l.length):an l=an (l.take k)+gB^k*an (l.drop k):=by
 conv=>lhs;rw[←List.take_append_drop k l]
 rw[u7,List.length_take,Nat.min_eq_left h]
theorem wZ(p:List Nat)(x:Nat):an (p++[x])=an p+x*gB^p.length:=by
 rw[u7];simp only[an,Nat.mul_zero,Nat.add_zero];rw[Nat.mul_comm]
theorem NL{l:List Nat}{j t c a:Nat}(h:j<l.length)(ha:nth l j=a)(ht:t=c+a):an (l.set j (t%gB))+(t/gB)*gB^(j+1)=an l+c*gB^j:=by
 have h1:=zi (v:=t%gB) h;have h2:t%gB*gB^j+t/gB*gB^(j+1)=t*gB^j:=by
  rw[Nat.pow_succ,←Nat.mul_assoc,Nat.mul_right_comm,←Nat.add_mul]
  congr 1
  have:=Nat.mod_add_div t gB;rw[Nat.mul_comm (t/gB)];exact this
 rw[ha]at h1;subst ht;rw[Nat.add_mul]at h2;omega
theorem KU{l:List Nat}{k:Nat}(h:∀j,k≤j→nth l j=0):an l=an (l.take k):=by
 induction l generalizing k with
 |nil=>simp
 |cons a l ih=>
  cases k with
  |zero=>
   have h1:a=0:=by simpa[nth]using h 0 (Nat.le_refl _)
   have h2:=ih (k:=0) (fun j _=>by simpa[nth]using h (j+1) (Nat.zero_le _));simp only[List.take_zero]at h2⊢;simp[an,h1,h2]
  |succ k=>
   have h2:=ih (k:=k) (fun j hj=>by simpa[nth]using h (j+1) zO);simp only[List.take_succ_cons,an,h2]
theorem aid(l:List Nat)(j:Nat):nth l j*gB^j≤an l:=by
 induction l generalizing j with
 |nil=>simp[nth,an]
 |cons a l ih=>
  cases j with
  |zero=>simp[nth,an]
  |succ j=>
   have h:=ih j;have e1:nth (a::l) (j+1)=nth l j:=by simp[nth]
   rw[e1,an,Nat.pow_succ];have e2:nth l j*(gB^j*gB)=gB*(nth l j*gB^j):=by rw[←Nat.mul_assoc,Nat.mul_comm]
   rw[e2];have:=Nat.mul_le_mul_left gB h;omega
theorem Uj{l:List Nat}{n j:Nat}(h:an l<gB^n)(hj:n≤j):nth l j=0:=by
 have h1:=aid l j;rcases Nat.eq_zero_or_pos (nth l j)with h2|h2
 ·exact h2
 ·have h3:gB^n≤gB^j:=Nat.pow_le_pow_right dv hj;have h4:1*gB^j≤nth l j*gB^j:=Nat.mul_le_mul_right _ h2;omega
theorem ahi{l:List Nat}(h:aR l)(i:Nat):an (l.drop i)=an l/gB^i:=by
 rcases Nat.lt_or_ge l.length i with g|g
 ·rw[List.drop_of_length_le zO];have h1:=tf h;have h2:gB^l.length≤gB^i:=Nat.pow_le_pow_right dv zO;rw[Nat.div_eq_of_lt zO];rfl
 ·have h1:=KT l i g;have h2:=tf (m:=l.take i) (fun x hx=>h x (List.mem_of_mem_take hx));rw[List.length_take,Nat.min_eq_left g]at h2;rw[h1,Nat.add_mul_div_left _ _ (Nat.pow_pos dv),Nat.div_eq_of_lt h2];omega
theorem v7{l:List Nat}{i:Nat}(h:i<l.length):l.drop i=nth l i::l.drop (i+1):=by
 rw[List.drop_eq_getElem_cons h];simp[nth,h]
theorem anb{l:List Nat}{n:Nat}(h:n+3=l.length):an l=((nth l (n+2)*gB+nth l (n+1))*gB+nth l n)*gB^n+an (l.take n):=by
 rw[KT l n zO,v7 zO,v7 zO,v7 zO,List.drop_of_length_le zO];simp only[an,Nat.mul_zero,Nat.add_zero];rw[Nat.mul_comm (gB^n)];have:nth l n+gB*(nth l (n+1)+gB*nth l (n+2))=(nth l (n+2)*gB+nth l (n+1))*gB+nth l n:=by
  rw[Nat.mul_add,Nat.add_mul,Nat.mul_comm gB (nth l (n+1)),Nat.mul_comm (nth l (n+2)) gB,Nat.mul_comm (gB*nth l (n+2)) gB];omega
 rw[this];omega
theorem ana{l:List Nat}{n:Nat}(h:n+2=l.length):an l=(nth l (n+1)*gB+nth l n)*gB^n+an (l.take n):=by
 rw[KT l n zO,v7 zO,v7 zO,List.drop_of_length_le zO];simp only[an,Nat.mul_zero,Nat.add_zero];rw[Nat.mul_comm (gB^n)];have:nth l n+gB*nth l (n+1)=nth l (n+1)*gB+nth l n:=by rw[Nat.mul_comm gB];omega
 rw[this];omega
def hY:List Nat→Nat→List Nat×Nat
 |[],_=>([],0)
 |a::l,d=>(((hY l d).2*gB+a)/d::(hY l d).1,((hY l d).2*gB+a)%d)
theorem Mo(l:List Nat){d:Nat}(hd:0<d):(hY l d).2<d:=by
 cases l with
 |nil=>exact hd
 |cons a l=>exact Nat.mod_lt _ hd
theorem ak'(l:List Nat)(d:Nat):(hY l d).1.length=l.length:=by
 induction l with
 |nil=>rfl
 |cons a l ih=>simp[hY,ih]
theorem ak9{r a d:Nat}(hr:r<d)(hd:d<gB)(ha:a<gB):r*gB+a<18446744073709551616:=by
 have:r*gB≤999999999*gB:=Nat.mul_le_mul_right _ (by unfold gB at*;omega);unfold gB at*;omega
theorem ala{l:List Nat}{d:Nat}(hl:aR l)(hd:0<d):aR (hY l d).1:=by
 induction l with
 |nil=>intro x hx;simp[hY]at hx
 |cons a l ih=>
  intro x hx;simp only[hY,List.mem_cons]at hx;rcases hx with rfl|hx
  ·have h1:=Mo l hd;have h2:=hl a zS;rw[Nat.div_lt_iff_lt_mul hd];have h3:((hY l d).2+1)*gB≤d*gB:=Nat.mul_le_mul_right _ h1;rw[Nat.add_mul]at h3;rw[Nat.mul_comm gB d];omega
  ·exact ih (fun y hy=>hl y (by simp[hy])) x hx
theorem alb(l:List Nat)(d:Nat):an l=an (hY l d).1*d+(hY l d).2:=by
 induction l with
 |nil=>simp[hY,an]
 |cons a l ih=>
  have h:=Nat.div_add_mod ((hY l d).2*gB+a) d;simp only[hY,an];rw[ih];generalize (hY l d).2=r at*;generalize an (hY l d).1=q at*;generalize (r*gB+a)/d=u at*;generalize (r*gB+a)%d=v at*;rw[Nat.mul_add,Nat.add_mul,Nat.mul_comm u d,←Nat.mul_assoc,Nat.mul_comm gB r];omega
theorem mulN{a:Nat}{b:Int}{c:Nat}(hb:b=(c:Int))(h:a*c<18446744073709551616):IntKind.u64.wrap ((a:Int)*b)=((a*c:Nat):Int):=by
 subst hb;have e:(a:Int)*(c:Int)=((a*c:Nat):Int):=by simp
 rw[e];exact Dd zO zO
theorem L8{a d:Nat}(h:a<18446744073709551616):IntKind.u64.wrap ((a:Int).tdiv (d:Int))=((a/d:Nat):Int):=by
 have e:(a:Int).tdiv (d:Int)=((a/d:Nat):Int):=by
  rw[Int.tdiv_eq_ediv_of_nonneg zO];simp
 rw[e];have:a/d≤a:=Nat.div_le_self _ _;generalize a/d=q at this⊢;exact Dd zO zO
theorem akv(a d:Nat):(a:Int).tmod (d:Int)=((a%d:Nat):Int):=by
 rw[Int.tmod_eq_emod_of_nonneg zO];simp
theorem Gs(i:List Nat)(x:Nat)(s:List Nat):List.replicate (i++[x]).length 0++s=List.replicate i.length 0++0::s:=by simp[List.replicate_succ']
theorem abB{i:List Nat}{x:Nat}{s:List Nat}:(bb (List.replicate (i++[x]).length 0++s))[i.length]?=some [.raw (.int .u64 ((0:Nat):Int))]:=by
 rw[Gs];have h:=fj (List.replicate i.length 0) 0 s;rw[List.length_replicate]at h;exact h
theorem abC{i:List Nat}{x:Nat}{s:List Nat}{q:Nat}:(bb (List.replicate (i++[x]).length 0++s)).set i.length [.raw (.int .u64 (q:Int))]=bb (List.replicate i.length 0++q::s):=by
 rw[Gs];have h:=sF (List.replicate i.length 0) 0 q s;rw[List.length_replicate]at h;exact h
theorem gC{out:List Nat}{j:Nat}(h:j<out.length):(bb out)[j]?=some [.raw (.int .u64 (nth out j:Int))]:=by
 simp[bb,FT h]
theorem sG{out:List Nat}{j v:Nat}:(bb out).set j [.raw (.int .u64 (v:Int))]=bb (out.set j v):=by
 simp[bb,List.map_set]
def TI(out:List Nat)(c i k V a:Nat)(pre:List Nat):Prop:=
 aR out∧c<gB∧an out+c*gB^(i+pre.length)=V+a*an pre*gB^i∧∀j,i+k≤j→nth out j=0
def TO(out:List Nat)(i k V:Nat):Prop:=aR out∧an out=V∧∀j,i+k≤j→nth out j=0
theorem G7{out:List Nat}{i k V:Nat}(a:Nat)(h:TO out i k V):TI out 0 i k V a []:=⟨h.1,dv,by simp[an,h.2.1],h.2.2⟩
theorem G'(x y:List Nat)(n:Nat):TO (List.replicate n 0) 0 y.length (an []*an y):=⟨Tn n,by rw[Tp];simp[an],fun j _=>by
 unfold nth;rw[List.getElem?_replicate];split<;>rfl⟩
theorem G_{c n a b:Nat}(hc:c<gB)(hn:n<gB)(ha:a<gB)(hb:b<gB):c+(n+a*b)<gB*gB:=by
 have h1:a*b≤(gB-1)*(gB-1):=Nat.mul_le_mul zO zO;unfold gB at*;omega
theorem uh{c n a b:Nat}(hc:c<gB)(hn:n<gB)(ha:a<gB)(hb:b<gB):a*b<18446744073709551616∧n+a*b<18446744073709551616∧c+(n+a*b)<18446744073709551616:=by
 have h:=G_ hc hn ha hb;have h2:gB*gB<18446744073709551616:=by decide
 omega
theorem G8{out pre:List Nat}{c i k V a b:Nat}(h:TI out c i k V a pre)(ha:a<gB)(hb:b<gB)(hk:pre.length<k)(hl:i+pre.length<out.length):
  TI (out.set (i+pre.length) ((c+(nth out (i+pre.length)+a*b))%gB)) ((c+(nth out (i+pre.length)+a*b))/gB) i k V a (pre++[b]):=by
 obtain⟨h1,h2,h3,h4⟩:=h;have fZ:=G_ h2 (dZ h1 (i+pre.length)) ha hb;refine⟨u6 h1 (Nat.mod_lt _ dv),?_,?_,fun j hj=>?_⟩
 ·rw[Nat.div_lt_iff_lt_mul dv];exact fZ
 ·have hs:=NL (t:=c+(nth out (i+pre.length)+a*b)) (c:=c+a*b) hl rfl zO;rw[List.length_append,show i+(pre.length+[b].length)=i+pre.length+1 by simp;omega,hs,Nat.add_mul,←Nat.add_assoc,h3,wZ,Nat.mul_add,Nat.add_mul,Nat.pow_add];rw[Nat.add_assoc]
  congr 2
  rw[Nat.mul_comm (gB^i),←Nat.mul_assoc,←Nat.mul_assoc]
 ·rw[zz hl,if_neg zO];exact h4 j hj
theorem G9{out pre y:List Nat}{c a k:Nat}(h:TI out c pre.length y.length (an pre*an y) a y)(hk:0<y.length)(hl:pre.length+y.length<out.length)(hn:k=nth out (pre.length+y.length)+c):
  TO (out.set (pre.length+y.length) k) (pre++[a]).length y.length (an (pre++[a])*an y):=by
 obtain⟨h1,h2,h3,h4⟩:=h;have h0:=h4 (pre.length+y.length) (Nat.le_refl _);subst hn;have hs:=zi (v:=nth out (pre.length+y.length)+c) hl;rw[h0]at hs;rw[h0];refine⟨u6 h1 zO,?_,fun j hj=>?_⟩
 ·simp only[Nat.zero_mul,Nat.zero_add,Nat.add_zero]at hs⊢;rw[hs,h3,wZ,Nat.add_mul]
  congr 1
  rw[Nat.mul_right_comm]
 ·simp only[List.length_append,List.length_cons,List.length_nil]at hj;rw[zz hl,if_neg zO];exact h4 j zO
theorem M6{out pre y:List Nat}{c a:Nat}(h:TI out c pre.length y.length (an pre*an y) a y)(hk:y.length=0):
  TO out (pre++[a]).length y.length (an (pre++[a])*an y):=by
 obtain⟨h1,h2,h3,h4⟩:=h;have e:=List.eq_nil_of_length_eq_zero hk;subst e;refine⟨h1,?_,fun j hj=>h4 j (by simp at hj⊢;omega)⟩;simp only[an,Nat.mul_zero,Nat.zero_mul]at h3⊢;omega
theorem Aq{out x y:List Nat}{i k:Nat}(h:TO out i k (an x*an y)):bm out=ak (an x*an y):=by rw[q0 h.1,h.2.1]
variable[bX]
theorem Vr.Ux{w:World}{O:Nat→Prop}{b sz:Nat}:∀(rows:List (List D))(off:Nat),rows.all (fun r=>Nat.beq r.length sz)=true→Vc w O b off rows.flatten→Vr w O b off sz rows
 |[],off,_,_=>by simp[Vr]
 |r::rs,off,hl,h=>by
  simp only[List.all_cons,Bool.and_eq_true,Nat.beq_eq]at hl;have h1:=h.take r.length;have h2:=h.drop r.length;simp only[List.flatten_cons,List.take_left,List.drop_left]at h1 h2;simp only[Vr];exact⟨⟨hl.1,h1⟩,Vr.Ux rs (off+sz) hl.2 (hl.1▸h2)⟩
theorem aj5{P:Program}{env:Env}{dst:Option Tmp}{ty:TypeId}{pos:String}{ar:Array Edge}{g:Option (Nat×Bool)}{t e:TypeId}{x:Operand}{n sz:Nat}{cs:List D}{rows:List (List D)}(hu:P.underlying t=some (.array n e))(hs:∀w,(sizeOf e).run P w=.ok sz w)(hx:env.op x=some (.bc cs))(hn:0<n)(uN:n<4611686018427387904)
  (hr:rows.flatten=cs)(hl:rows.length=n)(f_:rows.all (fun r=>Nat.beq r.length sz)=true)(hb:n≤aG)(U:ae):
  aq P ⟨dst,.slice t x none none none,ty,pos,ar,g⟩ env U (.snap sz true rows) U:=
 .val fun O ρ a w _ hv=>by
  have h1:=hv x (by simp[Op.operands]) _ hx;simp only[V]at h1;obtain⟨b,off,e1,ho,h2⟩:=h1;have A':(Instr.sliceBounds false n n none none none).run P w=.ok (0,n,n) w:=by simp[Instr.sliceBounds]
  refine⟨.slice (some ⟨b,off,none⟩) n n,?_,?_⟩
  ·simp[execOp,Instr.sliceAt,Instr.sureAddr,ca hu,e1,A',hs,Hh]
  ·simp only[V];refine⟨_,n,by rw[hl],⟨by omega,by omega⟩,fun _=>hl.symm,fun _=>⟨b,off,rfl,ho,?_⟩⟩;exact Vr.Ux rows off f_ (hr▸h2)
theorem Vq{P:Program}{env:Env}{dst:Option Tmp}{ty:TypeId}{pos:String}{ar:Array Edge}{g:Option (Nat×Bool)}{t e:TypeId}{x y:Operand}{n sz:Nat}{k:IntKind}{i:Int}{cs r:List D}(hu:P.underlying t=some (.array n e))(ha:∀w,(isAgg e).run P w=.ok true w)(hs:∀w,(sizeOf e).run P w=.ok sz w)
  (hx:env.op x=some (.agg cs))(hy:env.op y=some (.raw (.int k i)))(h0:0≤i)(hi:i<n)(hl:i.toNat*sz+sz≤cs.length)(hr:(cs.drop (i.toNat*sz)).take sz=r)(U:ae):
  aq P ⟨dst,.index t x y,ty,pos,ar,g⟩ env U (.agg r) U:=
 .val fun O ρ a w _ hv=>by
  have h1:=hv x (by simp[Op.operands]) _ hx;have h2:=hv y (by simp[Op.operands]) _ hy;simp only[V]at h1 h2;obtain⟨vs,e1,h3⟩:=h1;refine⟨.agg (vs.extract (i.toNat*sz) (i.toNat*sz+sz)),?_,?_⟩
  ·simp[execOp,Instr.index,h2,asIntOf,ca hu,e1,h0,hi,hs,part,ha]
  ·simp only[V];refine⟨_,rfl,?_⟩;rw[Array.toList_extract,List.extract_eq_take_drop,←hr,Nat.add_sub_cancel_left];exact Vs.take sz (Vs.drop (i.toNat*sz) h3)
end Go.T
