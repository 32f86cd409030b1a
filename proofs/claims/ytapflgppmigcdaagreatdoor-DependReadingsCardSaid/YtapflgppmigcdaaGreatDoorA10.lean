/- Contracts of functions that the statement reaches, and the logic in which they are proved (no condition). -/
import Derived.Test.YtapflgppmigcdaaGreatDoorA09
set_option linter.all false
set_option maxRecDepth 20000
namespace Go.T
open Go Go.Proofs Go.Proofs.Tryz
structure Zt(p q:List Nat)where
 out:List Nat
 rest:List Nat
 c:Nat
 hl:p.length=out.length+rest.length
 hc:c<=1
 ho:aZ rest
 hr:out++iG rest (q.drop out.length) c=iG p q 0
def aoW(x y:List Nat)(aC:x.length≠0\/y.length≠0)(wZ:x.length<=20000)(Be:y.length<=20000)(jf:aZ x)(uZ:aZ y):Fc prog 280 [bk x,bk y] (bk (nX x y)):=by
 refine ay func280 ntmps280 results280 ?_;refine U.seq<|rg<|.ag rfl rfl<|.nil<|U.seq<|U.seq<|rg<|.mv rfl rfl<|.P rfl (cv underlying244 rfl)<|.mv rfl rfl<|.P rfl (cv underlying244 rfl)<|.P rfl (bp rfl rfl)<|.nil<|U.cond rfl (fun h1=>?_) (fun h1=>?_)
 ·have bJ:=h1;try simp only[bs]at bJ
  refine rg<|.mv rfl rfl<|.mv rfl rfl<|.ag rfl rfl<|.ag rfl rfl<|.nil<|U.seq<|rg<|.mv rfl rfl<|.P rfl (cv underlying244 rfl)<|.mv rfl rfl<|.P rfl (cv underlying244 rfl)<|.P rfl (bx rfl rfl (cT zO zQ))<|.W rfl (xz (bt:=8) 0 _ underlying244 sizeOf184 typeInfo184 zeroValue184 rfl rfl rfl rfl rfl rfl (Int.natCast_succ _).symm zO (by rw[bB];omega) zQ zQ rfl)<|.ag rfl rfl<|.nil<|U.seq<|rg<|.mv rfl rfl<|.mv rfl rfl<|.W rfl (ZF underlying244 sizeOf184 rfl rfl rfl zS zS (by rw[bB];omega))<|.nil<|U.seq<|rg<|.ag rfl rfl<|.nil<|U.seq<|U.seq<|rg<|.mv rfl rfl<|.P rfl (vG underlying244 rfl)<|.mv rfl rfl<|.nil<|U.block<|U.loop (ι:=Zt y x) (fun sx=>[(1,bk x),(5,.gs 0 y.length),(6,.raw (.int .u64 (sx.c:Int))),(25,.i y.length),(26,.i sx.out.length)]) (fun sx=>[(0,.arr 1 (bG (sx.out++sx.rest)))]) (fun sx=>sx.rest.length) ⟨[],y,0,by simp,by omega,uZ,by simp⟩ ?_ ?_
  ·exact Le.mk rfl (.s rfl rfl (.cons rfl (Sub.gs zS) rfl (.s rfl rfl (.cons rfl (Sub.int zS) rfl (.s rfl rfl .nil))))) (.arr rfl (by rfl) .nil)
  ·rintro⟨out,rest,c,hl,hc,ho,hr⟩;try dsimp only
   rcases rest with _|⟨a,rest⟩
   ·refine U.seq<|rg<|.P rfl (bp rfl rfl)<|.nil<|U.seq<|U.c6 rfl (by simp at hl|-;omega)<|U.exit (dz (du ?_));refine U.seq<|U.seq<|rg<|.mv rfl rfl<|.P rfl (gE rfl rfl)<|.nil<|U.cond rfl (fun h2=>?_) (fun h2=>?_)
    ·have di:=h2;try simp only[bs]at di
     refine rg<|.mv rfl rfl<|.mv rfl rfl<|.P rfl (bK (n:=1) (rows:=bG [c]) underlying244 sizeOf184 rfl rfl rfl zeroValue184 rfl rfl rfl rfl rfl rfl rfl)<|.W rfl (ee 1 underlying244 underlying244 sizeOf184 typeInfo184 zeroValue184 rfl (bt:=8) rfl rfl rfl rfl (by simp at hl|-;omega) rfl rfl (by simp at*;omega))<|.ag rfl rfl<|.nil<|U.seq<|rg<|.mv rfl rfl<|.ag rfl rfl<|.nil ?_;refine U.bc (Le.freeze 4 1 rfl rfl (by simp at hl|-;omega)) ?_;refine U.ret (?_);exact dt rfl (Sub.snap (by(rw[Zs (by simp at*;omega)]);rw[<-hr];simp only[iG];(rw[aV zO]);try simp))
    ·have di:=h2;try simp only[bs]at di
     refine U.skip<|U.seq<|rg<|.mv rfl rfl<|.ag rfl rfl<|.nil ?_;refine U.bc (Le.freeze 4 0 rfl rfl (by simp at hl|-;omega)) ?_;refine U.ret (?_);exact dt rfl (Sub.snap (by(rw[Zs (by simp at*;omega)]);rw[<-hr];simp only[iG];(rw[aF zO]);try simp))
   ·simp only[bD]at hl;have ha:=ho a zS;have hb:=OI (k:=out.length) jf;refine U.seq<|rg<|.P rfl (bp rfl rfl)<|.nil<|U.seq<|U.ew rfl zQ<|U.skip<|U.seq<|U.block<|U.seq<|rg<|.mv rfl rfl<|.ag rfl rfl<|.nil<|U.seq<|rg<|.mv rfl rfl<|.mv rfl rfl<|.P rfl (ca (off:=(out.length)*1) underlying244 sizeOf184 rfl rfl zO zQ zO)<|.R rfl (fG (r:=_) (out.length) 0 isAgg184 rfl rfl rfl (fS _ _ _) rfl)<|.mv rfl rfl<|.P rfl (bx rfl rfl (addN (by unfold gB at*;omega)))<|.P rfl (ca (off:=(out.length)*1) underlying244 sizeOf184 rfl rfl zO zQ zO)<|.W rfl (ic (r:=_) (out.length) 0 sizeOf184 rfl rfl rfl rfl rfl rfl (fS _ _ _) zS)<|.nil<|U.seq<|U.seq<|rg<|.mv rfl rfl<|.mv rfl rfl<|.P rfl (cv underlying244 rfl)<|.P rfl (bp rfl rfl)<|.nil<|U.cond rfl (fun h3=>?_) (fun h3=>?_)
    ·refine U.pE [.p,.p,.p,.r,.p,.p,.p,.p,.p,.p,.w] l7 zK<|.mv rfl rfl<|.mv rfl rfl<|.P rfl (ca (off:=(out.length)*1) underlying244 sizeOf184 rfl rfl zO zQ zO)<|.R rfl (fG (r:=_) (out.length) 0 isAgg184 rfl rfl rfl (hC (fS _ _ _)) rfl)<|.mv rfl rfl<|.mv rfl rfl<|.P rfl (eC underlying244 sizeOf184 rfl rfl zO (u4 (Ew (by simp at*;omega)) rfl))<|.P rfl (bE isAgg184 rfl)<|.P rfl (bx rfl rfl (addN (by unfold gB at*;omega)))<|.P rfl (ca (off:=(out.length)*1) underlying244 sizeOf184 rfl rfl zO zQ zO)<|.W rfl (ic (r:=_) (out.length) 0 sizeOf184 rfl rfl rfl rfl rfl rfl (hC (fS _ _ _)) zS)<|.nil<|U.seq<|rg<|.mv rfl rfl<|.mv rfl rfl<|.P rfl (ca (off:=(out.length)*1) underlying244 sizeOf184 rfl rfl zO zQ zO)<|.R rfl (fG (r:=_) (out.length) 0 isAgg184 rfl rfl rfl (hC (hC (fS _ _ _))) rfl)<|.P rfl (lu rfl rfl zD (xA (by unfold gB at*;omega)))<|.ag rfl rfl<|.nil<|rg<|.mv rfl rfl<|.mv rfl rfl<|.P rfl (ca (off:=(out.length)*1) underlying244 sizeOf184 rfl rfl zO zQ zO)<|.R rfl (fG (r:=_) (out.length) 0 isAgg184 rfl rfl rfl (hC (hC (fS _ _ _))) rfl)<|.P rfl (lX rfl rfl zD (vL _))<|.P rfl (ca (off:=(out.length)*1) underlying244 sizeOf184 rfl rfl zO zQ zO)<|.W rfl (ic (r:=_) (out.length) 0 sizeOf184 rfl rfl rfl rfl rfl rfl (hC (hC (fS _ _ _))) zS)<|.nil ?_;refine U.nil (bR ?_);refine rg<|.P rfl (bx rfl rfl (ao zO))<|.mv rfl rfl<|.nil<|U.nil (cz ?_)
     exact⟨⟨out++[(a+c+mh x out.length)%gB],rest,(a+c+mh x out.length)/gB,by simp;omega,by rw[qw ed];unfold gB at*;omega,fun u hu=>ho u (by simp[hu]),by rw[<-hr,QQ (by simp at*;omega)];simp⟩,by simp,Le.mk rfl (.s rfl rfl (.cons rfl (Sub.gs zS) rfl (.n 2 rfl rfl (.cons rfl (Sub.int zS) rfl .nil)))) (.arr rfl (by skip;simp only[Ag,oG];exact(uy _ _ _ _).trans zS) .nil)⟩
    ·refine U.skip<|U.seq<|rg<|.mv rfl rfl<|.mv rfl rfl<|.P rfl (ca (off:=(out.length)*1) underlying244 sizeOf184 rfl rfl zO zQ zO)<|.R rfl (fG (r:=_) (out.length) 0 isAgg184 rfl rfl rfl (hC (fS _ _ _)) rfl)<|.P rfl (lu rfl rfl zD (xA (by unfold gB at*;omega)))<|.ag rfl rfl<|.nil<|rg<|.mv rfl rfl<|.mv rfl rfl<|.P rfl (ca (off:=(out.length)*1) underlying244 sizeOf184 rfl rfl zO zQ zO)<|.R rfl (fG (r:=_) (out.length) 0 isAgg184 rfl rfl rfl (hC (fS _ _ _)) rfl)<|.P rfl (lX rfl rfl zD (vL _))<|.P rfl (ca (off:=(out.length)*1) underlying244 sizeOf184 rfl rfl zO zQ zO)<|.W rfl (ic (r:=_) (out.length) 0 sizeOf184 rfl rfl rfl rfl rfl rfl (hC (fS _ _ _)) zS)<|.nil<|U.nil (bR ?_);refine rg<|.P rfl (bx rfl rfl (ao zO))<|.mv rfl rfl<|.nil<|U.nil (cz ?_);exact⟨⟨out++[(a+c)%gB],rest,(a+c)/gB,by simp;omega,by rw[qw ed];unfold gB at*;omega,fun u hu=>ho u (by simp[hu]),by rw[<-hr,QP (by simp at*;omega)];simp⟩,by simp,Le.mk rfl (.s rfl rfl (.cons rfl (Sub.gs zS) rfl (.n 2 rfl rfl (.cons rfl (Sub.int zS) rfl .nil)))) (.arr rfl (by skip;simp only[Ag,oG];exact(uy _ _ _ _).trans zS) .nil)⟩
 ·have bJ:=h1;try simp only[bs]at bJ
  refine U.skip<|U.seq<|rg<|.mv rfl rfl<|.P rfl (cv underlying244 rfl)<|.mv rfl rfl<|.P rfl (cv underlying244 rfl)<|.P rfl (bx rfl rfl (cT zO zQ))<|.W rfl (xz (bt:=8) 0 _ underlying244 sizeOf184 typeInfo184 zeroValue184 rfl rfl rfl rfl rfl rfl (Int.natCast_succ _).symm zO (by rw[bB];omega) zQ zQ rfl)<|.ag rfl rfl<|.nil<|U.seq<|rg<|.mv rfl rfl<|.mv rfl rfl<|.W rfl (ZF underlying244 sizeOf184 rfl rfl rfl zS zS (by rw[bB];omega))<|.nil<|U.seq<|rg<|.ag rfl rfl<|.nil<|U.seq<|U.seq<|rg<|.mv rfl rfl<|.P rfl (vG underlying244 rfl)<|.mv rfl rfl<|.nil<|U.block<|U.loop (ι:=Zt x y) (fun sx=>[(1,bk y),(5,.gs 0 x.length),(6,.raw (.int .u64 (sx.c:Int))),(25,.i x.length),(26,.i sx.out.length)]) (fun sx=>[(0,.arr 1 (bG (sx.out++sx.rest)))]) (fun sx=>sx.rest.length) ⟨[],x,0,by simp,by omega,jf,by simp⟩ ?_ ?_
  ·exact Le.mk rfl (.s rfl rfl (.cons rfl (Sub.gs zS) rfl (.s rfl rfl (.cons rfl (Sub.int zS) rfl (.s rfl rfl .nil))))) (.arr rfl (by rfl) .nil)
  ·rintro⟨out,rest,c,hl,hc,ho,hr⟩;try dsimp only
   rcases rest with _|⟨a,rest⟩
   ·refine U.seq<|rg<|.P rfl (bp rfl rfl)<|.nil<|U.seq<|U.c6 rfl (by simp at hl|-;omega)<|U.exit (dz (du ?_));refine U.seq<|U.seq<|rg<|.mv rfl rfl<|.P rfl (gE rfl rfl)<|.nil<|U.cond rfl (fun h4=>?_) (fun h4=>?_)
    ·have gD:=h4;try simp only[bs]at gD
     refine rg<|.mv rfl rfl<|.mv rfl rfl<|.P rfl (bK (n:=1) (rows:=bG [c]) underlying244 sizeOf184 rfl rfl rfl zeroValue184 rfl rfl rfl rfl rfl rfl rfl)<|.W rfl (ee 1 underlying244 underlying244 sizeOf184 typeInfo184 zeroValue184 rfl (bt:=8) rfl rfl rfl rfl (by simp at hl|-;omega) rfl rfl (by simp at*;omega))<|.ag rfl rfl<|.nil<|U.seq<|rg<|.mv rfl rfl<|.ag rfl rfl<|.nil ?_;refine U.bc (Le.freeze 4 1 rfl rfl (by simp at hl|-;omega)) ?_;refine U.ret (?_);exact dt rfl (Sub.snap (by(rw[Zr (by simp at*;omega)]);rw[<-hr];simp only[iG];(rw[aV zO]);try simp))
    ·have gD:=h4;try simp only[bs]at gD
     refine U.skip<|U.seq<|rg<|.mv rfl rfl<|.ag rfl rfl<|.nil ?_;refine U.bc (Le.freeze 4 0 rfl rfl (by simp at hl|-;omega)) ?_;refine U.ret (?_);exact dt rfl (Sub.snap (by(rw[Zr (by simp at*;omega)]);rw[<-hr];simp only[iG];(rw[aF zO]);try simp))
   ·simp only[bD]at hl;have ha:=ho a zS;have hb:=OI (k:=out.length) uZ;refine U.seq<|rg<|.P rfl (bp rfl rfl)<|.nil<|U.seq<|U.ew rfl zQ<|U.skip<|U.seq<|U.block<|U.seq<|rg<|.mv rfl rfl<|.ag rfl rfl<|.nil<|U.seq<|rg<|.mv rfl rfl<|.mv rfl rfl<|.P rfl (ca (off:=(out.length)*1) underlying244 sizeOf184 rfl rfl zO zQ zO)<|.R rfl (fG (r:=_) (out.length) 0 isAgg184 rfl rfl rfl (fS _ _ _) rfl)<|.mv rfl rfl<|.P rfl (bx rfl rfl (addN (by unfold gB at*;omega)))<|.P rfl (ca (off:=(out.length)*1) underlying244 sizeOf184 rfl rfl zO zQ zO)<|.W rfl (ic (r:=_) (out.length) 0 sizeOf184 rfl rfl rfl rfl rfl rfl (fS _ _ _) zS)<|.nil<|U.seq<|U.seq<|rg<|.mv rfl rfl<|.mv rfl rfl<|.P rfl (cv underlying244 rfl)<|.P rfl (bp rfl rfl)<|.nil<|U.cond rfl (fun h5=>?_) (fun h5=>?_)
    ·refine U.pE [.p,.p,.p,.r,.p,.p,.p,.p,.p,.p,.w] l7 zK<|.mv rfl rfl<|.mv rfl rfl<|.P rfl (ca (off:=(out.length)*1) underlying244 sizeOf184 rfl rfl zO zQ zO)<|.R rfl (fG (r:=_) (out.length) 0 isAgg184 rfl rfl rfl (hC (fS _ _ _)) rfl)<|.mv rfl rfl<|.mv rfl rfl<|.P rfl (eC underlying244 sizeOf184 rfl rfl zO (u4 (Ew (by simp at*;omega)) rfl))<|.P rfl (bE isAgg184 rfl)<|.P rfl (bx rfl rfl (addN (by unfold gB at*;omega)))<|.P rfl (ca (off:=(out.length)*1) underlying244 sizeOf184 rfl rfl zO zQ zO)<|.W rfl (ic (r:=_) (out.length) 0 sizeOf184 rfl rfl rfl rfl rfl rfl (hC (fS _ _ _)) zS)<|.nil<|U.seq<|rg<|.mv rfl rfl<|.mv rfl rfl<|.P rfl (ca (off:=(out.length)*1) underlying244 sizeOf184 rfl rfl zO zQ zO)<|.R rfl (fG (r:=_) (out.length) 0 isAgg184 rfl rfl rfl (hC (hC (fS _ _ _))) rfl)<|.P rfl (lu rfl rfl zD (xA (by unfold gB at*;omega)))<|.ag rfl rfl<|.nil<|rg<|.mv rfl rfl<|.mv rfl rfl<|.P rfl (ca (off:=(out.length)*1) underlying244 sizeOf184 rfl rfl zO zQ zO)<|.R rfl (fG (r:=_) (out.length) 0 isAgg184 rfl rfl rfl (hC (hC (fS _ _ _))) rfl)<|.P rfl (lX rfl rfl zD (vL _))<|.P rfl (ca (off:=(out.length)*1) underlying244 sizeOf184 rfl rfl zO zQ zO)<|.W rfl (ic (r:=_) (out.length) 0 sizeOf184 rfl rfl rfl rfl rfl rfl (hC (hC (fS _ _ _))) zS)<|.nil ?_;refine U.nil (bR ?_);refine rg<|.P rfl (bx rfl rfl (ao zO))<|.mv rfl rfl<|.nil<|U.nil (cz ?_)
     exact⟨⟨out++[(a+c+mh y out.length)%gB],rest,(a+c+mh y out.length)/gB,by simp;omega,by rw[qw ed];unfold gB at*;omega,fun u hu=>ho u (by simp[hu]),by rw[<-hr,QQ (by simp at*;omega)];simp⟩,by simp,Le.mk rfl (.s rfl rfl (.cons rfl (Sub.gs zS) rfl (.n 2 rfl rfl (.cons rfl (Sub.int zS) rfl .nil)))) (.arr rfl (by skip;simp only[Ag,oG];exact(uy _ _ _ _).trans zS) .nil)⟩
    ·refine U.skip<|U.seq<|rg<|.mv rfl rfl<|.mv rfl rfl<|.P rfl (ca (off:=(out.length)*1) underlying244 sizeOf184 rfl rfl zO zQ zO)<|.R rfl (fG (r:=_) (out.length) 0 isAgg184 rfl rfl rfl (hC (fS _ _ _)) rfl)<|.P rfl (lu rfl rfl zD (xA (by unfold gB at*;omega)))<|.ag rfl rfl<|.nil<|rg<|.mv rfl rfl<|.mv rfl rfl<|.P rfl (ca (off:=(out.length)*1) underlying244 sizeOf184 rfl rfl zO zQ zO)<|.R rfl (fG (r:=_) (out.length) 0 isAgg184 rfl rfl rfl (hC (fS _ _ _)) rfl)<|.P rfl (lX rfl rfl zD (vL _))<|.P rfl (ca (off:=(out.length)*1) underlying244 sizeOf184 rfl rfl zO zQ zO)<|.W rfl (ic (r:=_) (out.length) 0 sizeOf184 rfl rfl rfl rfl rfl rfl (hC (fS _ _ _)) zS)<|.nil<|U.nil (bR ?_);refine rg<|.P rfl (bx rfl rfl (ao zO))<|.mv rfl rfl<|.nil<|U.nil (cz ?_);exact⟨⟨out++[(a+c)%gB],rest,(a+c)/gB,by simp;omega,by rw[qw ed];unfold gB at*;omega,fun u hu=>ho u (by simp[hu]),by rw[<-hr,QP (by simp at*;omega)];simp⟩,by simp,Le.mk rfl (.s rfl rfl (.cons rfl (Sub.gs zS) rfl (.n 2 rfl rfl (.cons rfl (Sub.int zS) rfl .nil)))) (.arr rfl (by skip;simp only[Ag,oG];exact(uy _ _ _ _).trans zS) .nil)⟩
structure aoZ where
 u:Unit
def aoY:Fc prog 280 [.snap 1 false [],.snap 1 false []] (.snap 1 false []):=by
 refine ay func280 ntmps280 results280 ?_;refine go []<|aH (rfl)<|sd (cT zO zS)<|oP (apr (bt:=8) underlying244 sizeOf184 typeInfo184 zeroValue184 rfl rfl rfl rfl (m:=1) rfl zD zD zD)<|oP (apd underlying244 sizeOf184 rfl rfl)<|U.loop (ι:=aoZ) (fun sx=>[(5,.snap 1 false []),(6,.raw (.int .u64 ((0:Nat):Int))),(25,.i 0),(26,.i 0)]) (fun sx=>[]) (fun sx=>0) ⟨()⟩ ?_ ?_
 ·exact Le.mk rfl (.n 4 rfl rfl .nil) .nil
 ·rintro⟨u⟩;try dsimp only
  skip
  ·exact go []<|aH (rfl)<|go []<|aH (rfl)<|af rfl (Sub.refl _)
def Pg(x y:List Nat)(wZ:x.length<=20000)(Be:y.length<=20000)(jf:aZ x)(uZ:aZ y):Fc prog 280 [bk x,bk y] (bk (nX x y)):=by
 by_cases h:x.length≠0\/y.length≠0
 ·exact aoW x y h wZ Be jf uZ
 ·have e1:x=[]:=cc.1 zO;have e2:y=[]:=cc.1 zO;subst e1;subst e2;exact aoY
def QU(n1:Bool)(x:List Nat)(n2:Bool)(y:List Nat)(k1:py n1 x)(k2:py n2 y)(hx:x.length<=9000)(hy:y.length<=9000):Fc prog 237 [.agg (pQ n1 x),.agg (pQ n2 y)] (.agg (pQ (iR n1 x n2 y).1 (iR n1 x n2 y).2)):=by
 refine Fc.jM func237 rfl ntmps237 rfl rfl rfl ?_;refine go [99999]<|br (fun h1=>?_) (fun h1=>?_)
 ·refine oP (ah call280 rfl (Pg _ _ zO zO k1.ok k2.ok))<|ord<|U.ret (?_);exact Rd.cA results237 isAgg246 sizeOf246 rfl rfl rfl (Sub.agg (.cons (Sub.bool (by unfold iR;(rw[aV zA];done))) (.cons (Sub.snap (by unfold iR;(rw[aV zA];done))) .nil)))
 ·refine oP (ah call240 rfl (Am _ _ zO zO))<|br (fun h2=>?_) (fun h2=>?_)
  ·have di:=h2;try simp only[bs]at di
   refine oP (ah call281 rfl (Io _ _ (by exact RI zO) zO zO (by exact k2.ok) (by exact k1.ok)))<|ord<|U.ret (?_);exact Rd.cA results237 isAgg246 sizeOf246 rfl rfl rfl (Sub.agg (.cons (Sub.bool (by unfold iR;(rw[aF (by simpa using ‹(n1==n2)=false›)];(rw[aV zO];done)))) (.cons (Sub.snap (by unfold iR;(rw[aF (by simpa using ‹(n1==n2)=false›)];(rw[aV zO];done)))) .nil)))
  ·have di:=h2;try simp only[bs]at di
   refine oP (ah call281 rfl (Io _ _ (by exact adZ k1 k2 zA zO) zO zO (by exact k1.ok) (by exact k2.ok)))<|ord<|U.ret (?_);exact Rd.cA results237 isAgg246 sizeOf246 rfl rfl rfl (Sub.agg (.cons (Sub.bool (by unfold iR;(rw[aF (by simpa using ‹(n1==n2)=false›)];(rw[aF zO];done)))) (.cons (Sub.snap (by unfold iR;(rw[aF (by simpa using ‹(n1==n2)=false›)];(rw[aF zO];done)))) .nil)))
def aca(s t:aa)(hs:s.length<=4000)(ht:t.length<=4000):Fc prog 185 [.str s,.str t] (.str (rE s t)):=by
 refine ay func185 ntmps185 results185 ?_;have qI:=ma s;have bY:=rL (digits s).1;have UX:=ma t;have U':=rL (digits t).1;have h1:=oJ s;have h2:=oJ t;have h3:=QS h1 h2;have h4:=QR (digits s).2 (digits t).2 (gd (digits s).1) (gd (digits t).1);have h5:=QT h1 h2;exact go []<|oP (ah call238 rfl (vJ _ zO))<|oP (ah call238 rfl (vJ _ zO))<|oP (ah call237 rfl (QU _ _ _ _ zA zA zO zO))<|oP (ah call239 rfl (Cr _ _ zA zO))<|af rfl (Sub.str (by rw[Fp _ h3];unfold rE;rw[<-nV s,<-nV t,<-h5];rfl))
def CN(s t:aa)(hs:s.length<=4000)(ht:t.length<=4000):Fc prog 186 [.str s,.str t] (.i (fX (val s-val t))):=by
 refine ay func186 ntmps186 results186 ?_;have qI:=ma s;have bY:=rL (digits s).1;have UX:=ma t;have U':=rL (digits t).1;have hb:=adX (gd (digits s).1) (gd (digits t).1) zO zO;refine U.seq<|rg<|.ag rfl rfl<|.nil<|U.seq<|rg<|.mv rfl rfl<|.P rfl (ah call238 rfl (vJ _ zO))<|.mv rfl rfl<|.P rfl (ah call238 rfl (vJ _ zO))<|.W rfl (jC 0 zeroValue246 rfl)<|.W rfl (jC 1 zeroValue246 rfl)<|.W rfl (kP sizeOf246 rfl rfl rfl rfl rfl rfl)<|.W rfl (kP sizeOf246 rfl rfl rfl rfl rfl rfl)<|.nil<|U.seq<|rg<|.P rfl (iN (n:=0) 244 1 underlying246 sizeOf244 rfl rfl)<|.R rfl (iY isAgg244 rfl rfl rfl)<|.P rfl (iN (n:=0) 244 1 underlying246 sizeOf244 rfl rfl)<|.R rfl (iY isAgg244 rfl rfl rfl)<|.P rfl (ah call240 rfl (Am _ _ zO zO))<|.ag rfl rfl<|.nil<|U.seq<|U.block<|U.seq<|rg<|.P rfl (iN (n:=0) 4 0 underlying246 sizeOf4 rfl rfl)<|.R rfl (iY isAgg4 rfl rfl rfl)<|.P rfl (iN (n:=0) 4 0 underlying246 sizeOf4 rfl rfl)<|.R rfl (iY isAgg4 rfl rfl rfl)<|.P rfl (B_ underlying4 rfl rfl)<|.ag rfl rfl<|.nil<|U.cond rfl (fun h1=>?_) (fun h1=>?_)
 ·refine U.seq<|rg<|.ag rfl rfl<|.nil<|U.seq<|rg<|.P rfl (iN (n:=0) 4 0 underlying246 sizeOf4 rfl rfl)<|.R rfl (iY isAgg4 rfl rfl rfl)<|.nil<|U.cond rfl (fun h2=>?_) (fun h2=>?_)
  ·refine rg<|.ag rfl rfl<|.nil<|U.nil (bR ?_);refine U.seq<|rg<|.mv rfl rfl<|.P rfl (B9 rfl rfl rfl)<|.P rfl (EX rfl rfl rfl)<|.ag rfl rfl<|.nil<|U.ret (?_);exact dt rfl (Sub.int (by rw[<-nV s,<-nV t,<-F6 (oJ s) (oJ t)];unfold Ak;rw[aV h1,aV h2]))
  ·refine U.skip<|U.nil (bR ?_);refine U.seq<|rg<|.mv rfl rfl<|.P rfl (B9 rfl rfl rfl)<|.P rfl (EX rfl rfl rfl)<|.ag rfl rfl<|.nil<|U.ret (?_);exact dt rfl (Sub.int (by rw[<-nV s,<-nV t,<-F6 (oJ s) (oJ t)];unfold Ak;rw[aV h1,aF (by simp[h2])]))
 ·refine U.seq<|rg<|.P rfl (iN (n:=0) 4 0 underlying246 sizeOf4 rfl rfl)<|.R rfl (iY isAgg4 rfl rfl rfl)<|.ag rfl rfl<|.nil<|U.cond rfl (fun h3=>?_) (fun h3=>?_)
  ·refine rg<|.mv rfl rfl<|.P rfl (I_ rfl (ao zO))<|.ag rfl rfl<|.nil<|U.nil (bR ?_);refine U.seq<|rg<|.mv rfl rfl<|.P rfl (B9 rfl rfl rfl)<|.P rfl (EX rfl rfl rfl)<|.ag rfl rfl<|.nil<|U.ret (?_);exact dt rfl (Sub.int (by rw[<-nV s,<-nV t,<-F6 (oJ s) (oJ t)];unfold Ak;rw[aF (by simp[h1]),aV h3]))
  ·refine U.skip<|U.nil (bR ?_);refine U.seq<|rg<|.mv rfl rfl<|.P rfl (B9 rfl rfl rfl)<|.P rfl (EX rfl rfl rfl)<|.ag rfl rfl<|.nil<|U.ret (?_);exact dt rfl (Sub.int (by rw[<-nV s,<-nV t,<-F6 (oJ s) (oJ t)];unfold Ak;rw[aF (by simp[h1]),aF (by simp[h3])]))
def aeE(s:aa)(c:UInt8):Fc prog 276 [.str s,.str [c]] (.a_ [.str (gH s c).1,.str (gH s c).2.1,.b (gH s c).2.2]):=by
 refine AF func276 ntmps276 results276 ?_;refine U.nB 0 rfl (fun hb=>?_);simp only[aD]at hb;have hi:=HO c s;refine go []<|oP (ah call265 rfl (ajV _ _))<|br (fun h1=>?_) (fun h1=>?_)
 ·have bJ:=h1;try simp only[bs]at bJ
  exact oP (oU underlying9 rfl (h:=(Lib.indexByte s c).toNat) (r:=s.take (Lib.indexByte s c).toNat) (.inl ⟨rfl,rfl⟩) (.inr ⟨_,_,rfl,vp rfl zO⟩) zO zO zS)<|sd (cT zO zQ)<|oP (oU underlying9 rfl (l:=(Lib.indexByte s c).toNat+1) (r:=s.drop ((Lib.indexByte s c).toNat+1)) (.inr ⟨_,_,rfl,vp rfl zQ⟩) (.inl ⟨rfl,rfl⟩) zO zO (gZ zS))<|ord<|vQ rfl rfl rfl (Sub.str (by unfold gH;rw[aV zO])) (Sub.str (by unfold gH;rw[aV zO])) (Sub.bool (by unfold gH;rw[aV zO]))
 ·have bJ:=h1;try simp only[bs]at bJ
  exact vQ rfl rfl rfl (Sub.str (by unfold gH;rw[aF zO])) (Sub.str (by unfold gH;rw[aF zO])) (Sub.bool (by unfold gH;rw[aF zO]))
def ari(s:aa)(c:UInt8):Fc prog 233 [.str s,.str [c]] (.a_ [.str (gH s c).1,.str (gH s c).2.1,.b (gH s c).2.2]):=by
 refine AF func233 ntmps233 results233 ?_;exact go []<|oP (ah call276 rfl (aeE _ _))<|vQ rfl rfl rfl (Sub.refl _) (Sub.refl _) (Sub.refl _)
structure am_(s:aa)where
 pre:List UInt8
 rest:List UInt8
 hx:s=pre++rest
 hp:pre.all tO=true
 hs:1<=s.length/\s.length<=16
def BF(s:aa):Fc prog 86 [.str s] (.b (isName s)):=by
 refine ay func86 ntmps86 results86 ?_;refine U.nB 0 rfl (fun hb=>?_);simp only[aD]at hb;refine U.seq<|rg<|.ag rfl rfl<|.nil<|U.seq (U.seq (U.e_ [.p,.p,.p,.p,.p,.p,.p,.p] ?_));refine .mv rfl rfl<|.P rfl (gG underlying9 rfl)<|.P rfl (kO rfl rfl)<|.mv rfl rfl<|.gF rfl (.inl rfl) rfl rfl rfl (fun hg=>pk (fun _=>aX rfl _))<|.gF rfl (.inl rfl) rfl rfl rfl (fun hg=>pk (fun _=>gG underlying9 (bn rfl (nt hg)) _))<|.gF rfl (.inl rfl) rfl rfl rfl (fun hg=>pk (fun _=>gE (bn rfl (nt hg)) rfl _))<|.P rfl (oT rfl rfl)<|.nil<|U.cond rfl (fun h1=>?_) (fun h1=>?_)
 ·refine U.seq<|rg<|.ag rfl rfl<|.nil<|U.ret (?_);exact dt rfl (Sub.bool (by grind[isName,tO]))
 ·refine U.skip<|U.seq<|U.seq<|rg<|.mv rfl rfl<|.P rfl (Pp (u:=.string) underlying9 underlying152 underlying5 rfl)<|.P rfl (cv underlying152 rfl)<|.mv rfl rfl<|.nil<|U.block<|U.loop (ι:=am_ s) (fun sx=>[(14,.snap 1 false (s.map fun c=>[.raw (.int .u8 (UInt8.toNat c:Int))])),(15,.i s.length),(16,.i sx.pre.length)]) (fun sx=>[]) (fun sx=>sx.rest.length) ⟨[],s,rfl,rfl,by grind⟩ ?_ ?_
  ·exact Le.mk rfl (.s rfl rfl (.cons rfl (Sub.int zS) rfl (.s rfl rfl .nil))) .nil
  ·rintro⟨pre,rest,hx,hp,hs⟩;dsimp only;rcases lc hx with⟨rfl,hl⟩|⟨x,rest,rfl,hl⟩
   ·refine U.seq<|rg<|.P rfl (bp rfl rfl)<|.nil<|U.seq<|U.c6 rfl (by simp at hl|-;omega)<|U.exit (dz (du ?_));refine U.seq<|rg<|.ag rfl rfl<|.nil<|U.ret (?_);exact dt rfl (Sub.bool (by grind[isName,tO]))
   ·refine U.seq<|rg<|.P rfl (bp rfl rfl)<|.nil<|U.seq<|U.ew rfl zQ<|U.skip<|U.seq<|U.block<|U.seq<|rg<|.P rfl (eC underlying152 sizeOf5 rfl rfl zO (aK (fun c=>[D.raw (.int .u8 (UInt8.toNat c:Int))]) hx rfl))<|.P rfl (bE isAgg5 rfl)<|.ag rfl rfl<|.nil<|U.seq (U.e_ [.p,.p,.p,.p,.p,.p,.p,.p,.p,.p,.p,.p,.p,.p,.p,.p,.p,.p] ?_);refine .mv rfl rfl<|.P rfl (bp rfl rfl)<|.mv rfl rfl<|.gF rfl (.inl rfl) rfl rfl rfl (fun hg=>pk (fun _=>aX rfl _))<|.gF rfl (.inl rfl) rfl rfl rfl (fun hg=>pk (fun _=>gE (bn rfl (nt hg)) rfl _))<|.P rfl (oT rfl rfl)<|.mv rfl rfl<|.gT rfl (.inl rfl) rfl rfl rfl (fun hg=>pk (fun _=>aX rfl _))<|.gT rfl (.inl rfl) rfl rfl rfl (fun hg=>pk (fun _=>bp (bn rfl hg) rfl _))<|.gT rfl (.inl rfl) rfl rfl rfl (fun hg=>pk (fun _=>aX (bn rfl hg) _))<|.nF rfl (.inl rfl) rfl rfl rfl (fun hc hg=>pk (fun _=>aX rfl _))<|.nF rfl (.inl rfl) rfl rfl rfl (fun hc hg=>pk (fun _=>gE (bn rfl (bF hc hg)) rfl _))<|.gT rfl (.inl rfl) rfl rfl rfl (fun hg=>pk (fun _=>oT (bn rfl hg) (OZ rfl hg) _))<|.P rfl (iy rfl rfl)<|.mv rfl rfl<|.gT rfl (.inl rfl) rfl rfl rfl (fun hg=>pk (fun _=>aX rfl _))<|.gT rfl (.inl rfl) rfl rfl rfl (fun hg=>pk (fun _=>zy (bn rfl hg) rfl _))<|.P rfl (iy rfl rfl)<|.nil<|U.cond rfl (fun h2=>?_) (fun h2=>?_)
    ·refine U.seq<|rg<|.ag rfl rfl<|.nil<|U.ret (jY (sE (jY (?_))));exact dt rfl (Sub.bool (by grind[isName,tO]))
    ·refine U.skip<|U.nil (bR ?_);refine rg<|.P rfl (bx rfl rfl (ao zO))<|.mv rfl rfl<|.nil<|U.nil (cz ?_);exact⟨⟨pre++[x],rest,by simp[hx],by grind[tO],hs⟩,by simp,Le.mk rfl (.n 2 rfl rfl (.cons rfl (Sub.int zS) rfl .nil)) .nil⟩
structure aic(l:List Fact)(mJ:(iV 12 l&&xc 1000 l||iV 1002 l)=false)where
 pre:List Fact
 rest:List Fact
 hx:l=pre++rest
 hp:pre.any s4=false
def aib(l:List Fact):Fc prog 83 [aQ l] (.b (L' l)):=by
 refine ay func83 ntmps83 results83 ?_;refine U.eh 0 rfl (fun hb=>?_);simp only[bB,aD]at hb;refine go []<|br (fun h1=>?_) (fun h1=>?_)
 ·exact af rfl (Sub.bool (by exact vt (by simpa using h1)))
 ·have mJ:(iV 12 l&&xc 1000 l||iV 1002 l)=false:=by simpa using h1
  refine U.loop (ι:=aic l mJ) (fun sx=>[(0,aQ l),(2,.b false),(3,.i sx.pre.length)]) (fun sx=>[]) (fun sx=>sx.rest.length) ⟨[],_,rfl,rfl⟩ ?_ ?_
  ·exact Le.mk rfl (.n 3 rfl rfl .nil) .nil
  ·rintro⟨pre,rest,hx,hp⟩;dsimp only;rcases lc hx with⟨rfl,hl⟩|⟨x,rest,rfl,hl⟩
   ·exact go []<|aH (by simp at hl|-;omega)<|go []<|af rfl (Sub.bool (by exact m' mJ (oX hx hp).symm))
   ·refine go []<|aM zQ<|ix zO (aK aJ hx rfl)<|oP (ah call8 rfl (ah_ _))<|br (fun h2=>?_) (fun h2=>?_)
    ·exact af rfl (Sub.bool (by exact m' mJ (oh hx h2).symm))
    ·exact sd (ao zO)<|nx ⟨pre++[x],rest,by simp[hx],jX hp h2⟩ zS (Le.mk rfl (.n 2 rfl rfl (.cons rfl (Sub.int zS) rfl .nil)) .nil)
def aio(l:List Fact):Fc prog 37 [aQ l] (.b (rK l)):=by
 refine ay func37 ntmps37 results37 ?_;exact go []<|gP (fun hg=>ah call83 rfl (aib _))<|af rfl (Sub.bool (by simp[rK]))
structure ajX(l:List (List Fact))(P:(List Fact)->Bool)where
 pre:List (List Fact)
 rest:List (List Fact)
 hx:l=pre++rest
 hp:pre.any P=false
def ajW(l:List (List Fact))(f:FuncId)(bO:List D)(cR:D.bw.dT bO=true)(P:(List Fact)->Bool)(fA:∀(args:Array Value)(w:World),(callFunc f args).run prog w=.ok (.enter f args) w)(hP:∀x∈l,Fc prog f (aQ x::bO) (.b (P x))):Fc prog 82 [.snap 1 false (l.map fun v=>[aQ v]),.fn (.func f) [] bO] (.i (fw P l)):=by
 refine Fc.mk' [4] func82 rfl ntmps82 rfl (by simp[D.bw,D.bw.dT,cR]) rfl (fun t w=>results_tmp results82 t _ w) ?_;refine U.eh 0 rfl (fun hb=>?_);simp only[bB,aD]at hb;refine go []<|U.loop (ι:=ajX l P) (fun sx=>[(0,.snap 1 false (l.map fun v=>[aQ v])),(1,.fn (.func f) [] bO),(6,.snap 1 false (l.map fun v=>[aQ v])),(7,.i l.length),(8,.i sx.pre.length)]) (fun sx=>[]) (fun sx=>sx.rest.length) ⟨[],l,rfl,rfl⟩ ?_ ?_
 ·exact Le.mk rfl (.s rfl rfl (.cons rfl (Sub.refl _) (rh cR) (.s rfl rfl (.cons rfl (Sub.int zS) rfl (.s rfl rfl .nil))))) .nil
 ·rintro⟨pre,rest,hx,hp⟩;dsimp only;rcases lc hx with⟨rfl,hl⟩|⟨x,rest,rfl,hl⟩
  ·exact go []<|aH (by simp at hl|-;omega)<|go []<|af rfl (Sub.int (by exact uD hx hp))
  ·refine go []<|aM zQ<|ix zO (aK (fun v=>[aQ v]) hx rfl)<|oP (eO fA rfl rfl (hP x (by rw[hx];simp)))<|br (fun h1=>?_) (fun h1=>?_)
   ·exact af rfl (Sub.int (by exact uE hx hp h1))
   ·exact sd (ao zO)<|nx ⟨pre++[x],rest,by simp[hx],jX hp h1⟩ zS (Le.mk rfl (.s rfl rfl (.cons rfl (Sub.refl _) (rh cR) (.n 2 rfl rfl (.cons rfl (Sub.int zS) rfl .nil)))) .nil)
def aep(l:List (List Fact))(f:FuncId)(bO:List D)(cR:D.bw.dT bO=true)(P:(List Fact)->Bool)(fA:∀(args:Array Value)(w:World),(callFunc f args).run prog w=.ok (.enter f args) w)(hP:∀x∈l,Fc prog f (aQ x::bO) (.b (P x))):Fc prog 36 [.snap 1 false (l.map fun v=>[aQ v]),.fn (.func f) [] bO] (.b (l.any P)):=by
 refine Fc.mk' [4] func36 rfl ntmps36 rfl (by simp[D.bw,D.bw.dT,cR]) rfl (fun t w=>results_tmp results36 t _ w) ?_;exact go []<|oP (ah call82 rfl (ajW l f bO cR P fA hP))<|af rfl (Sub.bool (by exact s0 P l))
def ah8(s:Setup)(l:List (List Fact)):Fc prog 7 [.agg (im s),.snap 1 false (l.map fun v=>[aQ v])] (.b (uI s||l.any rK)):=by
 refine ay func7 ntmps7 results7 ?_;exact go []<|oP (ah call35 rfl (aik _))<|gP (fun hg=>ah call36 rfl (aep l _ [] rfl rK call37 (fun x _=>aio x)))<|af rfl (Sub.refl _)
def akA(c:bL)(code:aa):Fc prog 217 [.agg (nG c),.bj [.str code]] (.b (decide (c.code=code))):=by
 refine ay func217 ntmps217 results217 ?_;exact go []<|af rfl (Sub.refl _)
structure ahp(l:List bL)(code:aa)where
 pre:List bL
 rest:List bL
 hx:l=pre++rest
 hp:∀c∈pre,c.code≠code
def aho(l:List bL)(code:aa):Fc prog 216 [kh l,.fn (.func 217) [] [.bj [.str code]]] (.a_ [.agg (nG (nI code l).1),.b (nI code l).2]):=by
 refine Fc.jM func216 rfl ntmps216 rfl rfl rfl ?_;refine U.eh 0 rfl (fun hb=>?_);simp only[bB,aD]at hb;refine go [99999]<|U.loop (ι:=ahp l code) (fun sx=>[(0,kh l),(1,.fn (.func 217) [] [.bj [.str code]]),(4,.box 0 0),(9,kh l),(10,.i l.length),(11,.i sx.pre.length)]) (fun sx=>[(0,.cells [.str [],.raw (.int .i64 0)])]) (fun sx=>sx.rest.length) ⟨[],l,rfl,by simp⟩ ?_ ?_
 ·exact Le.mk rfl (.n 4 rfl rfl (.cons rfl (Sub.int zS) rfl (.s rfl rfl .nil))) (.cons rfl rfl .nil)
 ·rintro⟨pre,rest,hx,hp⟩;dsimp only;rcases lc hx with⟨rfl,hl⟩|⟨x,rest,rfl,hl⟩
  ·refine go [99999]<|aH (by simp at hl|-;omega)<|go [99999]<|U.ret (?_);exact Rd.FZ results216 isAgg89 sizeOf89 rfl rfl rfl rfl (Sub.agg (.cons (Sub.str (by rw[LK hx hp])) (.cons (Sub.int (by rw[LK hx hp])) .nil))) (Sub.bool (by rw[LK hx hp]))
  ·refine go [99999]<|aM zQ<|ix zO (aK nG hx rfl)<|oP (eO call217 rfl rfl (akA _ _))<|br (fun h1=>?_) (fun h1=>?_)
   ·refine U.ret (jY (sE (jY (?_))));exact Rd.FZ results216 isAgg89 sizeOf89 rfl rfl rfl rfl (Sub.agg (.cons (Sub.str (by rw[LL hx hp (by simpa using h1)])) (.cons (Sub.int (by rw[LL hx hp (by simpa using h1)])) .nil))) (Sub.bool (by rw[LL hx hp (by simpa using h1)]))
   ·exact sd (ao zO)<|nx ⟨pre++[x],rest,by simp[hx],by intro c hc;rcases cM.1 hc with hc|hc;exact hp c hc;simp at hc;subst hc;simpa using h1⟩ zS (Le.mk rfl (.n 5 rfl rfl (.cons rfl (Sub.int zS) rfl .nil)) (.cons rfl rfl .nil))
def LM(l:List bL)(code:aa):Fc prog 170 [kh l,.str code] (.a_ [.agg (nG (nI code l).1),.b (nI code l).2]):=by
 refine Fc.jM func170 rfl ntmps170 rfl rfl rfl ?_;refine go [1,99999] ?_;refine U.bc (Le.fx 3 0 rfl rfl rfl rfl) ?_;refine go [99999]<|oP (ah call216 rfl (aho _ _))<|U.ret (?_);exact Rd.FZ results170 isAgg89 sizeOf89 rfl rfl rfl rfl (Sub.agg (.r (.r .nil))) (Sub.refl _)
structure adE(l:List bL)where
 pre:List bL
 rest:List bL
 hx:l=pre++rest
 iq:l.length<=16
 hp:mC [] l=mC pre rest
def adD(l:List bL):Fc prog 117 [kh l] (.i (mB l)):=by
 refine ay func117 ntmps117 results117 ?_;refine U.eh 0 rfl (fun hb=>?_);simp only[bB,aD]at hb;refine go [10]<|br (fun h1=>?_) (fun h1=>?_)
 ·exact af rfl (Sub.int (by unfold mB;rw[aV (by simp only[bs]at h1;omega)]))
 ·refine U.loop (ι:=adE l) (fun sx=>[(0,kh l),(10,kh l),(11,.i l.length),(12,.i sx.pre.length)]) (fun sx=>[]) (fun sx=>sx.rest.length) ⟨[],l,rfl,by simp only[bs]at h1;omega,rfl⟩ ?_ ?_
  ·exact Le.mk rfl (.n 2 rfl rfl (.cons rfl (Sub.int zS) rfl (.s rfl rfl .nil))) .nil
  ·rintro⟨pre,rest,hx,iq,hp⟩;dsimp only;rcases lc hx with⟨rfl,hl⟩|⟨x,rest,rfl,hl⟩
   ·have oB:mB l=0:=by rw[show(0:Int)=mC pre []from rfl,<-hp];unfold mB;rw[aF zO]
    exact go [10]<|aH (by simp at hl|-;omega)<|go [10]<|af rfl (Sub.int (by exact oB.symm))
   ·have oB:mB l=mC pre (x::rest):=by rw[<-hp];unfold mB;rw[aF zO]
    refine go [10]<|aM zQ<|ix zO (aK nG hx rfl)<|oP (ah call169 rfl (akx _))<|br (fun h2=>?_) (fun h2=>?_)
    ·exact af rfl (Sub.int (by exact Aj oB (RT h2) zD))
    ·refine br (fun h3=>?_) (fun h3=>?_)
     ·exact af rfl (Sub.int (by exact Aj oB (RU h2 h3) zD))
     ·refine U.bc (Le.fx 4 0 rfl rfl rfl rfl) ?_;refine go []<|oP (pC underlying22 sizeOf89 rfl (l:=0) (h:=pre.length) (r:=pre.map nG) (.inl ⟨rfl,rfl⟩) (.inr ⟨_,_,rfl,rfl⟩) zO (by simp[hx]) (by rw[hx];simp))<|oP (ah call170 rfl (LM pre x.code))<|ord<|br (fun h4=>?_) (fun h4=>?_)
      ·exact af rfl (Sub.int (by exact Aj oB (aeA h2 h3 h4) zD))
      ·exact go [10]<|sd (ao zO)<|nx ⟨pre++[x],rest,by simp[hx],iq,Rw hp (aez h2 h3 h4)⟩ zS (Le.mk rfl (.n 3 rfl rfl (.cons rfl (Sub.int zS) rfl .nil)) .nil)
def aa_(d:Int):Fc prog 172 [.i d] (.b (zV d)):=by
 refine ay func172 ntmps172 results172 ?_;exact go []<|af rfl (Sub.refl _)
end Go.T
namespace Go.T
open Go
def ak(n:Nat):List Nat:=if h:n=0 then[]else(n%gB)::ak (n/gB)
decreasing_by
 unfold gB;omega
def oF:ak 0=[]:=by rw[ak];simp
def xi{n:Nat}(h:n≠0):ak n=(n%gB)::ak (n/gB):=by rw[ak];simp[h]
def fK(n:Nat):an (ak n)=n:=by
 induction n using Nat.strongRecOn with
 |_ n ih=>
  by_cases e:n=0
  ·subst e;rw[oF];rfl
  ·rw[xi e,an,ih (n/gB) (by unfold gB;omega)];have:=y9 n gB;omega
def fc(n:Nat):aZ (ak n):=by
 induction n using Nat.strongRecOn with
 |_ n ih=>
  by_cases e:n=0
  ·subst e;rw[oF];intro x hx;simp at hx
  ·rw[xi e];intro x hx;rcases cr.1 hx with rfl|hx
   ·exact n0 _ ed
   ·exact ih (n/gB) (by unfold gB;omega) x hx
def xg(n:Nat):bu (ak n)=ak n:=by
 refine KL fun h0 hl=>?_;have key:∀n,n≠0->dv (ak n)≠0:=by
  intro n;induction n using Nat.strongRecOn with
  |_ n ih=>
   intro e;rw[xi e];by_cases e2:n/gB=0
   ·rw[e2,oF];have:n<gB:=by
     rcases eQ n gB with h|h
     ·exact h
     ·have:=Nat.div_pos h ed;omega
    simp[dv,oZ this,e]
   ·rw[WH (by rw[xi e2];simp)];exact ih (n/gB) (by unfold gB;omega) e2
 by_cases e:n=0
 ·subst e;rw[oF]at h0;simp at h0
 ·exact key n e hl
def XI:∀{x y:List Nat},aZ x->aZ y->bu x=x->bu y=y->an x=an y->x=y:=by
 intro x;induction x with
 |nil=>
  intro y _ _ _ cy hv;cases y with
  |nil=>rfl
  |cons b y=>have:=Ej cy zS;simp[an]at*;omega
 |cons a x ih=>
  intro y ox oy cx cy hv;cases y with
  |nil=>have:=Ej cx zS;simp[an]at*;omega
  |cons b y=>
   simp only[an]at hv;have ha:=ox a zS;have hb:=oy b zS;have e1:a=b:=by
    have h1:(a+gB*an x)%gB=a:=by rw[D5];exact oZ ha
    have h2:(b+gB*an y)%gB=b:=by rw[D5];exact oZ hb
    rw[<-h1,<-h2,hv]
   subst e1;have e2:an x=an y:=by
    have:gB*an x=gB*an y:=by omega
    exact Nat.eq_of_mul_eq_mul_left ed this
   have tl:∀{z:List Nat},bu (a::z)=a::z->bu z=z:=by
    intro z hz;refine KL fun h0 hl=>?_;rcases np z with rfl|⟨i,t,rfl⟩
    ·simp at h0
    ·have:dv (i++[t])=t:=by simp[dv,vX]
     rw[this]at hl;subst hl;have h:=ur (a::i);rw[jF]at h;rw[h]at hz;have:=aT List.length hz;have h3:=wy (a::i);simp at this h3;omega
   rw[ih (fun q hq=>ox q (by simp[hq])) (fun q hq=>oy q (by simp[hq])) (tl cx) (tl cy) e2]
def amp{x:List Nat}(ox:aZ x)(cx:bu x=x):x=ak (an x):=XI ox (fc _) cx (xg _) (fK _).symm
def af6{α:Type}(p:α->Bool)(l:List α):(l.dropWhile p).dropWhile p=l.dropWhile p:=by
 induction l with
 |nil=>rfl
 |cons a l ih=>
  rw[List.dropWhile_cons];split
  ·exact ih
  ·rename_i h;rw[List.dropWhile_cons];simp[h]
def sS{x:List Nat}(ox:aZ x):bu x=ak (an x):=by
 refine XI (An ox) (fc _) ?_ (xg _) (by rw[Gd,fK]);unfold bu;simp[af6]
section
variable{B P v1 v2 Vr u3 Ur iC q g:Nat}
def aiI(hP:0<P)(hq:q*((v1*B+v2)*P+Vr)<=(iC*B+u3)*P+Ur)(hU:u3*P+Ur<B*P)(iL:0<v1)(hqB:q<=B-1):q<=min (iC/v1) (B-1):=by
 refine Nat.le_min.2 ⟨?_,hqB⟩;rw[GN iL];rcases eQ iC (q*v1)with h|h
 ·exfalso;have h1:(iC+1)*(B*P)<=q*v1*(B*P):=dd _ h;have h2:q*v1*(B*P)<=q*((v1*B+v2)*P+Vr):=by
   have:q*((v1*B+v2)*P+Vr)=q*v1*(B*P)+(q*v2*P+q*Vr):=by
    simp only[jN,dO,iv,l6]
   omega
  have h3:(iC*B+u3)*P+Ur=iC*(B*P)+(u3*P+Ur):=by
   simp only[dO,iv,l6]
  have h4:(iC+1)*(B*P)=iC*(B*P)+B*P:=by rw[dO,qA]
  omega
 ·exact h
def aiJ(hU:Ur<P)(hg:g*v1<=iC)(ht:(iC-g*v1)*B+u3<g*v2)(hq:q*((v1*B+v2)*P+Vr)<=(iC*B+u3)*P+Ur):q<=g-1:=by
 have h1:iC*B+u3<g*(v1*B+v2):=by
  have e1:(iC-g*v1)*B=iC*B-g*v1*B:=LG _ _ _;have e2:g*(v1*B+v2)=g*v1*B+g*v2:=by rw[jN,iv]
  have e3:g*v1*B<=iC*B:=dd _ hg;omega
 have h2:(iC*B+u3)*P+Ur<g*((v1*B+v2)*P+Vr):=by
  have e1:(iC*B+u3+1)*P<=g*(v1*B+v2)*P:=dd _ h1;have e2:g*((v1*B+v2)*P+Vr)=g*(v1*B+v2)*P+g*Vr:=by rw[jN,iv]
  have e3:(iC*B+u3+1)*P=(iC*B+u3)*P+P:=by rw[dO,qA]
  omega
 have h3:q<g:=by
  rcases eQ q g with h|h
  ·exact h
  ·have:=dd ((v1*B+v2)*P+Vr) h;omega
 omega
def aiK(iL:0<v1)(hB:0<B)(hg:g*v1<=iC)(hgB:g<=B-1)(mR:v2<=B-1)(hVr:Vr<P)(ht:B<=iC-g*v1\/g*v2<=(iC-g*v1)*B+u3):(g-1)*((v1*B+v2)*P+Vr)<=(iC*B+u3)*P+Ur:=by
 have e2:g*(v1*B+v2)=g*v1*B+g*v2:=by rw[jN,iv]
 have e3:g*v1*B<=iC*B:=dd _ hg;have e1:(iC-g*v1)*B=iC*B-g*v1*B:=LG _ _ _;have h1:g*(v1*B+v2)<=iC*B+u3:=by
  rcases ht with ht|ht
  ·have h2:B*B<=(iC-g*v1)*B:=dd _ ht;have h3:g*v2<=B*B:=Fl zO zO;omega
  ·omega
 have h2:g*(v1*B+v2)*P<=(iC*B+u3)*P:=dd _ h1;have h3:g*Vr<=B*P:=Fl zO zO;have h4:B*P<=(v1*B+v2)*P:=dd _ (by
  have:1*B<=v1*B:=dd _ iL;omega)
 have h5:g*((v1*B+v2)*P+Vr)=g*(v1*B+v2)*P+g*Vr:=by rw[jN,iv]
 have h6:(g-1)*((v1*B+v2)*P+Vr)=g*((v1*B+v2)*P+Vr)-((v1*B+v2)*P+Vr):=by rw[LG,qA]
 omega
end
def nth(l:List Nat)(j:Nat):Nat:=(l[j]?).getD 0
def IE{l:List Nat}{j:Nat}(h:j<l.length):l[j]?=some (nth l j):=by
 unfold nth;rw[eu h];rfl
def eM{l:List Nat}(h:aZ l)(j:Nat):nth l j<gB:=by
 unfold nth;cases e:l[j]?with
 |none=>exact ed
 |some x=>exact h x (dj e)
def BM{l:List Nat}{i j v:Nat}(h:i<l.length):nth (l.set i v) j=if i=j then v else nth l j:=by
 unfold nth;rw[List.getElem?_set];by_cases e:i=j
 ·subst e;simp[h]
 ·simp[e]
def anv{p r:List Nat}{x:Nat}:nth (p++x::r) p.length=x:=by simp[nth]
def Bw{l:List Nat}{j v:Nat}(h:j<l.length):an (l.set j v)+nth l j*gB^j=an l+v*gB^j:=by
 induction l generalizing j with
 |nil=>simp at h
 |cons a l ih=>
  cases j with
  |zero=>simp only[oG,an,nth,jH,l8,Nat.pow_zero,v8];omega
  |succ j=>
   have h2:=ih (j:=j) (by simpa using h);have e1:nth (a::l) (j+1)=nth l j:=by simp[nth]
   simp only[Im,an,e1,lN];have e2:nth l j*(gB^j*gB)=gB*(nth l j*gB^j):=by rw[<-iv,fO]
   have e3:v*(gB^j*gB)=gB*(v*gB^j):=by rw[<-iv,fO]
   rw[e2,e3];have e4:gB*(an (l.set j v)+nth l j*gB^j)=gB*(an l+v*gB^j):=by rw[h2]
   rw[jN,jN]at e4;omega
def xj{l:List Nat}(h:aZ l){j v:Nat}(hv:v<gB):aZ (l.set j v):=by
 intro x hx;rcases List.mem_or_eq_of_mem_set hx with hx|rfl
 ·exact h x hx
 ·exact hv
def amn{a b:List Nat}(ha:aZ a)(hb:aZ b):aZ (a++b):=fun x hx=>(cM.1 hx).elim (ha x) (hb x)
def XF(n:Nat):aZ (List.replicate n 0):=fun x hx=>by rw[(List.mem_replicate.1 hx).2];exact ed
def XH(n:Nat):an (List.replicate n 0)=0:=by
 induction n with
 |zero=>rfl
 |succ n ih=>rw[DW,an,ih];rfl
def N8(l:List Nat)(k:Nat)(h:k<=l.length):an l=an (l.take k)+gB^k*an (l.drop k):=by
 conv=>lhs;rw[<-lG k l]
 rw[xk,uB,D3 h]
def y8(p:List Nat)(x:Nat):an (p++[x])=an p+x*gB^p.length:=by
 rw[xk];simp only[an,rm,pL];rw[fO]
def Rp{l:List Nat}{j t c a:Nat}(h:j<l.length)(ha:nth l j=a)(ht:t=c+a):an (l.set j (t%gB))+(t/gB)*gB^(j+1)=an l+c*gB^j:=by
 have h1:=Bw (v:=t%gB) h;have h2:t%gB*gB^j+t/gB*gB^(j+1)=t*gB^j:=by
  rw[lN,<-iv,xY,<-dO]
  congr 1
  have:=y9 t gB;rw[fO (t/gB)];exact this
 rw[ha]at h1;subst ht;rw[dO]at h2;omega
def N9{l:List Nat}{k:Nat}(h:∀j,k<=j->nth l j=0):an l=an (l.take k):=by
 induction l generalizing k with
 |nil=>simp
 |cons a l ih=>
  cases k with
  |zero=>
   have h1:a=0:=by simpa[nth]using h 0 (dP _)
   have h2:=ih (k:=0) (fun j _=>by simpa[nth]using h (j+1) (Bp _));simp only[List.take_zero]at h2|-;simp[an,h1,h2]
  |succ k=>
   have h2:=ih (k:=k) (fun j hj=>by simpa[nth]using h (j+1) zO);simp only[lW,an,h2]
def anu(l:List Nat)(j:Nat):nth l j*gB^j<=an l:=by
 induction l generalizing j with
 |nil=>simp[nth,an]
 |cons a l ih=>
  cases j with
  |zero=>simp[nth,an]
  |succ j=>
   have h:=ih j;have e1:nth (a::l) (j+1)=nth l j:=by simp[nth]
   rw[e1,an,lN];have e2:nth l j*(gB^j*gB)=gB*(nth l j*gB^j):=by rw[<-iv,fO]
   rw[e2];have:=jg gB h;omega
def Yt{l:List Nat}{n j:Nat}(h:an l<gB^n)(hj:n<=j):nth l j=0:=by
 have h1:=anu l j;rcases ko (nth l j)with h2|h2
 ·exact h2
 ·have h3:gB^n<=gB^j:=eE ed hj;have h4:1*gB^j<=nth l j*gB^j:=dd _ h2;omega
def amo{l:List Nat}(h:aZ l)(i:Nat):an (l.drop i)=an l/gB^i:=by
 rcases eQ l.length i with g|g
 ·rw[iP zO];have h1:=ve h;have h2:gB^l.length<=gB^i:=eE ed zO;rw[sW zO];rfl
 ·have h1:=N8 l i g;have h2:=ve (m:=l.take i) (fun x hx=>h x (tE hx));rw[uB,D3 g]at h2;rw[h1,HN _ _ (ph ed),sW h2];omega
def yb{l:List Nat}{i:Nat}(h:i<l.length):l.drop i=nth l i::l.drop (i+1):=by
 rw[ju h];simp[nth,h]
def as2{l:List Nat}{n:Nat}(h:n+3=l.length):an l=((nth l (n+2)*gB+nth l (n+1))*gB+nth l n)*gB^n+an (l.take n):=by
 rw[N8 l n zO,yb zO,yb zO,yb zO,iP zO];simp only[an,rm,pL];rw[fO (gB^n)];have:nth l n+gB*(nth l (n+1)+gB*nth l (n+2))=(nth l (n+2)*gB+nth l (n+1))*gB+nth l n:=by
  rw[jN,dO,fO gB (nth l (n+1)),fO (nth l (n+2)) gB,fO (gB*nth l (n+2)) gB];omega
 rw[this];omega
def as1{l:List Nat}{n:Nat}(h:n+2=l.length):an l=(nth l (n+1)*gB+nth l n)*gB^n+an (l.take n):=by
 rw[N8 l n zO,yb zO,yb zO,iP zO];simp only[an,rm,pL];rw[fO (gB^n)];have:nth l n+gB*nth l (n+1)=nth l (n+1)*gB+nth l n:=by rw[fO gB];omega
 rw[this];omega
def jj:List Nat->Nat->List Nat×Nat
 |[],_=>([],0)
 |a::l,d=>(((jj l d).2*gB+a)/d::(jj l d).1,((jj l d).2*gB+a)%d)
def P1(l:List Nat){d:Nat}(hd:0<d):(jj l d).2<d:=by
 cases l with
 |nil=>exact hd
 |cons a l=>exact n0 _ hd
def aqQ(l:List Nat)(d:Nat):(jj l d).1.length=l.length:=by
 induction l with
 |nil=>rfl
 |cons a l ih=>simp[jj,ih]
def aqO{r a d:Nat}(hr:r<d)(hd:d<gB)(ha:a<gB):r*gB+a<18446744073709551616:=by
 have:r*gB<=999999999*gB:=dd _ (by unfold gB at*;omega);unfold gB at*;omega
def aqR{l:List Nat}{d:Nat}(hl:aZ l)(hd:0<d):aZ (jj l d).1:=by
 induction l with
 |nil=>intro x hx;simp[jj]at hx
 |cons a l ih=>
  intro x hx;simp only[jj,cr]at hx;rcases hx with rfl|hx
  ·have h1:=P1 l hd;have h2:=hl a zS;rw[y_ hd];have h3:((jj l d).2+1)*gB<=d*gB:=dd _ h1;rw[dO]at h3;rw[fO gB d];omega
  ·exact ih (fun y hy=>hl y (by simp[hy])) x hx
def aqS(l:List Nat)(d:Nat):an l=an (jj l d).1*d+(jj l d).2:=by
 induction l with
 |nil=>simp[jj,an]
 |cons a l ih=>
  have h:=wz ((jj l d).2*gB+a) d;simp only[jj,an];rw[ih];generalize (jj l d).2=r at*;generalize an (jj l d).1=q at*;generalize (r*gB+a)/d=u at*;generalize (r*gB+a)%d=v at*;rw[jN,dO,fO u d,<-iv,fO gB r];omega
def mulN{a:Nat}{b:Int}{c:Nat}(hb:b=(c:Int))(h:a*c<18446744073709551616):IntKind.u64.wrap ((a:Int)*b)=((a*c:Nat):Int):=by
 subst hb;have e:(a:Int)*(c:Int)=((a*c:Nat):Int):=by simp
 rw[e];exact FA zO zO
def PE{a d:Nat}(h:a<18446744073709551616):IntKind.u64.wrap ((a:Int).tdiv (d:Int))=((a/d:Nat):Int):=by
 have e:(a:Int).tdiv (d:Int)=((a/d:Nat):Int):=by
  rw[o_ zO];simp
 rw[e];have:a/d<=a:=D4 _ _;generalize a/d=q at this|-;exact FA zO zO
def ap7(a d:Nat):(a:Int).tmod (d:Int)=((a%d:Nat):Int):=by
 rw[C5 zO];simp
def Jj(i:List Nat)(x:Nat)(s:List Nat):List.replicate (i++[x]).length 0++s=List.replicate i.length 0++0::s:=by simp[List.replicate_succ']
def agp{i:List Nat}{x:Nat}{s:List Nat}:(bG (List.replicate (i++[x]).length 0++s))[i.length]?=some [.raw (.int .u64 ((0:Nat):Int))]:=by
 rw[Jj];have h:=fS (List.replicate i.length 0) 0 s;rw[GK]at h;exact h
def agq{i:List Nat}{x:Nat}{s:List Nat}{q:Nat}:(bG (List.replicate (i++[x]).length 0++s)).set i.length [.raw (.int .u64 (q:Int))]=bG (List.replicate i.length 0++q::s):=by
 rw[Jj];have h:=uy (List.replicate i.length 0) 0 q s;rw[GK]at h;exact h
def hY{out:List Nat}{j:Nat}(h:j<out.length):(bG out)[j]?=some [.raw (.int .u64 (nth out j:Int))]:=by
 simp[bG,IE h]
def uz{out:List Nat}{j v:Nat}:(bG out).set j [.raw (.int .u64 (v:Int))]=bG (out.set j v):=by
 simp[bG,List.map_set]
def TI(out:List Nat)(c i k V a:Nat)(pre:List Nat):Prop:=
 aZ out/\c<gB/\an out+c*gB^(i+pre.length)=V+a*an pre*gB^i/\∀j,i+k<=j->nth out j=0
def TO(out:List Nat)(i k V:Nat):Prop:=aZ out/\an out=V/\∀j,i+k<=j->nth out j=0
def JZ{out:List Nat}{i k V:Nat}(a:Nat)(h:TO out i k V):TI out 0 i k V a []:=⟨h.1,ed,by simp[an,h.2.1],h.2.2⟩
def J3(x y:List Nat)(n:Nat):TO (List.replicate n 0) 0 y.length (an []*an y):=⟨XF n,by rw[XH];simp[an],fun j _=>by
 unfold nth;rw[List.getElem?_replicate];split<;>rfl⟩
def J2{c n a b:Nat}(hc:c<gB)(hn:n<gB)(ha:a<gB)(hb:b<gB):c+(n+a*b)<gB*gB:=by
 have h1:a*b<=(gB-1)*(gB-1):=Fl zO zO;unfold gB at*;omega
def wm{c n a b:Nat}(hc:c<gB)(hn:n<gB)(ha:a<gB)(hb:b<gB):a*b<18446744073709551616/\n+a*b<18446744073709551616/\c+(n+a*b)<18446744073709551616:=by
 have h:=J2 hc hn ha hb;have h2:gB*gB<18446744073709551616:=by decide
 omega
def J0{out pre:List Nat}{c i k V a b:Nat}(h:TI out c i k V a pre)(ha:a<gB)(hb:b<gB)(hk:pre.length<k)(hl:i+pre.length<out.length):
  TI (out.set (i+pre.length) ((c+(nth out (i+pre.length)+a*b))%gB)) ((c+(nth out (i+pre.length)+a*b))/gB) i k V a (pre++[b]):=by
 obtain⟨h1,h2,h3,h4⟩:=h;have fH:=J2 h2 (eM h1 (i+pre.length)) ha hb;refine⟨xj h1 (n0 _ ed),?_,?_,fun j hj=>?_⟩
 ·rw[y_ ed];exact fH
 ·have hs:=Rp (t:=c+(nth out (i+pre.length)+a*b)) (c:=c+a*b) hl rfl zO;rw[bl,show i+(pre.length+[b].length)=i+pre.length+1 by simp;omega,hs,dO,<-l6,h3,y8,jN,dO,zN];rw[l6]
  congr 2
  rw[fO (gB^i),<-iv,<-iv]
 ·rw[BM hl,aF zO];exact h4 j hj
def J1{out pre y:List Nat}{c a k:Nat}(h:TI out c pre.length y.length (an pre*an y) a y)(hk:0<y.length)(hl:pre.length+y.length<out.length)(hn:k=nth out (pre.length+y.length)+c):
  TO (out.set (pre.length+y.length) k) (pre++[a]).length y.length (an (pre++[a])*an y):=by
 obtain⟨h1,h2,h3,h4⟩:=h;have h0:=h4 (pre.length+y.length) (dP _);subst hn;have hs:=Bw (v:=nth out (pre.length+y.length)+c) hl;rw[h0]at hs;rw[h0];refine⟨xj h1 zO,?_,fun j hj=>?_⟩
 ·simp only[xW,mD,pL]at hs|-;rw[hs,h3,y8,dO]
  congr 1
  rw[xY]
 ·simp only[bl,bD,hG]at hj;rw[BM hl,aF zO];exact h4 j zO
def QJ{out pre y:List Nat}{c a:Nat}(h:TI out c pre.length y.length (an pre*an y) a y)(hk:y.length=0):
  TO out (pre++[a]).length y.length (an (pre++[a])*an y):=by
 obtain⟨h1,h2,h3,h4⟩:=h;have e:=Bv hk;subst e;refine⟨h1,?_,fun j hj=>h4 j (by simp at hj|-;omega)⟩;simp only[an,rm,xW]at h3|-;omega
def Cw{out x y:List Nat}{i k:Nat}(h:TO out i k (an x*an y)):bu out=ak (an x*an y):=by rw[sS h.1,h.2.1]
variable[bX]
theorem Vr.YF{w:World}{O:Nat->Prop}{b sz:Nat}:∀(rows:List (List D))(off:Nat),rows.all (fun r=>Nat.beq r.length sz)=true->Vc w O b off rows.flatten->Vr w O b off sz rows
 |[],off,_,_=>by simp[Vr]
 |r::rs,off,hl,h=>by
  simp only[kJ,bd,BX]at hl;have h1:=h.take r.length;have h2:=h.drop r.length;simp only[fW,LJ,List.drop_left]at h1 h2;simp only[Vr];exact⟨⟨hl.1,h1⟩,Vr.YF rs (off+sz) hl.2 (hl.1▸h2)⟩
def apC{P:Program}{env:Env}{dst:Option Tmp}{ty:TypeId}{pos:String}{ar:Array Edge}{g:Option (Nat×Bool)}{t e:TypeId}{x:Operand}{n sz:Nat}{cs:List D}{rows:List (List D)}(hu:P.underlying t=some (.array n e))(hs:∀w,(sizeOf e).run P w=.ok sz w)(hx:env.op x=some (.bj cs))(hn:0<n)(wW:n<4611686018427387904)
  (hr:rows.flatten=cs)(hl:rows.length=n)(fQ:rows.all (fun r=>Nat.beq r.length sz)=true)(hb:n<=aD)(Z:ae):
  aq P ⟨dst,.slice t x none none none,ty,pos,ar,g⟩ env Z (.snap sz true rows) Z:=
 .val fun O ρ a w _ hv=>by
  have h1:=hv x (by simp[Op.operands]) _ hx;simp only[V]at h1;obtain⟨b,off,e1,ho,h2⟩:=h1;have AU:(Instr.sliceBounds false n n none none none).run P w=.ok (0,n,n) w:=by simp[Instr.sliceBounds]
  refine⟨.slice (some ⟨b,off,none⟩) n n,?_,?_⟩
  ·simp[execOp,Instr.sliceAt,Instr.sureAddr,bW hu,e1,AU,hs,J_]
  ·simp only[V];refine⟨_,n,by rw[hl],⟨by omega,by omega⟩,fun _=>hl.symm,fun _=>⟨b,off,rfl,ho,?_⟩⟩;exact Vr.YF rows off fQ (hr▸h2)
def ZI{P:Program}{env:Env}{dst:Option Tmp}{ty:TypeId}{pos:String}{ar:Array Edge}{g:Option (Nat×Bool)}{t e:TypeId}{x y:Operand}{n sz:Nat}{k:IntKind}{i:Int}{cs r:List D}(hu:P.underlying t=some (.array n e))(ha:∀w,(isAgg e).run P w=.ok true w)(hs:∀w,(sizeOf e).run P w=.ok sz w)
  (hx:env.op x=some (.agg cs))(hy:env.op y=some (.raw (.int k i)))(h0:0<=i)(hi:i<n)(hl:i.toNat*sz+sz<=cs.length)(hr:(cs.drop (i.toNat*sz)).take sz=r)(Z:ae):
  aq P ⟨dst,.index t x y,ty,pos,ar,g⟩ env Z (.agg r) Z:=
 .val fun O ρ a w _ hv=>by
  have h1:=hv x (by simp[Op.operands]) _ hx;have h2:=hv y (by simp[Op.operands]) _ hy;simp only[V]at h1 h2;obtain⟨vs,e1,h3⟩:=h1;refine⟨.agg (vs.extract (i.toNat*sz) (i.toNat*sz+sz)),?_,?_⟩
  ·simp[execOp,Instr.index,h2,asIntOf,bW hu,e1,h0,hi,hs,part,ha]
  ·simp only[V];refine⟨_,rfl,?_⟩;rw[Array.toList_extract,List.extract_eq_take_drop,<-hr,Nat.add_sub_cancel_left];exact Vs.take sz (Vs.drop (i.toNat*sz) h3)
end Go.T
namespace Go.T
open Go Go.Proofs Go.Proofs.Tryz
structure aq1(m:List Nat)(d:Nat)where
 lo:List Nat
 rest:List Nat
 hx:m=lo++rest
def aq0(m:List Nat)(d:Nat)(hm:m.length≠0)(hs:m.length<=40000)(ho:aZ m)(hd:0<d)(MG:d<gB):Fc prog 358 [bk m,.raw (.int .u64 (d:Int))] (.a_ [bk (bu (jj m d).1),.raw (.int .u64 ((jj m d).2:Int))]):=by
 refine gq func358 ntmps358 results358 ?_;refine U.seq<|rg<|.ag rfl rfl<|.ag rfl rfl<|.nil<|U.seq<|rg<|.mv rfl rfl<|.P rfl (cv underlying244 rfl)<|.W rfl (xz (bt:=8) 0 m.length underlying244 sizeOf184 typeInfo184 zeroValue184 rfl rfl rfl rfl rfl (by simp[bG]) (by simp[bG]) (dP m.length) zO zO zO rfl)<|.ag rfl rfl<|.nil<|U.seq<|rg<|.ag rfl rfl<|.nil<|U.seq<|U.seq<|rg<|.mv rfl rfl<|.P rfl (cv underlying244 rfl)<|.P rfl (dx rfl rfl (cT zO zQ))<|.ag rfl rfl<|.nil<|U.block<|U.loop (ι:=aq1 m d) (fun sx=>[(7,.raw (.int .u64 ((jj sx.rest d).2:Int))),(8,.i ((sx.lo.length:Int)-1)),(6,.gs 0 m.length),(0,bk m),(1,.raw (.int .u64 (d:Int)))]) (fun sx=>[(0,.arr 1 (bG (List.replicate sx.lo.length 0++(jj sx.rest d).1)))]) (fun sx=>sx.lo.length) ⟨m,[],by simp⟩ ?_ ?_
 ·exact Le.mk rfl (.s rfl rfl (.cons rfl (Sub.int zS) rfl (.cons rfl (Sub.gs zS) rfl (.n 2 rfl rfl .nil)))) (.arr rfl (by simp[bG,jj]) .nil)
 ·rintro⟨lo,rest,hx⟩;dsimp only;rcases np lo with rfl|⟨i,x,rfl⟩
  ·obtain rfl:m=rest:=by simpa using hx
   refine U.seq<|U.seq<|rg<|.mv rfl rfl<|.P rfl (qi rfl rfl)<|.nil<|U.c6 rfl zS<|U.exit (dz (du ?_));refine U.bc (Le.freeze 6 0 rfl rfl (by simp[bG,aqQ])) ?_;refine U.seq<|rg<|.mv rfl rfl<|.P rfl (ah call284 rfl (sT _))<|.mv rfl rfl<|.ag rfl rfl<|.ag rfl rfl<|.nil<|U.ret (?_);exact rq rfl rfl (Sub.refl _) (Sub.refl _)
  ·have hl:=aT List.length hx;simp only[bl,bD,hG]at hl;have jf:=ho x (by rw[hx];simp);have hr:=P1 rest hd;have MB:=aqO hr MG jf;refine U.seq<|U.seq<|rg<|.mv rfl rfl<|.P rfl (qi rfl rfl)<|.nil<|U.ew rfl zS<|U.skip<|U.seq<|U.block<|U.seq<|rg<|.mv rfl rfl<|.P rfl (so rfl rfl (mulN (c:=gB) zD zO))<|.mv rfl rfl<|.mv rfl rfl<|.P rfl (eC underlying244 sizeOf184 rfl rfl zS (u4 (l:=m) (k:=i.length) (b:=x) (r:=rest) (by simp[hx]) zS))<|.P rfl (bE isAgg184 rfl)<|.P rfl (bx rfl rfl (addN zO))<|.ag rfl rfl<|.nil<|U.seq<|rg<|.mv rfl rfl<|.mv rfl rfl<|.mv rfl rfl<|.mv rfl rfl<|.P rfl (lu rfl rfl zO (PE zO))<|.P rfl (ca (off:=(i.length)*1) underlying244 sizeOf184 rfl rfl zS zQ zS)<|.W rfl (ic (r:=_) (i.length) 0 sizeOf184 rfl rfl rfl rfl rfl rfl agp zS)<|.nil<|rg<|.mv rfl rfl<|.mv rfl rfl<|.P rfl (lX rfl rfl zO (ap7 _ _))<|.ag rfl rfl<|.nil<|U.nil (bR ?_);refine rg<|.mv rfl rfl<|.P rfl (dx rfl rfl (cT zO zQ))<|.ag rfl rfl<|.nil<|U.nil (cz ?_);exact⟨⟨i,x::rest,by rw[hx];simp⟩,by simp,Le.mk rfl (.s rfl rfl (.cons rfl (Sub.int zS) rfl (.cons rfl (Sub.gs zS) rfl (.n 2 rfl rfl .nil)))) (.arr rfl (by exact agq) .nil)⟩
structure arW(m n:List Nat)where
 pre:List Nat
 rest:List Nat
 out:List Nat
 hx:m=pre++rest
 hlen:out.length=m.length+n.length
 ho:TO out pre.length n.length (an pre*an n)
structure arX(m n:List Nat)(pre:List Nat)(x:Nat)where
 au:List Nat
 az:List Nat
 out:List Nat
 c:Nat
 aN:n=au++az
 hlen:out.length=m.length+n.length
 hi:TI out c pre.length n.length (an pre*an n) x au
def aaL(m n:List Nat)(hm:m.length+n.length≠0)(Vn:m.length<=20000)(yI:n.length<=20000)(DB:aZ m)(ce:aZ n):Fc prog 338 [bk m,bk n] (bk (ak (an m*an n))):=by
 refine ay func338 ntmps338 results338 ?_;refine go [16]<|sd (cT zO zQ)<|oW (xz (bt:=8) 0 (m.length+n.length) underlying244 sizeOf184 typeInfo184 zeroValue184 rfl rfl rfl rfl rfl (by simp[bG]) (by simp[bG]) (dP (m.length+n.length)) zO zO zO rfl)<|U.loop (ι:=arW m n) (fun sx=>[(17,bk m),(18,.i m.length),(1,bk n),(5,.gs 0 (m.length+n.length)),(19,.i sx.pre.length)]) (fun sx=>[(0,.arr 1 (bG sx.out))]) (fun sx=>sx.rest.length) ⟨[],m,List.replicate (m.length+n.length) 0,rfl,by simp,J3 m n _⟩ ?_ ?_
 ·exact Le.mk rfl (.s rfl rfl (.cons rfl (Sub.int zS) rfl (.s rfl rfl (.cons rfl (Sub.gs zS) rfl (.s rfl rfl .nil))))) (.arr rfl (by simp[bG]) .nil)
 ·rintro⟨pre,rest,out,hx,hlen,ho⟩;dsimp only;rcases lc hx with⟨rfl,hl⟩|⟨x,rest,rfl,hl⟩
  ·obtain rfl:m=pre:=by simpa using hx
   refine go [16]<|aH zS<|go [16] ?_;refine U.bc (Le.freeze 5 0 rfl rfl (by simp[bG];omega)) ?_;exact go []<|oP (ah call284 rfl (sT _))<|af rfl (Sub.snap (by rw[Cw ho]))
  ·have j8:=DB x (by rw[hx];simp);refine go [16]<|aM zQ<|ix zO (aK (fun(n:Nat)=>[D.raw (.int .u64 (n:Int))]) hx rfl)<|U.loop (ι:=arX m n pre x) (fun sx=>[(17,bk m),(18,.i m.length),(1,bk n),(5,.gs 0 (m.length+n.length)),(19,.i pre.length),(6,.i pre.length),(7,.raw (.int .u64 (x:Int))),(24,bk n),(25,.i n.length),(8,.raw (.int .u64 (sx.c:Int))),(26,.i sx.au.length)]) (fun sx=>[(0,.arr 1 (bG sx.out))]) (fun sx=>sx.az.length) ⟨[],n,out,0,rfl,hlen,JZ _ ho⟩ ?_ ?_
   ·exact Le.mk rfl (.n 3 rfl rfl (.cons rfl (Sub.gs zS) rfl (.n 4 rfl rfl (.cons rfl (Sub.int zS) rfl (.n 2 rfl rfl .nil))))) (.arr rfl (by rfl) .nil)
   ·rintro⟨au,az,out,c,aN,hlen,hi⟩;dsimp only;rcases lc aN with⟨rfl,bM⟩|⟨x2,az,rfl,bM⟩
    ·obtain rfl:n=au:=by simpa using aN
     refine go [16]<|aH zS<|go [16]<|br (fun h1=>?_) (fun h1=>?_)
     ·exact sd (cT zO zQ)<|oP (ca (off:=(pre.length+n.length)*1) underlying244 sizeOf184 rfl rfl zO zQ zQ)<|oR (fG (r:=_) (pre.length+n.length) 0 isAgg184 rfl rfl rfl (hY (by simp at*;omega)) rfl)<|sd ((addN (by have:=eM hi.1 (pre.length+n.length);have:=hi.2.1;unfold gB at*;omega)))<|oP (ca (off:=(pre.length+n.length)*1) underlying244 sizeOf184 rfl rfl zO zQ zQ)<|oW (ic (r:=_) (pre.length+n.length) 0 sizeOf184 rfl rfl rfl rfl rfl rfl (hY (by simp at*;omega)) zS)<|go [16]<|sd (ao zO)<|nx ⟨pre++[x],rest,out.set (pre.length+n.length) (nth out (pre.length+n.length)+c),by simp[hx],by simp[hlen],J1 hi (by simp at*;omega) (by simp at*;omega) rfl⟩ zS (Le.mk rfl (.n 3 rfl rfl (.cons rfl (Sub.gs zS) rfl (.cons rfl (Sub.int zS) rfl .nil))) (.arr rfl (by exact uz) .nil))
     ·exact go [16]<|sd (ao zO)<|nx ⟨pre++[x],rest,out,by simp[hx],hlen,QJ hi (by simp at*;omega)⟩ zS (Le.mk rfl (.n 3 rfl rfl (.cons rfl (Sub.gs zS) rfl (.cons rfl (Sub.int zS) rfl .nil))) (.arr rfl (by rfl) .nil))
    ·have rW:=ce x2 (by rw[aN];simp);exact go [16]<|aM zQ<|ix zO (aK (fun(n:Nat)=>[D.raw (.int .u64 (n:Int))]) aN rfl)<|sd (ao zO)<|oP (ca (off:=(pre.length+au.length)*1) underlying244 sizeOf184 rfl rfl zO zO zO)<|oR (fG (r:=_) (pre.length+au.length) 0 isAgg184 rfl rfl rfl (hY (by simp at*;omega)) rfl)<|sd ((mulN rfl (wm hi.2.1 (eM hi.1 (pre.length+au.length)) j8 rW).1))<|sd ((addN (wm hi.2.1 (eM hi.1 (pre.length+au.length)) j8 rW).2.1))<|sd ((addN (wm hi.2.1 (eM hi.1 (pre.length+au.length)) j8 rW).2.2))<|sd (ao zO)<|oP (lX rfl rfl zD (vL _))<|oP (ca (off:=(pre.length+au.length)*1) underlying244 sizeOf184 rfl rfl zO zO zO)<|oW (ic (r:=_) (pre.length+au.length) 0 sizeOf184 rfl rfl rfl rfl rfl rfl (hY (by simp at*;omega)) zS)<|oP (lu rfl rfl zD (xA (wm hi.2.1 (eM hi.1 (pre.length+au.length)) j8 rW).2.2))<|sd (ao zO)<|nx ⟨au++[x2],az,out.set (pre.length+au.length) ((c+(nth out (pre.length+au.length)+x*x2))%gB),(c+(nth out (pre.length+au.length)+x*x2))/gB,by simp[aN],by simp[hlen],J0 hi j8 rW zO zO⟩ zS (Le.mk rfl (.n 3 rfl rfl (.cons rfl (Sub.gs zS) rfl (.n 6 rfl rfl (.cons rfl (Sub.int zS) rfl .nil)))) (.arr rfl (by exact uz) .nil))
end Go.T
namespace Go.T
open Go
variable[bX]
variable{P:Program} {env:Env} {dst:Option Tmp} {ty:TypeId} {pos:String} {ar:Array Edge} {g:Option (Nat×Bool)}
theorem J7{w:World}{O:Nat->Prop}{b sz:Nat}:∀(rows:List (List D))(off h:Nat),Vr w O b off sz rows->Vr w O b off sz (rows.take h)
 |[],_,h,_=>by simp[Vr]
 |r::rs,off,0,_=>by simp[Vr]
 |r::rs,off,h+1,hv=>by
  simp only[Vr,lW]at hv|-;exact⟨hv.1,J7 rs _ h hv.2⟩
def ajb{w:World}{b:Nat}{cp:Obj}(h:w.heap[b]?=some cp):({w with heap:=w.heap.setIfInBounds b cp}:World)=w:=by
 have e:w.heap.setIfInBounds b cp=w.heap:=by
  apply AG;intro i;rw[pG];split
  ·rename_i e;subst e;have:=(bH.1 h).1;simp[this,h.symm]
  ·rfl
 rw[e]
def Tr.shrink{O:Nat->Prop}{w:World}{ρ:aA}{Z:ae}{id sz:Nat}{rows:List (List D)}(h:Nat)(ai:cX w O ρ Z)(ho:Z.get id=some (.arr sz rows))(aC:rows≠[]):Tr O w ρ Z w ρ (Z.set id (.arr sz (rows.take h))):=by
 have tg:(Ob.arr sz rows).live=true:=by
  cases rows
  ·exact absurd rfl aC
  ·rfl
 obtain⟨l,h3,h4,c,T,h5,h6,h7,h8⟩:=ai.own id _ ho tg;have hs:=ajb h5;have:=Tr.cn (o':=.arr sz (rows.take h)) ai ho tg h3 (.cells c T (0,0)) (by
  rw[hs];intro hk;exact⟨c,T,h5,h6,⟨by simp;omega,by simp;omega⟩,J7 _ _ _ (ig.mono.vr hk rfl _ _ h8)⟩)
 rw[hs]at this;exact this
def apB{Z:ae}{t e:TypeId}{x y:Operand}{k:IntKind}{sz id n h:Nat}{rows:List (List D)}(hu:P.underlying t=some (.slice e))(hs:∀w,(sizeOf e).run P w=.ok sz w)(hx:env.op x=some (.gs id n))
  (hy:env.op y=some (.raw (.int k (h:Int))))(ho:Z.get id=some (.arr sz rows))(hn:rows.length=n)(hh:h<=n)(h0:h≠0):
  aq P ⟨dst,.slice t x none (some y) none,ty,pos,ar,g⟩ env Z (.gs id h) (Z.set id (.arr sz (rows.take h))):=
 .step fun O ρ a w ai hv=>by
  have h1:=hv x (by simp[Op.operands]) _ hx;have h2:=hv y (by simp[Op.operands]) _ hy;simp only[V]at h1 h2;rcases h1 with⟨h1,_⟩|⟨_,l,h3,e1⟩
  ·omega
  ·have aC:rows≠[]:=by rintro rfl;simp at hn;omega
   have tg:(Ob.arr sz rows).live=true:=by
    cases rows
    ·exact absurd rfl aC
    ·rfl
   obtain⟨l',g3,g4,c,T,g5,g6,g7,g8⟩:=ai.own id _ ho tg;rw[h3]at g3;cases g3;have cR:h<=l.cap:=by omega
   have hb:(Instr.sliceBounds true n l.cap none (some (.int k h)) none).run P w=.ok (0,h,l.cap) w:=by
    simp[Instr.sliceBounds,Fa,cR]
   refine⟨.slice (some ⟨l.b,l.off,none⟩) h l.cap,w,ρ,.inl ?_,Tr.shrink h ai ho aC,?_⟩
   ·simp[execOp,Instr.sliceAt,Instr.slice,bW hu,e1,h2,hb,hs,addr_add]
   ·simp only[V];exact .inr ⟨h0,l,h3,rfl⟩
end Go.T
namespace Go.T
open Go
def MS(a0 a:List Nat)(g c i k:Nat)(pre:List Nat):Prop:=
 aZ a/\c<gB/\a.length=a0.length/\an a+g*an pre*gB^i=an a0+c*gB^(i+pre.length)/\∀j,i+k<=j->nth a j=nth a0 j
def MS0{a:List Nat}(h:aZ a)(g i k:Nat):MS a a g 0 i k []:=⟨h,ed,rfl,by simp[an],fun _ _=>rfl⟩
def JU{g b c:Nat}(hg:g<gB)(hb:b<gB)(hc:c<gB):g*b+c<=(gB-1)*gB:=by
 have h1:g*b<=(gB-1)*(gB-1):=Fl zO zO;unfold gB at*;omega
def JV{g b c:Nat}(hg:g<gB)(hb:b<gB)(hc:c<gB):g*b<18446744073709551616/\g*b+c<18446744073709551616:=by
 have h:=JU hg hb hc;have h2:(gB-1)*gB<18446744073709551616:=by decide
 omega
def abR{g b c x:Nat}(hg:g<gB)(hb:b<gB)(hc:c<gB)(hx:x<(g*b+c)%gB):(g*b+c)/gB+1<gB:=by
 have h:=JU hg hb hc;rcases eQ ((g*b+c)/gB) (gB-1)with h1|h1
 ·omega
 ·exfalso;have h2:=wz (g*b+c) gB;have h3:gB*(gB-1)<=gB*((g*b+c)/gB):=jg _ h1;rw[fO gB (gB-1)]at h3;omega
def QF{g b c:Nat}(hg:g<gB)(hb:b<gB)(hc:c<gB):(g*b+c)/gB<gB:=by
 rw[y_ ed];have h:=JU hg hb hc;have h2:(gB-1)*gB<gB*gB:=by decide
 omega
def QE{a0 a pre:List Nat}{g c i k b v e:Nat}(h:MS a0 a g c i k pre)(hg:g<gB)(hb:b<gB)(hk:pre.length<k)(hl:i+pre.length<a.length)
  (hv:v+(g*b+c)%gB=nth a (i+pre.length)+e*gB)(hvB:v<gB)(hc:(g*b+c)/gB+e<gB):
  MS a0 (a.set (i+pre.length) v) g ((g*b+c)/gB+e) i k (pre++[b]):=by
 obtain⟨h1,h2,h3,h4,h5⟩:=h;refine⟨xj h1 hvB,hc,by simpa using h3,?_,fun j hj=>?_⟩
 ·have hs:=Bw (v:=v) hl;have hd:=wz (g*b+c) gB;rw[y8,bl,nR,<-l6,lN];generalize (g*b+c)/gB=u at*;generalize (g*b+c)%gB=w at*;generalize nth a (i+pre.length)=z at*;have e1:g*(an pre+b*gB^pre.length)*gB^i=g*an pre*gB^i+g*b*gB^(i+pre.length):=by
   rw[jN,dO,zN,<-iv g b,iv (g*b),fO (gB^pre.length)]
  rw[e1];generalize gB^(i+pre.length)=P at*;have e2:(v+w)*P=(z+e*gB)*P:=by rw[hv]
  have e3:(gB*u+w)*P=(g*b+c)*P:=by rw[hd]
  have e4:(u+e)*(P*gB)=gB*u*P+e*gB*P:=by
   rw[dO,fO P gB,<-iv,<-iv,fO u gB]
  rw[e4];rw[dO,dO]at e2 e3;omega
 ·rw[BM hl,aF zO];exact h5 j hj
def AB(a1 a:List Nat)(d i k:Nat)(pre:List Nat):Prop:=
 aZ a/\d<=1/\a.length=a1.length/\an a+d*gB^(i+pre.length)=an a1+an pre*gB^i/\∀j,i+k<=j->nth a j=nth a1 j
def AB0{a:List Nat}(h:aZ a)(i k:Nat):AB a a 0 i k []:=⟨h,by omega,rfl,by simp[an],fun _ _=>rfl⟩
def AB1{a1 a pre:List Nat}{d i k b:Nat}(h:AB a1 a d i k pre)(hb:b<gB)(hk:pre.length<k)(hl:i+pre.length<a.length):
  AB a1 (a.set (i+pre.length) ((nth a (i+pre.length)+(b+d))%gB)) ((nth a (i+pre.length)+(b+d))/gB) i k (pre++[b]):=by
 obtain⟨h1,h2,h3,h4,h5⟩:=h;have hn:=eM h1 (i+pre.length);refine⟨xj h1 (n0 _ ed),?_,by simpa using h3,?_,fun j hj=>?_⟩
 ·have:nth a (i+pre.length)+(b+d)<gB*2:=by omega
  have:=Nat.div_lt_of_lt_mul this;omega
 ·have hs:=Rp (t:=nth a (i+pre.length)+(b+d)) (c:=b+d) hl rfl zO;rw[y8,bl,nR,show i+(pre.length+1)=i+pre.length+1 from rfl,hs,dO b,dO,iv b,<-zN,BI pre.length i];omega
 ·rw[BM hl,aF zO];exact h5 j hj
def P9{l:List Nat}{n:Nat}(h:∀j,n<j->nth l j=0):an l=an (l.take n)+nth l n*gB^n:=by
 rcases eQ n l.length with g|g
 ·have h1:=N9 (l:=l) (k:=n+1) (fun j hj=>h j hj);rw[h1,List.take_succ,eu g];simp only[Option.toList];rw[y8,uB,D3 zO];simp[nth,g]
 ·rw[gZ g];simp[nth,g]
def Fm{l:List Nat}(h:aZ l)(n:Nat):an (l.take n)<gB^n:=by
 have h2:=ve (m:=l.take n) (fun x hx=>h x (tE hx));have h3:gB^(l.take n).length<=gB^n:=eE ed zQ;omega
def ati{l x r y P:Nat}(h:l+x*P=r+y*P)(hl:l<P)(hr:r<P):x=y/\l=r:=by
 rcases q0 x y with g|g|g
 ·exfalso;have:(x+1)*P<=y*P:=dd _ g;rw[dO]at this;omega
 ·subst g;exact⟨rfl,by omega⟩
 ·exfalso;have:(y+1)*P<=x*P:=dd _ g;rw[dO]at this;omega
def DO(A bv:Nat)(a out:List Nat)(i k:Nat):Prop:=aZ a/\aZ out/\a.length=out.length+k/\an a<bv*gB^i/\an a+an out*bv=A/\∀j,j<i->nth out j=0
def JO{A bv:Nat}{a out b:List Nat}{i k:Nat}(h:DO A bv a out (i+1) k)(hb:aZ b)(hk:b.length=k)(hv:an b=bv)(j:Nat)(hj:i+k<j):nth a j=0:=by
 refine Yt (n:=i+k+1) ?_ zO;have h1:=ve hb;rw[hk,hv]at h1;have h2:bv*gB^(i+1)<=gB^k*gB^(i+1):=dd _ zO;rw[<-zN,show k+(i+1)=i+k+1 by omega]at h2;have:=h.2.2.2.1;omega
def YW{out:List Nat}{i g:Nat}(h0:nth out i=0)(hi:i<out.length):an (out.set i g)=an out+g*gB^i:=by
 have:=Bw (v:=g) hi;rw[h0]at this;omega
def abK{A bv:Nat}{a0 a out b:List Nat}{i k g c:Nat}(h:DO A bv a0 out (i+1) k)(hv:an b=bv)
  (hq:∀q,q<gB->q*bv*gB^i<=an a0->q<=g)(hg:g<gB)(hm:MS a0 a g c i k b)(hk:b.length=k)(hc:c<=nth a (i+k))(hl:i+k<a.length)(ho:i<out.length):
  DO A bv (a.set (i+k) (nth a (i+k)-c)) (out.set i g) i k:=by
 obtain⟨o1,o2,o3,o4,o5,o6⟩:=h;obtain⟨m1,m2,m3,m4,m5⟩:=hm;have hn:=eM m1 (i+k);have hs:=Bw (v:=nth a (i+k)-c) hl;rw[hk,hv]at m4;rw[LG]at hs;have Hm:c*gB^(i+k)<=nth a (i+k)*gB^(i+k):=dd _ hc;have HL:an (a.set (i+k) (nth a (i+k)-c))+g*bv*gB^i=an a0:=by omega
 have Nc:=YW (g:=g) (o6 i zO) ho;refine⟨xj m1 zO,xj o2 hg,by simp;omega,?_,?_,fun j hj=>?_⟩
 ·rcases eQ (an (a.set (i+k) (nth a (i+k)-c))) (bv*gB^i)with r|r
  ·exact r
  ·exfalso;have e:(g+1)*bv*gB^i<=an a0:=by rw[dO,dO,qA];omega
   rcases eQ (g+1) gB with t|t
   ·have:=hq (g+1) t e;omega
   ·have e2:gB*bv*gB^i<=(g+1)*bv*gB^i:=dd _ (dd _ t);have e3:bv*gB^(i+1)=gB*bv*gB^i:=by rw[lN,fO gB bv,iv,fO gB]
    omega
 ·rw[Nc,dO,xY g (gB^i) bv];omega
 ·rw[BM ho,aF zO];exact o6 j zO
def abI{A bv:Nat}{a0 a1 a out b:List Nat}{i k g c d:Nat}(h:DO A bv a0 out (i+1) k)(hb:aZ b)(hv:an b=bv)(hk:b.length=k)
  (qJ:(g-1)*bv*gB^i<=an a0)(hg:g<gB)(hm:MS a0 a1 g c i k b)(hc:nth a1 (i+k)<c)(wL:AB a1 a d i k b)(hl:i+k<a.length)(ho:i<out.length):
  1<=g/\nth a (i+k)+d=c/\DO A bv (a.set (i+k) (nth a (i+k)+d-c)) (out.set i (g-1)) i k:=by
 have hz:=JO h hb hk hv;obtain⟨o1,o2,o3,o4,o5,o6⟩:=h;obtain⟨m1,m2,m3,m4,m5⟩:=hm;obtain⟨p1,p2,p3,p4,p5⟩:=wL;have t1:nth a (i+k)=nth a1 (i+k):=p5 _ (dP _);have sa:=P9 (l:=a) (n:=i+k) (fun j hj=>by rw[p5 j zO,m5 j zO];exact hz j hj);have s1:=P9 (l:=a1) (n:=i+k) (fun j hj=>by rw[m5 j zO];exact hz j hj);have la:=Fm p1 (i+k);have l1:=Fm m1 (i+k);have pW:=ve hb;rw[hk,hv]at pW m4 p4;have hX:bv*gB^i<gB^(i+k):=by
  have:bv*gB^i<gB^k*gB^i:=Nat.mul_lt_mul_of_pos_right pW (ph ed);rw[<-zN,BI k i]at this;exact this
 have Hm:(nth a1 (i+k)+1)*gB^(i+k)<=c*gB^(i+k):=dd _ hc;rw[dO,qA]at Hm;have bA:an a0<g*bv*gB^i:=by omega
 have nM:1<=g:=by
  rcases ko g with e|e
  ·subst e;simp at bA
  ·exact e
 have hgX:g*bv*gB^i=(g-1)*bv*gB^i+bv*gB^i:=by
  conv=>lhs;rw[show g=(g-1)+1 by omega]
  rw[dO,dO,qA]
 have key:an (a.take (i+k))+(nth a (i+k)+d)*gB^(i+k)=(an a0-(g-1)*bv*gB^i)+c*gB^(i+k):=by
  rw[dO];omega
 obtain⟨k1,k2⟩:=ati key la zO;have hs:=Bw (v:=nth a (i+k)+d-c) hl;rw[show nth a (i+k)+d-c=0 by omega]at hs|-;rw[xW]at hs;have Nc:=YW (g:=g-1) (o6 i zO) ho;refine⟨nM,k1,xj p1 ed,xj o2 zO,by simp;omega,by omega,?_,fun j hj=>?_⟩
 ·rw[Nc,dO,xY (g-1) (gB^i) bv];omega
 ·rw[BM ho,aF zO];exact o6 j zO
def rz(a:List Nat)(i k:Nat):Nat:=nth a (i+k)*gB+nth a (i+k-1)
def OK{l:List Nat}{n j:Nat}(h:j<n):nth (l.take n) j=nth l j:=by
 unfold nth;rw[Er,aV h]
def ID{l:List Nat}{i j:Nat}:nth (l.drop i) j=nth l (i+j):=by
 unfold nth;rw[Ir]
def Qs{a:List Nat}{i n:Nat}(ho:aZ a)(hl:i+(n+2)<a.length)(hz:∀j,i+(n+2)<j->nth a j=0):
  ∃Ur,Ur<gB^n/\an a/gB^i=(rz a i (n+2)*gB+nth a (i+n))*gB^n+Ur:=by
 have h1:=amo ho i;have h2:=N9 (l:=a.drop i) (k:=n+3) (fun j hj=>by rw[ID];exact hz _ zO);have A2:n+3=((a.drop i).take (n+3)).length:=by simp;omega
 have h3:=as2 A2;rw[OK zO,OK zO,OK zO,ID,ID,ID]at h3;have bA:=Fm (l:=(a.drop i).take (n+3)) (fun x hx=>ho x (B3 (tE hx))) n;refine⟨_,bA,?_⟩;rw[<-h1,h2,h3];rfl
def NQ{q bv M P:Nat}(hP:0<P):q*bv*P<=M↔q*bv<=M/P:=(GN hP).symm
def GS(a b:List Nat)(i k g:Nat):Prop:=g<gB/\g*nth b (k-1)<=rz a i k/\∀q,q<gB->q*an b*gB^i<=an a->q<=g
def Ki{b:List Nat}{n:Nat}(ho:aZ b)(hl:b.length=n+2):∃Vr,Vr<gB^n/\an b=(nth b (n+1)*gB+nth b n)*gB^n+Vr:=
 ⟨_,Fm ho n,as1 hl.symm⟩
def as3{a:List Nat}{i n Ur:Nat}(ho:aZ a)(hU:Ur<gB^n):nth a (i+n)*gB^n+Ur<gB*gB^n:=by
 have h:=eM ho (i+n);have:(nth a (i+n)+1)*gB^n<=gB*gB^n:=dd _ h;rw[dO,qA]at this;omega
def GS0{a b:List Nat}{i n:Nat}(ha:aZ a)(hb:aZ b)(hl:i+(n+2)<a.length)(hz:∀j,i+(n+2)<j->nth a j=0)(hk:b.length=n+2)(iL:0<nth b (n+1)):
  GS a b i (n+2) (min (rz a i (n+2)/nth b (n+1)) (gB-1)):=by
 obtain⟨Ur,hU,hW⟩:=Qs ha hl hz;obtain⟨Vr,hV,hB⟩:=Ki hb hk;refine⟨EH (Nat.min_le_right _ _) (by unfold gB;omega),?_,fun q hq fh=>?_⟩
 ·exact dM (dd _ (Nat.min_le_left _ _)) (Nat.div_mul_le_self _ _)
 ·rw[NQ (ph ed),hW,hB]at fh;exact aiI (ph ed) fh (as3 ha hU) iL zO
def GS1{a b:List Nat}{i n g:Nat}(ha:aZ a)(hb:aZ b)(hl:i+(n+2)<a.length)(hz:∀j,i+(n+2)<j->nth a j=0)(hk:b.length=n+2)(h:GS a b i (n+2) g)
  (ht:(rz a i (n+2)-g*nth b (n+1))*gB+nth a (i+n)<g*nth b n):1<=g/\GS a b i (n+2) (g-1):=by
 obtain⟨Ur,hU,hW⟩:=Qs ha hl hz;obtain⟨Vr,hV,hB⟩:=Ki hb hk;obtain⟨h1,h2,h3⟩:=h;have hg:1<=g:=by
  rcases ko g with e|e
  ·subst e;simp at ht
  ·exact e
 refine⟨hg,by omega,dM (dd _ (Nat.sub_le _ _)) h2,fun q hq fh=>?_⟩;rw[NQ (ph ed),hW,hB]at fh;exact aiJ hU h2 ht fh
def GS2{a b:List Nat}{i n g:Nat}(ha:aZ a)(hb:aZ b)(hl:i+(n+2)<a.length)(hz:∀j,i+(n+2)<j->nth a j=0)(hk:b.length=n+2)(iL:0<nth b (n+1))(h:GS a b i (n+2) g)
  (ht:gB<=rz a i (n+2)-g*nth b (n+1)\/g*nth b n<=(rz a i (n+2)-g*nth b (n+1))*gB+nth a (i+n)):(g-1)*an b*gB^i<=an a:=by
 obtain⟨Ur,hU,hW⟩:=Qs ha hl hz;obtain⟨Vr,hV,hB⟩:=Ki hb hk;obtain⟨h1,h2,h3⟩:=h;rw[NQ (ph ed),hW,hB];exact aiK iL ed h2 zO (by have:=eM hb n;omega) hV ht
end Go.T
