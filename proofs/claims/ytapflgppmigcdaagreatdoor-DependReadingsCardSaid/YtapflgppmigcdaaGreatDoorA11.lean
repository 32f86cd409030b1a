/- Contracts of functions that the statement reaches, and the logic in which they are proved (no condition). -/
import Derived.Test.YtapflgppmigcdaaGreatDoorA10
set_option linter.all false
set_option maxRecDepth 20000
namespace Go.T
open Go
def aqP{l:List Nat}{d:Nat}(hl:aZ l)(hd:0<d):bu (jj l d).1=ak (an l/d)/\(jj l d).2=an l%d:=by
 have hv:=aqS l d;have hr:=P1 l hd;have h1:an l/d=an (jj l d).1:=by
  rw[hv,BI,Nat.add_mul_div_right _ _ hd,sW hr];omega
 have h2:an l%d=(jj l d).2:=by
  rw[hv,BI,Nat.add_mul_mod_self_right,oZ hr]
 exact⟨by rw[sS (aqR hl hd),h1],h2.symm⟩
def Ib{v:Nat}(h:(ak v).length≠0):gB^((ak v).length-1)<=v:=by
 have:=N6 (xg v) h;rw[fK]at this;exact this
def xh(v:Nat):v<gB^(ak v).length:=by
 have:=ve (fc v);rw[fK]at this;exact this
def qd{u v:Nat}(h:u<=v):(ak u).length<=(ak v).length:=by
 rcases ko (ak u).length with e|e
 ·omega
 ·have h1:=Ib (v:=u) zO;have h2:=xh v;have h3:gB^((ak u).length-1)<gB^(ak v).length:=by omega
  have:=(Nat.pow_lt_pow_iff_right (by unfold gB;omega)).1 h3;omega
def XD{v:Nat}(h:gB<=v):2<=(ak v).length:=by
 rcases eQ (ak v).length 2 with e|e
 ·exfalso;have h2:=xh v;have h3:gB^(ak v).length<=gB^1:=eE ed zO;rw[Nat.pow_one]at h3;omega
 ·exact e
def Xz{v:Nat}{k:Nat}(h:(ak v).length=k+1):0<nth (ak v) k:=by
 have hc:=xg v;rcases np (ak v)with e|⟨i,x,e⟩
 ·rw[e]at h;simp at h
 ·have hi:i.length=k:=by rw[e]at h;simpa using h
  rw[e,<-hi,anv];rcases ko x with z|z
  ·exfalso;subst z;have h1:=ur i;have h2:=wy i;rw[e]at hc;rw[h1]at hc;have:=aT List.length hc;simp at this;omega
  ·exact z
def abL{M N:Nat}(hN:gB<=N)(hMN:N<=M):
  DO M N (ak M++[0,0]) (List.replicate ((ak M).length+2-(ak N).length) 0) ((ak M).length+2-(ak N).length) (ak N).length:=by
 have hk:=qd hMN;have h2:=XD hN;have hz:an (ak M++[0,0])=M:=by rw[xk,fK];simp[an]
 refine⟨amn (fc M) (fun x hx=>by simp at hx;subst hx;exact ed),XF _,by simp;omega,?_,by rw[hz,XH];omega,fun j hj=>?_⟩
 ·rw[hz];have h3:=Ib (v:=N) zO;have h4:=xh M;have h5:gB^((ak N).length-1)*gB^((ak M).length+2-(ak N).length)<=N*gB^((ak M).length+2-(ak N).length):=dd _ h3;rw[<-zN,show(ak N).length-1+((ak M).length+2-(ak N).length)=(ak M).length+1 by omega]at h5;have h6:gB^(ak M).length<=gB^((ak M).length+1):=eE ed zO;omega
 ·unfold nth;rw[List.getElem?_replicate];split<;>rfl
def abJ{M N s:Nat}{a out:List Nat}{k:Nat}(h:DO (M*s) (N*s) a out 0 k)(hs:0<s)(hN:0<N)(hb:N*s<gB^k):
  bu out=ak (M/N)/\bu (a.take k)=ak (M%N*s):=by
 obtain⟨o1,o2,o3,o4,o5,o6⟩:=h;rw[Nat.pow_zero,v8]at o4;have hNs:0<N*s:=Gc hN hs;have e1:M*s/(N*s)=an out:=by rw[<-o5,Nat.add_mul_div_right _ _ hNs,sW o4];omega
 have e2:M*s%(N*s)=an a:=by rw[<-o5,Nat.add_mul_mod_self_right,oZ o4]
 rw[Nat.mul_div_mul_right _ _ hs]at e1;rw[Nat.mul_mod_mul_right]at e2;have e3:=N9 (l:=a) (k:=k) (fun j hj=>Yt (n:=k) zO hj);refine⟨by rw[sS o2,e1],?_⟩;rw[sS (fun x hx=>o1 x (tE hx)),<-e3,e2]
variable[bX]
variable{P:Program} {env:Env} {dst:Option Tmp} {ty:TypeId} {pos:String} {ar:Array Edge} {g:Option (Nat×Bool)}
def aqo{t e:TypeId}{ti:TypeInfo}(hu:P.underlying t=some (.slice e))(hs:∀w,(sizeOf e).run P w=.ok 1 w)(jq:∀w,(typeInfo e).run P w=.ok ti w)(w:World):
  (Instr.makeSlice t (.int .i64 0) (.int .i64 0)).run P w=.ok (.slice (some ⟨w.heap.size,0,none⟩) 0 0) (w.alloc (.cells #[] e)):=by
 have wl:IntKind.i64.wrap 0=0:=by rw[IntKind.wrap_i64];omega
 have e0:(Array.range 0).map (fun _=>(default:Value))=#[]:=by apply AG;intro i;simp
 simp[Instr.makeSlice,run_underlying hu,asInt,asIntOf,jq,hs,wl,newRow,e0]
def ZN{t e:TypeId}{ti:TypeInfo}{x y:Operand}{nx ny:Int}(hu:P.underlying t=some (.slice e))(hs:∀w,(sizeOf e).run P w=.ok 1 w)(jq:∀w,(typeInfo e).run P w=.ok ti w)
  (hx:env.op x=some (.raw (.int .i64 nx)))(hy:env.op y=some (.raw (.int .i64 ny)))(DD:nx=0)(DE:ny=0)(Z:ae):
  aq P ⟨dst,.makeSlice t x y,ty,pos,ar,g⟩ env Z (.snap 1 false []) Z:=
 .step fun O ρ a w ai hv=>by
  have bZ:=hv x (by simp[Op.operands]) _ hx;have dR:=hv y (by simp[Op.operands]) _ hy;simp only[V]at bZ dR;subst DD;subst DE;have hr:=aqo hu hs jq w;refine⟨.slice (some ⟨w.heap.size,0,none⟩) 0 0,w.alloc (.cells #[] e),ρ,.inl ?_,Tr.pz ⟨by simp,fun b hb=>by show(w.heap.push _)[b]?=_;rw[pS,aF (Nat.ne_of_lt hb)],rfl,rfl,iE.eq rfl rfl⟩ ai,?_⟩
  ·simp only[execOp,bZ,dR];rw[Sem.run_bind,hr];rfl
  ·simp[V,aD]
end Go.T
namespace Go.T
open Go Go.Proofs Go.Proofs.Tryz
structure aeJ(m:List Nat)where
 cur:List Nat
 hx:bu cur=bu m
 hl:cur.length<=m.length
def aeI(m:List Nat)(hm:bu m≠[])(hs:m.length<=1000000):dB prog 284 [.gs 7200 m.length] [(7200,.arr 1 (bG m))] (.gs 7200 (bu m).length) [(7200,.arr 1 (bG (bu m)))]:=by
 refine uF func284 ntmps284 results284 ?_;refine U.seq<|rg<|.ag rfl rfl<|.nil<|U.seq<|U.block<|U.loop (ι:=aeJ m) (fun sx=>[(0,.gs 7200 sx.cur.length)]) (fun sx=>[(7200,.arr 1 (bG sx.cur))]) (fun sx=>sx.cur.length) ⟨m,rfl,by omega⟩ ?_ ?_
 ·exact Le.mk rfl (.cons rfl (Sub.gs zS) rfl .nil) (.arr rfl (by rfl) .nil)
 ·rintro⟨cur,hx,hl⟩;try dsimp only
  rcases np cur with rfl|⟨i,x,rfl⟩
  ·exact absurd hx.symm hm
  ·refine U.seq<|U.seq<|rg<|.mv rfl rfl<|.P rfl (vG underlying244 rfl)<|.P rfl (gE rfl rfl)<|.mv rfl rfl<|.p rfl (e7 rfl rfl rfl zS) (fun _=>aX rfl _)<|.p rfl (e7 rfl rfl rfl zS) (fun _=>aX rfl _)<|.p rfl (e7 rfl rfl rfl zS) (fun _=>vG underlying244 rfl _)<|.p rfl (e7 rfl rfl rfl zS) (fun _=>dx rfl rfl (ao zO) _)<|.p rfl (e7 rfl rfl rfl zS) (fun _=>ca (off:=(i.length)*1) underlying244 sizeOf184 rfl rfl zS zS zS _)<|.r rfl (e7 rfl rfl rfl zS) (fG (r:=_) (i.length) 0 isAgg184 rfl rfl rfl (fS i x []) rfl)<|.p rfl (e7 rfl rfl rfl zS) (fun _=>kO rfl rfl _)<|.P rfl (vI rfl zS rfl)<|.nil<|U.cond rfl (fun h1=>?_) (fun h1=>?_)
   ·have bJ:=h1;try simp only[bs]at bJ
    refine U.skip<|U.block<|rg<|.mv rfl rfl<|.mv rfl rfl<|.P rfl (vG underlying244 rfl)<|.P rfl (dx rfl rfl (ao zO))<|.W rfl (apB (h:=i.length) underlying244 sizeOf184 rfl (vp rfl zS) rfl (by simp[bG]) zS (by rintro h0;obtain rfl:=cc.1 h0;exact hm (by rw[<-hx,show x=0 by omega,ur];rfl)))<|.ag rfl rfl<|.nil<|U.nil (bR ?_);refine U.nil (cz ?_);exact⟨⟨i,by rw[<-hx,show x=0 by omega,ur],by simp at hl;omega⟩,by simp,Le.mk rfl (.cons rfl (Sub.gs zS) rfl .nil) (.arr rfl (by simp[bG]) .nil)⟩
   ·have bJ:=h1;try simp only[bs]at bJ
    refine U.exit (dz (du ?_));refine U.seq<|rg<|.mv rfl rfl<|.ag rfl rfl<|.nil<|U.ret (?_);exact ua rfl (by exact Sub.gs (by(rw[<-hx,Ao i zO]))) (.eq rfl (by(rw[<-hx,Ao i zO])) rfl .nil)
structure arU(m n:List Nat)where
 pre:List Nat
 rest:List Nat
 out:List Nat
 hx:m=pre++rest
 hlen:out.length=m.length+n.length
 ho:TO out pre.length n.length (an pre*an n)
structure arV(m n:List Nat)(pre:List Nat)(x:Nat)where
 au:List Nat
 az:List Nat
 out:List Nat
 c:Nat
 aN:n=au++az
 hlen:out.length=m.length+n.length
 hi:TI out c pre.length n.length (an pre*an n) x au
def arT(m n:List Nat)(hm:m.length+n.length≠0)(Vn:m.length<=20000)(yI:n.length<=20000)(DB:aZ m)(ce:aZ n)(hmn:ak (an m*an n)≠[]):dB prog 338 [bk m,bk n] [] (.gs 7200 (ak (an m*an n)).length) [(7200,.arr 1 (bG (ak (an m*an n))))]:=by
 refine uF func338 ntmps338 results338 ?_;refine go []<|sd (cT zO zQ)<|oW (xz (bt:=8) 0 (m.length+n.length) underlying244 sizeOf184 typeInfo184 zeroValue184 rfl rfl rfl rfl rfl (by simp[bG]) (by simp[bG]) (dP (m.length+n.length)) zO zO zO rfl)<|U.loop (ι:=arU m n) (fun sx=>[(17,bk m),(18,.i m.length),(1,bk n),(5,.gs 7200 (m.length+n.length)),(19,.i sx.pre.length)]) (fun sx=>[(7200,.arr 1 (bG sx.out))]) (fun sx=>sx.rest.length) ⟨[],m,List.replicate (m.length+n.length) 0,rfl,by simp,J3 m n _⟩ ?_ ?_
 ·exact(Le.mk (aj:=[(0,_)]) rfl (show ct _ _ [(17,_),(18,_),(1,_),(5,_),(19,_)]from(.n 5 rfl rfl .nil)) (.cons (i:=0) rfl rfl .nil)).trans<|(Le.iz 5 0 7200 rfl rfl zS rfl).trans<|Le.mk rfl (.s rfl rfl (.cons rfl (Sub.int zS) rfl (.s rfl rfl (.cons rfl (Sub.gs zS) rfl (.s rfl rfl .nil))))) (.arr rfl (by simp[bG]) .nil)
 ·rintro⟨pre,rest,out,hx,hlen,ho⟩;try dsimp only
  rcases lc hx with⟨rfl,hl⟩|⟨x,rest,rfl,hl⟩
  ·obtain rfl:m=pre:=by simpa using hx
   exact go []<|aH zS<|go []<|oW (gv call284 (by rw[<-hlen];rfl) (aeI out (by rw[Cw ho];exact hmn) zO) (.cons rfl rfl .nil) rfl rfl)<|ua rfl (by exact Sub.gs (by rw[Cw ho])) (.eq rfl (by rw[Cw ho]) rfl .nil)
  ·have j8:=DB x (by rw[hx];simp);refine go []<|aM zQ<|ix zO (aK (fun(n:Nat)=>[D.raw (.int .u64 (n:Int))]) hx rfl)<|U.loop (ι:=arV m n pre x) (fun sx=>[(17,bk m),(18,.i m.length),(1,bk n),(5,.gs 7200 (m.length+n.length)),(19,.i pre.length),(6,.i pre.length),(7,.raw (.int .u64 (x:Int))),(24,bk n),(25,.i n.length),(8,.raw (.int .u64 (sx.c:Int))),(26,.i sx.au.length)]) (fun sx=>[(7200,.arr 1 (bG sx.out))]) (fun sx=>sx.az.length) ⟨[],n,out,0,rfl,hlen,JZ _ ho⟩ ?_ ?_
   ·exact Le.mk rfl (.n 3 rfl rfl (.cons rfl (Sub.gs zS) rfl (.n 4 rfl rfl (.cons rfl (Sub.int zS) rfl (.n 2 rfl rfl .nil))))) (.arr rfl (by rfl) .nil)
   ·rintro⟨au,az,out,c,aN,hlen,hi⟩;try dsimp only
    rcases lc aN with⟨rfl,bM⟩|⟨x2,az,rfl,bM⟩
    ·obtain rfl:n=au:=by simpa using aN
     refine go []<|aH zS<|go []<|br (fun h1=>?_) (fun h1=>?_)
     ·exact sd (cT zO zQ)<|oP (ca (off:=(pre.length+n.length)*1) underlying244 sizeOf184 rfl rfl zO zQ zQ)<|oR (fG (r:=_) (pre.length+n.length) 0 isAgg184 rfl rfl rfl (hY (by simp at*;omega)) rfl)<|sd ((addN (by have:=eM hi.1 (pre.length+n.length);have:=hi.2.1;unfold gB at*;omega)))<|oP (ca (off:=(pre.length+n.length)*1) underlying244 sizeOf184 rfl rfl zO zQ zQ)<|oW (ic (r:=_) (pre.length+n.length) 0 sizeOf184 rfl rfl rfl rfl rfl rfl (hY (by simp at*;omega)) zS)<|go []<|sd (ao zO)<|nx ⟨pre++[x],rest,out.set (pre.length+n.length) (nth out (pre.length+n.length)+c),by simp[hx],by simp[hlen],J1 hi (by simp at*;omega) (by simp at*;omega) rfl⟩ zS (Le.mk rfl (.n 3 rfl rfl (.cons rfl (Sub.gs zS) rfl (.cons rfl (Sub.int zS) rfl .nil))) (.arr rfl (by exact uz) .nil))
     ·exact go []<|sd (ao zO)<|nx ⟨pre++[x],rest,out,by simp[hx],hlen,QJ hi (by simp at*;omega)⟩ zS (Le.mk rfl (.n 3 rfl rfl (.cons rfl (Sub.gs zS) rfl (.cons rfl (Sub.int zS) rfl .nil))) (.arr rfl (by rfl) .nil))
    ·have rW:=ce x2 (by rw[aN];simp);exact go []<|aM zQ<|ix zO (aK (fun(n:Nat)=>[D.raw (.int .u64 (n:Int))]) aN rfl)<|sd (ao zO)<|oP (ca (off:=(pre.length+au.length)*1) underlying244 sizeOf184 rfl rfl zO zO zO)<|oR (fG (r:=_) (pre.length+au.length) 0 isAgg184 rfl rfl rfl (hY (by simp at*;omega)) rfl)<|sd ((mulN rfl (wm hi.2.1 (eM hi.1 (pre.length+au.length)) j8 rW).1))<|sd ((addN (wm hi.2.1 (eM hi.1 (pre.length+au.length)) j8 rW).2.1))<|sd ((addN (wm hi.2.1 (eM hi.1 (pre.length+au.length)) j8 rW).2.2))<|sd (ao zO)<|oP (lX rfl rfl zD (vL _))<|oP (ca (off:=(pre.length+au.length)*1) underlying244 sizeOf184 rfl rfl zO zO zO)<|oW (ic (r:=_) (pre.length+au.length) 0 sizeOf184 rfl rfl rfl rfl rfl rfl (hY (by simp at*;omega)) zS)<|oP (lu rfl rfl zD (xA (wm hi.2.1 (eM hi.1 (pre.length+au.length)) j8 rW).2.2))<|sd (ao zO)<|nx ⟨au++[x2],az,out.set (pre.length+au.length) ((c+(nth out (pre.length+au.length)+x*x2))%gB),(c+(nth out (pre.length+au.length)+x*x2))/gB,by simp[aN],by simp[hlen],J0 hi j8 rW zO zO⟩ zS (Le.mk rfl (.n 3 rfl rfl (.cons rfl (Sub.gs zS) rfl (.n 6 rfl rfl (.cons rfl (Sub.int zS) rfl .nil)))) (.arr rfl (by exact uz) .nil))
structure aqZ(d:Nat)where
 u:Unit
def aqY(d:Nat):Fc prog 358 [.snap 1 false [],.raw (.int .u64 (d:Int))] (.a_ [.snap 1 false [],.raw (.int .u64 ((0:Nat):Int))]):=by
 refine gq func358 ntmps358 results358 ?_;refine go []<|oP (ZN underlying244 sizeOf184 typeInfo184 rfl rfl rfl rfl)<|sd (cT zO zS)<|U.loop (ι:=aqZ d) (fun sx=>[(7,.raw (.int .u64 ((0:Nat):Int))),(8,.i (-1)),(6,bk []),(0,.snap 1 false []),(1,.raw (.int .u64 (d:Int)))]) (fun sx=>[]) (fun sx=>0) ⟨()⟩ ?_ ?_
 ·exact Le.mk rfl (.n 5 rfl rfl .nil) .nil
 ·rintro⟨u⟩;try dsimp only
  skip
  ·exact go []<|aH zS<|go []<|oP (ah call284 rfl (sT _))<|cw rfl rfl (Sub.refl _) (Sub.refl _)
def aar(M d:Nat)(hs:(ak M).length<=40000)(hd:0<d)(MG:d<gB):Fc prog 358 [bk (ak M),.raw (.int .u64 (d:Int))] (.a_ [bk (ak (M/d)),.raw (.int .u64 ((M%d:Nat):Int))]):=by
 have h:=aqP (fc M) hd;rw[fK]at h;rw[<-h.1,<-h.2];by_cases e:(ak M).length=0
 ·have e:=Bv e;rw[e];exact aqY d
 ·exact aq0 _ d e hs (fc M) hd MG
end Go.T
namespace Go.T
open Go
def KB{M N:Nat}:jc (ak M) (ak N)<0↔M<N:=by
 have h:=(F5 (fc M) (fc N) (xg M) (xg N)).1;rw[fK,fK]at h;exact h
def amk{N:Nat}(h:(ak N).length=1):ak N=[N]/\0<N/\N<gB:=by
 have h0:N≠0:=by rintro rfl;rw[oF]at h;simp at h
 have h1:=xh N;rw[h,Nat.pow_one]at h1;refine⟨?_,by omega,h1⟩;rw[xi h0,oZ h1,sW h1,oF]
def aeN{r:Nat}(h:r<gB):bu [r]=ak r:=by
 rw[sS (fun x hx=>by simp at hx;subst hx;exact h)];simp[an]
open Go.Proofs Go.Proofs.Tryz
def afu(M N:Nat)(yq:(ak M).length<=10000)(yr:(ak N).length<=10000)(h:M<N):Fc prog 340 [bk (ak M),bk (ak N)] (.a_ [bk (ak (M/N)),bk (ak (M%N))]):=by
 refine gq func340 ntmps340 results340 ?_;exact go []<|oP (ah call240 rfl (Am _ _ zO zO))<|aM (by simpa using KB.2 h)<|cw rfl rfl (by exact(Sub.nil _ false).trans (Sub.snap (by rw[sW h,oF];rfl))) (Sub.snap (by rw[oZ h]))
def afB(M N:Nat)(yq:(ak M).length<=10000)(yr:(ak N).length<=10000)(h:¬M<N)(h1:(ak N).length=1):Fc prog 340 [bk (ak M),bk (ak N)] (.a_ [bk (ak (M/N)),bk (ak (M%N))]):=by
 refine gq func340 ntmps340 results340 ?_;have pX:=amk h1;exact go []<|oP (ah call240 rfl (Am _ _ zO zO))<|aH (by simpa using fun hc=>h (KB.1 hc))<|aM (by simp[bG,h1])<|ix zO (u4 (l:=ak N) (k:=0) (b:=N) (r:=[]) (by rw[pX.1];rfl) (by rfl))<|oP (ah call358 rfl (aar _ _ zO zO zO))<|oP (bK (n:=1) (rows:=bG [M%N]) underlying244 sizeOf184 rfl rfl rfl zeroValue184 rfl rfl rfl rfl rfl rfl rfl)<|oP (ah call284 rfl (sT [M%N]).sub)<|cw rfl rfl (Sub.refl _) (Sub.snap (by rw[aeN (Nat.lt_trans (n0 _ pX.2.1) pX.2.2)]))
end Go.T
namespace Go.T
open Go
def dS(N:Nat):Nat:=gB/(nth (ak N) ((ak N).length-1)+1)
def dK(N:Nat):Nat:=(ak (N*dS N)).length
def dL(M N:Nat):Nat:=(ak (M*dS N)).length
def CP(N:Nat):0<dS N:=by
 have h:=eM (fc N) ((ak N).length-1);exact Nat.div_pos h zO
def R0{N:Nat}(h:(ak N).length≠0):dS N<gB:=by
 obtain⟨k,hk⟩:∃k,(ak N).length=k+1:=⟨(ak N).length-1,by omega⟩;have h1:=Xz hk;unfold dS;rw[show(ak N).length-1=k by omega];exact Nat.div_lt_self ed zO
def N5{v n:Nat}(h:v<gB^n):(ak v).length<=n:=by
 rcases eQ n (ak v).length with g|g
 ·exfalso;have h1:=Ib (v:=v) zO;have h2:gB^n<=gB^((ak v).length-1):=eE ed zO;omega
 ·exact g
def aeQ{M N:Nat}(h:(ak N).length≠0):dL M N<=(ak M).length+1:=by
 refine N5 ?_;have h1:=xh M;have h2:=R0 h;rw[lN];exact zF h1 zO ed
def Qj{N:Nat}(h:2<=(ak N).length):gB<=N:=by
 have h1:=Ib (v:=N) zO;have h2:gB^1<=gB^((ak N).length-1):=eE ed zO;rw[Nat.pow_one]at h2;omega
def RZ{N:Nat}(h:2<=(ak N).length):gB<=N*dS N:=dM (Qj h) (Fz _ (CP N))
def KO{N:Nat}(h:2<=(ak N).length):2<=dK N:=XD (RZ h)
def aeP{M N:Nat}(h:¬M<N):dK N<=dL M N:=qd (dd _ zO)
def NK{l:List Nat}(h:l.length≠0):l.drop (l.length-1)=nth l (l.length-1)::[]:=by
 rw[yb zO,iP zO]
def aeR{M N:Nat}(h:¬M<N)(h2:2<=(ak N).length):DO (M*dS N) (N*dS N) (ak (M*dS N)++[0,0]) (List.replicate (dL M N+2-dK N) 0) (dL M N+2-dK N) (dK N):=
 abL (RZ h2) (dd _ zO)
def N7(s:Nat):an [s]=s:=by simp[an]
def amj{v:Nat}(h:v≠0):ak v≠[]:=by rw[xi h];simp
open Go.Proofs Go.Proofs.Tryz
def dB.sub{P:Program}{f:FuncId}{ds fg:List D}{pre:ae}{r:D}{post:ae}(h:dB P f fg pre r post)(hs:jx ds fg):dB P f ds pre r post:=
 ⟨fun w O ρ vals ai hg hv=>h.out w O ρ vals ai hg (hs.out w _ ρ vals hv)⟩
def arL(M s:Nat)(hL:(ak M).length<=10000)(hs:0<s)(yL:s<gB)(hM:M≠0):dB prog 338 [bk (ak M),.snap 1 true (bG [s])] [] (.gs 7200 (ak (M*s)).length) [(7200,.arr 1 (bG (ak (M*s))))]:=by
 have h:=arT (ak M) [s] zS zO zS (fc M) (fun x hx=>by simp at hx;subst hx;exact yL) (by rw[fK,N7];exact amj (Nat.mul_ne_zero hM zO));rw[fK,N7]at h;exact h.sub (.r (.cons (Sub.sF _ _ _) .nil))
def arM(M s:Nat)(hL:(ak M).length<=10000)(yL:s<gB):Fc prog 338 [bk (ak M),.snap 1 true (bG [s])] (bk (ak (M*s))):=by
 have h:=aaL (ak M) [s] zS zO zS (fc M) (fun x hx=>by simp at hx;subst hx;exact yL);rw[fK,N7]at h;exact h.sub
end Go.T
namespace Go.T
open Go
variable{a b:List Nat} {i k g:Nat}
def abN(ha:aZ a)(hb:aZ b)(hl:i+k<a.length)(hz:∀j,i+k<j->nth a j=0)(hk:b.length=k)(h2:2<=k)(iL:0<nth b (k-1)):
  GS a b i k (min (rz a i k/nth b (k-1)) (gB-1)):=by
 obtain⟨n,rfl⟩:∃n,k=n+2:=⟨k-2,by omega⟩;exact GS0 ha hb hl hz hk iL
def QB(ha:aZ a)(hb:aZ b)(hl:i+k<a.length)(hz:∀j,i+k<j->nth a j=0)(hk:b.length=k)(h2:2<=k)(h:GS a b i k g)
  (ht:(rz a i k-g*nth b (k-1))*gB+nth a (i+k-2)<g*nth b (k-2)):1<=g/\GS a b i k (g-1):=by
 obtain⟨n,rfl⟩:∃n,k=n+2:=⟨k-2,by omega⟩;exact GS1 ha hb hl hz hk h ht
def QC(ha:aZ a)(hb:aZ b)(hl:i+k<a.length)(hz:∀j,i+k<j->nth a j=0)(hk:b.length=k)(h2:2<=k)(iL:0<nth b (k-1))(h:GS a b i k g)
  (ht:gB<=rz a i k-g*nth b (k-1)\/g*nth b (k-2)<=(rz a i k-g*nth b (k-1))*gB+nth a (i+k-2)):(g-1)*an b*gB^i<=an a:=by
 obtain⟨n,rfl⟩:∃n,k=n+2:=⟨k-2,by omega⟩;exact GS2 ha hb hl hz hk iL h ht
def aeO{N:Nat}(h:2<=(ak N).length):0<nth (ak (N*dS N)) (dK N-1):=by
 have h2:=KO h;exact Xz (k:=dK N-1) (by show dK N=_;omega)
def abS{A bv:Nat}{a0 a1 out b:List Nat}{i k g c:Nat}(h:DO A bv a0 out (i+1) k)(hb:aZ b)(hv:an b=bv)(hk:b.length=k)
  (hm:MS a0 a1 g c i k b)(hc:nth a1 (i+k)<c):1<=g:=by
 have hz:=JO h hb hk hv;obtain⟨o1,o2,o3,o4,o5,o6⟩:=h;obtain⟨m1,m2,m3,m4,m5⟩:=hm;have s1:=P9 (l:=a1) (n:=i+k) (fun j hj=>by rw[m5 j zO];exact hz j hj);have l1:=Fm m1 (i+k);rw[hk]at m4;have Hm:(nth a1 (i+k)+1)*gB^(i+k)<=c*gB^(i+k):=dd _ hc;rw[dO,qA]at Hm;rcases ko g with e|e
 ·subst e;rw[xW,xW]at m4;omega
 ·exact e
def J4(t:Nat):t%gB<gB:=n0 _ ed
def amN(t k:Nat):min (t:Int) (k:Int)=((min t k:Nat):Int):=by omega
def amO(t:Nat):min (t:Int) 999999999=((min t (gB-1):Nat):Int):=amN t 999999999
end Go.T
namespace Go.T
open Go Go.Proofs Go.Proofs.Tryz
def BC{x:Nat}(h:x<gB):x*gB<18446744073709551616/\∀y,y<gB->x*gB+y<18446744073709551616:=by
 have h1:x*gB<=999999999*gB:=dd _ (by unfold gB at*;omega);unfold gB at*;exact⟨by omega,fun y hy=>by omega⟩
def XX{x y:Nat}(h:x<gB)(k:y<gB):x*y<18446744073709551616:=EH (jg _ (yj k)) (BC h).1
def aaS{a:List Nat}(h:aZ a)(i k:Nat):rz a i k<18446744073709551616:=(BC (eM h _)).2 _ (eM h _)
structure afw(M N:Nat)where
 a:List Nat
 out:List Nat
 i:Nat
 hd:DO (M*dS N) (N*dS N) a out i (dK N)
 pU:a.length=dL M N+2
 yA:i<=out.length
structure afx(M N:Nat)(a out:List Nat)(i:Nat)where
 g:Nat
 jK:GS a (ak (N*dS N)) i (dK N) g
structure afy(M N:Nat)(a out:List Nat)(i g:Nat)where
 au:List Nat
 az:List Nat
 a1:List Nat
 c:Nat
 aN:(ak (N*dS N))=au++az
 hm:MS a a1 g c i (dK N) au
 qJ:(g-1)*an (ak (N*dS N))*gB^i<=an a
structure afz(M N:Nat)(a1 out:List Nat)(i g c:Nat)where
 au:List Nat
 az:List Nat
 a2:List Nat
 d:Nat
 aN:(ak (N*dS N))=au++az
 hp:AB a1 a2 d i (dK N) au
def afv(M N:Nat)(yq:(ak M).length<=10000)(yr:(ak N).length<=10000)(h:¬M<N)(h2:2<=(ak N).length):Fc prog 340 [bk (ak M),bk (ak N)] (.a_ [bk (ak (M/N)),bk (ak (M%N))]):=by
 refine gq func340 ntmps340 results340 ?_;have yL:=R0 (N:=N) zO;have hM0:M≠0:=by have:=Qj h2;unfold gB at this;omega
 have hdL:=aeQ (M:=M) (N:=N) zO;have hdK:=aeP h;have axd:=KO h2;have eL:(ak (M*dS N)).length=dL M N:=rfl;have eK:(ak (N*dS N)).length=dK N:=rfl;have iL:=aeO h2
 refine U.seq<|rg<|.ag rfl rfl<|.ag rfl rfl<|.nil<|U.seq<|U.seq<|rg<|.mv rfl rfl<|.mv rfl rfl<|.P rfl (ah call240 rfl (Am _ _ zO zO))<|.P rfl (bp rfl rfl)<|.nil<|U.c6 rfl (by simpa using fun hc=>h (KB.1 hc))<|U.skip<|U.seq<|U.seq<|rg<|.mv rfl rfl<|.P rfl (cv underlying244 rfl)<|.P rfl (kO rfl rfl)<|.nil<|U.c6 rfl (by simp[bG];omega)<|U.skip<|U.seq<|rg<|.mv rfl rfl<|.mv rfl rfl<|.P rfl (cv underlying244 rfl)<|.P rfl (dx rfl rfl (cT zO zQ))<|.P rfl (eC underlying244 sizeOf184 rfl rfl (by simp[bG];omega) (u4 (l:=ak N) (k:=(ak N).length-1) (b:=nth (ak N) ((ak N).length-1)) (r:=[]) (NK zO) (by simp[bG];omega)))<|.P rfl (bE isAgg184 rfl)<|.P rfl (bx rfl rfl (addN (b:=1) (by have:=eM (fc N) ((ak N).length-1);unfold gB at*;omega)))<|.P rfl (lu rfl rfl zO (PE (a:=gB) zD))<|.ag rfl rfl<|.nil<|U.seq<|rg<|.mv rfl rfl<|.mv rfl rfl<|.P rfl (bK (n:=1) (rows:=bG [dS N]) underlying244 sizeOf184 rfl rfl rfl zeroValue184 rfl rfl rfl rfl rfl rfl rfl)<|.W rfl (gv call338 rfl (arL M (dS N) yq (CP N) yL hM0) .nil rfl rfl)<|.P rfl (bK (n:=2) (rows:=bG [0,0]) underlying244 sizeOf184 rfl rfl rfl zeroValue184 rfl rfl rfl rfl rfl rfl rfl)<|.W rfl (ee 0 underlying244 underlying244 sizeOf184 typeInfo184 zeroValue184 rfl (bt:=8) rfl rfl rfl rfl (by simp[bG]) rfl rfl zQ)<|.mv rfl rfl<|.mv rfl rfl<|.P rfl (bK (n:=1) (rows:=bG [dS N]) underlying244 sizeOf184 rfl rfl rfl zeroValue184 rfl rfl rfl rfl rfl rfl rfl)<|.P rfl (ah call338 rfl (arM N (dS N) yr yL))<|.ag rfl rfl<|.ag rfl rfl<|.nil ?_
 refine U.seq<|rg<|.mv rfl rfl<|.P rfl (cv underlying244 rfl)<|.ag rfl rfl<|.nil<|U.seq<|rg<|.mv rfl rfl<|.P rfl (vG underlying244 rfl)<|.mv rfl rfl<|.P rfl (dx rfl rfl (cT zQ zQ))<|.W rfl (xz (bt:=8) 1 (dL M N+2-dK N) underlying244 sizeOf184 typeInfo184 zeroValue184 rfl rfl rfl rfl rfl (by simp[bG];omega) (by simp[bG];omega) (dP (dL M N+2-dK N)) zO zO zO rfl)<|.ag rfl rfl<|.nil<|U.seq<|U.seq<|rg<|.mv rfl rfl<|.P rfl (vG underlying244 rfl)<|.mv rfl rfl<|.P rfl (dx rfl rfl (cT zQ zQ))<|.P rfl (dx rfl rfl (cT zQ zQ))<|.ag rfl rfl<|.nil<|U.block<|U.loop (ι:=afw M N) (fun sx=>[(9,.gs 0 (dL M N+2)),(10,bk (ak (N*dS N))),(11,.i (dK N)),(12,.gs 1 (dL M N+2-dK N)),(8,.raw (.int .u64 ((dS N):Int))),(13,.i ((sx.i:Int)-1))]) (fun sx=>[(1,.arr 1 (bG sx.out)),(0,.arr 1 (bG sx.a))]) (fun sx=>sx.i) ⟨_,_,_,aeR h h2,by simp[dL],by simp⟩ ?_ ?_
 ·exact Le.mk rfl (.cons rfl (Sub.refl _) rfl (.s rfl rfl (.cons rfl (Sub.int zQ) rfl (.cons rfl (Sub.refl _) rfl (.s rfl rfl (.cons rfl (Sub.int zQ) rfl .nil)))))) (.arr rfl (by simp[bG]) (.arr rfl (by simp[bG]) .nil))
 ·rintro⟨a,out,i,hd,pU,yA⟩;dsimp only;rcases i with _|i
  ·have Vu:=hd.2.2.1;have UC:0<N:=by have:=Qj h2;unfold gB at this;omega
   have Hu:=abJ hd (CP N) UC (xh _);have fQ:(ak (M%N*dS N)).length<=dK N:=qd (dd _ (yj (n0 _ UC)));refine U.seq<|U.seq<|rg<|.mv rfl rfl<|.P rfl (qi rfl rfl)<|.nil<|U.c6 rfl zS<|U.exit (dz (du ?_));refine U.bc (Le.freeze 9 0 rfl rfl (by simp[bG];omega)) ?_;refine U.seq<|rg<|.mv rfl rfl<|.mv rfl rfl<|.P rfl (pC underlying244 sizeOf184 rfl (h:=dK N) (r:=bG (a.take (dK N))) (.inl ⟨rfl,rfl⟩) (.inr ⟨_,_,rfl,rfl⟩) zO (by simp[bG];omega) (by simp[bG]))<|.P rfl (ah call284 rfl (sT _))<|.mv rfl rfl<|.P rfl (ah call358 (by rw[<-Hu.2];rfl) (aar (M%N*dS N) (dS N) zO (CP N) yL))<|.mv rfl rfl<|.P rfl (eP rfl rfl)<|.P rfl (eP rfl rfl)<|.ag rfl rfl<|.ag rfl rfl<|.nil ?_;refine U.bc (Le.freeze 12 1 rfl rfl (by simp[bG];omega)) ?_;refine U.seq<|rg<|.mv rfl rfl<|.P rfl (ah call284 rfl (sT _))<|.mv rfl rfl<|.ag rfl rfl<|.ag rfl rfl<|.nil<|U.ret (?_);exact rq rfl rfl (Sub.snap (by rw[Hu.1])) (Sub.snap (by rw[Nat.mul_div_cancel _ (CP N)]))
  ·have yB:=KO h2;have hb:=fc (N*dS N);have hz:=JO hd hb rfl (fK _);have Vu:=hd.2.2.1;have qG:=hd.1;have hl:i+dK N<a.length:=by omega
   have U9:=abN qG hb hl (fun j hj=>hz j hj) rfl yB iL;refine U.seq<|U.seq<|rg<|.mv rfl rfl<|.P rfl (qi rfl rfl)<|.nil<|U.ew rfl zS<|U.skip<|U.seq<|U.block<|U.seq (U.pE [.p,.p,.p,.p,.p,.r,.p,.p,.p,.p,.p,.p,.p,.r,.p,.p] l7 zK ?_);refine .mv rfl rfl<|.mv rfl rfl<|.mv rfl rfl<|.P rfl (bx rfl rfl (ao zO))<|.P rfl (ca (off:=(i+dK N)*1) underlying244 sizeOf184 rfl rfl zO zO zO)<|.R rfl (fG (r:=_) (i+dK N) 0 isAgg184 rfl rfl rfl (hY (by simp at*;omega)) rfl)<|.P rfl (so rfl rfl (mulN (c:=gB) zD (BC (eM qG (i+dK N))).1))<|.mv rfl rfl<|.mv rfl rfl<|.mv rfl rfl<|.P rfl (bx rfl rfl (ao zO))<|.P rfl (dx rfl rfl (ao zO))<|.P rfl (ca (off:=(i+dK N-1)*1) underlying244 sizeOf184 rfl rfl zO zO zO)<|.R rfl (fG (r:=_) (i+dK N-1) 0 isAgg184 rfl rfl rfl (hY (by simp at*;omega)) rfl)<|.P rfl (bx rfl rfl (addN ((BC (eM qG (i+dK N))).2 _ (eM qG (i+dK N-1)))))<|.ag rfl rfl<|.nil<|U.seq<|rg<|.mv rfl rfl<|.mv rfl rfl<|.mv rfl rfl<|.P rfl (dx rfl rfl (ao zO))<|.P rfl (eC underlying244 sizeOf184 rfl rfl zO (u4 (l:=(ak (N*dS N))) (k:=dK N-1) (b:=nth (ak (N*dS N)) (dK N-1)) (r:=[]) (NK (by show dK N≠0;omega)) zO))<|.P rfl (bE isAgg184 rfl)<|.P rfl (lu rfl rfl zO (PE (aaS qG i (dK N))))<|.P rfl (B9 rfl rfl rfl)<|.ag rfl rfl<|.nil<|U.seq<|U.block<|U.loop (ι:=afx M N a out i) (fun sx=>[(9,.gs 0 (dL M N+2)),(10,bk (ak (N*dS N))),(11,.i (dK N)),(12,.gs 1 (dL M N+2-dK N)),(8,.raw (.int .u64 ((dS N):Int))),(13,.i (i:Int)),(14,.raw (.int .u64 ((rz a i (dK N)):Int))),(15,.raw (.int .u64 (sx.g:Int)))]) (fun sx=>[(1,.arr 1 (bG out)),(0,.arr 1 (bG a))]) (fun sx=>sx.g) ⟨_,U9⟩ ?_ ?_
   ·exact Le.mk rfl (.cons rfl (Sub.gs zS) rfl (.n 2 rfl rfl (.cons rfl (Sub.gs zS) rfl (.s rfl rfl (.cons rfl (Sub.int zS) rfl (.s rfl rfl (.cons rfl (Sub.int (by exact amO _)) rfl .nil))))))) (.arr rfl (by rfl) (.arr rfl (by rfl) .nil))
   ·rintro⟨g,jK⟩;dsimp only;refine U.block<|U.seq<|rg<|.mv rfl rfl<|.mv rfl rfl<|.mv rfl rfl<|.mv rfl rfl<|.P rfl (dx rfl rfl (ao zO))<|.P rfl (eC underlying244 sizeOf184 rfl rfl zO (u4 (l:=(ak (N*dS N))) (k:=dK N-1) (b:=nth (ak (N*dS N)) (dK N-1)) (r:=[]) (NK (by show dK N≠0;omega)) zO))<|.P rfl (bE isAgg184 rfl)<|.P rfl (so rfl rfl (mulN rfl (XX jK.1 (eM hb (dK N-1)))))<|.P rfl (dx rfl rfl (sC jK.2.1 (aaS qG i (dK N))))<|.ag rfl rfl<|.nil<|U.seq (U.seq (U.pE [.p,.p,.p,.p,.p,.p,.p,.p,.p,.p,.p,.p,.p,.p,.p,.p,.p,.p,.r,.p,.p,.p] l7 zK ?_))
    refine .mv rfl rfl<|.P rfl (qi rfl rfl)<|.mv rfl rfl<|.gF rfl (.inl rfl) rfl rfl rfl (fun hg=>pk (fun _=>aX rfl _))<|.gF rfl (.inl rfl) rfl rfl rfl (fun hg=>pk (fun _=>aX rfl _))<|.gF rfl (.inl rfl) rfl rfl rfl (fun hg=>pk (fun _=>aX rfl _))<|.gF rfl (.inl rfl) rfl rfl rfl (fun hg=>pk (fun _=>dx (bn rfl (nt hg)) rfl (ao zO) _))<|.gF rfl (.inl rfl) rfl rfl rfl (fun hg=>pk (fun _=>eC underlying244 sizeOf184 (bn rfl (nt hg)) (bn rfl (nt hg)) zO (u4 (l:=(ak (N*dS N))) (k:=dK N-2) (b:=nth (ak (N*dS N)) (dK N-2)) (r:=_) (yb (by show dK N-2<dK N;omega)) zO) _))<|.gF rfl (.inl rfl) rfl rfl rfl (fun hg=>pk (fun _=>bE isAgg184 (bn rfl (nt hg)) _))<|.gF rfl (.inl rfl) rfl rfl rfl (fun hg=>pk (fun _=>so (bn rfl (nt hg)) (bn rfl (nt hg)) (mulN rfl (XX jK.1 (eM hb (dK N-2)))) _))<|.gF rfl (.inl rfl) rfl rfl rfl (fun hg=>pk (fun _=>aX rfl _))<|.gF rfl (.inl rfl) rfl rfl rfl (fun hg=>pk (fun _=>so (bn rfl (nt hg)) rfl (mulN (c:=gB) zD (BC (by have h9:=fj hg;unfold gB at*;omega)).1) _))<|.gF rfl (.inl rfl) rfl rfl rfl (fun hg=>pk (fun _=>aX rfl _))<|.gF rfl (.inl rfl) rfl rfl rfl (fun hg=>pk (fun _=>aX rfl _))<|.gF rfl (.inl rfl) rfl rfl rfl (fun hg=>pk (fun _=>aX rfl _))<|.gF rfl (.inl rfl) rfl rfl rfl (fun hg=>pk (fun _=>bx (bn rfl (nt hg)) (bn rfl (nt hg)) (ao zO) _)) ?_
    refine .gF rfl (.inl rfl) rfl rfl rfl (fun hg=>pk (fun _=>dx (bn rfl (nt hg)) rfl (ao zO) _))<|.gF rfl (.inl rfl) rfl rfl rfl (fun hg=>pk (fun _=>ca (off:=(i+dK N-2)*1) underlying244 sizeOf184 (bn rfl (nt hg)) (bn rfl (nt hg)) zO zO zO _))<|.gF rfl (.inr rfl) rfl rfl rfl (fun hg=>rk (fG (r:=_) (i+dK N-2) 0 isAgg184 (bn rfl (nt hg)) rfl rfl (hY (by simp at*;omega)) rfl))<|.gF rfl (.inl rfl) rfl rfl rfl (fun hg=>pk (fun _=>bx (bn rfl (nt hg)) (bn rfl (nt hg)) (addN ((BC (by have h9:=fj hg;unfold gB at*;omega)).2 _ (eM qG (i+dK N-2)))) _))<|.gF rfl (.inl rfl) rfl rfl rfl (fun hg=>pk (fun _=>EV (bn rfl (nt hg)) (bn rfl (nt hg)) _))<|.P rfl (oT rfl rfl)<|.nil<|U.cond rfl (fun h1=>?_) (fun h1=>?_)
    ·have bJ:=h1;try simp only[bs]at bJ
     refine U.exit (ac0 rfl (dz (du ?_)));refine U.seq<|rg<|.ag rfl rfl<|.nil<|U.seq<|U.seq<|rg<|.mv rfl rfl<|.P rfl (cv underlying244 rfl)<|.mv rfl rfl<|.nil<|U.block<|U.loop (ι:=afy M N a out i g) (fun sx=>[(9,.gs 0 (dL M N+2)),(10,bk (ak (N*dS N))),(11,.i (dK N)),(12,.gs 1 (dL M N+2-dK N)),(8,.raw (.int .u64 ((dS N):Int))),(13,.i (i:Int)),(15,.raw (.int .u64 (g:Int))),(17,.raw (.int .u64 (sx.c:Int))),(134,bk (ak (N*dS N))),(135,.i (dK N)),(136,.i sx.au.length)]) (fun sx=>[(1,.arr 1 (bG out)),(0,.arr 1 (bG sx.a1))]) (fun sx=>sx.az.length) ⟨[],_,a,0,rfl,MS0 qG g i (dK N),by rcases bJ with h9|h9;exact QC qG hb hl (fun j hj=>hz j hj) rfl yB iL jK (.inl (by unfold gB;omega));exact QC qG hb hl (fun j hj=>hz j hj) rfl yB iL jK (.inr zO)⟩ ?_ ?_
     ·exact Le.mk rfl (.cons rfl (Sub.refl _) rfl (.n 2 rfl rfl (.cons rfl (Sub.refl _) rfl (.n 5 rfl rfl (.cons rfl (Sub.int zQ) rfl (.s rfl rfl .nil)))))) (.arr rfl (by rfl) (.arr rfl (by rfl) .nil))
     ·rintro⟨au,az,a1,c,aN,hm,qJ⟩;dsimp only;rcases lc aN with⟨rfl,bM⟩|⟨x2,az,rfl,bM⟩
      ·obtain rfl:au=(ak (N*dS N)):=by simpa using aN.symm
       have My:=hm.2.2.1;refine U.seq<|rg<|.P rfl (bp rfl rfl)<|.nil<|U.seq<|U.c6 rfl zQ<|U.exit (dz (du ?_));refine U.seq<|U.seq<|rg<|.mv rfl rfl<|.mv rfl rfl<|.mv rfl rfl<|.P rfl (bx rfl rfl (ao zO))<|.P rfl (ca (off:=(i+dK N)*1) underlying244 sizeOf184 rfl rfl zO zO zO)<|.R rfl (fG (r:=_) (i+dK N) 0 isAgg184 rfl rfl rfl (hY (by simp at*;omega)) rfl)<|.mv rfl rfl<|.P rfl (qi rfl rfl)<|.nil<|U.cond rfl (fun h2=>?_) (fun h2=>?_)
       ·have di:=h2;try simp only[bs]at di
        refine rg<|.mv rfl rfl<|.mv rfl rfl<|.mv rfl rfl<|.P rfl (bx rfl rfl (ao zO))<|.P rfl (ca (off:=(i+dK N)*1) underlying244 sizeOf184 rfl rfl zO zO zO)<|.R rfl (fG (r:=_) (i+dK N) 0 isAgg184 rfl rfl rfl (hY (by simp at*;omega)) rfl)<|.mv rfl rfl<|.P rfl (dx rfl rfl (sC zO (by have:=eM hm.1 (i+dK N);unfold gB at*;omega)))<|.P rfl (ca (off:=(i+dK N)*1) underlying244 sizeOf184 rfl rfl zO zO zO)<|.W rfl (ic (r:=_) (i+dK N) 0 sizeOf184 rfl rfl rfl rfl rfl rfl (hY (by simp at*;omega)) zS)<|.nil<|rg<|.mv rfl rfl<|.mv rfl rfl<|.mv rfl rfl<|.P rfl (ca (off:=(i)*1) underlying244 sizeOf184 rfl rfl zO zO zO)<|.W rfl (ic (r:=_) (i) 0 sizeOf184 rfl rfl rfl rfl rfl rfl (hY (by simp at*;omega)) zS)<|.nil<|U.nil (bR ?_);refine rg<|.mv rfl rfl<|.P rfl (dx rfl rfl (ao zO))<|.ag rfl rfl<|.nil<|U.nil (cz ?_);exact⟨⟨a1.set (i+dK N) (nth a1 (i+dK N)-c),out.set i g,i,abK hd (fK _) (by simpa[fK]using jK.2.2) jK.1 hm rfl zO zO zO,by simp;omega,by simp;omega⟩,by simp,Le.mk rfl (.cons rfl (Sub.refl _) rfl (.n 2 rfl rfl (.cons rfl (Sub.refl _) rfl (.n 2 rfl rfl .nil)))) (.arr rfl (by exact uz) (.arr rfl (by exact uz) .nil))⟩
       ·have di:=h2;try simp only[bs]at di
        have nM:=abS hd hb (fK _) rfl hm zO;refine U.seq<|rg<|.mv rfl rfl<|.P rfl (dx rfl rfl (sC (b:=1) zO (by have:=jK.1;unfold gB at*;omega)))<|.ag rfl rfl<|.nil<|U.seq<|rg<|.ag rfl rfl<|.nil<|U.seq<|U.seq<|rg<|.mv rfl rfl<|.P rfl (cv underlying244 rfl)<|.mv rfl rfl<|.nil<|U.block<|U.loop (ι:=afz M N a1 out i g c) (fun sx=>[(9,.gs 0 (dL M N+2)),(10,bk (ak (N*dS N))),(11,.i (dK N)),(12,.gs 1 (dL M N+2-dK N)),(8,.raw (.int .u64 ((dS N):Int))),(13,.i (i:Int)),(15,.raw (.int .u64 ((g-1:Nat):Int))),(17,.raw (.int .u64 (c:Int))),(20,.raw (.int .u64 (sx.d:Int))),(198,bk (ak (N*dS N))),(199,.i (dK N)),(200,.i sx.au.length)]) (fun sx=>[(1,.arr 1 (bG out)),(0,.arr 1 (bG sx.a2))]) (fun sx=>sx.az.length) ⟨[],_,a1,0,rfl,AB0 hm.1 i (dK N)⟩ ?_ ?_
        ·exact Le.mk rfl (.cons rfl (Sub.refl _) rfl (.n 2 rfl rfl (.cons rfl (Sub.refl _) rfl (.n 6 rfl rfl (.cons rfl (Sub.int zQ) rfl (.s rfl rfl .nil)))))) (.arr rfl (by rfl) (.arr rfl (by rfl) .nil))
        ·rintro⟨au,az,a2,d,aN,hp⟩;dsimp only;have bM:=aT List.length aN;simp only[bl]at bM;rcases az with _|⟨x2,az⟩
         ·obtain rfl:au=(ak (N*dS N)):=by simpa using aN.symm
          have My:=hm.2.2.1;have aiP:=hp.2.2.1;have UU:=abI hd hb (fK _) rfl (by simpa[fK]using qJ) jK.1 hm zO hp zO zO;refine U.seq<|rg<|.P rfl (bp rfl rfl)<|.nil<|U.seq<|U.c6 rfl zQ<|U.exit (dz (du ?_));refine rg<|.mv rfl rfl<|.mv rfl rfl<|.mv rfl rfl<|.P rfl (bx rfl rfl (ao zO))<|.mv rfl rfl<|.mv rfl rfl<|.mv rfl rfl<|.P rfl (bx rfl rfl (ao zO))<|.P rfl (ca (off:=(i+dK N)*1) underlying244 sizeOf184 rfl rfl zO zO zO)<|.R rfl (fG (r:=_) (i+dK N) 0 isAgg184 rfl rfl rfl (hY (by simp at*;omega)) rfl)<|.mv rfl rfl<|.P rfl (bx rfl rfl (addN (by have:=eM hp.1 (i+dK N);have:=hp.2.1;unfold gB at*;omega)))<|.mv rfl rfl<|.P rfl (dx rfl rfl (sC (by have:=UU.2.1;omega) (by have:=eM hp.1 (i+dK N);have:=hp.2.1;unfold gB at*;omega)))<|.P rfl (ca (off:=(i+dK N)*1) underlying244 sizeOf184 rfl rfl zO zO zO)<|.W rfl (ic (r:=_) (i+dK N) 0 sizeOf184 rfl rfl rfl rfl rfl rfl (hY (by simp at*;omega)) zS)<|.nil<|rg<|.mv rfl rfl<|.mv rfl rfl<|.mv rfl rfl<|.P rfl (ca (off:=(i)*1) underlying244 sizeOf184 rfl rfl zO zO zO)<|.W rfl (ic (r:=_) (i) 0 sizeOf184 rfl rfl rfl rfl rfl rfl (hY (by simp at*;omega)) zS)<|.nil<|U.nil (bR ?_);refine rg<|.mv rfl rfl<|.P rfl (dx rfl rfl (ao zO))<|.ag rfl rfl<|.nil<|U.nil (cz ?_);exact⟨⟨a2.set (i+dK N) (nth a2 (i+dK N)+d-c),out.set i (g-1),i,UU.2.2,by simp;omega,by simp;omega⟩,by simp,Le.mk rfl (.cons rfl (Sub.refl _) rfl (.n 2 rfl rfl (.cons rfl (Sub.refl _) rfl (.n 2 rfl rfl .nil)))) (.arr rfl (by exact uz) (.arr rfl (by exact uz) .nil))⟩
         ·simp only[bD]at bM;have My:=hm.2.2.1;have aiP:=hp.2.2.1;have tp:=hb x2 (by rw[aN];simp);have s_:(au++x2::az).length=dK N:=by rw[<-aN];rfl
          refine U.seq<|rg<|.P rfl (bp rfl rfl)<|.nil<|U.seq<|U.ew rfl zQ<|U.skip<|U.seq<|U.block<|U.seq<|rg<|.mv rfl rfl<|.ag rfl rfl<|.nil<|U.seq (U.pE [.p,.p,.p,.p,.p,.r,.p,.p,.p,.p,.p,.p,.p,.p,.w] l7 zK ?_);refine .mv rfl rfl<|.mv rfl rfl<|.mv rfl rfl<|.P rfl (bx rfl rfl (ao zO))<|.P rfl (ca (off:=(i+au.length)*1) underlying244 sizeOf184 rfl rfl zO zO zO)<|.R rfl (fG (r:=_) (i+au.length) 0 isAgg184 rfl rfl rfl (hY (by simp at*;omega)) rfl)<|.mv rfl rfl<|.mv rfl rfl<|.P rfl (eC underlying244 sizeOf184 rfl rfl zO (aK (fun(n:Nat)=>[D.raw (.int .u64 (n:Int))]) aN rfl))<|.P rfl (bE isAgg184 rfl)<|.mv rfl rfl<|.P rfl (bx rfl rfl (addN (by have:=hp.2.1;unfold gB at*;omega)))<|.P rfl (bx rfl rfl (addN (by have:=eM hp.1 (i+au.length);have:=hp.2.1;unfold gB at*;omega)))<|.P rfl (ca (off:=(i+au.length)*1) underlying244 sizeOf184 rfl rfl zO zO zO)<|.W rfl (ic (r:=_) (i+au.length) 0 sizeOf184 rfl rfl rfl rfl rfl rfl (hY (by simp at*;omega)) zS)<|.nil<|U.seq<|rg<|.mv rfl rfl<|.mv rfl rfl<|.mv rfl rfl<|.P rfl (bx rfl rfl (ao zO))<|.P rfl (ca (off:=(i+au.length)*1) underlying244 sizeOf184 rfl rfl zO zO zO)<|.R rfl (fG (r:=_) (i+au.length) 0 isAgg184 rfl rfl rfl (hC (hY (by simp at*;omega))) rfl)<|.P rfl (lu rfl rfl zD (xA (by have:=eM hp.1 (i+au.length);have:=hp.2.1;unfold gB at*;omega)))<|.ag rfl rfl<|.nil ?_
          refine rg<|.mv rfl rfl<|.mv rfl rfl<|.mv rfl rfl<|.P rfl (bx rfl rfl (ao zO))<|.P rfl (ca (off:=(i+au.length)*1) underlying244 sizeOf184 rfl rfl zO zO zO)<|.R rfl (fG (r:=_) (i+au.length) 0 isAgg184 rfl rfl rfl (hC (hY (by simp at*;omega))) rfl)<|.P rfl (lX rfl rfl zD (vL _))<|.P rfl (ca (off:=(i+au.length)*1) underlying244 sizeOf184 rfl rfl zO zO zO)<|.W rfl (ic (r:=_) (i+au.length) 0 sizeOf184 rfl rfl rfl rfl rfl rfl (hC (hY (by simp at*;omega))) zS)<|.nil<|U.nil (bR ?_);refine rg<|.P rfl (bx rfl rfl (ao zO))<|.mv rfl rfl<|.nil<|U.nil (cz ?_);exact⟨⟨au++[x2],az,a2.set (i+au.length) ((nth a2 (i+au.length)+(x2+d))%gB),(nth a2 (i+au.length)+(x2+d))/gB,by simp[aN],AB1 hp tp (by simp at s_;omega) (by simp at s_;have:=hp.2.2.1;have:=hm.2.2.1;omega)⟩,by simp,Le.mk rfl (.cons rfl (Sub.refl _) rfl (.n 2 rfl rfl (.cons rfl (Sub.refl _) rfl (.n 7 rfl rfl (.cons rfl (Sub.int zS) rfl .nil))))) (.arr rfl (by rfl) (.arr rfl (by simp[bG]) .nil))⟩
      ·have My:=hm.2.2.1;have tp:=hb x2 (by rw[aN];simp);have s_:(au++x2::az).length=dK N:=by rw[<-aN];rfl
       refine U.seq<|rg<|.P rfl (bp rfl rfl)<|.nil<|U.seq<|U.ew rfl zQ<|U.skip<|U.seq<|U.block<|U.seq<|rg<|.mv rfl rfl<|.ag rfl rfl<|.nil<|U.seq<|rg<|.mv rfl rfl<|.mv rfl rfl<|.mv rfl rfl<|.P rfl (eC underlying244 sizeOf184 rfl rfl zO (aK (fun(n:Nat)=>[D.raw (.int .u64 (n:Int))]) aN rfl))<|.P rfl (bE isAgg184 rfl)<|.P rfl (so rfl rfl (mulN rfl (JV jK.1 tp hm.2.1).1))<|.mv rfl rfl<|.P rfl (bx rfl rfl (addN (JV jK.1 tp hm.2.1).2))<|.ag rfl rfl<|.nil<|U.seq<|rg<|.mv rfl rfl<|.P rfl (lu rfl rfl zD (xA (JV jK.1 tp hm.2.1).2))<|.ag rfl rfl<|.nil<|U.seq<|rg<|.mv rfl rfl<|.P rfl (lX rfl rfl zD (vL _))<|.ag rfl rfl<|.nil<|U.seq<|U.seq<|rg<|.mv rfl rfl<|.mv rfl rfl<|.mv rfl rfl<|.P rfl (bx rfl rfl (ao zO))<|.P rfl (ca (off:=(i+au.length)*1) underlying244 sizeOf184 rfl rfl zO zO zO)<|.R rfl (fG (r:=_) (i+au.length) 0 isAgg184 rfl rfl rfl (hY (by simp at*;omega)) rfl)<|.mv rfl rfl<|.P rfl (bp rfl rfl)<|.nil<|U.cond rfl (fun h3=>?_) (fun h3=>?_)
       ·have gi:=h3;try simp only[bs]at gi
        refine U.seq<|rg<|.mv rfl rfl<|.mv rfl rfl<|.mv rfl rfl<|.P rfl (bx rfl rfl (ao zO))<|.P rfl (ca (off:=(i+au.length)*1) underlying244 sizeOf184 rfl rfl zO zO zO)<|.R rfl (fG (r:=_) (i+au.length) 0 isAgg184 rfl rfl rfl (hY (by simp at*;omega)) rfl)<|.P rfl (bx rfl rfl (addN (b:=gB) (by have:=eM hm.1 (i+au.length);unfold gB at*;omega)))<|.P rfl (ca (off:=(i+au.length)*1) underlying244 sizeOf184 rfl rfl zO zO zO)<|.W rfl (ic (r:=_) (i+au.length) 0 sizeOf184 rfl rfl rfl rfl rfl rfl (hY (by simp at*;omega)) zS)<|.nil<|rg<|.mv rfl rfl<|.P rfl (bx rfl rfl (addN (b:=1) (by have:=QF jK.1 tp hm.2.1;unfold gB at*;omega)))<|.ag rfl rfl<|.nil<|rg<|.mv rfl rfl<|.mv rfl rfl<|.mv rfl rfl<|.P rfl (bx rfl rfl (ao zO))<|.P rfl (ca (off:=(i+au.length)*1) underlying244 sizeOf184 rfl rfl zO zO zO)<|.R rfl (fG (r:=_) (i+au.length) 0 isAgg184 rfl rfl rfl (hC (hY (by simp at*;omega))) rfl)<|.mv rfl rfl<|.P rfl (dx rfl rfl (sC (by have:=J4 (g*x2+c);omega) (by have:=eM hm.1 (i+au.length);unfold gB at*;omega)))<|.P rfl (ca (off:=(i+au.length)*1) underlying244 sizeOf184 rfl rfl zO zO zO)<|.W rfl (ic (r:=_) (i+au.length) 0 sizeOf184 rfl rfl rfl rfl rfl rfl (hC (hY (by simp at*;omega))) zS)<|.nil ?_;refine U.nil (bR ?_);refine rg<|.P rfl (bx rfl rfl (ao zO))<|.mv rfl rfl<|.nil<|U.nil (cz ?_)
        exact⟨⟨au++[x2],az,a1.set (i+au.length) (nth a1 (i+au.length)+gB-(g*x2+c)%gB),(g*x2+c)/gB+1,by simp[aN],QE (e:=1) hm jK.1 tp (by simp at s_;omega) (by simp at s_;have:=hm.2.2.1;omega) (by have:=J4 (g*x2+c);omega) zO (abR jK.1 tp hm.2.1 (x:=nth a1 (i+au.length)) zO),qJ⟩,by simp,Le.mk rfl (.cons rfl (Sub.refl _) rfl (.n 2 rfl rfl (.cons rfl (Sub.refl _) rfl (.n 6 rfl rfl (.cons rfl (Sub.int zS) rfl .nil))))) (.arr rfl (by rfl) (.arr rfl (by simp[bG]) .nil))⟩
       ·have gi:=h3;try simp only[bs]at gi
        refine U.skip<|rg<|.mv rfl rfl<|.mv rfl rfl<|.mv rfl rfl<|.P rfl (bx rfl rfl (ao zO))<|.P rfl (ca (off:=(i+au.length)*1) underlying244 sizeOf184 rfl rfl zO zO zO)<|.R rfl (fG (r:=_) (i+au.length) 0 isAgg184 rfl rfl rfl (hY (by simp at*;omega)) rfl)<|.mv rfl rfl<|.P rfl (dx rfl rfl (sC (by have:=J4 (g*x2+c);omega) (by have:=eM hm.1 (i+au.length);unfold gB at*;omega)))<|.P rfl (ca (off:=(i+au.length)*1) underlying244 sizeOf184 rfl rfl zO zO zO)<|.W rfl (ic (r:=_) (i+au.length) 0 sizeOf184 rfl rfl rfl rfl rfl rfl (hY (by simp at*;omega)) zS)<|.nil<|U.nil (bR ?_);refine rg<|.P rfl (bx rfl rfl (ao zO))<|.mv rfl rfl<|.nil<|U.nil (cz ?_);exact⟨⟨au++[x2],az,a1.set (i+au.length) (nth a1 (i+au.length)-(g*x2+c)%gB),(g*x2+c)/gB+0,by simp[aN],QE (e:=0) hm jK.1 tp (by simp at s_;omega) (by simp at s_;have:=hm.2.2.1;omega) zO (by have:=eM hm.1 (i+au.length);omega) (QF jK.1 tp hm.2.1),qJ⟩,by simp,Le.mk rfl (.cons rfl (Sub.refl _) rfl (.n 2 rfl rfl (.cons rfl (Sub.refl _) rfl (.n 6 rfl rfl (.cons rfl (Sub.int zS) rfl .nil))))) (.arr rfl (by rfl) (.arr rfl (by exact uz) .nil))⟩
    ·have bJ:=h1;try simp only[bs]at bJ
     have nM:=(QB qG hb hl (fun j hj=>hz j hj) rfl yB jK zO).1;refine U.skip<|rg<|.mv rfl rfl<|.P rfl (dx rfl rfl (sC (b:=1) zO (by have:=jK.1;unfold gB at*;omega)))<|.ag rfl rfl<|.nil<|U.nil (bR ?_);refine U.nil (cz ?_);exact⟨⟨g-1,(QB qG hb hl (fun j hj=>hz j hj) rfl yB jK zO).2⟩,by simp;omega,Le.mk rfl (.cons rfl (Sub.gs zS) rfl (.n 2 rfl rfl (.cons rfl (Sub.gs zS) rfl (.n 4 rfl rfl .nil)))) (.arr rfl (by rfl) (.arr rfl (by rfl) .nil))⟩
end Go.T
namespace Go.T
open Go
def j2(m n:Nat):List (Nat×Nat):=if h:n=0 then[(m,n)]else(m,n)::j2 n (m%n)
termination_by n
decreasing_by exact n0 _ (AI h)
def Lv(m:Nat):j2 m 0=[(m,0)]:=by rw[j2];simp
def Lw{m n:Nat}(h:n≠0):j2 m n=(m,n)::j2 n (m%n):=by rw[j2];simp[h]
def S8(m n:Nat):∃r,j2 m n=(m,n)::r:=by
 by_cases h:n=0
 ·subst h;exact⟨[],Lv m⟩
 ·exact⟨_,Lw h⟩
def u9(l:List (Nat×Nat)):Nat:=(l.getLast?.getD (0,0)).1
def ak8(l:List (Nat×Nat))(x:Nat×Nat):u9 (l++[x])=x.1:=by simp[u9]
def ak7(m n:Nat):u9 (j2 m n)=Nat.gcd m n:=by
 induction n using Nat.strongRecOn generalizing m with
 |_ n ih=>
  by_cases h:n=0
  ·subst h;rw[Lv];simp[u9]
  ·rw[Lw h];obtain⟨r,hr⟩:=S8 n (m%n);have h1:=ih (m%n) (n0 _ (AI h)) n;rw[hr]at h1|-;rw[JW m n,Nat.gcd_rec n m,JW (m%n) n,<-h1];simp[u9]
def agM{M N m n:Nat}{pre:List (Nat×Nat)}(h:j2 M N=pre++j2 m n):pre++[(m,n)]<+:j2 M N:=by
 obtain⟨r,hr⟩:=S8 m n;exact⟨r,by rw[h,hr];simp⟩
def agL{M N m n:Nat}{pre:List (Nat×Nat)}(h:j2 M N=pre++j2 m n)(hn:n≠0):j2 M N=(pre++[(m,n)])++j2 n (m%n):=by rw[h,Lw hn];simp
def agK{M N m n:Nat}{pre:List (Nat×Nat)}(h:j2 M N=pre++j2 m n)(hn:n=0):pre++[(m,n)]=j2 M N:=by subst hn;rw[h,Lv]
def qZ{n:Nat}(h:(ak n).length=0):n=0:=by
 rcases ko n with e|e
 ·exact e
 ·rw[xi zO]at h;simp at h
def Hb(s:aa):gd (digits s).1=ak (val s).natAbs:=by
 have h:=oJ s;have hv:=nV s;rw[amp h.ok h.cut]
 congr 1
 unfold kL at hv;split at hv<;>omega
def OF(s:aa):(digits s).2=decide (val s<0):=by
 have h:=oJ s;have hv:=nV s;cases e:(digits s).2 with
 |true=>
  have:=Ej h.cut (h.Eu e);rw[e]at hv;simp[kL]at hv;exact(iH zO).symm
 |false=>
  rw[e]at hv;simp[kL]at hv;exact(tR zO).symm
open Go.Proofs Go.Proofs.Tryz
def Sw(M N:Nat)(yq:(ak M).length<=10000)(yr:(ak N).length<=10000)(hN:N≠0):Fc prog 340 [bk (ak M),bk (ak N)] (.a_ [bk (ak (M/N)),bk (ak (M%N))]):=by
 by_cases h:M<N
 ·exact afu M N yq yr h
 ·by_cases h1:(ak N).length=1
  ·exact afB M N yq yr h h1
  ·refine afv M N yq yr h ?_;have h2:(ak N).length≠0:=fun e=>hN (qZ e);omega
structure arc(M N:Nat)where
 pre:List (Nat×Nat)
 m:Nat
 n:Nat
 hs:j2 M N=pre++j2 m n
 hm:(ak m).length<=10000
 hn:(ak n).length<=10000
def arb(M N:Nat)(hM:(ak M).length<=10000)(hN:(ak N).length<=10000):Cv (α:=Nat×Nat) prog 357 8000 [.box 8000 0,.box 8001 0] [(8000,.cells [bk (ak M)]),(8001,.cells [bk (ak N)])] (fun p=>[bk (ak p.1),bk (ak p.2)]) (fun p=>p<+:j2 M N) (fun p=>p=j2 M N):=by
 refine Cv.mk' func357 rfl ntmps357 rfl (fun t w=>results_none results357 t _ w) (fun aL lb ids B X Y=>?_);refine U.block<|U.loop (ι:=arc M N) (fun sx=>[(0,yv lb),(1,.box 8000 0),(2,.box 8001 0)]) (fun sx=>([(8000,.cells [bk (ak sx.m)]),(8001,.cells [bk (ak sx.n)])]++B sx.pre)) (fun sx=>sx.n) ⟨[],M,N,rfl,hM,hN⟩ ?_ ?_
 ·exact Le.mk (Pk (Y.has _) rfl) (.n 3 rfl rfl .nil) (.cons rfl rfl (.cons rfl rfl (.tail (Qg (own:=[(8000,_),(8001,_)]) (kf:=[(8000,_),(8001,_)]) rfl (Y.free _) (Y.Ez _)))))
 ·rintro⟨pre,m,n,hs,hm,hn⟩;dsimp only;refine U.seq (U.seq (U.vK ?_));refine Tx.q rfl trivial (aX rfl _)<|Tx.q rfl trivial (iY isAgg244 rfl rfl rfl)<|Tx.q rfl trivial (iY isAgg244 rfl rfl rfl)<|Tx.bc (Le.mk (aj:=[(8000,_),(8001,_)]++B (pre)) (Pk (Y.has _) rfl) (show ct _ _ [(0,_),(1,_),(2,_),(6,_),(7,_),(8,_)]from(.n 6 rfl rfl .nil)) (.cons (i:=8000) rfl rfl (.cons (i:=8001) rfl rfl (.tail (Qg (own:=[(8000,_),(8001,_)]) (kf:=[(8000,_),(8001,_)]) rfl (Y.free _) (Y.Ez _))))))<|Tx.y Y (own:=[(8000,_),(8001,_)]) (pre:=pre) (aY:=[(0,_),(1,_),(2,_),(6,_),(7,_),(8,_)]) (m,n) rfl rfl rfl trivial rfl rfl rfl (agM hs) rfl rfl (.cons rfl rfl (.cons rfl rfl (.cons rfl rfl (.cons rfl rfl (.cons rfl rfl (.cons rfl rfl .nil)))))) ?_ (fun o hX=>?_)
  ·refine Tx.q rfl trivial (aX rfl _)<|Tx.q rfl (e7 rfl rfl rfl rfl) (iY isAgg244 rfl rfl rfl)<|Tx.q rfl (e7 rfl rfl rfl rfl) (cv underlying244 rfl _)<|Tx.q rfl (e7 rfl rfl rfl rfl) (gE rfl rfl _)<|Tx.q rfl trivial (vI rfl rfl rfl _)<|Tx.nil<|U.cond rfl (fun h1=>?_) (fun h1=>?_)
   ·have dQ:n≠0:=by rintro rfl;simp[bG,oF]at h1
    refine U.skip<|U.block<|U.seq<|rg<|.R rfl (iY isAgg244 rfl rfl rfl)<|.R rfl (iY isAgg244 rfl rfl rfl)<|.P rfl (ah call340 rfl (Sw _ _ zA zA zA))<|.mv rfl rfl<|.P rfl (eP rfl rfl)<|.P rfl (eP rfl rfl)<|.ag rfl rfl<|.ag rfl rfl<|.nil<|rg<|.R rfl (iY isAgg244 rfl rfl rfl)<|.mv rfl rfl<|.W rfl (sq sizeOf244 rfl rfl rfl rfl zS)<|.W rfl (sq sizeOf244 rfl rfl rfl rfl zS)<|.nil<|U.nil (bR ?_);refine U.nil (cz ?_);exact⟨⟨pre++[(m,n)],n,m%n,agL hs dQ,hn,dM (qd (yj (n0 _ (AI dQ)))) hn⟩,by exact n0 _ (AI dQ),Le.mk (Pk (Y.has _) rfl) (.n 3 rfl rfl .nil) (.cons rfl rfl (.cons rfl rfl (.tail (Qg (own:=[(8000,_),(8001,_)]) (kf:=[(8000,_),(8001,_)]) rfl (Y.free _) (Y.Ez _)))))⟩
   ·have bJ:=h1;try simp only[bs]at bJ
    refine U.exit (dz (du ?_));exact U.nil<|ap' (.inr rfl) (pre++[(m,n)]) (by exact agK hs (qZ (by simpa[bG]using bJ))) (vu (own:=[(8000,_),(8001,_)]) rfl (Y.free _))
  ·refine Tx.q rfl trivial (aX rfl _)<|Tx.off rfl (gL rfl rfl rfl rfl)<|Tx.off rfl (gL rfl rfl rfl rfl)<|Tx.off rfl (gL rfl rfl rfl rfl)<|Tx.q rfl trivial (zB rfl rfl rfl _)<|Tx.nil<|U.c6 rfl rfl<|U.exit (dz (du ?_));exact U.nil<|aqa (.inr rfl) o hX (vu (own:=[(8000,_),(8001,_)]) rfl (Y.T2 _ hX))
def ard(a b:List Nat):dB prog 339 [bk a,bk b] [] (.fn (.func 357) [] [.box 8000 0,.box 8001 0]) [(8000,.cells [bk a]),(8001,.cells [bk b])]:=by
 refine uF func339 ntmps339 results339 ?_;refine U.seq<|rg<|.W rfl (Po 8000 rfl rfl rfl)<|.W rfl (Po 8001 rfl rfl rfl)<|.ag rfl rfl<|.nil<|U.seq<|rg<|.P rfl (Py (xs:=[]) (ys:=_) rfl rfl)<|.ag rfl rfl<|.nil<|U.ret (?_);exact ua rfl (by exact Sub.refl _) (.cons rfl rfl (.cons rfl rfl .nil))
end Go.T
namespace Go.T
open Go
def tG(s:aa):(ak (val s).natAbs).length<=s.length:=by
 rw[<-Hb];have h1:=rL (digits s).1;have h2:=ma s;omega
def Cs(s:aa):(val s).natAbs<10^s.length:=by
 have h1:=re (digits s).1 (o8 s);have h2:=ma s;have h3:10^(digits s).1.length<=10^s.length:=eE zO h2;unfold val;split<;>omega
def Ex{n:Int}{k:Nat}(h:n.natAbs<10^k):(ofInt n).length<=k+1:=by
 have:=BH k n.natAbs h;unfold ofInt;split<;>simp<;>omega
def II{n:Int}{s:aa}(h:n.natAbs<=(val s).natAbs):(ofInt n).length<=s.length+1:=Ex (EH h (Cs s))
def aaH(dw:Bool)(n:Nat):vW dw (ak n)=ofInt (if dw then -(n:Int)else n):=by rw[Fp _ (fc n),fK]
def LR{a b:Int}(hb:0<b)(h:¬(decide (a<0)=true/\a.natAbs%b.natAbs≠0)):(if decide (a<0)then -((a.natAbs/b.natAbs:Nat):Int)else((a.natAbs/b.natAbs:Nat):Int))=a/b:=by
 obtain⟨n,rfl⟩:∃n:Nat,b=n:=⟨b.toNat,by omega⟩;simp only[oH]at h|-;by_cases ha:a<0
 ·simp only[ha,C7,mX,H4]at h|-;have hm:a.natAbs%n=0:=by omega
  obtain⟨k,hk⟩:∃k:Nat,a=-(k:Int):=⟨a.natAbs,by omega⟩;subst hk;simp only[H_,oH]at hm|-;have hd:=wz k n;rw[hm,pL]at hd;have e:-(k:Int)=(n:Int)*(-((k/n:Nat):Int)):=by
   rw[wo,<-wv,hd]
  rw[e,Int.mul_ediv_cancel_left _ zO]
 ·simp only[ha,BL]at h|-;obtain⟨k,hk⟩:∃k:Nat,a=(k:Int):=⟨a.toNat,by omega⟩;subst hk;simp
def TK{a b:Int}(hb:0<b)(ha:a<0)(h:a.natAbs%b.natAbs≠0):-((a.natAbs/b.natAbs+1:Nat):Int)=a/b:=by
 obtain⟨n,rfl⟩:∃n:Nat,b=n:=⟨b.toNat,by omega⟩;obtain⟨k,hk⟩:∃k:Nat,a=-(k:Int):=⟨a.natAbs,by omega⟩;subst hk;simp only[H_,oH]at h|-;have hd:=wz k n;have bA:=n0 k (y:=n) zO;have e:-(k:Int)=(n:Int)*(-((k/n+1:Nat):Int))+((n-k%n:Nat):Int):=by
  have h1:(k:Int)=(n:Int)*((k/n:Nat):Int)+((k%n:Nat):Int):=by rw[<-wv,<-El,hd]
  have h2:((n-k%n:Nat):Int)=(n:Int)-((k%n:Nat):Int):=by omega
  have h3:((k/n+1:Nat):Int)=((k/n:Nat):Int)+1:=by omega
  rw[h2,h3,wo,Int.mul_add,Int.mul_one];omega
 rw[e,Int.add_comm,Int.add_mul_ediv_left _ _ zO,Int.ediv_eq_zero_of_lt zO zO];omega
def XB{n:Nat}(h:0<((ak n).length:Int)):n≠0:=by
 rintro rfl;rw[oF]at h;simp at h
def aan{a b:Int}(hb:0<b)(h:¬decide (a<0)=decide (b<0)):a<0:=by
 have:decide (b<0)=false:=by simp;omega
 rw[this]at h;simpa using h
def afY{a b:Int}(hb:0<b)(h:(¬decide (a<0)=decide (b<0))/\0<((ak (a.natAbs%b.natAbs)).length:Int)):ofInt (if(decide (a<0)!=decide (b<0))=true then -((a.natAbs/b.natAbs+1:Nat):Int)else((a.natAbs/b.natAbs+1:Nat):Int))=ofInt (a/b):=by
 have ha:=aan hb h.1;have h0:decide (b<0)=false:=by simp;omega
 rw[aV (by simp[ha,h0]),TK hb ha (XB h.2)]
def af0{a b:Int}(hb:0<b)(h:(¬decide (a<0)=decide (b<0))/\0<((ak (a.natAbs%b.natAbs)).length:Int)):ofInt (if decide (b<0)=true then -((b.natAbs-a.natAbs%b.natAbs:Nat):Int)else((b.natAbs-a.natAbs%b.natAbs:Nat):Int))=ofInt (a%b):=by
 have ha:=aan hb h.1;have h1:=TK hb ha (XB h.2);rw[aF zQ]
 congr 1
 have h2:=Int.mul_ediv_add_emod a b;have h3:=wz a.natAbs b.natAbs;have h4:=n0 a.natAbs (y:=b.natAbs) zO;rw[<-h1]at h2;obtain⟨n,rfl⟩:∃n:Nat,b=n:=⟨b.toNat,by omega⟩;simp only[oH]at*;have h5:((n*(a.natAbs/n)+a.natAbs%n:Nat):Int)=a.natAbs:=by rw[h3]
 rw[El,wv]at h5;have h6:(n:Int)*-((a.natAbs/n+1:Nat):Int)=-((n:Int)*((a.natAbs/n:Nat):Int))-n:=by rw[wo,El,Int.mul_add];omega
 rw[h6]at h2;omega
def afX{a b:Int}(hb:0<b)(h:(decide (a<0)!=decide (b<0))=false\/((ak (a.natAbs%b.natAbs)).length:Int)<=0):ofInt (if(decide (a<0)!=decide (b<0))=true then -((a.natAbs/b.natAbs:Nat):Int)else((a.natAbs/b.natAbs:Nat):Int))=ofInt (a/b):=by
 have h0:decide (b<0)=false:=by simp;omega
 have:=LR (a:=a) hb (by
  rintro⟨g1,g2⟩;rcases h with h|h
  ·rw[g1,h0]at h;simp at h
  ·exact g2 (qZ zO))
 rw[<-this,h0];simp
def afZ{a b:Int}(hb:0<b)(h:(decide (a<0)!=decide (b<0))=false\/((ak (a.natAbs%b.natAbs)).length:Int)<=0):ofInt (if decide (b<0)=true then -((a.natAbs%b.natAbs:Nat):Int)else((a.natAbs%b.natAbs:Nat):Int))=ofInt (a%b):=by
 have h0:decide (b<0)=false:=by simp;omega
 have h1:=LR (a:=a) hb (by
  rintro⟨g1,g2⟩;rcases h with h|h
  ·rw[g1,h0]at h;simp at h
  ·exact g2 (qZ zO))
 rw[aF zQ]
 congr 1
 have h2:=Int.mul_ediv_add_emod a b;have h3:=wz a.natAbs b.natAbs;rw[<-h1]at h2;obtain⟨n,rfl⟩:∃n:Nat,b=n:=⟨b.toNat,by omega⟩;simp only[oH]at*;have h5:((n*(a.natAbs/n)+a.natAbs%n:Nat):Int)=a.natAbs:=by rw[h3]
 rw[El,wv]at h5;by_cases g1:a<0
 ·simp only[g1,C7,mX,wo]at h2;have:a.natAbs%n=0:=by
   rcases h with h|h
   ·simp[g1]at h;omega
   ·exact qZ zO
  omega
 ·simp only[g1,BL,gM,pb]at h2;omega
open Go.Proofs Go.Proofs.Tryz
def zC(s:aa)(hs:s.length<=100000):Fc prog 238 [.str s] (.agg (pQ (decide (val s<0)) (ak (val s).natAbs))):=by
 have:=vJ s hs;rw[OF,Hb]at this;exact this
def Fq(dw:Bool)(n:Nat)(h:(ak n).length<=20000):Fc prog 239 [.agg (pQ dw (ak n))] (.str (ofInt (if dw then -(n:Int)else n))):=by
 have:=Cr dw (ak n) (fc n) h;rw[aaH]at this;exact this
def Yn(s:aa)(hs:s.length<=9000):Fc prog 311 [.str s] (.str (ofInt (-val s))):=by
 have:=anl s hs;rw[OF,Hb,aaH]at this;have e:(if(!decide (val s<0))=true then -((val s).natAbs:Int)else((val s).natAbs:Int))=-val s:=by
  by_cases h:val s<0
  ·simp[h];omega
  ·simp[h];omega
 rw[e]at this;exact this
def ano:Sub (.raw (.slice none 0 0)) (bk (ak (u9 []))):=by
 rw[show u9 []=0 from rfl,oF];exact Sub.nil _ false
def T6(a b:aa)(ha:a.length<=4000)(hb:b.length<=4000):Fc prog 312 [.str a,.str b] (.str (ofInt (Int.gcd (val a) (val b):Int))):=by
 refine ay func312 ntmps312 results312 ?_;have HB:=tG a;have nO:=tG b;have bY:(ak (Nat.gcd (val a).natAbs (val b).natAbs)).length<=10000:=by
  rcases ko (val a).natAbs with e|e
  ·rw[e,Nat.gcd_zero_left];omega
  ·exact dM (qd (Nat.gcd_le_left _ e)) zO
 refine U.seq<|rg<|.ag rfl rfl<|.nil<|U.seq<|rg<|.W rfl (jC 0 zeroValue244 rfl)<|.nil<|U.seq<|U.seq<|rg<|.mv rfl rfl<|.P rfl (ah call238 rfl (zC _ zO))<|.P rfl (Pv 244 1 underlying246 isAgg244 rfl rfl rfl)<|.mv rfl rfl<|.P rfl (ah call238 rfl (zC _ zO))<|.P rfl (Pv 244 1 underlying246 isAgg244 rfl rfl rfl)<|.W rfl (gv call339 rfl (ard _ _) .nil rfl rfl)<|.nil<|U.block<|U.apM (α:=Nat×Nat) 7900 [0] [(0,_),(1,_),(4,_),(5,_),(7,_),(8,_),(9,_),(10,_),(11,_),(12,_)] (fun(pre:List (Nat×Nat))=>[(0,.cells [bk (ak (u9 pre))])]) (fun _ _=>False) rfl call357 (arb (val a).natAbs (val b).natAbs zO zO) (gb:=[(0,_),(1,_),(4,_),(5,_),(7,_),(8,_),(9,_),(10,_),(11,_),(12,_),(13,_)]) ((Le.fp 0 0 rfl rfl ano).trans<|Le.mk (aj:=[(8000,_),(8001,_)]++(fun(pre:List (Nat×Nat))=>[(0,.cells [bk (ak (u9 pre))])]) []) rfl (show ct _ _ [(0,_),(1,_),(4,_),(5,_),(7,_),(8,_),(9,_),(10,_),(11,_),(12,_),(13,_)]from(.n 11 rfl rfl .nil)) (.cons (i:=8000) rfl rfl (.cons (i:=8001) rfl rfl (.cons rfl rfl .nil)))) rfl rfl (fun _=>rfl) (.cons rfl rfl (.cons rfl rfl (.cons rfl rfl (.cons rfl rfl (.cons rfl rfl (.cons rfl rfl (.cons rfl rfl (.cons rfl rfl (.cons rfl rfl (.cons rfl rfl .nil)))))))))) rfl (fun _=>rfl) (by rintro j o h;exact h.elim) (fun _=>ae.OV rfl) (by rintro j o h;exact h.elim) (fun _=>T1 rfl) (by rintro j o h;exact h.elim) zD rfl (fun pre x ai=>?_) (fun xs Hu=>?_) (fun _ _ h=>h.elim)
 ·refine rg<|.ag rfl rfl<|.nil<|U.nil ⟨rfl,?_⟩;refine U.block<|rg<|.mv rfl rfl<|.W rfl (sq sizeOf244 rfl rfl rfl rfl zS)<|.nil<|U.nil (bR ?_);exact U.nil<|⟨rfl,Le.mk rfl .nil (.cons rfl rfl (.eq rfl (by rw[ak8];rfl) rfl .nil))⟩
 ·subst Hu;rw[ak7];refine U.nil (bR ?_);refine U.seq<|rg<|.R rfl (iY isAgg244 rfl rfl rfl)<|.P rfl (rn (pl:=#[(0,1),(1,1)]) underlying246 zeroValue246 (fun w=>by kernel_rfl) rfl rfl)<|.P rfl (ah call239 rfl (Fq false _ (dM bY zD)))<|.ag rfl rfl<|.nil<|U.ret (?_);exact dt rfl (Sub.refl _)
structure arS where
 u:Unit
def arR:Fc prog 338 [.snap 1 false [],.snap 1 false []] (.snap 1 false []):=by
 refine ay func338 ntmps338 results338 ?_;refine go []<|sd (cT zO zS)<|oP (ZN underlying244 sizeOf184 typeInfo184 rfl rfl rfl rfl)<|U.loop (ι:=arS) (fun sx=>[(17,bk []),(18,.i 0),(19,.i 0),(1,.snap 1 false []),(5,bk [])]) (fun sx=>[]) (fun sx=>0) ⟨()⟩ ?_ ?_
 ·exact Le.mk rfl (.n 5 rfl rfl .nil) .nil
 ·rintro⟨u⟩;try dsimp only
  skip
  ·exact go []<|aH zS<|go []<|oP (ah call284 rfl (sT _))<|af rfl (Sub.refl _)
def arQ(M N:Nat)(hM:(ak M).length<=20000)(hN:(ak N).length<=20000):Fc prog 338 [bk (ak M),bk (ak N)] (bk (ak (M*N))):=by
 by_cases h:(ak M).length+(ak N).length≠0
 ·have:=aaL (ak M) (ak N) h hM hN (fc M) (fc N);rw[fK,fK]at this;exact this
 ·have e1:=qZ (n:=M) zO;have e2:=qZ (n:=N) zO;subst e1;subst e2;rw[oF];exact arR
def am4(a b:Int):(if(decide (a<0)!=decide (b<0))=true then -((a.natAbs*b.natAbs:Nat):Int)else((a.natAbs*b.natAbs:Nat):Int))=a*b:=by
 rw[<-Fo];by_cases h1:a<0<;>by_cases h2:b<0
 ·have:=Int.mul_pos_of_neg_of_neg h1 h2;simp[h1,h2];omega
 ·have:a*b<=0:=Int.mul_nonpos_of_nonpos_of_nonneg zO zO;simp[h1,h2];omega
 ·have:a*b<=0:=Int.mul_nonpos_of_nonneg_of_nonpos zO zO;simp[h1,h2];omega
 ·have:0<=a*b:=Int.mul_nonneg zO zO;simp[h1,h2];omega
def ami{M N:Nat}:(ak (M*N)).length<=(ak M).length+(ak N).length:=by
 refine N5 ?_;have h1:=xh M;have h2:=xh N;rw[zN];rcases ko N with e|e
 ·subst e;rw[rm];exact Gc (ph ed) (ph ed)
 ·exact zF h1 (yj h2) zO
def Oy(a b:aa)(ha:a.length<=4000)(hb:b.length<=4000):Fc prog 305 [.str a,.str b] (.str (ofInt (val a*val b))):=by
 refine ay func305 ntmps305 results305 ?_;have HB:=tG a;have nO:=tG b;have Vm:=ami (M:=(val a).natAbs) (N:=(val b).natAbs);exact go []<|oP (ah call238 rfl (zC _ zO))<|oP (ah call238 rfl (zC _ zO))<|oP (ah call338 rfl (arQ _ _ zO zO))<|oP (ah call239 rfl (Fq _ _ zO))<|ord<|af rfl (Sub.str (by rw[am4]))
def aoX(M:Nat)(h:(ak M).length<=20000):Fc prog 280 [bk (ak M),.snap 1 true (bG [1])] (bk (nX (ak M) [1])):=
 (Pg (ak M) [1] h zS (fc M) (fun x hx=>by simp at hx;subst hx;unfold gB;omega)).sub
def amR(N r:Nat)(h:(ak N).length<=20000)(hr:r<N):Fc prog 281 [bk (ak N),bk (ak r)] (bk (ak (N-r))):=by
 have h1:(ak N).length≠0:=fun e=>by have:=qZ e;omega
 have h2:=Io (ak N) (ak r) h1 h (dM (qd (yj hr)) h) (fc N) (fc r);have h3:=vV (ak N) (ak r) 0 (fc N) (fc r) zO (by rw[fK,fK];omega);have h4:=zL (ak N) (ak r) 0 (fc N) (fc r) zO;rw[sS h4,h3,fK,fK,pL]at h2;exact h2
def arJ(dw:Bool)(n:Nat)(h:(ak n).length<=10000):Fc prog 239 [.agg (pQ dw (nX (ak n) [1]))] (.str (ofInt (if dw then -((n+1:Nat):Int)else(n+1:Nat)))):=by
 have h1:aZ [1]:=fun x hx=>by simp at hx;subst hx;unfold gB;omega
 have h2:=Ph (ak n) [1];have:=Cr dw (nX (ak n) [1]) (I4 (fc n) h1) (by simp at h2;omega);rw[Fp _ (I4 (fc n) h1),Pj,fK]at this;simpa[an]using this
def Gj(a b:aa)(ha:a.length<=4000)(hb:b.length<=4000)(h0:0<val b):Fc prog 313 [.str a,.str b] (.a_ [.str (ofInt (val a/val b)),.str (ofInt (val a%val b)),.i 0]):=by
 refine AF func313 ntmps313 results313 ?_;have HB:=tG a;have nO:=tG b;have dQ:(val b).natAbs≠0:=by omega
 have hq:=qd (D4 (val a).natAbs (val b).natAbs);have hr:=qd (Nat.mod_le (val a).natAbs (val b).natAbs);have fQ:=n0 (val a).natAbs (AI dQ);have A_:=qd (Nat.sub_le (val b).natAbs ((val a).natAbs%(val b).natAbs));have gV:decide (val b<0)=false:=by simp;omega
 refine go []<|oP (ah call238 rfl (zC _ zO))<|oP (ah call238 rfl (zC _ zO))<|aH (by simp[bG];exact fun e=>dQ (qZ (by rw[e];rfl)))<|oP (ah call340 rfl (Sw _ _ zO zO zA))<|br (fun h1=>?_) (fun h1=>?_)
 ·have bJ:=h1;try simp only[bs]at bJ
  exact oP (bK (n:=1) (rows:=bG [1]) underlying244 sizeOf184 rfl rfl rfl zeroValue184 rfl rfl rfl rfl rfl rfl rfl)<|oP (ah call280 rfl (aoX _ zO))<|oP (ah call281 rfl (amR _ _ zO fQ))<|ord<|oP (ah call239 rfl (by exact arJ _ _ zO))<|oP (ah call239 rfl (Fq _ _ zO))<|ord<|vQ rfl rfl rfl (Sub.str (by exact afY h0 bJ)) (Sub.str (by exact af0 h0 bJ)) (Sub.refl _)
 ·have bJ:=h1;try simp only[bs]at bJ
  exact oP (ah call239 rfl (by exact Fq _ _ zO))<|oP (ah call239 rfl (Fq _ _ zO))<|ord<|vQ rfl rfl rfl (Sub.str (by exact afX h0 bJ)) (Sub.str (by exact afZ h0 bJ)) (Sub.refl _)
end Go.T
namespace Go.T
open Go
def nn(f:aO):Prop:=f.num.length<=60/\f.den.length<=60
def sB(x:aS):Prop:=nn x.gp/\nn x.gn/\nn x.fY
def sg(f:aO):Int:=fX (val f.num-val [])
def bQ(f:aO):aa×aa:=if decide (fX (val f.den-val [])=0)then(f.num,[49])else(f.num,f.den)
def iZ(n d:Int):Int×Int:=
 let n1:=if d<0 then -n else n
 let d1:=if d<0 then -d else d
 (n1/(Int.gcd n1 d1:Int),d1/(Int.gcd n1 d1:Int))
def cS(n d:Int):aO:=⟨ofInt (iZ n d).1,if ofInt (iZ n d).2=[49]then[]else ofInt (iZ n d).2⟩
def iI(f:aO):Int:=if f=cS (val (bQ f).1) (val (bQ f).2)then 0 else 1
def kq(a:aa):Int:=if decide (a≠[])&&decide (((a.headD 0).toNat:Int)=45)then(a.length:Int)-1 else a.length
def ai7{a:aa}(h:a≠[]):a[(0:Int).toNat]?=some (a.headD 0):=by cases a with
 |nil=>exact absurd rfl h
 |cons c a=>rfl
def ke(f:aO):Int:=if decide (iI f≠0)then 1 else if decide (40<max (kq f.num) (kq f.den))then 4 else 0
def Zq(i:aS):Bool:=decide (sg i.gp≠0)||decide (sg i.gn≠0)||decide (i.r_≠0)||decide (i.count≠0)||decide (sg i.fY≠0)||decide (i.other≠[])
def Rg(i:aS):Bool:=decide (sg i.gp<=0)||decide (sg i.gn<0)||!([1,2,3,4,6,12].any fun n=>decide (i.r_=n))||decide (i.count<1)||decide (5<i.count)
def Rh(i:aS):Bool:=decide (i.other≠[])||decide (sg i.fY≠0)
def GZ(i:aS):Bool:=decide (sg i.gp≠0)||decide (sg i.gn≠0)||decide (i.r_≠0)||decide (i.count≠0)
def I3(i:aS):Int:=if Zq i=true then 1 else 0
def FY(i:aS):Int:=if Rg i=true then 2 else if Rh i=true then 1 else 0
def G0(i:aS):Int:=if(!gf i.other||decide (i.other=i.cur))=true then 12 else if decide (sg i.fY<=0)=true then 2 else if GZ i=true then 1 else 0
def jy{b:Bool}{x y:Int}(h:b=true):x=if b=true then x else y:=by rw[aV h]
def dF{b:Bool}{x y z:Int}(h:b=false)(k:z=y):z=if b=true then x else y:=by rw[aF (by rw[h];simp)];exact k
def vZ:val []=0:=by decide
def val_one:val [49]=1:=by decide
def Ju{n:Int}:fX n<0↔n<0:=by unfold fX;split<;>(try split)<;>omega
def Co{n:Int}:fX n=0↔n=0:=by unfold fX;split<;>(try split)<;>omega
def P2(d:aa):fX (val d-val [])<0↔val d<0:=by rw[vZ,Ju];omega
def ZU{n d:aa}(h:decide (fX (val d-val [])<0)=true):
  ofInt (val (ofInt (-val n))/val (ofInt (Int.gcd (val (ofInt (-val n))) (val (ofInt (-val d))):Int)))=ofInt (iZ (val n) (val d)).1/\
  ofInt (val (ofInt (-val d))/val (ofInt (Int.gcd (val (ofInt (-val n))) (val (ofInt (-val d))):Int)))=ofInt (iZ (val n) (val d)).2:=by
 have h':val d<0:=(P2 d).1 (aG h);simp only[gO,iZ,aV h',and_self]
def zE{n d:aa}(h:decide (fX (val d-val [])<0)=false):
  ofInt (val n/val (ofInt (Int.gcd (val n) (val d):Int)))=ofInt (iZ (val n) (val d)).1/\ofInt (val d/val (ofInt (Int.gcd (val n) (val d):Int)))=ofInt (iZ (val n) (val d)).2:=by
 have h':¬val d<0:=fun e=>fj h ((P2 d).2 e);simp only[gO,iZ,aF h',and_self]
def Yq(s:aa):(ofInt (-val s)).length<=s.length+1:=II zS
def L4(n:Int){d:aa}(h0:val d≠0):(ofInt (Int.gcd n (val d):Int)).length<=d.length+1:=by
 refine II ?_;rw[oH];exact Nat.gcd_le_right _ zO
def G4(n:Int){d:Int}(h0:d≠0):0<val (ofInt (Int.gcd n d:Int)):=by
 rw[gO];have:=Nat.gcd_pos_of_pos_right n.natAbs (n:=d.natAbs) zO;have e:Int.gcd n d=Nat.gcd n.natAbs d.natAbs:=rfl;omega
def ahO(n:Int){d:aa}(h0:val d≠0):(ofInt (Int.gcd n (val (ofInt (-val d))):Int)).length<=d.length+1:=by
 rw[gO,Int.gcd_neg];exact L4 n h0
def T5(n:Int){d:aa}(h0:val d≠0):0<val (ofInt (Int.gcd n (val (ofInt (-val d))):Int)):=G4 n (by rw[gO];omega)
def Xw{n d:Int}(h:decide (ofInt (iZ n d).2=[49])=true):[]=(cS n d).den:=by simp only[cS];rw[aV (aG h)]
def Xx{n d:Int}(h:decide (ofInt (iZ n d).2=[49])=false):ofInt (iZ n d).2=(cS n d).den:=by simp only[cS];rw[aF (fj h)]
def B0(f:aO):(bQ f).1=f.num:=by unfold bQ;split<;>rfl
def BZ(f:aO):val (bQ f).2≠0:=by
 unfold bQ;split
 ·show val [49]≠0;decide
 ·rename_i h;intro e;apply h;simp only[cd];rw[Co];show val f.den-val []=0;rw[vZ];have:val f.den=0:=e;omega
def Zg(f:aO){k:Nat}(hk:1<=k)(h:f.den.length<=k):(bQ f).2.length<=k:=by unfold bQ;split<;>simp<;>omega
def RB{f:aO}{n d:Int}(h:(!decide ([f.num,f.den]=[(cS n d).num,(cS n d).den]))=true):¬f=cS n d:=by
 rintro e;rw[<-e]at h;simp at h
def RA{f:aO}{n d:Int}(h:(!decide ([f.num,f.den]=[(cS n d).num,(cS n d).den]))=false):f=cS n d:=by
 have:=aG (by simpa using h:decide ([f.num,f.den]=[(cS n d).num,(cS n d).den])=true);simp only[l_,and_true]at this;cases f;exact congr (aT aO.mk this.1) this.2
def Is(s t:aa):(ofInt (val s*val t)).length<=s.length+t.length+1:=by
 refine Ex ?_;rw[Fo,zN];have h1:=Cs s;have h2:=Cs t;rcases ko (val t).natAbs with e|e
 ·rw[e,rm];exact Gc (ph zO) (ph zO)
 ·exact zF h1 (yj h2) zO
def zM(f g:aO):aO:=cS (val (bQ f).1*val (bQ g).2-val (bQ g).1*val (bQ f).2) (val (bQ f).2*val (bQ g).2)
def sR(f g:aO):Int:=fX (val (zM f g).num-val [])
def dJ:aO:=⟨[],[]⟩
def va(pos part:Bool)(f:aO)(xX:Bool)(aD:Bool):Int:=if decide (iI f≠0)=true then 1 else if aD=true then 4 else if xX=true then 2 else 0
def H5(pos part:Bool)(f:aO):Bool:=decide (sR f dJ<0)||(pos&&decide (sR f dJ=0))||(part&&decide (0<sR f (cS (val [49]) (val [49]))))
def Qd{f g:aO}{k:Nat}(hf:f.num.length<=k/\f.den.length<=k)(hg:g.num.length<=k/\g.den.length<=k)(hk:1<=k):
  (bQ f).1.length<=k/\(bQ f).2.length<=k/\(bQ g).1.length<=k/\(bQ g).2.length<=k:=
 ⟨by rw[B0];exact hf.1,Zg f hk hf.2,by rw[B0];exact hg.1,Zg g hk hg.2⟩
def ao3{f g:aO}:val (ofInt (val (bQ f).2*val (bQ g).2))≠0:=by
 rw[gO];exact Int.mul_ne_zero (BZ f) (BZ g)
def anK{a b:Int}{k:Nat}(ha:a.natAbs<10^k)(hb:b.natAbs<10^k):(ofInt (a-b)).length<=k+2:=by
 refine Ex (k:=k+1) ?_;rw[lN];omega
def BD(s t:aa):(val s*val t).natAbs<10^(s.length+t.length):=by
 rw[Fo,zN];have h1:=Cs s;have h2:=Cs t;rcases ko (val t).natAbs with e|e
 ·rw[e,rm];exact Gc (ph zO) (ph zO)
 ·exact zF h1 (yj h2) zO
def CA{n:Int}{j k:Nat}(h:n.natAbs<10^j)(hk:j<=k):n.natAbs<10^k:=lF h (eE zO hk)
def ap1{n d:Int}(h:d≠0):(iZ n d).1.natAbs<=n.natAbs/\(iZ n d).2.natAbs<=d.natAbs:=by
 have key:∀x y:Int,(x/(y:Int)).natAbs<=x.natAbs:=fun x y=>Int.natAbs_ediv_le_natAbs x y;unfold iZ;by_cases g:d<0
 ·simp only[aV g];exact⟨dM (key _ _) zO,dM (key _ _) zO⟩
 ·simp only[aF g];exact⟨key _ _,key _ _⟩
def Xy{n d:Int}{k:Nat}(h:d≠0)(hn:n.natAbs<10^k)(hd:d.natAbs<10^k):(cS n d).num.length<=k+1/\(cS n d).den.length<=k+1:=by
 have h1:=ap1 (n:=n) h;refine⟨Ex (n:=(iZ n d).1) (by have:=h1.1;omega),?_⟩;simp only[cS];split
 ·simp
 ·exact Ex (by have:=h1.2;omega)
def ars{f g:aO}{k:Nat}(hk:1<=k)(hf:f.num.length<=k/\f.den.length<=k)(hg:g.num.length<=k/\g.den.length<=k):(zM f g).num.length<=2*k+2/\(zM f g).den.length<=2*k+2:=by
 obtain⟨h1,h2,h3,h4⟩:=Qd hf hg hk;have a1:=CA (BD (bQ f).1 (bQ g).2) (k:=2*k) zO;have a2:=CA (BD (bQ g).1 (bQ f).2) (k:=2*k) zO;have a3:=CA (BD (bQ f).2 (bQ g).2) (k:=2*k) zO;have cB:10^(2*k+1)=10^(2*k)*10:=lN ..;exact Xy (k:=2*k+1) (Int.mul_ne_zero (BZ f) (BZ g)) zO zO
def aoN(a:aa):bQ ⟨a,[]⟩=(a,[49]):=by
 unfold bQ;rw[aV (by show decide (fX (val []-val [])=0)=true;decide)]
def F8(x:List Nat):¬jc x []<0:=fun h=>RI h rfl
def ab7{n1:Bool}{x:List Nat}(k1:py n1 x):aZ (iR n1 x true []).2/\kL (iR n1 x true []).1 (iR n1 x true []).2=kL n1 x/\(iR n1 x true []).2.length<=x.length+1:=by
 have ho:aZ []:=fun _ h=>by simp at h
 cases n1 with
 |true=>
  simp only[iR,JT,mX];have:=Ph x [];refine⟨I4 k1.ok ho,?_,by simpa using this⟩;simp[kL,Pj,an]
 |false=>
  have e:(false==true)=false:=rfl;simp only[iR,e,gM,pb,aF (F8 x)];have h1:=zL x [] 0 k1.ok ho zO;have h2:=vV x [] 0 k1.ok ho zO (by simp[an]);have h3:=Fk x [] 0;refine⟨An h1,?_,by have:=wy (gw x [] 0);omega⟩;rw[sS h1,h2];simp[kL,fK,an]
def anx{s:aa}(h:val s≠0):py (!(digits s).2) (gd (digits s).1):=by
 have h1:=oJ s;refine⟨h1.ok,h1.cut,fun _ h0=>h ?_⟩;rw[<-nV s,cc.1 h0];simp[kL,an]
def anz(s:aa):kL (!(digits s).2) (gd (digits s).1)=-val s:=by
 rw[<-nV s];unfold kL;cases(digits s).2<;>simp
end Go.T
