/- Contracts of functions that the statement reaches, and the logic in which they are proved (no condition). -/
import Derived.Test.YtapflgppmigcdaaGreatDoorA17
set_option linter.all false
set_option maxRecDepth 20000
namespace Go.T
open Go
@[reducible] def encI(l:List Nat):List (List D):=l.map fun(n:Nat)=>[D.i (n:Int)]
@[reducible] def sI(l:List Nat):D:=.snap 1 false (encI l)
def ajQ{l:List Nat}{n:Int}{k:Nat}(h:k<l.length)(hn:n=(k:Int)):(encI l)[n.toNat]?=some [D.i (nth l k:Int)]:=by
 subst hn;simp[encI,IE h]
def HM{l pre rest:List Nat}{n:Int}(h:l=pre++rest)(h0:0<pre.length)(hn:n=(pre.length:Int)-1):(encI l)[n.toNat]?=some [D.i (dv pre:Int)]:=Bg (fun(n:Nat)=>[D.i (n:Int)]) h h0 hn
def SO{out:List Nat}{j:Nat}(h:j<out.length):(encI out)[j]?=some [D.i (nth out j:Int)]:=by simp[encI,IE h]
def agm{out:List Nat}{j v:Nat}:(encI out).set j [D.i (v:Int)]=encI (out.set j v):=by simp[encI,List.map_set]
def ant(l:List Nat)(k:Nat):mh l k=nth l k:=by simp[mh,nth,fV]
def OJ{l:List Nat}{k:Nat}(h:l.length<=k):nth l k=0:=by simp[nth,p9 h]
def amY{a b:Nat}(h:a*b<9223372036854775808):IntKind.i64.wrap ((a:Int)*(b:Int))=((a*b:Nat):Int):=by
 rw[<-wv];exact cT zO zO
def FT{a b:Nat}(h:a+b<9223372036854775808):IntKind.i64.wrap ((a:Int)+(b:Int))=((a+b:Nat):Int):=by
 rw[<-El];exact cT zO zO
def apI{a:Nat}(h:a<9223372036854775808):IntKind.i64.wrap ((a:Int).tdiv 1000000000)=((a/gB:Nat):Int):=by
 have e:(a:Int).tdiv 1000000000=((a/gB:Nat):Int):=by
  rw[o_ zO];unfold gB;omega
 rw[e];have:a/gB<=a:=D4 _ _;generalize a/gB=q at this|-;exact cT zO zO
def amm{x:Nat}(h:x<gB):aZ [x]:=fun y hy=>by simp at hy;subst hy;exact h
def mo(x y:List Nat):Int:=if decide ((x.length:Int)≠y.length)=true then(if decide ((x.length:Int)<y.length)=true then -1 else 1)else jl x.reverse y.reverse
def aoh{x y:List Nat}(h:decide ((x.length:Int)≠y.length)=true)(h2:decide ((x.length:Int)<y.length)=true):-1=mo x y:=by rw[mo,aV h,aV h2]
def aoi{x y:List Nat}(h:decide ((x.length:Int)≠y.length)=true)(h2:decide ((x.length:Int)<y.length)=false):1=mo x y:=by rw[mo,aV h,aF (by rw[h2];simp)]
def aoj{x y:List Nat}(h:decide ((x.length:Int)≠y.length)=false):mo x y=jl x.reverse y.reverse:=by rw[mo,aF (by rw[h];simp)]
theorem RJ:∀a b:List Nat,-1<=jl a b/\jl a b<=1
 |[],b=>by simp[jl]
 |a::x,[]=>by simp[jl]
 |a::x,b::y=>by
  simp only[jl];split
  ·omega
  ·split
   ·omega
   ·exact RJ x y
def aok(m n:Nat):mo (ak m) (ak n)=fX ((m:Int)-n):=by
 have h:=F5 (fc m) (fc n) (xg m) (xg n);rw[fK,fK]at h;have hb:=RJ (ak m).reverse (ak n).reverse;have e:(mo (ak m) (ak n)<0↔m<n)/\(0<mo (ak m) (ak n)↔n<m)/\-1<=mo (ak m) (ak n)/\mo (ak m) (ak n)<=1:=by
  unfold mo;unfold jc at h;by_cases k:(ak m).length=(ak n).length
  ·rw[aF (by simpa using k)]at h;rw[aF zQ];exact⟨h.1,h.2,hb⟩
  ·rw[aV k]at h;rw[aV (by simpa using fun e=>k zO)];by_cases k2:((ak m).length:Int)<(ak n).length
   ·rw[aV (by simpa using k2)];refine⟨⟨fun _=>h.1.1 zO,fun _=>by omega⟩,⟨fun k=>by omega,fun k=>?_⟩,by omega,by omega⟩;have:=h.2.2 k;omega
   ·rw[aF (by simpa using k2)];refine⟨⟨fun k=>by omega,fun k=>?_⟩,⟨fun _=>h.2.1 zO,fun _=>by omega⟩,by omega,by omega⟩;have:=h.1.2 k;omega
 unfold fX;split
 ·have:=e.1.2 zO;omega
 ·split
  ·have:=e.2.1.2 zO;omega
  ·have h1:¬mo (ak m) (ak n)<0:=fun k=>by have:=e.1.1 k;omega
   have h2:¬0<mo (ak m) (ak n):=fun k=>by have:=e.2.1.1 k;omega
   omega
def YU(m n:Nat):decide (mo (ak m) (ak n)<=0)=decide (m<=n):=by
 rw[aok,ou];unfold fX;split
 ·omega
 ·split<;>omega
def IV(pre y out:List Nat)(c a k:Nat):Prop:=
 (k<=y.length/\TI out c pre.length y.length (an pre*an y) a (y.take k))\/(k=y.length+1/\c=0/\TO out (pre++[a]).length y.length (an (pre++[a])*an y))
def IV0{pre y out:List Nat}(a:Nat)(h:TO out pre.length y.length (an pre*an y)):IV pre y out 0 a 0:=.inl ⟨by omega,by simpa using JZ a h⟩
def uh{pre y out:List Nat}{c a k:Nat}(h:IV pre y out c a k):aZ out/\c<gB/\k<=y.length+1:=by
 rcases h with⟨h1,h2⟩|⟨h1,h2,h3⟩
 ·exact⟨h2.1,h2.2.1,by omega⟩
 ·exact⟨h3.1,by rw[h2];exact ed,by omega⟩
def abQ{pre y out:List Nat}{c a k:Nat}(h:IV pre y out c a k)(hk:k<y.length\/0<c):k<=y.length:=by
 rcases h with⟨h1,_⟩|⟨h1,h2,_⟩<;>omega
def FK{n a b c:Nat}(hn:n<gB)(ha:a<gB)(hb:b<gB)(hc:c<gB):a*b<9223372036854775808/\n+a*b<9223372036854775808/\n+a*b+c<9223372036854775808:=by
 have h:=J2 hc hn ha hb;have h2:gB*gB<9223372036854775808:=by decide
 omega
def IV1{pre y out:List Nat}{c a k:Nat}(h:IV pre y out c a k)(hy:aZ y)(ha:a<gB)(hk:k<y.length\/0<c)(hl:pre.length+y.length<out.length):
  pre.length+k<out.length/\IV pre y (out.set (pre.length+k) ((nth out (pre.length+k)+a*nth y k+c)%gB)) ((nth out (pre.length+k)+a*nth y k+c)/gB) a (k+1):=by
 rcases h with⟨h1,h2⟩|⟨h1,h2,h3⟩
 ·refine⟨by omega,?_⟩;by_cases h3:k<y.length
  ·refine .inl ⟨by omega,?_⟩;have el:(y.take k).length=k:=by rw[uB];omega
   have:=J0 h2 ha (eM hy k) (by rw[el];exact h3) (by rw[el];omega);rw[el]at this;have e2:y.take k++[nth y k]=y.take (k+1):=by
    rw[List.take_add_one,IE h3];rfl
   rw[e2]at this;rw[BI (nth out (pre.length+k)+a*nth y k) c];exact this
  ·have e:k=y.length:=by omega
   subst e;have hc:0<c:=hk.resolve_left zO;rw[Gn]at h2;have hy0:0<y.length:=by
    rcases ko y.length with e|e
    ·have e:=Bv e;subst e;have h3:=h2.2.2.1;simp only[an,rm,xW,pL,hG]at h3;have hp:0<gB^pre.length:=ph ed;have:=Gc hc hp;omega
    ·exact e
   have h4:=h2.2.2.2 (pre.length+y.length) (dP _);have h5:=OJ (l:=y) (k:=y.length) (dP _);have hT:=J1 h2 hy0 hl rfl;rw[h4,h5];simp only[rm,mD];rw[oZ h2.2.1,sW h2.2.1];rw[h4,mD]at hT;exact .inr ⟨rfl,rfl,hT⟩
 ·omega
def abP{pre y out:List Nat}{c a k:Nat}(h:IV pre y out c a k)(hk:¬(k<y.length\/0<c)):TO out (pre++[a]).length y.length (an (pre++[a])*an y):=by
 rcases h with⟨h1,h2⟩|⟨h1,h2,h3⟩
 ·have e:k=y.length:=by omega
  have e2:c=0:=by omega
  subst e;subst e2;rw[Gn]at h2;obtain⟨g1,g2,g3,g4⟩:=h2;refine⟨g1,?_,fun j hj=>g4 j (by simp at hj;omega)⟩;rw[xW,pL]at g3;rw[g3,y8,dO]
  congr 1
  rw[xY]
 ·exact h3
def pB:Nat->Nat->aa
 |0,_=>[]
 |k+1,n=>pB k (n/10)++[UInt8.ofNat (48+n%10)]
theorem O_:∀k n,(pB k n).length=k
 |0,_=>rfl
 |k+1,n=>by simp[pB,O_ k]
def Sj{n:Nat}:(UInt8.ofNat (48+n%10)).toNat=48+n%10:=by
 have:n%10<10:=n0 _ zO;simp;omega
theorem Y6:∀k n,(pB k n).all cg=true
 |0,_=>rfl
 |k+1,n=>by
  have:n%10<10:=n0 _ zO;rw[pB,lE,Y6 k];simp only[kJ,JK,AA,oL,cg,Sj,bd,cd];omega
theorem Yi:∀k n,natVal (pB k n)=n%10^k
 |0,n=>by simp[pB,natVal,Ie]
 |k+1,n=>by
  rw[pB,vi,Yi k,Sj,lN,fO (10^k) 10,Nat.mod_mul];omega
def tY(l:List Nat):aa:=(l.reverse.map (pB 9)).flatten
def IS(i:List Nat)(x:Nat):tY (i++[x])=pB 9 x++tY i:=by simp[tY]
def Pa(l:List Nat):(tY l).length=9*l.length:=by
 induction l using su with
 |h0=>rfl
 |h1 i x ih=>rw[IS,bl,O_,ih];simp;omega
def Y7(l:List Nat):(tY l).all cg=true:=by
 induction l using su with
 |h0=>rfl
 |h1 i x ih=>rw[IS,lE,Y6,ih];rfl
def Yj{l:List Nat}(h:aZ l):natVal (tY l)=an l:=by
 induction l using su with
 |h0=>rfl
 |h1 i x ih=>
  have hi:aZ i:=fun y hy=>h y (by simp[hy]);have hx:=h x zS;rw[IS,xm,Yi,ih hi,y8,Pa];have e1:(10:Nat)^(9*i.length)=gB^i.length:=by rw[Nat.pow_mul];rfl
  have e2:x%10^9=x:=oZ hx;rw[e1,e2];omega
def arp{s:aa}(h:s.all cg=true):d_ s=(s,false):=by
 cases s with
 |nil=>rfl
 |cons c r=>
  have hc:c≠45:=by
   rintro rfl;simp[cg]at h
  unfold d_;split
  ·rename_i e;injection e with e1 _;exact absurd e1 hc
  ·rfl
theorem Ix:∀s:aa,natVal (ff s)=natVal s
 |[]=>by simp[ff]
 |c::r=>by
  by_cases h:c.toNat=48
  ·have e:=CV (s:=c::r) zS (by simpa using h);rw[e];have e2:natVal (c::r)=natVal r:=by
    have:=xm [c] r;rw[GM]at this;rw[this];have:natVal [c]=0:=by simp[natVal,h]
    rw[this];omega
   rw[e2];exact Ix r
  ·rw[wB (by simpa using h)]
def ats{s:aa}(h:s.all cg=true):val s=natVal s:=by
 have e:=arp h;have e2:digits s=(ff s,false):=by
  unfold digits;rw[e];simp[h]
 unfold val;rw[e2];simp[Ix]
def att{s:aa}(h:s.all cg=true):val (45::s)=-(natVal s:Int):=by
 have e:d_ (45::s)=(s,true):=rfl;have e2:digits (45::s)=(ff s,decide (ff s≠[])):=by
  unfold digits;rw[e];simp[h]
 unfold val;rw[e2];by_cases k:ff s=[]
 ·have:=Ix s;rw[k]at this;simp[k,natVal]at this|-;omega
 ·simp[k,Ix]
def FB(dw:Bool)(m:List Nat):aa:=canon (if dw=true then[45]++tY m else tY m)
def at6(dw:Bool){m:List Nat}(h:aZ m):FB dw m=ofInt (if dw then -(an m:Int)else an m):=by
 unfold FB;rw[Rm];cases dw with
 |true=>simp only[mX,GM];rw[att (Y7 m),Yj h]
 |false=>simp only[gM,pb];rw[ats (Y7 m),Yj h]
def apX{d rest tl au az:aa}{x2:UInt8}(hr:d=rest++tl)(aN:rest.drop (rest.length-9)=au++x2::az):d=(rest.take (rest.length-9)++au)++x2::(az++tl):=by
 have h:=lG (rest.length-9) rest;rw[aN]at h;generalize rest.take (rest.length-9)=t at h|-;rw[hr,<-h];simp
def apY{d rest tl w:aa}(hd:d.all cg=true)(hr:d=rest++tl)(aN:rest.drop (rest.length-9)=w):w.all cg=true:=by
 rw[<-aN,de];intro c hc;rw[hr,lE,bd]at hd;exact de.1 hd.1 c (B3 hc)
open Go.Proofs Go.Proofs.Tryz
def ap6(a:Nat):(a:Int).tmod 10=((a%10:Nat):Int):=by
 rw[C5 zO];omega
def apG{a:Nat}(h:a<9223372036854775808):IntKind.i64.wrap ((a:Int).tdiv 10)=((a/10:Nat):Int):=by
 have e:(a:Int).tdiv 10=((a/10:Nat):Int):=by
  rw[o_ zO];omega
 rw[e];exact cT zO zO
def aaC{a k c:Nat}{rest y:List Nat}:gw (a::rest) (y.drop k) c=(if a<c+nth y k then a+gB-(c+nth y k)else a-(c+nth y k))::gw rest (y.drop (k+1)) (if a<c+nth y k then 1 else 0):=by
 rcases eQ k y.length with h|h
 ·rw[Qc h,ant]
 ·rw[Qb h,OJ h];simp only[pL]
def Um(l:List Nat)(i:Nat):Fc prog 293 [sI l,.i (i:Int)] (.i (nth l i:Int)):=by
 refine ay func293 ntmps293 results293 ?_;refine U.eh 0 rfl (fun hb=>?_);simp only[bB,aD]at hb;refine go []<|br (fun h1=>?_) (fun h1=>?_)
 ·exact ix zO (ajQ (k:=i) (by simp at*;omega) rfl)<|af rfl (Sub.refl _)
 ·exact af rfl (Sub.int (by(rw[OJ (by simp at*;omega)];rfl)))
structure atc(m:List Nat)where
 cur:List Nat
 hx:bu cur=bu m
 hl:cur.length<=m.length
def JG(m:List Nat):Fc prog 294 [sI m] (sI (bu m)):=by
 refine ay func294 ntmps294 results294 ?_;refine U.eh 0 rfl (fun hb=>?_);simp only[bB,aD]at hb;refine U.seq<|rg<|.ag rfl rfl<|.nil<|U.seq<|U.block<|U.loop (ι:=atc m) (fun sx=>[(0,sI sx.cur)]) (fun sx=>[]) (fun sx=>sx.cur.length) ⟨m,rfl,by omega⟩ ?_ ?_
 ·exact Le.mk rfl (.s rfl rfl .nil) .nil
 ·rintro⟨cur,hx,hl⟩;dsimp only;rcases np cur with rfl|⟨i,x,rfl⟩
  ·refine U.seq (U.seq (U.e_ [.p,.p,.p,.p,.p,.p,.p,.p,.p,.p,.p,.p] ?_));refine .mv rfl rfl<|.P rfl (cv underlying25 rfl)<|.P rfl (gE rfl rfl)<|.mv rfl rfl<|.off rfl (gL rfl rfl rfl zS)<|.off rfl (gL rfl rfl rfl zS)<|.off rfl (gL rfl rfl rfl zS)<|.off rfl (gL rfl rfl rfl zS)<|.off rfl (gL rfl rfl rfl zS)<|.off rfl (gL rfl rfl rfl zS)<|.off rfl (gL rfl rfl rfl zS)<|.P rfl (zB rfl zS rfl)<|.nil<|U.c6 rfl rfl<|U.exit (dz (du ?_));refine U.seq<|rg<|.mv rfl rfl<|.ag rfl rfl<|.nil<|U.ret (?_);exact dt rfl (Sub.snap (by rw[<-hx];rfl))
  ·refine U.seq<|U.seq<|rg<|.mv rfl rfl<|.P rfl (cv underlying25 rfl)<|.P rfl (gE rfl rfl)<|.mv rfl rfl<|.p rfl (e7 rfl rfl rfl zS) (fun _=>aX rfl _)<|.p rfl (e7 rfl rfl rfl zS) (fun _=>aX rfl _)<|.p rfl (e7 rfl rfl rfl zS) (fun _=>cv underlying25 rfl _)<|.p rfl (e7 rfl rfl rfl zS) (fun _=>dx rfl rfl (cT zO (by simp at*;omega)) _)<|.p rfl (e7 rfl rfl rfl zS) (fun _=>eC underlying25 sizeOf3 rfl rfl zS (VR (fun(n:Nat)=>[D.i (n:Int)]) i x rfl) _)<|.p rfl (e7 rfl rfl rfl zS) (fun _=>bE isAgg3 rfl _)<|.p rfl (e7 rfl rfl rfl zS) (fun _=>kO rfl rfl _)<|.P rfl (vI rfl zS rfl)<|.nil<|U.cond rfl (fun h1=>?_) (fun h1=>?_)
   ·have bJ:=h1;try simp only[bs]at bJ
    refine U.skip<|U.block<|rg<|.mv rfl rfl<|.mv rfl rfl<|.P rfl (cv underlying25 rfl)<|.P rfl (dx rfl rfl (cT zO (by simp at*;omega)))<|.P rfl (pC underlying25 sizeOf3 rfl (h:=i.length) (r:=encI i) (.inl ⟨rfl,rfl⟩) (.inr ⟨_,_,rfl,(vp rfl zS)⟩) zO zS zS)<|.ag rfl rfl<|.nil<|U.nil (bR ?_);refine U.nil (cz ?_);exact⟨⟨i,by rw[<-hx,show x=0 by omega,ur],by simp at hl;omega⟩,by simp,Le.mk rfl (.s rfl rfl .nil) .nil⟩
   ·have bJ:=h1;try simp only[bs]at bJ
    refine U.exit (dz (du ?_));refine U.seq<|rg<|.mv rfl rfl<|.ag rfl rfl<|.nil<|U.ret (?_);exact dt rfl (Sub.snap (by(rw[<-hx,Ao i zO])))
structure aoo(x y:List Nat)where
 lx:List Nat
 rx:List Nat
 ly:List Nat
 ry:List Nat
 ex:x=lx++rx
 ey:y=ly++ry
 el:lx.length=ly.length
 er:jl lx.reverse ly.reverse=mo x y
def aon(x y:List Nat)(hx:x.length<=20000)(hy:y.length<=20000):Fc prog 297 [sI x,sI y] (.i (mo x y)):=by
 refine ay func297 ntmps297 results297 ?_;refine go []<|br (fun h1=>?_) (fun h1=>?_)
 ·refine br (fun h2=>?_) (fun h2=>?_)
  ·exact af rfl (Sub.int (by exact aoh (by simp at*;omega) (by simp at*;omega)))
  ·exact af rfl (Sub.int (by exact aoi (by simp at*;omega) (by simp at*;omega)))
 ·refine sd (cT zO zQ)<|U.loop (ι:=aoo x y) (fun sx=>[(0,sI x),(1,sI y),(5,.i ((sx.lx.length:Int)-1))]) (fun sx=>[]) (fun sx=>sx.lx.length) ⟨x,[],y,[],by simp,by simp,by simp at*;omega,(aoj (by simp at*;omega)).symm⟩ ?_ ?_
  ·exact Le.mk rfl (.n 2 rfl rfl (.cons rfl (Sub.int zS) rfl .nil)) .nil
  ·rintro⟨lx,rx,ly,ry,ex,ey,el,er⟩;dsimp only;have Lx:=aT List.length ex;have Ly:=aT List.length ey;simp only[bl]at Lx Ly;have es:=fun h=>F7 (x:=lx) (y:=ly) h el;refine go []<|br (fun h3=>?_) (fun h3=>?_)
   ·have gi:=h3;try simp only[bs]at gi
    refine ix zO (HM ex zO rfl)<|ix zO (HM ey zO zO)<|ord<|br (fun h4=>?_) (fun h4=>?_)
    ·have gD:=h4;try simp only[bs]at gD
     exact af rfl (Sub.int (by(rw[<-er,es zO];rw[aV zO])))
    ·have gD:=h4;try simp only[bs]at gD
     refine ix zO (HM ex zO rfl)<|ix zO (HM ey zO zO)<|ord<|br (fun h5=>?_) (fun h5=>?_)
     ·have nf:=h5;try simp only[bs]at nf
      exact af rfl (Sub.int (by(rw[<-er,es zO];rw[aF zO,aV zO])))
     ·have nf:=h5;try simp only[bs]at nf
      exact sd (ao zO)<|nx ⟨lx.dropLast,dv lx::rx,ly.dropLast,dv ly::ry,by rw[ex];conv=>{lhs;rw[uw (l:=lx) zO]};simp,by rw[ey];conv=>{lhs;rw[uw (l:=ly) zO]};simp,by simp;omega,by rw[<-er,F7 zO el,aF zO,aF zO]⟩ zQ (Le.mk rfl (.n 2 rfl rfl (.cons rfl (Sub.int zQ) rfl .nil)) .nil)
   ·have gi:=h3;try simp only[bs]at gi
    exact go []<|af rfl (Sub.int (by rw[<-er,KC zO]))
structure amX(x y:List Nat)where
 pre:List Nat
 rest:List Nat
 out:List Nat
 c:Nat
 hx:x=pre++rest
 td:out.length=pre.length
 hc:c<=1
 hr:out++gw rest (y.drop pre.length) c=gw x y 0
def amW(x y:List Nat)(wZ:x.length<=20000)(Be:y.length<=20000)(jf:aZ x)(uZ:aZ y):Fc prog 298 [sI x,sI y] (sI (bu (gw x y 0))):=by
 refine ay func298 ntmps298 results298 ?_;refine go [12]<|oP (t_ underlying25 sizeOf3)<|U.loop (ι:=amX x y) (fun sx=>[(0,sI x),(1,sI y),(5,.gs 0 sx.out.length),(6,.i (sx.c:Int)),(7,.i (sx.pre.length:Int))]) (fun sx=>[(0,.arr 1 (encI sx.out))]) (fun sx=>sx.rest.length) ⟨[],x,[],0,by simp,rfl,by omega,by simp⟩ ?_ ?_
 ·exact(Le.gC 0 1).trans<|Le.mk rfl (.n 2 rfl rfl (.cons rfl (Sub.yp _ _) rfl (.n 2 rfl rfl .nil))) (.arr rfl (by rfl) .nil)
 ·rintro⟨pre,rest,out,c,hx,td,hc,hr⟩;dsimp only;rcases rest with _|⟨a,rest⟩
  ·have hl:=aT List.length hx;simp only[bl,hG]at hl;refine go [12]<|aH zQ<|go [12] ?_;refine U.bc (Le.freeze 5 0 rfl rfl zS) ?_;exact go []<|oP (ah call294 rfl (JG _))<|af rfl (Sub.snap (by simp[gw]at hr;simp[hr]))
  ·have hl:=aT List.length hx;simp only[bl,bD]at hl;have ha:=jf a (by rw[hx];simp);have hb:=eM uZ pre.length;refine go [12]<|aM zQ<|ix zO (aK (fun(n:Nat)=>[D.i (n:Int)]) hx rfl)<|oP (ah call293 rfl (Um _ _))<|sd (cT (by unfold gB at*;omega) (by unfold gB at*;omega))<|sd (cT (by unfold gB at*;omega) (by unfold gB at*;omega))<|ord<|br (fun h1=>?_) (fun h1=>?_)
   ·have bJ:=h1;try simp only[bs]at bJ
    exact sd (cT (by unfold gB at*;omega) zO)<|oP (oQ underlying25 sizeOf3 zeroValue3 rfl rfl rfl rfl rfl)<|oW (ee 1 underlying25 underlying25 sizeOf3 typeInfo3 zeroValue3 rfl (bt:=8) rfl rfl rfl rfl zS rfl rfl zQ)<|sd (ao zO)<|nx ⟨pre++[a],rest,out++[a+gB-(c+nth y pre.length)],1,by simp[hx],by simp[td],by omega,by rw[<-hr,aaC,aV zO,aV zO];simp⟩ zS ((Le.mk (aj:=[(1,_)]) rfl (show ct _ _ [(0,_),(1,_),(5,_),(6,_),(7,_)]from(.n 5 rfl rfl .nil)) (.cons (i:=1) rfl rfl .nil)).trans<|(Le.iz 5 1 0 rfl rfl zS rfl).trans<|Le.mk rfl (.n 2 rfl rfl (.cons rfl (Sub.gs zS) rfl (.s rfl rfl (.cons rfl (Sub.int zS) rfl .nil)))) (.arr rfl (by simp[encI];unfold gB at*;omega) .nil))
   ·have bJ:=h1;try simp only[bs]at bJ
    exact oP (oQ underlying25 sizeOf3 zeroValue3 rfl rfl rfl rfl rfl)<|oW (ee 1 underlying25 underlying25 sizeOf3 typeInfo3 zeroValue3 rfl (bt:=8) rfl rfl rfl rfl zS rfl rfl zQ)<|sd (ao zO)<|nx ⟨pre++[a],rest,out++[a-(c+nth y pre.length)],0,by simp[hx],by simp[td],by omega,by rw[<-hr,aaC,aF zO,aF zO];simp⟩ zS ((Le.mk (aj:=[(1,_)]) rfl (show ct _ _ [(0,_),(1,_),(5,_),(6,_),(7,_)]from(.n 5 rfl rfl .nil)) (.cons (i:=1) rfl rfl .nil)).trans<|(Le.iz 5 1 0 rfl rfl zS rfl).trans<|Le.mk rfl (.n 2 rfl rfl (.cons rfl (Sub.gs zS) rfl (.s rfl rfl (.cons rfl (Sub.int zS) rfl .nil)))) (.arr rfl (by simp[encI];unfold gB at*;omega) .nil))
structure arN(m n:List Nat)where
 pre:List Nat
 rest:List Nat
 out:List Nat
 hx:m=pre++rest
 hlen:out.length=m.length+n.length
 ho:TO out pre.length n.length (an pre*an n)
structure arO(m n:List Nat)(pre:List Nat)(x:Nat)where
 out:List Nat
 c:Nat
 k:Nat
 hlen:out.length=m.length+n.length
 hi:IV pre n out c x k
def aaJ(m n:List Nat)(hn:m.length+n.length≠0)(Vn:m.length<=20000)(yI:n.length<=20000)(DB:aZ m)(ce:aZ n):Fc prog 258 [sI m,sI n] (sI (ak (an m*an n))):=by
 refine ay func258 ntmps258 results258 ?_;refine go [12]<|sd (cT zO zQ)<|oW (xz (bt:=8) 0 (m.length+n.length) underlying25 sizeOf3 typeInfo3 zeroValue3 rfl rfl rfl rfl rfl (by simp[encI]) (by simp[encI]) (dP (m.length+n.length)) zO zO zO rfl)<|U.loop (ι:=arN m n) (fun sx=>[(0,sI m),(1,sI n),(5,.gs 0 (m.length+n.length)),(6,.i sx.pre.length)]) (fun sx=>[(0,.arr 1 (encI sx.out))]) (fun sx=>sx.rest.length) ⟨[],m,List.replicate (m.length+n.length) 0,rfl,by simp,J3 m n _⟩ ?_ ?_
 ·exact Le.mk rfl (.n 2 rfl rfl (.cons rfl (Sub.gs zS) rfl (.s rfl rfl .nil))) (.arr rfl (by simp[encI]) .nil)
 ·rintro⟨pre,rest,out,hx,hlen,ho⟩;dsimp only;rcases lc hx with⟨rfl,hl⟩|⟨x,rest,rfl,hl⟩
  ·obtain rfl:m=pre:=by simpa using hx
   refine go [12]<|aH zS<|go [12] ?_;refine U.bc (Le.freeze 5 0 rfl rfl (by simp[encI];omega)) ?_;exact go []<|oP (ah call294 rfl (JG _))<|af rfl (Sub.snap (by rw[Cw ho]))
  ·have j8:=DB x (by rw[hx];simp);refine go [12]<|aM zQ<|U.loop (ι:=arO m n pre x) (fun sx=>[(0,sI m),(1,sI n),(5,.gs 0 (m.length+n.length)),(6,.i (pre.length:Int)),(7,.i (sx.c:Int)),(8,.i (sx.k:Int))]) (fun sx=>[(0,.arr 1 (encI sx.out))]) (fun sx=>n.length+1-sx.k) ⟨out,0,0,hlen,IV0 _ ho⟩ ?_ ?_
   ·exact Le.mk rfl (.n 2 rfl rfl (.cons rfl (Sub.gs zS) rfl (.n 3 rfl rfl .nil))) (.arr rfl (by rfl) .nil)
   ·rintro⟨out,c,k,hlen,hi⟩;dsimp only;refine go [12]<|br (fun h1=>?_) (fun h1=>?_)
    ·have bJ:=h1;try simp only[bs]at bJ
     have hik:=(uh hi).2.2;have aU:=IV1 hi ce j8 zO zO;have axo:=aU.1;exact sd (ao zO)<|oP (ca (off:=(pre.length+k)*1) underlying25 sizeOf3 rfl rfl zO zO zO)<|oR (fG (r:=_) (pre.length+k) 0 isAgg3 rfl rfl rfl (SO zO) rfl)<|ix zO (aK (fun(n:Nat)=>[D.i (n:Int)]) hx rfl)<|oP (ah call293 rfl (Um _ _))<|sd ((amY (FK (eM (uh hi).1 (pre.length+k)) j8 (eM ce k) (uh hi).2.1).1))<|sd ((FT (FK (eM (uh hi).1 (pre.length+k)) j8 (eM ce k) (uh hi).2.1).2.1))<|sd ((FT (FK (eM (uh hi).1 (pre.length+k)) j8 (eM ce k) (uh hi).2.1).2.2))<|ord<|sd (ao zO)<|oP (lX rfl rfl zD (vL _))<|oP (ca (off:=(pre.length+k)*1) underlying25 sizeOf3 rfl rfl zO zO zO)<|oW (ic (r:=_) (pre.length+k) 0 sizeOf3 rfl rfl rfl rfl rfl rfl (SO zO) zS)<|oP (lu rfl rfl zD (apI (FK (eM (uh hi).1 (pre.length+k)) j8 (eM ce k) (uh hi).2.1).2.2))<|sd (ao zO)<|nx ⟨out.set (pre.length+k) ((nth out (pre.length+k)+x*nth n k+c)%gB),(nth out (pre.length+k)+x*nth n k+c)/gB,k+1,by simp[hlen],aU.2⟩ (by have s_:=abQ hi zO;show n.length+1-(k+1)<n.length+1-k;omega) (Le.mk rfl (.n 2 rfl rfl (.cons rfl (Sub.gs zS) rfl (.n 3 rfl rfl .nil))) (.arr rfl (by exact agm) .nil))
    ·have bJ:=h1;try simp only[bs]at bJ
     have hie:=abP hi zO;refine U.nil (bR ?_);exact go [12]<|sd (ao zO)<|nx ⟨pre++[x],rest,out,by simp[hx],hlen,hie⟩ zS (Le.mk rfl (.n 2 rfl rfl (.cons rfl (Sub.gs zS) rfl (.cons rfl (Sub.int zS) rfl .nil))) (.arr rfl (by rfl) .nil))
structure apV(s:aa)where
 rest:aa
 tl:aa
 e:Int
 done:List Nat
 hr:(digits s).1=rest++tl
 he:(0<e->e=rest.length)/\(e<=0->rest=[])
 hx:done++gd rest=gd (digits s).1
structure apW(s:aa)(rest tl:aa)(e:Int)(done:List Nat)where
 au:aa
 az:aa
 aN:rest.drop (rest.length-9)=au++az
def apU(s:aa)(hs:s.length<=100000):Fc prog 256 [.str s] (.agg [.b (digits s).2,sI (gd (digits s).1)]):=by
 refine Fc.jM func256 rfl ntmps256 rfl rfl rfl ?_;have qI:=ma s;have Ho:=o8 s;have bY:=rL (digits s).1;refine go [99999]<|oP (ah call251 rfl (uv _))<|U.loop (ι:=apV s) (fun sx=>[(2,.box 0 0),(3,.str (digits s).1),(5,.box 1 0),(6,.i sx.e)]) (fun sx=>[(0,.cells [.b false,.raw (.slice none 0 0)]),(1,.cells [.b (digits s).2,.gs 2 sx.done.length]),(2,.arr 1 (encI sx.done))]) (fun sx=>sx.rest.length) ⟨(digits s).1,[],(digits s).1.length,[],by simp,⟨fun _=>rfl,fun h=>cc.1 zO⟩,rfl⟩ ?_ ?_
 ·exact(Le.gC 2 1).trans<|(Le.fp 1 1 rfl rfl (Sub.oz _)).trans<|Le.mk rfl (.n 4 rfl rfl .nil) (.cons rfl rfl (.cons rfl rfl (.arr rfl (by rfl) .nil)))
 ·rintro⟨rest,tl,e,done,hr,he,hx⟩;dsimp only;have fQ:=aT List.length hr;simp only[bl]at fQ;have yP:=aT List.length hx;simp only[bl]at yP;refine go [99999]<|br (fun h1=>?_) (fun h1=>?_)
  ·have bJ:=h1;try simp only[bs]at bJ
   refine sd (ao zO)<|U.loop (ι:=apW s rest tl e done) (fun sx=>[(2,.box 0 0),(3,.str (digits s).1),(5,.box 1 0),(6,.i e),(7,.i (natVal sx.au:Int)),(8,.i ((rest.length-9+sx.au.length:Nat):Int))]) (fun sx=>[(0,.cells [.b false,.raw (.slice none 0 0)]),(1,.cells [.b (digits s).2,.gs 2 done.length]),(2,.arr 1 (encI done))]) (fun sx=>sx.az.length) ⟨[],_,rfl⟩ ?_ ?_
   ·exact Le.mk rfl (.n 5 rfl rfl (.cons rfl (Sub.int zQ) rfl .nil)) (.cons rfl rfl (.cons rfl rfl (.arr rfl zS .nil)))
   ·rintro⟨au,az,aN⟩;dsimp only;have Mn:=aT List.length aN;simp only[bl,z1]at Mn;have Mm:=apY Ho hr aN;rw[lE,bd]at Mm;have hv:=re au Mm.1;have hp9:10^au.length<=10^9:=eE zO zO;rcases az with _|⟨x2,az⟩
    ·simp only[hG]at Mn;obtain rfl:au=rest.drop (rest.length-9):=by simpa using aN.symm
     exact go [99999]<|aH zQ<|go [99999]<|oP (oQ underlying25 sizeOf3 zeroValue3 rfl rfl rfl rfl rfl)<|oW (ee 3 underlying25 underlying25 sizeOf3 typeInfo3 zeroValue3 rfl (bt:=8) rfl rfl rfl rfl zS rfl rfl zQ)<|go [99999]<|sd (ao zO)<|nx ⟨rest.take (rest.length-9),rest.drop (rest.length-9)++tl,e-9,done++[natVal (rest.drop (rest.length-9))],by rw[hr,<-ng,lG],⟨fun h=>by simp;omega,fun h=>cc.1 zQ⟩,by rw[<-hx,AO (s:=rest) zO];simp⟩ zQ ((Le.mk (aj:=[(0,_),(1,_),(3,_)]) rfl (show ct _ _ [(2,_),(3,_),(5,_),(6,_)]from(.n 4 rfl rfl .nil)) (.cons (i:=0) rfl rfl (.cons (i:=1) rfl rfl (.cons (i:=3) rfl rfl .nil)))).trans<|(Le.Cf 1 1 3 2 rfl rfl rfl zS rfl).trans<|Le.mk rfl (.n 4 rfl rfl .nil) (.cons rfl rfl (.eq rfl zS rfl (.arr rfl (by simp[encI]) .nil))))
    ·simp only[bD]at Mn;have hq:=Mm.2;simp only[kJ,bd,cg,cd]at hq;exact go [99999]<|aM zQ<|sd (ao zO)<|Bj zO (lf (pre:=rest.take (rest.length-9)++au) (rest:=az++tl) (x:=x2) (apX hr aN) zS)<|sd (aby zO zO)<|sd (ao zO)<|sd (ao zO)<|sd (ao zO)<|nx ⟨au++[x2],az,by simp[aN]⟩ zS (Le.mk rfl (.n 4 rfl rfl (.cons rfl (Sub.int (by rw[vi];omega)) rfl (.cons rfl (Sub.int zQ) rfl .nil))) (.cons rfl rfl (.cons rfl rfl (.arr rfl zS .nil))))
  ·have bJ:=h1;try simp only[bs]at bJ
   refine go [99999] ?_;refine U.bc (Le.LZ 0 1 2 rfl rfl rfl zS) ?_;refine U.ret (?_);exact Rd.cA results256 isAgg260 sizeOf260 rfl rfl rfl (Sub.agg (.r (.cons (Sub.snap (by rw[<-hx,he.2 zO,uJ,iJ])) .nil)))
structure at1(dw:Bool)(m:List Nat)where
 pre:List Nat
 rest:List Nat
 hx:m=pre++rest
structure at5(dw:Bool)(m:List Nat)(pre:List Nat)(x:Nat)where
 n:Nat
 k:Nat
 acc:aa
 hk:k<=9
 hn:n<gB
 hq:pB (9-k) n++acc=pB 9 x++tY pre
def at0(dw:Bool)(m:List Nat)(hs:m.length<=20000)(hm:aZ m):Fc prog 257 [.agg [.b dw,sI m]] (.str (FB dw m)):=by
 refine ay func257 ntmps257 results257 ?_;have DH:=Pa m;refine go []<|U.loop (ι:=at1 dw m) (fun sx=>[(1,.box 0 0),(3,.str (tY sx.pre)),(4,.i sx.pre.length)]) (fun sx=>[(0,.cells [.b dw,sI m])]) (fun sx=>sx.rest.length) ⟨[],m,rfl⟩ ?_ ?_
 ·exact Le.mk rfl (.n 3 rfl rfl .nil) (.cons rfl rfl .nil)
 ·rintro⟨pre,rest,hx⟩;dsimp only;rcases lc hx with⟨rfl,hl⟩|⟨x,rest,rfl,hl⟩
  ·obtain rfl:m=pre:=by simpa using hx
   refine go []<|aH zS<|go []<|br (fun h1=>?_) (fun h1=>?_)
   ·exact sd (by simp[aD];omega)<|oP (ah call250 rfl (Ky _))<|af rfl (Sub.str (by unfold FB;rw[aV zA]))
   ·exact oP (ah call250 rfl (Ky _))<|af rfl (Sub.str (by unfold FB;rw[aF (by simp at*;assumption)]))
  ·have j8:=hm x (by rw[hx];simp);refine go []<|aM zQ<|ix zO (aK (fun(n:Nat)=>[D.i (n:Int)]) hx rfl)<|U.loop (ι:=at5 dw m pre x) (fun sx=>[(1,.box 0 0),(3,.str sx.acc),(4,.i (pre.length:Int)),(5,.i (sx.n:Int)),(6,.i (sx.k:Int))]) (fun sx=>[(0,.cells [.b dw,sI m])]) (fun sx=>9-sx.k) ⟨x,0,_,by omega,j8,rfl⟩ ?_ ?_
   ·exact Le.mk rfl (.n 5 rfl rfl .nil) (.cons rfl rfl .nil)
   ·rintro⟨n,k,acc,hk,hn,hq⟩;dsimp only;refine go []<|br (fun h2=>?_) (fun h2=>?_)
    ·have di:=h2;try simp only[bs]at di
     exact oP (lX rfl rfl zD (ap6 _))<|sd (ao zO)<|sd (Qu zO zO)<|oP (PC underlying21 underlying9 rfl (c:=UInt8.ofNat (48+n%10)) zO zO (by congr 1<;>omega))<|sd (by have:=aT List.length hq;simp[O_,Pa]at this;simp[aD];omega)<|oP (lu rfl rfl zD (apG (by unfold gB at*;omega)))<|sd (ao zO)<|nx ⟨n/10,k+1,UInt8.ofNat (48+n%10)::acc,by simp at*;omega,by omega,by rw[<-hq,show 9-k=(9-(k+1))+1 by simp at*;omega,pB];simp⟩ (by simp at*;omega) (Le.mk rfl (.n 5 rfl rfl .nil) (.cons rfl rfl .nil))
    ·have di:=h2;try simp only[bs]at di
     refine U.nil (bR ?_);exact go []<|sd (ao zO)<|nx ⟨pre++[x],rest,by simp[hx]⟩ zS (Le.mk rfl (.s rfl rfl (.cons rfl (Sub.str (by rw[IS,<-hq];simp[pB,show k=9 by omega])) rfl (.cons rfl (Sub.int zS) rfl .nil))) (.cons rfl rfl .nil))
def Qw(dw:Bool)(n:Nat)(h:(ak n).length<=20000):Fc prog 257 [.agg [.b dw,sI (ak n)]] (.str (ofInt (if dw then -(n:Int)else n))):=by
 have:=at0 dw (ak n) h (fc n);rwa[at6 _ (fc n),fK]at this
def Ja(s:aa)(hs:s.length<=100000):Fc prog 256 [.str s] (.agg [.b (decide (val s<0)),sI (ak (val s).natAbs)]):=by
 have:=apU s hs;rw[OF,Hb]at this;exact this
def atb(x R:Nat)(h:x<gB):Fc prog 294 [sI (x::ak R)] (sI (ak (x+gB*R))):=by
 have:=JG (x::ak R);rw[sS (fun y hy=>by
  rcases cr.1 hy with rfl|hy
  ·exact h
  ·exact fc R y hy),an,fK]at this
 exact this
def aom(m n:Nat)(hm:(ak m).length<=20000)(hn:(ak n).length<=20000):Fc prog 297 [sI (ak m),sI (ak n)] (.i (mo (ak m) (ak n))):=aon _ _ hm hn
def amU(a b:Nat)(ha:(ak a).length<=20000)(hb:(ak b).length<=20000)(h:b<=a):Fc prog 298 [sI (ak a),sI (ak b)] (sI (ak (a-b))):=by
 have:=amW (ak a) (ak b) ha hb (fc a) (fc b);rw[sS (zL _ _ _ (fc a) (fc b) zO),vV _ _ _ (fc a) (fc b) zO (by rw[fK,fK];omega),fK,fK]at this;exact this
def aaK(B m:Nat)(hB:(ak B).length<=10000)(hm:m<gB):Fc prog 258 [sI (ak B),sI [m]] (sI (ak (B*m))):=by
 have:=aaJ (ak B) [m] zS zO zS (fc B) (amm hm);rw[fK]at this;simpa[an]using this
def arP(a b:Nat)(ha:(ak a).length<=10000)(hb:(ak b).length<=10000)(h:a≠0\/b≠0):Fc prog 258 [sI (ak a),sI (ak b)] (sI (ak (a*b))):=by
 have:=aaJ (ak a) (ak b) (by
  rcases h with h|h
  ·have e0:(ak a).length≠0:=fun e=>h (qZ e);omega
  ·have e0:(ak b).length≠0:=fun e=>h (qZ e);omega) zO zO (fc a) (fc b)
 rwa[fK,fK]at this
end Go.T
namespace Go.T
open Go
def agl{i:List Nat}{x:Nat}{s:List Nat}:(encI (List.replicate (i++[x]).length 0++s))[i.length]?=some [D.i ((0:Nat):Int)]:=by
 rw[Jj];simp[encI]
def SP{i:List Nat}{x:Nat}{s:List Nat}{q:Nat}:(encI (List.replicate (i++[x]).length 0++s)).set i.length [D.i (q:Int)]=encI (List.replicate i.length 0++q::s):=by
 rw[Jj];simp[encI,List.set_append]
def agb{B x H:Nat}(hB:0<B)(hx:x<gB):(x+gB*(H%B))/B<gB/\(x+gB*(H%B))/B+gB*(H/B)=(x+gB*H)/B/\(x+gB*(H%B))%B=(x+gB*H)%B:=by
 have hr:=n0 H hB;have e:x+gB*H=x+gB*(H%B)+B*(gB*(H/B)):=by
  have:=y9 H B;conv=>lhs;rw[<-this]
  rw[jN,Nat.mul_left_comm,l6]
 refine⟨?_,?_,?_⟩
 ·rw[y_ hB];have h1:gB*(H%B)+gB<=gB*B:=by
   have:=jg gB (show H%B+1<=B from hr);rwa[jN,v8]at this
  omega
 ·rw[e,HN _ _ hB]
 ·rw[e,D5]
def SG(X B:Nat):X-B*(X/B)=X%B:=by have:=y9 X B;omega
def aga(X B:Nat):B*(X/B)<=X:=by have:=y9 X B;omega
def SF{B X m:Nat}(hB:0<B):B*m<=X↔m<=X/B:=by rw[GN hB,fO]
def apH{a:Nat}(h:a<9223372036854775808):IntKind.i64.wrap ((a:Int).tdiv 2)=((a/2:Nat):Int):=by
 have e:(a:Int).tdiv 2=((a/2:Nat):Int):=by
  rw[o_ zO];omega
 rw[e];exact cT zO zO
def aml{v k:Nat}(h:v<10^k):(ak v).length<=k:=N5 (lF h (Nat.pow_le_pow_left (by unfold gB;omega) k))
def XE{x:Nat}{l:List Nat}(h:x<gB)(k:aZ l):aZ (x::l):=fun y hy=>by
 rcases cr.1 hy with rfl|hy
 ·exact h
 ·exact k y hy
def amh{x R:Nat}(hx:x<gB):(ak (x+gB*R)).length<=(ak R).length+1:=by
 by_cases e:x+gB*R=0
 ·rw[e,oF];simp
 ·rw[xi e,bD];have:(x+gB*R)/gB=R:=by
   rw[HN _ _ ed,sW hx,mD]
  rw[this];exact dP _
def XC{x R k:Nat}(hx:x<gB)(h:(ak R).length<=k):(ak (x+gB*R)).length<=k+1:=dM (amh hx) zO
def XA{B m k:Nat}(h:(ak B).length<=k)(hm:m<gB:=by omega):(ak (B*m)).length<=k+1:=by
 have e:B*m<=0+gB*B:=by
  rw[mD,fO gB];exact jg _ (yj hm)
 exact dM (qd e) (XC ed h)
def jP(s:aa):Bool:=decide ((digits s).1.length<=17)
def iA(s:aa):Int:=if(digits s).1.length<=17 then val s else 0
def Cn{s:aa}(h:jP s=true):iA s=val s:=by
 unfold jP at h;unfold iA;rw[aV (aG h)]
def aao{s:aa}(h:jP s=true):-100000000000000000<val s/\val s<100000000000000000:=by
 unfold jP at h;have h:=aG h;have h1:=re (digits s).1 (o8 s);have h3:10^(digits s).1.length<=10^17:=eE zO h;unfold val;split<;>omega
def aap{s:aa}(h:val s=0):jP s=true/\iA s=0:=by
 have h1:(digits s).1.length=0:=by
  have:=CS s;have h2:natVal (digits s).1=0:=by
   unfold val at h;split at h<;>omega
  rw[h2,kK]at this;rw[this];rfl
 unfold jP iA;rw[h1];exact⟨by simp,by rw[aV zO,h]⟩
def X0{a b:aa}(h:(((((jP a&&jP b)&&decide (iA a<1000000000))&&decide (-1000000000<iA a))&&decide (iA b<1000000000))&&decide (-1000000000<iA b))=true):
  IntKind.i64.wrap (iA a*iA b)=val a*val b/\-1000000000000000000<val a*val b/\val a*val b<1000000000000000000:=by
 simp only[bd,cd]at h;obtain⟨⟨⟨⟨⟨h1,h2⟩,h3⟩,h4⟩,h5⟩,h6⟩:=h;rw[Cn h1]at*;rw[Cn h2]at*;have key:(val a*val b).natAbs<=999999999*999999999:=by
  rw[Fo];exact Fl zO zO
 have h7:-1000000000000000000<val a*val b/\val a*val b<1000000000000000000:=by omega
 exact⟨cT zO zO,h7⟩
def am3{a b:aa}(h:(((((jP a&&jP b)&&decide (iA a<1000000000))&&decide (-1000000000<iA a))&&decide (iA b<1000000000))&&decide (-1000000000<iA b))=false):
  (val a).natAbs≠0\/(val b).natAbs≠0:=by
 by_cases ha:val a=0
 ·by_cases hb:val b=0
  ·obtain⟨a1,a2⟩:=aap ha;obtain⟨b1,b2⟩:=aap hb;rw[a1,a2,b1,b2]at h;exact absurd h zD
  ·right;omega
 ·left;omega
def amZ(a b:aa):ofInt (if(decide (val a<0)!=decide (val b<0))=true then -(((val a).natAbs*(val b).natAbs:Nat):Int)else(((val a).natAbs*(val b).natAbs:Nat):Int))=ofInt (val a*val b):=by
 congr 1
 rw[wv];by_cases h1:val a<0
 ·by_cases h2:val b<0
  ·have e1:((val a).natAbs:Int)=-val a:=by omega
   have e2:((val b).natAbs:Int)=-val b:=by omega
   simp[h1,h2,e1,e2,C9,wo]
  ·have e1:((val a).natAbs:Int)=-val a:=by omega
   have e2:((val b).natAbs:Int)=val b:=by omega
   simp[h1,h2,e1,e2,C9,wo]
 ·by_cases h2:val b<0
  ·have e1:((val a).natAbs:Int)=val a:=by omega
   have e2:((val b).natAbs:Int)=-val b:=by omega
   simp[h1,h2,e1,e2,C9,wo]
  ·have e1:((val a).natAbs:Int)=val a:=by omega
   have e2:((val b).natAbs:Int)=val b:=by omega
   simp[h1,h2,e1,e2,C9,wo]
def am0(a b:aa){k:Nat}(h:a.length+b.length<=k):(ak ((val a).natAbs*(val b).natAbs)).length<=k:=by
 rw[<-Fo];exact dM (aml (BD a b)) h
def afG{b:aa}(hb:0<val b):(jP b&&decide (iA b=0))=false:=by
 cases h:jP b with
 |false=>rfl
 |true=>rw[Cn h];simp;omega
def K1{a b:aa}(h:(jP a&&jP b)=true)(hb:0<val b):iA a=val a/\iA b=val b/\iA b≠0/\(val a).tdiv (val b)=(if 0<=val a\/val b∣val a then val a/val b else val a/val b+1)/\(val a).tmod (val b)=(if 0<=val a\/val b∣val a then val a%val b else val a%val b-val b)/\
  -100000000000000000<val a/val b/\val a/val b<100000000000000000/\0<=val a%val b/\val a%val b<val b/\val b<100000000000000000:=by
 rw[bd]at h;have h1:=aao h.1;have h2:=aao h.2;have hm:=Int.emod_nonneg (val a) (show val b≠0 by omega);have hl:=Int.emod_lt_of_pos (val a) hb;have hd:(val a/val b).natAbs<=(val a).natAbs:=Int.natAbs_ediv_le_natAbs _ _;refine⟨Cn h.1,Cn h.2,by rw[Cn h.2];omega,?_,?_,by omega,by omega,hm,hl,h2.2⟩
 ·rw[Int.tdiv_eq_ediv];by_cases k:0<=val a\/val b∣val a
  ·rw[aV k,aV k];simp
  ·rw[aF k,aF k,Int.sign_eq_one_of_pos hb]
 ·rw[Int.tmod_eq_emod];by_cases k:0<=val a\/val b∣val a
  ·rw[aV k,aV k];simp
  ·rw[aF k,aF k,Int.natAbs_of_nonneg zO]
def wA{a b:aa}(h:(jP a&&jP b)=true)(hb:0<val b):
  IntKind.i64.wrap ((iA a).tdiv (iA b))=(val a).tdiv (val b)/\(iA a).tmod (iA b)=(val a).tmod (val b)/\
  ((decide ((val a).tmod (val b)≠0)&&(decide ((val a).tmod (val b)<0)!=decide (iA b<0)))=true->
   IntKind.i64.wrap ((val a).tdiv (val b)-1)=val a/val b/\IntKind.i64.wrap ((val a).tmod (val b)+iA b)=val a%val b)/\
  ((decide ((val a).tmod (val b)≠0)&&(decide ((val a).tmod (val b)<0)!=decide (iA b<0)))=false->(val a).tdiv (val b)=val a/val b/\(val a).tmod (val b)=val a%val b):=by
 obtain⟨e1,e2,_,h3,h4,h5,h6,h7,h8,h9⟩:=K1 h hb;rw[e1,e2,h3,h4];have hd:val b∣val a↔val a%val b=0:=Int.dvd_iff_emod_eq_zero;by_cases k:0<=val a\/val b∣val a
 ·have k':0<=val a\/val a%val b=0:=k.imp id hd.1;rw[aV k,aV k];refine⟨cT zO zO,rfl,fun hc=>?_,fun _=>⟨rfl,rfl⟩⟩;simp only[bd,cd,bne_iff_ne,ne_eq,ou]at hc;omega
 ·have k':¬(0<=val a\/val a%val b=0):=fun h=>k (h.imp id hd.2);rw[aF k,aF k];refine⟨cT zO zO,rfl,fun _=>⟨?_,?_⟩,fun hc=>?_⟩
  ·rw[Int.add_sub_cancel];exact cT zO zO
  ·rw[Int.sub_add_cancel];exact cT zO zO
  ·exfalso;have a1:decide (val a%val b-val b≠0)=true:=iH zO;have a2:decide (val a%val b-val b<0)=true:=iH zO;have a3:decide (val b<0)=false:=tR zO;rw[a1,a2,a3]at hc;cases hc
def Sv{a b:aa}(h:(jP a&&jP b)=true)(hb:0<val b):iA b≠0:=(K1 h hb).2.2.1
def Gk{a b:aa}(h:(jP a&&jP b)=true)(hb:0<val b):(-1000000000000000000<val a/val b/\val a/val b<1000000000000000000)/\-1000000000000000000<val a%val b/\val a%val b<1000000000000000000:=by
 obtain⟨_,_,_,_,_,h5,h6,h7,h8,h9⟩:=K1 h hb;omega
def K0{a b:Int}(hb:0<b)(hx:0<=a\/a%b=0):(if(decide (a<0)!=decide (b<0))=true then -((a.natAbs/b.natAbs:Nat):Int)else((a.natAbs/b.natAbs:Nat):Int))=a/b/\
  (if decide (a<0)=true then -((a.natAbs%b.natAbs:Nat):Int)else((a.natAbs%b.natAbs:Nat):Int))=a%b/\(a<0->a.natAbs%b.natAbs=0):=by
 have hbn:decide (b<0)=false:=tR zO;rw[hbn,Bool.bne_false];by_cases ha:a<0
 ·have hz:a%b=0:=hx.resolve_left zO;have hd:b∣a:=Int.dvd_of_emod_eq_zero hz;have hn:a.natAbs%b.natAbs=0:=Nat.mod_eq_zero_of_dvd (Int.natAbs_dvd_natAbs.2 hd);refine⟨?_,?_,fun _=>hn⟩
  ·have:=LR hb (a:=a) (fun k=>k.2 hn);simpa[ha]using this
  ·rw[hn,hz];simp
 ·obtain⟨n,rfl⟩:∃n:Nat,b=n:=⟨b.toNat,by omega⟩;obtain⟨k,rfl⟩:∃k:Nat,a=k:=⟨a.toNat,by omega⟩;have h0:decide ((k:Int)<0)=false:=tR ha;rw[h0];simp only[gM,pb,oH];exact⟨by simp,by simp,fun h=>absurd h ha⟩
def afF{a b:aa}(hb:0<val b)(hx:0<=val a\/val a%val b=0):(decide (0<((encI (ak ((val a).natAbs%(val b).natAbs))).length:Int))&&(decide (val a<0)!=decide (val b<0)))=false:=by
 have h:=(K0 hb hx).2.2;by_cases ha:val a<0
 ·rw[h ha,oF];rfl
 ·have h1:decide (val a<0)=false:=tR ha;have h2:decide (val b<0)=false:=tR zO;rw[h1,h2];simp
def Yx{n:Nat}{a b:aa}(h:n<=max (val a).natAbs (val b).natAbs):(ofInt (n:Int)).length<=max a.length b.length+1:=by
 rcases Nat.le_total (val a).natAbs (val b).natAbs with k|k
 ·have:=II (n:=(n:Int)) (s:=b) zO;omega
 ·have:=II (n:=(n:Int)) (s:=a) zO;omega
def ZT{n d:aa}(hd:0<val d)(h:decide (gA n []=0)=true):cS (val n) (val d)=⟨[],[]⟩:=by
 have h:=aG h;rw[F4,Co]at h;rw[h,Xv hd]
def ZV{n:aa}(h:decide (gA n []=0)=false):val n≠0:=by
 intro k;have h:=fj h;rw[F4,Co]at h;exact h k
def E0{d:aa}(hd:0<val d):decide (fX (val d-val [])<0)=false:=by
 apply tR;rw[P2];omega
def ZW{x:Int}:decide (gA (ofInt x) [49]=0)=decide (ofInt x=[49]):=by
 rw[ou,tU,gO,val_one,Co];constructor
 ·intro h;rw[show x=1 by omega];exact ofInt_one
 ·intro h;have:=aT val h;rw[gO,val_one]at this;omega
def G3(n d:Int)(h:0<d):0<val (ofInt (Int.gcd n d:Int))/\n%val (ofInt (Int.gcd n d:Int))=0/\d%val (ofInt (Int.gcd n d:Int))=0:=by
 refine⟨G4 n zO,?_,?_⟩
 ·rw[gO];exact Int.emod_eq_zero_of_dvd (Int.gcd_dvd_left n d)
 ·rw[gO];exact Int.emod_eq_zero_of_dvd (Int.gcd_dvd_right n d)
def T7(s:aa):(digits s).1=ofInt ((val s).natAbs:Int):=by
 rw[CS s];unfold ofInt;rw[aF zO,oH]
 congr 1
 unfold val;split<;>omega
open Go.Proofs Go.Proofs.Tryz
def aqW(s:aa)(hs:17<(digits s).1.length):Fc prog 255 [.str s] (.a_ [.i 0,.b false]):=by
 refine gq func255 ntmps255 results255 ?_;refine U.nB 0 rfl (fun hb=>?_);simp only[aD]at hb;exact go []<|oP (ah call251 rfl (uv _))<|aM zQ<|cw rfl rfl (Sub.refl _) (Sub.refl _)
def Jt(s:aa):Fc prog 255 [.str s] (.a_ [.i (iA s),.b (jP s)]):=by
 by_cases h:(digits s).1.length<=17
 ·have:=P3 s h;simpa[iA,jP,h]using this
 ·have:=aqW s zO;simpa[iA,jP,h]using this
def XY(a b:aa)(ha:a.length<=4000)(hb:b.length<=4000):Fc prog 197 [.str a,.str b] (.str (ofInt (val a*val b))):=by
 refine ay func197 ntmps197 results197 ?_;have HB:=tG a;have nO:=tG b;refine U.seq<|rg<|.ag rfl rfl<|.nil<|U.seq<|rg<|.mv rfl rfl<|.P rfl (ah call255 rfl (Jt _))<|.mv rfl rfl<|.P rfl (eP rfl rfl)<|.P rfl (eP rfl rfl)<|.ag rfl rfl<|.ag rfl rfl<|.nil<|U.seq<|rg<|.mv rfl rfl<|.P rfl (ah call255 rfl (Jt _))<|.mv rfl rfl<|.P rfl (eP rfl rfl)<|.P rfl (eP rfl rfl)<|.ag rfl rfl<|.ag rfl rfl<|.nil<|U.seq (U.seq (U.e_ [.p,.p,.p,.p,.p,.p,.p,.p,.p,.p,.p,.p,.p,.p,.p,.p,.p,.p,.p,.p] ?_));refine .mv rfl rfl<|.mv rfl rfl<|.gT rfl (.inl rfl) rfl rfl rfl (fun hg=>pk (fun _=>aX rfl _))<|.P rfl (iy rfl rfl)<|.mv rfl rfl<|.gT rfl (.inl rfl) rfl rfl rfl (fun hg=>pk (fun _=>aX rfl _))<|.gT rfl (.inl rfl) rfl rfl rfl (fun hg=>pk (fun _=>bp (bn rfl hg) rfl _))<|.P rfl (iy rfl rfl)<|.mv rfl rfl<|.gT rfl (.inl rfl) rfl rfl rfl (fun hg=>pk (fun _=>aX rfl _))<|.gT rfl (.inl rfl) rfl rfl rfl (fun hg=>pk (fun _=>gE (bn rfl hg) rfl _))<|.P rfl (iy rfl rfl)<|.mv rfl rfl<|.gT rfl (.inl rfl) rfl rfl rfl (fun hg=>pk (fun _=>aX rfl _))<|.gT rfl (.inl rfl) rfl rfl rfl (fun hg=>pk (fun _=>bp (bn rfl hg) rfl _))<|.P rfl (iy rfl rfl)<|.mv rfl rfl<|.gT rfl (.inl rfl) rfl rfl rfl (fun hg=>pk (fun _=>aX rfl _))<|.gT rfl (.inl rfl) rfl rfl rfl (fun hg=>pk (fun _=>gE (bn rfl hg) rfl _))<|.P rfl (iy rfl rfl)<|.nil<|U.cond rfl (fun h1=>?_) (fun h1=>?_)
 ·refine U.seq<|rg<|.mv rfl rfl<|.mv rfl rfl<|.P rfl (so rfl rfl (X0 h1).1)<|.P rfl (ah call199 rfl (zg _ (X0 h1).2))<|.ag rfl rfl<|.nil<|U.ret (?_);exact dt rfl (Sub.refl _)
 ·refine U.skip<|U.seq<|rg<|.mv rfl rfl<|.P rfl (ah call256 rfl (Ja _ zO))<|.mv rfl rfl<|.P rfl (ah call256 rfl (Ja _ zO))<|.W rfl (jC 0 zeroValue260 rfl)<|.W rfl (jC 1 zeroValue260 rfl)<|.W rfl (kP sizeOf260 rfl rfl rfl rfl rfl rfl)<|.W rfl (kP sizeOf260 rfl rfl rfl rfl rfl rfl)<|.nil ?_;refine U.bc (Le.fx 9 0 rfl rfl rfl rfl) ?_;refine U.bc (Le.fx 10 1 rfl rfl rfl rfl) ?_;refine U.seq (U.pE [.p,.p,.p,.p,.p,.p,.p,.p,.p,.p,.p,.p,.p] l7 zK ?_);refine .P rfl (lr (n:=0) 4 0 underlying260 sizeOf4 rfl rfl rfl)<|.P rfl (bE isAgg4 rfl)<|.P rfl (lr (n:=0) 4 0 underlying260 sizeOf4 rfl rfl rfl)<|.P rfl (bE isAgg4 rfl)<|.P rfl (B_ underlying4 rfl rfl)<|.P rfl (lr (n:=0) 25 1 underlying260 sizeOf25 rfl rfl rfl)<|.P rfl (bE isAgg25 rfl)<|.P rfl (lr (n:=0) 25 1 underlying260 sizeOf25 rfl rfl rfl)<|.P rfl (bE isAgg25 rfl)<|.P rfl (ah call258 rfl (arP _ _ zO zO (am3 h1)))<|.P rfl (rn (pl:=#[(0,1),(1,1)]) underlying260 zeroValue260 (fun w=>by kernel_rfl) rfl rfl)<|.P rfl (ah call257 rfl (Qw _ _ (am0 a b zO)))<|.ag rfl rfl<|.nil<|U.ret (?_);exact dt rfl (Sub.str (by exact amZ a b))
structure afQ(A B:Nat)where
 lo:List Nat
 hi:List Nat
 qs:List Nat
 R:Nat
 hx:ak A=lo++hi
 hq:qs.length=hi.length
 HH:aZ qs
 DI:an qs=an hi/B
 hR:R=an hi%B
structure afR(A B:Nat)(i hi qs:List Nat)(x R:Nat)where
 low:Nat
 high:Nat
 g1:low<=(x+gB*R)/B
 g2:(x+gB*R)/B<=high
 g3:high<gB
def afP(A B:Nat)(hA:A≠0)(hB:0<B)(hAl:(ak A).length<=10000)(Dm:(ak B).length<=10000):Fc prog 364 [sI (ak A),sI (ak B)] (.a_ [sI (ak (A/B)),sI (ak (A%B))]):=by
 refine gq func364 ntmps364 results364 ?_;have hA0:(ak A).length≠0:=fun e=>hA (qZ e);refine U.seq<|rg<|.ag rfl rfl<|.ag rfl rfl<|.nil<|U.seq<|rg<|.mv rfl rfl<|.P rfl (cv underlying25 rfl)<|.W rfl (xz (bt:=8) 0 (ak A).length underlying25 sizeOf3 typeInfo3 zeroValue3 rfl rfl rfl rfl rfl (by simp[encI]) (by simp[encI]) (dP (ak A).length) zO zO zO rfl)<|.P rfl (t_ underlying25 sizeOf3)<|.ag rfl rfl<|.ag rfl rfl<|.nil<|U.seq<|U.seq<|rg<|.mv rfl rfl<|.P rfl (cv underlying25 rfl)<|.P rfl (dx rfl rfl (cT zO zQ))<|.ag rfl rfl<|.nil<|U.block<|U.loop (ι:=afQ A B) (fun sx=>[(0,sI (ak A)),(1,sI (ak B)),(6,.gs 0 (ak A).length),(7,sI (ak sx.R)),(8,.i ((sx.lo.length:Int)-1))]) (fun sx=>[(0,.arr 1 (encI (List.replicate sx.lo.length 0++sx.qs)))]) (fun sx=>sx.lo.length) ⟨ak A,[],[],0,by simp,rfl,(fun _ h=>by cases h),by simp[an],by simp[an]⟩ ?_ ?_
 ·exact Le.mk rfl (.n 2 rfl rfl (.cons rfl (Sub.gs zS) rfl (.cons rfl (Sub.snap (by rw[oF];rfl)) rfl (.cons rfl (Sub.int zS) rfl .nil)))) (.arr rfl (by simp[encI]) .nil)
 ·rintro⟨lo,hi,qs,R,hx,hq,HH,DI,hR⟩;dsimp only;rcases np lo with rfl|⟨i,x,rfl⟩
  ·obtain rfl:ak A=hi:=by simpa using hx
   rw[fK]at DI hR;refine U.seq<|U.seq<|rg<|.mv rfl rfl<|.P rfl (qi rfl rfl)<|.nil<|U.c6 rfl zS<|U.exit (dz (du ?_));refine U.bc (Le.freeze 6 0 rfl rfl (by simp[encI];omega)) ?_;refine U.seq<|rg<|.mv rfl rfl<|.P rfl (ah call294 rfl (JG _))<|.mv rfl rfl<|.ag rfl rfl<|.ag rfl rfl<|.nil<|U.ret (?_);exact rq rfl rfl (Sub.snap (by rw[sS (by simpa using HH)];simp[DI])) (Sub.snap (by rw[hR]))
  ·have hl:=aT List.length hx;simp only[bl,bD,hG]at hl;have jf:=fc A x (by rw[hx];simp);have aU:=agb (x:=x) (H:=an hi) hB jf;rw[<-hR]at aU;have UF:=n0 (an hi) hB;rw[<-hR]at UF;have hRl:(ak R).length<=10000:=dM (qd (yj UF)) Dm;have hXl:(ak (x+gB*R)).length<=10001:=XC jf hRl;refine U.seq<|U.seq<|rg<|.mv rfl rfl<|.P rfl (qi rfl rfl)<|.nil<|U.ew rfl zS<|U.skip<|U.seq<|U.block<|U.seq<|rg<|.mv rfl rfl<|.mv rfl rfl<|.P rfl (eC underlying25 sizeOf3 rfl rfl zS (aK (pre:=i) (rest:=hi) (x:=x) (fun(n:Nat)=>[D.i (n:Int)]) (by rw[hx];simp) zS))<|.P rfl (bE isAgg3 rfl)<|.P rfl (bK (n:=1) (rows:=encI [x]) underlying25 sizeOf3 rfl rfl rfl zeroValue3 rfl rfl rfl rfl rfl rfl rfl)<|.mv rfl rfl<|.P rfl (ao8 underlying25 underlying25 sizeOf3 typeInfo3 zeroValue3 rfl (bt:=8) rfl rfl rfl rfl (by simp[encI];omega))<|.P rfl (ah call294 rfl (atb x R jf))<|.ag rfl rfl<|.nil<|U.seq<|rg<|.ag rfl rfl<|.ag rfl rfl<|.nil<|U.seq<|U.block<|U.loop (ι:=afR A B i hi qs x R) (fun sx=>[(0,sI (ak A)),(1,sI (ak B)),(6,.gs 0 (ak A).length),(7,sI (ak (x+gB*R))),(8,.i (i.length:Int)),(9,.i (sx.low:Int)),(10,.i (sx.high:Int))]) (fun sx=>[(0,.arr 1 (encI (List.replicate (i++[x]).length 0++qs)))]) (fun sx=>sx.high-sx.low) ⟨0,999999999,Bp _,by have h9:=aU.1;unfold gB at h9|-;omega,by unfold gB;omega⟩ ?_ ?_
   ·exact Le.mk rfl (.n 2 rfl rfl (.cons rfl (Sub.gs zS) rfl (.s rfl rfl (.cons rfl (Sub.int zS) rfl (.n 2 rfl rfl .nil))))) (.arr rfl zS .nil)
   ·rintro⟨low,high,g1,g2,g3⟩;dsimp only;have g4:=g3;unfold gB at g4;refine U.seq<|U.seq<|rg<|.mv rfl rfl<|.mv rfl rfl<|.P rfl (bp rfl rfl)<|.nil<|U.cond rfl (fun h1=>?_) (fun h1=>?_)
    ·have bJ:=h1;try simp only[bs]at bJ
     refine U.skip<|U.block<|U.seq<|rg<|.mv rfl rfl<|.mv rfl rfl<|.P rfl (bx rfl rfl (FT zO))<|.P rfl (bx rfl rfl (FT (b:=1) zO))<|.P rfl (lu rfl rfl zD (apH zO))<|.ag rfl rfl<|.nil<|U.seq<|rg<|.mv rfl rfl<|.mv rfl rfl<|.P rfl (bK (n:=1) (rows:=encI [(low+high+1)/2]) underlying25 sizeOf3 rfl rfl rfl zeroValue3 rfl rfl rfl rfl rfl rfl rfl)<|.P rfl (ah call258 rfl ((aaK B ((low+high+1)/2) Dm zO).sub))<|.mv rfl rfl<|.P rfl (ah call297 rfl (aom _ _ (dM (XA (m:=_) Dm) zO) zO))<|.P rfl (EV rfl rfl)<|.nil<|U.cond rfl (fun h2=>?_) (fun h2=>?_)
     ·refine rg<|.mv rfl rfl<|.ag rfl rfl<|.nil<|U.nil (bR ?_);refine U.nil (cz ?_);exact⟨⟨(low+high+1)/2,high,(SF hB).1 (by rw[YU]at h2;exact aG h2),g2,g3⟩,by simp at*;omega,Le.mk rfl (.n 2 rfl rfl (.cons rfl (Sub.gs zS) rfl (.n 4 rfl rfl .nil))) (.arr rfl zS .nil)⟩
     ·refine rg<|.mv rfl rfl<|.P rfl (dx rfl rfl (ao zO))<|.ag rfl rfl<|.nil<|U.nil (bR ?_);refine U.nil (cz ?_);exact⟨⟨low,(low+high+1)/2-1,g1,by rw[YU]at h2;have h9:¬(low+high+1)/2<=(x+gB*R)/B:=fun k=>fj h2 ((SF hB).2 k);omega,by omega⟩,by simp at*;omega,Le.mk rfl (.n 2 rfl rfl (.cons rfl (Sub.gs zS) rfl (.n 3 rfl rfl (.cons rfl (Sub.int zQ) rfl .nil)))) (.arr rfl zS .nil)⟩
    ·have kZ:low=(x+gB*R)/B:=by simp at*;omega
     refine U.exit (dz (du ?_));refine U.seq<|rg<|.mv rfl rfl<|.mv rfl rfl<|.mv rfl rfl<|.P rfl (ca (off:=(i.length)*1) underlying25 sizeOf3 rfl rfl zO zO zO)<|.W rfl (ic (r:=_) (i.length) 0 sizeOf3 rfl rfl rfl rfl rfl rfl agl zS)<|.nil<|U.seq<|rg<|.mv rfl rfl<|.P rfl (gE rfl rfl)<|.nil<|U.cond rfl (fun h3=>?_) (fun h3=>?_)
     ·refine rg<|.mv rfl rfl<|.mv rfl rfl<|.mv rfl rfl<|.P rfl (bK (n:=1) (rows:=encI [low]) underlying25 sizeOf3 rfl rfl rfl zeroValue3 rfl rfl rfl rfl rfl rfl rfl)<|.P rfl (ah call258 rfl ((aaK B low Dm zO).sub))<|.P rfl (ah call298 rfl (amU _ _ zO (dM (XA (m:=_) Dm) zO) (by rw[kZ];exact aga _ _)))<|.ag rfl rfl<|.nil<|U.nil (bR ?_);refine rg<|.mv rfl rfl<|.P rfl (dx rfl rfl (ao zO))<|.ag rfl rfl<|.nil<|U.nil (cz ?_);exact⟨⟨i,x::hi,low::qs,(x+gB*R)-B*low,by rw[hx];simp,by simp[hq],XE zO HH,by rw[an,an,kZ,DI];exact aU.2.1,by rw[kZ,SG,an];exact aU.2.2⟩,by simp,Le.mk rfl (.n 2 rfl rfl (.cons rfl (Sub.gs zS) rfl (.cons rfl (Sub.refl _) rfl (.s rfl rfl .nil)))) (.arr rfl (by exact SP) .nil)⟩
     ·refine U.skip<|U.nil (bR ?_);refine rg<|.mv rfl rfl<|.P rfl (dx rfl rfl (ao zO))<|.ag rfl rfl<|.nil<|U.nil (cz ?_);exact⟨⟨i,x::hi,low::qs,(x+gB*R),by rw[hx];simp,by simp[hq],XE zO HH,by rw[an,an,kZ,DI];exact aU.2.1,by rw[an,<-aU.2.2,<-SG,<-kZ,show low=0 by simp at*;omega];simp⟩,by simp,Le.mk rfl (.n 2 rfl rfl (.cons rfl (Sub.gs zS) rfl (.cons rfl (Sub.refl _) rfl (.s rfl rfl .nil)))) (.arr rfl (by exact SP) .nil)⟩
end Go.T
namespace Go.T
open Go
variable[bX]
structure Bx where
 bo:Nat
 fi:Nat
 id:Nat
 z:List D
 f:List D
structure rC(listed:Array Bool)(Z:ae)(b:Bx):Prop where
 no:bf listed b.bo=false->Z.get b.id=none
 mid:bf listed b.bo=true->bf listed b.fi=false->Z.get b.id=some (.cells b.z)
 yes:bf listed b.fi=true->Z.get b.id=some (.cells b.f)
 sQ:bf listed b.fi=true->bf listed b.bo=true
def rC.other{listed:Array Bool}{Z aj:ae}{b:Bx}{i:Nat}(h:rC listed Z b)(hi:i<listed.size)(h1:i≠b.bo)(h2:i≠b.fi)(ho:aj.get b.id=Z.get b.id):rC (listed.setIfInBounds i true) aj b:=by
 refine⟨fun e=>?_,fun e e'=>?_,fun e=>?_,fun e=>?_⟩
 ·rw[fU hi,aF h1]at e;rw[ho];exact h.no e
 ·rw[fU hi,aF h1]at e;rw[fU hi,aF h2]at e';rw[ho];exact h.mid e e'
 ·rw[fU hi,aF h2]at e;rw[ho];exact h.yes e
 ·rw[fU hi,aF h2]at e;rw[fU hi,aF h1];exact h.sQ e
def rC.make{listed:Array Bool}{Z:ae}{b:Bx}(h:rC listed Z b)(hi:b.bo<listed.size)(hl:bf listed b.bo=false)(hs:b.bo≠b.fi):rC (listed.setIfInBounds b.bo true) ((b.id,.cells b.z)::Z) b:=by
 have hn:∀{A:Prop},bf (listed.setIfInBounds b.bo true) b.fi=true->A:=fun e=>by
  rw[fU hi,aF hs]at e;rw[h.sQ e]at hl;cases hl
 refine⟨fun e=>?_,fun _ _=>by simp[ae.bm],fun e=>hn e,fun e=>hn e⟩;rw[fU hi,aV rfl]at e;cases e
def rC.fill{listed:Array Bool}{Z:ae}{b:Bx}(h:rC listed Z b)(hi:b.fi<listed.size)(hk:bf listed b.bo=true)(hs:b.bo≠b.fi):rC (listed.setIfInBounds b.fi true) (Z.set b.id (.cells b.f)) b:=by
 have hm:bf (listed.setIfInBounds b.fi true) b.bo=true:=by rw[fU hi,aF (qc hs)];exact hk
 refine⟨fun e=>?_,fun _ e=>?_,fun _=>by rw[ae.ej,aV rfl],fun _=>hm⟩
 ·rw[hm]at e;cases e
 ·rw[fU hi,aV rfl]at e;cases e
structure rD(ds:List (Option Nat))(VT:List D)(base:Env)(b c:Bx)(listed:Array Bool)(env:Env)(Z:ae):Prop where
 aB:qq ds (fun i d=>VT[i]?=some d) listed env
 cZ:∀t d,base.get t=some d->env.get t=some d
 b1:rC listed Z b
 b2:rC listed Z c
def rD.swap{ds:List (Option Nat)}{VT:List D}{base:Env}{b c:Bx}{listed:Array Bool}{env:Env}{Z:ae}(h:rD ds VT base b c listed env Z):rD ds VT base c b listed env Z:=⟨h.aB,h.cZ,h.b2,h.b1⟩
theorem rD.at{ds:List (Option Nat)}{VT:List D}{base:Env}{b c:Bx}{listed:Array Bool}{env:Env}{Z:ae}(h:rD ds VT base b c listed env Z){j t:Nat}{d:D}(hj:bf listed j=true)(ht:ds[j]?=some (some t))(hd:VT[j]?=some d):env.get t=some d:=by
 obtain⟨d',h1,h2⟩:=h.aB j t hj ht;rw[hd]at h2;cases h2;exact h1
abbrev wg(P:Program)(F:Fr)(ds:List (Option Nat))(VT:List D)(base:Env)(b c:Bx)(listed:Array Bool)(env:Env)(Z:ae)(i:Nat)(o:Oper)(ops:Array Oper):Prop:=
 ∃d aj gb dG,eF F.N o.dst=true/\On ops env o/\aq P o env Z d aj/\Le F (env.put o.dst d) aj gb dG/\rD ds VT base b c (listed.setIfInBounds i true) gb dG
def OY{ops:Array Oper}{env:Env}{o:Oper}(h:o.guard=none):On ops env o:=by unfold On;rw[h];trivial
section
variable{P:Program} {F:Fr} {ds:List (Option Nat)} {VT:List D} {base:Env} {b c:Bx} {listed:Array Bool} {env:Env} {Z:ae} {i t:Nat} {o:Oper} {ops:Array Oper} {d:D}
def Q_(h:∀t d,base.get t=some d->env.get t=some d)(hb:(base.get t).isNone=true):∀s e,base.get s=some e->Env.get ((t,d)::env) s=some e:=fun s e he=>by
 rw[Env.bm];by_cases HK:t=s
 ·subst HK;rw[he]at hb;cases hb
 ·rw[aF HK];exact h s e he
def sk(hI:rD ds VT base b c listed env Z)(hs:listed.size=ops.size)(hq:aq P o env Z d Z)(hV:VT[i]?=some d)(hi:ds[i]?=some (some t))(hd:x_ ds=true)(hb:(base.get t).isNone=true)(hN:eF F.N (some t)=true)(ho:o.dst=some t)(hg:o.guard=none)(hn:Nat.blt i ops.size=true)
  (hf:(!(i==b.bo)&&!(i==b.fi)&&!(i==c.bo)&&!(i==c.fi))=true):wg P F ds VT base b c listed env Z i o ops:=by
 have bb:i<listed.size:=by rw[hs];simpa[jE]using hn
 simp only[bd,lD,H3]at hf;exact⟨d,Z,(t,d)::env,Z,by rw[ho];exact hN,OY hg,hq,by rw[ho];exact Le.refl _ _ _,hI.aB.put hd bb hi hV,Q_ hI.cZ hb,hI.b1.other bb hf.1.1.1 hf.1.1.2 rfl,hI.b2.other bb hf.1.2 hf.2 rfl⟩
def XJ(hI:rD ds VT base b c listed env Z)(hs:listed.size=ops.size)(hl:bf listed b.bo=false)(hq:Z.get b.id=none->aq P o env Z (.box b.id 0) ((b.id,.cells b.z)::Z))(hV:VT[b.bo]?=some (.box b.id 0))(hi:ds[b.bo]?=some (some t))(hd:x_ ds=true)(hb:(base.get t).isNone=true)(hN:eF F.N (some t)=true)(ho:o.dst=some t)(hg:o.guard=none)
  (hn:Nat.blt b.bo ops.size=true)(hf:(!(b.bo==b.fi)&&!(b.bo==c.bo)&&!(b.bo==c.fi)&&!(b.id==c.id))=true):wg P F ds VT base b c listed env Z b.bo o ops:=by
 have bb:b.bo<listed.size:=by rw[hs];simpa[jE]using hn
 simp only[bd,lD,H3]at hf;exact⟨_,_,(t,.box b.id 0)::env,_,by rw[ho];exact hN,OY hg,hq (hI.b1.no hl),by rw[ho];exact Le.refl _ _ _,hI.aB.put hd bb hi hV,Q_ hI.cZ hb,hI.b1.make bb hl hf.1.1.1,hI.b2.other bb hf.1.1.2 hf.1.2 (by rw[ae.bm,aF hf.2])⟩
def Tv(hI:rD ds VT base b c listed env Z)(hs:listed.size=ops.size)(hl:bf listed b.fi=false)(hk:bf listed b.bo=true)(hq:Z.get b.id=some (.cells b.z)->aq P o env Z (.raw undef) (Z.set b.id (.cells b.f)))(hi:ds[b.fi]?=some none)(ho:o.dst=none)(hg:o.guard=none)
  (hn:Nat.blt b.fi ops.size=true)(hf:(!(b.bo==b.fi)&&!(b.fi==c.bo)&&!(b.fi==c.fi)&&!(b.id==c.id))=true):wg P F ds VT base b c listed env Z b.fi o ops:=by
 have bb:b.fi<listed.size:=by rw[hs];simpa[jE]using hn
 simp only[bd,lD,H3]at hf;exact⟨_,_,env,_,by rw[ho];rfl,OY hg,hq (hI.b1.mid hk hl),by rw[ho];exact Le.refl _ _ _,hI.aB.none bb hi,hI.cZ,hI.b1.fill bb hk hf.1.1.1,hI.b2.other bb hf.1.1.2 hf.1.2 (by rw[ae.ej,aF hf.2])⟩
theorem wg.swap(h:wg P F ds VT base c b listed env Z i o ops):wg P F ds VT base b c listed env Z i o ops:=by
 obtain⟨d,o1,e1,o2,h1,h2,h3,h4,h5⟩:=h;exact⟨d,o1,e1,o2,h1,h2,h3,h4,h5.swap⟩
def Xe(n j:Nat):bf (Array.replicate n false) j=false:=by
 unfold bf;rw[ja,Ep];split<;>rfl
def aks{n:Nat}(h1:Z.get b.id=none)(h2:Z.get c.id=none):rD ds VT env b c (Array.replicate n false) env Z:=by
 refine⟨fun j t h=>?_,fun _ _ h=>h,⟨fun _=>h1,fun e=>?_,fun e=>?_,fun e=>?_⟩,⟨fun _=>h2,fun e=>?_,fun e=>?_,fun e=>?_⟩⟩<;>(first|rw[Xe]at h|rw[Xe]at e)<;>contradiction
end
end Go.T
namespace Go.T
open Go Go.Proofs Go.Proofs.Tryz
def jQ(f:aO):Prop:=f.num.length<=60/\f.den.length<=60
def Su(a b:aa)(ha:a.length<=5000)(hb:b.length<=5000)(Mx:val a≠0)(gV:0<val b)(hx:0<=val a\/val a%val b=0):Fc prog 356 [.str a,.str b] (.a_ [.str (ofInt (val a/val b)),.str (ofInt (val a%val b)),.i 0]):=by
 refine AF func356 ntmps356 results356 ?_;have HB:=tG a;have nO:=tG b;have hq1:(ak ((val a).natAbs/(val b).natAbs)).length<=5000:=dM (qd (D4 _ _)) zO;have wY:(ak ((val a).natAbs%(val b).natAbs)).length<=5000:=dM (qd (Nat.mod_le _ _)) zO;refine U.seq<|rg<|.ag rfl rfl<|.ag rfl rfl<|.ag rfl rfl<|.nil<|U.seq<|rg<|.mv rfl rfl<|.P rfl (ah call255 rfl (Jt _))<|.mv rfl rfl<|.P rfl (eP rfl rfl)<|.P rfl (eP rfl rfl)<|.ag rfl rfl<|.ag rfl rfl<|.nil<|U.seq<|rg<|.mv rfl rfl<|.P rfl (ah call255 rfl (Jt _))<|.mv rfl rfl<|.P rfl (eP rfl rfl)<|.P rfl (eP rfl rfl)<|.ag rfl rfl<|.ag rfl rfl<|.nil<|U.seq (U.seq (U.e_ [.p,.p,.p,.p,.p] ?_));refine .mv rfl rfl<|.mv rfl rfl<|.gT rfl (.inl rfl) rfl rfl rfl (fun hg=>pk (fun _=>aX rfl _))<|.gT rfl (.inl rfl) rfl rfl rfl (fun hg=>pk (fun _=>kO (bn rfl hg) rfl _))<|.P rfl (iy rfl rfl)<|.nil<|U.c6 rfl (afG gV)<|U.skip<|U.seq (U.seq (U.e_ [.p,.p,.p,.p] ?_));refine .mv rfl rfl<|.mv rfl rfl<|.gT rfl (.inl rfl) rfl rfl rfl (fun hg=>pk (fun _=>aX rfl _))<|.P rfl (iy rfl rfl)<|.nil<|U.cond rfl (fun h1=>?_) (fun h1=>?_)
 ·have mQ:=h1;refine U.seq (U.pE [.p,.p,.p,.p,.p,.p,.p,.p] l7 zK ?_);refine .mv rfl rfl<|.mv rfl rfl<|.P rfl (lu rfl rfl (Sv mQ gV) (wA mQ gV).1)<|.mv rfl rfl<|.mv rfl rfl<|.P rfl (lX rfl rfl (Sv mQ gV) (wA mQ gV).2.1)<|.ag rfl rfl<|.ag rfl rfl<|.nil<|U.seq (U.seq (U.e_ [.p,.p,.p,.p,.p,.p,.p,.p,.p] ?_));refine .mv rfl rfl<|.P rfl (zy rfl rfl)<|.mv rfl rfl<|.gT rfl (.inl rfl) rfl rfl rfl (fun hg=>pk (fun _=>aX rfl _))<|.gT rfl (.inl rfl) rfl rfl rfl (fun hg=>pk (fun _=>bp (bn rfl hg) rfl _))<|.gT rfl (.inl rfl) rfl rfl rfl (fun hg=>pk (fun _=>aX rfl _))<|.gT rfl (.inl rfl) rfl rfl rfl (fun hg=>pk (fun _=>bp (bn rfl hg) rfl _))<|.gT rfl (.inl rfl) rfl rfl rfl (fun hg=>pk (fun _=>B_ underlying4 (bn rfl hg) (bn rfl hg) _))<|.P rfl (iy rfl rfl)<|.nil<|U.cond rfl (fun h2=>?_) (fun h2=>?_)
  ·refine U.seq<|rg<|.mv rfl rfl<|.P rfl (dx rfl rfl ((wA mQ gV).2.2.1 h2).1)<|.ag rfl rfl<|.nil<|rg<|.mv rfl rfl<|.mv rfl rfl<|.P rfl (bx rfl rfl ((wA mQ gV).2.2.1 h2).2)<|.ag rfl rfl<|.nil<|U.seq<|rg<|.mv rfl rfl<|.P rfl (ah call199 rfl (zg _ (by exact(Gk mQ gV).1)))<|.mv rfl rfl<|.P rfl (ah call199 rfl (zg _ (by exact(Gk mQ gV).2)))<|.ag rfl rfl<|.ag rfl rfl<|.ag rfl rfl<|.nil<|U.ret (?_);exact PL rfl rfl rfl (Sub.refl _) (Sub.refl _) (Sub.refl _)
  ·refine U.skip<|U.seq<|rg<|.mv rfl rfl<|.P rfl (ah call199 rfl (zg _ (by(rw[((wA mQ gV).2.2.2 h2).1];exact(Gk mQ gV).1))))<|.mv rfl rfl<|.P rfl (ah call199 rfl (zg _ (by(rw[((wA mQ gV).2.2.2 h2).2];exact(Gk mQ gV).2))))<|.ag rfl rfl<|.ag rfl rfl<|.ag rfl rfl<|.nil<|U.ret (?_);exact PL rfl rfl rfl (Sub.str (by(rw[((wA mQ gV).2.2.2 h2).1];done))) (Sub.str (by(rw[((wA mQ gV).2.2.2 h2).2];done))) (Sub.refl _)
 ·refine U.skip<|U.seq<|rg<|.mv rfl rfl<|.P rfl (ah call256 rfl (Ja _ zO))<|.mv rfl rfl<|.P rfl (ah call256 rfl (Ja _ zO))<|.W rfl (jC 0 zeroValue260 rfl)<|.W rfl (jC 1 zeroValue260 rfl)<|.W rfl (kP sizeOf260 rfl rfl rfl rfl rfl rfl)<|.W rfl (kP sizeOf260 rfl rfl rfl rfl rfl rfl)<|.nil<|U.seq<|rg<|.P rfl (iN (n:=0) 25 1 underlying260 sizeOf25 rfl rfl)<|.R rfl (iY isAgg25 rfl rfl rfl)<|.P rfl (iN (n:=0) 25 1 underlying260 sizeOf25 rfl rfl)<|.R rfl (iY isAgg25 rfl rfl rfl)<|.P rfl (ah call364 rfl (afP _ _ zO zO zO zO))<|.mv rfl rfl<|.P rfl (eP rfl rfl)<|.P rfl (eP rfl rfl)<|.ag rfl rfl<|.ag rfl rfl<|.nil ?_;refine U.bc (Le.fx 13 0 rfl rfl rfl rfl) ?_;refine U.bc (Le.fx 14 1 rfl rfl rfl rfl) ?_;refine U.bc (show Le _ _ _ [(13,.bj [.b (decide (val a<0)),sI (ak (val a).natAbs)]),(14,.bj [.b (decide (val b<0)),sI (ak (val b).natAbs)]),(15,sI (ak ((val a).natAbs/(val b).natAbs))),(16,sI (ak ((val a).natAbs%(val b).natAbs)))] []from Le.mk rfl (.n 4 rfl rfl .nil) .nil) ?_
  refine U.seq (U.ZY (A:=fun _:Unit=>True) (gb:=fun _=>[(13,.bj [.b (decide (val a<0)),sI (ak (val a).natAbs)]),(14,.bj [.b (decide (val b<0)),sI (ak (val b).natAbs)]),(16,sI (ak ((val a).natAbs%(val b).natAbs))),(17,.box 20 0),(18,.box 21 0)]) (dG:=fun _=>[(20,.cells [.b ((decide (val a<0))!=(decide (val b<0))),sI (ak ((val a).natAbs/(val b).natAbs))]),(21,.cells [.b (decide (val a<0)),sI (ak ((val a).natAbs%(val b).natAbs))])]) (rD [some 74,some 75,some 76,some 77,some 78,some 79,some 80,some 81,some 82,some 83,some 84,some 17,some 18,none,none] [.bj [.b (decide (val a<0)),sI (ak (val a).natAbs)],.b (decide (val a<0)),.bj [.b (decide (val b<0)),sI (ak (val b).natAbs)],.b (decide (val b<0)),.b ((decide (val a<0))!=(decide (val b<0))),sI (ak ((val a).natAbs/(val b).natAbs)),.agg [.b ((decide (val a<0))!=(decide (val b<0))),sI (ak ((val a).natAbs/(val b).natAbs))],.bj [.b (decide (val a<0)),sI (ak (val a).natAbs)],.b (decide (val a<0)),sI (ak ((val a).natAbs%(val b).natAbs)),.agg [.b (decide (val a<0)),sI (ak ((val a).natAbs%(val b).natAbs))],.box 20 0,.box 21 0,.any,.any] [(13,.bj [.b (decide (val a<0)),sI (ak (val a).natAbs)]),(14,.bj [.b (decide (val b<0)),sI (ak (val b).natAbs)]),(15,sI (ak ((val a).natAbs/(val b).natAbs))),(16,sI (ak ((val a).natAbs%(val b).natAbs)))] (⟨11,13,20,[.raw (.bool false),.raw (.slice none 0 0)],[.b ((decide (val a<0))!=(decide (val b<0))),sI (ak ((val a).natAbs/(val b).natAbs))]⟩:Bx) (⟨12,14,21,[.raw (.bool false),.raw (.slice none 0 0)],[.b (decide (val a<0)),sI (ak ((val a).natAbs%(val b).natAbs))]⟩:Bx)) l7 zK (aks rfl rfl) ?_ ?_ ?_)
  ·exact⟨(fun _ _ _ hs hI hl hd=>by
    have K4:=hI.cZ 13 _ rfl;exact sk hI hs (lr (n:=0) 4 0 underlying260 sizeOf4 rfl (by exact K4) rfl _) rfl rfl zD rfl rfl rfl rfl rfl rfl),
    (fun _ _ _ hs hI hl hd=>by
    have Ld:=hI.at (dp hd 0 zK) (j:=0) rfl rfl;exact sk hI hs (bE isAgg4 (by exact Ld) _) rfl rfl zD rfl rfl rfl rfl rfl rfl),
    (fun _ _ _ hs hI hl hd=>by
    have e14:=hI.cZ 14 _ rfl;exact sk hI hs (lr (n:=0) 4 0 underlying260 sizeOf4 rfl (by exact e14) rfl _) rfl rfl zD rfl rfl rfl rfl rfl rfl),
    (fun _ _ _ hs hI hl hd=>by
    have Lf:=hI.at (dp hd 2 zK) (j:=2) rfl rfl;exact sk hI hs (bE isAgg4 (by exact Lf) _) rfl rfl zD rfl rfl rfl rfl rfl rfl),
    (fun _ _ _ hs hI hl hd=>by
    have CY:=hI.at (dp hd 1 zK) (j:=1) rfl rfl;have Lg:=hI.at (dp hd 3 zK) (j:=3) rfl rfl;exact sk hI hs (B_ underlying4 (by exact CY) (by exact Lg) _) rfl rfl zD rfl rfl rfl rfl rfl rfl),
    (fun _ _ _ hs hI hl hd=>by
    have fu:=hI.cZ 15 _ rfl;exact sk hI hs (aX (by exact fu) _) rfl rfl zD rfl rfl rfl rfl rfl rfl),
    (fun _ _ _ hs hI hl hd=>by
    have Lh:=hI.at (dp hd 4 zK) (j:=4) rfl rfl;have Li:=hI.at (dp hd 5 zK) (j:=5) rfl rfl;exact sk hI hs (rn (pl:=#[(0,1),(1,1)]) (dH:=[(0,.b ((decide (val a<0))!=(decide (val b<0)))),(1,sI (ak ((val a).natAbs/(val b).natAbs)))]) underlying260 zeroValue260 (fun w=>by kernel_rfl) (by simp only[Env.oO,Env.op,Lh,Li]) rfl _) rfl rfl zD rfl rfl rfl rfl rfl rfl),
    (fun _ _ _ hs hI hl hd=>by
    have K4:=hI.cZ 13 _ rfl;exact sk hI hs (lr (n:=0) 4 0 underlying260 sizeOf4 rfl (by exact K4) rfl _) rfl rfl zD rfl rfl rfl rfl rfl rfl),
    (fun _ _ _ hs hI hl hd=>by
    have CZ:=hI.at (dp hd 7 zK) (j:=7) rfl rfl;exact sk hI hs (bE isAgg4 (by exact CZ) _) rfl rfl zD rfl rfl rfl rfl rfl rfl),
    (fun _ _ _ hs hI hl hd=>by
    have K5:=hI.cZ 16 _ rfl;exact sk hI hs (aX (by exact K5) _) rfl rfl zD rfl rfl rfl rfl rfl rfl),
    (fun _ _ _ hs hI hl hd=>by
    have Lk:=hI.at (dp hd 8 zK) (j:=8) rfl rfl;have Ll:=hI.at (dp hd 9 zK) (j:=9) rfl rfl;exact sk hI hs (rn (pl:=#[(0,1),(1,1)]) (dH:=[(0,.b (decide (val a<0))),(1,sI (ak ((val a).natAbs%(val b).natAbs)))]) underlying260 zeroValue260 (fun w=>by kernel_rfl) (by simp only[Env.oO,Env.op,Lk,Ll]) rfl _) rfl rfl zD rfl rfl rfl rfl rfl rfl),
    (fun _ _ _ hs hI hl hd=>XJ hI hs hl (fun ce=>jC 20 zeroValue260 ce) rfl rfl zD rfl rfl rfl rfl rfl rfl),
    (fun _ _ _ hs hI hl hd=>wg.swap (XJ hI.swap hs hl (fun ce=>jC 21 zeroValue260 ce) rfl rfl zD rfl rfl rfl rfl rfl rfl)),
    (fun _ _ _ hs hI hl hd=>by
    have K6:=hI.at (dp hd 11 zK) (j:=11) rfl rfl;have Lj:=hI.at (dp hd 6 zK) (j:=6) rfl rfl;exact Tv hI hs hl (dp hd 11 zK) (fun ho=>kP sizeOf260 (by exact K6) (by exact Lj) rfl rfl ho rfl) rfl rfl rfl rfl rfl),
    (fun _ _ _ hs hI hl hd=>by
    have K7:=hI.at (dp hd 12 zK) (j:=12) rfl rfl;have Lm:=hI.at (dp hd 10 zK) (j:=10) rfl rfl;exact wg.swap (Tv hI.swap hs hl (dp hd 12 zK) (fun ho=>kP sizeOf260 (by exact K7) (by exact Lm) rfl rfl ho rfl) rfl rfl rfl rfl rfl)),trivial⟩
  ·intro listed e ob hs eI hI;exact⟨(),trivial,Le.mk rfl (.cons (hI.cZ 13 _ rfl) (Sub.refl _) rfl (.cons (hI.cZ 14 _ rfl) (Sub.refl _) rfl (.cons (hI.cZ 16 _ rfl) (Sub.refl _) rfl (.cons (hI.at (j:=11) (eI 11 zD) rfl rfl) (Sub.refl _) rfl (.cons (hI.at (j:=12) (eI 12 zD) rfl rfl) (Sub.refl _) rfl .nil))))) (.cons (hI.b1.yes (eI 13 zD)) rfl (.cons (hI.b2.yes (eI 14 zD)) rfl .nil))⟩
  intro _ _;refine U.seq (U.seq (U.e_ [.p,.p,.p,.p,.p,.p,.p,.p,.p,.p] ?_));refine .mv rfl rfl<|.P rfl (cv underlying25 rfl)<|.P rfl (gE rfl rfl)<|.mv rfl rfl<|.gT rfl (.inl rfl) rfl rfl rfl (fun hg=>pk (fun _=>lr (n:=0) 4 0 underlying260 sizeOf4 rfl rfl rfl _))<|.gT rfl (.inl rfl) rfl rfl rfl (fun hg=>pk (fun _=>bE isAgg4 (bn rfl hg) _))<|.gT rfl (.inl rfl) rfl rfl rfl (fun hg=>pk (fun _=>lr (n:=0) 4 0 underlying260 sizeOf4 rfl rfl rfl _))<|.gT rfl (.inl rfl) rfl rfl rfl (fun hg=>pk (fun _=>bE isAgg4 (bn rfl hg) _))<|.gT rfl (.inl rfl) rfl rfl rfl (fun hg=>pk (fun _=>B_ underlying4 (bn rfl hg) (bn rfl hg) _))<|.P rfl (iy rfl rfl)<|.nil<|U.c6 rfl (afF gV hx)<|U.skip<|U.seq (U.pE [.r,.p,.r,.p,.p,.p,.p] l7 zK ?_);refine .R rfl (B8 isAgg260 sizeOf260 rfl rfl rfl)<|.P rfl (ah call257 rfl (Qw _ _ zO))<|.R rfl (B8 isAgg260 sizeOf260 rfl rfl rfl)<|.P rfl (ah call257 rfl (Qw _ _ zO))<|.ag rfl rfl<|.ag rfl rfl<|.ag rfl rfl<|.nil<|U.ret (?_);exact PL rfl rfl rfl (Sub.str (by rw[(K0 gV hx).1])) (Sub.str (by rw[(K0 gV hx).2.1])) (Sub.refl _)
def afA(m n:Nat)(hm:m≠0)(hn:n≠0)(h1:(ofInt (m:Int)).length<=5000)(h2:(ofInt (n:Int)).length<=5000):Fc prog 356 [.str (ofInt (m:Int)),.str (ofInt (n:Int))] (.a_ [.str (ofInt ((m/n:Nat):Int)),.str (ofInt ((m%n:Nat):Int)),.i 0]):=by
 have:=Su (ofInt (m:Int)) (ofInt (n:Int)) h1 h2 (by rw[gO];omega) (by rw[gO];omega) (.inl (by rw[gO];omega));rw[gO,gO,<-Int.natCast_ediv,<-Int.natCast_emod]at this;exact this
structure ahM(a b:aa)where
 m:Nat
 n:Nat
 hm:m≠0
 hg:Nat.gcd m n=Nat.gcd (val a).natAbs (val b).natAbs
 hk:m<=max (val a).natAbs (val b).natAbs/\n<=max (val a).natAbs (val b).natAbs
def ahL(a b:aa)(ha:a.length<=4000)(hb:b.length<=4000)(Mx:val a≠0):Fc prog 334 [.str a,.str b] (.str (ofInt (Int.gcd (val a) (val b):Int))):=by
 refine ay func334 ntmps334 results334 ?_;refine go []<|oP (ah call251 rfl (uv _))<|oP (ah call251 rfl (uv _))<|U.loop (ι:=ahM a b) (fun sx=>[(9,.str (ofInt (sx.m:Int))),(10,.str (ofInt (sx.n:Int)))]) (fun sx=>[]) (fun sx=>sx.n) ⟨(val a).natAbs,(val b).natAbs,by omega,rfl,by omega,by omega⟩ ?_ ?_
 ·exact Le.mk rfl (.cons rfl (Sub.str (by exact T7 _)) rfl (.cons rfl (Sub.str (by exact T7 _)) rfl .nil)) .nil
 ·rintro⟨m,n,hm,hg,hk⟩;dsimp only;refine go []<|br (fun h1=>?_) (fun h1=>?_)
  ·have dQ:n≠0:=by rintro rfl;simp[OP]at h1
   exact oP (ah call356 rfl (afA m n hm dQ (by have:=Yx hk.1;omega) (by have:=Yx hk.2;omega)))<|nx ⟨n,m%n,dQ,by rw[<-hg,JW m n,Nat.gcd_rec n m,JW],hk.2,dM (Nat.mod_le _ _) hk.1⟩ (by exact n0 _ zO) (Le.mk rfl (.n 2 rfl rfl .nil) .nil)
  ·have dQ:n=0:=by have:=Yy.1 (by simpa using h1);omega
   exact go []<|af rfl (Sub.str (by subst dQ;rw[Nat.gcd_zero_right]at hg;rw[hg];rfl))
def S9(a b:aa)(ha:a.length<=5000)(hb:b.length<=5000)(Mx:val a≠0)(gV:0<val b)(hx:val a%val b=0):Fc prog 335 [.str a,.str b] (.str (ofInt (val a/val b))):=by
 refine ay func335 ntmps335 results335 ?_;exact go []<|oP (ah call356 rfl (Su a b ha hb Mx gV (.inr hx)))<|af rfl (Sub.refl _)
def Qz(a:aa):Fc prog 252 [.str a] (.b (decide (gA a []=0))):=by
 refine ay func252 ntmps252 results252 ?_;exact go []<|oP (ah call195 rfl (Al _ _))<|af rfl (Sub.refl _)
def OO:Fc prog 199 [.i 1] (.str [49]):=by
 have:=zg 1 zO;rwa[ofInt_one]at this
def YM:Fc prog 253 [] (.str [49]):=by
 refine ay func253 ntmps253 results253 ?_;exact go []<|oP (ah call199 rfl OO)<|af rfl (Sub.refl _)
def ap2(n d:aa)(hn:n.length<=2000)(hd:d.length<=2000)(qH:0<val d):Fc prog 295 [.str n,.str d] (.agg (cK (cS (val n) (val d)))):=by
 refine Fc.jM func295 rfl ntmps295 rfl rfl rfl ?_;have bY:=L4 (val n) (d:=d) zO;refine go [99999]<|oP (ah call252 rfl (Qz _))<|br (fun h1=>?_) (fun h1=>?_)
 ·refine U.ret (?_);exact Rd.cA results295 isAgg35 sizeOf35 rfl rfl rfl (Sub.agg (.cons (Sub.str (by rw[ZT qH h1])) (.cons (Sub.str (by rw[ZT qH h1])) .nil)))
 ·refine oP (ah call334 rfl (ahL n d zO zO (ZV h1)))<|oP (ah call335 rfl (S9 _ _ zO zO (ZV h1) (G3 (val n) (val d) qH).1 (G3 (val n) (val d) qH).2.1))<|oP (ah call335 rfl (S9 _ _ zO zO zO (G3 (val n) (val d) qH).1 (G3 (val n) (val d) qH).2.2))<|oP (ah call253 rfl YM)<|oP (ah call195 rfl (Al _ _))<|ord<|br (fun h2=>?_) (fun h2=>?_)
  ·refine U.ret (?_);exact Rd.cA results295 isAgg35 sizeOf35 rfl rfl rfl (Sub.agg (.cons (Sub.str (by(rw[(zE (E0 qH)).1];rfl))) (.cons (Sub.str (by exact Xw (by rw[<-(zE (E0 qH)).2,<-ZW];exact h2))) .nil)))
  ·refine U.ret (?_);exact Rd.cA results295 isAgg35 sizeOf35 rfl rfl rfl (Sub.agg (.cons (Sub.str (by(rw[(zE (E0 qH)).1];rfl))) (.cons (Sub.str (by(rw[(zE (E0 qH)).2];exact Xx (by rw[<-(zE (E0 qH)).2,<-ZW];exact h2)))) .nil)))
def PF(f:aO)(hf:jQ f):Fc prog 196 [.agg (cK f)] (.a_ [.str (fN f).1,.str (fN f).2]):=by
 refine gq func196 ntmps196 results196 ?_;have Hs:=hf.1;have U2:=hf.2;refine go []<|oP (ah call252 rfl (Qz _))<|br (fun h1=>?_) (fun h1=>?_)
 ·exact oP (ah call253 rfl YM)<|ord<|cw rfl rfl (Sub.str (by rw[EY h1])) (Sub.str (by rw[EY h1]))
 ·refine oP (ah call195 rfl (Al _ _))<|br (fun h2=>?_) (fun h2=>?_)
  ·exact oP (ah call254 rfl (Ym _ zO))<|oP (ah call254 rfl (Ym _ zO))<|ord<|cw rfl rfl (Sub.str (by rw[ZQ h1 h2])) (Sub.str (by rw[ZQ h1 h2]))
  ·exact ord<|cw rfl rfl (Sub.str (by rw[ZR h1 h2])) (Sub.str (by rw[ZR h1 h2]))
def Rn(f:aO)(hf:jQ f):Fc prog 259 [.agg (cK f)] (.agg (cK (cS (val (bQ f).1) (val (bQ f).2)))):=by
 refine Fc.jM func259 rfl ntmps259 rfl rfl rfl ?_;have fQ:=PG f zO hf;refine go [99999]<|oP (ah call196 rfl (PF _ zA))<|oP (ah call295 rfl (ap2 _ _ zO zO (EZ _)))<|U.ret (?_);exact Rd.cA results259 isAgg35 sizeOf35 rfl rfl rfl (Sub.agg (.cons (Sub.str (by rw[Ia])) (.cons (Sub.str (by rw[Ia])) .nil)))
def adC(f:aO)(hf:jQ f):Fc prog 249 [.agg (cK f)] (.i (iI f)):=by
 refine ay func249 ntmps249 results249 ?_;refine go []<|oP (ah call259 rfl (Rn _ zA))<|oP (oS (xs:=[f.num,f.den]) (ys:=[(cS (val (bQ f).1) (val (bQ f).2)).num,(cS (val (bQ f).1) (val (bQ f).2)).den]) underlying35 LW LW (.cons zK underlying33 isAgg33 rfl (.cons zK underlying33 isAgg33 rfl (.nil _))) rfl rfl rfl rfl rfl rfl)<|ord<|br (fun h1=>?_) (fun h1=>?_)
 ·exact af rfl (Sub.int (by unfold iI;rw[aF (RB h1)]))
 ·exact af rfl (Sub.int (by unfold iI;rw[aV (RA h1)]))
def RN(f k:aO)(hf:jQ f)(hh:jQ k):Fc prog 143 [.agg (cK f),.agg (cK k)] (.i (kg f k)):=by
 refine ay func143 ntmps143 results143 ?_;have fQ:=PG f zO hf;have axm:=PG k zO hh;exact go []<|oP (ah call196 rfl (PF _ zA))<|oP (ah call196 rfl (PF _ zA))<|oP (ah call197 rfl (XY _ _ zO zO))<|oP (ah call197 rfl (XY _ _ zO zO))<|oP (ah call195 rfl (Al _ _))<|af rfl (Sub.refl _)
def zI(f:aO)(hf:jQ f):Fc prog 191 [.agg (cK f)] (.i (kg f dJ)):=by
 refine ay func191 ntmps191 results191 ?_;exact go []<|oP (ah call143 rfl (RN f dJ hf ⟨by decide,by decide⟩))<|af rfl (Sub.refl _)
def Zf:cS (val (bQ ⟨[49],[49]⟩).1) (val (bQ ⟨[49],[49]⟩).2)=cS 1 1:=by
 have e:bQ ⟨[49],[49]⟩=([49],[49]):=by unfold bQ;rw[aF zD]
 rw[e,val_one]
def anm:Fc prog 198 [.str [49],.str [49]] (.a_ [.agg (cK (cS 1 1)),.i 0]):=by
 refine Fc.jM func198 rfl ntmps198 rfl rfl rfl ?_;refine go [99999]<|oP (ah call252 rfl (Qz _))<|aH zD<|oP (ah call259 rfl (Rn ⟨[49],[49]⟩ ⟨by decide,by decide⟩))<|U.ret (?_);exact Rd.FZ results198 isAgg35 sizeOf35 rfl rfl rfl rfl (Sub.agg (.cons (Sub.str (by rw[Zf])) (.cons (Sub.str (by rw[Zf])) .nil))) (Sub.refl _)
def apP:Fc prog 144 [.i 1,.i 1] (.agg (cK (cS 1 1))):=by
 refine Fc.jM func144 rfl ntmps144 rfl rfl rfl ?_;refine go [99999]<|oP (ah call199 rfl OO)<|oP (ah call199 rfl OO)<|oP (ah call198 rfl anm)<|U.ret (?_);exact Rd.cA results144 isAgg35 sizeOf35 rfl rfl rfl (Sub.agg (.r (.r .nil)))
end Go.T
