/- Contracts of functions that the statement reaches, and the logic in which they are proved (no condition). -/
import Derived.Test.YtapflgppmigcdaaGreatDoorA08
import Derived.Lib.Bytealg
set_option linter.all false
set_option maxRecDepth 20000
namespace Go.T
open Go
def F7{x y:List Nat}(hx:x.length≠0)(he:x.length=y.length):jl x.reverse y.reverse=if dv x<dv y then -1 else if dv y<dv x then 1 else jl x.dropLast.reverse y.dropLast.reverse:=by
 rcases np x with rfl|⟨i,a,rfl⟩
 ·simp at hx
 rcases np y with rfl|⟨j,b,rfl⟩
 ·simp at he
 simp[jl,dv]
def KC{x y:List Nat}(hx:x.length=0):jl x.reverse y.reverse=0:=by
 rw[cc.1 hx];rfl
def adY{x y:List Nat}(h:x.length=y.length):jc x y=jl x.reverse y.reverse:=by unfold jc;rw[aF zO]
def adX(x y:List Nat)(hx:x.length<=20000)(hy:y.length<=20000):-20000<=jc x y/\jc x y<=20000:=by
 unfold jc;split
 ·omega
 ·have:∀a b:List Nat,-1<=jl a b/\jl a b<=1:=by
   intro a;induction a with
   |nil=>intro b;simp[jl]
   |cons a x ih=>
    intro b;cases b with
    |nil=>simp[jl]
    |cons b y=>
     simp only[jl];split
     ·omega
     ·split
      ·omega
      ·exact ih y
  have:=this x.reverse y.reverse;omega
theorem RL:∀(n:Nat)(x y:List Nat),x.length=n->y.length=n->aZ x->aZ y->
  (jl x.reverse y.reverse<0↔an x<an y)/\(0<jl x.reverse y.reverse↔an y<an x)
 |0,x,y,hx,hy,_,_=>by
  rw[cc.1 hx,cc.1 hy];simp[jl,an]
 |n+1,x,y,hx,hy,ox,oy=>by
  rcases np x with rfl|⟨i,a,rfl⟩
  ·simp at hx
  rcases np y with rfl|⟨j,b,rfl⟩
  ·simp at hy
  have hi:i.length=n:=by simpa using hx
  have hj:j.length=n:=by simpa using hy
  have oi:aZ i:=fun u hu=>ox u (by simp[hu]);have oj:aZ j:=fun u hu=>oy u (by simp[hu]);have ih:=RL n i j hi hj oi oj;have li:=ve oi;have lj:=ve oj;rw[hi]at li;rw[hj]at lj;simp only[List.reverse_append,List.reverse_singleton,GM,jl,xk,an,hi,hj,rm,pL];by_cases h1:a<b
  ·rw[aV h1];have:=jg (gB^n) (show a+1<=b from h1);rw[jN,v8]at this;constructor<;>constructor<;>intro h<;>omega
  ·rw[aF h1];by_cases h2:b<a
   ·rw[aV h2];have:=jg (gB^n) (show b+1<=a from h2);rw[jN,v8]at this;constructor<;>constructor<;>intro h<;>omega
   ·rw[aF h2];have:a=b:=by omega
    subst this;constructor
    ·rw[ih.1];omega
    ·rw[ih.2];omega
def N6{x:List Nat}(hc:bu x=x)(h0:x.length≠0):gB^(x.length-1)<=an x:=by
 rcases np x with rfl|⟨i,a,rfl⟩
 ·simp at h0
 have ha:a≠0:=by
  rintro rfl;rw[ur]at hc;have:=wy i;rw[hc]at this;simp at this;omega
 rw[xk];simp only[an,rm,pL,bl,nR,Iu];have:=jg (gB^i.length) (show 1<=a by omega);omega
def XG{x y:List Nat}(ox:aZ x)(cy:bu y=y)(h:x.length<y.length):an x<an y:=by
 have h1:=ve ox;have h2:=N6 cy zO;have h3:gB^x.length<=gB^(y.length-1):=eE ed zO;omega
def F5{x y:List Nat}(ox:aZ x)(oy:aZ y)(cx:bu x=x)(cy:bu y=y):
  (jc x y<0↔an x<an y)/\(0<jc x y↔an y<an x):=by
 unfold jc;split
 ·rename_i h;rcases eQ x.length y.length with hl|hl
  ·have:=XG ox cy hl;constructor<;>constructor<;>intro h<;>omega
  ·have:=XG oy cx (show y.length<x.length by omega);constructor<;>constructor<;>intro h<;>omega
 ·rename_i h;exact RL y.length x y zO rfl ox oy
def KL{x:List Nat}(h:x.length≠0->dv x≠0):bu x=x:=by
 rcases np x with rfl|⟨i,a,rfl⟩
 ·rfl
 ·exact Ao i (by simpa[dv]using h zS)
def ang{c:UInt8}{r:aa}(hc:cg c=true)(h:c≠48):natVal (c::r)≠0:=by
 have e:natVal (c::r)=natVal ([c]++r):=rfl;rw[e,xm];have h1:natVal [c]=c.toNat-48:=by simp[natVal]
 have h2:c.toNat≠48:=fun e=>h (sf.1 e);have h3:48<=c.toNat:=by simp[cg]at hc;exact hc.1
 rw[h1];have:0<(c.toNat-48)*10^r.length:=Gc zO (ph zO);omega
def WH{a:Nat}{l:List Nat}(h:l.length≠0):dv (a::l)=dv l:=by
 cases l with
 |nil=>simp at h
 |cons b l=>simp[dv]
def Un{d:aa}(h:d.length≠0):(gd d).length≠0:=by rw[AO h];simp
def aiu(d:aa)(hd:d.all cg=true)(h0:d.head?≠some 48)(hn:d.length≠0):dv (gd d)≠0:=by
 induction h:d.length using Nat.strongRecOn generalizing d with
 |_ n ih=>
  rw[AO hn];by_cases hl:d.length<=9
  ·have e1:d.length-9=0:=by omega
   rw[e1,List.take_zero,uH,uJ];show natVal d≠0;cases d with
   |nil=>simp at hn
   |cons c r=>exact ang (by simp at hd;exact hd.1) (by simpa using h0)
  ·have bM:(d.take (d.length-9)).length=d.length-9:=by simp
   rw[WH (Un zO)];refine ih (d.length-9) zO _ ?_ ?_ zO bM
   ·rw[de]at hd|-;exact fun x hx=>hd x (tE hx)
   ·rw[List.head?_take,aF zO];exact h0
def af8(s:aa):(ff s).head?≠some 48:=by
 induction s with
 |nil=>simp[ff]
 |cons c r ih=>
  unfold ff;split
  ·rename_i kZ;simp at kZ;rw[<-kZ.2];exact ih
  ·rename_i aC;simp only[List.head?_cons];intro h;injection h with h;subst h;exact aC r rfl
def Gi(s:aa):(digits s).1.head?≠some 48:=by
 unfold digits;split
 ·exact af8 _
 ·simp
def afk(s:aa):bu (gd (digits s).1)=gd (digits s).1:=KL fun h=>aiu _ (o8 s) (Gi s) (by intro e;apply h;rw[cc.1 e,uJ];rfl)
def CT(s:aa)(h:(digits s).2=true):(gd (digits s).1).length≠0:=by
 apply Un;unfold digits at h|-;split at h
 ·rename_i hd;rw[aV hd];simp only[bd,cd]at h;intro e;exact h.2 (cc.1 e)
 ·simp at h
def kL(dw:Bool)(m:List Nat):Int:=if dw then -(an m:Int)else an m
def nV(s:aa):kL (digits s).2 (gd (digits s).1)=val s:=by
 unfold kL val;rw[(Md _ (o8 s)).2]
def fX(n:Int):Int:=if n<0 then -1 else if 0<n then 1 else 0
def Ej{x:List Nat}(hc:bu x=x)(h0:x.length≠0):0<an x:=lF (ph ed) (N6 hc h0)
structure py(dw:Bool)(m:List Nat):Prop where
 ok:aZ m
 cut:bu m=m
 Eu:dw=true->m.length≠0
def oJ(s:aa):py (digits s).2 (gd (digits s).1):=⟨(Md _ (o8 s)).1,afk s,CT s⟩
def addN{a b:Nat}(h:a+b<18446744073709551616):IntKind.u64.wrap ((a:Int)+(b:Int))=((a+b:Nat):Int):=by
 rw[FA zO zO];simp
def sC{a b:Nat}(hb:b<=a)(h:a<18446744073709551616):IntKind.u64.wrap ((a:Int)-(b:Int))=((a-b:Nat):Int):=by
 rw[FA zO zO];omega
def xA{a:Nat}(h:a<18446744073709551616):IntKind.u64.wrap ((a:Int).tdiv 1000000000)=((a/gB:Nat):Int):=by
 have e:(a:Int).tdiv 1000000000=((a/gB:Nat):Int):=by
  rw[o_ zO];unfold gB;omega
 rw[e];have:a/gB<=a:=D4 _ _;generalize a/gB=q at this|-;exact FA zO zO
def vL(a:Nat):(a:Int).tmod 1000000000=((a%gB:Nat):Int):=by
 rw[C5 zO];unfold gB;omega
def fS(o:List Nat)(a:Nat)(r:List Nat):(bG (o++a::r))[o.length]?=some [.raw (.int .u64 (a:Int))]:=by simp[bG]
def hC{rows:List (List D)}{j:Nat}{r r':List D}(h:rows[j]?=some r):(rows.set j r')[j]?=some r':=by
 have:=(cI.1 h).1;simp[this]
def uy(o:List Nat)(a x:Nat)(r:List Nat):(bG (o++a::r)).set o.length [.raw (.int .u64 (x:Int))]=bG (o++x::r):=by
 simp[bG,List.set_append]
def u4{l:List Nat}{n:Int}{k b:Nat}{r:List Nat}(hd:l.drop k=b::r)(hn:n=(k:Int)):(bG l)[n.toNat]?=some [.raw (.int .u64 (b:Int))]:=by
 subst hn;have:l[k]?=some b:=by
  have:=aT (fun x=>x[0]?) hd;simpa using this
 simp[bG,this]
def mh(l:List Nat)(k:Nat):Nat:=l.getD k 0
def Ew{l:List Nat}{k:Nat}(h:k<l.length):l.drop k=mh l k::l.drop (k+1):=by
 rw[ju h];simp[mh,h]
def OI{l:List Nat}{k:Nat}(hm:aZ l):mh l k<gB:=by
 unfold mh;rcases eQ k l.length with h|h
 ·simp only[fV,eu h,l8];exact hm _ (CD h)
 ·simp only[fV,p9 h,JN];exact ed
def Qc{a:Nat}{rest y:List Nat}{k c:Nat}(h:k<y.length):gw (a::rest) (y.drop k) c=(if a<c+mh y k then a+gB-(c+mh y k)else a-(c+mh y k))::gw rest (y.drop (k+1)) (if a<c+mh y k then 1 else 0):=by rw[Ew h];rfl
def Qb{a:Nat}{rest y:List Nat}{k c:Nat}(h:y.length<=k):gw (a::rest) (y.drop k) c=(if a<c then a+gB-c else a-c)::gw rest (y.drop (k+1)) (if a<c then 1 else 0):=by
 rw[iP h,iP zO];rfl
def QQ{a:Nat}{rest y:List Nat}{k c:Nat}(h:k<y.length):iG (a::rest) (y.drop k) c=(a+c+mh y k)%gB::iG rest (y.drop (k+1)) ((a+c+mh y k)/gB):=by rw[Ew h];rfl
def QP{a:Nat}{rest y:List Nat}{k c:Nat}(h:y.length<=k):iG (a::rest) (y.drop k) c=(a+c)%gB::iG rest (y.drop (k+1)) ((a+c)/gB):=by
 rw[iP h,iP zO];rfl
def Zs{x y:List Nat}(h:x.length<y.length):nX x y=iG y x 0:=by unfold nX;rw[aV h]
def Zr{x y:List Nat}(h:y.length<=x.length):nX x y=iG x y 0:=by unfold nX;rw[aF zO]
def iR(n1:Bool)(x:List Nat)(n2:Bool)(y:List Nat):Bool×List Nat:=
 if(n1==n2)=true then(n1,nX x y)else if jc x y<0 then(n2,bu (gw y x 0))else(n1,bu (gw x y 0))
def RI{x y:List Nat}(h:jc x y<0):y.length≠0:=by
 intro e;unfold jc at h;split at h
 ·omega
 ·rw[KC zO]at h;omega
def ad0{x y:List Nat}(hx:x.length=0)(hy:y.length≠0):jc x y<0:=by
 unfold jc;rw[aV zO];omega
def adZ{n1 n2:Bool}{x y:List Nat}(h1:py n1 x)(h2:py n2 y)(hn:(n1==n2)=false)(h:¬jc x y<0):x.length≠0:=by
 intro e;cases n1 with
 |true=>exact h1.Eu rfl e
 |false=>
  cases n2 with
  |false=>simp at hn
  |true=>exact h (ad0 e (h2.Eu rfl))
def QS{n1 n2:Bool}{x y:List Nat}(h1:py n1 x)(h2:py n2 y):aZ (iR n1 x n2 y).2:=by
 unfold iR;split
 ·exact I4 h1.ok h2.ok
 ·split
  ·exact An (zL _ _ _ h2.ok h1.ok zO)
  ·exact An (zL _ _ _ h1.ok h2.ok zO)
def QR(n1 n2:Bool)(x y:List Nat):(iR n1 x n2 y).2.length<=x.length+y.length+1:=by
 unfold iR;split
 ·exact Ph x y
 ·split
  ·have:=wy (gw y x 0);rw[Fk]at this;simp only;omega
  ·have:=wy (gw x y 0);rw[Fk]at this;simp only;omega
def QT{n1 n2:Bool}{x y:List Nat}(h1:py n1 x)(h2:py n2 y):kL (iR n1 x n2 y).1 (iR n1 x n2 y).2=kL n1 x+kL n2 y:=by
 unfold iR;have hs:=F5 h1.ok h2.ok h1.cut h2.cut;split
 ·rename_i h;have:n1=n2:=by simpa using h
  subst this;simp only[kL,Pj];cases n1<;>simp<;>omega
 ·rename_i h;split
  ·rename_i hl;have:=hs.1.1 hl;simp only[kL];rw[Gd,vV _ _ _ h2.ok h1.ok zO zO];cases n1<;>cases n2<;>simp at h|-<;>omega
  ·rename_i hl;have:¬an x<an y:=fun e=>hl (hs.1.2 e);simp only[kL];rw[Gd,vV _ _ _ h1.ok h2.ok zO zO];cases n1<;>cases n2<;>simp at h|-<;>omega
def Ak(n1:Bool)(x:List Nat)(n2:Bool)(y:List Nat):Int:=
 max (-1) (min (if(n1 !=n2)=true then(if n1=true then -1 else 1)else if n1=true then 0-jc x y else jc x y) 1)
def F6{n1 n2:Bool}{x y:List Nat}(h1:py n1 x)(h2:py n2 y):Ak n1 x n2 y=fX (kL n1 x-kL n2 y):=by
 have hs:=F5 h1.ok h2.ok h1.cut h2.cut;unfold Ak fX kL;cases n1<;>cases n2<;>simp only[bne_self_eq_false,Bool.false_bne,Bool.true_bne,BB,zh,mX,pb,gM]
 ·split
  ·rename_i h;have:=hs.1.2 zO;omega
  ·split
   ·have:=hs.2.2 zO;omega
   ·have a1:¬jc x y<0:=fun e=>by have:=hs.1.1 e;omega
    have a2:¬0<jc x y:=fun e=>by have:=hs.2.1 e;omega
    omega
 ·have:=Ej h2.cut (h2.Eu rfl);rw[aF zO,aV zO];rfl
 ·have:=Ej h1.cut (h1.Eu rfl);rw[aV zO];rfl
 ·split
  ·have:=hs.2.2 zO;omega
  ·split
   ·have:=hs.1.2 zO;omega
   ·have a1:¬jc x y<0:=fun e=>by have:=hs.1.1 e;omega
    have a2:¬0<jc x y:=fun e=>by have:=hs.2.1 e;omega
    omega
def gH(s:aa)(c:UInt8):aa×aa×Bool:=if 0<=Lib.indexByte s c then(s.take (Lib.indexByte s c).toNat,s.drop ((Lib.indexByte s c).toNat+1),true)else(s,[],false)
theorem HO(c:UInt8):∀s:aa,(0<=Lib.indexByte s c/\Lib.indexByte s c<s.length/\s=s.take (Lib.indexByte s c).toNat++c::s.drop ((Lib.indexByte s c).toNat+1)/\∀x∈s.take (Lib.indexByte s c).toNat,x≠c)\/(Lib.indexByte s c=-1/\∀x∈s,x≠c)
 |[]=>.inr ⟨rfl,by simp⟩
 |b::s=>by
  unfold Lib.indexByte;by_cases h:b=c
  ·subst h;left;simp
  ·have hb:(b==c)=false:=by simpa using h
   simp only[hb,gM,pb];rcases HO c s with⟨h1,h2,h3,h4⟩|⟨h1,h2⟩
   ·left;have aC:(Lib.indexByte s c==-1)=false:=by simp;omega
    simp only[aC,gM,pb];have e:(Lib.indexByte s c+1).toNat=(Lib.indexByte s c).toNat+1:=by omega
    rw[e];refine⟨by omega,by simp;omega,?_,?_⟩
    ·simp only[lW,jF,List.drop_succ_cons];rw[<-h3]
    ·intro x hx;simp only[lW,cr]at hx;rcases hx with rfl|hx
     ·exact h
     ·exact h4 x hx
   ·right;simp only[h1,JT,mX,H4];intro x hx;rcases cr.1 hx with rfl|hx
    ·exact h
    ·exact h2 x hx
def gN(f:Nat->Bool)(m:SM):Ob.okB f (.mp (sX m))=true:=by
 have h:∀l:List aa,D.okB.fM f (l.map .str)=true:=by
  intro l;induction l with
  |nil=>rfl
  |cons a l ih=>simp only[cP,D.okB.fM,D.okB,ih];rfl
 have e1:(sX m).map (·.1)=(m.map (·.1)).map .str:=by simp[sX]
 have e2:(sX m).map (·.2)=(m.map (·.2)).map .str:=by simp[sX]
 simp only[Ob.okB];rw[e1,e2,h,h];rfl
def aa7(s:aa):-((10^s.length:Nat):Int)<val s/\val s<((10^s.length:Nat):Int):=by
 have h1:=re _ (o8 s);have h2:10^(digits s).1.length<=10^s.length:=eE zO (ma s);unfold val;split<;>omega
def anJ{n:Int}{k:Nat}(h1:-((10^k:Nat):Int)<n)(h2:n<((10^k:Nat):Int)):(ofInt n).length<=k+1:=by
 have:=BH k n.natAbs zO;unfold ofInt;split
 ·simp;omega
 ·omega
def ab9(a b:aa):(rE a b).length<=a.length+b.length+2:=by
 have h1:=aa7 a;have h2:=aa7 b;have h3:10^a.length<=10^(a.length+b.length):=eE zO zO;have h4:10^b.length<=10^(a.length+b.length):=eE zO zO;have h5:10^(a.length+b.length+1)=10^(a.length+b.length)*10:=lN ..;unfold rE;exact anJ (k:=a.length+b.length+1) zO zO
def zR(n:Nat)(seen:List Nat):Nat:=((List.range n).filter fun j=>!seen.contains j).length
def JI{n j:Nat}{seen:List Nat}(hj:j<n)(hs:j∉seen):zR n (seen++[j])<zR n seen:=by
 unfold zR;have key:∀l:List Nat,((l.filter fun i=>!(seen++[j]).contains i).length<=(l.filter fun i=>!seen.contains i).length)/\(j∈l->(l.filter fun i=>!(seen++[j]).contains i).length<(l.filter fun i=>!seen.contains i).length):=by
  intro l;induction l with
  |nil=>simp
  |cons a l ih=>
   by_cases ha:a=j
   ·subst ha;simp[oq,hs];have:=ih.1;simp at this;omega
   ·by_cases hb:a∈seen
    ·simp[oq,hb,qc ha];simpa using ih
    ·simp[oq,hb,ha,qc ha];simpa using ih
 exact(key _).2 (by simpa using hj)
def uE{α:Type}{l pre rest:List α}{x:α}{p:α->Bool}(hx:l=pre++x::rest)(hp:pre.any p=false)(h:p x=true):(pre.length:Int)=if l.any p=true then(l.findIdx p:Int)else -1:=by
 subst hx;have:(pre++x::rest).any p=true:=by simp[h]
 rw[aV this,List.findIdx_append];have hn:¬List.findIdx p pre<pre.length:=by
  rw[List.findIdx_lt_length];rintro⟨y,hy,hpy⟩;rw[tM]at hp;exact hp y hy hpy
 rw[aF hn];simp[BA,h]
def uD{α:Type}{l pre:List α}{p:α->Bool}(hx:l=pre++[])(hp:pre.any p=false):-1=if l.any p=true then(l.findIdx p:Int)else -1:=by
 rw[hx,iJ,hp];rfl
def fw{α:Type}(P:α->Bool)(l:List α):Int:=if l.any P=true then(l.findIdx P:Int)else -1
def s0{α:Type}(P:α->Bool)(l:List α):decide (0<=fw P l)=l.any P:=by
 unfold fw;cases h:l.any P<;>simp
def nI(code:aa):List bL->bL×Bool
 |[]=>(⟨[],0⟩,false)
 |c::r=>if c.code=code then(c,true)else nI code r
def LL{code:aa}{l pre rest:List bL}{x:bL}(hx:l=pre++x::rest)(hp:∀c∈pre,c.code≠code)(h:x.code=code):nI code l=(x,true):=by
 subst hx;induction pre with
 |nil=>simp[nI,h]
 |cons c pre ih=>rw[jF,nI,aF (hp c zS)];exact ih (fun d hd=>hp d (by simp[hd]))
def LK{code:aa}{l pre:List bL}(hx:l=pre++[])(hp:∀c∈pre,c.code≠code):nI code l=(⟨[],0⟩,false):=by
 subst hx;induction pre with
 |nil=>rfl
 |cons c pre ih=>rw[jF,nI,aF (hp c zS)];exact ih (fun d hd=>hp d (by simp[hd]))
def GL(code:aa)(l:List bL):(nI code l).2=l.any (fun c=>decide (c.code=code)):=by
 induction l with
 |nil=>rfl
 |cons c l ih=>
  by_cases h:c.code=code<;>simp[nI,h,ih]
def nD(pre:List bL)(c:bL):Int:=if !gf c.code then 23 else if decide (c.places<0)||decide (12<c.places)then 2 else if pre.any (fun d=>decide (d.code=c.code))then 5 else 0
def mC(pre:List bL):List bL->Int
 |[]=>0
 |c::r=>if nD pre c≠0 then nD pre c else mC (pre++[c]) r
def mB(l:List bL):Int:=if 16<l.length then 4 else mC [] l
def RT{pre:List bL}{c:bL}(h:(!gf c.code)=true):nD pre c=23:=by simp[nD,h]
def RU{pre:List bL}{c:bL}(h:(!gf c.code)=false)(h2:(decide (c.places<0)||decide (12<c.places))=true):nD pre c=2:=by simp only[nD,h,h2];rfl
def aeA{pre:List bL}{c:bL}(h:(!gf c.code)=false)(h2:(decide (c.places<0)||decide (12<c.places))=false)(h3:(nI c.code pre).2=true):nD pre c=5:=by rw[GL]at h3;simp only[nD,h,h2,h3];rfl
def aez{pre:List bL}{c:bL}(h:(!gf c.code)=false)(h2:(decide (c.places<0)||decide (12<c.places))=false)(h3:(nI c.code pre).2=false):nD pre c=0:=by rw[GL]at h3;simp only[nD,h,h2,h3];rfl
def Aj{l pre rest:List bL}{x:bL}{n:Int}(h:mB l=mC pre (x::rest))(he:nD pre x=n)(hn:n≠0):n=mB l:=by rw[h,mC,he,aV hn]
def Rw{l pre rest:List bL}{x:bL}(h:mC [] l=mC pre (x::rest))(he:nD pre x=0):mC [] l=mC (pre++[x]) rest:=by rw[h,mC,he,aF zS]
open Go.Proofs Go.Proofs.Tryz
structure Sk(s:aa)where
 pre:List UInt8
 rest:List UInt8
 hx:(d_ s).1=pre++rest
 hp:pre.all cg=true
structure Sl(s:aa)where
 cur:aa
 hd:(d_ s).1.all cg=true
 hx:ff cur=ff (d_ s).1
def uv(s:aa):Fc prog 251 [.str s] (.a_ [.str (digits s).1,.b (digits s).2]):=by
 refine gq func251 ntmps251 results251 ?_;refine U.nB 0 rfl (fun hb=>?_);simp only[aD]at hb;refine U.seq<|rg<|.ag rfl rfl<|.ag rfl rfl<|.nil<|U.seq<|rg<|.mv rfl rfl<|.ag rfl rfl<|.nil<|U.seq<|rg<|.mv rfl rfl<|.P rfl (gG underlying9 rfl)<|.P rfl (gE rfl rfl)<|.mv rfl rfl<|.gT rfl (.inl rfl) rfl rfl rfl (fun hg=>pk (fun _=>aX rfl _))<|.gT rfl (.inl rfl) rfl rfl rfl (fun hg=>pk (fun _=>nZ underlying9 (bn rfl hg) rfl (c:=s.headD 0) zD (Hr rfl (by grind)) _))<|.gT rfl (.inl rfl) rfl rfl rfl (fun hg=>pk (fun _=>kO (bn rfl hg) rfl _))<|.P rfl (iy rfl rfl)<|.ag rfl rfl<|.nil<|U.seq<|U.seq<|rg<|.mv rfl rfl<|.nil<|U.cond rfl (fun h1=>?_) (fun h1=>?_)
 ·have bJ:=h1;try simp only[bs]at bJ
  refine rg<|.mv rfl rfl<|.P rfl (oU underlying9 rfl (l:=1) (r:=s.drop 1) (.inr ⟨_,_,rfl,rfl⟩) (.inl ⟨rfl,rfl⟩) zO zO (K2 _))<|.ag rfl rfl<|.nil<|U.seq<|U.seq<|rg<|.ag rfl rfl<|.nil<|U.block<|U.loop (ι:=Sk s) (fun sx=>[(4,.str (d_ s).1),(5,.b (d_ s).2),(6,.i sx.pre.length)]) (fun sx=>[]) (fun sx=>sx.rest.length) ⟨[],(d_ s).1,rfl,rfl⟩ ?_ ?_
  ·exact Le.mk rfl (.cons rfl (Sub.str (by grind[xD,vU])) rfl (.cons rfl (Sub.bool (by grind[xD,vU])) rfl (.s rfl rfl .nil))) .nil
  ·rintro⟨pre,rest,hx,hp⟩;dsimp only;have hl:=aT List.length hx;simp only[bl]at hl;have A_:=JC s;rcases rest with _|⟨x,rest⟩
   ·refine U.seq<|U.seq<|rg<|.mv rfl rfl<|.mv rfl rfl<|.P rfl (gG underlying9 rfl)<|.P rfl (bp rfl rfl)<|.nil<|U.c6 rfl (by simp at hl|-;omega)<|U.exit (dz (du ?_));refine U.seq<|U.block<|U.loop (ι:=Sl s) (fun sx=>[(4,.str sx.cur),(5,.b (d_ s).2)]) (fun sx=>[]) (fun sx=>sx.cur.length) ⟨(d_ s).1,by rw[hx];simpa using hp,rfl⟩ ?_ ?_
    ·exact Le.mk rfl (.n 2 rfl rfl .nil) .nil
    ·rintro⟨cur,hd,hx⟩;dsimp only;refine U.seq<|U.seq<|rg<|.mv rfl rfl<|.P rfl (gG underlying9 rfl)<|.P rfl (gE rfl rfl)<|.mv rfl rfl<|.gT rfl (.inl rfl) rfl rfl rfl (fun hg=>pk (fun _=>aX rfl _))<|.gT rfl (.inl rfl) rfl rfl rfl (fun hg=>pk (fun _=>nZ underlying9 (bn rfl hg) rfl (c:=cur.headD 0) zD (Hr rfl (by grind)) _))<|.gT rfl (.inl rfl) rfl rfl rfl (fun hg=>pk (fun _=>kO (bn rfl hg) rfl _))<|.P rfl (iy rfl rfl)<|.nil<|U.cond rfl (fun h2=>?_) (fun h2=>?_)
     ·have di:=h2;try simp only[bs]at di
      refine U.skip<|U.block<|rg<|.mv rfl rfl<|.P rfl (oU underlying9 rfl (l:=1) (r:=cur.drop 1) (.inr ⟨_,_,rfl,rfl⟩) (.inl ⟨rfl,rfl⟩) zO zO (K2 _))<|.ag rfl rfl<|.nil<|U.nil (bR ?_);refine U.nil (cz ?_);exact⟨⟨cur.drop 1,hd,by rw[<-hx];exact(CV zO zO).symm⟩,by simp;omega,Le.mk rfl (.n 2 rfl rfl .nil) .nil⟩
     ·have di:=h2;try simp only[bs]at di
      refine U.exit (dz (du ?_));refine U.seq<|rg<|.mv rfl rfl<|.mv rfl rfl<|.mv rfl rfl<|.gT rfl (.inl rfl) rfl rfl rfl (fun hg=>pk (fun _=>aX rfl _))<|.gT rfl (.inl rfl) rfl rfl rfl (fun hg=>pk (fun _=>gG underlying9 (bn rfl hg) _))<|.gT rfl (.inl rfl) rfl rfl rfl (fun hg=>pk (fun _=>gE (bn rfl hg) rfl _))<|.P rfl (iy rfl rfl)<|.ag rfl rfl<|.ag rfl rfl<|.nil<|U.ret (?_);exact rq rfl rfl (Sub.str (by exact Sm hd hx zO)) (Sub.bool (by exact Sn hd hx zO))
   ·simp only[bD]at hl;refine U.seq<|U.seq<|rg<|.mv rfl rfl<|.mv rfl rfl<|.P rfl (gG underlying9 rfl)<|.P rfl (bp rfl rfl)<|.nil<|U.ew rfl zQ<|U.skip<|U.seq<|U.block<|U.seq<|rg<|.mv rfl rfl<|.mv rfl rfl<|.P rfl (nZ underlying9 rfl rfl zO (lf hx rfl))<|.P rfl (bp rfl rfl)<|.mv rfl rfl<|.gF rfl (.inl rfl) rfl rfl rfl (fun hg=>pk (fun _=>aX rfl _))<|.gF rfl (.inl rfl) rfl rfl rfl (fun hg=>pk (fun _=>aX rfl _))<|.gF rfl (.inl rfl) rfl rfl rfl (fun hg=>pk (fun _=>nZ underlying9 (bn rfl (nt hg)) (bn rfl (nt hg)) zO (lf hx rfl) _))<|.gF rfl (.inl rfl) rfl rfl rfl (fun hg=>pk (fun _=>gE (bn rfl (nt hg)) rfl _))<|.P rfl (oT rfl rfl)<|.nil<|U.cond rfl (fun h3=>?_) (fun h3=>?_)
    ·have gi:=h3;try simp only[bs]at gi
     refine U.seq<|rg<|.ag rfl rfl<|.ag rfl rfl<|.nil<|U.ret (jY (sE (jY (?_))));exact rq rfl rfl (Sub.str (by(rw[Gh hx zO]))) (Sub.bool (by(rw[Gh hx zO])))
    ·refine U.skip<|U.nil (bR ?_);refine rg<|.mv rfl rfl<|.P rfl (bx rfl rfl (ao zO))<|.ag rfl rfl<|.nil<|U.nil (cz ?_);exact⟨⟨pre++[x],rest,by simp[hx],by grind[cg]⟩,by simp,Le.mk rfl (.cons rfl (Sub.str (by grind[xD,vU])) rfl (.cons rfl (Sub.bool (by grind[xD,vU])) rfl (.cons rfl (Sub.int zS) rfl .nil))) .nil⟩
 ·refine U.skip<|U.seq<|U.seq<|rg<|.ag rfl rfl<|.nil<|U.block<|U.loop (ι:=Sk s) (fun sx=>[(4,.str (d_ s).1),(5,.b (d_ s).2),(6,.i sx.pre.length)]) (fun sx=>[]) (fun sx=>sx.rest.length) ⟨[],(d_ s).1,rfl,rfl⟩ ?_ ?_
  ·exact Le.mk rfl (.cons rfl (Sub.str (by grind[xD,vU])) rfl (.cons rfl (Sub.bool (by grind[xD,vU])) rfl (.s rfl rfl .nil))) .nil
  ·rintro⟨pre,rest,hx,hp⟩;dsimp only;have hl:=aT List.length hx;simp only[bl]at hl;have A_:=JC s;rcases rest with _|⟨x,rest⟩
   ·refine U.seq<|U.seq<|rg<|.mv rfl rfl<|.mv rfl rfl<|.P rfl (gG underlying9 rfl)<|.P rfl (bp rfl rfl)<|.nil<|U.c6 rfl (by simp at hl|-;omega)<|U.exit (dz (du ?_));refine U.seq<|U.block<|U.loop (ι:=Sl s) (fun sx=>[(4,.str sx.cur),(5,.b (d_ s).2)]) (fun sx=>[]) (fun sx=>sx.cur.length) ⟨(d_ s).1,by rw[hx];simpa using hp,rfl⟩ ?_ ?_
    ·exact Le.mk rfl (.n 2 rfl rfl .nil) .nil
    ·rintro⟨cur,hd,hx⟩;dsimp only;refine U.seq<|U.seq<|rg<|.mv rfl rfl<|.P rfl (gG underlying9 rfl)<|.P rfl (gE rfl rfl)<|.mv rfl rfl<|.gT rfl (.inl rfl) rfl rfl rfl (fun hg=>pk (fun _=>aX rfl _))<|.gT rfl (.inl rfl) rfl rfl rfl (fun hg=>pk (fun _=>nZ underlying9 (bn rfl hg) rfl (c:=cur.headD 0) zD (Hr rfl (by grind)) _))<|.gT rfl (.inl rfl) rfl rfl rfl (fun hg=>pk (fun _=>kO (bn rfl hg) rfl _))<|.P rfl (iy rfl rfl)<|.nil<|U.cond rfl (fun h4=>?_) (fun h4=>?_)
     ·have gD:=h4;try simp only[bs]at gD
      refine U.skip<|U.block<|rg<|.mv rfl rfl<|.P rfl (oU underlying9 rfl (l:=1) (r:=cur.drop 1) (.inr ⟨_,_,rfl,rfl⟩) (.inl ⟨rfl,rfl⟩) zO zO (K2 _))<|.ag rfl rfl<|.nil<|U.nil (bR ?_);refine U.nil (cz ?_);exact⟨⟨cur.drop 1,hd,by rw[<-hx];exact(CV zO zO).symm⟩,by simp;omega,Le.mk rfl (.n 2 rfl rfl .nil) .nil⟩
     ·have gD:=h4;try simp only[bs]at gD
      refine U.exit (dz (du ?_));refine U.seq<|rg<|.mv rfl rfl<|.mv rfl rfl<|.mv rfl rfl<|.gT rfl (.inl rfl) rfl rfl rfl (fun hg=>pk (fun _=>aX rfl _))<|.gT rfl (.inl rfl) rfl rfl rfl (fun hg=>pk (fun _=>gG underlying9 (bn rfl hg) _))<|.gT rfl (.inl rfl) rfl rfl rfl (fun hg=>pk (fun _=>gE (bn rfl hg) rfl _))<|.P rfl (iy rfl rfl)<|.ag rfl rfl<|.ag rfl rfl<|.nil<|U.ret (?_);exact rq rfl rfl (Sub.str (by exact Sm hd hx zO)) (Sub.bool (by exact Sn hd hx zO))
   ·simp only[bD]at hl;refine U.seq<|U.seq<|rg<|.mv rfl rfl<|.mv rfl rfl<|.P rfl (gG underlying9 rfl)<|.P rfl (bp rfl rfl)<|.nil<|U.ew rfl zQ<|U.skip<|U.seq<|U.block<|U.seq<|rg<|.mv rfl rfl<|.mv rfl rfl<|.P rfl (nZ underlying9 rfl rfl zO (lf hx rfl))<|.P rfl (bp rfl rfl)<|.mv rfl rfl<|.gF rfl (.inl rfl) rfl rfl rfl (fun hg=>pk (fun _=>aX rfl _))<|.gF rfl (.inl rfl) rfl rfl rfl (fun hg=>pk (fun _=>aX rfl _))<|.gF rfl (.inl rfl) rfl rfl rfl (fun hg=>pk (fun _=>nZ underlying9 (bn rfl (nt hg)) (bn rfl (nt hg)) zO (lf hx rfl) _))<|.gF rfl (.inl rfl) rfl rfl rfl (fun hg=>pk (fun _=>gE (bn rfl (nt hg)) rfl _))<|.P rfl (oT rfl rfl)<|.nil<|U.cond rfl (fun h5=>?_) (fun h5=>?_)
    ·have nf:=h5;try simp only[bs]at nf
     refine U.seq<|rg<|.ag rfl rfl<|.ag rfl rfl<|.nil<|U.ret (jY (sE (jY (?_))));exact rq rfl rfl (Sub.str (by(rw[Gh hx zO]))) (Sub.bool (by(rw[Gh hx zO])))
    ·refine U.skip<|U.nil (bR ?_);refine rg<|.mv rfl rfl<|.P rfl (bx rfl rfl (ao zO))<|.ag rfl rfl<|.nil<|U.nil (cz ?_);exact⟨⟨pre++[x],rest,by simp[hx],by grind[cg]⟩,by simp,Le.mk rfl (.cons rfl (Sub.str (by grind[xD,vU])) rfl (.cons rfl (Sub.bool (by grind[xD,vU])) rfl (.cons rfl (Sub.int zS) rfl .nil))) .nil⟩
def Ky(s:aa):Fc prog 250 [.str s] (.str (canon s)):=by
 refine ay func250 ntmps250 results250 ?_;refine U.nB 0 rfl (fun hb=>?_);simp only[aD]at hb;have qI:=ma s;refine go []<|oP (ah call251 rfl (uv _))<|br (fun h1=>?_) (fun h1=>?_)
 ·exact sd (by have:=afl s zA;simp[aD];omega)<|af rfl (Sub.str (by grind[canon]))
 ·exact af rfl (Sub.str (by grind[canon]))
def adv(s:aa):Fc prog 193 [.str s] (.i (xZ s)):=by
 refine ay func193 ntmps193 results193 ?_;refine go []<|oP (ah call250 rfl (Ky _))<|br (fun h1=>?_) (fun h1=>?_)
 ·exact af rfl (Sub.int (by grind[xZ]))
 ·exact af rfl (Sub.int (by grind[xZ]))
def Ym(s:aa)(hs:s.length<=1000):Fc prog 254 [.str s] (.str (oI s)):=by
 refine ay func254 ntmps254 results254 ?_;refine U.nB 0 rfl (fun hb=>?_);simp only[aD]at hb;have qI:=ma s;refine go []<|oP (ah call251 rfl (uv _))<|br (fun h1=>?_) (fun h1=>?_)
 ·exact af rfl (Sub.str (by grind[oI]))
 ·exact sd (by simp[aD];omega)<|af rfl (Sub.str (by grind[oI]))
def Al(a b:aa):Fc prog 195 [.str a,.str b] (.i (gA a b)):=by
 refine ay func195 ntmps195 results195 ?_;refine go []<|oP (ah call251 rfl (uv _))<|oP (ah call251 rfl (uv _))<|br (fun h1=>?_) (fun h1=>?_)
 ·refine br (fun h2=>?_) (fun h2=>?_)
  ·exact af rfl (Sub.int (by grind[gA]))
  ·exact af rfl (Sub.int (by grind[gA]))
 ·refine br (fun h3=>?_) (fun h3=>?_)
  ·refine br (fun h4=>?_) (fun h4=>?_)
   ·refine br (fun h5=>?_) (fun h5=>?_)
    ·exact sd (ao zO)<|af rfl (Sub.int (by grind[gA]))
    ·exact af rfl (Sub.int (by grind[gA]))
   ·refine br (fun h6=>?_) (fun h6=>?_)
    ·exact sd (ao zO)<|af rfl (Sub.int (by grind[gA]))
    ·refine br (fun h7=>?_) (fun h7=>?_)
     ·exact af rfl (Sub.int (by grind[gA]))
     ·exact af rfl (Sub.int (by grind[gA]))
  ·refine br (fun h8=>?_) (fun h8=>?_)
   ·refine br (fun h9=>?_) (fun h9=>?_)
    ·exact sd (ao zO)<|af rfl (Sub.int (by grind[gA]))
    ·exact af rfl (Sub.int (by grind[gA]))
   ·refine br (fun cB=>?_) (fun cB=>?_)
    ·exact sd (ao zO)<|af rfl (Sub.int (by grind[gA]))
    ·refine br (fun cD=>?_) (fun cD=>?_)
     ·exact af rfl (Sub.int (by grind[gA]))
     ·exact af rfl (Sub.int (by grind[gA]))
structure aqV(s:aa)(hs:(digits s).1.length<=17)where
 pre:List UInt8
 rest:List UInt8
 hx:(digits s).1=pre++rest
def P3(s:aa)(hs:(digits s).1.length<=17):Fc prog 255 [.str s] (.a_ [.i (val s),.b true]):=by
 refine gq func255 ntmps255 results255 ?_;refine U.nB 0 rfl (fun hb=>?_);simp only[aD]at hb;have Hp:=o8 s;refine U.seq<|rg<|.ag rfl rfl<|.ag rfl rfl<|.nil<|U.seq<|rg<|.mv rfl rfl<|.P rfl (ah call251 rfl (uv _))<|.mv rfl rfl<|.P rfl (eP rfl rfl)<|.P rfl (eP rfl rfl)<|.ag rfl rfl<|.ag rfl rfl<|.nil<|U.seq<|U.seq<|rg<|.mv rfl rfl<|.P rfl (gG underlying9 rfl)<|.P rfl (gE rfl rfl)<|.nil<|U.cond rfl (fun h1=>?_) (fun h1=>?_)
 ·have bJ:=h1;try simp only[bs]at bJ
  refine U.seq<|rg<|.ag rfl rfl<|.ag rfl rfl<|.nil<|U.ret (?_);exact rq rfl rfl (Sub.int zO) (Sub.bool (by grind))
 ·refine U.skip<|U.seq<|rg<|.ag rfl rfl<|.nil<|U.seq<|U.seq<|rg<|.ag rfl rfl<|.nil<|U.block<|U.loop (ι:=aqV s hs) (fun sx=>[(4,.str (digits s).1),(5,.b (digits s).2),(6,.i (natVal sx.pre)),(7,.i sx.pre.length)]) (fun sx=>[]) (fun sx=>sx.rest.length) ⟨[],(digits s).1,rfl⟩ ?_ ?_
  ·exact Le.mk rfl (.n 4 rfl rfl .nil) .nil
  ·rintro⟨pre,rest,hx⟩;dsimp only;have hl:=aT List.length hx;simp only[bl]at hl;rw[hx,lE,bd]at Hp;have hv:=OE Hp.1 zO;rcases rest with _|⟨x,rest⟩
   ·refine U.seq<|U.seq<|rg<|.mv rfl rfl<|.mv rfl rfl<|.P rfl (gG underlying9 rfl)<|.P rfl (bp rfl rfl)<|.nil<|U.c6 rfl (by simp at hl|-;omega)<|U.exit (dz (du ?_));refine U.seq<|U.seq<|rg<|.mv rfl rfl<|.nil<|U.cond rfl (fun h2=>?_) (fun h2=>?_)
    ·refine rg<|.mv rfl rfl<|.P rfl (I_ rfl (ao zO))<|.ag rfl rfl<|.nil<|U.seq<|rg<|.mv rfl rfl<|.ag rfl rfl<|.ag rfl rfl<|.nil<|U.ret (?_);exact rq rfl rfl (Sub.int (by simp only[val,iJ]at*;simp[*])) (Sub.bool (by grind))
    ·refine U.skip<|U.seq<|rg<|.mv rfl rfl<|.ag rfl rfl<|.ag rfl rfl<|.nil<|U.ret (?_);exact rq rfl rfl (Sub.int (by simp only[val,iJ]at*;simp[*])) (Sub.bool (by grind))
   ·simp only[bD]at hl;have hq:=Hp.2;simp only[kJ,bd,cg,cd]at hq;have axq:=re pre Hp.1;have axl:10^pre.length<=10^16:=eE zO zO;refine U.seq<|U.seq<|rg<|.mv rfl rfl<|.mv rfl rfl<|.P rfl (gG underlying9 rfl)<|.P rfl (bp rfl rfl)<|.nil<|U.ew rfl zQ<|U.skip<|U.seq<|U.block<|rg<|.mv rfl rfl<|.P rfl (so rfl rfl (ao zO))<|.mv rfl rfl<|.mv rfl rfl<|.P rfl (nZ underlying9 rfl rfl zO (lf hx rfl))<|.P rfl (dx rfl rfl (aby zO zO))<|.P rfl (B7 underlying5 underlying3 rfl (ao zO))<|.P rfl (bx rfl rfl (ao zO))<|.ag rfl rfl<|.nil<|U.nil (bR ?_);refine rg<|.mv rfl rfl<|.P rfl (bx rfl rfl (ao zO))<|.ag rfl rfl<|.nil<|U.nil (cz ?_);exact⟨⟨pre++[x],rest,by simp[hx]⟩,by simp,Le.mk rfl (.n 2 rfl rfl (.cons rfl (Sub.int (by rw[vi];omega)) rfl (.cons rfl (Sub.int zS) rfl .nil))) .nil⟩
structure anH(n:Int)(hn:-1000000000000000000<n/\n<1000000000000000000)where
 cur:Int
 acc:aa
 hx:gK n.natAbs=gK cur.natAbs++acc
 hc:-1000000000000000000<cur/\cur<1000000000000000000
def zg(n:Int)(hn:-1000000000000000000<n/\n<1000000000000000000):Fc prog 199 [.i n] (.str (ofInt n)):=by
 refine ay func199 ntmps199 results199 ?_;have qI:=BH 18 n.natAbs zO;refine U.seq<|rg<|.ag rfl rfl<|.nil<|U.seq<|U.seq<|rg<|.mv rfl rfl<|.P rfl (kO rfl rfl)<|.nil<|U.cond rfl (fun h1=>?_) (fun h1=>?_)
 ·have bJ:=h1;try simp only[bs]at bJ
  refine U.seq<|rg<|.ag rfl rfl<|.nil<|U.ret (?_);exact dt rfl (Sub.str (by simp[ofInt,kK, *]))
 ·refine U.skip<|U.seq<|rg<|.ag rfl rfl<|.nil<|U.seq<|U.seq<|rg<|.mv rfl rfl<|.ag rfl rfl<|.nil<|U.block<|U.loop (ι:=anH n hn) (fun sx=>[(0,.i n),(3,.str sx.acc),(4,.i sx.cur)]) (fun sx=>[]) (fun sx=>sx.cur.natAbs) ⟨n,[],by simp,hn⟩ ?_ ?_
  ·exact Le.mk rfl (.n 3 rfl rfl .nil) .nil
  ·rintro⟨cur,acc,hx,hc⟩;dsimp only;have ha:=asX cur;have hd:=arH cur;refine U.seq<|U.seq<|rg<|.mv rfl rfl<|.P rfl (zy rfl rfl)<|.nil<|U.cond rfl (fun h2=>?_) (fun h2=>?_)
   ·have di:=h2;try simp only[bs]at di
    refine U.skip<|U.seq<|U.block<|U.seq<|rg<|.mv rfl rfl<|.P rfl (lX rfl rfl zD rfl)<|.ag rfl rfl<|.nil<|U.seq<|U.seq<|rg<|.mv rfl rfl<|.P rfl (bp rfl rfl)<|.nil<|U.cond rfl (fun h3=>?_) (fun h3=>?_)
    ·have gi:=h3;try simp only[bs]at gi
     refine rg<|.mv rfl rfl<|.P rfl (I_ rfl (ao zO))<|.ag rfl rfl<|.nil<|rg<|.mv rfl rfl<|.P rfl (bx rfl rfl (ao zO))<|.P rfl (B7 underlying3 underlying21 rfl (Qu zO zO))<|.P rfl (PC underlying21 underlying9 rfl (c:=UInt8.ofNat (48+cur.natAbs%10)) zO zO (by congr 1;omega))<|.mv rfl rfl<|.P rfl (B5 rfl rfl (by simp only[aD];have:=aT List.length hx;simp at this|-;omega) rfl)<|.ag rfl rfl<|.nil<|U.nil (bR ?_);refine rg<|.mv rfl rfl<|.P rfl (lu rfl rfl zD (ao zO))<|.ag rfl rfl<|.nil<|U.nil (cz ?_);exact⟨⟨cur.tdiv 10,UInt8.ofNat (48+cur.natAbs%10)::acc,by rw[hx,Yf zA];simp,by omega⟩,by(try dsimp only);omega,Le.mk rfl (.n 3 rfl rfl .nil) .nil⟩
    ·have gi:=h3;try simp only[bs]at gi
     refine U.skip<|rg<|.mv rfl rfl<|.P rfl (bx rfl rfl (ao zO))<|.P rfl (B7 underlying3 underlying21 rfl (Qu zO zO))<|.P rfl (PC underlying21 underlying9 rfl (c:=UInt8.ofNat (48+cur.natAbs%10)) zO zO (by congr 1;omega))<|.mv rfl rfl<|.P rfl (B5 rfl rfl (by simp only[aD];have:=aT List.length hx;simp at this|-;omega) rfl)<|.ag rfl rfl<|.nil<|U.nil (bR ?_);refine rg<|.mv rfl rfl<|.P rfl (lu rfl rfl zD (ao zO))<|.ag rfl rfl<|.nil<|U.nil (cz ?_);exact⟨⟨cur.tdiv 10,UInt8.ofNat (48+cur.natAbs%10)::acc,by rw[hx,Yf zA];simp,by omega⟩,by(try dsimp only);omega,Le.mk rfl (.n 3 rfl rfl .nil) .nil⟩
   ·have di:=h2;try simp only[bs]at di
    refine U.exit (dz (du ?_));refine U.seq<|U.seq<|rg<|.mv rfl rfl<|.P rfl (bp rfl rfl)<|.nil<|U.cond rfl (fun h4=>?_) (fun h4=>?_)
    ·have gD:=h4;try simp only[bs]at gD
     refine rg<|.mv rfl rfl<|.P rfl (B5 rfl rfl (by simp only[aD];have:=aT List.length hx;simp at this|-;omega) rfl)<|.ag rfl rfl<|.nil<|U.seq<|rg<|.mv rfl rfl<|.ag rfl rfl<|.nil<|U.ret (?_);exact dt rfl (Sub.str (by simp[ofInt,kK, *]))
    ·have gD:=h4;try simp only[bs]at gD
     refine U.skip<|U.seq<|rg<|.mv rfl rfl<|.ag rfl rfl<|.nil<|U.ret (?_);exact dt rfl (Sub.str (by simp[ofInt,kK, *]))
def ab5(a b:aa)(ha:(digits a).1.length<=17)(hb:(digits b).1.length<=17):Fc prog 201 [.str a,.str b] (.str (rE a b)):=by
 refine ay func201 ntmps201 results201 ?_;have Nq:=aa8 ha;have Ns:=aa8 hb;refine U.seq<|rg<|.ag rfl rfl<|.nil<|U.seq<|rg<|.mv rfl rfl<|.P rfl (ah call255 rfl (P3 _ zA))<|.mv rfl rfl<|.P rfl (eP rfl rfl)<|.P rfl (eP rfl rfl)<|.ag rfl rfl<|.ag rfl rfl<|.nil<|U.seq<|rg<|.mv rfl rfl<|.P rfl (ah call255 rfl (P3 _ zA))<|.mv rfl rfl<|.P rfl (eP rfl rfl)<|.P rfl (eP rfl rfl)<|.ag rfl rfl<|.ag rfl rfl<|.nil<|U.seq<|U.seq<|rg<|.mv rfl rfl<|.mv rfl rfl<|.p rfl (e7 rfl rfl rfl rfl) (fun _=>aX rfl _)<|.P rfl (vI rfl rfl rfl)<|.nil<|U.ew rfl rfl<|U.seq<|rg<|.mv rfl rfl<|.mv rfl rfl<|.P rfl (bx rfl rfl (ao zO))<|.P rfl (ah call199 rfl (zg _ zO))<|.ag rfl rfl<|.nil<|U.ret (?_);exact dt rfl (Sub.refl _)
variable[bX]
structure aky(s:aa)where
 pre:List UInt8
 rest:List UInt8
 hx:s=pre++rest
 hp:pre.all (fun c=>65<=c.toNat&&c.toNat<=90)=true
def akx(s:aa):Fc prog 169 [.str s] (.b (gf s)):=by
 refine ay func169 ntmps169 results169 ?_;refine U.nB 0 rfl (fun hb=>?_);simp only[aD]at hb;refine go []<|U.loop (ι:=aky s) (fun sx=>[(0,.str s),(5,.i s.length),(6,.i sx.pre.length)]) (fun sx=>[]) (fun sx=>sx.rest.length) ⟨[],s,rfl,rfl⟩ ?_ ?_
 ·exact Le.mk rfl (.n 3 rfl rfl .nil) .nil
 ·rintro⟨pre,rest,hx,hp⟩;dsimp only;rcases lc hx with⟨rfl,hl⟩|⟨x,rest,rfl,hl⟩
  ·exact go []<|aH (by simp at hl|-;omega)<|go []<|af rfl (Sub.bool (by grind[gf]))
  ·refine go []<|aM zQ<|Bj zO (lf hx rfl)<|w8 (fun hg=>And.intro zO (lf hx rfl))<|br (fun h1=>?_) (fun h1=>?_)
   ·exact af rfl (Sub.bool (by grind[gf]))
   ·exact sd (ao zO)<|nx ⟨pre++[x],rest,by simp[hx],by grind⟩ zS (Le.mk rfl (.n 2 rfl rfl (.cons rfl (Sub.int zS) rfl .nil)) .nil)
def Wg(s:aa):Fc prog 188 [.str s] (.b false):=by
 refine ay func188 ntmps188 results188 ?_;exact go []<|af rfl (Sub.bool zS)
def RM(a b:aa):Fc prog 132 [.str a,.str b] (.i (o0 a b)):=by
 refine ay func132 ntmps132 results132 ?_;refine go []<|oP (ah call188 rfl (Wg _))<|oP (ah call188 rfl (Wg _))<|aH rfl<|aH rfl<|br (fun h1=>?_) (fun h1=>?_)
 ·exact af rfl (Sub.int (by grind[o0]))
 ·refine br (fun h2=>?_) (fun h2=>?_)
  ·exact af rfl (Sub.int (by grind[o0]))
  ·exact af rfl (Sub.int (by grind[o0]))
end Go.T
namespace Go.T
open Go Go.Proofs Go.Proofs.Tryz
def Ko(s t:aa)(hl:s.length+t.length<=140737488355328):dB prog 286 [.box 7000 0,.str t] [(7000,.fq 7001 s.length),(7001,.ba s)] (.a_ [.i t.length,.raw .nilIface]) [(7000,.fq 7002 (s++t).length),(7002,.ba (s++t)),(7001,.dead)]:=by
 refine dB.mk' [4,5] func286 rfl ntmps286 rfl rfl rfl (fun t w=>results_tmp2 results286 t _ w) ?_;refine U.seq<|rg<|.ag rfl rfl<|.ag rfl rfl<|.nil<|U.seq<|rg<|.mv rfl rfl<|.W rfl (gv call327 rfl (KI 7000 7001 _ _) (.cons rfl rfl (.cons rfl rfl .nil)) rfl rfl)<|.nil<|U.seq<|rg<|.mv rfl rfl<|.mv rfl rfl<|.P rfl (zz rfl)<|.P rfl (iN (n:=0) 152 1 underlying291 sizeOf152 rfl rfl)<|.R rfl (Px (e:=0) isAgg152 rfl rfl rfl rfl)<|.mv rfl rfl<|.W rfl (Pn 7002 underlying152 underlying9 zS sizeOf5 typeInfo5 rfl zeroValue5 rfl rfl rfl rfl (.inl rfl) rfl hl)<|.P rfl (zz rfl)<|.P rfl (iN (n:=0) 152 1 underlying291 sizeOf152 rfl rfl)<|.W rfl (PD sizeOf152 rfl rfl rfl rfl zS)<|.nil<|U.seq<|rg<|.mv rfl rfl<|.P rfl (gG underlying9 rfl)<|.ag rfl rfl<|.ag rfl rfl<|.nil<|U.ret (?_);exact Z6 rfl rfl (Sub.refl _) (by exact Sub.refl _) (.eq rfl zS rfl (.cons rfl rfl (.cons rfl rfl .nil)))
def acU(s:aa)(c:UInt8)(hl:s.length+1<=140737488355328):dB prog 285 [.box 7000 0,.raw (.int .u8 c.toNat)] [(7000,.fq 7001 s.length),(7001,.ba s)] (.raw .nilIface) [(7000,.fq 7002 (s++[c]).length),(7002,.ba (s++[c])),(7001,.dead)]:=by
 refine uF func285 ntmps285 results285 ?_;refine U.seq<|rg<|.ag rfl rfl<|.nil<|U.seq<|rg<|.mv rfl rfl<|.W rfl (gv call327 rfl (KI 7000 7001 _ _) (.cons rfl rfl (.cons rfl rfl .nil)) rfl rfl)<|.nil<|U.seq<|rg<|.mv rfl rfl<|.mv rfl rfl<|.P rfl (zz rfl)<|.P rfl (iN (n:=0) 152 1 underlying291 sizeOf152 rfl rfl)<|.R rfl (Px (e:=0) isAgg152 rfl rfl rfl rfl)<|.mv rfl rfl<|.P rfl (bK (n:=1) (rows:=nC [c]) underlying152 sizeOf5 rfl rfl rfl zeroValue5 rfl rfl rfl rfl rfl rfl rfl)<|.W rfl (Pn 7002 underlying152 underlying152 zS sizeOf5 typeInfo5 rfl zeroValue5 rfl rfl rfl rfl (.inr ⟨_,rfl⟩) rfl hl)<|.P rfl (zz rfl)<|.P rfl (iN (n:=0) 152 1 underlying291 sizeOf152 rfl rfl)<|.W rfl (PD sizeOf152 rfl rfl rfl rfl zS)<|.nil<|U.seq<|rg<|.ag rfl rfl<|.nil<|U.ret (?_);exact ua rfl (by exact Sub.refl _) (.eq rfl zS rfl (.cons rfl rfl (.cons rfl rfl .nil)))
def acV(s t:aa)(hl:s.length+t.length<=140737488355328):dB prog 286 [.box 7000 0,.str t] [(7000,.fq 7002 s.length),(7002,.ba s)] (.a_ [.i t.length,.raw .nilIface]) [(7000,.fq 7001 (s++t).length),(7001,.ba (s++t)),(7002,.dead)]:=by
 refine dB.mk' [4,5] func286 rfl ntmps286 rfl rfl rfl (fun t w=>results_tmp2 results286 t _ w) ?_;refine U.seq<|rg<|.ag rfl rfl<|.ag rfl rfl<|.nil<|U.seq<|rg<|.mv rfl rfl<|.W rfl (gv call327 rfl (KI 7000 7002 _ _) (.cons rfl rfl (.cons rfl rfl .nil)) rfl rfl)<|.nil<|U.seq<|rg<|.mv rfl rfl<|.mv rfl rfl<|.P rfl (zz rfl)<|.P rfl (iN (n:=0) 152 1 underlying291 sizeOf152 rfl rfl)<|.R rfl (Px (e:=0) isAgg152 rfl rfl rfl rfl)<|.mv rfl rfl<|.W rfl (Pn 7001 underlying152 underlying9 zS sizeOf5 typeInfo5 rfl zeroValue5 rfl rfl rfl rfl (.inl rfl) rfl hl)<|.P rfl (zz rfl)<|.P rfl (iN (n:=0) 152 1 underlying291 sizeOf152 rfl rfl)<|.W rfl (PD sizeOf152 rfl rfl rfl rfl zS)<|.nil<|U.seq<|rg<|.mv rfl rfl<|.P rfl (gG underlying9 rfl)<|.ag rfl rfl<|.ag rfl rfl<|.nil<|U.ret (?_);exact Z6 rfl rfl (Sub.refl _) (by exact Sub.refl _) (.eq rfl zS rfl (.cons rfl rfl (.cons rfl rfl .nil)))
def GR(u:Nat)(hu:u<18446744073709551616):Fc prog 287 [.raw (.int .u64 u),.i 10] (.str (Lib.decDigits u)):=by
 refine ay func287 ntmps287 results287 ?_;exact go []<|oP (ah call328 rfl (ahB _ zA))<|af rfl (Sub.refl _)
structure aeM(m:List Nat)where
 cur:List Nat
 hx:bu cur=bu m
 hl:cur.length<=m.length
def sT(m:List Nat):Fc prog 284 [bk m] (bk (bu m)):=by
 refine ay func284 ntmps284 results284 ?_;refine U.eh 0 rfl (fun hb=>?_);simp only[bB,aD]at hb;refine U.seq<|rg<|.ag rfl rfl<|.nil<|U.seq<|U.block<|U.loop (ι:=aeM m) (fun sx=>[(0,bk sx.cur)]) (fun sx=>[]) (fun sx=>sx.cur.length) ⟨m,rfl,by omega⟩ ?_ ?_
 ·exact Le.mk rfl (.s rfl rfl .nil) .nil
 ·rintro⟨cur,hx,hl⟩;dsimp only;rcases np cur with rfl|⟨i,x,rfl⟩
  ·refine U.seq (U.seq (U.e_ [.p,.p,.p,.p,.p,.p,.p,.p,.p,.p,.p,.p] ?_));refine .mv rfl rfl<|.P rfl (cv underlying244 rfl)<|.P rfl (gE rfl rfl)<|.mv rfl rfl<|.off rfl (gL rfl rfl rfl zS)<|.off rfl (gL rfl rfl rfl zS)<|.off rfl (gL rfl rfl rfl zS)<|.off rfl (gL rfl rfl rfl zS)<|.off rfl (gL rfl rfl rfl zS)<|.off rfl (gL rfl rfl rfl zS)<|.off rfl (gL rfl rfl rfl zS)<|.P rfl (zB rfl zS rfl)<|.nil<|U.c6 rfl rfl<|U.exit (dz (du ?_));refine U.seq<|rg<|.mv rfl rfl<|.ag rfl rfl<|.nil<|U.ret (?_);exact dt rfl (Sub.snap (by rw[<-hx];rfl))
  ·refine U.seq<|U.seq<|rg<|.mv rfl rfl<|.P rfl (cv underlying244 rfl)<|.P rfl (gE rfl rfl)<|.mv rfl rfl<|.p rfl (e7 rfl rfl rfl zS) (fun _=>aX rfl _)<|.p rfl (e7 rfl rfl rfl zS) (fun _=>aX rfl _)<|.p rfl (e7 rfl rfl rfl zS) (fun _=>cv underlying244 rfl _)<|.p rfl (e7 rfl rfl rfl zS) (fun _=>dx rfl rfl (cT zO (by simp at*;omega)) _)<|.p rfl (e7 rfl rfl rfl zS) (fun _=>eC underlying244 sizeOf184 rfl rfl zS (VR (fun(n:Nat)=>[D.raw (.int .u64 (n:Int))]) i x rfl) _)<|.p rfl (e7 rfl rfl rfl zS) (fun _=>bE isAgg184 rfl _)<|.p rfl (e7 rfl rfl rfl zS) (fun _=>kO rfl rfl _)<|.P rfl (vI rfl zS rfl)<|.nil<|U.cond rfl (fun h1=>?_) (fun h1=>?_)
   ·have bJ:=h1;try simp only[bs]at bJ
    refine U.skip<|U.block<|rg<|.mv rfl rfl<|.mv rfl rfl<|.P rfl (cv underlying244 rfl)<|.P rfl (dx rfl rfl (cT zO (by simp at*;omega)))<|.P rfl (pC underlying244 sizeOf184 rfl (h:=i.length) (r:=bG i) (.inl ⟨rfl,rfl⟩) (.inr ⟨_,_,rfl,(vp rfl zS)⟩) zO zS zS)<|.ag rfl rfl<|.nil<|U.nil (bR ?_);refine U.nil (cz ?_);exact⟨⟨i,by rw[<-hx,show x=0 by omega,ur],by simp at hl;omega⟩,by simp,Le.mk rfl (.s rfl rfl .nil) .nil⟩
   ·have bJ:=h1;try simp only[bs]at bJ
    refine U.exit (dz (du ?_));refine U.seq<|rg<|.mv rfl rfl<|.ag rfl rfl<|.nil<|U.ret (?_);exact dt rfl (Sub.snap (by(rw[<-hx,Ao i zO])))
def afn(s:aa):Fc prog 282 [.str s] (.a_ [.str (digits s).1,.b (digits s).2]):=by
 refine gq func282 ntmps282 results282 ?_;refine go []<|oP (ah call324 rfl (aeK _))<|oP (ah call180 rfl (as9 _))<|br (fun h1=>?_) (fun h1=>?_)
 ·exact cw rfl rfl (Sub.str (by grind[digits,JF])) (Sub.bool (by grind[digits,JF]))
 ·exact oP (ah call325 rfl (as_ _))<|cw rfl rfl (Sub.str (by grind[digits,JF])) (Sub.bool (by grind[digits,JF]))
structure apZ(s:aa)where
 rest:aa
 tl:aa
 e:Int
 done:List Nat
 hr:(digits s).1=rest++tl
 he:(0<e->e=rest.length)/\(e<=0->rest=[])
 hx:done++gd rest=gd (digits s).1
def vJ(s:aa)(hs:s.length<=100000):Fc prog 238 [.str s] (.agg (pQ (digits s).2 (gd (digits s).1))):=by
 refine Fc.jM func238 rfl ntmps238 rfl rfl rfl ?_;have qI:=ma s;have Ho:=o8 s;have bY:=rL (digits s).1;refine go [99999]<|oP (ah call282 rfl (afn _))<|U.loop (ι:=apZ s) (fun sx=>[(2,.box 0 0),(3,.str (digits s).1),(4,.b (digits s).2),(5,.gs 1 sx.done.length),(6,.i sx.e)]) (fun sx=>[(0,.cells [.b false,.raw (.slice none 0 0)]),(1,.arr 1 (bG sx.done))]) (fun sx=>sx.rest.length) ⟨(digits s).1,[],(digits s).1.length,[],by simp,⟨fun _=>rfl,fun h=>cc.1 zO⟩,rfl⟩ ?_ ?_
 ·exact(Le.gC 1 1).trans<|Le.mk rfl (.n 3 rfl rfl (.cons rfl (Sub.oz _) rfl (.s rfl rfl .nil))) (.cons rfl rfl (.arr rfl zS .nil))
 ·rintro⟨rest,tl,e,done,hr,he,hx⟩;dsimp only;have fQ:=aT List.length hr;simp only[bl]at fQ;have yP:=aT List.length hx;simp only[bl]at yP;refine go [99999]<|br (fun h1=>?_) (fun h1=>?_)
  ·have bJ:=h1;try simp only[bs]at bJ
   exact sd (ao zO)<|oP (oU underlying9 rfl (l:=rest.length-9) (h:=rest.length) (r:=rest.drop (rest.length-9)) (.inr ⟨_,_,rfl,vp rfl zO⟩) (.inr ⟨_,_,rfl,vp rfl zO⟩) zO (by rw[hr];simp) (by rw[hr];simp[List.drop_append,List.take_append]<;>omega))<|oP (ah call283 rfl (aoH _ (by intro e;have:=aT List.length e;simp at this;omega) (by rw[hr,lE,bd]at Ho;have:=Ho.1;rw[<-lG (rest.length-9) rest,lE,bd]at this;exact this.2) zQ))<|oP (bK (n:=1) (rows:=bG [natVal (rest.drop (rest.length-9))]) underlying244 sizeOf184 rfl rfl rfl zeroValue184 rfl rfl rfl rfl rfl rfl rfl)<|oW (ee 2 underlying244 underlying244 sizeOf184 typeInfo184 zeroValue184 rfl (bt:=8) rfl rfl rfl rfl zS rfl rfl zQ)<|sd (ao zO)<|nx ⟨rest.take (rest.length-9),rest.drop (rest.length-9)++tl,e-9,done++[natVal (rest.drop (rest.length-9))],by rw[hr,<-ng,lG],⟨fun h=>by simp;omega,fun h=>cc.1 zQ⟩,by rw[<-hx,AO (s:=rest) zO];simp⟩ zQ ((Le.mk (aj:=[(0,_),(2,_)]) rfl (show ct _ _ [(2,_),(3,_),(4,_),(5,_),(6,_)]from(.n 5 rfl rfl .nil)) (.cons (i:=0) rfl rfl (.cons (i:=2) rfl rfl .nil))).trans<|(Le.iz 5 2 1 rfl rfl zS rfl).trans<|Le.mk rfl (.n 3 rfl rfl (.cons rfl (Sub.gs zS) rfl (.s rfl rfl .nil))) (.cons rfl rfl (.arr rfl zS .nil)))
  ·have bJ:=h1;try simp only[bs]at bJ
   refine go [99999] ?_;refine U.bc (Le.LZ 0 1 1 rfl rfl rfl zS) ?_;refine U.ret (?_);exact Rd.cA results238 isAgg246 sizeOf246 rfl rfl rfl (Sub.agg (.r (.cons (Sub.snap (by rw[<-hx,he.2 zO,uJ,iJ])) .nil)))
structure aaI(dw:Bool)(m:List Nat)where
 lo:List Nat
 hi:List Nat
 st:aa
 hx:bu m=lo++hi
 ht:st++oM lo=vW dw m
 aC:st≠[]
 aU:st.length<=21+9*hi.length
def Cr(dw:Bool)(m:List Nat)(hm:aZ m)(hs:m.length<=20000):Fc prog 239 [.agg (pQ dw m)] (.str (vW dw m)):=by
 refine ay func239 ntmps239 results239 ?_;have wO:=wy m;have wP:=An hm;have qH:(bu m).length≠0->(Lib.decDigits (dv (bu m))).length<=9:=fun h=>Ap (wP _ (yY h));refine U.seq<|rg<|.W rfl (I8 0 rfl rfl)<|.ag rfl rfl<|.nil<|U.seq<|rg<|.P rfl (iN (n:=0) 244 1 underlying246 sizeOf244 rfl rfl)<|.R rfl (iY isAgg244 rfl rfl rfl)<|.P rfl (ah call284 rfl (sT _))<|.ag rfl rfl<|.nil<|U.seq<|U.seq<|rg<|.mv rfl rfl<|.P rfl (cv underlying244 rfl)<|.P rfl (kO rfl rfl)<|.nil<|U.cond rfl (fun h1=>?_) (fun h1=>?_)
 ·refine U.seq<|rg<|.ag rfl rfl<|.nil<|U.ret (?_);exact dt rfl (Sub.str (by grind[vW]))
 ·have bJ:=h1;try simp only[bs]at bJ
  refine U.skip<|U.seq<|rg<|.W rfl (ao5 7000 7001 zeroValue291 rfl)<|.nil<|U.seq<|U.seq<|rg<|.P rfl (iN (n:=0) 4 0 underlying246 sizeOf4 rfl rfl)<|.R rfl (iY isAgg4 rfl rfl rfl)<|.nil<|U.cond rfl (fun h2=>?_) (fun h2=>?_)
  ·refine rg<|.W rfl (gv call285 rfl (acU _ 45 zS) (.cons rfl rfl (.cons rfl rfl .nil)) rfl rfl)<|.nil ?_;refine U.bc (Le.mk (aj:=[(0,_),(7000,_),(7002,_)]) rfl (show ct _ _ [(0,_),(1,_),(2,_),(7,_),(8,_),(9,_),(3,_),(10,_),(11,_),(12,_),(4,_),(13,_),(14,_)]from(.n 13 rfl rfl .nil)) (.cons (i:=0) rfl rfl (.cons (i:=7000) rfl rfl (.cons (i:=7002) rfl rfl .nil)))) ?_;refine U.seq<|rg<|.mv rfl rfl<|.mv rfl rfl<|.P rfl (cv underlying244 rfl)<|.P rfl (dx rfl rfl (cT zO zQ))<|.P rfl (eC underlying244 sizeOf184 rfl rfl zQ (w5 (pre:=bu m) (rest:=[]) zS zO zS))<|.P rfl (bE isAgg184 rfl)<|.P rfl (ah call287 rfl (GR _ (by have:=wP _ (yY (l:=bu m) zO);unfold gB at this;omega)))<|.W rfl (gv call286 rfl (acV _ _ zQ) (.cons rfl rfl (.cons rfl rfl .nil)) rfl rfl)<|.nil ?_;refine U.bc (Le.mk (aj:=[(0,_),(7000,_),(7001,_)]) rfl (show ct _ _ [(0,_),(1,_),(2,_),(7,_),(8,_),(9,_),(3,_),(10,_),(11,_),(12,_),(4,_),(13,_),(14,_),(16,_),(17,_),(18,_),(19,_),(20,_),(21,_),(22,_)]from(.n 20 rfl rfl .nil)) (.cons (i:=0) rfl rfl (.cons (i:=7000) rfl rfl (.cons (i:=7001) rfl rfl .nil)))) ?_;refine U.seq<|U.seq<|rg<|.mv rfl rfl<|.P rfl (cv underlying244 rfl)<|.P rfl (dx rfl rfl (cT zO zQ))<|.ag rfl rfl<|.nil<|U.block<|U.loop (ι:=aaI dw m) (fun sx=>[(1,.box 0 0),(3,bk (bu m)),(4,.box 7000 0),(5,.i ((sx.lo.length:Int)-1))]) (fun sx=>[(0,.cells (pQ dw m)),(7000,.fq 7001 sx.st.length),(7001,.ba sx.st)]) (fun sx=>sx.lo.length) ⟨(bu m).dropLast,[dv (bu m)],([]++[45])++Lib.decDigits (dv (bu m)),uw zO,by unfold vW;rw[aF zO];simp at*;simp[*],by simp[KS],by have:=Ap (wP _ (yY (l:=bu m) zO));simp;omega⟩ ?_ ?_
   ·exact Le.mk rfl (.n 3 rfl rfl (.cons rfl (Sub.int zQ) rfl .nil)) (.cons rfl rfl (.cons rfl rfl (.cons rfl rfl .nil)))
   ·rintro⟨lo,hi,st,hx,ht,aC,aU⟩;dsimp only;have yP:=aT List.length hx;simp only[bl]at yP;have hy:lo.length≠0->dv lo<gB:=fun h=>wP _ (by rw[hx];exact ln _ (yY h));have hd9:lo.length≠0->(Lib.decDigits (dv lo)).length<=9:=fun h=>Ap (hy h);refine U.seq<|U.seq<|rg<|.mv rfl rfl<|.P rfl (qi rfl rfl)<|.nil<|U.cond rfl (fun h3=>?_) (fun h3=>?_)
    ·have gi:=h3;try simp only[bs]at gi
     refine U.skip<|U.seq<|U.block<|U.seq<|rg<|.mv rfl rfl<|.mv rfl rfl<|.P rfl (eC underlying244 sizeOf184 rfl rfl zO (w5 hx zO rfl))<|.P rfl (bE isAgg184 rfl)<|.P rfl (ah call287 rfl (GR _ (by unfold gB at hy;omega)))<|.ag rfl rfl<|.nil<|rg<|.mv rfl rfl<|.P rfl (gG underlying9 rfl)<|.P rfl (dx rfl rfl (ao zO))<|.P rfl (ah call288 rfl (Z2 _ zO zO))<|.mv rfl rfl<|.P rfl (B5 rfl rfl (by unfold aD;simp;omega) rfl)<|.W rfl (gv call286 rfl (Ko _ _ zQ) (.cons rfl rfl (.cons rfl rfl .nil)) rfl rfl)<|.nil<|U.nil (bR ?_);refine U.bc (Le.mk (aj:=[(0,_),(7000,_),(7002,_)]) rfl (show ct _ _ [(1,_),(3,_),(4,_),(5,_),(27,_),(28,_),(31,_),(32,_),(33,_),(34,_),(35,_),(6,_),(36,_),(37,_),(38,_),(39,_),(40,_),(41,_)]from(.n 18 rfl rfl .nil)) (.cons (i:=0) rfl rfl (.cons (i:=7000) rfl rfl (.cons (i:=7002) rfl rfl .nil)))) ?_;refine rg<|.mv rfl rfl<|.P rfl (dx rfl rfl (ao zO))<|.ag rfl rfl<|.nil<|U.nil (cz ?_);exact⟨⟨lo.dropLast,dv lo::hi,st++(List.replicate (9-(Lib.decDigits (dv lo)).length) 48++Lib.decDigits (dv lo)),by rw[hx];conv=>{lhs;rw[uw (l:=lo) zO]};simp,by rw[<-ht,Y5 (lo:=lo) zO];simp[tX],by simp[aC],by simp;omega⟩,by simp;omega,(Le.mk (aj:=[(0,_),(7000,_),(7002,_)]) rfl (show ct _ _ [(1,_),(3,_),(4,_),(5,_)]from(.n 4 rfl rfl .nil)) (.cons (i:=0) rfl rfl (.cons (i:=7000) rfl rfl (.cons (i:=7002) rfl rfl .nil)))).trans<|(Le.PI 7000 7002 7001 rfl rfl zS rfl).trans<|Le.mk rfl (.n 3 rfl rfl (.cons rfl (Sub.int zQ) rfl .nil)) (.cons rfl rfl (.eq rfl zS rfl (.eq rfl zS rfl .nil)))⟩
    ·have gi:=h3;try simp only[bs]at gi
     refine U.exit (dz (du ?_));refine U.seq<|rg<|.W rfl (gv call289 rfl (Rf 7000 7001 _ _ aC rfl (by unfold aD;omega) rfl) (.cons rfl rfl (.cons rfl rfl .nil)) rfl rfl)<|.ag rfl rfl<|.nil<|U.ret (?_);exact dt rfl (Sub.str (by have e:lo=[]:=List.length_eq_zero_iff.mp zO;rw[e]at ht;rw[<-ht];simp[Y4]))
  ·refine U.skip<|U.seq<|rg<|.mv rfl rfl<|.mv rfl rfl<|.P rfl (cv underlying244 rfl)<|.P rfl (dx rfl rfl (cT zO zQ))<|.P rfl (eC underlying244 sizeOf184 rfl rfl zQ (w5 (pre:=bu m) (rest:=[]) zS zO zS))<|.P rfl (bE isAgg184 rfl)<|.P rfl (ah call287 rfl (GR _ (by have:=wP _ (yY (l:=bu m) zO);unfold gB at this;omega)))<|.W rfl (gv call286 rfl (Ko _ _ zQ) (.cons rfl rfl (.cons rfl rfl .nil)) rfl rfl)<|.nil ?_;refine U.bc (Le.mk (aj:=[(0,_),(7000,_),(7002,_)]) rfl (show ct _ _ [(0,_),(1,_),(2,_),(7,_),(8,_),(9,_),(3,_),(10,_),(11,_),(12,_),(4,_),(13,_),(14,_),(16,_),(17,_),(18,_),(19,_),(20,_),(21,_),(22,_)]from(.n 20 rfl rfl .nil)) (.cons (i:=0) rfl rfl (.cons (i:=7000) rfl rfl (.cons (i:=7002) rfl rfl .nil)))) ?_;refine U.seq<|U.seq<|rg<|.mv rfl rfl<|.P rfl (cv underlying244 rfl)<|.P rfl (dx rfl rfl (cT zO zQ))<|.ag rfl rfl<|.nil<|U.block<|U.loop (ι:=aaI dw m) (fun sx=>[(1,.box 0 0),(3,bk (bu m)),(4,.box 7000 0),(5,.i ((sx.lo.length:Int)-1))]) (fun sx=>[(0,.cells (pQ dw m)),(7000,.fq 7001 sx.st.length),(7001,.ba sx.st)]) (fun sx=>sx.lo.length) ⟨(bu m).dropLast,[dv (bu m)],[]++Lib.decDigits (dv (bu m)),uw zO,by unfold vW;rw[aF zO];simp at*;simp[*],by simp[KS],by have:=Ap (wP _ (yY (l:=bu m) zO));simp;omega⟩ ?_ ?_
   ·exact(Le.mk (aj:=[(0,_),(7000,_),(7002,_)]) rfl (show ct _ _ [(1,_),(3,_),(4,_),(5,_)]from(.n 4 rfl rfl .nil)) (.cons (i:=0) rfl rfl (.cons (i:=7000) rfl rfl (.cons (i:=7002) rfl rfl .nil)))).trans<|(Le.PI 7000 7002 7001 rfl rfl zS rfl).trans<|Le.mk rfl (.n 3 rfl rfl (.cons rfl (Sub.int zQ) rfl .nil)) (.cons rfl rfl (.cons rfl rfl (.cons rfl rfl .nil)))
   ·rintro⟨lo,hi,st,hx,ht,aC,aU⟩;dsimp only;have yP:=aT List.length hx;simp only[bl]at yP;have hy:lo.length≠0->dv lo<gB:=fun h=>wP _ (by rw[hx];exact ln _ (yY h));have hd9:lo.length≠0->(Lib.decDigits (dv lo)).length<=9:=fun h=>Ap (hy h);refine U.seq<|U.seq<|rg<|.mv rfl rfl<|.P rfl (qi rfl rfl)<|.nil<|U.cond rfl (fun h4=>?_) (fun h4=>?_)
    ·have gD:=h4;try simp only[bs]at gD
     refine U.skip<|U.seq<|U.block<|U.seq<|rg<|.mv rfl rfl<|.mv rfl rfl<|.P rfl (eC underlying244 sizeOf184 rfl rfl zO (w5 hx zO rfl))<|.P rfl (bE isAgg184 rfl)<|.P rfl (ah call287 rfl (GR _ (by unfold gB at hy;omega)))<|.ag rfl rfl<|.nil<|rg<|.mv rfl rfl<|.P rfl (gG underlying9 rfl)<|.P rfl (dx rfl rfl (ao zO))<|.P rfl (ah call288 rfl (Z2 _ zO zO))<|.mv rfl rfl<|.P rfl (B5 rfl rfl (by unfold aD;simp;omega) rfl)<|.W rfl (gv call286 rfl (Ko _ _ zQ) (.cons rfl rfl (.cons rfl rfl .nil)) rfl rfl)<|.nil<|U.nil (bR ?_);refine U.bc (Le.mk (aj:=[(0,_),(7000,_),(7002,_)]) rfl (show ct _ _ [(1,_),(3,_),(4,_),(5,_),(27,_),(28,_),(31,_),(32,_),(33,_),(34,_),(35,_),(6,_),(36,_),(37,_),(38,_),(39,_),(40,_),(41,_)]from(.n 18 rfl rfl .nil)) (.cons (i:=0) rfl rfl (.cons (i:=7000) rfl rfl (.cons (i:=7002) rfl rfl .nil)))) ?_;refine rg<|.mv rfl rfl<|.P rfl (dx rfl rfl (ao zO))<|.ag rfl rfl<|.nil<|U.nil (cz ?_);exact⟨⟨lo.dropLast,dv lo::hi,st++(List.replicate (9-(Lib.decDigits (dv lo)).length) 48++Lib.decDigits (dv lo)),by rw[hx];conv=>{lhs;rw[uw (l:=lo) zO]};simp,by rw[<-ht,Y5 (lo:=lo) zO];simp[tX],by simp[aC],by simp;omega⟩,by simp;omega,(Le.mk (aj:=[(0,_),(7000,_),(7002,_)]) rfl (show ct _ _ [(1,_),(3,_),(4,_),(5,_)]from(.n 4 rfl rfl .nil)) (.cons (i:=0) rfl rfl (.cons (i:=7000) rfl rfl (.cons (i:=7002) rfl rfl .nil)))).trans<|(Le.PI 7000 7002 7001 rfl rfl zS rfl).trans<|Le.mk rfl (.n 3 rfl rfl (.cons rfl (Sub.int zQ) rfl .nil)) (.cons rfl rfl (.eq rfl zS rfl (.eq rfl zS rfl .nil)))⟩
    ·have gD:=h4;try simp only[bs]at gD
     refine U.exit (dz (du ?_));refine U.seq<|rg<|.W rfl (gv call289 rfl (Rf 7000 7001 _ _ aC rfl (by unfold aD;omega) rfl) (.cons rfl rfl (.cons rfl rfl .nil)) rfl rfl)<|.ag rfl rfl<|.nil<|U.ret (?_);exact dt rfl (Sub.str (by have e:lo=[]:=List.length_eq_zero_iff.mp zO;rw[e]at ht;rw[<-ht];simp[Y4]))
def anl(s:aa)(hs:s.length<=9000):Fc prog 311 [.str s] (.str (vW (!(digits s).2) (gd (digits s).1))):=by
 refine ay func311 ntmps311 results311 ?_;have qI:=ma s;have bY:=rL (digits s).1;have hgo:=(Md _ (o8 s)).1;exact go []<|oP (ah call238 rfl (vJ _ zO))<|oP (ah call239 rfl (Cr _ _ zA zO))<|af rfl (Sub.refl _)
structure aea(x y:List Nat)where
 lx:List Nat
 rx:List Nat
 ly:List Nat
 ry:List Nat
 ex:x=lx++rx
 ey:y=ly++ry
 el:lx.length=ly.length
 er:jl lx.reverse ly.reverse=jc x y
def Am(x y:List Nat)(hx:x.length<=20000)(hy:y.length<=20000):Fc prog 240 [bk x,bk y] (.i (jc x y)):=by
 refine ay func240 ntmps240 results240 ?_;refine go []<|br (fun h1=>?_) (fun h1=>?_)
 ·exact sd (cT zQ zQ)<|af rfl (Sub.int (by unfold jc;rw[aV (by simp at*;omega)];simp))
 ·refine sd (cT zO zQ)<|U.loop (ι:=aea x y) (fun sx=>[(0,bk x),(1,bk y),(5,.i ((sx.lx.length:Int)-1))]) (fun sx=>[]) (fun sx=>sx.lx.length) ⟨x,[],y,[],by simp,by simp,by simp at*;omega,(adY (by simp at*;omega)).symm⟩ ?_ ?_
  ·exact Le.mk rfl (.n 2 rfl rfl (.cons rfl (Sub.int zS) rfl .nil)) .nil
  ·rintro⟨lx,rx,ly,ry,ex,ey,el,er⟩;dsimp only;have Lx:=aT List.length ex;have Ly:=aT List.length ey;simp only[bl]at Lx Ly;have es:=fun h=>F7 (x:=lx) (y:=ly) h el;refine go []<|br (fun h2=>?_) (fun h2=>?_)
   ·have di:=h2;try simp only[bs]at di
    refine ix zO (w5 ex zO rfl)<|ix zO (w5 ey zO zO)<|ord<|br (fun h3=>?_) (fun h3=>?_)
    ·have gi:=h3;try simp only[bs]at gi
     exact af rfl (Sub.int (by(rw[<-er,es zO];rw[aV zO])))
    ·have gi:=h3;try simp only[bs]at gi
     refine ix zO (w5 ex zO rfl)<|ix zO (w5 ey zO zO)<|ord<|br (fun h4=>?_) (fun h4=>?_)
     ·have gD:=h4;try simp only[bs]at gD
      exact af rfl (Sub.int (by(rw[<-er,es zO];rw[aF zO,aV zO])))
     ·have gD:=h4;try simp only[bs]at gD
      exact sd (ao zO)<|nx ⟨lx.dropLast,dv lx::rx,ly.dropLast,dv ly::ry,by rw[ex];conv=>{lhs;rw[uw (l:=lx) zO]};simp,by rw[ey];conv=>{lhs;rw[uw (l:=ly) zO]};simp,by simp;omega,by rw[<-er,F7 zO el,aF zO,aF zO]⟩ zQ (Le.mk rfl (.n 2 rfl rfl (.cons rfl (Sub.int zQ) rfl .nil)) .nil)
   ·have di:=h2;try simp only[bs]at di
    exact go []<|af rfl (Sub.int (by rw[<-er,KC zO]))
def adO(m:List Nat)(hm:m.length≠0)(hs:m.length<=20000):dB prog 323 [bk m] [] (.gs 7100 m.length) [(7100,.arr 1 (bG m))]:=by
 refine uF func323 ntmps323 results323 ?_;refine U.seq<|rg<|.ag rfl rfl<|.nil<|U.seq<|U.seq<|rg<|.mv rfl rfl<|.P rfl (aph underlying244 rfl rfl (by intro e;apply hm;simpa using congrArg List.length e))<|.nil<|U.c6 rfl rfl<|U.skip<|U.seq<|rg<|.P rfl (t_ underlying244 sizeOf184)<|.mv rfl rfl<|.W rfl (aq.gC 7099 1 (t:=5) rfl (Sub.yp _ _) (ee 7100 underlying244 underlying244 sizeOf184 typeInfo184 zeroValue184 rfl (bt:=8) rfl rfl rfl rfl rfl rfl rfl zQ))<|.ag rfl rfl<|.nil<|U.ret (?_);exact ua rfl (by exact Sub.gs zS) (.eq rfl zS rfl .nil)
structure amQ(x y:List Nat)where
 out:List Nat
 rest:List Nat
 c:Nat
 hl:x.length=out.length+rest.length
 hc:c<=1
 ho:aZ rest
 hr:out++gw rest (y.drop out.length) c=gw x y 0
def Io(x y:List Nat)(hx:x.length≠0)(wZ:x.length<=20000)(Be:y.length<=20000)(jf:aZ x)(uZ:aZ y):Fc prog 281 [bk x,bk y] (bk (bu (gw x y 0))):=by
 refine ay func281 ntmps281 results281 ?_;refine U.seq<|rg<|.ag rfl rfl<|.nil<|U.seq<|rg<|.mv rfl rfl<|.W rfl (gv call323 rfl (adO _ zO zO) .nil rfl rfl)<|.ag rfl rfl<|.nil<|U.seq<|rg<|.ag rfl rfl<|.nil<|U.seq<|U.seq<|rg<|.mv rfl rfl<|.P rfl (vG underlying244 rfl)<|.mv rfl rfl<|.nil<|U.block<|U.loop (ι:=amQ x y) (fun sx=>[(1,bk y),(5,.gs 7100 x.length),(6,.raw (.int .u64 (sx.c:Int))),(12,.i x.length),(13,.i sx.out.length)]) (fun sx=>[(7100,.arr 1 (bG (sx.out++sx.rest)))]) (fun sx=>sx.rest.length) ⟨[],x,0,by simp,by omega,jf,by simp⟩ ?_ ?_
 ·exact Le.mk rfl (.s rfl rfl (.cons rfl (Sub.gs zS) rfl (.n 3 rfl rfl .nil))) (.arr rfl (by rfl) .nil)
 ·rintro⟨out,rest,c,hl,hc,ho,hr⟩;dsimp only;rcases rest with _|⟨a,rest⟩
  ·refine U.seq<|rg<|.P rfl (bp rfl rfl)<|.nil<|U.seq<|U.c6 rfl (by simp at hl|-;omega)<|U.exit (dz (du ?_));refine U.bc (Le.freeze 5 7100 rfl rfl (by simp at hl|-;omega)) ?_;refine U.seq<|rg<|.mv rfl rfl<|.P rfl (ah call284 rfl (sT _))<|.ag rfl rfl<|.nil<|U.ret (?_);exact dt rfl (Sub.snap (by simp[gw]at hr;simp[hr]))
  ·simp only[bD]at hl;have ha:=ho a zS;have hb:=OI (k:=out.length) uZ;refine U.seq<|rg<|.P rfl (bp rfl rfl)<|.nil<|U.seq<|U.ew rfl zQ<|U.skip<|U.seq<|U.block<|U.seq<|rg<|.mv rfl rfl<|.ag rfl rfl<|.nil<|U.seq<|rg<|.mv rfl rfl<|.ag rfl rfl<|.nil<|U.seq<|U.seq<|rg<|.mv rfl rfl<|.mv rfl rfl<|.P rfl (cv underlying244 rfl)<|.P rfl (bp rfl rfl)<|.nil<|U.cond rfl (fun h1=>?_) (fun h1=>?_)
   ·refine rg<|.mv rfl rfl<|.mv rfl rfl<|.mv rfl rfl<|.P rfl (eC underlying244 sizeOf184 rfl rfl zO (u4 (Ew (by simp at*;omega)) rfl))<|.P rfl (bE isAgg184 rfl)<|.P rfl (bx rfl rfl (addN (by unfold gB at*;omega)))<|.ag rfl rfl<|.nil<|U.seq<|rg<|.ag rfl rfl<|.nil<|U.seq<|U.seq<|rg<|.mv rfl rfl<|.mv rfl rfl<|.P rfl (ca (off:=(out.length)*1) underlying244 sizeOf184 rfl rfl zO zQ zO)<|.R rfl (fG (r:=_) (out.length) 0 isAgg184 rfl rfl rfl (fS _ _ _) rfl)<|.mv rfl rfl<|.P rfl (bp rfl rfl)<|.nil<|U.cond rfl (fun h2=>?_) (fun h2=>?_)
    ·have di:=h2;try simp only[bs]at di
     refine U.seq<|rg<|.mv rfl rfl<|.mv rfl rfl<|.P rfl (ca (off:=(out.length)*1) underlying244 sizeOf184 rfl rfl zO zQ zO)<|.R rfl (fG (r:=_) (out.length) 0 isAgg184 rfl rfl rfl (fS _ _ _) rfl)<|.P rfl (bx rfl rfl (addN (b:=gB) (by unfold gB at*;omega)))<|.P rfl (ca (off:=(out.length)*1) underlying244 sizeOf184 rfl rfl zO zQ zO)<|.W rfl (ic (r:=_) (out.length) 0 sizeOf184 rfl rfl rfl rfl rfl rfl (fS _ _ _) zS)<|.nil<|rg<|.ag rfl rfl<|.nil<|rg<|.mv rfl rfl<|.mv rfl rfl<|.P rfl (ca (off:=(out.length)*1) underlying244 sizeOf184 rfl rfl zO zQ zO)<|.R rfl (fG (r:=_) (out.length) 0 isAgg184 rfl rfl rfl (hC (fS _ _ _)) rfl)<|.mv rfl rfl<|.P rfl (dx rfl rfl (sC zO (by unfold gB at*;omega)))<|.P rfl (ca (off:=(out.length)*1) underlying244 sizeOf184 rfl rfl zO zQ zO)<|.W rfl (ic (r:=_) (out.length) 0 sizeOf184 rfl rfl rfl rfl rfl rfl (hC (fS _ _ _)) zS)<|.nil<|U.nil (bR ?_);refine rg<|.P rfl (bx rfl rfl (ao zO))<|.mv rfl rfl<|.nil<|U.nil (cz ?_);exact⟨⟨out++[a+gB-(c+mh y out.length)],rest,1,by simp;omega,by omega,fun u hu=>ho u (by simp[hu]),by rw[<-hr,Qc (by simp at*;omega),aV zO,aV zO];simp⟩,by simp,Le.mk rfl (.s rfl rfl (.cons rfl (Sub.gs zS) rfl (.n 2 rfl rfl (.cons rfl (Sub.int zS) rfl .nil)))) (.arr rfl (by skip;simp only[Ag,oG];exact(uy _ _ _ _).trans zS) .nil)⟩
    ·have di:=h2;try simp only[bs]at di
     refine U.skip<|rg<|.mv rfl rfl<|.mv rfl rfl<|.P rfl (ca (off:=(out.length)*1) underlying244 sizeOf184 rfl rfl zO zQ zO)<|.R rfl (fG (r:=_) (out.length) 0 isAgg184 rfl rfl rfl (fS _ _ _) rfl)<|.mv rfl rfl<|.P rfl (dx rfl rfl (sC zO (by unfold gB at*;omega)))<|.P rfl (ca (off:=(out.length)*1) underlying244 sizeOf184 rfl rfl zO zQ zO)<|.W rfl (ic (r:=_) (out.length) 0 sizeOf184 rfl rfl rfl rfl rfl rfl (fS _ _ _) zS)<|.nil<|U.nil (bR ?_);refine rg<|.P rfl (bx rfl rfl (ao zO))<|.mv rfl rfl<|.nil<|U.nil (cz ?_);exact⟨⟨out++[a-(c+mh y out.length)],rest,0,by simp;omega,by omega,fun u hu=>ho u (by simp[hu]),by rw[<-hr,Qc (by simp at*;omega),aF zO,aF zO];simp⟩,by simp,Le.mk rfl (.s rfl rfl (.cons rfl (Sub.gs zS) rfl (.n 2 rfl rfl (.cons rfl (Sub.int zS) rfl .nil)))) (.arr rfl (by skip;simp only[Ag,oG];exact(uy _ _ _ _).trans zS) .nil)⟩
   ·refine U.skip<|U.seq<|rg<|.ag rfl rfl<|.nil<|U.seq<|U.seq<|rg<|.mv rfl rfl<|.mv rfl rfl<|.P rfl (ca (off:=(out.length)*1) underlying244 sizeOf184 rfl rfl zO zQ zO)<|.R rfl (fG (r:=_) (out.length) 0 isAgg184 rfl rfl rfl (fS _ _ _) rfl)<|.mv rfl rfl<|.P rfl (bp rfl rfl)<|.nil<|U.cond rfl (fun h3=>?_) (fun h3=>?_)
    ·have gi:=h3;try simp only[bs]at gi
     refine U.seq<|rg<|.mv rfl rfl<|.mv rfl rfl<|.P rfl (ca (off:=(out.length)*1) underlying244 sizeOf184 rfl rfl zO zQ zO)<|.R rfl (fG (r:=_) (out.length) 0 isAgg184 rfl rfl rfl (fS _ _ _) rfl)<|.P rfl (bx rfl rfl (addN (b:=gB) (by unfold gB at*;omega)))<|.P rfl (ca (off:=(out.length)*1) underlying244 sizeOf184 rfl rfl zO zQ zO)<|.W rfl (ic (r:=_) (out.length) 0 sizeOf184 rfl rfl rfl rfl rfl rfl (fS _ _ _) zS)<|.nil<|rg<|.ag rfl rfl<|.nil<|rg<|.mv rfl rfl<|.mv rfl rfl<|.P rfl (ca (off:=(out.length)*1) underlying244 sizeOf184 rfl rfl zO zQ zO)<|.R rfl (fG (r:=_) (out.length) 0 isAgg184 rfl rfl rfl (hC (fS _ _ _)) rfl)<|.mv rfl rfl<|.P rfl (dx rfl rfl (sC zO (by unfold gB at*;omega)))<|.P rfl (ca (off:=(out.length)*1) underlying244 sizeOf184 rfl rfl zO zQ zO)<|.W rfl (ic (r:=_) (out.length) 0 sizeOf184 rfl rfl rfl rfl rfl rfl (hC (fS _ _ _)) zS)<|.nil<|U.nil (bR ?_);refine rg<|.P rfl (bx rfl rfl (ao zO))<|.mv rfl rfl<|.nil<|U.nil (cz ?_);exact⟨⟨out++[a+gB-c],rest,1,by simp;omega,by omega,fun u hu=>ho u (by simp[hu]),by rw[<-hr,Qb (by simp at*;omega),aV zO,aV zO];simp⟩,by simp,Le.mk rfl (.s rfl rfl (.cons rfl (Sub.gs zS) rfl (.n 2 rfl rfl (.cons rfl (Sub.int zS) rfl .nil)))) (.arr rfl (by skip;simp only[Ag,oG];exact(uy _ _ _ _).trans zS) .nil)⟩
    ·have gi:=h3;try simp only[bs]at gi
     refine U.skip<|rg<|.mv rfl rfl<|.mv rfl rfl<|.P rfl (ca (off:=(out.length)*1) underlying244 sizeOf184 rfl rfl zO zQ zO)<|.R rfl (fG (r:=_) (out.length) 0 isAgg184 rfl rfl rfl (fS _ _ _) rfl)<|.mv rfl rfl<|.P rfl (dx rfl rfl (sC zO (by unfold gB at*;omega)))<|.P rfl (ca (off:=(out.length)*1) underlying244 sizeOf184 rfl rfl zO zQ zO)<|.W rfl (ic (r:=_) (out.length) 0 sizeOf184 rfl rfl rfl rfl rfl rfl (fS _ _ _) zS)<|.nil<|U.nil (bR ?_);refine rg<|.P rfl (bx rfl rfl (ao zO))<|.mv rfl rfl<|.nil<|U.nil (cz ?_);exact⟨⟨out++[a-c],rest,0,by simp;omega,by omega,fun u hu=>ho u (by simp[hu]),by rw[<-hr,Qb (by simp at*;omega),aF zO,aF zO];simp⟩,by simp,Le.mk rfl (.s rfl rfl (.cons rfl (Sub.gs zS) rfl (.n 2 rfl rfl (.cons rfl (Sub.int zS) rfl .nil)))) (.arr rfl (by skip;simp only[Ag,oG];exact(uy _ _ _ _).trans zS) .nil)⟩
end Go.T
