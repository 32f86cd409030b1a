/-
  Contracts of the functions that the statement reaches, and the logic in which they are proved (no condition): parts Spec11, Spec12, Spec13, Spec14, Spec15, Spec16, Spec17, SpecD2, W3, W4, W5, W6, W7, W8, W9, W10, W11, W12, W13, W14, W15, W16, W17, W18, W19, W20, W21, W22.
-/
import Derived.Test.YtapflgppmigcdaaGreatDoorA08
import Derived.Lib.Bytealg
set_option linter.all false
namespace Go.T
open Go
theorem L0{x y:List Nat}(hx:x.length≠0)(he:x.length=y.length):kA x.reverse y.reverse=if cY x<cY y then -1 else if cY y<cY x then 1 else kA x.dropLast.reverse y.dropLast.reverse:=by
 rcases lV x with rfl|⟨i,a,rfl⟩
 ·simp at hx
 rcases lV y with rfl|⟨j,b,rfl⟩
 ·simp at he
 simp[kA,cY]
theorem LY{x y:List Nat}(hx:x.length=0):kA x.reverse y.reverse=0:=by
 rw[List.length_eq_zero_iff.1 hx];rfl
theorem WM{x y:List Nat}(h:x.length=y.length):ig x y=kA x.reverse y.reverse:=by unfold ig;rw[if_neg zO]
theorem WL(x y:List Nat)(hx:x.length≤20000)(hy:y.length≤20000):-20000≤ig x y∧ig x y≤20000:=by
 unfold ig;split
 ·omega
 ·have:∀a b:List Nat,-1≤kA a b∧kA a b≤1:=by
   intro a;induction a with
   |nil=>intro b;simp[kA]
   |cons a x ih=>
    intro b;cases b with
    |nil=>simp[kA]
    |cons b y=>
     simp only[kA];split
     ·omega
     ·split
      ·omega
      ·exact ih y
  have:=this x.reverse y.reverse;omega
theorem LZ:∀(n:Nat)(x y:List Nat),x.length=n→y.length=n→aU x→aU y→
  (kA x.reverse y.reverse<0↔an x<an y)∧(0<kA x.reverse y.reverse↔an y<an x)
 |0,x,y,hx,hy,_,_=>by
  rw[List.length_eq_zero_iff.1 hx,List.length_eq_zero_iff.1 hy];simp[kA,an]
 |n+1,x,y,hx,hy,ox,oy=>by
  rcases lV x with rfl|⟨i,a,rfl⟩
  ·simp at hx
  rcases lV y with rfl|⟨j,b,rfl⟩
  ·simp at hy
  have hi:i.length=n:=by simpa using hx
  have hj:j.length=n:=by simpa using hy
  have oi:aU i:=fun u hu=>ox u (by simp[hu]);have oj:aU j:=fun u hu=>oy u (by simp[hu]);have ih:=LZ n i j hi hj oi oj;have li:=sl oi;have lj:=sl oj;rw[hi]at li;rw[hj]at lj;simp only[List.reverse_append,List.reverse_singleton,List.singleton_append,kA,uh,an,hi,hj,Nat.mul_zero,Nat.add_zero];by_cases h1:a<b
  ·rw[if_pos h1];have:=Nat.mul_le_mul_left (gB^n) (show a+1≤b from h1);rw[Nat.mul_add,Nat.mul_one]at this;constructor<;>constructor<;>intro h<;>omega
  ·rw[if_neg h1];by_cases h2:b<a
   ·rw[if_pos h2];have:=Nat.mul_le_mul_left (gB^n) (show b+1≤a from h2);rw[Nat.mul_add,Nat.mul_one]at this;constructor<;>constructor<;>intro h<;>omega
   ·rw[if_neg h2];have:a=b:=by omega
    subst this;constructor
    ·rw[ih.1];omega
    ·rw[ih.2];omega
theorem IY{x:List Nat}(hc:bh x=x)(h0:x.length≠0):gB^(x.length-1)≤an x:=by
 rcases lV x with rfl|⟨i,a,rfl⟩
 ·simp at h0
 have ha:a≠0:=by
  rintro rfl;rw[rJ]at hc;have:=tw i;rw[hc]at this;simp at this;omega
 rw[uh];simp only[an,Nat.mul_zero,Nat.add_zero,List.length_append,List.length_singleton,Nat.add_sub_cancel];have:=Nat.mul_le_mul_left (gB^i.length) (show 1≤a by omega);omega
theorem QP{x y:List Nat}(ox:aU x)(cy:bh y=y)(h:x.length<y.length):an x<an y:=by
 have h1:=sl ox;have h2:=IY cy zO;have h3:gB^x.length≤gB^(y.length-1):=Nat.pow_le_pow_right dz zO;omega
theorem F2{x y:List Nat}(ox:aU x)(oy:aU y)(cx:bh x=x)(cy:bh y=y):
  (ig x y<0↔an x<an y)∧(0<ig x y↔an y<an x):=by
 unfold ig;split
 ·rename_i h;rcases Nat.lt_or_ge x.length y.length with hl|hl
  ·have:=QP ox cy hl;constructor<;>constructor<;>intro h<;>omega
  ·have:=QP oy cx (show y.length<x.length by omega);constructor<;>constructor<;>intro h<;>omega
 ·rename_i h;exact LZ y.length x y zO rfl ox oy
theorem F_{x:List Nat}(h:x.length≠0→cY x≠0):bh x=x:=by
 rcases lV x with rfl|⟨i,a,rfl⟩
 ·rfl
 ·exact xo i (by simpa[cY]using h zS)
theorem af_{c:UInt8}{r:aa}(hc:bN c=true)(h:c≠48):natVal (c::r)≠0:=by
 have e:natVal (c::r)=natVal ([c]++r):=rfl;rw[e,uq];have h1:natVal [c]=c.toNat-48:=by simp[natVal]
 have h2:c.toNat≠48:=fun e=>h (UInt8.toNat_inj.1 e);have h3:48≤c.toNat:=by simp[bN]at hc;exact hc.1
 rw[h1];have:0<(c.toNat-48)*10^r.length:=Nat.mul_pos zO (Nat.pow_pos zO);omega
theorem P'{a:Nat}{l:List Nat}(h:l.length≠0):cY (a::l)=cY l:=by
 cases l with
 |nil=>simp at h
 |cons b l=>simp[cY]
theorem N5{d:aa}(h:d.length≠0):(e7 d).length≠0:=by rw[xN h];simp
theorem ab4(d:aa)(hd:d.all bN=true)(h0:d.head?≠some 48)(hn:d.length≠0):cY (e7 d)≠0:=by
 induction h:d.length using Nat.strongRecOn generalizing d with
 |_ n ih=>
  rw[xN hn];by_cases hl:d.length≤9
  ·have e1:d.length-9=0:=by omega
   rw[e1,List.take_zero,List.drop_zero,rV];show natVal d≠0;cases d with
   |nil=>simp at hn
   |cons c r=>exact af_ (by simp at hd;exact hd.1) (by simpa using h0)
  ·have bL:(d.take (d.length-9)).length=d.length-9:=by simp
   rw[P' (N5 zO)];refine ih (d.length-9) zO _ ?_ ?_ zO bL
   ·rw[List.all_eq_true]at hd⊢;exact fun x hx=>hd x (List.mem_of_mem_take hx)
   ·rw[List.head?_take,if_neg zO];exact h0
theorem YF(s:aa):(en s).head?≠some 48:=by
 induction s with
 |nil=>simp[en]
 |cons c r ih=>
  unfold en;split
  ·rename_i mW;simp at mW;rw[←mW.2];exact ih
  ·rename_i aB;simp only[List.head?_cons];intro h;injection h with h;subst h;exact aB r rfl
theorem CE(s:aa):(digits s).1.head?≠some 48:=by
 unfold digits;split
 ·exact YF _
 ·simp
theorem X6(s:aa):bh (e7 (digits s).1)=e7 (digits s).1:=F_ fun h=>ab4 _ (mM s) (CE s) (by intro e;apply h;rw[List.length_eq_zero_iff.1 e,rV];rfl)
theorem zF(s:aa)(h:(digits s).2=true):(e7 (digits s).1).length≠0:=by
 apply N5;unfold digits at h⊢;split at h
 ·rename_i hd;rw[if_pos hd];simp only[Bool.and_eq_true,decide_eq_true_eq]at h;intro e;exact h.2 (List.length_eq_zero_iff.1 e)
 ·simp at h
def jg(cD:Bool)(m:List Nat):Int:=if cD then -(an m:Int)else an m
theorem lR(s:aa):jg (digits s).2 (e7 (digits s).1)=val s:=by
 unfold jg val;rw[(He _ (mM s)).2]
def fO(n:Int):Int:=if n<0 then -1 else if 0<n then 1 else 0
theorem A6{x:List Nat}(hc:bh x=x)(h0:x.length≠0):0<an x:=Nat.lt_of_lt_of_le (Nat.pow_pos dz) (IY hc h0)
structure ng(cD:Bool)(m:List Nat):Prop where
 ok:aU m
 cut:bh m=m
 Bd:cD=true→m.length≠0
theorem my(s:aa):ng (digits s).2 (e7 (digits s).1):=⟨(He _ (mM s)).1,X6 s,zF s⟩
theorem addN{a b:Nat}(h:a+b<18446744073709551616):IntKind.u64.wrap ((a:Int)+(b:Int))=((a+b:Nat):Int):=by
 rw[B_ zO zO];simp
theorem p_{a b:Nat}(hb:b≤a)(h:a<18446744073709551616):IntKind.u64.wrap ((a:Int)-(b:Int))=((a-b:Nat):Int):=by
 rw[B_ zO zO];omega
theorem uD{a:Nat}(h:a<18446744073709551616):IntKind.u64.wrap ((a:Int).tdiv 1000000000)=((a/gB:Nat):Int):=by
 have e:(a:Int).tdiv 1000000000=((a/gB:Nat):Int):=by
  rw[Int.tdiv_eq_ediv_of_nonneg zO];unfold gB;omega
 rw[e];have:a/gB≤a:=Nat.div_le_self _ _;generalize a/gB=q at this⊢;exact B_ zO zO
theorem s0(a:Nat):(a:Int).tmod 1000000000=((a%gB:Nat):Int):=by
 rw[Int.tmod_eq_emod_of_nonneg zO];unfold gB;omega
theorem eX(o:List Nat)(a:Nat)(r:List Nat):(aV (o++a::r))[o.length]?=some [.raw (.int .u64 (a:Int))]:=by simp[aV]
theorem fM{rows:List (List D)}{j:Nat}{r r':List D}(h:rows[j]?=some r):(rows.set j r')[j]?=some r':=by
 have:=(List.getElem?_eq_some_iff.1 h).1;simp[this]
theorem rN(o:List Nat)(a x:Nat)(r:List Nat):(aV (o++a::r)).set o.length [.raw (.int .u64 (x:Int))]=aV (o++x::r):=by
 simp[aV,List.set_append]
theorem r_{l:List Nat}{n:Int}{k b:Nat}{r:List Nat}(hd:l.drop k=b::r)(hn:n=(k:Int)):(aV l)[n.toNat]?=some [.raw (.int .u64 (b:Int))]:=by
 subst hn;have:l[k]?=some b:=by
  have:=congrArg (fun x=>x[0]?) hd;simpa using this
 simp[aV,this]
def lN(l:List Nat)(k:Nat):Nat:=l.getD k 0
theorem Bg{l:List Nat}{k:Nat}(h:k<l.length):l.drop k=lN l k::l.drop (k+1):=by
 rw[List.drop_eq_getElem_cons h];simp[lN,h]
theorem Jj{l:List Nat}{k:Nat}(hm:aU l):lN l k<gB:=by
 unfold lN;rcases Nat.lt_or_ge k l.length with h|h
 ·simp only[List.getD_eq_getElem?_getD,List.getElem?_eq_getElem h,Option.getD_some];exact hm _ (List.getElem_mem h)
 ·simp only[List.getD_eq_getElem?_getD,List.getElem?_eq_none h,Option.getD_none];exact dz
theorem TT{a:Nat}{rest y:List Nat}{k c:Nat}(h:k<y.length):gH (a::rest) (y.drop k) c=(if a<c+lN y k then a+gB-(c+lN y k)else a-(c+lN y k))::gH rest (y.drop (k+1)) (if a<c+lN y k then 1 else 0):=by rw[Bg h];rfl
theorem TS{a:Nat}{rest y:List Nat}{k c:Nat}(h:y.length≤k):gH (a::rest) (y.drop k) c=(if a<c then a+gB-c else a-c)::gH rest (y.drop (k+1)) (if a<c then 1 else 0):=by
 rw[List.drop_of_length_le h,List.drop_of_length_le zO];rfl
theorem Lb{a:Nat}{rest y:List Nat}{k c:Nat}(h:k<y.length):gx (a::rest) (y.drop k) c=(a+c+lN y k)%gB::gx rest (y.drop (k+1)) ((a+c+lN y k)/gB):=by rw[Bg h];rfl
theorem La{a:Nat}{rest y:List Nat}{k c:Nat}(h:y.length≤k):gx (a::rest) (y.drop k) c=(a+c)%gB::gx rest (y.drop (k+1)) ((a+c)/gB):=by
 rw[List.drop_of_length_le h,List.drop_of_length_le zO];rfl
theorem Sw{x y:List Nat}(h:x.length<y.length):lS x y=gx y x 0:=by unfold lS;rw[if_pos h]
theorem Sv{x y:List Nat}(h:y.length≤x.length):lS x y=gx x y 0:=by unfold lS;rw[if_neg zO]
def gK(n1:Bool)(x:List Nat)(n2:Bool)(y:List Nat):Bool×List Nat:=
 if(n1==n2)=true then(n1,lS x y)else if ig x y<0 then(n2,bh (gH y x 0))else(n1,bh (gH x y 0))
theorem LX{x y:List Nat}(h:ig x y<0):y.length≠0:=by
 intro e;unfold ig at h;split at h
 ·omega
 ·rw[LY zO]at h;omega
theorem WO{x y:List Nat}(hx:x.length=0)(hy:y.length≠0):ig x y<0:=by
 unfold ig;rw[if_pos zO];omega
theorem WN{n1 n2:Bool}{x y:List Nat}(h1:ng n1 x)(h2:ng n2 y)(hn:(n1==n2)=false)(h:¬ig x y<0):x.length≠0:=by
 intro e;cases n1 with
 |true=>exact h1.Bd rfl e
 |false=>
  cases n2 with
  |false=>simp at hn
  |true=>exact h (WO e (h2.Bd rfl))
theorem Lf{n1 n2:Bool}{x y:List Nat}(h1:ng n1 x)(h2:ng n2 y):aU (gK n1 x n2 y).2:=by
 unfold gK;split
 ·exact Ew h1.ok h2.ok
 ·split
  ·exact xn (za _ _ _ h2.ok h1.ok zO)
  ·exact xn (za _ _ _ h1.ok h2.ok zO)
theorem Ld(n1 n2:Bool)(x y:List Nat):(gK n1 x n2 y).2.length≤x.length+y.length+1:=by
 unfold gK;split
 ·exact JK x y
 ·split
  ·have:=tw (gH y x 0);rw[BZ]at this;simp only;omega
  ·have:=tw (gH x y 0);rw[BZ]at this;simp only;omega
theorem Lg{n1 n2:Bool}{x y:List Nat}(h1:ng n1 x)(h2:ng n2 y):jg (gK n1 x n2 y).1 (gK n1 x n2 y).2=jg n1 x+jg n2 y:=by
 unfold gK;have hs:=F2 h1.ok h2.ok h1.cut h2.cut;split
 ·rename_i h;have:n1=n2:=by simpa using h
  subst this;simp only[jg,JL];cases n1<;>simp<;>omega
 ·rename_i h;split
  ·rename_i hl;have:=hs.1.1 hl;simp only[jg];rw[CB,uI _ _ _ h2.ok h1.ok zO zO];cases n1<;>cases n2<;>simp at h⊢<;>omega
  ·rename_i hl;have:¬an x<an y:=fun e=>hl (hs.1.2 e);simp only[jg];rw[CB,uI _ _ _ h1.ok h2.ok zO zO];cases n1<;>cases n2<;>simp at h⊢<;>omega
def xk(n1:Bool)(x:List Nat)(n2:Bool)(y:List Nat):Int:=
 max (-1) (min (if(n1 !=n2)=true then(if n1=true then -1 else 1)else if n1=true then 0-ig x y else ig x y) 1)
theorem Cx{n1 n2:Bool}{x y:List Nat}(h1:ng n1 x)(h2:ng n2 y):xk n1 x n2 y=fO (jg n1 x-jg n2 y):=by
 have hs:=F2 h1.ok h2.ok h1.cut h2.cut;unfold xk fO jg;cases n1<;>cases n2<;>simp only[bne_self_eq_false,Bool.false_bne,Bool.true_bne,Bool.not_false,Bool.not_true,if_true,if_false,Bool.false_eq_true]
 ·split
  ·rename_i h;have:=hs.1.2 zO;omega
  ·split
   ·have:=hs.2.2 zO;omega
   ·have a1:¬ig x y<0:=fun e=>by have:=hs.1.1 e;omega
    have a2:¬0<ig x y:=fun e=>by have:=hs.2.1 e;omega
    omega
 ·have:=A6 h2.cut (h2.Bd rfl);rw[if_neg zO,if_pos zO];rfl
 ·have:=A6 h1.cut (h1.Bd rfl);rw[if_pos zO];rfl
 ·split
  ·have:=hs.2.2 zO;omega
  ·split
   ·have:=hs.1.2 zO;omega
   ·have a1:¬ig x y<0:=fun e=>by have:=hs.1.1 e;omega
    have a2:¬0<ig x y:=fun e=>by have:=hs.2.1 e;omega
    omega
def fk(s:aa)(c:UInt8):aa×aa×Bool:=if 0≤Lib.indexByte s c then(s.take (Lib.indexByte s c).toNat,s.drop ((Lib.indexByte s c).toNat+1),true)else(s,[],false)
theorem DM(c:UInt8):∀s:aa,(0≤Lib.indexByte s c∧Lib.indexByte s c<s.length∧s=s.take (Lib.indexByte s c).toNat++c::s.drop ((Lib.indexByte s c).toNat+1)∧∀x∈s.take (Lib.indexByte s c).toNat,x≠c)∨(Lib.indexByte s c=-1∧∀x∈s,x≠c)
 |[]=>.inr ⟨rfl,by simp⟩
 |b::s=>by
  unfold Lib.indexByte;by_cases h:b=c
  ·subst h;left;simp
  ·have hb:(b==c)=false:=by simpa using h
   simp only[hb,Bool.false_eq_true,if_false];rcases DM c s with⟨h1,h2,h3,h4⟩|⟨h1,h2⟩
   ·left;have aB:(Lib.indexByte s c==-1)=false:=by simp;omega
    simp only[aB,Bool.false_eq_true,if_false];have e:(Lib.indexByte s c+1).toNat=(Lib.indexByte s c).toNat+1:=by omega
    rw[e];refine⟨by omega,by simp;omega,?_,?_⟩
    ·simp only[List.take_succ_cons,List.cons_append,List.drop_succ_cons];rw[←h3]
    ·intro x hx;simp only[List.take_succ_cons,List.mem_cons]at hx;rcases hx with rfl|hx
     ·exact h
     ·exact h4 x hx
   ·right;simp only[h1,beq_self_eq_true,if_true,true_and];intro x hx;rcases List.mem_cons.1 hx with rfl|hx
    ·exact h
    ·exact h2 x hx
theorem fx(f:Nat→Bool)(m:SM):Ob.okB f (.mp (qs m))=true:=by
 have h:∀l:List aa,D.okB.eV f (l.map .str)=true:=by
  intro l;induction l with
  |nil=>rfl
  |cons a l ih=>simp only[List.map_cons,D.okB.eV,D.okB,ih];rfl
 have e1:(qs m).map (·.1)=(m.map (·.1)).map .str:=by simp[qs]
 have e2:(qs m).map (·.2)=(m.map (·.2)).map .str:=by simp[qs]
 simp only[Ob.okB];rw[e1,e2,h,h];rfl
theorem Uc(s:aa):-((10^s.length:Nat):Int)<val s∧val s<((10^s.length:Nat):Int):=by
 have h1:=o8 _ (mM s);have h2:10^(digits s).1.length≤10^s.length:=Nat.pow_le_pow_right zO (jO s);unfold val;split<;>omega
theorem agC{n:Int}{k:Nat}(h1:-((10^k:Nat):Int)<n)(h2:n<((10^k:Nat):Int)):(ofInt n).length≤k+1:=by
 have:=yB k n.natAbs zO;unfold ofInt;split
 ·simp;omega
 ·omega
theorem Vd(a b:aa):(pr a b).length≤a.length+b.length+2:=by
 have h1:=Uc a;have h2:=Uc b;have h3:10^a.length≤10^(a.length+b.length):=Nat.pow_le_pow_right zO zO;have h4:10^b.length≤10^(a.length+b.length):=Nat.pow_le_pow_right zO zO;have h5:10^(a.length+b.length+1)=10^(a.length+b.length)*10:=Nat.pow_succ ..;unfold pr;exact agC (k:=a.length+b.length+1) zO zO
def w5(n:Nat)(seen:List Nat):Nat:=((List.range n).filter fun j=>!seen.contains j).length
theorem E8{n j:Nat}{seen:List Nat}(hj:j<n)(hs:j∉seen):w5 n (seen++[j])<w5 n seen:=by
 unfold w5;have key:∀l:List Nat,((l.filter fun i=>!(seen++[j]).contains i).length≤(l.filter fun i=>!seen.contains i).length)∧(j∈l→(l.filter fun i=>!(seen++[j]).contains i).length<(l.filter fun i=>!seen.contains i).length):=by
  intro l;induction l with
  |nil=>simp
  |cons a l ih=>
   by_cases ha:a=j
   ·subst ha;simp[List.filter_cons,hs];have:=ih.1;simp at this;omega
   ·by_cases hb:a∈seen
    ·simp[List.filter_cons,hb,Ne.symm ha];simpa using ih
    ·simp[List.filter_cons,hb,ha,Ne.symm ha];simpa using ih
 exact(key _).2 (by simpa using hj)
theorem tG{α:Type}{l pre rest:List α}{x:α}{p:α→Bool}(hx:l=pre++x::rest)(hp:pre.any p=false)(h:p x=true):(pre.length:Int)=if l.any p=true then(l.findIdx p:Int)else -1:=by
 subst hx;have:(pre++x::rest).any p=true:=by simp[h]
 rw[if_pos this,List.findIdx_append];have hn:¬List.findIdx p pre<pre.length:=by
  rw[List.findIdx_lt_length];rintro⟨y,hy,hpy⟩;rw[List.any_eq_false]at hp;exact hp y hy hpy
 rw[if_neg hn];simp[List.findIdx_cons,h]
theorem vy{α:Type}{l pre:List α}{p:α→Bool}(hx:l=pre++[])(hp:pre.any p=false):-1=if l.any p=true then(l.findIdx p:Int)else -1:=by
 rw[hx,List.append_nil,hp];rfl
def ja{α:Type}(P:α→Bool)(l:List α):Int:=if l.any P=true then(l.findIdx P:Int)else -1
theorem vx{α:Type}(P:α→Bool)(l:List α):decide (0≤ja P l)=l.any P:=by
 unfold ja;cases h:l.any P<;>simp
def lC(code:aa):List cp→cp×Bool
 |[]=>(⟨[],0⟩,false)
 |c::r=>if c.code=code then(c,true)else lC code r
theorem GO{code:aa}{l pre rest:List cp}{x:cp}(hx:l=pre++x::rest)(hp:∀c∈pre,c.code≠code)(h:x.code=code):lC code l=(x,true):=by
 subst hx;induction pre with
 |nil=>simp[lC,h]
 |cons c pre ih=>rw[List.cons_append,lC,if_neg (hp c zS)];exact ih (fun d hd=>hp d (by simp[hd]))
theorem GN{code:aa}{l pre:List cp}(hx:l=pre++[])(hp:∀c∈pre,c.code≠code):lC code l=(⟨[],0⟩,false):=by
 subst hx;induction pre with
 |nil=>rfl
 |cons c pre ih=>rw[List.cons_append,lC,if_neg (hp c zS)];exact ih (fun d hd=>hp d (by simp[hd]))
theorem No(code:aa)(l:List cp):(lC code l).2=l.any (fun c=>decide (c.code=code)):=by
 induction l with
 |nil=>rfl
 |cons c l ih=>
  by_cases h:c.code=code<;>simp[lC,h,ih]
def oC(pre:List cp)(c:cp):Int:=if !gA c.code then 23 else if decide (c.places<0)||decide (12<c.places)then 2 else if pre.any (fun d=>decide (d.code=c.code))then 5 else 0
def nH(pre:List cp):List cp→Int
 |[]=>0
 |c::r=>if oC pre c≠0 then oC pre c else nH (pre++[c]) r
def pv(l:List cp):Int:=if 16<l.length then 4 else nH [] l
theorem Xo{pre:List cp}{c:cp}(h:(!gA c.code)=true):oC pre c=23:=by simp[oC,h]
theorem Xp{pre:List cp}{c:cp}(h:(!gA c.code)=false)(h2:(decide (c.places<0)||decide (12<c.places))=true):oC pre c=2:=by simp only[oC,h,h2];rfl
theorem Xq{pre:List cp}{c:cp}(h:(!gA c.code)=false)(h2:(decide (c.places<0)||decide (12<c.places))=false)(h3:(lC c.code pre).2=true):oC pre c=5:=by rw[No]at h3;simp only[oC,h,h2,h3];rfl
theorem Xn{pre:List cp}{c:cp}(h:(!gA c.code)=false)(h2:(decide (c.places<0)||decide (12<c.places))=false)(h3:(lC c.code pre).2=false):oC pre c=0:=by rw[No]at h3;simp only[oC,h,h2,h3];rfl
theorem F0{l pre rest:List cp}{x:cp}{n:Int}(h:pv l=nH pre (x::rest))(he:oC pre x=n)(hn:n≠0):n=pv l:=by rw[h,nH,he,if_pos hn]
theorem Wq{l pre rest:List cp}{x:cp}(h:nH [] l=nH pre (x::rest))(he:oC pre x=0):nH [] l=nH (pre++[x]) rest:=by rw[h,nH,he,if_neg zS]
open Go.Proofs Go.Proofs.Tryz
set_option maxRecDepth 20000
structure Ms(s:aa)where
 pre:List UInt8
 rest:List UInt8
 hx:(cL s).1=pre++rest
 hp:pre.all bN=true
structure Mt(s:aa)where
 cur:aa
 hd:(cL s).1.all bN=true
 hx:en cur=en (cL s).1
theorem rL(s:aa):Fc Tryz.prog 251 [.str s] (.bf [.str (digits s).1,.b (digits s).2]):=by
 refine Fc.mk' [2,3] func251 rfl ntmps251 rfl rfl rfl (fun t w=>results_tmp2 results251 t _ w) ?_;refine J.l7 0 rfl (fun hb=>?_);simp only[aG]at hb;refine J.seq (J.af [.p,.p] ?_);refine .ag rfl rfl<|.ag rfl rfl<|.nil ?_;refine J.seq (J.af [.p,.p] ?_);refine .mv rfl rfl<|.ag rfl rfl<|.nil ?_;refine J.seq (J.af [.p,.p,.p,.p,.p,.p,.p,.p,.p] ?_);refine .mv rfl rfl<|.P rfl (fZ underlying9 rfl)<|.P rfl (gp rfl rfl)<|.mv rfl rfl<|.gT rfl (.inl rfl) rfl rfl rfl (fun hg=>pk (fun _=>aX rfl _))<|.gT rfl (.inl rfl) rfl rfl rfl (fun hg=>pk (fun _=>oe underlying9 (bj rfl hg) rfl (c:=s.headD 0) zD (Dy rfl (by grind)) _))<|.gT rfl (.inl rfl) rfl rfl rfl (fun hg=>pk (fun _=>jF (bj rfl hg) rfl _))<|.P rfl (gD rfl rfl)<|.ag rfl rfl<|.nil ?_;refine J.seq (J.seq (J.af [.p] ?_));refine .mv rfl rfl<|.nil ?_;refine J.cond rfl (fun h1=>?_) (fun h1=>?_)
 ·have bE:=h1;try simp only[bs]at bE
  refine J.af [.p,.p,.p] ?_;refine .mv rfl rfl<|.P rfl (rm underlying9 rfl (l:=1) (r:=s.drop 1) (.inr ⟨_,_,rfl,rfl⟩) (.inl ⟨rfl,rfl⟩) zO zO (Gm _))<|.ag rfl rfl<|.nil ?_;refine J.seq (J.seq (J.af [.p] ?_));refine .ag rfl rfl<|.nil ?_;refine J.block ?_;refine J.loop (ι:=Ms s) (fun sx=>[(4,.str (cL s).1),(5,.b (cL s).2),(6,.i sx.pre.length)]) (fun sx=>[]) (fun sx=>sx.rest.length) ⟨[],(cL s).1,rfl,rfl⟩ ?_ ?_
  ·exact Le.mk rfl (.cons rfl (Sub.str (by grind[uH,s7])) rfl (.cons rfl (Sub.bool (by grind[uH,s7])) rfl (.s rfl rfl .nil))) .nil
  ·rintro⟨pre,rest,hx,hp⟩;show J _ _ _ _ [(4,.str (cL s).1),(5,.b (cL s).2),(6,.i pre.length)] [];have hl:=congrArg List.length hx;simp only[List.length_append]at hl;have AD:=E2 s;rcases rest with _|⟨x,rest⟩
   ·skip;refine J.seq (J.seq (J.af [.p,.p,.p,.p] ?_));refine .mv rfl rfl<|.mv rfl rfl<|.P rfl (fZ underlying9 rfl)<|.P rfl (b_ rfl rfl)<|.nil ?_;refine J.eQ rfl (by simp at hl⊢;omega) ?_;refine J.exit (ei (dZ ?_));refine J.seq ?_;refine J.block ?_;refine J.loop (ι:=Mt s) (fun sx=>[(4,.str sx.cur),(5,.b (cL s).2)]) (fun sx=>[]) (fun sx=>sx.cur.length) ⟨(cL s).1,by rw[hx];simpa using hp,rfl⟩ ?_ ?_
    ·exact Le.mk rfl (.s rfl rfl (.s rfl rfl .nil)) .nil
    ·rintro⟨cur,hd,hx⟩;show J _ _ _ _ [(4,.str cur),(5,.b (cL s).2)] [];refine J.seq (J.seq (J.af [.p,.p,.p,.p,.p,.p,.p,.p] ?_));refine .mv rfl rfl<|.P rfl (fZ underlying9 rfl)<|.P rfl (gp rfl rfl)<|.mv rfl rfl<|.gT rfl (.inl rfl) rfl rfl rfl (fun hg=>pk (fun _=>aX rfl _))<|.gT rfl (.inl rfl) rfl rfl rfl (fun hg=>pk (fun _=>oe underlying9 (bj rfl hg) rfl (c:=cur.headD 0) zD (Dy rfl (by grind)) _))<|.gT rfl (.inl rfl) rfl rfl rfl (fun hg=>pk (fun _=>jF (bj rfl hg) rfl _))<|.P rfl (gD rfl rfl)<|.nil ?_;refine J.cond rfl (fun h2=>?_) (fun h2=>?_)
     ·have c7:=h2;try simp only[bs]at c7
      refine J.skip ?_;refine J.block ?_;refine J.af [.p,.p,.p] ?_;refine .mv rfl rfl<|.P rfl (rm underlying9 rfl (l:=1) (r:=cur.drop 1) (.inr ⟨_,_,rfl,rfl⟩) (.inl ⟨rfl,rfl⟩) zO zO (Gm _))<|.ag rfl rfl<|.nil ?_;refine J.nil (cC ?_);refine J.nil (dG ?_);exact⟨⟨cur.drop 1,hd,by rw[←hx];exact(zI zO zO).symm⟩,by simp;omega,Le.mk rfl (.s rfl rfl (.s rfl rfl .nil)) .nil⟩
     ·have c7:=h2;try simp only[bs]at c7
      refine J.exit (ei (dZ ?_));refine J.seq (J.af [.p,.p,.p,.p,.p,.p,.p,.p,.p] ?_);refine .mv rfl rfl<|.mv rfl rfl<|.mv rfl rfl<|.gT rfl (.inl rfl) rfl rfl rfl (fun hg=>pk (fun _=>aX rfl _))<|.gT rfl (.inl rfl) rfl rfl rfl (fun hg=>pk (fun _=>fZ underlying9 (bj rfl hg) _))<|.gT rfl (.inl rfl) rfl rfl rfl (fun hg=>pk (fun _=>gp (bj rfl hg) rfl _))<|.P rfl (gD rfl rfl)<|.ag rfl rfl<|.ag rfl rfl<|.nil ?_;refine J.ret (?_);exact p6 rfl rfl (Sub.str (by exact Mu hd hx zO)) (Sub.bool (by exact Mv hd hx zO))
   ·simp only[List.length_cons]at hl;refine J.seq (J.seq (J.af [.p,.p,.p,.p] ?_));refine .mv rfl rfl<|.mv rfl rfl<|.P rfl (fZ underlying9 rfl)<|.P rfl (b_ rfl rfl)<|.nil ?_;refine J.fD rfl zQ ?_;refine J.skip ?_;refine J.seq ?_;refine J.block ?_;refine J.seq (J.af [.p,.p,.p,.p,.p,.p,.p,.p,.p,.p] ?_);refine .mv rfl rfl<|.mv rfl rfl<|.P rfl (oe underlying9 rfl rfl zO (mY hx rfl))<|.P rfl (b_ rfl rfl)<|.mv rfl rfl<|.gF rfl (.inl rfl) rfl rfl rfl (fun hg=>pk (fun _=>aX rfl _))<|.gF rfl (.inl rfl) rfl rfl rfl (fun hg=>pk (fun _=>aX rfl _))<|.gF rfl (.inl rfl) rfl rfl rfl (fun hg=>pk (fun _=>oe underlying9 (bj rfl (nt hg)) (bj rfl (nt hg)) zO (mY hx rfl) _))<|.gF rfl (.inl rfl) rfl rfl rfl (fun hg=>pk (fun _=>gp (bj rfl (nt hg)) rfl _))<|.P rfl (nq rfl rfl)<|.nil ?_;refine J.cond rfl (fun h3=>?_) (fun h3=>?_)
    ·have fK:=h3;try simp only[bs]at fK
     refine J.seq (J.af [.p,.p] ?_);refine .ag rfl rfl<|.ag rfl rfl<|.nil ?_;refine J.ret (jn (rr (jn (?_))));exact p6 rfl rfl (Sub.str (by(rw[CD hx zO]))) (Sub.bool (by(rw[CD hx zO])))
    ·refine J.skip ?_;refine J.nil (cC ?_);refine J.af [.p,.p,.p] ?_;refine .mv rfl rfl<|.P rfl (bU rfl rfl (az zO))<|.ag rfl rfl<|.nil ?_;refine J.nil (dG ?_);exact⟨⟨pre++[x],rest,by simp[hx],by grind[bN]⟩,by simp,Le.mk rfl (.cons rfl (Sub.str (by grind[uH,s7])) rfl (.cons rfl (Sub.bool (by grind[uH,s7])) rfl (.cons rfl (Sub.int zS) rfl .nil))) .nil⟩
 ·refine J.skip ?_;refine J.seq (J.seq (J.af [.p] ?_));refine .ag rfl rfl<|.nil ?_;refine J.block ?_;refine J.loop (ι:=Ms s) (fun sx=>[(4,.str (cL s).1),(5,.b (cL s).2),(6,.i sx.pre.length)]) (fun sx=>[]) (fun sx=>sx.rest.length) ⟨[],(cL s).1,rfl,rfl⟩ ?_ ?_
  ·exact Le.mk rfl (.cons rfl (Sub.str (by grind[uH,s7])) rfl (.cons rfl (Sub.bool (by grind[uH,s7])) rfl (.s rfl rfl .nil))) .nil
  ·rintro⟨pre,rest,hx,hp⟩;show J _ _ _ _ [(4,.str (cL s).1),(5,.b (cL s).2),(6,.i pre.length)] [];have hl:=congrArg List.length hx;simp only[List.length_append]at hl;have AD:=E2 s;rcases rest with _|⟨x,rest⟩
   ·skip;refine J.seq (J.seq (J.af [.p,.p,.p,.p] ?_));refine .mv rfl rfl<|.mv rfl rfl<|.P rfl (fZ underlying9 rfl)<|.P rfl (b_ rfl rfl)<|.nil ?_;refine J.eQ rfl (by simp at hl⊢;omega) ?_;refine J.exit (ei (dZ ?_));refine J.seq ?_;refine J.block ?_;refine J.loop (ι:=Mt s) (fun sx=>[(4,.str sx.cur),(5,.b (cL s).2)]) (fun sx=>[]) (fun sx=>sx.cur.length) ⟨(cL s).1,by rw[hx];simpa using hp,rfl⟩ ?_ ?_
    ·exact Le.mk rfl (.s rfl rfl (.s rfl rfl .nil)) .nil
    ·rintro⟨cur,hd,hx⟩;show J _ _ _ _ [(4,.str cur),(5,.b (cL s).2)] [];refine J.seq (J.seq (J.af [.p,.p,.p,.p,.p,.p,.p,.p] ?_));refine .mv rfl rfl<|.P rfl (fZ underlying9 rfl)<|.P rfl (gp rfl rfl)<|.mv rfl rfl<|.gT rfl (.inl rfl) rfl rfl rfl (fun hg=>pk (fun _=>aX rfl _))<|.gT rfl (.inl rfl) rfl rfl rfl (fun hg=>pk (fun _=>oe underlying9 (bj rfl hg) rfl (c:=cur.headD 0) zD (Dy rfl (by grind)) _))<|.gT rfl (.inl rfl) rfl rfl rfl (fun hg=>pk (fun _=>jF (bj rfl hg) rfl _))<|.P rfl (gD rfl rfl)<|.nil ?_;refine J.cond rfl (fun h4=>?_) (fun h4=>?_)
     ·have gm:=h4;try simp only[bs]at gm
      refine J.skip ?_;refine J.block ?_;refine J.af [.p,.p,.p] ?_;refine .mv rfl rfl<|.P rfl (rm underlying9 rfl (l:=1) (r:=cur.drop 1) (.inr ⟨_,_,rfl,rfl⟩) (.inl ⟨rfl,rfl⟩) zO zO (Gm _))<|.ag rfl rfl<|.nil ?_;refine J.nil (cC ?_);refine J.nil (dG ?_);exact⟨⟨cur.drop 1,hd,by rw[←hx];exact(zI zO zO).symm⟩,by simp;omega,Le.mk rfl (.s rfl rfl (.s rfl rfl .nil)) .nil⟩
     ·have gm:=h4;try simp only[bs]at gm
      refine J.exit (ei (dZ ?_));refine J.seq (J.af [.p,.p,.p,.p,.p,.p,.p,.p,.p] ?_);refine .mv rfl rfl<|.mv rfl rfl<|.mv rfl rfl<|.gT rfl (.inl rfl) rfl rfl rfl (fun hg=>pk (fun _=>aX rfl _))<|.gT rfl (.inl rfl) rfl rfl rfl (fun hg=>pk (fun _=>fZ underlying9 (bj rfl hg) _))<|.gT rfl (.inl rfl) rfl rfl rfl (fun hg=>pk (fun _=>gp (bj rfl hg) rfl _))<|.P rfl (gD rfl rfl)<|.ag rfl rfl<|.ag rfl rfl<|.nil ?_;refine J.ret (?_);exact p6 rfl rfl (Sub.str (by exact Mu hd hx zO)) (Sub.bool (by exact Mv hd hx zO))
   ·simp only[List.length_cons]at hl;refine J.seq (J.seq (J.af [.p,.p,.p,.p] ?_));refine .mv rfl rfl<|.mv rfl rfl<|.P rfl (fZ underlying9 rfl)<|.P rfl (b_ rfl rfl)<|.nil ?_;refine J.fD rfl zQ ?_;refine J.skip ?_;refine J.seq ?_;refine J.block ?_;refine J.seq (J.af [.p,.p,.p,.p,.p,.p,.p,.p,.p,.p] ?_);refine .mv rfl rfl<|.mv rfl rfl<|.P rfl (oe underlying9 rfl rfl zO (mY hx rfl))<|.P rfl (b_ rfl rfl)<|.mv rfl rfl<|.gF rfl (.inl rfl) rfl rfl rfl (fun hg=>pk (fun _=>aX rfl _))<|.gF rfl (.inl rfl) rfl rfl rfl (fun hg=>pk (fun _=>aX rfl _))<|.gF rfl (.inl rfl) rfl rfl rfl (fun hg=>pk (fun _=>oe underlying9 (bj rfl (nt hg)) (bj rfl (nt hg)) zO (mY hx rfl) _))<|.gF rfl (.inl rfl) rfl rfl rfl (fun hg=>pk (fun _=>gp (bj rfl (nt hg)) rfl _))<|.P rfl (nq rfl rfl)<|.nil ?_;refine J.cond rfl (fun h5=>?_) (fun h5=>?_)
    ·have oc:=h5;try simp only[bs]at oc
     refine J.seq (J.af [.p,.p] ?_);refine .ag rfl rfl<|.ag rfl rfl<|.nil ?_;refine J.ret (jn (rr (jn (?_))));exact p6 rfl rfl (Sub.str (by(rw[CD hx zO]))) (Sub.bool (by(rw[CD hx zO])))
    ·refine J.skip ?_;refine J.nil (cC ?_);refine J.af [.p,.p,.p] ?_;refine .mv rfl rfl<|.P rfl (bU rfl rfl (az zO))<|.ag rfl rfl<|.nil ?_;refine J.nil (dG ?_);exact⟨⟨pre++[x],rest,by simp[hx],by grind[bN]⟩,by simp,Le.mk rfl (.cons rfl (Sub.str (by grind[uH,s7])) rfl (.cons rfl (Sub.bool (by grind[uH,s7])) rfl (.cons rfl (Sub.int zS) rfl .nil))) .nil⟩
theorem FY(s:aa):Fc Tryz.prog 250 [.str s] (.str (canon s)):=by
 refine Fc.mk' [2] func250 rfl ntmps250 rfl rfl rfl (fun t w=>results_tmp results250 t _ w) ?_;refine J.l7 0 rfl (fun hb=>?_);simp only[aG]at hb;have oL:=jO s;refine go [] ?_;refine oP (ai call251 rfl (rL _)) ?_;refine br (fun h1=>?_) (fun h1=>?_)
 ·refine sd (by have:=X7 s zA;simp[aG];omega) ?_;exact ah rfl (Sub.str (by grind[canon]))
 ·exact ah rfl (Sub.str (by grind[canon]))
theorem Wj(s:aa):Fc Tryz.prog 193 [.str s] (.i (u9 s)):=by
 refine Fc.mk' [2] func193 rfl ntmps193 rfl rfl rfl (fun t w=>results_tmp results193 t _ w) ?_;refine go [] ?_;refine oP (ai call250 rfl (FY _)) ?_;refine br (fun h1=>?_) (fun h1=>?_)
 ·exact ah rfl (Sub.int (by grind[u9]))
 ·exact ah rfl (Sub.int (by grind[u9]))
theorem Rs(s:aa)(hs:s.length≤1000):Fc Tryz.prog 254 [.str s] (.str (mw s)):=by
 refine Fc.mk' [2] func254 rfl ntmps254 rfl rfl rfl (fun t w=>results_tmp results254 t _ w) ?_;refine J.l7 0 rfl (fun hb=>?_);simp only[aG]at hb;have oL:=jO s;refine go [] ?_;refine oP (ai call251 rfl (rL _)) ?_;refine br (fun h1=>?_) (fun h1=>?_)
 ·exact ah rfl (Sub.str (by grind[mw]))
 ·refine sd (by simp[aG];omega) ?_;exact ah rfl (Sub.str (by grind[mw]))
theorem xl(a b:aa):Fc Tryz.prog 195 [.str a,.str b] (.i (fj a b)):=by
 refine Fc.mk' [4] func195 rfl ntmps195 rfl rfl rfl (fun t w=>results_tmp results195 t _ w) ?_;refine go [] ?_;refine oP (ai call251 rfl (rL _)) ?_;refine oP (ai call251 rfl (rL _)) ?_;refine br (fun h1=>?_) (fun h1=>?_)
 ·refine br (fun h2=>?_) (fun h2=>?_)
  ·exact ah rfl (Sub.int (by grind[fj]))
  ·exact ah rfl (Sub.int (by grind[fj]))
 ·refine br (fun h3=>?_) (fun h3=>?_)
  ·refine br (fun h4=>?_) (fun h4=>?_)
   ·refine br (fun h5=>?_) (fun h5=>?_)
    ·refine sd (az zO) ?_;exact ah rfl (Sub.int (by grind[fj]))
    ·exact ah rfl (Sub.int (by grind[fj]))
   ·refine br (fun h6=>?_) (fun h6=>?_)
    ·refine sd (az zO) ?_;exact ah rfl (Sub.int (by grind[fj]))
    ·refine br (fun h7=>?_) (fun h7=>?_)
     ·exact ah rfl (Sub.int (by grind[fj]))
     ·exact ah rfl (Sub.int (by grind[fj]))
  ·refine br (fun h8=>?_) (fun h8=>?_)
   ·refine br (fun h9=>?_) (fun h9=>?_)
    ·refine sd (az zO) ?_;exact ah rfl (Sub.int (by grind[fj]))
    ·exact ah rfl (Sub.int (by grind[fj]))
   ·refine br (fun cK=>?_) (fun cK=>?_)
    ·refine sd (az zO) ?_;exact ah rfl (Sub.int (by grind[fj]))
    ·refine br (fun cM=>?_) (fun cM=>?_)
     ·exact ah rfl (Sub.int (by grind[fj]))
     ·exact ah rfl (Sub.int (by grind[fj]))
structure ajh(s:aa)(hs:(digits s).1.length≤17)where
 pre:List UInt8
 rest:List UInt8
 hx:(digits s).1=pre++rest
theorem Ko(s:aa)(hs:(digits s).1.length≤17):Fc Tryz.prog 255 [.str s] (.bf [.i (val s),.b true]):=by
 refine Fc.mk' [2,3] func255 rfl ntmps255 rfl rfl rfl (fun t w=>results_tmp2 results255 t _ w) ?_;refine J.l7 0 rfl (fun hb=>?_);simp only[aG]at hb;have Dw:=mM s;refine J.seq (J.af [.p,.p] ?_);refine .ag rfl rfl<|.ag rfl rfl<|.nil ?_;refine J.seq (J.af [.p,.p,.p,.p,.p,.p,.p] ?_);refine .mv rfl rfl<|.P rfl (ai call251 rfl (rL _))<|.mv rfl rfl<|.P rfl (dY rfl rfl)<|.P rfl (dY rfl rfl)<|.ag rfl rfl<|.ag rfl rfl<|.nil ?_;refine J.seq (J.seq (J.af [.p,.p,.p] ?_));refine .mv rfl rfl<|.P rfl (fZ underlying9 rfl)<|.P rfl (gp rfl rfl)<|.nil ?_;refine J.cond rfl (fun h1=>?_) (fun h1=>?_)
 ·have bE:=h1;try simp only[bs]at bE
  refine J.seq (J.af [.p,.p] ?_);refine .ag rfl rfl<|.ag rfl rfl<|.nil ?_;refine J.ret (?_);exact p6 rfl rfl (Sub.int zO) (Sub.bool (by grind))
 ·refine J.skip ?_;refine J.seq (J.af [.p] ?_);refine .ag rfl rfl<|.nil ?_;refine J.seq (J.seq (J.af [.p] ?_));refine .ag rfl rfl<|.nil ?_;refine J.block ?_;refine J.loop (ι:=ajh s hs) (fun sx=>[(4,.str (digits s).1),(5,.b (digits s).2),(6,.i (natVal sx.pre)),(7,.i sx.pre.length)]) (fun sx=>[]) (fun sx=>sx.rest.length) ⟨[],(digits s).1,rfl⟩ ?_ ?_
  ·exact Le.mk rfl (.s rfl rfl (.s rfl rfl (.s rfl rfl (.s rfl rfl .nil)))) .nil
  ·rintro⟨pre,rest,hx⟩;show J _ _ _ _ [(4,.str (digits s).1),(5,.b (digits s).2),(6,.i (natVal pre)),(7,.i pre.length)] [];have hl:=congrArg List.length hx;simp only[List.length_append]at hl;rw[hx,List.all_append,Bool.and_eq_true]at Dw;have hv:=Je Dw.1 zO;rcases rest with _|⟨x,rest⟩
   ·skip;refine J.seq (J.seq (J.af [.p,.p,.p,.p] ?_));refine .mv rfl rfl<|.mv rfl rfl<|.P rfl (fZ underlying9 rfl)<|.P rfl (b_ rfl rfl)<|.nil ?_;refine J.eQ rfl (by simp at hl⊢;omega) ?_;refine J.exit (ei (dZ ?_));refine J.seq (J.seq (J.af [.p] ?_));refine .mv rfl rfl<|.nil ?_;refine J.cond rfl (fun h2=>?_) (fun h2=>?_)
    ·refine J.af [.p,.p,.p] ?_;refine .mv rfl rfl<|.P rfl (EE rfl (az zO))<|.ag rfl rfl<|.nil ?_;refine J.seq (J.af [.p,.p,.p] ?_);refine .mv rfl rfl<|.ag rfl rfl<|.ag rfl rfl<|.nil ?_;refine J.ret (?_);exact p6 rfl rfl (Sub.int (by simp only[val,List.append_nil]at*;simp[*])) (Sub.bool (by grind))
    ·refine J.skip ?_;refine J.seq (J.af [.p,.p,.p] ?_);refine .mv rfl rfl<|.ag rfl rfl<|.ag rfl rfl<|.nil ?_;refine J.ret (?_);exact p6 rfl rfl (Sub.int (by simp only[val,List.append_nil]at*;simp[*])) (Sub.bool (by grind))
   ·simp only[List.length_cons]at hl;have hq:=Dw.2;simp only[List.all_cons,Bool.and_eq_true,bN,decide_eq_true_eq]at hq;have apg:=o8 pre Dw.1;have apb:10^pre.length≤10^16:=Nat.pow_le_pow_right zO zO;refine J.seq (J.seq (J.af [.p,.p,.p,.p] ?_));refine .mv rfl rfl<|.mv rfl rfl<|.P rfl (fZ underlying9 rfl)<|.P rfl (b_ rfl rfl)<|.nil ?_;refine J.fD rfl zQ ?_;refine J.skip ?_;refine J.seq ?_;refine J.block ?_;refine J.af [.p,.p,.p,.p,.p,.p,.p,.p,.p] ?_;refine .mv rfl rfl<|.P rfl (sW rfl rfl (az zO))<|.mv rfl rfl<|.mv rfl rfl<|.P rfl (oe underlying9 rfl rfl zO (mY hx rfl))<|.P rfl (dQ rfl rfl (UC zO zO))<|.P rfl (EB underlying5 underlying3 rfl (az zO))<|.P rfl (bU rfl rfl (az zO))<|.ag rfl rfl<|.nil ?_;refine J.nil (cC ?_);refine J.af [.p,.p,.p] ?_;refine .mv rfl rfl<|.P rfl (bU rfl rfl (az zO))<|.ag rfl rfl<|.nil ?_;refine J.nil (dG ?_);exact⟨⟨pre++[x],rest,by simp[hx]⟩,by simp,Le.mk rfl (.s rfl rfl (.s rfl rfl (.cons rfl (Sub.int (by rw[sv];omega)) rfl (.cons rfl (Sub.int zS) rfl .nil)))) .nil⟩
structure agA(n:Int)(hn:-1000000000000000000<n∧n<1000000000000000000)where
 cur:Int
 acc:aa
 hx:fu n.natAbs=fu cur.natAbs++acc
 hc:-1000000000000000000<cur∧cur<1000000000000000000
theorem wz(n:Int)(hn:-1000000000000000000<n∧n<1000000000000000000):Fc Tryz.prog 199 [.i n] (.str (ofInt n)):=by
 refine Fc.mk' [2] func199 rfl ntmps199 rfl rfl rfl (fun t w=>results_tmp results199 t _ w) ?_;have oL:=yB 18 n.natAbs zO;refine J.seq (J.af [.p] ?_);refine .ag rfl rfl<|.nil ?_;refine J.seq (J.seq (J.af [.p,.p] ?_));refine .mv rfl rfl<|.P rfl (jF rfl rfl)<|.nil ?_;refine J.cond rfl (fun h1=>?_) (fun h1=>?_)
 ·have bE:=h1;try simp only[bs]at bE
  refine J.seq (J.af [.p] ?_);refine .ag rfl rfl<|.nil ?_;refine J.ret (?_);exact dF rfl (Sub.str (by simp[ofInt,jf, *]))
 ·refine J.skip ?_;refine J.seq (J.af [.p] ?_);refine .ag rfl rfl<|.nil ?_;refine J.seq (J.seq (J.af [.p,.p] ?_));refine .mv rfl rfl<|.ag rfl rfl<|.nil ?_;refine J.block ?_;refine J.loop (ι:=agA n hn) (fun sx=>[(0,.i n),(3,.str sx.acc),(4,.i sx.cur)]) (fun sx=>[]) (fun sx=>sx.cur.natAbs) ⟨n,[],by simp,hn⟩ ?_ ?_
  ·exact Le.mk rfl (.s rfl rfl (.s rfl rfl (.s rfl rfl .nil))) .nil
  ·rintro⟨cur,acc,hx,hc⟩;show J _ _ _ _ [(0,.i n),(3,.str acc),(4,.i cur)] [];have ha:=ak8 cur;have hd:=ajZ cur;refine J.seq (J.seq (J.af [.p,.p] ?_));refine .mv rfl rfl<|.P rfl (wO rfl rfl)<|.nil ?_;refine J.cond rfl (fun h2=>?_) (fun h2=>?_)
   ·have c7:=h2;try simp only[bs]at c7
    refine J.skip ?_;refine J.seq ?_;refine J.block ?_;refine J.seq (J.af [.p,.p,.p] ?_);refine .mv rfl rfl<|.P rfl (oh rfl rfl zD rfl)<|.ag rfl rfl<|.nil ?_;refine J.seq (J.seq (J.af [.p,.p] ?_));refine .mv rfl rfl<|.P rfl (b_ rfl rfl)<|.nil ?_;refine J.cond rfl (fun h3=>?_) (fun h3=>?_)
    ·have fK:=h3;try simp only[bs]at fK
     refine J.af [.p,.p,.p] ?_;refine .mv rfl rfl<|.P rfl (EE rfl (az zO))<|.ag rfl rfl<|.nil ?_;refine J.af [.p,.p,.p,.p,.p,.p,.p] ?_;refine .mv rfl rfl<|.P rfl (bU rfl rfl (az zO))<|.P rfl (EB underlying3 underlying21 rfl (KU zO zO))<|.P rfl (J0 underlying21 underlying9 rfl (c:=UInt8.ofNat (48+cur.natAbs%10)) zO zO (by congr 1;omega))<|.mv rfl rfl<|.P rfl (yX rfl rfl (by simp only[aG];have:=congrArg List.length hx;simp at this⊢;omega) rfl)<|.ag rfl rfl<|.nil ?_;refine J.nil (cC ?_);refine J.af [.p,.p,.p] ?_;refine .mv rfl rfl<|.P rfl (lT rfl rfl zD (az zO))<|.ag rfl rfl<|.nil ?_;refine J.nil (dG ?_);exact⟨⟨cur.tdiv 10,UInt8.ofNat (48+cur.natAbs%10)::acc,by rw[hx,Rk zA];simp,by omega⟩,by(try dsimp only);omega,Le.mk rfl (.s rfl rfl (.s rfl rfl (.s rfl rfl .nil))) .nil⟩
    ·have fK:=h3;try simp only[bs]at fK
     refine J.skip ?_;refine J.af [.p,.p,.p,.p,.p,.p,.p] ?_;refine .mv rfl rfl<|.P rfl (bU rfl rfl (az zO))<|.P rfl (EB underlying3 underlying21 rfl (KU zO zO))<|.P rfl (J0 underlying21 underlying9 rfl (c:=UInt8.ofNat (48+cur.natAbs%10)) zO zO (by congr 1;omega))<|.mv rfl rfl<|.P rfl (yX rfl rfl (by simp only[aG];have:=congrArg List.length hx;simp at this⊢;omega) rfl)<|.ag rfl rfl<|.nil ?_;refine J.nil (cC ?_);refine J.af [.p,.p,.p] ?_;refine .mv rfl rfl<|.P rfl (lT rfl rfl zD (az zO))<|.ag rfl rfl<|.nil ?_;refine J.nil (dG ?_);exact⟨⟨cur.tdiv 10,UInt8.ofNat (48+cur.natAbs%10)::acc,by rw[hx,Rk zA];simp,by omega⟩,by(try dsimp only);omega,Le.mk rfl (.s rfl rfl (.s rfl rfl (.s rfl rfl .nil))) .nil⟩
   ·have c7:=h2;try simp only[bs]at c7
    refine J.exit (ei (dZ ?_));refine J.seq (J.seq (J.af [.p,.p] ?_));refine .mv rfl rfl<|.P rfl (b_ rfl rfl)<|.nil ?_;refine J.cond rfl (fun h4=>?_) (fun h4=>?_)
    ·have gm:=h4;try simp only[bs]at gm
     refine J.af [.p,.p,.p] ?_;refine .mv rfl rfl<|.P rfl (yX rfl rfl (by simp only[aG];have:=congrArg List.length hx;simp at this⊢;omega) rfl)<|.ag rfl rfl<|.nil ?_;refine J.seq (J.af [.p,.p] ?_);refine .mv rfl rfl<|.ag rfl rfl<|.nil ?_;refine J.ret (?_);exact dF rfl (Sub.str (by simp[ofInt,jf, *]))
    ·have gm:=h4;try simp only[bs]at gm
     refine J.skip ?_;refine J.seq (J.af [.p,.p] ?_);refine .mv rfl rfl<|.ag rfl rfl<|.nil ?_;refine J.ret (?_);exact dF rfl (Sub.str (by simp[ofInt,jf, *]))
theorem U'(a b:aa)(ha:(digits a).1.length≤17)(hb:(digits b).1.length≤17):Fc Tryz.prog 201 [.str a,.str b] (.str (pr a b)):=by
 refine Fc.mk' [4] func201 rfl ntmps201 rfl rfl rfl (fun t w=>results_tmp results201 t _ w) ?_;have Im:=Ud ha;have Pr:=Ud hb;refine J.seq (J.af [.p] ?_);refine .ag rfl rfl<|.nil ?_;refine J.seq (J.af [.p,.p,.p,.p,.p,.p,.p] ?_);refine .mv rfl rfl<|.P rfl (ai call255 rfl (Ko _ zA))<|.mv rfl rfl<|.P rfl (dY rfl rfl)<|.P rfl (dY rfl rfl)<|.ag rfl rfl<|.ag rfl rfl<|.nil ?_;refine J.seq (J.af [.p,.p,.p,.p,.p,.p,.p] ?_);refine .mv rfl rfl<|.P rfl (ai call255 rfl (Ko _ zA))<|.mv rfl rfl<|.P rfl (dY rfl rfl)<|.P rfl (dY rfl rfl)<|.ag rfl rfl<|.ag rfl rfl<|.nil ?_;refine J.seq (J.seq (J.af [.p,.p,.p,.p] ?_));refine .mv rfl rfl<|.mv rfl rfl<|.p rfl (fX rfl rfl rfl rfl) (fun _=>aX rfl _)<|.P rfl (wQ rfl rfl rfl)<|.nil ?_;refine J.fD rfl rfl ?_;refine J.seq (J.af [.p,.p,.p,.p,.p] ?_);refine .mv rfl rfl<|.mv rfl rfl<|.P rfl (bU rfl rfl (az zO))<|.P rfl (ai call199 rfl (wz _ zO))<|.ag rfl rfl<|.nil ?_;refine J.ret (?_);exact dF rfl (Sub.refl _)
variable[bV]
structure adW(s:aa)where
 pre:List UInt8
 rest:List UInt8
 hx:s=pre++rest
 hp:pre.all (fun c=>65≤c.toNat&&c.toNat≤90)=true
theorem adV(s:aa):Fc Tryz.prog 169 [.str s] (.b (gA s)):=by
 refine Fc.mk' [2] func169 rfl ntmps169 rfl rfl rfl (fun t w=>results_tmp results169 t _ w) ?_;refine J.l7 0 rfl (fun hb=>?_);simp only[aG]at hb;refine go [] ?_;refine J.loop (ι:=adW s) (fun sx=>[(0,.str s),(5,.i s.length),(6,.i sx.pre.length)]) (fun sx=>[]) (fun sx=>sx.rest.length) ⟨[],s,rfl,rfl⟩ ?_ ?_
 ·exact Le.mk rfl (.s rfl rfl (.s rfl rfl (.s rfl rfl .nil))) .nil
 ·rintro⟨pre,rest,hx,hp⟩;show J _ _ _ _ [(0,.str s),(5,.i s.length),(6,.i pre.length)] [];have hl:=congrArg List.length hx;simp only[List.length_append]at hl;rcases rest with _|⟨x,rest⟩
  ·skip;refine go [] ?_;refine aR (by simp at hl⊢;omega) ?_;refine go [] ?_;exact ah rfl (Sub.bool (by grind[gA]))
  ·simp only[List.length_cons]at hl;refine go [] ?_;refine a_ zQ ?_;refine DR zO (mY hx rfl) ?_;refine DS (fun hg=>And.intro zO (mY hx rfl)) ?_;refine br (fun h1=>?_) (fun h1=>?_)
   ·exact ah rfl (Sub.bool (by grind[gA]))
   ·refine sd (az zO) ?_;exact nx ⟨pre++[x],rest,by simp[hx],by grind⟩ zS (Le.mk rfl (.s rfl rfl (.s rfl rfl (.cons rfl (Sub.int zS) rfl .nil))) .nil)
theorem PT(s:aa):Fc Tryz.prog 188 [.str s] (.b false):=by
 refine Fc.mk' [2] func188 rfl ntmps188 rfl rfl rfl (fun t w=>results_tmp results188 t _ w) ?_;refine go [] ?_;exact ah rfl (Sub.bool zS)
theorem L1(a b:aa):Fc Tryz.prog 132 [.str a,.str b] (.i (mJ a b)):=by
 refine Fc.mk' [4] func132 rfl ntmps132 rfl rfl rfl (fun t w=>results_tmp results132 t _ w) ?_;refine go [] ?_;refine oP (ai call188 rfl (PT _)) ?_;refine oP (ai call188 rfl (PT _)) ?_;refine aR rfl ?_;refine aR rfl ?_;refine br (fun h1=>?_) (fun h1=>?_)
 ·exact ah rfl (Sub.int (by grind[mJ]))
 ·refine br (fun h2=>?_) (fun h2=>?_)
  ·exact ah rfl (Sub.int (by grind[mJ]))
  ·exact ah rfl (Sub.int (by grind[mJ]))
end Go.T
namespace Go.T
open Go Go.Proofs Go.Proofs.Tryz
set_option maxRecDepth 20000
theorem FP(s t:aa)(hl:s.length+t.length≤140737488355328):dv Tryz.prog 286 [.box 7000 0,.str t] [(7000,.d_ 7001 s.length),(7001,.ba s)] (.bf [.i t.length,.raw .nilIface]) [(7000,.d_ 7002 (s++t).length),(7002,.ba (s++t)),(7001,.dead)]:=by
 refine dv.mk' [4,5] func286 rfl ntmps286 rfl rfl rfl (fun t w=>results_tmp2 results286 t _ w) ?_;refine J.seq (J.af [.p,.p] ?_);refine .ag rfl rfl<|.ag rfl rfl<|.nil ?_;refine J.seq (J.af [.p,.w] ?_);refine .mv rfl rfl<|.W rfl (gE call327 rfl (F8 7000 7001 _ _) (.cons rfl rfl (.cons rfl rfl .nil)) rfl rfl)<|.nil ?_;refine J.seq (J.af [.p,.p,.p,.p,.r,.p,.w,.p,.p,.w] ?_);refine .mv rfl rfl<|.mv rfl rfl<|.P rfl (wP rfl)<|.P rfl (hZ (n:=0) 152 1 underlying291 sizeOf152 rfl rfl)<|.R rfl (JV (e:=0) isAgg152 rfl rfl rfl rfl)<|.mv rfl rfl<|.W rfl (JP 7002 underlying152 underlying9 zS sizeOf5 typeInfo5 rfl zeroValue5 rfl rfl rfl rfl (.inl rfl) rfl hl)<|.P rfl (wP rfl)<|.P rfl (hZ (n:=0) 152 1 underlying291 sizeOf152 rfl rfl)<|.W rfl (J1 sizeOf152 rfl rfl rfl rfl zS)<|.nil ?_;refine J.seq (J.af [.p,.p,.p,.p] ?_);refine .mv rfl rfl<|.P rfl (fZ underlying9 rfl)<|.ag rfl rfl<|.ag rfl rfl<|.nil ?_;refine J.ret (?_);exact Tj rfl rfl (Sub.refl _) (by exact Sub.refl _) (.eq rfl zS rfl (.cons rfl rfl (.cons rfl rfl .nil)))
theorem VH(s:aa)(c:UInt8)(hl:s.length+1≤140737488355328):dv Tryz.prog 285 [.box 7000 0,.raw (.int .u8 c.toNat)] [(7000,.d_ 7001 s.length),(7001,.ba s)] (.raw .nilIface) [(7000,.d_ 7002 (s++[c]).length),(7002,.ba (s++[c])),(7001,.dead)]:=by
 refine dv.mk' [4] func285 rfl ntmps285 rfl rfl rfl (fun t w=>results_tmp results285 t _ w) ?_;refine J.seq (J.af [.p] ?_);refine .ag rfl rfl<|.nil ?_;refine J.seq (J.af [.p,.w] ?_);refine .mv rfl rfl<|.W rfl (gE call327 rfl (F8 7000 7001 _ _) (.cons rfl rfl (.cons rfl rfl .nil)) rfl rfl)<|.nil ?_;refine J.seq (J.af [.p,.p,.p,.p,.r,.p,.p,.w,.p,.p,.w] ?_);refine .mv rfl rfl<|.mv rfl rfl<|.P rfl (wP rfl)<|.P rfl (hZ (n:=0) 152 1 underlying291 sizeOf152 rfl rfl)<|.R rfl (JV (e:=0) isAgg152 rfl rfl rfl rfl)<|.mv rfl rfl<|.P rfl (bI (n:=1) (rows:=lu [c]) underlying152 sizeOf5 rfl rfl rfl zeroValue5 rfl rfl rfl rfl rfl rfl rfl)<|.W rfl (JP 7002 underlying152 underlying152 zS sizeOf5 typeInfo5 rfl zeroValue5 rfl rfl rfl rfl (.inr ⟨_,rfl⟩) rfl hl)<|.P rfl (wP rfl)<|.P rfl (hZ (n:=0) 152 1 underlying291 sizeOf152 rfl rfl)<|.W rfl (J1 sizeOf152 rfl rfl rfl rfl zS)<|.nil ?_;refine J.seq (J.af [.p] ?_);refine .ag rfl rfl<|.nil ?_;refine J.ret (?_);exact uE rfl (by exact Sub.refl _) (.eq rfl zS rfl (.cons rfl rfl (.cons rfl rfl .nil)))
theorem VI(s t:aa)(hl:s.length+t.length≤140737488355328):dv Tryz.prog 286 [.box 7000 0,.str t] [(7000,.d_ 7002 s.length),(7002,.ba s)] (.bf [.i t.length,.raw .nilIface]) [(7000,.d_ 7001 (s++t).length),(7001,.ba (s++t)),(7002,.dead)]:=by
 refine dv.mk' [4,5] func286 rfl ntmps286 rfl rfl rfl (fun t w=>results_tmp2 results286 t _ w) ?_;refine J.seq (J.af [.p,.p] ?_);refine .ag rfl rfl<|.ag rfl rfl<|.nil ?_;refine J.seq (J.af [.p,.w] ?_);refine .mv rfl rfl<|.W rfl (gE call327 rfl (F8 7000 7002 _ _) (.cons rfl rfl (.cons rfl rfl .nil)) rfl rfl)<|.nil ?_;refine J.seq (J.af [.p,.p,.p,.p,.r,.p,.w,.p,.p,.w] ?_);refine .mv rfl rfl<|.mv rfl rfl<|.P rfl (wP rfl)<|.P rfl (hZ (n:=0) 152 1 underlying291 sizeOf152 rfl rfl)<|.R rfl (JV (e:=0) isAgg152 rfl rfl rfl rfl)<|.mv rfl rfl<|.W rfl (JP 7001 underlying152 underlying9 zS sizeOf5 typeInfo5 rfl zeroValue5 rfl rfl rfl rfl (.inl rfl) rfl hl)<|.P rfl (wP rfl)<|.P rfl (hZ (n:=0) 152 1 underlying291 sizeOf152 rfl rfl)<|.W rfl (J1 sizeOf152 rfl rfl rfl rfl zS)<|.nil ?_;refine J.seq (J.af [.p,.p,.p,.p] ?_);refine .mv rfl rfl<|.P rfl (fZ underlying9 rfl)<|.ag rfl rfl<|.ag rfl rfl<|.nil ?_;refine J.ret (?_);exact Tj rfl rfl (Sub.refl _) (by exact Sub.refl _) (.eq rfl zS rfl (.cons rfl rfl (.cons rfl rfl .nil)))
theorem C5(u:Nat)(hu:u<18446744073709551616):Fc Tryz.prog 287 [.raw (.int .u64 u),.i 10] (.str (Lib.decDigits u)):=by
 refine Fc.mk' [4] func287 rfl ntmps287 rfl rfl rfl (fun t w=>results_tmp results287 t _ w) ?_;refine go [] ?_;refine oP (ai call328 rfl (aba _ zA)) ?_;exact ah rfl (Sub.refl _)
structure XB(m:List Nat)where
 cur:List Nat
 hx:bh cur=bh m
 hl:cur.length≤m.length
theorem qn(m:List Nat):Fc Tryz.prog 284 [aE m] (aE (bh m)):=by
 refine Fc.mk' [2] func284 rfl ntmps284 rfl rfl rfl (fun t w=>results_tmp results284 t _ w) ?_;refine J.ej 0 rfl (fun hb=>?_);simp only[List.length_map,aG]at hb;refine J.seq (J.af [.p] ?_);refine .ag rfl rfl<|.nil ?_;refine J.seq ?_;refine J.block ?_;refine J.loop (ι:=XB m) (fun sx=>[(0,aE sx.cur)]) (fun sx=>[]) (fun sx=>sx.cur.length) ⟨m,rfl,by omega⟩ ?_ ?_
 ·exact Le.mk rfl (.s rfl rfl .nil) .nil
 ·rintro⟨cur,hx,hl⟩;show J _ _ _ _ [(0,aE cur)] [];rcases lV cur with rfl|⟨i,x,rfl⟩
  ·skip;refine J.seq (J.seq (J.af [.p,.p,.p,.p,.p,.p,.p,.p,.p,.p,.p,.p] ?_));refine .mv rfl rfl<|.P rfl (dE underlying244 rfl)<|.P rfl (gp rfl rfl)<|.mv rfl rfl ?_;refine .off rfl (jD rfl rfl rfl zS) ?_;refine .off rfl (jD rfl rfl rfl zS) ?_;refine .off rfl (jD rfl rfl rfl zS) ?_;refine .off rfl (jD rfl rfl rfl zS) ?_;refine .off rfl (jD rfl rfl rfl zS) ?_;refine .off rfl (jD rfl rfl rfl zS) ?_;refine .off rfl (jD rfl rfl rfl zS) ?_;refine .P rfl (BE rfl zS rfl)<|.nil ?_;refine J.eQ rfl rfl ?_;refine J.exit (ei (dZ ?_));refine J.seq (J.af [.p,.p] ?_);refine .mv rfl rfl<|.ag rfl rfl<|.nil ?_;refine J.ret (?_);exact dF rfl (Sub.snap (by rw[←hx];rfl))
  ·skip;refine J.seq (J.seq (J.af [.p,.p,.p,.p,.p,.p,.p,.p,.p,.p,.p,.p] ?_));refine .mv rfl rfl<|.P rfl (dE underlying244 rfl)<|.P rfl (gp rfl rfl)<|.mv rfl rfl<|.p rfl (fX rfl rfl rfl zS) (fun _=>aX rfl _)<|.p rfl (fX rfl rfl rfl zS) (fun _=>aX rfl _)<|.p rfl (fX rfl rfl rfl zS) (fun _=>dE underlying244 rfl _)<|.p rfl (fX rfl rfl rfl zS) (fun _=>dQ rfl rfl (eJ zO (by simp at*;omega)) _)<|.p rfl (fX rfl rfl rfl zS) (fun _=>fY underlying244 sizeOf184 rfl rfl zS (Pz (fun(n:Nat)=>[D.raw (.int .u64 (n:Int))]) i x rfl) _)<|.p rfl (fX rfl rfl rfl zS) (fun _=>bX isAgg184 rfl _)<|.p rfl (fX rfl rfl rfl zS) (fun _=>jF rfl rfl _)<|.P rfl (wQ rfl zS rfl)<|.nil ?_;refine J.cond rfl (fun h1=>?_) (fun h1=>?_)
   ·have bE:=h1;try simp only[bs]at bE
    refine J.skip ?_;refine J.block ?_;refine J.af [.p,.p,.p,.p,.p,.p] ?_;refine .mv rfl rfl<|.mv rfl rfl<|.P rfl (dE underlying244 rfl)<|.P rfl (dQ rfl rfl (eJ zO (by simp at*;omega)))<|.P rfl (uC underlying244 sizeOf184 rfl (h:=i.length) (r:=aV i) (.inl ⟨rfl,rfl⟩) (.inr ⟨_,_,rfl,(ur rfl zS)⟩) zO zS zS)<|.ag rfl rfl<|.nil ?_;refine J.nil (cC ?_);refine J.nil (dG ?_);exact⟨⟨i,by rw[←hx,show x=0 by omega,rJ],by simp at hl;omega⟩,by simp,Le.mk rfl (.s rfl rfl .nil) .nil⟩
   ·have bE:=h1;try simp only[bs]at bE
    refine J.exit (ei (dZ ?_));refine J.seq (J.af [.p,.p] ?_);refine .mv rfl rfl<|.ag rfl rfl<|.nil ?_;refine J.ret (?_);exact dF rfl (Sub.snap (by(rw[←hx,xo i zO])))
theorem X9(s:aa):Fc Tryz.prog 282 [.str s] (.bf [.str (digits s).1,.b (digits s).2]):=by
 refine Fc.mk' [2,3] func282 rfl ntmps282 rfl rfl rfl (fun t w=>results_tmp2 results282 t _ w) ?_;refine go [] ?_;refine oP (ai call324 rfl (Xz _)) ?_;refine oP (ai call180 rfl (alj _)) ?_;refine br (fun h1=>?_) (fun h1=>?_)
 ·exact gS rfl rfl (Sub.str (by grind[digits,E6])) (Sub.bool (by grind[digits,E6]))
 ·refine oP (ai call325 rfl (alk _)) ?_;exact gS rfl rfl (Sub.str (by grind[digits,E6])) (Sub.bool (by grind[digits,E6]))
structure aip(s:aa)where
 rest:aa
 tl:aa
 e:Int
 done:List Nat
 hr:(digits s).1=rest++tl
 he:(0<e→e=rest.length)∧(e≤0→rest=[])
 hx:done++e7 rest=e7 (digits s).1
theorem sY(s:aa)(hs:s.length≤100000):Fc Tryz.prog 238 [.str s] (.agg (mb (digits s).2 (e7 (digits s).1))):=by
 refine Fc.iI func238 rfl ntmps238 rfl rfl rfl ?_;have oL:=jO s;have Dv:=mM s;have cQ:=pA (digits s).1;refine go [99999] ?_;refine oP (ai call282 rfl (X9 _)) ?_;refine J.loop (ι:=aip s) (fun sx=>[(2,.box 0 0),(3,.str (digits s).1),(4,.b (digits s).2),(5,.gs 1 sx.done.length),(6,.i sx.e)]) (fun sx=>[(0,.cells [.b false,.raw (.slice none 0 0)]),(1,.arr 1 (aV sx.done))]) (fun sx=>sx.rest.length) ⟨(digits s).1,[],(digits s).1.length,[],by simp,⟨fun _=>rfl,fun h=>List.length_eq_zero_iff.1 zO⟩,rfl⟩ ?_ ?_
 ·exact(Le.mB 1 1).trans<|Le.mk rfl (.s rfl rfl (.s rfl rfl (.s rfl rfl (.cons rfl (Sub.z' _) rfl (.s rfl rfl .nil))))) (.cons rfl rfl (.arr rfl zS .nil))
 ·rintro⟨rest,tl,e,done,hr,he,hx⟩;show J _ _ _ _ [(2,.box 0 0),(3,.str (digits s).1),(4,.b (digits s).2),(5,.gs 1 done.length),(6,.i e)] [(0,.cells [.b false,.raw (.slice none 0 0)]),(1,.arr 1 (aV done))];have fq:=congrArg List.length hr;simp only[List.length_append]at fq;have vZ:=congrArg List.length hx;simp only[List.length_append]at vZ;refine go [99999] ?_;refine br (fun h1=>?_) (fun h1=>?_)
  ·have bE:=h1;try simp only[bs]at bE
   refine sd (az zO) ?_;refine oP (rm underlying9 rfl (l:=rest.length-9) (h:=rest.length) (r:=rest.drop (rest.length-9)) (.inr ⟨_,_,rfl,ur rfl zO⟩) (.inr ⟨_,_,rfl,ur rfl zO⟩) zO (by rw[hr];simp) (by rw[hr];simp[List.drop_append,List.take_append]<;>omega)) ?_;refine oP (ai call283 rfl (ahh _ (by intro e;have:=congrArg List.length e;simp at this;omega) (by rw[hr,List.all_append,Bool.and_eq_true]at Dv;have:=Dv.1;rw[←List.take_append_drop (rest.length-9) rest,List.all_append,Bool.and_eq_true]at this;exact this.2) zQ)) ?_;refine oP (bI (n:=1) (rows:=aV [natVal (rest.drop (rest.length-9))]) underlying244 sizeOf184 rfl rfl rfl zeroValue184 rfl rfl rfl rfl rfl rfl rfl) ?_;refine oW (k_ 2 underlying244 underlying244 sizeOf184 typeInfo184 zeroValue184 rfl (bt:=8) rfl rfl rfl rfl zS rfl rfl zQ) ?_;refine sd (az zO) ?_;exact nx ⟨rest.take (rest.length-9),rest.drop (rest.length-9)++tl,e-9,done++[natVal (rest.drop (rest.length-9))],by rw[hr,←List.append_assoc,List.take_append_drop],⟨fun h=>by simp;omega,fun h=>List.length_eq_zero_iff.1 zQ⟩,by rw[←hx,xN (s:=rest) zO];simp⟩ zQ ((Le.mk (ak:=[(0,_),(2,_)]) rfl (show eO _ _ [(2,_),(3,_),(4,_),(5,_),(6,_)]from(.s rfl rfl (.s rfl rfl (.s rfl rfl (.s rfl rfl (.s rfl rfl .nil)))))) (.cons (i:=0) rfl rfl (.cons (i:=2) rfl rfl .nil))).trans<|(Le.pZ 5 2 1 rfl rfl zS rfl).trans<|Le.mk rfl (.s rfl rfl (.s rfl rfl (.s rfl rfl (.cons rfl (Sub.gs zS) rfl (.s rfl rfl .nil))))) (.cons rfl rfl (.arr rfl zS .nil)))
  ·have bE:=h1;try simp only[bs]at bE
   refine go [99999] ?_;refine J.bP (Le.G0 0 1 1 rfl rfl rfl zS) ?_;refine J.ret (?_);exact Rd.cA results238 isAgg246 sizeOf246 rfl rfl rfl (Sub.agg (.r (.cons (Sub.snap (by rw[←hx,he.2 zO,rV,List.append_nil])) .nil)))
structure TZ(cD:Bool)(m:List Nat)where
 lo:List Nat
 hi:List Nat
 st:aa
 hx:bh m=lo++hi
 ht:st++mC lo=s8 cD m
 aB:st≠[]
 aT:st.length≤21+9*hi.length
theorem zd(cD:Bool)(m:List Nat)(hm:aU m)(hs:m.length≤20000):Fc Tryz.prog 239 [.agg (mb cD m)] (.str (s8 cD m)):=by
 refine Fc.mk' [2] func239 rfl ntmps239 rfl rfl rfl (fun t w=>results_tmp results239 t _ w) ?_;have tM:=tw m;have tN:=xn hm;have oK:(bh m).length≠0→(Lib.decDigits (cY (bh m))).length≤9:=fun h=>xp (tN _ (wh h));refine J.seq (J.af [.w,.p] ?_);refine .W rfl (EA 0 rfl rfl)<|.ag rfl rfl<|.nil ?_;refine J.seq (J.af [.p,.r,.p,.p] ?_);refine .P rfl (hZ (n:=0) 244 1 underlying246 sizeOf244 rfl rfl)<|.R rfl (iK isAgg244 rfl rfl rfl)<|.P rfl (ai call284 rfl (qn _))<|.ag rfl rfl<|.nil ?_;refine J.seq (J.seq (J.af [.p,.p,.p] ?_));refine .mv rfl rfl<|.P rfl (dE underlying244 rfl)<|.P rfl (jF rfl rfl)<|.nil ?_;refine J.cond rfl (fun h1=>?_) (fun h1=>?_)
 ·refine J.seq (J.af [.p] ?_);refine .ag rfl rfl<|.nil ?_;refine J.ret (?_);exact dF rfl (Sub.str (by grind[s8]))
 ·have bE:=h1;try simp only[bs]at bE
  refine J.skip ?_;refine J.seq (J.af [.w] ?_);refine .W rfl (ahD 7000 7001 zeroValue291 rfl)<|.nil ?_;refine J.seq (J.seq (J.af [.p,.r] ?_));refine .P rfl (hZ (n:=0) 4 0 underlying246 sizeOf4 rfl rfl)<|.R rfl (iK isAgg4 rfl rfl rfl)<|.nil ?_;refine J.cond rfl (fun h2=>?_) (fun h2=>?_)
  ·refine J.af [.w] ?_;refine .W rfl (gE call285 rfl (VH _ 45 zS) (.cons rfl rfl (.cons rfl rfl .nil)) rfl rfl)<|.nil ?_;refine J.bP (Le.mk (ak:=[(0,_),(7000,_),(7002,_)]) rfl (show eO _ _ [(0,_),(1,_),(2,_),(7,_),(8,_),(9,_),(3,_),(10,_),(11,_),(12,_),(4,_),(13,_),(14,_)]from(.s rfl rfl (.s rfl rfl (.s rfl rfl (.s rfl rfl (.s rfl rfl (.s rfl rfl (.s rfl rfl (.s rfl rfl (.s rfl rfl (.s rfl rfl (.s rfl rfl (.s rfl rfl (.s rfl rfl .nil)))))))))))))) (.cons (i:=0) rfl rfl (.cons (i:=7000) rfl rfl (.cons (i:=7002) rfl rfl .nil)))) ?_;refine J.seq (J.af [.p,.p,.p,.p,.p,.p,.p,.w] ?_);refine .mv rfl rfl<|.mv rfl rfl<|.P rfl (dE underlying244 rfl)<|.P rfl (dQ rfl rfl (eJ zO zQ))<|.P rfl (fY underlying244 sizeOf184 rfl rfl zQ (tV (pre:=bh m) (rest:=[]) zS zO zS))<|.P rfl (bX isAgg184 rfl)<|.P rfl (ai call287 rfl (C5 _ (by have:=tN _ (wh (l:=bh m) zO);unfold gB at this;omega)))<|.W rfl (gE call286 rfl (VI _ _ zQ) (.cons rfl rfl (.cons rfl rfl .nil)) rfl rfl)<|.nil ?_;refine J.bP (Le.mk (ak:=[(0,_),(7000,_),(7001,_)]) rfl (show eO _ _ [(0,_),(1,_),(2,_),(7,_),(8,_),(9,_),(3,_),(10,_),(11,_),(12,_),(4,_),(13,_),(14,_),(16,_),(17,_),(18,_),(19,_),(20,_),(21,_),(22,_)]from(.s rfl rfl (.s rfl rfl (.s rfl rfl (.s rfl rfl (.s rfl rfl (.s rfl rfl (.s rfl rfl (.s rfl rfl (.s rfl rfl (.s rfl rfl (.s rfl rfl (.s rfl rfl (.s rfl rfl (.s rfl rfl (.s rfl rfl (.s rfl rfl (.s rfl rfl (.s rfl rfl (.s rfl rfl (.s rfl rfl .nil))))))))))))))))))))) (.cons (i:=0) rfl rfl (.cons (i:=7000) rfl rfl (.cons (i:=7001) rfl rfl .nil)))) ?_;refine J.seq (J.seq (J.af [.p,.p,.p,.p] ?_))
   refine .mv rfl rfl<|.P rfl (dE underlying244 rfl)<|.P rfl (dQ rfl rfl (eJ zO zQ))<|.ag rfl rfl<|.nil ?_;refine J.block ?_;refine J.loop (ι:=TZ cD m) (fun sx=>[(1,.box 0 0),(3,aE (bh m)),(4,.box 7000 0),(5,.i ((sx.lo.length:Int)-1))]) (fun sx=>[(0,.cells (mb cD m)),(7000,.d_ 7001 sx.st.length),(7001,.ba sx.st)]) (fun sx=>sx.lo.length) ⟨(bh m).dropLast,[cY (bh m)],([]++[45])++Lib.decDigits (cY (bh m)),vi zO,by unfold s8;rw[if_neg zO];simp at*;simp[*],by simp[Gc],by have:=xp (tN _ (wh (l:=bh m) zO));simp;omega⟩ ?_ ?_
   ·exact Le.mk rfl (.s rfl rfl (.s rfl rfl (.s rfl rfl (.cons rfl (Sub.int zQ) rfl .nil)))) (.cons rfl rfl (.cons rfl rfl (.cons rfl rfl .nil)))
   ·rintro⟨lo,hi,st,hx,ht,aB,aT⟩;show J _ _ _ _ [(1,.box 0 0),(3,aE (bh m)),(4,.box 7000 0),(5,.i ((lo.length:Int)-1))] [(0,.cells (mb cD m)),(7000,.d_ 7001 st.length),(7001,.ba st)];have vZ:=congrArg List.length hx;simp only[List.length_append]at vZ;have hy:lo.length≠0→cY lo<gB:=fun h=>tN _ (by rw[hx];exact List.mem_append_left _ (wh h));have hd9:lo.length≠0→(Lib.decDigits (cY lo)).length≤9:=fun h=>xp (hy h);refine J.seq (J.seq (J.af [.p,.p] ?_));refine .mv rfl rfl<|.P rfl (pY rfl rfl)<|.nil ?_;refine J.cond rfl (fun h3=>?_) (fun h3=>?_)
    ·have fK:=h3;try simp only[bs]at fK
     refine J.skip ?_;refine J.seq ?_;refine J.block ?_;refine J.seq (J.af [.p,.p,.p,.p,.p,.p] ?_);refine .mv rfl rfl<|.mv rfl rfl<|.P rfl (fY underlying244 sizeOf184 rfl rfl zO (tV hx zO rfl))<|.P rfl (bX isAgg184 rfl)<|.P rfl (ai call287 rfl (C5 _ (by unfold gB at hy;omega)))<|.ag rfl rfl<|.nil ?_;refine J.af [.p,.p,.p,.p,.p,.p,.w] ?_;refine .mv rfl rfl<|.P rfl (fZ underlying9 rfl)<|.P rfl (dQ rfl rfl (az zO))<|.P rfl (ai call288 rfl (Te _ zO zO))<|.mv rfl rfl<|.P rfl (yX rfl rfl (by unfold aG;simp;omega) rfl)<|.W rfl (gE call286 rfl (FP _ _ zQ) (.cons rfl rfl (.cons rfl rfl .nil)) rfl rfl)<|.nil ?_;refine J.nil (cC ?_);refine J.bP (Le.mk (ak:=[(0,_),(7000,_),(7002,_)]) rfl (show eO _ _ [(1,_),(3,_),(4,_),(5,_),(27,_),(28,_),(31,_),(32,_),(33,_),(34,_),(35,_),(6,_),(36,_),(37,_),(38,_),(39,_),(40,_),(41,_)]from(.s rfl rfl (.s rfl rfl (.s rfl rfl (.s rfl rfl (.s rfl rfl (.s rfl rfl (.s rfl rfl (.s rfl rfl (.s rfl rfl (.s rfl rfl (.s rfl rfl (.s rfl rfl (.s rfl rfl (.s rfl rfl (.s rfl rfl (.s rfl rfl (.s rfl rfl (.s rfl rfl .nil))))))))))))))))))) (.cons (i:=0) rfl rfl (.cons (i:=7000) rfl rfl (.cons (i:=7002) rfl rfl .nil)))) ?_;refine J.af [.p,.p,.p] ?_;refine .mv rfl rfl<|.P rfl (dQ rfl rfl (az zO))<|.ag rfl rfl<|.nil ?_;refine J.nil (dG ?_)
     exact⟨⟨lo.dropLast,cY lo::hi,st++(List.replicate (9-(Lib.decDigits (cY lo)).length) 48++Lib.decDigits (cY lo)),by rw[hx];conv=>{lhs;rw[vi (l:=lo) zO]};simp,by rw[←ht,R8 (lo:=lo) zO];simp[ri],by simp[aB],by simp;omega⟩,by simp;omega,(Le.mk (ak:=[(0,_),(7000,_),(7002,_)]) rfl (show eO _ _ [(1,_),(3,_),(4,_),(5,_)]from(.s rfl rfl (.s rfl rfl (.s rfl rfl (.s rfl rfl .nil))))) (.cons (i:=0) rfl rfl (.cons (i:=7000) rfl rfl (.cons (i:=7002) rfl rfl .nil)))).trans<|(Le.J6 7000 7002 7001 rfl rfl zS rfl).trans<|Le.mk rfl (.s rfl rfl (.s rfl rfl (.s rfl rfl (.cons rfl (Sub.int zQ) rfl .nil)))) (.cons rfl rfl (.eq rfl zS rfl (.eq rfl zS rfl .nil)))⟩
    ·have fK:=h3;try simp only[bs]at fK
     refine J.exit (ei (dZ ?_));refine J.seq (J.af [.w,.p] ?_);refine .W rfl (gE call289 rfl (Lx 7000 7001 _ _ aB rfl (by unfold aG;omega) rfl) (.cons rfl rfl (.cons rfl rfl .nil)) rfl rfl)<|.ag rfl rfl<|.nil ?_;refine J.ret (?_);exact dF rfl (Sub.str (by have e:lo=[]:=List.length_eq_zero_iff.mp zO;rw[e]at ht;rw[←ht];simp[R7]))
  ·refine J.skip ?_;refine J.seq (J.af [.p,.p,.p,.p,.p,.p,.p,.w] ?_);refine .mv rfl rfl<|.mv rfl rfl<|.P rfl (dE underlying244 rfl)<|.P rfl (dQ rfl rfl (eJ zO zQ))<|.P rfl (fY underlying244 sizeOf184 rfl rfl zQ (tV (pre:=bh m) (rest:=[]) zS zO zS))<|.P rfl (bX isAgg184 rfl)<|.P rfl (ai call287 rfl (C5 _ (by have:=tN _ (wh (l:=bh m) zO);unfold gB at this;omega)))<|.W rfl (gE call286 rfl (FP _ _ zQ) (.cons rfl rfl (.cons rfl rfl .nil)) rfl rfl)<|.nil ?_;refine J.bP (Le.mk (ak:=[(0,_),(7000,_),(7002,_)]) rfl (show eO _ _ [(0,_),(1,_),(2,_),(7,_),(8,_),(9,_),(3,_),(10,_),(11,_),(12,_),(4,_),(13,_),(14,_),(16,_),(17,_),(18,_),(19,_),(20,_),(21,_),(22,_)]from(.s rfl rfl (.s rfl rfl (.s rfl rfl (.s rfl rfl (.s rfl rfl (.s rfl rfl (.s rfl rfl (.s rfl rfl (.s rfl rfl (.s rfl rfl (.s rfl rfl (.s rfl rfl (.s rfl rfl (.s rfl rfl (.s rfl rfl (.s rfl rfl (.s rfl rfl (.s rfl rfl (.s rfl rfl (.s rfl rfl .nil))))))))))))))))))))) (.cons (i:=0) rfl rfl (.cons (i:=7000) rfl rfl (.cons (i:=7002) rfl rfl .nil)))) ?_;refine J.seq (J.seq (J.af [.p,.p,.p,.p] ?_));refine .mv rfl rfl<|.P rfl (dE underlying244 rfl)<|.P rfl (dQ rfl rfl (eJ zO zQ))<|.ag rfl rfl<|.nil ?_;refine J.block ?_;refine J.loop (ι:=TZ cD m) (fun sx=>[(1,.box 0 0),(3,aE (bh m)),(4,.box 7000 0),(5,.i ((sx.lo.length:Int)-1))]) (fun sx=>[(0,.cells (mb cD m)),(7000,.d_ 7001 sx.st.length),(7001,.ba sx.st)]) (fun sx=>sx.lo.length) ⟨(bh m).dropLast,[cY (bh m)],[]++Lib.decDigits (cY (bh m)),vi zO,by unfold s8;rw[if_neg zO];simp at*;simp[*],by simp[Gc],by have:=xp (tN _ (wh (l:=bh m) zO));simp;omega⟩ ?_ ?_
   ·exact(Le.mk (ak:=[(0,_),(7000,_),(7002,_)]) rfl (show eO _ _ [(1,_),(3,_),(4,_),(5,_)]from(.s rfl rfl (.s rfl rfl (.s rfl rfl (.s rfl rfl .nil))))) (.cons (i:=0) rfl rfl (.cons (i:=7000) rfl rfl (.cons (i:=7002) rfl rfl .nil)))).trans<|(Le.J6 7000 7002 7001 rfl rfl zS rfl).trans<|Le.mk rfl (.s rfl rfl (.s rfl rfl (.s rfl rfl (.cons rfl (Sub.int zQ) rfl .nil)))) (.cons rfl rfl (.cons rfl rfl (.cons rfl rfl .nil)))
   ·rintro⟨lo,hi,st,hx,ht,aB,aT⟩;show J _ _ _ _ [(1,.box 0 0),(3,aE (bh m)),(4,.box 7000 0),(5,.i ((lo.length:Int)-1))] [(0,.cells (mb cD m)),(7000,.d_ 7001 st.length),(7001,.ba st)];have vZ:=congrArg List.length hx;simp only[List.length_append]at vZ;have hy:lo.length≠0→cY lo<gB:=fun h=>tN _ (by rw[hx];exact List.mem_append_left _ (wh h));have hd9:lo.length≠0→(Lib.decDigits (cY lo)).length≤9:=fun h=>xp (hy h);refine J.seq (J.seq (J.af [.p,.p] ?_));refine .mv rfl rfl<|.P rfl (pY rfl rfl)<|.nil ?_;refine J.cond rfl (fun h4=>?_) (fun h4=>?_)
    ·have gm:=h4;try simp only[bs]at gm
     refine J.skip ?_;refine J.seq ?_;refine J.block ?_;refine J.seq (J.af [.p,.p,.p,.p,.p,.p] ?_);refine .mv rfl rfl<|.mv rfl rfl<|.P rfl (fY underlying244 sizeOf184 rfl rfl zO (tV hx zO rfl))<|.P rfl (bX isAgg184 rfl)<|.P rfl (ai call287 rfl (C5 _ (by unfold gB at hy;omega)))<|.ag rfl rfl<|.nil ?_;refine J.af [.p,.p,.p,.p,.p,.p,.w] ?_;refine .mv rfl rfl<|.P rfl (fZ underlying9 rfl)<|.P rfl (dQ rfl rfl (az zO))<|.P rfl (ai call288 rfl (Te _ zO zO))<|.mv rfl rfl<|.P rfl (yX rfl rfl (by unfold aG;simp;omega) rfl)<|.W rfl (gE call286 rfl (FP _ _ zQ) (.cons rfl rfl (.cons rfl rfl .nil)) rfl rfl)<|.nil ?_;refine J.nil (cC ?_);refine J.bP (Le.mk (ak:=[(0,_),(7000,_),(7002,_)]) rfl (show eO _ _ [(1,_),(3,_),(4,_),(5,_),(27,_),(28,_),(31,_),(32,_),(33,_),(34,_),(35,_),(6,_),(36,_),(37,_),(38,_),(39,_),(40,_),(41,_)]from(.s rfl rfl (.s rfl rfl (.s rfl rfl (.s rfl rfl (.s rfl rfl (.s rfl rfl (.s rfl rfl (.s rfl rfl (.s rfl rfl (.s rfl rfl (.s rfl rfl (.s rfl rfl (.s rfl rfl (.s rfl rfl (.s rfl rfl (.s rfl rfl (.s rfl rfl (.s rfl rfl .nil))))))))))))))))))) (.cons (i:=0) rfl rfl (.cons (i:=7000) rfl rfl (.cons (i:=7002) rfl rfl .nil)))) ?_;refine J.af [.p,.p,.p] ?_;refine .mv rfl rfl<|.P rfl (dQ rfl rfl (az zO))<|.ag rfl rfl<|.nil ?_;refine J.nil (dG ?_)
     exact⟨⟨lo.dropLast,cY lo::hi,st++(List.replicate (9-(Lib.decDigits (cY lo)).length) 48++Lib.decDigits (cY lo)),by rw[hx];conv=>{lhs;rw[vi (l:=lo) zO]};simp,by rw[←ht,R8 (lo:=lo) zO];simp[ri],by simp[aB],by simp;omega⟩,by simp;omega,(Le.mk (ak:=[(0,_),(7000,_),(7002,_)]) rfl (show eO _ _ [(1,_),(3,_),(4,_),(5,_)]from(.s rfl rfl (.s rfl rfl (.s rfl rfl (.s rfl rfl .nil))))) (.cons (i:=0) rfl rfl (.cons (i:=7000) rfl rfl (.cons (i:=7002) rfl rfl .nil)))).trans<|(Le.J6 7000 7002 7001 rfl rfl zS rfl).trans<|Le.mk rfl (.s rfl rfl (.s rfl rfl (.s rfl rfl (.cons rfl (Sub.int zQ) rfl .nil)))) (.cons rfl rfl (.eq rfl zS rfl (.eq rfl zS rfl .nil)))⟩
    ·have gm:=h4;try simp only[bs]at gm
     refine J.exit (ei (dZ ?_));refine J.seq (J.af [.w,.p] ?_);refine .W rfl (gE call289 rfl (Lx 7000 7001 _ _ aB rfl (by unfold aG;omega) rfl) (.cons rfl rfl (.cons rfl rfl .nil)) rfl rfl)<|.ag rfl rfl<|.nil ?_;refine J.ret (?_);exact dF rfl (Sub.str (by have e:lo=[]:=List.length_eq_zero_iff.mp zO;rw[e]at ht;rw[←ht];simp[R7]))
theorem agd(s:aa)(hs:s.length≤9000):Fc Tryz.prog 311 [.str s] (.str (s8 (!(digits s).2) (e7 (digits s).1))):=by
 refine Fc.mk' [2] func311 rfl ntmps311 rfl rfl rfl (fun t w=>results_tmp results311 t _ w) ?_;have oL:=jO s;have cQ:=pA (digits s).1;have hgo:=(He _ (mM s)).1;refine go [] ?_;refine oP (ai call238 rfl (sY _ zO)) ?_;refine oP (ai call239 rfl (zd _ _ zA zO)) ?_;exact ah rfl (Sub.refl _)
structure W_(x y:List Nat)where
 lx:List Nat
 rx:List Nat
 ly:List Nat
 ry:List Nat
 ex:x=lx++rx
 ey:y=ly++ry
 el:lx.length=ly.length
 er:kA lx.reverse ly.reverse=ig x y
theorem xm(x y:List Nat)(hx:x.length≤20000)(hy:y.length≤20000):Fc Tryz.prog 240 [aE x,aE y] (.i (ig x y)):=by
 refine Fc.mk' [4] func240 rfl ntmps240 rfl rfl rfl (fun t w=>results_tmp results240 t _ w) ?_;refine go [] ?_;refine br (fun h1=>?_) (fun h1=>?_)
 ·refine sd (eJ zQ zQ) ?_;exact ah rfl (Sub.int (by unfold ig;rw[if_pos (by simp at*;omega)];simp))
 ·refine sd (eJ zO zQ) ?_;refine J.loop (ι:=W_ x y) (fun sx=>[(0,aE x),(1,aE y),(5,.i ((sx.lx.length:Int)-1))]) (fun sx=>[]) (fun sx=>sx.lx.length) ⟨x,[],y,[],by simp,by simp,by simp at*;omega,(WM (by simp at*;omega)).symm⟩ ?_ ?_
  ·exact Le.mk rfl (.s rfl rfl (.s rfl rfl (.cons rfl (Sub.int zS) rfl .nil))) .nil
  ·rintro⟨lx,rx,ly,ry,ex,ey,el,er⟩;show J _ _ _ _ [(0,aE x),(1,aE y),(5,.i ((lx.length:Int)-1))] [];have exl:=congrArg List.length ex;have eyl:=congrArg List.length ey;simp only[List.length_append]at exl eyl;have es:=fun h=>L0 (x:=lx) (y:=ly) h el;refine go [] ?_;refine br (fun h2=>?_) (fun h2=>?_)
   ·have c7:=h2;try simp only[bs]at c7
    refine ix zO (tV ex zO rfl) ?_;refine ix zO (tV ey zO zO) ?_;refine ord ?_;refine br (fun h3=>?_) (fun h3=>?_)
    ·have fK:=h3;try simp only[bs]at fK
     exact ah rfl (Sub.int (by(rw[←er,es zO];rw[if_pos zO])))
    ·have fK:=h3;try simp only[bs]at fK
     refine ix zO (tV ex zO rfl) ?_;refine ix zO (tV ey zO zO) ?_;refine ord ?_;refine br (fun h4=>?_) (fun h4=>?_)
     ·have gm:=h4;try simp only[bs]at gm
      exact ah rfl (Sub.int (by(rw[←er,es zO];rw[if_neg zO,if_pos zO])))
     ·have gm:=h4;try simp only[bs]at gm
      refine sd (az zO) ?_;exact nx ⟨lx.dropLast,cY lx::rx,ly.dropLast,cY ly::ry,by rw[ex];conv=>{lhs;rw[vi (l:=lx) zO]};simp,by rw[ey];conv=>{lhs;rw[vi (l:=ly) zO]};simp,by simp;omega,by rw[←er,L0 zO el,if_neg zO,if_neg zO]⟩ zQ (Le.mk rfl (.s rfl rfl (.s rfl rfl (.cons rfl (Sub.int zQ) rfl .nil))) .nil)
   ·have c7:=h2;try simp only[bs]at c7
    refine go [] ?_;exact ah rfl (Sub.int (by rw[←er,LY zO]))
end Go.T
