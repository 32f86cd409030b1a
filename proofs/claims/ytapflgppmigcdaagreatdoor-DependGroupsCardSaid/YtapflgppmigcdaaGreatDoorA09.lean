/-
  Contracts of the functions that the statement reaches, and the logic in which they are proved (no condition): parts Spec11, Spec12, Spec13, Spec14, Spec15, Spec16, Spec17, SpecD2, W3, W4, W5, W6, W7, W8, W9, W10, W11, W12, W13, W14, W15, W16, W17, W18, W19, W20, W21, W22.
-/
import Derived.Test.YtapflgppmigcdaaGreatDoorA08
import Derived.Lib.Bytealg
set_option linter.all false
namespace Go.T
open Go
theorem DG{x y:List Nat}(hx:x.length≠0)(he:x.length=y.length):iJ x.reverse y.reverse=if cR x<cR y then -1 else if cR y<cR x then 1 else iJ x.dropLast.reverse y.dropLast.reverse:=by
 rcases lV x with rfl|⟨i,a,rfl⟩
 ·simp at hx
 rcases lV y with rfl|⟨j,b,rfl⟩
 ·simp at he
 simp[iJ,cR]
theorem HK{x y:List Nat}(hx:x.length=0):iJ x.reverse y.reverse=0:=by
 rw[List.length_eq_zero_iff.1 hx];rfl
theorem Zv{x y:List Nat}(h:x.length=y.length):iA x y=iJ x.reverse y.reverse:=by unfold iA;rw[if_neg zO]
theorem Zu(x y:List Nat)(hx:x.length≤20000)(hy:y.length≤20000):-20000≤iA x y∧iA x y≤20000:=by
 unfold iA;split
 ·omega
 ·have:∀a b:List Nat,-1≤iJ a b∧iJ a b≤1:=by
   intro a;induction a with
   |nil=>intro b;simp[iJ]
   |cons a x ih=>
    intro b;cases b with
    |nil=>simp[iJ]
    |cons b y=>
     simp only[iJ];split
     ·omega
     ·split
      ·omega
      ·exact ih y
  have:=this x.reverse y.reverse;omega
theorem N1:∀(n:Nat)(x y:List Nat),x.length=n→y.length=n→aR x→aR y→
  (iJ x.reverse y.reverse<0↔an x<an y)∧(0<iJ x.reverse y.reverse↔an y<an x)
 |0,x,y,hx,hy,_,_=>by
  rw[List.length_eq_zero_iff.1 hx,List.length_eq_zero_iff.1 hy];simp[iJ,an]
 |n+1,x,y,hx,hy,ox,oy=>by
  rcases lV x with rfl|⟨i,a,rfl⟩
  ·simp at hx
  rcases lV y with rfl|⟨j,b,rfl⟩
  ·simp at hy
  have hi:i.length=n:=by simpa using hx
  have hj:j.length=n:=by simpa using hy
  have oi:aR i:=fun u hu=>ox u (by simp[hu]);have oj:aR j:=fun u hu=>oy u (by simp[hu]);have ih:=N1 n i j hi hj oi oj;have li:=tf oi;have lj:=tf oj;rw[hi]at li;rw[hj]at lj;simp only[List.reverse_append,List.reverse_singleton,List.singleton_append,iJ,u7,an,hi,hj,Nat.mul_zero,Nat.add_zero];by_cases h1:a<b
  ·rw[if_pos h1];have:=Nat.mul_le_mul_left (gB^n) (show a+1≤b from h1);rw[Nat.mul_add,Nat.mul_one]at this;constructor<;>constructor<;>intro h<;>omega
  ·rw[if_neg h1];by_cases h2:b<a
   ·rw[if_pos h2];have:=Nat.mul_le_mul_left (gB^n) (show b+1≤a from h2);rw[Nat.mul_add,Nat.mul_one]at this;constructor<;>constructor<;>intro h<;>omega
   ·rw[if_neg h2];have:a=b:=by omega
    subst this;constructor
    ·rw[ih.1];omega
    ·rw[ih.2];omega
theorem KR{x:List Nat}(hc:bm x=x)(h0:x.length≠0):gB^(x.length-1)≤an x:=by
 rcases lV x with rfl|⟨i,a,rfl⟩
 ·simp at h0
 have ha:a≠0:=by
  rintro rfl;rw[sv]at hc;have:=um i;rw[hc]at this;simp at this;omega
 rw[u7];simp only[an,Nat.mul_zero,Nat.add_zero,List.length_append,List.length_singleton,Nat.add_sub_cancel];have:=Nat.mul_le_mul_left (gB^i.length) (show 1≤a by omega);omega
theorem To{x y:List Nat}(ox:aR x)(cy:bm y=y)(h:x.length<y.length):an x<an y:=by
 have h1:=tf ox;have h2:=KR cy zO;have h3:gB^x.length≤gB^(y.length-1):=Nat.pow_le_pow_right dv zO;omega
theorem DE{x y:List Nat}(ox:aR x)(oy:aR y)(cx:bm x=x)(cy:bm y=y):
  (iA x y<0↔an x<an y)∧(0<iA x y↔an y<an x):=by
 unfold iA;split
 ·rename_i h;rcases Nat.lt_or_ge x.length y.length with hl|hl
  ·have:=To ox cy hl;constructor<;>constructor<;>intro h<;>omega
  ·have:=To oy cx (show y.length<x.length by omega);constructor<;>constructor<;>intro h<;>omega
 ·rename_i h;exact N1 y.length x y zO rfl ox oy
theorem HO{x:List Nat}(h:x.length≠0→cR x≠0):bm x=x:=by
 rcases lV x with rfl|⟨i,a,rfl⟩
 ·rfl
 ·exact x6 i (by simpa[cR]using h zS)
theorem ah1{c:UInt8}{r:aa}(hc:bZ c=true)(h:c≠48):natVal (c::r)≠0:=by
 have e:natVal (c::r)=natVal ([c]++r):=rfl;rw[e,va];have h1:natVal [c]=c.toNat-48:=by simp[natVal]
 have h2:c.toNat≠48:=fun e=>h (UInt8.toNat_inj.1 e);have h3:48≤c.toNat:=by simp[bZ]at hc;exact hc.1
 rw[h1];have:0<(c.toNat-48)*10^r.length:=Nat.mul_pos zO (Nat.pow_pos zO);omega
theorem Sr{a:Nat}{l:List Nat}(h:l.length≠0):cR (a::l)=cR l:=by
 cases l with
 |nil=>simp at h
 |cons b l=>simp[cR]
theorem Qi{d:aa}(h:d.length≠0):(fE d).length≠0:=by rw[yy h];simp
theorem adL(d:aa)(hd:d.all bZ=true)(h0:d.head?≠some 48)(hn:d.length≠0):cR (fE d)≠0:=by
 induction h:d.length using Nat.strongRecOn generalizing d with
 |_ n ih=>
  rw[yy hn];by_cases hl:d.length≤9
  ·have e1:d.length-9=0:=by omega
   rw[e1,List.take_zero,List.drop_zero,sS];show natVal d≠0;cases d with
   |nil=>simp at hn
   |cons c r=>exact ah1 (by simp at hd;exact hd.1) (by simpa using h0)
  ·have bN:(d.take (d.length-9)).length=d.length-9:=by simp
   rw[Sr (Qi zO)];refine ih (d.length-9) zO _ ?_ ?_ zO bN
   ·rw[List.all_eq_true]at hd⊢;exact fun x hx=>hd x (List.mem_of_mem_take hx)
   ·rw[List.head?_take,if_neg zO];exact h0
theorem abj(s:aa):(eO s).head?≠some 48:=by
 induction s with
 |nil=>simp[eO]
 |cons c r ih=>
  unfold eO;split
  ·rename_i j0;simp at j0;rw[←j0.2];exact ih
  ·rename_i aD;simp only[List.head?_cons];intro h;injection h with h;subst h;exact aD r rfl
theorem DR(s:aa):(digits s).1.head?≠some 48:=by
 unfold digits;split
 ·exact abj _
 ·simp
theorem aaA(s:aa):bm (fE (digits s).1)=fE (digits s).1:=HO fun h=>adL _ (nE s) (DR s) (by intro e;apply h;rw[List.length_eq_zero_iff.1 e,sS];rfl)
theorem AL(s:aa)(h:(digits s).2=true):(fE (digits s).1).length≠0:=by
 apply Qi;unfold digits at h⊢;split at h
 ·rename_i hd;rw[if_pos hd];simp only[Bool.and_eq_true,decide_eq_true_eq]at h;intro e;exact h.2 (List.length_eq_zero_iff.1 e)
 ·simp at h
def jM(cD:Bool)(m:List Nat):Int:=if cD then -(an m:Int)else an m
theorem mB(s:aa):jM (digits s).2 (fE (digits s).1)=val s:=by
 unfold jM val;rw[(Jb _ (nE s)).2]
def fw(n:Int):Int:=if n<0 then -1 else if 0<n then 1 else 0
theorem B5{x:List Nat}(hc:bm x=x)(h0:x.length≠0):0<an x:=Nat.lt_of_lt_of_le (Nat.pow_pos dv) (KR hc h0)
structure nV(cD:Bool)(m:List Nat):Prop where
 ok:aR m
 cut:bm m=m
 Cc:cD=true→m.length≠0
theorem nn(s:aa):nV (digits s).2 (fE (digits s).1):=⟨(Jb _ (nE s)).1,aaA s,AL s⟩
theorem addN{a b:Nat}(h:a+b<18446744073709551616):IntKind.u64.wrap ((a:Int)+(b:Int))=((a+b:Nat):Int):=by
 rw[Dd zO zO];simp
theorem qO{a b:Nat}(hb:b≤a)(h:a<18446744073709551616):IntKind.u64.wrap ((a:Int)-(b:Int))=((a-b:Nat):Int):=by
 rw[Dd zO zO];omega
theorem vk{a:Nat}(h:a<18446744073709551616):IntKind.u64.wrap ((a:Int).tdiv 1000000000)=((a/gB:Nat):Int):=by
 have e:(a:Int).tdiv 1000000000=((a/gB:Nat):Int):=by
  rw[Int.tdiv_eq_ediv_of_nonneg zO];unfold gB;omega
 rw[e];have:a/gB≤a:=Nat.div_le_self _ _;generalize a/gB=q at this⊢;exact Dd zO zO
theorem tR(a:Nat):(a:Int).tmod 1000000000=((a%gB:Nat):Int):=by
 rw[Int.tmod_eq_emod_of_nonneg zO];unfold gB;omega
theorem fj(o:List Nat)(a:Nat)(r:List Nat):(bb (o++a::r))[o.length]?=some [.raw (.int .u64 (a:Int))]:=by simp[bb]
theorem gx{rows:List (List D)}{j:Nat}{r r':List D}(h:rows[j]?=some r):(rows.set j r')[j]?=some r':=by
 have:=(List.getElem?_eq_some_iff.1 h).1;simp[this]
theorem sF(o:List Nat)(a x:Nat)(r:List Nat):(bb (o++a::r)).set o.length [.raw (.int .u64 (x:Int))]=bb (o++x::r):=by
 simp[bb,List.set_append]
theorem s7{l:List Nat}{n:Int}{k b:Nat}{r:List Nat}(hd:l.drop k=b::r)(hn:n=(k:Int)):(bb l)[n.toNat]?=some [.raw (.int .u64 (b:Int))]:=by
 subst hn;have:l[k]?=some b:=by
  have:=congrArg (fun x=>x[0]?) hd;simpa using this
 simp[bb,this]
def k8(l:List Nat)(k:Nat):Nat:=l.getD k 0
theorem Cf{l:List Nat}{k:Nat}(h:k<l.length):l.drop k=k8 l k::l.drop (k+1):=by
 rw[List.drop_eq_getElem_cons h];simp[k8,h]
theorem Ll{l:List Nat}{k:Nat}(hm:aR l):k8 l k<gB:=by
 unfold k8;rcases Nat.lt_or_ge k l.length with h|h
 ·simp only[List.getD_eq_getElem?_getD,List.getElem?_eq_getElem h,Option.getD_some];exact hm _ (List.getElem_mem h)
 ·simp only[List.getD_eq_getElem?_getD,List.getElem?_eq_none h,Option.getD_none];exact dv
theorem MC{a:Nat}{rest y:List Nat}{k c:Nat}(h:k<y.length):fN (a::rest) (y.drop k) c=(if a<c+k8 y k then a+gB-(c+k8 y k)else a-(c+k8 y k))::fN rest (y.drop (k+1)) (if a<c+k8 y k then 1 else 0):=by rw[Cf h];rfl
theorem MB{a:Nat}{rest y:List Nat}{k c:Nat}(h:y.length≤k):fN (a::rest) (y.drop k) c=(if a<c then a+gB-c else a-c)::fN rest (y.drop (k+1)) (if a<c then 1 else 0):=by
 rw[List.drop_of_length_le h,List.drop_of_length_le zO];rfl
theorem Nb{a:Nat}{rest y:List Nat}{k c:Nat}(h:k<y.length):gY (a::rest) (y.drop k) c=(a+c+k8 y k)%gB::gY rest (y.drop (k+1)) ((a+c+k8 y k)/gB):=by rw[Cf h];rfl
theorem Na{a:Nat}{rest y:List Nat}{k c:Nat}(h:y.length≤k):gY (a::rest) (y.drop k) c=(a+c)%gB::gY rest (y.drop (k+1)) ((a+c)/gB):=by
 rw[List.drop_of_length_le h,List.drop_of_length_le zO];rfl
theorem U'{x y:List Nat}(h:x.length<y.length):mE x y=gY y x 0:=by unfold mE;rw[if_pos h]
theorem U_{x y:List Nat}(h:y.length≤x.length):mE x y=gY x y 0:=by unfold mE;rw[if_neg zO]
def ib(n1:Bool)(x:List Nat)(n2:Bool)(y:List Nat):Bool×List Nat:=
 if(n1==n2)=true then(n1,mE x y)else if iA x y<0 then(n2,bm (fN y x 0))else(n1,bm (fN x y 0))
theorem NZ{x y:List Nat}(h:iA x y<0):y.length≠0:=by
 intro e;unfold iA at h;split at h
 ·omega
 ·rw[HK zO]at h;omega
theorem Zx{x y:List Nat}(hx:x.length=0)(hy:y.length≠0):iA x y<0:=by
 unfold iA;rw[if_pos zO];omega
theorem Zw{n1 n2:Bool}{x y:List Nat}(h1:nV n1 x)(h2:nV n2 y)(hn:(n1==n2)=false)(h:¬iA x y<0):x.length≠0:=by
 intro e;cases n1 with
 |true=>exact h1.Cc rfl e
 |false=>
  cases n2 with
  |false=>simp at hn
  |true=>exact h (Zx e (h2.Cc rfl))
theorem Nd{n1 n2:Bool}{x y:List Nat}(h1:nV n1 x)(h2:nV n2 y):aR (ib n1 x n2 y).2:=by
 unfold ib;split
 ·exact Gc h1.ok h2.ok
 ·split
  ·exact x5 (xC _ _ _ h2.ok h1.ok zO)
  ·exact x5 (xC _ _ _ h1.ok h2.ok zO)
theorem Nc(n1 n2:Bool)(x y:List Nat):(ib n1 x n2 y).2.length≤x.length+y.length+1:=by
 unfold ib;split
 ·exact LR x y
 ·split
  ·have:=um (fN y x 0);rw[C2]at this;simp only;omega
  ·have:=um (fN x y 0);rw[C2]at this;simp only;omega
theorem Nf{n1 n2:Bool}{x y:List Nat}(h1:nV n1 x)(h2:nV n2 y):jM (ib n1 x n2 y).1 (ib n1 x n2 y).2=jM n1 x+jM n2 y:=by
 unfold ib;have hs:=DE h1.ok h2.ok h1.cut h2.cut;split
 ·rename_i h;have:n1=n2:=by simpa using h
  subst this;simp only[jM,LS];cases n1<;>simp<;>omega
 ·rename_i h;split
  ·rename_i hl;have:=hs.1.1 hl;simp only[jM];rw[DM,tX _ _ _ h2.ok h1.ok zO zO];cases n1<;>cases n2<;>simp at h⊢<;>omega
  ·rename_i hl;have:¬an x<an y:=fun e=>hl (hs.1.2 e);simp only[jM];rw[DM,tX _ _ _ h1.ok h2.ok zO zO];cases n1<;>cases n2<;>simp at h⊢<;>omega
def xZ(n1:Bool)(x:List Nat)(n2:Bool)(y:List Nat):Int:=
 max (-1) (min (if(n1 !=n2)=true then(if n1=true then -1 else 1)else if n1=true then 0-iA x y else iA x y) 1)
theorem DF{n1 n2:Bool}{x y:List Nat}(h1:nV n1 x)(h2:nV n2 y):xZ n1 x n2 y=fw (jM n1 x-jM n2 y):=by
 have hs:=DE h1.ok h2.ok h1.cut h2.cut;unfold xZ fw jM;cases n1<;>cases n2<;>simp only[bne_self_eq_false,Bool.false_bne,Bool.true_bne,Bool.not_false,Bool.not_true,if_true,if_false,Bool.false_eq_true]
 ·split
  ·rename_i h;have:=hs.1.2 zO;omega
  ·split
   ·have:=hs.2.2 zO;omega
   ·have a1:¬iA x y<0:=fun e=>by have:=hs.1.1 e;omega
    have a2:¬0<iA x y:=fun e=>by have:=hs.2.1 e;omega
    omega
 ·have:=B5 h2.cut (h2.Cc rfl);rw[if_neg zO,if_pos zO];rfl
 ·have:=B5 h1.cut (h1.Cc rfl);rw[if_pos zO];rfl
 ·split
  ·have:=hs.2.2 zO;omega
  ·split
   ·have:=hs.1.2 zO;omega
   ·have a1:¬iA x y<0:=fun e=>by have:=hs.1.1 e;omega
    have a2:¬0<iA x y:=fun e=>by have:=hs.2.1 e;omega
    omega
def fX(s:aa)(c:UInt8):aa×aa×Bool:=if 0≤Lib.indexByte s c then(s.take (Lib.indexByte s c).toNat,s.drop ((Lib.indexByte s c).toNat+1),true)else(s,[],false)
theorem E_(c:UInt8):∀s:aa,(0≤Lib.indexByte s c∧Lib.indexByte s c<s.length∧s=s.take (Lib.indexByte s c).toNat++c::s.drop ((Lib.indexByte s c).toNat+1)∧∀x∈s.take (Lib.indexByte s c).toNat,x≠c)∨(Lib.indexByte s c=-1∧∀x∈s,x≠c)
 |[]=>.inr ⟨rfl,by simp⟩
 |b::s=>by
  unfold Lib.indexByte;by_cases h:b=c
  ·subst h;left;simp
  ·have hb:(b==c)=false:=by simpa using h
   simp only[hb,Bool.false_eq_true,if_false];rcases E_ c s with⟨h1,h2,h3,h4⟩|⟨h1,h2⟩
   ·left;have aD:(Lib.indexByte s c==-1)=false:=by simp;omega
    simp only[aD,Bool.false_eq_true,if_false];have e:(Lib.indexByte s c+1).toNat=(Lib.indexByte s c).toNat+1:=by omega
    rw[e];refine⟨by omega,by simp;omega,?_,?_⟩
    ·simp only[List.take_succ_cons,List.cons_append,List.drop_succ_cons];rw[←h3]
    ·intro x hx;simp only[List.take_succ_cons,List.mem_cons]at hx;rcases hx with rfl|hx
     ·exact h
     ·exact h4 x hx
   ·right;simp only[h1,beq_self_eq_true,if_true,true_and];intro x hx;rcases List.mem_cons.1 hx with rfl|hx
    ·exact h
    ·exact h2 x hx
theorem gh(f:Nat→Bool)(m:SM):Ob.okB f (.mp (re m))=true:=by
 have h:∀l:List aa,D.okB.fg f (l.map .str)=true:=by
  intro l;induction l with
  |nil=>rfl
  |cons a l ih=>simp only[List.map_cons,D.okB.fg,D.okB,ih];rfl
 have e1:(re m).map (·.1)=(m.map (·.1)).map .str:=by simp[re]
 have e2:(re m).map (·.2)=(m.map (·.2)).map .str:=by simp[re]
 simp only[Ob.okB];rw[e1,e2,h,h];rfl
theorem WY(s:aa):-((10^s.length:Nat):Int)<val s∧val s<((10^s.length:Nat):Int):=by
 have h1:=pT _ (nE s);have h2:10^(digits s).1.length≤10^s.length:=Nat.pow_le_pow_right zO (kW s);unfold val;split<;>omega
theorem ais{n:Int}{k:Nat}(h1:-((10^k:Nat):Int)<n)(h2:n<((10^k:Nat):Int)):(ofInt n).length≤k+1:=by
 have:=zu k n.natAbs zO;unfold ofInt;split
 ·simp;omega
 ·omega
theorem X1(a b:aa):(qb a b).length≤a.length+b.length+2:=by
 have h1:=WY a;have h2:=WY b;have h3:10^a.length≤10^(a.length+b.length):=Nat.pow_le_pow_right zO zO;have h4:10^b.length≤10^(a.length+b.length):=Nat.pow_le_pow_right zO zO;have h5:10^(a.length+b.length+1)=10^(a.length+b.length)*10:=Nat.pow_succ ..;unfold qb;exact ais (k:=a.length+b.length+1) zO zO
def xF(n:Nat)(seen:List Nat):Nat:=((List.range n).filter fun j=>!seen.contains j).length
theorem GO{n j:Nat}{seen:List Nat}(hj:j<n)(hs:j∉seen):xF n (seen++[j])<xF n seen:=by
 unfold xF;have key:∀l:List Nat,((l.filter fun i=>!(seen++[j]).contains i).length≤(l.filter fun i=>!seen.contains i).length)∧(j∈l→(l.filter fun i=>!(seen++[j]).contains i).length<(l.filter fun i=>!seen.contains i).length):=by
  intro l;induction l with
  |nil=>simp
  |cons a l ih=>
   by_cases ha:a=j
   ·subst ha;simp[List.filter_cons,hs];have:=ih.1;simp at this;omega
   ·by_cases hb:a∈seen
    ·simp[List.filter_cons,hb,Ne.symm ha];simpa using ih
    ·simp[List.filter_cons,hb,ha,Ne.symm ha];simpa using ih
 exact(key _).2 (by simpa using hj)
theorem sN{α:Type}{l pre rest:List α}{x:α}{p:α→Bool}(hx:l=pre++x::rest)(hp:pre.any p=false)(h:p x=true):(pre.length:Int)=if l.any p=true then(l.findIdx p:Int)else -1:=by
 subst hx;have:(pre++x::rest).any p=true:=by simp[h]
 rw[if_pos this,List.findIdx_append];have hn:¬List.findIdx p pre<pre.length:=by
  rw[List.findIdx_lt_length];rintro⟨y,hy,hpy⟩;rw[List.any_eq_false]at hp;exact hp y hy hpy
 rw[if_neg hn];simp[List.findIdx_cons,h]
theorem sM{α:Type}{l pre:List α}{p:α→Bool}(hx:l=pre++[])(hp:pre.any p=false):-1=if l.any p=true then(l.findIdx p:Int)else -1:=by
 rw[hx,List.append_nil,hp];rfl
def jq{α:Type}(P:α→Bool)(l:List α):Int:=if l.any P=true then(l.findIdx P:Int)else -1
theorem ux{α:Type}(P:α→Bool)(l:List α):decide (0≤jq P l)=l.any P:=by
 unfold jq;cases h:l.any P<;>simp
def mb(code:aa):List bA→bA×Bool
 |[]=>(⟨[],0⟩,false)
 |c::r=>if c.code=code then(c,true)else mb code r
theorem IF{code:aa}{l pre rest:List bA}{x:bA}(hx:l=pre++x::rest)(hp:∀c∈pre,c.code≠code)(h:x.code=code):mb code l=(x,true):=by
 subst hx;induction pre with
 |nil=>simp[mb,h]
 |cons c pre ih=>rw[List.cons_append,mb,if_neg (hp c zS)];exact ih (fun d hd=>hp d (by simp[hd]))
theorem IE{code:aa}{l pre:List bA}(hx:l=pre++[])(hp:∀c∈pre,c.code≠code):mb code l=(⟨[],0⟩,false):=by
 subst hx;induction pre with
 |nil=>rfl
 |cons c pre ih=>rw[List.cons_append,mb,if_neg (hp c zS)];exact ih (fun d hd=>hp d (by simp[hd]))
theorem Ee(code:aa)(l:List bA):(mb code l).2=l.any (fun c=>decide (c.code=code)):=by
 induction l with
 |nil=>rfl
 |cons c l ih=>
  by_cases h:c.code=code<;>simp[mb,h,ih]
def l8(pre:List bA)(c:bA):Int:=if !fF c.code then 23 else if decide (c.places<0)||decide (12<c.places)then 2 else if pre.any (fun d=>decide (d.code=c.code))then 5 else 0
def lk(pre:List bA):List bA→Int
 |[]=>0
 |c::r=>if l8 pre c≠0 then l8 pre c else lk (pre++[c]) r
def l6(l:List bA):Int:=if 16<l.length then 4 else lk [] l
theorem N9{pre:List bA}{c:bA}(h:(!fF c.code)=true):l8 pre c=23:=by simp[l8,h]
theorem N_{pre:List bA}{c:bA}(h:(!fF c.code)=false)(h2:(decide (c.places<0)||decide (12<c.places))=true):l8 pre c=2:=by simp only[l8,h,h2];rfl
theorem ZW{pre:List bA}{c:bA}(h:(!fF c.code)=false)(h2:(decide (c.places<0)||decide (12<c.places))=false)(h3:(mb c.code pre).2=true):l8 pre c=5:=by rw[Ee]at h3;simp only[l8,h,h2,h3];rfl
theorem ZV{pre:List bA}{c:bA}(h:(!fF c.code)=false)(h2:(decide (c.places<0)||decide (12<c.places))=false)(h3:(mb c.code pre).2=false):l8 pre c=0:=by rw[Ee]at h3;simp only[l8,h,h2,h3];rfl
theorem xY{l pre rest:List bA}{x:bA}{n:Int}(h:l6 l=lk pre (x::rest))(he:l8 pre x=n)(hn:n≠0):n=l6 l:=by rw[h,lk,he,if_pos hn]
theorem NS{l pre rest:List bA}{x:bA}(h:lk [] l=lk pre (x::rest))(he:l8 pre x=0):lk [] l=lk (pre++[x]) rest:=by rw[h,lk,he,if_neg zS]
open Go.Proofs Go.Proofs.Tryz
set_option maxRecDepth 20000
structure OB(s:aa)where
 pre:List UInt8
 rest:List UInt8
 hx:(cQ s).1=pre++rest
 hp:pre.all bZ=true
structure OC(s:aa)where
 cur:aa
 hd:(cQ s).1.all bZ=true
 hx:eO cur=eO (cQ s).1
theorem sA(s:aa):Fc Tryz.prog 251 [.str s] (.bj [.str (digits s).1,.b (digits s).2]):=by
 refine Fc.mk' [2,3] func251 rfl ntmps251 rfl rfl rfl (fun t w=>results_tmp2 results251 t _ w) ?_;refine J.l4 0 rfl (fun hb=>?_);simp only[aG]at hb;refine J.seq (J.af [.p,.p] ?_);refine .ag rfl rfl<|.ag rfl rfl<|.nil ?_;refine J.seq (J.af [.p,.p] ?_);refine .mv rfl rfl<|.ag rfl rfl<|.nil ?_;refine J.seq (J.af [.p,.p,.p,.p,.p,.p,.p,.p,.p] ?_);refine .mv rfl rfl<|.P rfl (fV underlying9 rfl)<|.P rfl (gn rfl rfl)<|.mv rfl rfl<|.gT rfl (.inl rfl) rfl rfl rfl (fun hg=>pk (fun _=>aT rfl _))<|.gT rfl (.inl rfl) rfl rfl rfl (fun hg=>pk (fun _=>nr underlying9 (bh rfl hg) rfl (c:=s.headD 0) zD (EP rfl (by grind)) _))<|.gT rfl (.inl rfl) rfl rfl rfl (fun hg=>pk (fun _=>jQ (bh rfl hg) rfl _))<|.P rfl (gO rfl rfl)<|.ag rfl rfl<|.nil ?_;refine J.seq (J.seq (J.af [.p] ?_));refine .mv rfl rfl<|.nil ?_;refine J.cond rfl (fun h1=>?_) (fun h1=>?_)
 ·have bJ:=h1;try simp only[bs]at bJ
  refine J.af [.p,.p,.p] ?_;refine .mv rfl rfl<|.P rfl (r7 underlying9 rfl (l:=1) (r:=s.drop 1) (.inr ⟨_,_,rfl,rfl⟩) (.inl ⟨rfl,rfl⟩) zO zO (H2 _))<|.ag rfl rfl<|.nil ?_;refine J.seq (J.seq (J.af [.p] ?_));refine .ag rfl rfl<|.nil ?_;refine J.block ?_;refine J.loop (ι:=OB s) (fun sx=>[(4,.str (cQ s).1),(5,.b (cQ s).2),(6,.i sx.pre.length)]) (fun sx=>[]) (fun sx=>sx.rest.length) ⟨[],(cQ s).1,rfl,rfl⟩ ?_ ?_
  ·exact Le.mk rfl (.cons rfl (Sub.str (by grind[vu,tW])) rfl (.cons rfl (Sub.bool (by grind[vu,tW])) rfl (.s rfl rfl .nil))) .nil
  ·rintro⟨pre,rest,hx,hp⟩;show J _ _ _ _ [(4,.str (cQ s).1),(5,.b (cQ s).2),(6,.i pre.length)] [];have hl:=congrArg List.length hx;simp only[List.length_append]at hl;have yU:=GI s;rcases rest with _|⟨x,rest⟩
   ·skip;refine J.seq (J.seq (J.af [.p,.p,.p,.p] ?_));refine .mv rfl rfl<|.mv rfl rfl<|.P rfl (fV underlying9 rfl)<|.P rfl (bQ rfl rfl)<|.nil ?_;refine J.eF rfl (by simp at hl⊢;omega) ?_;refine J.exit (dO (dG ?_));refine J.seq ?_;refine J.block ?_;refine J.loop (ι:=OC s) (fun sx=>[(4,.str sx.cur),(5,.b (cQ s).2)]) (fun sx=>[]) (fun sx=>sx.cur.length) ⟨(cQ s).1,by rw[hx];simpa using hp,rfl⟩ ?_ ?_
    ·exact Le.mk rfl (.s rfl rfl (.s rfl rfl .nil)) .nil
    ·rintro⟨cur,hd,hx⟩;show J _ _ _ _ [(4,.str cur),(5,.b (cQ s).2)] [];refine J.seq (J.seq (J.af [.p,.p,.p,.p,.p,.p,.p,.p] ?_));refine .mv rfl rfl<|.P rfl (fV underlying9 rfl)<|.P rfl (gn rfl rfl)<|.mv rfl rfl<|.gT rfl (.inl rfl) rfl rfl rfl (fun hg=>pk (fun _=>aT rfl _))<|.gT rfl (.inl rfl) rfl rfl rfl (fun hg=>pk (fun _=>nr underlying9 (bh rfl hg) rfl (c:=cur.headD 0) zD (EP rfl (by grind)) _))<|.gT rfl (.inl rfl) rfl rfl rfl (fun hg=>pk (fun _=>jQ (bh rfl hg) rfl _))<|.P rfl (gO rfl rfl)<|.nil ?_;refine J.cond rfl (fun h2=>?_) (fun h2=>?_)
     ·have de:=h2;try simp only[bs]at de
      refine J.skip ?_;refine J.block ?_;refine J.af [.p,.p,.p] ?_;refine .mv rfl rfl<|.P rfl (r7 underlying9 rfl (l:=1) (r:=cur.drop 1) (.inr ⟨_,_,rfl,rfl⟩) (.inl ⟨rfl,rfl⟩) zO zO (H2 _))<|.ag rfl rfl<|.nil ?_;refine J.nil (cn ?_);refine J.nil (cZ ?_);exact⟨⟨cur.drop 1,hd,by rw[←hx];exact(AN zO zO).symm⟩,by simp;omega,Le.mk rfl (.s rfl rfl (.s rfl rfl .nil)) .nil⟩
     ·have de:=h2;try simp only[bs]at de
      refine J.exit (dO (dG ?_));refine J.seq (J.af [.p,.p,.p,.p,.p,.p,.p,.p,.p] ?_);refine .mv rfl rfl<|.mv rfl rfl<|.mv rfl rfl<|.gT rfl (.inl rfl) rfl rfl rfl (fun hg=>pk (fun _=>aT rfl _))<|.gT rfl (.inl rfl) rfl rfl rfl (fun hg=>pk (fun _=>fV underlying9 (bh rfl hg) _))<|.gT rfl (.inl rfl) rfl rfl rfl (fun hg=>pk (fun _=>gn (bh rfl hg) rfl _))<|.P rfl (gO rfl rfl)<|.ag rfl rfl<|.ag rfl rfl<|.nil ?_;refine J.ret (?_);exact r9 rfl rfl (Sub.str (by exact OD hd hx zO)) (Sub.bool (by exact OE hd hx zO))
   ·simp only[List.length_cons]at hl;refine J.seq (J.seq (J.af [.p,.p,.p,.p] ?_));refine .mv rfl rfl<|.mv rfl rfl<|.P rfl (fV underlying9 rfl)<|.P rfl (bQ rfl rfl)<|.nil ?_;refine J.gu rfl zQ ?_;refine J.skip ?_;refine J.seq ?_;refine J.block ?_;refine J.seq (J.af [.p,.p,.p,.p,.p,.p,.p,.p,.p,.p] ?_);refine .mv rfl rfl<|.mv rfl rfl<|.P rfl (nr underlying9 rfl rfl zO (mu hx rfl))<|.P rfl (bQ rfl rfl)<|.mv rfl rfl<|.gF rfl (.inl rfl) rfl rfl rfl (fun hg=>pk (fun _=>aT rfl _))<|.gF rfl (.inl rfl) rfl rfl rfl (fun hg=>pk (fun _=>aT rfl _))<|.gF rfl (.inl rfl) rfl rfl rfl (fun hg=>pk (fun _=>nr underlying9 (bh rfl (nt hg)) (bh rfl (nt hg)) zO (mu hx rfl) _))<|.gF rfl (.inl rfl) rfl rfl rfl (fun hg=>pk (fun _=>gn (bh rfl (nt hg)) rfl _))<|.P rfl (nw rfl rfl)<|.nil ?_;refine J.cond rfl (fun h3=>?_) (fun h3=>?_)
    ·have fI:=h3;try simp only[bs]at fI
     refine J.seq (J.af [.p,.p] ?_);refine .ag rfl rfl<|.ag rfl rfl<|.nil ?_;refine J.ret (jU (sc (jU (?_))));exact r9 rfl rfl (Sub.str (by(rw[DQ hx zO]))) (Sub.bool (by(rw[DQ hx zO])))
    ·refine J.skip ?_;refine J.nil (cn ?_);refine J.af [.p,.p,.p] ?_;refine .mv rfl rfl<|.P rfl (bU rfl rfl (aw zO))<|.ag rfl rfl<|.nil ?_;refine J.nil (cZ ?_);exact⟨⟨pre++[x],rest,by simp[hx],by grind[bZ]⟩,by simp,Le.mk rfl (.cons rfl (Sub.str (by grind[vu,tW])) rfl (.cons rfl (Sub.bool (by grind[vu,tW])) rfl (.cons rfl (Sub.int zS) rfl .nil))) .nil⟩
 ·refine J.skip ?_;refine J.seq (J.seq (J.af [.p] ?_));refine .ag rfl rfl<|.nil ?_;refine J.block ?_;refine J.loop (ι:=OB s) (fun sx=>[(4,.str (cQ s).1),(5,.b (cQ s).2),(6,.i sx.pre.length)]) (fun sx=>[]) (fun sx=>sx.rest.length) ⟨[],(cQ s).1,rfl,rfl⟩ ?_ ?_
  ·exact Le.mk rfl (.cons rfl (Sub.str (by grind[vu,tW])) rfl (.cons rfl (Sub.bool (by grind[vu,tW])) rfl (.s rfl rfl .nil))) .nil
  ·rintro⟨pre,rest,hx,hp⟩;show J _ _ _ _ [(4,.str (cQ s).1),(5,.b (cQ s).2),(6,.i pre.length)] [];have hl:=congrArg List.length hx;simp only[List.length_append]at hl;have yU:=GI s;rcases rest with _|⟨x,rest⟩
   ·skip;refine J.seq (J.seq (J.af [.p,.p,.p,.p] ?_));refine .mv rfl rfl<|.mv rfl rfl<|.P rfl (fV underlying9 rfl)<|.P rfl (bQ rfl rfl)<|.nil ?_;refine J.eF rfl (by simp at hl⊢;omega) ?_;refine J.exit (dO (dG ?_));refine J.seq ?_;refine J.block ?_;refine J.loop (ι:=OC s) (fun sx=>[(4,.str sx.cur),(5,.b (cQ s).2)]) (fun sx=>[]) (fun sx=>sx.cur.length) ⟨(cQ s).1,by rw[hx];simpa using hp,rfl⟩ ?_ ?_
    ·exact Le.mk rfl (.s rfl rfl (.s rfl rfl .nil)) .nil
    ·rintro⟨cur,hd,hx⟩;show J _ _ _ _ [(4,.str cur),(5,.b (cQ s).2)] [];refine J.seq (J.seq (J.af [.p,.p,.p,.p,.p,.p,.p,.p] ?_));refine .mv rfl rfl<|.P rfl (fV underlying9 rfl)<|.P rfl (gn rfl rfl)<|.mv rfl rfl<|.gT rfl (.inl rfl) rfl rfl rfl (fun hg=>pk (fun _=>aT rfl _))<|.gT rfl (.inl rfl) rfl rfl rfl (fun hg=>pk (fun _=>nr underlying9 (bh rfl hg) rfl (c:=cur.headD 0) zD (EP rfl (by grind)) _))<|.gT rfl (.inl rfl) rfl rfl rfl (fun hg=>pk (fun _=>jQ (bh rfl hg) rfl _))<|.P rfl (gO rfl rfl)<|.nil ?_;refine J.cond rfl (fun h4=>?_) (fun h4=>?_)
     ·have fU:=h4;try simp only[bs]at fU
      refine J.skip ?_;refine J.block ?_;refine J.af [.p,.p,.p] ?_;refine .mv rfl rfl<|.P rfl (r7 underlying9 rfl (l:=1) (r:=cur.drop 1) (.inr ⟨_,_,rfl,rfl⟩) (.inl ⟨rfl,rfl⟩) zO zO (H2 _))<|.ag rfl rfl<|.nil ?_;refine J.nil (cn ?_);refine J.nil (cZ ?_);exact⟨⟨cur.drop 1,hd,by rw[←hx];exact(AN zO zO).symm⟩,by simp;omega,Le.mk rfl (.s rfl rfl (.s rfl rfl .nil)) .nil⟩
     ·have fU:=h4;try simp only[bs]at fU
      refine J.exit (dO (dG ?_));refine J.seq (J.af [.p,.p,.p,.p,.p,.p,.p,.p,.p] ?_);refine .mv rfl rfl<|.mv rfl rfl<|.mv rfl rfl<|.gT rfl (.inl rfl) rfl rfl rfl (fun hg=>pk (fun _=>aT rfl _))<|.gT rfl (.inl rfl) rfl rfl rfl (fun hg=>pk (fun _=>fV underlying9 (bh rfl hg) _))<|.gT rfl (.inl rfl) rfl rfl rfl (fun hg=>pk (fun _=>gn (bh rfl hg) rfl _))<|.P rfl (gO rfl rfl)<|.ag rfl rfl<|.ag rfl rfl<|.nil ?_;refine J.ret (?_);exact r9 rfl rfl (Sub.str (by exact OD hd hx zO)) (Sub.bool (by exact OE hd hx zO))
   ·simp only[List.length_cons]at hl;refine J.seq (J.seq (J.af [.p,.p,.p,.p] ?_));refine .mv rfl rfl<|.mv rfl rfl<|.P rfl (fV underlying9 rfl)<|.P rfl (bQ rfl rfl)<|.nil ?_;refine J.gu rfl zQ ?_;refine J.skip ?_;refine J.seq ?_;refine J.block ?_;refine J.seq (J.af [.p,.p,.p,.p,.p,.p,.p,.p,.p,.p] ?_);refine .mv rfl rfl<|.mv rfl rfl<|.P rfl (nr underlying9 rfl rfl zO (mu hx rfl))<|.P rfl (bQ rfl rfl)<|.mv rfl rfl<|.gF rfl (.inl rfl) rfl rfl rfl (fun hg=>pk (fun _=>aT rfl _))<|.gF rfl (.inl rfl) rfl rfl rfl (fun hg=>pk (fun _=>aT rfl _))<|.gF rfl (.inl rfl) rfl rfl rfl (fun hg=>pk (fun _=>nr underlying9 (bh rfl (nt hg)) (bh rfl (nt hg)) zO (mu hx rfl) _))<|.gF rfl (.inl rfl) rfl rfl rfl (fun hg=>pk (fun _=>gn (bh rfl (nt hg)) rfl _))<|.P rfl (nw rfl rfl)<|.nil ?_;refine J.cond rfl (fun h5=>?_) (fun h5=>?_)
    ·have lJ:=h5;try simp only[bs]at lJ
     refine J.seq (J.af [.p,.p] ?_);refine .ag rfl rfl<|.ag rfl rfl<|.nil ?_;refine J.ret (jU (sc (jU (?_))));exact r9 rfl rfl (Sub.str (by(rw[DQ hx zO]))) (Sub.bool (by(rw[DQ hx zO])))
    ·refine J.skip ?_;refine J.nil (cn ?_);refine J.af [.p,.p,.p] ?_;refine .mv rfl rfl<|.P rfl (bU rfl rfl (aw zO))<|.ag rfl rfl<|.nil ?_;refine J.nil (cZ ?_);exact⟨⟨pre++[x],rest,by simp[hx],by grind[bZ]⟩,by simp,Le.mk rfl (.cons rfl (Sub.str (by grind[vu,tW])) rfl (.cons rfl (Sub.bool (by grind[vu,tW])) rfl (.cons rfl (Sub.int zS) rfl .nil))) .nil⟩
theorem HF(s:aa):Fc Tryz.prog 250 [.str s] (.str (canon s)):=by
 refine Fc.mk' [2] func250 rfl ntmps250 rfl rfl rfl (fun t w=>results_tmp results250 t _ w) ?_;refine J.l4 0 rfl (fun hb=>?_);simp only[aG]at hb;have pC:=kW s;refine go [] ?_;refine oP (ai call251 rfl (sA _)) ?_;refine br (fun h1=>?_) (fun h1=>?_)
 ·refine sd (by have:=aaB s zA;simp[aG];omega) ?_;exact ah rfl (Sub.str (by grind[canon]))
 ·exact ah rfl (Sub.str (by grind[canon]))
theorem Za(s:aa):Fc Tryz.prog 193 [.str s] (.i (vU s)):=by
 refine Fc.mk' [2] func193 rfl ntmps193 rfl rfl rfl (fun t w=>results_tmp results193 t _ w) ?_;refine go [] ?_;refine oP (ai call250 rfl (HF _)) ?_;refine br (fun h1=>?_) (fun h1=>?_)
 ·exact ah rfl (Sub.int (by grind[vU]))
 ·exact ah rfl (Sub.int (by grind[vU]))
theorem Ub(s:aa)(hs:s.length≤1000):Fc Tryz.prog 254 [.str s] (.str (ni s)):=by
 refine Fc.mk' [2] func254 rfl ntmps254 rfl rfl rfl (fun t w=>results_tmp results254 t _ w) ?_;refine J.l4 0 rfl (fun hb=>?_);simp only[aG]at hb;have pC:=kW s;refine go [] ?_;refine oP (ai call251 rfl (sA _)) ?_;refine br (fun h1=>?_) (fun h1=>?_)
 ·exact ah rfl (Sub.str (by grind[ni]))
 ·refine sd (by simp[aG];omega) ?_;exact ah rfl (Sub.str (by grind[ni]))
theorem x1(a b:aa):Fc Tryz.prog 195 [.str a,.str b] (.i (fT a b)):=by
 refine Fc.mk' [4] func195 rfl ntmps195 rfl rfl rfl (fun t w=>results_tmp results195 t _ w) ?_;refine go [] ?_;refine oP (ai call251 rfl (sA _)) ?_;refine oP (ai call251 rfl (sA _)) ?_;refine br (fun h1=>?_) (fun h1=>?_)
 ·refine br (fun h2=>?_) (fun h2=>?_)
  ·exact ah rfl (Sub.int (by grind[fT]))
  ·exact ah rfl (Sub.int (by grind[fT]))
 ·refine br (fun h3=>?_) (fun h3=>?_)
  ·refine br (fun h4=>?_) (fun h4=>?_)
   ·refine br (fun h5=>?_) (fun h5=>?_)
    ·refine sd (aw zO) ?_;exact ah rfl (Sub.int (by grind[fT]))
    ·exact ah rfl (Sub.int (by grind[fT]))
   ·refine br (fun h6=>?_) (fun h6=>?_)
    ·refine sd (aw zO) ?_;exact ah rfl (Sub.int (by grind[fT]))
    ·refine br (fun h7=>?_) (fun h7=>?_)
     ·exact ah rfl (Sub.int (by grind[fT]))
     ·exact ah rfl (Sub.int (by grind[fT]))
  ·refine br (fun h8=>?_) (fun h8=>?_)
   ·refine br (fun h9=>?_) (fun h9=>?_)
    ·refine sd (aw zO) ?_;exact ah rfl (Sub.int (by grind[fT]))
    ·exact ah rfl (Sub.int (by grind[fT]))
   ·refine br (fun ct=>?_) (fun ct=>?_)
    ·refine sd (aw zO) ?_;exact ah rfl (Sub.int (by grind[fT]))
    ·refine br (fun cI=>?_) (fun cI=>?_)
     ·exact ah rfl (Sub.int (by grind[fT]))
     ·exact ah rfl (Sub.int (by grind[fT]))
structure ale(s:aa)(hs:(digits s).1.length≤17)where
 pre:List UInt8
 rest:List UInt8
 hx:(digits s).1=pre++rest
theorem Mr(s:aa)(hs:(digits s).1.length≤17):Fc Tryz.prog 255 [.str s] (.bj [.i (val s),.b true]):=by
 refine Fc.mk' [2,3] func255 rfl ntmps255 rfl rfl rfl (fun t w=>results_tmp2 results255 t _ w) ?_;refine J.l4 0 rfl (fun hb=>?_);simp only[aG]at hb;have EN:=nE s;refine J.seq (J.af [.p,.p] ?_);refine .ag rfl rfl<|.ag rfl rfl<|.nil ?_;refine J.seq (J.af [.p,.p,.p,.p,.p,.p,.p] ?_);refine .mv rfl rfl<|.P rfl (ai call251 rfl (sA _))<|.mv rfl rfl<|.P rfl (eC rfl rfl)<|.P rfl (eC rfl rfl)<|.ag rfl rfl<|.ag rfl rfl<|.nil ?_;refine J.seq (J.seq (J.af [.p,.p,.p] ?_));refine .mv rfl rfl<|.P rfl (fV underlying9 rfl)<|.P rfl (gn rfl rfl)<|.nil ?_;refine J.cond rfl (fun h1=>?_) (fun h1=>?_)
 ·have bJ:=h1;try simp only[bs]at bJ
  refine J.seq (J.af [.p,.p] ?_);refine .ag rfl rfl<|.ag rfl rfl<|.nil ?_;refine J.ret (?_);exact r9 rfl rfl (Sub.int zO) (Sub.bool (by grind))
 ·refine J.skip ?_;refine J.seq (J.af [.p] ?_);refine .ag rfl rfl<|.nil ?_;refine J.seq (J.seq (J.af [.p] ?_));refine .ag rfl rfl<|.nil ?_;refine J.block ?_;refine J.loop (ι:=ale s hs) (fun sx=>[(4,.str (digits s).1),(5,.b (digits s).2),(6,.i (natVal sx.pre)),(7,.i sx.pre.length)]) (fun sx=>[]) (fun sx=>sx.rest.length) ⟨[],(digits s).1,rfl⟩ ?_ ?_
  ·exact Le.mk rfl (.s rfl rfl (.s rfl rfl (.s rfl rfl (.s rfl rfl .nil)))) .nil
  ·rintro⟨pre,rest,hx⟩;show J _ _ _ _ [(4,.str (digits s).1),(5,.b (digits s).2),(6,.i (natVal pre)),(7,.i pre.length)] [];have hl:=congrArg List.length hx;simp only[List.length_append]at hl;rw[hx,List.all_append,Bool.and_eq_true]at EN;have hv:=Lh EN.1 zO;rcases rest with _|⟨x,rest⟩
   ·skip;refine J.seq (J.seq (J.af [.p,.p,.p,.p] ?_));refine .mv rfl rfl<|.mv rfl rfl<|.P rfl (fV underlying9 rfl)<|.P rfl (bQ rfl rfl)<|.nil ?_;refine J.eF rfl (by simp at hl⊢;omega) ?_;refine J.exit (dO (dG ?_));refine J.seq (J.seq (J.af [.p] ?_));refine .mv rfl rfl<|.nil ?_;refine J.cond rfl (fun h2=>?_) (fun h2=>?_)
    ·refine J.af [.p,.p,.p] ?_;refine .mv rfl rfl<|.P rfl (Gk rfl (aw zO))<|.ag rfl rfl<|.nil ?_;refine J.seq (J.af [.p,.p,.p] ?_);refine .mv rfl rfl<|.ag rfl rfl<|.ag rfl rfl<|.nil ?_;refine J.ret (?_);exact r9 rfl rfl (Sub.int (by simp only[val,List.append_nil]at*;simp[*])) (Sub.bool (by grind))
    ·refine J.skip ?_;refine J.seq (J.af [.p,.p,.p] ?_);refine .mv rfl rfl<|.ag rfl rfl<|.ag rfl rfl<|.nil ?_;refine J.ret (?_);exact r9 rfl rfl (Sub.int (by simp only[val,List.append_nil]at*;simp[*])) (Sub.bool (by grind))
   ·simp only[List.length_cons]at hl;have hq:=EN.2;simp only[List.all_cons,Bool.and_eq_true,bZ,decide_eq_true_eq]at hq;have arn:=pT pre EN.1;have ari:10^pre.length≤10^16:=Nat.pow_le_pow_right zO zO;refine J.seq (J.seq (J.af [.p,.p,.p,.p] ?_));refine .mv rfl rfl<|.mv rfl rfl<|.P rfl (fV underlying9 rfl)<|.P rfl (bQ rfl rfl)<|.nil ?_;refine J.gu rfl zQ ?_;refine J.skip ?_;refine J.seq ?_;refine J.block ?_;refine J.af [.p,.p,.p,.p,.p,.p,.p,.p,.p] ?_;refine .mv rfl rfl<|.P rfl (tO rfl rfl (aw zO))<|.mv rfl rfl<|.mv rfl rfl<|.P rfl (nr underlying9 rfl rfl zO (mu hx rfl))<|.P rfl (dw rfl rfl (Xp zO zO))<|.P rfl (Gi underlying5 underlying3 rfl (aw zO))<|.P rfl (bU rfl rfl (aw zO))<|.ag rfl rfl<|.nil ?_;refine J.nil (cn ?_);refine J.af [.p,.p,.p] ?_;refine .mv rfl rfl<|.P rfl (bU rfl rfl (aw zO))<|.ag rfl rfl<|.nil ?_;refine J.nil (cZ ?_);exact⟨⟨pre++[x],rest,by simp[hx]⟩,by simp,Le.mk rfl (.s rfl rfl (.s rfl rfl (.cons rfl (Sub.int (by rw[tj];omega)) rfl (.cons rfl (Sub.int zS) rfl .nil)))) .nil⟩
structure aiq(n:Int)(hn:-1000000000000000000<n∧n<1000000000000000000)where
 cur:Int
 acc:aa
 hx:gd n.natAbs=gd cur.natAbs++acc
 hc:-1000000000000000000<cur∧cur<1000000000000000000
theorem xb(n:Int)(hn:-1000000000000000000<n∧n<1000000000000000000):Fc Tryz.prog 199 [.i n] (.str (ofInt n)):=by
 refine Fc.mk' [2] func199 rfl ntmps199 rfl rfl rfl (fun t w=>results_tmp results199 t _ w) ?_;have pC:=zu 18 n.natAbs zO;refine J.seq (J.af [.p] ?_);refine .ag rfl rfl<|.nil ?_;refine J.seq (J.seq (J.af [.p,.p] ?_));refine .mv rfl rfl<|.P rfl (jQ rfl rfl)<|.nil ?_;refine J.cond rfl (fun h1=>?_) (fun h1=>?_)
 ·have bJ:=h1;try simp only[bs]at bJ
  refine J.seq (J.af [.p] ?_);refine .ag rfl rfl<|.nil ?_;refine J.ret (?_);exact dn rfl (Sub.str (by simp[ofInt,jL, *]))
 ·refine J.skip ?_;refine J.seq (J.af [.p] ?_);refine .ag rfl rfl<|.nil ?_;refine J.seq (J.seq (J.af [.p,.p] ?_));refine .mv rfl rfl<|.ag rfl rfl<|.nil ?_;refine J.block ?_;refine J.loop (ι:=aiq n hn) (fun sx=>[(0,.i n),(3,.str sx.acc),(4,.i sx.cur)]) (fun sx=>[]) (fun sx=>sx.cur.natAbs) ⟨n,[],by simp,hn⟩ ?_ ?_
  ·exact Le.mk rfl (.s rfl rfl (.s rfl rfl (.s rfl rfl .nil))) .nil
  ·rintro⟨cur,acc,hx,hc⟩;show J _ _ _ _ [(0,.i n),(3,.str acc),(4,.i cur)] [];have ha:=am7 cur;have hd:=alZ cur;refine J.seq (J.seq (J.af [.p,.p] ?_));refine .mv rfl rfl<|.P rfl (z6 rfl rfl)<|.nil ?_;refine J.cond rfl (fun h2=>?_) (fun h2=>?_)
   ·have de:=h2;try simp only[bs]at de
    refine J.skip ?_;refine J.seq ?_;refine J.block ?_;refine J.seq (J.af [.p,.p,.p] ?_);refine .mv rfl rfl<|.P rfl (oS rfl rfl zD rfl)<|.ag rfl rfl<|.nil ?_;refine J.seq (J.seq (J.af [.p,.p] ?_));refine .mv rfl rfl<|.P rfl (bQ rfl rfl)<|.nil ?_;refine J.cond rfl (fun h3=>?_) (fun h3=>?_)
    ·have fI:=h3;try simp only[bs]at fI
     refine J.af [.p,.p,.p] ?_;refine .mv rfl rfl<|.P rfl (Gk rfl (aw zO))<|.ag rfl rfl<|.nil ?_;refine J.af [.p,.p,.p,.p,.p,.p,.p] ?_;refine .mv rfl rfl<|.P rfl (bU rfl rfl (aw zO))<|.P rfl (Gi underlying3 underlying21 rfl (MR zO zO))<|.P rfl (L6 underlying21 underlying9 rfl (c:=UInt8.ofNat (48+cur.natAbs%10)) zO zO (by congr 1;omega))<|.mv rfl rfl<|.P rfl (zW rfl rfl (by simp only[aG];have:=congrArg List.length hx;simp at this⊢;omega) rfl)<|.ag rfl rfl<|.nil ?_;refine J.nil (cn ?_);refine J.af [.p,.p,.p] ?_;refine .mv rfl rfl<|.P rfl (lO rfl rfl zD (aw zO))<|.ag rfl rfl<|.nil ?_;refine J.nil (cZ ?_);exact⟨⟨cur.tdiv 10,UInt8.ofNat (48+cur.natAbs%10)::acc,by rw[hx,T6 zA];simp,by omega⟩,by(try dsimp only);omega,Le.mk rfl (.s rfl rfl (.s rfl rfl (.s rfl rfl .nil))) .nil⟩
    ·have fI:=h3;try simp only[bs]at fI
     refine J.skip ?_;refine J.af [.p,.p,.p,.p,.p,.p,.p] ?_;refine .mv rfl rfl<|.P rfl (bU rfl rfl (aw zO))<|.P rfl (Gi underlying3 underlying21 rfl (MR zO zO))<|.P rfl (L6 underlying21 underlying9 rfl (c:=UInt8.ofNat (48+cur.natAbs%10)) zO zO (by congr 1;omega))<|.mv rfl rfl<|.P rfl (zW rfl rfl (by simp only[aG];have:=congrArg List.length hx;simp at this⊢;omega) rfl)<|.ag rfl rfl<|.nil ?_;refine J.nil (cn ?_);refine J.af [.p,.p,.p] ?_;refine .mv rfl rfl<|.P rfl (lO rfl rfl zD (aw zO))<|.ag rfl rfl<|.nil ?_;refine J.nil (cZ ?_);exact⟨⟨cur.tdiv 10,UInt8.ofNat (48+cur.natAbs%10)::acc,by rw[hx,T6 zA];simp,by omega⟩,by(try dsimp only);omega,Le.mk rfl (.s rfl rfl (.s rfl rfl (.s rfl rfl .nil))) .nil⟩
   ·have de:=h2;try simp only[bs]at de
    refine J.exit (dO (dG ?_));refine J.seq (J.seq (J.af [.p,.p] ?_));refine .mv rfl rfl<|.P rfl (bQ rfl rfl)<|.nil ?_;refine J.cond rfl (fun h4=>?_) (fun h4=>?_)
    ·have fU:=h4;try simp only[bs]at fU
     refine J.af [.p,.p,.p] ?_;refine .mv rfl rfl<|.P rfl (zW rfl rfl (by simp only[aG];have:=congrArg List.length hx;simp at this⊢;omega) rfl)<|.ag rfl rfl<|.nil ?_;refine J.seq (J.af [.p,.p] ?_);refine .mv rfl rfl<|.ag rfl rfl<|.nil ?_;refine J.ret (?_);exact dn rfl (Sub.str (by simp[ofInt,jL, *]))
    ·have fU:=h4;try simp only[bs]at fU
     refine J.skip ?_;refine J.seq (J.af [.p,.p] ?_);refine .mv rfl rfl<|.ag rfl rfl<|.nil ?_;refine J.ret (?_);exact dn rfl (Sub.str (by simp[ofInt,jL, *]))
theorem XY(a b:aa)(ha:(digits a).1.length≤17)(hb:(digits b).1.length≤17):Fc Tryz.prog 201 [.str a,.str b] (.str (qb a b)):=by
 refine Fc.mk' [4] func201 rfl ntmps201 rfl rfl rfl (fun t w=>results_tmp results201 t _ w) ?_;have Kh:=WZ ha;have Ry:=WZ hb;refine J.seq (J.af [.p] ?_);refine .ag rfl rfl<|.nil ?_;refine J.seq (J.af [.p,.p,.p,.p,.p,.p,.p] ?_);refine .mv rfl rfl<|.P rfl (ai call255 rfl (Mr _ zA))<|.mv rfl rfl<|.P rfl (eC rfl rfl)<|.P rfl (eC rfl rfl)<|.ag rfl rfl<|.ag rfl rfl<|.nil ?_;refine J.seq (J.af [.p,.p,.p,.p,.p,.p,.p] ?_);refine .mv rfl rfl<|.P rfl (ai call255 rfl (Mr _ zA))<|.mv rfl rfl<|.P rfl (eC rfl rfl)<|.P rfl (eC rfl rfl)<|.ag rfl rfl<|.ag rfl rfl<|.nil ?_;refine J.seq (J.seq (J.af [.p,.p,.p,.p] ?_));refine .mv rfl rfl<|.mv rfl rfl<|.p rfl (eB rfl rfl rfl rfl) (fun _=>aT rfl _)<|.P rfl (tP rfl rfl rfl)<|.nil ?_;refine J.gu rfl rfl ?_;refine J.seq (J.af [.p,.p,.p,.p,.p] ?_);refine .mv rfl rfl<|.mv rfl rfl<|.P rfl (bU rfl rfl (aw zO))<|.P rfl (ai call199 rfl (xb _ zO))<|.ag rfl rfl<|.nil ?_;refine J.ret (?_);exact dn rfl (Sub.refl _)
variable[bX]
structure afG(s:aa)where
 pre:List UInt8
 rest:List UInt8
 hx:s=pre++rest
 hp:pre.all (fun c=>65≤c.toNat&&c.toNat≤90)=true
theorem afF(s:aa):Fc Tryz.prog 169 [.str s] (.b (fF s)):=by
 refine Fc.mk' [2] func169 rfl ntmps169 rfl rfl rfl (fun t w=>results_tmp results169 t _ w) ?_;refine J.l4 0 rfl (fun hb=>?_);simp only[aG]at hb;refine go [] ?_;refine J.loop (ι:=afG s) (fun sx=>[(0,.str s),(5,.i s.length),(6,.i sx.pre.length)]) (fun sx=>[]) (fun sx=>sx.rest.length) ⟨[],s,rfl,rfl⟩ ?_ ?_
 ·exact Le.mk rfl (.s rfl rfl (.s rfl rfl (.s rfl rfl .nil))) .nil
 ·rintro⟨pre,rest,hx,hp⟩;show J _ _ _ _ [(0,.str s),(5,.i s.length),(6,.i pre.length)] [];have hl:=congrArg List.length hx;simp only[List.length_append]at hl;rcases rest with _|⟨x,rest⟩
  ·skip;refine go [] ?_;refine a_ (by simp at hl⊢;omega) ?_;refine go [] ?_;exact ah rfl (Sub.bool (by grind[fF]))
  ·simp only[List.length_cons]at hl;refine go [] ?_;refine bk zQ ?_;refine Fe zO (mu hx rfl) ?_;refine Ff (fun hg=>And.intro zO (mu hx rfl)) ?_;refine br (fun h1=>?_) (fun h1=>?_)
   ·exact ah rfl (Sub.bool (by grind[fF]))
   ·refine sd (aw zO) ?_;exact nx ⟨pre++[x],rest,by simp[hx],by grind⟩ zS (Le.mk rfl (.s rfl rfl (.s rfl rfl (.cons rfl (Sub.int zS) rfl .nil))) .nil)
theorem R3(s:aa):Fc Tryz.prog 188 [.str s] (.b false):=by
 refine Fc.mk' [2] func188 rfl ntmps188 rfl rfl rfl (fun t w=>results_tmp results188 t _ w) ?_;refine go [] ?_;exact ah rfl (Sub.bool zS)
theorem Zy(a b:aa):Fc Tryz.prog 132 [.str a,.str b] (.i (sq a b)):=by
 refine Fc.mk' [4] func132 rfl ntmps132 rfl rfl rfl (fun t w=>results_tmp results132 t _ w) ?_;refine go [] ?_;refine oP (ai call188 rfl (R3 _)) ?_;refine oP (ai call188 rfl (R3 _)) ?_;refine a_ rfl ?_;refine a_ rfl ?_;refine br (fun h1=>?_) (fun h1=>?_)
 ·exact ah rfl (Sub.int (by grind[sq]))
 ·refine br (fun h2=>?_) (fun h2=>?_)
  ·exact ah rfl (Sub.int (by grind[sq]))
  ·exact ah rfl (Sub.int (by grind[sq]))
end Go.T
namespace Go.T
open Go Go.Proofs Go.Proofs.Tryz
set_option maxRecDepth 20000
theorem Hw(s t:aa)(hl:s.length+t.length≤140737488355328):dF Tryz.prog 286 [.box 7000 0,.str t] [(7000,.eE 7001 s.length),(7001,.ba s)] (.bj [.i t.length,.raw .nilIface]) [(7000,.eE 7002 (s++t).length),(7002,.ba (s++t)),(7001,.dead)]:=by
 refine dF.mk' [4,5] func286 rfl ntmps286 rfl rfl rfl (fun t w=>results_tmp2 results286 t _ w) ?_;refine J.seq (J.af [.p,.p] ?_);refine .ag rfl rfl<|.ag rfl rfl<|.nil ?_;refine J.seq (J.af [.p,.w] ?_);refine .mv rfl rfl<|.W rfl (hJ call327 rfl (HM 7000 7001 _ _) (.cons rfl rfl (.cons rfl rfl .nil)) rfl rfl)<|.nil ?_;refine J.seq (J.af [.p,.p,.p,.p,.r,.p,.w,.p,.p,.w] ?_);refine .mv rfl rfl<|.mv rfl rfl<|.P rfl (xp rfl)<|.P rfl (im (n:=0) 152 1 underlying291 sizeOf152 rfl rfl)<|.R rfl (L2 (e:=0) isAgg152 rfl rfl rfl rfl)<|.mv rfl rfl<|.W rfl (LX 7002 underlying152 underlying9 zS sizeOf5 typeInfo5 rfl zeroValue5 rfl rfl rfl rfl (.inl rfl) rfl hl)<|.P rfl (xp rfl)<|.P rfl (im (n:=0) 152 1 underlying291 sizeOf152 rfl rfl)<|.W rfl (L7 sizeOf152 rfl rfl rfl rfl zS)<|.nil ?_;refine J.seq (J.af [.p,.p,.p,.p] ?_);refine .mv rfl rfl<|.P rfl (fV underlying9 rfl)<|.ag rfl rfl<|.ag rfl rfl<|.nil ?_;refine J.ret (?_);exact VR rfl rfl (Sub.refl _) (by exact Sub.refl _) (.eq rfl zS rfl (.cons rfl rfl (.cons rfl rfl .nil)))
theorem YA(s:aa)(c:UInt8)(hl:s.length+1≤140737488355328):dF Tryz.prog 285 [.box 7000 0,.raw (.int .u8 c.toNat)] [(7000,.eE 7001 s.length),(7001,.ba s)] (.raw .nilIface) [(7000,.eE 7002 (s++[c]).length),(7002,.ba (s++[c])),(7001,.dead)]:=by
 refine dF.mk' [4] func285 rfl ntmps285 rfl rfl rfl (fun t w=>results_tmp results285 t _ w) ?_;refine J.seq (J.af [.p] ?_);refine .ag rfl rfl<|.nil ?_;refine J.seq (J.af [.p,.w] ?_);refine .mv rfl rfl<|.W rfl (hJ call327 rfl (HM 7000 7001 _ _) (.cons rfl rfl (.cons rfl rfl .nil)) rfl rfl)<|.nil ?_;refine J.seq (J.af [.p,.p,.p,.p,.r,.p,.p,.w,.p,.p,.w] ?_);refine .mv rfl rfl<|.mv rfl rfl<|.P rfl (xp rfl)<|.P rfl (im (n:=0) 152 1 underlying291 sizeOf152 rfl rfl)<|.R rfl (L2 (e:=0) isAgg152 rfl rfl rfl rfl)<|.mv rfl rfl<|.P rfl (bK (n:=1) (rows:=l5 [c]) underlying152 sizeOf5 rfl rfl rfl zeroValue5 rfl rfl rfl rfl rfl rfl rfl)<|.W rfl (LX 7002 underlying152 underlying152 zS sizeOf5 typeInfo5 rfl zeroValue5 rfl rfl rfl rfl (.inr ⟨_,rfl⟩) rfl hl)<|.P rfl (xp rfl)<|.P rfl (im (n:=0) 152 1 underlying291 sizeOf152 rfl rfl)<|.W rfl (L7 sizeOf152 rfl rfl rfl rfl zS)<|.nil ?_;refine J.seq (J.af [.p] ?_);refine .ag rfl rfl<|.nil ?_;refine J.ret (?_);exact vm rfl (by exact Sub.refl _) (.eq rfl zS rfl (.cons rfl rfl (.cons rfl rfl .nil)))
theorem YB(s t:aa)(hl:s.length+t.length≤140737488355328):dF Tryz.prog 286 [.box 7000 0,.str t] [(7000,.eE 7002 s.length),(7002,.ba s)] (.bj [.i t.length,.raw .nilIface]) [(7000,.eE 7001 (s++t).length),(7001,.ba (s++t)),(7002,.dead)]:=by
 refine dF.mk' [4,5] func286 rfl ntmps286 rfl rfl rfl (fun t w=>results_tmp2 results286 t _ w) ?_;refine J.seq (J.af [.p,.p] ?_);refine .ag rfl rfl<|.ag rfl rfl<|.nil ?_;refine J.seq (J.af [.p,.w] ?_);refine .mv rfl rfl<|.W rfl (hJ call327 rfl (HM 7000 7002 _ _) (.cons rfl rfl (.cons rfl rfl .nil)) rfl rfl)<|.nil ?_;refine J.seq (J.af [.p,.p,.p,.p,.r,.p,.w,.p,.p,.w] ?_);refine .mv rfl rfl<|.mv rfl rfl<|.P rfl (xp rfl)<|.P rfl (im (n:=0) 152 1 underlying291 sizeOf152 rfl rfl)<|.R rfl (L2 (e:=0) isAgg152 rfl rfl rfl rfl)<|.mv rfl rfl<|.W rfl (LX 7001 underlying152 underlying9 zS sizeOf5 typeInfo5 rfl zeroValue5 rfl rfl rfl rfl (.inl rfl) rfl hl)<|.P rfl (xp rfl)<|.P rfl (im (n:=0) 152 1 underlying291 sizeOf152 rfl rfl)<|.W rfl (L7 sizeOf152 rfl rfl rfl rfl zS)<|.nil ?_;refine J.seq (J.af [.p,.p,.p,.p] ?_);refine .mv rfl rfl<|.P rfl (fV underlying9 rfl)<|.ag rfl rfl<|.ag rfl rfl<|.nil ?_;refine J.ret (?_);exact VR rfl rfl (Sub.refl _) (by exact Sub.refl _) (.eq rfl zS rfl (.cons rfl rfl (.cons rfl rfl .nil)))
theorem Ei(u:Nat)(hu:u<18446744073709551616):Fc Tryz.prog 287 [.raw (.int .u64 u),.i 10] (.str (Lib.decDigits u)):=by
 refine Fc.mk' [4] func287 rfl ntmps287 rfl rfl rfl (fun t w=>results_tmp results287 t _ w) ?_;refine go [] ?_;refine oP (ai call328 rfl (acQ _ zA)) ?_;exact ah rfl (Sub.refl _)
structure Z8(m:List Nat)where
 cur:List Nat
 hx:bm cur=bm m
 hl:cur.length≤m.length
theorem q7(m:List Nat):Fc Tryz.prog 284 [aF m] (aF (bm m)):=by
 refine Fc.mk' [2] func284 rfl ntmps284 rfl rfl rfl (fun t w=>results_tmp results284 t _ w) ?_;refine J.eu 0 rfl (fun hb=>?_);simp only[List.length_map,aG]at hb;refine J.seq (J.af [.p] ?_);refine .ag rfl rfl<|.nil ?_;refine J.seq ?_;refine J.block ?_;refine J.loop (ι:=Z8 m) (fun sx=>[(0,aF sx.cur)]) (fun sx=>[]) (fun sx=>sx.cur.length) ⟨m,rfl,by omega⟩ ?_ ?_
 ·exact Le.mk rfl (.s rfl rfl .nil) .nil
 ·rintro⟨cur,hx,hl⟩;show J _ _ _ _ [(0,aF cur)] [];rcases lV cur with rfl|⟨i,x,rfl⟩
  ·skip;refine J.seq (J.seq (J.af [.p,.p,.p,.p,.p,.p,.p,.p,.p,.p,.p,.p] ?_));refine .mv rfl rfl<|.P rfl (cY underlying244 rfl)<|.P rfl (gn rfl rfl)<|.mv rfl rfl ?_;refine .off rfl (gf rfl rfl rfl zS) ?_;refine .off rfl (gf rfl rfl rfl zS) ?_;refine .off rfl (gf rfl rfl rfl zS) ?_;refine .off rfl (gf rfl rfl rfl zS) ?_;refine .off rfl (gf rfl rfl rfl zS) ?_;refine .off rfl (gf rfl rfl rfl zS) ?_;refine .off rfl (gf rfl rfl rfl zS) ?_;refine .P rfl (xr rfl zS rfl)<|.nil ?_;refine J.eF rfl rfl ?_;refine J.exit (dO (dG ?_));refine J.seq (J.af [.p,.p] ?_);refine .mv rfl rfl<|.ag rfl rfl<|.nil ?_;refine J.ret (?_);exact dn rfl (Sub.snap (by rw[←hx];rfl))
  ·skip;refine J.seq (J.seq (J.af [.p,.p,.p,.p,.p,.p,.p,.p,.p,.p,.p,.p] ?_));refine .mv rfl rfl<|.P rfl (cY underlying244 rfl)<|.P rfl (gn rfl rfl)<|.mv rfl rfl<|.p rfl (eB rfl rfl rfl zS) (fun _=>aT rfl _)<|.p rfl (eB rfl rfl rfl zS) (fun _=>aT rfl _)<|.p rfl (eB rfl rfl rfl zS) (fun _=>cY underlying244 rfl _)<|.p rfl (eB rfl rfl rfl zS) (fun _=>dw rfl rfl (en zO (by simp at*;omega)) _)<|.p rfl (eB rfl rfl rfl zS) (fun _=>gm underlying244 sizeOf184 rfl rfl zS (RE (fun(n:Nat)=>[D.raw (.int .u64 (n:Int))]) i x rfl) _)<|.p rfl (eB rfl rfl rfl zS) (fun _=>bP isAgg184 rfl _)<|.p rfl (eB rfl rfl rfl zS) (fun _=>jQ rfl rfl _)<|.P rfl (tP rfl zS rfl)<|.nil ?_;refine J.cond rfl (fun h1=>?_) (fun h1=>?_)
   ·have bJ:=h1;try simp only[bs]at bJ
    refine J.skip ?_;refine J.block ?_;refine J.af [.p,.p,.p,.p,.p,.p] ?_;refine .mv rfl rfl<|.mv rfl rfl<|.P rfl (cY underlying244 rfl)<|.P rfl (dw rfl rfl (en zO (by simp at*;omega)))<|.P rfl (oT underlying244 sizeOf184 rfl (h:=i.length) (r:=bb i) (.inl ⟨rfl,rfl⟩) (.inr ⟨_,_,rfl,(tw rfl zS)⟩) zO zS zS)<|.ag rfl rfl<|.nil ?_;refine J.nil (cn ?_);refine J.nil (cZ ?_);exact⟨⟨i,by rw[←hx,show x=0 by omega,sv],by simp at hl;omega⟩,by simp,Le.mk rfl (.s rfl rfl .nil) .nil⟩
   ·have bJ:=h1;try simp only[bs]at bJ
    refine J.exit (dO (dG ?_));refine J.seq (J.af [.p,.p] ?_);refine .mv rfl rfl<|.ag rfl rfl<|.nil ?_;refine J.ret (?_);exact dn rfl (Sub.snap (by(rw[←hx,x6 i zO])))
theorem aaD(s:aa):Fc Tryz.prog 282 [.str s] (.bj [.str (digits s).1,.b (digits s).2]):=by
 refine Fc.mk' [2,3] func282 rfl ntmps282 rfl rfl rfl (fun t w=>results_tmp2 results282 t _ w) ?_;refine go [] ?_;refine oP (ai call324 rfl (Z6 _)) ?_;refine oP (ai call180 rfl (anj _)) ?_;refine br (fun h1=>?_) (fun h1=>?_)
 ·exact fu rfl rfl (Sub.str (by grind[digits,GM])) (Sub.bool (by grind[digits,GM]))
 ·refine oP (ai call325 rfl (ank _)) ?_;exact fu rfl rfl (Sub.str (by grind[digits,GM])) (Sub.bool (by grind[digits,GM]))
structure akl(s:aa)where
 rest:aa
 tl:aa
 e:Int
 done:List Nat
 hr:(digits s).1=rest++tl
 he:(0<e→e=rest.length)∧(e≤0→rest=[])
 hx:done++fE rest=fE (digits s).1
theorem tQ(s:aa)(hs:s.length≤100000):Fc Tryz.prog 238 [.str s] (.agg (mS (digits s).2 (fE (digits s).1))):=by
 refine Fc.je func238 rfl ntmps238 rfl rfl rfl ?_;have pC:=kW s;have EM:=nE s;have cK:=qh (digits s).1;refine go [99999] ?_;refine oP (ai call282 rfl (aaD _)) ?_;refine J.loop (ι:=akl s) (fun sx=>[(2,.box 0 0),(3,.str (digits s).1),(4,.b (digits s).2),(5,.gs 1 sx.done.length),(6,.i sx.e)]) (fun sx=>[(0,.cells [.b false,.raw (.slice none 0 0)]),(1,.arr 1 (bb sx.done))]) (fun sx=>sx.rest.length) ⟨(digits s).1,[],(digits s).1.length,[],by simp,⟨fun _=>rfl,fun h=>List.length_eq_zero_iff.1 zO⟩,rfl⟩ ?_ ?_
 ·exact(Le.jy 1 1).trans<|Le.mk rfl (.s rfl rfl (.s rfl rfl (.s rfl rfl (.cons rfl (Sub.wm _) rfl (.s rfl rfl .nil))))) (.cons rfl rfl (.arr rfl zS .nil))
 ·rintro⟨rest,tl,e,done,hr,he,hx⟩;show J _ _ _ _ [(2,.box 0 0),(3,.str (digits s).1),(4,.b (digits s).2),(5,.gs 1 done.length),(6,.i e)] [(0,.cells [.b false,.raw (.slice none 0 0)]),(1,.arr 1 (bb done))];have f_:=congrArg List.length hr;simp only[List.length_append]at f_;have wO:=congrArg List.length hx;simp only[List.length_append]at wO;refine go [99999] ?_;refine br (fun h1=>?_) (fun h1=>?_)
  ·have bJ:=h1;try simp only[bs]at bJ
   refine sd (aw zO) ?_;refine oP (r7 underlying9 rfl (l:=rest.length-9) (h:=rest.length) (r:=rest.drop (rest.length-9)) (.inr ⟨_,_,rfl,tw rfl zO⟩) (.inr ⟨_,_,rfl,tw rfl zO⟩) zO (by rw[hr];simp) (by rw[hr];simp[List.drop_append,List.take_append]<;>omega)) ?_;refine oP (ai call283 rfl (ajh _ (by intro e;have:=congrArg List.length e;simp at this;omega) (by rw[hr,List.all_append,Bool.and_eq_true]at EM;have:=EM.1;rw[←List.take_append_drop (rest.length-9) rest,List.all_append,Bool.and_eq_true]at this;exact this.2) zQ)) ?_;refine oP (bK (n:=1) (rows:=bb [natVal (rest.drop (rest.length-9))]) underlying244 sizeOf184 rfl rfl rfl zeroValue184 rfl rfl rfl rfl rfl rfl rfl) ?_;refine oW (fq 2 underlying244 underlying244 sizeOf184 typeInfo184 zeroValue184 rfl (bt:=8) rfl rfl rfl rfl zS rfl rfl zQ) ?_;refine sd (aw zO) ?_;exact nx ⟨rest.take (rest.length-9),rest.drop (rest.length-9)++tl,e-9,done++[natVal (rest.drop (rest.length-9))],by rw[hr,←List.append_assoc,List.take_append_drop],⟨fun h=>by simp;omega,fun h=>List.length_eq_zero_iff.1 zQ⟩,by rw[←hx,yy (s:=rest) zO];simp⟩ zQ ((Le.mk (am:=[(0,_),(2,_)]) rfl (show dE _ _ [(2,_),(3,_),(4,_),(5,_),(6,_)]from(.s rfl rfl (.s rfl rfl (.s rfl rfl (.s rfl rfl (.s rfl rfl .nil)))))) (.cons (i:=0) rfl rfl (.cons (i:=2) rfl rfl .nil))).trans<|(Le.kO 5 2 1 rfl rfl zS rfl).trans<|Le.mk rfl (.s rfl rfl (.s rfl rfl (.s rfl rfl (.cons rfl (Sub.gs zS) rfl (.s rfl rfl .nil))))) (.cons rfl rfl (.arr rfl zS .nil)))
  ·have bJ:=h1;try simp only[bs]at bJ
   refine go [99999] ?_;refine J.bE (Le.IS 0 1 1 rfl rfl rfl zS) ?_;refine J.ret (?_);exact Rd.cA results238 isAgg246 sizeOf246 rfl rfl rfl (Sub.agg (.r (.cons (Sub.snap (by rw[←hx,he.2 zO,sS,List.append_nil])) .nil)))
structure WA(cD:Bool)(m:List Nat)where
 lo:List Nat
 hi:List Nat
 st:aa
 hx:bm m=lo++hi
 ht:st++nq lo=tZ cD m
 aD:st≠[]
 aP:st.length≤21+9*hi.length
theorem Al(cD:Bool)(m:List Nat)(hm:aR m)(hs:m.length≤20000):Fc Tryz.prog 239 [.agg (mS cD m)] (.str (tZ cD m)):=by
 refine Fc.mk' [2] func239 rfl ntmps239 rfl rfl rfl (fun t w=>results_tmp results239 t _ w) ?_;have uD:=um m;have uE:=x5 hm;have pB:(bm m).length≠0→(Lib.decDigits (cR (bm m))).length≤9:=fun h=>x7 (uE _ (wW h));refine J.seq (J.af [.w,.p] ?_);refine .W rfl (Gg 0 rfl rfl)<|.ag rfl rfl<|.nil ?_;refine J.seq (J.af [.p,.r,.p,.p] ?_);refine .P rfl (im (n:=0) 244 1 underlying246 sizeOf244 rfl rfl)<|.R rfl (iV isAgg244 rfl rfl rfl)<|.P rfl (ai call284 rfl (q7 _))<|.ag rfl rfl<|.nil ?_;refine J.seq (J.seq (J.af [.p,.p,.p] ?_));refine .mv rfl rfl<|.P rfl (cY underlying244 rfl)<|.P rfl (jQ rfl rfl)<|.nil ?_;refine J.cond rfl (fun h1=>?_) (fun h1=>?_)
 ·refine J.seq (J.af [.p] ?_);refine .ag rfl rfl<|.nil ?_;refine J.ret (?_);exact dn rfl (Sub.str (by grind[tZ]))
 ·have bJ:=h1;try simp only[bs]at bJ
  refine J.skip ?_;refine J.seq (J.af [.w] ?_);refine .W rfl (ajx 7000 7001 zeroValue291 rfl)<|.nil ?_;refine J.seq (J.seq (J.af [.p,.r] ?_));refine .P rfl (im (n:=0) 4 0 underlying246 sizeOf4 rfl rfl)<|.R rfl (iV isAgg4 rfl rfl rfl)<|.nil ?_;refine J.cond rfl (fun h2=>?_) (fun h2=>?_)
  ·refine J.af [.w] ?_;refine .W rfl (hJ call285 rfl (YA _ 45 zS) (.cons rfl rfl (.cons rfl rfl .nil)) rfl rfl)<|.nil ?_;refine J.bE (Le.mk (am:=[(0,_),(7000,_),(7002,_)]) rfl (show dE _ _ [(0,_),(1,_),(2,_),(7,_),(8,_),(9,_),(3,_),(10,_),(11,_),(12,_),(4,_),(13,_),(14,_)]from(.s rfl rfl (.s rfl rfl (.s rfl rfl (.s rfl rfl (.s rfl rfl (.s rfl rfl (.s rfl rfl (.s rfl rfl (.s rfl rfl (.s rfl rfl (.s rfl rfl (.s rfl rfl (.s rfl rfl .nil)))))))))))))) (.cons (i:=0) rfl rfl (.cons (i:=7000) rfl rfl (.cons (i:=7002) rfl rfl .nil)))) ?_;refine J.seq (J.af [.p,.p,.p,.p,.p,.p,.p,.w] ?_);refine .mv rfl rfl<|.mv rfl rfl<|.P rfl (cY underlying244 rfl)<|.P rfl (dw rfl rfl (en zO zQ))<|.P rfl (gm underlying244 sizeOf184 rfl rfl zQ (uR (pre:=bm m) (rest:=[]) zS zO zS))<|.P rfl (bP isAgg184 rfl)<|.P rfl (ai call287 rfl (Ei _ (by have:=uE _ (wW (l:=bm m) zO);unfold gB at this;omega)))<|.W rfl (hJ call286 rfl (YB _ _ zQ) (.cons rfl rfl (.cons rfl rfl .nil)) rfl rfl)<|.nil ?_;refine J.bE (Le.mk (am:=[(0,_),(7000,_),(7001,_)]) rfl (show dE _ _ [(0,_),(1,_),(2,_),(7,_),(8,_),(9,_),(3,_),(10,_),(11,_),(12,_),(4,_),(13,_),(14,_),(16,_),(17,_),(18,_),(19,_),(20,_),(21,_),(22,_)]from(.s rfl rfl (.s rfl rfl (.s rfl rfl (.s rfl rfl (.s rfl rfl (.s rfl rfl (.s rfl rfl (.s rfl rfl (.s rfl rfl (.s rfl rfl (.s rfl rfl (.s rfl rfl (.s rfl rfl (.s rfl rfl (.s rfl rfl (.s rfl rfl (.s rfl rfl (.s rfl rfl (.s rfl rfl (.s rfl rfl .nil))))))))))))))))))))) (.cons (i:=0) rfl rfl (.cons (i:=7000) rfl rfl (.cons (i:=7001) rfl rfl .nil)))) ?_;refine J.seq (J.seq (J.af [.p,.p,.p,.p] ?_))
   refine .mv rfl rfl<|.P rfl (cY underlying244 rfl)<|.P rfl (dw rfl rfl (en zO zQ))<|.ag rfl rfl<|.nil ?_;refine J.block ?_;refine J.loop (ι:=WA cD m) (fun sx=>[(1,.box 0 0),(3,aF (bm m)),(4,.box 7000 0),(5,.i ((sx.lo.length:Int)-1))]) (fun sx=>[(0,.cells (mS cD m)),(7000,.eE 7001 sx.st.length),(7001,.ba sx.st)]) (fun sx=>sx.lo.length) ⟨(bm m).dropLast,[cR (bm m)],([]++[45])++Lib.decDigits (cR (bm m)),sD zO,by unfold tZ;rw[if_neg zO];simp at*;simp[*],by simp[HU],by have:=x7 (uE _ (wW (l:=bm m) zO));simp;omega⟩ ?_ ?_
   ·exact Le.mk rfl (.s rfl rfl (.s rfl rfl (.s rfl rfl (.cons rfl (Sub.int zQ) rfl .nil)))) (.cons rfl rfl (.cons rfl rfl (.cons rfl rfl .nil)))
   ·rintro⟨lo,hi,st,hx,ht,aD,aP⟩;show J _ _ _ _ [(1,.box 0 0),(3,aF (bm m)),(4,.box 7000 0),(5,.i ((lo.length:Int)-1))] [(0,.cells (mS cD m)),(7000,.eE 7001 st.length),(7001,.ba st)];have wO:=congrArg List.length hx;simp only[List.length_append]at wO;have hy:lo.length≠0→cR lo<gB:=fun h=>uE _ (by rw[hx];exact List.mem_append_left _ (wW h));have hd9:lo.length≠0→(Lib.decDigits (cR lo)).length≤9:=fun h=>x7 (hy h);refine J.seq (J.seq (J.af [.p,.p] ?_));refine .mv rfl rfl<|.P rfl (oQ rfl rfl)<|.nil ?_;refine J.cond rfl (fun h3=>?_) (fun h3=>?_)
    ·have fI:=h3;try simp only[bs]at fI
     refine J.skip ?_;refine J.seq ?_;refine J.block ?_;refine J.seq (J.af [.p,.p,.p,.p,.p,.p] ?_);refine .mv rfl rfl<|.mv rfl rfl<|.P rfl (gm underlying244 sizeOf184 rfl rfl zO (uR hx zO rfl))<|.P rfl (bP isAgg184 rfl)<|.P rfl (ai call287 rfl (Ei _ (by unfold gB at hy;omega)))<|.ag rfl rfl<|.nil ?_;refine J.af [.p,.p,.p,.p,.p,.p,.w] ?_;refine .mv rfl rfl<|.P rfl (fV underlying9 rfl)<|.P rfl (dw rfl rfl (aw zO))<|.P rfl (ai call288 rfl (VN _ zO zO))<|.mv rfl rfl<|.P rfl (zW rfl rfl (by unfold aG;simp;omega) rfl)<|.W rfl (hJ call286 rfl (Hw _ _ zQ) (.cons rfl rfl (.cons rfl rfl .nil)) rfl rfl)<|.nil ?_;refine J.nil (cn ?_);refine J.bE (Le.mk (am:=[(0,_),(7000,_),(7002,_)]) rfl (show dE _ _ [(1,_),(3,_),(4,_),(5,_),(27,_),(28,_),(31,_),(32,_),(33,_),(34,_),(35,_),(6,_),(36,_),(37,_),(38,_),(39,_),(40,_),(41,_)]from(.s rfl rfl (.s rfl rfl (.s rfl rfl (.s rfl rfl (.s rfl rfl (.s rfl rfl (.s rfl rfl (.s rfl rfl (.s rfl rfl (.s rfl rfl (.s rfl rfl (.s rfl rfl (.s rfl rfl (.s rfl rfl (.s rfl rfl (.s rfl rfl (.s rfl rfl (.s rfl rfl .nil))))))))))))))))))) (.cons (i:=0) rfl rfl (.cons (i:=7000) rfl rfl (.cons (i:=7002) rfl rfl .nil)))) ?_;refine J.af [.p,.p,.p] ?_;refine .mv rfl rfl<|.P rfl (dw rfl rfl (aw zO))<|.ag rfl rfl<|.nil ?_;refine J.nil (cZ ?_)
     exact⟨⟨lo.dropLast,cR lo::hi,st++(List.replicate (9-(Lib.decDigits (cR lo)).length) 48++Lib.decDigits (cR lo)),by rw[hx];conv=>{lhs;rw[sD (l:=lo) zO]};simp,by rw[←ht,US (lo:=lo) zO];simp[r5],by simp[aD],by simp;omega⟩,by simp;omega,(Le.mk (am:=[(0,_),(7000,_),(7002,_)]) rfl (show dE _ _ [(1,_),(3,_),(4,_),(5,_)]from(.s rfl rfl (.s rfl rfl (.s rfl rfl (.s rfl rfl .nil))))) (.cons (i:=0) rfl rfl (.cons (i:=7000) rfl rfl (.cons (i:=7002) rfl rfl .nil)))).trans<|(Le.Ma 7000 7002 7001 rfl rfl zS rfl).trans<|Le.mk rfl (.s rfl rfl (.s rfl rfl (.s rfl rfl (.cons rfl (Sub.int zQ) rfl .nil)))) (.cons rfl rfl (.eq rfl zS rfl (.eq rfl zS rfl .nil)))⟩
    ·have fI:=h3;try simp only[bs]at fI
     refine J.exit (dO (dG ?_));refine J.seq (J.af [.w,.p] ?_);refine .W rfl (hJ call289 rfl (NC 7000 7001 _ _ aD rfl (by unfold aG;omega) rfl) (.cons rfl rfl (.cons rfl rfl .nil)) rfl rfl)<|.ag rfl rfl<|.nil ?_;refine J.ret (?_);exact dn rfl (Sub.str (by have e:lo=[]:=List.length_eq_zero_iff.mp zO;rw[e]at ht;rw[←ht];simp[UR]))
  ·refine J.skip ?_;refine J.seq (J.af [.p,.p,.p,.p,.p,.p,.p,.w] ?_);refine .mv rfl rfl<|.mv rfl rfl<|.P rfl (cY underlying244 rfl)<|.P rfl (dw rfl rfl (en zO zQ))<|.P rfl (gm underlying244 sizeOf184 rfl rfl zQ (uR (pre:=bm m) (rest:=[]) zS zO zS))<|.P rfl (bP isAgg184 rfl)<|.P rfl (ai call287 rfl (Ei _ (by have:=uE _ (wW (l:=bm m) zO);unfold gB at this;omega)))<|.W rfl (hJ call286 rfl (Hw _ _ zQ) (.cons rfl rfl (.cons rfl rfl .nil)) rfl rfl)<|.nil ?_;refine J.bE (Le.mk (am:=[(0,_),(7000,_),(7002,_)]) rfl (show dE _ _ [(0,_),(1,_),(2,_),(7,_),(8,_),(9,_),(3,_),(10,_),(11,_),(12,_),(4,_),(13,_),(14,_),(16,_),(17,_),(18,_),(19,_),(20,_),(21,_),(22,_)]from(.s rfl rfl (.s rfl rfl (.s rfl rfl (.s rfl rfl (.s rfl rfl (.s rfl rfl (.s rfl rfl (.s rfl rfl (.s rfl rfl (.s rfl rfl (.s rfl rfl (.s rfl rfl (.s rfl rfl (.s rfl rfl (.s rfl rfl (.s rfl rfl (.s rfl rfl (.s rfl rfl (.s rfl rfl (.s rfl rfl .nil))))))))))))))))))))) (.cons (i:=0) rfl rfl (.cons (i:=7000) rfl rfl (.cons (i:=7002) rfl rfl .nil)))) ?_;refine J.seq (J.seq (J.af [.p,.p,.p,.p] ?_));refine .mv rfl rfl<|.P rfl (cY underlying244 rfl)<|.P rfl (dw rfl rfl (en zO zQ))<|.ag rfl rfl<|.nil ?_;refine J.block ?_;refine J.loop (ι:=WA cD m) (fun sx=>[(1,.box 0 0),(3,aF (bm m)),(4,.box 7000 0),(5,.i ((sx.lo.length:Int)-1))]) (fun sx=>[(0,.cells (mS cD m)),(7000,.eE 7001 sx.st.length),(7001,.ba sx.st)]) (fun sx=>sx.lo.length) ⟨(bm m).dropLast,[cR (bm m)],[]++Lib.decDigits (cR (bm m)),sD zO,by unfold tZ;rw[if_neg zO];simp at*;simp[*],by simp[HU],by have:=x7 (uE _ (wW (l:=bm m) zO));simp;omega⟩ ?_ ?_
   ·exact(Le.mk (am:=[(0,_),(7000,_),(7002,_)]) rfl (show dE _ _ [(1,_),(3,_),(4,_),(5,_)]from(.s rfl rfl (.s rfl rfl (.s rfl rfl (.s rfl rfl .nil))))) (.cons (i:=0) rfl rfl (.cons (i:=7000) rfl rfl (.cons (i:=7002) rfl rfl .nil)))).trans<|(Le.Ma 7000 7002 7001 rfl rfl zS rfl).trans<|Le.mk rfl (.s rfl rfl (.s rfl rfl (.s rfl rfl (.cons rfl (Sub.int zQ) rfl .nil)))) (.cons rfl rfl (.cons rfl rfl (.cons rfl rfl .nil)))
   ·rintro⟨lo,hi,st,hx,ht,aD,aP⟩;show J _ _ _ _ [(1,.box 0 0),(3,aF (bm m)),(4,.box 7000 0),(5,.i ((lo.length:Int)-1))] [(0,.cells (mS cD m)),(7000,.eE 7001 st.length),(7001,.ba st)];have wO:=congrArg List.length hx;simp only[List.length_append]at wO;have hy:lo.length≠0→cR lo<gB:=fun h=>uE _ (by rw[hx];exact List.mem_append_left _ (wW h));have hd9:lo.length≠0→(Lib.decDigits (cR lo)).length≤9:=fun h=>x7 (hy h);refine J.seq (J.seq (J.af [.p,.p] ?_));refine .mv rfl rfl<|.P rfl (oQ rfl rfl)<|.nil ?_;refine J.cond rfl (fun h4=>?_) (fun h4=>?_)
    ·have fU:=h4;try simp only[bs]at fU
     refine J.skip ?_;refine J.seq ?_;refine J.block ?_;refine J.seq (J.af [.p,.p,.p,.p,.p,.p] ?_);refine .mv rfl rfl<|.mv rfl rfl<|.P rfl (gm underlying244 sizeOf184 rfl rfl zO (uR hx zO rfl))<|.P rfl (bP isAgg184 rfl)<|.P rfl (ai call287 rfl (Ei _ (by unfold gB at hy;omega)))<|.ag rfl rfl<|.nil ?_;refine J.af [.p,.p,.p,.p,.p,.p,.w] ?_;refine .mv rfl rfl<|.P rfl (fV underlying9 rfl)<|.P rfl (dw rfl rfl (aw zO))<|.P rfl (ai call288 rfl (VN _ zO zO))<|.mv rfl rfl<|.P rfl (zW rfl rfl (by unfold aG;simp;omega) rfl)<|.W rfl (hJ call286 rfl (Hw _ _ zQ) (.cons rfl rfl (.cons rfl rfl .nil)) rfl rfl)<|.nil ?_;refine J.nil (cn ?_);refine J.bE (Le.mk (am:=[(0,_),(7000,_),(7002,_)]) rfl (show dE _ _ [(1,_),(3,_),(4,_),(5,_),(27,_),(28,_),(31,_),(32,_),(33,_),(34,_),(35,_),(6,_),(36,_),(37,_),(38,_),(39,_),(40,_),(41,_)]from(.s rfl rfl (.s rfl rfl (.s rfl rfl (.s rfl rfl (.s rfl rfl (.s rfl rfl (.s rfl rfl (.s rfl rfl (.s rfl rfl (.s rfl rfl (.s rfl rfl (.s rfl rfl (.s rfl rfl (.s rfl rfl (.s rfl rfl (.s rfl rfl (.s rfl rfl (.s rfl rfl .nil))))))))))))))))))) (.cons (i:=0) rfl rfl (.cons (i:=7000) rfl rfl (.cons (i:=7002) rfl rfl .nil)))) ?_;refine J.af [.p,.p,.p] ?_;refine .mv rfl rfl<|.P rfl (dw rfl rfl (aw zO))<|.ag rfl rfl<|.nil ?_;refine J.nil (cZ ?_)
     exact⟨⟨lo.dropLast,cR lo::hi,st++(List.replicate (9-(Lib.decDigits (cR lo)).length) 48++Lib.decDigits (cR lo)),by rw[hx];conv=>{lhs;rw[sD (l:=lo) zO]};simp,by rw[←ht,US (lo:=lo) zO];simp[r5],by simp[aD],by simp;omega⟩,by simp;omega,(Le.mk (am:=[(0,_),(7000,_),(7002,_)]) rfl (show dE _ _ [(1,_),(3,_),(4,_),(5,_)]from(.s rfl rfl (.s rfl rfl (.s rfl rfl (.s rfl rfl .nil))))) (.cons (i:=0) rfl rfl (.cons (i:=7000) rfl rfl (.cons (i:=7002) rfl rfl .nil)))).trans<|(Le.Ma 7000 7002 7001 rfl rfl zS rfl).trans<|Le.mk rfl (.s rfl rfl (.s rfl rfl (.s rfl rfl (.cons rfl (Sub.int zQ) rfl .nil)))) (.cons rfl rfl (.eq rfl zS rfl (.eq rfl zS rfl .nil)))⟩
    ·have fU:=h4;try simp only[bs]at fU
     refine J.exit (dO (dG ?_));refine J.seq (J.af [.w,.p] ?_);refine .W rfl (hJ call289 rfl (NC 7000 7001 _ _ aD rfl (by unfold aG;omega) rfl) (.cons rfl rfl (.cons rfl rfl .nil)) rfl rfl)<|.ag rfl rfl<|.nil ?_;refine J.ret (?_);exact dn rfl (Sub.str (by have e:lo=[]:=List.length_eq_zero_iff.mp zO;rw[e]at ht;rw[←ht];simp[UR]))
theorem ah6(s:aa)(hs:s.length≤9000):Fc Tryz.prog 311 [.str s] (.str (tZ (!(digits s).2) (fE (digits s).1))):=by
 refine Fc.mk' [2] func311 rfl ntmps311 rfl rfl rfl (fun t w=>results_tmp results311 t _ w) ?_;have pC:=kW s;have cK:=qh (digits s).1;have hgo:=(Jb _ (nE s)).1;refine go [] ?_;refine oP (ai call238 rfl (tQ _ zO)) ?_;refine oP (ai call239 rfl (Al _ _ zA zO)) ?_;exact ah rfl (Sub.refl _)
structure ZG(x y:List Nat)where
 lx:List Nat
 rx:List Nat
 ly:List Nat
 ry:List Nat
 ex:x=lx++rx
 ey:y=ly++ry
 el:lx.length=ly.length
 er:iJ lx.reverse ly.reverse=iA x y
theorem x4(x y:List Nat)(hx:x.length≤20000)(hy:y.length≤20000):Fc Tryz.prog 240 [aF x,aF y] (.i (iA x y)):=by
 refine Fc.mk' [4] func240 rfl ntmps240 rfl rfl rfl (fun t w=>results_tmp results240 t _ w) ?_;refine go [] ?_;refine br (fun h1=>?_) (fun h1=>?_)
 ·refine sd (en zQ zQ) ?_;exact ah rfl (Sub.int (by unfold iA;rw[if_pos (by simp at*;omega)];simp))
 ·refine sd (en zO zQ) ?_;refine J.loop (ι:=ZG x y) (fun sx=>[(0,aF x),(1,aF y),(5,.i ((sx.lx.length:Int)-1))]) (fun sx=>[]) (fun sx=>sx.lx.length) ⟨x,[],y,[],by simp,by simp,by simp at*;omega,(Zv (by simp at*;omega)).symm⟩ ?_ ?_
  ·exact Le.mk rfl (.s rfl rfl (.s rfl rfl (.cons rfl (Sub.int zS) rfl .nil))) .nil
  ·rintro⟨lx,rx,ly,ry,ex,ey,el,er⟩;show J _ _ _ _ [(0,aF x),(1,aF y),(5,.i ((lx.length:Int)-1))] [];have Iu:=congrArg List.length ex;have Iv:=congrArg List.length ey;simp only[List.length_append]at Iu Iv;have es:=fun h=>DG (x:=lx) (y:=ly) h el;refine go [] ?_;refine br (fun h2=>?_) (fun h2=>?_)
   ·have de:=h2;try simp only[bs]at de
    refine ix zO (uR ex zO rfl) ?_;refine ix zO (uR ey zO zO) ?_;refine ord ?_;refine br (fun h3=>?_) (fun h3=>?_)
    ·have fI:=h3;try simp only[bs]at fI
     exact ah rfl (Sub.int (by(rw[←er,es zO];rw[if_pos zO])))
    ·have fI:=h3;try simp only[bs]at fI
     refine ix zO (uR ex zO rfl) ?_;refine ix zO (uR ey zO zO) ?_;refine ord ?_;refine br (fun h4=>?_) (fun h4=>?_)
     ·have fU:=h4;try simp only[bs]at fU
      exact ah rfl (Sub.int (by(rw[←er,es zO];rw[if_neg zO,if_pos zO])))
     ·have fU:=h4;try simp only[bs]at fU
      refine sd (aw zO) ?_;exact nx ⟨lx.dropLast,cR lx::rx,ly.dropLast,cR ly::ry,by rw[ex];conv=>{lhs;rw[sD (l:=lx) zO]};simp,by rw[ey];conv=>{lhs;rw[sD (l:=ly) zO]};simp,by simp;omega,by rw[←er,DG zO el,if_neg zO,if_neg zO]⟩ zQ (Le.mk rfl (.s rfl rfl (.s rfl rfl (.cons rfl (Sub.int zQ) rfl .nil))) .nil)
   ·have de:=h2;try simp only[bs]at de
    refine go [] ?_;exact ah rfl (Sub.int (by rw[←er,HK zO]))
end Go.T
