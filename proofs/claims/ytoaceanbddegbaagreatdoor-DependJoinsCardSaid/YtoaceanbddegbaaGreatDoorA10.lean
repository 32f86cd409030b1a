/-
  Contracts of the functions that the statement reaches, and the logic in which they are proved (no condition): parts Div1, Div2, Div3, Div4, Div5, Core43, W75, Core44, Div6, Div7, Div8, Div9, Core45, W76, Div10, W77, Div11, W78, Div12.
-/
import Derived.Test.YtoaceanbddegbaaGreatDoorA09
set_option linter.all false
namespace Go.T
open Go
def ak(n:Nat):List Nat:=if h:n=0 then[]else(n%gB)::ak (n/gB)
decreasing_by
 unfold gB;omega
theorem qO:ak 0=[]:=by rw[ak];simp
theorem xS{n:Nat}(h:n≠0):ak n=(n%gB)::ak (n/gB):=by rw[ak];simp[h]
theorem gI(n:Nat):ao (ak n)=n:=by
 induction n using Nat.strongRecOn with
 |_ n ih=>
  by_cases e:n=0
  ·subst e;rw[qO];rfl
  ·rw[xS e,ao,ih (n/gB) (by unfold gB;omega)];have:=Nat.mod_add_div n gB;omega
theorem ek(n:Nat):aU (ak n):=by
 induction n using Nat.strongRecOn with
 |_ n ih=>
  by_cases e:n=0
  ·subst e;rw[qO];intro x hx;simp at hx
  ·rw[xS e];intro x hx;rcases List.mem_cons.1 hx with rfl|hx
   ·exact Nat.mod_lt _ ee
   ·exact ih (n/gB) (by unfold gB;omega) x hx
theorem vU(n:Nat):bp (ak n)=ak n:=by
 refine HI fun h0 hl=>?_;have key:∀n,n≠0→dA (ak n)≠0:=by
  intro n;induction n using Nat.strongRecOn with
  |_ n ih=>
   intro e;rw[xS e];by_cases e2:n/gB=0
   ·rw[e2,qO];have:n<gB:=by
     rcases Nat.lt_or_ge n gB with h|h
     ·exact h
     ·have:=Nat.div_pos h ee;omega
    simp[dA,Nat.mod_eq_of_lt this,e]
   ·rw[RI (by rw[xS e2];simp)];exact ih (n/gB) (by unfold gB;omega) e2
 by_cases e:n=0
 ·subst e;rw[qO]at h0;simp at h0
 ·exact key n e hl
theorem Sn:∀{x y:List Nat},aU x→aU y→bp x=x→bp y=y→ao x=ao y→x=y:=by
 intro x;induction x with
 |nil=>
  intro y _ _ _ cy hv;cases y with
  |nil=>rfl
  |cons b y=>have:=Cr cy zS;simp[ao]at*;omega
 |cons a x ih=>
  intro y ox oy cx cy hv;cases y with
  |nil=>have:=Cr cx zS;simp[ao]at*;omega
  |cons b y=>
   simp only[ao]at hv;have ha:=ox a zS;have hb:=oy b zS;have e1:a=b:=by
    have h1:(a+gB*ao x)%gB=a:=by rw[Nat.add_mul_mod_self_left];exact Nat.mod_eq_of_lt ha
    have h2:(b+gB*ao y)%gB=b:=by rw[Nat.add_mul_mod_self_left];exact Nat.mod_eq_of_lt hb
    rw[←h1,←h2,hv]
   subst e1;have e2:ao x=ao y:=by
    have:gB*ao x=gB*ao y:=by omega
    exact Nat.eq_of_mul_eq_mul_left ee this
   have tl:∀{z:List Nat},bp (a::z)=a::z→bp z=z:=by
    intro z hz;refine HI fun h0 hl=>?_;rcases nS z with rfl|⟨i,t,rfl⟩
    ·simp at h0
    ·have:dA (i++[t])=t:=by simp[dA,List.getLastD_eq_getLast?]
     rw[this]at hl;subst hl;have h:=tI (a::i);rw[List.cons_append]at h;rw[h]at hz;have:=congrArg List.length hz;have h3:=vg (a::i);simp at this h3;omega
   rw[ih (fun q hq=>ox q (by simp[hq])) (fun q hq=>oy q (by simp[hq])) (tl cx) (tl cy) e2]
theorem afI{x:List Nat}(ox:aU x)(cx:bp x=x):x=ak (ao x):=Sn ox (ek _) cx (vU _) (gI _).symm
theorem Z1{α:Type}(p:α→Bool)(l:List α):(l.dropWhile p).dropWhile p=l.dropWhile p:=by
 induction l with
 |nil=>rfl
 |cons a l ih=>
  rw[List.dropWhile_cons];split
  ·exact ih
  ·rename_i h;rw[List.dropWhile_cons];simp[h]
theorem tJ{x:List Nat}(ox:aU x):bp x=ak (ao x):=by
 refine Sn (yR ox) (ek _) ?_ (vU _) (by rw[D3,gI]);unfold bp;simp[Z1]
section
variable{B P v1 v2 Vr u3 Ur iS q g:Nat}
theorem acm(hP:0<P)(hq:q*((v1*B+v2)*P+Vr)≤(iS*B+u3)*P+Ur)(hU:u3*P+Ur<B*P)(ic:0<v1)(hqB:q≤B-1):q≤min (iS/v1) (B-1):=by
 refine Nat.le_min.2 ⟨?_,hqB⟩;rw[Nat.le_div_iff_mul_le ic];rcases Nat.lt_or_ge iS (q*v1)with h|h
 ·exfalso;have h1:(iS+1)*(B*P)≤q*v1*(B*P):=Nat.mul_le_mul_right _ h;have h2:q*v1*(B*P)≤q*((v1*B+v2)*P+Vr):=by
   have:q*((v1*B+v2)*P+Vr)=q*v1*(B*P)+(q*v2*P+q*Vr):=by
    simp only[Nat.mul_add,Nat.add_mul,Nat.mul_assoc,Nat.add_assoc]
   omega
  have h3:(iS*B+u3)*P+Ur=iS*(B*P)+(u3*P+Ur):=by
   simp only[Nat.add_mul,Nat.mul_assoc,Nat.add_assoc]
  have h4:(iS+1)*(B*P)=iS*(B*P)+B*P:=by rw[Nat.add_mul,Nat.one_mul]
  omega
 ·exact h
theorem acn(hU:Ur<P)(hg:g*v1≤iS)(ht:(iS-g*v1)*B+u3<g*v2)(hq:q*((v1*B+v2)*P+Vr)≤(iS*B+u3)*P+Ur):q≤g-1:=by
 have h1:iS*B+u3<g*(v1*B+v2):=by
  have e1:(iS-g*v1)*B=iS*B-g*v1*B:=Nat.sub_mul _ _ _;have e2:g*(v1*B+v2)=g*v1*B+g*v2:=by rw[Nat.mul_add,Nat.mul_assoc]
  have e3:g*v1*B≤iS*B:=Nat.mul_le_mul_right _ hg;omega
 have h2:(iS*B+u3)*P+Ur<g*((v1*B+v2)*P+Vr):=by
  have e1:(iS*B+u3+1)*P≤g*(v1*B+v2)*P:=Nat.mul_le_mul_right _ h1;have e2:g*((v1*B+v2)*P+Vr)=g*(v1*B+v2)*P+g*Vr:=by rw[Nat.mul_add,Nat.mul_assoc]
  have e3:(iS*B+u3+1)*P=(iS*B+u3)*P+P:=by rw[Nat.add_mul,Nat.one_mul]
  omega
 have h3:q<g:=by
  rcases Nat.lt_or_ge q g with h|h
  ·exact h
  ·have:=Nat.mul_le_mul_right ((v1*B+v2)*P+Vr) h;omega
 omega
theorem aco(ic:0<v1)(hB:0<B)(hg:g*v1≤iS)(hgB:g≤B-1)(k8:v2≤B-1)(hVr:Vr<P)(ht:B≤iS-g*v1∨g*v2≤(iS-g*v1)*B+u3):(g-1)*((v1*B+v2)*P+Vr)≤(iS*B+u3)*P+Ur:=by
 have e2:g*(v1*B+v2)=g*v1*B+g*v2:=by rw[Nat.mul_add,Nat.mul_assoc]
 have e3:g*v1*B≤iS*B:=Nat.mul_le_mul_right _ hg;have e1:(iS-g*v1)*B=iS*B-g*v1*B:=Nat.sub_mul _ _ _;have h1:g*(v1*B+v2)≤iS*B+u3:=by
  rcases ht with ht|ht
  ·have h2:B*B≤(iS-g*v1)*B:=Nat.mul_le_mul_right _ ht;have h3:g*v2≤B*B:=Nat.mul_le_mul zO zO;omega
  ·omega
 have h2:g*(v1*B+v2)*P≤(iS*B+u3)*P:=Nat.mul_le_mul_right _ h1;have h3:g*Vr≤B*P:=Nat.mul_le_mul zO zO;have h4:B*P≤(v1*B+v2)*P:=Nat.mul_le_mul_right _ (by
  have:1*B≤v1*B:=Nat.mul_le_mul_right _ ic;omega)
 have h5:g*((v1*B+v2)*P+Vr)=g*(v1*B+v2)*P+g*Vr:=by rw[Nat.mul_add,Nat.mul_assoc]
 have h6:(g-1)*((v1*B+v2)*P+Vr)=g*((v1*B+v2)*P+Vr)-((v1*B+v2)*P+Vr):=by rw[Nat.sub_mul,Nat.one_mul]
 omega
end
def nth(l:List Nat)(j:Nat):Nat:=(l[j]?).getD 0
theorem Tj{l:List Nat}{j:Nat}(h:j<l.length):l[j]?=some (nth l j):=by
 unfold nth;rw[List.getElem?_eq_getElem h];rfl
theorem fP{l:List Nat}(h:aU l)(j:Nat):nth l j<gB:=by
 unfold nth;cases e:l[j]?with
 |none=>exact ee
 |some x=>exact h x (List.mem_of_getElem? e)
theorem Am{l:List Nat}{i j v:Nat}(h:i<l.length):nth (l.set i v) j=if i=j then v else nth l j:=by
 unfold nth;rw[List.getElem?_set];by_cases e:i=j
 ·subst e;simp[h]
 ·simp[e]
theorem agB{p r:List Nat}{x:Nat}:nth (p++x::r) p.length=x:=by simp[nth]
theorem z8{l:List Nat}{j v:Nat}(h:j<l.length):ao (l.set j v)+nth l j*gB^j=ao l+v*gB^j:=by
 induction l generalizing j with
 |nil=>simp at h
 |cons a l ih=>
  cases j with
  |zero=>simp only[List.set_cons_zero,ao,nth,List.getElem?_cons_zero,Option.getD_some,Nat.pow_zero,Nat.mul_one];omega
  |succ j=>
   have h2:=ih (j:=j) (by simpa using h);have e1:nth (a::l) (j+1)=nth l j:=by simp[nth]
   simp only[List.set_cons_succ,ao,e1,Nat.pow_succ];have e2:nth l j*(gB^j*gB)=gB*(nth l j*gB^j):=by rw[←Nat.mul_assoc,Nat.mul_comm]
   have e3:v*(gB^j*gB)=gB*(v*gB^j):=by rw[←Nat.mul_assoc,Nat.mul_comm]
   rw[e2,e3];have e4:gB*(ao (l.set j v)+nth l j*gB^j)=gB*(ao l+v*gB^j):=by rw[h2]
   rw[Nat.mul_add,Nat.mul_add]at e4;omega
theorem vW{l:List Nat}(h:aU l){j v:Nat}(hv:v<gB):aU (l.set j v):=by
 intro x hx;rcases List.mem_or_eq_of_mem_set hx with hx|rfl
 ·exact h x hx
 ·exact hv
theorem afG{a b:List Nat}(ha:aU a)(hb:aU b):aU (a++b):=fun x hx=>(List.mem_append.1 hx).elim (ha x) (hb x)
theorem Sk(n:Nat):aU (List.replicate n 0):=fun x hx=>by rw[(List.mem_replicate.1 hx).2];exact ee
theorem Sm(n:Nat):ao (List.replicate n 0)=0:=by
 induction n with
 |zero=>rfl
 |succ n ih=>rw[List.replicate_succ,ao,ih];rfl
theorem Ki(l:List Nat)(k:Nat)(h:k≤l.length):ao l=ao (l.take k)+gB^k*ao (l.drop k):=by
 conv=>lhs;rw[←List.take_append_drop k l]
 rw[vX,List.length_take,Nat.min_eq_left h]
theorem xT(p:List Nat)(x:Nat):ao (p++[x])=ao p+x*gB^p.length:=by
 rw[vX];simp only[ao,Nat.mul_zero,Nat.add_zero];rw[Nat.mul_comm]
theorem Nj{l:List Nat}{j t c a:Nat}(h:j<l.length)(ha:nth l j=a)(ht:t=c+a):ao (l.set j (t%gB))+(t/gB)*gB^(j+1)=ao l+c*gB^j:=by
 have h1:=z8 (v:=t%gB) h;have h2:t%gB*gB^j+t/gB*gB^(j+1)=t*gB^j:=by
  rw[Nat.pow_succ,←Nat.mul_assoc,Nat.mul_right_comm,←Nat.add_mul]
  congr 1
  have:=Nat.mod_add_div t gB;rw[Nat.mul_comm (t/gB)];exact this
 rw[ha]at h1;subst ht;rw[Nat.add_mul]at h2;omega
theorem Kj{l:List Nat}{k:Nat}(h:∀j,k≤j→nth l j=0):ao l=ao (l.take k):=by
 induction l generalizing k with
 |nil=>simp
 |cons a l ih=>
  cases k with
  |zero=>
   have h1:a=0:=by simpa[nth]using h 0 (Nat.le_refl _)
   have h2:=ih (k:=0) (fun j _=>by simpa[nth]using h (j+1) (Nat.zero_le _));simp only[List.take_zero]at h2⊢;simp[ao,h1,h2]
  |succ k=>
   have h2:=ih (k:=k) (fun j hj=>by simpa[nth]using h (j+1) zO);simp only[List.take_succ_cons,ao,h2]
theorem agA(l:List Nat)(j:Nat):nth l j*gB^j≤ao l:=by
 induction l generalizing j with
 |nil=>simp[nth,ao]
 |cons a l ih=>
  cases j with
  |zero=>simp[nth,ao]
  |succ j=>
   have h:=ih j;have e1:nth (a::l) (j+1)=nth l j:=by simp[nth]
   rw[e1,ao,Nat.pow_succ];have e2:nth l j*(gB^j*gB)=gB*(nth l j*gB^j):=by rw[←Nat.mul_assoc,Nat.mul_comm]
   rw[e2];have:=Nat.mul_le_mul_left gB h;omega
theorem Tk{l:List Nat}{n j:Nat}(h:ao l<gB^n)(hj:n≤j):nth l j=0:=by
 have h1:=agA l j;rcases Nat.eq_zero_or_pos (nth l j)with h2|h2
 ·exact h2
 ·have h3:gB^n≤gB^j:=Nat.pow_le_pow_right ee hj;have h4:1*gB^j≤nth l j*gB^j:=Nat.mul_le_mul_right _ h2;omega
theorem afH{l:List Nat}(h:aU l)(i:Nat):ao (l.drop i)=ao l/gB^i:=by
 rcases Nat.lt_or_ge l.length i with g|g
 ·rw[List.drop_of_length_le zO];have h1:=uv h;have h2:gB^l.length≤gB^i:=Nat.pow_le_pow_right ee zO;rw[Nat.div_eq_of_lt zO];rfl
 ·have h1:=Ki l i g;have h2:=uv (m:=l.take i) (fun x hx=>h x (List.mem_of_mem_take hx));rw[List.length_take,Nat.min_eq_left g]at h2;rw[h1,Nat.add_mul_div_left _ _ (Nat.pow_pos ee),Nat.div_eq_of_lt h2];omega
theorem w6{l:List Nat}{i:Nat}(h:i<l.length):l.drop i=nth l i::l.drop (i+1):=by
 rw[List.drop_eq_getElem_cons h];simp[nth,h]
theorem amK{l:List Nat}{n:Nat}(h:n+3=l.length):ao l=((nth l (n+2)*gB+nth l (n+1))*gB+nth l n)*gB^n+ao (l.take n):=by
 rw[Ki l n zO,w6 zO,w6 zO,w6 zO,List.drop_of_length_le zO];simp only[ao,Nat.mul_zero,Nat.add_zero];rw[Nat.mul_comm (gB^n)];have:nth l n+gB*(nth l (n+1)+gB*nth l (n+2))=(nth l (n+2)*gB+nth l (n+1))*gB+nth l n:=by
  rw[Nat.mul_add,Nat.add_mul,Nat.mul_comm gB (nth l (n+1)),Nat.mul_comm (nth l (n+2)) gB,Nat.mul_comm (gB*nth l (n+2)) gB];omega
 rw[this];omega
theorem amJ{l:List Nat}{n:Nat}(h:n+2=l.length):ao l=(nth l (n+1)*gB+nth l n)*gB^n+ao (l.take n):=by
 rw[Ki l n zO,w6 zO,w6 zO,List.drop_of_length_le zO];simp only[ao,Nat.mul_zero,Nat.add_zero];rw[Nat.mul_comm (gB^n)];have:nth l n+gB*nth l (n+1)=nth l (n+1)*gB+nth l n:=by rw[Nat.mul_comm gB];omega
 rw[this];omega
def jv:List Nat→Nat→List Nat×Nat
 |[],_=>([],0)
 |a::l,d=>(((jv l d).2*gB+a)/d::(jv l d).1,((jv l d).2*gB+a)%d)
theorem LN(l:List Nat){d:Nat}(hd:0<d):(jv l d).2<d:=by
 cases l with
 |nil=>exact hd
 |cons a l=>exact Nat.mod_lt _ hd
theorem ajK(l:List Nat)(d:Nat):(jv l d).1.length=l.length:=by
 induction l with
 |nil=>rfl
 |cons a l ih=>simp[jv,ih]
theorem ajI{r a d:Nat}(hr:r<d)(hd:d<gB)(ha:a<gB):r*gB+a<18446744073709551616:=by
 have:r*gB≤999999999*gB:=Nat.mul_le_mul_right _ (by unfold gB at*;omega);unfold gB at*;omega
theorem ajL{l:List Nat}{d:Nat}(hl:aU l)(hd:0<d):aU (jv l d).1:=by
 induction l with
 |nil=>intro x hx;simp[jv]at hx
 |cons a l ih=>
  intro x hx;simp only[jv,List.mem_cons]at hx;rcases hx with rfl|hx
  ·have h1:=LN l hd;have h2:=hl a zS;rw[Nat.div_lt_iff_lt_mul hd];have h3:((jv l d).2+1)*gB≤d*gB:=Nat.mul_le_mul_right _ h1;rw[Nat.add_mul]at h3;rw[Nat.mul_comm gB d];omega
  ·exact ih (fun y hy=>hl y (by simp[hy])) x hx
theorem ajM(l:List Nat)(d:Nat):ao l=ao (jv l d).1*d+(jv l d).2:=by
 induction l with
 |nil=>simp[jv,ao]
 |cons a l ih=>
  have h:=Nat.div_add_mod ((jv l d).2*gB+a) d;simp only[jv,ao];rw[ih];generalize (jv l d).2=r at*;generalize ao (jv l d).1=q at*;generalize (r*gB+a)/d=u at*;generalize (r*gB+a)%d=v at*;rw[Nat.mul_add,Nat.add_mul,Nat.mul_comm u d,←Nat.mul_assoc,Nat.mul_comm gB r];omega
theorem mulN{a:Nat}{b:Int}{c:Nat}(hb:b=(c:Int))(h:a*c<18446744073709551616):IntKind.u64.wrap ((a:Int)*b)=((a*c:Nat):Int):=by
 subst hb;have e:(a:Int)*(c:Int)=((a*c:Nat):Int):=by simp
 rw[e];exact u5 zO zO
theorem Lz{a d:Nat}(h:a<18446744073709551616):IntKind.u64.wrap ((a:Int).tdiv (d:Int))=((a/d:Nat):Int):=by
 have e:(a:Int).tdiv (d:Int)=((a/d:Nat):Int):=by
  rw[Int.tdiv_eq_ediv_of_nonneg zO];simp
 rw[e];have:a/d≤a:=Nat.div_le_self _ _;generalize a/d=q at this⊢;exact u5 zO zO
theorem ai0(a d:Nat):(a:Int).tmod (d:Int)=((a%d:Nat):Int):=by
 rw[Int.tmod_eq_emod_of_nonneg zO];simp
theorem Uw(i:List Nat)(x:Nat)(s:List Nat):List.replicate (i++[x]).length 0++s=List.replicate i.length 0++0::s:=by simp[List.replicate_succ']
theorem aae{i:List Nat}{x:Nat}{s:List Nat}:(bD (List.replicate (i++[x]).length 0++s))[i.length]?=some [.raw (.int .u64 ((0:Nat):Int))]:=by
 rw[Uw];have h:=fY (List.replicate i.length 0) 0 s;rw[List.length_replicate]at h;exact h
theorem aaf{i:List Nat}{x:Nat}{s:List Nat}{q:Nat}:(bD (List.replicate (i++[x]).length 0++s)).set i.length [.raw (.int .u64 (q:Int))]=bD (List.replicate i.length 0++q::s):=by
 rw[Uw];have h:=tO (List.replicate i.length 0) 0 q s;rw[List.length_replicate]at h;exact h
theorem iD{out:List Nat}{j:Nat}(h:j<out.length):(bD out)[j]?=some [.raw (.int .u64 (nth out j:Int))]:=by
 simp[bD,Tj h]
theorem tP{out:List Nat}{j v:Nat}:(bD out).set j [.raw (.int .u64 (v:Int))]=bD (out.set j v):=by
 simp[bD,List.map_set]
def TI(out:List Nat)(c i k V a:Nat)(pre:List Nat):Prop:=
 aU out∧c<gB∧ao out+c*gB^(i+pre.length)=V+a*ao pre*gB^i∧∀j,i+k≤j→nth out j=0
def TO(out:List Nat)(i k V:Nat):Prop:=aU out∧ao out=V∧∀j,i+k≤j→nth out j=0
theorem Mr{out:List Nat}{i k V:Nat}(a:Nat)(h:TO out i k V):TI out 0 i k V a []:=⟨h.1,ee,by simp[ao,h.2.1],h.2.2⟩
theorem Mw(x y:List Nat)(n:Nat):TO (List.replicate n 0) 0 y.length (ao []*ao y):=⟨Sk n,by rw[Sm];simp[ao],fun j _=>by
 unfold nth;rw[List.getElem?_replicate];split<;>rfl⟩
theorem Mv{c n a b:Nat}(hc:c<gB)(hn:n<gB)(ha:a<gB)(hb:b<gB):c+(n+a*b)<gB*gB:=by
 have h1:a*b≤(gB-1)*(gB-1):=Nat.mul_le_mul zO zO;unfold gB at*;omega
theorem vb{c n a b:Nat}(hc:c<gB)(hn:n<gB)(ha:a<gB)(hb:b<gB):a*b<18446744073709551616∧n+a*b<18446744073709551616∧c+(n+a*b)<18446744073709551616:=by
 have h:=Mv hc hn ha hb;have h2:gB*gB<18446744073709551616:=by decide
 omega
theorem Ms{out pre:List Nat}{c i k V a b:Nat}(h:TI out c i k V a pre)(ha:a<gB)(hb:b<gB)(hk:pre.length<k)(hl:i+pre.length<out.length):
  TI (out.set (i+pre.length) ((c+(nth out (i+pre.length)+a*b))%gB)) ((c+(nth out (i+pre.length)+a*b))/gB) i k V a (pre++[b]):=by
 obtain⟨h1,h2,h3,h4⟩:=h;have iG:=Mv h2 (fP h1 (i+pre.length)) ha hb;refine⟨vW h1 (Nat.mod_lt _ ee),?_,?_,fun j hj=>?_⟩
 ·rw[Nat.div_lt_iff_lt_mul ee];exact iG
 ·have hs:=Nj (t:=c+(nth out (i+pre.length)+a*b)) (c:=c+a*b) hl rfl zO;rw[List.length_append,show i+(pre.length+[b].length)=i+pre.length+1 by simp;omega,hs,Nat.add_mul,←Nat.add_assoc,h3,xT,Nat.mul_add,Nat.add_mul,Nat.pow_add];rw[Nat.add_assoc]
  congr 2
  rw[Nat.mul_comm (gB^i),←Nat.mul_assoc,←Nat.mul_assoc]
 ·rw[Am hl,if_neg zO];exact h4 j hj
theorem Mt{out pre y:List Nat}{c a k:Nat}(h:TI out c pre.length y.length (ao pre*ao y) a y)(hk:0<y.length)(hl:pre.length+y.length<out.length)(hn:k=nth out (pre.length+y.length)+c):
  TO (out.set (pre.length+y.length) k) (pre++[a]).length y.length (ao (pre++[a])*ao y):=by
 obtain⟨h1,h2,h3,h4⟩:=h;have h0:=h4 (pre.length+y.length) (Nat.le_refl _);subst hn;have hs:=z8 (v:=nth out (pre.length+y.length)+c) hl;rw[h0]at hs;rw[h0];refine⟨vW h1 zO,?_,fun j hj=>?_⟩
 ·simp only[Nat.zero_mul,Nat.zero_add,Nat.add_zero]at hs⊢;rw[hs,h3,xT,Nat.add_mul]
  congr 1
  rw[Nat.mul_right_comm]
 ·simp only[List.length_append,List.length_cons,List.length_nil]at hj;rw[Am hl,if_neg zO];exact h4 j zO
theorem Mu{out pre y:List Nat}{c a:Nat}(h:TI out c pre.length y.length (ao pre*ao y) a y)(hk:y.length=0):
  TO out (pre++[a]).length y.length (ao (pre++[a])*ao y):=by
 obtain⟨h1,h2,h3,h4⟩:=h;have e:=List.eq_nil_of_length_eq_zero hk;subst e;refine⟨h1,?_,fun j hj=>h4 j (by simp at hj⊢;omega)⟩;simp only[ao,Nat.mul_zero,Nat.zero_mul]at h3⊢;omega
theorem DD{out x y:List Nat}{i k:Nat}(h:TO out i k (ao x*ao y)):bp out=ak (ao x*ao y):=by rw[tJ h.1,h.2.1]
variable[bT]
theorem Vr.Tp{w:World}{O:Nat→Prop}{b sz:Nat}:∀(rows:List (List D))(off:Nat),rows.all (fun r=>Nat.beq r.length sz)=true→Vc w O b off rows.flatten→Vr w O b off sz rows
 |[],off,_,_=>by simp[Vr]
 |r::rs,off,hl,h=>by
  simp only[List.all_cons,Bool.and_eq_true,Nat.beq_eq]at hl;have h1:=h.take r.length;have h2:=h.drop r.length;simp only[List.flatten_cons,List.take_left,List.drop_left]at h1 h2;simp only[Vr];exact⟨⟨hl.1,h1⟩,Vr.Tp rs (off+sz) hl.2 (hl.1▸h2)⟩
theorem aiH{P:Program}{env:Env}{dst:Option Tmp}{ty:TypeId}{pos:String}{au:Array Edge}{g:Option (Nat×Bool)}{t e:TypeId}{x:Operand}{n sz:Nat}{cs:List D}{rows:List (List D)}(hu:P.underlying t=some (.array n e))(hs:∀w,(sizeOf e).run P w=.ok sz w)(hx:env.op x=some (.bz cs))(hn:0<n)(vH:n<4611686018427387904)
  (hr:rows.flatten=cs)(hl:rows.length=n)(gO:rows.all (fun r=>Nat.beq r.length sz)=true)(hb:n≤aH)(J:aa):
  aq P ⟨dst,.slice t x none none none,ty,pos,au,g⟩ env J (.snap sz true rows) J:=
 .val fun O ρ a w _ hv=>by
  have h1:=hv x (by simp[Op.operands]) _ hx;simp only[V]at h1;obtain⟨b,off,e1,ho,h2⟩:=h1;have BA:(Instr.sliceBounds false n n none none none).run P w=.ok (0,n,n) w:=by simp[Instr.sliceBounds]
  refine⟨.slice (some ⟨b,off,none⟩) n n,?_,?_⟩
  ·simp[execOp,Instr.sliceAt,Instr.sureAddr,cg hu,e1,BA,hs,Ha]
  ·simp only[V];refine⟨_,n,by rw[hl],⟨by omega,by omega⟩,fun _=>hl.symm,fun _=>⟨b,off,rfl,ho,?_⟩⟩;exact Vr.Tp rows off gO (hr▸h2)
theorem Ue{P:Program}{env:Env}{dst:Option Tmp}{ty:TypeId}{pos:String}{au:Array Edge}{g:Option (Nat×Bool)}{t e:TypeId}{x y:Operand}{n sz:Nat}{k:IntKind}{i:Int}{cs r:List D}(hu:P.underlying t=some (.array n e))(ha:∀w,(isAgg e).run P w=.ok true w)(hs:∀w,(sizeOf e).run P w=.ok sz w)
  (hx:env.op x=some (.agg cs))(hy:env.op y=some (.raw (.int k i)))(h0:0≤i)(hi:i<n)(hl:i.toNat*sz+sz≤cs.length)(hr:(cs.drop (i.toNat*sz)).take sz=r)(J:aa):
  aq P ⟨dst,.index t x y,ty,pos,au,g⟩ env J (.agg r) J:=
 .val fun O ρ a w _ hv=>by
  have h1:=hv x (by simp[Op.operands]) _ hx;have h2:=hv y (by simp[Op.operands]) _ hy;simp only[V]at h1 h2;obtain⟨vs,e1,h3⟩:=h1;refine⟨.agg (vs.extract (i.toNat*sz) (i.toNat*sz+sz)),?_,?_⟩
  ·simp[execOp,Instr.index,h2,asIntOf,cg hu,e1,h0,hi,hs,part,ha]
  ·simp only[V];refine⟨_,rfl,?_⟩;rw[Array.toList_extract,List.extract_eq_take_drop,←hr,Nat.add_sub_cancel_left];exact Vs.take sz (Vs.drop (i.toNat*sz) h3)
end Go.T
namespace Go.T
open Go Go.Proofs Go.Proofs.Tryz
set_option maxRecDepth 20000
structure ajY(m:List Nat)(d:Nat)where
 lo:List Nat
 rest:List Nat
 hx:m=lo++rest
theorem ajX(m:List Nat)(d:Nat)(hm:m.length≠0)(hs:m.length≤40000)(ho:aU m)(hd:0<d)(I4:d<gB):Fc Tryz.prog 342 [bc m,.raw (.int .u64 (d:Int))] (.bl [bc (bp (jv m d).1),.raw (.int .u64 ((jv m d).2:Int))]):=by
 refine pO func342 ntmps342 results342 ?_;refine U.seq<|rg<|.ag rfl rfl<|.ag rfl rfl<|.nil<|U.seq<|rg<|.mv rfl rfl<|.P rfl (cC underlying188 rfl)<|.W rfl (AD (bt:=8) 0 m.length underlying188 sizeOf243 typeInfo243 zeroValue243 rfl rfl rfl rfl rfl (by simp[bD]) (by simp[bD]) (Nat.le_refl m.length) zO zO zO rfl)<|.ag rfl rfl<|.nil<|U.seq<|rg<|.ag rfl rfl<|.nil<|U.seq<|U.seq<|rg<|.mv rfl rfl<|.P rfl (cC underlying188 rfl)<|.P rfl (fp rfl rfl (aW zO zQ))<|.ag rfl rfl<|.nil<|U.block<|U.loop (ι:=ajY m d) (fun sx=>[(7,.raw (.int .u64 ((jv sx.rest d).2:Int))),(8,.i ((sx.lo.length:Int)-1)),(6,.gs 0 m.length),(0,bc m),(1,.raw (.int .u64 (d:Int)))]) (fun sx=>[(0,.arr 1 (bD (List.replicate sx.lo.length 0++(jv sx.rest d).1)))]) (fun sx=>sx.lo.length) ⟨m,[],by simp⟩ ?_ ?_
 ·exact Le.mk rfl (.s rfl rfl (.cons rfl (Sub.int zS) rfl (.cons rfl (Sub.gs zS) rfl (.n 2 rfl rfl .nil)))) (.arr rfl (by simp[bD,jv]) .nil)
 ·rintro⟨lo,rest,hx⟩;dsimp only;rcases nS lo with rfl|⟨i,x,rfl⟩
  ·obtain rfl:m=rest:=by simpa using hx
   refine U.seq<|U.seq<|rg<|.mv rfl rfl<|.P rfl (tm rfl rfl)<|.nil<|U.fG rfl zS<|U.exit (fc (eY ?_));refine U.bC (Le.freeze 6 0 rfl rfl (by simp[bD,ajK])) ?_;refine U.seq<|rg<|.mv rfl rfl<|.P rfl (aj call158 rfl (si _))<|.mv rfl rfl<|.ag rfl rfl<|.ag rfl rfl<|.nil<|U.ret (?_);exact uM rfl rfl (Sub.refl _) (Sub.refl _)
  ·have hl:=congrArg List.length hx;simp only[List.length_append,List.length_cons,List.length_nil]at hl;have nE:=ho x (by rw[hx];simp);have hr:=LN rest hd;have I0:=ajI hr I4 nE;refine U.seq<|U.seq<|rg<|.mv rfl rfl<|.P rfl (tm rfl rfl)<|.nil<|U.iY rfl zS<|U.skip<|U.seq<|U.block<|U.seq<|rg<|.mv rfl rfl<|.P rfl (wh rfl rfl (mulN (c:=gB) zD zO))<|.mv rfl rfl<|.mv rfl rfl<|.P rfl (iR underlying188 sizeOf243 rfl rfl zS (ui (l:=m) (k:=i.length) (b:=x) (r:=rest) (by simp[hx]) zS))<|.P rfl (cG isAgg243 rfl)<|.P rfl (cn rfl rfl (addN zO))<|.ag rfl rfl<|.nil<|U.seq<|rg<|.mv rfl rfl<|.mv rfl rfl<|.mv rfl rfl<|.mv rfl rfl<|.P rfl (oJ rfl rfl zO (Lz zO))<|.P rfl (b8 (off:=(i.length)*1) underlying188 sizeOf243 rfl rfl zS zQ zS)<|.W rfl (jd (r:=_) (i.length) 0 sizeOf243 rfl rfl rfl rfl rfl rfl aae zS)<|.nil<|rg<|.mv rfl rfl<|.mv rfl rfl<|.P rfl (qW rfl rfl zO (ai0 _ _))<|.ag rfl rfl<|.nil<|U.nil (dv ?_);refine rg<|.mv rfl rfl<|.P rfl (fp rfl rfl (aW zO zQ))<|.ag rfl rfl<|.nil<|U.nil (dx ?_);exact⟨⟨i,x::rest,by rw[hx];simp⟩,by simp,Le.mk rfl (.s rfl rfl (.cons rfl (Sub.int zS) rfl (.cons rfl (Sub.gs zS) rfl (.n 2 rfl rfl .nil)))) (.arr rfl (by exact aaf) .nil)⟩
structure ak7(m n:List Nat)where
 pre:List Nat
 rest:List Nat
 out:List Nat
 hx:m=pre++rest
 hlen:out.length=m.length+n.length
 ho:TO out pre.length n.length (ao pre*ao n)
structure ak8(m n:List Nat)(pre:List Nat)(x:Nat)where
 av:List Nat
 aN:List Nat
 out:List Nat
 c:Nat
 bg:n=av++aN
 hlen:out.length=m.length+n.length
 hi:TI out c pre.length n.length (ao pre*ao n) x av
theorem VB(m n:List Nat)(hm:m.length+n.length≠0)(hms:m.length≤20000)(Jv:n.length≤20000)(Js:aU m)(cz:aU n):Fc Tryz.prog 332 [bc m,bc n] (bc (ak (ao m*ao n))):=by
 refine bE func332 ntmps332 results332 ?_;refine go [16]<|sd (aW zO zQ)<|oW (AD (bt:=8) 0 (m.length+n.length) underlying188 sizeOf243 typeInfo243 zeroValue243 rfl rfl rfl rfl rfl (by simp[bD]) (by simp[bD]) (Nat.le_refl (m.length+n.length)) zO zO zO rfl)<|U.loop (ι:=ak7 m n) (fun sx=>[(17,bc m),(18,.i m.length),(1,bc n),(5,.gs 0 (m.length+n.length)),(19,.i sx.pre.length)]) (fun sx=>[(0,.arr 1 (bD sx.out))]) (fun sx=>sx.rest.length) ⟨[],m,List.replicate (m.length+n.length) 0,rfl,by simp,Mw m n _⟩ ?_ ?_
 ·exact Le.mk rfl (.s rfl rfl (.cons rfl (Sub.int zS) rfl (.s rfl rfl (.cons rfl (Sub.gs zS) rfl (.s rfl rfl .nil))))) (.arr rfl (by simp[bD]) .nil)
 ·rintro⟨pre,rest,out,hx,hlen,ho⟩;dsimp only;rcases lc hx with⟨rfl,hl⟩|⟨x,rest,rfl,hl⟩
  ·obtain rfl:m=pre:=by simpa using hx
   refine go [16]<|aQ zS<|go [16] ?_;refine U.bC (Le.freeze 5 0 rfl rfl (by simp[bD];omega)) ?_;exact go []<|oP (aj call158 rfl (si _))<|an rfl (Sub.snap (by rw[DD ho]))
  ·have kf:=Js x (by rw[hx];simp);refine go [16]<|bM zQ<|ix zO (bb (fun(n:Nat)=>[D.raw (.int .u64 (n:Int))]) hx rfl)<|U.loop (ι:=ak8 m n pre x) (fun sx=>[(17,bc m),(18,.i m.length),(1,bc n),(5,.gs 0 (m.length+n.length)),(19,.i pre.length),(6,.i pre.length),(7,.raw (.int .u64 (x:Int))),(24,bc n),(25,.i n.length),(8,.raw (.int .u64 (sx.c:Int))),(26,.i sx.av.length)]) (fun sx=>[(0,.arr 1 (bD sx.out))]) (fun sx=>sx.aN.length) ⟨[],n,out,0,rfl,hlen,Mr _ ho⟩ ?_ ?_
   ·exact Le.mk rfl (.n 3 rfl rfl (.cons rfl (Sub.gs zS) rfl (.n 4 rfl rfl (.cons rfl (Sub.int zS) rfl (.n 2 rfl rfl .nil))))) (.arr rfl (by rfl) .nil)
   ·rintro⟨av,aN,out,c,bg,hlen,hi⟩;dsimp only;rcases lc bg with⟨rfl,bW⟩|⟨x2,aN,rfl,bW⟩
    ·obtain rfl:n=av:=by simpa using bg
     refine go [16]<|aQ zS<|go [16]<|br (fun h1=>?_) (fun h1=>?_)
     ·exact sd (aW zO zQ)<|oP (b8 (off:=(pre.length+n.length)*1) underlying188 sizeOf243 rfl rfl zO zQ zQ)<|oR (fN (r:=_) (pre.length+n.length) 0 isAgg243 rfl rfl rfl (iD (by simp at*;omega)) rfl)<|sd ((addN (by have:=fP hi.1 (pre.length+n.length);have:=hi.2.1;unfold gB at*;omega)))<|oP (b8 (off:=(pre.length+n.length)*1) underlying188 sizeOf243 rfl rfl zO zQ zQ)<|oW (jd (r:=_) (pre.length+n.length) 0 sizeOf243 rfl rfl rfl rfl rfl rfl (iD (by simp at*;omega)) zS)<|go [16]<|sd (aB zO)<|nx ⟨pre++[x],rest,out.set (pre.length+n.length) (nth out (pre.length+n.length)+c),by simp[hx],by simp[hlen],Mt hi (by simp at*;omega) (by simp at*;omega) rfl⟩ zS (Le.mk rfl (.n 3 rfl rfl (.cons rfl (Sub.gs zS) rfl (.cons rfl (Sub.int zS) rfl .nil))) (.arr rfl (by exact tP) .nil))
     ·exact go [16]<|sd (aB zO)<|nx ⟨pre++[x],rest,out,by simp[hx],hlen,Mu hi (by simp at*;omega)⟩ zS (Le.mk rfl (.n 3 rfl rfl (.cons rfl (Sub.gs zS) rfl (.cons rfl (Sub.int zS) rfl .nil))) (.arr rfl (by rfl) .nil))
    ·have rH:=cz x2 (by rw[bg];simp);exact go [16]<|bM zQ<|ix zO (bb (fun(n:Nat)=>[D.raw (.int .u64 (n:Int))]) bg rfl)<|sd (aB zO)<|oP (b8 (off:=(pre.length+av.length)*1) underlying188 sizeOf243 rfl rfl zO zO zO)<|oR (fN (r:=_) (pre.length+av.length) 0 isAgg243 rfl rfl rfl (iD (by simp at*;omega)) rfl)<|sd ((mulN rfl (vb hi.2.1 (fP hi.1 (pre.length+av.length)) kf rH).1))<|sd ((addN (vb hi.2.1 (fP hi.1 (pre.length+av.length)) kf rH).2.1))<|sd ((addN (vb hi.2.1 (fP hi.1 (pre.length+av.length)) kf rH).2.2))<|sd (aB zO)<|oP (qW rfl rfl zD (uL _))<|oP (b8 (off:=(pre.length+av.length)*1) underlying188 sizeOf243 rfl rfl zO zO zO)<|oW (jd (r:=_) (pre.length+av.length) 0 sizeOf243 rfl rfl rfl rfl rfl rfl (iD (by simp at*;omega)) zS)<|oP (oJ rfl rfl zD (wm (vb hi.2.1 (fP hi.1 (pre.length+av.length)) kf rH).2.2))<|sd (aB zO)<|nx ⟨av++[x2],aN,out.set (pre.length+av.length) ((c+(nth out (pre.length+av.length)+x*x2))%gB),(c+(nth out (pre.length+av.length)+x*x2))/gB,by simp[bg],by simp[hlen],Ms hi kf rH zO zO⟩ zS (Le.mk rfl (.n 3 rfl rfl (.cons rfl (Sub.gs zS) rfl (.n 6 rfl rfl (.cons rfl (Sub.int zS) rfl .nil)))) (.arr rfl (by exact tP) .nil))
end Go.T
namespace Go.T
open Go
variable[bT]
variable{P:Program} {env:Env} {dst:Option Tmp} {ty:TypeId} {pos:String} {au:Array Edge} {g:Option (Nat×Bool)}
theorem G7{w:World}{O:Nat→Prop}{b sz:Nat}:∀(rows:List (List D))(off h:Nat),Vr w O b off sz rows→Vr w O b off sz (rows.take h)
 |[],_,h,_=>by simp[Vr]
 |r::rs,off,0,_=>by simp[Vr]
 |r::rs,off,h+1,hv=>by
  simp only[Vr,List.take_succ_cons]at hv⊢;exact⟨hv.1,G7 rs _ h hv.2⟩
theorem acK{w:World}{b:Nat}{bw:Obj}(h:w.heap[b]?=some bw):({w with heap:=w.heap.setIfInBounds b bw}:World)=w:=by
 have e:w.heap.setIfInBounds b bw=w.heap:=by
  apply Array.ext_getElem?;intro i;rw[Array.getElem?_setIfInBounds];split
  ·rename_i e;subst e;have:=(Array.getElem?_eq_some_iff.1 h).1;simp[this,h.symm]
  ·rfl
 rw[e]
theorem Tr.shrink{O:Nat→Prop}{w:World}{ρ:aC}{J:aa}{id sz:Nat}{rows:List (List D)}(h:Nat)(af:di w O ρ J)(ho:J.get id=some (.arr sz rows))(aG:rows≠[]):Tr O w ρ J w ρ (J.set id (.arr sz (rows.take h))):=by
 have sK:(Ob.arr sz rows).live=true:=by
  cases rows
  ·exact absurd rfl aG
  ·rfl
 obtain⟨l,h3,h4,c,T,h5,h6,h7,h8⟩:=af.own id _ ho sK;have hs:=acK h5;have:=Tr.cv (o':=.arr sz (rows.take h)) af ho sK h3 (.cells c T (0,0)) (by
  rw[hs];intro hk;exact⟨c,T,h5,h6,⟨by simp;omega,by simp;omega⟩,G7 _ _ _ (iV.mono.vr hk rfl _ _ h8)⟩)
 rw[hs]at this;exact this
theorem aiG{J:aa}{t e:TypeId}{x y:Operand}{k:IntKind}{sz id n h:Nat}{rows:List (List D)}(hu:P.underlying t=some (.slice e))(hs:∀w,(sizeOf e).run P w=.ok sz w)(hx:env.op x=some (.gs id n))
  (hy:env.op y=some (.raw (.int k (h:Int))))(ho:J.get id=some (.arr sz rows))(hn:rows.length=n)(hh:h≤n)(h0:h≠0):
  aq P ⟨dst,.slice t x none (some y) none,ty,pos,au,g⟩ env J (.gs id h) (J.set id (.arr sz (rows.take h))):=
 .step fun O ρ a w af hv=>by
  have h1:=hv x (by simp[Op.operands]) _ hx;have h2:=hv y (by simp[Op.operands]) _ hy;simp only[V]at h1 h2;rcases h1 with⟨h1,_⟩|⟨_,l,h3,e1⟩
  ·omega
  ·have aG:rows≠[]:=by rintro rfl;simp at hn;omega
   have sK:(Ob.arr sz rows).live=true:=by
    cases rows
    ·exact absurd rfl aG
    ·rfl
   obtain⟨l',g3,g4,c,T,g5,g6,g7,g8⟩:=af.own id _ ho sK;rw[h3]at g3;cases g3;have ct:h≤l.cap:=by omega
   have hb:(Instr.sliceBounds true n l.cap none (some (.int k h)) none).run P w=.ok (0,h,l.cap) w:=by
    simp[Instr.sliceBounds,Dd,ct]
   refine⟨.slice (some ⟨l.b,l.off,none⟩) h l.cap,w,ρ,.inl ?_,Tr.shrink h af ho aG,?_⟩
   ·simp[execOp,Instr.sliceAt,Instr.slice,cg hu,e1,h2,hb,hs,addr_add]
   ·simp only[V];exact .inr ⟨h0,l,h3,rfl⟩
end Go.T
namespace Go.T
open Go
def MS(a0 a:List Nat)(g c i k:Nat)(pre:List Nat):Prop:=
 aU a∧c<gB∧a.length=a0.length∧ao a+g*ao pre*gB^i=ao a0+c*gB^(i+pre.length)∧∀j,i+k≤j→nth a j=nth a0 j
theorem Wi{a:List Nat}(h:aU a)(g i k:Nat):MS a a g 0 i k []:=⟨h,ee,rfl,by simp[ao],fun _ _=>rfl⟩
theorem GX{g b c:Nat}(hg:g<gB)(hb:b<gB)(hc:c<gB):g*b+c≤(gB-1)*gB:=by
 have h1:g*b≤(gB-1)*(gB-1):=Nat.mul_le_mul zO zO;unfold gB at*;omega
theorem GY{g b c:Nat}(hg:g<gB)(hb:b<gB)(hc:c<gB):g*b<18446744073709551616∧g*b+c<18446744073709551616:=by
 have h:=GX hg hb hc;have h2:(gB-1)*gB<18446744073709551616:=by decide
 omega
theorem Wj{g b c x:Nat}(hg:g<gB)(hb:b<gB)(hc:c<gB)(hx:x<(g*b+c)%gB):(g*b+c)/gB+1<gB:=by
 have h:=GX hg hb hc;rcases Nat.lt_or_ge ((g*b+c)/gB) (gB-1)with h1|h1
 ·omega
 ·exfalso;have h2:=Nat.div_add_mod (g*b+c) gB;have h3:gB*(gB-1)≤gB*((g*b+c)/gB):=Nat.mul_le_mul_left _ h1;rw[Nat.mul_comm gB (gB-1)]at h3;omega
theorem Mo{g b c:Nat}(hg:g<gB)(hb:b<gB)(hc:c<gB):(g*b+c)/gB<gB:=by
 rw[Nat.div_lt_iff_lt_mul ee];have h:=GX hg hb hc;have h2:(gB-1)*gB<gB*gB:=by decide
 omega
theorem Mn{a0 a pre:List Nat}{g c i k b v e:Nat}(h:MS a0 a g c i k pre)(hg:g<gB)(hb:b<gB)(hk:pre.length<k)(hl:i+pre.length<a.length)
  (hv:v+(g*b+c)%gB=nth a (i+pre.length)+e*gB)(hvB:v<gB)(hc:(g*b+c)/gB+e<gB):
  MS a0 (a.set (i+pre.length) v) g ((g*b+c)/gB+e) i k (pre++[b]):=by
 obtain⟨h1,h2,h3,h4,h5⟩:=h;refine⟨vW h1 hvB,hc,by simpa using h3,?_,fun j hj=>?_⟩
 ·have hs:=z8 (v:=v) hl;have hd:=Nat.div_add_mod (g*b+c) gB;rw[xT,List.length_append,List.length_singleton,←Nat.add_assoc,Nat.pow_succ];generalize (g*b+c)/gB=u at*;generalize (g*b+c)%gB=w at*;generalize nth a (i+pre.length)=z at*;have e1:g*(ao pre+b*gB^pre.length)*gB^i=g*ao pre*gB^i+g*b*gB^(i+pre.length):=by
   rw[Nat.mul_add,Nat.add_mul,Nat.pow_add,←Nat.mul_assoc g b,Nat.mul_assoc (g*b),Nat.mul_comm (gB^pre.length)]
  rw[e1];generalize gB^(i+pre.length)=P at*;have e2:(v+w)*P=(z+e*gB)*P:=by rw[hv]
  have e3:(gB*u+w)*P=(g*b+c)*P:=by rw[hd]
  have e4:(u+e)*(P*gB)=gB*u*P+e*gB*P:=by
   rw[Nat.add_mul,Nat.mul_comm P gB,←Nat.mul_assoc,←Nat.mul_assoc,Nat.mul_comm u gB]
  rw[e4];rw[Nat.add_mul,Nat.add_mul]at e2 e3;omega
 ·rw[Am hl,if_neg zO];exact h5 j hj
def AB(a1 a:List Nat)(d i k:Nat)(pre:List Nat):Prop:=
 aU a∧d≤1∧a.length=a1.length∧ao a+d*gB^(i+pre.length)=ao a1+ao pre*gB^i∧∀j,i+k≤j→nth a j=nth a1 j
theorem V6{a:List Nat}(h:aU a)(i k:Nat):AB a a 0 i k []:=⟨h,by omega,rfl,by simp[ao],fun _ _=>rfl⟩
theorem V7{a1 a pre:List Nat}{d i k b:Nat}(h:AB a1 a d i k pre)(hb:b<gB)(hk:pre.length<k)(hl:i+pre.length<a.length):
  AB a1 (a.set (i+pre.length) ((nth a (i+pre.length)+(b+d))%gB)) ((nth a (i+pre.length)+(b+d))/gB) i k (pre++[b]):=by
 obtain⟨h1,h2,h3,h4,h5⟩:=h;have hn:=fP h1 (i+pre.length);refine⟨vW h1 (Nat.mod_lt _ ee),?_,by simpa using h3,?_,fun j hj=>?_⟩
 ·have:nth a (i+pre.length)+(b+d)<gB*2:=by omega
  have:=Nat.div_lt_of_lt_mul this;omega
 ·have hs:=Nj (t:=nth a (i+pre.length)+(b+d)) (c:=b+d) hl rfl zO;rw[xT,List.length_append,List.length_singleton,show i+(pre.length+1)=i+pre.length+1 from rfl,hs,Nat.add_mul b,Nat.add_mul,Nat.mul_assoc b,←Nat.pow_add,Nat.add_comm pre.length i];omega
 ·rw[Am hl,if_neg zO];exact h5 j hj
theorem LS{l:List Nat}{n:Nat}(h:∀j,n<j→nth l j=0):ao l=ao (l.take n)+nth l n*gB^n:=by
 rcases Nat.lt_or_ge n l.length with g|g
 ·have h1:=Kj (l:=l) (k:=n+1) (fun j hj=>h j hj);rw[h1,List.take_succ,List.getElem?_eq_getElem g];simp only[Option.toList];rw[xT,List.length_take,Nat.min_eq_left zO];simp[nth,g]
 ·rw[List.take_of_length_le g];simp[nth,g]
theorem Dj{l:List Nat}(h:aU l)(n:Nat):ao (l.take n)<gB^n:=by
 have h2:=uv (m:=l.take n) (fun x hx=>h x (List.mem_of_mem_take hx));have h3:gB^(l.take n).length≤gB^n:=Nat.pow_le_pow_right ee zQ;omega
theorem amY{l x r y P:Nat}(h:l+x*P=r+y*P)(hl:l<P)(hr:r<P):x=y∧l=r:=by
 rcases Nat.lt_trichotomy x y with g|g|g
 ·exfalso;have:(x+1)*P≤y*P:=Nat.mul_le_mul_right _ g;rw[Nat.add_mul]at this;omega
 ·subst g;exact⟨rfl,by omega⟩
 ·exfalso;have:(y+1)*P≤x*P:=Nat.mul_le_mul_right _ g;rw[Nat.add_mul]at this;omega
def DO(A bv:Nat)(a out:List Nat)(i k:Nat):Prop:=aU a∧aU out∧a.length=out.length+k∧ao a<bv*gB^i∧ao a+ao out*bv=A∧∀j,j<i→nth out j=0
theorem GQ{A bv:Nat}{a out b:List Nat}{i k:Nat}(h:DO A bv a out (i+1) k)(hb:aU b)(hk:b.length=k)(hv:ao b=bv)(j:Nat)(hj:i+k<j):nth a j=0:=by
 refine Tk (n:=i+k+1) ?_ zO;have h1:=uv hb;rw[hk,hv]at h1;have h2:bv*gB^(i+1)≤gB^k*gB^(i+1):=Nat.mul_le_mul_right _ zO;rw[←Nat.pow_add,show k+(i+1)=i+k+1 by omega]at h2;have:=h.2.2.2.1;omega
theorem TK{out:List Nat}{i g:Nat}(h0:nth out i=0)(hi:i<out.length):ao (out.set i g)=ao out+g*gB^i:=by
 have:=z8 (v:=g) hi;rw[h0]at this;omega
theorem Wa{A bv:Nat}{a0 a out b:List Nat}{i k g c:Nat}(h:DO A bv a0 out (i+1) k)(hv:ao b=bv)
  (hq:∀q,q<gB→q*bv*gB^i≤ao a0→q≤g)(hg:g<gB)(hm:MS a0 a g c i k b)(hk:b.length=k)(hc:c≤nth a (i+k))(hl:i+k<a.length)(ho:i<out.length):
  DO A bv (a.set (i+k) (nth a (i+k)-c)) (out.set i g) i k:=by
 obtain⟨o1,o2,o3,o4,o5,o6⟩:=h;obtain⟨m1,m2,m3,m4,m5⟩:=hm;have hn:=fP m1 (i+k);have hs:=z8 (v:=nth a (i+k)-c) hl;rw[hk,hv]at m4;rw[Nat.sub_mul]at hs;have ER:c*gB^(i+k)≤nth a (i+k)*gB^(i+k):=Nat.mul_le_mul_right _ hc;have E8:ao (a.set (i+k) (nth a (i+k)-c))+g*bv*gB^i=ao a0:=by omega
 have JA:=TK (g:=g) (o6 i zO) ho;refine⟨vW m1 zO,vW o2 hg,by simp;omega,?_,?_,fun j hj=>?_⟩
 ·rcases Nat.lt_or_ge (ao (a.set (i+k) (nth a (i+k)-c))) (bv*gB^i)with r|r
  ·exact r
  ·exfalso;have e:(g+1)*bv*gB^i≤ao a0:=by rw[Nat.add_mul,Nat.add_mul,Nat.one_mul];omega
   rcases Nat.lt_or_ge (g+1) gB with t|t
   ·have:=hq (g+1) t e;omega
   ·have e2:gB*bv*gB^i≤(g+1)*bv*gB^i:=Nat.mul_le_mul_right _ (Nat.mul_le_mul_right _ t);have e3:bv*gB^(i+1)=gB*bv*gB^i:=by rw[Nat.pow_succ,Nat.mul_comm gB bv,Nat.mul_assoc,Nat.mul_comm gB]
    omega
 ·rw[JA,Nat.add_mul,Nat.mul_right_comm g (gB^i) bv];omega
 ·rw[Am ho,if_neg zO];exact o6 j zO
theorem V_{A bv:Nat}{a0 a1 a out b:List Nat}{i k g c d:Nat}(h:DO A bv a0 out (i+1) k)(hb:aU b)(hv:ao b=bv)(hk:b.length=k)
  (qA:(g-1)*bv*gB^i≤ao a0)(hg:g<gB)(hm:MS a0 a1 g c i k b)(hc:nth a1 (i+k)<c)(xo:AB a1 a d i k b)(hl:i+k<a.length)(ho:i<out.length):
  1≤g∧nth a (i+k)+d=c∧DO A bv (a.set (i+k) (nth a (i+k)+d-c)) (out.set i (g-1)) i k:=by
 have hz:=GQ h hb hk hv;obtain⟨o1,o2,o3,o4,o5,o6⟩:=h;obtain⟨m1,m2,m3,m4,m5⟩:=hm;obtain⟨p1,p2,p3,p4,p5⟩:=xo;have t1:nth a (i+k)=nth a1 (i+k):=p5 _ (Nat.le_refl _);have sa:=LS (l:=a) (n:=i+k) (fun j hj=>by rw[p5 j zO,m5 j zO];exact hz j hj);have s1:=LS (l:=a1) (n:=i+k) (fun j hj=>by rw[m5 j zO];exact hz j hj);have la:=Dj p1 (i+k);have l1:=Dj m1 (i+k);have Qd:=uv hb;rw[hk,hv]at Qd m4 p4;have hX:bv*gB^i<gB^(i+k):=by
  have:bv*gB^i<gB^k*gB^i:=Nat.mul_lt_mul_of_pos_right Qd (Nat.pow_pos ee);rw[←Nat.pow_add,Nat.add_comm k i]at this;exact this
 have ER:(nth a1 (i+k)+1)*gB^(i+k)≤c*gB^(i+k):=Nat.mul_le_mul_right _ hc;rw[Nat.add_mul,Nat.one_mul]at ER;have bN:ao a0<g*bv*gB^i:=by omega
 have ns:1≤g:=by
  rcases Nat.eq_zero_or_pos g with e|e
  ·subst e;simp at bN
  ·exact e
 have hgX:g*bv*gB^i=(g-1)*bv*gB^i+bv*gB^i:=by
  conv=>lhs;rw[show g=(g-1)+1 by omega]
  rw[Nat.add_mul,Nat.add_mul,Nat.one_mul]
 have key:ao (a.take (i+k))+(nth a (i+k)+d)*gB^(i+k)=(ao a0-(g-1)*bv*gB^i)+c*gB^(i+k):=by
  rw[Nat.add_mul];omega
 obtain⟨k1,k2⟩:=amY key la zO;have hs:=z8 (v:=nth a (i+k)+d-c) hl;rw[show nth a (i+k)+d-c=0 by omega]at hs⊢;rw[Nat.zero_mul]at hs;have JA:=TK (g:=g-1) (o6 i zO) ho;refine⟨ns,k1,vW p1 ee,vW o2 zO,by simp;omega,by omega,?_,fun j hj=>?_⟩
 ·rw[JA,Nat.add_mul,Nat.mul_right_comm (g-1) (gB^i) bv];omega
 ·rw[Am ho,if_neg zO];exact o6 j zO
def q7(a:List Nat)(i k:Nat):Nat:=nth a (i+k)*gB+nth a (i+k-1)
theorem KJ{l:List Nat}{n j:Nat}(h:j<n):nth (l.take n) j=nth l j:=by
 unfold nth;rw[List.getElem?_take,if_pos h]
theorem FN{l:List Nat}{i j:Nat}:nth (l.drop i) j=nth l (i+j):=by
 unfold nth;rw[List.getElem?_drop]
theorem Mg{a:List Nat}{i n:Nat}(ho:aU a)(hl:i+(n+2)<a.length)(hz:∀j,i+(n+2)<j→nth a j=0):
  ∃Ur,Ur<gB^n∧ao a/gB^i=(q7 a i (n+2)*gB+nth a (i+n))*gB^n+Ur:=by
 have h1:=afH ho i;have h2:=Kj (l:=a.drop i) (k:=n+3) (fun j hj=>by rw[FN];exact hz _ zO);have vC:n+3=((a.drop i).take (n+3)).length:=by simp;omega
 have h3:=amK vC;rw[KJ zO,KJ zO,KJ zO,FN,FN,FN]at h3;have bN:=Dj (l:=(a.drop i).take (n+3)) (fun x hx=>ho x (List.mem_of_mem_drop (List.mem_of_mem_take hx))) n;refine⟨_,bN,?_⟩;rw[←h1,h2,h3];rfl
theorem J7{q bv M P:Nat}(hP:0<P):q*bv*P≤M↔q*bv≤M/P:=(Nat.le_div_iff_mul_le hP).symm
def GS(a b:List Nat)(i k g:Nat):Prop:=g<gB∧g*nth b (k-1)≤q7 a i k∧∀q,q<gB→q*ao b*gB^i≤ao a→q≤g
theorem Hh{b:List Nat}{n:Nat}(ho:aU b)(hl:b.length=n+2):∃Vr,Vr<gB^n∧ao b=(nth b (n+1)*gB+nth b n)*gB^n+Vr:=
 ⟨_,Dj ho n,amJ hl.symm⟩
theorem amL{a:List Nat}{i n Ur:Nat}(ho:aU a)(hU:Ur<gB^n):nth a (i+n)*gB^n+Ur<gB*gB^n:=by
 have h:=fP ho (i+n);have:(nth a (i+n)+1)*gB^n≤gB*gB^n:=Nat.mul_le_mul_right _ h;rw[Nat.add_mul,Nat.one_mul]at this;omega
theorem Wd{a b:List Nat}{i n:Nat}(ha:aU a)(hb:aU b)(hl:i+(n+2)<a.length)(hz:∀j,i+(n+2)<j→nth a j=0)(hk:b.length=n+2)(ic:0<nth b (n+1)):
  GS a b i (n+2) (min (q7 a i (n+2)/nth b (n+1)) (gB-1)):=by
 obtain⟨Ur,hU,hW⟩:=Mg ha hl hz;obtain⟨Vr,hV,hB⟩:=Hh hb hk;refine⟨Nat.lt_of_le_of_lt (Nat.min_le_right _ _) (by unfold gB;omega),?_,fun q hq gv=>?_⟩
 ·exact Nat.le_trans (Nat.mul_le_mul_right _ (Nat.min_le_left _ _)) (Nat.div_mul_le_self _ _)
 ·rw[J7 (Nat.pow_pos ee),hW,hB]at gv;exact acm (Nat.pow_pos ee) gv (amL ha hU) ic zO
theorem Wf{a b:List Nat}{i n g:Nat}(ha:aU a)(hb:aU b)(hl:i+(n+2)<a.length)(hz:∀j,i+(n+2)<j→nth a j=0)(hk:b.length=n+2)(h:GS a b i (n+2) g)
  (ht:(q7 a i (n+2)-g*nth b (n+1))*gB+nth a (i+n)<g*nth b n):1≤g∧GS a b i (n+2) (g-1):=by
 obtain⟨Ur,hU,hW⟩:=Mg ha hl hz;obtain⟨Vr,hV,hB⟩:=Hh hb hk;obtain⟨h1,h2,h3⟩:=h;have hg:1≤g:=by
  rcases Nat.eq_zero_or_pos g with e|e
  ·subst e;simp at ht
  ·exact e
 refine⟨hg,by omega,Nat.le_trans (Nat.mul_le_mul_right _ (Nat.sub_le _ _)) h2,fun q hq gv=>?_⟩;rw[J7 (Nat.pow_pos ee),hW,hB]at gv;exact acn hU h2 ht gv
theorem Wg{a b:List Nat}{i n g:Nat}(ha:aU a)(hb:aU b)(hl:i+(n+2)<a.length)(hz:∀j,i+(n+2)<j→nth a j=0)(hk:b.length=n+2)(ic:0<nth b (n+1))(h:GS a b i (n+2) g)
  (ht:gB≤q7 a i (n+2)-g*nth b (n+1)∨g*nth b n≤(q7 a i (n+2)-g*nth b (n+1))*gB+nth a (i+n)):(g-1)*ao b*gB^i≤ao a:=by
 obtain⟨Ur,hU,hW⟩:=Mg ha hl hz;obtain⟨Vr,hV,hB⟩:=Hh hb hk;obtain⟨h1,h2,h3⟩:=h;rw[J7 (Nat.pow_pos ee),hW,hB];exact aco ic ee h2 zO (by have:=fP hb n;omega) hV ht
theorem ajJ{l:List Nat}{d:Nat}(hl:aU l)(hd:0<d):bp (jv l d).1=ak (ao l/d)∧(jv l d).2=ao l%d:=by
 have hv:=ajM l d;have hr:=LN l hd;have h1:ao l/d=ao (jv l d).1:=by
  rw[hv,Nat.add_comm,Nat.add_mul_div_right _ _ hd,Nat.div_eq_of_lt hr];omega
 have h2:ao l%d=(jv l d).2:=by
  rw[hv,Nat.add_comm,Nat.add_mul_mod_self_right,Nat.mod_eq_of_lt hr]
 exact⟨by rw[tJ (ajL hl hd),h1],h2.symm⟩
theorem Fm{v:Nat}(h:(ak v).length≠0):gB^((ak v).length-1)≤v:=by
 have:=Kg (vU v) h;rw[gI]at this;exact this
theorem s0(v:Nat):v<gB^(ak v).length:=by
 have:=uv (ek v);rw[gI]at this;exact this
theorem uu{u v:Nat}(h:u≤v):(ak u).length≤(ak v).length:=by
 rcases Nat.eq_zero_or_pos (ak u).length with e|e
 ·omega
 ·have h1:=Fm (v:=u) zO;have h2:=s0 v;have h3:gB^((ak u).length-1)<gB^(ak v).length:=by omega
  have:=(Nat.pow_lt_pow_iff_right (by unfold gB;omega)).1 h3;omega
theorem Sj{v:Nat}(h:gB≤v):2≤(ak v).length:=by
 rcases Nat.lt_or_ge (ak v).length 2 with e|e
 ·exfalso;have h2:=s0 v;have h3:gB^(ak v).length≤gB^1:=Nat.pow_le_pow_right ee zO;rw[Nat.pow_one]at h3;omega
 ·exact e
theorem Sh{v:Nat}{k:Nat}(h:(ak v).length=k+1):0<nth (ak v) k:=by
 have hc:=vU v;rcases nS (ak v)with e|⟨i,x,e⟩
 ·rw[e]at h;simp at h
 ·have hi:i.length=k:=by rw[e]at h;simpa using h
  rw[e,←hi,agB];rcases Nat.eq_zero_or_pos x with z|z
  ·exfalso;subst z;have h1:=tI i;have h2:=vg i;rw[e]at hc;rw[h1]at hc;have:=congrArg List.length hc;simp at this;omega
  ·exact z
theorem Wb{M N:Nat}(hN:gB≤N)(hMN:N≤M):
  DO M N (ak M++[0,0]) (List.replicate ((ak M).length+2-(ak N).length) 0) ((ak M).length+2-(ak N).length) (ak N).length:=by
 have hk:=uu hMN;have h2:=Sj hN;have hz:ao (ak M++[0,0])=M:=by rw[vX,gI];simp[ao]
 refine⟨afG (ek M) (fun x hx=>by simp at hx;subst hx;exact ee),Sk _,by simp;omega,?_,by rw[hz,Sm];omega,fun j hj=>?_⟩
 ·rw[hz];have h3:=Fm (v:=N) zO;have h4:=s0 M;have h5:gB^((ak N).length-1)*gB^((ak M).length+2-(ak N).length)≤N*gB^((ak M).length+2-(ak N).length):=Nat.mul_le_mul_right _ h3;rw[←Nat.pow_add,show(ak N).length-1+((ak M).length+2-(ak N).length)=(ak M).length+1 by omega]at h5;have h6:gB^(ak M).length≤gB^((ak M).length+1):=Nat.pow_le_pow_right ee zO;omega
 ·unfold nth;rw[List.getElem?_replicate];split<;>rfl
theorem V'{M N s:Nat}{a out:List Nat}{k:Nat}(h:DO (M*s) (N*s) a out 0 k)(hs:0<s)(hN:0<N)(hb:N*s<gB^k):
  bp out=ak (M/N)∧bp (a.take k)=ak (M%N*s):=by
 obtain⟨o1,o2,o3,o4,o5,o6⟩:=h;rw[Nat.pow_zero,Nat.mul_one]at o4;have hNs:0<N*s:=Nat.mul_pos hN hs;have e1:M*s/(N*s)=ao out:=by rw[←o5,Nat.add_mul_div_right _ _ hNs,Nat.div_eq_of_lt o4];omega
 have e2:M*s%(N*s)=ao a:=by rw[←o5,Nat.add_mul_mod_self_right,Nat.mod_eq_of_lt o4]
 rw[Nat.mul_div_mul_right _ _ hs]at e1;rw[Nat.mul_mod_mul_right]at e2;have e3:=Kj (l:=a) (k:=k) (fun j hj=>Tk (n:=k) zO hj);refine⟨by rw[tJ o2,e1],?_⟩;rw[tJ (fun x hx=>o1 x (List.mem_of_mem_take hx)),←e3,e2]
variable[bT]
variable{P:Program} {env:Env} {dst:Option Tmp} {ty:TypeId} {pos:String} {au:Array Edge} {g:Option (Nat×Bool)}
theorem ajn{t e:TypeId}{ti:TypeInfo}(hu:P.underlying t=some (.slice e))(hs:∀w,(sizeOf e).run P w=.ok 1 w)(lB:∀w,(typeInfo e).run P w=.ok ti w)(w:World):
  (Instr.makeSlice t (.int .i64 0) (.int .i64 0)).run P w=.ok (.slice (some ⟨w.heap.size,0,none⟩) 0 0) (w.alloc (.cells #[] e)):=by
 have wl:IntKind.i64.wrap 0=0:=by rw[IntKind.wrap_i64];omega
 have e0:(Array.range 0).map (fun _=>(default:Value))=#[]:=by apply Array.ext_getElem?;intro i;simp
 simp[Instr.makeSlice,run_underlying hu,asInt,asIntOf,lB,hs,wl,newRow,e0]
theorem Ui{t e:TypeId}{ti:TypeInfo}{x y:Operand}{nx ny:Int}(hu:P.underlying t=some (.slice e))(hs:∀w,(sizeOf e).run P w=.ok 1 w)(lB:∀w,(typeInfo e).run P w=.ok ti w)
  (hx:env.op x=some (.raw (.int .i64 nx)))(hy:env.op y=some (.raw (.int .i64 ny)))(BP:nx=0)(BQ:ny=0)(J:aa):
  aq P ⟨dst,.makeSlice t x y,ty,pos,au,g⟩ env J (.snap 1 false []) J:=
 .step fun O ρ a w af hv=>by
  have cp:=hv x (by simp[Op.operands]) _ hx;have eD:=hv y (by simp[Op.operands]) _ hy;simp only[V]at cp eD;subst BP;subst BQ;have hr:=ajn hu hs lB w;refine⟨.slice (some ⟨w.heap.size,0,none⟩) 0 0,w.alloc (.cells #[] e),ρ,.inl ?_,Tr.qQ ⟨by simp,fun b hb=>by show(w.heap.push _)[b]?=_;rw[Array.getElem?_push,if_neg (Nat.ne_of_lt hb)],rfl,rfl,iU.eq rfl rfl⟩ af,?_⟩
  ·simp only[execOp,cp,eD];rw[Sem.run_bind,hr];rfl
  ·simp[V,aH]
end Go.T
namespace Go.T
open Go Go.Proofs Go.Proofs.Tryz
set_option maxRecDepth 20000
structure Y1(m:List Nat)where
 cur:List Nat
 hx:bp cur=bp m
 hl:cur.length≤m.length
theorem Y0(m:List Nat)(hm:bp m≠[])(hs:m.length≤1000000):bh Tryz.prog 158 [.gs 7200 m.length] [(7200,.arr 1 (bD m))] (.gs 7200 (bp m).length) [(7200,.arr 1 (bD (bp m)))]:=by
 refine xj func158 ntmps158 results158 ?_;refine U.seq<|rg<|.ag rfl rfl<|.nil<|U.seq<|U.block<|U.loop (ι:=Y1 m) (fun sx=>[(0,.gs 7200 sx.cur.length)]) (fun sx=>[(7200,.arr 1 (bD sx.cur))]) (fun sx=>sx.cur.length) ⟨m,rfl,by omega⟩ ?_ ?_
 ·exact Le.mk rfl (.cons rfl (Sub.gs zS) rfl .nil) (.arr rfl (by rfl) .nil)
 ·rintro⟨cur,hx,hl⟩;try dsimp only
  rcases nS cur with rfl|⟨i,x,rfl⟩
  ·exact absurd hx.symm hm
  ·skip;refine U.seq<|U.seq<|rg<|.mv rfl rfl<|.P rfl (uJ underlying188 rfl)<|.P rfl (ju rfl rfl)<|.mv rfl rfl<|.p rfl (cN rfl rfl rfl zS) (fun _=>bG rfl _)<|.p rfl (cN rfl rfl rfl zS) (fun _=>bG rfl _)<|.p rfl (cN rfl rfl rfl zS) (fun _=>uJ underlying188 rfl _)<|.p rfl (cN rfl rfl rfl zS) (fun _=>fp rfl rfl (aB zO) _)<|.p rfl (cN rfl rfl rfl zS) (fun _=>b8 (off:=(i.length)*1) underlying188 sizeOf243 rfl rfl zS zS zS _)<|.r rfl (cN rfl rfl rfl zS) (fN (r:=_) (i.length) 0 isAgg243 rfl rfl rfl (fY i x []) rfl)<|.p rfl (cN rfl rfl rfl zS) (fun _=>l5 rfl rfl _)<|.P rfl (qV rfl zS rfl)<|.nil<|U.cond rfl (fun h1=>?_) (fun h1=>?_)
   ·have a_:=h1;try simp only[bs]at a_
    refine U.skip<|U.block<|rg<|.mv rfl rfl<|.mv rfl rfl<|.P rfl (uJ underlying188 rfl)<|.P rfl (fp rfl rfl (aB zO))<|.W rfl (aiG (h:=i.length) underlying188 sizeOf243 rfl (x7 rfl zS) rfl (by simp[bD]) zS (by rintro h0;obtain rfl:=List.length_eq_zero_iff.1 h0;exact hm (by rw[←hx,show x=0 by omega,tI];rfl)))<|.ag rfl rfl<|.nil<|U.nil (dv ?_);refine U.nil (dx ?_);exact⟨⟨i,by rw[←hx,show x=0 by omega,tI],by simp at hl;omega⟩,by simp,Le.mk rfl (.cons rfl (Sub.gs zS) rfl .nil) (.arr rfl (by simp[bD]) .nil)⟩
   ·have a_:=h1;try simp only[bs]at a_
    refine U.exit (fc (eY ?_));refine U.seq<|rg<|.mv rfl rfl<|.ag rfl rfl<|.nil<|U.ret (?_);exact wq rfl (by exact Sub.gs (by(rw[←hx,yS i zO]))) (.eq rfl (by(rw[←hx,yS i zO])) rfl .nil)
structure ak5(m n:List Nat)where
 pre:List Nat
 rest:List Nat
 out:List Nat
 hx:m=pre++rest
 hlen:out.length=m.length+n.length
 ho:TO out pre.length n.length (ao pre*ao n)
structure ak6(m n:List Nat)(pre:List Nat)(x:Nat)where
 av:List Nat
 aN:List Nat
 out:List Nat
 c:Nat
 bg:n=av++aN
 hlen:out.length=m.length+n.length
 hi:TI out c pre.length n.length (ao pre*ao n) x av
theorem ak4(m n:List Nat)(hm:m.length+n.length≠0)(hms:m.length≤20000)(Jv:n.length≤20000)(Js:aU m)(cz:aU n)(hmn:ak (ao m*ao n)≠[]):bh Tryz.prog 332 [bc m,bc n] [] (.gs 7200 (ak (ao m*ao n)).length) [(7200,.arr 1 (bD (ak (ao m*ao n))))]:=by
 refine xj func332 ntmps332 results332 ?_;refine go []<|sd (aW zO zQ)<|oW (AD (bt:=8) 0 (m.length+n.length) underlying188 sizeOf243 typeInfo243 zeroValue243 rfl rfl rfl rfl rfl (by simp[bD]) (by simp[bD]) (Nat.le_refl (m.length+n.length)) zO zO zO rfl)<|U.loop (ι:=ak5 m n) (fun sx=>[(17,bc m),(18,.i m.length),(1,bc n),(5,.gs 7200 (m.length+n.length)),(19,.i sx.pre.length)]) (fun sx=>[(7200,.arr 1 (bD sx.out))]) (fun sx=>sx.rest.length) ⟨[],m,List.replicate (m.length+n.length) 0,rfl,by simp,Mw m n _⟩ ?_ ?_
 ·exact(Le.mk (ai:=[(0,_)]) rfl (show du _ _ [(17,_),(18,_),(1,_),(5,_),(19,_)]from(.n 5 rfl rfl .nil)) (.cons (i:=0) rfl rfl .nil)).trans<|(Le.j4 5 0 7200 rfl rfl zS rfl).trans<|Le.mk rfl (.s rfl rfl (.cons rfl (Sub.int zS) rfl (.s rfl rfl (.cons rfl (Sub.gs zS) rfl (.s rfl rfl .nil))))) (.arr rfl (by simp[bD]) .nil)
 ·rintro⟨pre,rest,out,hx,hlen,ho⟩;try dsimp only
  rcases lc hx with⟨rfl,hl⟩|⟨x,rest,rfl,hl⟩
  ·obtain rfl:m=pre:=by simpa using hx
   exact go []<|aQ zS<|go []<|oW (eu call158 (by rw[←hlen];rfl) (Y0 out (by rw[DD ho];exact hmn) zO) (.cons rfl rfl .nil) rfl rfl)<|wq rfl (by exact Sub.gs (by rw[DD ho])) (.eq rfl (by rw[DD ho]) rfl .nil)
  ·have kf:=Js x (by rw[hx];simp);refine go []<|bM zQ<|ix zO (bb (fun(n:Nat)=>[D.raw (.int .u64 (n:Int))]) hx rfl)<|U.loop (ι:=ak6 m n pre x) (fun sx=>[(17,bc m),(18,.i m.length),(1,bc n),(5,.gs 7200 (m.length+n.length)),(19,.i pre.length),(6,.i pre.length),(7,.raw (.int .u64 (x:Int))),(24,bc n),(25,.i n.length),(8,.raw (.int .u64 (sx.c:Int))),(26,.i sx.av.length)]) (fun sx=>[(7200,.arr 1 (bD sx.out))]) (fun sx=>sx.aN.length) ⟨[],n,out,0,rfl,hlen,Mr _ ho⟩ ?_ ?_
   ·exact Le.mk rfl (.n 3 rfl rfl (.cons rfl (Sub.gs zS) rfl (.n 4 rfl rfl (.cons rfl (Sub.int zS) rfl (.n 2 rfl rfl .nil))))) (.arr rfl (by rfl) .nil)
   ·rintro⟨av,aN,out,c,bg,hlen,hi⟩;try dsimp only
    rcases lc bg with⟨rfl,bW⟩|⟨x2,aN,rfl,bW⟩
    ·obtain rfl:n=av:=by simpa using bg
     refine go []<|aQ zS<|go []<|br (fun h1=>?_) (fun h1=>?_)
     ·exact sd (aW zO zQ)<|oP (b8 (off:=(pre.length+n.length)*1) underlying188 sizeOf243 rfl rfl zO zQ zQ)<|oR (fN (r:=_) (pre.length+n.length) 0 isAgg243 rfl rfl rfl (iD (by simp at*;omega)) rfl)<|sd ((addN (by have:=fP hi.1 (pre.length+n.length);have:=hi.2.1;unfold gB at*;omega)))<|oP (b8 (off:=(pre.length+n.length)*1) underlying188 sizeOf243 rfl rfl zO zQ zQ)<|oW (jd (r:=_) (pre.length+n.length) 0 sizeOf243 rfl rfl rfl rfl rfl rfl (iD (by simp at*;omega)) zS)<|go []<|sd (aB zO)<|nx ⟨pre++[x],rest,out.set (pre.length+n.length) (nth out (pre.length+n.length)+c),by simp[hx],by simp[hlen],Mt hi (by simp at*;omega) (by simp at*;omega) rfl⟩ zS (Le.mk rfl (.n 3 rfl rfl (.cons rfl (Sub.gs zS) rfl (.cons rfl (Sub.int zS) rfl .nil))) (.arr rfl (by exact tP) .nil))
     ·exact go []<|sd (aB zO)<|nx ⟨pre++[x],rest,out,by simp[hx],hlen,Mu hi (by simp at*;omega)⟩ zS (Le.mk rfl (.n 3 rfl rfl (.cons rfl (Sub.gs zS) rfl (.cons rfl (Sub.int zS) rfl .nil))) (.arr rfl (by rfl) .nil))
    ·have rH:=cz x2 (by rw[bg];simp);exact go []<|bM zQ<|ix zO (bb (fun(n:Nat)=>[D.raw (.int .u64 (n:Int))]) bg rfl)<|sd (aB zO)<|oP (b8 (off:=(pre.length+av.length)*1) underlying188 sizeOf243 rfl rfl zO zO zO)<|oR (fN (r:=_) (pre.length+av.length) 0 isAgg243 rfl rfl rfl (iD (by simp at*;omega)) rfl)<|sd ((mulN rfl (vb hi.2.1 (fP hi.1 (pre.length+av.length)) kf rH).1))<|sd ((addN (vb hi.2.1 (fP hi.1 (pre.length+av.length)) kf rH).2.1))<|sd ((addN (vb hi.2.1 (fP hi.1 (pre.length+av.length)) kf rH).2.2))<|sd (aB zO)<|oP (qW rfl rfl zD (uL _))<|oP (b8 (off:=(pre.length+av.length)*1) underlying188 sizeOf243 rfl rfl zO zO zO)<|oW (jd (r:=_) (pre.length+av.length) 0 sizeOf243 rfl rfl rfl rfl rfl rfl (iD (by simp at*;omega)) zS)<|oP (oJ rfl rfl zD (wm (vb hi.2.1 (fP hi.1 (pre.length+av.length)) kf rH).2.2))<|sd (aB zO)<|nx ⟨av++[x2],aN,out.set (pre.length+av.length) ((c+(nth out (pre.length+av.length)+x*x2))%gB),(c+(nth out (pre.length+av.length)+x*x2))/gB,by simp[bg],by simp[hlen],Ms hi kf rH zO zO⟩ zS (Le.mk rfl (.n 3 rfl rfl (.cons rfl (Sub.gs zS) rfl (.n 6 rfl rfl (.cons rfl (Sub.int zS) rfl .nil)))) (.arr rfl (by exact tP) .nil))
structure ajW(d:Nat)where
 u:Unit
theorem ajV(d:Nat):Fc Tryz.prog 342 [.snap 1 false [],.raw (.int .u64 (d:Int))] (.bl [.snap 1 false [],.raw (.int .u64 ((0:Nat):Int))]):=by
 refine pO func342 ntmps342 results342 ?_;refine go []<|oP (Ui underlying188 sizeOf243 typeInfo243 rfl rfl rfl rfl)<|sd (aW zO zS)<|U.loop (ι:=ajW d) (fun sx=>[(7,.raw (.int .u64 ((0:Nat):Int))),(8,.i (-1)),(6,bc []),(0,.snap 1 false []),(1,.raw (.int .u64 (d:Int)))]) (fun sx=>[]) (fun sx=>0) ⟨()⟩ ?_ ?_
 ·exact Le.mk rfl (.n 5 rfl rfl .nil) .nil
 ·rintro⟨u⟩;try dsimp only
  skip
  ·skip;exact go []<|aQ zS<|go []<|oP (aj call158 rfl (si _))<|p9 rfl rfl (Sub.refl _) (Sub.refl _)
theorem U6(M d:Nat)(hs:(ak M).length≤40000)(hd:0<d)(I4:d<gB):Fc Tryz.prog 342 [bc (ak M),.raw (.int .u64 (d:Int))] (.bl [bc (ak (M/d)),.raw (.int .u64 ((M%d:Nat):Int))]):=by
 have h:=ajJ (ek M) hd;rw[gI]at h;rw[←h.1,←h.2];by_cases e:(ak M).length=0
 ·have e:=List.eq_nil_of_length_eq_zero e;rw[e];exact ajV d
 ·exact ajX _ d e hs (ek M) hd I4
end Go.T
namespace Go.T
open Go
theorem HB{M N:Nat}:js (ak M) (ak N)<0↔M<N:=by
 have h:=(DX (ek M) (ek N) (vU M) (vU N)).1;rw[gI,gI]at h;exact h
theorem afF{N:Nat}(h:(ak N).length=1):ak N=[N]∧0<N∧N<gB:=by
 have h0:N≠0:=by rintro rfl;rw[qO]at h;simp at h
 have h1:=s0 N;rw[h,Nat.pow_one]at h1;refine⟨?_,by omega,h1⟩;rw[xS h0,Nat.mod_eq_of_lt h1,Nat.div_eq_of_lt h1,qO]
theorem Y4{r:Nat}(h:r<gB):bp [r]=ak r:=by
 rw[tJ (fun x hx=>by simp at hx;subst hx;exact h)];simp[ao]
open Go.Proofs Go.Proofs.Tryz
set_option maxRecDepth 20000
theorem ZE(M N:Nat)(xm:(ak M).length≤10000)(xn:(ak N).length≤10000)(h:M<N):Fc Tryz.prog 334 [bc (ak M),bc (ak N)] (.bl [bc (ak (M/N)),bc (ak (M%N))]):=by
 refine pO func334 ntmps334 results334 ?_;exact go []<|oP (aj call155 rfl (yP _ _ zO zO))<|bM (by simpa using HB.2 h)<|p9 rfl rfl (by exact(Sub.nil _ false).trans (Sub.snap (by rw[Nat.div_eq_of_lt h,qO];rfl))) (Sub.snap (by rw[Nat.mod_eq_of_lt h]))
theorem ZK(M N:Nat)(xm:(ak M).length≤10000)(xn:(ak N).length≤10000)(h:¬M<N)(h1:(ak N).length=1):Fc Tryz.prog 334 [bc (ak M),bc (ak N)] (.bl [bc (ak (M/N)),bc (ak (M%N))]):=by
 refine pO func334 ntmps334 results334 ?_;have pS:=afF h1;exact go []<|oP (aj call155 rfl (yP _ _ zO zO))<|aQ (by simpa using fun hc=>h (HB.1 hc))<|bM (by simp[bD,h1])<|ix zO (ui (l:=ak N) (k:=0) (b:=N) (r:=[]) (by rw[pS.1];rfl) (by rfl))<|oP (aj call342 rfl (U6 _ _ zO zO zO))<|oP (cm (n:=1) (rows:=bD [M%N]) underlying188 sizeOf243 rfl rfl rfl zeroValue243 rfl rfl rfl rfl rfl rfl rfl)<|oP (aj call158 rfl (si [M%N]).sub)<|p9 rfl rfl (Sub.refl _) (Sub.snap (by rw[Y4 (Nat.lt_trans (Nat.mod_lt _ pS.2.1) pS.2.2)]))
end Go.T
namespace Go.T
open Go
def dS(N:Nat):Nat:=gB/(nth (ak N) ((ak N).length-1)+1)
def dK(N:Nat):Nat:=(ak (N*dS N)).length
def dL(M N:Nat):Nat:=(ak (M*dS N)).length
theorem Be(N:Nat):0<dS N:=by
 have h:=fP (ek N) ((ak N).length-1);exact Nat.div_pos h zO
theorem NT{N:Nat}(h:(ak N).length≠0):dS N<gB:=by
 obtain⟨k,hk⟩:∃k,(ak N).length=k+1:=⟨(ak N).length-1,by omega⟩;have h1:=Sh hk;unfold dS;rw[show(ak N).length-1=k by omega];exact Nat.div_lt_self ee zO
theorem Kf{v n:Nat}(h:v<gB^n):(ak v).length≤n:=by
 rcases Nat.lt_or_ge n (ak v).length with g|g
 ·exfalso;have h1:=Fm (v:=v) zO;have h2:gB^n≤gB^((ak v).length-1):=Nat.pow_le_pow_right ee zO;omega
 ·exact g
theorem Y7{M N:Nat}(h:(ak N).length≠0):dL M N≤(ak M).length+1:=by
 refine Kf ?_;have h1:=s0 M;have h2:=NT h;rw[Nat.pow_succ];exact Nat.mul_lt_mul_of_lt_of_le h1 zO ee
theorem L'{N:Nat}(h:2≤(ak N).length):gB≤N:=by
 have h1:=Fm (v:=N) zO;have h2:gB^1≤gB^((ak N).length-1):=Nat.pow_le_pow_right ee zO;rw[Nat.pow_one]at h2;omega
theorem NS{N:Nat}(h:2≤(ak N).length):gB≤N*dS N:=Nat.le_trans (L' h) (Nat.le_mul_of_pos_right _ (Be N))
theorem HJ{N:Nat}(h:2≤(ak N).length):2≤dK N:=Sj (NS h)
theorem Y6{M N:Nat}(h:¬M<N):dK N≤dL M N:=uu (Nat.mul_le_mul_right _ zO)
theorem J1{l:List Nat}(h:l.length≠0):l.drop (l.length-1)=nth l (l.length-1)::[]:=by
 rw[w6 zO,List.drop_of_length_le zO]
theorem Y8{M N:Nat}(h:¬M<N)(h2:2≤(ak N).length):DO (M*dS N) (N*dS N) (ak (M*dS N)++[0,0]) (List.replicate (dL M N+2-dK N) 0) (dL M N+2-dK N) (dK N):=
 Wb (NS h2) (Nat.mul_le_mul_right _ zO)
theorem Kh(s:Nat):ao [s]=s:=by simp[ao]
theorem afE{v:Nat}(h:v≠0):ak v≠[]:=by rw[xS h];simp
open Go.Proofs Go.Proofs.Tryz
set_option maxRecDepth 20000
theorem bh.sub{P:Program}{f:FuncId}{ds fg:List D}{pre:aa}{r:D}{post:aa}(h:bh P f fg pre r post)(hs:jG ds fg):bh P f ds pre r post:=
 ⟨fun w O ρ vals af hg hv=>h.out w O ρ vals af hg (hs.out w _ ρ vals hv)⟩
theorem akZ(M s:Nat)(hL:(ak M).length≤10000)(hs:0<s)(xG:s<gB)(hM:M≠0):bh Tryz.prog 332 [bc (ak M),.snap 1 true (bD [s])] [] (.gs 7200 (ak (M*s)).length) [(7200,.arr 1 (bD (ak (M*s))))]:=by
 have h:=ak4 (ak M) [s] zS zO zS (ek M) (fun x hx=>by simp at hx;subst hx;exact xG) (by rw[gI,Kh];exact afE (Nat.mul_ne_zero hM zO));rw[gI,Kh]at h;exact h.sub (.r (.cons (Sub.tv _ _ _) .nil))
theorem ak0(M s:Nat)(hL:(ak M).length≤10000)(xG:s<gB):Fc Tryz.prog 332 [bc (ak M),.snap 1 true (bD [s])] (bc (ak (M*s))):=by
 have h:=VB (ak M) [s] zS zO zS (ek M) (fun x hx=>by simp at hx;subst hx;exact xG);rw[gI,Kh]at h;exact h.sub
end Go.T
namespace Go.T
open Go
variable{a b:List Nat} {i k g:Nat}
theorem We(ha:aU a)(hb:aU b)(hl:i+k<a.length)(hz:∀j,i+k<j→nth a j=0)(hk:b.length=k)(h2:2≤k)(ic:0<nth b (k-1)):
  GS a b i k (min (q7 a i k/nth b (k-1)) (gB-1)):=by
 obtain⟨n,rfl⟩:∃n,k=n+2:=⟨k-2,by omega⟩;exact Wd ha hb hl hz hk ic
theorem Ml(ha:aU a)(hb:aU b)(hl:i+k<a.length)(hz:∀j,i+k<j→nth a j=0)(hk:b.length=k)(h2:2≤k)(h:GS a b i k g)
  (ht:(q7 a i k-g*nth b (k-1))*gB+nth a (i+k-2)<g*nth b (k-2)):1≤g∧GS a b i k (g-1):=by
 obtain⟨n,rfl⟩:∃n,k=n+2:=⟨k-2,by omega⟩;exact Wf ha hb hl hz hk h ht
theorem Mm(ha:aU a)(hb:aU b)(hl:i+k<a.length)(hz:∀j,i+k<j→nth a j=0)(hk:b.length=k)(h2:2≤k)(ic:0<nth b (k-1))(h:GS a b i k g)
  (ht:gB≤q7 a i k-g*nth b (k-1)∨g*nth b (k-2)≤(q7 a i k-g*nth b (k-1))*gB+nth a (i+k-2)):(g-1)*ao b*gB^i≤ao a:=by
 obtain⟨n,rfl⟩:∃n,k=n+2:=⟨k-2,by omega⟩;exact Wg ha hb hl hz hk ic h ht
theorem Y5{N:Nat}(h:2≤(ak N).length):0<nth (ak (N*dS N)) (dK N-1):=by
 have h2:=HJ h;exact Sh (k:=dK N-1) (by show dK N=_;omega)
theorem Wk{A bv:Nat}{a0 a1 out b:List Nat}{i k g c:Nat}(h:DO A bv a0 out (i+1) k)(hb:aU b)(hv:ao b=bv)(hk:b.length=k)
  (hm:MS a0 a1 g c i k b)(hc:nth a1 (i+k)<c):1≤g:=by
 have hz:=GQ h hb hk hv;obtain⟨o1,o2,o3,o4,o5,o6⟩:=h;obtain⟨m1,m2,m3,m4,m5⟩:=hm;have s1:=LS (l:=a1) (n:=i+k) (fun j hj=>by rw[m5 j zO];exact hz j hj);have l1:=Dj m1 (i+k);rw[hk]at m4;have ER:(nth a1 (i+k)+1)*gB^(i+k)≤c*gB^(i+k):=Nat.mul_le_mul_right _ hc;rw[Nat.add_mul,Nat.one_mul]at ER;rcases Nat.eq_zero_or_pos g with e|e
 ·subst e;rw[Nat.zero_mul,Nat.zero_mul]at m4;omega
 ·exact e
theorem G4(t:Nat):t%gB<gB:=Nat.mod_lt _ ee
theorem af8(t k:Nat):min (t:Int) (k:Int)=((min t k:Nat):Int):=by omega
theorem af9(t:Nat):min (t:Int) 999999999=((min t (gB-1):Nat):Int):=af8 t 999999999
end Go.T
