/-
  Contracts of the functions that the statement reaches, and the logic in which they are proved (no condition): parts SpecR1, SpecR3, W113, SpecR4, W114, Core65.
-/
import Derived.Test.YtapflgppmigcdaaGreatDoorA17
set_option linter.all false
namespace Go.T
open Go
theorem NJ(s:aa):canon s=ofInt (val s):=by
 have h1:=AK s;have h2:=AL s;unfold canon val ofInt;cases h:(digits s).2 with
 |true=>
  have:natVal (digits s).1≠0:=fun e=>by
   rw[e,jL]at h1;exact h2 h (by rw[h1,sS];rfl)
  simp only[if_true];rw[if_pos zO,Int.natAbs_neg,Int.natAbs_natCast,←h1]
 |false=>
  simp only[Bool.false_eq_true,if_false];rw[if_neg zO,Int.natAbs_natCast,←h1]
theorem ah5(s:aa):ni s=ofInt (-val s):=by
 have h1:=AK s;have h2:=AL s;unfold ni val ofInt;cases h:(digits s).2 with
 |true=>
  simp only[if_true,true_or];rw[if_neg zO,Int.neg_neg,Int.natAbs_natCast,←h1]
 |false=>
  simp only[Bool.false_eq_true,if_false,false_or];by_cases e:(digits s).1=[]
  ·rw[if_pos e,e];simp[natVal,jL]
  ·have:natVal (digits s).1≠0:=fun e'=>by rw[e',jL]at h1;exact e h1
   rw[if_neg e,if_pos zO,Int.natAbs_neg,Int.natAbs_natCast,←h1]
theorem Ue(s:aa):val (ni s)=-val s:=by rw[ah5,gp]
def e7(f:aM):aa×aa:=
 if decide (fT f.den []=0)=true then(f.num,[49])else if decide (fT f.den []<0)=true then(ni f.num,ni f.den)else(f.num,f.den)
theorem CH{f:aM}(h:decide (fT f.den []=0)=true):e7 f=(f.num,[49]):=by rw[e7,if_pos h]
theorem Vz{f:aM}(h:decide (fT f.den []=0)=false)(h2:decide (fT f.den []<0)=true):e7 f=(ni f.num,ni f.den):=by rw[e7,if_neg (by rw[h];simp),if_pos h2]
theorem VA{f:aM}(h:decide (fT f.den []=0)=false)(h2:decide (fT f.den []<0)=false):e7 f=(f.num,f.den):=by rw[e7,if_neg (by rw[h];simp),if_neg (by rw[h2];simp)]
theorem DD(s:aa):fT s []=fw (val s):=by rw[r2,ua,Int.sub_zero]
theorem z_(f:aM):(val (bH f).2<0→val (e7 f).1=-val (bH f).1∧val (e7 f).2=-val (bH f).2)∧(¬val (bH f).2<0→val (e7 f).1=val (bH f).1∧val (e7 f).2=val (bH f).2):=by
 have e:decide (fT f.den []=0)=decide (fw (val f.den-val [])=0):=by rw[r2]
 unfold e7 bH;rw[e];by_cases h:decide (fw (val f.den-val [])=0)=true
 ·rw[if_pos h,if_pos h];refine⟨fun h=>?_,fun _=>⟨rfl,rfl⟩⟩;have h:val [49]<0:=h;rw[val_one]at h;omega
 ·rw[if_neg h,if_neg h];by_cases h2:decide (fT f.den []<0)=true
  ·rw[if_pos h2];have h3:=of_decide_eq_true h2;rw[DD,GB]at h3;exact⟨fun _=>⟨Ue _,Ue _⟩,fun h=>absurd h3 h⟩
  ·rw[if_neg h2];have h3:¬val f.den<0:=fun k=>h2 (decide_eq_true (by rw[DD,GB];exact k));exact⟨fun h=>absurd h h3,fun _=>⟨rfl,rfl⟩⟩
theorem CI(f:aM):0<val (e7 f).2:=by
 have h:=z_ f;have h2:=zM f;by_cases k:val (bH f).2<0
 ·have:=(h.1 k).2;omega
 ·have:=(h.2 k).2;omega
theorem Ud(s:aa):(ni s).length≤s.length+1:=by
 have:=kW s;unfold ni;split<;>simp<;>omega
theorem L_(f:aM){k:Nat}(hk:1≤k)(h:f.num.length≤k∧f.den.length≤k):(e7 f).1.length≤k+1∧(e7 f).2.length≤k+1:=by
 have h1:=Ud f.num;have h2:=Ud f.den;unfold e7;split
 ·exact⟨by show f.num.length≤_;omega,by show 1≤_;omega⟩
 ·split
  ·exact⟨by show(ni f.num).length≤_;omega,by show(ni f.den).length≤_;omega⟩
  ·exact⟨by show f.num.length≤_;omega,by show f.den.length≤_;omega⟩
theorem akm{n d:Int}(h:d<0):iq n d=iq (-n) (-d):=by
 unfold iq;rw[if_pos h,if_pos h,if_neg zO,if_neg zO]
theorem KO{n d:Int}(h:d<0):cw n d=cw (-n) (-d):=by unfold cw;rw[akm h]
theorem ofInt_one:ofInt 1=[49]:=by
 unfold ofInt;rw[if_neg zO];show gd 1=[49];rw[rY zO,show 1/10=0 from rfl,jL];rfl
theorem Td{d:Int}(h:0<d):cw 0 d=⟨[],[]⟩:=by
 have e:iq 0 d=(0,1):=by
  unfold iq;rw[if_neg zO,if_neg zO];have:(Int.gcd 0 d:Int)=d:=by rw[Int.gcd_zero_left];omega
  show((0:Int)/(Int.gcd 0 d:Int),d/(Int.gcd 0 d:Int))=(0,1);rw[this,Int.zero_ediv,Int.ediv_self zO]
 unfold cw;rw[e];rw[ofInt_one,if_pos rfl,Lu]
theorem Fv(f:aM):cw (val (e7 f).1) (val (e7 f).2)=cw (val (bH f).1) (val (bH f).2):=by
 have h:=z_ f;by_cases k:val (bH f).2<0
 ·rw[(h.1 k).1,(h.1 k).2,←KO k]
 ·rw[(h.2 k).1,(h.2 k).2]
theorem alg{g k:Int}(h:0<g):fw (g*k)=fw k:=by
 unfold fw;by_cases h1:k<0
 ·rw[if_pos (Int.mul_neg_of_pos_of_neg h h1),if_pos h1]
 ·by_cases h2:0<k
  ·have:=Int.mul_pos h h2;rw[if_neg zO,if_pos this,if_neg h1,if_pos h2]
  ·have:k=0:=by omega
   subst this;simp
theorem Wf{n d:Int}(h:0<d):fw (val (cw n d).num-val [])=fw n:=by
 have hg:0<(Int.gcd n d:Int):=by
  have:=Nat.gcd_pos_of_pos_right n.natAbs (n:=d.natAbs) zO;have e:Int.gcd n d=Nat.gcd n.natAbs d.natAbs:=rfl;omega
 obtain⟨k,hk⟩:(Int.gcd n d:Int)∣n:=Int.gcd_dvd_left n d;have e:(cw n d).num=ofInt k:=by
  have:(iq n d).1=k:=by
   unfold iq;simp only[if_neg (show ¬d<0 by omega)];conv=>lhs;lhs;rw[hk]
   rw[Int.mul_ediv_cancel_left _ zO]
  show ofInt (iq n d).1=ofInt k;rw[this]
 rw[e,gp,ua,Int.sub_zero];conv=>rhs;rw[hk]
 rw[alg hg]
def jz(f g:aM):Int:=fT (ofInt (val (e7 f).1*val (e7 g).2)) (ofInt (val (e7 g).1*val (e7 f).2))
theorem L'(f g:aM):jz f g=qZ f g:=by
 unfold jz qZ xD;rw[r2,gp,gp];have hf:=z_ f;have hg:=z_ g;have pf:=CI f;have pg:=CI g;have pp:=Int.mul_pos pf pg;generalize val (bH f).1=a at*;generalize val (bH f).2=b at*;generalize val (bH g).1=c at*;generalize val (bH g).2=d at*;generalize val (e7 f).1=a' at*;generalize val (e7 f).2=b' at*;generalize val (e7 g).1=c' at*;generalize val (e7 g).2=d' at*;have key:cw (a*d-c*b) (b*d)=cw (a'*d'-c'*b') (b'*d'):=by
  by_cases k1:b<0
  ·obtain⟨e1,e2⟩:=hf.1 k1;by_cases k2:d<0
   ·obtain⟨e3,e4⟩:=hg.1 k2;rw[e1,e2,e3,e4];simp only[Int.neg_mul_neg]
   ·obtain⟨e3,e4⟩:=hg.2 k2;rw[e2,e4,Int.neg_mul]at pp;rw[e1,e2,e3,e4,KO (show b*d<0 by omega)];simp only[Int.neg_mul,Int.mul_neg]
    congr 1;omega
  ·obtain⟨e1,e2⟩:=hf.2 k1;by_cases k2:d<0
   ·obtain⟨e3,e4⟩:=hg.1 k2;rw[e2,e4,Int.mul_neg]at pp;rw[e1,e2,e3,e4,KO (show b*d<0 by omega)];simp only[Int.neg_mul,Int.mul_neg]
    congr 1;omega
   ·obtain⟨e3,e4⟩:=hg.2 k2;rw[e1,e2,e3,e4]
 rw[key,Wf pp]
theorem HX(a:aa):jD a=((ko a [45]).length:Int):=by
 unfold jD ko EH;cases a with
 |nil=>simp
 |cons c r=>
  by_cases h:c=45
  ·subst h;have:(1:Int)≤(r.length:Int)+1:=by omega
   simp[this]
  ·have h2:¬((c.toNat:Int)=45):=fun k=>h (UInt8.toNat_inj.1 (by show c.toNat=45;omega));simp[h,h2]
theorem Yt(f:aM):(decide (40<max (jD f.num) (jD f.den)))=(decide (40<((ko f.num [45]).length:Int))||decide (40<((ko f.den [45]).length:Int))):=by
 rw[HX,HX,Bool.eq_iff_iff];simp only[decide_eq_true_eq,Bool.or_eq_true];omega
def zC(pos:Bool)(f:aM):Int:=if decide (jw f≠0)=true then jw f else if(decide (jz f c6<0)||(pos&&decide (jz f c6=0)))=true then 2 else 0
theorem ain(pos:Bool)(f:aM):zC pos f=e6 pos false f:=by
 unfold zC e6 ta jw Fq;rw[L',←Yt];by_cases h:decide (g_ f≠0)=true
 ·rw[if_pos h,if_pos h];rfl
 ·rw[if_neg h,if_neg h];by_cases h2:decide (40<max (jD f.num) (jD f.den))=true
  ·rw[if_pos h2,if_pos h2];rfl
  ·rw[if_neg h2,if_neg h2];simp
theorem Zk(a:aa):g_ ⟨a,[]⟩=vU a:=by
 unfold g_ vU;rw[aji];have e:cw (val a) (val [49])=⟨ofInt (val a),[]⟩:=by
  rw[val_one];unfold cw iq;simp only[if_neg (show ¬(1:Int)<0 by omega)];have:(Int.gcd (val a) 1:Int)=1:=by simp
  rw[this,Int.ediv_one,Int.ediv_one];rw[ofInt_one,if_pos rfl]
 show(if(⟨a,[]⟩:aM)=cw (val a) (val [49])then(0:Int)else 1)=_;rw[e,NJ];by_cases h:a=ofInt (val a)
 ·rw[if_pos (by rw[←h]),if_pos h.symm]
 ·rw[if_neg (fun k=>h (aM.mk.inj k).1),if_neg (fun k=>h k.symm)]
theorem ZA(a:aa):qZ ⟨a,[]⟩ c6=fw (val a):=by
 rw[←L'];unfold jz;have h1:e7 ⟨a,[]⟩=(a,[49]):=CH (f:=⟨a,[]⟩) (show decide (fT [] []=0)=true by decide);have h2:e7 c6=([],[49]):=CH zD;rw[h1,h2,r2,gp,gp,val_one,ua];simp
def xL(pos:Bool)(a:aa):Int:=if decide (vU a≠0)=true then 1 else if decide (40<jD a)=true then 4 else if decide (fT a (if pos then[49]else[])<0)=true then 2 else 0
theorem an3(pos:Bool)(a:aa):xL pos a=e6 pos false ⟨a,[]⟩:=by
 unfold xL e6 ta Fq;rw[Zk,ZA,HX];by_cases h:decide (vU a≠0)=true
 ·rw[if_pos h,if_pos h]
 ·rw[if_neg h,if_neg h];have e:(decide (40<((ko a [45]).length:Int))||decide (40<((ko ([]:aa) [45]).length:Int)))=decide (40<((ko a [45]).length:Int)):=by
   have:decide (40<((ko ([]:aa) [45]).length:Int))=false:=by decide
   rw[this,Bool.or_false]
  show _=if(decide (40<((ko a [45]).length:Int))||decide (40<((ko ([]:aa) [45]).length:Int)))=true then _ else _
  rw[e];by_cases h2:decide (40<((ko a [45]).length:Int))=true
  ·rw[if_pos h2,if_pos h2]
  ·rw[if_neg h2,if_neg h2];have e2:decide (fT a (if pos then[49]else[])<0)=(decide (fw (val a)<0)||(pos&&decide (fw (val a)=0))||(false&&decide (0<qZ ⟨a,[]⟩ (cw (val [49]) (val [49]))))):=by
    rw[Bool.false_and,Bool.or_false,r2,Bool.eq_iff_iff];cases pos with
    |false=>
     simp only[Bool.false_eq_true,if_false,Bool.false_and,Bool.or_false,decide_eq_true_eq,ua,Int.sub_zero]
    |true=>
     simp only[if_true,Bool.true_and,Bool.or_eq_true,decide_eq_true_eq,val_one,GB,Aj];omega
   rw[e2]
def zf(t:aa):Bool:=t.all bZ&&decide (1≤t.length)&&decide (t.length≤4)&&decide ((t.headD 0).toNat≠48)
def qB(s:aa):Bool:=(fX s 47).2.2&&isName (fX s 47).1&&zf (fX s 47).2.1
theorem UX:∀(t:aa)(acc:Nat),t.all bZ=true→(acc+1)*10^t.length≤1000000000000→Lib.parseUint10 acc t=.ok (t.foldl (fun a c=>10*a+(c.toNat-48)) acc)
 |[],acc,_,_=>rfl
 |c::r,acc,h,ha=>by
  simp only[List.all_cons,Bool.and_eq_true,bZ,decide_eq_true_eq]at h;obtain⟨hc,hr⟩:=h;have hp:1≤10^r.length:=Nat.pow_pos zO;have e0:(acc+1)*10^(c::r).length=(10*acc+10)*10^r.length:=by
   rw[List.length_cons,Nat.pow_succ,Nat.mul_comm (10^r.length) 10,←Nat.mul_assoc];congr 1;omega
  rw[e0]at ha;have h1:10*acc+10≤(10*acc+10)*10^r.length:=Nat.le_mul_of_pos_right _ hp;have h2:(10*acc+(c.toNat-48)+1)*10^r.length≤(10*acc+10)*10^r.length:=Nat.mul_le_mul_right _ zO;have e:Lib.parseUint10 acc (c::r)=Lib.parseUint10 (10*acc+(c.toNat-48)) r:=by
   rw[Nat.mul_comm 10 acc];simp only[Lib.parseUint10];rw[if_pos hc,if_neg zO,if_neg zO]
  rw[e,UX r _ (by simpa[bZ]using hr) zO,List.foldl_cons]
theorem Yk{t:aa}(h:t.all bZ=true)(h1:1≤t.length)(h4:t.length≤4):Lib.atoiAll t=.ok (natVal t:Int):=by
 have hv:=pT t h;have ct:10^t.length≤10^4:=Nat.pow_le_pow_right zO h4;have hp:=UX t 0 h zO;cases t with
 |nil=>simp at h1
 |cons c r=>
  have hc:=h;simp only[List.all_cons,Bool.and_eq_true,bZ,decide_eq_true_eq]at hc;unfold Lib.atoiAll;simp only;rw[if_neg zO];unfold Lib.parseMag;rw[if_neg zS,hp];simp only;have e:(c::r).foldl (fun a c=>10*a+(c.toNat-48)) 0=natVal (c::r):=rfl;rw[e,if_neg zO,if_neg zO,if_neg zO]
theorem ag0(t:aa):zf t=(match Lib.atoiAll t with|.ok n=>decide (1≤n)&&decide (n≤9999)&&decide (Lib.itoa n=t)|_=>false):=by
 rw[Bool.eq_iff_iff];constructor
 ·intro h;simp only[zf,Bool.and_eq_true,decide_eq_true_eq]at h;obtain⟨⟨⟨h1,h2⟩,h3⟩,h4⟩:=h;rw[Yk h1 h2 h3];have hv:=pT t h1;have ct:10^t.length≤10^4:=Nat.pow_le_pow_right zO h3;have hu:=FN h1 (uq fun k=>h4 (by cases t with|nil=>simp at h2|cons c r=>exact k.2));have h0:natVal t≠0:=by
   intro e;rw[e,jL]at hu;rw[hu]at h2;simp at h2
  simp only[Bool.and_eq_true,decide_eq_true_eq];refine⟨⟨by omega,by omega⟩,?_⟩;rw[show Lib.itoa (natVal t:Int)=Lib.decDigits (natVal t) by unfold Lib.itoa;rw[if_neg zO];simp,x8 _ h0,←hu]
 ·intro h;split at h
  ·rename_i n hn;simp only[Bool.and_eq_true,decide_eq_true_eq]at h;obtain⟨⟨h1,h2⟩,h3⟩:=h;have e:Lib.itoa n=gd n.toNat:=by
    unfold Lib.itoa;rw[if_neg zO,x8 _ zO]
   rw[e]at h3;have hd:=Ca n.toNat;have hl:=zu 4 n.toNat zO;have dY:gd n.toNat≠[]:=fun k=>by have:=Cb.1 k;omega
   rw[h3]at hd hl dY;simp only[zf,Bool.and_eq_true,decide_eq_true_eq];cases t with
   |nil=>exact absurd rfl dY
   |cons c r=>exact⟨⟨⟨hd,by simp⟩,hl⟩,Ld n.toNat c r h3⟩
  ·cases h
theorem ag1(s:aa):qB s=qw s:=by
 have e:=ag0 (fX s 47).2.1;unfold qB qw;cases h:(fX s 47).2.2 with
 |true=>rw[e,Bool.true_and];rfl
 |false=>
  have:(fX s 47).2.1=[]:=by
   unfold fX at h⊢;split at h
   ·cases h
   ·rename_i k;rw[if_neg k]
  rw[this];exact(Bool.and_false _).symm
@[reducible] def encI(l:List Nat):List (List D):=l.map fun(n:Nat)=>[D.i (n:Int)]
@[reducible] def sI(l:List Nat):D:=.snap 1 false (encI l)
theorem aeY{l:List Nat}{n:Int}{k:Nat}(h:k<l.length)(hn:n=(k:Int)):(encI l)[n.toNat]?=some [D.i (nth l k:Int)]:=by
 subst hn;simp[encI,FT h]
theorem E8{l pre rest:List Nat}{n:Int}(h:l=pre++rest)(h0:0<pre.length)(hn:n=(pre.length:Int)-1):(encI l)[n.toNat]?=some [D.i (cR pre:Int)]:=E7 (fun(n:Nat)=>[D.i (n:Int)]) h h0 hn
theorem O0{out:List Nat}{j:Nat}(h:j<out.length):(encI out)[j]?=some [D.i (nth out j:Int)]:=by simp[encI,FT h]
theorem aby{out:List Nat}{j v:Nat}:(encI out).set j [D.i (v:Int)]=encI (out.set j v):=by simp[encI,List.map_set]
theorem aic(l:List Nat)(k:Nat):k8 l k=nth l k:=by simp[k8,nth,List.getD_eq_getElem?_getD]
theorem Lm{l:List Nat}{k:Nat}(h:l.length≤k):nth l k=0:=by simp[nth,List.getElem?_eq_none h]
theorem ahJ{a b:Nat}(h:a*b<9223372036854775808):IntKind.i64.wrap ((a:Int)*(b:Int))=((a*b:Nat):Int):=by
 rw[←Int.natCast_mul];exact en zO zO
theorem Dt{a b:Nat}(h:a+b<9223372036854775808):IntKind.i64.wrap ((a:Int)+(b:Int))=((a+b:Nat):Int):=by
 rw[←Int.natCast_add];exact en zO zO
theorem aj_{a:Nat}(h:a<9223372036854775808):IntKind.i64.wrap ((a:Int).tdiv 1000000000)=((a/gB:Nat):Int):=by
 have e:(a:Int).tdiv 1000000000=((a/gB:Nat):Int):=by
  rw[Int.tdiv_eq_ediv_of_nonneg zO];unfold gB;omega
 rw[e];have:a/gB≤a:=Nat.div_le_self _ _;generalize a/gB=q at this⊢;exact en zO zO
theorem ahg{x:Nat}(h:x<gB):aR [x]:=fun y hy=>by simp at hy;subst hy;exact h
def k9(x y:List Nat):Int:=if decide ((x.length:Int)≠y.length)=true then(if decide ((x.length:Int)<y.length)=true then -1 else 1)else iJ x.reverse y.reverse
theorem aiZ{x y:List Nat}(h:decide ((x.length:Int)≠y.length)=true)(h2:decide ((x.length:Int)<y.length)=true):-1=k9 x y:=by rw[k9,if_pos h,if_pos h2]
theorem ai0{x y:List Nat}(h:decide ((x.length:Int)≠y.length)=true)(h2:decide ((x.length:Int)<y.length)=false):1=k9 x y:=by rw[k9,if_pos h,if_neg (by rw[h2];simp)]
theorem ai1{x y:List Nat}(h:decide ((x.length:Int)≠y.length)=false):k9 x y=iJ x.reverse y.reverse:=by rw[k9,if_neg (by rw[h];simp)]
theorem N0:∀a b:List Nat,-1≤iJ a b∧iJ a b≤1
 |[],b=>by simp[iJ]
 |a::x,[]=>by simp[iJ]
 |a::x,b::y=>by
  simp only[iJ];split
  ·omega
  ·split
   ·omega
   ·exact N0 x y
theorem ai2(m n:Nat):k9 (ak m) (ak n)=fw ((m:Int)-n):=by
 have h:=DE (eN m) (eN n) (u2 m) (u2 n);rw[e5,e5]at h;have hb:=N0 (ak m).reverse (ak n).reverse;have e:(k9 (ak m) (ak n)<0↔m<n)∧(0<k9 (ak m) (ak n)↔n<m)∧-1≤k9 (ak m) (ak n)∧k9 (ak m) (ak n)≤1:=by
  unfold k9;unfold iA at h;by_cases k:(ak m).length=(ak n).length
  ·rw[if_neg (by simpa using k)]at h;rw[if_neg zQ];exact⟨h.1,h.2,hb⟩
  ·rw[if_pos k]at h;rw[if_pos (by simpa using fun e=>k zO)];by_cases k2:((ak m).length:Int)<(ak n).length
   ·rw[if_pos (by simpa using k2)];refine⟨⟨fun _=>h.1.1 zO,fun _=>by omega⟩,⟨fun k=>by omega,fun k=>?_⟩,by omega,by omega⟩;have:=h.2.2 k;omega
   ·rw[if_neg (by simpa using k2)];refine⟨⟨fun k=>by omega,fun k=>?_⟩,⟨fun _=>h.2.1 zO,fun _=>by omega⟩,by omega,by omega⟩;have:=h.1.2 k;omega
 unfold fw;split
 ·have:=e.1.2 zO;omega
 ·split
  ·have:=e.2.1.2 zO;omega
  ·have h1:¬k9 (ak m) (ak n)<0:=fun k=>by have:=e.1.1 k;omega
   have h2:¬0<k9 (ak m) (ak n):=fun k=>by have:=e.2.1.1 k;omega
   omega
theorem UJ(m n:Nat):decide (k9 (ak m) (ak n)≤0)=decide (m≤n):=by
 rw[ai2,decide_eq_decide];unfold fw;split
 ·omega
 ·split<;>omega
def IV(pre y out:List Nat)(c a k:Nat):Prop:=
 (k≤y.length∧TI out c pre.length y.length (an pre*an y) a (y.take k))∨(k=y.length+1∧c=0∧TO out (pre++[a]).length y.length (an (pre++[a])*an y))
theorem XL{pre y out:List Nat}(a:Nat)(h:TO out pre.length y.length (an pre*an y)):IV pre y out 0 a 0:=.inl ⟨by omega,by simpa using G7 a h⟩
theorem sh{pre y out:List Nat}{c a k:Nat}(h:IV pre y out c a k):aR out∧c<gB∧k≤y.length+1:=by
 rcases h with⟨h1,h2⟩|⟨h1,h2,h3⟩
 ·exact⟨h2.1,h2.2.1,by omega⟩
 ·exact⟨h3.1,by rw[h2];exact dv,by omega⟩
theorem XO{pre y out:List Nat}{c a k:Nat}(h:IV pre y out c a k)(hk:k<y.length∨0<c):k≤y.length:=by
 rcases h with⟨h1,_⟩|⟨h1,h2,_⟩<;>omega
theorem Dm{n a b c:Nat}(hn:n<gB)(ha:a<gB)(hb:b<gB)(hc:c<gB):a*b<9223372036854775808∧n+a*b<9223372036854775808∧n+a*b+c<9223372036854775808:=by
 have h:=G_ hc hn ha hb;have h2:gB*gB<9223372036854775808:=by decide
 omega
theorem XM{pre y out:List Nat}{c a k:Nat}(h:IV pre y out c a k)(hy:aR y)(ha:a<gB)(hk:k<y.length∨0<c)(hl:pre.length+y.length<out.length):
  pre.length+k<out.length∧IV pre y (out.set (pre.length+k) ((nth out (pre.length+k)+a*nth y k+c)%gB)) ((nth out (pre.length+k)+a*nth y k+c)/gB) a (k+1):=by
 rcases h with⟨h1,h2⟩|⟨h1,h2,h3⟩
 ·refine⟨by omega,?_⟩;by_cases h3:k<y.length
  ·refine .inl ⟨by omega,?_⟩;have el:(y.take k).length=k:=by rw[List.length_take];omega
   have:=G8 h2 ha (dZ hy k) (by rw[el];exact h3) (by rw[el];omega);rw[el]at this;have e2:y.take k++[nth y k]=y.take (k+1):=by
    rw[List.take_add_one,FT h3];rfl
   rw[e2]at this;rw[Nat.add_comm (nth out (pre.length+k)+a*nth y k) c];exact this
  ·have e:k=y.length:=by omega
   subst e;have hc:0<c:=hk.resolve_left zO;rw[List.take_length]at h2;have hy0:0<y.length:=by
    rcases Nat.eq_zero_or_pos y.length with e|e
    ·have e:=List.eq_nil_of_length_eq_zero e;subst e;have h3:=h2.2.2.1;simp only[an,Nat.mul_zero,Nat.zero_mul,Nat.add_zero,List.length_nil]at h3;have hp:0<gB^pre.length:=Nat.pow_pos dv;have:=Nat.mul_pos hc hp;omega
    ·exact e
   have h4:=h2.2.2.2 (pre.length+y.length) (Nat.le_refl _);have h5:=Lm (l:=y) (k:=y.length) (Nat.le_refl _);have hT:=G9 h2 hy0 hl rfl;rw[h4,h5];simp only[Nat.mul_zero,Nat.zero_add];rw[Nat.mod_eq_of_lt h2.2.1,Nat.div_eq_of_lt h2.2.1];rw[h4,Nat.zero_add]at hT;exact .inr ⟨rfl,rfl,hT⟩
 ·omega
theorem XN{pre y out:List Nat}{c a k:Nat}(h:IV pre y out c a k)(hk:¬(k<y.length∨0<c)):TO out (pre++[a]).length y.length (an (pre++[a])*an y):=by
 rcases h with⟨h1,h2⟩|⟨h1,h2,h3⟩
 ·have e:k=y.length:=by omega
  have e2:c=0:=by omega
  subst e;subst e2;rw[List.take_length]at h2;obtain⟨g1,g2,g3,g4⟩:=h2;refine⟨g1,?_,fun j hj=>g4 j (by simp at hj;omega)⟩;rw[Nat.zero_mul,Nat.add_zero]at g3;rw[g3,wZ,Nat.add_mul]
  congr 1
  rw[Nat.mul_right_comm]
 ·exact h3
def nY:Nat→Nat→aa
 |0,_=>[]
 |k+1,n=>nY k (n/10)++[UInt8.ofNat (48+n%10)]
theorem LM:∀k n,(nY k n).length=k
 |0,_=>rfl
 |k+1,n=>by simp[nY,LM k]
theorem OA{n:Nat}:(UInt8.ofNat (48+n%10)).toNat=48+n%10:=by
 have:n%10<10:=Nat.mod_lt _ zO;simp;omega
theorem UT:∀k n,(nY k n).all bZ=true
 |0,_=>rfl
 |k+1,n=>by
  have:n%10<10:=Nat.mod_lt _ zO;rw[nY,List.all_append,UT k];simp only[List.all_cons,List.all_nil,Bool.and_true,Bool.true_and,bZ,OA,Bool.and_eq_true,decide_eq_true_eq];omega
theorem T9:∀k n,natVal (nY k n)=n%10^k
 |0,n=>by simp[nY,natVal,Nat.mod_one]
 |k+1,n=>by
  rw[nY,tj,T9 k,OA,Nat.pow_succ,Nat.mul_comm (10^k) 10,Nat.mod_mul];omega
def qI(l:List Nat):aa:=(l.reverse.map (nY 9)).flatten
theorem F7(i:List Nat)(x:Nat):qI (i++[x])=nY 9 x++qI i:=by simp[qI]
theorem LN(l:List Nat):(qI l).length=9*l.length:=by
 induction l using qL with
 |h0=>rfl
 |h1 i x ih=>rw[F7,List.length_append,LM,ih];simp;omega
theorem UU(l:List Nat):(qI l).all bZ=true:=by
 induction l using qL with
 |h0=>rfl
 |h1 i x ih=>rw[F7,List.all_append,UT,ih];rfl
theorem T_{l:List Nat}(h:aR l):natVal (qI l)=an l:=by
 induction l using qL with
 |h0=>rfl
 |h1 i x ih=>
  have hi:aR i:=fun y hy=>h y (by simp[hy]);have hx:=h x zS;rw[F7,va,T9,ih hi,wZ,LN];have e1:(10:Nat)^(9*i.length)=gB^i.length:=by rw[Nat.pow_mul];rfl
  have e2:x%10^9=x:=Nat.mod_eq_of_lt hx;rw[e1,e2];omega
theorem alI{s:aa}(h:s.all bZ=true):cQ s=(s,false):=by
 cases s with
 |nil=>rfl
 |cons c r=>
  have hc:c≠45:=by
   rintro rfl;simp[bZ]at h
  unfold cQ;split
  ·rename_i e;injection e with e1 _;exact absurd e1 hc
  ·rfl
theorem FO:∀s:aa,natVal (eO s)=natVal s
 |[]=>by simp[eO]
 |c::r=>by
  by_cases h:c.toNat=48
  ·have e:=AN (s:=c::r) zS (by simpa using h);rw[e];have e2:natVal (c::r)=natVal r:=by
    have:=va [c] r;rw[List.singleton_append]at this;rw[this];have:natVal [c]=0:=by simp[natVal,h]
    rw[this];omega
   rw[e2];exact FO r
  ·rw[uq (by simpa using h)]
theorem anD{s:aa}(h:s.all bZ=true):val s=natVal s:=by
 have e:=alI h;have e2:digits s=(eO s,false):=by
  unfold digits;rw[e];simp[h]
 unfold val;rw[e2];simp[FO]
theorem anE{s:aa}(h:s.all bZ=true):val (45::s)=-(natVal s:Int):=by
 have e:cQ (45::s)=(s,true):=rfl;have e2:digits (45::s)=(eO s,decide (eO s≠[])):=by
  unfold digits;rw[e];simp[h]
 unfold val;rw[e2];by_cases k:eO s=[]
 ·have:=FO s;rw[k]at this;simp[k,natVal]at this⊢;omega
 ·simp[k,FO]
def De(cD:Bool)(m:List Nat):aa:=canon (if cD=true then[45]++qI m else qI m)
theorem aoa(cD:Bool){m:List Nat}(h:aR m):De cD m=ofInt (if cD then -(an m:Int)else an m):=by
 unfold De;rw[NJ];cases cD with
 |true=>simp only[if_true,List.singleton_append];rw[anE (UU m),T_ h]
 |false=>simp only[Bool.false_eq_true,if_false];rw[anD (UU m),T_ h]
theorem akj{d rest tl au aC:aa}{x2:UInt8}(hr:d=rest++tl)(aU:rest.drop (rest.length-9)=au++x2::aC):d=(rest.take (rest.length-9)++au)++x2::(aC++tl):=by
 have h:=List.take_append_drop (rest.length-9) rest;rw[aU]at h;generalize rest.take (rest.length-9)=t at h⊢;rw[hr,←h];simp
theorem akk{d rest tl w:aa}(hd:d.all bZ=true)(hr:d=rest++tl)(aU:rest.drop (rest.length-9)=w):w.all bZ=true:=by
 rw[←aU,List.all_eq_true];intro c hc;rw[hr,List.all_append,Bool.and_eq_true]at hd;exact List.all_eq_true.1 hd.1 c (List.mem_of_mem_drop hc)
open Go.Proofs Go.Proofs.Tryz
set_option maxRecDepth 20000
theorem aku(a:Nat):(a:Int).tmod 10=((a%10:Nat):Int):=by
 rw[Int.tmod_eq_emod_of_nonneg zO];omega
theorem aj8{a:Nat}(h:a<9223372036854775808):IntKind.i64.wrap ((a:Int).tdiv 10)=((a/10:Nat):Int):=by
 have e:(a:Int).tdiv 10=((a/10:Nat):Int):=by
  rw[Int.tdiv_eq_ediv_of_nonneg zO];omega
 rw[e];exact en zO zO
theorem Wt{a k c:Nat}{rest y:List Nat}:fN (a::rest) (y.drop k) c=(if a<c+nth y k then a+gB-(c+nth y k)else a-(c+nth y k))::fN rest (y.drop (k+1)) (if a<c+nth y k then 1 else 0):=by
 rcases Nat.lt_or_ge k y.length with h|h
 ·rw[MC h,aic]
 ·rw[MB h,Lm h];simp only[Nat.add_zero]
theorem Qg(l:List Nat)(i:Nat):Fc Tryz.prog 293 [sI l,.i (i:Int)] (.i (nth l i:Int)):=by
 refine Fc.mk' [4] func293 rfl ntmps293 rfl rfl rfl (fun t w=>results_tmp results293 t _ w) ?_;refine J.eu 0 rfl (fun hb=>?_);simp only[List.length_map,aG]at hb;refine go [] ?_;refine br (fun h1=>?_) (fun h1=>?_)
 ·refine ix zO (aeY (k:=i) (by simp at*;omega) rfl) ?_;exact ah rfl (Sub.refl _)
 ·exact ah rfl (Sub.int (by(rw[Lm (by simp at*;omega)];rfl)))
structure ano(m:List Nat)where
 cur:List Nat
 hx:bm cur=bm m
 hl:cur.length≤m.length
theorem GN(m:List Nat):Fc Tryz.prog 294 [sI m] (sI (bm m)):=by
 refine Fc.mk' [2] func294 rfl ntmps294 rfl rfl rfl (fun t w=>results_tmp results294 t _ w) ?_;refine J.eu 0 rfl (fun hb=>?_);simp only[List.length_map,aG]at hb;refine J.seq (J.af [.p] ?_);refine .ag rfl rfl<|.nil ?_;refine J.seq ?_;refine J.block ?_;refine J.loop (ι:=ano m) (fun sx=>[(0,sI sx.cur)]) (fun sx=>[]) (fun sx=>sx.cur.length) ⟨m,rfl,by omega⟩ ?_ ?_
 ·exact Le.mk rfl (.s rfl rfl .nil) .nil
 ·rintro⟨cur,hx,hl⟩;show J _ _ _ _ [(0,sI cur)] [];rcases lV cur with rfl|⟨i,x,rfl⟩
  ·skip;refine J.seq (J.seq (J.af [.p,.p,.p,.p,.p,.p,.p,.p,.p,.p,.p,.p] ?_));refine .mv rfl rfl<|.P rfl (cY underlying25 rfl)<|.P rfl (gn rfl rfl)<|.mv rfl rfl ?_;refine .off rfl (gf rfl rfl rfl zS) ?_;refine .off rfl (gf rfl rfl rfl zS) ?_;refine .off rfl (gf rfl rfl rfl zS) ?_;refine .off rfl (gf rfl rfl rfl zS) ?_;refine .off rfl (gf rfl rfl rfl zS) ?_;refine .off rfl (gf rfl rfl rfl zS) ?_;refine .off rfl (gf rfl rfl rfl zS) ?_;refine .P rfl (xr rfl zS rfl)<|.nil ?_;refine J.eF rfl rfl ?_;refine J.exit (dO (dG ?_));refine J.seq (J.af [.p,.p] ?_);refine .mv rfl rfl<|.ag rfl rfl<|.nil ?_;refine J.ret (?_);exact dn rfl (Sub.snap (by rw[←hx];rfl))
  ·skip;refine J.seq (J.seq (J.af [.p,.p,.p,.p,.p,.p,.p,.p,.p,.p,.p,.p] ?_));refine .mv rfl rfl<|.P rfl (cY underlying25 rfl)<|.P rfl (gn rfl rfl)<|.mv rfl rfl<|.p rfl (eB rfl rfl rfl zS) (fun _=>aT rfl _)<|.p rfl (eB rfl rfl rfl zS) (fun _=>aT rfl _)<|.p rfl (eB rfl rfl rfl zS) (fun _=>cY underlying25 rfl _)<|.p rfl (eB rfl rfl rfl zS) (fun _=>dw rfl rfl (en zO (by simp at*;omega)) _)<|.p rfl (eB rfl rfl rfl zS) (fun _=>gm underlying25 sizeOf3 rfl rfl zS (RE (fun(n:Nat)=>[D.i (n:Int)]) i x rfl) _)<|.p rfl (eB rfl rfl rfl zS) (fun _=>bP isAgg3 rfl _)<|.p rfl (eB rfl rfl rfl zS) (fun _=>jQ rfl rfl _)<|.P rfl (tP rfl zS rfl)<|.nil ?_;refine J.cond rfl (fun h1=>?_) (fun h1=>?_)
   ·have bJ:=h1;try simp only[bs]at bJ
    refine J.skip ?_;refine J.block ?_;refine J.af [.p,.p,.p,.p,.p,.p] ?_;refine .mv rfl rfl<|.mv rfl rfl<|.P rfl (cY underlying25 rfl)<|.P rfl (dw rfl rfl (en zO (by simp at*;omega)))<|.P rfl (oT underlying25 sizeOf3 rfl (h:=i.length) (r:=encI i) (.inl ⟨rfl,rfl⟩) (.inr ⟨_,_,rfl,(tw rfl zS)⟩) zO zS zS)<|.ag rfl rfl<|.nil ?_;refine J.nil (cn ?_);refine J.nil (cZ ?_);exact⟨⟨i,by rw[←hx,show x=0 by omega,sv],by simp at hl;omega⟩,by simp,Le.mk rfl (.s rfl rfl .nil) .nil⟩
   ·have bJ:=h1;try simp only[bs]at bJ
    refine J.exit (dO (dG ?_));refine J.seq (J.af [.p,.p] ?_);refine .mv rfl rfl<|.ag rfl rfl<|.nil ?_;refine J.ret (?_);exact dn rfl (Sub.snap (by(rw[←hx,x6 i zO])))
structure ai6(x y:List Nat)where
 lx:List Nat
 rx:List Nat
 ly:List Nat
 ry:List Nat
 ex:x=lx++rx
 ey:y=ly++ry
 el:lx.length=ly.length
 er:iJ lx.reverse ly.reverse=k9 x y
theorem ai5(x y:List Nat)(hx:x.length≤20000)(hy:y.length≤20000):Fc Tryz.prog 297 [sI x,sI y] (.i (k9 x y)):=by
 refine Fc.mk' [4] func297 rfl ntmps297 rfl rfl rfl (fun t w=>results_tmp results297 t _ w) ?_;refine go [] ?_;refine br (fun h1=>?_) (fun h1=>?_)
 ·refine br (fun h2=>?_) (fun h2=>?_)
  ·exact ah rfl (Sub.int (by exact aiZ (by simp at*;omega) (by simp at*;omega)))
  ·exact ah rfl (Sub.int (by exact ai0 (by simp at*;omega) (by simp at*;omega)))
 ·refine sd (en zO zQ) ?_;refine J.loop (ι:=ai6 x y) (fun sx=>[(0,sI x),(1,sI y),(5,.i ((sx.lx.length:Int)-1))]) (fun sx=>[]) (fun sx=>sx.lx.length) ⟨x,[],y,[],by simp,by simp,by simp at*;omega,(ai1 (by simp at*;omega)).symm⟩ ?_ ?_
  ·exact Le.mk rfl (.s rfl rfl (.s rfl rfl (.cons rfl (Sub.int zS) rfl .nil))) .nil
  ·rintro⟨lx,rx,ly,ry,ex,ey,el,er⟩;show J _ _ _ _ [(0,sI x),(1,sI y),(5,.i ((lx.length:Int)-1))] [];have Iu:=congrArg List.length ex;have Iv:=congrArg List.length ey;simp only[List.length_append]at Iu Iv;have es:=fun h=>DG (x:=lx) (y:=ly) h el;refine go [] ?_;refine br (fun h3=>?_) (fun h3=>?_)
   ·have fI:=h3;try simp only[bs]at fI
    refine ix zO (E8 ex zO rfl) ?_;refine ix zO (E8 ey zO zO) ?_;refine ord ?_;refine br (fun h4=>?_) (fun h4=>?_)
    ·have fU:=h4;try simp only[bs]at fU
     exact ah rfl (Sub.int (by(rw[←er,es zO];rw[if_pos zO])))
    ·have fU:=h4;try simp only[bs]at fU
     refine ix zO (E8 ex zO rfl) ?_;refine ix zO (E8 ey zO zO) ?_;refine ord ?_;refine br (fun h5=>?_) (fun h5=>?_)
     ·have lJ:=h5;try simp only[bs]at lJ
      exact ah rfl (Sub.int (by(rw[←er,es zO];rw[if_neg zO,if_pos zO])))
     ·have lJ:=h5;try simp only[bs]at lJ
      refine sd (aw zO) ?_;exact nx ⟨lx.dropLast,cR lx::rx,ly.dropLast,cR ly::ry,by rw[ex];conv=>{lhs;rw[sD (l:=lx) zO]};simp,by rw[ey];conv=>{lhs;rw[sD (l:=ly) zO]};simp,by simp;omega,by rw[←er,DG zO el,if_neg zO,if_neg zO]⟩ zQ (Le.mk rfl (.s rfl rfl (.s rfl rfl (.cons rfl (Sub.int zQ) rfl .nil))) .nil)
   ·have fI:=h3;try simp only[bs]at fI
    refine go [] ?_;exact ah rfl (Sub.int (by rw[←er,HK zO]))
structure ahI(x y:List Nat)where
 pre:List Nat
 rest:List Nat
 out:List Nat
 c:Nat
 hx:x=pre++rest
 wI:out.length=pre.length
 hc:c≤1
 hr:out++fN rest (y.drop pre.length) c=fN x y 0
theorem ahH(x y:List Nat)(uQ:x.length≤20000)(y0:y.length≤20000)(iG:aR x)(s4:aR y):Fc Tryz.prog 298 [sI x,sI y] (sI (bm (fN x y 0))):=by
 refine Fc.mk' [4] func298 rfl ntmps298 rfl rfl rfl (fun t w=>results_tmp results298 t _ w) ?_;refine go [12] ?_;refine oP (tL underlying25 sizeOf3) ?_;refine J.loop (ι:=ahI x y) (fun sx=>[(0,sI x),(1,sI y),(5,.gs 0 sx.out.length),(6,.i (sx.c:Int)),(7,.i (sx.pre.length:Int))]) (fun sx=>[(0,.arr 1 (encI sx.out))]) (fun sx=>sx.rest.length) ⟨[],x,[],0,by simp,rfl,by omega,by simp⟩ ?_ ?_
 ·exact(Le.jy 0 1).trans<|Le.mk rfl (.s rfl rfl (.s rfl rfl (.cons rfl (Sub.yA _ _) rfl (.s rfl rfl (.s rfl rfl .nil))))) (.arr rfl (by rfl) .nil)
 ·rintro⟨pre,rest,out,c,hx,wI,hc,hr⟩;show J _ _ _ _ [(0,sI x),(1,sI y),(5,.gs 0 out.length),(6,.i (c:Int)),(7,.i (pre.length:Int))] [(0,.arr 1 (encI out))];rcases rest with _|⟨a,rest⟩
  ·have hl:=congrArg List.length hx;simp only[List.length_append,List.length_nil]at hl;refine go [12] ?_;refine a_ zQ ?_;refine go [12] ?_;refine J.bE (Le.freeze 5 0 rfl rfl zS) ?_;refine go [] ?_;refine oP (ai call294 rfl (GN _)) ?_;exact ah rfl (Sub.snap (by simp[fN]at hr;simp[hr]))
  ·have hl:=congrArg List.length hx;simp only[List.length_append,List.length_cons]at hl;have ha:=iG a (by rw[hx];simp);have hb:=dZ s4 pre.length;refine go [12] ?_;refine bk zQ ?_;refine ix zO (aS (fun(n:Nat)=>[D.i (n:Int)]) hx rfl) ?_;refine oP (ai call293 rfl (Qg _ _)) ?_;refine sd (en (by unfold gB at*;omega) (by unfold gB at*;omega)) ?_;refine sd (en (by unfold gB at*;omega) (by unfold gB at*;omega)) ?_;refine ord ?_;refine br (fun h1=>?_) (fun h1=>?_)
   ·have bJ:=h1;try simp only[bs]at bJ
    refine sd (en (by unfold gB at*;omega) zO) ?_;refine oP (p6 underlying25 sizeOf3 zeroValue3 rfl rfl rfl rfl rfl) ?_;refine oW (fq 1 underlying25 underlying25 sizeOf3 typeInfo3 zeroValue3 rfl (bt:=8) rfl rfl rfl rfl zS rfl rfl zQ) ?_;refine sd (aw zO) ?_;exact nx ⟨pre++[a],rest,out++[a+gB-(c+nth y pre.length)],1,by simp[hx],by simp[wI],by omega,by rw[←hr,Wt,if_pos zO,if_pos zO];simp⟩ zS ((Le.mk (am:=[(1,_)]) rfl (show dE _ _ [(0,_),(1,_),(5,_),(6,_),(7,_)]from(.s rfl rfl (.s rfl rfl (.s rfl rfl (.s rfl rfl (.s rfl rfl .nil)))))) (.cons (i:=1) rfl rfl .nil)).trans<|(Le.kO 5 1 0 rfl rfl zS rfl).trans<|Le.mk rfl (.s rfl rfl (.s rfl rfl (.cons rfl (Sub.gs zS) rfl (.s rfl rfl (.cons rfl (Sub.int zS) rfl .nil))))) (.arr rfl (by simp[encI];unfold gB at*;omega) .nil))
   ·have bJ:=h1;try simp only[bs]at bJ
    refine oP (p6 underlying25 sizeOf3 zeroValue3 rfl rfl rfl rfl rfl) ?_;refine oW (fq 1 underlying25 underlying25 sizeOf3 typeInfo3 zeroValue3 rfl (bt:=8) rfl rfl rfl rfl zS rfl rfl zQ) ?_;refine sd (aw zO) ?_;exact nx ⟨pre++[a],rest,out++[a-(c+nth y pre.length)],0,by simp[hx],by simp[wI],by omega,by rw[←hr,Wt,if_neg zO,if_neg zO];simp⟩ zS ((Le.mk (am:=[(1,_)]) rfl (show dE _ _ [(0,_),(1,_),(5,_),(6,_),(7,_)]from(.s rfl rfl (.s rfl rfl (.s rfl rfl (.s rfl rfl (.s rfl rfl .nil)))))) (.cons (i:=1) rfl rfl .nil)).trans<|(Le.kO 5 1 0 rfl rfl zS rfl).trans<|Le.mk rfl (.s rfl rfl (.s rfl rfl (.cons rfl (Sub.gs zS) rfl (.s rfl rfl (.cons rfl (Sub.int zS) rfl .nil))))) (.arr rfl (by simp[encI];unfold gB at*;omega) .nil))
structure al3(m n:List Nat)where
 pre:List Nat
 rest:List Nat
 out:List Nat
 hx:m=pre++rest
 hlen:out.length=m.length+n.length
 ho:TO out pre.length n.length (an pre*an n)
structure al4(m n:List Nat)(pre:List Nat)(x:Nat)where
 out:List Nat
 c:Nat
 k:Nat
 hlen:out.length=m.length+n.length
 hi:IV pre n out c x k
theorem WB(m n:List Nat)(hn:m.length+n.length≠0)(Ra:m.length≤20000)(Bq:n.length≤20000)(Bn:aR m)(bY:aR n):Fc Tryz.prog 258 [sI m,sI n] (sI (ak (an m*an n))):=by
 refine Fc.mk' [4] func258 rfl ntmps258 rfl rfl rfl (fun t w=>results_tmp results258 t _ w) ?_;refine go [12] ?_;refine sd (en zO zQ) ?_;refine oW (vj (bt:=8) 0 (m.length+n.length) underlying25 sizeOf3 typeInfo3 zeroValue3 rfl rfl rfl rfl rfl (by simp[encI]) (by simp[encI]) (Nat.le_refl (m.length+n.length)) zO zO zO rfl) ?_;refine J.loop (ι:=al3 m n) (fun sx=>[(0,sI m),(1,sI n),(5,.gs 0 (m.length+n.length)),(6,.i sx.pre.length)]) (fun sx=>[(0,.arr 1 (encI sx.out))]) (fun sx=>sx.rest.length) ⟨[],m,List.replicate (m.length+n.length) 0,rfl,by simp,G' m n _⟩ ?_ ?_
 ·exact Le.mk rfl (.s rfl rfl (.s rfl rfl (.cons rfl (Sub.gs zS) rfl (.s rfl rfl .nil)))) (.arr rfl (by simp[encI]) .nil)
 ·rintro⟨pre,rest,out,hx,hlen,ho⟩;show J _ _ _ _ [(0,sI m),(1,sI n),(5,.gs 0 (m.length+n.length)),(6,.i pre.length)] [(0,.arr 1 (encI out))];have hl:=congrArg List.length hx;simp only[List.length_append]at hl;rcases rest with _|⟨x,rest⟩
  ·obtain rfl:m=pre:=by simpa using hx
   refine go [12] ?_;refine a_ zS ?_;refine go [12] ?_;refine J.bE (Le.freeze 5 0 rfl rfl (by simp[encI];omega)) ?_;refine go [] ?_;refine oP (ai call294 rfl (GN _)) ?_;exact ah rfl (Sub.snap (by rw[Aq ho]))
  ·simp only[List.length_cons]at hl;have jt:=Bn x (by rw[hx];simp);refine go [12] ?_;refine bk zQ ?_;refine J.loop (ι:=al4 m n pre x) (fun sx=>[(0,sI m),(1,sI n),(5,.gs 0 (m.length+n.length)),(6,.i (pre.length:Int)),(7,.i (sx.c:Int)),(8,.i (sx.k:Int))]) (fun sx=>[(0,.arr 1 (encI sx.out))]) (fun sx=>n.length+1-sx.k) ⟨out,0,0,hlen,XL _ ho⟩ ?_ ?_
   ·exact Le.mk rfl (.s rfl rfl (.s rfl rfl (.cons rfl (Sub.gs zS) rfl (.s rfl rfl (.s rfl rfl (.s rfl rfl .nil)))))) (.arr rfl (by rfl) .nil)
   ·rintro⟨out,c,k,hlen,hi⟩;show J _ _ _ _ [(0,sI m),(1,sI n),(5,.gs 0 (m.length+n.length)),(6,.i (pre.length:Int)),(7,.i (c:Int)),(8,.i (k:Int))] [(0,.arr 1 (encI out))];refine go [12] ?_;refine br (fun h1=>?_) (fun h1=>?_)
    ·have bJ:=h1;try simp only[bs]at bJ
     have hik:=(sh hi).2.2;have aP:=XM hi bY jt zO zO;have arl:=aP.1;refine sd (aw zO) ?_;refine oP (bS (off:=(pre.length+k)*1) underlying25 sizeOf3 rfl rfl zO zO zO) ?_;refine oR (eX (r:=_) (pre.length+k) 0 isAgg3 rfl rfl rfl (O0 zO) rfl) ?_;refine ix zO (aS (fun(n:Nat)=>[D.i (n:Int)]) hx rfl) ?_;refine oP (ai call293 rfl (Qg _ _)) ?_;refine sd ((ahJ (Dm (dZ (sh hi).1 (pre.length+k)) jt (dZ bY k) (sh hi).2.1).1)) ?_;refine sd ((Dt (Dm (dZ (sh hi).1 (pre.length+k)) jt (dZ bY k) (sh hi).2.1).2.1)) ?_;refine sd ((Dt (Dm (dZ (sh hi).1 (pre.length+k)) jt (dZ bY k) (sh hi).2.1).2.2)) ?_;refine ord ?_;refine sd (aw zO) ?_;refine oP (oS rfl rfl zD (tR _)) ?_;refine oP (bS (off:=(pre.length+k)*1) underlying25 sizeOf3 rfl rfl zO zO zO) ?_;refine oW (gH (r:=_) (pre.length+k) 0 sizeOf3 rfl rfl rfl rfl rfl rfl (O0 zO) zS) ?_;refine oP (lO rfl rfl zD (aj_ (Dm (dZ (sh hi).1 (pre.length+k)) jt (dZ bY k) (sh hi).2.1).2.2)) ?_;refine sd (aw zO) ?_;exact nx ⟨out.set (pre.length+k) ((nth out (pre.length+k)+x*nth n k+c)%gB),(nth out (pre.length+k)+x*nth n k+c)/gB,k+1,by simp[hlen],aP.2⟩ (by have rq:=XO hi zO;show n.length+1-(k+1)<n.length+1-k;omega) (Le.mk rfl (.s rfl rfl (.s rfl rfl (.cons rfl (Sub.gs zS) rfl (.s rfl rfl (.s rfl rfl (.s rfl rfl .nil)))))) (.arr rfl (by exact aby) .nil))
    ·have bJ:=h1;try simp only[bs]at bJ
     have hie:=XN hi zO;refine J.nil (cn ?_);refine go [12] ?_;refine sd (aw zO) ?_;exact nx ⟨pre++[x],rest,out,by simp[hx],hlen,hie⟩ zS (Le.mk rfl (.s rfl rfl (.s rfl rfl (.cons rfl (Sub.gs zS) rfl (.cons rfl (Sub.int zS) rfl .nil)))) (.arr rfl (by rfl) .nil))
structure akh(s:aa)where
 rest:aa
 tl:aa
 e:Int
 done:List Nat
 hr:(digits s).1=rest++tl
 he:(0<e→e=rest.length)∧(e≤0→rest=[])
 hx:done++fE rest=fE (digits s).1
structure aki(s:aa)(rest tl:aa)(e:Int)(done:List Nat)where
 au:aa
 aC:aa
 aU:rest.drop (rest.length-9)=au++aC
theorem akg(s:aa)(hs:s.length≤100000):Fc Tryz.prog 256 [.str s] (.agg [.b (digits s).2,sI (fE (digits s).1)]):=by
 refine Fc.je func256 rfl ntmps256 rfl rfl rfl ?_;have pC:=kW s;have EM:=nE s;have cK:=qh (digits s).1;refine go [99999] ?_;refine oP (ai call251 rfl (sA _)) ?_;refine J.loop (ι:=akh s) (fun sx=>[(2,.box 0 0),(3,.str (digits s).1),(5,.box 1 0),(6,.i sx.e)]) (fun sx=>[(0,.cells [.b false,.raw (.slice none 0 0)]),(1,.cells [.b (digits s).2,.gs 2 sx.done.length]),(2,.arr 1 (encI sx.done))]) (fun sx=>sx.rest.length) ⟨(digits s).1,[],(digits s).1.length,[],by simp,⟨fun _=>rfl,fun h=>List.length_eq_zero_iff.1 zO⟩,rfl⟩ ?_ ?_
 ·exact(Le.jy 2 1).trans<|(Le.fa 1 1 rfl rfl (Sub.wm _)).trans<|Le.mk rfl (.s rfl rfl (.s rfl rfl (.s rfl rfl (.s rfl rfl .nil)))) (.cons rfl rfl (.cons rfl rfl (.arr rfl (by rfl) .nil)))
 ·rintro⟨rest,tl,e,done,hr,he,hx⟩;show J _ _ _ _ [(2,.box 0 0),(3,.str (digits s).1),(5,.box 1 0),(6,.i e)] [(0,.cells [.b false,.raw (.slice none 0 0)]),(1,.cells [.b (digits s).2,.gs 2 done.length]),(2,.arr 1 (encI done))];have f_:=congrArg List.length hr;simp only[List.length_append]at f_;have wO:=congrArg List.length hx;simp only[List.length_append]at wO;refine go [99999] ?_;refine br (fun h1=>?_) (fun h1=>?_)
  ·have bJ:=h1;try simp only[bs]at bJ
   refine sd (aw zO) ?_;refine J.loop (ι:=aki s rest tl e done) (fun sx=>[(2,.box 0 0),(3,.str (digits s).1),(5,.box 1 0),(6,.i e),(7,.i (natVal sx.au:Int)),(8,.i ((rest.length-9+sx.au.length:Nat):Int))]) (fun sx=>[(0,.cells [.b false,.raw (.slice none 0 0)]),(1,.cells [.b (digits s).2,.gs 2 done.length]),(2,.arr 1 (encI done))]) (fun sx=>sx.aC.length) ⟨[],_,rfl⟩ ?_ ?_
   ·exact Le.mk rfl (.s rfl rfl (.s rfl rfl (.s rfl rfl (.s rfl rfl (.s rfl rfl (.cons rfl (Sub.int zQ) rfl .nil)))))) (.cons rfl rfl (.cons rfl rfl (.arr rfl zS .nil)))
   ·rintro⟨au,aC,aU⟩;show J _ _ _ _ [(2,.box 0 0),(3,.str (digits s).1),(5,.box 1 0),(6,.i e),(7,.i (natVal au:Int)),(8,.i ((rest.length-9+au.length:Nat):Int))] [(0,.cells [.b false,.raw (.slice none 0 0)]),(1,.cells [.b (digits s).2,.gs 2 done.length]),(2,.arr 1 (encI done))];have Ji:=congrArg List.length aU;simp only[List.length_append,List.length_drop]at Ji;have Jh:=akk EM hr aU;rw[List.all_append,Bool.and_eq_true]at Jh;have hv:=pT au Jh.1;have hp9:10^au.length≤10^9:=Nat.pow_le_pow_right zO zO;rcases aC with _|⟨x2,aC⟩
    ·simp only[List.length_nil]at Ji;obtain rfl:au=rest.drop (rest.length-9):=by simpa using aU.symm
     refine go [99999] ?_;refine a_ zQ ?_;refine go [99999] ?_;refine oP (p6 underlying25 sizeOf3 zeroValue3 rfl rfl rfl rfl rfl) ?_;refine oW (fq 3 underlying25 underlying25 sizeOf3 typeInfo3 zeroValue3 rfl (bt:=8) rfl rfl rfl rfl zS rfl rfl zQ) ?_;refine go [99999] ?_;refine sd (aw zO) ?_;exact nx ⟨rest.take (rest.length-9),rest.drop (rest.length-9)++tl,e-9,done++[natVal (rest.drop (rest.length-9))],by rw[hr,←List.append_assoc,List.take_append_drop],⟨fun h=>by simp;omega,fun h=>List.length_eq_zero_iff.1 zQ⟩,by rw[←hx,yy (s:=rest) zO];simp⟩ zQ ((Le.mk (am:=[(0,_),(1,_),(3,_)]) rfl (show dE _ _ [(2,_),(3,_),(5,_),(6,_)]from(.s rfl rfl (.s rfl rfl (.s rfl rfl (.s rfl rfl .nil))))) (.cons (i:=0) rfl rfl (.cons (i:=1) rfl rfl (.cons (i:=3) rfl rfl .nil)))).trans<|(Le.VJ 1 1 3 2 rfl rfl rfl zS rfl).trans<|Le.mk rfl (.s rfl rfl (.s rfl rfl (.s rfl rfl (.s rfl rfl .nil)))) (.cons rfl rfl (.eq rfl zS rfl (.arr rfl (by simp[encI]) .nil))))
    ·simp only[List.length_cons]at Ji;have hq:=Jh.2;simp only[List.all_cons,Bool.and_eq_true,bZ,decide_eq_true_eq]at hq;refine go [99999] ?_;refine bk zQ ?_;refine sd (aw zO) ?_;refine Fe zO (mu (pre:=rest.take (rest.length-9)++au) (rest:=aC++tl) (x:=x2) (akj hr aU) zS) ?_;refine sd (Xp zO zO) ?_;refine sd (aw zO) ?_;refine sd (aw zO) ?_;refine sd (aw zO) ?_;exact nx ⟨au++[x2],aC,by simp[aU]⟩ zS (Le.mk rfl (.s rfl rfl (.s rfl rfl (.s rfl rfl (.s rfl rfl (.cons rfl (Sub.int (by rw[tj];omega)) rfl (.cons rfl (Sub.int zQ) rfl .nil)))))) (.cons rfl rfl (.cons rfl rfl (.arr rfl zS .nil))))
  ·have bJ:=h1;try simp only[bs]at bJ
   refine go [99999] ?_;refine J.bE (Le.IS 0 1 2 rfl rfl rfl zS) ?_;refine J.ret (?_);exact Rd.cA results256 isAgg260 sizeOf260 rfl rfl rfl (Sub.agg (.r (.cons (Sub.snap (by rw[←hx,he.2 zO,sS,List.append_nil])) .nil)))
structure an_(cD:Bool)(m:List Nat)where
 pre:List Nat
 rest:List Nat
 hx:m=pre++rest
structure an'(cD:Bool)(m:List Nat)(pre:List Nat)(x:Nat)where
 n:Nat
 k:Nat
 acc:aa
 hk:k≤9
 hn:n<gB
 hq:nY (9-k) n++acc=nY 9 x++qI pre
theorem an9(cD:Bool)(m:List Nat)(hs:m.length≤20000)(hm:aR m):Fc Tryz.prog 257 [.agg [.b cD,sI m]] (.str (De cD m)):=by
 refine Fc.mk' [2] func257 rfl ntmps257 rfl rfl rfl (fun t w=>results_tmp results257 t _ w) ?_;have E0:=LN m;refine go [] ?_;refine J.loop (ι:=an_ cD m) (fun sx=>[(1,.box 0 0),(3,.str (qI sx.pre)),(4,.i sx.pre.length)]) (fun sx=>[(0,.cells [.b cD,sI m])]) (fun sx=>sx.rest.length) ⟨[],m,rfl⟩ ?_ ?_
 ·exact Le.mk rfl (.s rfl rfl (.s rfl rfl (.s rfl rfl .nil))) (.cons rfl rfl .nil)
 ·rintro⟨pre,rest,hx⟩;show J _ _ _ _ [(1,.box 0 0),(3,.str (qI pre)),(4,.i pre.length)] [(0,.cells [.b cD,sI m])];have hl:=congrArg List.length hx;simp only[List.length_append]at hl;rcases rest with _|⟨x,rest⟩
  ·obtain rfl:m=pre:=by simpa using hx
   refine go [] ?_;refine a_ zS ?_;refine go [] ?_;refine br (fun h1=>?_) (fun h1=>?_)
   ·refine sd (by simp[aG];omega) ?_;refine oP (ai call250 rfl (HF _)) ?_;exact ah rfl (Sub.str (by unfold De;rw[if_pos zA]))
   ·refine oP (ai call250 rfl (HF _)) ?_;exact ah rfl (Sub.str (by unfold De;rw[if_neg (by simp at*;assumption)]))
  ·simp only[List.length_cons]at hl;have jt:=hm x (by rw[hx];simp);refine go [] ?_;refine bk zQ ?_;refine ix zO (aS (fun(n:Nat)=>[D.i (n:Int)]) hx rfl) ?_;refine J.loop (ι:=an' cD m pre x) (fun sx=>[(1,.box 0 0),(3,.str sx.acc),(4,.i (pre.length:Int)),(5,.i (sx.n:Int)),(6,.i (sx.k:Int))]) (fun sx=>[(0,.cells [.b cD,sI m])]) (fun sx=>9-sx.k) ⟨x,0,_,by omega,jt,rfl⟩ ?_ ?_
   ·exact Le.mk rfl (.s rfl rfl (.s rfl rfl (.s rfl rfl (.s rfl rfl (.s rfl rfl .nil))))) (.cons rfl rfl .nil)
   ·rintro⟨n,k,acc,hk,hn,hq⟩;show J _ _ _ _ [(1,.box 0 0),(3,.str acc),(4,.i (pre.length:Int)),(5,.i (n:Int)),(6,.i (k:Int))] [(0,.cells [.b cD,sI m])];refine go [] ?_;refine br (fun h2=>?_) (fun h2=>?_)
    ·have de:=h2;try simp only[bs]at de
     refine oP (oS rfl rfl zD (aku _)) ?_;refine sd (aw zO) ?_;refine sd (MR zO zO) ?_;refine oP (L6 underlying21 underlying9 rfl (c:=UInt8.ofNat (48+n%10)) zO zO (by congr 1<;>omega)) ?_;refine sd (by have:=congrArg List.length hq;simp[LM,LN]at this;simp[aG];omega) ?_;refine oP (lO rfl rfl zD (aj8 (by unfold gB at*;omega))) ?_;refine sd (aw zO) ?_;exact nx ⟨n/10,k+1,UInt8.ofNat (48+n%10)::acc,by simp at*;omega,by omega,by rw[←hq,show 9-k=(9-(k+1))+1 by simp at*;omega,nY];simp⟩ (by simp at*;omega) (Le.mk rfl (.s rfl rfl (.s rfl rfl (.s rfl rfl (.s rfl rfl (.s rfl rfl .nil))))) (.cons rfl rfl .nil))
    ·have de:=h2;try simp only[bs]at de
     refine J.nil (cn ?_);refine go [] ?_;refine sd (aw zO) ?_;exact nx ⟨pre++[x],rest,by simp[hx]⟩ zS (Le.mk rfl (.s rfl rfl (.cons rfl (Sub.str (by rw[F7,←hq];simp[nY,show k=9 by omega])) rfl (.cons rfl (Sub.int zS) rfl .nil))) (.cons rfl rfl .nil))
theorem MT(cD:Bool)(n:Nat)(h:(ak n).length≤20000):Fc Tryz.prog 257 [.agg [.b cD,sI (ak n)]] (.str (ofInt (if cD then -(n:Int)else n))):=by
 have:=an9 cD (ak n) h (eN n);rwa[aoa _ (eN n),e5]at this
theorem Gn(s:aa)(hs:s.length≤100000):Fc Tryz.prog 256 [.str s] (.agg [.b (decide (val s<0)),sI (ak (val s).natAbs)]):=by
 have:=akg s hs;rw[Li,EB]at this;exact this
theorem ann(x R:Nat)(h:x<gB):Fc Tryz.prog 294 [sI (x::ak R)] (sI (ak (x+gB*R))):=by
 have:=GN (x::ak R);rw[q0 (fun y hy=>by
  rcases List.mem_cons.1 hy with rfl|hy
  ·exact h
  ·exact eN R y hy),an,e5]at this
 exact this
theorem ai4(m n:Nat)(hm:(ak m).length≤20000)(hn:(ak n).length≤20000):Fc Tryz.prog 297 [sI (ak m),sI (ak n)] (.i (k9 (ak m) (ak n))):=ai5 _ _ hm hn
theorem ahF(a b:Nat)(ha:(ak a).length≤20000)(hb:(ak b).length≤20000)(h:b≤a):Fc Tryz.prog 298 [sI (ak a),sI (ak b)] (sI (ak (a-b))):=by
 have:=ahH (ak a) (ak b) ha hb (eN a) (eN b);rw[q0 (xC _ _ _ (eN a) (eN b) zO),tX _ _ _ (eN a) (eN b) zO (by rw[e5,e5];omega),e5,e5]at this;exact this
theorem WC(B m:Nat)(hB:(ak B).length≤10000)(hm:m<gB):Fc Tryz.prog 258 [sI (ak B),sI [m]] (sI (ak (B*m))):=by
 have:=WB (ak B) [m] zS zO zS (eN B) (ahg hm);rw[e5]at this;simpa[an]using this
theorem al5(a b:Nat)(ha:(ak a).length≤10000)(hb:(ak b).length≤10000)(h:a≠0∨b≠0):Fc Tryz.prog 258 [sI (ak a),sI (ak b)] (sI (ak (a*b))):=by
 have:=WB (ak a) (ak b) (by
  rcases h with h|h
  ·have e0:(ak a).length≠0:=fun e=>h (pO e);omega
  ·have e0:(ak b).length≠0:=fun e=>h (pO e);omega) zO zO (eN a) (eN b)
 rwa[e5,e5]at this
end Go.T
namespace Go.T
open Go
theorem abx{i:List Nat}{x:Nat}{s:List Nat}:(encI (List.replicate (i++[x]).length 0++s))[i.length]?=some [D.i ((0:Nat):Int)]:=by
 rw[Gs];simp[encI]
theorem O3{i:List Nat}{x:Nat}{s:List Nat}{q:Nat}:(encI (List.replicate (i++[x]).length 0++s)).set i.length [D.i (q:Int)]=encI (List.replicate i.length 0++q::s):=by
 rw[Gs];simp[encI,List.set_append]
theorem abo{B x H:Nat}(hB:0<B)(hx:x<gB):(x+gB*(H%B))/B<gB∧(x+gB*(H%B))/B+gB*(H/B)=(x+gB*H)/B∧(x+gB*(H%B))%B=(x+gB*H)%B:=by
 have hr:=Nat.mod_lt H hB;have e:x+gB*H=x+gB*(H%B)+B*(gB*(H/B)):=by
  have:=Nat.mod_add_div H B;conv=>lhs;rw[←this]
  rw[Nat.mul_add,Nat.mul_left_comm,Nat.add_assoc]
 refine⟨?_,?_,?_⟩
 ·rw[Nat.div_lt_iff_lt_mul hB];have h1:gB*(H%B)+gB≤gB*B:=by
   have:=Nat.mul_le_mul_left gB (show H%B+1≤B from hr);rwa[Nat.mul_add,Nat.mul_one]at this
  omega
 ·rw[e,Nat.add_mul_div_left _ _ hB]
 ·rw[e,Nat.add_mul_mod_self_left]
theorem OU(X B:Nat):X-B*(X/B)=X%B:=by have:=Nat.mod_add_div X B;omega
theorem abn(X B:Nat):B*(X/B)≤X:=by have:=Nat.mod_add_div X B;omega
theorem OT{B X m:Nat}(hB:0<B):B*m≤X↔m≤X/B:=by rw[Nat.le_div_iff_mul_le hB,Nat.mul_comm]
theorem aj9{a:Nat}(h:a<9223372036854775808):IntKind.i64.wrap ((a:Int).tdiv 2)=((a/2:Nat):Int):=by
 have e:(a:Int).tdiv 2=((a/2:Nat):Int):=by
  rw[Int.tdiv_eq_ediv_of_nonneg zO];omega
 rw[e];exact en zO zO
theorem ahf{v k:Nat}(h:v<10^k):(ak v).length≤k:=KQ (Nat.lt_of_lt_of_le h (Nat.pow_le_pow_left (by unfold gB;omega) k))
theorem Tm{x:Nat}{l:List Nat}(h:x<gB)(k:aR l):aR (x::l):=fun y hy=>by
 rcases List.mem_cons.1 hy with rfl|hy
 ·exact h
 ·exact k y hy
theorem ahb{x R:Nat}(hx:x<gB):(ak (x+gB*R)).length≤(ak R).length+1:=by
 by_cases e:x+gB*R=0
 ·rw[e,ng];simp
 ·rw[u5 e,List.length_cons];have:(x+gB*R)/gB=R:=by
   rw[Nat.add_mul_div_left _ _ dv,Nat.div_eq_of_lt hx,Nat.zero_add]
  rw[this];exact Nat.le_refl _
theorem Tk{x R k:Nat}(hx:x<gB)(h:(ak R).length≤k):(ak (x+gB*R)).length≤k+1:=Nat.le_trans (ahb hx) zO
theorem Ti{B m k:Nat}(h:(ak B).length≤k)(hm:m<gB:=by omega):(ak (B*m)).length≤k+1:=by
 have e:B*m≤0+gB*B:=by
  rw[Nat.zero_add,Nat.mul_comm gB];exact Nat.mul_le_mul_left _ (Nat.le_of_lt hm)
 exact Nat.le_trans (oG e) (Tk dv h)
def ji(s:aa):Bool:=decide ((digits s).1.length≤17)
def gQ(s:aa):Int:=if(digits s).1.length≤17 then val s else 0
theorem Ai{s:aa}(h:ji s=true):gQ s=val s:=by
 unfold ji at h;unfold gQ;rw[if_pos (of_decide_eq_true h)]
theorem Wd{s:aa}(h:ji s=true):-100000000000000000<val s∧val s<100000000000000000:=by
 unfold ji at h;have h:=of_decide_eq_true h;have h1:=pT (digits s).1 (nE s);have h3:10^(digits s).1.length≤10^17:=Nat.pow_le_pow_right zO h;unfold val;split<;>omega
theorem We{s:aa}(h:val s=0):ji s=true∧gQ s=0:=by
 have h1:(digits s).1.length=0:=by
  have:=AK s;have h2:natVal (digits s).1=0:=by
   unfold val at h;split at h<;>omega
  rw[h2,jL]at this;rw[this];rfl
 unfold ji gQ;rw[h1];exact⟨by simp,by rw[if_pos zO,h]⟩
theorem TQ{a b:aa}(h:(((((ji a&&ji b)&&decide (gQ a<1000000000))&&decide (-1000000000<gQ a))&&decide (gQ b<1000000000))&&decide (-1000000000<gQ b))=true):
  IntKind.i64.wrap (gQ a*gQ b)=val a*val b∧-1000000000000000000<val a*val b∧val a*val b<1000000000000000000:=by
 simp only[Bool.and_eq_true,decide_eq_true_eq]at h;obtain⟨⟨⟨⟨⟨h1,h2⟩,h3⟩,h4⟩,h5⟩,h6⟩:=h;rw[Ai h1]at*;rw[Ai h2]at*;have key:(val a*val b).natAbs≤999999999*999999999:=by
  rw[Int.natAbs_mul];exact Nat.mul_le_mul zO zO
 have h7:-1000000000000000000<val a*val b∧val a*val b<1000000000000000000:=by omega
 exact⟨en zO zO,h7⟩
theorem ahO{a b:aa}(h:(((((ji a&&ji b)&&decide (gQ a<1000000000))&&decide (-1000000000<gQ a))&&decide (gQ b<1000000000))&&decide (-1000000000<gQ b))=false):
  (val a).natAbs≠0∨(val b).natAbs≠0:=by
 by_cases ha:val a=0
 ·by_cases hb:val b=0
  ·obtain⟨a1,a2⟩:=We ha;obtain⟨b1,b2⟩:=We hb;rw[a1,a2,b1,b2]at h;exact absurd h zD
  ·right;omega
 ·left;omega
theorem ahK(a b:aa):ofInt (if(decide (val a<0)!=decide (val b<0))=true then -(((val a).natAbs*(val b).natAbs:Nat):Int)else(((val a).natAbs*(val b).natAbs:Nat):Int))=ofInt (val a*val b):=by
 congr 1
 rw[Int.natCast_mul];by_cases h1:val a<0
 ·by_cases h2:val b<0
  ·have e1:((val a).natAbs:Int)=-val a:=by omega
   have e2:((val b).natAbs:Int)=-val b:=by omega
   simp[h1,h2,e1,e2,Int.neg_mul,Int.mul_neg]
  ·have e1:((val a).natAbs:Int)=-val a:=by omega
   have e2:((val b).natAbs:Int)=val b:=by omega
   simp[h1,h2,e1,e2,Int.neg_mul,Int.mul_neg]
 ·by_cases h2:val b<0
  ·have e1:((val a).natAbs:Int)=val a:=by omega
   have e2:((val b).natAbs:Int)=-val b:=by omega
   simp[h1,h2,e1,e2,Int.neg_mul,Int.mul_neg]
  ·have e1:((val a).natAbs:Int)=val a:=by omega
   have e2:((val b).natAbs:Int)=val b:=by omega
   simp[h1,h2,e1,e2,Int.neg_mul,Int.mul_neg]
theorem ahL(a b:aa){k:Nat}(h:a.length+b.length≤k):(ak ((val a).natAbs*(val b).natAbs)).length≤k:=by
 rw[←Int.natAbs_mul];exact Nat.le_trans (ahf (zp a b)) h
theorem aaS{b:aa}(hb:0<val b):(ji b&&decide (gQ b=0))=false:=by
 cases h:ji b with
 |false=>rfl
 |true=>rw[Ai h];simp;omega
theorem H0{a b:aa}(h:(ji a&&ji b)=true)(hb:0<val b):gQ a=val a∧gQ b=val b∧gQ b≠0∧(val a).tdiv (val b)=(if 0≤val a∨val b∣val a then val a/val b else val a/val b+1)∧(val a).tmod (val b)=(if 0≤val a∨val b∣val a then val a%val b else val a%val b-val b)∧
  -100000000000000000<val a/val b∧val a/val b<100000000000000000∧0≤val a%val b∧val a%val b<val b∧val b<100000000000000000:=by
 rw[Bool.and_eq_true]at h;have h1:=Wd h.1;have h2:=Wd h.2;have hm:=Int.emod_nonneg (val a) (show val b≠0 by omega);have hl:=Int.emod_lt_of_pos (val a) hb;have hd:(val a/val b).natAbs≤(val a).natAbs:=Int.natAbs_ediv_le_natAbs _ _;refine⟨Ai h.1,Ai h.2,by rw[Ai h.2];omega,?_,?_,by omega,by omega,hm,hl,h2.2⟩
 ·rw[Int.tdiv_eq_ediv];by_cases k:0≤val a∨val b∣val a
  ·rw[if_pos k,if_pos k];simp
  ·rw[if_neg k,if_neg k,Int.sign_eq_one_of_pos hb]
 ·rw[Int.tmod_eq_emod];by_cases k:0≤val a∨val b∣val a
  ·rw[if_pos k,if_pos k];simp
  ·rw[if_neg k,if_neg k,Int.natAbs_of_nonneg zO]
theorem uo{a b:aa}(h:(ji a&&ji b)=true)(hb:0<val b):
  IntKind.i64.wrap ((gQ a).tdiv (gQ b))=(val a).tdiv (val b)∧(gQ a).tmod (gQ b)=(val a).tmod (val b)∧
  ((decide ((val a).tmod (val b)≠0)&&(decide ((val a).tmod (val b)<0)!=decide (gQ b<0)))=true→
   IntKind.i64.wrap ((val a).tdiv (val b)-1)=val a/val b∧IntKind.i64.wrap ((val a).tmod (val b)+gQ b)=val a%val b)∧
  ((decide ((val a).tmod (val b)≠0)&&(decide ((val a).tmod (val b)<0)!=decide (gQ b<0)))=false→(val a).tdiv (val b)=val a/val b∧(val a).tmod (val b)=val a%val b):=by
 obtain⟨e1,e2,_,h3,h4,h5,h6,h7,h8,h9⟩:=H0 h hb;rw[e1,e2,h3,h4];have hd:val b∣val a↔val a%val b=0:=Int.dvd_iff_emod_eq_zero;by_cases k:0≤val a∨val b∣val a
 ·have k':0≤val a∨val a%val b=0:=k.imp id hd.1;rw[if_pos k,if_pos k];refine⟨en zO zO,rfl,fun hc=>?_,fun _=>⟨rfl,rfl⟩⟩;simp only[Bool.and_eq_true,decide_eq_true_eq,bne_iff_ne,ne_eq,decide_eq_decide]at hc;omega
 ·have k':¬(0≤val a∨val a%val b=0):=fun h=>k (h.imp id hd.2);rw[if_neg k,if_neg k];refine⟨en zO zO,rfl,fun _=>⟨?_,?_⟩,fun hc=>?_⟩
  ·rw[Int.add_sub_cancel];exact en zO zO
  ·rw[Int.sub_add_cancel];exact en zO zO
  ·exfalso;have a1:decide (val a%val b-val b≠0)=true:=decide_eq_true zO;have a2:decide (val a%val b-val b<0)=true:=decide_eq_true zO;have a3:decide (val b<0)=false:=decide_eq_false zO;rw[a1,a2,a3]at hc;cases hc
theorem OK{a b:aa}(h:(ji a&&ji b)=true)(hb:0<val b):gQ b≠0:=(H0 h hb).2.2.1
theorem DT{a b:aa}(h:(ji a&&ji b)=true)(hb:0<val b):(-1000000000000000000<val a/val b∧val a/val b<1000000000000000000)∧-1000000000000000000<val a%val b∧val a%val b<1000000000000000000:=by
 obtain⟨_,_,_,_,_,h5,h6,h7,h8,h9⟩:=H0 h hb;omega
theorem HZ{a b:Int}(hb:0<b)(hx:0≤a∨a%b=0):(if(decide (a<0)!=decide (b<0))=true then -((a.natAbs/b.natAbs:Nat):Int)else((a.natAbs/b.natAbs:Nat):Int))=a/b∧
  (if decide (a<0)=true then -((a.natAbs%b.natAbs:Nat):Int)else((a.natAbs%b.natAbs:Nat):Int))=a%b∧(a<0→a.natAbs%b.natAbs=0):=by
 have hbn:decide (b<0)=false:=decide_eq_false zO;rw[hbn,Bool.bne_false];by_cases ha:a<0
 ·have hz:a%b=0:=hx.resolve_left zO;have hd:b∣a:=Int.dvd_of_emod_eq_zero hz;have hn:a.natAbs%b.natAbs=0:=Nat.mod_eq_zero_of_dvd (Int.natAbs_dvd_natAbs.2 hd);refine⟨?_,?_,fun _=>hn⟩
  ·have:=IM hb (a:=a) (fun k=>k.2 hn);simpa[ha]using this
  ·rw[hn,hz];simp
 ·obtain⟨n,rfl⟩:∃n:Nat,b=n:=⟨b.toNat,by omega⟩;obtain⟨k,rfl⟩:∃k:Nat,a=k:=⟨a.toNat,by omega⟩;have h0:decide ((k:Int)<0)=false:=decide_eq_false ha;rw[h0];simp only[Bool.false_eq_true,if_false,Int.natAbs_natCast];exact⟨by simp,by simp,fun h=>absurd h ha⟩
theorem aaR{a b:aa}(hb:0<val b)(hx:0≤val a∨val a%val b=0):(decide (0<((encI (ak ((val a).natAbs%(val b).natAbs))).length:Int))&&(decide (val a<0)!=decide (val b<0)))=false:=by
 have h:=(HZ hb hx).2.2;by_cases ha:val a<0
 ·rw[h ha,ng];rfl
 ·have h1:decide (val a<0)=false:=decide_eq_false ha;have h2:decide (val b<0)=false:=decide_eq_false zO;rw[h1,h2];simp
theorem Uo{n:Nat}{a b:aa}(h:n≤max (val a).natAbs (val b).natAbs):(ofInt (n:Int)).length≤max a.length b.length+1:=by
 rcases Nat.le_total (val a).natAbs (val b).natAbs with k|k
 ·have:=FX (n:=(n:Int)) (s:=b) zO;omega
 ·have:=FX (n:=(n:Int)) (s:=a) zO;omega
theorem VC{n d:aa}(hd:0<val d)(h:decide (fT n []=0)=true):cw (val n) (val d)=⟨[],[]⟩:=by
 have h:=of_decide_eq_true h;rw[DD,Aj]at h;rw[h,Td hd]
theorem VE{n:aa}(h:decide (fT n []=0)=false):val n≠0:=by
 intro k;have h:=of_decide_eq_false h;rw[DD,Aj]at h;exact h k
theorem CJ{d:aa}(hd:0<val d):decide (fw (val d-val [])<0)=false:=by
 apply decide_eq_false;rw[Mq];omega
theorem VF{x:Int}:decide (fT (ofInt x) [49]=0)=decide (ofInt x=[49]):=by
 rw[decide_eq_decide,r2,gp,val_one,Aj];constructor
 ·intro h;rw[show x=1 by omega];exact ofInt_one
 ·intro h;have:=congrArg val h;rw[gp,val_one]at this;omega
theorem Et(n d:Int)(h:0<d):0<val (ofInt (Int.gcd n d:Int))∧n%val (ofInt (Int.gcd n d:Int))=0∧d%val (ofInt (Int.gcd n d:Int))=0:=by
 refine⟨Eu n zO,?_,?_⟩
 ·rw[gp];exact Int.emod_eq_zero_of_dvd (Int.gcd_dvd_left n d)
 ·rw[gp];exact Int.emod_eq_zero_of_dvd (Int.gcd_dvd_right n d)
theorem P4(s:aa):(digits s).1=ofInt ((val s).natAbs:Int):=by
 rw[AK s];unfold ofInt;rw[if_neg zO,Int.natAbs_natCast]
 congr 1
 unfold val;split<;>omega
open Go.Proofs Go.Proofs.Tryz
set_option maxRecDepth 20000
theorem alf(s:aa)(hs:17<(digits s).1.length):Fc Tryz.prog 255 [.str s] (.bj [.i 0,.b false]):=by
 refine Fc.mk' [2,3] func255 rfl ntmps255 rfl rfl rfl (fun t w=>results_tmp2 results255 t _ w) ?_;refine J.l4 0 rfl (fun hb=>?_);simp only[aG]at hb;refine go [] ?_;refine oP (ai call251 rfl (sA _)) ?_;refine bk zQ ?_;exact fu rfl rfl (Sub.refl _) (Sub.refl _)
theorem GA(s:aa):Fc Tryz.prog 255 [.str s] (.bj [.i (gQ s),.b (ji s)]):=by
 by_cases h:(digits s).1.length≤17
 ·have:=Mr s h;simpa[gQ,ji,h]using this
 ·have:=alf s zO;simpa[gQ,ji,h]using this
theorem TN(a b:aa)(ha:a.length≤4000)(hb:b.length≤4000):Fc Tryz.prog 197 [.str a,.str b] (.str (ofInt (val a*val b))):=by
 refine Fc.mk' [4] func197 rfl ntmps197 rfl rfl rfl (fun t w=>results_tmp results197 t _ w) ?_;have EX:=rO a;have mq:=rO b;refine J.seq (J.af [.p] ?_);refine .ag rfl rfl<|.nil ?_;refine J.seq (J.af [.p,.p,.p,.p,.p,.p,.p] ?_);refine .mv rfl rfl<|.P rfl (ai call255 rfl (GA _))<|.mv rfl rfl<|.P rfl (eC rfl rfl)<|.P rfl (eC rfl rfl)<|.ag rfl rfl<|.ag rfl rfl<|.nil ?_;refine J.seq (J.af [.p,.p,.p,.p,.p,.p,.p] ?_);refine .mv rfl rfl<|.P rfl (ai call255 rfl (GA _))<|.mv rfl rfl<|.P rfl (eC rfl rfl)<|.P rfl (eC rfl rfl)<|.ag rfl rfl<|.ag rfl rfl<|.nil ?_;refine J.seq (J.seq (J.af [.p,.p,.p,.p,.p,.p,.p,.p,.p,.p,.p,.p,.p,.p,.p,.p,.p,.p,.p,.p] ?_));refine .mv rfl rfl<|.mv rfl rfl<|.gT rfl (.inl rfl) rfl rfl rfl (fun hg=>pk (fun _=>aT rfl _))<|.P rfl (gO rfl rfl)<|.mv rfl rfl<|.gT rfl (.inl rfl) rfl rfl rfl (fun hg=>pk (fun _=>aT rfl _))<|.gT rfl (.inl rfl) rfl rfl rfl (fun hg=>pk (fun _=>bQ (bh rfl hg) rfl _))<|.P rfl (gO rfl rfl)<|.mv rfl rfl<|.gT rfl (.inl rfl) rfl rfl rfl (fun hg=>pk (fun _=>aT rfl _))<|.gT rfl (.inl rfl) rfl rfl rfl (fun hg=>pk (fun _=>gn (bh rfl hg) rfl _))<|.P rfl (gO rfl rfl)<|.mv rfl rfl<|.gT rfl (.inl rfl) rfl rfl rfl (fun hg=>pk (fun _=>aT rfl _))<|.gT rfl (.inl rfl) rfl rfl rfl (fun hg=>pk (fun _=>bQ (bh rfl hg) rfl _))<|.P rfl (gO rfl rfl)<|.mv rfl rfl<|.gT rfl (.inl rfl) rfl rfl rfl (fun hg=>pk (fun _=>aT rfl _))<|.gT rfl (.inl rfl) rfl rfl rfl (fun hg=>pk (fun _=>gn (bh rfl hg) rfl _))<|.P rfl (gO rfl rfl)<|.nil ?_;refine J.cond rfl (fun h1=>?_) (fun h1=>?_)
 ·refine J.seq (J.af [.p,.p,.p,.p,.p] ?_);refine .mv rfl rfl<|.mv rfl rfl<|.P rfl (tO rfl rfl (TQ h1).1)<|.P rfl (ai call199 rfl (xb _ (TQ h1).2))<|.ag rfl rfl<|.nil ?_;refine J.ret (?_);exact dn rfl (Sub.refl _)
 ·refine J.skip ?_;refine J.seq (J.af [.p,.p,.p,.p,.w,.w,.w,.w] ?_);refine .mv rfl rfl<|.P rfl (ai call256 rfl (Gn _ zO))<|.mv rfl rfl<|.P rfl (ai call256 rfl (Gn _ zO))<|.W rfl (jh 0 zeroValue260 rfl)<|.W rfl (jh 1 zeroValue260 rfl)<|.W rfl (km sizeOf260 rfl rfl rfl rfl rfl rfl)<|.W rfl (km sizeOf260 rfl rfl rfl rfl rfl rfl)<|.nil ?_;refine J.bE (Le.fY 9 0 rfl rfl rfl rfl) ?_;refine J.bE (Le.fY 10 1 rfl rfl rfl rfl) ?_;refine J.seq (J.oU [.p,.p,.p,.p,.p,.p,.p,.p,.p,.p,.p,.p,.p] lh zK ?_);refine .P rfl (kl (n:=0) 4 0 underlying260 sizeOf4 rfl rfl rfl)<|.P rfl (bP isAgg4 rfl)<|.P rfl (kl (n:=0) 4 0 underlying260 sizeOf4 rfl rfl rfl)<|.P rfl (bP isAgg4 rfl)<|.P rfl (z7 underlying4 rfl rfl)<|.P rfl (kl (n:=0) 25 1 underlying260 sizeOf25 rfl rfl rfl)<|.P rfl (bP isAgg25 rfl)<|.P rfl (kl (n:=0) 25 1 underlying260 sizeOf25 rfl rfl rfl)<|.P rfl (bP isAgg25 rfl)<|.P rfl (ai call258 rfl (al5 _ _ zO zO (ahO h1)))<|.P rfl (pZ (pl:=#[(0,1),(1,1)]) underlying260 zeroValue260 (fun w=>by kernel_rfl) rfl rfl)<|.P rfl (ai call257 rfl (MT _ _ (ahL a b zO)))<|.ag rfl rfl<|.nil ?_;refine J.ret (?_);exact dn rfl (Sub.str (by exact ahK a b))
structure aa3(A B:Nat)where
 lo:List Nat
 hi:List Nat
 qs:List Nat
 R:Nat
 hx:ak A=lo++hi
 hq:qs.length=hi.length
 E2:aR qs
 Bu:an qs=an hi/B
 hR:R=an hi%B
structure aa4(A B:Nat)(i hi qs:List Nat)(x R:Nat)where
 low:Nat
 high:Nat
 g1:low≤(x+gB*R)/B
 g2:(x+gB*R)/B≤high
 g3:high<gB
theorem aa2(A B:Nat)(hA:A≠0)(hB:0<B)(hAl:(ak A).length≤10000)(A_:(ak B).length≤10000):Fc Tryz.prog 364 [sI (ak A),sI (ak B)] (.bj [sI (ak (A/B)),sI (ak (A%B))]):=by
 refine Fc.mk' [4,5] func364 rfl ntmps364 rfl rfl rfl (fun t w=>results_tmp2 results364 t _ w) ?_;have hA0:(ak A).length≠0:=fun e=>hA (pO e);refine J.seq (J.af [.p,.p] ?_);refine .ag rfl rfl<|.ag rfl rfl<|.nil ?_;refine J.seq (J.af [.p,.p,.w,.p,.p,.p] ?_);refine .mv rfl rfl<|.P rfl (cY underlying25 rfl)<|.W rfl (vj (bt:=8) 0 (ak A).length underlying25 sizeOf3 typeInfo3 zeroValue3 rfl rfl rfl rfl rfl (by simp[encI]) (by simp[encI]) (Nat.le_refl (ak A).length) zO zO zO rfl)<|.P rfl (tL underlying25 sizeOf3)<|.ag rfl rfl<|.ag rfl rfl<|.nil ?_;refine J.seq (J.seq (J.af [.p,.p,.p,.p] ?_));refine .mv rfl rfl<|.P rfl (cY underlying25 rfl)<|.P rfl (dw rfl rfl (en zO zQ))<|.ag rfl rfl<|.nil ?_;refine J.block ?_;refine J.loop (ι:=aa3 A B) (fun sx=>[(0,sI (ak A)),(1,sI (ak B)),(6,.gs 0 (ak A).length),(7,sI (ak sx.R)),(8,.i ((sx.lo.length:Int)-1))]) (fun sx=>[(0,.arr 1 (encI (List.replicate sx.lo.length 0++sx.qs)))]) (fun sx=>sx.lo.length) ⟨ak A,[],[],0,by simp,rfl,(fun _ h=>by cases h),by simp[an],by simp[an]⟩ ?_ ?_
 ·exact Le.mk rfl (.s rfl rfl (.s rfl rfl (.cons rfl (Sub.gs zS) rfl (.cons rfl (Sub.snap (by rw[ng];rfl)) rfl (.cons rfl (Sub.int zS) rfl .nil))))) (.arr rfl (by simp[encI]) .nil)
 ·rintro⟨lo,hi,qs,R,hx,hq,E2,Bu,hR⟩;show J _ _ _ _ [(0,sI (ak A)),(1,sI (ak B)),(6,.gs 0 (ak A).length),(7,sI (ak R)),(8,.i ((lo.length:Int)-1))] [(0,.arr 1 (encI (List.replicate lo.length 0++qs)))];rcases lV lo with rfl|⟨i,x,rfl⟩
  ·obtain rfl:ak A=hi:=by simpa using hx
   rw[e5]at Bu hR;refine J.seq (J.seq (J.af [.p,.p] ?_));refine .mv rfl rfl<|.P rfl (oQ rfl rfl)<|.nil ?_;refine J.eF rfl zS ?_;refine J.exit (dO (dG ?_));refine J.bE (Le.freeze 6 0 rfl rfl (by simp[encI];omega)) ?_;refine J.seq (J.af [.p,.p,.p,.p,.p] ?_);refine .mv rfl rfl<|.P rfl (ai call294 rfl (GN _))<|.mv rfl rfl<|.ag rfl rfl<|.ag rfl rfl<|.nil ?_;refine J.ret (?_);exact r9 rfl rfl (Sub.snap (by rw[q0 (by simpa using E2)];simp[Bu])) (Sub.snap (by rw[hR]))
  ·have hl:=congrArg List.length hx;simp only[List.length_append,List.length_cons,List.length_nil]at hl;have iG:=eN A x (by rw[hx];simp);have aP:=abo (x:=x) (H:=an hi) hB iG;rw[←hR]at aP;have Qv:=Nat.mod_lt (an hi) hB;rw[←hR]at Qv;have hRl:(ak R).length≤10000:=Nat.le_trans (oG (Nat.le_of_lt Qv)) A_;have hXl:(ak (x+gB*R)).length≤10001:=Tk iG hRl;refine J.seq (J.seq (J.af [.p,.p] ?_));refine .mv rfl rfl<|.P rfl (oQ rfl rfl)<|.nil ?_;refine J.gu rfl zS ?_;refine J.skip ?_;refine J.seq ?_;refine J.block ?_;refine J.seq (J.af [.p,.p,.p,.p,.p,.p,.p,.p,.p] ?_);refine .mv rfl rfl<|.mv rfl rfl<|.P rfl (gm underlying25 sizeOf3 rfl rfl zS (aS (pre:=i) (rest:=hi) (x:=x) (fun(n:Nat)=>[D.i (n:Int)]) (by rw[hx];simp) zS))<|.P rfl (bP isAgg3 rfl)<|.P rfl (bK (n:=1) (rows:=encI [x]) underlying25 sizeOf3 rfl rfl rfl zeroValue3 rfl rfl rfl rfl rfl rfl rfl)<|.mv rfl rfl<|.P rfl (ajy underlying25 underlying25 sizeOf3 typeInfo3 zeroValue3 rfl (bt:=8) rfl rfl rfl rfl (by simp[encI];omega))<|.P rfl (ai call294 rfl (ann x R iG))<|.ag rfl rfl<|.nil ?_;refine J.seq (J.af [.p,.p] ?_);refine .ag rfl rfl<|.ag rfl rfl<|.nil ?_;refine J.seq ?_;refine J.block ?_;refine J.loop (ι:=aa4 A B i hi qs x R) (fun sx=>[(0,sI (ak A)),(1,sI (ak B)),(6,.gs 0 (ak A).length),(7,sI (ak (x+gB*R))),(8,.i (i.length:Int)),(9,.i (sx.low:Int)),(10,.i (sx.high:Int))]) (fun sx=>[(0,.arr 1 (encI (List.replicate (i++[x]).length 0++qs)))]) (fun sx=>sx.high-sx.low) ⟨0,999999999,Nat.zero_le _,by have h9:=aP.1;unfold gB at h9⊢;omega,by unfold gB;omega⟩ ?_ ?_
   ·exact Le.mk rfl (.s rfl rfl (.s rfl rfl (.cons rfl (Sub.gs zS) rfl (.s rfl rfl (.cons rfl (Sub.int zS) rfl (.s rfl rfl (.s rfl rfl .nil))))))) (.arr rfl zS .nil)
   ·rintro⟨low,high,g1,g2,g3⟩;show J _ _ _ _ [(0,sI (ak A)),(1,sI (ak B)),(6,.gs 0 (ak A).length),(7,sI (ak (x+gB*R))),(8,.i (i.length:Int)),(9,.i (low:Int)),(10,.i (high:Int))] [(0,.arr 1 (encI (List.replicate (i++[x]).length 0++qs)))];have g4:=g3;unfold gB at g4;refine J.seq (J.seq (J.af [.p,.p,.p] ?_));refine .mv rfl rfl<|.mv rfl rfl<|.P rfl (bQ rfl rfl)<|.nil ?_;refine J.cond rfl (fun h1=>?_) (fun h1=>?_)
    ·have bJ:=h1;try simp only[bs]at bJ
     refine J.skip ?_;refine J.block ?_;refine J.seq (J.af [.p,.p,.p,.p,.p,.p] ?_);refine .mv rfl rfl<|.mv rfl rfl<|.P rfl (bU rfl rfl (Dt zO))<|.P rfl (bU rfl rfl (Dt (b:=1) zO))<|.P rfl (lO rfl rfl zD (aj9 zO))<|.ag rfl rfl<|.nil ?_;refine J.seq (J.af [.p,.p,.p,.p,.p,.p,.p] ?_);refine .mv rfl rfl<|.mv rfl rfl<|.P rfl (bK (n:=1) (rows:=encI [(low+high+1)/2]) underlying25 sizeOf3 rfl rfl rfl zeroValue3 rfl rfl rfl rfl rfl rfl rfl)<|.P rfl (ai call258 rfl ((WC B ((low+high+1)/2) A_ zO).sub))<|.mv rfl rfl<|.P rfl (ai call297 rfl (ai4 _ _ (Nat.le_trans (Ti (m:=_) A_) zO) zO))<|.P rfl (CE rfl rfl)<|.nil ?_;refine J.cond rfl (fun h2=>?_) (fun h2=>?_)
     ·refine J.af [.p,.p] ?_;refine .mv rfl rfl<|.ag rfl rfl<|.nil ?_;refine J.nil (cn ?_);refine J.nil (cZ ?_);exact⟨⟨(low+high+1)/2,high,(OT hB).1 (by rw[UJ]at h2;exact of_decide_eq_true h2),g2,g3⟩,by simp at*;omega,Le.mk rfl (.s rfl rfl (.s rfl rfl (.cons rfl (Sub.gs zS) rfl (.s rfl rfl (.s rfl rfl (.s rfl rfl (.s rfl rfl .nil))))))) (.arr rfl zS .nil)⟩
     ·refine J.af [.p,.p,.p] ?_;refine .mv rfl rfl<|.P rfl (dw rfl rfl (aw zO))<|.ag rfl rfl<|.nil ?_;refine J.nil (cn ?_);refine J.nil (cZ ?_);exact⟨⟨low,(low+high+1)/2-1,g1,by rw[UJ]at h2;have h9:¬(low+high+1)/2≤(x+gB*R)/B:=fun k=>of_decide_eq_false h2 ((OT hB).2 k);omega,by omega⟩,by simp at*;omega,Le.mk rfl (.s rfl rfl (.s rfl rfl (.cons rfl (Sub.gs zS) rfl (.s rfl rfl (.s rfl rfl (.s rfl rfl (.cons rfl (Sub.int zQ) rfl .nil))))))) (.arr rfl zS .nil)⟩
    ·have j0:low=(x+gB*R)/B:=by simp at*;omega
     refine J.exit (dO (dG ?_));refine J.seq (J.af [.p,.p,.p,.p,.w] ?_);refine .mv rfl rfl<|.mv rfl rfl<|.mv rfl rfl<|.P rfl (bS (off:=(i.length)*1) underlying25 sizeOf3 rfl rfl zO zO zO)<|.W rfl (gH (r:=_) (i.length) 0 sizeOf3 rfl rfl rfl rfl rfl rfl abx zS)<|.nil ?_;refine J.seq (J.af [.p,.p] ?_);refine .mv rfl rfl<|.P rfl (gn rfl rfl)<|.nil ?_;refine J.cond rfl (fun h3=>?_) (fun h3=>?_)
     ·refine J.af [.p,.p,.p,.p,.p,.p,.p] ?_;refine .mv rfl rfl<|.mv rfl rfl<|.mv rfl rfl<|.P rfl (bK (n:=1) (rows:=encI [low]) underlying25 sizeOf3 rfl rfl rfl zeroValue3 rfl rfl rfl rfl rfl rfl rfl)<|.P rfl (ai call258 rfl ((WC B low A_ zO).sub))<|.P rfl (ai call298 rfl (ahF _ _ zO (Nat.le_trans (Ti (m:=_) A_) zO) (by rw[j0];exact abn _ _)))<|.ag rfl rfl<|.nil ?_;refine J.nil (cn ?_);refine J.af [.p,.p,.p] ?_;refine .mv rfl rfl<|.P rfl (dw rfl rfl (aw zO))<|.ag rfl rfl<|.nil ?_;refine J.nil (cZ ?_);exact⟨⟨i,x::hi,low::qs,(x+gB*R)-B*low,by rw[hx];simp,by simp[hq],Tm zO E2,by rw[an,an,j0,Bu];exact aP.2.1,by rw[j0,OU,an];exact aP.2.2⟩,by simp,Le.mk rfl (.s rfl rfl (.s rfl rfl (.cons rfl (Sub.gs zS) rfl (.cons rfl (Sub.refl _) rfl (.s rfl rfl .nil))))) (.arr rfl (by exact O3) .nil)⟩
     ·refine J.skip ?_;refine J.nil (cn ?_);refine J.af [.p,.p,.p] ?_;refine .mv rfl rfl<|.P rfl (dw rfl rfl (aw zO))<|.ag rfl rfl<|.nil ?_;refine J.nil (cZ ?_);exact⟨⟨i,x::hi,low::qs,(x+gB*R),by rw[hx];simp,by simp[hq],Tm zO E2,by rw[an,an,j0,Bu];exact aP.2.1,by rw[an,←aP.2.2,←OU,←j0,show low=0 by simp at*;omega];simp⟩,by simp,Le.mk rfl (.s rfl rfl (.s rfl rfl (.cons rfl (Sub.gs zS) rfl (.cons rfl (Sub.refl _) rfl (.s rfl rfl .nil))))) (.arr rfl (by exact O3) .nil)⟩
end Go.T
namespace Go.T
open Go
variable[bX]
structure Bx where
 bo:Nat
 fi:Nat
 id:Nat
 z:List D
 f:List D
structure p_(listed:Array Bool)(U:ae)(b:Bx):Prop where
 no:aZ listed b.bo=false→U.get b.id=none
 mid:aZ listed b.bo=true→aZ listed b.fi=false→U.get b.id=some (.cells b.z)
 yes:aZ listed b.fi=true→U.get b.id=some (.cells b.f)
 qY:aZ listed b.fi=true→aZ listed b.bo=true
theorem p_.other{listed:Array Bool}{U am:ae}{b:Bx}{i:Nat}(h:p_ listed U b)(hi:i<listed.size)(h1:i≠b.bo)(h2:i≠b.fi)(ho:am.get b.id=U.get b.id):p_ (listed.setIfInBounds i true) am b:=by
 refine⟨fun e=>?_,fun e e'=>?_,fun e=>?_,fun e=>?_⟩
 ·rw[fp hi,if_neg h1]at e;rw[ho];exact h.no e
 ·rw[fp hi,if_neg h1]at e;rw[fp hi,if_neg h2]at e';rw[ho];exact h.mid e e'
 ·rw[fp hi,if_neg h2]at e;rw[ho];exact h.yes e
 ·rw[fp hi,if_neg h2]at e;rw[fp hi,if_neg h1];exact h.qY e
theorem p_.make{listed:Array Bool}{U:ae}{b:Bx}(h:p_ listed U b)(hi:b.bo<listed.size)(hl:aZ listed b.bo=false)(hs:b.bo≠b.fi):p_ (listed.setIfInBounds b.bo true) ((b.id,.cells b.z)::U) b:=by
 have hn:∀{A:Prop},aZ (listed.setIfInBounds b.bo true) b.fi=true→A:=fun e=>by
  rw[fp hi,if_neg hs]at e;rw[h.qY e]at hl;cases hl
 refine⟨fun e=>?_,fun _ _=>by simp[ae.bf],fun e=>hn e,fun e=>hn e⟩;rw[fp hi,if_pos rfl]at e;cases e
theorem p_.fill{listed:Array Bool}{U:ae}{b:Bx}(h:p_ listed U b)(hi:b.fi<listed.size)(hk:aZ listed b.bo=true)(hs:b.bo≠b.fi):p_ (listed.setIfInBounds b.fi true) (U.set b.id (.cells b.f)) b:=by
 have hm:aZ (listed.setIfInBounds b.fi true) b.bo=true:=by rw[fp hi,if_neg (Ne.symm hs)];exact hk
 refine⟨fun e=>?_,fun _ e=>?_,fun _=>by rw[ae.dV,if_pos rfl],fun _=>hm⟩
 ·rw[hm]at e;cases e
 ·rw[fp hi,if_pos rfl]at e;cases e
structure qa(ds:List (Option Nat))(VT:List D)(dz:Env)(b c:Bx)(listed:Array Bool)(env:Env)(U:ae):Prop where
 aA:pd ds (fun i d=>VT[i]?=some d) listed env
 cH:∀t d,dz.get t=some d→env.get t=some d
 b1:p_ listed U b
 b2:p_ listed U c
theorem qa.swap{ds:List (Option Nat)}{VT:List D}{dz:Env}{b c:Bx}{listed:Array Bool}{env:Env}{U:ae}(h:qa ds VT dz b c listed env U):qa ds VT dz c b listed env U:=⟨h.aA,h.cH,h.b2,h.b1⟩
theorem qa.at{ds:List (Option Nat)}{VT:List D}{dz:Env}{b c:Bx}{listed:Array Bool}{env:Env}{U:ae}(h:qa ds VT dz b c listed env U){j t:Nat}{d:D}(hj:aZ listed j=true)(ht:ds[j]?=some (some t))(hd:VT[j]?=some d):env.get t=some d:=by
 obtain⟨d',h1,h2⟩:=h.aA j t hj ht;rw[hd]at h2;cases h2;exact h1
abbrev uc(P:Program)(F:Fr)(ds:List (Option Nat))(VT:List D)(dz:Env)(b c:Bx)(listed:Array Bool)(env:Env)(U:ae)(i:Nat)(o:Oper)(ops:Array Oper):Prop:=
 ∃d am fD cX,dR F.N o.dst=true∧On ops env o∧aq P o env U d am∧Le F (env.put o.dst d) am fD cX∧qa ds VT dz b c (listed.setIfInBounds i true) fD cX
theorem LB{ops:Array Oper}{env:Env}{o:Oper}(h:o.guard=none):On ops env o:=by unfold On;rw[h];trivial
section
variable{P:Program} {F:Fr} {ds:List (Option Nat)} {VT:List D} {dz:Env} {b c:Bx} {listed:Array Bool} {env:Env} {U:ae} {i t:Nat} {o:Oper} {ops:Array Oper} {d:D}
theorem Nx(h:∀t d,dz.get t=some d→env.get t=some d)(hb:(dz.get t).isNone=true):∀s e,dz.get s=some e→Env.get ((t,d)::env) s=some e:=fun s e he=>by
 rw[Env.bf];by_cases E5:t=s
 ·subst E5;rw[he]at hb;cases hb
 ·rw[if_neg E5];exact h s e he
theorem qJ(hI:qa ds VT dz b c listed env U)(hs:listed.size=ops.size)(hq:aq P o env U d U)(hV:VT[i]?=some d)(hi:ds[i]?=some (some t))(hd:vY ds=true)(hb:(dz.get t).isNone=true)(hN:dR F.N (some t)=true)(ho:o.dst=some t)(hg:o.guard=none)(hn:Nat.blt i ops.size=true)
  (hf:(!(i==b.bo)&&!(i==b.fi)&&!(i==c.bo)&&!(i==c.fi))=true):uc P F ds VT dz b c listed env U i o ops:=by
 have aY:i<listed.size:=by rw[hs];simpa[Nat.blt_eq]using hn
 simp only[Bool.and_eq_true,Bool.not_eq_true',beq_eq_false_iff_ne]at hf;exact⟨d,U,(t,d)::env,U,by rw[ho];exact hN,LB hg,hq,by rw[ho];exact Le.refl _ _ _,hI.aA.put hd aY hi hV,Nx hI.cH hb,hI.b1.other aY hf.1.1.1 hf.1.1.2 rfl,hI.b2.other aY hf.1.2 hf.2 rfl⟩
theorem Ts(hI:qa ds VT dz b c listed env U)(hs:listed.size=ops.size)(hl:aZ listed b.bo=false)(hq:U.get b.id=none→aq P o env U (.box b.id 0) ((b.id,.cells b.z)::U))(hV:VT[b.bo]?=some (.box b.id 0))(hi:ds[b.bo]?=some (some t))(hd:vY ds=true)(hb:(dz.get t).isNone=true)(hN:dR F.N (some t)=true)(ho:o.dst=some t)(hg:o.guard=none)
  (hn:Nat.blt b.bo ops.size=true)(hf:(!(b.bo==b.fi)&&!(b.bo==c.bo)&&!(b.bo==c.fi)&&!(b.id==c.id))=true):uc P F ds VT dz b c listed env U b.bo o ops:=by
 have aY:b.bo<listed.size:=by rw[hs];simpa[Nat.blt_eq]using hn
 simp only[Bool.and_eq_true,Bool.not_eq_true',beq_eq_false_iff_ne]at hf;exact⟨_,_,(t,.box b.id 0)::env,_,by rw[ho];exact hN,LB hg,hq (hI.b1.no hl),by rw[ho];exact Le.refl _ _ _,hI.aA.put hd aY hi hV,Nx hI.cH hb,hI.b1.make aY hl hf.1.1.1,hI.b2.other aY hf.1.1.2 hf.1.2 (by rw[ae.bf,if_neg hf.2])⟩
theorem Pz(hI:qa ds VT dz b c listed env U)(hs:listed.size=ops.size)(hl:aZ listed b.fi=false)(hk:aZ listed b.bo=true)(hq:U.get b.id=some (.cells b.z)→aq P o env U (.raw undef) (U.set b.id (.cells b.f)))(hi:ds[b.fi]?=some none)(ho:o.dst=none)(hg:o.guard=none)
  (hn:Nat.blt b.fi ops.size=true)(hf:(!(b.bo==b.fi)&&!(b.fi==c.bo)&&!(b.fi==c.fi)&&!(b.id==c.id))=true):uc P F ds VT dz b c listed env U b.fi o ops:=by
 have aY:b.fi<listed.size:=by rw[hs];simpa[Nat.blt_eq]using hn
 simp only[Bool.and_eq_true,Bool.not_eq_true',beq_eq_false_iff_ne]at hf;exact⟨_,_,env,_,by rw[ho];rfl,LB hg,hq (hI.b1.mid hk hl),by rw[ho];exact Le.refl _ _ _,hI.aA.none aY hi,hI.cH,hI.b1.fill aY hk hf.1.1.1,hI.b2.other aY hf.1.1.2 hf.1.2 (by rw[ae.dV,if_neg hf.2])⟩
theorem uc.swap(h:uc P F ds VT dz c b listed env U i o ops):uc P F ds VT dz b c listed env U i o ops:=by
 obtain⟨d,o1,e1,o2,h1,h2,h3,h4,h5⟩:=h;exact⟨d,o1,e1,o2,h1,h2,h3,h4,h5.swap⟩
theorem SS(n j:Nat):aZ (Array.replicate n false) j=false:=by
 unfold aZ;rw[Array.getD_eq_getD_getElem?,Array.getElem?_replicate];split<;>rfl
theorem afA{n:Nat}(h1:U.get b.id=none)(h2:U.get c.id=none):qa ds VT env b c (Array.replicate n false) env U:=by
 refine⟨fun j t h=>?_,fun _ _ h=>h,⟨fun _=>h1,fun e=>?_,fun e=>?_,fun e=>?_⟩,⟨fun _=>h2,fun e=>?_,fun e=>?_,fun e=>?_⟩⟩<;>(first|rw[SS]at h|rw[SS]at e)<;>contradiction
end
end Go.T
