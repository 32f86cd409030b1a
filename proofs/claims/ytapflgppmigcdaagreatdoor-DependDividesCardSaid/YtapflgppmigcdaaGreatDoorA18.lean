/-
  Contracts of the functions that the statement reaches, and the logic in which they are proved (no condition): parts SpecR1, SpecR3, W113, SpecR4, W114, W115, SpecR2.
-/
import Derived.Test.YtapflgppmigcdaaGreatDoorA17
set_option linter.all false
namespace Go.T
open Go
theorem LC(s:aa):canon s=ofInt (val s):=by
 have h1:=zE s;have h2:=zF s;unfold canon val ofInt;cases h:(digits s).2 with
 |true=>
  have:natVal (digits s).1≠0:=fun e=>by
   rw[e,jf]at h1;exact h2 h (by rw[h1,rV];rfl)
  simp only[if_true];rw[if_pos zO,Int.natAbs_neg,Int.natAbs_natCast,←h1]
 |false=>
  simp only[Bool.false_eq_true,if_false];rw[if_neg zO,Int.natAbs_natCast,←h1]
theorem agc(s:aa):mw s=ofInt (-val s):=by
 have h1:=zE s;have h2:=zF s;unfold mw val ofInt;cases h:(digits s).2 with
 |true=>
  simp only[if_true,true_or];rw[if_neg zO,Int.neg_neg,Int.natAbs_natCast,←h1]
 |false=>
  simp only[Bool.false_eq_true,if_false,false_or];by_cases e:(digits s).1=[]
  ·rw[if_pos e,e];simp[natVal,jf]
  ·have:natVal (digits s).1≠0:=fun e'=>by rw[e',jf]at h1;exact e h1
   rw[if_neg e,if_pos zO,Int.natAbs_neg,Int.natAbs_natCast,←h1]
theorem Rv(s:aa):val (mw s)=-val s:=by rw[agc,f_]
def fL(f:aP):aa×aa:=
 if decide (fj f.den []=0)=true then(f.num,[49])else if decide (fj f.den []<0)=true then(mw f.num,mw f.den)else(f.num,f.den)
theorem BF{f:aP}(h:decide (fj f.den []=0)=true):fL f=(f.num,[49]):=by rw[fL,if_pos h]
theorem SX{f:aP}(h:decide (fj f.den []=0)=false)(h2:decide (fj f.den []<0)=true):fL f=(mw f.num,mw f.den):=by rw[fL,if_neg (by rw[h];simp),if_pos h2]
theorem SY{f:aP}(h:decide (fj f.den []=0)=false)(h2:decide (fj f.den []<0)=false):fL f=(f.num,f.den):=by rw[fL,if_neg (by rw[h];simp),if_neg (by rw[h2];simp)]
theorem Cw(s:aa):fj s []=fO (val s):=by rw[sF,uQ,Int.sub_zero]
theorem y1(f:aP):(val (bB f).2<0→val (fL f).1=-val (bB f).1∧val (fL f).2=-val (bB f).2)∧(¬val (bB f).2<0→val (fL f).1=val (bB f).1∧val (fL f).2=val (bB f).2):=by
 have e:decide (fj f.den []=0)=decide (fO (val f.den-val [])=0):=by rw[sF]
 unfold fL bB;rw[e];by_cases h:decide (fO (val f.den-val [])=0)=true
 ·rw[if_pos h,if_pos h];refine⟨fun h=>?_,fun _=>⟨rfl,rfl⟩⟩;have h:val [49]<0:=h;rw[val_one]at h;omega
 ·rw[if_neg h,if_neg h];by_cases h2:decide (fj f.den []<0)=true
  ·rw[if_pos h2];have h3:=of_decide_eq_true h2;rw[Cw,ET]at h3;exact⟨fun _=>⟨Rv _,Rv _⟩,fun h=>absurd h3 h⟩
  ·rw[if_neg h2];have h3:¬val f.den<0:=fun k=>h2 (decide_eq_true (by rw[Cw,ET];exact k));exact⟨fun h=>absurd h h3,fun _=>⟨rfl,rfl⟩⟩
theorem EG(f:aP):0<val (fL f).2:=by
 have h:=y1 f;have h2:=yQ f;by_cases k:val (bB f).2<0
 ·have:=(h.1 k).2;omega
 ·have:=(h.2 k).2;omega
theorem Ru(s:aa):(mw s).length≤s.length+1:=by
 have:=jO s;unfold mw;split<;>simp<;>omega
theorem J4(f:aP){k:Nat}(hk:1≤k)(h:f.num.length≤k∧f.den.length≤k):(fL f).1.length≤k+1∧(fL f).2.length≤k+1:=by
 have h1:=Ru f.num;have h2:=Ru f.den;unfold fL;split
 ·exact⟨by show f.num.length≤_;omega,by show 1≤_;omega⟩
 ·split
  ·exact⟨by show(mw f.num).length≤_;omega,by show(mw f.den).length≤_;omega⟩
  ·exact⟨by show f.num.length≤_;omega,by show f.den.length≤_;omega⟩
theorem aiq{n d:Int}(h:d<0):gQ n d=gQ (-n) (-d):=by
 unfold gQ;rw[if_pos h,if_pos h,if_neg zO,if_neg zO]
theorem IT{n d:Int}(h:d<0):cI n d=cI (-n) (-d):=by unfold cI;rw[aiq h]
theorem ofInt_one:ofInt 1=[49]:=by
 unfold ofInt;rw[if_neg zO];show fu 1=[49];rw[q8 zO,show 1/10=0 from rfl,jf];rfl
theorem QH{d:Int}(h:0<d):cI 0 d=⟨[],[]⟩:=by
 have e:gQ 0 d=(0,1):=by
  unfold gQ;rw[if_neg zO,if_neg zO];have:(Int.gcd 0 d:Int)=d:=by rw[Int.gcd_zero_left];omega
  show((0:Int)/(Int.gcd 0 d:Int),d/(Int.gcd 0 d:Int))=(0,1);rw[this,Int.zero_ediv,Int.ediv_self zO]
 unfold cI;rw[e];rw[ofInt_one,if_pos rfl,Jo]
theorem IW(f:aP):cI (val (fL f).1) (val (fL f).2)=cI (val (bB f).1) (val (bB f).2):=by
 have h:=y1 f;by_cases k:val (bB f).2<0
 ·rw[(h.1 k).1,(h.1 k).2,←IT k]
 ·rw[(h.2 k).1,(h.2 k).2]
theorem ajj{g k:Int}(h:0<g):fO (g*k)=fO k:=by
 unfold fO;by_cases h1:k<0
 ·rw[if_pos (Int.mul_neg_of_pos_of_neg h h1),if_pos h1]
 ·by_cases h2:0<k
  ·have:=Int.mul_pos h h2;rw[if_neg zO,if_pos this,if_neg h1,if_pos h2]
  ·have:k=0:=by omega
   subst this;simp
theorem ajk{n d:Int}(h:0<d):fO (val (cI n d).num-val [])=fO n:=by
 have hg:0<(Int.gcd n d:Int):=by
  have:=Nat.gcd_pos_of_pos_right n.natAbs (n:=d.natAbs) zO;have e:Int.gcd n d=Nat.gcd n.natAbs d.natAbs:=rfl;omega
 obtain⟨k,hk⟩:(Int.gcd n d:Int)∣n:=Int.gcd_dvd_left n d;have e:(cI n d).num=ofInt k:=by
  have:(gQ n d).1=k:=by
   unfold gQ;simp only[if_neg (show ¬d<0 by omega)];conv=>lhs;lhs;rw[hk]
   rw[Int.mul_ediv_cancel_left _ zO]
  show ofInt (gQ n d).1=ofInt k;rw[this]
 rw[e,f_,uQ,Int.sub_zero];conv=>rhs;rw[hk]
 rw[ajj hg]
def lU(f g:aP):Int:=fj (ofInt (val (fL f).1*val (fL g).2)) (ofInt (val (fL g).1*val (fL f).2))
theorem J5(f g:aP):lU f g=ql f g:=by
 unfold lU ql wZ;rw[sF,f_,f_];have hf:=y1 f;have hg:=y1 g;have pf:=EG f;have pg:=EG g;have pp:=Int.mul_pos pf pg;generalize val (bB f).1=a at*;generalize val (bB f).2=b at*;generalize val (bB g).1=c at*;generalize val (bB g).2=d at*;generalize val (fL f).1=a' at*;generalize val (fL f).2=b' at*;generalize val (fL g).1=c' at*;generalize val (fL g).2=d' at*;have key:cI (a*d-c*b) (b*d)=cI (a'*d'-c'*b') (b'*d'):=by
  by_cases k1:b<0
  ·obtain⟨e1,e2⟩:=hf.1 k1;by_cases k2:d<0
   ·obtain⟨e3,e4⟩:=hg.1 k2;rw[e1,e2,e3,e4];simp only[Int.neg_mul_neg]
   ·obtain⟨e3,e4⟩:=hg.2 k2;rw[e2,e4,Int.neg_mul]at pp;rw[e1,e2,e3,e4,IT (show b*d<0 by omega)];simp only[Int.neg_mul,Int.mul_neg]
    congr 1;omega
  ·obtain⟨e1,e2⟩:=hf.2 k1;by_cases k2:d<0
   ·obtain⟨e3,e4⟩:=hg.1 k2;rw[e2,e4,Int.mul_neg]at pp;rw[e1,e2,e3,e4,IT (show b*d<0 by omega)];simp only[Int.neg_mul,Int.mul_neg]
    congr 1;omega
   ·obtain⟨e3,e4⟩:=hg.2 k2;rw[e1,e2,e3,e4]
 rw[key,ajk pp]
theorem Gf(a:aa):i_ a=((jG a [45]).length:Int):=by
 unfold i_ jG Dq;cases a with
 |nil=>simp
 |cons c r=>
  by_cases h:c=45
  ·subst h;have:(1:Int)≤(r.length:Int)+1:=by omega
   simp[this]
  ·have h2:¬((c.toNat:Int)=45):=fun k=>h (UInt8.toNat_inj.1 (by show c.toNat=45;omega));simp[h,h2]
theorem VA(f:aP):(decide (40<max (i_ f.num) (i_ f.den)))=(decide (40<((jG f.num [45]).length:Int))||decide (40<((jG f.den [45]).length:Int))):=by
 rw[Gf,Gf,Bool.eq_iff_iff];simp only[decide_eq_true_eq,Bool.or_eq_true];omega
def yI(pos:Bool)(f:aP):Int:=if decide (lO f≠0)=true then lO f else if(decide (lU f dH<0)||(pos&&decide (lU f dH=0)))=true then 2 else 0
theorem agx(pos:Bool)(f:aP):yI pos f=eF pos false f:=by
 unfold yI eF sj lO DZ;rw[J5,←VA];by_cases h:decide (jM f≠0)=true
 ·rw[if_pos h,if_pos h];rfl
 ·rw[if_neg h,if_neg h];by_cases h2:decide (40<max (i_ f.num) (i_ f.den))=true
  ·rw[if_pos h2,if_pos h2];rfl
  ·rw[if_neg h2,if_neg h2];simp
theorem Wt(a:aa):jM ⟨a,[]⟩=u9 a:=by
 unfold jM u9;rw[ahm];have e:cI (val a) (val [49])=⟨ofInt (val a),[]⟩:=by
  rw[val_one];unfold cI gQ;simp only[if_neg (show ¬(1:Int)<0 by omega)];have:(Int.gcd (val a) 1:Int)=1:=by simp
  rw[this,Int.ediv_one,Int.ediv_one];rw[ofInt_one,if_pos rfl]
 show(if(⟨a,[]⟩:aP)=cI (val a) (val [49])then(0:Int)else 1)=_;rw[e,LC];by_cases h:a=ofInt (val a)
 ·rw[if_pos (by rw[←h]),if_pos h.symm]
 ·rw[if_neg (fun k=>h (aP.mk.inj k).1),if_neg (fun k=>h k.symm)]
theorem WS(a:aa):ql ⟨a,[]⟩ dH=fO (val a):=by
 rw[←J5];unfold lU;have h1:fL ⟨a,[]⟩=(a,[49]):=BF (f:=⟨a,[]⟩) (show decide (fj [] []=0)=true by decide);have h2:fL dH=([],[49]):=BF zD;rw[h1,h2,sF,f_,f_,val_one,uQ];simp
def w7(pos:Bool)(a:aa):Int:=if decide (u9 a≠0)=true then 1 else if decide (40<i_ a)=true then 4 else if decide (fj a (if pos then[49]else[])<0)=true then 2 else 0
theorem alZ(pos:Bool)(a:aa):w7 pos a=eF pos false ⟨a,[]⟩:=by
 unfold w7 eF sj DZ;rw[Wt,WS,Gf];by_cases h:decide (u9 a≠0)=true
 ·rw[if_pos h,if_pos h]
 ·rw[if_neg h,if_neg h];have e:(decide (40<((jG a [45]).length:Int))||decide (40<((jG ([]:aa) [45]).length:Int)))=decide (40<((jG a [45]).length:Int)):=by
   have:decide (40<((jG ([]:aa) [45]).length:Int))=false:=by decide
   rw[this,Bool.or_false]
  show _=if(decide (40<((jG a [45]).length:Int))||decide (40<((jG ([]:aa) [45]).length:Int)))=true then _ else _
  rw[e];by_cases h2:decide (40<((jG a [45]).length:Int))=true
  ·rw[if_pos h2,if_pos h2]
  ·rw[if_neg h2,if_neg h2];have e2:decide (fj a (if pos then[49]else[])<0)=(decide (fO (val a)<0)||(pos&&decide (fO (val a)=0))||(false&&decide (0<ql ⟨a,[]⟩ (cI (val [49]) (val [49]))))):=by
    rw[Bool.false_and,Bool.or_false,sF,Bool.eq_iff_iff];cases pos with
    |false=>
     simp only[Bool.false_eq_true,if_false,Bool.false_and,Bool.or_false,decide_eq_true_eq,uQ,Int.sub_zero]
    |true=>
     simp only[if_true,Bool.true_and,Bool.or_eq_true,decide_eq_true_eq,val_one,ET,y_];omega
   rw[e2]
def ym(t:aa):Bool:=t.all bN&&decide (1≤t.length)&&decide (t.length≤4)&&decide ((t.headD 0).toNat≠48)
def pR(s:aa):Bool:=(fk s 47).2.2&&isName (fk s 47).1&&ym (fk s 47).2.1
theorem Sc:∀(t:aa)(acc:Nat),t.all bN=true→(acc+1)*10^t.length≤1000000000000→Lib.parseUint10 acc t=.ok (t.foldl (fun a c=>10*a+(c.toNat-48)) acc)
 |[],acc,_,_=>rfl
 |c::r,acc,h,ha=>by
  simp only[List.all_cons,Bool.and_eq_true,bN,decide_eq_true_eq]at h;obtain⟨hc,hr⟩:=h;have hp:1≤10^r.length:=Nat.pow_pos zO;have e0:(acc+1)*10^(c::r).length=(10*acc+10)*10^r.length:=by
   rw[List.length_cons,Nat.pow_succ,Nat.mul_comm (10^r.length) 10,←Nat.mul_assoc];congr 1;omega
  rw[e0]at ha;have h1:10*acc+10≤(10*acc+10)*10^r.length:=Nat.le_mul_of_pos_right _ hp;have h2:(10*acc+(c.toNat-48)+1)*10^r.length≤(10*acc+10)*10^r.length:=Nat.mul_le_mul_right _ zO;have e:Lib.parseUint10 acc (c::r)=Lib.parseUint10 (10*acc+(c.toNat-48)) r:=by
   rw[Nat.mul_comm 10 acc];simp only[Lib.parseUint10];rw[if_pos hc,if_neg zO,if_neg zO]
  rw[e,Sc r _ (by simpa[bN]using hr) zO,List.foldl_cons]
theorem Vq{t:aa}(h:t.all bN=true)(h1:1≤t.length)(h4:t.length≤4):Lib.atoiAll t=.ok (natVal t:Int):=by
 have hv:=o8 t h;have cK:10^t.length≤10^4:=Nat.pow_le_pow_right zO h4;have hp:=Sc t 0 h zO;cases t with
 |nil=>simp at h1
 |cons c r=>
  have hc:=h;simp only[List.all_cons,Bool.and_eq_true,bN,decide_eq_true_eq]at hc;unfold Lib.atoiAll;simp only;rw[if_neg zO];unfold Lib.parseMag;rw[if_neg zS,hp];simp only;have e:(c::r).foldl (fun a c=>10*a+(c.toNat-48)) 0=natVal (c::r):=rfl;rw[e,if_neg zO,if_neg zO,if_neg zO]
theorem afc(t:aa):ym t=(match Lib.atoiAll t with|.ok n=>decide (1≤n)&&decide (n≤9999)&&decide (Lib.itoa n=t)|_=>false):=by
 rw[Bool.eq_iff_iff];constructor
 ·intro h;simp only[ym,Bool.and_eq_true,decide_eq_true_eq]at h;obtain⟨⟨⟨h1,h2⟩,h3⟩,h4⟩:=h;rw[Vq h1 h2 h3];have hv:=o8 t h1;have cK:10^t.length≤10^4:=Nat.pow_le_pow_right zO h3;have hu:=Ed h1 (tA fun k=>h4 (by cases t with|nil=>simp at h2|cons c r=>exact k.2));have h0:natVal t≠0:=by
   intro e;rw[e,jf]at hu;rw[hu]at h2;simp at h2
  simp only[Bool.and_eq_true,decide_eq_true_eq];refine⟨⟨by omega,by omega⟩,?_⟩;rw[show Lib.itoa (natVal t:Int)=Lib.decDigits (natVal t) by unfold Lib.itoa;rw[if_neg zO];simp,xr _ h0,←hu]
 ·intro h;split at h
  ·rename_i n hn;simp only[Bool.and_eq_true,decide_eq_true_eq]at h;obtain⟨⟨h1,h2⟩,h3⟩:=h;have e:Lib.itoa n=fu n.toNat:=by
    unfold Lib.itoa;rw[if_neg zO,xr _ zO]
   rw[e]at h3;have hd:=Bb n.toNat;have hl:=yB 4 n.toNat zO;have dn:fu n.toNat≠[]:=fun k=>by have:=Bc.1 k;omega
   rw[h3]at hd hl dn;simp only[ym,Bool.and_eq_true,decide_eq_true_eq];cases t with
   |nil=>exact absurd rfl dn
   |cons c r=>exact⟨⟨⟨hd,by simp⟩,hl⟩,Jb n.toNat c r h3⟩
  ·cases h
theorem afd(s:aa):pR s=pN s:=by
 have e:=afc (fk s 47).2.1;unfold pR pN;cases h:(fk s 47).2.2 with
 |true=>rw[e,Bool.true_and];rfl
 |false=>
  have:(fk s 47).2.1=[]:=by
   unfold fk at h⊢;split at h
   ·cases h
   ·rename_i k;rw[if_neg k]
  rw[this];exact(Bool.and_false _).symm
@[reducible] def encI(l:List Nat):List (List D):=l.map fun(n:Nat)=>[D.i (n:Int)]
@[reducible] def sI(l:List Nat):D:=.snap 1 false (encI l)
theorem adl{l:List Nat}{n:Int}{k:Nat}(h:k<l.length)(hn:n=(k:Int)):(encI l)[n.toNat]?=some [D.i (nth l k:Int)]:=by
 subst hn;simp[encI,Ei h]
theorem MO{out:List Nat}{j:Nat}(h:j<out.length):(encI out)[j]?=some [D.i (nth out j:Int)]:=by simp[encI,Ei h]
theorem ZY{out:List Nat}{j v:Nat}:(encI out).set j [D.i (v:Int)]=encI (out.set j v):=by simp[encI,List.map_set]
theorem RA{l:List Nat}{k:Nat}(h:l.length≤k):nth l k=0:=by simp[nth,List.getElem?_eq_none h]
theorem afV{a b:Nat}(h:a*b<9223372036854775808):IntKind.i64.wrap ((a:Int)*(b:Int))=((a*b:Nat):Int):=by
 rw[←Int.natCast_mul];exact eJ zO zO
theorem Lc{a b:Nat}(h:a+b<9223372036854775808):IntKind.i64.wrap ((a:Int)+(b:Int))=((a+b:Nat):Int):=by
 rw[←Int.natCast_add];exact eJ zO zO
theorem aid{a:Nat}(h:a<9223372036854775808):IntKind.i64.wrap ((a:Int).tdiv 1000000000)=((a/gB:Nat):Int):=by
 have e:(a:Int).tdiv 1000000000=((a/gB:Nat):Int):=by
  rw[Int.tdiv_eq_ediv_of_nonneg zO];unfold gB;omega
 rw[e];have:a/gB≤a:=Nat.div_le_self _ _;generalize a/gB=q at this⊢;exact eJ zO zO
def IV(pre y out:List Nat)(c a k:Nat):Prop:=
 (k≤y.length∧TI out c pre.length y.length (an pre*an y) a (y.take k))∨(k=y.length+1∧c=0∧TO out (pre++[a]).length y.length (an (pre++[a])*an y))
theorem UW{pre y out:List Nat}(a:Nat)(h:TO out pre.length y.length (an pre*an y)):IV pre y out 0 a 0:=.inl ⟨by omega,by simpa using Fs a h⟩
theorem rC{pre y out:List Nat}{c a k:Nat}(h:IV pre y out c a k):aU out∧c<gB∧k≤y.length+1:=by
 rcases h with⟨h1,h2⟩|⟨h1,h2,h3⟩
 ·exact⟨h2.1,h2.2.1,by omega⟩
 ·exact⟨h3.1,by rw[h2];exact dz,by omega⟩
theorem UZ{pre y out:List Nat}{c a k:Nat}(h:IV pre y out c a k)(hk:k<y.length∨0<c):k≤y.length:=by
 rcases h with⟨h1,_⟩|⟨h1,h2,_⟩<;>omega
theorem Ch{n a b c:Nat}(hn:n<gB)(ha:a<gB)(hb:b<gB)(hc:c<gB):a*b<9223372036854775808∧n+a*b<9223372036854775808∧n+a*b+c<9223372036854775808:=by
 have h:=Fv hc hn ha hb;have h2:gB*gB<9223372036854775808:=by decide
 omega
theorem UX{pre y out:List Nat}{c a k:Nat}(h:IV pre y out c a k)(hy:aU y)(ha:a<gB)(hk:k<y.length∨0<c)(hl:pre.length+y.length<out.length):
  pre.length+k<out.length∧IV pre y (out.set (pre.length+k) ((nth out (pre.length+k)+a*nth y k+c)%gB)) ((nth out (pre.length+k)+a*nth y k+c)/gB) a (k+1):=by
 rcases h with⟨h1,h2⟩|⟨h1,h2,h3⟩
 ·refine⟨by omega,?_⟩;by_cases h3:k<y.length
  ·refine .inl ⟨by omega,?_⟩;have el:(y.take k).length=k:=by rw[List.length_take];omega
   have:=Ft h2 ha (dP hy k) (by rw[el];exact h3) (by rw[el];omega);rw[el]at this;have e2:y.take k++[nth y k]=y.take (k+1):=by
    rw[List.take_add_one,Ei h3];rfl
   rw[e2]at this;rw[Nat.add_comm (nth out (pre.length+k)+a*nth y k) c];exact this
  ·have e:k=y.length:=by omega
   subst e;have hc:0<c:=hk.resolve_left zO;rw[List.take_length]at h2;have hy0:0<y.length:=by
    rcases Nat.eq_zero_or_pos y.length with e|e
    ·have e:=List.eq_nil_of_length_eq_zero e;subst e;have h3:=h2.2.2.1;simp only[an,Nat.mul_zero,Nat.zero_mul,Nat.add_zero,List.length_nil]at h3;have hp:0<gB^pre.length:=Nat.pow_pos dz;have:=Nat.mul_pos hc hp;omega
    ·exact e
   have h4:=h2.2.2.2 (pre.length+y.length) (Nat.le_refl _);have h5:=RA (l:=y) (k:=y.length) (Nat.le_refl _);have hT:=Fu h2 hy0 hl rfl;rw[h4,h5];simp only[Nat.mul_zero,Nat.zero_add];rw[Nat.mod_eq_of_lt h2.2.1,Nat.div_eq_of_lt h2.2.1];rw[h4,Nat.zero_add]at hT;exact .inr ⟨rfl,rfl,hT⟩
 ·omega
theorem UY{pre y out:List Nat}{c a k:Nat}(h:IV pre y out c a k)(hk:¬(k<y.length∨0<c)):TO out (pre++[a]).length y.length (an (pre++[a])*an y):=by
 rcases h with⟨h1,h2⟩|⟨h1,h2,h3⟩
 ·have e:k=y.length:=by omega
  have e2:c=0:=by omega
  subst e;subst e2;rw[List.take_length]at h2;obtain⟨g1,g2,g3,g4⟩:=h2;refine⟨g1,?_,fun j hj=>g4 j (by simp at hj;omega)⟩;rw[Nat.zero_mul,Nat.add_zero]at g3;rw[g3,wq,Nat.add_mul]
  congr 1
  rw[Nat.mul_right_comm]
 ·exact h3
def np:Nat→Nat→aa
 |0,_=>[]
 |k+1,n=>np k (n/10)++[UInt8.ofNat (48+n%10)]
theorem JF:∀k n,(np k n).length=k
 |0,_=>rfl
 |k+1,n=>by simp[np,JF k]
theorem Mr{n:Nat}:(UInt8.ofNat (48+n%10)).toNat=48+n%10:=by
 have:n%10<10:=Nat.mod_lt _ zO;simp;omega
theorem R9:∀k n,(np k n).all bN=true
 |0,_=>rfl
 |k+1,n=>by
  have:n%10<10:=Nat.mod_lt _ zO;rw[np,List.all_append,R9 k];simp only[List.all_cons,List.all_nil,Bool.and_true,Bool.true_and,bN,Mr,Bool.and_eq_true,decide_eq_true_eq];omega
theorem Rn:∀k n,natVal (np k n)=n%10^k
 |0,n=>by simp[np,natVal,Nat.mod_one]
 |k+1,n=>by
  rw[np,sv,Rn k,Mr,Nat.pow_succ,Nat.mul_comm (10^k) 10,Nat.mod_mul];omega
def pX(l:List Nat):aa:=(l.reverse.map (np 9)).flatten
theorem Es(i:List Nat)(x:Nat):pX (i++[x])=np 9 x++pX i:=by simp[pX]
theorem JG(l:List Nat):(pX l).length=9*l.length:=by
 induction l using pd with
 |h0=>rfl
 |h1 i x ih=>rw[Es,List.length_append,JF,ih];simp;omega
theorem R_(l:List Nat):(pX l).all bN=true:=by
 induction l using pd with
 |h0=>rfl
 |h1 i x ih=>rw[Es,List.all_append,R9,ih];rfl
theorem Rp{l:List Nat}(h:aU l):natVal (pX l)=an l:=by
 induction l using pd with
 |h0=>rfl
 |h1 i x ih=>
  have hi:aU i:=fun y hy=>h y (by simp[hy]);have hx:=h x zS;rw[Es,uq,Rn,ih hi,wq,JG];have e1:(10:Nat)^(9*i.length)=gB^i.length:=by rw[Nat.pow_mul];rfl
  have e2:x%10^9=x:=Nat.mod_eq_of_lt hx;rw[e1,e2];omega
theorem ajJ{s:aa}(h:s.all bN=true):cL s=(s,false):=by
 cases s with
 |nil=>rfl
 |cons c r=>
  have hc:c≠45:=by
   rintro rfl;simp[bN]at h
  unfold cL;split
  ·rename_i e;injection e with e1 _;exact absurd e1 hc
  ·rfl
theorem Ee:∀s:aa,natVal (en s)=natVal s
 |[]=>by simp[en]
 |c::r=>by
  by_cases h:c.toNat=48
  ·have e:=zI (s:=c::r) zS (by simpa using h);rw[e];have e2:natVal (c::r)=natVal r:=by
    have:=uq [c] r;rw[List.singleton_append]at this;rw[this];have:natVal [c]=0:=by simp[natVal,h]
    rw[this];omega
   rw[e2];exact Ee r
  ·rw[tA (by simpa using h)]
theorem alF{s:aa}(h:s.all bN=true):val s=natVal s:=by
 have e:=ajJ h;have e2:digits s=(en s,false):=by
  unfold digits;rw[e];simp[h]
 unfold val;rw[e2];simp[Ee]
theorem alG{s:aa}(h:s.all bN=true):val (45::s)=-(natVal s:Int):=by
 have e:cL (45::s)=(s,true):=rfl;have e2:digits (45::s)=(en s,decide (en s≠[])):=by
  unfold digits;rw[e];simp[h]
 unfold val;rw[e2];by_cases k:en s=[]
 ·have:=Ee s;rw[k]at this;simp[k,natVal]at this⊢;omega
 ·simp[k,Ee]
def Ca(cD:Bool)(m:List Nat):aa:=canon (if cD=true then[45]++pX m else pX m)
theorem al8(cD:Bool){m:List Nat}(h:aU m):Ca cD m=ofInt (if cD then -(an m:Int)else an m):=by
 unfold Ca;rw[LC];cases cD with
 |true=>simp only[if_true,List.singleton_append];rw[alG (R_ m),Rp h]
 |false=>simp only[Bool.false_eq_true,if_false];rw[alF (R_ m),Rp h]
theorem ain{d rest tl aw aI:aa}{x2:UInt8}(hr:d=rest++tl)(bl:rest.drop (rest.length-9)=aw++x2::aI):d=(rest.take (rest.length-9)++aw)++x2::(aI++tl):=by
 have h:=List.take_append_drop (rest.length-9) rest;rw[bl]at h;generalize rest.take (rest.length-9)=t at h⊢;rw[hr,←h];simp
theorem aio{d rest tl w:aa}(hd:d.all bN=true)(hr:d=rest++tl)(bl:rest.drop (rest.length-9)=w):w.all bN=true:=by
 rw[←bl,List.all_eq_true];intro c hc;rw[hr,List.all_append,Bool.and_eq_true]at hd;exact List.all_eq_true.1 hd.1 c (List.mem_of_mem_drop hc)
open Go.Proofs Go.Proofs.Tryz
set_option maxRecDepth 20000
theorem aiw(a:Nat):(a:Int).tmod 10=((a%10:Nat):Int):=by
 rw[Int.tmod_eq_emod_of_nonneg zO];omega
theorem aic{a:Nat}(h:a<9223372036854775808):IntKind.i64.wrap ((a:Int).tdiv 10)=((a/10:Nat):Int):=by
 have e:(a:Int).tdiv 10=((a/10:Nat):Int):=by
  rw[Int.tdiv_eq_ediv_of_nonneg zO];omega
 rw[e];exact eJ zO zO
theorem abW(l:List Nat)(i:Nat):Fc Tryz.prog 293 [sI l,.i (i:Int)] (.i (nth l i:Int)):=by
 refine Fc.mk' [4] func293 rfl ntmps293 rfl rfl rfl (fun t w=>results_tmp results293 t _ w) ?_;refine J.ej 0 rfl (fun hb=>?_);simp only[List.length_map,aG]at hb;refine go [] ?_;refine br (fun h1=>?_) (fun h1=>?_)
 ·refine ix zO (adl (k:=i) (by simp at*;omega) rfl) ?_;exact ah rfl (Sub.refl _)
 ·exact ah rfl (Sub.int (by(rw[RA (by simp at*;omega)];rfl)))
structure alp(m:List Nat)where
 cur:List Nat
 hx:bh cur=bh m
 hl:cur.length≤m.length
theorem alo(m:List Nat):Fc Tryz.prog 294 [sI m] (sI (bh m)):=by
 refine Fc.mk' [2] func294 rfl ntmps294 rfl rfl rfl (fun t w=>results_tmp results294 t _ w) ?_;refine J.ej 0 rfl (fun hb=>?_);simp only[List.length_map,aG]at hb;refine J.seq (J.af [.p] ?_);refine .ag rfl rfl<|.nil ?_;refine J.seq ?_;refine J.block ?_;refine J.loop (ι:=alp m) (fun sx=>[(0,sI sx.cur)]) (fun sx=>[]) (fun sx=>sx.cur.length) ⟨m,rfl,by omega⟩ ?_ ?_
 ·exact Le.mk rfl (.s rfl rfl .nil) .nil
 ·rintro⟨cur,hx,hl⟩;show J _ _ _ _ [(0,sI cur)] [];rcases lV cur with rfl|⟨i,x,rfl⟩
  ·skip;refine J.seq (J.seq (J.af [.p,.p,.p,.p,.p,.p,.p,.p,.p,.p,.p,.p] ?_));refine .mv rfl rfl<|.P rfl (dE underlying25 rfl)<|.P rfl (gp rfl rfl)<|.mv rfl rfl ?_;refine .off rfl (jD rfl rfl rfl zS) ?_;refine .off rfl (jD rfl rfl rfl zS) ?_;refine .off rfl (jD rfl rfl rfl zS) ?_;refine .off rfl (jD rfl rfl rfl zS) ?_;refine .off rfl (jD rfl rfl rfl zS) ?_;refine .off rfl (jD rfl rfl rfl zS) ?_;refine .off rfl (jD rfl rfl rfl zS) ?_;refine .P rfl (BE rfl zS rfl)<|.nil ?_;refine J.eQ rfl rfl ?_;refine J.exit (ei (dZ ?_));refine J.seq (J.af [.p,.p] ?_);refine .mv rfl rfl<|.ag rfl rfl<|.nil ?_;refine J.ret (?_);exact dF rfl (Sub.snap (by rw[←hx];rfl))
  ·skip;refine J.seq (J.seq (J.af [.p,.p,.p,.p,.p,.p,.p,.p,.p,.p,.p,.p] ?_));refine .mv rfl rfl<|.P rfl (dE underlying25 rfl)<|.P rfl (gp rfl rfl)<|.mv rfl rfl<|.p rfl (fX rfl rfl rfl zS) (fun _=>aX rfl _)<|.p rfl (fX rfl rfl rfl zS) (fun _=>aX rfl _)<|.p rfl (fX rfl rfl rfl zS) (fun _=>dE underlying25 rfl _)<|.p rfl (fX rfl rfl rfl zS) (fun _=>dQ rfl rfl (eJ zO (by simp at*;omega)) _)<|.p rfl (fX rfl rfl rfl zS) (fun _=>fY underlying25 sizeOf3 rfl rfl zS (Pz (fun(n:Nat)=>[D.i (n:Int)]) i x rfl) _)<|.p rfl (fX rfl rfl rfl zS) (fun _=>bX isAgg3 rfl _)<|.p rfl (fX rfl rfl rfl zS) (fun _=>jF rfl rfl _)<|.P rfl (wQ rfl zS rfl)<|.nil ?_;refine J.cond rfl (fun h1=>?_) (fun h1=>?_)
   ·have bE:=h1;try simp only[bs]at bE
    refine J.skip ?_;refine J.block ?_;refine J.af [.p,.p,.p,.p,.p,.p] ?_;refine .mv rfl rfl<|.mv rfl rfl<|.P rfl (dE underlying25 rfl)<|.P rfl (dQ rfl rfl (eJ zO (by simp at*;omega)))<|.P rfl (uC underlying25 sizeOf3 rfl (h:=i.length) (r:=encI i) (.inl ⟨rfl,rfl⟩) (.inr ⟨_,_,rfl,(ur rfl zS)⟩) zO zS zS)<|.ag rfl rfl<|.nil ?_;refine J.nil (cC ?_);refine J.nil (dG ?_);exact⟨⟨i,by rw[←hx,show x=0 by omega,rJ],by simp at hl;omega⟩,by simp,Le.mk rfl (.s rfl rfl .nil) .nil⟩
   ·have bE:=h1;try simp only[bs]at bE
    refine J.exit (ei (dZ ?_));refine J.seq (J.af [.p,.p] ?_);refine .mv rfl rfl<|.ag rfl rfl<|.nil ?_;refine J.ret (?_);exact dF rfl (Sub.snap (by(rw[←hx,xo i zO])))
structure aj4(m n:List Nat)where
 pre:List Nat
 rest:List Nat
 out:List Nat
 hx:m=pre++rest
 hlen:out.length=m.length+n.length
 ho:TO out pre.length n.length (an pre*an n)
structure aj5(m n:List Nat)(pre:List Nat)(x:Nat)where
 out:List Nat
 c:Nat
 k:Nat
 hlen:out.length=m.length+n.length
 hi:IV pre n out c x k
theorem aj3(m n:List Nat)(hn:m.length+n.length≠0)(O4:m.length≤20000)(O7:n.length≤20000)(As:aU m)(ca:aU n):Fc Tryz.prog 258 [sI m,sI n] (sI (au (an m*an n))):=by
 refine Fc.mk' [4] func258 rfl ntmps258 rfl rfl rfl (fun t w=>results_tmp results258 t _ w) ?_;refine go [12] ?_;refine sd (eJ zO zQ) ?_;refine oW (wN (bt:=8) 0 (m.length+n.length) underlying25 sizeOf3 typeInfo3 zeroValue3 rfl rfl rfl rfl rfl (by simp[encI]) (by simp[encI]) (Nat.le_refl (m.length+n.length)) zO zO zO rfl) ?_;refine J.loop (ι:=aj4 m n) (fun sx=>[(0,sI m),(1,sI n),(5,.gs 0 (m.length+n.length)),(6,.i sx.pre.length)]) (fun sx=>[(0,.arr 1 (encI sx.out))]) (fun sx=>sx.rest.length) ⟨[],m,List.replicate (m.length+n.length) 0,rfl,by simp,Fw m n _⟩ ?_ ?_
 ·exact Le.mk rfl (.s rfl rfl (.s rfl rfl (.cons rfl (Sub.gs zS) rfl (.s rfl rfl .nil)))) (.arr rfl (by simp[encI]) .nil)
 ·rintro⟨pre,rest,out,hx,hlen,ho⟩;show J _ _ _ _ [(0,sI m),(1,sI n),(5,.gs 0 (m.length+n.length)),(6,.i pre.length)] [(0,.arr 1 (encI out))];have hl:=congrArg List.length hx;simp only[List.length_append]at hl;rcases rest with _|⟨x,rest⟩
  ·obtain rfl:m=pre:=by simpa using hx
   refine go [12] ?_;refine aR zS ?_;refine go [12] ?_;refine J.bP (Le.freeze 5 0 rfl rfl (by simp[encI];omega)) ?_;refine go [] ?_;refine oP (ai call294 rfl (alo _)) ?_;exact ah rfl (Sub.snap (by rw[zi ho]))
  ·simp only[List.length_cons]at hl;have iX:=As x (by rw[hx];simp);refine go [12] ?_;refine a_ zQ ?_;refine J.loop (ι:=aj5 m n pre x) (fun sx=>[(0,sI m),(1,sI n),(5,.gs 0 (m.length+n.length)),(6,.i (pre.length:Int)),(7,.i (sx.c:Int)),(8,.i (sx.k:Int))]) (fun sx=>[(0,.arr 1 (encI sx.out))]) (fun sx=>n.length+1-sx.k) ⟨out,0,0,hlen,UW _ ho⟩ ?_ ?_
   ·exact Le.mk rfl (.s rfl rfl (.s rfl rfl (.cons rfl (Sub.gs zS) rfl (.s rfl rfl (.s rfl rfl (.s rfl rfl .nil)))))) (.arr rfl (by rfl) .nil)
   ·rintro⟨out,c,k,hlen,hi⟩;show J _ _ _ _ [(0,sI m),(1,sI n),(5,.gs 0 (m.length+n.length)),(6,.i (pre.length:Int)),(7,.i (c:Int)),(8,.i (k:Int))] [(0,.arr 1 (encI out))];refine go [12] ?_;refine br (fun h1=>?_) (fun h1=>?_)
    ·have bE:=h1;try simp only[bs]at bE
     have hik:=(rC hi).2.2;have aT:=UX hi ca iX zO zO;have ape:=aT.1;refine sd (az zO) ?_;refine oP (bM (off:=(pre.length+k)*1) underlying25 sizeOf3 rfl rfl zO zO zO) ?_;refine oR (eI (r:=_) (pre.length+k) 0 isAgg3 rfl rfl rfl (MO zO) rfl) ?_;refine ix zO (bn (fun(n:Nat)=>[D.i (n:Int)]) hx rfl) ?_;refine oP (ai call293 rfl (abW _ _)) ?_;refine sd ((afV (Ch (dP (rC hi).1 (pre.length+k)) iX (dP ca k) (rC hi).2.1).1)) ?_;refine sd ((Lc (Ch (dP (rC hi).1 (pre.length+k)) iX (dP ca k) (rC hi).2.1).2.1)) ?_;refine sd ((Lc (Ch (dP (rC hi).1 (pre.length+k)) iX (dP ca k) (rC hi).2.1).2.2)) ?_;refine ord ?_;refine sd (az zO) ?_;refine oP (oh rfl rfl zD (s0 _)) ?_;refine oP (bM (off:=(pre.length+k)*1) underlying25 sizeOf3 rfl rfl zO zO zO) ?_;refine oW (gn (r:=_) (pre.length+k) 0 sizeOf3 rfl rfl rfl rfl rfl rfl (MO zO) zS) ?_;refine oP (lT rfl rfl zD (aid (Ch (dP (rC hi).1 (pre.length+k)) iX (dP ca k) (rC hi).2.1).2.2)) ?_;refine sd (az zO) ?_;exact nx ⟨out.set (pre.length+k) ((nth out (pre.length+k)+x*nth n k+c)%gB),(nth out (pre.length+k)+x*nth n k+c)/gB,k+1,by simp[hlen],aT.2⟩ (by have qB:=UZ hi zO;show n.length+1-(k+1)<n.length+1-k;omega) (Le.mk rfl (.s rfl rfl (.s rfl rfl (.cons rfl (Sub.gs zS) rfl (.s rfl rfl (.s rfl rfl (.s rfl rfl .nil)))))) (.arr rfl (by exact ZY) .nil))
    ·have bE:=h1;try simp only[bs]at bE
     have hie:=UY hi zO;refine J.nil (cC ?_);refine go [12] ?_;refine sd (az zO) ?_;exact nx ⟨pre++[x],rest,out,by simp[hx],hlen,hie⟩ zS (Le.mk rfl (.s rfl rfl (.s rfl rfl (.cons rfl (Sub.gs zS) rfl (.cons rfl (Sub.int zS) rfl .nil)))) (.arr rfl (by rfl) .nil))
structure ail(s:aa)where
 rest:aa
 tl:aa
 e:Int
 done:List Nat
 hr:(digits s).1=rest++tl
 he:(0<e→e=rest.length)∧(e≤0→rest=[])
 hx:done++e7 rest=e7 (digits s).1
structure aim(s:aa)(rest tl:aa)(e:Int)(done:List Nat)where
 aw:aa
 aI:aa
 bl:rest.drop (rest.length-9)=aw++aI
theorem aik(s:aa)(hs:s.length≤100000):Fc Tryz.prog 256 [.str s] (.agg [.b (digits s).2,sI (e7 (digits s).1)]):=by
 refine Fc.iI func256 rfl ntmps256 rfl rfl rfl ?_;have oL:=jO s;have Dv:=mM s;have cQ:=pA (digits s).1;refine go [99999] ?_;refine oP (ai call251 rfl (rL _)) ?_;refine J.loop (ι:=ail s) (fun sx=>[(2,.box 0 0),(3,.str (digits s).1),(5,.box 1 0),(6,.i sx.e)]) (fun sx=>[(0,.cells [.b false,.raw (.slice none 0 0)]),(1,.cells [.b (digits s).2,.gs 2 sx.done.length]),(2,.arr 1 (encI sx.done))]) (fun sx=>sx.rest.length) ⟨(digits s).1,[],(digits s).1.length,[],by simp,⟨fun _=>rfl,fun h=>List.length_eq_zero_iff.1 zO⟩,rfl⟩ ?_ ?_
 ·exact(Le.mB 2 1).trans<|(Le.eN 1 1 rfl rfl (Sub.z' _)).trans<|Le.mk rfl (.s rfl rfl (.s rfl rfl (.s rfl rfl (.s rfl rfl .nil)))) (.cons rfl rfl (.cons rfl rfl (.arr rfl (by rfl) .nil)))
 ·rintro⟨rest,tl,e,done,hr,he,hx⟩;show J _ _ _ _ [(2,.box 0 0),(3,.str (digits s).1),(5,.box 1 0),(6,.i e)] [(0,.cells [.b false,.raw (.slice none 0 0)]),(1,.cells [.b (digits s).2,.gs 2 done.length]),(2,.arr 1 (encI done))];have fq:=congrArg List.length hr;simp only[List.length_append]at fq;have vZ:=congrArg List.length hx;simp only[List.length_append]at vZ;refine go [99999] ?_;refine br (fun h1=>?_) (fun h1=>?_)
  ·have bE:=h1;try simp only[bs]at bE
   refine sd (az zO) ?_;refine J.loop (ι:=aim s rest tl e done) (fun sx=>[(2,.box 0 0),(3,.str (digits s).1),(5,.box 1 0),(6,.i e),(7,.i (natVal sx.aw:Int)),(8,.i ((rest.length-9+sx.aw.length:Nat):Int))]) (fun sx=>[(0,.cells [.b false,.raw (.slice none 0 0)]),(1,.cells [.b (digits s).2,.gs 2 done.length]),(2,.arr 1 (encI done))]) (fun sx=>sx.aI.length) ⟨[],_,rfl⟩ ?_ ?_
   ·exact Le.mk rfl (.s rfl rfl (.s rfl rfl (.s rfl rfl (.s rfl rfl (.s rfl rfl (.cons rfl (Sub.int zQ) rfl .nil)))))) (.cons rfl rfl (.cons rfl rfl (.arr rfl zS .nil)))
   ·rintro⟨aw,aI,bl⟩;show J _ _ _ _ [(2,.box 0 0),(3,.str (digits s).1),(5,.box 1 0),(6,.i e),(7,.i (natVal aw:Int)),(8,.i ((rest.length-9+aw.length:Nat):Int))] [(0,.cells [.b false,.raw (.slice none 0 0)]),(1,.cells [.b (digits s).2,.gs 2 done.length]),(2,.arr 1 (encI done))];have Hm:=congrArg List.length bl;simp only[List.length_append,List.length_drop]at Hm;have Hl:=aio Dv hr bl;rw[List.all_append,Bool.and_eq_true]at Hl;have hv:=o8 aw Hl.1;have hp9:10^aw.length≤10^9:=Nat.pow_le_pow_right zO zO;rcases aI with _|⟨x2,aI⟩
    ·simp only[List.length_nil]at Hm;obtain rfl:aw=rest.drop (rest.length-9):=by simpa using bl.symm
     refine go [99999] ?_;refine aR zQ ?_;refine go [99999] ?_;refine oP (SE underlying25 sizeOf3 zeroValue3 rfl rfl rfl rfl rfl) ?_;refine oW (k_ 3 underlying25 underlying25 sizeOf3 typeInfo3 zeroValue3 rfl (bt:=8) rfl rfl rfl rfl zS rfl rfl zQ) ?_;refine go [99999] ?_;refine sd (az zO) ?_;exact nx ⟨rest.take (rest.length-9),rest.drop (rest.length-9)++tl,e-9,done++[natVal (rest.drop (rest.length-9))],by rw[hr,←List.append_assoc,List.take_append_drop],⟨fun h=>by simp;omega,fun h=>List.length_eq_zero_iff.1 zQ⟩,by rw[←hx,xN (s:=rest) zO];simp⟩ zQ ((Le.mk (ak:=[(0,_),(1,_),(3,_)]) rfl (show eO _ _ [(2,_),(3,_),(5,_),(6,_)]from(.s rfl rfl (.s rfl rfl (.s rfl rfl (.s rfl rfl .nil))))) (.cons (i:=0) rfl rfl (.cons (i:=1) rfl rfl (.cons (i:=3) rfl rfl .nil)))).trans<|(Le.Ta 1 1 3 2 rfl rfl rfl zS rfl).trans<|Le.mk rfl (.s rfl rfl (.s rfl rfl (.s rfl rfl (.s rfl rfl .nil)))) (.cons rfl rfl (.eq rfl zS rfl (.arr rfl (by simp[encI]) .nil))))
    ·simp only[List.length_cons]at Hm;have hq:=Hl.2;simp only[List.all_cons,Bool.and_eq_true,bN,decide_eq_true_eq]at hq;refine go [99999] ?_;refine a_ zQ ?_;refine sd (az zO) ?_;refine DR zO (mY (pre:=rest.take (rest.length-9)++aw) (rest:=aI++tl) (x:=x2) (ain hr bl) zS) ?_;refine sd (UC zO zO) ?_;refine sd (az zO) ?_;refine sd (az zO) ?_;refine sd (az zO) ?_;exact nx ⟨aw++[x2],aI,by simp[bl]⟩ zS (Le.mk rfl (.s rfl rfl (.s rfl rfl (.s rfl rfl (.s rfl rfl (.cons rfl (Sub.int (by rw[sv];omega)) rfl (.cons rfl (Sub.int zQ) rfl .nil)))))) (.cons rfl rfl (.cons rfl rfl (.arr rfl zS .nil))))
  ·have bE:=h1;try simp only[bs]at bE
   refine go [99999] ?_;refine J.bP (Le.G0 0 1 2 rfl rfl rfl zS) ?_;refine J.ret (?_);exact Rd.cA results256 isAgg260 sizeOf260 rfl rfl rfl (Sub.agg (.r (.cons (Sub.snap (by rw[←hx,he.2 zO,rV,List.append_nil])) .nil)))
structure al5(cD:Bool)(m:List Nat)where
 pre:List Nat
 rest:List Nat
 hx:m=pre++rest
structure al6(cD:Bool)(m:List Nat)(pre:List Nat)(x:Nat)where
 n:Nat
 k:Nat
 acc:aa
 hk:k≤9
 hn:n<gB
 hq:np (9-k) n++acc=np 9 x++pX pre
theorem al4(cD:Bool)(m:List Nat)(hs:m.length≤20000)(hm:aU m):Fc Tryz.prog 257 [.agg [.b cD,sI m]] (.str (Ca cD m)):=by
 refine Fc.mk' [2] func257 rfl ntmps257 rfl rfl rfl (fun t w=>results_tmp results257 t _ w) ?_;have Az:=JG m;refine go [] ?_;refine J.loop (ι:=al5 cD m) (fun sx=>[(1,.box 0 0),(3,.str (pX sx.pre)),(4,.i sx.pre.length)]) (fun sx=>[(0,.cells [.b cD,sI m])]) (fun sx=>sx.rest.length) ⟨[],m,rfl⟩ ?_ ?_
 ·exact Le.mk rfl (.s rfl rfl (.s rfl rfl (.s rfl rfl .nil))) (.cons rfl rfl .nil)
 ·rintro⟨pre,rest,hx⟩;show J _ _ _ _ [(1,.box 0 0),(3,.str (pX pre)),(4,.i pre.length)] [(0,.cells [.b cD,sI m])];have hl:=congrArg List.length hx;simp only[List.length_append]at hl;rcases rest with _|⟨x,rest⟩
  ·obtain rfl:m=pre:=by simpa using hx
   refine go [] ?_;refine aR zS ?_;refine go [] ?_;refine br (fun h1=>?_) (fun h1=>?_)
   ·refine sd (by simp[aG];omega) ?_;refine oP (ai call250 rfl (FY _)) ?_;exact ah rfl (Sub.str (by unfold Ca;rw[if_pos zA]))
   ·refine oP (ai call250 rfl (FY _)) ?_;exact ah rfl (Sub.str (by unfold Ca;rw[if_neg (by simp at*;assumption)]))
  ·simp only[List.length_cons]at hl;have iX:=hm x (by rw[hx];simp);refine go [] ?_;refine a_ zQ ?_;refine ix zO (bn (fun(n:Nat)=>[D.i (n:Int)]) hx rfl) ?_;refine J.loop (ι:=al6 cD m pre x) (fun sx=>[(1,.box 0 0),(3,.str sx.acc),(4,.i (pre.length:Int)),(5,.i (sx.n:Int)),(6,.i (sx.k:Int))]) (fun sx=>[(0,.cells [.b cD,sI m])]) (fun sx=>9-sx.k) ⟨x,0,_,by omega,iX,rfl⟩ ?_ ?_
   ·exact Le.mk rfl (.s rfl rfl (.s rfl rfl (.s rfl rfl (.s rfl rfl (.s rfl rfl .nil))))) (.cons rfl rfl .nil)
   ·rintro⟨n,k,acc,hk,hn,hq⟩;show J _ _ _ _ [(1,.box 0 0),(3,.str acc),(4,.i (pre.length:Int)),(5,.i (n:Int)),(6,.i (k:Int))] [(0,.cells [.b cD,sI m])];refine go [] ?_;refine br (fun h2=>?_) (fun h2=>?_)
    ·have c7:=h2;try simp only[bs]at c7
     refine oP (oh rfl rfl zD (aiw _)) ?_;refine sd (az zO) ?_;refine sd (KU zO zO) ?_;refine oP (J0 underlying21 underlying9 rfl (c:=UInt8.ofNat (48+n%10)) zO zO (by congr 1<;>omega)) ?_;refine sd (by have:=congrArg List.length hq;simp[JF,JG]at this;simp[aG];omega) ?_;refine oP (lT rfl rfl zD (aic (by unfold gB at*;omega))) ?_;refine sd (az zO) ?_;exact nx ⟨n/10,k+1,UInt8.ofNat (48+n%10)::acc,by simp at*;omega,by omega,by rw[←hq,show 9-k=(9-(k+1))+1 by simp at*;omega,np];simp⟩ (by simp at*;omega) (Le.mk rfl (.s rfl rfl (.s rfl rfl (.s rfl rfl (.s rfl rfl (.s rfl rfl .nil))))) (.cons rfl rfl .nil))
    ·have c7:=h2;try simp only[bs]at c7
     refine J.nil (cC ?_);refine go [] ?_;refine sd (az zO) ?_;exact nx ⟨pre++[x],rest,by simp[hx]⟩ zS (Le.mk rfl (.s rfl rfl (.cons rfl (Sub.str (by rw[Es,←hq];simp[np,show k=9 by omega])) rfl (.cons rfl (Sub.int zS) rfl .nil))) (.cons rfl rfl .nil))
theorem al7(cD:Bool)(n:Nat)(h:(au n).length≤20000):Fc Tryz.prog 257 [.agg [.b cD,sI (au n)]] (.str (ofInt (if cD then -(n:Int)else n))):=by
 have:=al4 cD (au n) h (fW n);rwa[al8 _ (fW n),gk]at this
theorem SZ(s:aa)(hs:s.length≤100000):Fc Tryz.prog 256 [.str s] (.agg [.b (decide (val s<0)),sI (au (val s).natAbs)]):=by
 have:=aik s hs;rw[Jf,Dj]at this;exact this
theorem aj6(a b:Nat)(ha:(au a).length≤10000)(hb:(au b).length≤10000)(h:a≠0∨b≠0):Fc Tryz.prog 258 [sI (au a),sI (au b)] (sI (au (a*b))):=by
 have:=aj3 (au a) (au b) (by
  rcases h with h|h
  ·have e0:(au a).length≠0:=fun e=>h (pS e);omega
  ·have e0:(au b).length≠0:=fun e=>h (pS e);omega) zO zO (fW a) (fW b)
 rwa[gk,gk]at this
end Go.T
namespace Go.T
open Go
theorem afu{v k:Nat}(h:v<10^k):(au v).length≤k:=IX (Nat.lt_of_lt_of_le h (Nat.pow_le_pow_left (by unfold gB;omega) k))
def ia(s:aa):Bool:=decide ((digits s).1.length≤17)
def gq(s:aa):Int:=if(digits s).1.length≤17 then val s else 0
theorem y9{s:aa}(h:ia s=true):gq s=val s:=by
 unfold ia at h;unfold gq;rw[if_pos (of_decide_eq_true h)]
theorem TD{s:aa}(h:ia s=true):-100000000000000000<val s∧val s<100000000000000000:=by
 unfold ia at h;have h:=of_decide_eq_true h;have h1:=o8 (digits s).1 (mM s);have h3:10^(digits s).1.length≤10^17:=Nat.pow_le_pow_right zO h;unfold val;split<;>omega
theorem TE{s:aa}(h:val s=0):ia s=true∧gq s=0:=by
 have h1:(digits s).1.length=0:=by
  have:=zE s;have h2:natVal (digits s).1=0:=by
   unfold val at h;split at h<;>omega
  rw[h2,jf]at this;rw[this];rfl
 unfold ia gq;rw[h1];exact⟨by simp,by rw[if_pos zO,h]⟩
theorem Q6{a b:aa}(h:(((((ia a&&ia b)&&decide (gq a<1000000000))&&decide (-1000000000<gq a))&&decide (gq b<1000000000))&&decide (-1000000000<gq b))=true):
  IntKind.i64.wrap (gq a*gq b)=val a*val b∧-1000000000000000000<val a*val b∧val a*val b<1000000000000000000:=by
 simp only[Bool.and_eq_true,decide_eq_true_eq]at h;obtain⟨⟨⟨⟨⟨h1,h2⟩,h3⟩,h4⟩,h5⟩,h6⟩:=h;rw[y9 h1]at*;rw[y9 h2]at*;have key:(val a*val b).natAbs≤999999999*999999999:=by
  rw[Int.natAbs_mul];exact Nat.mul_le_mul zO zO
 have h7:-1000000000000000000<val a*val b∧val a*val b<1000000000000000000:=by omega
 exact⟨eJ zO zO,h7⟩
theorem af0{a b:aa}(h:(((((ia a&&ia b)&&decide (gq a<1000000000))&&decide (-1000000000<gq a))&&decide (gq b<1000000000))&&decide (-1000000000<gq b))=false):
  (val a).natAbs≠0∨(val b).natAbs≠0:=by
 by_cases ha:val a=0
 ·by_cases hb:val b=0
  ·obtain⟨a1,a2⟩:=TE ha;obtain⟨b1,b2⟩:=TE hb;rw[a1,a2,b1,b2]at h;exact absurd h zD
  ·right;omega
 ·left;omega
theorem afW(a b:aa):ofInt (if(decide (val a<0)!=decide (val b<0))=true then -(((val a).natAbs*(val b).natAbs:Nat):Int)else(((val a).natAbs*(val b).natAbs:Nat):Int))=ofInt (val a*val b):=by
 congr 1
 rw[Int.natCast_mul];by_cases h1:val a<0
 ·by_cases h2:val b<0
  ·have e1:((val a).natAbs:Int)=-val a:=by omega
   have e2:((val b).natAbs:Int)=-val b:=by omega
   simp[h1,h2,e1,e2,Int.neg_mul,Int.mul_neg]
  ·have e1:((val a).natAbs:Int)=-val a:=by omega
   have e2:((val b).natAbs:Int)=val b:=by omega
   simp[h1,h2,e1,e2,Int.neg_mul,Int.mul_neg]
 ·by_cases h2:val b<0
  ·have e1:((val a).natAbs:Int)=val a:=by omega
   have e2:((val b).natAbs:Int)=-val b:=by omega
   simp[h1,h2,e1,e2,Int.neg_mul,Int.mul_neg]
  ·have e1:((val a).natAbs:Int)=val a:=by omega
   have e2:((val b).natAbs:Int)=val b:=by omega
   simp[h1,h2,e1,e2,Int.neg_mul,Int.mul_neg]
theorem afX(a b:aa){k:Nat}(h:a.length+b.length≤k):(au ((val a).natAbs*(val b).natAbs)).length≤k:=by
 rw[←Int.natAbs_mul];exact Nat.le_trans (afu (yx a b)) h
theorem Ym{b:aa}(hb:0<val b):(ia b&&decide (gq b=0))=false:=by
 cases h:ia b with
 |false=>rfl
 |true=>rw[y9 h];simp;omega
theorem Gk{a b:aa}(h:(ia a&&ia b)=true)(hb:0<val b):gq a=val a∧gq b=val b∧gq b≠0∧(val a).tdiv (val b)=(if 0≤val a∨val b∣val a then val a/val b else val a/val b+1)∧(val a).tmod (val b)=(if 0≤val a∨val b∣val a then val a%val b else val a%val b-val b)∧
  -100000000000000000<val a/val b∧val a/val b<100000000000000000∧0≤val a%val b∧val a%val b<val b∧val b<100000000000000000:=by
 rw[Bool.and_eq_true]at h;have h1:=TD h.1;have h2:=TD h.2;have hm:=Int.emod_nonneg (val a) (show val b≠0 by omega);have hl:=Int.emod_lt_of_pos (val a) hb;have hd:(val a/val b).natAbs≤(val a).natAbs:=Int.natAbs_ediv_le_natAbs _ _;refine⟨y9 h.1,y9 h.2,by rw[y9 h.2];omega,?_,?_,by omega,by omega,hm,hl,h2.2⟩
 ·rw[Int.tdiv_eq_ediv];by_cases k:0≤val a∨val b∣val a
  ·rw[if_pos k,if_pos k];simp
  ·rw[if_neg k,if_neg k,Int.sign_eq_one_of_pos hb]
 ·rw[Int.tmod_eq_emod];by_cases k:0≤val a∨val b∣val a
  ·rw[if_pos k,if_pos k];simp
  ·rw[if_neg k,if_neg k,Int.natAbs_of_nonneg zO]
theorem tz{a b:aa}(h:(ia a&&ia b)=true)(hb:0<val b):
  IntKind.i64.wrap ((gq a).tdiv (gq b))=(val a).tdiv (val b)∧(gq a).tmod (gq b)=(val a).tmod (val b)∧
  ((decide ((val a).tmod (val b)≠0)&&(decide ((val a).tmod (val b)<0)!=decide (gq b<0)))=true→
   IntKind.i64.wrap ((val a).tdiv (val b)-1)=val a/val b∧IntKind.i64.wrap ((val a).tmod (val b)+gq b)=val a%val b)∧
  ((decide ((val a).tmod (val b)≠0)&&(decide ((val a).tmod (val b)<0)!=decide (gq b<0)))=false→(val a).tdiv (val b)=val a/val b∧(val a).tmod (val b)=val a%val b):=by
 obtain⟨e1,e2,_,h3,h4,h5,h6,h7,h8,h9⟩:=Gk h hb;rw[e1,e2,h3,h4];have hd:val b∣val a↔val a%val b=0:=Int.dvd_iff_emod_eq_zero;by_cases k:0≤val a∨val b∣val a
 ·have k':0≤val a∨val a%val b=0:=k.imp id hd.1;rw[if_pos k,if_pos k];refine⟨eJ zO zO,rfl,fun hc=>?_,fun _=>⟨rfl,rfl⟩⟩;simp only[Bool.and_eq_true,decide_eq_true_eq,bne_iff_ne,ne_eq,decide_eq_decide]at hc;omega
 ·have k':¬(0≤val a∨val a%val b=0):=fun h=>k (h.imp id hd.2);rw[if_neg k,if_neg k];refine⟨eJ zO zO,rfl,fun _=>⟨?_,?_⟩,fun hc=>?_⟩
  ·rw[Int.add_sub_cancel];exact eJ zO zO
  ·rw[Int.sub_add_cancel];exact eJ zO zO
  ·exfalso;have a1:decide (val a%val b-val b≠0)=true:=decide_eq_true zO;have a2:decide (val a%val b-val b<0)=true:=decide_eq_true zO;have a3:decide (val b<0)=false:=decide_eq_false zO;rw[a1,a2,a3]at hc;cases hc
theorem MA{a b:aa}(h:(ia a&&ia b)=true)(hb:0<val b):gq b≠0:=(Gk h hb).2.2.1
theorem CH{a b:aa}(h:(ia a&&ia b)=true)(hb:0<val b):(-1000000000000000000<val a/val b∧val a/val b<1000000000000000000)∧-1000000000000000000<val a%val b∧val a%val b<1000000000000000000:=by
 obtain⟨_,_,_,_,_,h5,h6,h7,h8,h9⟩:=Gk h hb;omega
theorem RD{n:Nat}{a b:aa}(h:n≤max (val a).natAbs (val b).natAbs):(ofInt (n:Int)).length≤max a.length b.length+1:=by
 rcases Nat.le_total (val a).natAbs (val b).natAbs with k|k
 ·have:=El (n:=(n:Int)) (s:=b) zO;omega
 ·have:=El (n:=(n:Int)) (s:=a) zO;omega
theorem S7{n d:aa}(hd:0<val d)(h:decide (fj n []=0)=true):cI (val n) (val d)=⟨[],[]⟩:=by
 have h:=of_decide_eq_true h;rw[Cw,y_]at h;rw[h,QH hd]
theorem S9{n:aa}(h:decide (fj n []=0)=false):val n≠0:=by
 intro k;have h:=of_decide_eq_false h;rw[Cw,y_]at h;exact h k
theorem BG{d:aa}(hd:0<val d):decide (fO (val d-val [])<0)=false:=by
 apply decide_eq_false;rw[Kn];omega
theorem S_{x:Int}:decide (fj (ofInt x) [49]=0)=decide (ofInt x=[49]):=by
 rw[decide_eq_decide,sF,f_,val_one,y_];constructor
 ·intro h;rw[show x=1 by omega];exact ofInt_one
 ·intro h;have:=congrArg val h;rw[f_,val_one]at this;omega
theorem Da(n d:Int)(h:0<d):0<val (ofInt (Int.gcd n d:Int))∧n%val (ofInt (Int.gcd n d:Int))=0∧d%val (ofInt (Int.gcd n d:Int))=0:=by
 refine⟨Db n zO,?_,?_⟩
 ·rw[f_];exact Int.emod_eq_zero_of_dvd (Int.gcd_dvd_left n d)
 ·rw[f_];exact Int.emod_eq_zero_of_dvd (Int.gcd_dvd_right n d)
theorem NR(s:aa):(digits s).1=ofInt ((val s).natAbs:Int):=by
 rw[zE s];unfold ofInt;rw[if_neg zO,Int.natAbs_natCast]
 congr 1
 unfold val;split<;>omega
open Go.Proofs Go.Proofs.Tryz
set_option maxRecDepth 20000
theorem aji(s:aa)(hs:17<(digits s).1.length):Fc Tryz.prog 255 [.str s] (.bf [.i 0,.b false]):=by
 refine Fc.mk' [2,3] func255 rfl ntmps255 rfl rfl rfl (fun t w=>results_tmp2 results255 t _ w) ?_;refine J.l7 0 rfl (fun hb=>?_);simp only[aG]at hb;refine go [] ?_;refine oP (ai call251 rfl (rL _)) ?_;refine a_ zQ ?_;exact gS rfl rfl (Sub.refl _) (Sub.refl _)
theorem ES(s:aa):Fc Tryz.prog 255 [.str s] (.bf [.i (gq s),.b (ia s)]):=by
 by_cases h:(digits s).1.length≤17
 ·have:=Ko s h;simpa[gq,ia,h]using this
 ·have:=aji s zO;simpa[gq,ia,h]using this
theorem Q4(a b:aa)(ha:a.length≤4000)(hb:b.length≤4000):Fc Tryz.prog 197 [.str a,.str b] (.str (ofInt (val a*val b))):=by
 refine Fc.mk' [4] func197 rfl ntmps197 rfl rfl rfl (fun t w=>results_tmp results197 t _ w) ?_;have HV:=uf a;have mh:=uf b;refine J.seq (J.af [.p] ?_);refine .ag rfl rfl<|.nil ?_;refine J.seq (J.af [.p,.p,.p,.p,.p,.p,.p] ?_);refine .mv rfl rfl<|.P rfl (ai call255 rfl (ES _))<|.mv rfl rfl<|.P rfl (dY rfl rfl)<|.P rfl (dY rfl rfl)<|.ag rfl rfl<|.ag rfl rfl<|.nil ?_;refine J.seq (J.af [.p,.p,.p,.p,.p,.p,.p] ?_);refine .mv rfl rfl<|.P rfl (ai call255 rfl (ES _))<|.mv rfl rfl<|.P rfl (dY rfl rfl)<|.P rfl (dY rfl rfl)<|.ag rfl rfl<|.ag rfl rfl<|.nil ?_;refine J.seq (J.seq (J.af [.p,.p,.p,.p,.p,.p,.p,.p,.p,.p,.p,.p,.p,.p,.p,.p,.p,.p,.p,.p] ?_));refine .mv rfl rfl<|.mv rfl rfl<|.gT rfl (.inl rfl) rfl rfl rfl (fun hg=>pk (fun _=>aX rfl _))<|.P rfl (gD rfl rfl)<|.mv rfl rfl<|.gT rfl (.inl rfl) rfl rfl rfl (fun hg=>pk (fun _=>aX rfl _))<|.gT rfl (.inl rfl) rfl rfl rfl (fun hg=>pk (fun _=>b_ (bj rfl hg) rfl _))<|.P rfl (gD rfl rfl)<|.mv rfl rfl<|.gT rfl (.inl rfl) rfl rfl rfl (fun hg=>pk (fun _=>aX rfl _))<|.gT rfl (.inl rfl) rfl rfl rfl (fun hg=>pk (fun _=>gp (bj rfl hg) rfl _))<|.P rfl (gD rfl rfl)<|.mv rfl rfl<|.gT rfl (.inl rfl) rfl rfl rfl (fun hg=>pk (fun _=>aX rfl _))<|.gT rfl (.inl rfl) rfl rfl rfl (fun hg=>pk (fun _=>b_ (bj rfl hg) rfl _))<|.P rfl (gD rfl rfl)<|.mv rfl rfl<|.gT rfl (.inl rfl) rfl rfl rfl (fun hg=>pk (fun _=>aX rfl _))<|.gT rfl (.inl rfl) rfl rfl rfl (fun hg=>pk (fun _=>gp (bj rfl hg) rfl _))<|.P rfl (gD rfl rfl)<|.nil ?_;refine J.cond rfl (fun h1=>?_) (fun h1=>?_)
 ·refine J.seq (J.af [.p,.p,.p,.p,.p] ?_);refine .mv rfl rfl<|.mv rfl rfl<|.P rfl (sW rfl rfl (Q6 h1).1)<|.P rfl (ai call199 rfl (wz _ (Q6 h1).2))<|.ag rfl rfl<|.nil ?_;refine J.ret (?_);exact dF rfl (Sub.refl _)
 ·refine J.skip ?_;refine J.seq (J.af [.p,.p,.p,.p,.w,.w,.w,.w] ?_);refine .mv rfl rfl<|.P rfl (ai call256 rfl (SZ _ zO))<|.mv rfl rfl<|.P rfl (ai call256 rfl (SZ _ zO))<|.W rfl (jE 0 zeroValue260 rfl)<|.W rfl (jE 1 zeroValue260 rfl)<|.W rfl (lf sizeOf260 rfl rfl rfl rfl rfl rfl)<|.W rfl (lf sizeOf260 rfl rfl rfl rfl rfl rfl)<|.nil ?_;refine J.bP (Le.gg 9 0 rfl rfl rfl rfl) ?_;refine J.bP (Le.gg 10 1 rfl rfl rfl rfl) ?_;refine J.seq (J.rp [.p,.p,.p,.p,.p,.p,.p,.p,.p,.p,.p,.p,.p] nC zK ?_);refine .P rfl (mD (n:=0) 4 0 underlying260 sizeOf4 rfl rfl rfl)<|.P rfl (bX isAgg4 rfl)<|.P rfl (mD (n:=0) 4 0 underlying260 sizeOf4 rfl rfl rfl)<|.P rfl (bX isAgg4 rfl)<|.P rfl (EF underlying4 rfl rfl)<|.P rfl (mD (n:=0) 25 1 underlying260 sizeOf25 rfl rfl rfl)<|.P rfl (bX isAgg25 rfl)<|.P rfl (mD (n:=0) 25 1 underlying260 sizeOf25 rfl rfl rfl)<|.P rfl (bX isAgg25 rfl)<|.P rfl (ai call258 rfl (aj6 _ _ zO zO (af0 h1)))<|.P rfl (rl (pl:=#[(0,1),(1,1)]) underlying260 zeroValue260 (fun w=>by kernel_rfl) rfl rfl)<|.P rfl (ai call257 rfl (al7 _ _ (afX a b zO)))<|.ag rfl rfl<|.nil ?_;refine J.ret (?_);exact dF rfl (Sub.str (by exact afW a b))
def j2(f:aP):Prop:=f.num.length≤13∧f.den.length≤13
theorem TC{s:aa}(h:s.length≤17):ia s=true:=decide_eq_true (Nat.le_trans (jO s) h)
theorem My(a b:aa)(ha:a.length≤17)(hb:b.length≤17)(Hv:val a≠0)(g9:0<val b)(hx:0≤val a∨val a%val b=0):Fc Tryz.prog 356 [.str a,.str b] (.bf [.str (ofInt (val a/val b)),.str (ofInt (val a%val b)),.i 0]):=by
 refine Fc.mk' [4,5,6] func356 rfl ntmps356 rfl rfl rfl (fun t w=>results_tmp3 results356 t _ w) ?_;have j9:(ia a&&ia b)=true:=by rw[TC ha,TC hb];rfl
 refine J.seq (J.af [.p,.p,.p] ?_);refine .ag rfl rfl<|.ag rfl rfl<|.ag rfl rfl<|.nil ?_;refine J.seq (J.af [.p,.p,.p,.p,.p,.p,.p] ?_);refine .mv rfl rfl<|.P rfl (ai call255 rfl (ES _))<|.mv rfl rfl<|.P rfl (dY rfl rfl)<|.P rfl (dY rfl rfl)<|.ag rfl rfl<|.ag rfl rfl<|.nil ?_;refine J.seq (J.af [.p,.p,.p,.p,.p,.p,.p] ?_);refine .mv rfl rfl<|.P rfl (ai call255 rfl (ES _))<|.mv rfl rfl<|.P rfl (dY rfl rfl)<|.P rfl (dY rfl rfl)<|.ag rfl rfl<|.ag rfl rfl<|.nil ?_;refine J.seq (J.seq (J.af [.p,.p,.p,.p,.p] ?_));refine .mv rfl rfl<|.mv rfl rfl<|.gT rfl (.inl rfl) rfl rfl rfl (fun hg=>pk (fun _=>aX rfl _))<|.gT rfl (.inl rfl) rfl rfl rfl (fun hg=>pk (fun _=>jF (bj rfl hg) rfl _))<|.P rfl (gD rfl rfl)<|.nil ?_;refine J.eQ rfl (Ym g9) ?_;refine J.skip ?_;refine J.seq (J.seq (J.af [.p,.p,.p,.p] ?_));refine .mv rfl rfl<|.mv rfl rfl<|.gT rfl (.inl rfl) rfl rfl rfl (fun hg=>pk (fun _=>aX rfl _))<|.P rfl (gD rfl rfl)<|.nil ?_;refine J.fD rfl (j9) ?_;refine J.seq (J.rp [.p,.p,.p,.p,.p,.p,.p,.p] nC zK ?_);refine .mv rfl rfl<|.mv rfl rfl<|.P rfl (lT rfl rfl (MA j9 g9) (tz j9 g9).1)<|.mv rfl rfl<|.mv rfl rfl<|.P rfl (oh rfl rfl (MA j9 g9) (tz j9 g9).2.1)<|.ag rfl rfl<|.ag rfl rfl<|.nil ?_;refine J.seq (J.seq (J.af [.p,.p,.p,.p,.p,.p,.p,.p,.p] ?_))
 refine .mv rfl rfl<|.P rfl (wO rfl rfl)<|.mv rfl rfl<|.gT rfl (.inl rfl) rfl rfl rfl (fun hg=>pk (fun _=>aX rfl _))<|.gT rfl (.inl rfl) rfl rfl rfl (fun hg=>pk (fun _=>b_ (bj rfl hg) rfl _))<|.gT rfl (.inl rfl) rfl rfl rfl (fun hg=>pk (fun _=>aX rfl _))<|.gT rfl (.inl rfl) rfl rfl rfl (fun hg=>pk (fun _=>b_ (bj rfl hg) rfl _))<|.gT rfl (.inl rfl) rfl rfl rfl (fun hg=>pk (fun _=>EF underlying4 (bj rfl hg) (bj rfl hg) _))<|.P rfl (gD rfl rfl)<|.nil ?_;refine J.cond rfl (fun h1=>?_) (fun h1=>?_)
 ·refine J.seq (J.af [.p,.p,.p] ?_);refine .mv rfl rfl<|.P rfl (dQ rfl rfl ((tz j9 g9).2.2.1 h1).1)<|.ag rfl rfl<|.nil ?_;refine J.af [.p,.p,.p,.p] ?_;refine .mv rfl rfl<|.mv rfl rfl<|.P rfl (bU rfl rfl ((tz j9 g9).2.2.1 h1).2)<|.ag rfl rfl<|.nil ?_;refine J.seq (J.af [.p,.p,.p,.p,.p,.p,.p] ?_);refine .mv rfl rfl<|.P rfl (ai call199 rfl (wz _ (by exact(CH j9 g9).1)))<|.mv rfl rfl<|.P rfl (ai call199 rfl (wz _ (by exact(CH j9 g9).2)))<|.ag rfl rfl<|.ag rfl rfl<|.ag rfl rfl<|.nil ?_;refine J.ret (?_);exact Ti rfl rfl rfl (Sub.refl _) (Sub.refl _) (Sub.refl _)
 ·refine J.skip ?_;refine J.seq (J.af [.p,.p,.p,.p,.p,.p,.p] ?_);refine .mv rfl rfl<|.P rfl (ai call199 rfl (wz _ (by(rw[((tz j9 g9).2.2.2 h1).1];exact(CH j9 g9).1))))<|.mv rfl rfl<|.P rfl (ai call199 rfl (wz _ (by(rw[((tz j9 g9).2.2.2 h1).2];exact(CH j9 g9).2))))<|.ag rfl rfl<|.ag rfl rfl<|.ag rfl rfl<|.nil ?_;refine J.ret (?_);exact Ti rfl rfl rfl (Sub.str (by(rw[((tz j9 g9).2.2.2 h1).1];done))) (Sub.str (by(rw[((tz j9 g9).2.2.2 h1).2];done))) (Sub.refl _)
theorem Yi(m n:Nat)(hm:m≠0)(hn:n≠0)(h1:(ofInt (m:Int)).length≤17)(h2:(ofInt (n:Int)).length≤17):Fc Tryz.prog 356 [.str (ofInt (m:Int)),.str (ofInt (n:Int))] (.bf [.str (ofInt ((m/n:Nat):Int)),.str (ofInt ((m%n:Nat):Int)),.i 0]):=by
 have:=My (ofInt (m:Int)) (ofInt (n:Int)) h1 h2 (by rw[f_];omega) (by rw[f_];omega) (.inl (by rw[f_];omega));rw[f_,f_,←Int.natCast_ediv,←Int.natCast_emod]at this;exact this
structure abm(a b:aa)where
 m:Nat
 n:Nat
 hm:m≠0
 hg:Nat.gcd m n=Nat.gcd (val a).natAbs (val b).natAbs
 hk:m≤max (val a).natAbs (val b).natAbs∧n≤max (val a).natAbs (val b).natAbs
theorem abl(a b:aa)(ha:a.length≤16)(hb:b.length≤16)(Hv:val a≠0):Fc Tryz.prog 334 [.str a,.str b] (.str (ofInt (Int.gcd (val a) (val b):Int))):=by
 refine Fc.mk' [4] func334 rfl ntmps334 rfl rfl rfl (fun t w=>results_tmp results334 t _ w) ?_;refine go [] ?_;refine oP (ai call251 rfl (rL _)) ?_;refine oP (ai call251 rfl (rL _)) ?_;refine J.loop (ι:=abm a b) (fun sx=>[(9,.str (ofInt (sx.m:Int))),(10,.str (ofInt (sx.n:Int)))]) (fun sx=>[]) (fun sx=>sx.n) ⟨(val a).natAbs,(val b).natAbs,by omega,rfl,by omega,by omega⟩ ?_ ?_
 ·exact Le.mk rfl (.cons rfl (Sub.str (by exact NR _)) rfl (.cons rfl (Sub.str (by exact NR _)) rfl .nil)) .nil
 ·rintro⟨m,n,hm,hg,hk⟩;show J _ _ _ _ [(9,.str (ofInt (m:Int))),(10,.str (ofInt (n:Int)))] [];refine go [] ?_;refine br (fun h1=>?_) (fun h1=>?_)
  ·have dn:n≠0:=by rintro rfl;simp[Jo]at h1
   refine oP (ai call356 rfl (Yi m n hm dn (by have:=RD hk.1;omega) (by have:=RD hk.2;omega))) ?_;exact nx ⟨n,m%n,dn,by rw[←hg,Nat.gcd_comm m n,Nat.gcd_rec n m,Nat.gcd_comm],hk.2,Nat.le_trans (Nat.mod_le _ _) hk.1⟩ (by exact Nat.mod_lt _ zO) (Le.mk rfl (.s rfl rfl (.s rfl rfl .nil)) .nil)
  ·have dn:n=0:=by have:=RE.1 (by simpa using h1);omega
   refine go [] ?_;exact ah rfl (Sub.str (by subst dn;rw[Nat.gcd_zero_right]at hg;rw[hg];rfl))
theorem M1(a b:aa)(ha:a.length≤17)(hb:b.length≤17)(Hv:val a≠0)(g9:0<val b)(hx:val a%val b=0):Fc Tryz.prog 335 [.str a,.str b] (.str (ofInt (val a/val b))):=by
 refine Fc.mk' [4] func335 rfl ntmps335 rfl rfl rfl (fun t w=>results_tmp results335 t _ w) ?_;refine go [] ?_;refine oP (ai call356 rfl (My a b ha hb Hv g9 (.inr hx))) ?_;exact ah rfl (Sub.refl _)
theorem KX(a:aa):Fc Tryz.prog 252 [.str a] (.b (decide (fj a []=0))):=by
 refine Fc.mk' [2] func252 rfl ntmps252 rfl rfl rfl (fun t w=>results_tmp results252 t _ w) ?_;refine go [] ?_;refine oP (ai call195 rfl (xl _ _)) ?_;exact ah rfl (Sub.refl _)
theorem Jn:Fc Tryz.prog 199 [.i 1] (.str [49]):=by
 have:=wz 1 zO;rwa[ofInt_one]at this
theorem RW:Fc Tryz.prog 253 [] (.str [49]):=by
 refine Fc.mk' [0] func253 rfl ntmps253 rfl rfl rfl (fun t w=>results_tmp results253 t _ w) ?_;refine go [] ?_;refine oP (ai call199 rfl Jn) ?_;exact ah rfl (Sub.refl _)
theorem ais(n d:aa)(hn:n.length≤15)(hd:d.length≤15)(oK:0<val d):Fc Tryz.prog 295 [.str n,.str d] (.agg (cG (cI (val n) (val d)))):=by
 refine Fc.iI func295 rfl ntmps295 rfl rfl rfl ?_;have cQ:=G4 (val n) (d:=d) zO;refine go [99999] ?_;refine oP (ai call252 rfl (KX _)) ?_;refine br (fun h1=>?_) (fun h1=>?_)
 ·refine J.ret (?_);exact Rd.cA results295 isAgg35 sizeOf35 rfl rfl rfl (Sub.agg (.cons (Sub.str (by rw[S7 oK h1])) (.cons (Sub.str (by rw[S7 oK h1])) .nil)))
 ·refine oP (ai call334 rfl (abl n d zO zO (S9 h1))) ?_;refine oP (ai call335 rfl (M1 _ _ zO zO (S9 h1) (Da (val n) (val d) oK).1 (Da (val n) (val d) oK).2.1)) ?_;refine oP (ai call335 rfl (M1 _ _ zO zO zO (Da (val n) (val d) oK).1 (Da (val n) (val d) oK).2.2)) ?_;refine oP (ai call253 rfl RW) ?_;refine oP (ai call195 rfl (xl _ _)) ?_;refine ord ?_;refine br (fun h2=>?_) (fun h2=>?_)
  ·refine J.ret (?_);exact Rd.cA results295 isAgg35 sizeOf35 rfl rfl rfl (Sub.agg (.cons (Sub.str (by(rw[(wS (BG oK)).1];rfl))) (.cons (Sub.str (by exact QI (by rw[←(wS (BG oK)).2,←S_];exact h2))) .nil)))
  ·refine J.ret (?_);exact Rd.cA results295 isAgg35 sizeOf35 rfl rfl rfl (Sub.agg (.cons (Sub.str (by(rw[(wS (BG oK)).1];rfl))) (.cons (Sub.str (by(rw[(wS (BG oK)).2];exact QJ (by rw[←(wS (BG oK)).2,←S_];exact h2)))) .nil)))
theorem J3(f:aP)(hf:j2 f):Fc Tryz.prog 196 [.agg (cG f)] (.bf [.str (fL f).1,.str (fL f).2]):=by
 refine Fc.mk' [2,3] func196 rfl ntmps196 rfl rfl rfl (fun t w=>results_tmp2 results196 t _ w) ?_;have Dz:=hf.1;have OF:=hf.2;refine go [] ?_;refine oP (ai call252 rfl (KX _)) ?_;refine br (fun h1=>?_) (fun h1=>?_)
 ·refine oP (ai call253 rfl RW) ?_;refine ord ?_;exact gS rfl rfl (Sub.str (by rw[BF h1])) (Sub.str (by rw[BF h1]))
 ·refine oP (ai call195 rfl (xl _ _)) ?_;refine br (fun h2=>?_) (fun h2=>?_)
  ·refine oP (ai call254 rfl (Rs _ zO)) ?_;refine oP (ai call254 rfl (Rs _ zO)) ?_;refine ord ?_;exact gS rfl rfl (Sub.str (by rw[SX h1 h2])) (Sub.str (by rw[SX h1 h2]))
  ·refine ord ?_;exact gS rfl rfl (Sub.str (by rw[SY h1 h2])) (Sub.str (by rw[SY h1 h2]))
theorem LD(f:aP)(hf:j2 f):Fc Tryz.prog 259 [.agg (cG f)] (.agg (cG (cI (val (bB f).1) (val (bB f).2)))):=by
 refine Fc.iI func259 rfl ntmps259 rfl rfl rfl ?_;have fq:=J4 f zO hf;refine go [99999] ?_;refine oP (ai call196 rfl (J3 _ zA)) ?_;refine oP (ai call295 rfl (ais _ _ zO zO (EG _))) ?_;refine J.ret (?_);exact Rd.cA results259 isAgg35 sizeOf35 rfl rfl rfl (Sub.agg (.cons (Sub.str (by rw[IW])) (.cons (Sub.str (by rw[IW])) .nil)))
theorem Wp(f:aP)(hf:j2 f):Fc Tryz.prog 249 [.agg (cG f)] (.i (jM f)):=by
 refine Fc.mk' [2] func249 rfl ntmps249 rfl rfl rfl (fun t w=>results_tmp results249 t _ w) ?_;refine go [] ?_;refine oP (ai call259 rfl (LD _ zA)) ?_;refine oP (sX (xs:=[f.num,f.den]) (ys:=[(cI (val (bB f).1) (val (bB f).2)).num,(cI (val (bB f).1) (val (bB f).2)).den]) underlying35 (by kernel_rfl) (by kernel_rfl) (.cons zK underlying33 isAgg33 rfl (.cons zK underlying33 isAgg33 rfl (.nil _))) rfl rfl rfl rfl rfl rfl) ?_;refine ord ?_;refine br (fun h1=>?_) (fun h1=>?_)
 ·exact ah rfl (Sub.int (by unfold jM;rw[if_neg (LP h1)]))
 ·exact ah rfl (Sub.int (by unfold jM;rw[if_pos (LO h1)]))
theorem L7(f k:aP)(hf:j2 f)(hh:j2 k):Fc Tryz.prog 143 [.agg (cG f),.agg (cG k)] (.i (lU f k)):=by
 refine Fc.mk' [4] func143 rfl ntmps143 rfl rfl rfl (fun t w=>results_tmp results143 t _ w) ?_;have fq:=J4 f zO hf;have apc:=J4 k zO hh;refine go [] ?_;refine oP (ai call196 rfl (J3 _ zA)) ?_;refine oP (ai call196 rfl (J3 _ zA)) ?_;refine oP (ai call197 rfl (Q4 _ _ zO zO)) ?_;refine oP (ai call197 rfl (Q4 _ _ zO zO)) ?_;refine oP (ai call195 rfl (xl _ _)) ?_;exact ah rfl (Sub.refl _)
theorem EU(f:aP)(hf:j2 f):Fc Tryz.prog 191 [.agg (cG f)] (.i (lU f dH)):=by
 refine Fc.mk' [2] func191 rfl ntmps191 rfl rfl rfl (fun t w=>results_tmp results191 t _ w) ?_;refine go [] ?_;refine oP (ai call143 rfl (L7 f dH hf ⟨by decide,by decide⟩)) ?_;exact ah rfl (Sub.refl _)
theorem Sh:cI (val (bB ⟨[49],[49]⟩).1) (val (bB ⟨[49],[49]⟩).2)=cI 1 1:=by
 have e:bB ⟨[49],[49]⟩=([49],[49]):=by unfold bB;rw[if_neg zD]
 rw[e,val_one]
theorem age:Fc Tryz.prog 198 [.str [49],.str [49]] (.bf [.agg (cG (cI 1 1)),.i 0]):=by
 refine Fc.iI func198 rfl ntmps198 rfl rfl rfl ?_;refine go [99999] ?_;refine oP (ai call252 rfl (KX _)) ?_;refine aR zD ?_;refine oP (ai call259 rfl (LD ⟨[49],[49]⟩ ⟨by decide,by decide⟩)) ?_;refine J.ret (?_);exact Rd.Cq results198 isAgg35 sizeOf35 rfl rfl rfl rfl (Sub.agg (.cons (Sub.str (by rw[Sh])) (.cons (Sub.str (by rw[Sh])) .nil))) (Sub.refl _)
theorem aih:Fc Tryz.prog 144 [.i 1,.i 1] (.agg (cG (cI 1 1))):=by
 refine Fc.iI func144 rfl ntmps144 rfl rfl rfl ?_;refine go [99999] ?_;refine oP (ai call199 rfl Jn) ?_;refine oP (ai call199 rfl Jn) ?_;refine oP (ai call198 rfl age) ?_;refine J.ret (?_);exact Rd.cA results144 isAgg35 sizeOf35 rfl rfl rfl (Sub.agg (.r (.r .nil)))
end Go.T
namespace Go.T
open Go
def zx(k:Int):Bool:=decide (k=7)||decide (k=16)
def qw(k:Int):List Int:=
 if k=1 then[2,5]else if k=2 then[2,5]else if k=6 then[2,5]else if k=17 then[2,5]else if k=18 then[2,5]
 else if k=3 then[0,4,5,6]else if k=4 then[0,4,5,6,10]else if k=5 then[0,7]else if k=13 then[0,7]else if k=14 then[0,7]else if k=15 then[0,7]
 else if k=7 then[1,2,4,5]else if k=8 then[0,7,8]else if k=9 then[0,1,7,8,9]else if k=10 then[0,11]else if k=11 then[0,3,12]
 else if k=12 then[0,1,4,7,8]else if k=16 then[1,2,8]else[]
def kK(k n:Int):Bool:=(qw k).any fun m=>decide (m=n)
def w8(k:Int):aa:=match dC k with
 |some r=>r.w
 |none=>[]
def yT(k n:Int):Bool:=!(decide (n=6)||(decide (n=5)&&(decide (k=3)||decide (k=4))))
def Qm(k n:Int):Bool×Bool:=if n=7 then(decide (k=5)||decide (k=13),false)else if n=8 then(true,false)else if n=9 then(false,true)else(yT k n,false)
theorem ajT:(we.all fun k=>gf.all fun n=>match dC k with|some r=>(iV r n.toNat==kK k n)&&(r.code==zx k)&&decide (r.w≠[])|none=>false)=true:=by decide
theorem ajU:(we.all fun k=>[4,5,6,7,8,9].all fun n=>match dC k with|some r=>!iV r n.toNat||decide (mr r n=Qm k n)|none=>false)=true:=by decide
theorem ajS:(we.all fun k=>!kK k 11||kK k 0)=true:=by decide
theorem EM{k:Int}{r:ir}(h:dC k=some r){n:Int}(hn:n∈gf):iV r n.toNat=kK k n∧r.code=zx k∧r.w≠[]:=by
 have h1:=List.all_eq_true.1 (List.all_eq_true.1 ajT k (D6.2 (BL h))) n hn;rw[h]at h1;simpa[and_assoc]using h1
theorem aiI{k:Int}{r:ir}(h:dC k=some r){n:Int}(hn:n∈[(4:Int),5,6,7,8,9])(hh:iV r n.toNat=true):mr r n=Qm k n:=by
 have h1:=List.all_eq_true.1 (List.all_eq_true.1 ajU k (D6.2 (BL h))) n hn;rw[h]at h1;simpa[hh]using h1
theorem al1(k:Int):decide (w8 k=[])=!(dC k).isSome:=by
 unfold w8;cases h:dC k with
 |none=>rfl
 |some r=>simpa using (EM h (n:=0) zD).2.2
def Eo(o:cR):Bool:=(decide (o.other≠[])&&decide (lU o.ratio dH=0))||(decide (o.other=[])&&(!decide (lU o.ratio dH=0)||decide (lU o.value dH≠0)))
def yO(i:aa)(o:cR)(d:Int):Int:=if(decide (o.other≠[])&&!isName o.other)=true then 23 else if(decide (o.other≠[])&&decide (o.other=i))=true then 18 else kU [o.ratio,o.du,o.value] (if Eo o=true then 2 else d)
def pa(i:aa):List cR→Int
 |[]=>0
 |o::r=>yO i o (pa i r)
def pW(f:Fact):Int:=if decide ((f.opts.length:Int)=0)=true then 11 else if decide (8<(f.opts.length:Int))=true then 4 else pa f.eY f.opts
theorem Qo:∀(l:List aP){d d':Int},((∀x∈l,eF false false x=0)→d=d')→kU l d=kU l d'
 |[],d,d',h=>h zS
 |x::r,d,d',h=>by
  simp only[kU];by_cases k:decide (eF false false x≠0)=true
  ·rw[if_pos k,if_pos k]
  ·rw[if_neg k,if_neg k];refine Qo r fun hr=>h fun y hy=>?_;rcases List.mem_cons.1 hy with rfl|hy
   ·simpa using k
   ·exact hr y hy
theorem aij(f:aP):lU f dH=0↔val f.num=0:=by
 have h2:fL dH=([],[49]):=BF zD;have h3:=y1 f;unfold lU;rw[h2,sF,f_,f_,val_one,uQ,y_];have e:val (bB f).1=val f.num:=by rw[yR]
 by_cases k:val (bB f).2<0
 ·rw[(h3.1 k).1,e];simp
 ·rw[(h3.2 k).1,e];simp
theorem LF{f:aP}(h:jM f=0):lU f dH=0↔f=dH:=by
 rw[aij];constructor
 ·intro hv;have hf:f=cI (val (bB f).1) (val (bB f).2):=by
   unfold jM at h;by_cases k:f=cI (val (bB f).1) (val (bB f).2)
   ·exact k
   ·rw[if_neg k]at h;cases h
  rw[hf,←IW];have:val (fL f).1=0:=by
   have h3:=y1 f;by_cases k:val (bB f).2<0
   ·rw[(h3.1 k).1,yR,hv];rfl
   ·rw[(h3.2 k).1,yR,hv]
  rw[this,QH (EG f)];rfl
 ·rintro rfl;exact uQ
theorem Qn{pos part:Bool}{f:aP}(h:eF pos part f=0):jM f=0:=by
 unfold eF sj at h;by_cases k:decide (jM f≠0)=true
 ·rw[if_pos k]at h;cases h
 ·simpa using k
theorem GY(f:aP):decide ([f.num,f.den]=[[],[]])=decide (f=dH):=by
 rw[decide_eq_decide];cases f;simp[dH]
theorem agQ{i:aa}(hi:i≠[])(o:cR){d d':Int}(hd:d=d'):yO i o d=wF i o d':=by
 subst hd;unfold yO wF;by_cases h1:(decide (o.other≠[])&&!isName o.other)=true
 ·rw[if_pos h1,if_pos h1]
 ·rw[if_neg h1,if_neg h1];have e:(decide (o.other≠[])&&decide (o.other=i))=decide (o.other=i):=by
   by_cases k:o.other=i
   ·simp[k,hi]
   ·simp[k]
  rw[e];by_cases h2:decide (o.other=i)=true
  ·rw[if_pos h2,if_pos h2]
  ·rw[if_neg h2,if_neg h2];refine Qo _ fun hl=>?_;have e1:decide (lU o.ratio dH=0)=decide (o.ratio=dH):=decide_eq_decide.2 (LF (Qn (hl o.ratio zS)));have hc:=LF (Qn (hl o.value zS));have e2:decide (lU o.value dH≠0)=!decide (o.value=dH):=by
    rw[decide_not];congr 1;exact decide_eq_decide.2 hc
   have:Eo o=yN o:=by
    unfold Eo yN;rw[GY,GY,e1,e2];by_cases k:o.other=[]
    ·simp[k]
    ·simp[k]
   rw[this]
theorem R0{i:aa}(hi:i≠[]):∀l:List cR,pa i l=mA i l
 |[]=>rfl
 |o::r=>agQ hi o (R0 hi r)
theorem ag0{f:Fact}(hi:f.eY≠[]):pW f=nn f:=by
 unfold pW nn;rw[R0 hi]
def s4(f:aP):Int:=if decide (eF false false f≠0)=true then eF false false f else if decide (0<lU f (cI 1 1))=true then 2 else 0
theorem ajg(f:aP):s4 f=eF false true f:=by
 have e:cI 1 1=cI (val [49]) (val [49]):=by rw[val_one]
 unfold s4;rw[J5,e];unfold eF sj DZ;by_cases h:decide (jM f≠0)=true
 ·rw[if_pos h,if_pos h];rfl
 ·rw[if_neg h,if_neg h];generalize (decide (40<((jG f.num [45]).length:Int))||decide (40<((jG f.den [45]).length:Int)))=aG;generalize decide (ql f dH<0)=lo;generalize decide (0<ql f (cI (val [49]) (val [49])))=hi;cases aG<;>cases lo<;>cases hi<;>simp
def qv(f:Fact)(n:Int):Int:=
 if decide (n=0)=true then iq f.eY else if decide (n=1)=true then kl f (zx f.kind)else if decide (n=2)=true then(if(!gA f.cur)=true then 12 else 0)
 else if decide (n=3)=true then iq f.target else if decide (n=4)=true then eF true false ⟨f.c_,[]⟩else if decide (n=5)=true then eF (yT f.kind 5) false ⟨f.mH,[]⟩
 else if decide (n=6)=true then eF false false ⟨f.mP,[]⟩else if decide (n=7)=true then eF (decide (f.kind=5)||decide (f.kind=13)) false f.du
 else if decide (n=8)=true then eF true false f.ratio else if decide (n=9)=true then s4 f.share else if decide (n=10)=true then rj f else if decide (n=11)=true then pW f
 else if decide (n=12)=true then(if decide (f.choice<0)=true then 2 else 0)else 0
theorem aaO{f:Fact}{r:ir}(h:dC f.kind=some r){n:Int}(hn:n∈gf)(hh:kK f.kind n=true)(hi:n=11→f.eY≠[]):qv f n=dw f r.code n (mr r n):=by
 have h1:=EM h hn;rw[hh]at h1;have h2:=fun k=>aiI h (n:=n) k h1.1;simp only[gf,List.mem_cons,List.not_mem_nil,or_false]at hn;rw[h1.2.1];rcases hn with rfl|rfl|rfl|rfl|rfl|rfl|rfl|rfl|rfl|rfl|rfl|rfl|rfl
 ·rfl
 ·rfl
 ·rfl
 ·rfl
 ·rw[h2 zD];rfl
 ·rw[h2 zD];rfl
 ·rw[h2 zD];rfl
 ·rw[h2 zD];rfl
 ·rw[h2 zD];rfl
 ·rw[h2 zD];exact ajg f.share
 ·rfl
 ·exact ag0 (hi rfl)
 ·rfl
def kG(f:Fact):List Int→Int
 |[]=>0
 |n::l=>if kK f.kind n=true then(if decide (qv f n≠0)=true then qv f n else kG f l)else if(!cS f n)=true then 1 else kG f l
theorem GL{f:Fact}{r:ir}(h:dC f.kind=some r):∀(l:List Int),(∀n∈l,n∈gf)→(kK f.kind 11=true→f.eY≠[])→kG f l=jr f r l
 |[],_,_=>rfl
 |n::l,hl,hi=>by
  have h1:=EM h (hl n zS);have ih:=GL h l (fun m hm=>hl m (by simp[hm])) hi;simp only[kG,jr];rw[h1.1,ih];by_cases k:kK f.kind n=true
  ·rw[if_pos k,if_pos k,aaO h (hl n zS) k (fun e=>hi (by rw[←e];exact k))]
  ·rw[if_neg k,if_neg k]
def jo(f:Fact):Int:=
 if(!isName f.key)=true then 23 else if decide (f.ib<0)=true then 2
 else if f.cancelled=true then(if gf.any (fun n=>!cS f n)=true then 1 else if(decide (f.day≠0)||decide (f.kind≠0))=true then 1 else 0)
 else if(decide (f.day< -25567)||decide (84005<f.day))=true then 13 else if decide (w8 f.kind=[])=true then 7 else kG f gf
theorem abd(f:aP):[f.num,f.den]=[[],[]]↔f=dH:=decide_eq_decide.1 (GY f)
theorem Us{f:Fact}(h:f.cancelled=true):(!wX f (uR f))=(gf.any (fun n=>!cS f n)||(decide (f.day≠0)||decide (f.kind≠0))):=by
 have e1:jq f.fe []=true↔(f.fe.length:Int)=0:=by cases f.fe<;>simp[jq]<;>omega
 have e2:jq f.opts []=true↔(f.opts.length:Int)=0:=by cases f.opts<;>simp[jq]<;>omega
 have f0:cS f 0=true↔f.eY=[]:=decide_eq_true_iff;have f1:cS f 1=true↔f.other=[]:=decide_eq_true_iff;have f2:cS f 2=true↔f.cur=[]:=decide_eq_true_iff;have f3:cS f 3=true↔f.target=[]:=decide_eq_true_iff;have f4:cS f 4=true↔f.c_=[]:=by rw[show cS f 4=decide (iM f 4=dH)from rfl,decide_eq_true_eq];simp[iM,dH]
 have f5:cS f 5=true↔f.mH=[]:=by rw[show cS f 5=decide (iM f 5=dH)from rfl,decide_eq_true_eq];simp[iM,dH]
 have f6:cS f 6=true↔f.mP=[]:=by rw[show cS f 6=decide (iM f 6=dH)from rfl,decide_eq_true_eq];simp[iM,dH]
 have f7:cS f 7=true↔f.du=dH:=by rw[show cS f 7=decide (iM f 7=dH)from rfl,decide_eq_true_eq];simp[iM]
 have f8:cS f 8=true↔f.ratio=dH:=by rw[show cS f 8=decide (iM f 8=dH)from rfl,decide_eq_true_eq];simp[iM]
 have f9:cS f 9=true↔f.share=dH:=by rw[show cS f 9=decide (iM f 9=dH)from rfl,decide_eq_true_eq];simp[iM]
 have f10:cS f 10=true↔(f.fe.length:Int)=0:=decide_eq_true_iff;have f11:cS f 11=true↔(f.opts.length:Int)=0:=decide_eq_true_iff;have f12:cS f 12=true↔f.choice=0:=decide_eq_true_iff;have key:wX f (uR f)=true↔¬(gf.any (fun n=>!cS f n)||(decide (f.day≠0)||decide (f.kind≠0)))=true:=by
  simp only[wX,uR,gf,List.any_cons,List.any_nil,Bool.or_false,Bool.and_eq_true,Bool.or_eq_true,decide_eq_true_eq,Bool.not_eq_true',abd,h,beq_self_eq_true,true_and,not_or,Bool.not_eq_false,f0,f1,f2,f3,f4,f5,f6,f7,f8,f9,f10,f11,f12,e1,e2,ne_eq,Classical.not_not];constructor
  ·rintro⟨⟨⟨⟨⟨⟨⟨⟨⟨⟨⟨⟨⟨⟨a1,a2⟩,a3⟩,a4⟩,a5⟩,a6⟩,a7⟩,a8⟩,a9⟩,b1⟩,b2⟩,b3⟩,b4⟩,b5⟩,b6⟩;exact⟨⟨of_decide_eq_true a3,of_decide_eq_true a4,of_decide_eq_true a5,of_decide_eq_true a6,of_decide_eq_true a7,of_decide_eq_true a8,of_decide_eq_true a9,b1,b2,b3,b4,b5,of_decide_eq_true b6⟩,of_decide_eq_true a1,of_decide_eq_true a2⟩
  ·rintro⟨⟨a1,a2,a3,a4,a5,a6,a7,a8,a9,b1,b2,b3,b4⟩,b5,b6⟩;simp[*]
 cases k:wX f (uR f)with
 |true=>
  have:=key.1 k;simp only[Bool.not_true];exact(Bool.eq_false_iff.2 this).symm
 |false=>
  simp only[Bool.not_false];cases k2:(gf.any (fun n=>!cS f n)||(decide (f.day≠0)||decide (f.kind≠0)))with
  |true=>rfl
  |false=>
   have:=key.2 (by rw[k2];simp);rw[k]at this;cases this
theorem Wx(f:Fact):jo f=eP f:=by
 unfold jo eP;by_cases h1:(!isName f.key)=true
 ·rw[if_pos h1,if_pos h1]
 rw[if_neg h1,if_neg h1];by_cases h2:decide (f.ib<0)=true
 ·rw[if_pos h2,if_pos h2]
 rw[if_neg h2,if_neg h2];by_cases h3:f.cancelled=true
 ·rw[if_pos h3,if_pos h3,Us h3];by_cases k:(gf.any fun n=>!cS f n)=true
  ·rw[if_pos k,if_pos (by rw[k];rfl)]
  ·rw[if_neg k];by_cases k2:(decide (f.day≠0)||decide (f.kind≠0))=true
   ·rw[if_pos k2,if_pos (by rw[k2,Bool.or_true])]
   ·rw[if_neg k2,if_neg (by rw[Bool.or_eq_true];exact fun e=>e.elim k k2)]
 rw[if_neg h3,if_neg h3];by_cases h4:(decide (f.day< -25567)||decide (84005<f.day))=true
 ·rw[if_pos h4,if_pos h4]
 rw[if_neg h4,if_neg h4,al1];unfold ua;cases h:dC f.kind with
 |none=>rfl
 |some r=>
  simp only[Option.isSome_some,Bool.not_true,Bool.false_eq_true,if_false];by_cases hz:kK f.kind 0=true
  ·by_cases hn:iq f.eY=0
   ·refine GL h gf (fun _ h=>h) fun _ e=>?_;rw[e]at hn;revert hn;decide
   ·have e:qv f 0=iq f.eY:=rfl;have e':dw f r.code 0 (mr r 0)=iq f.eY:=rfl;have h1:=(EM h (n:=0) zD).1;show(if kK f.kind 0=true then(if decide (qv f 0≠0)=true then qv f 0 else _)else _)=(if iV r (0:Int).toNat=true then(if decide (dw f r.code 0 (mr r 0)≠0)=true then dw f r.code 0 (mr r 0)else _)else _);rw[h1,if_pos hz,if_pos hz,e,e',if_pos (decide_eq_true hn),if_pos (decide_eq_true hn)]
  ·refine GL h gf (fun _ h=>h) fun k=>?_;have:=List.all_eq_true.1 ajS f.kind (D6.2 (BL h));rw[k]at this;exact absurd (by simpa using this) hz
end Go.T
