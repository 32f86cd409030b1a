/- Contracts of functions that the statement reaches, and the logic in which they are proved (no condition). -/
import Derived.Test.YtapflgppmigcdaaGreatDoorA21
import Derived.Lib.SplitLaws
set_option linter.all false
set_option maxRecDepth 20000
namespace Go.T
open Go
def p8(y:Nat):Bool:=decide (y%4=0)&&(decide (y%100≠0)||decide (y%400=0))
def D2:List Nat:=[31,28,31,30,31,30,31,31,30,31,30,31]
def lV(y m:Nat):Nat:=if(decide ((m:Int)=2)&&p8 y)=true then 29 else D2.getD (m-1) 0
def pM(y:Nat):Int:=365*((y:Int)-1900)+(((y:Int)-1)/4-((y:Int)-1)/100+((y:Int)-1)/400)-460
def q9(y:Nat):Nat->Nat
 |0=>0
 |m+1=>q9 y m+lV y (m+1)
def CH(y m d:Nat):Bool:=decide ((y:Int)<1900)||decide (2199<(y:Int))||decide ((m:Int)<1)||decide (12<(m:Int))||decide ((d:Int)<1)||decide ((lV y m:Int)<(d:Int))
def qz(y m d:Nat):Int×Int:=if CH y m d=true then(0,13)else(-25567+(pM y+(d:Int)-1+(q9 y (m-1):Int)),0)
def Ce(a k:Nat):(a:Int).tmod (k:Int)=((a%k:Nat):Int):=(Int.ofNat_tmod a k).symm
def alD(y:Nat):((decide (((y%4:Nat):Int)=0)&&decide (((y%100:Nat):Int)≠0))||decide (((y%400:Nat):Int)=0))=p8 y:=by
 unfold p8;rw[mE];simp only[fZ,bd,cd];omega
def alE(y:Nat):(decide (((y%4:Nat):Int)=0)&&(decide (((y%100:Nat):Int)≠0)||decide (((y%400:Nat):Int)=0)))=p8 y:=by
 unfold p8;rw[mE];simp only[fZ,bd,cd];omega
def alQ{k:Nat}(h:k<12):([D.i 31,D.i 28,D.i 31,D.i 30,D.i 31,D.i 30,D.i 31,D.i 31,D.i 30,D.i 31,D.i 30,D.i 31]:List D)[k]?=some (D.i ((D2.getD k 0:Nat):Int)):=by
 have:k=0\/k=1\/k=2\/k=3\/k=4\/k=5\/k=6\/k=7\/k=8\/k=9\/k=10\/k=11:=by omega
 rcases this with rfl|rfl|rfl|rfl|rfl|rfl|rfl|rfl|rfl|rfl|rfl|rfl<;>rfl
def alR(k:Nat):D2.getD k 0<=31:=by
 rcases eQ k 12 with h|h
 ·have:k=0\/k=1\/k=2\/k=3\/k=4\/k=5\/k=6\/k=7\/k=8\/k=9\/k=10\/k=11:=by omega
  rcases this with rfl|rfl|rfl|rfl|rfl|rfl|rfl|rfl|rfl|rfl|rfl|rfl<;>decide
 ·rw[fV,p9 (by simpa[D2]using h)];simp
def HY(y m:Nat):lV y m<=31:=by
 unfold lV;split
 ·omega
 ·exact alR _
theorem Ov(y:Nat):∀m,q9 y m<=31*m
 |0=>by simp[q9]
 |m+1=>by have h1:=Ov y m;have h2:=HY y (m+1);simp only[q9];omega
def alT{y m:Nat}(h:(decide ((m:Int)=2)&&p8 y)=true):(29:Int)=(lV y m:Int):=by unfold lV;rw[aV h];rfl
def alU{y m:Nat}(h:(decide ((m:Int)=2)&&p8 y)=false):((D2.getD (m-1) 0:Nat):Int)=(lV y m:Int):=by unfold lV;rw[aF (by rw[h];simp)]
def Xi(m:Nat):Bool:=decide ((m:Int)=4)||decide ((m:Int)=6)||decide ((m:Int)=9)||decide ((m:Int)=11)
def alM{y m:Nat}(h:m=2)(h2:p8 y=false):(28:Int)=(lV y m:Int):=by unfold lV;rw[h,h2];rfl
def alN{y m:Nat}(h:m=2)(h2:p8 y=true):(29:Int)=(lV y m:Int):=by unfold lV;rw[h,h2];rfl
def alP{y m:Nat}(h:m≠2)(h1:1<=m)(cW:m<=12)(hm:Xi m=true):(30:Int)=(lV y m:Int):=by
 unfold lV;have:m=1\/m=3\/m=4\/m=5\/m=6\/m=7\/m=8\/m=9\/m=10\/m=11\/m=12:=by omega
 rcases this with rfl|rfl|rfl|rfl|rfl|rfl|rfl|rfl|rfl|rfl|rfl<;>first|rfl|(exfalso;revert hm;decide)
def alO{y m:Nat}(h:m≠2)(h1:1<=m)(cW:m<=12)(hm:Xi m=false):(31:Int)=(lV y m:Int):=by
 unfold lV;have:m=1\/m=3\/m=4\/m=5\/m=6\/m=7\/m=8\/m=9\/m=10\/m=11\/m=12:=by omega
 rcases this with rfl|rfl|rfl|rfl|rfl|rfl|rfl|rfl|rfl|rfl|rfl<;>first|rfl|(exfalso;revert hm;decide)
def apK{a:Int}(h:0<=a)(h2:a<=1000000):IntKind.i64.wrap (a.tdiv 4)=a/4:=by
 rw[o_ h];have h3:0<=a/4/\a/4<=1000000:=by omega
 generalize a/4=q at h3;exact cT zO zO
def apJ{a:Int}(h:0<=a)(h2:a<=1000000):IntKind.i64.wrap (a.tdiv 100)=a/100:=by
 rw[o_ h];have h3:0<=a/100/\a/100<=1000000:=by omega
 generalize a/100=q at h3;exact cT zO zO
def apL{a:Int}(h:0<=a)(h2:a<=1000000):IntKind.i64.wrap (a.tdiv 400)=a/400:=by
 rw[o_ h];have h3:0<=a/400/\a/400<=1000000:=by omega
 generalize a/400=q at h3;exact cT zO zO
def Q9{y m d:Nat}(h:CH y m d=false):1900<=y/\y<=2199/\1<=m/\m<=12/\1<=d/\d<=31:=by
 have h9:=HY y m;unfold CH at h;rw[cq,cq,cq,cq,cq]at h;obtain⟨⟨⟨⟨⟨a1,a2⟩,a3⟩,a4⟩,a5⟩,a6⟩:=h;have a1:=fj a1;have a2:=fj a2;have a3:=fj a3;have a4:=fj a4;have a5:=fj a5;have a6:=fj a6;generalize lV y m=q at h9 a6;refine⟨?_,?_,?_,?_,?_,?_⟩<;>omega
def Gf{y m d:Nat}(h:CH y m d=true):qz y m d=(0,13):=by unfold qz;rw[aV h]
def Ge{y m d:Nat}(h:CH y m d=false):qz y m d=(-25567+(pM y+(d:Int)-1+(q9 y (m-1):Int)),0):=by unfold qz;rw[aF (by rw[h];simp)]
def acL{j:Nat}(h:1900<=j):pM (j+1)=pM j+365+(if p8 j=true then 1 else 0):=by
 unfold pM p8;by_cases h4:j%4=0
 ·by_cases Uy:j%100=0
  ·by_cases UA:j%400=0
   ·rw[aV (by simp[h4,UA])];omega
   ·rw[aF (by simp[Uy,UA])];omega
  ·rw[aV (by simp[h4,Uy])];omega
 ·rw[aF (by simp[h4])];omega
def acK:pM 1900=0:=by decide
def Kj{y:Nat}(h:1900<=y)(h2:y<=2199):0<=pM y/\pM y<=200000:=by unfold pM;omega
open Go.Proofs Go.Proofs.Tryz
def alC(y:Nat):Fc prog 266 [.i y] (.b (p8 y)):=by
 refine ay func266 ntmps266 results266 ?_;exact go []<|oP (lX rfl rfl zD (show(y:Int).tmod 4=((y%4:Nat):Int)from Ce y 4))<|gP (fun hg=>lX rfl rfl zD (show(y:Int).tmod 100=((y%100:Nat):Int)from Ce y 100))<|gP (fun hg=>lX rfl rfl zD (show(y:Int).tmod 400=((y%400:Nat):Int)from Ce y 400))<|af rfl (Sub.bool (by exact alD y))
def WS(y:Nat):Fc prog 215 [.i y] (.b (p8 y)):=by
 refine ay func215 ntmps215 results215 ?_;exact go []<|oP (lX rfl rfl zD (show(y:Int).tmod 4=((y%4:Nat):Int)from Ce y 4))<|gP (fun hg=>lX rfl rfl zD (show(y:Int).tmod 100=((y%100:Nat):Int)from Ce y 100))<|gP (fun hg=>lX rfl rfl zD (show(y:Int).tmod 400=((y%400:Nat):Int)from Ce y 400))<|af rfl (Sub.bool (by exact alE y))
def WU(y m:Nat)(h1:1<=m)(cW:m<=12):Fc prog 212 [.i y,.i m] (.i (lV y m)):=by
 refine ay func212 ntmps212 results212 ?_;refine go [4]<|gP (fun hg=>ah call266 rfl (alC _))<|br (fun h1=>?_) (fun h1=>?_)
 ·exact af rfl (Sub.int (by exact alT zA))
 ·exact rg<|.mv rfl rfl<|.P rfl (dx rfl rfl (ao zO))<|.P rfl (sl (o2:=m-1) underlying273 sizeOf3 rfl rfl zO zO zO)<|.R rfl (iY isAgg3 rfl rfl (alQ zO))<|.ag rfl rfl<|.nil<|go [4]<|af rfl (Sub.int (by exact alU zA))
def WV(y m:Nat)(Uz:1<=m)(cW:m<=12):Fc prog 214 [.i y,.i m] (.i (lV y m)):=by
 refine ay func214 ntmps214 results214 ?_;refine go []<|br (fun h1=>?_) (fun h1=>?_)
 ·refine oP (ah call215 rfl (WS _))<|br (fun h2=>?_) (fun h2=>?_)
  ·exact af rfl (Sub.int (by exact alN (by have h9:=aG h1;omega) h2))
  ·exact af rfl (Sub.int (by exact alM (by have h9:=aG h1;omega) h2))
 ·refine br (fun h3=>?_) (fun h3=>?_)
  ·exact af rfl (Sub.int (by exact alP (by have h9:=fj h1;omega) Uz cW h3))
  ·exact af rfl (Sub.int (by exact alO (by have h9:=fj h1;omega) Uz cW h3))
def acJ(y:Nat)(h0:1900<=y)(h1:y<=2199):Fc prog 213 [.i y] (.i (pM y)):=by
 refine ay func213 ntmps213 results213 ?_;exact go []<|sd (ao zO)<|sd (ao zO)<|oP (lu rfl rfl zD (apK zO zO))<|sd (ao zO)<|oP (lu rfl rfl zD (apJ zO zO))<|sd (ao zO)<|sd (ao zO)<|oP (lu rfl rfl zD (apL zO zO))<|sd (ao zO)<|sd (ao zO)<|sd (ao zO)<|sd (ao zO)<|af rfl (Sub.refl _)
structure aeU(y m d:Nat)where
 k:Nat
 hk:k+1<=m
def aeT(y m d:Nat):Fc prog 165 [.i y,.i m,.i d] (.a_ [.i (qz y m d).1,.i (qz y m d).2]):=by
 refine gq func165 ntmps165 results165 ?_;refine go []<|gP (fun hg=>ah call212 rfl (WU y m (by have h9:=hg;simp[jw]at h9;omega) (by have h9:=hg;simp[jw]at h9;omega)))<|br (fun h1=>?_) (fun h1=>?_)
 ·exact cw rfl rfl (Sub.int (by rw[Gf h1])) (Sub.int (by rw[Gf h1]))
 ·obtain⟨b1,b2,b3,b4,b5,b6⟩:=Q9 h1;have nK:=Kj b1 b2;refine oP (ah call213 rfl (acJ y b1 b2))<|sd (ao zO)<|sd (ao zO)<|U.loop (ι:=aeU y m d) (fun sx=>[(0,.i y),(1,.i m),(8,.i (pM y+(d:Int)-1+(q9 y sx.k:Int))),(9,.i ((sx.k+1:Nat):Int))]) (fun sx=>[]) (fun sx=>m-sx.k) ⟨0,b3⟩ ?_ ?_
  ·exact Le.mk rfl (.n 2 rfl rfl (.cons rfl (Sub.int (by simp[q9])) rfl (.s rfl rfl .nil))) .nil
  ·rintro⟨k,hk⟩;dsimp only;have pm:=Ov y k;rcases eQ (k+1) m with yE|yE
   ·have hlk:=HY y (k+1);exact go []<|aM zQ<|oP (ah call212 rfl (WU y (k+1) zO zO))<|sd (ao zO)<|sd (ao zO)<|nx ⟨k+1,by omega⟩ (by show m-(k+1)<m-k;omega) (Le.mk rfl (.n 2 rfl rfl (.cons rfl (Sub.int (by simp[q9];omega)) rfl (.s rfl rfl .nil))) .nil)
   ·obtain rfl:m=k+1:=by omega
    exact go []<|aH zS<|go []<|sd (ao zO)<|cw rfl rfl (Sub.int (by(rw[Ge h1];(simp;done)))) (Sub.int (by rw[Ge h1]))
structure aeW(y m d:Nat)where
 j:Nat
 MZ:1900<=j
 hj:j<=y
structure aeX(y m d:Nat)where
 k:Nat
 hk:k+1<=m
def aeV(y m d:Nat):Fc prog 168 [.i y,.i m,.i d] (.a_ [.i (qz y m d).1,.i (qz y m d).2]):=by
 refine gq func168 ntmps168 results168 ?_;refine go []<|gP (fun hg=>ah call214 rfl (WV y m (by have h9:=hg;simp[jw]at h9;omega) (by have h9:=hg;simp[jw]at h9;omega)))<|br (fun h1=>?_) (fun h1=>?_)
 ·exact cw rfl rfl (Sub.int (by rw[Gf h1])) (Sub.int (by rw[Gf h1]))
 ·obtain⟨b1,b2,b3,b4,b5,b6⟩:=Q9 h1;have nK:=Kj b1 b2;refine sd (ao zO)<|sd (ao zO)<|U.loop (ι:=aeW y m d) (fun sx=>[(0,.i y),(1,.i m),(8,.i (-25567+(d:Int)-1+pM sx.j)),(9,.i sx.j)]) (fun sx=>[]) (fun sx=>y-sx.j) ⟨1900,by omega,b1⟩ ?_ ?_
  ·exact Le.mk rfl (.n 2 rfl rfl (.cons rfl (Sub.int (by rw[acK];omega)) rfl (.s rfl rfl .nil))) .nil
  ·rintro⟨j,MZ,hj⟩;dsimp only;have hbj:=Kj MZ zO;rcases eQ j y with hjy|hjy
   ·have UQ:=acL MZ;refine go []<|aM zQ<|sd (ao zO)<|oP (ah call215 rfl (WS j))<|br (fun h2=>?_) (fun h2=>?_)
    ·exact sd (ao zO)<|sd (ao zO)<|nx ⟨j+1,by omega,by omega⟩ (by show y-(j+1)<y-j;omega) (Le.mk rfl (.n 2 rfl rfl (.cons rfl (Sub.int (by(rw[UQ,aV zA];omega))) rfl (.s rfl rfl .nil))) .nil)
    ·exact sd (ao zO)<|nx ⟨j+1,by omega,by omega⟩ (by show y-(j+1)<y-j;omega) (Le.mk rfl (.n 2 rfl rfl (.cons rfl (Sub.int (by(rw[UQ,aF (by simpa using zA)];omega))) rfl (.s rfl rfl .nil))) .nil)
   ·obtain rfl:y=j:=by omega
    refine go []<|aH zS<|go []<|U.loop (ι:=aeX y m d) (fun sx=>[(0,.i y),(1,.i m),(8,.i (-25567+(d:Int)-1+pM y+(q9 y sx.k:Int))),(10,.i ((sx.k+1:Nat):Int))]) (fun sx=>[]) (fun sx=>m-sx.k) ⟨0,b3⟩ ?_ ?_
    ·exact Le.mk rfl (.n 2 rfl rfl (.cons rfl (Sub.int (by simp[q9])) rfl (.s rfl rfl .nil))) .nil
    ·rintro⟨k,hk⟩;dsimp only;have pm:=Ov y k;rcases eQ (k+1) m with yE|yE
     ·have hlk:=HY y (k+1);exact go []<|aM zQ<|oP (ah call214 rfl (WV y (k+1) zO zO))<|sd (ao zO)<|sd (ao zO)<|nx ⟨k+1,by omega⟩ (by show m-(k+1)<m-k;omega) (Le.mk rfl (.n 2 rfl rfl (.cons rfl (Sub.int (by simp[q9];omega)) rfl (.s rfl rfl .nil))) .nil)
     ·obtain rfl:m=k+1:=by omega
      exact go []<|aH zS<|go []<|cw rfl rfl (Sub.int (by(rw[Ge h1];(simp;omega)))) (Sub.int (by rw[Ge h1]))
end Go.T
namespace Go.T
open Go
def jm(c:UInt8):Nat:=(c.toNat+208)%256
@[reducible] def gu(c:UInt8):Bool:=decide ((c.toNat:Int)<48)||decide (57<(c.toNat:Int))
def l5(w:aa):Nat:=w.foldl (fun n c=>10*n+jm c) 0
def atr(w:aa)(c:UInt8):l5 (w++[c])=10*l5 w+jm c:=by unfold l5;rw[rH];rfl
def Sh(c:UInt8):jm c<=255:=by unfold jm;omega
def atq:∀(w:aa),w.length<=4->l5 w<=400000:=fun w h=>by
 have key:∀(w:aa)(a:Nat),w.foldl (fun n c=>10*n+jm c) a+30<=(a+30)*10^w.length:=fun w=>by
  induction w with
  |nil=>intro a;simp
  |cons c w ih=>
   intro a;have h1:=ih (10*a+jm c);have h2:=Sh c;rw[oe,bD,lN];have h3:(10*a+jm c+30)*10^w.length<=(a+30)*10*10^w.length:=dd _ zO;rw[fO (10^w.length) 10,<-iv];omega
 have h1:=key w 0;have h2:10^w.length<=10^4:=eE zO h;unfold l5;omega
def iM(s:aa):Int×Int:=
 if((decide ((s.length:Int)≠10)||decide (((s.getD 4 0).toNat:Int)≠45))||decide (((s.getD 7 0).toNat:Int)≠45))=true then(0,3)
 else if(((s.take 4).any gu||((s.drop 5).take 2).any gu)||((s.drop 8).take 2).any gu)=true then(0,3)
 else qz (l5 (s.take 4)) (l5 ((s.drop 5).take 2)) (l5 ((s.drop 8).take 2))
def Pc{s:aa}(h:((decide ((s.length:Int)≠10)||decide (((s.getD 4 0).toNat:Int)≠45))||decide (((s.getD 7 0).toNat:Int)≠45))=true):iM s=(0,3):=by unfold iM;rw[aV h]
def Pb{s:aa}(h:decide ((s.length:Int)≠10)=true):iM s=(0,3):=Pc (by rw[h];rfl)
def Y9{s:aa}(h:((decide ((s.length:Int)≠10)||decide (((s.getD 4 0).toNat:Int)≠45))||decide (((s.getD 7 0).toNat:Int)≠45))=false)(h2:(((s.take 4).any gu||((s.drop 5).take 2).any gu)||((s.drop 8).take 2).any gu)=true):iM s=(0,3):=by
 unfold iM;rw[aF (by rw[h];simp),aV h2]
def Y_{s:aa}(h:((decide ((s.length:Int)≠10)||decide (((s.getD 4 0).toNat:Int)≠45))||decide (((s.getD 7 0).toNat:Int)≠45))=false)(h2:(((s.take 4).any gu||((s.drop 5).take 2).any gu)||((s.drop 8).take 2).any gu)=false):iM s=qz (l5 (s.take 4)) (l5 ((s.drop 5).take 2)) (l5 ((s.drop 8).take 2)):=by
 unfold iM;rw[aF (by rw[h];simp),aF (by rw[h2];simp)]
def Uf{s:aa}{k:Nat}{i:Int}(h:s.length=10)(hk:k<10)(hi:i=(k:Int)):s[i.toNat]?=some (s.getD k 0):=by
 subst hi;simp[fV,show k<s.length by omega]
def sw(i:Nat):Bool:=decide ((i:Int)=4)||decide ((i:Int)=7)
def kI(i:Nat):Nat:=if i<=4 then 0 else if i<=7 then 1 else 2
def oN(k p0 p1 p2:Nat):Nat:=if k=0 then p0 else if k=1 then p1 else p2
def lk:Nat->Nat->Nat->Nat->aa->Int×Int
 |_,p0,p1,p2,[]=>qz p0 p1 p2
 |i,p0,p1,p2,c::r=>
  if sw i=true then if decide ((c.toNat:Int)≠45)=true then(0,3)else lk (i+1) p0 p1 p2 r
  else if gu c=true then(0,3)
  else lk (i+1) (if kI i=0 then 10*oN (kI i) p0 p1 p2+jm c else p0) (if kI i=1 then 10*oN (kI i) p0 p1 p2+jm c else p1) (if kI i=2 then 10*oN (kI i) p0 p1 p2+jm c else p2) r
def Y0{e:Int×Int}{i p0 p1 p2:Nat}{c:UInt8}{r:aa}(hp:e=lk i p0 p1 p2 (c::r))(h:sw i=true)(h2:decide ((c.toNat:Int)≠45)=true):e=(0,3):=by rw[hp,lk,aV h,aV h2]
def aoy{e:Int×Int}{i p0 p1 p2:Nat}{c:UInt8}{r:aa}(hp:e=lk i p0 p1 p2 (c::r))(h:sw i=true)(h2:decide ((c.toNat:Int)≠45)=false):e=lk (i+1) p0 p1 p2 r:=by rw[hp,lk,aV h,aF (by rw[h2];simp)]
def Y1{e:Int×Int}{i p0 p1 p2:Nat}{c:UInt8}{r:aa}(hp:e=lk i p0 p1 p2 (c::r))(h:sw i=false)(h2:gu c=true):e=(0,3):=by rw[hp,lk,aF (by rw[h];simp),aV h2]
def aoz{e:Int×Int}{i k p0 p1 p2:Nat}{c:UInt8}{r:aa}(hp:e=lk i p0 p1 p2 (c::r))(hk:k=kI i)(h:sw i=false)(h2:gu c=false):
  e=lk (i+1) (if k=0 then 10*oN k p0 p1 p2+jm c else p0) (if k=1 then 10*oN k p0 p1 p2+jm c else p1) (if k=2 then 10*oN k p0 p1 p2+jm c else p2) r:=by subst hk;rw[hp,lk,aF (by rw[h];simp),aF (by rw[h2];simp)]
def akO{i k:Nat}(hk:k=kI i)(h:sw i=true):k+1=kI (i+1):=by
 unfold sw at h;rw[fZ,cd,cd]at h;have:i=4\/i=7:=by omega
 subst hk;rcases this with rfl|rfl<;>rfl
def akM{i k:Nat}(hk:k=kI i)(h:sw i=false):k=kI (i+1):=by
 unfold sw at h;rw[cq,dY,dY]at h;subst hk;unfold kI;have:i<=3\/(5<=i/\i<=6)\/8<=i:=by omega
 rcases this with k|k|k
 ·rw[aV zO,aV zO]
 ·rw[aF zO,aV zO,aF zO,aV zO]
 ·rw[aF zO,aF zO,aF zO,aF zO]
def akN{i k:Nat}(hk:k=kI i):k=0\/k=1\/k=2:=by subst hk;unfold kI;split<;>(try split)<;>simp
def aoL{k p0 p1 p2:Nat}(h:k=0\/k=1\/k=2):([D.i p0,D.i p1,D.i p2]:List D)[k]?=some (D.i (oN k p0 p1 p2:Nat)):=by rcases h with rfl|rfl|rfl<;>rfl
def aoM{k p0 p1 p2 v:Nat}(h:k=0\/k=1\/k=2):([D.i p0,D.i p1,D.i p2]:List D).set k (D.i (v:Nat))=[D.i ((if k=0 then v else p0:Nat):Int),D.i ((if k=1 then v else p1:Nat):Int),D.i ((if k=2 then v else p2:Nat):Int)]:=by rcases h with rfl|rfl|rfl<;>rfl
def Ze{k p0 p1 p2 n:Nat}(h:k=0\/k=1\/k=2)(hb:p0<n/\p1<n/\p2<n):oN k p0 p1 p2<n:=by rcases h with rfl|rfl|rfl;exact hb.1;exact hb.2.1;exact hb.2.2
def ao1{l:aa}{x:UInt8}{p0 p1 p2:Nat}(hb:p0<10^l.length/\p1<10^l.length/\p2<10^l.length):p0<10^(l++[x]).length/\p1<10^(l++[x]).length/\p2<10^(l++[x]).length:=by
 rw[bl,nR,lN];omega
def Si{x:UInt8}(h:gu x=false):jm x<=9/\(x.toNat:Int)-48=(jm x:Int):=by
 rw[cq]at h;have h1:=fj h.1;have h2:=fj h.2;unfold jm;omega
def ao0{l:aa}{x:UInt8}{k p0 p1 p2:Nat}(hb:p0<10^l.length/\p1<10^l.length/\p2<10^l.length)(h3:k=0\/k=1\/k=2)(h:gu x=false):(if k=0 then 10*oN k p0 p1 p2+jm x else p0)<10^(l++[x]).length/\(if k=1 then 10*oN k p0 p1 p2+jm x else p1)<10^(l++[x]).length/\(if k=2 then 10*oN k p0 p1 p2+jm x else p2)<10^(l++[x]).length:=by
 have h4:=(Si h).1;have h5:=Ze h3 hb;rw[bl,nR,lN];refine⟨?_,?_,?_⟩<;>split<;>omega
def D1{s:aa}(h:s.length=10):∃a b c d e f g i j k,s=[a,b,c,d,e,f,g,i,j,k]:=by
 match s,h with
 |[a,b,c,d,e,f,g,i,j,k],_=>exact⟨a,b,c,d,e,f,g,i,j,k,rfl⟩
def arI{α:Type}(x y:α)(A B C D E F G I J K:Bool):(if(E||I)=true then x else if(((A||(B||(C||(D||false))))||(F||(G||false)))||(J||(K||false)))=true then x else y)=
  if A=true then x else if B=true then x else if C=true then x else if D=true then x else if E=true then x else if F=true then x else if G=true then x else if I=true then x else if J=true then x else if K=true then x else y:=by
 cases A<;>cases B<;>cases C<;>cases D<;>cases E<;>cases F<;>cases G<;>cases I<;>cases J<;>cases K<;>rfl
def xu{i p0 p1 p2:Nat}{c:UInt8}{r:aa}(h:sw i=false):lk i p0 p1 p2 (c::r)=if gu c=true then(0,3)else lk (i+1) (if kI i=0 then 10*oN (kI i) p0 p1 p2+jm c else p0) (if kI i=1 then 10*oN (kI i) p0 p1 p2+jm c else p1) (if kI i=2 then 10*oN (kI i) p0 p1 p2+jm c else p2) r:=by rw[lk,aF (by rw[h];simp)]
def Y2{i p0 p1 p2:Nat}{c:UInt8}{r:aa}(h:sw i=true):lk i p0 p1 p2 (c::r)=if decide ((c.toNat:Int)≠45)=true then(0,3)else lk (i+1) p0 p1 p2 r:=by rw[lk,aV h]
def aoI{s:aa}(h:s.length=10):iM s=lk 0 0 0 0 s:=by
 obtain⟨a,b,c,d,e,f,g,i,j,k,rfl⟩:=D1 h;have e1:iM [a,b,c,d,e,f,g,i,j,k]=if(decide ((e.toNat:Int)≠45)||decide ((i.toNat:Int)≠45))=true then(0,3)else if(((gu a||(gu b||(gu c||(gu d||false))))||(gu f||(gu g||false)))||(gu j||(gu k||false)))=true then(0,3)else qz (l5 [a,b,c,d]) (l5 [f,g]) (l5 [j,k]):=by
  unfold iM;rw[show(decide (((([a,b,c,d,e,f,g,i,j,k]:aa).length:Nat):Int)≠10)||decide (((([a,b,c,d,e,f,g,i,j,k]:aa).getD 4 0).toNat:Int)≠45))=decide ((e.toNat:Int)≠45)from rfl];rfl
 rw[e1,arI,xu rfl,xu rfl,xu rfl,xu rfl,Y2 rfl,xu rfl,xu rfl,Y2 rfl,xu rfl,xu rfl];rfl
open Go.Proofs Go.Proofs.Tryz
def aaY(c:UInt8):IntKind.u8.wrap ((c.toNat:Int)-48)=((jm c:Nat):Int):=by
 have h:=c.toNat_lt;unfold jm;show((c.toNat:Int)-48)%256=_;omega
def aco{p:aa}{x:UInt8}{b:Bool}:(((b||p.any gu)||decide ((x.toNat:Int)<48))||decide (57<(x.toNat:Int)))=(b||(p++[x]).any gu):=by
 rw[pH,pJ,y0,tC];cases b<;>cases p.any gu<;>rfl
structure afj(s:aa)(a b:Nat)(xX:Bool)where
 pre:aa
 rest:aa
 hx:((s.drop a).take (b-a))=pre++rest
def KX(s:aa)(a b:Nat)(xX:Bool)(wL:a<=b)(hb:b<=s.length)(h4:b-a<=4):dB prog 164 [.i a,.i b,.box 0 0,.box 1 0] [(0,.cells [.str s]),(1,.cells [.b xX])] (.i (l5 ((s.drop a).take (b-a)))) [(0,.cells [.str s]),(1,.cells [.b (xX||((s.drop a).take (b-a)).any gu)])]:=by
 refine uF func164 ntmps164 results164 ?_;have hwl:((s.drop a).take (b-a)).length<=4:=by simp;omega
 refine go [6]<|oP (oU underlying9 rfl (l:=a) (h:=b) (r:=((s.drop a).take (b-a))) (.inr ⟨_,_,rfl,rfl⟩) (.inr ⟨_,_,rfl,rfl⟩) zO zO rfl)<|oP (Pp (u:=.string) underlying9 underlying152 underlying5 rfl)<|U.loop (ι:=afj s a b xX) (fun sx=>[(2,.box 0 0),(3,.box 1 0),(7,.i (l5 sx.pre)),(14,.snap 1 false (((s.drop a).take (b-a)).map fun c=>[.raw (.int .u8 (UInt8.toNat c:Int))])),(15,.i ((s.drop a).take (b-a)).length),(16,.i sx.pre.length)]) (fun sx=>[(0,.cells [.str s]),(1,.cells [.b (xX||sx.pre.any gu)])]) (fun sx=>sx.rest.length) ⟨[],_,rfl⟩ ?_ ?_
 ·exact Le.mk rfl (.n 4 rfl rfl (.cons rfl (Sub.int zS) rfl (.s rfl rfl .nil))) (.cons rfl rfl (.eq rfl zS rfl .nil))
 ·rintro⟨pre,rest,hx⟩;dsimp only;have hl:=aT List.length hx;rw[bl]at hl;have Ns:=atq pre zO;rcases rest with _|⟨x,rest⟩
  ·obtain rfl:pre=((s.drop a).take (b-a)):=by simpa using hx.symm
   exact go [6]<|aH zS<|go [6]<|ua rfl (Sub.refl _) (.cons rfl rfl (.cons rfl rfl .nil))
  ·simp only[bD]at hl;have hdx:=Sh x;refine go [6]<|aM (by simp at*;omega)<|ix zO (aK (fun c=>[D.raw (.int .u8 (UInt8.toNat c:Int))]) hx rfl)<|rg<|.mv rfl rfl<|.P rfl (so rfl rfl (ao zO))<|.mv rfl rfl<|.P rfl (dx rfl rfl (aaY x))<|.P rfl (B7 underlying5 underlying3 rfl (ao zO))<|.P rfl (bx rfl rfl (ao zO))<|.ag rfl rfl<|.nil<|U.nil (bR ?_);exact go [6]<|sd (ao zO)<|nx ⟨pre++[x],rest,by simp[hx]⟩ zS (Le.mk rfl (.n 2 rfl rfl (.cons rfl (Sub.int (by rw[atr];simp)) rfl (.n 2 rfl rfl (.cons rfl (Sub.int zS) rfl .nil)))) (.cons rfl rfl (.eq rfl (by rw[<-aco]) rfl .nil)))
def aoE(s:aa):Fc prog 110 [.str s] (.a_ [.i (iM s).1,.i (iM s).2]):=by
 refine gq func110 ntmps110 results110 ?_;refine go []<|w8 (fun hg=>And.intro zD (Uf (k:=4) (by have h9:=hg;simp[jw]at h9;omega) zO rfl))<|w8 (fun hg=>And.intro zD (Uf (k:=7) (by have h9:=hg;simp[jw]at h9;omega) zO rfl))<|br (fun h1=>?_) (fun h1=>?_)
 ·exact cw rfl rfl (Sub.int (by rw[Pc h1])) (Sub.int (by rw[Pc h1]))
 ·have Vg:s.length=10:=by have h9:=h1;rw[cq,cq]at h9;have h8:=h9.1.1;simp at h8;omega
  refine oW (zw call164 rfl rfl (KX s 0 4 false zO zO zO) (.cons rfl rfl (.cons rfl rfl .nil)) rfl rfl)<|oW (zw call164 rfl rfl (KX s 5 7 (false||(s.take 4).any gu) zO zO zO) (.cons rfl rfl (.cons rfl rfl .nil)) rfl rfl)<|oW (zw call164 rfl rfl (KX s 8 10 ((false||(s.take 4).any gu)||((s.drop 5).take 2).any gu) zO zO zO) (.cons rfl rfl (.cons rfl rfl .nil)) rfl rfl)<|br (fun h2=>?_) (fun h2=>?_)
  ·exact cw rfl rfl (Sub.int (by rw[Y9 h1 h2])) (Sub.int (by rw[Y9 h1 h2]))
  ·exact oP (ah call165 rfl (aeT (l5 (s.take 4)) (l5 ((s.drop 5).take 2)) (l5 ((s.drop 8).take 2))))<|cw rfl rfl (Sub.int (by rw[Y_ h1 h2])) (Sub.int (by rw[Y_ h1 h2]))
structure aoG(s:aa)where
 pre:aa
 rest:aa
 k:Nat
 p0:Nat
 p1:Nat
 p2:Nat
 hx:s=pre++rest
 hk:k=kI pre.length
 hp:iM s=lk pre.length p0 p1 p2 rest
 hb:p0<10^pre.length/\p1<10^pre.length/\p2<10^pre.length
def aoF(s:aa):Fc prog 112 [.str s] (.a_ [.i (iM s).1,.i (iM s).2]):=by
 refine gq func112 ntmps112 results112 ?_;refine go [14]<|br (fun h1=>?_) (fun h1=>?_)
 ·exact cw rfl rfl (Sub.int (by rw[Pb h1])) (Sub.int (by rw[Pb h1]))
 ·have Vg:s.length=10:=by have h9:=h1;simp at h9;omega
  refine U.loop (ι:=aoG s) (fun sx=>[(0,.str s),(4,.box 0 0),(5,.i sx.k),(6,.i sx.pre.length)]) (fun sx=>[(0,.cells [.i sx.p0,.i sx.p1,.i sx.p2])]) (fun sx=>sx.rest.length) ⟨[],s,0,0,0,0,rfl,rfl,aoI Vg,by simp⟩ ?_ ?_
  ·exact Le.mk rfl (.n 4 rfl rfl .nil) (.cons rfl rfl .nil)
  ·rintro⟨pre,rest,k,p0,p1,p2,hx,hk,hp,hb⟩;dsimp only;have hl:=aT List.length hx;rw[bl]at hl;have Hx:=akN hk;rcases rest with _|⟨x,rest⟩
   ·exact go [14]<|aH (by simp at hl|-;omega)<|go [14]<|oP (sl (o2:=0) underlying193 sizeOf3 rfl rfl zD zD rfl)<|oP (sl (o2:=1) underlying193 sizeOf3 rfl rfl zD zD rfl)<|oP (sl (o2:=2) underlying193 sizeOf3 rfl rfl zD zD rfl)<|oP (ah call168 rfl (aeV p0 p1 p2))<|cw rfl rfl (Sub.int (by rw[hp];rfl)) (Sub.int (by rw[hp];rfl))
   ·simp only[bD]at hl;have HG:10^pre.length<=10^9:=eE zO zO;have DG:=Ze Hx hb;refine go [14]<|aM zQ<|br (fun h2=>?_) (fun h2=>?_)
    ·refine Bj zO (lf hx rfl)<|br (fun h3=>?_) (fun h3=>?_)
     ·exact cw rfl rfl (Sub.int (by rw[Y0 hp h2 h3])) (Sub.int (by rw[Y0 hp h2 h3]))
     ·exact sd (ao zO)<|sd (ao zO)<|nx ⟨pre++[x],rest,k+1,p0,p1,p2,by simp[hx],by simpa using akO hk h2,by simpa using aoy hp h2 h3,ao1 hb⟩ zS (Le.mk rfl (.n 3 rfl rfl (.cons rfl (Sub.int zS) rfl .nil)) (.cons rfl rfl .nil))
    ·refine Bj zO (lf hx rfl)<|w8 (fun hg=>And.intro zO (lf hx rfl))<|br (fun h4=>?_) (fun h4=>?_)
     ·exact cw rfl rfl (Sub.int (by rw[Y1 hp h2 h4])) (Sub.int (by rw[Y1 hp h2 h4]))
     ·have hdx:=Si h4;refine U.pE [.p,.p,.p,.r,.p,.p,.p,.p,.p,.p,.p,.p,.w] l7 zK<|.mv rfl rfl<|.mv rfl rfl<|.P rfl (sl (o2:=k) underlying193 sizeOf3 rfl rfl zO zO zO)<|.R rfl (iY isAgg3 rfl rfl (aoL Hx))<|.P rfl (so rfl rfl (ao zO))<|.mv rfl rfl<|.mv rfl rfl<|.P rfl (nZ underlying9 rfl rfl zO (lf hx rfl))<|.P rfl (dx rfl rfl ((aaY x)))<|.P rfl (B7 underlying5 underlying3 rfl (ao zO))<|.P rfl (bx rfl rfl (ao zO))<|.P rfl (sl (o2:=k) underlying193 sizeOf3 rfl rfl zO zO zO)<|.W rfl (sq sizeOf3 rfl rfl rfl rfl zQ)<|.nil<|U.nil (bR ?_);exact go [14]<|sd (ao zO)<|nx ⟨pre++[x],rest,k,_,_,_,by simp[hx],by simpa using akM hk h2,by simpa using aoz hp hk h2 h4,ao0 hb Hx h4⟩ zS (Le.mk rfl (.n 3 rfl rfl (.cons rfl (Sub.int zS) rfl .nil)) (.eq rfl (by exact aT Ob.cells (aoM (v:=10*oN k p0 p1 p2+jm x) Hx)) rfl .nil))
end Go.T
namespace Go.Proofs
open Go.Shelf
def Tryz.ali:Go.Shelf.Ren:=⟨fun|221=>163|268=>209|138=>210|143=>211|195=>262|197=>263|218=>264|219=>265|260=>299|217=>300|225=>301|224=>302|267=>303|266=>336|314=>337|n=>n,fun|9=>9|3=>3|31=>48|4=>4|0=>0|105=>270|21=>21|5=>5|46=>142|119=>318|139=>321|138=>320|146=>322|51=>182|n=>n,fun|1=>0|3=>1|4=>2|n=>n⟩
def Tryz.NM:Go.Proofs.Lays.n221 Tryz.prog Tryz.ali:={
 mixed:=by kernel_rfl
 f138:=Tryz.func210.trans (aT some LW)
 f143:=Tryz.func211.trans (aT some LW)
 f195:=Tryz.func262.trans (aT some LW)
 f197:=Tryz.func263.trans (aT some LW)
 f217:=Tryz.func300.trans (aT some LW)
 f218:=Tryz.func264.trans (aT some LW)
 f219:=Tryz.func265.trans (aT some LW)
 f221:=Tryz.func163.trans (aT some LW)
 f224:=Tryz.func302.trans (aT some LW)
 f225:=Tryz.func301.trans (aT some LW)
 f260:=Tryz.func299.trans (aT some LW)
 f266:=Tryz.func336.trans (aT some LW)
 f267:=Tryz.func303.trans (aT some LW)
 f268:=Tryz.func209.trans (aT some LW)
 f314:=Tryz.func337.trans (aT some LW)
 t0:=Tryz.underlying0
 a0:=Tryz.isAgg0
 z0:=Tryz.sizeOf0
 v0:=Tryz.zeroValue0
 t3:=Tryz.underlying3
 a3:=Tryz.isAgg3
 z3:=Tryz.sizeOf3
 v3:=Tryz.zeroValue3
 t4:=Tryz.underlying4
 a4:=Tryz.isAgg4
 z4:=Tryz.sizeOf4
 v4:=Tryz.zeroValue4
 t5:=Tryz.underlying5
 a5:=Tryz.isAgg5
 z5:=Tryz.sizeOf5
 v5:=Tryz.zeroValue5
 t9:=Tryz.underlying9
 a9:=Tryz.isAgg9
 z9:=Tryz.sizeOf9
 v9:=Tryz.zeroValue9
 t21:=Tryz.underlying21
 a21:=Tryz.isAgg21
 z21:=Tryz.sizeOf21
 v21:=Tryz.zeroValue21
 t31:=Tryz.underlying48
 a31:=Tryz.isAgg48
 z31:=Tryz.sizeOf48
 v31:=Tryz.zeroValue48
 t46:=Tryz.underlying142
 a46:=Tryz.isAgg142
 z46:=Tryz.sizeOf142
 v46:=Tryz.zeroValue142
 t51:=Tryz.underlying182
 a51:=Tryz.isAgg182
 z51:=Tryz.sizeOf182
 v51:=Tryz.zeroValue182
 t105:=Tryz.underlying270
 a105:=Tryz.isAgg270
 z105:=Tryz.sizeOf270
 v105:=Tryz.zeroValue270
 t119:=Tryz.underlying318
 a119:=Tryz.isAgg318
 z119:=Tryz.sizeOf318
 t138:=Tryz.underlying320
 a138:=Tryz.isAgg320
 z138:=Tryz.sizeOf320
 v138:=Tryz.zeroValue320
 t139:=Tryz.underlying321
 a139:=Tryz.isAgg321
 z139:=Tryz.sizeOf321
 v139:=Tryz.zeroValue321
 t146:=Tryz.underlying322
 a146:=Tryz.isAgg322
 z146:=Tryz.sizeOf322
 v146:=Tryz.zeroValue322
 g1:=by kernel_rfl
 g3:=by kernel_rfl
 g4:=by kernel_rfl}
end Go.Proofs
namespace Go.T
open Go
def KG(c:UInt8):List aa->List aa
 |[]=>[[c]]
 |h::t=>(c::h)::t
def dI:aa->List aa
 |[]=>[[]]
 |c::r=>if c=32 then[]::dI r else KG c (dI r)
def aq6(c:UInt8)(h:c≠32)(r:aa):∀k,Lib.splitK [32] 0 k (c::r)=KG c (Lib.splitK [32] 0 k r)
 |0=>rfl
 |k+1=>by
  have hp:([32]:List UInt8).isPrefixOf (c::r)=false:=by simpa[List.isPrefixOf]using fun e:(32:UInt8)=c=>h e.symm
  have Ve:Lib.index (c::r) [32]=if Lib.index r [32]==-1 then -1 else Lib.index r [32]+1:=by rw[Lib.index,hp];simp
  unfold Lib.splitK;by_cases hm:Lib.index r [32]=-1
  ·have h1:Lib.index (c::r) [32]=-1:=by rw[Ve,aV (by simp[hm])]
   rw[aV (by simp[h1]),aV (by simp[hm])];rfl
  ·have hge:=Lib.index_ge r [32];obtain⟨j,hj⟩:∃j:Nat,Lib.index r [32]=j:=⟨(Lib.index r [32]).toNat,by omega⟩;have n1:∀n:Nat,¬((n:Int)==-1)=true:=fun n e=>by have:=eq_of_beq e;omega
   have h1:Lib.index (c::r) [32]=((j+1:Nat):Int):=by rw[Ve,hj,aF (n1 j)];rfl
   rw[h1,hj,aF (n1 _),aF (n1 _)];rfl
theorem aay:∀s:aa,Lib.split s [32]=dI s
 |[]=>by rw[Lib.split,Lib.count_one];rfl
 |c::r=>by
  have ih:=aay r;unfold Lib.split at ih|-;rw[Lib.count_one]at ih|-;unfold dI;by_cases h:c=32
  ·subst h;rw[aV rfl,List.count_cons_self,Lib.splitK,aF (by simp[Lib.index,List.isPrefixOf]),<-ih];simp[Lib.index,List.isPrefixOf]
  ·rw[aF h,List.count_cons_of_ne (by simpa using h),aq6 c h,ih]
def Jz(s:aa):dI s≠[]:=by
 cases s with
 |nil=>simp[dI]
 |cons c r=>
  unfold dI;split
  ·simp
  ·cases dI r<;>simp[KG]
theorem aax:∀{a:aa},(32:UInt8)∉a->dI a=[a]
 |[],_=>rfl
 |c::r,h=>by
  simp only[cr,HW]at h;rw[dI,aF (fun e=>h.1 e.symm),aax h.2];rfl
theorem P8:∀{a r:aa},(32:UInt8)∉a->dI (a++32::r)=a::dI r
 |[],r,_=>by rw[q_,dI,aV rfl]
 |c::a,r,h=>by
  simp only[cr,HW]at h;rw[jF,dI,aF (fun e=>h.1 e.symm),P8 h.2];rfl
theorem Jy:∀{s a:aa}{t:List aa},dI s=a::t->(t=[]/\s=a)\/∃r,s=a++32::r/\dI r=t
 |[],a,t,h=>by
  rw[dI]at h;cases h;exact .inl ⟨rfl,rfl⟩
 |c::r,a,t,h=>by
  unfold dI at h;by_cases e:c=32
  ·subst e;rw[aV rfl]at h;cases h;exact .inr ⟨r,rfl,rfl⟩
  ·rw[aF e]at h;cases hr:dI r with
   |nil=>exact absurd hr (Jz r)
   |cons b u=>
    rw[hr]at h;cases h;rcases Jy hr with⟨e1,e2⟩|⟨q,e1,e2⟩
    ·subst e1 e2;exact .inl ⟨rfl,rfl⟩
    ·exact .inr ⟨q,by rw[e1];rfl,e2⟩
def aq7{s w:aa}(h:w∈dI s):w.length<=s.length:=by
 induction s generalizing w with
 |nil=>simp[dI]at h;subst h;simp
 |cons c r ih=>
  unfold dI at h;split at h
  ·rcases cr.1 h with rfl|h
   ·simp
   ·have:=ih h;simp;omega
  ·cases hr:dI r with
   |nil=>exact absurd hr (Jz r)
   |cons a t=>
    rw[hr]at h ih;rcases cr.1 h with rfl|h
    ·have:=ih (w:=a) zS;simpa using this
    ·have:=ih (w:=w) (by simp[h]);simp;omega
@[reducible] def pv:aa:=[109,97,114,107]
@[reducible] def s7(l:List aS)(x:aa):Bool:=l.any fun y=>decide (y.id=x)
def mY(l:List aS)(c:aa):Int×aa×Bool:=
 if(decide (((dI c).length:Int)≠3)||decide ((dI c).headD []≠pv))=true then(0,[],false)
 else((iM ((dI c).getD 1 [])).1,(dI c).getD 2 [],decide ((iM ((dI c).getD 1 [])).2=0)&&s7 l ((dI c).getD 2 []))
def rF(c:aa):Bool:=(decide ((c.length:Int)<17)||decide (c.take 5≠[109,97,114,107,32]))||decide (((c.getD 15 0).toNat:Int)≠32)
def en(l:List aS)(c:aa):Int×aa×Bool:=
 if rF c=true then(0,[],false)
 else((iM ((c.drop 5).take 10)).1,c.drop 16,decide ((iM ((c.drop 5).take 10)).2=0)&&s7 l (c.drop 16))
def Yb{x:aa}(h:isName x=true):(32:UInt8)∉x/\x≠[]:=by
 simp only[isName,bd,cd]at h;refine⟨fun k=>?_,fun k=>by rw[k]at h;simp at h⟩;have:=de.1 h.2 32 k
 revert this;decide
def xn{c:UInt8}(h:decide ((c.toNat:Int)<48)=false/\decide (57<(c.toNat:Int))=false):c≠32:=by rintro rfl;revert h;decide
def Kv{c d:UInt8}(h:(c.toNat:Int)=(d.toNat:Int)):c=d:=sf.1 zO
def Za{x:aa}(h:(iM x).2=0):x.length=10/\(32:UInt8)∉x:=by
 by_cases hl:x.length=10
 ·refine⟨hl,?_⟩;obtain⟨a,b,c,d,e,f,g,i,j,k,rfl⟩:=D1 hl;rw[iM]at h;split at h
  ·cases h
  ·rename_i h1;split at h
   ·cases h
   ·rename_i h2;have e1:e=45:=by
     simp only[fZ,HW,cd,rI]at h1;have h3:=h1.1.2;exact Kv h3
    have e2:i=45:=by
     simp only[fZ,HW,cd,rI]at h1;have h3:=h1.2;exact Kv h3
    have Di:((([a,b,c,d]:aa).any gu||([f,g]:aa).any gu)||([j,k]:aa).any gu)=false:=by simpa using h2
    simp only[pJ,y0,tC,cq]at Di;obtain⟨⟨⟨cD,cW,fy,j3⟩,kY,iq⟩,mK,pj⟩:=Di;have:=xn cD;have:=xn cW;have:=xn fy;have:=xn j3;have:=xn kY;have:=xn iq;have:=xn mK;have:=xn pj;subst e1 e2;simp only[cr,tu,GD,HW];refine⟨?_,?_,?_,?_,by decide,?_,?_,by decide,?_,?_⟩<;>exact fun e=>absurd e.symm zA
 ·rw[Pb (iH fun e=>hl zO)]at h;cases h
def amz{b d:aa}(hb:b.length=10)(hd:d≠[]):rF (pv++32::(b++32::d))=false/\(((pv++32::(b++32::d)).drop 5).take 10)=b/\(pv++32::(b++32::d)).drop 16=d:=by
 obtain⟨b0,b1,b2,b3,b4,b5,b6,b7,b8,b9,rfl⟩:=D1 hb;obtain⟨x,r,rfl⟩:=List.exists_cons_of_ne_nil hd;refine⟨?_,rfl,rfl⟩;unfold rF;have e1:decide (((pv++32::([b0,b1,b2,b3,b4,b5,b6,b7,b8,b9]++32::(x::r))).length:Int)<17)=false:=by simp;omega
 rw[e1];rfl
def acI{c:aa}(h:rF c=false):∃b d,b.length=10/\c=pv++32::(b++32::d):=by
 unfold rF at h;rw[cq,cq]at h;obtain⟨⟨h1,h2⟩,h3⟩:=h;have hl:17<=c.length:=by have:=fj h1;omega
 have h2:c.take 5=[109,97,114,107,32]:=rI.1 (fj h2);have h3:c.getD 15 0=32:=by
  have:=rI.1 (fj h3);exact Kv this
 refine⟨(c.drop 5).take 10,c.drop 16,by simp;omega,?_⟩;have e1:c=c.take 5++c.drop 5:=(lG 5 c).symm;have e2:c.drop 5=(c.drop 5).take 10++c.drop 15:=by
  have:=(lG 10 (c.drop 5)).symm;rwa[tD]at this
 have e3:c.drop 15=32::c.drop 16:=by
  rw[ju (by omega:15<c.length)]
  congr 1
  rw[fV,eu (by omega:15<c.length)]at h3;exact h3
 rw[e3]at e2;rw[h2,e2]at e1;exact e1
def amA{l:List aS}(hn:∀x∈l,isName x.id=true)(c:aa):(mY l c).2.2=(en l c).2.2/\((en l c).2.2=true->mY l c=en l c):=by
 have VQ:∀{x:aa},s7 l x=true->isName x=true:=fun h=>by
  obtain⟨y,hy,e⟩:=j_.1 h;rw[<-aG e];exact hn y hy
 have T3:(mY l c).2.2=true->mY l c=en l c:=by
  intro h;unfold mY at h|-;split at h
  ·cases h
  ·rename_i h1;rw[aF h1];rw[Bool.not_eq_true,cq]at h1;have hl:(dI c).length=3:=by have:=rI.1 (fj h1.1);omega
   have hh:=rI.1 (fj h1.2);obtain⟨a,b,d,e⟩:∃a b d,dI c=[a,b,d]:=by
    match hs:dI c,hl with
    |[a,b,d],_=>exact⟨a,b,d,rfl⟩
   rw[e]at h hh|-;have hh:a=pv:=hh;have h:(decide ((iM b).2=0)&&s7 l d)=true:=h;rw[bd]at h;have hb:=Za (aG h.1);have hd:=Yb (VQ h.2);rcases Jy e with⟨k,_⟩|⟨r,ec,er⟩
   ·cases k
   rcases Jy er with⟨k,_⟩|⟨q,ec2,er2⟩
   ·cases k
   rcases Jy er2 with⟨_,k⟩|⟨q2,_,k⟩
   ·subst k hh;have hc:c=pv++32::(b++32::q):=by rw[ec,ec2]
    obtain⟨m1,m2,m3⟩:=amz hb.1 hd.2;rw[<-hc]at m1 m2 m3;unfold en;rw[m1,m2,m3];rfl
   ·exact absurd k (Jz q2)
 have Rj:(en l c).2.2=true->(mY l c).2.2=true:=by
  intro h;unfold en at h;split at h
  ·cases h
  ·rename_i h1;obtain⟨b,d,hb,hc⟩:=acI (by simpa using h1);have h:(decide ((iM ((c.drop 5).take 10)).2=0)&&s7 l (c.drop 16))=true:=h;have m2:(c.drop 5).take 10=b:=by rw[hc];obtain⟨b0,b1,b2,b3,b4,b5,b6,b7,b8,b9,rfl⟩:=D1 hb;rfl
   have m3:c.drop 16=d:=by rw[hc];obtain⟨b0,b1,b2,b3,b4,b5,b6,b7,b8,b9,rfl⟩:=D1 hb;rfl
   rw[m2,m3,bd]at h;have e:dI c=[pv,b,d]:=by
    rw[hc,P8 zD,P8 (Za (aG h.1)).2,aax (Yb (VQ h.2)).1]
   unfold mY;rw[e];show(decide ((iM b).2=0)&&s7 l d)=true;rw[h.1,h.2];rfl
 refine⟨?_,fun h=>T3 (Rj h)⟩;cases hp:(mY l c).2.2 with
 |true=>rw[<-T3 hp];exact hp.symm
 |false=>
  cases hr:(en l c).2.2 with
  |true=>rw[Rj hr]at hp;cases hp
  |false=>rfl
open Go.Proofs Go.Shelf Go.RowKit
theorem abj{w:World}{O:Nat->Prop}{b:Nat}:∀(l:List aa)(off:Nat),(∀(i:Nat)(s:aa),l[i]?=some s->w.cell? ⟨b,off+i,none⟩=some (.string ⟨s.toArray⟩)/\s.length<=aD)->Vr w O b off 1 (l.map fun s=>[D.str s])
 |[],_,_=>trivial
 |a::l,off,h=>by
  have h0:=h 0 a rfl;have h1:=abj (O:=O) l (off+1) fun i s hi=>by
   have:=h (i+1) s (by simpa using hi);rwa[show off+1+i=off+(i+1) by omega]
  simp only[cP,Vr,Vc,V];exact⟨⟨rfl,⟨_,⟨h0.1,rfl⟩,rfl,h0.2⟩,trivial⟩,h1⟩
def ahS(s:aa)(hs:s.length<=1000):Fc Tryz.prog 163 [.str s,.str [32],.i 0,.i (-1)] (bg (dI s)):=⟨fun w O ρ vals hO _ hv=>by
 simp only[Vs,V,D.i]at hv;obtain⟨_,_,rfl,⟨rfl,hb⟩,_,_,rfl,⟨rfl,_⟩,_,_,rfl,rfl,_,_,rfl,rfl,rfl⟩:=hv;have hc:=List.count_le_length (a:=(32:UInt8)) (l:=s);have bb:(⟨s.toArray⟩:ByteArray).size=s.length:=by simp[ByteArray.size]
 have MC:Lib.countB ⟨s.toArray⟩ ⟨#[32]⟩=s.count 32:=Lib.count_one 32 s;refine(Any.strings_genSplit_core Tryz.NM LW ⟨s.toArray⟩ ⟨#[32]⟩ 0 (-1) (s.count 32+1) w zO zD zD (fun x c _=>(Any.strings_Index_one {Tryz.NM with} x 32 _).mono fun e w' ⟨h1,h2⟩=>⟨by rw[h1];exact aT (fun n=>Ending.returned (Value.int .i64 n)) (Lib.index_one _ _).symm,h2⟩)
  ((Any.strings_Count_one {Tryz.NM with} ⟨s.toArray⟩ 32 w).mono fun e w' ⟨h1,h2⟩=>⟨by rw[h1,MC];rfl,h2⟩) zD zD (by rw[MC,bb,aV zD];omega)).mono ?_
 rintro e w' ⟨rfl,rfl⟩;have hd:(Lib.splitB ⟨#[32]⟩ 0 (s.count 32) ⟨s.toArray⟩).map (·.data.toList)=dI s:=by
  rw[Lib.splitB_data];have:=aay s;unfold Lib.split at this;rw[Lib.count_one]at this;exact this
 have hl:(Lib.splitB ⟨#[32]⟩ 0 (s.count 32) ⟨s.toArray⟩).length=s.count 32+1:=Lib.splitB_all _ zD 0 _ _ MC;have bM:(dI s).length=s.count 32+1:=by rw[<-hd,bB,hl]
 refine⟨_,rfl,?_,gm.below ((RowKit.Below.refl _ w).alloc (dP _) _)⟩;simp only[V,Iu];refine⟨_,_,by rw[hl,bB,bM],⟨by rw[bB,bM];omega,by rw[bB,bM];unfold aD;omega⟩,(fun h=>by cases h),fun _=>⟨_,_,rfl,⟨?_,fun h=>Nat.lt_irrefl _ (hO _ h)⟩,abj _ _ fun i p hp=>?_⟩⟩
 ·show w.heap.size<(w.heap.push _).size;rw[Array.size_push];omega
 ·have DH:=aq7 (dj hp);refine⟨?_,by unfold aD;omega⟩;rw[mD,World.cell?_alloc_new];have e2:Lib.cellsOf (Lib.splitB ⟨#[32]⟩ 0 (s.count 32) ⟨s.toArray⟩) (s.count 32+1)=((Lib.splitB ⟨#[32]⟩ 0 (s.count 32) ⟨s.toArray⟩).map Value.string).toArray:=by rw[<-hl];exact Lib.cellsOf_full _
  rw[e2,GJ,fR];rw[<-hd,fR]at hp;cases hq:(Lib.splitB ⟨#[32]⟩ 0 (s.count 32) ⟨s.toArray⟩)[i]?with
  |none=>rw[hq]at hp;cases hp
  |some q=>
   rw[hq]at hp;cases hp;rfl⟩
end Go.T
namespace Go.T
open Go Go.Proofs Go.Proofs.Tryz
def Oc{l:List aS}{c:aa}(h:(decide (((dI c).length:Int)≠3)||decide ((dI c).headD []≠pv))=true):mY l c=(0,[],false):=by unfold mY;rw[aV h]
def arK{c:aa}(h:(decide (((dI c).length:Int)≠3)||decide ((dI c).headD []≠pv))=false):∃a b d,dI c=[a,b,d]:=by
 rw[cq]at h;have hl:(dI c).length=3:=by have:=rI.1 (fj h.1);omega
 match hs:dI c,hl with
 |[a,b,d],_=>exact⟨a,b,d,rfl⟩
def Od{l:List aS}{c a b d:aa}(h:(decide (((dI c).length:Int)≠3)||decide ((dI c).headD []≠pv))=false)(hw:dI c=[a,b,d]):mY l c=((iM b).1,d,decide ((iM b).2=0)&&s7 l d):=by
 unfold mY;rw[aF (by rw[h];simp),hw];rfl
def ahY{l:List aa}{a b d:aa}(h:l=[a,b,d]):(l.map fun s=>[D.str s])[(1:Int).toNat]?=some [D.str b]:=by subst h;rfl
def Ue{l:List aa}{a b d:aa}(h:l=[a,b,d]):(l.map fun s=>[D.str s])[(2:Int).toNat]?=some [D.str d]:=by subst h;rfl
def Oe{l:List aS}{c:aa}(h:rF c=true):en l c=(0,[],false):=by unfold en;rw[aV h]
def Of{l:List aS}{c:aa}(h:rF c=false):en l c=((iM ((c.drop 5).take 10)).1,c.drop 16,decide ((iM ((c.drop 5).take 10)).2=0)&&s7 l (c.drop 16)):=by unfold en;rw[aF (by rw[h];simp)]
def acG{c:aa}(h:rF c=false):17<=c.length:=by
 unfold rF at h;rw[cq,cq]at h;have:=fj h.1.1;omega
def alK{c:aa}(h:jw false (decide ((c.length:Int)<17))=true):17<=c.length:=by
 have h1:(!decide ((c.length:Int)<17))=true:=h;simp at h1;omega
def alL{c:aa}{x:Bool}(h:jw false (decide ((c.length:Int)<17)||x)=true):17<=c.length:=by
 have h1:(!(decide ((c.length:Int)<17)||x))=true:=h;simp at h1;omega
def SD(c:aa)(k:Nat):(c.drop k).take (c.length-k)=c.drop k:=gZ zS
def ahZ{s:aa}{k:Nat}{i:Int}(hk:k<s.length)(hi:i=(k:Int)):s[i.toNat]?=some (s.getD k 0):=by
 subst hi;simp[fV,hk]
def aq9(s:aa)(hs:s.length<=1000):Fc prog 109 [.str s,.str [32]] (bg (dI s)):=by
 refine ay func109 ntmps109 results109 ?_;exact go []<|oP (ah call163 rfl (ahS s hs))<|af rfl (Sub.refl _)
def amx(s:Setup)(c:aa)(hc:c.length<=1000):Fc prog 69 [.agg (im s),.str c] (.a_ [.i (mY s.insts c).1,.str (mY s.insts c).2.1,.b (mY s.insts c).2.2]):=by
 refine AF func69 ntmps69 results69 ?_;refine go [1] ?_;refine U.bc (Le.fx 2 0 rfl rfl rfl rfl) ?_;refine go []<|oP (ah call109 rfl (aq9 c hc))<|j9 (fun hg=>And.intro zD (MK (Jz c)))<|br (fun h1=>?_) (fun h1=>?_)
 ·have h1:(decide (((dI c).length:Int)≠3)||decide ((dI c).headD []≠pv))=true:=by simpa using h1
  exact vQ rfl rfl rfl (Sub.int (by rw[Oc h1])) (Sub.str (by rw[Oc h1])) (Sub.bool (by rw[Oc h1]))
 ·have h1:(decide (((dI c).length:Int)≠3)||decide ((dI c).headD []≠pv))=false:=by simpa using h1
  obtain⟨wa,wb,wd,hw⟩:=arK h1;exact ix zD (ahY hw)<|oP (ah call110 rfl (aoE wb))<|ix zD (Ue hw)<|oP (ah call111 rfl (TF s.insts wd))<|ord<|ix zD (Ue hw)<|ord<|vQ rfl rfl rfl (Sub.int (by rw[Od h1 hw])) (Sub.str (by rw[Od h1 hw])) (Sub.bool (by rw[Od h1 hw]))
def amy(s:Setup)(c:aa):Fc prog 72 [.agg (im s),.str c] (.a_ [.i (en s.insts c).1,.str (en s.insts c).2.1,.b (en s.insts c).2.2]):=by
 refine AF func72 ntmps72 results72 ?_;refine go [1] ?_;refine U.bc (Le.fx 2 0 rfl rfl rfl rfl) ?_;refine go []<|gP (fun hg=>oU underlying9 rfl (l:=0) (h:=5) (r:=c.take 5) (.inl ⟨rfl,rfl⟩) (.inr ⟨_,_,rfl,rfl⟩) zD (dM zD (alK hg)) rfl)<|w8 (fun hg=>And.intro zD (ahZ (k:=15) (dM zD (alL hg)) rfl))<|br (fun h1=>?_) (fun h1=>?_)
 ·have h1:rF c=true:=h1;exact vQ rfl rfl rfl (Sub.int (by rw[Oe h1])) (Sub.str (by rw[Oe h1])) (Sub.bool (by rw[Oe h1]))
 ·have h1:rF c=false:=h1;have axh:=acG h1;exact oP (oU underlying9 rfl (l:=5) (h:=15) (r:=(c.drop 5).take 10) (.inr ⟨_,_,rfl,rfl⟩) (.inr ⟨_,_,rfl,rfl⟩) zD zO rfl)<|oP (ah call112 rfl (aoF ((c.drop 5).take 10)))<|oP (oU underlying9 rfl (l:=16) (h:=c.length) (r:=c.drop 16) (.inr ⟨_,_,rfl,rfl⟩) (.inl ⟨rfl,rfl⟩) zO (dP _) (SD c 16))<|oP (ah call113 rfl (TC s.insts (c.drop 16)))<|ord<|oP (oU underlying9 rfl (l:=16) (h:=c.length) (r:=c.drop 16) (.inr ⟨_,_,rfl,rfl⟩) (.inl ⟨rfl,rfl⟩) zO (dP _) (SD c 16))<|ord<|vQ rfl rfl rfl (Sub.int (by rw[Of h1])) (Sub.str (by rw[Of h1])) (Sub.bool (by rw[Of h1]))
end Go.T
namespace Go.T
open Go
def Cl{a b:Fact}:l4 a b=true↔a=b:=by
 unfold l4 j1;simp only[bd,cd,beq_iff_eq,l_,and_true];constructor
 ·intro h;obtain⟨a1,a2,a3,a4,a5,a6,a7,a8,a9,z8,FN,a12,⟨p1,p2⟩,⟨r1,r2⟩,⟨s1,s2⟩,a16,a17,a18⟩:=a;obtain⟨b1,b2,b3,b4,b5,b6,b7,b8,b9,b10,b11,b12,⟨q1,q2⟩,⟨t1,t2⟩,⟨u1,u2⟩,b16,b17,b18⟩:=b;simp_all
 ·rintro rfl;simp
def aqu(a b:Fact):l4 a b=l4 b a:=by
 rw[mE,Cl,Cl];exact eq_comm
def ll(gs:List (List aa)):List Fact->Int
 |[]=>0
 |f::r=>if decide ((gh gs (b_ f)).2≠0)=true then(gh gs (b_ f)).2 else ll gs r
def vx(gs:List (List aa))(v:List Fact)(i:Int):List Fact:=if ll gs v=0 then ji gs v i else[]
def aoK{gs:List (List aa)}{v:List Fact}(h:∀f∈v,(gh gs (b_ f)).2=0):ll gs v=0:=by
 induction v with
 |nil=>rfl
 |cons a r ih=>rw[ll,aF (by simp[h a zS]),ih fun f hf=>h f (by simp[hf])]
def IU{e:Int}{gs:List (List aa)}{x:Fact}{r:List Fact}(hp:e=ll gs (x::r))(h:decide ((gh gs (b_ x)).2≠0)=true):e=(gh gs (b_ x)).2:=by rw[hp,ll,aV h]
def IT{e:Int}{gs:List (List aa)}{x:Fact}{r:List Fact}(hp:e=ll gs (x::r))(h:decide ((gh gs (b_ x)).2≠0)=false):e=ll gs r:=by rw[hp,ll,aF (by rw[h];simp)]
def Zb{gs:List (List aa)}{v:List Fact}{i:Int}{n:Int}(h:ll gs v=n)(hn:decide (n≠0)=true):vx gs v i=[]:=by
 unfold vx;rw[aF (by rw[h];exact aG hn)]
def IX{gs:List (List aa)}{v:List Fact}{i:Int}(h:ll gs v=0):vx gs v i=ji gs v i:=by unfold vx;rw[aV h]
def sj(gs:List (List aa))(v:List Fact)(i:Int):List Fact×Int:=
 if(!nr gs||decide (lI v≠0))=true then([],1)else if(decide (i<0)||decide ((gs.length:Int)<=i))=true then([],2)else(vx gs v i,ll gs v)
def IY{gs:List (List aa)}{v:List Fact}{i:Int}(h:(!nr gs||decide (lI v≠0))=true):sj gs v i=([],1):=by unfold sj;rw[aV h]
def IZ{gs:List (List aa)}{v:List Fact}{i:Int}(h:(!nr gs||decide (lI v≠0))=false)(h2:(decide (i<0)||decide ((gs.length:Int)<=i))=true):sj gs v i=([],2):=by unfold sj;rw[aF (by rw[h];simp),aV h2]
def EJ{gs:List (List aa)}{v:List Fact}{i:Int}(h:(!nr gs||decide (lI v≠0))=false)(h2:(decide (i<0)||decide ((gs.length:Int)<=i))=false):sj gs v i=(vx gs v i,ll gs v):=by unfold sj;rw[aF (by rw[h];simp),aF (by rw[h2];simp)]
def Zd{gs:List (List aa)}{v:List Fact}{i:Int}(h:(!nr gs||decide (lI v≠0))=false)(h2:(decide (i<0)||decide ((gs.length:Int)<=i))=false){n:Int}(he:ll gs v=n)(hn:decide (n≠0)=true):sj gs v i=([],n):=by
 rw[EJ h h2,Zb he hn,he]
def BY{gs:List (List aa)}{pre:List Fact}{x:Fact}{i:Int}(h:decide ((gh gs (b_ x)).1=i)=true):ji gs (pre++[x]) i=ji gs pre i++[x]:=by
 unfold ji gY;rw[nq,oq,aV h];rfl
def EI{gs:List (List aa)}{pre:List Fact}{x:Fact}{i:Int}(h:decide ((gh gs (b_ x)).1=i)=false):ji gs (pre++[x]) i=ji gs pre i:=by
 unfold ji gY;rw[nq,oq,aF (by rw[h];simp)];simp
def IW(gs:List (List aa))(v:List Fact)(i:Int):(ji gs v i).length<=v.length:=nw _ _
def v7(s:Setup)(v:List Fact):Bool:=!decide (lH s.insts s.o7=0)||decide (lI v≠0)
@[reducible] def Ft(d:Int):Fact->Bool:=fun f=>decide (f.day<=d)
def jA(l:List Fact)(d:Int):List aa:=(l.filter (Ft d)).map (·.key)
def NG{l:List Fact}{x:Fact}{d:Int}(h:Ft d x=true):jA (l++[x]) d=jA l d++[x.key]:=by
 unfold jA;rw[nq,oq,aV h,Bh];rfl
def NF{l:List Fact}{x:Fact}{d:Int}(h:Ft d x=false):jA (l++[x]) d=jA l d:=by
 unfold jA;rw[nq,oq,aF (by rw[h];simp)];simp
def Wr(l:List Fact)(d:Int):(jA l d).length<=l.length:=by unfold jA;rw[bB];exact nw _ _
def HT{gs:List (List aa)}{l:List Fact}{x:Fact}{a d:Int}(h:(decide (gY gs x=a)&&Ft d x)=true):jA (ji gs (l++[x]) a) d=jA (ji gs l a) d++[x.key]:=by
 rw[bd]at h;rw[BY h.1,NG h.2]
def HU{gs:List (List aa)}{l:List Fact}{x:Fact}{a d:Int}(h:(decide (gY gs x=a)&&Ft d x)=false):jA (ji gs (l++[x]) a) d=jA (ji gs l a) d:=by
 cases h1:decide (gY gs x=a)with
 |false=>rw[EI h1]
 |true=>rw[h1,oL]at h;rw[BY h1,NF h]
def ez(v:List Fact)(c:aa):Fact:=(v.find? fun y:Fact=>decide (y.key=c)).getD default
def Lz{v:List Fact}{c:aa}(h:v.any (fun y:Fact=>decide (y.key=c))=true):(v.map aJ)[(max (fw (fun y:Fact=>decide (y.key=c)) v) 0).toNat]?=some (aJ (ez v c))/\ez v c∈v/\(max (fw (fun y:Fact=>decide (y.key=c)) v) 0).toNat<v.length:=by
 induction v with
 |nil=>cases h
 |cons a r ih=>
  by_cases k:decide (a.key=c)=true
  ·have e:fw (fun y:Fact=>decide (y.key=c)) (a::r)=0:=by unfold fw;rw[aV h,BA,k];rfl
   have e2:ez (a::r) c=a:=by unfold ez;rw[HX,k];rfl
   rw[e,e2];exact⟨rfl,by simp,by simp⟩
  ·have k:decide (a.key=c)=false:=by simpa using k
   have h2:r.any (fun y:Fact=>decide (y.key=c))=true:=by rw[pJ,k,Bool.false_or]at h;exact h
   have e:fw (fun y:Fact=>decide (y.key=c)) (a::r)=fw (fun y:Fact=>decide (y.key=c)) r+1:=by
    unfold fw;rw[aV h,aV h2,BA,k];rfl
   have e2:ez (a::r) c=ez r c:=by unfold ez;rw[HX,k]
   have h3:0<=fw (fun y:Fact=>decide (y.key=c)) r:=by have:=s0 (fun y:Fact=>decide (y.key=c)) r;rw[h2]at this;exact aG this
   obtain⟨i1,i2,i3⟩:=ih h2;rw[e,e2,show(max (fw (fun y:Fact=>decide (y.key=c)) r+1) 0).toNat=(max (fw (fun y:Fact=>decide (y.key=c)) r) 0).toNat+1 by omega];exact⟨by simpa using i1,by simp[i2],by simpa using i3⟩
noncomputable def pD(s:Setup)(v:List Fact)(c:aa):List aa×Int:=
 if v7 s v=true then([],1)
 else if v.any (fun y:Fact=>decide (y.key=c))=true then
  if gY (aW s v) (ez v c)=0 then([c],0)else(jA (ji (aW s v) v (gY (aW s v) (ez v c))) (ez v c).day,0)
 else if(en s.insts c).2.2=true then(jA (ji (aW s v) v (eW (aW s v) (en s.insts c).2.1)) (en s.insts c).1,0)
 else([],6)
section
variable{s:Setup} {v:List Fact} {c:aa}
def Jb(h:v7 s v=true):pD s v c=([],1):=by unfold pD;rw[aV h]
def Jc(h:v7 s v=false)(h2:v.any (fun y:Fact=>decide (y.key=c))=true)(h3:decide (gY (aW s v) (ez v c)=0)=true):pD s v c=([c],0):=by
 unfold pD;rw[aF (by rw[h];simp),aV h2,aV (aG h3)]
def Jd(h:v7 s v=false)(h2:v.any (fun y:Fact=>decide (y.key=c))=true)(h3:decide (gY (aW s v) (ez v c)=0)=false):pD s v c=(jA (ji (aW s v) v (gY (aW s v) (ez v c))) (ez v c).day,0):=by
 unfold pD;rw[aF (by rw[h];simp),aV h2,aF (fj h3)]
def Je(h:v7 s v=false)(h2:v.any (fun y:Fact=>decide (y.key=c))=false)(h3:(en s.insts c).2.2=true):pD s v c=(jA (ji (aW s v) v (eW (aW s v) (en s.insts c).2.1)) (en s.insts c).1,0):=by
 unfold pD;rw[aF (by rw[h];simp),aF (by rw[h2];simp),aV h3]
def Jf(h:v7 s v=false)(h2:v.any (fun y:Fact=>decide (y.key=c))=false)(h3:(en s.insts c).2.2=false):pD s v c=([],6):=by
 unfold pD;rw[aF (by rw[h];simp),aF (by rw[h2];simp),aF (by rw[h3];simp)]
def auc(h:v7 s v=false):sH s v=false/\lI v=0:=by
 simp only[v7,cq,Fh,cd,dY,rI,ne_eq]at h;refine⟨?_,h.2⟩;have hv:=(adN v).1 h.2;simp only[sH,cq,Fh,cd];exact⟨h.1,tM.2 fun f hf=>by simp[(hv.each f hf).1]⟩
end
def akk{s:Setup}{v:List Fact}{x:aa}(h:s7 s.insts x=true):eW (aW s v) x=mq (gJ (fa s v)) x:=by
 obtain⟨y,hy,e⟩:=j_.1 h;have e:=aG e;have hn:named (fa s v) x:=e▸am' hy;obtain⟨g,hg,hx⟩:=lA.1 (((yo _).keys x).2 hn);obtain⟨i,hi⟩:=mw hg;have kG:(aW s v)[i+1]?=some g:=hi;have h1:=Qp (Mg s v) kG hx;have hf:(gJ (fa s v)).flatten.Nodup:=(yo _).flat;rcases Qq hf x with k|k
 ·have e9:eW (aW s v) x<0:=k.2;omega
 ·exact k.2.1
def mI(gs:List (List aa))(f:Fact):List aa:=gs.getD (gY gs f).toNat []
@[reducible] def yu(l:List Fact)(f:Fact):Bool:=l.any fun g=>l4 f g
def eN(gs:List (List aa))(l other:List Fact):List aa:=((l.filter fun f=>!yu other f).map (mI gs)).flatten
def YO{gs:List (List aa)}{l other:List Fact}{x:Fact}(h:yu other x=true):eN gs (l++[x]) other=eN gs l other:=by
 unfold eN;rw[nq,oq,aF (by rw[h];simp)];simp
def YN{gs:List (List aa)}{l other:List Fact}{x:Fact}(h:yu other x=false):eN gs (l++[x]) other=eN gs l other++mI gs x:=by
 unfold eN;rw[nq,oq,aV (by rw[h];rfl)];simp
def Qx(s:Setup)(a b:List Fact):Bool:=(!decide (lH s.insts s.o7=0)||decide (lI a≠0))||decide (lI b≠0)
def Aa(gs:List (List aa))(a b:List Fact):List aa:=Lib.compact (fk (eN gs a b++eN gs b a))
@[reducible] def lK(v:List Fact)(f:Fact):Bool:=v.any fun g=>l4 g f
def jV(gs:List (List aa))(a b:List Fact)(l:List Fact):List aa:=l.foldl (fun o f=>if(lK a f&&lK b f)=true then o else e5 o (mI gs f)) []
def CC{gs:List (List aa)}{a b l:List Fact}{x:Fact}(h:(lK a x&&lK b x)=true):jV gs a b (l++[x])=jV gs a b l:=by unfold jV;rw[rH,oe,aV h];rfl
def CB{gs:List (List aa)}{a b l:List Fact}{x:Fact}(h:(lK a x&&lK b x)=false):jV gs a b (l++[x])=e5 (jV gs a b l) (mI gs x):=by unfold jV;rw[rH,oe,aF (by rw[h];simp)];rfl
def amE{gs:List (List aa)}{a b:List Fact}{x:aa}(l:List Fact):x∈jV gs a b l↔∃f∈l,(lK a f&&lK b f)=false/\x∈mI gs f:=by
 refine Cp (P:=fun l=>x∈jV gs a b l↔∃f∈l,(lK a f&&lK b f)=false/\x∈mI gs f) (by simp[jV]) (fun l y ih=>?_) l;cases h:lK a y&&lK b y with
 |true=>
  rw[CC h,ih];constructor
  ·rintro⟨f,h1,h2⟩;exact⟨f,by simp[h1],h2⟩
  ·rintro⟨f,h1,h2,h3⟩;rcases cM.1 h1 with k|k
   ·exact⟨f,k,h2,h3⟩
   ·obtain rfl:f=y:=by simpa using k
    rw[h]at h2;cases h2
 |false=>
  rw[CB h,Ii,ih];constructor
  ·rintro(⟨f,h1,h2⟩|h1)
   ·exact⟨f,by simp[h1],h2⟩
   ·exact⟨y,by simp,h,h1⟩
  ·rintro⟨f,h1,h2,h3⟩;rcases cM.1 h1 with k|k
   ·exact .inl ⟨f,k,h2,h3⟩
   ·obtain rfl:f=y:=by simpa using k
    exact .inr h3
def acx{gs:List (List aa)}{a b:List Fact}(l:List Fact):ie (jV gs a b l):=
 Cp (P:=fun l=>ie (jV gs a b l)) List.Pairwise.nil (fun l y ih=>by
  cases h:lK a y&&lK b y with
  |true=>rw[CC h];exact ih
  |false=>rw[CB h];exact FW ih) l
def Ik{gs:List (List aa)}{l other:List Fact}{x:aa}:x∈eN gs l other↔∃f∈l,yu other f=false/\x∈mI gs f:=by
 unfold eN;simp only[lA,dh,eX,lD];constructor
 ·rintro⟨_,⟨f,⟨h1,h2⟩,rfl⟩,h3⟩;exact⟨f,h1,h2,h3⟩
 ·rintro⟨f,h1,h2,h3⟩;exact⟨_,⟨f,⟨h1,h2⟩,rfl⟩,h3⟩
def ad7(v:List Fact)(f:Fact):lK v f=yu v f:=by unfold lK yu;congr 1;funext g;exact aqu g f
def UP{v:List Fact}{f:Fact}(h:f∈v):yu v f=true:=j_.2 ⟨f,h,Cl.2 rfl⟩
def ach(gs:List (List aa))(a b:List Fact):jV gs a b (a++b)=Aa gs a b:=by
 refine Q3 (acx _) (Kd (uc _) _ (dP _)) fun x=>?_;rw[amE,show x∈Aa gs a b↔_ from Ih,q7,cM,Ik,Ik];simp only[ad7];constructor
 ·rintro⟨f,hf,h1,h2⟩;rcases cM.1 hf with k|k
  ·rw[UP k,oL]at h1;exact .inl ⟨f,k,h1,h2⟩
  ·rw[UP k,AA]at h1;exact .inr ⟨f,k,h1,h2⟩
 ·rintro(⟨f,h0,h1,h2⟩|⟨f,h0,h1,h2⟩)
  ·exact⟨f,by simp[h0],by rw[h1,Bool.and_false],h2⟩
  ·exact⟨f,by simp[h0],by rw[h1,zT],h2⟩
def VX{one ns:List aa}:(e5 one ns).length<=one.length+ns.length:=yZ
noncomputable def qv(s:Setup)(a b:List Fact):List aa×Int:=if Qx s a b=true then([],1)else(Aa (aW s (a++b)) a b,0)
def Ac{s:Setup}{a b:List Fact}(h:Qx s a b=true):qv s a b=([],1):=by unfold qv;rw[aV h]
def Ab{s:Setup}{a b:List Fact}(h:Qx s a b=false):qv s a b=(Aa (aW s (a++b)) a b,0):=by unfold qv;rw[aF (by rw[h];simp)]
open Go.Proofs Go.Proofs.Tryz
def IC{a b:Fact}(h:a≠b):false=l4 a b:=by
 cases e:l4 a b with
 |false=>rfl
 |true=>exact absurd (Cl.1 e) h
def agX{a b:Fact}{p q:Prop}(h:(((((((((a.key=b.key/\a.iB=b.iB)/\(a.cancelled !=b.cancelled)=false)/\a.day=b.day)/\a.kind=b.kind)/\a.dV=b.dV)/\a.other=b.other)/\a.cur=b.cur)/\a.target=b.target)/\a.choice=b.choice))
  (h2:(((((((a.dc=b.dc/\a.l9=b.l9)/\a.mb=b.mb)/\[a.dn.num,a.dn.den]=[b.dn.num,b.dn.den])/\[a.ratio.num,a.ratio.den]=[b.ratio.num,b.ratio.den])/\[a.share.num,a.share.den]=[b.share.num,b.share.den])/\p)/\q))(h3:a.fF=b.fF)(h4:a.opts=b.opts):true=l4 a b:=by
 refine(Cl.2 ?_).symm;obtain⟨⟨⟨⟨⟨⟨⟨⟨⟨a1,a2⟩,a3⟩,a4⟩,a5⟩,a6⟩,a7⟩,a8⟩,a9⟩,z8⟩:=h;obtain⟨⟨⟨⟨⟨⟨⟨b1,b2⟩,b3⟩,b4⟩,b5⟩,b6⟩,_⟩,_⟩:=h2;obtain⟨_,_,_,_,_,_,_,_,_,_,_,_,⟨_,_⟩,⟨_,_⟩,⟨_,_⟩,_,_,_⟩:=a;obtain⟨_,_,_,_,_,_,_,_,_,_,_,_,⟨_,_⟩,⟨_,_⟩,⟨_,_⟩,_,_,_⟩:=b;have a3:=bne_eq_false_iff_eq.1 a3;simp only[l_,and_true]at*;subst a1 a2 a3 a4 a5 a6 a7 a8 a9 z8 b1 b2 b3 h3 h4;simp only[b4,b5,b6]
def RW{α:Type}{l pre r r2:List α}{x y:α}(hx:l=pre++x::r)(hy:l=pre++y::r2):x=y:=by rw[hx]at hy;simpa using (List.append_cancel_left hy▸rfl:(x::r).head?=(y::r2).head?)
def KN{α:Type}{l l2 pre r r2:List α}(hx:l=pre++r)(hy:l2=pre++r2)(h:l.length=l2.length):r.length=r2.length:=by subst hx hy;simpa using h
def RP{α:Type}{l:List α}{n:Nat}(h:n+1=l.length):∃y r,l=y::r:=by
 cases l with
 |nil=>cases h
 |cons y r=>exact⟨y,r,rfl⟩
def aoR{x y:dE}(h:(!decide ([x.fT,x.dc]=[y.fT,y.dc]))=false):x=y:=by cases x;cases y;simpa using h
def an7{x y:cY}(h:(!decide (ri x=ri y))=false):x=y:=by
 obtain⟨x1,⟨x2,x3⟩,⟨x4,x5⟩,⟨x6,x7⟩⟩:=x;obtain⟨y1,⟨y2,y3⟩,⟨y4,y5⟩,⟨y6,y7⟩⟩:=y;rw[Fh,cd]at h;simp only[ri,l_]at h;simp_all
def RV{α:Type}{l l2 pre r2:List α}(hx:l=pre++[])(hy:l2=pre++r2)(h:l.length=l2.length):l=l2:=by
 have:=KN hx hy h;obtain rfl:r2=[]:=cc.1 this.symm;rw[hx,hy]
structure aqv(a b:Fact)where
 pre:List dE
 rest:List dE
 az:List dE
 hx:a.fF=pre++rest
 hy:b.fF=pre++az
structure aqw(a b:Fact)where
 pre:List cY
 rest:List cY
 az:List cY
 hx:a.opts=pre++rest
 hy:b.opts=pre++az
def aac(a b:Fact):Fc prog 28 [.agg (aJ a),.agg (aJ b)] (.b (l4 a b)):=by
 refine ay func28 ntmps28 results28 ?_;refine U.um 0 18 rfl rfl (fun hb=>?_);refine U.um 0 19 rfl rfl (fun fH=>?_);simp only[bB,aD]at hb fH;refine go []<|br (fun h1=>?_) (fun h1=>?_)
 ·exact af rfl (Sub.bool (by refine IC fun e=>?_;subst e;simp at h1))
 ·have bJ:=h1;try simp only[bs]at bJ
  refine gP (fun hg=>oS (xs:=[a.dn.num,a.dn.den]) (ys:=[b.dn.num,b.dn.den]) underlying35 LW LW (.cons zK underlying33 isAgg33 rfl (.cons zK underlying33 isAgg33 rfl (.nil _))) rfl rfl rfl rfl rfl rfl)<|gP (fun hg=>oS (xs:=[a.ratio.num,a.ratio.den]) (ys:=[b.ratio.num,b.ratio.den]) underlying35 LW LW (.cons zK underlying33 isAgg33 rfl (.cons zK underlying33 isAgg33 rfl (.nil _))) rfl rfl rfl rfl rfl rfl)<|gP (fun hg=>oS (xs:=[a.share.num,a.share.den]) (ys:=[b.share.num,b.share.den]) underlying35 LW LW (.cons zK underlying33 isAgg33 rfl (.cons zK underlying33 isAgg33 rfl (.nil _))) rfl rfl rfl rfl rfl rfl)<|br (fun h2=>?_) (fun h2=>?_)
  ·exact af rfl (Sub.bool (by refine IC fun e=>?_;subst e;simp at h2))
  ·have di:=h2;try simp only[bs]at di
   have mf:a.fF.length=b.fF.length:=by simp at di;omega
   have td:a.opts.length=b.opts.length:=by simp at di;omega
   refine U.loop (ι:=aqv a b) (fun sx=>[(2,.box 0 0),(3,.box 1 0),(5,.i sx.pre.length)]) (fun sx=>[(0,.cells (aJ a)),(1,.cells (aJ b))]) (fun sx=>sx.rest.length) ⟨[],_,_,rfl,rfl⟩ ?_ ?_
   ·exact Le.mk rfl (.n 3 rfl rfl .nil) (.cons rfl rfl (.cons rfl rfl .nil))
   ·rintro⟨pre,rest,az,hx,hy⟩;dsimp only;have hl:=aT List.length hx;simp only[bl]at hl;have hr:=KN hx hy mf;rcases rest with _|⟨x,rest⟩
    ·have aiN:=RV hx hy mf;refine go []<|aH (by simp at hl|-;omega)<|go []<|U.loop (ι:=aqw a b) (fun sx=>[(2,.box 0 0),(3,.box 1 0),(6,.i sx.pre.length)]) (fun sx=>[(0,.cells (aJ a)),(1,.cells (aJ b))]) (fun sx=>sx.rest.length) ⟨[],_,_,rfl,rfl⟩ ?_ ?_
     ·exact Le.mk rfl (.n 3 rfl rfl .nil) (.cons rfl rfl (.cons rfl rfl .nil))
     ·rintro⟨pre,rest,az,hx,hy⟩;dsimp only;have hl:=aT List.length hx;simp only[bl]at hl;have hr:=KN hx hy td;rcases rest with _|⟨x,rest⟩
      ·have aiM:=RV hx hy td;exact go []<|aH (by simp at hl|-;omega)<|go []<|af rfl (Sub.bool (by exact agX bJ di aiN aiM))
      ·obtain⟨y,az,rfl⟩:=RP hr;simp only[bD]at hl;refine go []<|aM zQ<|ix zO (aK mF hx rfl)<|ix zO (aK mF hy rfl)<|oP (ZO (xs:=(ri x)) (ys:=(ri y)) underlying87 LW LW (.str zK underlying9 isAgg9 rfl (.sub zK underlying35 LW isAgg35 sizeOf35 rfl (.cons zK underlying33 isAgg33 rfl (.cons zK underlying33 isAgg33 rfl (.nil _))) rfl (.sub zK underlying35 LW isAgg35 sizeOf35 rfl (.cons zK underlying33 isAgg33 rfl (.cons zK underlying33 isAgg33 rfl (.nil _))) rfl (.sub zK underlying35 LW isAgg35 sizeOf35 rfl (.cons zK underlying33 isAgg33 rfl (.cons zK underlying33 isAgg33 rfl (.nil _))) rfl (.nil _))))) rfl rfl rfl rfl rfl rfl)<|ord<|br (fun h3=>?_) (fun h3=>?_)
       ·exact af rfl (Sub.bool (by refine IC fun e=>?_;subst e;rw[RW hx hy]at h3;simp at h3))
       ·exact sd (ao zO)<|nx ⟨pre++[x],rest,az,by simp[hx],by rw[hy,<-an7 h3];simp⟩ zS (Le.mk rfl (.n 2 rfl rfl (.cons rfl (Sub.int zS) rfl .nil)) (.cons rfl rfl (.cons rfl rfl .nil)))
    ·obtain⟨y,az,rfl⟩:=RP hr;simp only[bD]at hl;refine go []<|aM zQ<|ix zO (aK j0 hx rfl)<|ix zO (aK j0 hy rfl)<|oP (oS (xs:=[x.fT,x.dc]) (ys:=[y.fT,y.dc]) underlying85 LW LW (.cons zK underlying9 isAgg9 rfl (.cons zK underlying33 isAgg33 rfl (.nil _))) rfl rfl rfl rfl rfl rfl)<|ord<|br (fun h4=>?_) (fun h4=>?_)
     ·exact af rfl (Sub.bool (by refine IC fun e=>?_;subst e;rw[RW hx hy]at h4;simp at h4))
     ·exact sd (ao zO)<|nx ⟨pre++[x],rest,az,by simp[hx],by rw[hy,<-aoR h4];simp⟩ zS (Le.mk rfl (.n 2 rfl rfl (.cons rfl (Sub.int zS) rfl .nil)) (.cons rfl rfl (.cons rfl rfl .nil)))
structure agE(l:List Fact)where
 pre:List Fact
 rest:List Fact
 hx:l=pre++rest
def agD(l:List Fact):Fc prog 34 [aQ l,aQ l,.fn (.func 28) [] []] (.b true):=by
 refine ay func34 ntmps34 results34 ?_;refine U.eh 0 rfl (fun hb=>?_);simp only[bB,aD]at hb;refine go []<|aH zS<|U.loop (ι:=agE l) (fun sx=>[(0,aQ l),(1,aQ l),(2,.fn (.func 28) [] []),(15,aQ l),(16,.i l.length),(17,.i sx.pre.length)]) (fun sx=>[]) (fun sx=>sx.rest.length) ⟨[],_,rfl⟩ ?_ ?_
 ·exact Le.mk rfl (.n 4 rfl rfl (.cons rfl (Sub.int zS) rfl (.s rfl rfl .nil))) .nil
 ·rintro⟨pre,rest,hx⟩;dsimp only;rcases lc hx with⟨rfl,hl⟩|⟨x,rest,rfl,hl⟩
  ·exact go []<|aH (by simp at hl|-;omega)<|go []<|af rfl (Sub.refl _)
  ·exact go []<|aM zQ<|ix zO (aK aJ hx rfl)<|ix zO (aK aJ hx rfl)<|oP (eO call28 rfl rfl (aac x x))<|aH (by rw[Cl.2 rfl];rfl)<|sd (ao zO)<|nx ⟨pre++[x],rest,by simp[hx]⟩ zS (Le.mk rfl (.n 5 rfl rfl (.cons rfl (Sub.int zS) rfl .nil)) .nil)
@[reducible] def rY(f:Fact):Prop:=f.opts.length<=100000/\∀s∈fJ f,dX s
def BJ{l:List Fact}(h:l=[]):Sub (.raw (.slice none 0 0)) (aQ l):=by subst h;exact(Sub.nil _ false).trans (Sub.snap zS)
def zd{l:List aa}(h:l=[]):Sub (.raw (.slice none 0 0)) (bg l):=by subst h;exact(Sub.nil _ false).trans (Sub.snap zS)
def atN{gs:List (List aa)}(hv:nr gs=true)(f:Fact)(ho:f.opts.length<=100000):Fc prog 58 [dm gs,.agg (aJ f)] (.a_ [.i (gh gs (b_ f)).1,.i (gh gs (b_ f)).2]):=by
 obtain⟨tl,rfl,hn⟩:=aty hv;exact abq tl f hn ho
structure aoJ(gs:List (List aa))(v:List Fact)(i:Int)where
 pre:List Fact
 rest:List Fact
 hx:v=pre++rest
 hp:ll gs v=ll gs rest
def Pd(gs:List (List aa))(v:List Fact)(i:Int)(nP:v.length<=1000)(hb:∀f∈v,rY f):Fc prog 66 [dm gs,aQ v,.i i] (.a_ [aQ (vx gs v i),.i (ll gs v)]):=by
 refine gq func66 ntmps66 results66 ?_;refine go [11]<|U.loop (ι:=aoJ gs v i) (fun sx=>[(0,dm gs),(2,.i i),(8,.gs 1 (ji gs sx.pre i).length),(13,aQ v),(14,.i v.length),(15,.i sx.pre.length)]) (fun sx=>[(1,.arr 21 ((ji gs sx.pre i).map aJ))]) (fun sx=>sx.rest.length) ⟨[],_,rfl,rfl⟩ ?_ ?_
 ·exact(Le.gC 1 21).trans<|Le.mk rfl (.n 2 rfl rfl (.cons rfl (Sub.oz _) rfl (.s rfl rfl (.cons rfl (Sub.int zS) rfl (.s rfl rfl .nil))))) (.arr rfl (by rfl) .nil)
 ·rintro⟨pre,rest,hx,hp⟩;dsimp only;rcases lc hx with⟨rfl,hl⟩|⟨x,rest,rfl,hl⟩
  ·obtain rfl:v=pre:=by simpa using hx
   refine go [11]<|aH zS<|go [11] ?_;refine U.bc (Le.freeze 8 1 rfl rfl zS) ?_;exact go []<|cw rfl rfl (Sub.snap (by rw[IX hp])) (Sub.int (by exact hp.symm))
  ·refine go [11]<|aM zQ<|ix zO (aK aJ hx rfl)<|oP (ah call56 rfl (OT gs x (dM (hb x (by rw[hx];simp)).1 zD) (hb x (by rw[hx];simp)).2))<|br (fun h1=>?_) (fun h1=>?_)
   ·exact cw rfl rfl (by exact BJ (Zb (IU hp h1) h1)) (Sub.int (by exact(IU hp h1).symm))
   ·refine br (fun h2=>?_) (fun h2=>?_)
    ·exact oP (ZD (ds:=aJ x) underlying31 sizeOf39 rfl rfl zeroValue39 rfl rfl rfl rfl)<|oW (ee 2 underlying31 underlying31 sizeOf39 typeInfo39 zeroValue39 rfl (bt:=312) rfl rfl rfl rfl zS rfl rfl (by have:=IW gs pre i;simp;omega))<|sd (ao zO)<|nx ⟨pre++[x],rest,by simp[hx],IT hp h1⟩ zS ((Le.mk (aj:=[(2,_)]) rfl (show ct _ _ [(0,_),(2,_),(8,_),(13,_),(14,_),(15,_)]from(.n 6 rfl rfl .nil)) (.cons (i:=2) rfl rfl .nil)).trans<|(Le.iz 8 2 1 rfl rfl zS rfl).trans<|Le.mk rfl (.n 2 rfl rfl (.cons rfl (Sub.gs (by rw[BY zA];simp)) rfl (.n 2 rfl rfl (.cons rfl (Sub.int zS) rfl .nil)))) (.arr rfl (by rw[BY zA];simp) .nil))
    ·exact sd (ao zO)<|nx ⟨pre++[x],rest,by simp[hx],IT hp h1⟩ zS (Le.mk rfl (.n 2 rfl rfl (.cons rfl (Sub.gs (by rw[EI zA])) rfl (.n 2 rfl rfl (.cons rfl (Sub.int zS) rfl .nil)))) (.arr rfl (by rw[EI zA]) .nil))
def abV(gs:List (List aa))(v:List Fact)(i:Int)(nP:v.length<=1000)(hb:∀f∈v,rY f)(hf:∀f∈v,lM f):Fc prog 26 [dm gs,aQ v,.i i] (.a_ [aQ (sj gs v i).1,.i (sj gs v i).2]):=by
 refine gq func26 ntmps26 results26 ?_;refine go []<|oP (ah call55 rfl (atv _))<|gP (fun hg=>ah call65 rfl (Ct _ zA))<|br (fun h1=>?_) (fun h1=>?_)
 ·exact cw rfl rfl (by exact BJ (by rw[IY h1])) (Sub.int (by rw[IY h1]))
 ·refine br (fun h2=>?_) (fun h2=>?_)
  ·have h2:(decide (i<0)||decide ((gs.length:Int)<=i))=true:=by simpa using h2
   exact cw rfl rfl (by exact BJ (by rw[IZ h1 h2])) (Sub.int (by rw[IZ h1 h2]))
  ·have h2:(decide (i<0)||decide ((gs.length:Int)<=i))=false:=by simpa using h2
   exact oP (ah call66 rfl (Pd gs v i nP hb))<|cw rfl rfl (Sub.snap (by rw[EJ h1 h2])) (Sub.int (by rw[EJ h1 h2]))
structure abU(gs:List (List aa))(v:List Fact)(i:Int)where
 pre:List Fact
 rest:List Fact
 hx:v=pre++rest
 hp:ll gs v=ll gs rest
def abT(gs:List (List aa))(v:List Fact)(i:Int)(nP:v.length<=1000)(hb:∀f∈v,rY f)(hg:gs.flatten.length<=100000)(hf:∀f∈v,pa f):Fc prog 29 [dm gs,aQ v,.i i] (.a_ [aQ (sj gs v i).1,.i (sj gs v i).2]):=by
 refine gq func29 ntmps29 results29 ?_;refine go [14]<|oP (ah call57 rfl (acu _ zA))<|gP (fun hg=>ah call24 rfl (JJ _ zA))<|br (fun h1=>?_) (fun h1=>?_)
 ·exact cw rfl rfl (by exact BJ (by rw[IY h1])) (Sub.int (by rw[IY h1]))
 ·refine br (fun h2=>?_) (fun h2=>?_)
  ·have h2:(decide (i<0)||decide ((gs.length:Int)<=i))=true:=by simpa using h2
   exact cw rfl rfl (by exact BJ (by rw[IZ h1 h2])) (Sub.int (by rw[IZ h1 h2]))
  ·have h2:(decide (i<0)||decide ((gs.length:Int)<=i))=false:=by simpa using h2
   have mJ:=h1;rw[cq]at mJ;have iL:nr gs=true:=by simpa using mJ.1
   refine U.loop (ι:=abU gs v i) (fun sx=>[(0,dm gs),(1,aQ v),(2,.i i),(8,.gs 0 (ji gs sx.pre i).length),(9,.i sx.pre.length)]) (fun sx=>[(0,.arr 21 ((ji gs sx.pre i).map aJ))]) (fun sx=>sx.rest.length) ⟨[],_,rfl,rfl⟩ ?_ ?_
   ·exact(Le.gC 0 21).trans<|Le.mk rfl (.n 3 rfl rfl (.cons rfl (Sub.oz _) rfl (.s rfl rfl .nil))) (.arr rfl (by rfl) .nil)
   ·rintro⟨pre,rest,hx,hp⟩;dsimp only;rcases lc hx with⟨rfl,hl⟩|⟨x,rest,rfl,hl⟩
    ·obtain rfl:v=pre:=by simpa using hx
     refine go [14]<|aH zS<|go [14] ?_;refine U.bc (Le.freeze 8 0 rfl rfl zS) ?_;exact go []<|cw rfl rfl (Sub.snap (by rw[EJ h1 h2,IX hp])) (Sub.int (by rw[EJ h1 h2];exact hp.symm))
    ·refine go [14]<|aM zQ<|ix zO (tq hx rfl)<|oP (ah call58 rfl (atN iL x (hb x (by rw[hx];simp)).1))<|br (fun h3=>?_) (fun h3=>?_)
     ·exact cw rfl rfl (by exact BJ (by rw[Zd h1 h2 (IU hp h3) h3])) (Sub.int (by rw[Zd h1 h2 (IU hp h3) h3]))
     ·refine br (fun h4=>?_) (fun h4=>?_)
      ·exact ix zO (tq hx rfl)<|oP (ZD (ds:=aJ x) underlying31 sizeOf39 rfl rfl zeroValue39 rfl rfl rfl rfl)<|oW (ee 1 underlying31 underlying31 sizeOf39 typeInfo39 zeroValue39 rfl (bt:=312) rfl rfl rfl rfl zS rfl rfl (by have:=IW gs pre i;simp;omega))<|sd (ao zO)<|nx ⟨pre++[x],rest,by simp[hx],IT hp h3⟩ zS ((Le.mk (aj:=[(1,_)]) rfl (show ct _ _ [(0,_),(1,_),(2,_),(8,_),(9,_)]from(.n 5 rfl rfl .nil)) (.cons (i:=1) rfl rfl .nil)).trans<|(Le.iz 8 1 0 rfl rfl zS rfl).trans<|Le.mk rfl (.n 3 rfl rfl (.cons rfl (Sub.gs (by rw[BY zA];simp)) rfl (.cons rfl (Sub.int zS) rfl .nil))) (.arr rfl (by rw[BY zA];simp) .nil))
      ·exact sd (ao zO)<|nx ⟨pre++[x],rest,by simp[hx],IT hp h3⟩ zS (Le.mk rfl (.n 3 rfl rfl (.cons rfl (Sub.gs (by rw[EI zA])) rfl (.cons rfl (Sub.int zS) rfl .nil))) (.arr rfl (by rw[EI zA]) .nil))
structure akW(l:List Fact)(d:Int)where
 pre:List Fact
 rest:List Fact
 hx:l=pre++rest
def Ws(l:List Fact)(d:Int)(hl:l.length<=1000):Fc prog 71 [aQ l,.i d] (bg (jA l d)):=by
 refine ay func71 ntmps71 results71 ?_;refine go [8]<|U.loop (ι:=akW l d) (fun sx=>[(1,.i d),(5,.gs 1 (jA sx.pre d).length),(8,aQ l),(9,.i l.length),(10,.i sx.pre.length)]) (fun sx=>[(1,.arr 1 (cm (jA sx.pre d)))]) (fun sx=>sx.rest.length) ⟨[],_,rfl⟩ ?_ ?_
 ·exact(Le.gC 1 1).trans<|Le.mk rfl (.s rfl rfl (.cons rfl (Sub.oz _) rfl (.s rfl rfl (.cons rfl (Sub.int zS) rfl (.s rfl rfl .nil))))) (.arr rfl (by rfl) .nil)
 ·rintro⟨pre,rest,hx⟩;dsimp only;rcases lc hx with⟨rfl,hl⟩|⟨x,rest,rfl,hl⟩
  ·obtain rfl:l=pre:=by simpa using hx
   refine go [8]<|aH zS<|go [8] ?_;refine U.bc (Le.freeze 5 1 rfl rfl zS) ?_;exact go []<|af rfl (Sub.refl _)
  ·refine go [8]<|aM zQ<|ix zO (aK aJ hx rfl)<|br (fun h1=>?_) (fun h1=>?_)
   ·exact oP (oQ underlying48 sizeOf9 zeroValue9 rfl rfl rfl rfl rfl)<|oW (ee 2 underlying48 underlying48 sizeOf9 typeInfo9 zeroValue9 rfl (bt:=16) rfl rfl rfl rfl zS rfl rfl (by have:=Wr pre d;simp;omega))<|sd (ao zO)<|nx ⟨pre++[x],rest,by simp[hx]⟩ zS ((Le.mk (aj:=[(2,_)]) rfl (show ct _ _ [(1,_),(5,_),(8,_),(9,_),(10,_)]from(.n 5 rfl rfl .nil)) (.cons (i:=2) rfl rfl .nil)).trans<|(Le.iz 5 2 1 rfl rfl zS rfl).trans<|Le.mk rfl (.s rfl rfl (.cons rfl (Sub.gs (by rw[NG h1];simp[cm])) rfl (.n 2 rfl rfl (.cons rfl (Sub.int zS) rfl .nil)))) (.arr rfl (by rw[NG h1];simp[cm]) .nil))
   ·exact sd (ao zO)<|nx ⟨pre++[x],rest,by simp[hx]⟩ zS (Le.mk rfl (.s rfl rfl (.cons rfl (Sub.gs (by rw[NF h1])) rfl (.n 2 rfl rfl (.cons rfl (Sub.int zS) rfl .nil)))) (.arr rfl (by rw[NF h1]) .nil))
end Go.T
