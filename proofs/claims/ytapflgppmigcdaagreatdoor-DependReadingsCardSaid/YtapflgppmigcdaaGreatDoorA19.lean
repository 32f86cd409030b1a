/- Contracts of functions that the statement reaches, and the logic in which they are proved (no condition). -/
import Derived.Test.YtapflgppmigcdaaGreatDoorA18
set_option linter.all false
set_option maxRecDepth 20000
namespace Go.T
open Go
def CM(k:Int):Bool:=decide (k=7)||decide (k=16)
def uC(k:Int):List Int:=
 if k=1 then[2,5]else if k=2 then[2,5]else if k=6 then[2,5]else if k=17 then[2,5]else if k=18 then[2,5]
 else if k=3 then[0,4,5,6]else if k=4 then[0,4,5,6,10]else if k=5 then[0,7]else if k=13 then[0,7]else if k=14 then[0,7]else if k=15 then[0,7]
 else if k=7 then[1,2,4,5]else if k=8 then[0,7,8]else if k=9 then[0,1,7,8,9]else if k=10 then[0,11]else if k=11 then[0,3,12]
 else if k=12 then[0,1,4,7,8]else if k=16 then[1,2,8]else[]
def mM(k n:Int):Bool:=(uC k).any fun m=>decide (m=n)
def zY(k:Int):aa:=match eU k with
 |some r=>r.w
 |none=>[]
def B2(k n:Int):Bool:=!(decide (n=6)||(decide (n=5)&&(decide (k=3)||decide (k=4))))
def W0(k n:Int):Bool×Bool:=if n=7 then(decide (k=5)||decide (k=13),false)else if n=8 then(true,false)else if n=9 then(false,true)else(B2 k n,false)
def arB:(yV.all fun k=>iU.all fun n=>match eU k with|some r=>(nJ r n.toNat==mM k n)&&(r.code==CM k)&&decide (r.w≠[])|none=>false)=true:=by decide
def arC:(yV.all fun k=>[4,5,6,7,8,9].all fun n=>match eU k with|some r=>!nJ r n.toNat||decide (qa r n=W0 k n)|none=>false)=true:=by decide
def arA:(yV.all fun k=>!mM k 11||mM k 0)=true:=by decide
def Jn{k:Int}{r:jT}(h:eU k=some r){n:Int}(hn:n∈iU):nJ r n.toNat=mM k n/\r.code=CM k/\r.w≠[]:=by
 have h1:=de.1 (de.1 arB k (Ig.2 (E5 h))) n hn;rw[h]at h1;simpa[and_assoc]using h1
def aqg{k:Int}{r:jT}(h:eU k=some r){n:Int}(hn:n∈[(4:Int),5,6,7,8,9])(hh:nJ r n.toNat=true):qa r n=W0 k n:=by
 have h1:=de.1 (de.1 arC k (Ig.2 (E5 h))) n hn;rw[h]at h1;simpa[hh]using h1
def atX(k:Int):decide (zY k=[])=!(eU k).isSome:=by
 unfold zY;cases h:eU k with
 |none=>rfl
 |some r=>simpa using (Jn h (n:=0) zD).2.2
def IN(o:cY):Bool:=(decide (o.other≠[])&&decide (kg o.ratio dJ=0))||(decide (o.other=[])&&(!decide (kg o.ratio dJ=0)||decide (kg o.value dJ≠0)))
def BW(i:aa)(o:cY)(d:Int):Int:=if(decide (o.other≠[])&&!isName o.other)=true then 23 else if(decide (o.other≠[])&&decide (o.other=i))=true then 18 else oE [o.ratio,o.dn,o.value] (if IN o=true then 2 else d)
def rl(i:aa):List cY->Int
 |[]=>0
 |o::r=>BW i o (rl i r)
def si(f:Fact):Int:=if decide ((f.opts.length:Int)=0)=true then 11 else if decide (8<(f.opts.length:Int))=true then 4 else rl f.dV f.opts
theorem W_:∀(l:List aO){d d':Int},((∀x∈l,fL false false x=0)->d=d')->oE l d=oE l d'
 |[],d,d',h=>h zS
 |x::r,d,d',h=>by
  simp only[oE];by_cases k:decide (fL false false x≠0)=true
  ·rw[aV k,aV k]
  ·rw[aF k,aF k];refine W_ r fun hr=>h fun y hy=>?_;rcases cr.1 hy with rfl|hy
   ·simpa using k
   ·exact hr y hy
def apS(f:aO):kg f dJ=0↔val f.num=0:=by
 have h2:fN dJ=([],[49]):=EY zD;have h3:=Cb f;unfold kg;rw[h2,tU,gO,gO,val_one,vZ,Co];have e:val (bQ f).1=val f.num:=by rw[B0]
 by_cases k:val (bQ f).2<0
 ·rw[(h3.1 k).1,e];simp
 ·rw[(h3.2 k).1,e];simp
def Kz{f:aO}(h:iI f=0):kg f dJ=0↔f=dJ:=by
 rw[apS];constructor
 ·intro hv;have hf:f=cS (val (bQ f).1) (val (bQ f).2):=by
   unfold iI at h;by_cases k:f=cS (val (bQ f).1) (val (bQ f).2)
   ·exact k
   ·rw[aF k]at h;cases h
  rw[hf,<-Ia];have:val (fN f).1=0:=by
   have h3:=Cb f;by_cases k:val (bQ f).2<0
   ·rw[(h3.1 k).1,B0,hv];rfl
   ·rw[(h3.2 k).1,B0,hv]
  rw[this,Xv (EZ f)];rfl
 ·rintro rfl;exact vZ
def W1{pos part:Bool}{f:aO}(h:fL pos part f=0):iI f=0:=by
 unfold fL va at h;by_cases k:decide (iI f≠0)=true
 ·rw[aV k]at h;cases h
 ·simpa using k
def GV(f:aO):decide ([f.num,f.den]=[[],[]])=decide (f=dJ):=by
 rw[ou];cases f;simp[dJ]
def anZ{i:aa}(hi:i≠[])(o:cY){d d':Int}(hd:d=d'):BW i o d=BV i o d':=by
 subst hd;unfold BW BV;by_cases h1:(decide (o.other≠[])&&!isName o.other)=true
 ·rw[aV h1,aV h1]
 ·rw[aF h1,aF h1];have e:(decide (o.other≠[])&&decide (o.other=i))=decide (o.other=i):=by
   by_cases k:o.other=i
   ·simp[k,hi]
   ·simp[k]
  rw[e];by_cases h2:decide (o.other=i)=true
  ·rw[aV h2,aV h2]
  ·rw[aF h2,aF h2];refine W_ _ fun hl=>?_;have e1:decide (kg o.ratio dJ=0)=decide (o.ratio=dJ):=ou.2 (Kz (W1 (hl o.ratio zS)));have hc:=Kz (W1 (hl o.value zS));have e2:decide (kg o.value dJ≠0)=!decide (o.value=dJ):=by
    rw[decide_not];congr 1;exact ou.2 hc
   have:IN o=EB o:=by
    unfold IN EB;rw[GV,GV,e1,e2];by_cases k:o.other=[]
    ·simp[k]
    ·simp[k]
   rw[this]
theorem YT{i:aa}(hi:i≠[]):∀l:List cY,rl i l=qf i l
 |[]=>rfl
 |o::r=>anZ hi o (YT hi r)
def an_{f:Fact}(hi:f.dV≠[]):si f=rj f:=by
 unfold si rj;rw[YT hi]
def vR(f:aO):Int:=if decide (fL false false f≠0)=true then fL false false f else if decide (0<kg f (cS 1 1))=true then 2 else 0
def aqU(f:aO):vR f=fL false true f:=by
 have e:cS 1 1=cS (val [49]) (val [49]):=by rw[val_one]
 unfold vR;rw[PH,e];unfold fL va H5;by_cases h:decide (iI f≠0)=true
 ·rw[aV h,aV h];rfl
 ·rw[aF h,aF h];generalize (decide (40<((lB f.num [45]).length:Int))||decide (40<((lB f.den [45]).length:Int)))=aD;generalize decide (sR f dJ<0)=lo;generalize decide (0<sR f (cS (val [49]) (val [49])))=hi;cases aD<;>cases lo<;>cases hi<;>simp
def sZ(f:Fact)(n:Int):Int:=
 if decide (n=0)=true then kc f.dV else if decide (n=1)=true then nW f (CM f.kind)else if decide (n=2)=true then(if(!gf f.cur)=true then 12 else 0)
 else if decide (n=3)=true then kc f.target else if decide (n=4)=true then fL true false ⟨f.dc,[]⟩else if decide (n=5)=true then fL (B2 f.kind 5) false ⟨f.l9,[]⟩
 else if decide (n=6)=true then fL false false ⟨f.mb,[]⟩else if decide (n=7)=true then fL (decide (f.kind=5)||decide (f.kind=13)) false f.dn
 else if decide (n=8)=true then fL true false f.ratio else if decide (n=9)=true then vR f.share else if decide (n=10)=true then tZ f else if decide (n=11)=true then si f
 else if decide (n=12)=true then(if decide (f.choice<0)=true then 2 else 0)else 0
def ahd{f:Fact}{r:jT}(h:eU f.kind=some r){n:Int}(hn:n∈iU)(hh:mM f.kind n=true)(hi:n=11->f.dV≠[]):sZ f n=eR f r.code n (qa r n):=by
 have h1:=Jn h hn;rw[hh]at h1;have h2:=fun k=>aqg h (n:=n) k h1.1;simp only[iU,cr,tu,GD]at hn;rw[h1.2.1];rcases hn with rfl|rfl|rfl|rfl|rfl|rfl|rfl|rfl|rfl|rfl|rfl|rfl|rfl
 ·rfl
 ·rfl
 ·rfl
 ·rfl
 ·rw[h2 zD];rfl
 ·rw[h2 zD];rfl
 ·rw[h2 zD];rfl
 ·rw[h2 zD];rfl
 ·rw[h2 zD];rfl
 ·rw[h2 zD];exact aqU f.share
 ·rfl
 ·exact an_ (hi rfl)
 ·rfl
def mH(f:Fact):List Int->Int
 |[]=>0
 |n::l=>if mM f.kind n=true then(if decide (sZ f n≠0)=true then sZ f n else mH f l)else if(!eG f n)=true then 1 else mH f l
theorem LI{f:Fact}{r:jT}(h:eU f.kind=some r):∀(l:List Int),(∀n∈l,n∈iU)->(mM f.kind 11=true->f.dV≠[])->mH f l=mc f r l
 |[],_,_=>rfl
 |n::l,hl,hi=>by
  have h1:=Jn h (hl n zS);have ih:=LI h l (fun m hm=>hl m (by simp[hm])) hi;simp only[mH,mc];rw[h1.1,ih];by_cases k:mM f.kind n=true
  ·rw[aV k,aV k,ahd h (hl n zS) k (fun e=>hi (by rw[<-e];exact k))]
  ·rw[aF k,aF k]
def kW(f:Fact):Int:=
 if(!isName f.key)=true then 23 else if decide (f.iB<0)=true then 2
 else if f.cancelled=true then(if iU.any (fun n=>!eG f n)=true then 1 else if(decide (f.day≠0)||decide (f.kind≠0))=true then 1 else 0)
 else if(decide (f.day< -25567)||decide (84005<f.day))=true then 13 else if decide (zY f.kind=[])=true then 7 else mH f iU
def ahE(f:aO):[f.num,f.den]=[[],[]]↔f=dJ:=ou.1 (GV f)
def atG{f:Fact}(h:f.cancelled=true):(!l4 f (zW f))=(iU.any (fun n=>!eG f n)||(decide (f.day≠0)||decide (f.kind≠0))):=by
 have e1:j1 f.fF []=true↔(f.fF.length:Int)=0:=by cases f.fF<;>simp[j1]<;>omega
 have e2:j1 f.opts []=true↔(f.opts.length:Int)=0:=by cases f.opts<;>simp[j1]<;>omega
 have f0:eG f 0=true↔f.dV=[]:=vb;have f1:eG f 1=true↔f.other=[]:=vb;have f2:eG f 2=true↔f.cur=[]:=vb;have f3:eG f 3=true↔f.target=[]:=vb;have f4:eG f 4=true↔f.dc=[]:=by rw[show eG f 4=decide (jR f 4=dJ)from rfl,cd];simp[jR,dJ]
 have f5:eG f 5=true↔f.l9=[]:=by rw[show eG f 5=decide (jR f 5=dJ)from rfl,cd];simp[jR,dJ]
 have f6:eG f 6=true↔f.mb=[]:=by rw[show eG f 6=decide (jR f 6=dJ)from rfl,cd];simp[jR,dJ]
 have f7:eG f 7=true↔f.dn=dJ:=by rw[show eG f 7=decide (jR f 7=dJ)from rfl,cd];simp[jR]
 have f8:eG f 8=true↔f.ratio=dJ:=by rw[show eG f 8=decide (jR f 8=dJ)from rfl,cd];simp[jR]
 have f9:eG f 9=true↔f.share=dJ:=by rw[show eG f 9=decide (jR f 9=dJ)from rfl,cd];simp[jR]
 have f10:eG f 10=true↔(f.fF.length:Int)=0:=vb;have f11:eG f 11=true↔(f.opts.length:Int)=0:=vb;have f12:eG f 12=true↔f.choice=0:=vb;have key:l4 f (zW f)=true↔¬(iU.any (fun n=>!eG f n)||(decide (f.day≠0)||decide (f.kind≠0)))=true:=by
  simp only[l4,zW,iU,pJ,y0,tC,bd,fZ,cd,lD,ahE,h,JT,H4,HW,Bool.not_eq_false,f0,f1,f2,f3,f4,f5,f6,f7,f8,f9,f10,f11,f12,e1,e2,ne_eq,Classical.not_not];constructor
  ·rintro⟨⟨⟨⟨⟨⟨⟨⟨⟨⟨⟨⟨⟨⟨a1,a2⟩,a3⟩,a4⟩,a5⟩,a6⟩,a7⟩,a8⟩,a9⟩,b1⟩,b2⟩,b3⟩,b4⟩,b5⟩,b6⟩;exact⟨⟨aG a3,aG a4,aG a5,aG a6,aG a7,aG a8,aG a9,b1,b2,b3,b4,b5,aG b6⟩,aG a1,aG a2⟩
  ·rintro⟨⟨a1,a2,a3,a4,a5,a6,a7,a8,a9,b1,b2,b3,b4⟩,b5,b6⟩;simp[*]
 cases k:l4 f (zW f)with
 |true=>
  have:=key.1 k;simp only[zh];exact(Bool.eq_false_iff.2 this).symm
 |false=>
  simp only[BB];cases k2:(iU.any (fun n=>!eG f n)||(decide (f.day≠0)||decide (f.kind≠0)))with
  |true=>rfl
  |false=>
   have:=key.2 (by rw[k2];simp);rw[k]at this;cases this
def adJ(f:Fact):kW f=gy f:=by
 unfold kW gy;by_cases h1:(!isName f.key)=true
 ·rw[aV h1,aV h1]
 rw[aF h1,aF h1];by_cases h2:decide (f.iB<0)=true
 ·rw[aV h2,aV h2]
 rw[aF h2,aF h2];by_cases h3:f.cancelled=true
 ·rw[aV h3,aV h3,atG h3];by_cases k:(iU.any fun n=>!eG f n)=true
  ·rw[aV k,aV (by rw[k];rfl)]
  ·rw[aF k];by_cases k2:(decide (f.day≠0)||decide (f.kind≠0))=true
   ·rw[aV k2,aV (by rw[k2,Bool.or_true])]
   ·rw[aF k2,aF (by rw[fZ];exact fun e=>e.elim k k2)]
 rw[aF h3,aF h3];by_cases h4:(decide (f.day< -25567)||decide (84005<f.day))=true
 ·rw[aV h4,aV h4]
 rw[aF h4,aF h4,atX];unfold yW;cases h:eU f.kind with
 |none=>rfl
 |some r=>
  simp only[Option.isSome_some,zh,gM,pb];by_cases hz:mM f.kind 0=true
  ·by_cases hn:kc f.dV=0
   ·refine LI h iU (fun _ h=>h) fun _ e=>?_;rw[e]at hn;revert hn;decide
   ·have e:sZ f 0=kc f.dV:=rfl;have e':eR f r.code 0 (qa r 0)=kc f.dV:=rfl;have h1:=(Jn h (n:=0) zD).1;show(if mM f.kind 0=true then(if decide (sZ f 0≠0)=true then sZ f 0 else _)else _)=(if nJ r (0:Int).toNat=true then(if decide (eR f r.code 0 (qa r 0)≠0)=true then eR f r.code 0 (qa r 0)else _)else _);rw[h1,aV hz,aV hz,e,e',aV (iH hn),aV (iH hn)]
  ·refine LI h iU (fun _ h=>h) fun k=>?_;have:=de.1 arA f.kind (Ig.2 (E5 h));rw[k]at this;exact absurd (by simpa using this) hz
open Go.Proofs Go.Proofs.Tryz
structure pa(f:Fact):Prop where
 fF:∀p∈f.fF,p.fT.length<=200/\p.dc.length<=13
 dc:f.dc.length<=13
 l9:f.l9.length<=13
 mb:f.mb.length<=13
 dn:jQ f.dn
 ratio:jQ f.ratio
 share:jQ f.share
 opts:∀o∈f.opts,jQ o.ratio/\jQ o.dn/\jQ o.value
def afh{a:aa}(h:(decide (0<(a.length:Int))&&decide (((a.headD 0).toNat:Int)=45))=true):(a.length:Int)-1=kq a:=by
 rw[bd]at h;have h1:a≠[]:=by rintro rfl;simp at h
 unfold kq;rw[aV (by rw[h.2];simpa using h1)]
def afg{a:aa}(h:(decide (0<(a.length:Int))&&decide (((a.headD 0).toNat:Int)=45))=false):(a.length:Int)=kq a:=by
 unfold kq;rw[aF];intro k;rw[bd]at k;have h1:a≠[]:=by simpa using k.1
 have:0<a.length:=Av.2 h1;rw[k.2]at h;simp at h;exact h1 h
def aop{f:Fact}{c:Bool}(h:c=false)(h2:(!isName f.other)=true):23=nW f c:=by
 have e:kc f.other=23:=by unfold kc;rw[aV h2]
 have:=O7 (f:=f) h (by rw[e];decide);rwa[e]at this
def YV{f:Fact}(h2:(!isName f.other)=false):decide (kc f.other≠0)=false:=by
 have e:kc f.other=0:=by unfold kc;rw[aF (by rw[h2];simp)]
 rw[e];decide
def num_1{f:aO}(h:decide (iI f≠0)=true):1=ke f:=by unfold ke;rw[aV h]
def anA{f:aO}(h:decide (iI f≠0)=false)(h2:(decide (40<kq f.num)||decide (40<kq f.den))=true):4=ke f:=by
 unfold ke;rw[aF (by rw[h];simp),aV];simp only[fZ,cd]at h2|-;omega
def anB{f:aO}(h:decide (iI f≠0)=false)(h2:(decide (40<kq f.num)||decide (40<kq f.den))=false):0=ke f:=by
 unfold ke;rw[aF (by rw[h];simp),aF];simp only[cq,dY,cd]at h2|-;omega
def KW(a:aa):Fc prog 194 [.str a] (.i (kq a)):=by
 refine ay func194 ntmps194 results194 ?_;refine U.nB 0 rfl (fun hb=>?_);simp only[aD]at hb;refine U.seq<|rg<|.ag rfl rfl<|.nil<|U.seq (U.seq (U.e_ [.p,.p,.p,.p,.p,.p,.p,.p] ?_));refine .mv rfl rfl<|.P rfl (gG underlying33 rfl)<|.P rfl (gE rfl rfl)<|.mv rfl rfl<|.gT rfl (.inl rfl) rfl rfl rfl (fun hg=>pk (fun _=>aX rfl _))<|.gT rfl (.inl rfl) rfl rfl rfl (fun hg=>pk (fun _=>nZ underlying33 (bn rfl hg) rfl (c:=a.headD 0) zD (Hr rfl (by simpa using hg)) _))<|.gT rfl (.inl rfl) rfl rfl rfl (fun hg=>pk (fun _=>kO (bn rfl hg) rfl _))<|.P rfl (iy rfl rfl)<|.nil<|U.cond rfl (fun h1=>?_) (fun h1=>?_)
 ·refine U.seq<|rg<|.mv rfl rfl<|.P rfl (gG underlying33 rfl)<|.P rfl (dx rfl rfl (ao zO))<|.ag rfl rfl<|.nil<|U.ret (?_);exact dt rfl (Sub.int (by exact afh h1))
 ·refine U.skip<|U.seq<|rg<|.mv rfl rfl<|.P rfl (gG underlying33 rfl)<|.ag rfl rfl<|.nil<|U.ret (?_);exact dt rfl (Sub.int (by exact afg h1))
structure ad6(s:aa)where
 pre:List UInt8
 rest:List UInt8
 hx:s=pre++rest
 hp:pre.all (fun c=>65<=c.toNat&&c.toNat<=90)=true
def F9(s:aa):Fc prog 139 [.str s] (.b (gf s)):=by
 refine ay func139 ntmps139 results139 ?_;refine U.nB 0 rfl (fun hb=>?_);simp only[aD]at hb;refine U.seq<|rg<|.ag rfl rfl<|.nil<|U.seq<|U.seq<|rg<|.ag rfl rfl<|.nil<|U.block<|U.loop (ι:=ad6 s) (fun sx=>[(0,.str s),(3,.i sx.pre.length)]) (fun sx=>[]) (fun sx=>sx.rest.length) ⟨[],s,rfl,rfl⟩ ?_ ?_
 ·exact Le.mk rfl (.n 2 rfl rfl .nil) .nil
 ·rintro⟨pre,rest,hx,hp⟩;dsimp only;rcases lc hx with⟨rfl,hl⟩|⟨x,rest,rfl,hl⟩
  ·refine U.seq<|U.seq<|rg<|.mv rfl rfl<|.mv rfl rfl<|.P rfl (gG underlying9 rfl)<|.P rfl (bp rfl rfl)<|.nil<|U.c6 rfl (by simp at hl|-;omega)<|U.exit (dz (du ?_));refine U.seq<|rg<|.mv rfl rfl<|.P rfl (gG underlying9 rfl)<|.P rfl (kO rfl rfl)<|.ag rfl rfl<|.nil<|U.ret (?_);exact dt rfl (Sub.bool (by grind[gf]))
  ·refine U.seq<|U.seq<|rg<|.mv rfl rfl<|.mv rfl rfl<|.P rfl (gG underlying9 rfl)<|.P rfl (bp rfl rfl)<|.nil<|U.ew rfl zQ<|U.skip<|U.seq<|U.block<|U.seq (U.e_ [.p,.p,.p,.p,.p,.p,.p,.p,.p,.p] ?_);refine .mv rfl rfl<|.mv rfl rfl<|.P rfl (nZ underlying9 rfl rfl zO (lf hx rfl))<|.P rfl (bp rfl rfl)<|.mv rfl rfl<|.gF rfl (.inl rfl) rfl rfl rfl (fun hg=>pk (fun _=>aX rfl _))<|.gF rfl (.inl rfl) rfl rfl rfl (fun hg=>pk (fun _=>aX rfl _))<|.gF rfl (.inl rfl) rfl rfl rfl (fun hg=>pk (fun _=>nZ underlying9 (bn rfl (nt hg)) (bn rfl (nt hg)) zO (lf hx rfl) _))<|.gF rfl (.inl rfl) rfl rfl rfl (fun hg=>pk (fun _=>gE (bn rfl (nt hg)) rfl _))<|.P rfl (oT rfl rfl)<|.nil<|U.cond rfl (fun h1=>?_) (fun h1=>?_)
   ·refine U.seq<|rg<|.ag rfl rfl<|.nil<|U.ret (jY (sE (jY (?_))));exact dt rfl (Sub.bool (by grind[gf]))
   ·refine U.skip<|U.nil (bR ?_);refine rg<|.mv rfl rfl<|.P rfl (bx rfl rfl (ao zO))<|.ag rfl rfl<|.nil<|U.nil (cz ?_);exact⟨⟨pre++[x],rest,by simp[hx],by grind⟩,by simp,Le.mk rfl (.s rfl rfl (.cons rfl (Sub.int zS) rfl .nil)) .nil⟩
def Yu(f:aO)(hf:jQ f):Fc prog 190 [.agg (cK f)] (.i (ke f)):=by
 refine ay func190 ntmps190 results190 ?_;refine go []<|oP (ah call249 rfl (adC _ zA))<|br (fun h1=>?_) (fun h1=>?_)
 ·exact af rfl (Sub.int (by exact num_1 h1))
 ·refine oP (ah call194 rfl (KW _))<|gP (fun hg=>ah call194 rfl (KW _))<|br (fun h2=>?_) (fun h2=>?_)
  ·exact af rfl (Sub.int (by exact anA h1 h2))
  ·exact af rfl (Sub.int (by exact anB h1 h2))
def anI(k:Int):Fc prog 192 [.i k] (.b (CM k)):=by
 refine ay func192 ntmps192 results192 ?_;exact go []<|af rfl (Sub.refl _)
def atS(a:aa)(pos:Bool):Fc prog 140 [.str a,.str (if pos then[49]else[])] (.i (zX pos a)):=by
 refine ay func140 ntmps140 results140 ?_;refine go []<|oP (ah call193 rfl (adv _))<|br (fun h1=>?_) (fun h1=>?_)
 ·exact af rfl (Sub.int (by unfold zX;exact iT h1))
 ·refine oP (ah call194 rfl (KW _))<|br (fun h2=>?_) (fun h2=>?_)
  ·exact af rfl (Sub.int (by unfold zX;exact iF h1 (iT h2)))
  ·refine oP (ah call195 rfl (Al _ _))<|br (fun h3=>?_) (fun h3=>?_)
   ·exact af rfl (Sub.int (by unfold zX;exact iF h1 (iF h2 (iT h3))))
   ·exact af rfl (Sub.int (by unfold zX;exact iF h1 (iF h2 (iF h3 (rfl)))))
def Qr(a:aa)(pos:Bool):Fc prog 140 [.str a,.str (if pos then[49]else[])] (.i (fL pos false ⟨a,[]⟩)):=by
 have:=atS a pos;rwa[atU]at this
def abw(a:aa):Fc prog 140 [.str a,.str [49]] (.i (fL true false ⟨a,[]⟩)):=Qr a true
def atT(a:aa):Fc prog 140 [.str a,.str []] (.i (fL false false ⟨a,[]⟩)):=Qr a false
def anD(f:aO)(pos:Bool)(hf:jQ f):Fc prog 142 [.agg (cK f),.b pos] (.i (BP pos f)):=by
 refine ay func142 ntmps142 results142 ?_;refine go []<|oP (ah call190 rfl (Yu _ zA))<|br (fun h1=>?_) (fun h1=>?_)
 ·exact af rfl (Sub.int (by unfold BP;exact iT h1))
 ·refine oP (ah call191 rfl (zI _ zA))<|gP (fun hg=>ah call191 rfl (zI _ zA))<|br (fun h2=>?_) (fun h2=>?_)
  ·exact af rfl (Sub.int (by unfold BP;exact iF h1 (iT h2)))
  ·exact af rfl (Sub.int (by unfold BP;exact iF h1 (iF h2 (rfl))))
def BO(f:aO)(pos:Bool)(hf:jQ f):Fc prog 142 [.agg (cK f),.b pos] (.i (fL pos false f)):=by
 have:=anD f pos hf;rwa[anE]at this
def Ya(s:aa):Fc prog 137 [.str s] (.i (kc s)):=by
 refine ay func137 ntmps137 results137 ?_;refine go []<|oP (ah call94 rfl (za _))<|br (fun h1=>?_) (fun h1=>?_)
 ·exact af rfl (Sub.int (by unfold kc;exact iT h1))
 ·exact af rfl (Sub.int (by unfold kc;exact iF h1 (rfl)))
def aoq(f:Fact):Fc prog 138 [.agg (aJ f)] (.i (nW f (CM f.kind))):=by
 refine ay func138 ntmps138 results138 ?_;refine go []<|oP (ah call192 rfl (anI _))<|br (fun h1=>?_) (fun h1=>?_)
 ·refine oP (ah call139 rfl (F9 _))<|br (fun h2=>?_) (fun h2=>?_)
  ·exact af rfl (Sub.int (by exact O4 h1 h2))
  ·refine br (fun h3=>?_) (fun h3=>?_)
   ·exact af rfl (Sub.int (by exact O5 h1 h2 h3))
   ·exact af rfl (Sub.int (by exact O6 h1 h2 h3))
 ·refine oP (ah call94 rfl (za _))<|br (fun h4=>?_) (fun h4=>?_)
  ·exact af rfl (Sub.int (by exact aop h1 h4))
  ·refine br (fun h5=>?_) (fun h5=>?_)
   ·exact af rfl (Sub.int (by exact O8 h1 (YV h4) h5))
   ·exact af rfl (Sub.int (by exact O9 h1 (YV h4) h5))
@[reducible] def sK(l:List Int):D:=.snap 1 false (l.map fun(n:Int)=>[D.i n])
def WT(k n:Int):(if B2 k n then([49]:aa)else[])=if(decide (n=6)||(decide (n=5)&&(decide (k=3)||decide (k=4))))=true then[]else[49]:=by
 unfold B2;cases(decide (n=6)||(decide (n=5)&&(decide (k=3)||decide (k=4))))<;>rfl
def ahg(k:Int):(uC k).length<=5:=by
 have H:∀(c:Prop)[Decidable c](a b:List Int),a.length<=5->b.length<=5->(if c then a else b).length<=5:=fun c _ a b ha hb=>by split<;>assumption
 unfold uC;repeat(first|decide|refine H _ _ _ zD ?_)
def LX(s:aa):decide (s=[])=decide ((⟨s,[]⟩:aO)=dJ):=by
 rw[ou];simp[dJ]
def aqr{k:Int}(h:uC k=[]):Sub (D.raw (Value.slice none 0 0)) (sK (uC k)):=by rw[h];exact Sub.nil _ _
def alJ(k n:Int):Fc prog 141 [.i k,.i n] (.str (if B2 k n then[49]else[])):=by
 refine ay func141 ntmps141 results141 ?_;refine go []<|br (fun h1=>?_) (fun h1=>?_)
 ·exact af rfl (Sub.str (by rw[WT];exact iT h1))
 ·exact af rfl (Sub.str (by rw[WT];exact iF h1 (rfl)))
def ahh(k:Int):Fc prog 136 [.i k] (sK (uC k)):=by
 refine ay func136 ntmps136 results136 ?_;refine go []<|br (fun h1=>?_) (fun h1=>?_)
 ·exact aM h1<|oP (bK (n:=2) (rows:=[[D.i 2],[D.i 5]]) underlying25 sizeOf3 rfl rfl rfl zeroValue3 rfl rfl rfl rfl rfl rfl rfl)<|af rfl (Sub.snap (by obtain rfl:=aG h1;rfl))
 ·have bJ:=h1;try simp only[bs]at bJ
  refine br (fun h2=>?_) (fun h2=>?_)
  ·exact aM h2<|oP (bK (n:=2) (rows:=[[D.i 2],[D.i 5]]) underlying25 sizeOf3 rfl rfl rfl zeroValue3 rfl rfl rfl rfl rfl rfl rfl)<|af rfl (Sub.snap (by obtain rfl:=aG h2;rfl))
  ·have di:=h2;try simp only[bs]at di
   refine br (fun h3=>?_) (fun h3=>?_)
   ·exact aM h3<|oP (bK (n:=2) (rows:=[[D.i 2],[D.i 5]]) underlying25 sizeOf3 rfl rfl rfl zeroValue3 rfl rfl rfl rfl rfl rfl rfl)<|af rfl (Sub.snap (by obtain rfl:=aG h3;rfl))
   ·have gi:=h3;try simp only[bs]at gi
    refine br (fun h4=>?_) (fun h4=>?_)
    ·exact aM h4<|oP (bK (n:=2) (rows:=[[D.i 2],[D.i 5]]) underlying25 sizeOf3 rfl rfl rfl zeroValue3 rfl rfl rfl rfl rfl rfl rfl)<|af rfl (Sub.snap (by obtain rfl:=aG h4;rfl))
    ·have gD:=h4;try simp only[bs]at gD
     refine br (fun h5=>?_) (fun h5=>?_)
     ·exact oP (bK (n:=2) (rows:=[[D.i 2],[D.i 5]]) underlying25 sizeOf3 rfl rfl rfl zeroValue3 rfl rfl rfl rfl rfl rfl rfl)<|af rfl (Sub.snap (by obtain rfl:=aG h5;rfl))
     ·have nf:=h5;try simp only[bs]at nf
      refine br (fun h6=>?_) (fun h6=>?_)
      ·exact oP (bK (n:=4) (rows:=[[D.i 0],[D.i 4],[D.i 5],[D.i 6]]) underlying25 sizeOf3 rfl rfl rfl zeroValue3 rfl rfl rfl rfl rfl rfl rfl)<|af rfl (Sub.snap (by obtain rfl:=aG h6;rfl))
      ·have vB:=h6;try simp only[bs]at vB
       refine br (fun h7=>?_) (fun h7=>?_)
       ·exact oP (bK (n:=5) (rows:=[[D.i 0],[D.i 4],[D.i 5],[D.i 6],[D.i 10]]) underlying25 sizeOf3 rfl rfl rfl zeroValue3 rfl rfl rfl rfl rfl rfl rfl)<|af rfl (Sub.snap (by obtain rfl:=aG h7;rfl))
       ·have vC:=h7;try simp only[bs]at vC
        refine br (fun h8=>?_) (fun h8=>?_)
        ·exact aM h8<|oP (bK (n:=2) (rows:=[[D.i 0],[D.i 7]]) underlying25 sizeOf3 rfl rfl rfl zeroValue3 rfl rfl rfl rfl rfl rfl rfl)<|af rfl (Sub.snap (by obtain rfl:=aG h8;rfl))
        ·have vE:=h8;try simp only[bs]at vE
         refine br (fun h9=>?_) (fun h9=>?_)
         ·exact aM h9<|oP (bK (n:=2) (rows:=[[D.i 0],[D.i 7]]) underlying25 sizeOf3 rfl rfl rfl zeroValue3 rfl rfl rfl rfl rfl rfl rfl)<|af rfl (Sub.snap (by obtain rfl:=aG h9;rfl))
         ·have vF:=h9;try simp only[bs]at vF
          refine br (fun cB=>?_) (fun cB=>?_)
          ·exact aM cB<|oP (bK (n:=2) (rows:=[[D.i 0],[D.i 7]]) underlying25 sizeOf3 rfl rfl rfl zeroValue3 rfl rfl rfl rfl rfl rfl rfl)<|af rfl (Sub.snap (by obtain rfl:=aG cB;rfl))
          ·have vy:=cB;try simp only[bs]at vy
           refine br (fun cD=>?_) (fun cD=>?_)
           ·exact oP (bK (n:=2) (rows:=[[D.i 0],[D.i 7]]) underlying25 sizeOf3 rfl rfl rfl zeroValue3 rfl rfl rfl rfl rfl rfl rfl)<|af rfl (Sub.snap (by obtain rfl:=aG cD;rfl))
           ·have vz:=cD;try simp only[bs]at vz
            refine br (fun cW=>?_) (fun cW=>?_)
            ·exact oP (bK (n:=4) (rows:=[[D.i 1],[D.i 2],[D.i 4],[D.i 5]]) underlying25 sizeOf3 rfl rfl rfl zeroValue3 rfl rfl rfl rfl rfl rfl rfl)<|af rfl (Sub.snap (by obtain rfl:=aG cW;rfl))
            ·have vA:=cW;try simp only[bs]at vA
             refine br (fun fy=>?_) (fun fy=>?_)
             ·exact oP (bK (n:=3) (rows:=[[D.i 0],[D.i 7],[D.i 8]]) underlying25 sizeOf3 rfl rfl rfl zeroValue3 rfl rfl rfl rfl rfl rfl rfl)<|af rfl (Sub.snap (by obtain rfl:=aG fy;rfl))
             ·have EN:=fy;try simp only[bs]at EN
              refine br (fun j3=>?_) (fun j3=>?_)
              ·exact oP (bK (n:=5) (rows:=[[D.i 0],[D.i 1],[D.i 7],[D.i 8],[D.i 9]]) underlying25 sizeOf3 rfl rfl rfl zeroValue3 rfl rfl rfl rfl rfl rfl rfl)<|af rfl (Sub.snap (by obtain rfl:=aG j3;rfl))
              ·have EO:=j3;try simp only[bs]at EO
               refine br (fun kY=>?_) (fun kY=>?_)
               ·exact oP (bK (n:=2) (rows:=[[D.i 0],[D.i 11]]) underlying25 sizeOf3 rfl rfl rfl zeroValue3 rfl rfl rfl rfl rfl rfl rfl)<|af rfl (Sub.snap (by obtain rfl:=aG kY;rfl))
               ·have EP:=kY;try simp only[bs]at EP
                refine br (fun iq=>?_) (fun iq=>?_)
                ·have zn:=iq;try simp only[bs]at zn
                 exact oP (bK (n:=3) (rows:=[[D.i 0],[D.i 3],[D.i 12]]) underlying25 sizeOf3 rfl rfl rfl zeroValue3 rfl rfl rfl rfl rfl rfl rfl)<|af rfl (Sub.snap (by obtain rfl:=aG iq;rfl))
                ·have zn:=iq;try simp only[bs]at zn
                 refine br (fun mK=>?_) (fun mK=>?_)
                 ·have zo:=mK;try simp only[bs]at zo
                  exact oP (bK (n:=5) (rows:=[[D.i 0],[D.i 1],[D.i 4],[D.i 7],[D.i 8]]) underlying25 sizeOf3 rfl rfl rfl zeroValue3 rfl rfl rfl rfl rfl rfl rfl)<|af rfl (Sub.snap (by obtain rfl:=aG mK;rfl))
                 ·have zo:=mK;try simp only[bs]at zo
                  refine br (fun pj=>?_) (fun pj=>?_)
                  ·have zp:=pj;try simp only[bs]at zp
                   exact oP (bK (n:=3) (rows:=[[D.i 1],[D.i 2],[D.i 8]]) underlying25 sizeOf3 rfl rfl rfl zeroValue3 rfl rfl rfl rfl rfl rfl rfl)<|af rfl (Sub.snap (by obtain rfl:=aG pj;rfl))
                  ·have zp:=pj;try simp only[bs]at zp
                   exact af rfl (by exact aqr (by simp only[uC, *,pb]))
structure ai1(k n:Int)where
 pre:List Int
 rest:List Int
 hx:uC k=pre++rest
 hp:pre.any (fun m=>decide (m=n))=false
def ai0(k n:Int):Fc prog 98 [.i k,.i n] (.b (mM k n)):=by
 refine ay func98 ntmps98 results98 ?_;have jd:=ahg k;refine go []<|oP (ah call136 rfl (ahh _))<|U.loop (ι:=ai1 k n) (fun sx=>[(1,.i n),(5,sK (uC k)),(6,.i sx.pre.length)]) (fun sx=>[]) (fun sx=>sx.rest.length) ⟨[],_,rfl,rfl⟩ ?_ ?_
 ·exact Le.mk rfl (.n 3 rfl rfl .nil) .nil
 ·rintro⟨pre,rest,hx,hp⟩;dsimp only;rcases lc hx with⟨rfl,hl⟩|⟨x,rest,rfl,hl⟩
  ·exact go []<|aH (by simp at hl|-;omega)<|go []<|af rfl (Sub.bool (by unfold mM;grind))
  ·refine go []<|aM zQ<|ix zO (aK (fun(n:Int)=>[D.i n]) hx rfl)<|br (fun h1=>?_) (fun h1=>?_)
   ·have bJ:=h1;try simp only[bs]at bJ
    exact af rfl (Sub.bool (by unfold mM;grind))
   ·have bJ:=h1;try simp only[bs]at bJ
    exact sd (ao zO)<|nx ⟨pre++[x],rest,by simp[hx],by grind⟩ zS (Le.mk rfl (.n 2 rfl rfl (.cons rfl (Sub.int zS) rfl .nil)) .nil)
def atY(k:Int):Fc prog 97 [.i k] (.str (zY k)):=by
 refine ay func97 ntmps97 results97 ?_;refine go []<|br (fun h1=>?_) (fun h1=>?_)
 ·have bJ:=h1;try simp only[bs]at bJ
  exact af rfl (Sub.str (by obtain rfl:=aG h1;rfl))
 ·have bJ:=h1;try simp only[bs]at bJ
  refine br (fun h2=>?_) (fun h2=>?_)
  ·have di:=h2;try simp only[bs]at di
   exact af rfl (Sub.str (by obtain rfl:=aG h2;rfl))
  ·have di:=h2;try simp only[bs]at di
   refine br (fun h3=>?_) (fun h3=>?_)
   ·have gi:=h3;try simp only[bs]at gi
    exact af rfl (Sub.str (by obtain rfl:=aG h3;rfl))
   ·have gi:=h3;try simp only[bs]at gi
    refine br (fun h4=>?_) (fun h4=>?_)
    ·have gD:=h4;try simp only[bs]at gD
     exact af rfl (Sub.str (by obtain rfl:=aG h4;rfl))
    ·have gD:=h4;try simp only[bs]at gD
     refine br (fun h5=>?_) (fun h5=>?_)
     ·have nf:=h5;try simp only[bs]at nf
      exact af rfl (Sub.str (by obtain rfl:=aG h5;rfl))
     ·have nf:=h5;try simp only[bs]at nf
      refine br (fun h6=>?_) (fun h6=>?_)
      ·have vB:=h6;try simp only[bs]at vB
       exact af rfl (Sub.str (by obtain rfl:=aG h6;rfl))
      ·have vB:=h6;try simp only[bs]at vB
       refine br (fun h7=>?_) (fun h7=>?_)
       ·have vC:=h7;try simp only[bs]at vC
        exact af rfl (Sub.str (by obtain rfl:=aG h7;rfl))
       ·have vC:=h7;try simp only[bs]at vC
        refine br (fun h8=>?_) (fun h8=>?_)
        ·have vE:=h8;try simp only[bs]at vE
         exact af rfl (Sub.str (by obtain rfl:=aG h8;rfl))
        ·have vE:=h8;try simp only[bs]at vE
         refine br (fun h9=>?_) (fun h9=>?_)
         ·have vF:=h9;try simp only[bs]at vF
          exact af rfl (Sub.str (by obtain rfl:=aG h9;rfl))
         ·have vF:=h9;try simp only[bs]at vF
          refine br (fun cB=>?_) (fun cB=>?_)
          ·have vy:=cB;try simp only[bs]at vy
           exact af rfl (Sub.str (by obtain rfl:=aG cB;rfl))
          ·have vy:=cB;try simp only[bs]at vy
           refine br (fun cD=>?_) (fun cD=>?_)
           ·have vz:=cD;try simp only[bs]at vz
            exact af rfl (Sub.str (by obtain rfl:=aG cD;rfl))
           ·have vz:=cD;try simp only[bs]at vz
            refine br (fun cW=>?_) (fun cW=>?_)
            ·have vA:=cW;try simp only[bs]at vA
             exact af rfl (Sub.str (by obtain rfl:=aG cW;rfl))
            ·have vA:=cW;try simp only[bs]at vA
             refine br (fun fy=>?_) (fun fy=>?_)
             ·have EN:=fy;try simp only[bs]at EN
              exact af rfl (Sub.str (by obtain rfl:=aG fy;rfl))
             ·have EN:=fy;try simp only[bs]at EN
              refine br (fun j3=>?_) (fun j3=>?_)
              ·have EO:=j3;try simp only[bs]at EO
               exact af rfl (Sub.str (by obtain rfl:=aG j3;rfl))
              ·have EO:=j3;try simp only[bs]at EO
               refine br (fun kY=>?_) (fun kY=>?_)
               ·have EP:=kY;try simp only[bs]at EP
                exact af rfl (Sub.str (by obtain rfl:=aG kY;rfl))
               ·have EP:=kY;try simp only[bs]at EP
                refine br (fun iq=>?_) (fun iq=>?_)
                ·have zn:=iq;try simp only[bs]at zn
                 exact af rfl (Sub.str (by obtain rfl:=aG iq;rfl))
                ·have zn:=iq;try simp only[bs]at zn
                 refine br (fun mK=>?_) (fun mK=>?_)
                 ·have zo:=mK;try simp only[bs]at zo
                  exact af rfl (Sub.str (by obtain rfl:=aG mK;rfl))
                 ·have zo:=mK;try simp only[bs]at zo
                  refine br (fun pj=>?_) (fun pj=>?_)
                  ·have zp:=pj;try simp only[bs]at zp
                   exact af rfl (Sub.str (by obtain rfl:=aG pj;rfl))
                  ·have zp:=pj;try simp only[bs]at zp
                   exact af rfl (Sub.str (by simp at*;simp[zY,eU, *]))
def abz(f:Fact)(n:Int)(h0:0<=n)(hn:n<13):Fc prog 95 [.agg (aJ f),.i n] (.b (eG f n)):=by
 refine ay func95 ntmps95 results95 ?_;refine go []<|br (fun h1=>?_) (fun h1=>?_)
 ·have bJ:=h1;try simp only[bs]at bJ
  exact af rfl (Sub.bool (by(try simp only[bB]);(obtain rfl:=aG h1;rfl)))
 ·have bJ:=h1;try simp only[bs]at bJ
  refine br (fun h2=>?_) (fun h2=>?_)
  ·have di:=h2;try simp only[bs]at di
   exact af rfl (Sub.bool (by(try simp only[bB]);(obtain rfl:=aG h2;rfl)))
  ·have di:=h2;try simp only[bs]at di
   refine br (fun h3=>?_) (fun h3=>?_)
   ·have gi:=h3;try simp only[bs]at gi
    exact af rfl (Sub.bool (by(try simp only[bB]);(obtain rfl:=aG h3;rfl)))
   ·have gi:=h3;try simp only[bs]at gi
    refine br (fun h4=>?_) (fun h4=>?_)
    ·have gD:=h4;try simp only[bs]at gD
     exact af rfl (Sub.bool (by(try simp only[bB]);(obtain rfl:=aG h4;rfl)))
    ·have gD:=h4;try simp only[bs]at gD
     refine br (fun h5=>?_) (fun h5=>?_)
     ·have nf:=h5;try simp only[bs]at nf
      exact af rfl (Sub.bool (by(try simp only[bB]);(obtain rfl:=aG h5;exact LX _)))
     ·have nf:=h5;try simp only[bs]at nf
      refine br (fun h6=>?_) (fun h6=>?_)
      ·have vB:=h6;try simp only[bs]at vB
       exact af rfl (Sub.bool (by(try simp only[bB]);(obtain rfl:=aG h6;exact LX _)))
      ·have vB:=h6;try simp only[bs]at vB
       refine br (fun h7=>?_) (fun h7=>?_)
       ·have vC:=h7;try simp only[bs]at vC
        exact af rfl (Sub.bool (by(try simp only[bB]);(obtain rfl:=aG h7;exact LX _)))
       ·have vC:=h7;try simp only[bs]at vC
        refine br (fun h8=>?_) (fun h8=>?_)
        ·have vE:=h8;try simp only[bs]at vE
         exact oP (zx (xs:=[f.dn.num,f.dn.den]) (ys:=[[],[]]) underlying35 LW LW (.cons zK underlying33 isAgg33 rfl (.cons zK underlying33 isAgg33 rfl (.nil _))) rfl rfl rfl rfl rfl rfl)<|af rfl (Sub.bool (by(try simp only[bB]);(obtain rfl:=aG h8;exact GU _ dJ)))
        ·have vE:=h8;try simp only[bs]at vE
         refine br (fun h9=>?_) (fun h9=>?_)
         ·have vF:=h9;try simp only[bs]at vF
          exact oP (zx (xs:=[f.ratio.num,f.ratio.den]) (ys:=[[],[]]) underlying35 LW LW (.cons zK underlying33 isAgg33 rfl (.cons zK underlying33 isAgg33 rfl (.nil _))) rfl rfl rfl rfl rfl rfl)<|af rfl (Sub.bool (by(try simp only[bB]);(obtain rfl:=aG h9;exact GU _ dJ)))
         ·have vF:=h9;try simp only[bs]at vF
          refine br (fun cB=>?_) (fun cB=>?_)
          ·have vy:=cB;try simp only[bs]at vy
           exact oP (zx (xs:=[f.share.num,f.share.den]) (ys:=[[],[]]) underlying35 LW LW (.cons zK underlying33 isAgg33 rfl (.cons zK underlying33 isAgg33 rfl (.nil _))) rfl rfl rfl rfl rfl rfl)<|af rfl (Sub.bool (by(try simp only[bB]);(obtain rfl:=aG cB;exact GU _ dJ)))
          ·have vy:=cB;try simp only[bs]at vy
           refine br (fun cD=>?_) (fun cD=>?_)
           ·have vz:=cD;try simp only[bs]at vz
            exact af rfl (Sub.bool (by(try simp only[bB]);(obtain rfl:=aG cD;rfl)))
           ·have vz:=cD;try simp only[bs]at vz
            refine br (fun cW=>?_) (fun cW=>?_)
            ·have vA:=cW;try simp only[bs]at vA
             exact af rfl (Sub.bool (by(try simp only[bB]);(obtain rfl:=aG cW;rfl)))
            ·have vA:=cW;try simp only[bs]at vA
             exact af rfl (Sub.bool (by(try simp only[bB]);(have e12:n=12:=zO;subst e12;rfl)))
@[reducible] def se(s:aa):Bool:=s.all fun c=>decide (c≠47)
theorem RX:∀{a b c d:aa},a++47::b=c++47::d->(∀x∈a,x≠47)->(∀x∈c,x≠47)->a=c/\b=d
 |[],b,[],d,h,_,_=>by simpa using h
 |[],b,y::c,d,h,_,h2=>by simp at h;exact absurd h.1.symm (h2 y zS)
 |x::a,b,[],d,h,h1,_=>by simp at h;exact absurd h.1 (h1 x zS)
 |x::a,b,y::c,d,h,h1,h2=>by
  simp only[jF,l_]at h;obtain⟨e1,e2⟩:=RX h.2 (fun z hz=>h1 z (by simp[hz])) (fun z hz=>h2 z (by simp[hz]));exact⟨by rw[h.1,e1],e2⟩
def KM{s pre rest:aa}(h:s=pre++47::rest)(hp:se pre=true):gH s 47=(pre,rest,true):=by
 have oB:∀x∈pre,x≠47:=fun x hx=>aG (de.1 hp x hx);rcases HO 47 s with⟨h0,_,e,ha⟩|⟨_,ha⟩
 ·obtain⟨e1,e2⟩:=RX (h.symm.trans e) oB ha;unfold gH;rw[aV h0,<-e1,<-e2]
 ·exact absurd rfl (ha 47 (by rw[h];simp))
def aeL{s:aa}(hp:se s=true):gH s 47=(s,[],false):=by
 have oB:∀x∈s,x≠47:=fun x hx=>aG (de.1 hp x hx);rcases HO 47 s with⟨h0,_,e,ha⟩|⟨h0,ha⟩
 ·exact absurd rfl (oB 47 (by rw[e];simp))
 ·unfold gH;rw[aF zO]
def anq{s:aa}{x:UInt8}(h:se s=true)(hx:decide ((x.toNat:Int)=47)=false):se (s++[x])=true:=by
 have:x≠47:=by rintro rfl;exact absurd hx zD
 rw[se,lE,show(s.all fun c=>decide (c≠47))=true from h];simpa using this
def ai9{s:aa}(h:0<s.length):s[(0:Int).toNat]?=some (s.headD 0):=by
 cases s with
 |nil=>simp at h
 |cons c r=>rfl
def ama{s:aa}(hp:se s=true):r8 s=false:=by unfold r8;rw[aeL hp];rfl
def al9{s pre rest:aa}(h:s=pre++47::rest)(hp:se pre=true)(hn:isName pre=false):r8 s=false:=by unfold r8;rw[KM h hp,hn];rfl
def al_{s pre rest:aa}(h:s=pre++47::rest)(hp:se pre=true)(hd:rest.all cg=false):r8 s=false:=by unfold r8 Bt;rw[KM h hp];simp only;rw[hd];simp
def al'{s pre rest:aa}(h:s=pre++47::rest)(hp:se pre=true)(hn:isName pre=true)(hd:rest.all cg=true):r8 s=(decide (1<=(rest.length:Int))&&decide ((rest.length:Int)<=4)&&decide (((rest.headD 0).toNat:Int)≠48)):=by
 unfold r8 Bt;rw[KM h hp];simp only;rw[hd,hn,mE];simp only[oL,bd,cd];omega
structure al4(s:aa)where
 pre:List UInt8
 rest:List UInt8
 hx:s=pre++rest
 hp:se pre=true
structure al5(s:aa)(pre rest:aa)(hx:s=pre++47::rest)(hp:se pre=true)(hn:isName pre=true)where
 au:List UInt8
 az:List UInt8
 aN:rest=au++az
 hd:au.all cg=true
def al3(s:aa):Fc prog 200 [.str s] (.b (r8 s)):=by
 refine ay func200 ntmps200 results200 ?_;refine U.nB 0 rfl (fun hb=>?_);simp only[aD]at hb;refine go []<|U.loop (ι:=al4 s) (fun sx=>[(0,.str s),(3,.i (-1)),(4,.i sx.pre.length)]) (fun sx=>[]) (fun sx=>sx.rest.length) ⟨[],s,rfl,rfl⟩ ?_ ?_
 ·exact Le.mk rfl (.n 3 rfl rfl .nil) .nil
 ·rintro⟨pre,rest,hx,hp⟩;dsimp only;rcases lc hx with⟨rfl,hl⟩|⟨x,rest,rfl,hl⟩
  ·exact go []<|aH (by simp at hl|-;omega)<|go []<|gP (d:=.str []) (fun hg=>absurd (show jw false (decide ((-1:Int)<0))=true from hg) zD)<|gP (d:=.b false) (fun hg=>absurd (show jw false (decide ((-1:Int)<0))=true from hg) zD)<|aM rfl<|af rfl (Sub.bool (ama (by obtain rfl:s=pre:=(by simpa using hx);exact hp)).symm)
  ·refine go []<|aM zQ<|Bj zO (lf hx rfl)<|br (fun h1=>?_) (fun h1=>?_)
   ·refine go [] ?_;obtain rfl:x=47:=sf.1 (by simp only[cd]at h1;have h47:x.toNat=47:=zO;rw[h47];rfl);refine gP (fun hg=>oU underlying9 rfl (h:=pre.length) (r:=pre) (.inl ⟨rfl,rfl⟩) (.inr ⟨_,_,rfl,rfl⟩) zO zO (by rw[hx];simp))<|gP (fun hg=>ah call94 rfl (za _))<|br (fun h2=>?_) (fun h2=>?_)
    ·have di:=h2;try simp only[bs]at di
     exact af rfl (Sub.bool (by exact(al9 hx hp (by simpa using di.resolve_left zO)).symm))
    ·have di:=h2;try simp only[bs]at di
     have hn:isName pre=true:=di.2;refine sd (ao zO)<|oP (oU underlying9 rfl (l:=pre.length+1) (r:=rest) (.inr ⟨_,_,rfl,vp rfl zS⟩) (.inl ⟨rfl,rfl⟩) (by simp at*;omega) zO (by rw[hx];simp;exact gZ zO))<|U.loop (ι:=al5 s pre rest hx hp hn) (fun sx=>[(5,.str rest),(6,.i sx.au.length)]) (fun sx=>[]) (fun sx=>sx.az.length) ⟨[],rest,rfl,rfl⟩ ?_ ?_
     ·exact Le.mk rfl (.n 2 rfl rfl .nil) .nil
     ·rintro⟨au,az,aN,hd⟩;dsimp only;rcases lc aN with⟨rfl,bM⟩|⟨x2,az,rfl,bM⟩
      ·exact go []<|aH (by simp at bM|-;omega)<|go []<|w8 (fun hg=>And.intro zD (ai9 (by simp[jw]at hg;omega)))<|af rfl (Sub.bool (by(rw[al' hx hp hn (by obtain rfl:rest=au:=(by simpa using aN);exact hd)];done)))
      ·refine go []<|aM zQ<|Bj zO (lf aN rfl)<|w8 (fun hg=>And.intro zO (lf aN rfl))<|br (fun h3=>?_) (fun h3=>?_)
       ·exact af rfl (Sub.bool (by exact(al_ hx hp (by grind[cg])).symm))
       ·exact sd (ao zO)<|nx ⟨au++[x2],az,by simp[aN],by grind[cg]⟩ zS (Le.mk rfl (.s rfl rfl (.cons rfl (Sub.int zS) rfl .nil)) .nil)
   ·exact sd (ao zO)<|nx ⟨pre++[x],rest,by simp[hx],anq hp zA⟩ zS (Le.mk rfl (.n 2 rfl rfl (.cons rfl (Sub.int zS) rfl .nil)) .nil)
def al8(s:aa):Fc prog 200 [.str s] (.b (r3 s)):=by
 have:=al3 s;rwa[al7]at this
def afi{s:aa}(h:(val s).natAbs<100000000000000000):(digits s).1.length<=17:=by
 rw[CS];refine BH 17 _ (EH (G7 ?_) h);unfold val;cases(digits s).2<;>simp
def arw{a b:aa}{n:Nat}(ha:(val a).natAbs<=n*10000000000000)(hb:b.length<=13):(val (rE a b)).natAbs<=(n+1)*10000000000000:=by
 have h1:=Cs b;have h2:10^b.length<=10^13:=eE zO hb;unfold rE;rw[gO];omega
def amJ{l pre au az q:List dE}{y:dE}(h:l=pre++q)(h2:pre=au++y::az):l=au++y::(az++q):=by rw[h,h2];simp
def an'{f:Fact}(h:decide ((f.opts.length:Int)=0)=false)(h2:decide (8<(f.opts.length:Int))=false):si f=rl f.dV f.opts:=by rw[si,aF (by rw[h];simp),aF (by rw[h2];simp)]
def aoa{f:Fact}(h:decide ((f.opts.length:Int)=0)=true):11=si f:=by rw[si,aV h]
def aob{f:Fact}(h:decide ((f.opts.length:Int)=0)=false)(h2:decide (8<(f.opts.length:Int))=true):4=si f:=by rw[si,aF (by rw[h];simp),aV h2]
def an0{e:Int}{i:aa}{o:cY}{r:List cY}(hp:e=rl i (o::r))(h:(decide (o.other≠[])&&!isName o.other)=true):23=e:=by rw[hp,rl,BW,aV h]
def an1{e:Int}{i:aa}{o:cY}{r:List cY}(hp:e=rl i (o::r))(h:(decide (o.other≠[])&&!isName o.other)=false)(h2:(decide (o.other≠[])&&decide (o.other=i))=true):18=e:=by rw[hp,rl,BW,aF (by rw[h];simp),aV h2]
def EC{e:Int}{i:aa}{o:cY}{r:List cY}(hp:e=rl i (o::r))(h:(decide (o.other≠[])&&!isName o.other)=false)(h2:(decide (o.other≠[])&&decide (o.other=i))=false):e=oE [o.ratio,o.dn,o.value] (if IN o=true then 2 else rl i r):=by
 rw[hp,rl,BW,aF (by rw[h];simp),aF (by rw[h2];simp)]
structure aoT(f:Fact)where
 pre:List dE
 rest:List dE
 sum:aa
 hx:f.fF=pre++rest
 hp:tZ f=mr f.dc pre sum rest
 VH:(val sum).natAbs<=pre.length*10000000000000
 Dk:f.fF.length<=64
structure aoU(f:Fact)(pre:List dE)(x:dE)(sum:aa)where
 au:List dE
 az:List dE
 aN:pre=au++az
 hq:au.any (fun y=>decide (y.fT=x.fT))=false
def aoS(f:Fact)(hf:pa f):Fc prog 145 [.agg (aJ f)] (.i (tZ f)):=by
 refine ay func145 ntmps145 results145 ?_;refine U.um 0 18 rfl rfl (fun hb=>?_);simp only[bB,aD]at hb;refine go []<|br (fun h1=>?_) (fun h1=>?_)
 ·exact af rfl (Sub.int (by exact Zp (by simpa using h1)))
 ·refine U.loop (ι:=aoT f) (fun sx=>[(1,.box 0 0),(3,.str sx.sum),(4,.i sx.pre.length)]) (fun sx=>[(0,.cells (aJ f))]) (fun sx=>sx.rest.length) ⟨[],_,[],rfl,Zi (by simpa using h1),by decide,by have h9:=h1;simp at h9;omega⟩ ?_ ?_
  ·exact Le.mk rfl (.n 3 rfl rfl .nil) (.cons rfl rfl .nil)
  ·rintro⟨pre,rest,sum,hx,hp,VH,Dk⟩;dsimp only;rcases lc hx with⟨rfl,hl⟩|⟨x,rest,rfl,hl⟩
   ·refine go []<|aH (by simp at hl|-;omega)<|go []<|oP (ah call195 rfl (Al _ _))<|br (fun h2=>?_) (fun h2=>?_)
    ·exact af rfl (Sub.int (by exact Zn hp (by rw[<-tU];assumption)))
    ·exact af rfl (Sub.int (by exact Zo hp (by rw[<-tU];assumption)))
   ·have Bc:=hf.fF x (by rw[hx];simp);refine go []<|aM zQ<|ix zO (aK j0 hx rfl)<|oP (ah call200 rfl (al8 _))<|br (fun h3=>?_) (fun h3=>?_)
    ·exact af rfl (Sub.int (by exact Zj hp zA))
    ·refine U.loop (ι:=aoU f pre x sum) (fun sx=>[(1,.box 0 0),(3,.str sum),(4,.i pre.length),(5,.i sx.au.length)]) (fun sx=>[(0,.cells (aJ f))]) (fun sx=>sx.az.length) ⟨[],pre,rfl,rfl⟩ ?_ ?_
     ·exact Le.mk rfl (.n 4 rfl rfl .nil) (.cons rfl rfl .nil)
     ·rintro⟨au,az,aN,hq⟩;dsimp only;rcases lc aN with⟨rfl,bM⟩|⟨y,az,rfl,bM⟩
      ·have HI:pre.any (fun y=>decide (y.fT=x.fT))=false:=by rw[aN,iJ];exact hq
       refine go []<|aH (by simp at bM|-;omega)<|go []<|ix zO (aK j0 hx rfl)<|oP (ah call140 rfl (abw x.dc))<|br (fun h4=>?_) (fun h4=>?_)
       ·exact af rfl (Sub.int (by exact Zl hp zA HI zA))
       ·exact ix zO (aK j0 hx rfl)<|oP (ah call201 rfl (ab5 sum x.dc (afi zO) (by have:=ma x.dc;have:=Bc.2;omega)))<|go []<|sd (ao zO)<|nx ⟨pre++[x],rest,rE sum x.dc,by simp[hx],Zm hp h3 HI zA,by have:=arw (n:=pre.length) VH Bc.2;simpa using this,Dk⟩ zS (Le.mk rfl (.n 2 rfl rfl (.cons rfl (Sub.int zS) rfl .nil)) (.cons rfl rfl .nil))
      ·refine go []<|aM zQ<|ix zO (aK j0 (amJ hx aN) rfl)<|ix zO (aK j0 hx rfl)<|ord<|br (fun h5=>?_) (fun h5=>?_)
       ·exact af rfl (Sub.int (by exact Zk hp zA (by rw[aN,pH,pJ];simp at*;grind)))
       ·exact sd (ao zO)<|nx ⟨au++[y],az,by simp[aN],by rw[pH,hq];simpa using h5⟩ zS (Le.mk rfl (.n 3 rfl rfl (.cons rfl (Sub.int zS) rfl .nil)) (.cons rfl rfl .nil))
structure an9(f:Fact)where
 pre:List cY
 rest:List cY
 hx:f.opts=pre++rest
 hp:si f=rl f.dV rest
def an8(f:Fact)(hf:pa f):Fc prog 146 [.agg (aJ f)] (.i (si f)):=by
 refine ay func146 ntmps146 results146 ?_;refine U.um 0 19 rfl rfl (fun hb=>?_);simp only[bB,aD]at hb;refine go []<|br (fun h1=>?_) (fun h1=>?_)
 ·exact af rfl (Sub.int (by exact aoa (by simpa using h1)))
 ·refine br (fun h2=>?_) (fun h2=>?_)
  ·exact af rfl (Sub.int (by exact aob (by simpa using h1) (by simpa using h2)))
  ·refine U.loop (ι:=an9 f) (fun sx=>[(1,.box 0 0),(3,.i sx.pre.length)]) (fun sx=>[(0,.cells (aJ f))]) (fun sx=>sx.rest.length) ⟨[],_,rfl,an' (by simpa using h1) (by simpa using h2)⟩ ?_ ?_
   ·exact Le.mk rfl (.n 2 rfl rfl .nil) (.cons rfl rfl .nil)
   ·rintro⟨pre,rest,hx,hp⟩;dsimp only;rcases lc hx with⟨rfl,hl⟩|⟨x,rest,rfl,hl⟩
    ·exact go []<|aH (by simp at hl|-;omega)<|go []<|af rfl (Sub.int (by rw[hp];rfl))
    ·have jf:=hf.opts x (by rw[hx];simp);refine go []<|aM zQ<|ix zO (aK mF hx rfl)<|gP (fun hg=>ah call94 rfl (za _))<|br (fun h3=>?_) (fun h3=>?_)
     ·exact af rfl (Sub.int (by exact an0 hp h3))
     ·refine br (fun h4=>?_) (fun h4=>?_)
      ·exact af rfl (Sub.int (by exact an1 hp h3 h4))
      ·refine oP (ah call142 rfl (BO x.ratio false jf.1))<|br (fun h5=>?_) (fun h5=>?_)
       ·exact af rfl (Sub.int (by exact H7 (EC hp h3 h4) h5))
       ·refine oP (ah call142 rfl (BO x.dn false jf.2.1))<|br (fun h6=>?_) (fun h6=>?_)
        ·exact af rfl (Sub.int (by exact H7 (tF (EC hp h3 h4) h5) h6))
        ·refine oP (ah call142 rfl (BO x.value false jf.2.2))<|br (fun h7=>?_) (fun h7=>?_)
         ·exact af rfl (Sub.int (by exact H7 (tF (tF (EC hp h3 h4) h5) h6) h7))
         ·refine oP (ah call191 rfl (zI x.ratio jf.1))<|gP (fun hg=>ah call191 rfl (zI x.value jf.2.2))<|br (fun h8=>?_) (fun h8=>?_)
          ·exact af rfl (Sub.int (by exact YS (H6 (tF (tF (tF (EC hp h3 h4) h5) h6) h7)) h8))
          ·exact sd (ao zO)<|nx ⟨pre++[x],rest,by simp[hx],YR (H6 (tF (tF (tF (EC hp h3 h4) h5) h6) h7)) h8⟩ zS (Le.mk rfl (.s rfl rfl (.cons rfl (Sub.int zS) rfl .nil)) (.cons rfl rfl .nil))
@[reducible] def x9(d:Int):Bool:=decide (d< -25567)||decide (84005<d)
def aeY{d:Int}(h:decide ((if x9 d=true then(13:Int)else 0)≠0)=true):x9 d=true:=by
 cases k:x9 d with
 |true=>rfl
 |false=>rw[k]at h;exact absurd h zD
def R5{d:Int}(h:decide ((if x9 d=true then(13:Int)else 0)≠0)=false):x9 d=false:=by
 cases k:x9 d with
 |true=>rw[k]at h;exact absurd h zD
 |false=>rfl
def arY:jQ (cS 1 1):=by unfold jQ;decide+kernel
def agT{e:Int}{f:Fact}{n:Int}{l:List Int}(hp:e=mH f (n::l))(h:mM f.kind n=true)(h2:decide (sZ f n≠0)=true):sZ f n=e:=by rw[hp,mH,aV h,aV h2]
def agU{e:Int}{f:Fact}{n:Int}{l:List Int}(hp:e=mH f (n::l))(h:mM f.kind n=true)(h2:decide (sZ f n≠0)=false):e=mH f l:=by rw[hp,mH,aV h,aF (by rw[h2];simp)]
def agV{e:Int}{f:Fact}{n:Int}{l:List Int}(hp:e=mH f (n::l))(h:mM f.kind n=false)(h2:(!eG f n)=true):1=e:=by rw[hp,mH,aF (by rw[h];simp),aV h2]
def agW{e:Int}{f:Fact}{n:Int}{l:List Int}(hp:e=mH f (n::l))(h:mM f.kind n=false)(h2:(!eG f n)=false):e=mH f l:=by rw[hp,mH,aF (by rw[h];simp),aF (by rw[h2];simp)]
def ac3{f:Fact}(h1:(!isName f.key)=true):23=kW f:=by unfold kW;exact iT h1
def ac4{f:Fact}(h1:(!isName f.key)=false)(h2:decide (f.iB<0)=true):2=kW f:=by unfold kW;exact iF h1 (iT h2)
def ac5{f:Fact}(h1:(!isName f.key)=false)(h2:decide (f.iB<0)=false)(h3:f.cancelled=true)(h4:iU.any (fun n=>!eG f n)=true):1=kW f:=by unfold kW;exact iF h1 (iF h2 (fI h3 (iT h4)))
def ac6{f:Fact}(h1:(!isName f.key)=false)(h2:decide (f.iB<0)=false)(h3:f.cancelled=true)(h4:iU.any (fun n=>!eG f n)=false)(h5:(decide (f.day≠0)||decide (f.kind≠0))=true):1=kW f:=by unfold kW;exact iF h1 (iF h2 (fI h3 (iF h4 (iT h5))))
def ac7{f:Fact}(h1:(!isName f.key)=false)(h2:decide (f.iB<0)=false)(h3:f.cancelled=true)(h4:iU.any (fun n=>!eG f n)=false)(h5:(decide (f.day≠0)||decide (f.kind≠0))=false):0=kW f:=by unfold kW;exact iF h1 (iF h2 (fI h3 (iF h4 (iF h5 rfl))))
def ac8{f:Fact}(h1:(!isName f.key)=false)(h2:decide (f.iB<0)=false)(h3:f.cancelled=false)(h4:(decide (f.day< -25567)||decide (84005<f.day))=true):13=kW f:=by unfold kW;exact iF h1 (iF h2 (iF h3 (iT h4)))
def ac9{f:Fact}(h1:(!isName f.key)=false)(h2:decide (f.iB<0)=false)(h3:f.cancelled=false)(h4:(decide (f.day< -25567)||decide (84005<f.day))=false)(h5:decide (zY f.kind=[])=true):7=kW f:=by unfold kW;exact iF h1 (iF h2 (iF h3 (iF h4 (iT h5))))
def ac_{f:Fact}(h1:(!isName f.key)=false)(h2:decide (f.iB<0)=false)(h3:f.cancelled=false)(h4:(decide (f.day< -25567)||decide (84005<f.day))=false)(h5:decide (zY f.kind=[])=false):kW f=mH f iU:=by unfold kW;exact(iF h1 (iF h2 (iF h3 (iF h4 (iF h5 rfl))))).symm
def KP(d:Int):Fc prog 96 [.i d] (.i (if x9 d=true then 13 else 0)):=by
 refine ay func96 ntmps96 results96 ?_;refine go []<|br (fun h1=>?_) (fun h1=>?_)
 ·exact af rfl (Sub.int (by exact iT h1))
 ·exact af rfl (Sub.int (by exact iF h1 rfl))
def ag9(f:Fact)(n:Int)(hf:pa f)(h0:0<=n)(hn:n<13):Fc prog 99 [.agg (aJ f),.i n] (.i (sZ f n)):=by
 refine ay func99 ntmps99 results99 ?_;refine go []<|br (fun h1=>?_) (fun h1=>?_)
 ·exact oP (ah call137 rfl (Ya _))<|af rfl (Sub.int (by obtain rfl:=aG h1;rfl))
 ·refine br (fun h2=>?_) (fun h2=>?_)
  ·exact oP (ah call138 rfl (aoq f))<|af rfl (Sub.int (by obtain rfl:=aG h2;rfl))
  ·refine br (fun h3=>?_) (fun h3=>?_)
   ·refine oP (ah call139 rfl (F9 _))<|br (fun h4=>?_) (fun h4=>?_)
    ·exact af rfl (Sub.int (by(obtain rfl:=aG h3;(show _=if(!gf f.cur)=true then(12:Int)else 0;exact iT zA))))
    ·exact af rfl (Sub.int (by(obtain rfl:=aG h3;(show _=if(!gf f.cur)=true then(12:Int)else 0;exact iF zA rfl))))
   ·refine br (fun h5=>?_) (fun h5=>?_)
    ·exact oP (ah call137 rfl (Ya _))<|af rfl (Sub.int (by obtain rfl:=aG h5;rfl))
    ·refine br (fun h6=>?_) (fun h6=>?_)
     ·exact oP (ah call140 rfl (abw f.dc))<|af rfl (Sub.int (by obtain rfl:=aG h6;rfl))
     ·refine br (fun h7=>?_) (fun h7=>?_)
      ·exact oP (ah call141 rfl (alJ _ _))<|oP (ah call140 rfl (Qr f.l9 (B2 f.kind 5)))<|ord<|af rfl (Sub.int (by obtain rfl:=aG h7;rfl))
      ·refine br (fun h8=>?_) (fun h8=>?_)
       ·exact oP (ah call140 rfl (atT f.mb))<|af rfl (Sub.int (by obtain rfl:=aG h8;rfl))
       ·refine br (fun h9=>?_) (fun h9=>?_)
        ·exact oP (ah call142 rfl (BO f.dn _ hf.dn))<|af rfl (Sub.int (by obtain rfl:=aG h9;rfl))
        ·refine br (fun cB=>?_) (fun cB=>?_)
         ·exact oP (ah call142 rfl (BO f.ratio true hf.ratio))<|af rfl (Sub.int (by obtain rfl:=aG cB;rfl))
         ·refine br (fun cD=>?_) (fun cD=>?_)
          ·refine oP (ah call142 rfl (BO f.share false hf.share))<|br (fun cW=>?_) (fun cW=>?_)
           ·exact af rfl (Sub.int (by(obtain rfl:=aG cD;(show _=vR f.share;unfold vR;exact iT zA))))
           ·refine oP (ah call144 rfl apP)<|oP (ah call143 rfl (RN f.share (cS 1 1) hf.share arY))<|ord<|br (fun fy=>?_) (fun fy=>?_)
            ·exact af rfl (Sub.int (by(obtain rfl:=aG cD;(show _=vR f.share;unfold vR;exact iF zA (iT zA)))))
            ·exact af rfl (Sub.int (by(obtain rfl:=aG cD;(show _=vR f.share;unfold vR;exact iF zA (iF zA rfl)))))
          ·refine br (fun j3=>?_) (fun j3=>?_)
           ·exact oP (ah call145 rfl (aoS f hf))<|af rfl (Sub.int (by obtain rfl:=aG j3;rfl))
           ·refine br (fun kY=>?_) (fun kY=>?_)
            ·exact oP (ah call146 rfl (an8 f hf))<|af rfl (Sub.int (by obtain rfl:=aG kY;rfl))
            ·refine br (fun iq=>?_) (fun iq=>?_)
             ·refine br (fun mK=>?_) (fun mK=>?_)
              ·exact af rfl (Sub.int (by(obtain rfl:=aG iq;(show _=if decide (f.choice<0)=true then(2:Int)else 0;exact iT zA))))
              ·exact af rfl (Sub.int (by(obtain rfl:=aG iq;(show _=if decide (f.choice<0)=true then(2:Int)else 0;exact iF zA rfl))))
             ·exact af rfl (Sub.int (by exfalso;simp at*;omega))
structure adL(f:Fact)where
 pre:List Int
 rest:List Int
 hx:iU=pre++rest
 ha:pre.any (fun n=>!eG f n)=false
structure adM(f:Fact)where
 pre:List Int
 rest:List Int
 hx:iU=pre++rest
 hp:kW f=mH f rest
def adK(f:Fact)(hf:pa f):Fc prog 53 [.agg (aJ f)] (.i (kW f)):=by
 refine ay func53 ntmps53 results53 ?_;refine go []<|oP (ah call94 rfl (za _))<|br (fun h1=>?_) (fun h1=>?_)
 ·exact af rfl (Sub.int (by exact ac3 h1))
 ·refine br (fun h2=>?_) (fun h2=>?_)
  ·exact af rfl (Sub.int (by exact ac4 h1 h2))
  ·refine br (fun h3=>?_) (fun h3=>?_)
   ·refine U.loop (ι:=adL f) (fun sx=>[(1,.box 0 0),(3,.i sx.pre.length)]) (fun sx=>[(0,.cells (aJ f))]) (fun sx=>sx.rest.length) ⟨[],_,rfl,rfl⟩ ?_ ?_
    ·exact Le.mk rfl (.n 2 rfl rfl .nil) (.cons rfl rfl .nil)
    ·rintro⟨pre,rest,hx,ha⟩;dsimp only;rcases rest with _|⟨x,rest⟩
     ·have hl:=aT List.length hx;simp only[bl,bD,hG]at hl;refine go []<|aH zQ<|go []<|br (fun h4=>?_) (fun h4=>?_)
      ·exact af rfl (Sub.int (by exact ac6 h1 h2 h3 (by rw[hx,iJ];exact ha) zA))
      ·exact af rfl (Sub.int (by exact ac7 h1 h2 h3 (by rw[hx,iJ];exact ha) zA))
     ·obtain⟨e9,fy⟩:=GQ hx;subst e9;refine go []<|aM zQ<|oP (ah call95 rfl (abz f (pre.length:Int) zO zO))<|br (fun h5=>?_) (fun h5=>?_)
      ·exact af rfl (Sub.int (by exact ac5 h1 h2 h3 (by rw[hx,pH,pJ];simp at*;grind)))
      ·have nf:=h5;try simp only[bs]at nf
       exact sd (ao zO)<|nx ⟨pre++[(pre.length:Int)],rest,by simp[hx],by rw[pH,ha];simpa using zA⟩ zS (Le.mk rfl (.s rfl rfl (.cons rfl (Sub.int zS) rfl .nil)) (.cons rfl rfl .nil))
   ·refine oP (ah call96 rfl (KP _))<|br (fun h6=>?_) (fun h6=>?_)
    ·exact af rfl (Sub.int (by exact ac8 h1 h2 h3 (aeY zA)))
    ·refine oP (ah call97 rfl (atY _))<|br (fun h7=>?_) (fun h7=>?_)
     ·exact af rfl (Sub.int (by exact ac9 h1 h2 h3 (R5 zA) zA))
     ·refine U.loop (ι:=adM f) (fun sx=>[(1,.box 0 0),(4,.i sx.pre.length)]) (fun sx=>[(0,.cells (aJ f))]) (fun sx=>sx.rest.length) ⟨[],_,rfl,ac_ h1 h2 h3 (R5 zA) zA⟩ ?_ ?_
      ·exact Le.mk rfl (.n 2 rfl rfl .nil) (.cons rfl rfl .nil)
      ·rintro⟨pre,rest,hx,hp⟩;dsimp only;rcases rest with _|⟨x,rest⟩
       ·have hl:=aT List.length hx;simp only[bl,bD,hG]at hl;exact go []<|aH zQ<|go []<|af rfl (Sub.int (by exact hp.symm))
       ·obtain⟨e9,fy⟩:=GQ hx;subst e9;refine go []<|aM zQ<|oP (ah call98 rfl (ai0 _ _))<|br (fun h8=>?_) (fun h8=>?_)
        ·refine oP (ah call99 rfl (ag9 f (pre.length:Int) hf zO zO))<|br (fun h9=>?_) (fun h9=>?_)
         ·exact af rfl (Sub.int (by exact agT hp zA zA))
         ·exact sd (ao zO)<|nx ⟨pre++[(pre.length:Int)],rest,by simp[hx],by exact agU hp zA zA⟩ zS (Le.mk rfl (.s rfl rfl (.cons rfl (Sub.int zS) rfl .nil)) (.cons rfl rfl .nil))
        ·refine oP (ah call95 rfl (abz f (pre.length:Int) zO zO))<|br (fun cB=>?_) (fun cB=>?_)
         ·exact af rfl (Sub.int (by exact agV hp zA zA))
         ·exact sd (ao zO)<|nx ⟨pre++[(pre.length:Int)],rest,by simp[hx],by exact agW hp zA zA⟩ zS (Le.mk rfl (.s rfl rfl (.cons rfl (Sub.int zS) rfl .nil)) (.cons rfl rfl .nil))
def adG(f:Fact)(hf:pa f):Fc prog 53 [.agg (aJ f)] (.i (gy f)):=by
 have:=adK f hf;rwa[adJ]at this
end Go.T
namespace Go.T
open Go
theorem r9:∀a b:aa,aa.lt a b=true↔a<b
 |[],[]=>by simp[aa.lt,Op.bytesLess]
 |[],_::_=>by simp[aa.lt,Op.bytesLess]
 |_::_,[]=>by simp[aa.lt,Op.bytesLess]
 |x::a,y::b=>by
  rw[Xf,List.cons_lt_cons_iff];have ih:=r9 a b;simp only[fZ,bd,cd,ih];rfl
def H9{a b c:aa}(h1:aa.lt a b=true)(h2:aa.lt b c=true):aa.lt a c=true:=by
 rw[r9]at*;exact List.lt_trans h1 h2
def NZ(a:aa):aa.lt a a=false:=by
 cases h:aa.lt a a with
 |false=>rfl
 |true=>rw[r9]at h;exact absurd h (List.lt_irrefl a)
def N0{a b:aa}(h:aa.lt a b=true):a≠b:=by rintro rfl;rw[NZ]at h;cases h
def NO{a b:aa}(h:a<=b)(hn:a≠b):aa.lt a b=true:=by
 rw[r9];exact Decidable.byContradiction fun k=>hn (tB h (xo.1 k))
def gS(k:Int):Int:=match eU k with
 |some r=>r.c
 |none=>0
def lJ(a b:Fact):Int:=
 if decide (a.day≠b.day)=true then(if decide (a.day<b.day)=true then -1 else 1)
 else if decide (gS a.kind≠gS b.kind)=true then(if decide (gS a.kind<gS b.kind)=true then -1 else 1)
 else if decide (a.key≠b.key)=true then(if aa.lt a.key b.key=true then -1 else 1)else 0
def qY(a b:Fact):Prop:=a.day<b.day\/(a.day=b.day/\(gS a.kind<gS b.kind\/(gS a.kind=gS b.kind/\aa.lt a.key b.key=true)))
def adS(a b:Fact):lJ a b<0↔qY a b:=by
 unfold lJ qY;by_cases h1:a.day=b.day
 ·rw[aF (by simpa using h1)];by_cases h2:gS a.kind=gS b.kind
  ·rw[aF (by simpa using h2)];by_cases h3:a.key=b.key
   ·rw[aF (by simpa using h3),h3,NZ];simp[h1,h2]
   ·rw[aV (by simpa using h3)];by_cases h4:aa.lt a.key b.key=true
    ·rw[aV h4];simp[h1,h2,h4]
    ·rw[aF h4];simp[h1,h2,h4]
  ·rw[aV (by simpa using h2)];by_cases h4:gS a.kind<gS b.kind
   ·rw[aV (by simpa using h4)];simp[h1,h4]
   ·rw[aF (by simpa using h4)];simp[h1,h2,h4]
 ·rw[aV (by simpa using h1)];by_cases h4:a.day<b.day
  ·rw[aV (by simpa using h4)];simp[h4]
  ·rw[aF (by simpa using h4)];simp[h1,h4]
def amb{a b c:Fact}(h:qY a b)(k:qY b c):qY a c:=by
 unfold qY at*;rcases h with h|⟨h,h2⟩
 ·rcases k with k|⟨k,_⟩
  ·left;omega
  ·left;omega
 ·rcases k with k|⟨k,k2⟩
  ·left;omega
  ·refine .inr ⟨by omega,?_⟩;rcases h2 with h2|⟨h2,h3⟩
   ·rcases k2 with k2|⟨k2,_⟩
    ·left;omega
    ·left;omega
   ·rcases k2 with k2|⟨k2,k3⟩
    ·left;omega
    ·exact .inr ⟨by omega,H9 h3 k3⟩
def u7(l:List Fact):Fact:=l.getLastD default
def viewAt(pre:List Fact)(f:Fact):Int:=
 if decide (gy f≠0)=true then gy f else if f.cancelled=true then 19 else if decide (f.iB≠0)=true then 1 else if pre.any (fun g=>decide (g.key=f.key))=true then 5
 else if(decide (0<(pre.length:Int))&&decide (0<=lJ (u7 pre) f))=true then 8 else 0
def rA(pre:List Fact):List Fact->Int
 |[]=>0
 |f::r=>if decide (viewAt pre f≠0)=true then viewAt pre f else rA (pre++[f]) r
def lI(l:List Fact):Int:=if decide (1000<(l.length:Int))=true then 4 else rA [] l
def ud{e:Int}{pre rest:List Fact}{x:Fact}{n:Int}(h:e=rA pre (x::rest))(he:viewAt pre x=n)(hn:n≠0):n=e:=by rw[h,rA,he,aV (iH hn)]
def abi{e:Int}{pre rest:List Fact}{x:Fact}(h:e=rA pre (x::rest))(he:viewAt pre x=0):e=rA (pre++[x]) rest:=by rw[h,rA,he];rfl
def abc{pre:List Fact}{f:Fact}(h:decide (gy f≠0)=true):viewAt pre f=gy f:=by rw[viewAt,aV h]
def abd{pre:List Fact}{f:Fact}(h:decide (gy f≠0)=false)(h2:f.cancelled=true):viewAt pre f=19:=by rw[viewAt,aF (by rw[h];simp),aV h2]
def abe{pre:List Fact}{f:Fact}(h:decide (gy f≠0)=false)(h2:f.cancelled=false)(h3:decide (f.iB≠0)=true):viewAt pre f=1:=by rw[viewAt,aF (by rw[h];simp),aF (by rw[h2];simp),aV h3]
def abf{pre:List Fact}{f:Fact}(h:decide (gy f≠0)=false)(h2:f.cancelled=false)(h3:decide (f.iB≠0)=false)(h4:pre.any (fun g=>decide (g.key=f.key))=true):viewAt pre f=5:=by
 rw[viewAt,aF (by rw[h];simp),aF (by rw[h2];simp),aF (by rw[h3];simp),aV h4]
def abg{pre:List Fact}{f:Fact}(h:decide (gy f≠0)=false)(h2:f.cancelled=false)(h3:decide (f.iB≠0)=false)(h4:pre.any (fun g=>decide (g.key=f.key))=false)
  (h5:(decide (0<(pre.length:Int))&&decide (0<=lJ (u7 pre) f))=true):viewAt pre f=8:=by
 rw[viewAt,aF (by rw[h];simp),aF (by rw[h2];simp),aF (by rw[h3];simp),aF (by rw[h4];simp),aV h5]
def Qm{pre:List Fact}{f:Fact}(h:decide (gy f≠0)=false)(h2:f.cancelled=false)(h3:decide (f.iB≠0)=false)(h4:pre.any (fun g=>decide (g.key=f.key))=false)
  (h5:(decide (0<(pre.length:Int))&&decide (0<=lJ (u7 pre) f))=false):viewAt pre f=0:=by
 rw[viewAt,aF (by rw[h];simp),aF (by rw[h2];simp),aF (by rw[h3];simp),aF (by rw[h4];simp),aF (by rw[h5];simp)]
structure atD(l:List Fact):Prop where
 len:l.length<=1000
 each:∀f∈l,gy f=0/\f.cancelled=false/\f.iB=0
 keys:l.Pairwise fun a b=>a.key≠b.key
 ord:l.Pairwise qY
def ak6(p:List Fact)(z:Fact):u7 (p++[z])=z:=by simp[u7,vX]
theorem abh:∀(r pre:List Fact),pre.Pairwise (fun a b=>a.key≠b.key)->pre.Pairwise qY->
  (rA pre r=0↔(∀f∈r,gy f=0/\f.cancelled=false/\f.iB=0)/\(pre++r).Pairwise (fun a b=>a.key≠b.key)/\(pre++r).Pairwise qY)
 |[],pre,h1,h2=>by simp[rA,h1,h2]
 |f::r,pre,h1,h2=>by
  have e:pre++f::r=(pre++[f])++r:=by simp
  have Hj:viewAt pre f=0↔(gy f=0/\f.cancelled=false/\f.iB=0)/\(pre++[f]).Pairwise (fun a b=>a.key≠b.key)/\(pre++[f]).Pairwise qY:=by
   have k1:(pre++[f]).Pairwise (fun a b=>a.key≠b.key)↔pre.any (fun g=>decide (g.key=f.key))=false:=by
    rw[pd];simp[h1]
   have k2:(pre++[f]).Pairwise qY↔(decide (0<(pre.length:Int))&&decide (0<=lJ (u7 pre) f))=false:=by
    rw[pd];simp only[h2,List.pairwise_singleton,kl,H4,forall_eq];rcases List.eq_nil_or_concat pre with rfl|⟨p,z,rfl⟩
    ·simp
    ·simp only[List.concat_eq_append]at*;rw[ak6];have e2:(decide (0<((p++[z]).length:Int))&&decide (0<=lJ z f))=false↔qY z f:=by
      rw[<-adS];simp
     rw[e2];constructor
     ·intro h;exact h z zS
     ·intro h a ha;rcases cM.1 ha with ha|ha
      ·exact amb ((pd.1 h2).2.2 a ha z zS) h
      ·simp at ha;subst ha;exact h
   rw[k1,k2];constructor
   ·intro h;unfold viewAt at h;by_cases c1:decide (gy f≠0)=true
    ·rw[aV c1]at h;simp at c1;exact absurd h c1
    rw[aF c1]at h;by_cases c2:f.cancelled=true
    ·rw[aV c2]at h;cases h
    rw[aF c2]at h;by_cases c3:decide (f.iB≠0)=true
    ·rw[aV c3]at h;cases h
    rw[aF c3]at h;by_cases c4:pre.any (fun g=>decide (g.key=f.key))=true
    ·rw[aV c4]at h;cases h
    rw[aF c4]at h;by_cases c5:(decide (0<(pre.length:Int))&&decide (0<=lJ (u7 pre) f))=true
    ·rw[aV c5]at h;cases h
    exact⟨⟨by simpa using c1,by simpa using c2,by simpa using c3⟩,by simpa using c4,by simpa using c5⟩
   ·rintro⟨⟨c1,c2,c3⟩,c4,c5⟩;exact Qm (by simpa using c1) c2 (by simpa using c3) c4 c5
  simp only[rA];by_cases c:viewAt pre f=0
  ·rw[aF (by simpa using c),abh r (pre++[f]) (Hj.1 c).2.1 (Hj.1 c).2.2,e];have hc:=Hj.1 c;simp only[cr,forall_eq_or_imp];exact⟨fun h=>⟨⟨hc.1,h.1⟩,h.2⟩,fun h=>⟨h.1.2,h.2⟩⟩
  ·rw[aV (by simpa using c)];refine⟨fun h=>absurd h c,fun h=>absurd (Hj.2 ⟨h.1 f zS,?_,?_⟩) c⟩
   ·rw[e]at h;exact(pd.1 h.2.1).1
   ·rw[e]at h;exact(pd.1 h.2.2).1
def adN(l:List Fact):lI l=0↔atD l:=by
 have h:=abh l [] .nil .nil;rw[q_]at h;unfold lI;by_cases k:decide (1000<(l.length:Int))=true
 ·rw[aV k];have:=aG k;exact⟨fun h=>(by cases h),fun h=>(by have:=h.len;omega)⟩
 ·rw[aF k,h];have:¬1000<(l.length:Int):=fun e=>k (iH e);exact⟨fun h=>⟨by omega,h.1,h.2.1,h.2.2⟩,fun h=>⟨h.each,h.keys,h.ord⟩⟩
def r6(l:List aa):aa:=l.getLastD []
def lg(seen pre:List aa):List aa->Bool
 |[]=>true
 |x::r=>if((!isName x||(decide (0<(pre.length:Int))&&!aa.lt (r6 pre) x))||(seen++pre).any (fun y=>decide (y=x)))=true then false else lg seen (pre++[x]) r
def pr(seen:List aa):List (List aa)->Bool
 |[]=>true
 |g::r=>if decide ((g.length:Int)=0)=true then false else if(!lg seen [] g)=true then false else pr (seen++g) r
def nr(gs:List (List aa)):Bool:=if(decide ((gs.length:Int)=0)||decide (0<((gs.headD []).length:Int)))=true then false else pr [] (gs.drop 1)
def Ny{seen pre rest:List aa}{x:aa}(h:((!isName x||(decide (0<(pre.length:Int))&&!aa.lt (r6 pre) x))||(seen++pre).any (fun y=>decide (y=x)))=true):lg seen pre (x::rest)=false:=by rw[lg,aV h]
def Nx{seen pre rest:List aa}{x:aa}(h:((!isName x||(decide (0<(pre.length:Int))&&!aa.lt (r6 pre) x))||(seen++pre).any (fun y=>decide (y=x)))=false):lg seen pre (x::rest)=lg seen (pre++[x]) rest:=by rw[lg,aF (by rw[h];simp)]
def WI(p:List aa)(z:aa):r6 (p++[z])=z:=by simp[r6,vX]
def eW(gs:List (List aa))(x:aa):Int:=fw (fun g:List aa=>g.any fun m=>decide (x=m)) gs
def tK:List Int->Int
 |[]=>0
 |x::r=>r.foldl min x
def tI:List Int->Int
 |[]=>0
 |x::r=>r.foldl max x
def gh(gs:List (List aa))(ns:List aa):Int×Int:=
 if ns.any (fun x=>decide (eW gs x<0))=true then(0,6)else if decide (((ns.map (eW gs)).length:Int)=0)=true then(0,0)
 else if decide (tK (ns.map (eW gs))≠tI (ns.map (eW gs)))=true then(0,9)else((ns.map (eW gs)).headD 0,0)
def OQ{gs:List (List aa)}{ns pre rest:List aa}{x:aa}(hx:ns=pre++x::rest)(h:decide (eW gs x<0)=true):gh gs ns=(0,6):=by
 unfold gh;rw[aV];exact oh hx h
def Yz{gs:List (List aa)}{ns:List aa}(h:ns.any (fun x=>decide (eW gs x<0))=false)(h2:decide (((ns.map (eW gs)).length:Int)=0)=true):gh gs ns=(0,0):=by
 unfold gh;rw[aF (by rw[h];simp),aV h2]
def YA{gs:List (List aa)}{ns:List aa}(h:ns.any (fun x=>decide (eW gs x<0))=false)(h2:decide (((ns.map (eW gs)).length:Int)=0)=false)(h3:decide (tK (ns.map (eW gs))≠tI (ns.map (eW gs)))=true):gh gs ns=(0,9):=by
 unfold gh;rw[aF (by rw[h];simp),aF (by rw[h2];simp),aV h3]
def YB{gs:List (List aa)}{ns:List aa}(h:ns.any (fun x=>decide (eW gs x<0))=false)(h2:decide (((ns.map (eW gs)).length:Int)=0)=false)(h3:decide (tK (ns.map (eW gs))≠tI (ns.map (eW gs)))=false):gh gs ns=((ns.map (eW gs)).headD 0,0):=by
 unfold gh;rw[aF (by rw[h];simp),aF (by rw[h2];simp),aF (by rw[h3];simp)]
theorem TT(k:Int):∀l:List Int,(∀y∈l,y=k)->l.foldl min k=k/\l.foldl max k=k
 |[],_=>⟨rfl,rfl⟩
 |x::r,h=>by
  have e:=h x zS;subst e;have:=TT x r (fun y hy=>h y (by simp[hy]));simp only[oe,Int.min_self,Int.max_self];exact this
def OR{gs:List (List aa)}{ns:List aa}{k:Int}(hk:0<=k)(h:∀x∈ns,eW gs x=k)(hz:ns=[]->k=0):gh gs ns=(k,0):=by
 have h1:ns.any (fun x=>decide (eW gs x<0))=false:=by
  rw[tM];intro x hx;rw[h x hx];simp;omega
 cases ns with
 |nil=>rw[Yz h1 zS,hz rfl]
 |cons a r=>
  have e:=h a zS;have hs:=TT k (r.map (eW gs)) (fun y hy=>by
   obtain⟨x,hx,rfl⟩:=dh.1 hy;exact h x (by simp[hx]))
  rw[YB h1 zQ]
  ·simp[e]
  ·simp only[cP,tK,tI,e,hs.1,hs.2];simp
end Go.T
