/- Contracts of functions that the statement reaches, and the logic in which they are proved (no condition). -/
import Derived.Test.YtapflgppmigcdaaGreatDoorA15
set_option linter.all false
set_option maxRecDepth 20000
namespace Go.T
open Go
def mV(f:bz)(seen:List Nat):bz:=seen.foldl bz.kill f
def HV(f:bz)(seen:List Nat)(j:Nat):mV f (seen++[j])=(mV f seen).kill j:=by simp[mV]
def ag3(seen:List Nat):∀f:bz,gI (mV f seen)=gI f:=by
 induction seen with
 |nil=>intro f;rfl
 |cons j seen ih=>intro f;show gI (mV (f.kill j) seen)=_;rw[ih,ag2]
def Wt(seen:List Nat):∀(f:bz)(j:Nat),j∉seen->(mV f seen).cJ[j]?=f.cJ[j]?:=by
 induction seen with
 |nil=>intro f j _;rfl
 |cons i seen ih=>
  intro f j hj;show(mV (f.kill i) seen).cJ[j]?=_;rw[ih _ _ (fun h=>hj (cC _ h)),Ww,aF (fun(h:j=i)=>hj (h▸c7))]
def Tj{f:bz}{j:Nat}{k:aa}{v:Nat×Nat}(h:(gI f)[j]?=some (k,v)):∃e,f.cJ[j]?=some e/\e.key=k/\v=(e.id,e.rows.length):=by
 unfold gI at h;rw[fR,gx]at h;obtain⟨e,h1,h2⟩:=h;cases h2;exact⟨e,h1,rfl,rfl⟩
def zH(f:bz)(j:Nat):Option (List aa):=(f.cJ[j]?).map (·.rows)
def aqi{f:bz}{seen:List Nat}{j:Nat}{e:FE}(h:f.cJ[j]?=some e):(seen++[j]).filterMap (zH f)=seen.filterMap (zH f)++[e.rows]:=by
 simp[G6,zH,h]
def f_.perm{u:UM}{Ls jD:List (List aa)}(h:f_ u Ls)(hp:∀l,l∈Ls↔l∈jD):f_ u jD:=
 h.mono (fun l hl=>⟨l,(hp l).1 hl,fun _=>id⟩) (fun l hl=>⟨l,(hp l).2 hl,fun _=>id⟩)
def f_.join{u:UM}{Ls:List (List aa)}(h:f_ u Ls)(l:List aa):f_ (w9 u l) (Ls++[l]):=(aae h l).perm fun x=>by simp[or_comm]
def f_.add{u:UM}{Ls:List (List aa)}(h:f_ u Ls)(x:aa):f_ (dU u x) (Ls++[[x]]):=(aqz h x).perm fun y=>by simp[or_comm]
def fa(s:Setup)(l:List Fact):List (List aa):=(s.insts.map fun x=>[x.id])++l.map b_++l.map fun f=>fe l f.key
def SS{fm:bz}{l:List Fact}(h:xN fm l){j:Nat}{e:FE}(hj:fm.cJ[j]?=some e):e.rows=fe l e.key:=by
 have he:=dj hj;rw[<-h.rows e.key];unfold jG yh;have:fm.cJ.find? (fun x=>decide (e.key=x.key))=some e:=by
  have hn:=h.nd
  revert he hn
  induction fm.cJ with
  |nil=>intro he;cases he
  |cons a r ih=>
   intro he hn;rw[cP,kr]at hn;rcases cr.1 he with rfl|he
   ·rw[ux zS]
   ·rw[rv,ih he hn.2];simp only[cd];intro c;exact hn.1 (c▸dh.2 ⟨e,he,rfl⟩)
 rw[this];rfl
def Sr{s:Setup}{l:List Fact}{fm:bz}{u:UM}{seen:List Nat}(h:xN fm l)(eI:∀j,j<(gI fm).length->j∈seen)
  (hu:f_ u ((s.insts.map fun x=>[x.id])++l.map b_++seen.filterMap (zH fm))):f_ u (fa s l):=by
 refine hu.perm fun x=>?_;unfold fa;rw[cM,cM (s:=_++_)];refine or_congr Iff.rfl ?_;rw[xv,dh];constructor
 ·rintro⟨j,_,hj⟩;unfold zH at hj;obtain⟨e,h1,rfl⟩:=gx.1 hj;have hk:=(h.keys e.key).1 (dh.2 ⟨e,dj h1,rfl⟩);obtain⟨f,hf,e2⟩:=dh.1 hk;exact⟨f,hf,by rw[e2,SS h h1]⟩
 ·rintro⟨f,hf,rfl⟩;obtain⟨e,he,e2⟩:=dh.1 ((h.keys f.key).2 (dh.2 ⟨f,hf,rfl⟩));obtain⟨j,hj⟩:=mw he;refine⟨j,eI j (by unfold gI;rw[bB];exact(cI.1 hj).1),?_⟩;unfold zH;rw[hj];show some e.rows=_;rw[SS h hj,e2]
def aeZ{l:List Fact}{n:Nat}(h:∀f∈l,f.opts.length<=n)(k:aa):(fe l k).length<=l.length*(2+n):=by
 induction l with
 |nil=>simp[fe]
 |cons f r ih=>
  have h1:=ih fun g hg=>h g (cC _ hg);have h2:=yT f;have h3:=h f c7;have e:fe (f::r) k=(if f.key=k then b_ f else[])++fe r k:=by
   unfold fe;by_cases c:f.key=k<;>simp[c]
  rw[e,bl,bD,dO,qA];split
  ·omega
  ·simp;omega
def alB(a b c:aa):decide (a<=b)=true->decide (b<=c)=true->decide (a<=c)=true:=by
 simp only[cd];exact Gm
def alA(a b:aa):(decide (a<=b)||decide (b<=a))=true:=by
 simp only[fZ,cd];exact List.le_total a b
def uc(l:List aa):(fk l).Pairwise fun a b=>a<=b:=(List.pairwise_mergeSort alB alA l).imp fun h=>aG h
def Fe{a b:List aa}(h:a.Perm b)(ha:a.Pairwise fun x y=>x<=y)(hb:b.Pairwise fun x y=>x<=y):a=b:=
 E6 (fun _ _ _ _ h1 h2=>tB h1 h2) ha hb h
def P7{a b:List aa}(h:a.Perm b):fk a=fk b:=
 Fe ((lz a).trans (h.trans (lz b).symm)) (uc a) (uc b)
def Zh{a b:List aa}(ha:a.Nodup)(hb:b.Nodup)(h:∀x,x∈a↔x∈b):a.Perm b:=(uA ha hb).2 h
noncomputable def jZ(u:UM)(x:aa):List aa:=fk ((aE u).filter fun y=>decide (aI u y=aI u x))
noncomputable def mW(u:UM)(x:aa):Bool:=(aE u).all fun y=>decide (aI u y=aI u x->x<=y)
noncomputable def gU(u:UM):List (List aa):=(fk ((aE u).filter (mW u))).map (jZ u)
def aqB{u u':UM}{Ls:List (List aa)}(h:f_ u Ls)(h':f_ u' Ls):gU u=gU u':=by
 have hp:(aE u).Perm (aE u'):=Zh h.nd h'.nd fun x=>(h.keys x).trans (h'.keys x).symm;have hm:∀x,x∈aE u↔x∈aE u':=fun x=>hp.mem_iff;have hr:∀x∈aE u,∀y∈aE u,(aI u y=aI u x↔aI u' y=aI u' x):=fun x hx y hy=>(h.conn y x hy hx).trans (h'.conn y x ((hm y).1 hy) ((hm x).1 hx)).symm;have hl:∀x∈aE u,mW u x=mW u' x:=fun x hx=>by
  rw[mE];unfold mW;simp only[de,cd];constructor
  ·intro g y hy e;exact g y ((hm y).2 hy) ((hr x hx y ((hm y).2 hy)).2 e)
  ·intro g y hy e;exact g y ((hm y).1 hy) ((hr x hx y hy).1 e)
 have e1:fk ((aE u).filter (mW u))=fk ((aE u').filter (mW u')):=by
  refine P7 ?_;rw[I1 hl];exact hp.filter _
 unfold gU;rw[<-e1];refine C_ fun x hx=>?_;have k9:x∈aE u:=(eX.1 ((lz _).mem_iff.1 hx)).1;unfold jZ;refine P7 ?_;rw[I1 (q:=fun y=>decide (aI u' y=aI u' x)) fun y hy=>by rw[ou];exact hr x k9 y hy];exact hp.filter _
open Classical in
noncomputable def gJ(Ls:List (List aa)):List (List aa):=if h:∃u,f_ u Ls then gU (Classical.choose h)else[]
def Dd{u:UM}{Ls:List (List aa)}(h:f_ u Ls):gU u=gJ Ls:=by
 have hx:∃u,f_ u Ls:=⟨u,h⟩;unfold gJ;rw[dif_pos hx];exact aqB h (GY hx)
abbrev wD(l:List (List aa)):D:=.snap 1 false ([.raw (.slice none 0 0)]::l.map fun r=>[D.snap 1 false (cm r)])
end Go.T
namespace Go.T
open Go
def LB{own:ae}{f:bz}{k:aa}{new:List aa}{o' o:Ob}(i:Nat)(h:own.get i=some o)(h1:Nat.beq i 61=false)(h2:Nat.blt i 99=true):ae.get ((99,.arr 1 [])::(yg own f k new).set 61 o') i=some o:=by
 have h1:i≠61:=fun e=>by subst e;simp at h1
 have h2:i<99:=by simpa[jE]using h2
 rw[ae.bm,aF zO,ae.ej,aF zO,LA h2];exact EG h
def Tf{own:ae}{f:bz}{k:aa}{new:List aa}{o':Ob}:ae.get ((99,.arr 1 [])::(yg own f k new).set 61 o') 61=some o':=by
 rw[ae.bm,aF zO,ae.ej,aV rfl]
def zi{f:bz}(own:ae)(seen:List Nat):(Ob.mp (bP D.str ku (gI f))).okB (ae.has (own++cV (mV f seen)))=true:=by
 have:=BT own (mV f seen);rw[ag3]at this;exact this
def ag4{own:ae}{f:bz}{j:Nat}{e:FE}(eJ:mT 0 own=true)(hj:f.cJ[j]?=some e)(hl:e.live=true):ae.get (own++cV f) e.id=some (.arr 1 (cm e.rows)):=by
 have h1:=Ax f (dj hj);have:=vu eJ (Ay f) _ _ h1;rw[this];unfold FE.ob;rw[aV hl]
def GG{own:ae}{f:bz}{j:Nat}{e:FE}{o:Ob}(i:Nat)(hj:f.cJ[j]?=some e)(h:own.get i=some o)(hi:Nat.blt i 1000=true):ae.get ((own++cV f).set e.id .dead) i=some o:=by
 have:=(f.lo e (dj hj)).1;have hi:i<1000:=by simpa[jE]using hi
 rw[ae.ej,aF zO];exact EG h
def ag6{own kf:ae}{f:bz}{j:Nat}{e:FE}(eJ:mT 0 own=true)(hj:f.cJ[j]?=some e):∀i x,(cV (f.kill j)).get i=some x->ae.get ((own++cV f).set e.id .dead) i=some x/\x.okB (ae.has (kf++cV (f.kill j)))=true:=
 Tk hj (by rw[ae.ej,aV rfl]) fun i x hi h=>by
  rw[ae.ej,aF (fun c=>hi c.symm)];exact vu eJ (Ay f) _ _ h
structure pI(fm:bz)(u:UM)(ks:List aa):Prop where
 live:∀e∈fm.cJ,e.live=true
 rows:∀r,jG fm r=ks.filter fun k=>decide (aI u k=r)
 keys:∀r,r∈fm.cJ.map (·.key)↔∃k∈ks,aI u k=r
 nd:(fm.cJ.map (·.key)).Nodup
def aiE(u:UM):pI bz.empty u []:=⟨by simp[bz.empty],fun k=>rfl,by simp[bz.empty],by simp[bz.empty]⟩
theorem pI.add{fm:bz}{u:UM}{ks:List aa}(h:pI fm u ks)(x:aa):pI (fm.add (aI u x) [x]) u (ks++[x]):=by
 refine⟨fun e he=>?_,fun r=>?_,fun r=>?_,PU _ h.nd⟩
 ·rcases E7 he with he|rfl
  ·exact h.live e he
  ·rfl
 ·rw[Th,h.rows,h.rows,nq];by_cases c:r=aI u x
  ·rw[aV c,<-c];congr 1;simp[c]
  ·rw[aF c];have:¬aI u x=r:=fun e=>c e.symm;simp[this]
 ·show r∈(kR _ _ _ _).map (·.key)↔_;rw[Js,h.keys r];constructor
  ·rintro(rfl|⟨k,hk,e⟩)
   ·exact⟨x,by simp,rfl⟩
   ·exact⟨k,by simp[hk],e⟩
  ·rintro⟨k,hk,e⟩;rcases cM.1 hk with hk|hk
   ·exact .inr ⟨k,hk,e⟩
   ·left;rw[kl.1 hk]at e;exact e.symm
def Hd{fm:bz}{u:UM}{ks:List aa}(h:pI fm u ks){j:Nat}{e:FE}(hj:fm.cJ[j]?=some e):e.rows=ks.filter fun k=>decide (aI u k=e.key):=by
 have he:=dj hj;rw[<-h.rows e.key];unfold jG yh;have:fm.cJ.find? (fun x=>decide (e.key=x.key))=some e:=by
  have hn:=h.nd
  revert he hn
  induction fm.cJ with
  |nil=>intro he;cases he
  |cons a r ih=>
   intro he hn;rw[cP,kr]at hn;rcases cr.1 he with rfl|he
   ·rw[ux zS]
   ·rw[rv,ih he hn.2];simp only[cd];intro c;exact hn.1 (c▸dh.2 ⟨e,he,rfl⟩)
 rw[this];rfl
def Jx{l:List aa}(h:l≠[]):(fk l).headD []∈l/\∀y∈l,(fk l).headD []<=y:=by
 have hp:=lz l;have hw:=uc l;cases e:fk l with
 |nil=>
  rw[e]at hp;exact absurd (cc.1 hp.length_eq.symm) h
 |cons a r=>
  rw[e]at hp hw;refine⟨hp.mem_iff.1 c7,fun y hy=>?_⟩;rcases cr.1 (hp.mem_iff.2 hy)with rfl|hy
  ·exact J5 _
  ·exact(xw.1 hw).1 y hy
def wx{u:UM}{x:aa}(hx:x∈aE u):x∈(aE u).filter fun y=>decide (aI u y=aI u x):=eX.2 ⟨hx,by simp⟩
def RG{u:UM}{x:aa}(hx:x∈aE u)(hl:mW u x=true):(jZ u x).headD []=x:=by
 have aC:((aE u).filter fun y=>decide (aI u y=aI u x))≠[]:=pw (wx hx);obtain⟨h1,h2⟩:=Jx aC;obtain⟨h3,h4⟩:=eX.1 h1;unfold mW at hl;simp only[de,cd]at hl;exact tB (h2 x (wx hx)) (hl _ h3 (aG h4))
def tJ{u:UM}{x:aa}:x∈fk ((aE u).filter (mW u))↔x∈aE u/\mW u x=true:=by
 rw[q7,eX]
def Mf(u:UM):(gU u).map (·.headD [])=fk ((aE u).filter (mW u)):=by
 unfold gU;rw[Ha];conv=>rhs;rw[<-List.map_id (fk ((aE u).filter (mW u)))]
 refine C_ fun x hx=>?_;have:=tJ.1 hx;exact RG this.1 this.2
def jo(fm:bz)(seen:List Nat):List (List aa):=seen.filterMap fun j=>(fm.cJ[j]?).map fun e=>fk e.rows
def T4{fm:bz}{seen:List Nat}{j:Nat}{e:FE}(h:fm.cJ[j]?=some e):jo fm (seen++[j])=jo fm seen++[fk e.rows]:=by
 simp[jo,G6,h]
def Mh{u:UM}{ks:List aa}(hp:ks.Perm (aE u))(r:aa):fk (ks.filter fun k=>decide (aI u k=r))=fk ((aE u).filter fun k=>decide (aI u k=r)):=P7 (hp.filter _)
def Om{fm:bz}{u:UM}{ks:List aa}{seen:List Nat}(h:pI fm u ks)(hp:ks.Perm (aE u)){l:List aa}(hl:l∈jo fm seen):∃x∈aE u,mW u x=true/\l=jZ u x:=by
 unfold jo at hl;obtain⟨j,_,hj⟩:=xv.1 hl;obtain⟨e,he,rfl⟩:=gx.1 hj;obtain⟨k,hk,hr⟩:=(h.keys e.key).1 (dh.2 ⟨e,dj he,rfl⟩);rw[Hd h he,Mh hp,<-hr];have uR:k∈aE u:=hp.mem_iff.1 hk;have aC:((aE u).filter fun y=>decide (aI u y=aI u k))≠[]:=pw (wx uR);obtain⟨h1,h2⟩:=Jx aC;generalize (fk ((aE u).filter fun y=>decide (aI u y=aI u k))).headD []=x at h1 h2;obtain⟨h3,h4⟩:=eX.1 h1;have h4:aI u x=aI u k:=by simpa using h4
 refine⟨x,h3,?_,by unfold jZ;rw[h4]⟩;unfold mW;simp only[de,cd];exact fun y hy e=>h2 y (eX.2 ⟨hy,by simpa[h4]using e⟩)
def ahH{fm:bz}{u:UM}{ks:List aa}{seen:List Nat}(h:pI fm u ks)(hp:ks.Perm (aE u))(eI:∀j,j<(gI fm).length->j∈seen){x:aa}(hx:x∈aE u):jZ u x∈jo fm seen:=by
 obtain⟨e,he,hk⟩:=dh.1 ((h.keys (aI u x)).2 ⟨x,hp.mem_iff.2 hx,rfl⟩);obtain⟨j,hj⟩:=mw he;unfold jo;refine xv.2 ⟨j,eI j (by unfold gI;rw[bB];exact(cI.1 hj).1),?_⟩;rw[hj];show some (fk e.rows)=_;rw[Hd h hj,Mh hp,hk];rfl
def aja{u:UM}{x:aa}(hx:x∈aE u):aI u ((jZ u x).headD [])=aI u x:=by
 have aC:((aE u).filter fun y=>decide (aI u y=aI u x))≠[]:=pw (wx hx);exact aG (eX.1 (Jx aC).1).2
def ahK{fm:bz}{u:UM}{ks:List aa}(h:pI fm u ks)(hp:ks.Perm (aE u))(seen:List Nat):(jo fm seen).map (fun l=>aI u (l.headD []))=seen.filterMap fun j=>(fm.cJ[j]?).map (·.key):=by
 unfold jo;rw[List.map_filterMap]
 congr 1
 funext j
 cases hj:fm.cJ[j]?with
 |none=>rfl
 |some e=>
  simp only[jk,cH];obtain⟨k,hk,hr⟩:=(h.keys e.key).1 (dh.2 ⟨e,dj hj,rfl⟩);rw[Hd h hj,Mh hp,<-hr];exact aja (hp.mem_iff.1 hk)
def L2{fm:bz}{u:UM}{ks:List aa}(h:pI fm u ks)(hp:ks.Perm (aE u)){seen:List Nat}(hs:seen.Nodup):((jo fm seen).map (·.headD [])).Nodup:=by
 have h1:((jo fm seen).map (fun l=>aI u (l.headD []))).Nodup:=by
  rw[ahK h hp];refine List.Pairwise.filterMap _ (fun i j AZ a ha b hb e=>AZ ?_) hs;obtain⟨x,hx,rfl⟩:=gx.1 ha;obtain⟨y,hy,rfl⟩:=gx.1 hb;have h1:(fm.cJ.map (·.key))[i]?=some x.key:=by rw[fR,hx];rfl
  have h2:(fm.cJ.map (·.key))[j]?=some x.key:=by rw[fR,hy];exact aT some e.symm
  obtain⟨a1,b1⟩:=cI.1 h1;obtain⟨a2,b2⟩:=cI.1 h2;have hq:=qC.1 h.nd;rcases q0 i j with h3|h3|h3
  ·exact absurd (b1.trans b2.symm) (hq _ _ a1 a2 h3)
  ·exact h3
  ·exact absurd (b2.trans b1.symm) (hq _ _ a2 a1 h3)
 have h2:(((jo fm seen).map (·.headD [])).map (aI u)).Nodup:=by rw[Ha];exact h1
 exact(rB.1 h2).imp fun aC e=>aC (aT _ e)
def ahJ{fm:bz}{u:UM}{ks:List aa}{seen:List Nat}(h:pI fm u ks)(hp:ks.Perm (aE u))(hn:(aE u).Nodup)(hs:seen.Nodup)(eI:∀j,j<(gI fm).length->j∈seen):(gU u).Perm (jo fm seen):=by
 have n1:(gU u).Nodup:=by
  have:((gU u).map (·.headD [])).Nodup:=by
   rw[Mf];exact(lz _).nodup_iff.2 (hn.filter _)
  exact(rB.1 this).imp fun aC e=>aC (by rw[e])
 have n2:(jo fm seen).Nodup:=(rB.1 (L2 h hp hs)).imp fun aC e=>aC (by rw[e]);refine(uA n1 n2).2 fun l=>?_;constructor
 ·intro hl;unfold gU at hl;obtain⟨x,hx,rfl⟩:=dh.1 hl;exact ahH h hp eI (tJ.1 hx).1
 ·intro hl;obtain⟨x,hx,h1,rfl⟩:=Om h hp hl;unfold gU;exact dh.2 ⟨x,tJ.2 ⟨hx,h1⟩,rfl⟩
def ahI{fm:bz}{u:UM}{ks:List aa}{seen:List Nat}(h:pI fm u ks)(hp:ks.Perm (aE u)):∀l∈jo fm seen,l≠[]:=fun l hl=>by
 obtain⟨x,hx,_,rfl⟩:=Om h hp hl;have:x∈jZ u x:=by unfold jZ;rw[q7];exact wx hx
 exact pw this
def Uq(u:UM):((gU u).map (·.headD [])).Pairwise fun a b=>a<=b:=by rw[Mf];exact uc _
def UO{i j:Nat}{o:Ob}(h:i≠j):ae.has [(i,o)] j=false:=by
 show(ae.get [(i,o)] j).isSome=false;rw[ae.bm,aF h];rfl
def ah0{i:Nat}{o:Ob}{r:ae}:ae.get ((i,o)::r) i=some o:=by rw[ae.bm,aV rfl]
abbrev Tg(own:ae)(f:bz)(e:FE)(o':Ob):ae:=(e.id,o')::ae.rest (own++cV f) [(e.id,e.ob)]
def C4{own:ae}{f:bz}{j:Nat}{e:FE}{o' o:Ob}(i:Nat)(hj:f.cJ[j]?=some e)(h:own.get i=some o)(hi:Nat.blt i 1000=true):ae.get ((Tg own f e o').set e.id .dead) i=some o:=by
 have:=(f.lo e (dj hj)).1;have hi:i<1000:=by simpa[jE]using hi
 rw[ae.ej,aF zO,ae.bm,aF zO,ae.s3];have:ae.has [(e.id,e.ob)] i=false:=UO zO;rw[this];exact EG h
def ag8{own kf:ae}{f:bz}{j:Nat}{e:FE}{o':Ob}(eJ:mT 0 own=true)(hj:f.cJ[j]?=some e):∀i x,(cV (f.kill j)).get i=some x->ae.get ((Tg own f e o').set e.id .dead) i=some x/\x.okB (ae.has (kf++cV (f.kill j)))=true:=
 Tk hj (by rw[ae.ej,aV rfl]) fun i x hi h=>by
  rw[ae.ej,aF (fun c=>hi c.symm),ae.bm,aF (fun c=>hi c.symm),ae.s3];have:ae.has [(e.id,e.ob)] i=false:=UO fun c=>hi c.symm;rw[this];exact vu eJ (Ay f) _ _ h
def xa(u:UM)(j:Nat):Option aa:=(u[j]?).map (·.1)
def akS{u:UM}{seen:List Nat}{j:Nat}{k v:aa}(h:u[j]?=some (k,v)):(seen++[j]).filterMap (xa u)=seen.filterMap (xa u)++[k]:=by
 simp[G6,xa,h]
def akR{u:UM}{j:Nat}{k v:aa}(h:u[j]?=some (k,v)):k∈aE u:=dh.2 ⟨(k,v),dj h,rfl⟩
def akV{u:UM}{seen:List Nat}(hn:(aE u).Nodup)(hs:seen.Nodup)(eI:∀j,j<u.length->j∈seen):(seen.filterMap (xa u)).Perm (aE u):=by
 have n1:(seen.filterMap (xa u)).Nodup:=by
  refine List.Pairwise.filterMap _ (fun i j AZ a ha b hb e=>AZ ?_) hs;have h1:(aE u)[i]?=some a:=by unfold aE;rw[fR];exact ha
  have h2:(aE u)[j]?=some a:=by unfold aE;rw[fR,e];exact hb
  obtain⟨a1,b1⟩:=cI.1 h1;obtain⟨a2,b2⟩:=cI.1 h2;have hq:=qC.1 hn;rcases q0 i j with h3|h3|h3
  ·exact absurd (b1.trans b2.symm) (hq _ _ a1 a2 h3)
  ·exact h3
  ·exact absurd (b2.trans b1.symm) (hq _ _ a2 a1 h3)
 refine(uA n1 hn).2 fun k=>?_;constructor
 ·intro h;obtain⟨j,_,hj⟩:=xv.1 h;obtain⟨p,hp,rfl⟩:=gx.1 hj;exact dh.2 ⟨p,dj hp,rfl⟩
 ·intro h;obtain⟨p,hp,rfl⟩:=dh.1 h;obtain⟨j,hj⟩:=mw hp;exact xv.2 ⟨j,eI j (cI.1 hj).1,by unfold xa;rw[hj];rfl⟩
def akQ(u:UM)(seen:List Nat):(seen.filterMap (xa u)).length<=seen.length:=List.length_filterMap_le _ _
def amF{l:List Fact}{k x:aa}(h:x∈fe l k):∃f∈l,x∈b_ f:=by
 unfold fe at h;obtain⟨r,hr,hx⟩:=lA.1 h;obtain⟨f,hf,rfl⟩:=dh.1 hr;exact⟨f,(eX.1 hf).1,hx⟩
def Gp{s:Setup}{l:List Fact}{x:aa}(h:named (fa s l) x):x∈(s.insts.map (·.id))++(l.map b_).flatten:=by
 obtain⟨r,hr,hx⟩:=h;unfold fa at hr;rw[cM,cM]at hr;rw[cM];rcases hr with(hr|hr)|hr
 ·obtain⟨i,hi,rfl⟩:=dh.1 hr;left;rw[kl.1 hx];exact dh.2 ⟨i,hi,rfl⟩
 ·exact .inr (lA.2 ⟨r,hr,hx⟩)
 ·obtain⟨f,hf,rfl⟩:=dh.1 hr;obtain⟨f',MP,k9⟩:=amF hx;exact .inr (lA.2 ⟨_,dh.2 ⟨f',MP,rfl⟩,k9⟩)
def TL{l:List Fact}{n:Nat}(h:∀f∈l,f.opts.length<=n):(l.map b_).flatten.length<=l.length*(2+n):=by
 induction l with
 |nil=>simp
 |cons f r ih=>
  have h1:=ih fun g hg=>h g (cC _ hg);have h2:=yT f;have h3:=h f c7;rw[cP,fW,bl,bD,dO,qA];omega
def afD{s:Setup}{l:List Fact}{u:UM}(hu:f_ u (fa s l))(hi:s.insts.length<=1000)(hl:l.length<=500)(ho:∀f∈l,f.opts.length<=1000):u.length<=1000000:=by
 have h1:=wC hu.nd (l₂:=(s.insts.map (·.id))++(l.map b_).flatten) (fun x hx=>Gp ((hu.keys x).1 hx));have h2:=TL ho;have h3:l.length*(2+1000)<=500*1002:=dd _ hl;simp only[aE,bB,bl]at h1;omega
def afH{s:Setup}{l:List Fact}{u:UM}(hu:f_ u (fa s l))(hi:∀x∈s.insts,dX x.id)(ho:∀f∈l,∀n∈fJ f,dX n):∀k∈aE u,dX k:=fun k hk=>by
 have:=Gp ((hu.keys k).1 hk);rcases cM.1 this with h|h
 ·obtain⟨x,hx,rfl⟩:=dh.1 h;exact hi x hx
 ·obtain⟨r,hr,hx⟩:=lA.1 h;obtain⟨f,hf,rfl⟩:=dh.1 hr;exact ho f hf k (Oo.1 hx).1
open Go.Proofs Go.Proofs.Tryz
structure afT(s:Setup)(l:List Fact)where
 pre:List aS
 rest:List aS
 u:UM
 hx:s.insts=pre++rest
 hu:f_ u (pre.map fun x=>[x.id])
structure afU(s:Setup)(l:List Fact)where
 pre:List Fact
 rest:List Fact
 u:UM
 fm:bz
 hx:l=pre++rest
 hu:f_ u ((s.insts.map fun x=>[x.id])++pre.map b_)
 jJ:xN fm pre
structure afV(s:Setup)(l:List Fact)(fm:bz)where
 seen:List Nat
 u3:UM
 fD:seen.Nodup
 DP:f_ u3 (((s.insts.map fun x=>[x.id])++l.map b_)++seen.filterMap (zH fm))
def afS(s:Setup)(l:List Fact)(Dt:s.insts.length<=1000)(yA:∀x∈s.insts,dX x.id)(Dx:l.length<=500)(h_:∀f∈l,f.opts.length<=1000/\∀s∈fJ f,dX s)(hgr:∀u,my u->(aE u).Nodup->(∀k∈aE u,dX k)->u.length<=1000000->dB prog 92 [.cL 60] [(60,.mp (bP D.str D.str u))] (wD (gU u)) [(60,.mp (bP D.str D.str u))]):Fc prog 45 [.agg (im s),aQ l] (wD (gJ (fa s l))):=by
 refine ay func45 ntmps45 results45 ?_;refine U.seq<|rg<|.W rfl (I8 0 rfl rfl)<|.ag rfl rfl<|.nil ?_;refine U.bc (Le.fx 2 0 rfl rfl rfl rfl) ?_;refine U.seq<|rg<|.W rfl (ni 60 D.str (D.str) rfl)<|.W rfl (ni 61 D.str (ku) rfl)<|.ag rfl rfl<|.ag rfl rfl<|.nil<|U.seq<|U.seq<|rg<|.P rfl (lr (n:=0) 23 1 underlying30 sizeOf23 rfl rfl rfl)<|.P rfl (bE isAgg23 rfl)<|.P rfl (cv underlying23 rfl)<|.mv rfl rfl<|.nil<|U.block<|U.loop (ι:=afT s l) (fun sx=>[(1,aQ l),(5,.cL 60),(6,.cL 61),(17,n_ s.insts),(18,.i s.insts.length),(19,.i sx.pre.length)]) (fun sx=>[(60,.mp (bP D.str D.str sx.u)),(61,.mp (bP D.str ku (gI bz.empty)))]) (fun sx=>sx.rest.length) ⟨[],_,[],rfl,aaf⟩ ?_ ?_
 ·exact Le.mk rfl (.n 4 rfl rfl (.cons rfl (Sub.int zS) rfl (.s rfl rfl .nil))) (.eq rfl (by rfl) (gN _ _) (.cons rfl rfl .nil))
 ·rintro⟨pre,rest,u,hx,hu⟩;dsimp only;rcases lc hx with⟨rfl,hl⟩|⟨x,rest,rfl,hl⟩
  ·refine U.seq<|rg<|.P rfl (bp rfl rfl)<|.nil<|U.seq<|U.c6 rfl (by simp at hl|-;omega)<|U.exit (dz (du ?_));refine U.seq<|U.seq<|rg<|.mv rfl rfl<|.P rfl (cv underlying31 rfl)<|.mv rfl rfl<|.nil<|U.block<|U.loop (ι:=afU s l) (fun sx=>[(1,aQ l),(5,.cL 60),(6,.cL 61),(28,aQ l),(29,.i l.length),(30,.i sx.pre.length)]) (fun sx=>([(60,.mp (bP D.str D.str sx.u)),(61,.mp (bP D.str ku (gI sx.fm))),(99,.arr 1 [])]++cV sx.fm)) (fun sx=>sx.rest.length) ⟨[],_,u,bz.empty,rfl,(by have e:pre=s.insts:=(by simp[hx]);rw[<-e];simpa using hu),ag1⟩ ?_ ?_
   ·exact(Le.gC 99 1).trans<|Le.mk rfl (.n 4 rfl rfl (.cons rfl (Sub.int zS) rfl (.s rfl rfl .nil))) (.eq rfl (by rfl) (gN _ _) (.eq rfl (by rfl) (BT _ _) (.arr rfl zS (.tail (fun _ _ h=>nomatch (show(none:Option Ob)=some _ from h))))))
   ·rintro⟨pre,rest,u,fm,hx,hu,jJ⟩;dsimp only;have hl:=aT List.length hx;simp only[bl]at hl;rcases rest with _|⟨x,rest⟩
    ·obtain rfl:l=pre:=by simpa using hx
     refine U.seq<|rg<|.P rfl (bp rfl rfl)<|.nil<|U.seq<|U.c6 rfl zS<|U.exit (dz (du ?_));refine U.seq<|U.seq<|rg<|.mv rfl rfl<|.W rfl (PB km (vD:=ku) 62 underlying129 rfl rfl (Az (own:=[(60,_),(61,_),(99,_)]) rfl rfl))<|.nil<|U.block<|U.loop (ι:=afV s l fm) (fun sx=>[(5,.cL 60),(50,.box 62 0)]) (fun sx=>([(62,.mi 61 (gI fm).length sx.seen),(60,.mp (bP D.str D.str sx.u3)),(61,.mp (bP D.str ku (gI fm))),(99,.arr 1 [])]++cV (mV fm sx.seen))) (fun sx=>zR (gI fm).length sx.seen) ⟨[],u,Fx,(by simpa using hu)⟩ ?_ ?_
     ·exact Le.mk rfl (.n 2 rfl rfl .nil) (.cons rfl rfl (.eq rfl (by rfl) (gN _ _) (.eq rfl (by rfl) (zi _ _) (.arr rfl zS (.tail (yi (own:=[(62,_),(60,_),(61,_),(99,_)]) (kf:=[(62,_),(60,_),(61,_),(99,_)]) _ rfl))))))
     ·rintro⟨seen,u3,fD,DP⟩;dsimp only;refine U.seq (U.vK ?_);refine Tx.n rfl trivial (Pz km (vD:=ku) rfl rfl rfl) (fun nb cF=>?_);rcases nb with _|⟨nj,nk,nv⟩
      ·dsimp only[tS,vk,vj];refine Tx.q rfl trivial (eP rfl rfl _)<|Tx.nil<|U.seq<|U.c6 rfl rfl<|U.exit (dz (du ?_));have hD:=Sr jJ cF DP;refine U.seq<|rg<|.mv rfl rfl<|.W rfl (EU (own:=[(62,_),(60,_),(61,_),(99,_)]) call92 rfl (hgr _ hD.rJ hD.nd (afH hD yA (fun f hf=>(h_ f hf).2)) (afD hD Dt Dx (fun f hf=>(h_ f hf).1))) rfl rfl (.cons rfl (gN _ _) .nil) rfl rfl)<|.ag rfl rfl<|.nil<|U.ret (?_);exact dt rfl (Sub.snap (by(rw[Dd (Sr jJ cF DP)])))
      ·dsimp only[tS,vk,vj];refine Tx.q rfl trivial (eP rfl rfl _)<|Tx.nil<|U.seq<|U.ew rfl rfl<|U.skip<|U.block ?_;obtain⟨e,he,rfl,rfl⟩:=Tj (qB cF);have nL:(mV fm seen).cJ[nj]?=some e:=(Wt _ _ _ (AJ cF)).trans he;have tg:e.live=true:=jJ.live e (dj he);refine U.seq<|rg<|.R rfl (Ps km (vD:=ku) rfl rfl rfl (qB cF))<|.P rfl (eP rfl rfl)<|.ag rfl rfl<|.nil ?_;refine U.bc ((Le.freeze 13 e.id rfl (ag4 (own:=[(62,_),(60,_),(61,_),(99,_)]) rfl nL tg) zS).trans (Le.mk (aY:=[(5,_),(13,_),(50,_)]) (aj:=[(62,_),(60,_),(61,_),(99,_)]++cV ((mV fm seen).kill nj)) rfl ((.n 3 rfl rfl .nil)) (.cons (GG (own:=[(62,_),(60,_),(61,_),(99,_)]) 62 nL rfl rfl) rfl (.cons (GG (own:=[(62,_),(60,_),(61,_),(99,_)]) 60 nL rfl rfl) (gN _ _) (.cons (GG (own:=[(62,_),(60,_),(61,_),(99,_)]) 61 nL rfl rfl) (by rw[<-HV];exact zi _ (seen++[nj])) (.cons (GG (own:=[(62,_),(60,_),(61,_),(99,_)]) 99 nL rfl rfl) rfl (.tail (ag6 (own:=[(62,_),(60,_),(61,_),(99,_)]) rfl nL)))))))) ?_;rw[<-HV];refine rg<|.mv rfl rfl<|.mv rfl rfl<|.W rfl (EU (own:=[(62,_),(60,_),(61,_),(99,_)]) call91 rfl (Wk _ (by exact DP.rJ) _) rfl rfl (.cons rfl (gN _ _) .nil) rfl rfl)<|.nil<|U.nil (bR ?_);refine U.nil (cz ?_);exact⟨⟨seen++[nj],w9 u3 e.rows,Jw fD (AJ cF),by rw[aqi he,<-ng];exact DP.join e.rows⟩,by exact JI ((cI.1 (qB cF)).1) (AJ cF),Le.mk rfl (.n 2 rfl rfl .nil) (.cons rfl rfl (.eq rfl (by rfl) (gN _ _) (.eq rfl (by rfl) (zi _ _) (.arr rfl zS (.tail (yi (own:=[(60,_),(62,_),(61,_),(99,_)]) (kf:=[(62,_),(60,_),(61,_),(99,_)]) _ rfl))))))⟩
    ·simp only[bD]at hl;have DS:=h_ x (by rw[hx];simp);have hpr:∀f∈pre,f.opts.length<=1000:=fun f hf=>(h_ f (by rw[hx];simp[hf])).1;refine U.seq<|rg<|.P rfl (bp rfl rfl)<|.nil<|U.seq<|U.ew rfl zQ<|U.skip<|U.seq<|U.block<|U.seq<|rg<|.P rfl (eC underlying31 sizeOf39 rfl rfl zO (aK aJ hx rfl))<|.P rfl (vH isAgg39 sizeOf39 rfl rfl)<|.W rfl (jC 71 zeroValue39 (Az (own:=[(60,_),(61,_),(99,_)]) rfl rfl))<|.W rfl (kP sizeOf39 rfl rfl rfl rfl rfl rfl)<|.nil<|U.seq<|rg<|.R rfl (B8 isAgg39 sizeOf39 rfl rfl rfl)<|.P rfl (ah call25 rfl (V7 x (dM (h_ x (by rw[hx];simp)).1 zD) (h_ x (by rw[hx];simp)).2))<|.ag rfl rfl<|.nil<|U.seq<|rg<|.mv rfl rfl<|.mv rfl rfl<|.W rfl (EU (own:=[(71,_),(60,_),(61,_),(99,_)]) call91 rfl (Wk _ (by exact hu.rJ) _) rfl rfl (.cons rfl (gN _ _) .nil) rfl rfl)<|.nil ?_;refine U.bc (Le.fx 10 71 rfl rfl rfl rfl) ?_
     refine U.pE [.p,.p,.p,.p,.p,.p,.r,.p,.w,.w] l7 zK<|.mv rfl rfl<|.P rfl (lr (n:=0) 9 0 underlying39 sizeOf9 rfl rfl rfl)<|.P rfl (bE isAgg9 rfl)<|.mv rfl rfl<|.P rfl (lr (n:=0) 9 0 underlying39 sizeOf9 rfl rfl rfl)<|.P rfl (bE isAgg9 rfl)<|.R rfl (ZK km (f:=fm) (k:=x.key) underlying129 zeroValue48 rfl rfl rfl rfl)<|.mv rfl rfl<|.W rfl (ZA (own:=[(60,_),(71,_),(61,_),(99,_)]) (f:=fm) (k:=x.key) (new:=b_ x) (bt:=16) underlying48 underlying48 sizeOf9 typeInfo9 zeroValue9 rfl rfl rfl rfl rfl jJ.live rfl rfl (by have:=yT x;have:=DS.1;have:=aeZ hpr x.key;rw[jJ.rows];omega))<|.W rfl (eV km (vD:=ku) (m:=gI fm) (k:=x.key) (v:=(fm.next,(jG fm x.key).length+(b_ x).length)) underlying129 rfl rfl rfl rfl rfl ((LA (own:=[(60,_),(71,_),(61,_),(99,_)]) zD).trans (EG (own:=[(60,_),(71,_),(61,_),(99,_)]) rfl)))<|.nil<|U.nil (bR ?_);rw[Ti];refine U.bc (Le.gC 99 1) ?_;refine U.bc (Le.mk (aY:=[(1,_),(5,_),(6,_),(28,_),(29,_),(30,_)]) (aj:=[(60,_),(61,_),(99,.arr 1 [])]++cV (fm.add x.key (b_ x))) rfl (show ct _ _ [(1,_),(5,_),(6,_),(28,_),(29,_),(30,_)]from(.n 6 rfl rfl .nil)) (.eq (LB (own:=[(60,_),(71,_),(61,_),(99,_)]) 60 rfl rfl rfl) rfl (gN _ _) (.eq Tf rfl (BT _ _) (.cons rfl rfl (.tail (Tl (own:=[(60,_),(71,_),(61,_),(99,_)]) zD rfl)))))) ?_;refine rg<|.P rfl (bx rfl rfl (ao zO))<|.mv rfl rfl<|.nil<|U.nil (cz ?_)
     exact⟨⟨pre++[x],rest,w9 u (b_ x),fm.add x.key (b_ x),by simp[hx],by have:=hu.join (b_ x);simpa using this,jJ.add x⟩,by simp,Le.mk rfl (.n 5 rfl rfl (.cons rfl (Sub.int zS) rfl .nil)) (.eq rfl (by rfl) (gN _ _) (.eq rfl (by rfl) (BT _ _) (.arr rfl zS (.tail (yi (own:=[(60,_),(61,_),(99,_)]) (kf:=[(60,_),(61,_),(99,_)]) _ rfl)))))⟩
  ·refine U.seq<|rg<|.P rfl (bp rfl rfl)<|.nil<|U.seq<|U.ew rfl zQ<|U.skip<|U.seq<|U.block<|U.seq<|rg<|.P rfl (eC underlying23 sizeOf65 rfl rfl zO (aK iS hx rfl))<|.P rfl (vH isAgg65 sizeOf65 rfl rfl)<|.W rfl (jC 70 zeroValue65 rfl)<|.W rfl (kP sizeOf65 rfl rfl rfl rfl rfl rfl)<|.nil<|rg<|.mv rfl rfl<|.P rfl (iN (n:=0) 9 0 underlying65 sizeOf9 rfl rfl)<|.R rfl (iY isAgg9 rfl rfl rfl)<|.W rfl (gv call90 rfl (QW _ _) (.cons rfl (gN _ _) .nil) rfl rfl)<|.nil<|U.nil (bR ?_);refine rg<|.P rfl (bx rfl rfl (ao zO))<|.mv rfl rfl<|.nil<|U.nil (cz ?_);exact⟨⟨pre++[x],rest,dU u x.id,by simp[hx],by have:=hu.add x.id;simpa using this⟩,by simp,Le.mk rfl (.n 5 rfl rfl (.cons rfl (Sub.int zS) rfl .nil)) (.eq rfl (by rfl) (gN _ _) (.cons rfl rfl .nil))⟩
end Go.T
namespace Go.T
open Go Go.Proofs Go.Shelf Go.RowKit Go.Lib Go.Sort
theorem Cx{w:World}{O:Nat->Prop}{b:Nat}:∀(rows:List (List D))(off:Nat),Vr w O b off 1 rows->∀(i:Nat)(d:D),rows[i]?=some [d]->∃u,w.cell? ⟨b,off+i,none⟩=some u/\u.oneCell'=true/\V w O dZ d u
 |[],_,_,i,d,h=>by simp at h
 |r::rows,off,hv,0,d,h=>by
  simp only[Vr]at hv;simp only[jH,cH]at h;subst h;obtain⟨⟨_,h1⟩,_⟩:=hv;simp only[Vc]at h1;obtain⟨⟨u,⟨h2,h3⟩,h4⟩,_⟩:=h1;exact⟨u,h2,h3,h4⟩
 |r::rows,off,hv,i+1,d,h=>by
  simp only[Vr]at hv;have:=Cx rows (off+1) hv.2 i d (by simpa using h);rwa[show off+1+i=off+(i+1) by omega]at this
theorem J6{w:World}{O:Nat->Prop}{b:Nat}:∀(rows:List (List D))(off:Nat),(∀(i:Nat)(r:List D),rows[i]?=some r->∃d u,r=[d]/\w.cell? ⟨b,off+i,none⟩=some u/\u.oneCell'=true/\V w O dZ d u)->Vr w O b off 1 rows
 |[],_,_=>by simp[Vr]
 |r::rows,off,h=>by
  simp only[Vr];obtain⟨d,u,rfl,h1,h2,h3⟩:=h 0 r rfl;refine⟨⟨rfl,?_⟩,J6 rows (off+1) fun i r hr=>?_⟩
  ·simp only[Vc];exact⟨⟨u,⟨by simpa using h1,h2⟩,h3⟩,trivial⟩
  ·have:=h (i+1) r (by simpa using hr);rwa[show off+(i+1)=off+1+i by omega]at this
def amc(c d:UInt8)(r s:aa):aa.lt (c::r) (d::s)=(decide (c.toNat<d.toNat)||(decide (c=d)&&aa.lt r s)):=by
 show(decide (c<d)||(c==d&&Op.bytesLess r s))=_;have h1:decide (c<d)=decide (c.toNat<d.toNat):=by simp[sA]
 have h2:(c==d)=decide (c=d):=by rw[mE];simp
 rw[h1,h2];rfl
theorem NY:∀a b:aa,aa.lt a b=true↔a<b
 |[],[]=>by simp[aa.lt,Op.bytesLess]
 |[],_::_=>by simp[aa.lt,Op.bytesLess]
 |_::_,[]=>by simp[aa.lt,Op.bytesLess]
 |x::a,y::b=>by
  rw[amc,List.cons_lt_cons_iff];have ih:=NY a b;simp only[fZ,bd,cd,ih];rfl
def ad2(a b:aa):(o0 a b<0)↔a<b:=by
 unfold o0;by_cases h:aa.lt a b=true
 ·rw[aV h];exact⟨fun _=>(NY a b).1 h,fun _=>by decide⟩
 ·rw[aF h];constructor
  ·intro h2;split at h2<;>simp at h2
  ·intro h2;exact absurd ((NY a b).2 h2) h
def ML{α:Type}[Inhabited α]{enc:α->Value}{w:World}{cp off m:Nat}{dk:Array α}{os:Array Obj}{b:Nat}(hb:b<w.heap.size)(aC:b≠cp):(sortWorld enc w cp off m dk os).heap[b]?=w.heap[b]?:=by
 unfold sortWorld putRow mapBlock Sort.grow Sort.ahead;simp only;rw[oY (by simpa using hb),sD,aF (qc aC)]
def ajc{α:Type}[Inhabited α]{enc:α->Value}{w:World}{cp off m:Nat}{dk:Array α}{os:Array Obj}{c:Array Value}{T:TypeId}{fr:Nat×Nat}(hb:w.heap[cp]?=some (.cells c T fr)):(sortWorld enc w cp off m dk os).heap[cp]?=some (.cells (putCells enc off dk c) T fr):=by
 have mN:cp<w.heap.size:=(bH.1 hb).1;unfold sortWorld putRow mapBlock Sort.grow Sort.ahead;simp only;rw[oY (by simpa using mN),sD,aV rfl,hb];rfl
def aat{α:Type}[Inhabited α](enc:α->Value)(w:World)(cp off m:Nat)(dk:Array α)(os:Array Obj):w.heap.size<=(sortWorld enc w cp off m dk os).heap.size:=by
 unfold sortWorld putRow mapBlock Sort.grow Sort.ahead;simp
def aq2{P:Program}{f g:Nat}
  (as4:∀{α:Type}[Inhabited α](enc:α->Value)(_:OneCell enc)(cf:α->α->Int)(_:SWO (ltOf cf))(cp off cap:Nat)(d:Array α)(w:World)(_:CmpLays1 P g #[] enc cf cp off d.size w)(_:Holds enc w cp off d)(_:cp<w.heap.size)(_:d.size<4611686018427387904)(_:∀x y,(ltOf cf) x y=false->(ltOf cf) y x=false->x=y),
   Calls P f #[.slice (some ⟨cp,off,none⟩) d.size cap,.func (.func g) #[] #[]] w fun e w'=>e=.returned (.tuple #[])/\∃n os,w'=sortWorld enc w cp off n (d.toList.mergeSort fun x y=>!(ltOf cf) y x).toArray os)
  (ans:∀(p:Option Addr)(cap:Nat)(fv:Value)(w:World),Calls P f #[.slice p 0 cap,fv] w fun e w'=>e=.returned (.tuple #[])/\w'=w)
  {β:Type}(dD:β->D)(key:β->aa)(id:Nat)(r0:D)(l l2:List β)(hl:l.length<4611686018427387904)(hc:∀x∈l,∀y∈l,@Fc calm P g [dD x,dD y] (.i (o0 (key x) (key y))))
  (hk:(l.map key).Nodup)(hp:l2.Perm l)(hs:(l2.map key).Pairwise fun a b=>a<=b):
  dB P f [.qg id 1 l.length,.fn (.func g) [] []] [(id,.arr 1 ([r0]::l.map fun x=>[dD x]))] (.a_ []) [(id,.arr 1 ([r0]::l2.map fun x=>[dD x]))]:=⟨fun w O ρ vals ai bY hv=>by
 simp only[Vs,V]at hv;obtain⟨v1,us,rfl,⟨aR,cap,je,rfl,cR⟩,v2,zU,rfl,⟨xs,ys,rfl,wZ,Be⟩,rfl⟩:=hv;obtain rfl:xs=#[]:=by rw[<-Array.toArray_toList (xs:=xs),wZ]
 obtain rfl:ys=#[]:=by rw[<-Array.toArray_toList (xs:=ys),Be]
 have Dy:l2.length=l.length:=hp.length_eq;have fC:ae.get [(id,Ob.arr 1 ([r0]::l.map fun x=>[dD x]))] id=some (.arr 1 ([r0]::l.map fun x=>[dD x])):=by simp[ae.get]
 obtain⟨l',h3,A4,c,T,hb,bb,ta,tn⟩:=ai.own id _ fC rfl;rw[je]at h3;cases h3;have mN:aR.b<w.heap.size:=(bH.1 hb).1;have lS:Ot O ρ [(id,Ob.arr 1 ([r0]::l.map fun x=>[dD x]))] aR.b:=.inr ⟨id,_,aR,fC,rfl,je,rfl⟩;by_cases hn:l.length=0
 ·have e1:l=[]:=cc.1 hn;have e2:l2=[]:=cc.1 (Dy.trans hn);subst e1;subst e2;refine Calls.mono (ans (some ⟨aR.b,aR.off+1,none⟩) cap (.func (.func g) #[] #[]) w) ?_;rintro e w' ⟨rfl,rfl⟩;exact⟨_,ρ,rfl,Tr.refl ai,by simp[V,Vs]⟩
 have cells:∀i:Fin l.length,∃u,w.cell? ⟨aR.b,aR.off+1+i.1,none⟩=some u/\u.oneCell'=true/\V w (Ot O ρ [(id,Ob.arr 1 ([r0]::l.map fun x=>[dD x]))]) dZ (dD l[i.1]) u:=fun i=>by
  have:=Cx _ _ tn (i.1+1) (dD l[i.1]) zS;rwa[show aR.off+(i.1+1)=aR.off+1+i.1 by omega]at this
 let enc:Fin l.length->Value:=fun i=>Classical.choose (cells i)
 have AW:∀i,w.cell? ⟨aR.b,aR.off+1+i.1,none⟩=some (enc i)/\(enc i).oneCell'=true/\V w (Ot O ρ [(id,Ob.arr 1 ([r0]::l.map fun x=>[dD x]))]) dZ (dD l[i.1]) (enc i):=fun i=>GY (cells i)
 clear_value enc
 haveI:Inhabited (Fin l.length):=⟨⟨0,by omega⟩⟩
 let cf:Fin l.length->Fin l.length->Int:=fun i j=>o0 (key l[i.1]) (key l[j.1])
 have bA:∀i j,ltOf cf i j=decide (key l[i.1]<key l[j.1]):=fun i j=>by
  unfold ltOf;rw[ou];exact ad2 _ _
 have hd:(Array.ofFn (fun i:Fin l.length=>i)).size=l.length:=Array.size_ofFn ..;have hdj:∀j(h:j<l.length),(Array.ofFn (fun i:Fin l.length=>i))[j]! =⟨j,h⟩:=fun j h=>by
  rw[ya _ j (by rw[hd];exact h)];simp
 have MD:CmpLays1 P g #[] enc cf aR.b (aR.off+1) (Array.ofFn fun i:Fin l.length=>i).size w:=by
  intro m os dk _ x y;have A1:Kept w (Ot O ρ [(id,Ob.arr 1 ([r0]::l.map fun x=>[dD x]))]) (sortWorld enc w aR.b (aR.off+1) m dk os) (fun _=>False):=⟨aat ..,fun b fH ho=>⟨fun o e _=>ML fH (fun e=>ho (e▸lS)),fun h=>h⟩⟩;have:=@Fc.out calm _ _ _ _ (hc _ (CD (h:=x.2)) _ (CD (h:=y.2))) (sortWorld enc w aR.b (aR.off+1) m dk os) (fun _=>False) dZ [enc x,enc y] (fun _ h=>h.elim) (Gl.mono A1 bY) (by
   simp only[Vs];exact⟨_,_,rfl,V.mono A1 (bN.refl _) _ _ (AW x).2.2,_,_,rfl,V.mono A1 (bN.refl _) _ _ (AW y).2.2,rfl⟩)
  refine Calls.mono (by simpa using this) ?_;rintro e w' ⟨v,rfl,hv,hk⟩;simp only[D.i,V]at hv;subst hv;exact⟨rfl,aiD hk⟩
 have Wp:=as4 enc (fun x=>(AW x).2.1) cf
  ⟨fun x=>by rw[bA];simp[List.lt_irrefl],fun x y z h1 h2=>by rw[bA]at*;simp only[cd]at*;exact List.lt_trans h1 h2,fun x y z h1 h2=>by
   rw[bA]at*;simp only[dY,xo]at*;exact Gm h2 h1⟩
  aR.b (aR.off+1) cap (Array.ofFn fun i:Fin l.length=>i) w
  MD (by
   intro j hj;rw[hd]at hj;rw[hdj j hj];exact⟨(AW ⟨j,hj⟩).1,by simp[World.frozen?,hb]⟩) mN (by rw[hd];exact hl)
  (fun x y h1 h2=>by
   rw[bA]at h1 h2;simp only[dY,xo]at h1 h2;have e:=tB h2 h1;have h3:(l.map key)[x.1]'(by simp)=(l.map key)[y.1]'(by simp):=by simpa using e
   have hp:=qC.1 hk;rcases q0 x.1 y.1 with h4|h4|h4
   ·exact absurd h3 (hp _ _ _ _ h4)
   ·exact Fin.ext h4
   ·exact absurd h3.symm (hp _ _ _ _ h4))
 rw[hd]at Wp;refine Calls.mono Wp ?_;rintro e w' ⟨rfl,n,os,rfl⟩;generalize VG:(Array.ofFn fun i:Fin l.length=>i).toList.mergeSort (fun x y=>!(ltOf cf) y x)=sr;have Vz:sr.Perm (Array.ofFn fun i:Fin l.length=>i).toList:=by rw[<-VG];exact List.mergeSort_perm _ _
 have A_:sr.length=l.length:=by rw[Vz.length_eq];simp
 have eI:((Array.ofFn fun i:Fin l.length=>i).toList.map fun i=>l[i.1])=l:=by
  apply List.ext_getElem
  ·simp
  ·intro i h1 h2;simp
 have HG:sr.Pairwise fun i j=>key l[i.1]<=key l[j.1]:=by
  have VB:=List.pairwise_mergeSort (le:=fun x y=>!(ltOf cf) y x) (by
   intro a b c h1 h2;rw[bA]at*;simp only[lD,dY,xo]at*;exact Gm h1 h2) (by
   intro a b;rw[bA,bA];simp only[fZ,lD,dY,xo];exact List.le_total _ _) (Array.ofFn fun i:Fin l.length=>i).toList
  rw[VG]at VB;refine VB.imp ?_;intro a b h;rw[bA]at h;simpa only[lD,dY,xo]using h
 have ajm:(sr.map fun i=>l[i.1])=l2:=by
  have Vy:(sr.map fun i=>l[i.1]).Perm l2:=by
   have:=Vz.map fun i:Fin l.length=>l[i.1];rw[eI]at this;exact this.trans hp.symm
  refine E6 (le:=fun x y=>key x<=key y) (fun a b ha fH h1 h2=>?_) (rB.2 HG) (rB.1 hs) Vy;have e:=tB h1 h2;have yt:a∈l:=hp.mem_iff.1 (Vy.mem_iff.1 ha);have rN:b∈l:=hp.mem_iff.1 fH;obtain⟨i,hi,rfl⟩:=DX yt;obtain⟨j,hj,rfl⟩:=DX rN;have h3:(l.map key)[i]'(by simpa using hi)=(l.map key)[j]'(by simpa using hj):=by simpa using e
  have A8:=qC.1 hk;rcases q0 i j with h4|h4|h4
  ·exact absurd h3 (A8 _ _ _ _ h4)
  ·subst h4;rfl
  ·exact absurd h3.symm (A8 _ _ _ _ h4)
 have AY:=ajc (enc:=enc) (off:=aR.off+1) (m:=n) (dk:=sr.toArray) (os:=os) hb;have uV:w.heap.size<=(sortWorld enc w aR.b (aR.off+1) n sr.toArray os).heap.size:=aat ..;have A7:∀b,cj ρ [(id,Ob.arr 1 ([r0]::l2.map fun x=>[dD x]))] b->cj ρ [(id,Ob.arr 1 ([r0]::l.map fun x=>[dD x]))] b:=by
  rintro b ⟨i,o,q,g1,g2,g3,g4⟩;obtain⟨rfl,_⟩:=qE g1;exact⟨_,_,q,fC,rfl,g3,g4⟩
 have A1:Kept w (Ot O ρ [(id,Ob.arr 1 ([r0]::l.map fun x=>[dD x]))]) (sortWorld enc w aR.b (aR.off+1) n sr.toArray os) (Ot O ρ [(id,Ob.arr 1 ([r0]::l2.map fun x=>[dD x]))]):=
  ⟨uV,fun b fH ho=>⟨fun o e _=>ML fH (fun e=>ho (e▸lS)),fun g=>ho (g.imp _root_.id (A7 b))⟩⟩
 refine⟨_,ρ,rfl,⟨bN.refl _,uV,fun b lO fH=>?_,fun b lO=>.inl (A7 b lO),⟨fun b lO=>lF (ai.lt b lO) uV,fun i hi=>?_,fun i o g1 g2=>?_,fun i j o o' q q' g1 g2 _ _ _ _ _=>?_⟩,rfl,rfl,.inl ⟨rfl,Gy _ _⟩⟩,by simp[V,Vs]⟩
 ·refine ML lO fun e=>fH ?_;exact⟨id,_,aR,fC,rfl,je,e.symm⟩
 ·exact ai.fresh i (L8 hi)
 ·obtain⟨rfl,rfl⟩:=qE g1;refine⟨aR,je,A4,_,T,AY,by simpa[putCells]using bb,by simpa[Dy]using ta,J6 _ _ fun i r hr=>?_⟩;have MF:aR.off+l.length<c.size:=by
   simp only[bD,bB]at ta;omega
  have Rs:∀o,(sortWorld enc w aR.b (aR.off+1) n sr.toArray os).cell? ⟨aR.b,o,none⟩=(putCells enc (aR.off+1) sr.toArray c)[o]?:=fun o=>by simp[World.cell?,AY]
  have adu:∀o,w.cell? ⟨aR.b,o,none⟩=c[o]?:=fun o=>by simp[World.cell?,hb]
  cases i with
  |zero=>
   simp only[jH,cH]at hr;subst hr;obtain⟨u,h1,h2,h3⟩:=Cx _ _ tn 0 r0 rfl;refine⟨r0,u,rfl,?_,h2,V.mono A1 (bN.refl _) _ _ h3⟩;rw[Rs,<-h1,adu];simp only[putCells,Array.getElem?_mapIdx,pL];have ce:¬(aR.off+1<=aR.off):=by omega
   simp[ce]
  |succ i=>
   simp only[wK,fR,gx]at hr;obtain⟨x,hx,rfl⟩:=hr;have hi:i<sr.length:=by
    have:=(cI.1 hx).1;omega
   rw[<-ajm,fR,eu hi]at hx;simp only[jk,cH]at hx;subst hx;refine⟨_,enc sr[i],rfl,?_,(AW _).2.1,V.mono A1 (bN.refl _) _ _ (AW _).2.2⟩;rw[Rs];simp only[putCells,Array.getElem?_mapIdx];rw[dW (show aR.off+(i+1)<c.size by omega)];simp only[jk,cH];rw[aV zQ,show aR.off+(i+1)-(aR.off+1)=i by omega,ya _ i (by simpa using hi)];simp
 ·exact(qE g1).1.trans (qE g2).1.symm⟩
end Go.T
namespace Go.T
open Go
variable{P:Program} {env:Env} {dst:Option Tmp} {ty:TypeId} {pos:String} {ar:Array Edge} {g:Option (Nat×Bool)}
def apE{Z:ae}{t e:TypeId}{x y:Operand}{k:IntKind}{id n m:Nat}{rows:List (List D)}(hu:P.underlying t=some (.slice e))(hs:∀w,(sizeOf e).run P w=.ok 1 w)(hx:env.op x=some (.gs id n))
  (hy:env.op y=some (.raw (.int k 1)))(ho:Z.get id=some (.arr 1 rows))(hn:rows.length=n)(hm:n=m+1)(HD:m≠0):
  aq P ⟨dst,.slice t x (some y) none none,ty,pos,ar,g⟩ env Z (.qg id 1 m) Z:=
 .val fun O ρ a w ai hv=>by
  have h1:=hv x (by simp[Op.operands]) _ hx;have h2:=hv y (by simp[Op.operands]) _ hy;simp only[V]at h1 h2;rcases h1 with⟨h1,_⟩|⟨_,l,h3,e1⟩
  ·omega
  ·have tg:(Ob.arr 1 rows).live=true:=by
    cases rows
    ·simp at hn;omega
    ·rfl
   obtain⟨l',g3,g4,c,T,g5,g6,g7,g8⟩:=ai.own id _ ho tg;rw[h3]at g3;cases g3;have cR:n<=l.cap:=by omega
   have hb:(Instr.sliceBounds true n l.cap (some (.int k 1)) none none).run P w=.ok (1,n,l.cap) w:=by
    have h1:1<=n:=by omega
    have e1:(1:Int)=((1:Nat):Int):=rfl;rw[e1];simp only[Instr.sliceBounds,Sem.run_bind,Sem.run_pure,Result.andThen_ok,Fa,h1]
   refine⟨.slice (some ⟨l.b,l.off+1,none⟩) m (l.cap-1),?_,?_⟩
   ·simp[execOp,Instr.sliceAt,Instr.slice,bW hu,e1,h2,hb,hs,addr_add];omega
   ·simp only[V];exact⟨l,l.cap-1,h3,rfl,by omega⟩
def apF{Z:ae}{t e:TypeId}{x y:Operand}{k:IntKind}{id n:Nat}{rows:List (List D)}(hu:P.underlying t=some (.slice e))(hs:∀w,(sizeOf e).run P w=.ok 1 w)(hx:env.op x=some (.gs id n))
  (hy:env.op y=some (.raw (.int k 1)))(ho:Z.get id=some (.arr 1 rows))(hn:rows.length=n)(hm:n=1):
  aq P ⟨dst,.slice t x (some y) none none,ty,pos,ar,g⟩ env Z (.snap 1 false []) Z:=
 .val fun O ρ a w ai hv=>by
  have h1:=hv x (by simp[Op.operands]) _ hx;have h2:=hv y (by simp[Op.operands]) _ hy;simp only[V]at h1 h2;rcases h1 with⟨h1,_⟩|⟨_,l,h3,e1⟩
  ·omega
  ·have tg:(Ob.arr 1 rows).live=true:=by
    cases rows
    ·simp at hn;omega
    ·rfl
   obtain⟨l',g3,g4,c,T,g5,g6,g7,g8⟩:=ai.own id _ ho tg;rw[h3]at g3;cases g3;have cR:n<=l.cap:=by omega
   have hb:(Instr.sliceBounds true n l.cap (some (.int k 1)) none none).run P w=.ok (1,n,l.cap) w:=by
    have h1:1<=n:=by omega
    have e1:(1:Int)=((1:Nat):Int):=rfl;rw[e1];simp only[Instr.sliceBounds,Sem.run_bind,Sem.run_pure,Result.andThen_ok,Fa,h1]
   subst hm;refine⟨.slice (if l.cap=1 then some ⟨l.b,l.off,none⟩else some ⟨l.b,l.off+1,none⟩) 0 (l.cap-1),?_,?_⟩
   ·by_cases hc:l.cap=1
    ·rw[hc]at hb;simp[execOp,Instr.sliceAt,Instr.slice,bW hu,e1,h2,hb,hs,addr_add,hc]
    ·simp[execOp,Instr.sliceAt,Instr.slice,bW hu,e1,h2,hb,hs,addr_add,hc]
   ·simp only[V];exact⟨_,_,rfl,⟨by simp,by simp⟩,by simp,by simp⟩
end Go.T
namespace Go.T
open Go Go.Proofs Go.Proofs.Tryz
variable[bX]
def UZ{l:List aa}(h:l≠[]):(l.map fun s=>[D.str s])[(0:Int).toNat]?=some [.str (l.headD [])]:=by
 cases l with
 |nil=>exact absurd rfl h
 |cons a l=>rfl
def adV(a b:List aa)(ha:a≠[])(hb:b≠[]):Fc prog 131 [bg a,bg b] (.i (o0 (a.headD []) (b.headD []))):=by
 refine ay func131 ntmps131 results131 ?_;exact go []<|ix zD (UZ ha)<|ix zD (UZ hb)<|oP (ah call132 rfl (RM _ _))<|ord<|af rfl (Sub.refl _)
end Go.T
namespace Go.T
open Go Go.Proofs Go.Proofs.Tryz
open Go.Shelf Go.RowKit Go.Lib Go.Sort
def agj:∀args w,(callFunc 131 args).run prog w=.ok (.enter 131 args) w:=enters_of func131 LW rfl
def aq4(id:Nat)(r0:D)(l l2:List (List aa))(hl:l.length<4611686018427387904)(aC:∀x∈l,x≠[])(hk:(l.map (·.headD [])).Nodup)(hp:l2.Perm l)(hs:(l2.map (·.headD [])).Pairwise fun a b=>a<=b):
  dB prog 130 [.qg id 1 l.length,.fn (.func 131) [] []] [(id,.arr 1 ([r0]::l.map fun x=>[bg x]))] (.a_ []) [(id,.arr 1 ([r0]::l2.map fun x=>[bg x]))]:=
 aq2 (fun enc h1 cf hO cp off cap d w hc hH hb bb hT=>Tryz.slices_SortFunc_total enc h1 cf hO 131 #[] cp off cap d w agj hc hH hb bb hT) (fun p cap fv w=>Tryz.slices_SortFunc_none (α:=Nat) p cap fv w)
  (fun x=>bg x) (·.headD []) id r0 l l2 hl (fun x hx y hy=>@adV calm x y (aC x hx) (aC y hy)) hk hp hs
def aq3:Fc prog 130 [.snap 1 false [],.fn (.func 131) [] []] (.a_ []):=.rf fun w O ρ vals hg hv=>by
 simp only[Vs,V]at hv;obtain⟨_,_,rfl,⟨a,cap,rfl,_⟩,v2,_,rfl,_,rfl⟩:=hv;refine(Tryz.slices_SortFunc_none (α:=Nat) a cap v2 w).mono ?_;rintro e w' ⟨rfl,rfl⟩;exact⟨_,rfl,by simp[V,Vs],.refl _⟩
end Go.T
namespace Go.T
open Go Go.Proofs Go.Proofs.Tryz
def aqC{n:Nat}{seen:List Nat}(hn:seen.Nodup)(bA:∀j∈seen,j<n):seen.length<=n:=by
 have:=wC hn (l₂:=List.range n) (fun j hj=>px.2 (bA j hj));simpa using this
def ame{u:UM}{seen:List Nat}{j:Nat}{kv:aa×aa}(h:u[j]?=some kv)(bA:∀j∈seen,j<u.length):∀i∈seen++[j],i<u.length:=by
 intro i hi;rcases cM.1 hi with hi|hi
 ·exact bA i hi
 ·simp at hi;subst hi;exact(cI.1 h).1
def ahG{fm:bz}{u:UM}{ks:List aa}(h:pI fm u ks)(hp:ks.Perm (aE u)){seen:List Nat}(hs:seen.Nodup):(jo fm seen).length<=u.length:=by
 have h1:=wC (L2 h hp hs) (l₂:=aE u) (fun x hx=>by
  obtain⟨l,hl,rfl⟩:=dh.1 hx;obtain⟨y,hy,h2,rfl⟩:=Om h hp hl;rw[RG hy h2];exact hy)
 simpa[aE]using h1
structure aiz(u:UM)where
 seen:List Nat
 fm:bz
 ks:List aa
 fD:seen.Nodup
 bA:∀j∈seen,j<u.length
 uT:ks=seen.filterMap (xa u)
 jJ:pI fm u ks
structure aiA(u:UM)(fm:bz)where
 seen:List Nat
 fD:seen.Nodup
def aiy(u:UM)(hg:my u)(hn:(aE u).Nodup)(ai:∀k∈aE u,dX k)(jr:u.length<=1000000):dB prog 92 [.cL 60] [(60,.mp (bP D.str D.str u))] (wD (gU u)) [(60,.mp (bP D.str D.str u))]:=by
 refine uF func92 ntmps92 results92 ?_;refine U.seq<|rg<|.ag rfl rfl<|.nil<|U.seq<|rg<|.W rfl (ni 61 D.str (ku) rfl)<|.ag rfl rfl<|.nil<|U.seq<|U.seq<|rg<|.mv rfl rfl<|.W rfl (PB km (vD:=D.str) 62 underlying128 rfl rfl rfl)<|.nil<|U.block<|U.loop (ι:=aiz u) (fun sx=>[(0,.cL 60),(3,.cL 61),(11,.box 62 0)]) (fun sx=>([(62,.mi 60 u.length sx.seen),(60,.mp (bP D.str D.str u)),(61,.mp (bP D.str ku (gI sx.fm))),(99,.arr 1 [])]++cV sx.fm)) (fun sx=>zR u.length sx.seen) ⟨[],bz.empty,[],Fx,by simp,rfl,aiE u⟩ ?_ ?_
 ·exact(Le.gC 99 1).trans<|Le.mk rfl (.n 3 rfl rfl .nil) (.cons rfl rfl (.eq rfl (by rfl) (gN _ _) (.eq rfl (by rfl) (BT _ _) (.arr rfl zS (.tail (fun _ _ h=>nomatch (show(none:Option Ob)=some _ from h)))))))
 ·rintro⟨seen,fm,ks,fD,bA,uT,jJ⟩;dsimp only;have fQ:∀r,(jG fm r).length<=1000000:=fun r=>by
    rw[jJ.rows r];have h1:=nw (fun k=>decide (aI u k=r)) ks;have h2:=akQ u seen;have h3:=aqC fD bA;rw[uT]at h1|-;omega
  refine U.seq (U.vK ?_);refine Tx.n rfl trivial (Pz km (vD:=D.str) rfl rfl rfl) (fun nb cF=>?_);rcases nb with _|⟨nj,nk,nv⟩
  ·dsimp only[tS,vk,vj];refine Tx.q rfl trivial (eP rfl rfl _)<|Tx.nil<|U.seq<|U.c6 rfl rfl<|U.exit (dz (du ?_));have pY:ks.Perm (aE u):=by rw[uT];exact akV hn fD cF
   have hrw:∀(j:Nat)(e:FE),fm.cJ[j]?=some e->(∀s∈e.rows,dX s)/\e.rows.length<=1000000:=fun j e he=>by
    rw[Hd jJ he];exact⟨fun s hs=>ai s (pY.mem_iff.1 (eX.1 hs).1),by have h1:=nw (fun k=>decide (aI u k=e.key)) ks;have h2:=pY.length_eq;simp only[aE,bB]at h2;omega⟩
   have bY:∀sn:List Nat,sn.Nodup->(jo fm sn).length<=1000000:=fun sn hsn=>dM (ahG jJ pY hsn) jr;refine U.seq<|rg<|.W rfl (I9 (n:=1) (rows:=[[.raw (.slice none 0 0)]]) 64 underlying43 sizeOf48 rfl rfl rfl zeroValue48 rfl rfl rfl rfl rfl rfl rfl (Az (own:=[(62,_),(60,_),(61,_),(99,_)]) rfl rfl))<|.ag rfl rfl<|.nil<|U.seq<|U.seq<|rg<|.mv rfl rfl<|.W rfl (PB km (vD:=ku) 63 underlying129 rfl rfl (Az (own:=[(64,_),(62,_),(60,_),(61,_),(99,_)]) rfl rfl))<|.nil<|U.block<|U.loop (ι:=aiA u fm) (fun sx=>[(0,.cL 60),(6,.gs 64 (1+(jo fm sx.seen).length)),(29,.box 63 0)]) (fun sx=>([(63,.mi 61 (gI fm).length sx.seen),(60,.mp (bP D.str D.str u)),(61,.mp (bP D.str ku (gI fm))),(64,.arr 1 ([.raw (.slice none 0 0)]::(jo fm sx.seen).map fun x=>[bg x])),(99,.arr 1 [])]++cV (mV fm sx.seen))) (fun sx=>zR (gI fm).length sx.seen) ⟨[],Fx⟩ ?_ ?_
   ·exact Le.mk rfl (.s rfl rfl (.cons rfl (Sub.gs (by simp[jo])) rfl (.s rfl rfl .nil))) (.cons rfl rfl (.eq rfl (by rfl) (gN _ _) (.eq rfl (by rfl) (zi _ _) (.arr rfl (by simp[jo]) (.arr rfl zS (.tail (yi (own:=[(63,_),(64,_),(62,_),(60,_),(61,_),(99,_)]) (kf:=[(63,_),(60,_),(61,_),(64,_),(99,_)]) _ rfl)))))))
   ·rintro⟨seen,fD⟩;dsimp only;refine U.seq (U.vK ?_);refine Tx.n rfl trivial (Pz km (vD:=ku) rfl rfl rfl) (fun nb cF=>?_);rcases nb with _|⟨nj,nk,nv⟩
    ·dsimp only[tS,vk,vj];refine Tx.q rfl trivial (eP rfl rfl _)<|Tx.nil<|U.seq<|U.c6 rfl rfl<|U.exit (dz (du ?_));have MT:=ahJ jJ pY hn fD cF;by_cases hz:(jo fm seen).length=0
     ·have rX:jo fm seen=[]:=cc.1 hz;have Nv:gU u=[]:=cc.1 (MT.length_eq.trans hz);refine U.seq<|rg<|.mv rfl rfl<|.R rfl (apF (id:=64) underlying43 sizeOf48 rfl rfl rfl zQ zO)<|.P rfl (ah call130 rfl aq3)<|.nil<|U.seq<|rg<|.mv rfl rfl<|.ag rfl rfl<|.nil ?_;refine U.bc (Le.freeze 2 64 rfl rfl zQ) ?_;refine U.ret (?_);exact ua rfl (Sub.snap (by rw[rX,Nv])) (.eq rfl (by rfl) (gN _ _) .nil)
     ·refine U.seq<|rg<|.mv rfl rfl<|.R rfl (apE (id:=64) (m:=(jo fm seen).length) underlying43 sizeOf48 rfl rfl rfl zQ zO hz)<|.W rfl (EU (own:=[(63,_),(60,_),(61,_),(64,_),(99,_)]) call130 rfl (aq4 64 (.raw (.slice none 0 0)) (jo fm seen) (gU u) (by have:=bY seen fD;omega) (ahI jJ pY) (L2 jJ pY fD) MT (Uq u)) rfl rfl (.cons rfl rfl .nil) rfl rfl)<|.nil<|U.seq<|rg<|.mv rfl rfl<|.ag rfl rfl<|.nil ?_;refine U.bc (Le.freeze 2 64 rfl rfl (by have:=MT.length_eq;simp;omega)) ?_;refine U.ret (?_);exact ua rfl (Sub.refl _) (.eq rfl (by rfl) (gN _ _) .nil)
    ·dsimp only[tS,vk,vj];refine Tx.q rfl trivial (eP rfl rfl _)<|Tx.nil<|U.seq<|U.ew rfl rfl<|U.skip<|U.block ?_;obtain⟨e,he,rfl,rfl⟩:=Tj (qB cF);have nL:(mV fm seen).cJ[nj]?=some e:=(Wt _ _ _ (AJ cF)).trans he;have yJ:e.ob=.arr 1 (cm e.rows):=by unfold FE.ob;rw[aV (jJ.live e (dj he))]
     have U1:=hrw nj e he;refine U.seq<|rg<|.R rfl (Ps km (vD:=ku) rfl rfl rfl (qB cF))<|.P rfl (eP rfl rfl)<|.ag rfl rfl<|.nil<|U.seq<|rg<|.mv rfl rfl<|.W rfl (apa (own:=[(63,_),(60,_),(61,_),(64,_),(99,_)]) (f:=mV fm seen) (e:=e) (dj nL) rfl call63 rfl (by rw[yJ];exact Fb e.id e.rows U1.1 (by have:=U1.2;omega)) (by simp[D.okB.fM,D.okB,ae.has,ae.bm]))<|.nil ?_;refine U.bc (Le.freeze 8 e.id rfl ah0 (by simp[(lz e.rows).length_eq])) ?_;refine U.bc (Le.mk (aY:=[(0,_),(6,_),(8,_),(29,_)]) (aj:=[(63,_),(60,_),(61,_),(64,_),(99,_)]++cV ((mV fm seen).kill nj)) rfl (show ct _ _ [(0,_),(6,_),(8,_),(29,_)]from(.n 4 rfl rfl .nil)) (.cons (C4 (own:=[(63,_),(60,_),(61,_),(64,_),(99,_)]) 63 nL rfl rfl) rfl (.cons (C4 (own:=[(63,_),(60,_),(61,_),(64,_),(99,_)]) 60 nL rfl rfl) (gN _ _) (.cons (C4 (own:=[(63,_),(60,_),(61,_),(64,_),(99,_)]) 61 nL rfl rfl) (by rw[<-HV];exact zi _ (seen++[nj])) (.cons (C4 (own:=[(63,_),(60,_),(61,_),(64,_),(99,_)]) 64 nL rfl rfl) rfl (.cons (C4 (own:=[(63,_),(60,_),(61,_),(64,_),(99,_)]) 99 nL rfl rfl) rfl (.tail (ag8 (own:=[(63,_),(60,_),(61,_),(64,_),(99,_)]) rfl nL)))))))) ?_;rw[<-HV];refine rg<|.mv rfl rfl<|.mv rfl rfl<|.P rfl (bK (n:=1) (rows:=[[bg (fk e.rows)]]) underlying43 sizeOf48 rfl rfl rfl zeroValue48 rfl rfl rfl rfl rfl rfl rfl)<|.W rfl (ee 65 underlying43 underlying43 sizeOf48 typeInfo48 zeroValue48 rfl (bt:=24) rfl rfl rfl rfl zQ rfl (Az (own:=[(63,_),(60,_),(61,_),(64,_),(99,_)]) rfl rfl) (by have:=bY seen fD;simp;omega))<|.ag rfl rfl<|.nil<|U.nil (bR ?_);refine U.nil (cz ?_)
     exact⟨⟨seen++[nj],Jw fD (AJ cF)⟩,by exact JI ((cI.1 (qB cF)).1) (AJ cF),(Le.mk (aj:=[(63,_),(60,_),(61,_),(65,_),(99,_)]++cV (mV fm (seen++[nj]))) rfl (show ct _ _ [(0,_),(6,_),(29,_)]from(.n 3 rfl rfl .nil)) (.cons (i:=63) rfl rfl (.cons (i:=60) rfl (gN _ _) (.cons (i:=61) rfl (zi _ _) (.cons (i:=65) rfl rfl (.cons (i:=99) rfl rfl (.tail (yi (own:=[(65,_),(63,_),(60,_),(61,_),(64,_),(99,_)]) (kf:=[(63,_),(60,_),(61,_),(65,_),(99,_)]) _ rfl)))))))).trans<|(Le.iz 6 65 64 rfl rfl zQ (Az (own:=[(63,_),(60,_),(61,_),(65,_),(99,_)]) rfl rfl)).trans<|Le.mk rfl (.s rfl rfl (.cons rfl (Sub.gs (by rw[T4 he];simp;omega)) rfl (.s rfl rfl .nil))) (.cons rfl rfl (.eq rfl (by rfl) (gN _ _) (.eq rfl (by rfl) (zi _ _) (.arr rfl (by rw[T4 he];simp) (.arr rfl zS (.tail (yi (own:=[(64,_),(63,_),(60,_),(61,_),(65,_),(99,_)]) (kf:=[(63,_),(60,_),(61,_),(64,_),(99,_)]) _ rfl)))))))⟩
  ·dsimp only[tS,vk,vj];refine Tx.q rfl trivial (eP rfl rfl _)<|Tx.nil<|U.seq<|U.ew rfl rfl<|U.skip<|U.block<|U.seq<|rg<|.R rfl (Ps km (vD:=D.str) rfl rfl rfl (qB cF))<|.P rfl (eP rfl rfl)<|.ag rfl rfl<|.nil<|U.seq<|rg<|.mv rfl rfl<|.mv rfl rfl<|.W rfl (EU (own:=[(62,_),(60,_),(61,_),(99,_)]) call129 rfl (PN u hg nk (akR (qB cF))) rfl rfl (.cons rfl (gN _ _) .nil) rfl rfl)<|.ag rfl rfl<|.nil<|rg<|.mv rfl rfl<|.mv rfl rfl<|.mv rfl rfl<|.mv rfl rfl<|.R rfl (ZK km (f:=fm) (k:=aI u nk) underlying129 zeroValue48 rfl rfl rfl rfl)<|.mv rfl rfl<|.P rfl (bK (n:=1) (rows:=[[.str nk]]) underlying48 sizeOf9 rfl rfl rfl zeroValue9 rfl rfl rfl rfl rfl rfl rfl)<|.W rfl (ZA (own:=[(60,_),(62,_),(61,_),(99,_)]) (f:=fm) (k:=aI u nk) (new:=[nk]) (bt:=16) underlying48 underlying48 sizeOf9 typeInfo9 zeroValue9 rfl rfl rfl rfl rfl jJ.live rfl rfl (by have:=fQ (aI u nk);simp only[nR];omega))<|.W rfl (eV km (vD:=ku) (m:=gI fm) (k:=aI u nk) (v:=(fm.next,(jG fm (aI u nk)).length+[nk].length)) underlying129 rfl rfl rfl rfl rfl ((LA (own:=[(60,_),(62,_),(61,_),(99,_)]) zD).trans (EG (own:=[(60,_),(62,_),(61,_),(99,_)]) rfl)))<|.nil<|U.nil (bR ?_);refine U.nil (cz ?_)
   exact⟨⟨seen++[nj],fm.add (aI u nk) [nk],ks++[nk],Jw fD (AJ cF),ame (qB cF) bA,by rw[uT,akS (qB cF)],jJ.add nk⟩,by exact JI ((cI.1 (qB cF)).1) (AJ cF),(Le.gC 99 1).trans<|Le.mk rfl (.n 3 rfl rfl .nil) (.eq (LB (own:=[(60,_),(62,_),(61,_),(99,_)]) 62 rfl rfl rfl) rfl rfl (.eq (LB (own:=[(60,_),(62,_),(61,_),(99,_)]) 60 rfl rfl rfl) rfl (gN _ _) (.eq Tf (by rw[<-Ti]) (BT _ _) (.cons rfl rfl (.tail (Tl (own:=[(60,_),(62,_),(61,_),(99,_)]) zD rfl))))))⟩
def Sx(s:Setup)(l:List Fact)(Dt:s.insts.length<=1000)(yA:∀x∈s.insts,dX x.id)(Dx:l.length<=500)(h_:∀f∈l,f.opts.length<=1000/\∀s∈fJ f,dX s):Fc prog 45 [.agg (im s),aQ l] (wD (gJ (fa s l))):=
 afS s l Dt yA Dx h_ fun u hg hn ai jr=>aiy u hg hn ai jr
structure ajY(l:List Fact)(P:Fact->Bool)where
 pre:List Fact
 rest:List Fact
 hx:l=pre++rest
 hp:pre.any P=false
def VW(l:List Fact)(f:FuncId)(bO:List D)(cR:D.bw.dT bO=true)(P:Fact->Bool)(fA:∀(args:Array Value)(w:World),(callFunc f args).run prog w=.ok (.enter f args) w)(hP:∀x∈l,Fc prog f (.agg (aJ x)::bO) (.b (P x))):Fc prog 67 [aQ l,.fn (.func f) [] bO] (.i (fw P l)):=by
 refine Fc.mk' [4] func67 rfl ntmps67 rfl (by simp[D.bw,D.bw.dT,cR]) rfl (fun t w=>results_tmp results67 t _ w) ?_;refine U.eh 0 rfl (fun hb=>?_);simp only[bB,aD]at hb;refine go []<|U.loop (ι:=ajY l P) (fun sx=>[(0,aQ l),(1,.fn (.func f) [] bO),(6,aQ l),(7,.i l.length),(8,.i sx.pre.length)]) (fun sx=>[]) (fun sx=>sx.rest.length) ⟨[],l,rfl,rfl⟩ ?_ ?_
 ·exact Le.mk rfl (.s rfl rfl (.cons rfl (Sub.refl _) (rh cR) (.s rfl rfl (.cons rfl (Sub.int zS) rfl (.s rfl rfl .nil))))) .nil
 ·rintro⟨pre,rest,hx,hp⟩;dsimp only;rcases lc hx with⟨rfl,hl⟩|⟨x,rest,rfl,hl⟩
  ·exact go []<|aH (by simp at hl|-;omega)<|go []<|af rfl (Sub.int (by exact uD hx hp))
  ·refine go []<|aM zQ<|ix zO (aK aJ hx rfl)<|oP (eO fA rfl rfl (hP x (by rw[hx];simp)))<|br (fun h1=>?_) (fun h1=>?_)
   ·exact af rfl (Sub.int (by exact uE hx hp h1))
   ·exact sd (ao zO)<|nx ⟨pre++[x],rest,by simp[hx],jX hp h1⟩ zS (Le.mk rfl (.s rfl rfl (.cons rfl (Sub.refl _) (rh cR) (.n 2 rfl rfl (.cons rfl (Sub.int zS) rfl .nil)))) .nil)
def RQ(l:List Fact)(f:FuncId)(bO:List D)(cR:D.bw.dT bO=true)(P:Fact->Bool)(fA:∀(args:Array Value)(w:World),(callFunc f args).run prog w=.ok (.enter f args) w)(hP:∀x∈l,Fc prog f (.agg (aJ x)::bO) (.b (P x))):Fc prog 42 [aQ l,.fn (.func f) [] bO] (.b (l.any P)):=by
 refine Fc.mk' [4] func42 rfl ntmps42 rfl (by simp[D.bw,D.bw.dT,cR]) rfl (fun t w=>results_tmp results42 t _ w) ?_;exact go []<|oP (ah call67 rfl (VW l f bO cR P fA hP))<|af rfl (Sub.bool (by exact s0 P l))
structure aj8(l:List aa)(P:aa->Bool)where
 pre:List aa
 rest:List aa
 hx:l=pre++rest
 hp:pre.any P=false
def aj7(l:List aa)(f:FuncId)(bO:List D)(cR:D.bw.dT bO=true)(P:aa->Bool)(fA:∀(args:Array Value)(w:World),(callFunc f args).run prog w=.ok (.enter f args) w)(hP:∀x∈l,Fc prog f (.str x::bO) (.b (P x))):Fc prog 46 [bg l,.fn (.func f) [] bO] (.i (fw P l)):=by
 refine Fc.mk' [4] func46 rfl ntmps46 rfl (by simp[D.bw,D.bw.dT,cR]) rfl (fun t w=>results_tmp results46 t _ w) ?_;refine U.eh 0 rfl (fun hb=>?_);simp only[bB,aD]at hb;refine go []<|U.loop (ι:=aj8 l P) (fun sx=>[(0,bg l),(1,.fn (.func f) [] bO),(6,bg l),(7,.i l.length),(8,.i sx.pre.length)]) (fun sx=>[]) (fun sx=>sx.rest.length) ⟨[],l,rfl,rfl⟩ ?_ ?_
 ·exact Le.mk rfl (.s rfl rfl (.cons rfl (Sub.refl _) (rh cR) (.s rfl rfl (.cons rfl (Sub.int zS) rfl (.s rfl rfl .nil))))) .nil
 ·rintro⟨pre,rest,hx,hp⟩;dsimp only;rcases lc hx with⟨rfl,hl⟩|⟨x,rest,rfl,hl⟩
  ·exact go []<|aH (by simp at hl|-;omega)<|go []<|af rfl (Sub.int (by exact uD hx hp))
  ·refine go []<|aM zQ<|ix zO (aK (fun s=>[D.str s]) hx rfl)<|oP (eO fA rfl rfl (hP x (by rw[hx];simp)))<|br (fun h1=>?_) (fun h1=>?_)
   ·exact af rfl (Sub.int (by exact uE hx hp h1))
   ·exact sd (ao zO)<|nx ⟨pre++[x],rest,by simp[hx],jX hp h1⟩ zS (Le.mk rfl (.s rfl rfl (.cons rfl (Sub.refl _) (rh cR) (.n 2 rfl rfl (.cons rfl (Sub.int zS) rfl .nil)))) .nil)
def aes(l:List aa)(f:FuncId)(bO:List D)(cR:D.bw.dT bO=true)(P:aa->Bool)(fA:∀(args:Array Value)(w:World),(callFunc f args).run prog w=.ok (.enter f args) w)(hP:∀x∈l,Fc prog f (.str x::bO) (.b (P x))):Fc prog 13 [bg l,.fn (.func f) [] bO] (.b (l.any P)):=by
 refine Fc.mk' [4] func13 rfl ntmps13 rfl (by simp[D.bw,D.bw.dT,cR]) rfl (fun t w=>results_tmp results13 t _ w) ?_;exact go []<|oP (ah call46 rfl (aj7 l f bO cR P fA hP))<|af rfl (Sub.bool (by exact s0 P l))
def sH(s:Setup)(l:List Fact):Bool:=!decide (lH s.insts s.o7=0)||l.any (fun f=>decide (gy f≠0))
def ait(s:Setup)(l:List Fact)(hs:∀x∈s.insts,sB x)(hf:∀f∈l,lM f)(Dt:s.insts.length<=1000)(yA:∀x∈s.insts,dX x.id)(Dx:l.length<=500)(h_:∀f∈l,f.opts.length<=1000/\∀s∈fJ f,dX s)(hb:sH s l=false):Fc prog 10 [.agg (im s),aQ l] (.a_ [wD (gJ (fa s l)),.i 0]):=by
 refine gq func10 ntmps10 results10 ?_;refine go [1] ?_;refine U.bc (Le.fx 2 0 rfl rfl rfl rfl) ?_;exact go []<|oP (ah call41 rfl (Jl s hs))<|gP (fun hg=>ah call42 rfl (RQ l _ [] rfl (fun f=>decide (gy f≠0)) call43 (fun f MP=>acF f (hf f MP))))<|aH (by exact hb)<|oP (ah call45 rfl (Sx s l Dt yA Dx h_))<|cw rfl rfl (Sub.refl _) (Sub.refl _)
end Go.T
