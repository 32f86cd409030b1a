/- Contracts of functions that the statement reaches, and the logic in which they are proved (no condition). -/
import Derived.Test.YtapflgppmigcdaaGreatDoorA01
import Derived.RangeFuncRecord
import Derived.IntWalk
set_option linter.all false
set_option maxRecDepth 20000
namespace Go.T
open Go
variable[bX]
def D.bw:D->Bool
 |.any|.raw _|.str _|.snap _ _ _|.bj _|.pq _ _=>true
 |.agg ds|.a_ ds=>dT ds
 |.fn _ as bs=>dT as&&dT bs
 |_=>false
where dT:List D->Bool
 |[]=>true
 |d::ds=>d.bw&&dT ds
mutual
theorem V.pure{w:World}{O:Nat->Prop}{ρ av:aA}:∀(d:D)(v:Value),d.bw=true->V w O ρ d v->V w O av d v
 |.any,_,_,h=>by simp[V]
 |.raw u,v,_,h=>by simpa[V]using h
 |.str s,v,_,h=>by simpa[V]using h
 |.agg ds,v,hp,h=>by
  simp only[V]at h|-;obtain⟨vs,e,h⟩:=h;exact⟨vs,e,Vs.pure ds _ hp h⟩
 |.a_ ds,v,hp,h=>by
  simp only[V]at h|-;obtain⟨vs,e,h⟩:=h;exact⟨vs,e,Vs.pure ds _ hp h⟩
 |.snap sz fP rows,v,_,h=>by simpa[V]using h
 |.bj cs,v,_,h=>by simpa[V]using h
 |.box id off,v,hp,h=>by simp[D.bw]at hp
 |.gs id n,v,hp,h=>by simp[D.bw]at hp
 |.pR id off,v,hp,h=>by simp[D.bw]at hp
 |.cL id,v,hp,h=>by simp[D.bw]at hp
 |.sO id off n,v,hp,h=>by simp[D.bw]at hp
 |.qg id off n,v,hp,h=>by simp[D.bw]at hp
 |.gr id n,v,hp,h=>by simp[D.bw]at hp
 |.pq ks vs,v,_,h=>by simpa[V]using h
 |.fn f as bs,v,hp,h=>by
  simp only[D.bw,bd]at hp;simp only[V]at h|-;obtain⟨us,vs,e,h1,h2⟩:=h;exact⟨us,vs,e,Vs.pure as _ hp.1 h1,Vs.pure bs _ hp.2 h2⟩
theorem Vs.pure{w:World}{O:Nat->Prop}{ρ av:aA}:∀(ds:List D)(vs:List Value),D.bw.dT ds=true->Vs w O ρ ds vs->Vs w O av ds vs
 |[],vs,_,h=>by simpa[Vs]using h
 |d::ds,vs,hp,h=>by
  simp only[D.bw.dT,bd]at hp;simp only[Vs]at h|-;obtain⟨u,us,e,h1,h2⟩:=h;exact⟨u,us,e,V.pure d u hp.1 h1,Vs.pure ds us hp.2 h2⟩
end
def D.okB(f:Nat->Bool):D->Bool
 |.any|.raw _|.str _|.snap _ _ _|.bj _|.pq _ _=>true
 |.agg ds|.a_ ds=>fM ds
 |.fn _ as bs=>fM as&&fM bs
 |.box i _|.gs i _|.pR i _|.cL i|.sO i _ _|.qg i _ _|.gr i _=>f i
where fM:List D->Bool
 |[]=>true
 |d::ds=>D.okB f d&&fM ds
def Ob.okB(f:Nat->Bool):Ob->Bool
 |.cells ds=>D.okB.fM f ds
 |.lp _ _ _ env=>D.okB.fM f (env.map (·.2))
 |.mp r5=>D.okB.fM f (r5.map (·.1))&&D.okB.fM f (r5.map (·.2))
 |.mi m _ _=>f m
 |.fq j _=>f j
 |_=>true
theorem IL{f:Nat->Bool}:∀{ds:List D},D.okB.fM f ds=true->∀d∈ds,d.okB f=true
 |[],_,d,hd=>by cases hd
 |d::ds,h,e,he=>by
  simp only[D.okB.fM,bd]at h;rcases cr.1 he with rfl|he
  ·exact h.1
  ·exact IL h.2 e he
theorem Env.get_mem:∀{env:Env}{t:Nat}{d:D},env.get t=some d->d∈env.map (·.2)
 |[],t,d,h=>by simp[Env.get]at h
 |(s,e)::r,t,d,h=>by
  rw[Env.bm]at h;by_cases g:s=t
  ·rw[aV g]at h;cases h;simp
  ·rw[aF g]at h;exact cC _ (Env.get_mem h)
def cQ(f:Nat->Bool)(ρ:aA):aA:=fun i=>if f i then ρ i else none
mutual
theorem V.cut{w:World}{O:Nat->Prop}{ρ:aA}{f:Nat->Bool}:∀(d:D)(v:Value),d.okB f=true->V w O ρ d v->V w O (cQ f ρ) d v
 |.any,_,_,h=>by simp[V]
 |.raw u,v,_,h=>by simpa[V]using h
 |.str s,v,_,h=>by simpa[V]using h
 |.agg ds,v,hp,h=>by
  simp only[V]at h|-;obtain⟨vs,e,h⟩:=h;exact⟨vs,e,Vs.cut ds _ hp h⟩
 |.a_ ds,v,hp,h=>by
  simp only[V]at h|-;obtain⟨vs,e,h⟩:=h;exact⟨vs,e,Vs.cut ds _ hp h⟩
 |.snap sz fP rows,v,_,h=>by simpa[V]using h
 |.bj cs,v,_,h=>by simpa[V]using h
 |.box id off,v,hp,h=>by simp only[D.okB]at hp;simpa[V,cQ,hp]using h
 |.gs id n,v,hp,h=>by simp only[D.okB]at hp;simpa[V,cQ,hp]using h
 |.pR id off,v,hp,h=>by simp only[D.okB]at hp;simpa[V,cQ,hp]using h
 |.cL id,v,hp,h=>by simp only[D.okB]at hp;simpa[V,cQ,hp]using h
 |.sO id off n,v,hp,h=>by simp only[D.okB]at hp;simpa[V,cQ,hp]using h
 |.qg id off n,v,hp,h=>by simp only[D.okB]at hp;simpa[V,cQ,hp]using h
 |.gr id n,v,hp,h=>by simp only[D.okB]at hp;simpa[V,cQ,hp]using h
 |.pq ks vs,v,_,h=>by simpa[V]using h
 |.fn f as bs,v,hp,h=>by
  simp only[D.okB,bd]at hp;simp only[V]at h|-;obtain⟨us,vs,e,h1,h2⟩:=h;exact⟨us,vs,e,Vs.cut as _ hp.1 h1,Vs.cut bs _ hp.2 h2⟩
theorem Vs.cut{w:World}{O:Nat->Prop}{ρ:aA}{f:Nat->Bool}:∀(ds:List D)(vs:List Value),D.okB.fM f ds=true->Vs w O ρ ds vs->Vs w O (cQ f ρ) ds vs
 |[],vs,_,h=>by simpa[Vs]using h
 |d::ds,vs,hp,h=>by
  simp only[D.okB.fM,bd]at hp;simp only[Vs]at h|-;obtain⟨u,us,e,h1,h2⟩:=h;exact⟨u,us,e,V.cut d u hp.1 h1,Vs.cut ds us hp.2 h2⟩
end
theorem Vs.length{w:World}{O:Nat->Prop}{ρ:aA}:∀{ds:List D}{vs:List Value},Vs w O ρ ds vs->vs.length=ds.length
 |[],vs,h=>by simp only[Vs]at h;subst h;rfl
 |d::ds,vs,h=>by
  simp only[Vs]at h;obtain⟨u,us,rfl,_,h2⟩:=h;simp[Vs.length h2]
theorem Vs.get{w:World}{O:Nat->Prop}{ρ:aA}:∀{ds:List D}{vs:List Value},Vs w O ρ ds vs->∀(i:Nat)(d:D),ds[i]?=some d->∃v,vs[i]?=some v/\V w O ρ d v
 |[],vs,h,i,d,e=>by simp at e
 |d::ds,vs,h,i,d',e=>by
  simp only[Vs]at h;obtain⟨u,us,rfl,h1,h2⟩:=h;cases i with
  |zero=>simp only[jH,cH]at e;subst e;exact⟨u,by simp,h1⟩
  |succ i=>obtain⟨v,h3,h4⟩:=Vs.get h2 i d' (by simpa using e);exact⟨v,by simpa using h3,h4⟩
theorem Vs.OS{w:World}{O:Nat->Prop}{ρ:aA}:∀{ds:List D}{vs:List Value},vs.length=ds.length->(∀(i:Nat) d v,ds[i]?=some d->vs[i]?=some v->V w O ρ d v)->Vs w O ρ ds vs
 |[],vs,h,_=>by simp only[Vs];exact cc.1 h
 |d::ds,[],h,_=>by simp at h
 |d::ds,u::us,h,e=>by
  simp only[Vs];exact⟨u,us,rfl,e 0 d u rfl rfl,Vs.OS (by simpa using h) (fun i d' v h1 h2=>e (i+1) d' v (by simpa using h1) (by simpa using h2))⟩
theorem Vs.append{w:World}{O:Nat->Prop}{ρ:aA}:∀{ds fg:List D}{vs Fv:List Value},Vs w O ρ ds vs->Vs w O ρ fg Fv->Vs w O ρ (ds++fg) (vs++Fv)
 |[],fg,vs,Fv,h,h'=>by simp only[Vs]at h;subst h;simpa using h'
 |d::ds,fg,vs,Fv,h,h'=>by
  simp only[Vs]at h;obtain⟨u,us,rfl,h1,h2⟩:=h;simp only[jF,Vs];exact⟨u,us++Fv,rfl,h1,Vs.append h2 h'⟩
structure gm(w w':World):Prop where
 size:w.heap.size<=w'.heap.size
 same:∀b,b<w.heap.size->w'.heap[b]?=w.heap[b]?
 os:w'.os=w.os/\w'.output=w.output/\iE w w'
def gm.refl(w:World):gm w w:=⟨dP _,fun _ _=>rfl,rfl,rfl,iE.eq rfl rfl⟩
def gm.kept{w w':World}(h:gm w w')(O:Nat->Prop):Kept w O w' O:=⟨h.size,fun b hb ho=>⟨fun _ _ _=>h.same b hb,ho⟩⟩
theorem ig.mono{w w':World}{O O':Nat->Prop}{ρ av:aA}{l:Loc}{o:Ob}(hk:Kept w O w' O')(hr:bN ρ av)(hb:w'.heap[l.b]?=w.heap[l.b]?)(h:ig w O ρ l o):ig w' O' av l o:=by
 cases o with
 |dead=>trivial
 |cells ds=>
  obtain⟨vs,T,h1,h2⟩:=h;exact⟨vs,T,hb.trans h1,Vs.mono hk hr ds _ h2⟩
 |arr sz rows=>
  obtain⟨c,T,h1,h2,h3,h4⟩:=h;exact⟨c,T,hb.trans h1,h2,h3,vr hk hb rows _ h4⟩
 |lp st B1 s env=>
  obtain⟨fn,tmps,df,h1,h2,h3⟩:=h;exact⟨fn,tmps,df,hb.trans h1,h2,fun t d e=>V.mono hk hr d _ (h3 t d e)⟩
 |mp r5=>
  obtain⟨es,h1,h2,h3⟩:=h;refine⟨es,hb.trans h1,h2,fun i kd vd e=>?_⟩;obtain⟨x,g1,g2,g3,g4⟩:=h3 i kd vd e;exact⟨x,g1,g2,V.mono hk hr _ _ g3,V.mono hk hr _ _ g4⟩
 |mi m zJ seen=>
  obtain⟨lm,h1,h2⟩:=h;exact⟨lm,hr _ _ h1,hb.trans h2⟩
 |fq j n=>
  obtain⟨p,v,h1,h2,h3⟩:=h;refine⟨p,v,hb.trans h1,h2,?_⟩;rcases h3 with h3|⟨h3,lj,h4,h5⟩
  ·exact .inl h3
  ·exact .inr ⟨h3,lj,hr _ _ h4,h5⟩
 |ba s=>
  obtain⟨c,h1,h2⟩:=h;exact⟨c,hb.trans h1,h2⟩
 |res sz=>
  obtain⟨c,T,h1,h2⟩:=h;exact⟨c,T,hb.trans h1,h2⟩
 |mj ks vs seen=>
  obtain⟨b,h1,h2⟩:=h;exact⟨b,h1.mono hk,hb.trans h2⟩
 |mn=>exact hb.trans h
where
 vc {w w':World} {O O':Nat->Prop} {b:Nat} (hk:Kept w O w' O') (hb:w'.heap[b]?=w.heap[b]?):∀(ds:List D)(off:Nat),Vc w O b off ds->Vc w' O' b off ds
  |[],_,_=>by simp[Vc]
  |d::ds,off,h=>by
   simp only[Vc]at h|-;obtain⟨⟨u,h1,h2⟩,h3⟩:=h;exact⟨⟨u,⟨(adp hb).trans h1.1,h1.2⟩,V.mono hk (bN.refl _) d u h2⟩,vc hk hb ds (off+1) h3⟩
 vr {w w':World} {O O':Nat->Prop} {b sz:Nat} (hk:Kept w O w' O') (hb:w'.heap[b]?=w.heap[b]?):∀(rs:List (List D))(off:Nat),Vr w O b off sz rs->Vr w' O' b off sz rs
  |[],_,_=>by simp[Vr]
  |r::rs,off,h=>by
   simp only[Vr]at h|-;exact⟨⟨h.1.1,vc hk hb r off h.1.2⟩,vr hk hb rs (off+sz) h.2⟩
def ig.keep{w w':World}{O:Nat->Prop}{ρ:aA}{l:Loc}{o:Ob}(hk:Kept w O w' O)(hb:w'.heap[l.b]?=w.heap[l.b]?)(h:ig w O ρ l o):ig w' O ρ l o:=h.mono hk (bN.refl _) hb
def ig.lt{w:World}{O:Nat->Prop}{ρ:aA}{l:Loc}{o:Ob}(hl:o.live=true)(h:ig w O ρ l o):l.b<w.heap.size:=by
 cases o with
 |dead=>simp[Ob.live]at hl
 |cells ds=>obtain⟨vs,T,h1,_⟩:=h;exact(bH.1 h1).1
 |arr sz rows=>obtain⟨c,T,h1,_⟩:=h;exact(bH.1 h1).1
 |lp st B1 s env=>obtain⟨fn,tmps,df,h1,_⟩:=h;exact(bH.1 h1).1
 |mp r5=>obtain⟨es,h1,_⟩:=h;exact(bH.1 h1).1
 |mi m zJ seen=>obtain⟨lm,_,h1⟩:=h;exact(bH.1 h1).1
 |fq j n=>obtain⟨p,v,h1,_⟩:=h;exact(bH.1 h1).1
 |ba s=>obtain⟨c,h1,_⟩:=h;exact(bH.1 h1).1
 |res sz=>obtain⟨c,T,h1,_⟩:=h;exact(bH.1 h1).1
 |mj ks vs seen=>obtain⟨b,_,h1⟩:=h;exact(bH.1 h1).1
 |mn=>exact(bH.1 h).1
theorem cX.keep{w w':World}{O:Nat->Prop}{ρ:aA}{Z:ae}(hk:gm w w')(h:cX w O ρ Z):cX w' O ρ Z:=by
 refine⟨fun b hb=>lF (h.lt b hb) hk.size,h.fresh,fun i o h1 h2=>?_,h.inj⟩;obtain⟨l,h3,h4,h5⟩:=h.own i o h1 h2;exact⟨l,h3,h4,h5.keep (hk.kept _) (hk.same _ (h5.lt h2))⟩
def Tr.pz{w w':World}{O:Nat->Prop}{ρ:aA}{Z:ae}(hk:gm w w')(h:cX w O ρ Z):Tr O w ρ Z w' ρ Z:=
 ⟨bN.refl _,hk.size,fun b hb _=>hk.same b hb,fun _ h=>.inl h,h.keep hk,hk.os⟩
structure Sub(d d':D):Prop where
 out:∀w O ρ v,V w O ρ d v->V w O ρ d' v
def Sub.refl(d:D):Sub d d:=⟨fun _ _ _ _ h=>h⟩
def Sub.of_eq{d d':D}(h:d=d'):Sub d d':=h▸Sub.refl d
def Sub.trans{a b c:D}(h:Sub a b)(h':Sub b c):Sub a c:=⟨fun w O ρ v x=>h'.out w O ρ v (h.out w O ρ v x)⟩
def Sub.sF(sz:Nat)(f:Bool)(rows:List (List D)):Sub (.snap sz f rows) (.snap sz false rows):=⟨fun w O ρ v h=>by
 simp only[V]at h|-;obtain⟨a,cap,e,h1,_,h3⟩:=h;exact⟨a,cap,e,h1,by simp,h3⟩⟩
def Sub.nil(sz:Nat)(f:Bool):Sub (.raw (.slice none 0 0)) (.snap sz f []):=⟨fun w O ρ v h=>by
 simp only[V]at h|-;exact⟨none,0,by simpa using h,by simp[aD]⟩⟩
inductive jx:List D->List D->Prop
 |nil:jx [] []
 |cons {d d':D} {ds fg:List D} (h:Sub d d') (r:jx ds fg):jx (d::ds) (d'::fg)
theorem jx.out{ds fg:List D}(h:jx ds fg):∀w O ρ vs,Vs w O ρ ds vs->Vs w O ρ fg vs:=by
 induction h with
 |nil=>exact fun _ _ _ _ h=>h
 |cons h _ ih=>
  intro w O ρ vs hv;simp only[Vs]at hv|-;obtain⟨u,us,e,h1,h2⟩:=hv;exact⟨u,us,e,h.out w O ρ u h1,ih w O ρ us h2⟩
theorem Sub.a_{ds fg:List D}(h:jx ds fg):Sub (.a_ ds) (.a_ fg):=⟨fun w O ρ v hv=>by
 simp only[V]at hv|-;obtain⟨vs,e,h1⟩:=hv;exact⟨vs,e,h.out w O ρ _ h1⟩⟩
theorem Sub.agg{ds fg:List D}(h:jx ds fg):Sub (.agg ds) (.agg fg):=⟨fun w O ρ v hv=>by
 simp only[V]at hv|-;obtain⟨vs,e,h1⟩:=hv;exact⟨vs,e,h.out w O ρ _ h1⟩⟩
def Sub.JH{a b a' b':D}(h:Sub a a')(h':Sub b b'):Sub (.a_ [a,b]) (.a_ [a',b']):=.a_ (.cons h (.cons h' .nil))
def Sub.aaW{a b c a' b' c':D}(h:Sub a a')(h':Sub b b')(Dg:Sub c c'):Sub (.a_ [a,b,c]) (.a_ [a',b',c']):=.a_ (.cons h (.cons h' (.cons Dg .nil)))
structure Le(F:Fr)(env:Env)(Z:ae)(aY:Env)(aj:ae):Prop where
 intro::
 out:∀C a w,St F C env Z a w->St F C aY aj a w
def Le.refl(F:Fr)(env:Env)(Z:ae):Le F env Z env Z:=⟨fun _ _ _ h=>h⟩
def Le.trans{F:Fr}{a b c:Env}{x y z:ae}(h:Le F a x b y)(h':Le F b y c z):Le F a x c z:=⟨fun C s w g=>h'.out C s w (h.out C s w g)⟩
def ae.has(Z:ae)(i:Nat):Bool:=(Z.get i).isSome
inductive ct(aj:ae)(env:Env):Env->Prop
 |nil:ct aj env []
 |cons {t:Nat} {d d':D} {e:Env} (h:env.get t=some d) (s:Sub d d') (hp:d'.okB aj.has=true) (r:ct aj env e):ct aj env ((t,d')::e)
def ct.same{aj:ae}{env:Env}{t:Nat}{d:D}{e:Env}(h:env.get t=some d)(hp:d.okB aj.has=true)(r:ct aj env e):ct aj env ((t,d)::e):=.cons h (Sub.refl _) hp r
def ct.s{aj:ae}{env:Env}{t:Nat}{d:D}{e:Env}(h:env.get t=some d)(hp:d.okB aj.has=true)(r:ct aj env e):ct aj env ((t,d)::e):=.same h hp r
def jx.r{d:D}{a b:List D}(h:jx a b):jx (d::a) (d::b):=.cons (Sub.refl _) h
def ct.sound{aj:ae}{env aY:Env}(h:ct aj env aY):∀t d',aY.get t=some d'->∃d,env.get t=some d/\Sub d d'/\d'.okB aj.has=true:=by
 induction h with
 |nil=>intro t d' h;simp[Env.get]at h
 |@cons t0 d0 d1 e h s hp _ ih=>
  intro t d' hd;rw[Env.bm]at hd;by_cases e:t0=t
  ·rw[aV e]at hd;cases hd;exact⟨d0,e▸h,s,hp⟩
  ·rw[aF e]at hd;exact ih t d' hd
inductive iQ(all:ae)(Z:ae):ae->Prop
 |nil:iQ all Z []
 |cons {i:Nat} {o:Ob} {e:ae} (h:Z.get i=some o) (hp:o.okB all.has=true) (r:iQ all Z e):iQ all Z ((i,o)::e)
 |tail {e:ae} (h:∀i o,e.get i=some o->Z.get i=some o/\o.okB all.has=true):iQ all Z e
def iQ.sound{all Z aj:ae}(h:iQ all Z aj):∀i o,aj.get i=some o->Z.get i=some o/\o.okB all.has=true:=by
 induction h with
 |nil=>intro t d' h;simp[ae.get]at h
 |@cons t0 d0 e h hp _ ih=>
  intro t d' hd;rw[ae.bm]at hd;by_cases e:t0=t
  ·rw[aV e]at hd;cases hd;exact⟨e▸h,hp⟩
  ·rw[aF e]at hd;exact ih t d' hd
 |tail h=>exact h
def ig.fp{w:World}{O O':Nat->Prop}{ρ:aA}{l:Loc}{o:Ob}(hk:Kept w O w O')(h:ig w O ρ l o):ig w O' ρ l o:=h.mono hk (bN.refl _) rfl
def Kept.fp{w:World}{O O':Nat->Prop}(h:∀b,O' b->O b):Kept w O w O':=⟨dP _,fun b _ ho=>⟨fun _ _ _=>rfl,fun g=>ho (h b g)⟩⟩
theorem ig.cut{w:World}{O:Nat->Prop}{ρ:aA}{l:Loc}{o:Ob}{f:Nat->Bool}(hp:o.okB f=true)(h:ig w O ρ l o):ig w O (cQ f ρ) l o:=by
 cases o with
 |dead=>trivial
 |cells ds=>
  obtain⟨vs,T,h1,h2⟩:=h;exact⟨vs,T,h1,Vs.cut ds _ hp h2⟩
 |arr sz rows=>exact h
 |lp st B1 s env=>
  obtain⟨fn,tmps,df,h1,h2,h3⟩:=h;exact⟨fn,tmps,df,h1,h2,fun t d e=>V.cut d _ (IL hp d (Env.get_mem e)) (h3 t d e)⟩
 |mp r5=>
  obtain⟨es,h1,h2,h3⟩:=h;simp only[Ob.okB,bd]at hp;refine⟨es,h1,h2,fun i kd vd e=>?_⟩;obtain⟨x,g1,g2,g3,g4⟩:=h3 i kd vd e;have hm:=dj e;exact⟨x,g1,g2,V.cut _ _ (IL hp.1 kd (qD (f:=Prod.fst) hm)) g3,V.cut _ _ (IL hp.2 vd (qD (f:=Prod.snd) hm)) g4⟩
 |mi m zJ seen=>
  obtain⟨lm,h1,h2⟩:=h;simp only[Ob.okB]at hp;exact⟨lm,by simp[cQ,hp,h1],h2⟩
 |fq j n=>
  obtain⟨p,v,h1,h2,h3⟩:=h;simp only[Ob.okB]at hp;refine⟨p,v,h1,h2,?_⟩;rcases h3 with h3|⟨h3,lj,h4,h5⟩
  ·exact .inl h3
  ·exact .inr ⟨h3,lj,by simp[cQ,hp,h4],h5⟩
 |ba s=>exact h
 |res sz=>exact h
 |mj ks vs seen=>exact h
 |mn=>exact h
def qy{f:Nat->Bool}{ρ:aA}{i:Nat}{l:Loc}(h:cQ f ρ i=some l):ρ i=some l:=by
 unfold cQ at h;split at h
 ·exact h
 ·cases h
def cX.sub{w:World}{O:Nat->Prop}{ρ:aA}{Z aj:ae}(h:∀i o,aj.get i=some o->Z.get i=some o/\o.okB aj.has=true)(ai:cX w O ρ Z):cX w O (cQ aj.has ρ) aj:=by
 have hO:∀b,Ot O (cQ aj.has ρ) aj b->Ot O ρ Z b:=by
  rintro b (hb|⟨i,o,l,h1,h2,h3,h4⟩)
  ·exact .inl hb
  ·exact .inr ⟨i,o,l,(h i o h1).1,h2,qy h3,h4⟩
 refine⟨ai.lt,fun i hi=>by simp[cQ,ae.has,hi],fun i o h1 h2=>?_,fun i j o o' l l' a b c d e e'=>ai.inj i j o o' l l' (h _ _ a).1 (h _ _ b).1 c d (qy e) (qy e')⟩;obtain⟨l,h3,h4,h5⟩:=ai.own i o (h i o h1).1 h2;exact⟨l,by simp[cQ,ae.has,h1,h3],h4,(h5.fp (Kept.fp hO)).cut (h i o h1).2⟩
def Le.mk{F:Fr}{env aY:Env}{Z aj:ae}(tj:F.ps.all aj.has=true)(he:ct aj env aY)(ho:iQ aj Z aj):Le F env Z aY aj:=⟨fun C a w ⟨ρ,hs⟩=>by
 have eZ:=ho.sound;have hO:∀b,cj (cQ aj.has ρ) aj b->cj ρ Z b:=by
  rintro b ⟨i,o,l,h1,h2,h3,h4⟩;exact⟨i,o,l,(eZ i o h1).1,h2,qy h3,h4⟩
 refine⟨cQ aj.has ρ,?_,⟨hs.tr.size,hs.tr.same,fun b hb=>hs.tr.new b (hO b hb),hs.tr.ok.sub eZ,hs.tr.os⟩,?_,hs.size,hs.marks.mono (dP _) (fun b _ ho=>⟨rfl,fun g=>ho (g.imp _root_.id (hO b))⟩),hs.rd,hs.yl,hs.gl⟩
 ·intro i this l hi;have hh:=de.1 tj i this;simp[cQ,hh,hs.keep i this l hi]
 ·intro t d' hd;obtain⟨d,h1,h2,h3⟩:=he.sound t d' hd;refine V.cut d' _ h3 ?_;exact V.mono (Kept.fp fun b=>Or.imp id (hO b)) (bN.refl _) _ _ (h2.out _ _ _ _ (hs.env t d h1))⟩
structure WP(P:Program)(F:Fr)(c:Code)(Q:Exit->Env->ae->Prop)(env:Env)(Z:ae):Prop where
 out:∀C a w,St F C env Z a w->c.wpIn (fz C.ro) 0 P (fun e a' w'=>∃aY aj,Q e aY aj/\St F C aY aj a' w') a w
def kS(K:Env->ae->Prop)(Q:Exit->Env->ae->Prop):Exit->Env->ae->Prop
 |.normal,env,Z=>K env Z
 |e,env,Z=>Q e env Z
def Kq(id:Nat)(Q:Exit->Env->ae->Prop):Exit->Env->ae->Prop
 |.exit bh,env,Z=>bif Nat.beq bh id then Q .normal env Z else Q (.exit bh) env Z
 |e,env,Z=>Q e env Z
section
variable{P:Program} {F:Fr} {Q:Exit->Env->ae->Prop} {env:Env} {Z:ae}
theorem WP.seq{x y:Code}(h:WP P F x (kS (WP P F y Q) Q) env Z):WP P F (.seq x y) Q env Z:=⟨fun C a w hs=>by
 refine wpIn_seq (wpIn_mono (h.out C a w hs) ?_);rintro e a' w' ⟨aY,aj,hq,gX⟩;cases e with
 |normal=>exact hq.out C a' w' gX
 |_=>exact⟨aY,aj,hq,gX⟩⟩
theorem WP.skip(h:Q .normal env Z):WP P F .skip Q env Z:=⟨fun _ _ _ hs=>wpIn_skip ⟨env,Z,h,hs⟩⟩
theorem WP.exit{id:Nat}(h:Q (.exit id) env Z):WP P F (.exit id) Q env Z:=⟨fun _ _ _ hs=>wpIn_exit ⟨env,Z,h,hs⟩⟩
theorem WP.ret(h:Q .ret env Z):WP P F .ret Q env Z:=⟨fun _ _ _ hs=>wpIn_ret ⟨env,Z,h,hs⟩⟩
theorem WP.block{id:Nat}{c:Code}(h:WP P F c (Kq id Q) env Z):WP P F (.block id c) Q env Z:=⟨fun C a w hs=>by
 refine wpIn_block (wpIn_mono (h.out C a w hs) ?_);rintro e a' w' ⟨aY,aj,hq,gX⟩;cases e with
 |exit bh=>
  simp only[Exit.inBlock];simp only[Kq]at hq;by_cases e:bh=id
  ·subst e;simp only[Nat.beq_refl,iX]at hq;simp only[mX];exact⟨aY,aj,hq,gX⟩
  ·have:Nat.beq bh id=false:=by
    cases h2:Nat.beq bh id with
    |true=>exact absurd (pT h2) e
    |false=>rfl
   simp only[this,jh]at hq;simp only[aF e];exact⟨aY,aj,hq,gX⟩
 |_=>exact⟨aY,aj,hq,gX⟩⟩
theorem WP.cond{c:Operand}{x y:Code}{b:Bool}(hc:env.op c=some (.raw (.bool b)))(ht:b=true->WP P F x Q env Z)(hf:b=false->WP P F y Q env Z):WP P F (.cond c x y) Q env Z:=⟨fun C a w hs=>by
 obtain⟨ρ,gX⟩:=hs;have:=vq gX.env c _ hc;simp only[V]at this;exact wpIn_cond_split this (fun e=>(ht e).out C a w ⟨ρ,gX⟩) (fun e=>(hf e).out C a w ⟨ρ,gX⟩)⟩
def WP.ew{c:Operand}{x y:Code}{b:Bool}(hc:env.op c=some (.raw (.bool b)))(hb:b=true)(ht:WP P F x Q env Z):WP P F (.cond c x y) Q env Z:=
 .cond hc (fun _=>ht) (fun e=>by rw[hb]at e;cases e)
def WP.c6{c:Operand}{x y:Code}{b:Bool}(hc:env.op c=some (.raw (.bool b)))(hb:b=false)(hf:WP P F y Q env Z):WP P F (.cond c x y) Q env Z:=
 .cond hc (fun e=>by rw[hb]at e;cases e) (fun _=>hf)
def WP.bc{c:Code}{aY:Env}{aj:ae}(h:Le F env Z aY aj)(hw:WP P F c Q aY aj):WP P F c Q env Z:=⟨fun C a w hs=>hw.out C a w (h.out C a w hs)⟩
theorem WP.region{id:Nat}{l:List Oper}{ks:List Kind}(h:cN P F.N l.toArray (fun e o=>Q .normal e o) l ks env Z):WP P F (.region id l.toArray false) Q env Z:=⟨fun C a w hs=>by
 obtain⟨E,B,ds,ht,hE,hB,hK⟩:=h.trace;refine wpIn_region ?_;rw[List.range_eq_range'];refine Trace.text (ops:=l.toArray) (by simpa using ht) (C:=C) (fun a w hs=>⟨E l.length,B l.length,hK,by simpa using hs⟩) _ 0 zS a w ?_;rw[hE,hB];exact hs⟩
def St.drew{C:Ctx}{a:Act}{w:World}(h:St F C env Z a w):St F C env Z a {w with drawn:=w.drawn+1}:=by
 obtain⟨ρ,h⟩:=h;have hk:gm w {w with drawn:=w.drawn+1}:=⟨dP _,fun _ _=>rfl,rfl,rfl,.inl ⟨rfl,vY _⟩⟩;have aP:=Tr.pz hk h.tr.ok;exact⟨ρ,h.step aP (fun t d hd=>aP.V (h.env t d hd)) rfl rfl⟩
def WP.ZZ{id:Nat}{l:List Oper}{ks:List Kind}(hm:P.follows .mixedOrders=true)(ai:kN l.toArray ks=true)(h:cN P F.N l.toArray (fun e o=>Q .normal e o) l ks env Z):WP P F (.region id l.toArray true) Q env Z:=⟨fun C a w hs=>by
 obtain⟨E,B,ds,ht,hE,hB,hK⟩:=h.trace;refine wpIn_region_any hm ?_;have gX:=hs.drew;obtain⟨ρ,gX⟩:=gX;have hl:∀j,¬gQ (Array.replicate l.toArray.size false) j:=by
  intro j hj;unfold gQ at hj;rw[Ep]at hj;split at hj<;>simp at hj
 refine Trace.any (ops:=l.toArray) (C:=C) (by simpa using ht) ai (fun a w hs=>⟨E l.length,B l.length,hK,by simpa using hs⟩) _ _ a _ zS ?_ ⟨ρ,0,?_,?_,Bp _,?_,?_,?_,gX.size,gX.keep,by rw[hB];exact gX.marks,gX.rd,gX.yl,gX.gl⟩
 ·unfold todo;exact dM (nw _ _) zS
 ·intro j o _ hj;exact absurd hj (hl j)
 ·intro j _;exact⟨fun h=>absurd h (hl j),fun h=>by omega⟩
 ·rw[hB];exact gX.tr
 ·intro t d _ hd;rw[hE]at hd;rw[hB];exact gX.env t d hd
 ·intro j o t _ hj;exact absurd hj (hl j)⟩
def atZ{ι:Type}{G:Fence}{n:Nat}{R:Exit->Act->World->Prop}{c:Code}(I:ι->Act->World->Prop)(m:ι->Nat){a:Act}{w:World}(x0:ι)(h0:I x0 a w)
  (round:∀x a w,I x a w->c.wpIn G n P (Exit.then (fun a' w'=>∃x',m x'<m x/\I x' a' w') R) a w):(Code.loop c).wpIn G n P R a w:=by
 intro b k cs Nj hb hr;have key:∀j x a w,m x=j->I x a w->∃e a' w',R e a' w'/\ArrivesIn (Machine.fenced P G) P (lone (b.atR a (.code c::.inLoop c::k)) cs w) b k cs e a' w':=by
  intro j;induction j using Nat.strongRecOn with
  |_ j ih=>
   intro x a w hn hI;obtain⟨e,Ae,Cu,hq,wM⟩:=round x a w hI b (.inLoop c::k) cs Nj hb hr;cases e with
   |normal=>
    obtain⟨x',bA,aiO⟩:=hq;obtain⟨agS,acE,aud,ajy,aiR⟩:=ih (m x') (hn▸bA) x' Ae Cu rfl aiO;exact⟨agS,acE,aud,ajy,.of_steps (StepsIn.trans wM (.one (fenced_calm hb hr rfl) stepR_inLoop)) aiR⟩
   |exit id=>exact⟨_,Ae,Cu,hq,.pass (x:=.inLoop c) rfl (fun _ _=>.inl zS) wM⟩
   |goto l=>exact⟨_,Ae,Cu,hq,.pass (x:=.inLoop c) rfl (fun _ _=>.inl zS) wM⟩
   |ret=>exact⟨_,Ae,Cu,hq,.pass (x:=.inLoop c) rfl (fun _ _=>.inl zS) wM⟩
   |panic ch=>exact⟨_,Ae,Cu,hq,.pass (x:=.inLoop c) rfl (fun _ _=>.inl zS) wM⟩
   |outgrown=>exact⟨_,Ae,Cu,hq,.pass (x:=.inLoop c) rfl (fun _ _=>.inl zS) wM⟩
 obtain⟨e,a',w',hq,wM⟩:=key _ x0 a w rfl h0;exact⟨e,a',w',hq,.of_steps (.one (fenced_calm hb hr rfl) stepR_loop) wM⟩
theorem WP.loop{ι:Type}{c:Code}(E:ι->Env)(B:ι->ae)(m:ι->Nat)(x0:ι)(h0:Le F env Z (E x0) (B x0))
  (round:∀x,WP P F c (kS (fun e o=>∃x',m x'<m x/\Le F e o (E x') (B x')) Q) (E x) (B x)):WP P F (.loop c) Q env Z:=⟨fun C a w hs=>by
 refine atZ (fun x a w=>St F C (E x) (B x) a w) m x0 (h0.out C a w hs) ?_;intro x a w hx;refine wpIn_mono ((round x).out C a w hx) ?_;rintro e a' w' ⟨aY,aj,hq,gX⟩;cases e with
 |normal=>
  obtain⟨x',bA,fh⟩:=hq;exact⟨x',bA,fh.out C a' w' gX⟩
 |_=>exact⟨aY,aj,hq,gX⟩⟩
end
structure Fc(P:Program)(f:FuncId)(args:List D)(r:D):Prop where
 out:∀w O ρ vals,(∀b,O b->b<w.heap.size)->Gl w O->Vs w O ρ args vals->Calls P f vals.toArray w (fun e w'=>∃v,e=.returned v/\V w' O ρ r v/\gm w w')
def mA:List D->Nat->Env
 |[],_=>[]
 |d::ds,i=>(i,d)::mA ds (i+1)
def getAll(env:Env):List Nat->Option (List D)
 |[]=>some []
 |t::ts=>match env.get t,getAll env ts with
  |some d,some ds=>some (d::ds)
  |_,_=>none
def tL:List D->D
 |[d]=>d
 |ds=>.a_ ds
def vM(ts:List Nat)(r:D):Exit->Env->ae->Prop
 |.ret,env,_|.normal,env,_=>∃ds,getAll env ts=some ds/\Sub (tL ds) r
 |_,_,_=>False
theorem Q1{w:World}{O:Nat->Prop}{ρ:aA}:∀(ds:List D)(vs:List Value)(i:Nat),Vs w O ρ ds vs->∀t d,(mA ds i).get t=some d->∃k v,t=i+k/\vs[k]?=some v/\V w O ρ d v
 |[],_,_,_,t,d,h=>by simp[mA,Env.get]at h
 |d::ds,vs,i,hv,t,d',h=>by
  simp only[Vs]at hv;obtain⟨u,us,rfl,h1,h2⟩:=hv;simp only[mA,Env.bm]at h;by_cases e:i=t
  ·rw[aV e]at h;cases h;exact⟨0,u,by omega,by simp,h1⟩
  ·rw[aF e]at h;obtain⟨k,v,h3,h4,h5⟩:=Q1 ds us (i+1) h2 t d' h;exact⟨k+1,v,by omega,by simpa using h4,h5⟩
theorem G5{w:World}{O:Nat->Prop}{ρ:aA}{env:Env}{tmps:Array Value}(he:∀t d,env.get t=some d->V w O ρ d (tmps.getD t undef)):
  ∀(ts:List Nat)(ds:List D),getAll env ts=some ds->Vs w O ρ ds (ts.map fun t=>tmps.getD t undef)
 |[],ds,h=>by simp only[getAll,cH]at h;subst h;simp[Vs]
 |t::ts,ds,h=>by
  simp only[getAll]at h;split at h
  ·rename_i d fg h1 h2;simp only[cH]at h;subst h;simp only[cP,Vs];exact⟨_,_,rfl,he t d h1,G5 he ts fg h2⟩
  ·cases h
def Z3:List Value->Value
 |[v]=>v
 |vs=>.tuple vs.toArray
def E2(ts:List Nat)(tmps:Array Value):Value:=Z3 (ts.map fun t=>tmps.getD t undef)
def Vs.res{w:World}{O:Nat->Prop}{ρ:aA}{ds:List D}{vs:List Value}(h:Vs w O ρ ds vs):V w O ρ (tL ds) (Z3 vs):=by
 match ds,vs,h with
 |[],vs,h=>simp only[Vs]at h;subst h;exact⟨#[],rfl,by simp[Vs]⟩
 |[d],vs,h=>
  simp only[Vs]at h;obtain⟨u,us,rfl,h1,rfl⟩:=h;exact h1
 |d::d'::ds,vs,h=>
  have h0:=h;simp only[Vs]at h;obtain⟨u,us,rfl,h1,u',zU,rfl,h2⟩:=h;exact⟨_,rfl,h0⟩
theorem aaG{P:Program}{fn:Func}{tmps:Array Value}{R:Ending->World->Prop}{n:Nat}{O:Nat->Prop}:∀(ds:List Deferred)(w:World),Marks n w O ds->
  (∀w',w.heap.size=w'.heap.size->(∀b,b<w.heap.size->(b<n\/O b\/∃o,w.heap[b]?=some o/\P6 o=true)->w'.heap[b]?=w.heap[b]?)->w'.os=w.os->w'.output=w.output/\iE w w'->∃v,(results fn tmps).run P w'=.ok v w'/\R (.returned v) w')->LeavesInM Fence.wide 0 P fn tmps R ds .returning w
 |[],w,hm,h=>by
  obtain⟨v,h1,h2⟩:=h w rfl (fun _ _ _=>rfl) rfl ⟨rfl,iE.eq rfl rfl⟩;simp only[LeavesInM];exact⟨v,h1,h2⟩
 |d::ds,w,hm,h=>by
  obtain⟨r,rfl,h2,h3,h4,h5⟩:=hm.at_ d c7;refine⟨by simp,.inl ⟨r,w.putObj r (.deferred none),rfl,run_takeDeferred h5,?_⟩⟩;have uK:=xw.1 hm.apart;refine aaG (n:=n) (O:=O) ds _ ⟨fun e he=>?_,uK.2⟩ ?_
  ·obtain⟨r',rfl,g2,g3,g4,g5⟩:=hm.at_ e (cC _ he);have aC:r'≠r:=fun e'=>uK.1 _ he r rfl (by rw[e']);exact⟨r',rfl,g2,by simpa using g3,g4,by rw[World.putObj_heap_other aC];exact g5⟩
  ·intro w' e1 e2 e3 e4;refine h w' (by simpa using e1) (fun b hb hc=>?_) e3 e4;have aC:b≠r:=by
    rintro rfl;rcases hc with hc|hc|⟨o,hc,hs⟩
    ·omega
    ·exact h4 hc
    ·rw[h5]at hc;cases hc;cases hs
   have:=e2 b (by simpa using hb) (by rw[World.putObj_heap_other aC];exact hc);rw[this,World.putObj_heap_other aC]
def St.begin{args:List D}{vals:List Value}{N:Nat}{w:World}{O:Nat->Prop}{ρ:aA}{pre:ae}(OL:Nat)(hN:OL=N)(hn:args.length<=N)(ai:cX w O ρ pre)(bY:Gl w (Ot O ρ pre))(hv:Vs w (Ot O ρ pre) ρ args vals)(ps:List Nat)(yl:Option (Nat×Nat))(hyl:∀i b,yl=some (i,b)->i∈ps/\∃l,ρ i=some l/\l.b=b):
  qu ⟨N,ps,false,yl⟩ ⟨O,w,ρ,pre,none⟩ (mA args 0) pre {tmps:=vals.toArray++Array.replicate (OL-vals.toArray.size) undef,defers:=[]} w ρ:=by
 have hlen:=hv.length;refine⟨fun _ _ _ h=>h,hJ.refl ai,?_,by rw[hN];simp;omega,Marks.nil ..,fun _=>rfl,hyl,bY⟩;intro t d hd;obtain⟨k,v,h1,h2,h3⟩:=Q1 args vals 0 hv t d hd;have hk:k<vals.length:=(cI.1 h2).1;have:(vals.toArray++Array.replicate (OL-vals.toArray.size) undef).getD t undef=v:=by
  obtain rfl:t=k:=by omega
  rw[ja,oY (by simpa using hk)];simp[h2]
 rw[this];exact h3
def CK{P:Program}{f:FuncId}{fn:Func}{c:Code}{w:World}{args:Array Value}{Q:Exit->Env->ae->Prop}{N:Nat}{ps:List Nat}{yl:Option (Nat×Nat)}{env:Env}{pre:ae}{O:Nat->Prop}{ρ:aA}{R:Ending->World->Prop}(hf:P.funcs[f]?=some fn)(hb:fn.body=some c)
  (h:WP P ⟨N,ps,false,yl⟩ c Q env pre)(aU:qu ⟨N,ps,false,yl⟩ ⟨O,w,ρ,pre,none⟩ env pre {tmps:=args++Array.replicate (fn.ntmps-args.size) undef,defers:=[]} w ρ)
  (hQ:∀e aY aj,Q e aY aj->(e=.ret\/e=.normal))
  (hR:∀e aY aj tmps w' av,Q e aY aj->(∀i,i∈ps->∀l,ρ i=some l->av i=some l)->hJ O w ρ pre w' av aj->(∀t d,aY.get t=some d->V w' (Ot O av aj) av d (tmps.getD t undef))->∃v,(results fn tmps).run P w'=.ok v w'/\R (.returned v) w'):
  Calls P f args w R:=by
 refine callsIn_wide.1 (callsIn_of_wp_marks (n:=0) hf hb trivial ?_);refine wpIn_mono (h.out _ _ w ⟨ρ,aU⟩) ?_;rintro e a' w' ⟨aY,aj,hq,av,hs⟩;have fin:LeavesInM Fence.wide 0 P fn a'.tmps R a'.defers .returning w':=by
  refine aaG _ _ hs.marks ?_;intro xJ e1 e2 e3 e4;have fH:∀b,cj av aj b\/O b->xJ.heap[b]?=w'.heap[b]?:=by
   intro b hb;have bA:b<w'.heap.size:=by
    rcases hb with⟨i,o,l,h1,h2,h3,h4⟩|hb
    ·obtain⟨l',h5,_,h6⟩:=hs.tr.ok.own i o h1 h2;rw[h3]at h5;cases h5;exact h4▸h6.lt h2
    ·exact hs.tr.ok.lt b hb
   exact e2 b bA (.inr (.inl (hb.elim .inr .inl)))
  have hk:Kept w' (Ot O av aj) xJ (Ot O av aj):=⟨G7 e1,fun b hb ho=>⟨fun o e hs=>e2 b hb (.inr (.inr ⟨o,e,hs⟩)),ho⟩⟩;have aP:hJ O w ρ pre xJ av aj:=by
   refine⟨dM hs.tr.size (G7 e1),fun b hb ho=>?_,hs.tr.new,⟨fun b hb=>e1▸hs.tr.ok.lt b hb,hs.tr.ok.fresh,fun i o h1 h2=>?_,hs.tr.ok.inj⟩,e3.trans hs.tr.os.1,e4.1.trans hs.tr.os.2.1,hs.tr.os.2.2.trans e4.2⟩
   ·exact(e2 b (lF hb hs.tr.size) (.inl hb)).trans (hs.tr.same b hb ho)
   ·obtain⟨l,h3,h4,h5⟩:=hs.tr.ok.own i o h1 h2;exact⟨l,h3,h4,h5.mono hk (bN.refl _) (fH _ (.inl ⟨i,o,l,h1,h2,h3,rfl⟩))⟩
  exact hR e aY aj a'.tmps xJ av hq hs.keep aP (fun t d hd=>V.mono hk (bN.refl _) _ _ (hs.env t d hd))
 rcases hQ e aY aj hq with rfl|rfl<;>exact fin
def Fc.of_wp{P:Program}{f:FuncId}{fn:Func}{c:Code}{args:List D}{r:D}(ts:List Nat)(hf:P.funcs[f]?=some fn)(hb:fn.body=some c){N:Nat}(hN:fn.ntmps=N)(hn:args.length<=N)(hp:D.bw.dT args=true)(hr:r.bw=true)
  (rS:∀tmps w,(results fn tmps).run P w=.ok (E2 ts tmps) w)(h:WP P ⟨N,[],false,none⟩ c (vM ts r) (mA args 0) []):Fc P f args r:=⟨fun w O ρ vals hO bY uW=>by
 have ce:∀b,¬cj dZ [] b:=fun b ⟨i,o,l,h1,_⟩=>by simp[ae.get]at h1
 have ai:cX w O dZ []:=⟨hO,fun _ _=>rfl,fun i o h1=>by simp[ae.get]at h1,fun i j o o' l l' h1=>by simp[ae.get]at h1⟩;have hv:Vs w (Ot O dZ []) dZ args vals:=Vs.mono (Kept.fp fun b hb=>hb.elim _root_.id (fun g=>(ce b g).elim)) (bN.refl _) _ _ (Vs.pure args vals hp uW);refine CK hf hb h (St.begin fn.ntmps hN hn ai (bY.mono (Kept.fp fun b hb=>hb.elim _root_.id (fun g=>(ce b g).elim))) hv [] none (fun _ _ e=>by cases e)) ?_ ?_
 ·intro e aY aj hq;cases e<;>first|exact .inl rfl|exact .inr rfl|exact hq.elim
 ·intro e aY aj tmps w' av hq _ aP wR;have:∃ds,getAll aY ts=some ds/\Sub (tL ds) r:=by cases e<;>first|exact hq|exact hq.elim
  obtain⟨ds,h1,h2⟩:=this;refine⟨_,rS _ _,_,rfl,?_,aP.size,fun b hb=>aP.same b hb (ce b),aP.os⟩;have h3:=h2.out _ _ _ _ (Vs.res (G5 wR ts ds h1));exact V.pure r _ hr (V.mono (O':=O) (Kept.fp fun b hb=>Or.inl hb) (bN.refl _) _ _ h3)⟩
def Env.kM(env:Env):List Operand->Option (List D)
 |[]=>some []
 |x::xs=>match env.op x,env.kM xs with
  |some d,some ds=>some (d::ds)
  |_,_=>none
theorem tW{w:World}{O:Nat->Prop}{ρ:aA}{env:Env}{a:Act}:∀(xs:List Operand)(ds:List D),env.kM xs=some ds->(∀x∈xs,∀d',env.op x=some d'->V w O ρ d' (a.eval x))->Vs w O ρ ds (xs.map a.eval)
 |[],ds,h,_=>by simp only[Env.kM,cH]at h;subst h;simp[Vs]
 |x::xs,ds,h,hv=>by
  simp only[Env.kM]at h;split at h
  ·rename_i d fg h1 h2;simp only[cH]at h;subst h;simp only[cP,Vs];exact⟨_,_,rfl,hv x c7 d h1,tW xs fg h2 (fun y hy=>hv y (cC _ hy))⟩
  ·cases h
def ah{P:Program}{f:FuncId}{env:Env}{dst:Option Tmp}{ty:TypeId}{pos:String}{ar:Array Edge}{g:Option (Nat×Bool)}{xs:List Operand}{tys:Array TypeId}{ds:List D}{r:D}
  (fA:∀(args:Array Value)(w:World),(callFunc f args).run P w=.ok (.enter f args) w)(hx:env.kM xs=some ds)(hf:Fc P f ds r)(Z:ae):
  aq P ⟨dst,.call ⟨.value (.func f),xs.toArray,tys⟩,ty,pos,ar,g⟩ env Z r Z:=by
 intro O ρ a w ai bY hv;have j7:=tW xs ds hx (fun x hx d' h=>hv x (by simp[Op.operands,Call.operands,hx]) d' h);have eY:(execOp a.eval ⟨dst,.call ⟨.value (.func f),xs.toArray,tys⟩,ty,pos,ar,g⟩).run P w=.ok (.enter f (xs.map a.eval).toArray) w:=by
  have h1:execOp a.eval ⟨dst,.call ⟨.value (.func f),xs.toArray,tys⟩,ty,pos,ar,g⟩=callFunc f (xs.map a.eval).toArray:=by
   simp[execOp,resolve,Deferred.ofValue,Act.eval,invoke,Bind.bind,Sem.bind,Pure.pure]
  rw[h1,fA]
 unfold Oper.wp;rw[eY];simp only[Oper.upon];refine Calls.mono (hf.out w (Ot O ρ Z) ρ _ ?_ bY j7) ?_
 ·rintro b (hb|⟨i,o,l,h1,h2,h3,h4⟩)
  ·exact ai.lt b hb
  ·obtain⟨l',h5,_,h6⟩:=ai.own i o h1 h2;rw[h3]at h5;cases h5;exact h4▸h6.lt h2
 ·rintro e w' ⟨v,rfl,h1,h2⟩;exact⟨ρ,v,rfl,Tr.pz h2 ai,h1⟩
end Go.T
namespace Go.T
open Go
variable[bX]
abbrev aa:=List UInt8
@[reducible] def D.i(n:Int):D:=.raw (.int .i64 n)
@[reducible] def D.b(b:Bool):D:=.raw (.bool b)
def aq.val{P:Program}{o:Oper}{env:Env}{Z:ae}{d:D}
  (h:∀(O:Nat->Prop)(ρ:aA)(a:Act)(w:World),cX w O ρ Z->(∀x∈o.op.operands.toList,∀d',env.op x=some d'->V w (Ot O ρ Z) ρ d' (a.eval x))->∃v,(execOp a.eval o).run P w=.ok (.value v) w/\V w (Ot O ρ Z) ρ d v):aq P o env Z d Z:=by
 intro O ρ a w ai _ hv;obtain⟨v,h1,h2⟩:=h O ρ a w ai hv;unfold Oper.wp;rw[h1];exact⟨ρ,v,rfl,Tr.refl ai,h2⟩
def xF(s:aa):(⟨s.toArray⟩:ByteArray).toList=s:=by
 have key:∀(n i:Nat)(r:List UInt8),s.length-i=n->ByteArray.toList.loop ⟨s.toArray⟩ i r=r.reverse++s.drop i:=by
  intro n;induction n with
  |zero=>
   intro i r h;unfold ByteArray.toList.loop;have:¬i<(⟨s.toArray⟩:ByteArray).size:=by simp[ByteArray.size];omega
   rw[aF this,iP zO];simp
  |succ n ih=>
   intro i r h;unfold ByteArray.toList.loop;have hi:i<s.length:=by omega
   have:i<(⟨s.toArray⟩:ByteArray).size:=by simp[ByteArray.size];omega
   rw[aV this,ih (i+1) _ zO,ju hi];simp[ByteArray.get!,hi]
 unfold ByteArray.toList;rw[key _ 0 [] rfl];simp
def Rb(s t:aa):(s==t)=decide (s=t):=by
 by_cases h:s=t<;>simp[h]
def bW{P:Program}{t:TypeId}{d:TypeDesc}(h:P.underlying t=some d)(w:World):(underlying t).run P w=.ok d w:=by
 simp[underlying,h]
def aaa{P:Program}{t:TypeId}(hu:P.underlying t=some .bool)(a b:Bool)(w:World):(Op.equal t (.bool a) (.bool b)).run P w=.ok (a==b) w:=by
 show(Op.equalIn (9999+1) t (.bool a) (.bool b)).run P w=_;rw[Op.equalIn];simp[bW hu]
section
variable{P:Program} {env:Env} {dst:Option Tmp} {ty:TypeId} {pos:String} {ar:Array Edge} {g:Option (Nat×Bool)}
def aX{x:Operand}{d:D}(hx:env.op x=some d)(Z:ae):aq P ⟨dst,.move x,ty,pos,ar,g⟩ env Z d Z:=
 .val fun _ _ a _ _ hv=>⟨a.eval x,rfl,hv x (by simp[Op.operands]) d hx⟩
def zu{x:Operand}{d:D}(hx:env.op x=some d)(Z:ae):aq P ⟨dst,.assign x,ty,pos,ar,g⟩ env Z d Z:=
 .val fun _ _ a _ _ hv=>⟨a.eval x,rfl,hv x (by simp[Op.operands]) d hx⟩
def aps{x:Operand}(Z:ae):aq P ⟨dst,.move x,ty,pos,ar,g⟩ env Z .any Z:=
 .val fun _ _ a _ _ _=>⟨a.eval x,rfl,by simp[V]⟩
def vI{c x y:Operand}{b:Bool}{d:D}(hc:env.op c=some (.raw (.bool b)))(hb:b=true)(hx:env.op x=some d)(Z:ae):aq P ⟨dst,.pick c x y,ty,pos,ar,g⟩ env Z d Z:=
 .val fun _ _ a w _ hv=>⟨a.eval x,by
  have:=hv c (by simp[Op.operands]) _ hc;simp only[V]at this;simp[execOp,this,hb,asBool],hv x (by simp[Op.operands]) d hx⟩
def zB{c x y:Operand}{b:Bool}{d:D}(hc:env.op c=some (.raw (.bool b)))(hb:b=false)(hx:env.op y=some d)(Z:ae):aq P ⟨dst,.pick c x y,ty,pos,ar,g⟩ env Z d Z:=
 .val fun _ _ a w _ hv=>⟨a.eval y,by
  have:=hv c (by simp[Op.operands]) _ hc;simp only[V]at this;simp[execOp,this,hb,asBool],hv y (by simp[Op.operands]) d hx⟩
def qh{op:BinOp}{t t':TypeId}{x y:Operand}{u v r:Value}(hx:env.op x=some (.raw u))(hy:env.op y=some (.raw v))
  (hr:∀w,(eqGuard op t x y u v).run P w=.ok () w/\(binOp op t u v).run P w=.ok r w)(Z:ae):aq P ⟨dst,.binOp op t x y t',ty,pos,ar,g⟩ env Z (.raw r) Z:=
 .val fun _ _ a w _ hv=>⟨r,by
  have h1:=hv x (by simp[Op.operands]) _ hx;have h2:=hv y (by simp[Op.operands]) _ hy;simp only[V]at h1 h2;have h3:=hr w;simp[execOp,h1,h2,h3.1,h3.2],by simp[V]⟩
def rM(op:BinOp)(t:TypeId)(x y:Operand)(k k':IntKind)(n m:Int)(w:World):(eqGuard op t x y (.int k n) (.int k' m)).run P w=.ok () w:=by
 cases op<;>rfl
def Ux(op:BinOp)(t:TypeId)(x y:Operand)(s s':ByteArray)(w:World):(eqGuard op t x y (.string s) (.string s')).run P w=.ok () w:=by
 cases op<;>rfl
def Uw(op:BinOp)(t:TypeId)(x y:Operand)(b b':Bool)(w:World):(eqGuard op t x y (.bool b) (.bool b')).run P w=.ok () w:=by
 cases op<;>rfl
def bx{t t':TypeId}{x y:Operand}{k:IntKind}{n m r:Int}(hx:env.op x=some (.raw (.int k n)))(hy:env.op y=some (.raw (.int k m)))(h:k.wrap (n+m)=r)(Z:ae):
  aq P ⟨dst,.binOp .add t x y t',ty,pos,ar,g⟩ env Z (.raw (.int k r)) Z:=qh hx hy (fun w=>⟨rM ..,by simp[binOp,Op.intArith,h]⟩) Z
def dx{t t':TypeId}{x y:Operand}{k:IntKind}{n m r:Int}(hx:env.op x=some (.raw (.int k n)))(hy:env.op y=some (.raw (.int k m)))(h:k.wrap (n-m)=r)(Z:ae):
  aq P ⟨dst,.binOp .sub t x y t',ty,pos,ar,g⟩ env Z (.raw (.int k r)) Z:=qh hx hy (fun w=>⟨rM ..,by simp[binOp,Op.intArith,h]⟩) Z
def so{t t':TypeId}{x y:Operand}{k:IntKind}{n m r:Int}(hx:env.op x=some (.raw (.int k n)))(hy:env.op y=some (.raw (.int k m)))(h:k.wrap (n*m)=r)(Z:ae):
  aq P ⟨dst,.binOp .mul t x y t',ty,pos,ar,g⟩ env Z (.raw (.int k r)) Z:=qh hx hy (fun w=>⟨rM ..,by simp[binOp,Op.intArith,h]⟩) Z
def lu{t t':TypeId}{x y:Operand}{k:IntKind}{n m r:Int}(hx:env.op x=some (.raw (.int k n)))(hy:env.op y=some (.raw (.int k m)))(hm:m≠0)(h:k.wrap (n.tdiv m)=r)(Z:ae):
  aq P ⟨dst,.binOp .quo t x y t',ty,pos,ar,g⟩ env Z (.raw (.int k r)) Z:=qh hx hy (fun w=>⟨rM ..,by simp[binOp,Op.intDiv,h,hm]⟩) Z
def lX{t t':TypeId}{x y:Operand}{k:IntKind}{n m r:Int}(hx:env.op x=some (.raw (.int k n)))(hy:env.op y=some (.raw (.int k m)))(hm:m≠0)(h:n.tmod m=r)(Z:ae):
  aq P ⟨dst,.binOp .rem t x y t',ty,pos,ar,g⟩ env Z (.raw (.int k r)) Z:=qh hx hy (fun w=>⟨rM ..,by simp[binOp,Op.intDiv,h,hm]⟩) Z
def bp{t t':TypeId}{x y:Operand}{k:IntKind}{n m:Int}(hx:env.op x=some (.raw (.int k n)))(hy:env.op y=some (.raw (.int k m)))(Z:ae):
  aq P ⟨dst,.binOp .lss t x y t',ty,pos,ar,g⟩ env Z (.raw (.bool (decide (n<m)))) Z:=qh hx hy (fun w=>⟨rM ..,by simp[binOp,Op.intCmp]⟩) Z
def EV{t t':TypeId}{x y:Operand}{k:IntKind}{n m:Int}(hx:env.op x=some (.raw (.int k n)))(hy:env.op y=some (.raw (.int k m)))(Z:ae):
  aq P ⟨dst,.binOp .leq t x y t',ty,pos,ar,g⟩ env Z (.raw (.bool (decide (n<=m)))) Z:=qh hx hy (fun w=>⟨rM ..,by simp[binOp,Op.intCmp]⟩) Z
def gE{t t':TypeId}{x y:Operand}{k:IntKind}{n m:Int}(hx:env.op x=some (.raw (.int k n)))(hy:env.op y=some (.raw (.int k m)))(Z:ae):
  aq P ⟨dst,.binOp .gtr t x y t',ty,pos,ar,g⟩ env Z (.raw (.bool (decide (m<n)))) Z:=qh hx hy (fun w=>⟨rM ..,by simp[binOp,Op.intCmp]⟩) Z
def qi{t t':TypeId}{x y:Operand}{k:IntKind}{n m:Int}(hx:env.op x=some (.raw (.int k n)))(hy:env.op y=some (.raw (.int k m)))(Z:ae):
  aq P ⟨dst,.binOp .geq t x y t',ty,pos,ar,g⟩ env Z (.raw (.bool (decide (m<=n)))) Z:=qh hx hy (fun w=>⟨rM ..,by simp[binOp,Op.intCmp]⟩) Z
def kO{t t':TypeId}{x y:Operand}{k:IntKind}{n m:Int}(hx:env.op x=some (.raw (.int k n)))(hy:env.op y=some (.raw (.int k m)))(Z:ae):
  aq P ⟨dst,.binOp .eql t x y t',ty,pos,ar,g⟩ env Z (.raw (.bool (decide (n=m)))) Z:=qh hx hy (fun w=>⟨rM ..,by simp[binOp,Op.intCmp];rfl⟩) Z
def zy{t t':TypeId}{x y:Operand}{k:IntKind}{n m:Int}(hx:env.op x=some (.raw (.int k n)))(hy:env.op y=some (.raw (.int k m)))(Z:ae):
  aq P ⟨dst,.binOp .neq t x y t',ty,pos,ar,g⟩ env Z (.raw (.bool (decide (n≠m)))) Z:=qh hx hy (fun w=>⟨rM ..,by simp[binOp,Op.intCmp,bne];rfl⟩) Z
def aa.lt(s t:aa):Bool:=Op.bytesLess s t
def B6{op:BinOp}{t t':TypeId}{x y:Operand}{s s':aa}{r:Value}(hx:env.op x=some (.str s))(hy:env.op y=some (.str s'))
  (hr:∀w,(binOp op t (.string ⟨s.toArray⟩) (.string ⟨s'.toArray⟩)).run P w=.ok r w)(Z:ae):aq P ⟨dst,.binOp op t x y t',ty,pos,ar,g⟩ env Z (.raw r) Z:=
 .val fun _ _ a w _ hv=>⟨r,by
  have h1:=hv x (by simp[Op.operands]) _ hx;have h2:=hv y (by simp[Op.operands]) _ hy;simp only[V]at h1 h2;have h3:=hr w;simp[execOp,h1.1,h2.1,Ux,h3],by simp[V]⟩
def Pt{t t':TypeId}{x y:Operand}{s s':aa}(hx:env.op x=some (.str s))(hy:env.op y=some (.str s'))(Z:ae):
  aq P ⟨dst,.binOp .eql t x y t',ty,pos,ar,g⟩ env Z (.raw (.bool (decide (s=s')))) Z:=B6 hx hy (fun w=>by simp[binOp,Op.stringOp,xF,Rb]) Z
def apt{t t':TypeId}{x y:Operand}{s s':aa}(hx:env.op x=some (.str s))(hy:env.op y=some (.str s'))(Z:ae):
  aq P ⟨dst,.binOp .neq t x y t',ty,pos,ar,g⟩ env Z (.raw (.bool (decide (s≠s')))) Z:=B6 hx hy (fun w=>by simp[binOp,Op.stringOp,xF,Rb]) Z
def ZM{t t':TypeId}{x y:Operand}{s s':aa}(hx:env.op x=some (.str s))(hy:env.op y=some (.str s'))(Z:ae):
  aq P ⟨dst,.binOp .lss t x y t',ty,pos,ar,g⟩ env Z (.raw (.bool (aa.lt s s'))) Z:=B6 hx hy (fun w=>by simp[binOp,Op.stringOp,xF,aa.lt]) Z
def bytesLess_eq(s t:aa):(Op.bytesLess s t||s==t)=!Op.bytesLess t s:=by
 induction s generalizing t with
 |nil=>cases t<;>simp[Op.bytesLess]
 |cons a s ih=>
  cases t with
  |nil=>simp[Op.bytesLess]
  |cons b t=>
   have:=ih t;rcases q0 a.toNat b.toNat with h|h|h
   ·have h1:a<b:=sA.2 h;have h2:¬b<a:=fun e=>by have:=sA.1 e;omega
    have h3:¬b=a:=fun e=>by subst e;omega
    simp[Op.bytesLess,h1,h2,h3]
   ·have h1:a=b:=sf.1 h;subst h1;have h2:¬a<a:=fun e=>by have:=sA.1 e;omega
    simpa[Op.bytesLess,h2]using this
   ·have h1:b<a:=sA.2 h;have h2:¬a<b:=fun e=>by have:=sA.1 e;omega
    have h3:¬a=b:=fun e=>by subst e;omega
    simp[Op.bytesLess,h1,h2,h3]
def apj{t t':TypeId}{x y:Operand}{s s':aa}(hx:env.op x=some (.str s))(hy:env.op y=some (.str s'))(Z:ae):
  aq P ⟨dst,.binOp .gtr t x y t',ty,pos,ar,g⟩ env Z (.raw (.bool (aa.lt s' s))) Z:=B6 hx hy (fun w=>by simp[binOp,Op.stringOp,xF,aa.lt,bytesLess_eq]) Z
def ZH{t t':TypeId}{x y:Operand}{s s':aa}(hx:env.op x=some (.str s))(hy:env.op y=some (.str s'))(Z:ae):
  aq P ⟨dst,.binOp .geq t x y t',ty,pos,ar,g⟩ env Z (.raw (.bool (!aa.lt s s'))) Z:=B6 hx hy (fun w=>by simp[binOp,Op.stringOp,xF,aa.lt]) Z
def apl{t t':TypeId}{x y:Operand}{s s':aa}(hx:env.op x=some (.str s))(hy:env.op y=some (.str s'))(Z:ae):
  aq P ⟨dst,.binOp .leq t x y t',ty,pos,ar,g⟩ env Z (.raw (.bool (!aa.lt s' s))) Z:=B6 hx hy (fun w=>by simp[binOp,Op.stringOp,xF,aa.lt,bytesLess_eq]) Z
def B5{t t':TypeId}{x y:Operand}{s s' r:aa}(hx:env.op x=some (.str s))(hy:env.op y=some (.str s'))(hl:s.length+s'.length<=aD)(hr:s++s'=r)(Z:ae):
  aq P ⟨dst,.binOp .add t x y t',ty,pos,ar,g⟩ env Z (.str r) Z:=
 .val fun _ _ a w _ hv=>⟨.string ⟨r.toArray⟩,by
  have g1:=hv x (by simp[Op.operands]) _ hx;have g2:=hv y (by simp[Op.operands]) _ hy;simp only[V]at g1 g2;have h1:¬((((⟨s.toArray⟩:ByteArray).size+(⟨s'.toArray⟩:ByteArray).size:Nat):Int)>IntKind.i64.max):=by
   have:IntKind.i64.max=9223372036854775807:=rfl;unfold aD at hl;rw[this];simp[ByteArray.size];omega
  have h2:(⟨s.toArray⟩:ByteArray)++⟨s'.toArray⟩=⟨r.toArray⟩:=by
   apply ByteArray.ext;rw[ByteArray.data_append,<-hr];simp
  simp only[execOp,g1.1,g2.1,Sem.run_bind,Ux,Result.andThen_ok,binOp,Op.stringOp,aF h1,Sem.run_pure,h2],by
  simp only[V];exact⟨trivial,by rw[<-hr,bl];exact hl⟩⟩
def apf{t t':TypeId}{x y:Operand}{b b':Bool}(hu:P.underlying t=some .bool)(hx:env.op x=some (.raw (.bool b)))(hy:env.op y=some (.raw (.bool b')))(Z:ae):
  aq P ⟨dst,.binOp .eql t x y t',ty,pos,ar,g⟩ env Z (.raw (.bool (b==b'))) Z:=qh hx hy (fun w=>⟨Uw ..,by simp[binOp,aaa hu]⟩) Z
def B_{t t':TypeId}{x y:Operand}{b b':Bool}(hu:P.underlying t=some .bool)(hx:env.op x=some (.raw (.bool b)))(hy:env.op y=some (.raw (.bool b')))(Z:ae):
  aq P ⟨dst,.binOp .neq t x y t',ty,pos,ar,g⟩ env Z (.raw (.bool (b !=b'))) Z:=qh hx hy (fun w=>⟨Uw ..,by simp[binOp,aaa hu,bne]⟩) Z
def PA{t:TypeId}{x:Operand}{b:Bool}(hx:env.op x=some (.raw (.bool b)))(Z:ae):aq P ⟨dst,.unOp .not t x,ty,pos,ar,g⟩ env Z (.raw (.bool (!b))) Z:=
 .val fun _ _ a w _ hv=>⟨.bool (!b),by
  have h1:=hv x (by simp[Op.operands]) _ hx;simp only[V]at h1;simp[execOp,h1,Op.unary],by simp[V]⟩
def I_{t:TypeId}{x:Operand}{k:IntKind}{n r:Int}(hx:env.op x=some (.raw (.int k n)))(h:k.wrap (0-n)=r)(Z:ae):aq P ⟨dst,.unOp .neg t x,ty,pos,ar,g⟩ env Z (.raw (.int k r)) Z:=
 .val fun _ _ a w _ hv=>⟨.int k r,by
  have h1:=hv x (by simp[Op.operands]) _ hx;simp only[V]at h1;simp[execOp,h1,Op.unary,Op.intArith]at h|-;rw[h],by simp[V]⟩
def B7{s t:TypeId}{x:Operand}{k k':IntKind}{n r:Int}{u:TypeDesc}(hs:P.underlying s=some u)(ht:P.underlying t=some (.int k'))(hx:env.op x=some (.raw (.int k n)))(h:k'.wrap n=r)(Z:ae):
  aq P ⟨dst,.convert s t x,ty,pos,ar,g⟩ env Z (.raw (.int k' r)) Z:=
 .val fun _ _ a w _ hv=>⟨.int k' r,by
  have h1:=hv x (by simp[Op.operands]) _ hx;simp only[V]at h1;simp[execOp,h1,convert,bW hs,bW ht,Conv.intToInt,h],by simp[V]⟩
def apc{s t:TypeId}{x:Operand}{b:aa}{u:TypeDesc}(hs:P.underlying s=some u)(ht:P.underlying t=some .string)(hx:env.op x=some (.str b))(Z:ae):
  aq P ⟨dst,.convert s t x,ty,pos,ar,g⟩ env Z (.str b) Z:=
 .val fun _ _ a w _ hv=>⟨.string ⟨b.toArray⟩,by
  have h1:=hv x (by simp[Op.operands]) _ hx;simp only[V]at h1;simp[execOp,h1.1,convert,bW hs,bW ht],by
  have h1:=hv x (by simp[Op.operands]) _ hx;simp only[V]at h1|-;exact⟨trivial,h1.2⟩⟩
def eP{x:Operand}{i:Nat}{ds:List D}{d:D}(hx:env.op x=some (.a_ ds))(hd:ds[i]?=some d)(Z:ae):aq P ⟨dst,.extract x i,ty,pos,ar,g⟩ env Z d Z:=
 .val fun _ _ a w _ hv=>by
  have h1:=hv x (by simp[Op.operands]) _ hx;simp only[V]at h1;obtain⟨vs,e,h2⟩:=h1;obtain⟨v,h3,h4⟩:=h2.get i d hd;have h5:vs[i]?=some v:=by simpa using h3
  exact⟨v,by simp[execOp,e,Instr.extract,h5],h4⟩
def Py{fn:Go.Fn}{xs ys:List Operand}{as bs:List D}(hx:env.kM xs=some as)(hy:env.kM ys=some bs)(Z:ae):aq P ⟨dst,.makeFunc fn xs.toArray ys.toArray,ty,pos,ar,g⟩ env Z (.fn fn as bs) Z:=
 .val fun _ _ a w _ hv=>by
  have h1:=tW (a:=a) xs as hx (fun x hx d' h=>hv x (by simp[Op.operands,hx]) d' h);have h2:=tW (a:=a) ys bs hy (fun x hx d' h=>hv x (by simp[Op.operands,hx]) d' h);exact⟨.func fn (xs.map a.eval).toArray (ys.map a.eval).toArray,by simp[execOp,Instr.makeFunc],_,_,rfl,h1,h2⟩
def apw{x:Operand}{f:FuncId}{as bs:List D}(hx:env.op x=some (.fn (.func f) as bs))(Z:ae):aq P ⟨dst,.nilCheck x,ty,pos,ar,g⟩ env Z (.fn (.func f) as bs) Z:=
 .val fun _ _ a w _ hv=>by
  have h1:=hv x (by simp[Op.operands]) _ hx;have mJ:=h1;simp only[V]at h1;obtain⟨us,vs,e,_⟩:=h1;exact⟨a.eval x,by simp[execOp,e],mJ⟩
def zz{x:Operand}{i o:Nat}(hx:env.op x=some (.box i o))(Z:ae):aq P ⟨dst,.nilCheck x,ty,pos,ar,g⟩ env Z (.box i o) Z:=
 .val fun _ _ a w _ hv=>by
  have h1:=hv x (by simp[Op.operands]) _ hx;have mJ:=h1;simp only[V]at h1;obtain⟨l,_,e⟩:=h1;exact⟨a.eval x,by simp[execOp,e],mJ⟩
def apx{x:Operand}{cs:List D}(hx:env.op x=some (.bj cs))(Z:ae):aq P ⟨dst,.nilCheck x,ty,pos,ar,g⟩ env Z (.bj cs) Z:=
 .val fun _ _ a w _ hv=>by
  have h1:=hv x (by simp[Op.operands]) _ hx;have mJ:=h1;simp only[V]at h1;obtain⟨b,off,e,_⟩:=h1;exact⟨a.eval x,by simp[execOp,e],mJ⟩
def gG{t:TypeId}{x:Operand}{s:aa}(hu:P.underlying t=some .string)(hx:env.op x=some (.str s))(Z:ae):aq P ⟨dst,.call ⟨.builtin .len,#[x],#[t]⟩,ty,pos,ar,g⟩ env Z (.raw (.int .i64 s.length)) Z:=
 .val fun _ _ a w _ hv=>⟨.int .i64 s.length,by
  have h1:=hv x (by simp[Op.operands,Call.operands]) _ hx;simp only[V]at h1;have bb:(⟨s.toArray⟩:ByteArray).size=s.length:=by simp[ByteArray.size]
  simp[execOp,resolve,invoke,builtin,Builtin.len_,h1.1,bW hu,goInt,bb],by simp[V]⟩
def nZ{t:TypeId}{x i:Operand}{s:aa}{k:IntKind}{n:Int}{c:UInt8}(hu:P.underlying t=some .string)(hx:env.op x=some (.str s))(hi:env.op i=some (.raw (.int k n)))(h0:0<=n)(hc:s[n.toNat]?=some c)(Z:ae):
  aq P ⟨dst,.index t x i,ty,pos,ar,g⟩ env Z (.raw (.int .u8 c.toNat)) Z:=
 .val fun _ _ a w _ hv=>⟨.int .u8 c.toNat,by
  have h1:=hv x (by simp[Op.operands]) _ hx;have h2:=hv i (by simp[Op.operands]) _ hi;simp only[V]at h1 h2;have h3:(⟨s.toArray⟩:ByteArray)[n.toNat]?=some c:=by
   obtain⟨hl,he⟩:=cI.1 hc;have:n.toNat<(⟨s.toArray⟩:ByteArray).size:=by simpa[ByteArray.size]using hl
   rw[getElem?_pos (⟨s.toArray⟩:ByteArray) n.toNat this]
   congr 1
  simp[execOp,Instr.index,h1.1,h2,asIntOf,bW hu,h0,h3],by simp[V]⟩
def agR(s:aa)(l h:Nat):(⟨s.toArray⟩:ByteArray).extract l h=⟨((s.drop l).take (h-l)).toArray⟩:=by
 apply ByteArray.ext;rw[ByteArray.data_extract];simp[List.extract_toArray]
def Fa(k:IntKind)(n y:Nat)(code:BoundsCode)(h:n<=y)(w:World):(Instr.sliceBound (.int k n) y code).run P w=.ok n w:=by
 simp[Instr.sliceBound,asIntOf,h]
def oU{t:TypeId}{x:Operand}{lo hi:Option Operand}{s r:aa}{l h:Nat}(hu:P.underlying t=some .string)(hx:env.op x=some (.str s))
  (hl:(lo=none/\l=0)\/∃y k,lo=some y/\env.op y=some (.raw (.int k (l:Int))))(hh:(hi=none/\h=s.length)\/∃y k,hi=some y/\env.op y=some (.raw (.int k (h:Int))))
  (M3:l<=h)(Vb:h<=s.length)(hr:(s.drop l).take (h-l)=r)(Z:ae):
  aq P ⟨dst,.slice t x lo hi none,ty,pos,ar,g⟩ env Z (.str r) Z:=
 .val fun _ _ a w _ hv=>⟨.string ⟨r.toArray⟩,by
  have h1:=hv x (by simp[Op.operands]) _ hx;simp only[V]at h1;have e1:lo.map a.eval=none/\l=0\/∃k,lo.map a.eval=some (.int k l):=by
   rcases hl with⟨rfl,e⟩|⟨y,k,rfl,e⟩
   ·exact .inl ⟨rfl,e⟩
   ·have h2:=hv y (by simp[Op.operands]) _ e;simp only[V]at h2;exact .inr ⟨k,by simp[h2]⟩
  have e2:hi.map a.eval=none/\h=s.length\/∃k,hi.map a.eval=some (.int k h):=by
   rcases hh with⟨rfl,e⟩|⟨y,k,rfl,e⟩
   ·exact .inl ⟨rfl,e⟩
   ·have h2:=hv y (by simp[Op.operands]) _ e;simp only[V]at h2;exact .inr ⟨k,by simp[h2]⟩
  have bb:(⟨s.toArray⟩:ByteArray).size=s.length:=by simp[ByteArray.size]
  have wS:=agR s l h;rw[hr]at wS;have hb:(Instr.sliceBounds false s.length s.length (lo.map a.eval) (hi.map a.eval) none).run P w=.ok (l,h,s.length) w:=by
   rcases e1 with⟨e1,rfl⟩|⟨k1,e1⟩<;>rcases e2 with⟨e2,rfl⟩|⟨k2,e2⟩<;>
    simp[Instr.sliceBounds,e1,e2,Fa,Vb,M3]
  simp[execOp,Instr.sliceAt,Instr.slice,bW hu,h1.1,bb,hb,wS],by
  have h1:=hv x (by simp[Op.operands]) _ hx;simp only[V]at h1|-;exact⟨trivial,by rw[<-hr];simp;omega⟩⟩
def addr_add(b off n:Nat):(⟨b,off,none⟩:Addr).add n=⟨b,off+n,none⟩:=by
 unfold Addr.add;split<;>simp_all
theorem Vc.get{w:World}{O:Nat->Prop}{b:Nat}:∀(ds:List D)(off:Nat),Vc w O b off ds->∀(i:Nat)(d:D),ds[i]?=some d->∃v,w.cell? ⟨b,off+i,none⟩=some v/\V w O dZ d v
 |[],off,h,i,d,e=>by simp at e
 |d::ds,off,h,i,d',e=>by
  simp only[Vc]at h;obtain⟨⟨u,h1,h2⟩,h3⟩:=h;cases i with
  |zero=>simp only[jH,cH]at e;subst e;exact⟨u,h1.1,h2⟩
  |succ i=>
   obtain⟨v,h4,h5⟩:=Vc.get ds (off+1) h3 i d' (by simpa using e);exact⟨v,by rw[show off+(i+1)=off+1+i by omega];exact h4,h5⟩
theorem Vc.drop{w:World}{O:Nat->Prop}{b:Nat}:∀(n:Nat)(ds:List D)(off:Nat),Vc w O b off ds->Vc w O b (off+n) (ds.drop n)
 |0,ds,off,h=>by simpa using h
 |n+1,[],off,h=>by simp[Vc]
 |n+1,d::ds,off,h=>by
  simp only[Vc]at h;have:=Vc.drop n ds (off+1) h.2;rw[show off+(n+1)=off+1+n by omega];simpa using this
theorem Vc.take{w:World}{O:Nat->Prop}{b:Nat}:∀(n:Nat)(ds:List D)(off:Nat),Vc w O b off ds->Vc w O b off (ds.take n)
 |0,ds,off,h=>by simp[Vc]
 |n+1,[],off,h=>by simp[Vc]
 |n+1,d::ds,off,h=>by
  simp only[Vc,lW]at h|-;exact⟨h.1,Vc.take n ds (off+1) h.2⟩
theorem Vr.get{w:World}{O:Nat->Prop}{b sz:Nat}:∀(rs:List (List D))(off:Nat),Vr w O b off sz rs->∀(i:Nat)(r:List D),rs[i]?=some r->r.length=sz/\Vc w O b (off+i*sz) r
 |[],off,h,i,r,e=>by simp at e
 |r::rs,off,h,i,r',e=>by
  simp only[Vr]at h;cases i with
  |zero=>simp only[jH,cH]at e;subst e;simpa using h.1
  |succ i=>
   have:=Vr.get rs (off+sz) h.2 i r' (by simpa using e);rw[show off+(i+1)*sz=off+sz+i*sz by rw[dO];omega];exact this
theorem Vr.drop{w:World}{O:Nat->Prop}{b sz:Nat}:∀(n:Nat)(rs:List (List D))(off:Nat),Vr w O b off sz rs->Vr w O b (off+n*sz) sz (rs.drop n)
 |0,rs,off,h=>by simpa using h
 |n+1,[],off,h=>by simp[Vr]
 |n+1,r::rs,off,h=>by
  simp only[Vr]at h;have:=Vr.drop n rs (off+sz) h.2;rw[show off+(n+1)*sz=off+sz+n*sz by rw[dO];omega];simpa using this
theorem Vr.take{w:World}{O:Nat->Prop}{b sz:Nat}:∀(n:Nat)(rs:List (List D))(off:Nat),Vr w O b off sz rs->Vr w O b off sz (rs.take n)
 |0,rs,off,h=>by simp[Vr]
 |n+1,[],off,h=>by simp[Vr]
 |n+1,r::rs,off,h=>by
  simp only[Vr,lW]at h|-;exact⟨h.1,Vr.take n rs (off+sz) h.2⟩
def run_loadCells{w:World}{O:Nat->Prop}{b:Nat}(ds:List D):∀(off i:Nat)(acc:Array Value),Vc w O b (off+i) ds->
  ∃us,(∀w',w'.heap=w.heap->(loadCellsFrom ⟨b,off,none⟩ i ds.length acc).run P w'=.ok (acc++us.toArray) w')/\Vs w O dZ ds us/\∀u∈us,u.oneCell'=true:=by
 induction ds with
 |nil=>intro off i acc _;exact⟨[],by simp[loadCellsFrom],by simp[Vs],by simp⟩
 |cons d ds ih=>
  intro off i acc h;simp only[Vc]at h;obtain⟨⟨u,h1,h2⟩,h3⟩:=h;obtain⟨us,h4,h5,h6⟩:=ih off (i+1) (acc.push u) (by rw[show off+(i+1)=off+i+1 by omega];exact h3);refine⟨u::us,?_,?_,?_⟩
  ·intro w' he;have h7:w'.cell? ⟨b,off+i,none⟩=some u:=by rw[<-h1.1];simp[World.cell?,he]
   simp only[bD,loadCellsFrom,addr_add,Sem.run_bind,run_load,h7,Result.andThen_ok,h4 w' he];simp
  ·simp only[Vs];exact⟨u,us,rfl,h2,h5⟩
  ·intro v hv;cases hv with
   |head=>exact h1.2
   |tail _ hm=>exact h6 v hm
def Ck(ρ:aA):bN dZ ρ:=fun _ _ h=>by simp[dZ]at h
def V.E4{w:World}{O:Nat->Prop}{ρ:aA}{d:D}{v:Value}(h:V w O dZ d v):V w O ρ d v:=V.mono (Kept.refl _ _) (Ck ρ) d v h
def Vs.E4{w:World}{O:Nat->Prop}{ρ:aA}{ds:List D}{vs:List Value}(h:Vs w O dZ ds vs):Vs w O ρ ds vs:=Vs.mono (Kept.refl _ _) (Ck ρ) ds vs h
def bE{t:TypeId}{x:Operand}{d:D}{cs:List D}(ht:∀w,(isAgg t).run P w=.ok false w)(hx:env.op x=some (.bj (d::cs)))(Z:ae):aq P ⟨dst,.load t x,ty,pos,ar,g⟩ env Z d Z:=
 .val fun _ _ a w _ hv=>by
  have h1:=hv x (by simp[Op.operands]) _ hx;simp only[V]at h1;obtain⟨b,off,e,_,h2⟩:=h1;simp only[Vc]at h2;obtain⟨⟨u,h3,h4⟩,_⟩:=h2;exact⟨u,by simp[execOp,Instr.loadAt,e,Instr.sureAddr,loadVar,ht,h3.1],h4.E4⟩
def vH{t:TypeId}{x:Operand}{cs:List D}{n:Nat}(ht:∀w,(isAgg t).run P w=.ok true w)(hs:∀w,(sizeOf t).run P w=.ok n w)(hx:env.op x=some (.bj cs))(hn:cs.length=n)(Z:ae):aq P ⟨dst,.load t x,ty,pos,ar,g⟩ env Z (.agg cs) Z:=
 .val fun _ _ a w _ hv=>by
  have h1:=hv x (by simp[Op.operands]) _ hx;simp only[V]at h1;obtain⟨b,off,e,_,h2⟩:=h1;obtain⟨us,h3,h4,_⟩:=run_loadCells (P:=P) cs off 0 #[] (by simpa using h2);refine⟨.agg us.toArray,?_,?_⟩
  ·rw[hn]at h3;simp[execOp,Instr.loadAt,e,Instr.sureAddr,loadVar,ht,hs,loadCells,h3 w rfl]
  ·simp only[V];exact⟨_,rfl,by simpa using h4.E4⟩
def apm{t:TypeId}{x:Operand}{cs ds:List D}{n:Nat}(ht:∀w,(isAgg t).run P w=.ok true w)(hs:∀w,(sizeOf t).run P w=.ok n w)(hx:env.op x=some (.bj cs))(hn:n<=cs.length)(hd:cs.take n=ds)(Z:ae):aq P ⟨dst,.load t x,ty,pos,ar,g⟩ env Z (.agg ds) Z:=
 .val fun _ _ a w _ hv=>by
  have h1:=hv x (by simp[Op.operands]) _ hx;simp only[V]at h1;obtain⟨b,off,e,_,h2⟩:=h1;have Di:=h2.take n;rw[hd]at Di;have th:ds.length=n:=by rw[<-hd];simp;omega
  obtain⟨us,h3,h4,_⟩:=run_loadCells (P:=P) ds off 0 #[] (by simpa using Di);refine⟨.agg us.toArray,?_,?_⟩
  ·rw[th]at h3;simp[execOp,Instr.loadAt,e,Instr.sureAddr,loadVar,ht,hs,loadCells,h3 w rfl]
  ·simp only[V];exact⟨_,rfl,by simpa using h4.E4⟩
def lr{t:TypeId}{x:Operand}{f n:Nat}{fs:Array Field}{cs ds:List D}(ft:TypeId)(fo:Nat)(hu:P.underlying t=some (.struct fs))(hs:∀w,(sizeOf ft).run P w=.ok (n+1) w)(hf:(fs[f]?).map (fun x=>(x.type,x.offset))=some (ft,fo))(hx:env.op x=some (.bj cs))(hd:cs.drop fo=ds)(Z:ae):
  aq P ⟨dst,.fieldAddr t x f,ty,pos,ar,g⟩ env Z (.bj ds) Z:=
 .val fun _ _ a w _ hv=>by
  have h1:=hv x (by simp[Op.operands]) _ hx;simp only[V]at h1;obtain⟨b,off,e,ho,h2⟩:=h1;obtain⟨fl,jd,yy⟩:=gx.1 hf;cases yy;refine⟨.pointer (some ⟨b,off+fl.offset,none⟩),?_,?_⟩
  ·simp[execOp,Instr.fieldAt,e,bW hu,jd,Instr.sureAddr,fieldPlace,hs,addr_add]
  ·simp only[V];exact⟨b,_,rfl,ho,hd▸h2.drop fl.offset⟩
def eC{t e:TypeId}{x i:Operand}{k:IntKind}{n:Int}{sz:Nat}{fP:Bool}{rows:List (List D)}{r:List D}(hu:P.underlying t=some (.slice e))(hs:∀w,(sizeOf e).run P w=.ok sz w)(hx:env.op x=some (.snap sz fP rows))(hi:env.op i=some (.raw (.int k n)))(h0:0<=n)(hr:rows[n.toNat]?=some r)(Z:ae):
  aq P ⟨dst,.indexAddr t x i,ty,pos,ar,g⟩ env Z (.bj r) Z:=
 .val fun _ _ a w _ hv=>by
  have h1:=hv x (by simp[Op.operands]) _ hx;have h2:=hv i (by simp[Op.operands]) _ hi;simp only[V]at h1 h2;obtain⟨ad,cap,e1,h3,h4,h5⟩:=h1;have hl:n.toNat<rows.length:=(cI.1 hr).1;obtain⟨b,off,rfl,ho,h6⟩:=h5 (by intro h;simp[h]at hl);have h7:=(Vr.get rows off h6 n.toNat r hr).2;refine⟨.pointer (some ⟨b,off+n.toNat*sz,none⟩),?_,?_⟩
  ·have h8:n<(rows.length:Int):=by omega
   simp[execOp,Instr.indexAt,e1,h2,asIntOf,bW hu,h0,h8,hs,addr_add]
  ·simp only[V];exact⟨b,_,rfl,ho,h7⟩
def cv{t e:TypeId}{x:Operand}{sz:Nat}{fP:Bool}{rows:List (List D)}(hu:P.underlying t=some (.slice e))(hx:env.op x=some (.snap sz fP rows))(Z:ae):aq P ⟨dst,.call ⟨.builtin .len,#[x],#[t]⟩,ty,pos,ar,g⟩ env Z (.raw (.int .i64 rows.length)) Z:=
 .val fun _ _ a w _ hv=>⟨.int .i64 rows.length,by
  have h1:=hv x (by simp[Op.operands,Call.operands]) _ hx;simp only[V]at h1;obtain⟨ad,cap,e1,_⟩:=h1;simp[execOp,resolve,invoke,builtin,Builtin.len_,e1,bW hu,goInt],by simp[V]⟩
def vG{t e:TypeId}{x:Operand}{id n:Nat}(hu:P.underlying t=some (.slice e))(hx:env.op x=some (.gs id n))(Z:ae):aq P ⟨dst,.call ⟨.builtin .len,#[x],#[t]⟩,ty,pos,ar,g⟩ env Z (.raw (.int .i64 n)) Z:=
 .val fun _ _ a w _ hv=>⟨.int .i64 n,by
  have h1:=hv x (by simp[Op.operands,Call.operands]) _ hx;simp only[V]at h1;have:∃ad cap,a.eval x=.slice ad n cap:=by
   rcases h1 with⟨rfl,ad,e1⟩|⟨_,l,_,e1⟩
   ·exact⟨_,_,e1⟩
   ·exact⟨_,_,e1⟩
  obtain⟨ad,cap,e1⟩:=this;simp[execOp,resolve,invoke,builtin,Builtin.len_,e1,bW hu,goInt],by simp[V]⟩
def Pw{t e:TypeId}{x:Operand}{ad:Option Addr}{n c:Nat}(hu:P.underlying t=some (.slice e))(hx:env.op x=some (.raw (.slice ad n c)))(Z:ae):aq P ⟨dst,.call ⟨.builtin .len,#[x],#[t]⟩,ty,pos,ar,g⟩ env Z (.raw (.int .i64 n)) Z:=
 .val fun _ _ a w _ hv=>⟨.int .i64 n,by
  have h1:=hv x (by simp[Op.operands,Call.operands]) _ hx;simp only[V]at h1;simp[execOp,resolve,invoke,builtin,Builtin.len_,h1,bW hu,goInt],by simp[V]⟩
def pC{t e:TypeId}{x:Operand}{lo hi:Option Operand}{sz l h:Nat}{fP:Bool}{rows r:List (List D)}(hu:P.underlying t=some (.slice e))(hs:∀w,(sizeOf e).run P w=.ok sz w)(hx:env.op x=some (.snap sz fP rows))
  (hl:(lo=none/\l=0)\/∃y k,lo=some y/\env.op y=some (.raw (.int k (l:Int))))(hh:(hi=none/\h=rows.length)\/∃y k,hi=some y/\env.op y=some (.raw (.int k (h:Int))))
  (M3:l<=h)(Vb:h<=rows.length)(hr:(rows.drop l).take (h-l)=r)(Z:ae):
  aq P ⟨dst,.slice t x lo hi none,ty,pos,ar,g⟩ env Z (.snap sz false r) Z:=
 .val fun _ _ a w _ hv=>by
  have h1:=hv x (by simp[Op.operands]) _ hx;simp only[V]at h1;obtain⟨ad,cap,e1,h3,h4,h5⟩:=h1;have Gv:lo.map a.eval=none/\l=0\/∃k,lo.map a.eval=some (.int k l):=by
   rcases hl with⟨rfl,e⟩|⟨y,k,rfl,e⟩
   ·exact .inl ⟨rfl,e⟩
   ·have h2:=hv y (by simp[Op.operands]) _ e;simp only[V]at h2;exact .inr ⟨k,by simp[h2]⟩
  have e2:hi.map a.eval=none/\h=rows.length\/∃k,hi.map a.eval=some (.int k h):=by
   rcases hh with⟨rfl,e⟩|⟨y,k,rfl,e⟩
   ·exact .inl ⟨rfl,e⟩
   ·have h2:=hv y (by simp[Op.operands]) _ e;simp only[V]at h2;exact .inr ⟨k,by simp[h2]⟩
  have cR:h<=cap:=by omega
  have MB:=h3.2;have hb:(Instr.sliceBounds true rows.length cap (lo.map a.eval) (hi.map a.eval) none).run P w=.ok (l,h,cap) w:=by
   rcases Gv with⟨Gv,rfl⟩|⟨k1,Gv⟩<;>rcases e2 with⟨e2,rfl⟩|⟨k2,e2⟩<;>
    simp[Instr.sliceBounds,Gv,e2,Fa,cR,M3]
  have fQ:r.length=h-l:=by rw[<-hr];simp;omega
  refine⟨.slice (if cap=l then ad else ad.map (·.add (l*sz))) (h-l) (cap-l),?_,?_⟩
  ·simp[execOp,Instr.sliceAt,Instr.slice,bW hu,e1,hb,hs]
  ·simp only[V];refine⟨_,_,by rw[fQ],⟨by omega,by omega⟩,by simp,fun aC=>?_⟩;have ajD:rows≠[]:=by
    intro e;subst e;apply aC;rw[<-hr];simp
   obtain⟨b,off,rfl,ho,h6⟩:=h5 ajD;have wO:¬cap=l:=by
    intro e;apply aC;have:r.length=0:=by omega
    exact cc.1 this
   refine⟨b,off+l*sz,by simp[wO,addr_add],ho,?_⟩;rw[<-hr];exact(h6.drop l).take (h-l)
def Pv{t:TypeId}{x:Operand}{f:Nat}{fs:Array Field}{cs:List D}{d:D}(ft:TypeId)(fo:Nat)(hu:P.underlying t=some (.struct fs))(ht:∀w,(isAgg ft).run P w=.ok false w)(hf:(fs[f]?).map (fun x=>(x.type,x.offset))=some (ft,fo))(hx:env.op x=some (.agg cs))(hd:cs[fo]?=some d)(Z:ae):
  aq P ⟨dst,.field t x f,ty,pos,ar,g⟩ env Z d Z:=
 .val fun _ _ a w _ hv=>by
  have h1:=hv x (by simp[Op.operands]) _ hx;simp only[V]at h1;obtain⟨vs,e,h2⟩:=h1;obtain⟨fl,jd,yy⟩:=gx.1 hf;cases yy;obtain⟨v,h3,h4⟩:=h2.get _ _ hd;have h5:vs[fl.offset]?=some v:=by simpa using h3
  exact⟨v,by simp[execOp,Instr.field,bW hu,jd,asAgg,e,part,ht,h5],h4⟩
def api{t:TypeId}{x:Operand}{f n:Nat}{fs:Array Field}{cs ds:List D}(ft:TypeId)(fo:Nat)(hu:P.underlying t=some (.struct fs))(ht:∀w,(isAgg ft).run P w=.ok true w)(hs:∀w,(sizeOf ft).run P w=.ok n w)(hf:(fs[f]?).map (fun x=>(x.type,x.offset))=some (ft,fo))(hx:env.op x=some (.agg cs))(hn:fo+n<=cs.length)(hd:(cs.drop fo).take n=ds)(Z:ae):
  aq P ⟨dst,.field t x f,ty,pos,ar,g⟩ env Z (.agg ds) Z:=
 .val fun O ρ a w _ hv=>by
  have h1:=hv x (by simp[Op.operands]) _ hx;simp only[V]at h1;obtain⟨vs,e,h2⟩:=h1;obtain⟨fl,jd,yy⟩:=gx.1 hf;cases yy;refine⟨.agg (vs.extract fl.offset (fl.offset+n)),?_,?_⟩
  ·simp[execOp,Instr.field,bW hu,jd,asAgg,e,part,ht,hs]
  ·simp only[V];refine⟨_,rfl,?_⟩;rw[Array.toList_extract,List.extract_eq_take_drop,<-hd,Nat.add_sub_cancel_left];exact tk n (dr fl.offset h2)
where
 dr {w:World} {O:Nat->Prop} {ρ:aA}:∀(n:Nat){ds:List D}{vs:List Value},Vs w O ρ ds vs->Vs w O ρ (ds.drop n) (vs.drop n)
  |0,ds,vs,h=>by simpa using h
  |n+1,[],vs,h=>by simp only[Vs]at h;subst h;simp[Vs]
  |n+1,d::ds,vs,h=>by
   simp only[Vs]at h;obtain⟨u,us,rfl,h1,h2⟩:=h;simpa using dr n h2
 tk {w:World} {O:Nat->Prop} {ρ:aA}:∀(n:Nat){ds:List D}{vs:List Value},Vs w O ρ ds vs->Vs w O ρ (ds.take n) (vs.take n)
  |0,ds,vs,h=>by simp[Vs]
  |n+1,[],vs,h=>by simp only[Vs]at h;subst h;simp[Vs]
  |n+1,d::ds,vs,h=>by
   simp only[Vs]at h;obtain⟨u,us,rfl,h1,h2⟩:=h;simp only[lW,Vs];exact⟨u,us.take n,rfl,h1,tk n h2⟩
end
end Go.T
namespace Go.T
open Go
variable[bX]
def cn(ρ:aA)(i:Nat)(l:Loc):aA:=fun j=>if j=i then some l else ρ j
def kn(ρ:aA)(i:Nat)(l:Loc):cn ρ i l i=some l:=by simp[cn]
def qp{ρ:aA}{i j:Nat}{l:Loc}(h:j≠i):cn ρ i l j=ρ j:=by simp[cn,h]
def xI{ρ:aA}{i:Nat}(l:Loc)(h:ρ i=none):bN ρ (cn ρ i l):=by
 intro j x hj;by_cases e:j=i
 ·subst e;rw[h]at hj;cases hj
 ·rw[qp e];exact hj
def cX.block{w:World}{O:Nat->Prop}{ρ:aA}{Z:ae}(h:cX w O ρ Z){b:Nat}(hb:cj ρ Z b):b<w.heap.size/\¬O b:=by
 obtain⟨i,o,l,h1,h2,h3,h4⟩:=hb;obtain⟨l',h5,h6,h7⟩:=h.own i o h1 h2;rw[h3]at h5;cases h5;exact h4▸⟨h7.lt h2,h6⟩
def Tr.born{O:Nat->Prop}{w:World}{ρ:aA}{Z dG:ae}{id:Nat}{o:Ob}{l:Loc}(ai:cX w O ρ Z)(hid:Z.get id=none)(cp:Obj)(hl:l.b=w.heap.size)
  (eZ:∀i x,dG.get i=some x->x.live=true->Z.get i=some x)(ai8:∀i,dG.get i=none->Z.get i=none)
  (lS:Kept w (Ot O ρ Z) {w with heap:=w.heap.push cp} (Ot O (cn ρ id l) ((id,o)::dG))->ig {w with heap:=w.heap.push cp} (Ot O (cn ρ id l) ((id,o)::dG)) (cn ρ id l) l o):
  Tr O w ρ Z {w with heap:=w.heap.push cp} (cn ρ id l) ((id,o)::dG):=by
 have nQ:ρ id=none:=ai.fresh id hid;have qR:∀b,b<w.heap.size->(w.heap.push cp)[b]?=w.heap[b]?:=by
  intro b hb;rw[pS];rw[aF zO]
 have yH:∀b,cj (cn ρ id l) ((id,o)::dG) b->cj ρ Z b\/b=w.heap.size:=by
  rintro b ⟨i,x,l',h1,h2,h3,h4⟩;rw[ae.bm]at h1;by_cases e:id=i
  ·subst e;rw[kn]at h3;cases h3;exact .inr (h4.symm.trans hl)
  ·rw[aF e]at h1;rw[qp (qc e)]at h3;exact .inl ⟨i,x,l',eZ i x h1 h2,h2,h3,h4⟩
 have yC:Kept w (Ot O ρ Z) {w with heap:=w.heap.push cp} (Ot O (cn ρ id l) ((id,o)::dG)):=by
  refine⟨by simp,fun b hb ho=>⟨fun _ _ _=>qR b hb,?_⟩⟩;rintro(g|g)
  ·exact ho (.inl g)
  ·rcases yH b g with g|g
   ·exact ho (.inr g)
   ·omega
 refine⟨xI l nQ,by simp,fun b hb _=>qR b hb,fun b hb=>?_,⟨fun b hb=>by have:=ai.lt b hb;simp;omega,?_,?_,?_⟩,rfl,rfl,iE.eq rfl rfl⟩
 ·rcases yH b hb with g|g
  ·exact .inl g
  ·exact .inr (G7 g.symm)
 ·intro i hi;rw[ae.bm]at hi;by_cases e:id=i
  ·simp[e]at hi
  ·rw[aF e]at hi;rw[qp (qc e)];exact ai.fresh i (ai8 i hi)
 ·intro i x h1 h2;rw[ae.bm]at h1;by_cases e:id=i
  ·subst e;simp only[mX,cH]at h1;subst h1;refine⟨l,kn ..,fun hb=>?_,lS yC⟩;have:=ai.lt _ hb;omega
  ·rw[aF e]at h1;obtain⟨l',h3,h4,h5⟩:=ai.own i x (eZ i x h1 h2) h2;exact⟨l',by rw[qp (qc e)];exact h3,h4,h5.mono yC (xI l nQ) (qR _ (h5.lt h2))⟩
 ·intro i j x x' l1 l2 h1 h2 h3 h4 h5 h6 h7;rw[ae.bm]at h1 h2;have oK:∀i x l',dG.get i=some x->x.live=true->ρ i=some l'->l'.b<w.heap.size:=by
   intro i x l' a b c;exact(ai.block ⟨i,x,l',eZ i x a b,b,c,rfl⟩).1
  by_cases e1:id=i<;>by_cases e2:id=j
  ·omega
  ·exfalso;rw[aF e2]at h2;rw[qp (qc e2)]at h6;have:=oK j x' l2 h2 h4 h6;subst e1;rw[kn]at h5;cases h5;omega
  ·exfalso;rw[aF e1]at h1;rw[qp (qc e1)]at h5;have:=oK i x l1 h1 h3 h5;subst e2;rw[kn]at h6;cases h6;omega
  ·rw[aF e1]at h1;rw[aF e2]at h2;rw[qp (qc e1)]at h5;rw[qp (qc e2)]at h6;exact ai.inj i j x x' l1 l2 (eZ i x h1 h3) (eZ j x' h2 h4) h3 h4 h5 h6 h7
def Tr.cn{O:Nat->Prop}{w:World}{ρ:aA}{Z:ae}{id:Nat}{o o':Ob}{l:Loc}(ai:cX w O ρ Z)(fC:Z.get id=some o)(eS:o.live=true)(nQ:ρ id=some l)(cp:Obj)
  (lS:Kept w (Ot O ρ Z) {w with heap:=w.heap.setIfInBounds l.b cp} (Ot O ρ (Z.set id o'))->ig {w with heap:=w.heap.setIfInBounds l.b cp} (Ot O ρ (Z.set id o')) ρ l o'):
  Tr O w ρ Z {w with heap:=w.heap.setIfInBounds l.b cp} ρ (Z.set id o'):=by
 have mL:∀b,cj ρ (Z.set id o') b->cj ρ Z b:=by
  rintro b ⟨i,x,l',h1,h2,h3,h4⟩;rw[ae.ej]at h1;by_cases e:id=i
  ·subst e;exact⟨id,o,l',fC,eS,h3,h4⟩
  ·rw[aF e]at h1;exact⟨i,x,l',h1,h2,h3,h4⟩
 have nO:cj ρ Z l.b:=⟨id,o,l,fC,eS,nQ,rfl⟩;have qR:∀b,b≠l.b->(w.heap.setIfInBounds l.b cp)[b]?=w.heap[b]?:=by
  intro b hb;rw[pG,aF (qc hb)]
 have yC:Kept w (Ot O ρ Z) {w with heap:=w.heap.setIfInBounds l.b cp} (Ot O ρ (Z.set id o')):=by
  refine⟨by simp,fun b hb ho=>⟨fun _ _ _=>qR b (fun e=>ho (.inr (e▸nO))),fun g=>ho (g.imp _root_.id (mL b))⟩⟩
 refine⟨bN.refl _,by simp,fun b _ ho=>qR b (fun e=>ho (e▸nO)),fun b hb=>.inl (mL b hb),⟨fun b hb=>by simpa using ai.lt b hb,?_,?_,?_⟩,rfl,rfl,iE.eq rfl rfl⟩
 ·intro i hi;rw[ae.ej]at hi;by_cases e:id=i
  ·simp[e]at hi
  ·rw[aF e]at hi;exact ai.fresh i hi
 ·intro i x h1 h2;rw[ae.ej]at h1;by_cases e:id=i
  ·subst e;simp only[mX,cH]at h1;subst h1;exact⟨l,nQ,(ai.block nO).2,lS yC⟩
  ·rw[aF e]at h1;obtain⟨l',h3,h4,h5⟩:=ai.own i x h1 h2;refine⟨l',h3,h4,h5.mono yC (bN.refl _) (qR _ fun e'=>e ?_)⟩;exact ai.inj id i o x l l' fC h1 eS h2 nQ h3 e'.symm
 ·intro i j x x' l1 l2 h1 h2 h3 h4 h5 h6 h7;rw[ae.ej]at h1 h2;by_cases e1:id=i<;>by_cases e2:id=j
  ·omega
  ·rw[aF e2]at h2;subst e1;exact ai.inj id j o x' l1 l2 fC h2 eS h4 h5 h6 h7
  ·rw[aF e1]at h1;subst e2;exact ai.inj i id x o l1 l2 h1 fC h3 eS h5 h6 h7
  ·rw[aF e1]at h1;rw[aF e2]at h2;exact ai.inj i j x x' l1 l2 h1 h2 h3 h4 h5 h6 h7
def Tr.rename{O:Nat->Prop}{w:World}{ρ:aA}{Z:ae}{id bh:Nat}{o:Ob}{l:Loc}(ai:cX w O ρ Z)(fC:Z.get id=some o)(eS:o.live=true)(hid:Z.get bh=none)(nQ:ρ id=some l):
  Tr O w ρ Z w (T.cn ρ bh l) ((bh,o)::Z.set id .dead):=by
 have aC:id≠bh:=by rintro rfl;rw[fC]at hid;cases hid
 have Bf:ρ bh=none:=ai.fresh bh hid;have look:∀i x l',ae.get ((bh,o)::Z.set id .dead) i=some x->x.live=true->T.cn ρ bh l i=some l'->(i=bh/\x=o/\l'=l)\/(i≠bh/\i≠id/\Z.get i=some x/\ρ i=some l'):=by
  intro i x l' h1 h2 h3;rw[ae.bm]at h1;by_cases e:bh=i
  ·subst e;simp only[mX,cH]at h1;rw[kn]at h3;cases h3;exact .inl ⟨rfl,h1.symm,rfl⟩
  ·rw[aF e,ae.ej]at h1;by_cases e2:id=i
   ·simp only[aV e2,cH]at h1;subst h1;simp[Ob.live]at h2
   ·rw[aF e2]at h1;rw[qp (qc e)]at h3;exact .inr ⟨qc e,qc e2,h1,h3⟩
 have mL:∀b,cj (T.cn ρ bh l) ((bh,o)::Z.set id .dead) b->cj ρ Z b:=by
  rintro b ⟨i,x,l',h1,h2,h3,h4⟩;rcases look i x l' h1 h2 h3 with⟨_,rfl,rfl⟩|⟨_,_,h5,h6⟩
  ·exact⟨id,x,l',fC,eS,nQ,h4⟩
  ·exact⟨i,x,l',h5,h2,h6,h4⟩
 have hk:Kept w (Ot O ρ Z) w (Ot O (T.cn ρ bh l) ((bh,o)::Z.set id .dead)):=Kept.fp fun b=>Or.imp _root_.id (mL b);refine⟨xI l Bf,dP _,fun _ _ _=>rfl,fun b hb=>.inl (mL b hb),⟨ai.lt,?_,?_,?_⟩,rfl,rfl,iE.eq rfl rfl⟩
 ·intro i hi;rw[ae.bm]at hi;by_cases e:bh=i
  ·simp[e]at hi
  ·rw[aF e,ae.ej]at hi;by_cases e2:id=i
   ·simp[e2]at hi
   ·rw[aF e2]at hi;rw[qp (qc e)];exact ai.fresh i hi
 ·intro i x h1 h2;rw[ae.bm]at h1;by_cases e:bh=i
  ·subst e;simp only[mX,cH]at h1;subst h1;obtain⟨l',h3,h4,h5⟩:=ai.own id o fC eS;rw[nQ]at h3;cases h3;exact⟨l,kn ..,h4,h5.mono hk (xI l Bf) rfl⟩
  ·rw[aF e,ae.ej]at h1;by_cases e2:id=i
   ·simp only[aV e2,cH]at h1;subst h1;simp[Ob.live]at h2
   ·rw[aF e2]at h1;obtain⟨l',h3,h4,h5⟩:=ai.own i x h1 h2;exact⟨l',by rw[qp (qc e)];exact h3,h4,h5.mono hk (xI l Bf) rfl⟩
 ·intro i j x x' l1 l2 h1 h2 h3 h4 h5 h6 h7;rcases look i x l1 h1 h3 h5 with⟨rfl,rfl,rfl⟩|⟨a1,a2,a3,a4⟩<;>rcases look j x' l2 h2 h4 h6 with⟨rfl,rfl,rfl⟩|⟨b1,b2,b3,b4⟩
  ·rfl
  ·exact absurd (ai.inj id j x x' l1 l2 fC b3 eS h4 nQ b4 h7).symm b2
  ·exact absurd (ai.inj i id x x' l1 l2 a3 fC h3 eS a4 nQ h7) a2
  ·exact ai.inj i j x x' l1 l2 a3 b3 h3 h4 a4 b4 h7
def D.one:D->Bool
 |.raw v=>v.oneCell'
 |.str _=>true
 |.snap _ _ _|.bj _|.box _ _|.gs _ _|.pR _ _|.cL _|.fn _ _ _|.sO _ _ _|.qg _ _ _|.gr _ _|.pq _ _=>true
 |_=>false
theorem V.one{w:World}{O:Nat->Prop}{ρ:aA}{d:D}{v:Value}(hd:d.one=true)(h:V w O ρ d v):v.oneCell'=true:=by
 cases d with
 |any=>simp[D.one]at hd
 |raw u=>simp only[V]at h;subst h;exact hd
 |str s=>simp only[V]at h;rw[h.1];rfl
 |agg ds=>simp[D.one]at hd
 |a_ ds=>simp[D.one]at hd
 |snap sz f rows=>simp only[V]at h;obtain⟨a,c,rfl,_⟩:=h;rfl
 |bj cs=>simp only[V]at h;obtain⟨a,c,rfl,_⟩:=h;rfl
 |box i o=>simp only[V]at h;obtain⟨a,_,rfl⟩:=h;rfl
 |gs i n=>simp only[V]at h;rcases h with⟨_,a,rfl⟩|⟨_,l,_,rfl⟩<;>rfl
 |pR i o=>simp only[V]at h;obtain⟨a,_,rfl⟩:=h;rfl
 |cL i=>simp only[V]at h;obtain⟨a,_,rfl⟩:=h;rfl
 |fn f as bs=>simp only[V]at h;obtain⟨a,c,rfl,_⟩:=h;rfl
 |sO i o n=>simp only[V]at h;obtain⟨l,cap,_,rfl,_⟩:=h;rfl
 |qg i o n=>simp only[V]at h;obtain⟨l,cap,_,rfl,_⟩:=h;rfl
 |gr i n=>simp only[V]at h;obtain⟨l,_,_,rfl⟩:=h;rfl
 |pq ks vs=>simp only[V]at h;obtain⟨b,es,rfl,_⟩:=h;rfl
def cells_one{v:Value}(h:v.oneCell'=true):v.cells=#[v]:=by
 cases v<;>first|rfl|simp[Value.oneCell']at h
def m_:List D->Bool
 |[]=>true
 |d::ds=>d.one&&m_ ds
theorem Vs.one{w:World}{O:Nat->Prop}{ρ:aA}:∀{ds:List D}{vs:List Value},m_ ds=true->Vs w O ρ ds vs->∀v∈vs,v.oneCell'=true
 |[],vs,_,h=>by simp only[Vs]at h;subst h;simp
 |d::ds,vs,hd,h=>by
  simp only[m_,bd]at hd;simp only[Vs]at h;obtain⟨u,us,rfl,h1,h2⟩:=h;intro v hv;cases hv with
  |head=>exact h1.one hd.1
  |tail _ hm=>exact Vs.one hd.2 h2 v hm
def setMany(c:Array Value)(k:Nat):List Value->Array Value
 |[]=>c
 |u::us=>setMany (c.setIfInBounds k u) (k+1) us
def mu(ds:List D)(k:Nat):List D->List D
 |[]=>ds
 |d::r=>mu (ds.set k d) (k+1) r
def E_(us:List Value):∀(c:Array Value)(k:Nat),(setMany c k us).size=c.size:=by
 induction us with
 |nil=>intro c k;rfl
 |cons u us ih=>intro c k;simp[setMany,ih]
theorem Vs.set{w:World}{O:Nat->Prop}{ρ:aA}{d:D}{v:Value}:∀{ds:List D}{vs:List Value}(k:Nat),Vs w O ρ ds vs->V w O ρ d v->Vs w O ρ (ds.set k d) (vs.set k v)
 |[],vs,k,h,_=>by simp only[Vs]at h;subst h;simp[Vs]
 |d'::ds,vs,k,h,hv=>by
  simp only[Vs]at h;obtain⟨u,us,rfl,h1,h2⟩:=h;cases k with
  |zero=>simp only[oG,Vs];exact⟨v,us,rfl,hv,h2⟩
  |succ k=>simp only[Im,Vs];exact⟨u,us.set k v,rfl,h1,Vs.set k h2 hv⟩
theorem Vs.setMany{w:World}{O:Nat->Prop}{ρ:aA}:∀{cs:List D}{us:List Value},Vs w O ρ cs us->∀{ds:List D}{c:Array Value}(k:Nat),Vs w O ρ ds c.toList->Vs w O ρ (mu ds k cs) (setMany c k us).toList
 |[],us,h,ds,c,k,hd=>by simp only[Vs]at h;subst h;simpa[mu,T.setMany]using hd
 |d::cs,us,h,ds,c,k,hd=>by
  simp only[Vs]at h;obtain⟨u,us,rfl,h1,h2⟩:=h;simp only[mu,T.setMany];exact Vs.setMany h2 (k+1) (by rw[CO];exact Vs.set k hd h1)
theorem vP{P:Program}{b:Nat}{T:TypeId}:∀(us:List Value)(w:World)(c:Array Value)(off i:Nat),w.heap[b]?=some (.cells c T (0,0))->off+i+us.length<=c.size->(∀u∈us,u.oneCell'=true)->
  (storeCells ⟨b,off,none⟩ us i).run P w=.ok () {w with heap:=w.heap.setIfInBounds b (.cells (setMany c (off+i) us) T (0,0))}
 |[],w,c,off,i,hb,_,_=>by
  have bA:=(bH.1 hb).1;have:w.heap.setIfInBounds b (.cells c T (0,0))=w.heap:=by
   apply AG;intro j;rw[pG];split
   ·rename_i e;subst e;rw[hb]
   ·rfl
  simp[storeCells,setMany,this]
 |u::us,w,c,off,i,hb,hl,h1=>by
  have bA:=(bH.1 hb).1;simp only[bD]at hl;have hc:∃x,w.cell? ⟨b,off+i,none⟩=some x:=by
   refine⟨c[off+i],?_⟩;simp[World.cell?,hb]
  obtain⟨x,hc⟩:=hc;have hf:w.frozen? ⟨b,off+i,none⟩=false:=by simp[World.frozen?,hb]
  have hw:w.setCell ⟨b,off+i,none⟩ u={w with heap:=w.heap.setIfInBounds b (.cells (c.setIfInBounds (off+i) u) T (0,0))}:=by
   unfold World.setCell
   congr 1
   apply AG;intro j;rw[sD,pG];by_cases e:b=j
   ·subst e;rw[hb];simp[bA]
   ·simp[e]
  have ih:=vP (P:=P) (b:=b) (T:=T) us {w with heap:=w.heap.setIfInBounds b (.cells (c.setIfInBounds (off+i) u) T (0,0))} (c.setIfInBounds (off+i) u) off (i+1)
   (by simp[bA]) zQ (fun v hv=>h1 v (cC _ hv))
  simp only[storeCells,addr_add,Sem.run_bind,run_store _ _ _ _ _ (h1 u c7),hc,hf,hw];simp only[gM,pb,Result.andThen_ok,ih,setMany,Array.setIfInBounds_setIfInBounds,l6]
end Go.T
