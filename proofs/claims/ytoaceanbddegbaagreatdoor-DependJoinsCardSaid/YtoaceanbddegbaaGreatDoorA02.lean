/-
  Contracts of the functions that the statement reaches, and the logic in which they are proved (no condition): parts Core4, Core5, Core6.
-/
import Derived.Test.YtoaceanbddegbaaGreatDoorA01
import Derived.RangeFuncRecord
import Derived.IntWalk
set_option linter.all false
namespace Go.T
open Go
variable[bT]
def D.bk:D→Bool
 |.any|.raw _|.str _|.snap _ _ _|.bz _|.pj _ _=>true
 |.agg ds|.bl ds=>dw ds
 |.fn _ as bs=>dw as&&dw bs
 |_=>false
where dw:List D→Bool
 |[]=>true
 |d::ds=>d.bk&&dw ds
mutual
theorem V.pure{w:World}{O:Nat→Prop}{ρ aw:aC}:∀(d:D)(v:Value),d.bk=true→V w O ρ d v→V w O aw d v
 |.any,_,_,h=>by simp[V]
 |.raw u,v,_,h=>by simpa[V]using h
 |.str s,v,_,h=>by simpa[V]using h
 |.agg ds,v,hp,h=>by
  simp only[V]at h⊢;obtain⟨vs,e,h⟩:=h;exact⟨vs,e,Vs.pure ds _ hp h⟩
 |.bl ds,v,hp,h=>by
  simp only[V]at h⊢;obtain⟨vs,e,h⟩:=h;exact⟨vs,e,Vs.pure ds _ hp h⟩
 |.snap sz ia rows,v,_,h=>by simpa[V]using h
 |.bz cs,v,_,h=>by simpa[V]using h
 |.box id off,v,hp,h=>by simp[D.bk]at hp
 |.gs id n,v,hp,h=>by simp[D.bk]at hp
 |.nf id off,v,hp,h=>by simp[D.bk]at hp
 |.dj id,v,hp,h=>by simp[D.bk]at hp
 |.sc id off n,v,hp,h=>by simp[D.bk]at hp
 |.pZ id off n,v,hp,h=>by simp[D.bk]at hp
 |.gr id n,v,hp,h=>by simp[D.bk]at hp
 |.pj ks vs,v,_,h=>by simpa[V]using h
 |.fn f as bs,v,hp,h=>by
  simp only[D.bk,Bool.and_eq_true]at hp;simp only[V]at h⊢;obtain⟨us,vs,e,h1,h2⟩:=h;exact⟨us,vs,e,Vs.pure as _ hp.1 h1,Vs.pure bs _ hp.2 h2⟩
theorem Vs.pure{w:World}{O:Nat→Prop}{ρ aw:aC}:∀(ds:List D)(vs:List Value),D.bk.dw ds=true→Vs w O ρ ds vs→Vs w O aw ds vs
 |[],vs,_,h=>by simpa[Vs]using h
 |d::ds,vs,hp,h=>by
  simp only[D.bk.dw,Bool.and_eq_true]at hp;simp only[Vs]at h⊢;obtain⟨u,us,e,h1,h2⟩:=h;exact⟨u,us,e,V.pure d u hp.1 h1,Vs.pure ds us hp.2 h2⟩
end
def D.okB(f:Nat→Bool):D→Bool
 |.any|.raw _|.str _|.snap _ _ _|.bz _|.pj _ _=>true
 |.agg ds|.bl ds=>gS ds
 |.fn _ as bs=>gS as&&gS bs
 |.box i _|.gs i _|.nf i _|.dj i|.sc i _ _|.pZ i _ _|.gr i _=>f i
where gS:List D→Bool
 |[]=>true
 |d::ds=>D.okB f d&&gS ds
def Ob.okB(f:Nat→Bool):Ob→Bool
 |.cells ds=>D.okB.gS f ds
 |.lp _ _ _ env=>D.okB.gS f (env.map (·.2))
 |.mp rK=>D.okB.gS f (rK.map (·.1))&&D.okB.gS f (rK.map (·.2))
 |.mi m _ _=>f m
 |.fu j _=>f j
 |_=>true
theorem FQ{f:Nat→Bool}:∀{ds:List D},D.okB.gS f ds=true→∀d∈ds,d.okB f=true
 |[],_,d,hd=>by cases hd
 |d::ds,h,e,he=>by
  simp only[D.okB.gS,Bool.and_eq_true]at h;rcases List.mem_cons.1 he with rfl|he
  ·exact h.1
  ·exact FQ h.2 e he
theorem Env.get_mem:∀{env:Env}{t:Nat}{d:D},env.get t=some d→d∈env.map (·.2)
 |[],t,d,h=>by simp[Env.get]at h
 |(s,e)::r,t,d,h=>by
  rw[Env.bf]at h;by_cases g:s=t
  ·rw[if_pos g]at h;cases h;simp
  ·rw[if_neg g]at h;exact List.mem_cons_of_mem _ (Env.get_mem h)
def cW(f:Nat→Bool)(ρ:aC):aC:=fun i=>if f i then ρ i else none
mutual
theorem V.cut{w:World}{O:Nat→Prop}{ρ:aC}{f:Nat→Bool}:∀(d:D)(v:Value),d.okB f=true→V w O ρ d v→V w O (cW f ρ) d v
 |.any,_,_,h=>by simp[V]
 |.raw u,v,_,h=>by simpa[V]using h
 |.str s,v,_,h=>by simpa[V]using h
 |.agg ds,v,hp,h=>by
  simp only[V]at h⊢;obtain⟨vs,e,h⟩:=h;exact⟨vs,e,Vs.cut ds _ hp h⟩
 |.bl ds,v,hp,h=>by
  simp only[V]at h⊢;obtain⟨vs,e,h⟩:=h;exact⟨vs,e,Vs.cut ds _ hp h⟩
 |.snap sz ia rows,v,_,h=>by simpa[V]using h
 |.bz cs,v,_,h=>by simpa[V]using h
 |.box id off,v,hp,h=>by simp only[D.okB]at hp;simpa[V,cW,hp]using h
 |.gs id n,v,hp,h=>by simp only[D.okB]at hp;simpa[V,cW,hp]using h
 |.nf id off,v,hp,h=>by simp only[D.okB]at hp;simpa[V,cW,hp]using h
 |.dj id,v,hp,h=>by simp only[D.okB]at hp;simpa[V,cW,hp]using h
 |.sc id off n,v,hp,h=>by simp only[D.okB]at hp;simpa[V,cW,hp]using h
 |.pZ id off n,v,hp,h=>by simp only[D.okB]at hp;simpa[V,cW,hp]using h
 |.gr id n,v,hp,h=>by simp only[D.okB]at hp;simpa[V,cW,hp]using h
 |.pj ks vs,v,_,h=>by simpa[V]using h
 |.fn f as bs,v,hp,h=>by
  simp only[D.okB,Bool.and_eq_true]at hp;simp only[V]at h⊢;obtain⟨us,vs,e,h1,h2⟩:=h;exact⟨us,vs,e,Vs.cut as _ hp.1 h1,Vs.cut bs _ hp.2 h2⟩
theorem Vs.cut{w:World}{O:Nat→Prop}{ρ:aC}{f:Nat→Bool}:∀(ds:List D)(vs:List Value),D.okB.gS f ds=true→Vs w O ρ ds vs→Vs w O (cW f ρ) ds vs
 |[],vs,_,h=>by simpa[Vs]using h
 |d::ds,vs,hp,h=>by
  simp only[D.okB.gS,Bool.and_eq_true]at hp;simp only[Vs]at h⊢;obtain⟨u,us,e,h1,h2⟩:=h;exact⟨u,us,e,V.cut d u hp.1 h1,Vs.cut ds us hp.2 h2⟩
end
theorem Vs.length{w:World}{O:Nat→Prop}{ρ:aC}:∀{ds:List D}{vs:List Value},Vs w O ρ ds vs→vs.length=ds.length
 |[],vs,h=>by simp only[Vs]at h;subst h;rfl
 |d::ds,vs,h=>by
  simp only[Vs]at h;obtain⟨u,us,rfl,_,h2⟩:=h;simp[Vs.length h2]
theorem Vs.get{w:World}{O:Nat→Prop}{ρ:aC}:∀{ds:List D}{vs:List Value},Vs w O ρ ds vs→∀(i:Nat)(d:D),ds[i]?=some d→∃v,vs[i]?=some v∧V w O ρ d v
 |[],vs,h,i,d,e=>by simp at e
 |d::ds,vs,h,i,d',e=>by
  simp only[Vs]at h;obtain⟨u,us,rfl,h1,h2⟩:=h;cases i with
  |zero=>simp only[List.getElem?_cons_zero,Option.some.injEq]at e;subst e;exact⟨u,by simp,h1⟩
  |succ i=>obtain⟨v,h3,h4⟩:=Vs.get h2 i d' (by simpa using e);exact⟨v,by simpa using h3,h4⟩
theorem Vs.KN{w:World}{O:Nat→Prop}{ρ:aC}:∀{ds:List D}{vs:List Value},vs.length=ds.length→(∀(i:Nat) d v,ds[i]?=some d→vs[i]?=some v→V w O ρ d v)→Vs w O ρ ds vs
 |[],vs,h,_=>by simp only[Vs];exact List.length_eq_zero_iff.1 h
 |d::ds,[],h,_=>by simp at h
 |d::ds,u::us,h,e=>by
  simp only[Vs];exact⟨u,us,rfl,e 0 d u rfl rfl,Vs.KN (by simpa using h) (fun i d' v h1 h2=>e (i+1) d' v (by simpa using h1) (by simpa using h2))⟩
theorem Vs.append{w:World}{O:Nat→Prop}{ρ:aC}:∀{ds fg:List D}{vs Dr:List Value},Vs w O ρ ds vs→Vs w O ρ fg Dr→Vs w O ρ (ds++fg) (vs++Dr)
 |[],fg,vs,Dr,h,h'=>by simp only[Vs]at h;subst h;simpa using h'
 |d::ds,fg,vs,Dr,h,h'=>by
  simp only[Vs]at h;obtain⟨u,us,rfl,h1,h2⟩:=h;simp only[List.cons_append,Vs];exact⟨u,us++Dr,rfl,h1,Vs.append h2 h'⟩
structure gL(w w':World):Prop where
 size:w.heap.size≤w'.heap.size
 same:∀b,b<w.heap.size→w'.heap[b]?=w.heap[b]?
 os:w'.os=w.os∧w'.output=w.output∧iU w w'
theorem gL.refl(w:World):gL w w:=⟨Nat.le_refl _,fun _ _=>rfl,rfl,rfl,iU.eq rfl rfl⟩
theorem gL.kept{w w':World}(h:gL w w')(O:Nat→Prop):Kept w O w' O:=⟨h.size,fun b hb ho=>⟨fun _ _ _=>h.same b hb,ho⟩⟩
theorem iV.mono{w w':World}{O O':Nat→Prop}{ρ aw:aC}{l:Loc}{o:Ob}(hk:Kept w O w' O')(hr:bO ρ aw)(hb:w'.heap[l.b]?=w.heap[l.b]?)(h:iV w O ρ l o):iV w' O' aw l o:=by
 cases o with
 |dead=>trivial
 |cells ds=>
  obtain⟨vs,T,h1,h2⟩:=h;exact⟨vs,T,hb.trans h1,Vs.mono hk hr ds _ h2⟩
 |arr sz rows=>
  obtain⟨c,T,h1,h2,h3,h4⟩:=h;exact⟨c,T,hb.trans h1,h2,h3,vr hk hb rows _ h4⟩
 |lp st Au s env=>
  obtain⟨fn,tmps,df,h1,h2,h3⟩:=h;exact⟨fn,tmps,df,hb.trans h1,h2,fun t d e=>V.mono hk hr d _ (h3 t d e)⟩
 |mp rK=>
  obtain⟨es,h1,h2,h3⟩:=h;refine⟨es,hb.trans h1,h2,fun i kd vd e=>?_⟩;obtain⟨x,g1,g2,g3,g4⟩:=h3 i kd vd e;exact⟨x,g1,g2,V.mono hk hr _ _ g3,V.mono hk hr _ _ g4⟩
 |mi m yr seen=>
  obtain⟨lm,h1,h2⟩:=h;exact⟨lm,hr _ _ h1,hb.trans h2⟩
 |fu j n=>
  obtain⟨p,v,h1,h2,h3⟩:=h;refine⟨p,v,hb.trans h1,h2,?_⟩;rcases h3 with h3|⟨h3,lj,h4,h5⟩
  ·exact .inl h3
  ·exact .inr ⟨h3,lj,hr _ _ h4,h5⟩
 |ba s=>
  obtain⟨c,h1,h2⟩:=h;exact⟨c,hb.trans h1,h2⟩
 |res sz=>
  obtain⟨c,T,h1,h2⟩:=h;exact⟨c,T,hb.trans h1,h2⟩
 |mj ks vs seen=>
  obtain⟨b,h1,h2⟩:=h;exact⟨b,h1.mono hk,hb.trans h2⟩
 |mn=>exact hb.trans h
where
 vc {w w':World} {O O':Nat→Prop} {b:Nat} (hk:Kept w O w' O') (hb:w'.heap[b]?=w.heap[b]?):∀(ds:List D)(off:Nat),Vc w O b off ds→Vc w' O' b off ds
  |[],_,_=>by simp[Vc]
  |d::ds,off,h=>by
   simp only[Vc]at h⊢;obtain⟨⟨u,h1,h2⟩,h3⟩:=h;exact⟨⟨u,⟨(XR hb).trans h1.1,h1.2⟩,V.mono hk (bO.refl _) d u h2⟩,vc hk hb ds (off+1) h3⟩
 vr {w w':World} {O O':Nat→Prop} {b sz:Nat} (hk:Kept w O w' O') (hb:w'.heap[b]?=w.heap[b]?):∀(rs:List (List D))(off:Nat),Vr w O b off sz rs→Vr w' O' b off sz rs
  |[],_,_=>by simp[Vr]
  |r::rs,off,h=>by
   simp only[Vr]at h⊢;exact⟨⟨h.1.1,vc hk hb r off h.1.2⟩,vr hk hb rs (off+sz) h.2⟩
theorem iV.keep{w w':World}{O:Nat→Prop}{ρ:aC}{l:Loc}{o:Ob}(hk:Kept w O w' O)(hb:w'.heap[l.b]?=w.heap[l.b]?)(h:iV w O ρ l o):iV w' O ρ l o:=h.mono hk (bO.refl _) hb
theorem iV.lt{w:World}{O:Nat→Prop}{ρ:aC}{l:Loc}{o:Ob}(hl:o.live=true)(h:iV w O ρ l o):l.b<w.heap.size:=by
 cases o with
 |dead=>simp[Ob.live]at hl
 |cells ds=>obtain⟨vs,T,h1,_⟩:=h;exact(Array.getElem?_eq_some_iff.1 h1).1
 |arr sz rows=>obtain⟨c,T,h1,_⟩:=h;exact(Array.getElem?_eq_some_iff.1 h1).1
 |lp st Au s env=>obtain⟨fn,tmps,df,h1,_⟩:=h;exact(Array.getElem?_eq_some_iff.1 h1).1
 |mp rK=>obtain⟨es,h1,_⟩:=h;exact(Array.getElem?_eq_some_iff.1 h1).1
 |mi m yr seen=>obtain⟨lm,_,h1⟩:=h;exact(Array.getElem?_eq_some_iff.1 h1).1
 |fu j n=>obtain⟨p,v,h1,_⟩:=h;exact(Array.getElem?_eq_some_iff.1 h1).1
 |ba s=>obtain⟨c,h1,_⟩:=h;exact(Array.getElem?_eq_some_iff.1 h1).1
 |res sz=>obtain⟨c,T,h1,_⟩:=h;exact(Array.getElem?_eq_some_iff.1 h1).1
 |mj ks vs seen=>obtain⟨b,_,h1⟩:=h;exact(Array.getElem?_eq_some_iff.1 h1).1
 |mn=>exact(Array.getElem?_eq_some_iff.1 h).1
theorem di.keep{w w':World}{O:Nat→Prop}{ρ:aC}{J:aa}(hk:gL w w')(h:di w O ρ J):di w' O ρ J:=by
 refine⟨fun b hb=>Nat.lt_of_lt_of_le (h.lt b hb) hk.size,h.fresh,fun i o h1 h2=>?_,h.inj⟩;obtain⟨l,h3,h4,h5⟩:=h.own i o h1 h2;exact⟨l,h3,h4,h5.keep (hk.kept _) (hk.same _ (h5.lt h2))⟩
theorem Tr.qQ{w w':World}{O:Nat→Prop}{ρ:aC}{J:aa}(hk:gL w w')(h:di w O ρ J):Tr O w ρ J w' ρ J:=
 ⟨bO.refl _,hk.size,fun b hb _=>hk.same b hb,fun _ h=>.inl h,h.keep hk,hk.os⟩
structure Sub(d d':D):Prop where
 out:∀w O ρ v,V w O ρ d v→V w O ρ d' v
theorem Sub.refl(d:D):Sub d d:=⟨fun _ _ _ _ h=>h⟩
theorem Sub.of_eq{d d':D}(h:d=d'):Sub d d':=h▸Sub.refl d
theorem Sub.trans{a b c:D}(h:Sub a b)(h':Sub b c):Sub a c:=⟨fun w O ρ v x=>h'.out w O ρ v (h.out w O ρ v x)⟩
theorem Sub.tv(sz:Nat)(f:Bool)(rows:List (List D)):Sub (.snap sz f rows) (.snap sz false rows):=⟨fun w O ρ v h=>by
 simp only[V]at h⊢;obtain⟨a,cap,e,h1,_,h3⟩:=h;exact⟨a,cap,e,h1,by simp,h3⟩⟩
theorem Sub.nil(sz:Nat)(f:Bool):Sub (.raw (.slice none 0 0)) (.snap sz f []):=⟨fun w O ρ v h=>by
 simp only[V]at h⊢;exact⟨none,0,by simpa using h,by simp[aH]⟩⟩
inductive jG:List D→List D→Prop
 |nil:jG [] []
 |cons {d d':D} {ds fg:List D} (h:Sub d d') (r:jG ds fg):jG (d::ds) (d'::fg)
theorem jG.out{ds fg:List D}(h:jG ds fg):∀w O ρ vs,Vs w O ρ ds vs→Vs w O ρ fg vs:=by
 induction h with
 |nil=>exact fun _ _ _ _ h=>h
 |cons h _ ih=>
  intro w O ρ vs hv;simp only[Vs]at hv⊢;obtain⟨u,us,e,h1,h2⟩:=hv;exact⟨u,us,e,h.out w O ρ u h1,ih w O ρ us h2⟩
theorem Sub.bl{ds fg:List D}(h:jG ds fg):Sub (.bl ds) (.bl fg):=⟨fun w O ρ v hv=>by
 simp only[V]at hv⊢;obtain⟨vs,e,h1⟩:=hv;exact⟨vs,e,h.out w O ρ _ h1⟩⟩
theorem Sub.agg{ds fg:List D}(h:jG ds fg):Sub (.agg ds) (.agg fg):=⟨fun w O ρ v hv=>by
 simp only[V]at hv⊢;obtain⟨vs,e,h1⟩:=hv;exact⟨vs,e,h.out w O ρ _ h1⟩⟩
theorem Sub.GH{a b a' b':D}(h:Sub a a')(h':Sub b b'):Sub (.bl [a,b]) (.bl [a',b']):=.bl (.cons h (.cons h' .nil))
theorem Sub.amX{a b c a' b' c':D}(h:Sub a a')(h':Sub b b')(IK:Sub c c'):Sub (.bl [a,b,c]) (.bl [a',b',c']):=.bl (.cons h (.cons h' (.cons IK .nil)))
structure Le(F:Fr)(env:Env)(J:aa)(aS:Env)(ai:aa):Prop where
 intro::
 out:∀C a w,St F C env J a w→St F C aS ai a w
theorem Le.refl(F:Fr)(env:Env)(J:aa):Le F env J env J:=⟨fun _ _ _ h=>h⟩
theorem Le.trans{F:Fr}{a b c:Env}{x y z:aa}(h:Le F a x b y)(h':Le F b y c z):Le F a x c z:=⟨fun C s w g=>h'.out C s w (h.out C s w g)⟩
def aa.has(J:aa)(i:Nat):Bool:=(J.get i).isSome
inductive du(ai:aa)(env:Env):Env→Prop
 |nil:du ai env []
 |cons {t:Nat} {d d':D} {e:Env} (h:env.get t=some d) (s:Sub d d') (hp:d'.okB ai.has=true) (r:du ai env e):du ai env ((t,d')::e)
theorem du.same{ai:aa}{env:Env}{t:Nat}{d:D}{e:Env}(h:env.get t=some d)(hp:d.okB ai.has=true)(r:du ai env e):du ai env ((t,d)::e):=.cons h (Sub.refl _) hp r
theorem du.s{ai:aa}{env:Env}{t:Nat}{d:D}{e:Env}(h:env.get t=some d)(hp:d.okB ai.has=true)(r:du ai env e):du ai env ((t,d)::e):=.same h hp r
theorem jG.r{d:D}{a b:List D}(h:jG a b):jG (d::a) (d::b):=.cons (Sub.refl _) h
theorem du.sound{ai:aa}{env aS:Env}(h:du ai env aS):∀t d',aS.get t=some d'→∃d,env.get t=some d∧Sub d d'∧d'.okB ai.has=true:=by
 induction h with
 |nil=>intro t d' h;simp[Env.get]at h
 |@cons t0 d0 d1 e h s hp _ ih=>
  intro t d' hd;rw[Env.bf]at hd;by_cases e:t0=t
  ·rw[if_pos e]at hd;cases hd;exact⟨d0,e▸h,s,hp⟩
  ·rw[if_neg e]at hd;exact ih t d' hd
inductive jj(all:aa)(J:aa):aa→Prop
 |nil:jj all J []
 |cons {i:Nat} {o:Ob} {e:aa} (h:J.get i=some o) (hp:o.okB all.has=true) (r:jj all J e):jj all J ((i,o)::e)
 |tail {e:aa} (h:∀i o,e.get i=some o→J.get i=some o∧o.okB all.has=true):jj all J e
theorem jj.sound{all J ai:aa}(h:jj all J ai):∀i o,ai.get i=some o→J.get i=some o∧o.okB all.has=true:=by
 induction h with
 |nil=>intro t d' h;simp[aa.get]at h
 |@cons t0 d0 e h hp _ ih=>
  intro t d' hd;rw[aa.bf]at hd;by_cases e:t0=t
  ·rw[if_pos e]at hd;cases hd;exact⟨e▸h,hp⟩
  ·rw[if_neg e]at hd;exact ih t d' hd
 |tail h=>exact h
theorem iV.eP{w:World}{O O':Nat→Prop}{ρ:aC}{l:Loc}{o:Ob}(hk:Kept w O w O')(h:iV w O ρ l o):iV w O' ρ l o:=h.mono hk (bO.refl _) rfl
theorem Kept.eP{w:World}{O O':Nat→Prop}(h:∀b,O' b→O b):Kept w O w O':=⟨Nat.le_refl _,fun b _ ho=>⟨fun _ _ _=>rfl,fun g=>ho (h b g)⟩⟩
theorem iV.cut{w:World}{O:Nat→Prop}{ρ:aC}{l:Loc}{o:Ob}{f:Nat→Bool}(hp:o.okB f=true)(h:iV w O ρ l o):iV w O (cW f ρ) l o:=by
 cases o with
 |dead=>trivial
 |cells ds=>
  obtain⟨vs,T,h1,h2⟩:=h;exact⟨vs,T,h1,Vs.cut ds _ hp h2⟩
 |arr sz rows=>exact h
 |lp st Au s env=>
  obtain⟨fn,tmps,df,h1,h2,h3⟩:=h;exact⟨fn,tmps,df,h1,h2,fun t d e=>V.cut d _ (FQ hp d (Env.get_mem e)) (h3 t d e)⟩
 |mp rK=>
  obtain⟨es,h1,h2,h3⟩:=h;simp only[Ob.okB,Bool.and_eq_true]at hp;refine⟨es,h1,h2,fun i kd vd e=>?_⟩;obtain⟨x,g1,g2,g3,g4⟩:=h3 i kd vd e;have hm:=List.mem_of_getElem? e;exact⟨x,g1,g2,V.cut _ _ (FQ hp.1 kd (List.mem_map_of_mem (f:=Prod.fst) hm)) g3,V.cut _ _ (FQ hp.2 vd (List.mem_map_of_mem (f:=Prod.snd) hm)) g4⟩
 |mi m yr seen=>
  obtain⟨lm,h1,h2⟩:=h;simp only[Ob.okB]at hp;exact⟨lm,by simp[cW,hp,h1],h2⟩
 |fu j n=>
  obtain⟨p,v,h1,h2,h3⟩:=h;simp only[Ob.okB]at hp;refine⟨p,v,h1,h2,?_⟩;rcases h3 with h3|⟨h3,lj,h4,h5⟩
  ·exact .inl h3
  ·exact .inr ⟨h3,lj,by simp[cW,hp,h4],h5⟩
 |ba s=>exact h
 |res sz=>exact h
 |mj ks vs seen=>exact h
 |mn=>exact h
theorem ql{f:Nat→Bool}{ρ:aC}{i:Nat}{l:Loc}(h:cW f ρ i=some l):ρ i=some l:=by
 unfold cW at h;split at h
 ·exact h
 ·cases h
theorem di.sub{w:World}{O:Nat→Prop}{ρ:aC}{J ai:aa}(h:∀i o,ai.get i=some o→J.get i=some o∧o.okB ai.has=true)(af:di w O ρ J):di w O (cW ai.has ρ) ai:=by
 have hO:∀b,Ot O (cW ai.has ρ) ai b→Ot O ρ J b:=by
  rintro b (hb|⟨i,o,l,h1,h2,h3,h4⟩)
  ·exact .inl hb
  ·exact .inr ⟨i,o,l,(h i o h1).1,h2,ql h3,h4⟩
 refine⟨af.lt,fun i hi=>by simp[cW,aa.has,hi],fun i o h1 h2=>?_,fun i j o o' l l' a b c d e e'=>af.inj i j o o' l l' (h _ _ a).1 (h _ _ b).1 c d (ql e) (ql e')⟩;obtain⟨l,h3,h4,h5⟩:=af.own i o (h i o h1).1 h2;exact⟨l,by simp[cW,aa.has,h1,h3],h4,(h5.eP (Kept.eP hO)).cut (h i o h1).2⟩
theorem Le.mk{F:Fr}{env aS:Env}{J ai:aa}(sM:F.ps.all ai.has=true)(he:du ai env aS)(ho:jj ai J ai):Le F env J aS ai:=⟨fun C a w ⟨ρ,hs⟩=>by
 have eV:=ho.sound;have hO:∀b,b9 (cW ai.has ρ) ai b→b9 ρ J b:=by
  rintro b ⟨i,o,l,h1,h2,h3,h4⟩;exact⟨i,o,l,(eV i o h1).1,h2,ql h3,h4⟩
 refine⟨cW ai.has ρ,?_,⟨hs.tr.size,hs.tr.same,fun b hb=>hs.tr.new b (hO b hb),hs.tr.ok.sub eV,hs.tr.os⟩,?_,hs.size,hs.marks.mono (Nat.le_refl _) (fun b _ ho=>⟨rfl,fun g=>ho (g.imp _root_.id (hO b))⟩),hs.rd,hs.yl,hs.gl⟩
 ·intro i this l hi;have hh:=List.all_eq_true.1 sM i this;simp[cW,hh,hs.keep i this l hi]
 ·intro t d' hd;obtain⟨d,h1,h2,h3⟩:=he.sound t d' hd;refine V.cut d' _ h3 ?_;exact V.mono (Kept.eP fun b=>Or.imp id (hO b)) (bO.refl _) _ _ (h2.out _ _ _ _ (hs.env t d h1))⟩
structure WP(P:Program)(F:Fr)(c:Code)(Q:Exit→Env→aa→Prop)(env:Env)(J:aa):Prop where
 out:∀C a w,St F C env J a w→c.wpIn (fz C.ro) 0 P (fun e a' w'=>∃aS ai,Q e aS ai∧St F C aS ai a' w') a w
def kr(K:Env→aa→Prop)(Q:Exit→Env→aa→Prop):Exit→Env→aa→Prop
 |.normal,env,J=>K env J
 |e,env,J=>Q e env J
def Ho(id:Nat)(Q:Exit→Env→aa→Prop):Exit→Env→aa→Prop
 |.exit bn,env,J=>bif Nat.beq bn id then Q .normal env J else Q (.exit bn) env J
 |e,env,J=>Q e env J
section
variable{P:Program} {F:Fr} {Q:Exit→Env→aa→Prop} {env:Env} {J:aa}
theorem WP.seq{x y:Code}(h:WP P F x (kr (WP P F y Q) Q) env J):WP P F (.seq x y) Q env J:=⟨fun C a w hs=>by
 refine wpIn_seq (wpIn_mono (h.out C a w hs) ?_);rintro e a' w' ⟨aS,ai,hq,ib⟩;cases e with
 |normal=>exact hq.out C a' w' ib
 |_=>exact⟨aS,ai,hq,ib⟩⟩
theorem WP.skip(h:Q .normal env J):WP P F .skip Q env J:=⟨fun _ _ _ hs=>wpIn_skip ⟨env,J,h,hs⟩⟩
theorem WP.exit{id:Nat}(h:Q (.exit id) env J):WP P F (.exit id) Q env J:=⟨fun _ _ _ hs=>wpIn_exit ⟨env,J,h,hs⟩⟩
theorem WP.ret(h:Q .ret env J):WP P F .ret Q env J:=⟨fun _ _ _ hs=>wpIn_ret ⟨env,J,h,hs⟩⟩
theorem WP.block{id:Nat}{c:Code}(h:WP P F c (Ho id Q) env J):WP P F (.block id c) Q env J:=⟨fun C a w hs=>by
 refine wpIn_block (wpIn_mono (h.out C a w hs) ?_);rintro e a' w' ⟨aS,ai,hq,ib⟩;cases e with
 |exit bn=>
  simp only[Exit.inBlock];simp only[Ho]at hq;by_cases e:bn=id
  ·subst e;simp only[Nat.beq_refl,cond_true]at hq;simp only[if_true];exact⟨aS,ai,hq,ib⟩
  ·have:Nat.beq bn id=false:=by
    cases h2:Nat.beq bn id with
    |true=>exact absurd (Nat.eq_of_beq_eq_true h2) e
    |false=>rfl
   simp only[this,cond_false]at hq;simp only[if_neg e];exact⟨aS,ai,hq,ib⟩
 |_=>exact⟨aS,ai,hq,ib⟩⟩
theorem WP.cond{c:Operand}{x y:Code}{b:Bool}(hc:env.op c=some (.raw (.bool b)))(ht:b=true→WP P F x Q env J)(hf:b=false→WP P F y Q env J):WP P F (.cond c x y) Q env J:=⟨fun C a w hs=>by
 obtain⟨ρ,ib⟩:=hs;have:=uG ib.env c _ hc;simp only[V]at this;exact wpIn_cond_split this (fun e=>(ht e).out C a w ⟨ρ,ib⟩) (fun e=>(hf e).out C a w ⟨ρ,ib⟩)⟩
theorem WP.iY{c:Operand}{x y:Code}{b:Bool}(hc:env.op c=some (.raw (.bool b)))(hb:b=true)(ht:WP P F x Q env J):WP P F (.cond c x y) Q env J:=
 .cond hc (fun _=>ht) (fun e=>by rw[hb]at e;cases e)
theorem WP.fG{c:Operand}{x y:Code}{b:Bool}(hc:env.op c=some (.raw (.bool b)))(hb:b=false)(hf:WP P F y Q env J):WP P F (.cond c x y) Q env J:=
 .cond hc (fun e=>by rw[hb]at e;cases e) (fun _=>hf)
theorem WP.bC{c:Code}{aS:Env}{ai:aa}(h:Le F env J aS ai)(hw:WP P F c Q aS ai):WP P F c Q env J:=⟨fun C a w hs=>hw.out C a w (h.out C a w hs)⟩
theorem WP.region{id:Nat}{l:List Oper}{ks:List Kind}(h:dt P F.N l.toArray (fun e o=>Q .normal e o) l ks env J):WP P F (.region id l.toArray false) Q env J:=⟨fun C a w hs=>by
 obtain⟨E,B,ds,ht,hE,hB,hK⟩:=h.trace;refine wpIn_region ?_;rw[List.range_eq_range'];refine Trace.text (ops:=l.toArray) (by simpa using ht) (C:=C) (fun a w hs=>⟨E l.length,B l.length,hK,by simpa using hs⟩) _ 0 zS a w ?_;rw[hE,hB];exact hs⟩
theorem St.drew{C:Ctx}{a:Act}{w:World}(h:St F C env J a w):St F C env J a {w with drawn:=w.drawn+1}:=by
 obtain⟨ρ,h⟩:=h;have hk:gL w {w with drawn:=w.drawn+1}:=⟨Nat.le_refl _,fun _ _=>rfl,rfl,rfl,.inl ⟨rfl,Nat.le_succ _⟩⟩;have bm:=Tr.qQ hk h.tr.ok;exact⟨ρ,h.step bm (fun t d hd=>bm.V (h.env t d hd)) rfl rfl⟩
theorem WP.Us{id:Nat}{l:List Oper}{ks:List Kind}(hm:P.follows .mixedOrders=true)(af:kM l.toArray ks=true)(h:dt P F.N l.toArray (fun e o=>Q .normal e o) l ks env J):WP P F (.region id l.toArray true) Q env J:=⟨fun C a w hs=>by
 obtain⟨E,B,ds,ht,hE,hB,hK⟩:=h.trace;refine wpIn_region_any hm ?_;have ib:=hs.drew;obtain⟨ρ,ib⟩:=ib;have hl:∀j,¬hJ (Array.replicate l.toArray.size false) j:=by
  intro j hj;unfold hJ at hj;rw[Array.getElem?_replicate]at hj;split at hj<;>simp at hj
 refine Trace.any (ops:=l.toArray) (C:=C) (by simpa using ht) af (fun a w hs=>⟨E l.length,B l.length,hK,by simpa using hs⟩) _ _ a _ zS ?_ ⟨ρ,0,?_,?_,Nat.zero_le _,?_,?_,?_,ib.size,ib.keep,by rw[hB];exact ib.marks,ib.rd,ib.yl,ib.gl⟩
 ·unfold todo;exact Nat.le_trans (List.length_filter_le _ _) zS
 ·intro j o _ hj;exact absurd hj (hl j)
 ·intro j _;exact⟨fun h=>absurd h (hl j),fun h=>by omega⟩
 ·rw[hB];exact ib.tr
 ·intro t d _ hd;rw[hE]at hd;rw[hB];exact ib.env t d hd
 ·intro j o t _ hj;exact absurd hj (hl j)⟩
theorem anj{ι:Type}{G:Fence}{n:Nat}{R:Exit→Act→World→Prop}{c:Code}(I:ι→Act→World→Prop)(m:ι→Nat){a:Act}{w:World}(x0:ι)(h0:I x0 a w)
  (round:∀x a w,I x a w→c.wpIn G n P (Exit.then (fun a' w'=>∃x',m x'<m x∧I x' a' w') R) a w):(Code.loop c).wpIn G n P R a w:=by
 intro b k cs zG hb hr;have key:∀j x a w,m x=j→I x a w→∃e a' w',R e a' w'∧ArrivesIn (Machine.fenced P G) P (lone (b.atR a (.code c::.inLoop c::k)) cs w) b k cs e a' w':=by
  intro j;induction j using Nat.strongRecOn with
  |_ j ih=>
   intro x a w hn hI;obtain⟨e,yK,AV,hq,vy⟩:=round x a w hI b (.inLoop c::k) cs zG hb hr;cases e with
   |normal=>
    obtain⟨x',bN,acr⟩:=hq;obtain⟨aa4,WS,anr,ac6,act⟩:=ih (m x') (hn▸bN) x' yK AV rfl acr;exact⟨aa4,WS,anr,ac6,.of_steps (StepsIn.trans vy (.one (fenced_calm hb hr rfl) stepR_inLoop)) act⟩
   |exit id=>exact⟨_,yK,AV,hq,.pass (x:=.inLoop c) rfl (fun _ _=>.inl zS) vy⟩
   |goto l=>exact⟨_,yK,AV,hq,.pass (x:=.inLoop c) rfl (fun _ _=>.inl zS) vy⟩
   |ret=>exact⟨_,yK,AV,hq,.pass (x:=.inLoop c) rfl (fun _ _=>.inl zS) vy⟩
   |panic ch=>exact⟨_,yK,AV,hq,.pass (x:=.inLoop c) rfl (fun _ _=>.inl zS) vy⟩
   |outgrown=>exact⟨_,yK,AV,hq,.pass (x:=.inLoop c) rfl (fun _ _=>.inl zS) vy⟩
 obtain⟨e,a',w',hq,vy⟩:=key _ x0 a w rfl h0;exact⟨e,a',w',hq,.of_steps (.one (fenced_calm hb hr rfl) stepR_loop) vy⟩
theorem WP.loop{ι:Type}{c:Code}(E:ι→Env)(B:ι→aa)(m:ι→Nat)(x0:ι)(h0:Le F env J (E x0) (B x0))
  (round:∀x,WP P F c (kr (fun e o=>∃x',m x'<m x∧Le F e o (E x') (B x')) Q) (E x) (B x)):WP P F (.loop c) Q env J:=⟨fun C a w hs=>by
 refine anj (fun x a w=>St F C (E x) (B x) a w) m x0 (h0.out C a w hs) ?_;intro x a w hx;refine wpIn_mono ((round x).out C a w hx) ?_;rintro e a' w' ⟨aS,ai,hq,ib⟩;cases e with
 |normal=>
  obtain⟨x',bN,gv⟩:=hq;exact⟨x',bN,gv.out C a' w' ib⟩
 |_=>exact⟨aS,ai,hq,ib⟩⟩
end
structure Fc(P:Program)(f:FuncId)(args:List D)(r:D):Prop where
 out:∀w O ρ vals,(∀b,O b→b<w.heap.size)→Gl w O→Vs w O ρ args vals→Calls P f vals.toArray w (fun e w'=>∃v,e=.returned v∧V w' O ρ r v∧gL w w')
def mc:List D→Nat→Env
 |[],_=>[]
 |d::ds,i=>(i,d)::mc ds (i+1)
def getAll(env:Env):List Nat→Option (List D)
 |[]=>some []
 |t::ts=>match env.get t,getAll env ts with
  |some d,some ds=>some (d::ds)
  |_,_=>none
def s5:List D→D
 |[d]=>d
 |ds=>.bl ds
def wu(ts:List Nat)(r:D):Exit→Env→aa→Prop
 |.ret,env,_|.normal,env,_=>∃ds,getAll env ts=some ds∧Sub (s5 ds) r
 |_,_,_=>False
theorem M0{w:World}{O:Nat→Prop}{ρ:aC}:∀(ds:List D)(vs:List Value)(i:Nat),Vs w O ρ ds vs→∀t d,(mc ds i).get t=some d→∃k v,t=i+k∧vs[k]?=some v∧V w O ρ d v
 |[],_,_,_,t,d,h=>by simp[mc,Env.get]at h
 |d::ds,vs,i,hv,t,d',h=>by
  simp only[Vs]at hv;obtain⟨u,us,rfl,h1,h2⟩:=hv;simp only[mc,Env.bf]at h;by_cases e:i=t
  ·rw[if_pos e]at h;cases h;exact⟨0,u,by omega,by simp,h1⟩
  ·rw[if_neg e]at h;obtain⟨k,v,h3,h4,h5⟩:=M0 ds us (i+1) h2 t d' h;exact⟨k+1,v,by omega,by simpa using h4,h5⟩
theorem Ez{w:World}{O:Nat→Prop}{ρ:aC}{env:Env}{tmps:Array Value}(he:∀t d,env.get t=some d→V w O ρ d (tmps.getD t undef)):
  ∀(ts:List Nat)(ds:List D),getAll env ts=some ds→Vs w O ρ ds (ts.map fun t=>tmps.getD t undef)
 |[],ds,h=>by simp only[getAll,Option.some.injEq]at h;subst h;simp[Vs]
 |t::ts,ds,h=>by
  simp only[getAll]at h;split at h
  ·rename_i d fg h1 h2;simp only[Option.some.injEq]at h;subst h;simp only[List.map_cons,Vs];exact⟨_,_,rfl,he t d h1,Ez he ts fg h2⟩
  ·cases h
def Uy:List Value→Value
 |[v]=>v
 |vs=>.tuple vs.toArray
def C1(ts:List Nat)(tmps:Array Value):Value:=Uy (ts.map fun t=>tmps.getD t undef)
theorem Vs.res{w:World}{O:Nat→Prop}{ρ:aC}{ds:List D}{vs:List Value}(h:Vs w O ρ ds vs):V w O ρ (s5 ds) (Uy vs):=by
 match ds,vs,h with
 |[],vs,h=>simp only[Vs]at h;subst h;exact⟨#[],rfl,by simp[Vs]⟩
 |[d],vs,h=>
  simp only[Vs]at h;obtain⟨u,us,rfl,h1,rfl⟩:=h;exact h1
 |d::d'::ds,vs,h=>
  have h0:=h;simp only[Vs]at h;obtain⟨u,us,rfl,h1,u',yA,rfl,h2⟩:=h;exact⟨_,rfl,h0⟩
theorem Vy{P:Program}{fn:Func}{tmps:Array Value}{R:Ending→World→Prop}{n:Nat}{O:Nat→Prop}:∀(ds:List Deferred)(w:World),Marks n w O ds→
  (∀w',w.heap.size=w'.heap.size→(∀b,b<w.heap.size→(b<n∨O b∨∃o,w.heap[b]?=some o∧LP o=true)→w'.heap[b]?=w.heap[b]?)→w'.os=w.os→w'.output=w.output∧iU w w'→∃v,(results fn tmps).run P w'=.ok v w'∧R (.returned v) w')→LeavesInM Fence.wide 0 P fn tmps R ds .returning w
 |[],w,hm,h=>by
  obtain⟨v,h1,h2⟩:=h w rfl (fun _ _ _=>rfl) rfl ⟨rfl,iU.eq rfl rfl⟩;simp only[LeavesInM];exact⟨v,h1,h2⟩
 |d::ds,w,hm,h=>by
  obtain⟨r,rfl,h2,h3,h4,h5⟩:=hm.at_ d List.mem_cons_self;refine⟨by simp,.inl ⟨r,w.putObj r (.deferred none),rfl,run_takeDeferred h5,?_⟩⟩;have tZ:=List.pairwise_cons.1 hm.apart;refine Vy (n:=n) (O:=O) ds _ ⟨fun e he=>?_,tZ.2⟩ ?_
  ·obtain⟨r',rfl,g2,g3,g4,g5⟩:=hm.at_ e (List.mem_cons_of_mem _ he);have aG:r'≠r:=fun e'=>tZ.1 _ he r rfl (by rw[e']);exact⟨r',rfl,g2,by simpa using g3,g4,by rw[World.putObj_heap_other aG];exact g5⟩
  ·intro w' e1 e2 e3 e4;refine h w' (by simpa using e1) (fun b hb hc=>?_) e3 e4;have aG:b≠r:=by
    rintro rfl;rcases hc with hc|hc|⟨o,hc,hs⟩
    ·omega
    ·exact h4 hc
    ·rw[h5]at hc;cases hc;cases hs
   have:=e2 b (by simpa using hb) (by rw[World.putObj_heap_other aG];exact hc);rw[this,World.putObj_heap_other aG]
theorem St.begin{args:List D}{vals:List Value}{N:Nat}{w:World}{O:Nat→Prop}{ρ:aC}{pre:aa}(KL:Nat)(hN:KL=N)(hn:args.length≤N)(af:di w O ρ pre)(dH:Gl w (Ot O ρ pre))(hv:Vs w (Ot O ρ pre) ρ args vals)(ps:List Nat)(yl:Option (Nat×Nat))(hyl:∀i b,yl=some (i,b)→i∈ps∧∃l,ρ i=some l∧l.b=b):
  qf ⟨N,ps,false,yl⟩ ⟨O,w,ρ,pre,none⟩ (mc args 0) pre {tmps:=vals.toArray++Array.replicate (KL-vals.toArray.size) undef,defers:=[]} w ρ:=by
 have hlen:=hv.length;refine⟨fun _ _ _ h=>h,iw.refl af,?_,by rw[hN];simp;omega,Marks.nil ..,fun _=>rfl,hyl,dH⟩;intro t d hd;obtain⟨k,v,h1,h2,h3⟩:=M0 args vals 0 hv t d hd;have hk:k<vals.length:=(List.getElem?_eq_some_iff.1 h2).1;have:(vals.toArray++Array.replicate (KL-vals.toArray.size) undef).getD t undef=v:=by
  obtain rfl:t=k:=by omega
  rw[Array.getD_eq_getD_getElem?,Array.getElem?_append_left (by simpa using hk)];simp[h2]
 rw[this];exact h3
theorem A'{P:Program}{f:FuncId}{fn:Func}{c:Code}{w:World}{args:Array Value}{Q:Exit→Env→aa→Prop}{N:Nat}{ps:List Nat}{yl:Option (Nat×Nat)}{env:Env}{pre:aa}{O:Nat→Prop}{ρ:aC}{R:Ending→World→Prop}(hf:P.funcs[f]?=some fn)(hb:fn.body=some c)
  (h:WP P ⟨N,ps,false,yl⟩ c Q env pre)(bd:qf ⟨N,ps,false,yl⟩ ⟨O,w,ρ,pre,none⟩ env pre {tmps:=args++Array.replicate (fn.ntmps-args.size) undef,defers:=[]} w ρ)
  (hQ:∀e aS ai,Q e aS ai→(e=.ret∨e=.normal))
  (hR:∀e aS ai tmps w' aw,Q e aS ai→(∀i,i∈ps→∀l,ρ i=some l→aw i=some l)→iw O w ρ pre w' aw ai→(∀t d,aS.get t=some d→V w' (Ot O aw ai) aw d (tmps.getD t undef))→∃v,(results fn tmps).run P w'=.ok v w'∧R (.returned v) w'):
  Calls P f args w R:=by
 refine callsIn_wide.1 (callsIn_of_wp_marks (n:=0) hf hb trivial ?_);refine wpIn_mono (h.out _ _ w ⟨ρ,bd⟩) ?_;rintro e a' w' ⟨aS,ai,hq,aw,hs⟩;have fin:LeavesInM Fence.wide 0 P fn a'.tmps R a'.defers .returning w':=by
  refine Vy _ _ hs.marks ?_;intro wF e1 e2 e3 e4;have iG:∀b,b9 aw ai b∨O b→wF.heap[b]?=w'.heap[b]?:=by
   intro b hb;have bN:b<w'.heap.size:=by
    rcases hb with⟨i,o,l,h1,h2,h3,h4⟩|hb
    ·obtain⟨l',h5,_,h6⟩:=hs.tr.ok.own i o h1 h2;rw[h3]at h5;cases h5;exact h4▸h6.lt h2
    ·exact hs.tr.ok.lt b hb
   exact e2 b bN (.inr (.inl (hb.elim .inr .inl)))
  have hk:Kept w' (Ot O aw ai) wF (Ot O aw ai):=⟨Nat.le_of_eq e1,fun b hb ho=>⟨fun o e hs=>e2 b hb (.inr (.inr ⟨o,e,hs⟩)),ho⟩⟩;have bm:iw O w ρ pre wF aw ai:=by
   refine⟨Nat.le_trans hs.tr.size (Nat.le_of_eq e1),fun b hb ho=>?_,hs.tr.new,⟨fun b hb=>e1▸hs.tr.ok.lt b hb,hs.tr.ok.fresh,fun i o h1 h2=>?_,hs.tr.ok.inj⟩,e3.trans hs.tr.os.1,e4.1.trans hs.tr.os.2.1,hs.tr.os.2.2.trans e4.2⟩
   ·exact(e2 b (Nat.lt_of_lt_of_le hb hs.tr.size) (.inl hb)).trans (hs.tr.same b hb ho)
   ·obtain⟨l,h3,h4,h5⟩:=hs.tr.ok.own i o h1 h2;exact⟨l,h3,h4,h5.mono hk (bO.refl _) (iG _ (.inl ⟨i,o,l,h1,h2,h3,rfl⟩))⟩
  exact hR e aS ai a'.tmps wF aw hq hs.keep bm (fun t d hd=>V.mono hk (bO.refl _) _ _ (hs.env t d hd))
 rcases hQ e aS ai hq with rfl|rfl<;>exact fin
theorem Fc.of_wp{P:Program}{f:FuncId}{fn:Func}{c:Code}{args:List D}{r:D}(ts:List Nat)(hf:P.funcs[f]?=some fn)(hb:fn.body=some c){N:Nat}(hN:fn.ntmps=N)(hn:args.length≤N)(hp:D.bk.dw args=true)(hr:r.bk=true)
  (rE:∀tmps w,(results fn tmps).run P w=.ok (C1 ts tmps) w)(h:WP P ⟨N,[],false,none⟩ c (wu ts r) (mc args 0) []):Fc P f args r:=⟨fun w O ρ vals hO dH jC=>by
 have cz:∀b,¬b9 dX [] b:=fun b ⟨i,o,l,h1,_⟩=>by simp[aa.get]at h1
 have af:di w O dX []:=⟨hO,fun _ _=>rfl,fun i o h1=>by simp[aa.get]at h1,fun i j o o' l l' h1=>by simp[aa.get]at h1⟩;have hv:Vs w (Ot O dX []) dX args vals:=Vs.mono (Kept.eP fun b hb=>hb.elim _root_.id (fun g=>(cz b g).elim)) (bO.refl _) _ _ (Vs.pure args vals hp jC);refine A' hf hb h (St.begin fn.ntmps hN hn af (dH.mono (Kept.eP fun b hb=>hb.elim _root_.id (fun g=>(cz b g).elim))) hv [] none (fun _ _ e=>by cases e)) ?_ ?_
 ·intro e aS ai hq;cases e<;>first|exact .inl rfl|exact .inr rfl|exact hq.elim
 ·intro e aS ai tmps w' aw hq _ bm vA;have:∃ds,getAll aS ts=some ds∧Sub (s5 ds) r:=by cases e<;>first|exact hq|exact hq.elim
  obtain⟨ds,h1,h2⟩:=this;refine⟨_,rE _ _,_,rfl,?_,bm.size,fun b hb=>bm.same b hb (cz b),bm.os⟩;have h3:=h2.out _ _ _ _ (Vs.res (Ez vA ts ds h1));exact V.pure r _ hr (V.mono (O':=O) (Kept.eP fun b hb=>Or.inl hb) (bO.refl _) _ _ h3)⟩
def Env.lH(env:Env):List Operand→Option (List D)
 |[]=>some []
 |x::xs=>match env.op x,env.lH xs with
  |some d,some ds=>some (d::ds)
  |_,_=>none
theorem v8{w:World}{O:Nat→Prop}{ρ:aC}{env:Env}{a:Act}:∀(xs:List Operand)(ds:List D),env.lH xs=some ds→(∀x∈xs,∀d',env.op x=some d'→V w O ρ d' (a.eval x))→Vs w O ρ ds (xs.map a.eval)
 |[],ds,h,_=>by simp only[Env.lH,Option.some.injEq]at h;subst h;simp[Vs]
 |x::xs,ds,h,hv=>by
  simp only[Env.lH]at h;split at h
  ·rename_i d fg h1 h2;simp only[Option.some.injEq]at h;subst h;simp only[List.map_cons,Vs];exact⟨_,_,rfl,hv x List.mem_cons_self d h1,v8 xs fg h2 (fun y hy=>hv y (List.mem_cons_of_mem _ hy))⟩
  ·cases h
theorem aj{P:Program}{f:FuncId}{env:Env}{dst:Option Tmp}{ty:TypeId}{pos:String}{au:Array Edge}{g:Option (Nat×Bool)}{xs:List Operand}{tys:Array TypeId}{ds:List D}{r:D}
  (fy:∀(args:Array Value)(w:World),(callFunc f args).run P w=.ok (.enter f args) w)(hx:env.lH xs=some ds)(hf:Fc P f ds r)(J:aa):
  aq P ⟨dst,.call ⟨.value (.func f),xs.toArray,tys⟩,ty,pos,au,g⟩ env J r J:=by
 intro O ρ a w af dH hv;have mz:=v8 xs ds hx (fun x hx d' h=>hv x (by simp[Op.operands,Call.operands,hx]) d' h);have gw:(execOp a.eval ⟨dst,.call ⟨.value (.func f),xs.toArray,tys⟩,ty,pos,au,g⟩).run P w=.ok (.enter f (xs.map a.eval).toArray) w:=by
  have h1:execOp a.eval ⟨dst,.call ⟨.value (.func f),xs.toArray,tys⟩,ty,pos,au,g⟩=callFunc f (xs.map a.eval).toArray:=by
   simp[execOp,resolve,Deferred.ofValue,Act.eval,invoke,Bind.bind,Sem.bind,Pure.pure]
  rw[h1,fy]
 unfold Oper.wp;rw[gw];simp only[Oper.upon];refine Calls.mono (hf.out w (Ot O ρ J) ρ _ ?_ dH mz) ?_
 ·rintro b (hb|⟨i,o,l,h1,h2,h3,h4⟩)
  ·exact af.lt b hb
  ·obtain⟨l',h5,_,h6⟩:=af.own i o h1 h2;rw[h3]at h5;cases h5;exact h4▸h6.lt h2
 ·rintro e w' ⟨v,rfl,h1,h2⟩;exact⟨ρ,v,rfl,Tr.qQ h2 af,h1⟩
end Go.T
namespace Go.T
open Go
variable[bT]
abbrev ae:=List UInt8
@[reducible] def D.i(n:Int):D:=.raw (.int .i64 n)
@[reducible] def D.b(b:Bool):D:=.raw (.bool b)
theorem aq.val{P:Program}{o:Oper}{env:Env}{J:aa}{d:D}
  (h:∀(O:Nat→Prop)(ρ:aC)(a:Act)(w:World),di w O ρ J→(∀x∈o.op.operands.toList,∀d',env.op x=some d'→V w (Ot O ρ J) ρ d' (a.eval x))→∃v,(execOp a.eval o).run P w=.ok (.value v) w∧V w (Ot O ρ J) ρ d v):aq P o env J d J:=by
 intro O ρ a w af _ hv;obtain⟨v,h1,h2⟩:=h O ρ a w af hv;unfold Oper.wp;rw[h1];exact⟨ρ,v,rfl,Tr.refl af,h2⟩
theorem wB(s:ae):(⟨s.toArray⟩:ByteArray).toList=s:=by
 have key:∀(n i:Nat)(r:List UInt8),s.length-i=n→ByteArray.toList.loop ⟨s.toArray⟩ i r=r.reverse++s.drop i:=by
  intro n;induction n with
  |zero=>
   intro i r h;unfold ByteArray.toList.loop;have:¬i<(⟨s.toArray⟩:ByteArray).size:=by simp[ByteArray.size];omega
   rw[if_neg this,List.drop_of_length_le zO];simp
  |succ n ih=>
   intro i r h;unfold ByteArray.toList.loop;have hi:i<s.length:=by omega
   have:i<(⟨s.toArray⟩:ByteArray).size:=by simp[ByteArray.size];omega
   rw[if_pos this,ih (i+1) _ zO,List.drop_eq_getElem_cons hi];simp[ByteArray.get!,hi]
 unfold ByteArray.toList;rw[key _ 0 [] rfl];simp
theorem M8(s t:ae):(s==t)=decide (s=t):=by
 by_cases h:s=t<;>simp[h]
theorem cg{P:Program}{t:TypeId}{d:TypeDesc}(h:P.underlying t=some d)(w:World):(underlying t).run P w=.ok d w:=by
 simp[underlying,h]
theorem UJ{P:Program}{t:TypeId}(hu:P.underlying t=some .bool)(a b:Bool)(w:World):(Op.equal t (.bool a) (.bool b)).run P w=.ok (a==b) w:=by
 show(Op.equalIn (9999+1) t (.bool a) (.bool b)).run P w=_;rw[Op.equalIn];simp[cg hu]
section
variable{P:Program} {env:Env} {dst:Option Tmp} {ty:TypeId} {pos:String} {au:Array Edge} {g:Option (Nat×Bool)}
theorem bG{x:Operand}{d:D}(hx:env.op x=some d)(J:aa):aq P ⟨dst,.move x,ty,pos,au,g⟩ env J d J:=
 .val fun _ _ a _ _ hv=>⟨a.eval x,rfl,hv x (by simp[Op.operands]) d hx⟩
theorem Ax{x:Operand}{d:D}(hx:env.op x=some d)(J:aa):aq P ⟨dst,.assign x,ty,pos,au,g⟩ env J d J:=
 .val fun _ _ a _ _ hv=>⟨a.eval x,rfl,hv x (by simp[Op.operands]) d hx⟩
theorem aix{x:Operand}(J:aa):aq P ⟨dst,.move x,ty,pos,au,g⟩ env J .any J:=
 .val fun _ _ a _ _ _=>⟨a.eval x,rfl,by simp[V]⟩
theorem qV{c x y:Operand}{b:Bool}{d:D}(hc:env.op c=some (.raw (.bool b)))(hb:b=true)(hx:env.op x=some d)(J:aa):aq P ⟨dst,.pick c x y,ty,pos,au,g⟩ env J d J:=
 .val fun _ _ a w _ hv=>⟨a.eval x,by
  have:=hv c (by simp[Op.operands]) _ hc;simp only[V]at this;simp[execOp,this,hb,asBool],hv x (by simp[Op.operands]) d hx⟩
theorem C0{c x y:Operand}{b:Bool}{d:D}(hc:env.op c=some (.raw (.bool b)))(hb:b=false)(hx:env.op y=some d)(J:aa):aq P ⟨dst,.pick c x y,ty,pos,au,g⟩ env J d J:=
 .val fun _ _ a w _ hv=>⟨a.eval y,by
  have:=hv c (by simp[Op.operands]) _ hc;simp only[V]at this;simp[execOp,this,hb,asBool],hv y (by simp[Op.operands]) d hx⟩
theorem pw{op:BinOp}{t t':TypeId}{x y:Operand}{u v r:Value}(hx:env.op x=some (.raw u))(hy:env.op y=some (.raw v))
  (hr:∀w,(eqGuard op t x y u v).run P w=.ok () w∧(binOp op t u v).run P w=.ok r w)(J:aa):aq P ⟨dst,.binOp op t x y t',ty,pos,au,g⟩ env J (.raw r) J:=
 .val fun _ _ a w _ hv=>⟨r,by
  have h1:=hv x (by simp[Op.operands]) _ hx;have h2:=hv y (by simp[Op.operands]) _ hy;simp only[V]at h1 h2;have h3:=hr w;simp[execOp,h1,h2,h3.1,h3.2],by simp[V]⟩
theorem qw(op:BinOp)(t:TypeId)(x y:Operand)(k k':IntKind)(n m:Int)(w:World):(eqGuard op t x y (.int k n) (.int k' m)).run P w=.ok () w:=by
 cases op<;>rfl
theorem PZ(op:BinOp)(t:TypeId)(x y:Operand)(s s':ByteArray)(w:World):(eqGuard op t x y (.string s) (.string s')).run P w=.ok () w:=by
 cases op<;>rfl
theorem PY(op:BinOp)(t:TypeId)(x y:Operand)(b b':Bool)(w:World):(eqGuard op t x y (.bool b) (.bool b')).run P w=.ok () w:=by
 cases op<;>rfl
theorem cn{t t':TypeId}{x y:Operand}{k:IntKind}{n m r:Int}(hx:env.op x=some (.raw (.int k n)))(hy:env.op y=some (.raw (.int k m)))(h:k.wrap (n+m)=r)(J:aa):
  aq P ⟨dst,.binOp .add t x y t',ty,pos,au,g⟩ env J (.raw (.int k r)) J:=pw hx hy (fun w=>⟨qw ..,by simp[binOp,Op.intArith,h]⟩) J
theorem fp{t t':TypeId}{x y:Operand}{k:IntKind}{n m r:Int}(hx:env.op x=some (.raw (.int k n)))(hy:env.op y=some (.raw (.int k m)))(h:k.wrap (n-m)=r)(J:aa):
  aq P ⟨dst,.binOp .sub t x y t',ty,pos,au,g⟩ env J (.raw (.int k r)) J:=pw hx hy (fun w=>⟨qw ..,by simp[binOp,Op.intArith,h]⟩) J
theorem wh{t t':TypeId}{x y:Operand}{k:IntKind}{n m r:Int}(hx:env.op x=some (.raw (.int k n)))(hy:env.op y=some (.raw (.int k m)))(h:k.wrap (n*m)=r)(J:aa):
  aq P ⟨dst,.binOp .mul t x y t',ty,pos,au,g⟩ env J (.raw (.int k r)) J:=pw hx hy (fun w=>⟨qw ..,by simp[binOp,Op.intArith,h]⟩) J
theorem oJ{t t':TypeId}{x y:Operand}{k:IntKind}{n m r:Int}(hx:env.op x=some (.raw (.int k n)))(hy:env.op y=some (.raw (.int k m)))(hm:m≠0)(h:k.wrap (n.tdiv m)=r)(J:aa):
  aq P ⟨dst,.binOp .quo t x y t',ty,pos,au,g⟩ env J (.raw (.int k r)) J:=pw hx hy (fun w=>⟨qw ..,by simp[binOp,Op.intDiv,h,hm]⟩) J
theorem qW{t t':TypeId}{x y:Operand}{k:IntKind}{n m r:Int}(hx:env.op x=some (.raw (.int k n)))(hy:env.op y=some (.raw (.int k m)))(hm:m≠0)(h:n.tmod m=r)(J:aa):
  aq P ⟨dst,.binOp .rem t x y t',ty,pos,au,g⟩ env J (.raw (.int k r)) J:=pw hx hy (fun w=>⟨qw ..,by simp[binOp,Op.intDiv,h,hm]⟩) J
theorem bY{t t':TypeId}{x y:Operand}{k:IntKind}{n m:Int}(hx:env.op x=some (.raw (.int k n)))(hy:env.op y=some (.raw (.int k m)))(J:aa):
  aq P ⟨dst,.binOp .lss t x y t',ty,pos,au,g⟩ env J (.raw (.bool (decide (n<m)))) J:=pw hx hy (fun w=>⟨qw ..,by simp[binOp,Op.intCmp]⟩) J
theorem Lp{t t':TypeId}{x y:Operand}{k:IntKind}{n m:Int}(hx:env.op x=some (.raw (.int k n)))(hy:env.op y=some (.raw (.int k m)))(J:aa):
  aq P ⟨dst,.binOp .leq t x y t',ty,pos,au,g⟩ env J (.raw (.bool (decide (n≤m)))) J:=pw hx hy (fun w=>⟨qw ..,by simp[binOp,Op.intCmp]⟩) J
theorem ju{t t':TypeId}{x y:Operand}{k:IntKind}{n m:Int}(hx:env.op x=some (.raw (.int k n)))(hy:env.op y=some (.raw (.int k m)))(J:aa):
  aq P ⟨dst,.binOp .gtr t x y t',ty,pos,au,g⟩ env J (.raw (.bool (decide (m<n)))) J:=pw hx hy (fun w=>⟨qw ..,by simp[binOp,Op.intCmp]⟩) J
theorem tm{t t':TypeId}{x y:Operand}{k:IntKind}{n m:Int}(hx:env.op x=some (.raw (.int k n)))(hy:env.op y=some (.raw (.int k m)))(J:aa):
  aq P ⟨dst,.binOp .geq t x y t',ty,pos,au,g⟩ env J (.raw (.bool (decide (m≤n)))) J:=pw hx hy (fun w=>⟨qw ..,by simp[binOp,Op.intCmp]⟩) J
theorem l5{t t':TypeId}{x y:Operand}{k:IntKind}{n m:Int}(hx:env.op x=some (.raw (.int k n)))(hy:env.op y=some (.raw (.int k m)))(J:aa):
  aq P ⟨dst,.binOp .eql t x y t',ty,pos,au,g⟩ env J (.raw (.bool (decide (n=m)))) J:=pw hx hy (fun w=>⟨qw ..,by simp[binOp,Op.intCmp];rfl⟩) J
theorem wi{t t':TypeId}{x y:Operand}{k:IntKind}{n m:Int}(hx:env.op x=some (.raw (.int k n)))(hy:env.op y=some (.raw (.int k m)))(J:aa):
  aq P ⟨dst,.binOp .neq t x y t',ty,pos,au,g⟩ env J (.raw (.bool (decide (n≠m)))) J:=pw hx hy (fun w=>⟨qw ..,by simp[binOp,Op.intCmp,bne];rfl⟩) J
def ae.lt(s t:ae):Bool:=Op.bytesLess s t
theorem Ay{op:BinOp}{t t':TypeId}{x y:Operand}{s s':ae}{r:Value}(hx:env.op x=some (.str s))(hy:env.op y=some (.str s'))
  (hr:∀w,(binOp op t (.string ⟨s.toArray⟩) (.string ⟨s'.toArray⟩)).run P w=.ok r w)(J:aa):aq P ⟨dst,.binOp op t x y t',ty,pos,au,g⟩ env J (.raw r) J:=
 .val fun _ _ a w _ hv=>⟨r,by
  have h1:=hv x (by simp[Op.operands]) _ hx;have h2:=hv y (by simp[Op.operands]) _ hy;simp only[V]at h1 h2;have h3:=hr w;simp[execOp,h1.1,h2.1,PZ,h3],by simp[V]⟩
theorem Az{t t':TypeId}{x y:Operand}{s s':ae}(hx:env.op x=some (.str s))(hy:env.op y=some (.str s'))(J:aa):
  aq P ⟨dst,.binOp .eql t x y t',ty,pos,au,g⟩ env J (.raw (.bool (decide (s=s')))) J:=Ay hx hy (fun w=>by simp[binOp,Op.stringOp,wB,M8]) J
theorem Uk{t t':TypeId}{x y:Operand}{s s':ae}(hx:env.op x=some (.str s))(hy:env.op y=some (.str s'))(J:aa):
  aq P ⟨dst,.binOp .neq t x y t',ty,pos,au,g⟩ env J (.raw (.bool (decide (s≠s')))) J:=Ay hx hy (fun w=>by simp[binOp,Op.stringOp,wB,M8]) J
theorem Uh{t t':TypeId}{x y:Operand}{s s':ae}(hx:env.op x=some (.str s))(hy:env.op y=some (.str s'))(J:aa):
  aq P ⟨dst,.binOp .lss t x y t',ty,pos,au,g⟩ env J (.raw (.bool (ae.lt s s'))) J:=Ay hx hy (fun w=>by simp[binOp,Op.stringOp,wB,ae.lt]) J
theorem bytesLess_eq(s t:ae):(Op.bytesLess s t||s==t)=!Op.bytesLess t s:=by
 induction s generalizing t with
 |nil=>cases t<;>simp[Op.bytesLess]
 |cons a s ih=>
  cases t with
  |nil=>simp[Op.bytesLess]
  |cons b t=>
   have:=ih t;rcases Nat.lt_trichotomy a.toNat b.toNat with h|h|h
   ·have h1:a<b:=UInt8.lt_iff_toNat_lt.2 h;have h2:¬b<a:=fun e=>by have:=UInt8.lt_iff_toNat_lt.1 e;omega
    have h3:¬b=a:=fun e=>by subst e;omega
    simp[Op.bytesLess,h1,h2,h3]
   ·have h1:a=b:=UInt8.toNat_inj.1 h;subst h1;have h2:¬a<a:=fun e=>by have:=UInt8.lt_iff_toNat_lt.1 e;omega
    simpa[Op.bytesLess,h2]using this
   ·have h1:b<a:=UInt8.lt_iff_toNat_lt.2 h;have h2:¬a<b:=fun e=>by have:=UInt8.lt_iff_toNat_lt.1 e;omega
    have h3:¬a=b:=fun e=>by subst e;omega
    simp[Op.bytesLess,h1,h2,h3]
theorem Ud{t t':TypeId}{x y:Operand}{s s':ae}(hx:env.op x=some (.str s))(hy:env.op y=some (.str s'))(J:aa):
  aq P ⟨dst,.binOp .gtr t x y t',ty,pos,au,g⟩ env J (.raw (.bool (ae.lt s' s))) J:=Ay hx hy (fun w=>by simp[binOp,Op.stringOp,wB,ae.lt,bytesLess_eq]) J
theorem ain{t t':TypeId}{x y:Operand}{s s':ae}(hx:env.op x=some (.str s))(hy:env.op y=some (.str s'))(J:aa):
  aq P ⟨dst,.binOp .geq t x y t',ty,pos,au,g⟩ env J (.raw (.bool (!ae.lt s s'))) J:=Ay hx hy (fun w=>by simp[binOp,Op.stringOp,wB,ae.lt]) J
theorem aiq{t t':TypeId}{x y:Operand}{s s':ae}(hx:env.op x=some (.str s))(hy:env.op y=some (.str s'))(J:aa):
  aq P ⟨dst,.binOp .leq t x y t',ty,pos,au,g⟩ env J (.raw (.bool (!ae.lt s' s))) J:=Ay hx hy (fun w=>by simp[binOp,Op.stringOp,wB,ae.lt,bytesLess_eq]) J
theorem yg{t t':TypeId}{x y:Operand}{s s' r:ae}(hx:env.op x=some (.str s))(hy:env.op y=some (.str s'))(hl:s.length+s'.length≤aH)(hr:s++s'=r)(J:aa):
  aq P ⟨dst,.binOp .add t x y t',ty,pos,au,g⟩ env J (.str r) J:=
 .val fun _ _ a w _ hv=>⟨.string ⟨r.toArray⟩,by
  have g1:=hv x (by simp[Op.operands]) _ hx;have g2:=hv y (by simp[Op.operands]) _ hy;simp only[V]at g1 g2;have h1:¬((((⟨s.toArray⟩:ByteArray).size+(⟨s'.toArray⟩:ByteArray).size:Nat):Int)>IntKind.i64.max):=by
   have:IntKind.i64.max=9223372036854775807:=rfl;unfold aH at hl;rw[this];simp[ByteArray.size];omega
  have h2:(⟨s.toArray⟩:ByteArray)++⟨s'.toArray⟩=⟨r.toArray⟩:=by
   apply ByteArray.ext;rw[ByteArray.data_append,←hr];simp
  simp only[execOp,g1.1,g2.1,Sem.run_bind,PZ,Result.andThen_ok,binOp,Op.stringOp,if_neg h1,Sem.run_pure,h2],by
  simp only[V];exact⟨trivial,by rw[←hr,List.length_append];exact hl⟩⟩
theorem aij{t t':TypeId}{x y:Operand}{b b':Bool}(hu:P.underlying t=some .bool)(hx:env.op x=some (.raw (.bool b)))(hy:env.op y=some (.raw (.bool b')))(J:aa):
  aq P ⟨dst,.binOp .eql t x y t',ty,pos,au,g⟩ env J (.raw (.bool (b==b'))) J:=pw hx hy (fun w=>⟨PY ..,by simp[binOp,UJ hu]⟩) J
theorem Uj{t t':TypeId}{x y:Operand}{b b':Bool}(hu:P.underlying t=some .bool)(hx:env.op x=some (.raw (.bool b)))(hy:env.op y=some (.raw (.bool b')))(J:aa):
  aq P ⟨dst,.binOp .neq t x y t',ty,pos,au,g⟩ env J (.raw (.bool (b !=b'))) J:=pw hx hy (fun w=>⟨PY ..,by simp[binOp,UJ hu,bne]⟩) J
theorem aiD{t:TypeId}{x:Operand}{b:Bool}(hx:env.op x=some (.raw (.bool b)))(J:aa):aq P ⟨dst,.unOp .not t x,ty,pos,au,g⟩ env J (.raw (.bool (!b))) J:=
 .val fun _ _ a w _ hv=>⟨.bool (!b),by
  have h1:=hv x (by simp[Op.operands]) _ hx;simp only[V]at h1;simp[execOp,h1,Op.unary],by simp[V]⟩
theorem F7{t:TypeId}{x:Operand}{k:IntKind}{n r:Int}(hx:env.op x=some (.raw (.int k n)))(h:k.wrap (0-n)=r)(J:aa):aq P ⟨dst,.unOp .neg t x,ty,pos,au,g⟩ env J (.raw (.int k r)) J:=
 .val fun _ _ a w _ hv=>⟨.int k r,by
  have h1:=hv x (by simp[Op.operands]) _ hx;simp only[V]at h1;simp[execOp,h1,Op.unary,Op.intArith]at h⊢;rw[h],by simp[V]⟩
theorem F5{s t:TypeId}{x:Operand}{k k':IntKind}{n r:Int}{u:TypeDesc}(hs:P.underlying s=some u)(ht:P.underlying t=some (.int k'))(hx:env.op x=some (.raw (.int k n)))(h:k'.wrap n=r)(J:aa):
  aq P ⟨dst,.convert s t x,ty,pos,au,g⟩ env J (.raw (.int k' r)) J:=
 .val fun _ _ a w _ hv=>⟨.int k' r,by
  have h1:=hv x (by simp[Op.operands]) _ hx;simp only[V]at h1;simp[execOp,h1,convert,cg hs,cg ht,Conv.intToInt,h],by simp[V]⟩
theorem aif{s t:TypeId}{x:Operand}{b:ae}{u:TypeDesc}(hs:P.underlying s=some u)(ht:P.underlying t=some .string)(hx:env.op x=some (.str b))(J:aa):
  aq P ⟨dst,.convert s t x,ty,pos,au,g⟩ env J (.str b) J:=
 .val fun _ _ a w _ hv=>⟨.string ⟨b.toArray⟩,by
  have h1:=hv x (by simp[Op.operands]) _ hx;simp only[V]at h1;simp[execOp,h1.1,convert,cg hs,cg ht],by
  have h1:=hv x (by simp[Op.operands]) _ hx;simp only[V]at h1⊢;exact⟨trivial,h1.2⟩⟩
theorem iJ{x:Operand}{i:Nat}{ds:List D}{d:D}(hx:env.op x=some (.bl ds))(hd:ds[i]?=some d)(J:aa):aq P ⟨dst,.extract x i,ty,pos,au,g⟩ env J d J:=
 .val fun _ _ a w _ hv=>by
  have h1:=hv x (by simp[Op.operands]) _ hx;simp only[V]at h1;obtain⟨vs,e,h2⟩:=h1;obtain⟨v,h3,h4⟩:=h2.get i d hd;have h5:vs[i]?=some v:=by simpa using h3
  exact⟨v,by simp[execOp,e,Instr.extract,h5],h4⟩
theorem Lu{fn:Go.Fn}{xs ys:List Operand}{as bs:List D}(hx:env.lH xs=some as)(hy:env.lH ys=some bs)(J:aa):aq P ⟨dst,.makeFunc fn xs.toArray ys.toArray,ty,pos,au,g⟩ env J (.fn fn as bs) J:=
 .val fun _ _ a w _ hv=>by
  have h1:=v8 (a:=a) xs as hx (fun x hx d' h=>hv x (by simp[Op.operands,hx]) d' h);have h2:=v8 (a:=a) ys bs hy (fun x hx d' h=>hv x (by simp[Op.operands,hx]) d' h);exact⟨.func fn (xs.map a.eval).toArray (ys.map a.eval).toArray,by simp[execOp,Instr.makeFunc],_,_,rfl,h1,h2⟩
theorem aiB{x:Operand}{f:FuncId}{as bs:List D}(hx:env.op x=some (.fn (.func f) as bs))(J:aa):aq P ⟨dst,.nilCheck x,ty,pos,au,g⟩ env J (.fn (.func f) as bs) J:=
 .val fun _ _ a w _ hv=>by
  have h1:=hv x (by simp[Op.operands]) _ hx;have tY:=h1;simp only[V]at h1;obtain⟨us,vs,e,_⟩:=h1;exact⟨a.eval x,by simp[execOp,e],tY⟩
theorem yi{x:Operand}{i o:Nat}(hx:env.op x=some (.box i o))(J:aa):aq P ⟨dst,.nilCheck x,ty,pos,au,g⟩ env J (.box i o) J:=
 .val fun _ _ a w _ hv=>by
  have h1:=hv x (by simp[Op.operands]) _ hx;have tY:=h1;simp only[V]at h1;obtain⟨l,_,e⟩:=h1;exact⟨a.eval x,by simp[execOp,e],tY⟩
theorem aiC{x:Operand}{cs:List D}(hx:env.op x=some (.bz cs))(J:aa):aq P ⟨dst,.nilCheck x,ty,pos,au,g⟩ env J (.bz cs) J:=
 .val fun _ _ a w _ hv=>by
  have h1:=hv x (by simp[Op.operands]) _ hx;have tY:=h1;simp only[V]at h1;obtain⟨b,off,e,_⟩:=h1;exact⟨a.eval x,by simp[execOp,e],tY⟩
theorem ko{t:TypeId}{x:Operand}{s:ae}(hu:P.underlying t=some .string)(hx:env.op x=some (.str s))(J:aa):aq P ⟨dst,.call ⟨.builtin .len,#[x],#[t]⟩,ty,pos,au,g⟩ env J (.raw (.int .i64 s.length)) J:=
 .val fun _ _ a w _ hv=>⟨.int .i64 s.length,by
  have h1:=hv x (by simp[Op.operands,Call.operands]) _ hx;simp only[V]at h1;have aY:(⟨s.toArray⟩:ByteArray).size=s.length:=by simp[ByteArray.size]
  simp[execOp,resolve,invoke,builtin,Builtin.len_,h1.1,cg hu,goInt,aY],by simp[V]⟩
theorem rS{t:TypeId}{x i:Operand}{s:ae}{k:IntKind}{n:Int}{c:UInt8}(hu:P.underlying t=some .string)(hx:env.op x=some (.str s))(hi:env.op i=some (.raw (.int k n)))(h0:0≤n)(hc:s[n.toNat]?=some c)(J:aa):
  aq P ⟨dst,.index t x i,ty,pos,au,g⟩ env J (.raw (.int .u8 c.toNat)) J:=
 .val fun _ _ a w _ hv=>⟨.int .u8 c.toNat,by
  have h1:=hv x (by simp[Op.operands]) _ hx;have h2:=hv i (by simp[Op.operands]) _ hi;simp only[V]at h1 h2;have h3:(⟨s.toArray⟩:ByteArray)[n.toNat]?=some c:=by
   obtain⟨hl,he⟩:=List.getElem?_eq_some_iff.1 hc;have:n.toNat<(⟨s.toArray⟩:ByteArray).size:=by simpa[ByteArray.size]using hl
   rw[getElem?_pos (⟨s.toArray⟩:ByteArray) n.toNat this]
   congr 1
  simp[execOp,Instr.index,h1.1,h2,asIntOf,cg hu,h0,h3],by simp[V]⟩
theorem aa3(s:ae)(l h:Nat):(⟨s.toArray⟩:ByteArray).extract l h=⟨((s.drop l).take (h-l)).toArray⟩:=by
 apply ByteArray.ext;rw[ByteArray.data_extract];simp[List.extract_toArray]
theorem Dd(k:IntKind)(n y:Nat)(code:BoundsCode)(h:n≤y)(w:World):(Instr.sliceBound (.int k n) y code).run P w=.ok n w:=by
 simp[Instr.sliceBound,asIntOf,h]
theorem wj{t:TypeId}{x:Operand}{lo hi:Option Operand}{s r:ae}{l h:Nat}(hu:P.underlying t=some .string)(hx:env.op x=some (.str s))
  (hl:(lo=none∧l=0)∨∃y k,lo=some y∧env.op y=some (.raw (.int k (l:Int))))(hh:(hi=none∧h=s.length)∨∃y k,hi=some y∧env.op y=some (.raw (.int k (h:Int))))
  (Jn:l≤h)(Qx:h≤s.length)(hr:(s.drop l).take (h-l)=r)(J:aa):
  aq P ⟨dst,.slice t x lo hi none,ty,pos,au,g⟩ env J (.str r) J:=
 .val fun _ _ a w _ hv=>⟨.string ⟨r.toArray⟩,by
  have h1:=hv x (by simp[Op.operands]) _ hx;simp only[V]at h1;have e1:lo.map a.eval=none∧l=0∨∃k,lo.map a.eval=some (.int k l):=by
   rcases hl with⟨rfl,e⟩|⟨y,k,rfl,e⟩
   ·exact .inl ⟨rfl,e⟩
   ·have h2:=hv y (by simp[Op.operands]) _ e;simp only[V]at h2;exact .inr ⟨k,by simp[h2]⟩
  have e2:hi.map a.eval=none∧h=s.length∨∃k,hi.map a.eval=some (.int k h):=by
   rcases hh with⟨rfl,e⟩|⟨y,k,rfl,e⟩
   ·exact .inl ⟨rfl,e⟩
   ·have h2:=hv y (by simp[Op.operands]) _ e;simp only[V]at h2;exact .inr ⟨k,by simp[h2]⟩
  have aY:(⟨s.toArray⟩:ByteArray).size=s.length:=by simp[ByteArray.size]
  have vB:=aa3 s l h;rw[hr]at vB;have hb:(Instr.sliceBounds false s.length s.length (lo.map a.eval) (hi.map a.eval) none).run P w=.ok (l,h,s.length) w:=by
   rcases e1 with⟨e1,rfl⟩|⟨k1,e1⟩<;>rcases e2 with⟨e2,rfl⟩|⟨k2,e2⟩<;>
    simp[Instr.sliceBounds,e1,e2,Dd,Qx,Jn]
  simp[execOp,Instr.sliceAt,Instr.slice,cg hu,h1.1,aY,hb,vB],by
  have h1:=hv x (by simp[Op.operands]) _ hx;simp only[V]at h1⊢;exact⟨trivial,by rw[←hr];simp;omega⟩⟩
theorem addr_add(b off n:Nat):(⟨b,off,none⟩:Addr).add n=⟨b,off+n,none⟩:=by
 unfold Addr.add;split<;>simp_all
theorem Vc.get{w:World}{O:Nat→Prop}{b:Nat}:∀(ds:List D)(off:Nat),Vc w O b off ds→∀(i:Nat)(d:D),ds[i]?=some d→∃v,w.cell? ⟨b,off+i,none⟩=some v∧V w O dX d v
 |[],off,h,i,d,e=>by simp at e
 |d::ds,off,h,i,d',e=>by
  simp only[Vc]at h;obtain⟨⟨u,h1,h2⟩,h3⟩:=h;cases i with
  |zero=>simp only[List.getElem?_cons_zero,Option.some.injEq]at e;subst e;exact⟨u,h1.1,h2⟩
  |succ i=>
   obtain⟨v,h4,h5⟩:=Vc.get ds (off+1) h3 i d' (by simpa using e);exact⟨v,by rw[show off+(i+1)=off+1+i by omega];exact h4,h5⟩
theorem Vc.drop{w:World}{O:Nat→Prop}{b:Nat}:∀(n:Nat)(ds:List D)(off:Nat),Vc w O b off ds→Vc w O b (off+n) (ds.drop n)
 |0,ds,off,h=>by simpa using h
 |n+1,[],off,h=>by simp[Vc]
 |n+1,d::ds,off,h=>by
  simp only[Vc]at h;have:=Vc.drop n ds (off+1) h.2;rw[show off+(n+1)=off+1+n by omega];simpa using this
theorem Vc.take{w:World}{O:Nat→Prop}{b:Nat}:∀(n:Nat)(ds:List D)(off:Nat),Vc w O b off ds→Vc w O b off (ds.take n)
 |0,ds,off,h=>by simp[Vc]
 |n+1,[],off,h=>by simp[Vc]
 |n+1,d::ds,off,h=>by
  simp only[Vc,List.take_succ_cons]at h⊢;exact⟨h.1,Vc.take n ds (off+1) h.2⟩
theorem Vr.get{w:World}{O:Nat→Prop}{b sz:Nat}:∀(rs:List (List D))(off:Nat),Vr w O b off sz rs→∀(i:Nat)(r:List D),rs[i]?=some r→r.length=sz∧Vc w O b (off+i*sz) r
 |[],off,h,i,r,e=>by simp at e
 |r::rs,off,h,i,r',e=>by
  simp only[Vr]at h;cases i with
  |zero=>simp only[List.getElem?_cons_zero,Option.some.injEq]at e;subst e;simpa using h.1
  |succ i=>
   have:=Vr.get rs (off+sz) h.2 i r' (by simpa using e);rw[show off+(i+1)*sz=off+sz+i*sz by rw[Nat.add_mul];omega];exact this
theorem Vr.drop{w:World}{O:Nat→Prop}{b sz:Nat}:∀(n:Nat)(rs:List (List D))(off:Nat),Vr w O b off sz rs→Vr w O b (off+n*sz) sz (rs.drop n)
 |0,rs,off,h=>by simpa using h
 |n+1,[],off,h=>by simp[Vr]
 |n+1,r::rs,off,h=>by
  simp only[Vr]at h;have:=Vr.drop n rs (off+sz) h.2;rw[show off+(n+1)*sz=off+sz+n*sz by rw[Nat.add_mul];omega];simpa using this
theorem Vr.take{w:World}{O:Nat→Prop}{b sz:Nat}:∀(n:Nat)(rs:List (List D))(off:Nat),Vr w O b off sz rs→Vr w O b off sz (rs.take n)
 |0,rs,off,h=>by simp[Vr]
 |n+1,[],off,h=>by simp[Vr]
 |n+1,r::rs,off,h=>by
  simp only[Vr,List.take_succ_cons]at h⊢;exact⟨h.1,Vr.take n rs (off+sz) h.2⟩
theorem run_loadCells{w:World}{O:Nat→Prop}{b:Nat}(ds:List D):∀(off i:Nat)(acc:Array Value),Vc w O b (off+i) ds→
  ∃us,(∀w',w'.heap=w.heap→(loadCellsFrom ⟨b,off,none⟩ i ds.length acc).run P w'=.ok (acc++us.toArray) w')∧Vs w O dX ds us∧∀u∈us,u.oneCell'=true:=by
 induction ds with
 |nil=>intro off i acc _;exact⟨[],by simp[loadCellsFrom],by simp[Vs],by simp⟩
 |cons d ds ih=>
  intro off i acc h;simp only[Vc]at h;obtain⟨⟨u,h1,h2⟩,h3⟩:=h;obtain⟨us,h4,h5,h6⟩:=ih off (i+1) (acc.push u) (by rw[show off+(i+1)=off+i+1 by omega];exact h3);refine⟨u::us,?_,?_,?_⟩
  ·intro w' he;have h7:w'.cell? ⟨b,off+i,none⟩=some u:=by rw[←h1.1];simp[World.cell?,he]
   simp only[List.length_cons,loadCellsFrom,addr_add,Sem.run_bind,run_load,h7,Result.andThen_ok,h4 w' he];simp
  ·simp only[Vs];exact⟨u,us,rfl,h2,h5⟩
  ·intro v hv;cases hv with
   |head=>exact h1.2
   |tail _ hm=>exact h6 v hm
theorem AK(ρ:aC):bO dX ρ:=fun _ _ h=>by simp[dX]at h
theorem V.AJ{w:World}{O:Nat→Prop}{ρ:aC}{d:D}{v:Value}(h:V w O dX d v):V w O ρ d v:=V.mono (Kept.refl _ _) (AK ρ) d v h
theorem Vs.AJ{w:World}{O:Nat→Prop}{ρ:aC}{ds:List D}{vs:List Value}(h:Vs w O dX ds vs):Vs w O ρ ds vs:=Vs.mono (Kept.refl _ _) (AK ρ) ds vs h
theorem cG{t:TypeId}{x:Operand}{d:D}{cs:List D}(ht:∀w,(isAgg t).run P w=.ok false w)(hx:env.op x=some (.bz (d::cs)))(J:aa):aq P ⟨dst,.load t x,ty,pos,au,g⟩ env J d J:=
 .val fun _ _ a w _ hv=>by
  have h1:=hv x (by simp[Op.operands]) _ hx;simp only[V]at h1;obtain⟨b,off,e,_,h2⟩:=h1;simp only[Vc]at h2;obtain⟨⟨u,h3,h4⟩,_⟩:=h2;exact⟨u,by simp[execOp,Instr.loadAt,e,Instr.sureAddr,loadVar,ht,h3.1],h4.AJ⟩
theorem p7{t:TypeId}{x:Operand}{cs:List D}{n:Nat}(ht:∀w,(isAgg t).run P w=.ok true w)(hs:∀w,(sizeOf t).run P w=.ok n w)(hx:env.op x=some (.bz cs))(hn:cs.length=n)(J:aa):aq P ⟨dst,.load t x,ty,pos,au,g⟩ env J (.agg cs) J:=
 .val fun _ _ a w _ hv=>by
  have h1:=hv x (by simp[Op.operands]) _ hx;simp only[V]at h1;obtain⟨b,off,e,_,h2⟩:=h1;obtain⟨us,h3,h4,_⟩:=run_loadCells (P:=P) cs off 0 #[] (by simpa using h2);refine⟨.agg us.toArray,?_,?_⟩
  ·rw[hn]at h3;simp[execOp,Instr.loadAt,e,Instr.sureAddr,loadVar,ht,hs,loadCells,h3 w rfl]
  ·simp only[V];exact⟨_,rfl,by simpa using h4.AJ⟩
theorem air{t:TypeId}{x:Operand}{cs ds:List D}{n:Nat}(ht:∀w,(isAgg t).run P w=.ok true w)(hs:∀w,(sizeOf t).run P w=.ok n w)(hx:env.op x=some (.bz cs))(hn:n≤cs.length)(hd:cs.take n=ds)(J:aa):aq P ⟨dst,.load t x,ty,pos,au,g⟩ env J (.agg ds) J:=
 .val fun _ _ a w _ hv=>by
  have h1:=hv x (by simp[Op.operands]) _ hx;simp only[V]at h1;obtain⟨b,off,e,_,h2⟩:=h1;have P1:=h2.take n;rw[hd]at P1;have pf:ds.length=n:=by rw[←hd];simp;omega
  obtain⟨us,h3,h4,_⟩:=run_loadCells (P:=P) ds off 0 #[] (by simpa using P1);refine⟨.agg us.toArray,?_,?_⟩
  ·rw[pf]at h3;simp[execOp,Instr.loadAt,e,Instr.sureAddr,loadVar,ht,hs,loadCells,h3 w rfl]
  ·simp only[V];exact⟨_,rfl,by simpa using h4.AJ⟩
theorem oH{t:TypeId}{x:Operand}{f n:Nat}{fs:Array Field}{cs ds:List D}(ft:TypeId)(fo:Nat)(hu:P.underlying t=some (.struct fs))(hs:∀w,(sizeOf ft).run P w=.ok (n+1) w)(hf:(fs[f]?).map (fun x=>(x.type,x.offset))=some (ft,fo))(hx:env.op x=some (.bz cs))(hd:cs.drop fo=ds)(J:aa):
  aq P ⟨dst,.fieldAddr t x f,ty,pos,au,g⟩ env J (.bz ds) J:=
 .val fun _ _ a w _ hv=>by
  have h1:=hv x (by simp[Op.operands]) _ hx;simp only[V]at h1;obtain⟨b,off,e,ho,h2⟩:=h1;obtain⟨fl,dN,xw⟩:=Option.map_eq_some_iff.1 hf;cases xw;refine⟨.pointer (some ⟨b,off+fl.offset,none⟩),?_,?_⟩
  ·simp[execOp,Instr.fieldAt,e,cg hu,dN,Instr.sureAddr,fieldPlace,hs,addr_add]
  ·simp only[V];exact⟨b,_,rfl,ho,hd▸h2.drop fl.offset⟩
theorem iR{t e:TypeId}{x i:Operand}{k:IntKind}{n:Int}{sz:Nat}{ia:Bool}{rows:List (List D)}{r:List D}(hu:P.underlying t=some (.slice e))(hs:∀w,(sizeOf e).run P w=.ok sz w)(hx:env.op x=some (.snap sz ia rows))(hi:env.op i=some (.raw (.int k n)))(h0:0≤n)(hr:rows[n.toNat]?=some r)(J:aa):
  aq P ⟨dst,.indexAddr t x i,ty,pos,au,g⟩ env J (.bz r) J:=
 .val fun _ _ a w _ hv=>by
  have h1:=hv x (by simp[Op.operands]) _ hx;have h2:=hv i (by simp[Op.operands]) _ hi;simp only[V]at h1 h2;obtain⟨ad,cap,e1,h3,h4,h5⟩:=h1;have hl:n.toNat<rows.length:=(List.getElem?_eq_some_iff.1 hr).1;obtain⟨b,off,rfl,ho,h6⟩:=h5 (by intro h;simp[h]at hl);have h7:=(Vr.get rows off h6 n.toNat r hr).2;refine⟨.pointer (some ⟨b,off+n.toNat*sz,none⟩),?_,?_⟩
  ·have h8:n<(rows.length:Int):=by omega
   simp[execOp,Instr.indexAt,e1,h2,asIntOf,cg hu,h0,h8,hs,addr_add]
  ·simp only[V];exact⟨b,_,rfl,ho,h7⟩
theorem cC{t e:TypeId}{x:Operand}{sz:Nat}{ia:Bool}{rows:List (List D)}(hu:P.underlying t=some (.slice e))(hx:env.op x=some (.snap sz ia rows))(J:aa):aq P ⟨dst,.call ⟨.builtin .len,#[x],#[t]⟩,ty,pos,au,g⟩ env J (.raw (.int .i64 rows.length)) J:=
 .val fun _ _ a w _ hv=>⟨.int .i64 rows.length,by
  have h1:=hv x (by simp[Op.operands,Call.operands]) _ hx;simp only[V]at h1;obtain⟨ad,cap,e1,_⟩:=h1;simp[execOp,resolve,invoke,builtin,Builtin.len_,e1,cg hu,goInt],by simp[V]⟩
theorem uJ{t e:TypeId}{x:Operand}{id n:Nat}(hu:P.underlying t=some (.slice e))(hx:env.op x=some (.gs id n))(J:aa):aq P ⟨dst,.call ⟨.builtin .len,#[x],#[t]⟩,ty,pos,au,g⟩ env J (.raw (.int .i64 n)) J:=
 .val fun _ _ a w _ hv=>⟨.int .i64 n,by
  have h1:=hv x (by simp[Op.operands,Call.operands]) _ hx;simp only[V]at h1;have:∃ad cap,a.eval x=.slice ad n cap:=by
   rcases h1 with⟨rfl,ad,e1⟩|⟨_,l,_,e1⟩
   ·exact⟨_,_,e1⟩
   ·exact⟨_,_,e1⟩
  obtain⟨ad,cap,e1⟩:=this;simp[execOp,resolve,invoke,builtin,Builtin.len_,e1,cg hu,goInt],by simp[V]⟩
theorem aip{t e:TypeId}{x:Operand}{ad:Option Addr}{n c:Nat}(hu:P.underlying t=some (.slice e))(hx:env.op x=some (.raw (.slice ad n c)))(J:aa):aq P ⟨dst,.call ⟨.builtin .len,#[x],#[t]⟩,ty,pos,au,g⟩ env J (.raw (.int .i64 n)) J:=
 .val fun _ _ a w _ hv=>⟨.int .i64 n,by
  have h1:=hv x (by simp[Op.operands,Call.operands]) _ hx;simp only[V]at h1;simp[execOp,resolve,invoke,builtin,Builtin.len_,h1,cg hu,goInt],by simp[V]⟩
theorem kp{t e:TypeId}{x:Operand}{lo hi:Option Operand}{sz l h:Nat}{ia:Bool}{rows r:List (List D)}(hu:P.underlying t=some (.slice e))(hs:∀w,(sizeOf e).run P w=.ok sz w)(hx:env.op x=some (.snap sz ia rows))
  (hl:(lo=none∧l=0)∨∃y k,lo=some y∧env.op y=some (.raw (.int k (l:Int))))(hh:(hi=none∧h=rows.length)∨∃y k,hi=some y∧env.op y=some (.raw (.int k (h:Int))))
  (Jn:l≤h)(Qx:h≤rows.length)(hr:(rows.drop l).take (h-l)=r)(J:aa):
  aq P ⟨dst,.slice t x lo hi none,ty,pos,au,g⟩ env J (.snap sz false r) J:=
 .val fun _ _ a w _ hv=>by
  have h1:=hv x (by simp[Op.operands]) _ hx;simp only[V]at h1;obtain⟨ad,cap,e1,h3,h4,h5⟩:=h1;have Ee:lo.map a.eval=none∧l=0∨∃k,lo.map a.eval=some (.int k l):=by
   rcases hl with⟨rfl,e⟩|⟨y,k,rfl,e⟩
   ·exact .inl ⟨rfl,e⟩
   ·have h2:=hv y (by simp[Op.operands]) _ e;simp only[V]at h2;exact .inr ⟨k,by simp[h2]⟩
  have e2:hi.map a.eval=none∧h=rows.length∨∃k,hi.map a.eval=some (.int k h):=by
   rcases hh with⟨rfl,e⟩|⟨y,k,rfl,e⟩
   ·exact .inl ⟨rfl,e⟩
   ·have h2:=hv y (by simp[Op.operands]) _ e;simp only[V]at h2;exact .inr ⟨k,by simp[h2]⟩
  have ct:h≤cap:=by omega
  have I0:=h3.2;have hb:(Instr.sliceBounds true rows.length cap (lo.map a.eval) (hi.map a.eval) none).run P w=.ok (l,h,cap) w:=by
   rcases Ee with⟨Ee,rfl⟩|⟨k1,Ee⟩<;>rcases e2 with⟨e2,rfl⟩|⟨k2,e2⟩<;>
    simp[Instr.sliceBounds,Ee,e2,Dd,ct,Jn]
  have gO:r.length=h-l:=by rw[←hr];simp;omega
  refine⟨.slice (if cap=l then ad else ad.map (·.add (l*sz))) (h-l) (cap-l),?_,?_⟩
  ·simp[execOp,Instr.sliceAt,Instr.slice,cg hu,e1,hb,hs]
  ·simp only[V];refine⟨_,_,by rw[gO],⟨by omega,by omega⟩,by simp,fun aG=>?_⟩;have ac':rows≠[]:=by
    intro e;subst e;apply aG;rw[←hr];simp
   obtain⟨b,off,rfl,ho,h6⟩:=h5 ac';have eU:¬cap=l:=by
    intro e;apply aG;have:r.length=0:=by omega
    exact List.length_eq_zero_iff.1 this
   refine⟨b,off+l*sz,by simp[eU,addr_add],ho,?_⟩;rw[←hr];exact(h6.drop l).take (h-l)
theorem Lo{t:TypeId}{x:Operand}{f:Nat}{fs:Array Field}{cs:List D}{d:D}(ft:TypeId)(fo:Nat)(hu:P.underlying t=some (.struct fs))(ht:∀w,(isAgg ft).run P w=.ok false w)(hf:(fs[f]?).map (fun x=>(x.type,x.offset))=some (ft,fo))(hx:env.op x=some (.agg cs))(hd:cs[fo]?=some d)(J:aa):
  aq P ⟨dst,.field t x f,ty,pos,au,g⟩ env J d J:=
 .val fun _ _ a w _ hv=>by
  have h1:=hv x (by simp[Op.operands]) _ hx;simp only[V]at h1;obtain⟨vs,e,h2⟩:=h1;obtain⟨fl,dN,xw⟩:=Option.map_eq_some_iff.1 hf;cases xw;obtain⟨v,h3,h4⟩:=h2.get _ _ hd;have h5:vs[fl.offset]?=some v:=by simpa using h3
  exact⟨v,by simp[execOp,Instr.field,cg hu,dN,asAgg,e,part,ht,h5],h4⟩
theorem aim{t:TypeId}{x:Operand}{f n:Nat}{fs:Array Field}{cs ds:List D}(ft:TypeId)(fo:Nat)(hu:P.underlying t=some (.struct fs))(ht:∀w,(isAgg ft).run P w=.ok true w)(hs:∀w,(sizeOf ft).run P w=.ok n w)(hf:(fs[f]?).map (fun x=>(x.type,x.offset))=some (ft,fo))(hx:env.op x=some (.agg cs))(hn:fo+n≤cs.length)(hd:(cs.drop fo).take n=ds)(J:aa):
  aq P ⟨dst,.field t x f,ty,pos,au,g⟩ env J (.agg ds) J:=
 .val fun O ρ a w _ hv=>by
  have h1:=hv x (by simp[Op.operands]) _ hx;simp only[V]at h1;obtain⟨vs,e,h2⟩:=h1;obtain⟨fl,dN,xw⟩:=Option.map_eq_some_iff.1 hf;cases xw;refine⟨.agg (vs.extract fl.offset (fl.offset+n)),?_,?_⟩
  ·simp[execOp,Instr.field,cg hu,dN,asAgg,e,part,ht,hs]
  ·simp only[V];refine⟨_,rfl,?_⟩;rw[Array.toList_extract,List.extract_eq_take_drop,←hd,Nat.add_sub_cancel_left];exact tk n (dr fl.offset h2)
where
 dr {w:World} {O:Nat→Prop} {ρ:aC}:∀(n:Nat){ds:List D}{vs:List Value},Vs w O ρ ds vs→Vs w O ρ (ds.drop n) (vs.drop n)
  |0,ds,vs,h=>by simpa using h
  |n+1,[],vs,h=>by simp only[Vs]at h;subst h;simp[Vs]
  |n+1,d::ds,vs,h=>by
   simp only[Vs]at h;obtain⟨u,us,rfl,h1,h2⟩:=h;simpa using dr n h2
 tk {w:World} {O:Nat→Prop} {ρ:aC}:∀(n:Nat){ds:List D}{vs:List Value},Vs w O ρ ds vs→Vs w O ρ (ds.take n) (vs.take n)
  |0,ds,vs,h=>by simp[Vs]
  |n+1,[],vs,h=>by simp only[Vs]at h;subst h;simp[Vs]
  |n+1,d::ds,vs,h=>by
   simp only[Vs]at h;obtain⟨u,us,rfl,h1,h2⟩:=h;simp only[List.take_succ_cons,Vs];exact⟨u,us.take n,rfl,h1,tk n h2⟩
end
end Go.T
namespace Go.T
open Go
variable[bT]
def cv(ρ:aC)(i:Nat)(l:Loc):aC:=fun j=>if j=i then some l else ρ j
theorem lr(ρ:aC)(i:Nat)(l:Loc):cv ρ i l i=some l:=by simp[cv]
theorem qc{ρ:aC}{i j:Nat}{l:Loc}(h:j≠i):cv ρ i l j=ρ j:=by simp[cv,h]
theorem wE{ρ:aC}{i:Nat}(l:Loc)(h:ρ i=none):bO ρ (cv ρ i l):=by
 intro j x hj;by_cases e:j=i
 ·subst e;rw[h]at hj;cases hj
 ·rw[qc e];exact hj
theorem di.block{w:World}{O:Nat→Prop}{ρ:aC}{J:aa}(h:di w O ρ J){b:Nat}(hb:b9 ρ J b):b<w.heap.size∧¬O b:=by
 obtain⟨i,o,l,h1,h2,h3,h4⟩:=hb;obtain⟨l',h5,h6,h7⟩:=h.own i o h1 h2;rw[h3]at h5;cases h5;exact h4▸⟨h7.lt h2,h6⟩
theorem Tr.born{O:Nat→Prop}{w:World}{ρ:aC}{J dn:aa}{id:Nat}{o:Ob}{l:Loc}(af:di w O ρ J)(hid:J.get id=none)(bw:Obj)(hl:l.b=w.heap.size)
  (eV:∀i x,dn.get i=some x→x.live=true→J.get i=some x)(acG:∀i,dn.get i=none→J.get i=none)
  (lA:Kept w (Ot O ρ J) {w with heap:=w.heap.push bw} (Ot O (cv ρ id l) ((id,o)::dn))→iV {w with heap:=w.heap.push bw} (Ot O (cv ρ id l) ((id,o)::dn)) (cv ρ id l) l o):
  Tr O w ρ J {w with heap:=w.heap.push bw} (cv ρ id l) ((id,o)::dn):=by
 have nG:ρ id=none:=af.fresh id hid;have qH:∀b,b<w.heap.size→(w.heap.push bw)[b]?=w.heap[b]?:=by
  intro b hb;rw[Array.getElem?_push];rw[if_neg zO]
 have xC:∀b,b9 (cv ρ id l) ((id,o)::dn) b→b9 ρ J b∨b=w.heap.size:=by
  rintro b ⟨i,x,l',h1,h2,h3,h4⟩;rw[aa.bf]at h1;by_cases e:id=i
  ·subst e;rw[lr]at h3;cases h3;exact .inr (h4.symm.trans hl)
  ·rw[if_neg e]at h1;rw[qc (Ne.symm e)]at h3;exact .inl ⟨i,x,l',eV i x h1 h2,h2,h3,h4⟩
 have xz:Kept w (Ot O ρ J) {w with heap:=w.heap.push bw} (Ot O (cv ρ id l) ((id,o)::dn)):=by
  refine⟨by simp,fun b hb ho=>⟨fun _ _ _=>qH b hb,?_⟩⟩;rintro(g|g)
  ·exact ho (.inl g)
  ·rcases xC b g with g|g
   ·exact ho (.inr g)
   ·omega
 refine⟨wE l nG,by simp,fun b hb _=>qH b hb,fun b hb=>?_,⟨fun b hb=>by have:=af.lt b hb;simp;omega,?_,?_,?_⟩,rfl,rfl,iU.eq rfl rfl⟩
 ·rcases xC b hb with g|g
  ·exact .inl g
  ·exact .inr (Nat.le_of_eq g.symm)
 ·intro i hi;rw[aa.bf]at hi;by_cases e:id=i
  ·simp[e]at hi
  ·rw[if_neg e]at hi;rw[qc (Ne.symm e)];exact af.fresh i (acG i hi)
 ·intro i x h1 h2;rw[aa.bf]at h1;by_cases e:id=i
  ·subst e;simp only[if_true,Option.some.injEq]at h1;subst h1;refine⟨l,lr ..,fun hb=>?_,lA xz⟩;have:=af.lt _ hb;omega
  ·rw[if_neg e]at h1;obtain⟨l',h3,h4,h5⟩:=af.own i x (eV i x h1 h2) h2;exact⟨l',by rw[qc (Ne.symm e)];exact h3,h4,h5.mono xz (wE l nG) (qH _ (h5.lt h2))⟩
 ·intro i j x x' l1 l2 h1 h2 h3 h4 h5 h6 h7;rw[aa.bf]at h1 h2;have oC:∀i x l',dn.get i=some x→x.live=true→ρ i=some l'→l'.b<w.heap.size:=by
   intro i x l' a b c;exact(af.block ⟨i,x,l',eV i x a b,b,c,rfl⟩).1
  by_cases e1:id=i<;>by_cases e2:id=j
  ·omega
  ·exfalso;rw[if_neg e2]at h2;rw[qc (Ne.symm e2)]at h6;have:=oC j x' l2 h2 h4 h6;subst e1;rw[lr]at h5;cases h5;omega
  ·exfalso;rw[if_neg e1]at h1;rw[qc (Ne.symm e1)]at h5;have:=oC i x l1 h1 h3 h5;subst e2;rw[lr]at h6;cases h6;omega
  ·rw[if_neg e1]at h1;rw[if_neg e2]at h2;rw[qc (Ne.symm e1)]at h5;rw[qc (Ne.symm e2)]at h6;exact af.inj i j x x' l1 l2 (eV i x h1 h3) (eV j x' h2 h4) h3 h4 h5 h6 h7
theorem Tr.cv{O:Nat→Prop}{w:World}{ρ:aC}{J:aa}{id:Nat}{o o':Ob}{l:Loc}(af:di w O ρ J)(fA:J.get id=some o)(dT:o.live=true)(nG:ρ id=some l)(bw:Obj)
  (lA:Kept w (Ot O ρ J) {w with heap:=w.heap.setIfInBounds l.b bw} (Ot O ρ (J.set id o'))→iV {w with heap:=w.heap.setIfInBounds l.b bw} (Ot O ρ (J.set id o')) ρ l o'):
  Tr O w ρ J {w with heap:=w.heap.setIfInBounds l.b bw} ρ (J.set id o'):=by
 have mu:∀b,b9 ρ (J.set id o') b→b9 ρ J b:=by
  rintro b ⟨i,x,l',h1,h2,h3,h4⟩;rw[aa.eG]at h1;by_cases e:id=i
  ·subst e;exact⟨id,o,l',fA,dT,h3,h4⟩
  ·rw[if_neg e]at h1;exact⟨i,x,l',h1,h2,h3,h4⟩
 have ke:b9 ρ J l.b:=⟨id,o,l,fA,dT,nG,rfl⟩;have qH:∀b,b≠l.b→(w.heap.setIfInBounds l.b bw)[b]?=w.heap[b]?:=by
  intro b hb;rw[Array.getElem?_setIfInBounds,if_neg (Ne.symm hb)]
 have xz:Kept w (Ot O ρ J) {w with heap:=w.heap.setIfInBounds l.b bw} (Ot O ρ (J.set id o')):=by
  refine⟨by simp,fun b hb ho=>⟨fun _ _ _=>qH b (fun e=>ho (.inr (e▸ke))),fun g=>ho (g.imp _root_.id (mu b))⟩⟩
 refine⟨bO.refl _,by simp,fun b _ ho=>qH b (fun e=>ho (e▸ke)),fun b hb=>.inl (mu b hb),⟨fun b hb=>by simpa using af.lt b hb,?_,?_,?_⟩,rfl,rfl,iU.eq rfl rfl⟩
 ·intro i hi;rw[aa.eG]at hi;by_cases e:id=i
  ·simp[e]at hi
  ·rw[if_neg e]at hi;exact af.fresh i hi
 ·intro i x h1 h2;rw[aa.eG]at h1;by_cases e:id=i
  ·subst e;simp only[if_true,Option.some.injEq]at h1;subst h1;exact⟨l,nG,(af.block ke).2,lA xz⟩
  ·rw[if_neg e]at h1;obtain⟨l',h3,h4,h5⟩:=af.own i x h1 h2;refine⟨l',h3,h4,h5.mono xz (bO.refl _) (qH _ fun e'=>e ?_)⟩;exact af.inj id i o x l l' fA h1 dT h2 nG h3 e'.symm
 ·intro i j x x' l1 l2 h1 h2 h3 h4 h5 h6 h7;rw[aa.eG]at h1 h2;by_cases e1:id=i<;>by_cases e2:id=j
  ·omega
  ·rw[if_neg e2]at h2;subst e1;exact af.inj id j o x' l1 l2 fA h2 dT h4 h5 h6 h7
  ·rw[if_neg e1]at h1;subst e2;exact af.inj i id x o l1 l2 h1 fA h3 dT h5 h6 h7
  ·rw[if_neg e1]at h1;rw[if_neg e2]at h2;exact af.inj i j x x' l1 l2 h1 h2 h3 h4 h5 h6 h7
theorem Tr.rename{O:Nat→Prop}{w:World}{ρ:aC}{J:aa}{id bn:Nat}{o:Ob}{l:Loc}(af:di w O ρ J)(fA:J.get id=some o)(dT:o.live=true)(hid:J.get bn=none)(nG:ρ id=some l):
  Tr O w ρ J w (T.cv ρ bn l) ((bn,o)::J.set id .dead):=by
 have aG:id≠bn:=by rintro rfl;rw[fA]at hid;cases hid
 have zN:ρ bn=none:=af.fresh bn hid;have look:∀i x l',aa.get ((bn,o)::J.set id .dead) i=some x→x.live=true→T.cv ρ bn l i=some l'→(i=bn∧x=o∧l'=l)∨(i≠bn∧i≠id∧J.get i=some x∧ρ i=some l'):=by
  intro i x l' h1 h2 h3;rw[aa.bf]at h1;by_cases e:bn=i
  ·subst e;simp only[if_true,Option.some.injEq]at h1;rw[lr]at h3;cases h3;exact .inl ⟨rfl,h1.symm,rfl⟩
  ·rw[if_neg e,aa.eG]at h1;by_cases e2:id=i
   ·simp only[if_pos e2,Option.some.injEq]at h1;subst h1;simp[Ob.live]at h2
   ·rw[if_neg e2]at h1;rw[qc (Ne.symm e)]at h3;exact .inr ⟨Ne.symm e,Ne.symm e2,h1,h3⟩
 have mu:∀b,b9 (T.cv ρ bn l) ((bn,o)::J.set id .dead) b→b9 ρ J b:=by
  rintro b ⟨i,x,l',h1,h2,h3,h4⟩;rcases look i x l' h1 h2 h3 with⟨_,rfl,rfl⟩|⟨_,_,h5,h6⟩
  ·exact⟨id,x,l',fA,dT,nG,h4⟩
  ·exact⟨i,x,l',h5,h2,h6,h4⟩
 have hk:Kept w (Ot O ρ J) w (Ot O (T.cv ρ bn l) ((bn,o)::J.set id .dead)):=Kept.eP fun b=>Or.imp _root_.id (mu b);refine⟨wE l zN,Nat.le_refl _,fun _ _ _=>rfl,fun b hb=>.inl (mu b hb),⟨af.lt,?_,?_,?_⟩,rfl,rfl,iU.eq rfl rfl⟩
 ·intro i hi;rw[aa.bf]at hi;by_cases e:bn=i
  ·simp[e]at hi
  ·rw[if_neg e,aa.eG]at hi;by_cases e2:id=i
   ·simp[e2]at hi
   ·rw[if_neg e2]at hi;rw[qc (Ne.symm e)];exact af.fresh i hi
 ·intro i x h1 h2;rw[aa.bf]at h1;by_cases e:bn=i
  ·subst e;simp only[if_true,Option.some.injEq]at h1;subst h1;obtain⟨l',h3,h4,h5⟩:=af.own id o fA dT;rw[nG]at h3;cases h3;exact⟨l,lr ..,h4,h5.mono hk (wE l zN) rfl⟩
  ·rw[if_neg e,aa.eG]at h1;by_cases e2:id=i
   ·simp only[if_pos e2,Option.some.injEq]at h1;subst h1;simp[Ob.live]at h2
   ·rw[if_neg e2]at h1;obtain⟨l',h3,h4,h5⟩:=af.own i x h1 h2;exact⟨l',by rw[qc (Ne.symm e)];exact h3,h4,h5.mono hk (wE l zN) rfl⟩
 ·intro i j x x' l1 l2 h1 h2 h3 h4 h5 h6 h7;rcases look i x l1 h1 h3 h5 with⟨rfl,rfl,rfl⟩|⟨a1,a2,a3,a4⟩<;>rcases look j x' l2 h2 h4 h6 with⟨rfl,rfl,rfl⟩|⟨b1,b2,b3,b4⟩
  ·rfl
  ·exact absurd (af.inj id j x x' l1 l2 fA b3 dT h4 nG b4 h7).symm b2
  ·exact absurd (af.inj i id x x' l1 l2 a3 fA h3 dT a4 nG h7) a2
  ·exact af.inj i j x x' l1 l2 a3 b3 h3 h4 a4 b4 h7
def D.one:D→Bool
 |.raw v=>v.oneCell'
 |.str _=>true
 |.snap _ _ _|.bz _|.box _ _|.gs _ _|.nf _ _|.dj _|.fn _ _ _|.sc _ _ _|.pZ _ _ _|.gr _ _|.pj _ _=>true
 |_=>false
theorem V.one{w:World}{O:Nat→Prop}{ρ:aC}{d:D}{v:Value}(hd:d.one=true)(h:V w O ρ d v):v.oneCell'=true:=by
 cases d with
 |any=>simp[D.one]at hd
 |raw u=>simp only[V]at h;subst h;exact hd
 |str s=>simp only[V]at h;rw[h.1];rfl
 |agg ds=>simp[D.one]at hd
 |bl ds=>simp[D.one]at hd
 |snap sz f rows=>simp only[V]at h;obtain⟨a,c,rfl,_⟩:=h;rfl
 |bz cs=>simp only[V]at h;obtain⟨a,c,rfl,_⟩:=h;rfl
 |box i o=>simp only[V]at h;obtain⟨a,_,rfl⟩:=h;rfl
 |gs i n=>simp only[V]at h;rcases h with⟨_,a,rfl⟩|⟨_,l,_,rfl⟩<;>rfl
 |nf i o=>simp only[V]at h;obtain⟨a,_,rfl⟩:=h;rfl
 |dj i=>simp only[V]at h;obtain⟨a,_,rfl⟩:=h;rfl
 |fn f as bs=>simp only[V]at h;obtain⟨a,c,rfl,_⟩:=h;rfl
 |sc i o n=>simp only[V]at h;obtain⟨l,cap,_,rfl,_⟩:=h;rfl
 |pZ i o n=>simp only[V]at h;obtain⟨l,cap,_,rfl,_⟩:=h;rfl
 |gr i n=>simp only[V]at h;obtain⟨l,_,_,rfl⟩:=h;rfl
 |pj ks vs=>simp only[V]at h;obtain⟨b,es,rfl,_⟩:=h;rfl
theorem cells_one{v:Value}(h:v.oneCell'=true):v.cells=#[v]:=by
 cases v<;>first|rfl|simp[Value.oneCell']at h
def oD:List D→Bool
 |[]=>true
 |d::ds=>d.one&&oD ds
theorem Vs.one{w:World}{O:Nat→Prop}{ρ:aC}:∀{ds:List D}{vs:List Value},oD ds=true→Vs w O ρ ds vs→∀v∈vs,v.oneCell'=true
 |[],vs,_,h=>by simp only[Vs]at h;subst h;simp
 |d::ds,vs,hd,h=>by
  simp only[oD,Bool.and_eq_true]at hd;simp only[Vs]at h;obtain⟨u,us,rfl,h1,h2⟩:=h;intro v hv;cases hv with
  |head=>exact h1.one hd.1
  |tail _ hm=>exact Vs.one hd.2 h2 v hm
def setMany(c:Array Value)(k:Nat):List Value→Array Value
 |[]=>c
 |u::us=>setMany (c.setIfInBounds k u) (k+1) us
def mN(ds:List D)(k:Nat):List D→List D
 |[]=>ds
 |d::r=>mN (ds.set k d) (k+1) r
theorem C_(us:List Value):∀(c:Array Value)(k:Nat),(setMany c k us).size=c.size:=by
 induction us with
 |nil=>intro c k;rfl
 |cons u us ih=>intro c k;simp[setMany,ih]
theorem Vs.set{w:World}{O:Nat→Prop}{ρ:aC}{d:D}{v:Value}:∀{ds:List D}{vs:List Value}(k:Nat),Vs w O ρ ds vs→V w O ρ d v→Vs w O ρ (ds.set k d) (vs.set k v)
 |[],vs,k,h,_=>by simp only[Vs]at h;subst h;simp[Vs]
 |d'::ds,vs,k,h,hv=>by
  simp only[Vs]at h;obtain⟨u,us,rfl,h1,h2⟩:=h;cases k with
  |zero=>simp only[List.set_cons_zero,Vs];exact⟨v,us,rfl,hv,h2⟩
  |succ k=>simp only[List.set_cons_succ,Vs];exact⟨u,us.set k v,rfl,h1,Vs.set k h2 hv⟩
theorem Vs.setMany{w:World}{O:Nat→Prop}{ρ:aC}:∀{cs:List D}{us:List Value},Vs w O ρ cs us→∀{ds:List D}{c:Array Value}(k:Nat),Vs w O ρ ds c.toList→Vs w O ρ (mN ds k cs) (setMany c k us).toList
 |[],us,h,ds,c,k,hd=>by simp only[Vs]at h;subst h;simpa[mN,T.setMany]using hd
 |d::cs,us,h,ds,c,k,hd=>by
  simp only[Vs]at h;obtain⟨u,us,rfl,h1,h2⟩:=h;simp only[mN,T.setMany];exact Vs.setMany h2 (k+1) (by rw[Array.toList_setIfInBounds];exact Vs.set k hd h1)
theorem uO{P:Program}{b:Nat}{T:TypeId}:∀(us:List Value)(w:World)(c:Array Value)(off i:Nat),w.heap[b]?=some (.cells c T (0,0))→off+i+us.length≤c.size→(∀u∈us,u.oneCell'=true)→
  (storeCells ⟨b,off,none⟩ us i).run P w=.ok () {w with heap:=w.heap.setIfInBounds b (.cells (setMany c (off+i) us) T (0,0))}
 |[],w,c,off,i,hb,_,_=>by
  have bN:=(Array.getElem?_eq_some_iff.1 hb).1;have:w.heap.setIfInBounds b (.cells c T (0,0))=w.heap:=by
   apply Array.ext_getElem?;intro j;rw[Array.getElem?_setIfInBounds];split
   ·rename_i e;subst e;rw[hb]
   ·rfl
  simp[storeCells,setMany,this]
 |u::us,w,c,off,i,hb,hl,h1=>by
  have bN:=(Array.getElem?_eq_some_iff.1 hb).1;simp only[List.length_cons]at hl;have hc:∃x,w.cell? ⟨b,off+i,none⟩=some x:=by
   refine⟨c[off+i],?_⟩;simp[World.cell?,hb]
  obtain⟨x,hc⟩:=hc;have hf:w.frozen? ⟨b,off+i,none⟩=false:=by simp[World.frozen?,hb]
  have hw:w.setCell ⟨b,off+i,none⟩ u={w with heap:=w.heap.setIfInBounds b (.cells (c.setIfInBounds (off+i) u) T (0,0))}:=by
   unfold World.setCell
   congr 1
   apply Array.ext_getElem?;intro j;rw[Array.getElem?_modify,Array.getElem?_setIfInBounds];by_cases e:b=j
   ·subst e;rw[hb];simp[bN]
   ·simp[e]
  have ih:=uO (P:=P) (b:=b) (T:=T) us {w with heap:=w.heap.setIfInBounds b (.cells (c.setIfInBounds (off+i) u) T (0,0))} (c.setIfInBounds (off+i) u) off (i+1)
   (by simp[bN]) zQ (fun v hv=>h1 v (List.mem_cons_of_mem _ hv))
  simp only[storeCells,addr_add,Sem.run_bind,run_store _ _ _ _ _ (h1 u List.mem_cons_self),hc,hf,hw];simp only[Bool.false_eq_true,if_false,Result.andThen_ok,ih,setMany,Array.setIfInBounds_setIfInBounds,Nat.add_assoc]
end Go.T
