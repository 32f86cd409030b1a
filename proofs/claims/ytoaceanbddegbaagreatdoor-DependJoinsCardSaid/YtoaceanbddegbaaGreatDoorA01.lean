/-
  Contracts of the functions that the statement reaches, and the logic in which they are proved (no condition): parts Glob, Core1, Core2, Core3.
-/
import Derived.Calls
import Derived.Orders
import Derived.Laws.Sem
import Derived.OrdersIn
import Derived.RangeFuncLeaves
set_option linter.all false
namespace Go
theorem zO{p:Prop}(h:p:=by omega):p:=h
theorem zK{p:Prop}(h:p:=by decide+kernel):p:=h
theorem zS{p:Prop}(h:p:=by simp):p:=h
theorem zQ{p:Prop}(h:p:=by simp;omega):p:=h
theorem zD{p:Prop}(h:p:=by decide):p:=h
theorem zA{p:Prop}(h:p:=by assumption):p:=h
end Go
namespace Go.T
open Go
def F2:List Nat:=[1,10,100,1000,10000,100000,1000000,10000000,100000000,1000000000,10000000000,100000000000,1000000000000,10000000000000,100000000000000,1000000000000000,10000000000000000,100000000000000000,1000000000000000000,10000000000000000000]
@[reducible] def n_:TypeId:=5
@[reducible] def pK:TypeId:=251
def PX:List (Nat×List Value):=[(2,F2.map fun(n:Nat)=>Value.int .u64 (n:Int))]
def H4:List Nat:=[0,1]
class bT where
 z:Prop
instance(priority:=low) aqG:bT:=⟨True⟩
variable[bT]
def iU(w w':World):Prop:=(w'.tape=w.tape∧w.drawn≤w'.drawn)∨bT.z
theorem iU.eq{w w':World}(h:w'.tape=w.tape)(h':w'.drawn=w.drawn):iU w w':=.inl ⟨h,Nat.le_of_eq h'.symm⟩
theorem iU.trans{w w1 w2:World}(h:iU w w1)(h':iU w1 w2):iU w w2:=by
 rcases h with h|h
 ·rcases h' with h'|h'
  ·exact .inl ⟨h'.1.trans h.1,Nat.le_trans h.2 h'.2⟩
  ·exact .inr h'
 ·exact .inr h
structure Loc where
 b:Nat
 off:Nat
 cap:Nat
inductive D where
 |any
 |raw (v:Value)
 |str (s:List UInt8)
 |agg (cs:List D)
 |bl (ds:List D)
 |snap (sz:Nat) (ia:Bool) (rows:List (List D))
 |bz (cs:List D)
 |box (id off:Nat)
 |gs (id n:Nat)
 |nf (id off:Nat)
 |dj (id:Nat)
 |fn (f:Fn) (first apg:List D)
 |sc (id off n:Nat)
 |pZ (id off n:Nat)
 |gr (id n:Nat)
 |pj (ks vs:List D)
 deriving Inhabited
def aH:Nat:=1152921504606846976
abbrev aC:=Nat→Option Loc
def dX:aC:=fun _=>none
mutual
def V(w:World)(O:Nat→Prop)(ρ:aC):D→Value→Prop
 |.any,_=>True
 |.raw u,v=>v=u
 |.str s,v=>v=.string ⟨s.toArray⟩∧s.length≤aH
 |.agg ds,v=>∃vs,v=.agg vs∧Vs w O ρ ds vs.toList
 |.bl ds,v=>∃vs,v=.tuple vs∧Vs w O ρ ds vs.toList
 |.snap sz ia rows,v=>∃a cap,v=.slice a rows.length cap∧(rows.length≤cap∧rows.length≤aH)∧(ia=true→cap=rows.length)∧
   (rows≠[]→∃b off,a=some ⟨b,off,none⟩∧(b<w.heap.size∧¬O b)∧Vr w O b off sz rows)
 |.bz cs,v=>∃b off,v=.pointer (some ⟨b,off,none⟩)∧(b<w.heap.size∧¬O b)∧Vc w O b off cs
 |.box id off,v=>∃l,ρ id=some l∧v=.pointer (some ⟨l.b,off,none⟩)
 |.gs id n,v=>(n=0∧∃a,v=.slice a 0 0)∨(n≠0∧∃l,ρ id=some l∧v=.slice (some ⟨l.b,l.off,none⟩) n l.cap)
 |.nf id off,v=>∃l,ρ id=some l∧v=.pointer (some ⟨l.b,l.off+off,none⟩)
 |.dj id,v=>∃l,ρ id=some l∧v=.map (some l.b)
 |.fn f as bs,v=>∃us vs,v=.func f us vs∧Vs w O ρ as us.toList∧Vs w O ρ bs vs.toList
 |.sc id off n,v=>∃l cap,ρ id=some l∧v=.slice (some ⟨l.b,off,none⟩) n cap∧n≤cap
 |.pZ id off n,v=>∃l cap,ρ id=some l∧v=.slice (some ⟨l.b,l.off+off,none⟩) n cap∧n≤cap
 |.gr id n,v=>∃l,ρ id=some l∧n≤l.cap∧v=.slice (some ⟨l.b,l.off,none⟩) n l.cap
 |.pj ks vs,v=>∃b es,v=.map (some b)∧(b<w.heap.size∧¬O b)∧(w.heap[b]?=some (.map es ks.length)∧vs.length=ks.length∧∀(i:Nat) e,es[i]?=some e→e.born=i)∧Vs w O dX ks (es.toList.map (·.key))∧Vs w O dX vs (es.toList.map (·.val))
def Vs(w:World)(O:Nat→Prop)(ρ:aC):List D→List Value→Prop
 |[],vs=>vs=[]
 |d::ds,vs=>∃u us,vs=u::us∧V w O ρ d u∧Vs w O ρ ds us
def Vc(w:World)(O:Nat→Prop)(b off:Nat):List D→Prop
 |[]=>True
 |d::ds=>(∃u,(w.cell? ⟨b,off,none⟩=some u∧u.oneCell'=true)∧V w O dX d u)∧Vc w O b (off+1) ds
def Vr(w:World)(O:Nat→Prop)(b off sz:Nat):List (List D)→Prop
 |[]=>True
 |r::rs=>(r.length=sz∧Vc w O b off r)∧Vr w O b (off+sz) sz rs
end
def bO(ρ aw:aC):Prop:=∀i l,ρ i=some l→aw i=some l
theorem bO.refl(ρ:aC):bO ρ ρ:=fun _ _ h=>h
theorem bO.trans{a b c:aC}(h:bO a b)(h':bO b c):bO a c:=fun i l e=>h' i l (h i l e)
def LP:Obj→Bool
 |.cells _ _ _=>true
 |.map _ _=>true
 |_=>false
def Kept(w:World)(O:Nat→Prop)(w':World)(O':Nat→Prop):Prop:=
 w.heap.size≤w'.heap.size∧∀b,b<w.heap.size→¬O b→(∀o,w.heap[b]?=some o→LP o=true→w'.heap[b]?=w.heap[b]?)∧¬O' b
theorem Kept.oC{w:World}{O:Nat→Prop}{w':World}{O':Nat→Prop}(h:Kept w O w' O'){b:Nat}(hb:b<w.heap.size∧¬O b):b<w'.heap.size∧¬O' b:=
 ⟨Nat.lt_of_lt_of_le hb.1 h.1,(h.2 b hb.1 hb.2).2⟩
theorem Kept.trans{w w1 w2:World}{O O1 O2:Nat→Prop}(h:Kept w O w1 O1)(h':Kept w1 O1 w2 O2):Kept w O w2 O2:=
 ⟨Nat.le_trans h.1 h'.1,fun b hb ho=>⟨fun o e hs=>by
  have e1:=(h.2 b hb ho).1 o e hs;exact((h'.2 b (h.oC ⟨hb,ho⟩).1 (h.oC ⟨hb,ho⟩).2).1 o (e1.trans e) hs).trans e1,(h'.oC (h.oC ⟨hb,ho⟩)).2⟩⟩
theorem Kept.refl(w:World)(O:Nat→Prop):Kept w O w O:=⟨Nat.le_refl _,fun _ _ h=>⟨fun _ _ _=>rfl,h⟩⟩
def Gl(w:World)(O:Nat→Prop):Prop:=(∀g vs,(g,vs)∈PX→(∃T fr,w.heap[g]?=some (.cells vs.toArray T fr))∧¬O g)∧∀g,g∈H4→(∃te pe T fr,w.heap[g]?=some (.cells #[.iface te pe] T fr))∧¬O g
theorem Gl.mono{w w':World}{O O':Nat→Prop}(hk:Kept w O w' O')(h:Gl w O):Gl w' O':=⟨fun g vs hm=>by
 obtain⟨⟨T,fr,h1⟩,h2⟩:=h.1 g vs hm;have hb:g<w.heap.size:=(Array.getElem?_eq_some_iff.1 h1).1;exact⟨⟨T,fr,((hk.2 g hb h2).1 _ h1 rfl).trans h1⟩,(hk.2 g hb h2).2⟩,fun g hm=>by
 obtain⟨⟨te,pe,T,fr,h1⟩,h2⟩:=h.2 g hm;have hb:g<w.heap.size:=(Array.getElem?_eq_some_iff.1 h1).1;exact⟨⟨te,pe,T,fr,((hk.2 g hb h2).1 _ h1 rfl).trans h1⟩,(hk.2 g hb h2).2⟩⟩
theorem XT{w:World}{b off:Nat}{u:Value}(h:w.cell? ⟨b,off,none⟩=some u):b<w.heap.size:=by
 rcases Nat.lt_or_ge b w.heap.size with g|g
 ·exact g
 ·simp[World.cell?,Array.getElem?_eq_none g]at h
theorem XQ{w:World}{b off:Nat}{u:Value}(h:w.cell? ⟨b,off,none⟩=some u):∃c T fr,w.heap[b]?=some (.cells c T fr):=by
 unfold World.cell? at h;split at h
 ·rename_i c T fr e;exact⟨c,T,fr,e⟩
 ·cases h
theorem XS{w w':World}{b off:Nat}{u:Value}(hk:∀o,w.heap[b]?=some o→LP o=true→w'.heap[b]?=w.heap[b]?)(h:w.cell? ⟨b,off,none⟩=some u):w'.cell? ⟨b,off,none⟩=some u:=by
 obtain⟨c,T,fr,e⟩:=XQ h;have:=hk _ e rfl;simpa[World.cell?,this]using h
theorem XR{w w':World}{b off:Nat}(h:w'.heap[b]?=w.heap[b]?):w'.cell? ⟨b,off,none⟩=w.cell? ⟨b,off,none⟩:=by
 simp[World.cell?,h]
mutual
theorem V.mono{w w':World}{O O':Nat→Prop}{ρ aw:aC}(hk:Kept w O w' O')(hr:bO ρ aw):
  ∀(d:D)(v:Value),V w O ρ d v→V w' O' aw d v
 |.any,_,_=>by simp[V]
 |.raw u,v,h=>by simpa[V]using h
 |.str s,v,h=>by simpa[V]using h
 |.agg ds,v,h=>by
  simp only[V]at h⊢;obtain⟨vs,e,h⟩:=h;exact⟨vs,e,Vs.mono hk hr ds _ h⟩
 |.bl ds,v,h=>by
  simp only[V]at h⊢;obtain⟨vs,e,h⟩:=h;exact⟨vs,e,Vs.mono hk hr ds _ h⟩
 |.snap sz ia rows,v,h=>by
  simp only[V]at h⊢;obtain⟨a,cap,e,h1,h2,h3⟩:=h;refine⟨a,cap,e,h1,h2,fun aG=>?_⟩;obtain⟨b,off,e2,h4,h5⟩:=h3 aG;exact⟨b,off,e2,hk.oC h4,Vr.mono hk b off sz h4 rows h5⟩
 |.bz cs,v,h=>by
  simp only[V]at h⊢;obtain⟨b,off,e,h1,h2⟩:=h;exact⟨b,off,e,hk.oC h1,Vc.mono hk b off h1 cs h2⟩
 |.box id off,v,h=>by
  simp only[V]at h⊢;obtain⟨l,e,h⟩:=h;exact⟨l,hr _ _ e,h⟩
 |.gs id n,v,h=>by
  simp only[V]at h⊢;rcases h with h|⟨hn,l,e,h⟩
  ·exact .inl h
  ·exact .inr ⟨hn,l,hr _ _ e,h⟩
 |.nf id off,v,h=>by
  simp only[V]at h⊢;obtain⟨l,e,h⟩:=h;exact⟨l,hr _ _ e,h⟩
 |.dj id,v,h=>by
  simp only[V]at h⊢;obtain⟨l,e,h⟩:=h;exact⟨l,hr _ _ e,h⟩
 |.fn f as bs,v,h=>by
  simp only[V]at h⊢;obtain⟨us,vs,e,h1,h2⟩:=h;exact⟨us,vs,e,Vs.mono hk hr as _ h1,Vs.mono hk hr bs _ h2⟩
 |.sc id off n,v,h=>by
  simp only[V]at h⊢;obtain⟨l,cap,e,h⟩:=h;exact⟨l,cap,hr _ _ e,h⟩
 |.pZ id off n,v,h=>by
  simp only[V]at h⊢;obtain⟨l,cap,e,h⟩:=h;exact⟨l,cap,hr _ _ e,h⟩
 |.gr id n,v,h=>by
  simp only[V]at h⊢;obtain⟨l,e,h⟩:=h;exact⟨l,hr _ _ e,h⟩
 |.pj ks vs,v,h=>by
  simp only[V]at h⊢;obtain⟨b,es,e,h1,h2,h3,h4⟩:=h;exact⟨b,es,e,hk.oC h1,⟨((hk.2 b h1.1 h1.2).1 _ h2.1 rfl).trans h2.1,h2.2⟩,Vs.mono hk (bO.refl _) ks _ h3,Vs.mono hk (bO.refl _) vs _ h4⟩
theorem Vs.mono{w w':World}{O O':Nat→Prop}{ρ aw:aC}(hk:Kept w O w' O')(hr:bO ρ aw):
  ∀(ds:List D)(vs:List Value),Vs w O ρ ds vs→Vs w' O' aw ds vs
 |[],vs,h=>by simpa[Vs]using h
 |d::ds,vs,h=>by
  simp only[Vs]at h⊢;obtain⟨u,us,e,h1,h2⟩:=h;exact⟨u,us,e,V.mono hk hr d u h1,Vs.mono hk hr ds us h2⟩
theorem Vc.mono{w w':World}{O O':Nat→Prop}(hk:Kept w O w' O')(b off:Nat)(hb:b<w.heap.size∧¬O b):
  ∀(ds:List D),Vc w O b off ds→Vc w' O' b off ds
 |[],_=>by simp[Vc]
 |d::ds,h=>by
  simp only[Vc]at h⊢;obtain⟨⟨u,h1,h2⟩,h3⟩:=h;exact⟨⟨u,⟨XS (hk.2 b hb.1 hb.2).1 h1.1,h1.2⟩,V.mono hk (bO.refl _) d u h2⟩,Vc.mono hk b (off+1) hb ds h3⟩
theorem Vr.mono{w w':World}{O O':Nat→Prop}(hk:Kept w O w' O')(b off sz:Nat)(hb:b<w.heap.size∧¬O b):
  ∀(rs:List (List D)),Vr w O b off sz rs→Vr w' O' b off sz rs
 |[],_=>by simp[Vr]
 |r::rs,h=>by
  simp only[Vr]at h⊢;exact⟨⟨h.1.1,Vc.mono hk b off hb r h.1.2⟩,Vr.mono hk b (off+sz) sz hb rs h.2⟩
end
abbrev Env:=List (Nat×D)
def Env.get:Env→Nat→Option D
 |[],_=>none
 |(t,d)::r,s=>bif Nat.beq t s then some d else Env.get r s
def Env.put(e:Env):Option Tmp→D→Env
 |none,_=>e
 |some t,d=>(t,d)::e
def Env.op(e:Env):Operand→Option D
 |.tmp t=>e.get t
 |.const (.string b)=>bif Nat.ble b.data.size 65536 then some (.str b.data.toList)else some (.raw (.string b))
 |.const v=>some (.raw v)
 |.global g=>some (.raw (.pointer (some ⟨g,0,none⟩)))
 |.func f=>some (.fn (.func f) [] [])
structure wM where
 ps:Array Tmp
 assign:Code
 body:Code
 N:Nat
inductive Ob where
 |dead
 |cells (ds:List D)
 |arr (sz:Nat) (rows:List (List D))
 |lp (st:LoopState) (Au:Option Code) (s:wM) (env:Env)
 |mp (rK:List (D×D))
 |mi (m yr:Nat) (seen:List Nat)
 |fu (j n:Nat)
 |ba (s:List UInt8)
 |res (sz:Nat)
 |mj (ks vs:List D) (seen:List Nat)
 |mn
def Ob.live:Ob→Bool
 |.dead=>false
 |.arr _ []=>false
 |.ba []=>false
 |_=>true
abbrev aa:=List (Nat×Ob)
def aa.get:aa→Nat→Option Ob
 |[],_=>none
 |(t,d)::r,s=>bif Nat.beq t s then some d else aa.get r s
def aa.set:aa→Nat→Ob→aa
 |[],i,x=>[(i,x)]
 |(t,d)::r,i,x=>bif Nat.beq t i then(t,x)::r else(t,d)::aa.set r i x
theorem Env.bf(t s:Nat)(d:D)(e:Env):Env.get ((t,d)::e) s=if t=s then some d else e.get s:=by
 by_cases h:t=s
 ·subst h;simp[Env.get]
 ·have:Nat.beq t s=false:=by
   cases h2:Nat.beq t s with
   |true=>exact absurd (Nat.eq_of_beq_eq_true h2) h
   |false=>rfl
  simp[Env.get,this,h]
theorem aa.bf(t s:Nat)(d:Ob)(e:aa):aa.get ((t,d)::e) s=if t=s then some d else e.get s:=by
 by_cases h:t=s
 ·subst h;simp[aa.get]
 ·have:Nat.beq t s=false:=by
   cases h2:Nat.beq t s with
   |true=>exact absurd (Nat.eq_of_beq_eq_true h2) h
   |false=>rfl
  simp[aa.get,this,h]
theorem aa.eG(i j:Nat)(o:Ob):∀J:aa,(J.set i o).get j=if i=j then some o else J.get j
 |[]=>by simp[aa.set,aa.bf,aa.get]
 |(t,d)::r=>by
  simp only[aa.set];cases h:Nat.beq t i with
  |true=>
   obtain rfl:=Nat.eq_of_beq_eq_true h;rw[cond_true,aa.bf,aa.bf];by_cases e:t=j<;>simp[e]
  |false=>
   have aG:t≠i:=fun e=>by subst e;simp at h
   rw[cond_false,aa.bf,aa.eG i j o r,aa.bf];by_cases e:t=j
   ·subst e;simp[Ne.symm aG]
   ·simp[e]
def b9(ρ:aC)(J:aa)(b:Nat):Prop:=∃i o l,J.get i=some o∧o.live=true∧ρ i=some l∧l.b=b
def Ot(O:Nat→Prop)(ρ:aC)(J:aa)(b:Nat):Prop:=O b∨b9 ρ J b
def wK(w:World)(O:Nat→Prop)(b:Nat)(ks vs:List D):Prop:=
 ∃es,(b<w.heap.size∧¬O b)∧(w.heap[b]?=some (.map es ks.length)∧vs.length=ks.length∧∀(i:Nat) e,es[i]?=some e→e.born=i)∧Vs w O dX ks (es.toList.map (·.key))∧Vs w O dX vs (es.toList.map (·.val))
theorem DF{w:World}{O:Nat→Prop}{ρ:aC}{ks vs:List D}{v:Value}:V w O ρ (.pj ks vs) v↔∃b,v=.map (some b)∧wK w O b ks vs:=by
 simp only[V,wK];constructor
 ·rintro⟨b,es,h1,h2,h3,h4,h5⟩;exact⟨b,h1,es,h2,h3,h4,h5⟩
 ·rintro⟨b,h1,es,h2,h3,h4,h5⟩;exact⟨b,es,h1,h2,h3,h4,h5⟩
theorem wK.mono{w w':World}{O O':Nat→Prop}{b:Nat}{ks vs:List D}(hk:Kept w O w' O')(h:wK w O b ks vs):wK w' O' b ks vs:=by
 obtain⟨es,h1,h2,h3,h4⟩:=h;exact⟨es,hk.oC h1,⟨((hk.2 b h1.1 h1.2).1 _ h2.1 rfl).trans h2.1,h2.2⟩,Vs.mono hk (bO.refl _) ks _ h3,Vs.mono hk (bO.refl _) vs _ h4⟩
def iV(w:World)(O:Nat→Prop)(ρ:aC)(l:Loc):Ob→Prop
 |.dead=>True
 |.cells ds=>∃vs T,w.heap[l.b]?=some (.cells vs T (0,0))∧Vs w O ρ ds vs.toList
 |.arr sz rows=>∃c T,w.heap[l.b]?=some (.cells c T (0,0))∧l.off+l.cap*sz≤c.size∧(rows.length≤l.cap∧rows.length≤aH)∧Vr w O l.b l.off sz rows
 |.lp st Au s env=>∃fn tmps df,w.heap[l.b]?=some (.loop ⟨st,Au,fn,tmps,s.ps,s.assign,s.body,df⟩)∧tmps.size=s.N∧∀t d,env.get t=some d→V w O ρ d (tmps.getD t undef)
 |.mp rK=>∃es,w.heap[l.b]?=some (.map es rK.length)∧es.size=rK.length∧∀(i:Nat)(kd vd:D),rK[i]?=some (kd,vd)→∃e,es[i]?=some e∧e.born=i∧V w O ρ kd e.key∧V w O ρ vd e.val
 |.mi m yr seen=>∃lm,ρ m=some lm∧w.heap[l.b]?=some (.mapIter (some lm.b) yr seen.toArray yr)
 |.fu j n=>∃p v,w.heap[l.b]?=some (.cells #[p,v] pK (0,0))∧(p=.pointer none∨p=.pointer (some ⟨l.b,0,none⟩))∧((n=0∧∃ad,v=.slice ad 0 0)∨(n≠0∧∃lj,ρ j=some lj∧v=.slice (some ⟨lj.b,0,none⟩) n lj.cap))
 |.ba s=>∃c,w.heap[l.b]?=some (.cells c n_ (0,0))∧l.off=0∧c.size=l.cap∧s.length≤l.cap∧l.cap≤9223372036854775807∧c.toList.take s.length=s.map fun b=>.int .u8 b.toNat
 |.res sz=>∃c T,w.heap[l.b]?=some (.cells c T (0,0))∧l.off+l.cap*sz≤c.size
 |.mj ks vs seen=>∃b,wK w O b ks vs∧w.heap[l.b]?=some (.mapIter (some b) ks.length seen.toArray ks.length)
 |.mn=>w.heap[l.b]?=some (.mapIter none 0 #[] 0)
structure di(w:World)(O:Nat→Prop)(ρ:aC)(J:aa):Prop where
 lt:∀b,O b→b<w.heap.size
 fresh:∀i,J.get i=none→ρ i=none
 own:∀i o,J.get i=some o→o.live=true→∃l,ρ i=some l∧¬O l.b∧iV w (Ot O ρ J) ρ l o
 inj:∀i j o o' l l',J.get i=some o→J.get j=some o'→o.live=true→o'.live=true→ρ i=some l→ρ j=some l'→l.b=l'.b→i=j
structure Tr(O:Nat→Prop)(w:World)(ρ:aC)(J:aa)(w':World)(aw:aC)(ai:aa):Prop where
 le:bO ρ aw
 size:w.heap.size≤w'.heap.size
 same:∀b,b<w.heap.size→¬b9 ρ J b→w'.heap[b]?=w.heap[b]?
 new:∀b,b9 aw ai b→b9 ρ J b∨w.heap.size≤b
 ok:di w' O aw ai
 os:w'.os=w.os∧w'.output=w.output∧iU w w'
theorem Tr.kept{O:Nat→Prop}{w:World}{ρ:aC}{J:aa}{w':World}{aw:aC}{ai:aa}(h:Tr O w ρ J w' aw ai):Kept w (Ot O ρ J) w' (Ot O aw ai):=by
 refine⟨h.size,fun b hb ho=>⟨fun _ _ _=>h.same b hb fun g=>ho (.inr g),fun g=>?_⟩⟩;rcases g with g|g
 ·exact ho (.inl g)
 ·rcases h.new b g with g|g
  ·exact ho (.inr g)
  ·omega
theorem Tr.refl{O:Nat→Prop}{w:World}{ρ:aC}{J:aa}(h:di w O ρ J):Tr O w ρ J w ρ J:=
 ⟨bO.refl _,Nat.le_refl _,fun _ _ _=>rfl,fun _ h=>.inl h,h,rfl,rfl,iU.eq rfl rfl⟩
theorem Tr.trans{O:Nat→Prop}{w w1 w2:World}{ρ Dw Dx:aC}{J dn mG:aa}(h:Tr O w ρ J w1 Dw dn)(h':Tr O w1 Dw dn w2 Dx mG):Tr O w ρ J w2 Dx mG:=by
 refine⟨h.le.trans h'.le,Nat.le_trans h.size h'.size,fun b hb ho=>?_,fun b hb=>?_,h'.ok,h'.os.1.trans h.os.1,h'.os.2.1.trans h.os.2.1,h.os.2.2.trans h'.os.2.2⟩
 ·refine(h'.same b (Nat.lt_of_lt_of_le hb h.size) fun g=>?_).trans (h.same b hb ho);rcases h.new b g with g|g
  ·exact ho g
  ·omega
 ·rcases h'.new b hb with g|g
  ·exact h.new b g
  ·exact .inr (Nat.le_trans h.size g)
structure iw(O:Nat→Prop)(w:World)(ρ:aC)(J:aa)(w':World)(aw:aC)(ai:aa):Prop where
 size:w.heap.size≤w'.heap.size
 same:∀b,b<w.heap.size→¬b9 ρ J b→w'.heap[b]?=w.heap[b]?
 new:∀b,b9 aw ai b→b9 ρ J b∨w.heap.size≤b
 ok:di w' O aw ai
 os:w'.os=w.os∧w'.output=w.output∧iU w w'
theorem Tr.wA{O:Nat→Prop}{w:World}{ρ:aC}{J:aa}{w':World}{aw:aC}{ai:aa}(h:Tr O w ρ J w' aw ai):iw O w ρ J w' aw ai:=⟨h.size,h.same,h.new,h.ok,h.os⟩
theorem iw.kept{O:Nat→Prop}{w:World}{ρ:aC}{J:aa}{w':World}{aw:aC}{ai:aa}(h:iw O w ρ J w' aw ai):Kept w (Ot O ρ J) w' (Ot O aw ai):=by
 refine⟨h.size,fun b hb ho=>⟨fun _ _ _=>h.same b hb fun g=>ho (.inr g),fun g=>?_⟩⟩;rcases g with g|g
 ·exact ho (.inl g)
 ·rcases h.new b g with g|g
  ·exact ho (.inr g)
  ·omega
theorem iw.refl{O:Nat→Prop}{w:World}{ρ:aC}{J:aa}(h:di w O ρ J):iw O w ρ J w ρ J:=(Tr.refl h).wA
theorem iw.trans{O:Nat→Prop}{w w1 w2:World}{ρ Dw Dx:aC}{J dn mG:aa}(h:iw O w ρ J w1 Dw dn)(h':iw O w1 Dw dn w2 Dx mG):iw O w ρ J w2 Dx mG:=by
 refine⟨Nat.le_trans h.size h'.size,fun b hb ho=>?_,fun b hb=>?_,h'.ok,h'.os.1.trans h.os.1,h'.os.2.1.trans h.os.2.1,h.os.2.2.trans h'.os.2.2⟩
 ·refine(h'.same b (Nat.lt_of_lt_of_le hb h.size) fun g=>?_).trans (h.same b hb ho);rcases h.new b g with g|g
  ·exact ho g
  ·omega
 ·rcases h'.new b hb with g|g
  ·exact h.new b g
  ·exact .inr (Nat.le_trans h.size g)
theorem Tr.V{O:Nat→Prop}{w:World}{ρ:aC}{J:aa}{w':World}{aw:aC}{ai:aa}(h:Tr O w ρ J w' aw ai){d:D}{v:Value}(hv:V w (Ot O ρ J) ρ d v):V w' (Ot O aw ai) aw d v:=
 V.mono h.kept h.le d v hv
end Go.T
namespace Go.T
open Go
variable[bT]
def aq(P:Program)(o:Oper)(env:Env)(J:aa)(d:D)(ai:aa):Prop:=
 ∀(O:Nat→Prop)(ρ:aC)(a:Act)(w:World),di w O ρ J→Gl w (Ot O ρ J)→
  (∀x∈o.op.operands.toList,∀d',env.op x=some d'→V w (Ot O ρ J) ρ d' (a.eval x))→
  o.wp P a w (fun a' w'=>∃aw v,a'=a.put o.dst v∧Tr O w ρ J w' aw ai∧V w' (Ot O aw ai) aw d v) (fun _ _ _=>False)
inductive Kind where
 |p|r|w
 deriving DecidableEq
def On(ops:Array Oper)(env:Env)(o:Oper):Prop:=
 match o.guard with
 |none=>True
 |some (g,b)=>∃t,(ops[g]?).bind (·.dst)=some t∧env.get t=some (.raw (.bool b))
def tC(ops:Array Oper)(env:Env)(o:Oper):Prop:=
 ∃g b t u,o.guard=some (g,b)∧(ops[g]?).bind (·.dst)=some t∧env.get t=some (.raw u)∧u≠.bool b
def eQ(N:Nat):Option Tmp→Bool
 |none=>true
 |some t=>Nat.blt t N
inductive dt(P:Program)(N:Nat)(ops:Array Oper)(K:Env→aa→Prop):List Oper→List Kind→Env→aa→Prop
 |nil {env:Env} {J:aa} (h:K env J):dt P N ops K [] [] env J
 |p {o:Oper} {l:List Oper} {ks:List Kind} {env:Env} {J:aa} {d:D} (hd:eQ N o.dst=true) (hg:On ops env o)
   (h:∀J,aq P o env J d J) (k:dt P N ops K l ks (env.put o.dst d) J):dt P N ops K (o::l) (.p::ks) env J
 |r {o:Oper} {l:List Oper} {ks:List Kind} {env:Env} {J:aa} {d:D} (hd:eQ N o.dst=true) (hg:On ops env o)
   (h:aq P o env J d J) (k:dt P N ops K l ks (env.put o.dst d) J):dt P N ops K (o::l) (.r::ks) env J
 |w {o:Oper} {l:List Oper} {ks:List Kind} {env:Env} {J ai:aa} {d:D} (hd:eQ N o.dst=true) (hg:On ops env o)
   (h:aq P o env J d ai) (k:dt P N ops K l ks (env.put o.dst d) ai):dt P N ops K (o::l) (.w::ks) env J
 |off {o:Oper} {l:List Oper} {lG:Kind} {ks:List Kind} {env:Env} {J:aa} (hd:eQ N o.dst=true) (hg:tC ops env o)
   (k:dt P N ops K l ks (env.put o.dst (.raw undef)) J):dt P N ops K (o::l) (lG::ks) env J
structure Ctx where
 O:Nat→Prop
 w0:World
 u6:aC
 FO:aa
 ro:Option Nat
def fz(ro:Option Nat):Fence:={Fence.wide with round:=ro}
structure Marks(n:Nat)(w:World)(O:Nat→Prop)(ds:List Deferred):Prop where
 at_:∀d∈ds,∃r,d=⟨.collected r,#[]⟩∧n≤r∧r<w.heap.size∧¬O r∧w.heap[r]?=some (.deferred (some []))
 apart:ds.Pairwise fun d e=>∀r,d=⟨.collected r,#[]⟩→e≠⟨.collected r,#[]⟩
theorem Marks.nil(n:Nat)(w:World)(O:Nat→Prop):Marks n w O []:=⟨fun d h=>absurd h zS,.nil⟩
theorem Marks.mono{n:Nat}{w w':World}{O O':Nat→Prop}{ds:List Deferred}(h:Marks n w O ds)(hs:w.heap.size≤w'.heap.size)(hk:∀b,b<w.heap.size→¬O b→w'.heap[b]?=w.heap[b]?∧¬O' b):Marks n w' O' ds:=
 ⟨fun d hd=>by
  obtain⟨r,h1,h2,h3,h4,h5⟩:=h.at_ d hd;exact⟨r,h1,h2,Nat.lt_of_lt_of_le h3 hs,(hk r h3 h4).2,(hk r h3 h4).1.trans h5⟩,h.apart⟩
theorem iw.marks{O:Nat→Prop}{w:World}{ρ:aC}{J:aa}{w':World}{aw:aC}{ai:aa}(h:iw O w ρ J w' aw ai){n:Nat}{ds:List Deferred}(hm:Marks n w (Ot O ρ J) ds):Marks n w' (Ot O aw ai) ds:=
 hm.mono h.size fun b hb ho=>⟨h.same b hb fun g=>ho (.inr g),(h.kept.oC ⟨hb,ho⟩).2⟩
structure Fr where
 N:Nat
 ps:List Nat
 rd:Bool:=false
 yl:Option (Nat×Nat):=none
structure qf(F:Fr)(C:Ctx)(env:Env)(J:aa)(a:Act)(w:World)(ρ:aC):Prop where
 keep:∀i,i∈F.ps→∀l,C.u6 i=some l→ρ i=some l
 tr:iw C.O C.w0 C.u6 C.FO w ρ J
 env:∀t d,env.get t=some d→V w (Ot C.O ρ J) ρ d (a.tmps.getD t undef)
 size:a.tmps.size=F.N
 marks:Marks C.w0.heap.size w (Ot C.O ρ J) a.defers
 rd:F.rd=false→C.ro=none
 yl:∀i b,F.yl=some (i,b)→i∈F.ps∧∃l,C.u6 i=some l∧l.b=b
 gl:Gl C.w0 (Ot C.O C.u6 C.FO)
theorem qf.xl{F:Fr}{C:Ctx}{env:Env}{J:aa}{a:Act}{w:World}{ρ:aC}(h:qf F C env J a w ρ):Gl w (Ot C.O ρ J):=h.gl.mono h.tr.kept
theorem qf.step{F:Fr}{C:Ctx}{env aS:Env}{J ai:aa}{a a':Act}{w w':World}{ρ aw:aC}(h:qf F C env J a w ρ)(ht:Tr C.O w ρ J w' aw ai)(he:∀t d,aS.get t=some d→V w' (Ot C.O aw ai) aw d (a'.tmps.getD t undef))(hs:a'.tmps.size=a.tmps.size)(hd:a'.defers=a.defers):qf F C aS ai a' w' aw:=
 ⟨fun i hi l hl=>ht.le i l (h.keep i hi l hl),h.tr.trans ht.wA,he,hs.trans h.size,by rw[hd];exact ht.wA.marks h.marks,h.rd,h.yl,h.gl⟩
def St(F:Fr)(C:Ctx)(env:Env)(J:aa)(a:Act)(w:World):Prop:=∃ρ,qf F C env J a w ρ
theorem Bt(xs:Array Value)(i j:Nat)(v:Value)(h:i<xs.size):(xs.setIfInBounds i v).getD j undef=if i=j then v else xs.getD j undef:=by
 by_cases e:i=j
 ·subst e;simp[Array.getD,h]
 ·simp only[if_neg e,Array.getD,Array.size_setIfInBounds];by_cases hj:j<xs.size
  ·simp[hj,e]
  ·simp[hj]
theorem Act.uS(a:Act)(dst:Option Tmp)(v:Value):(a.put dst v).tmps.size=a.tmps.size:=by
 cases dst<;>simp[Act.put]
theorem vj{w:World}{O:Nat→Prop}{ρ:aC}{env:Env}{a:Act}{N:Nat}{dst:Option Tmp}{d:D}{v:Value}(hN:a.tmps.size=N)(hd:eQ N dst=true)
  (he:∀t d,env.get t=some d→V w O ρ d (a.tmps.getD t undef))(hv:V w O ρ d v):∀t d',(env.put dst d).get t=some d'→V w O ρ d' ((a.put dst v).tmps.getD t undef):=by
 cases dst with
 |none=>exact he
 |some s=>
  intro t d' h;have hs:s<a.tmps.size:=by rw[hN];simpa[eQ,Nat.blt_eq]using hd
  simp only[Env.put,Env.bf]at h;simp only[Act.put,Bt _ _ _ _ hs];by_cases e:s=t
  ·simp only[if_pos e]at h⊢;cases h;exact hv
  ·simp only[if_neg e]at h⊢;exact he t d' h
theorem KS{w:World}{O:Nat→Prop}{ρ:aC}{env:Env}{a:Act}{v:Value}{d':D}(h:env.op (.const v)=some d'):V w O ρ d' (a.eval (.const v)):=by
 have hr:∀d',some (D.raw v)=some d'→V w O ρ d' (a.eval (.const v)):=fun d' h=>by
  simp only[Option.some.injEq]at h;subst h;simp[V,Act.eval]
 cases v with
 |string b=>
  simp only[Env.op]at h;cases hb:Nat.ble b.data.size 65536 with
  |false=>simp only[hb,cond_false]at h;exact hr _ h
  |true=>
   simp only[hb,cond_true,Option.some.injEq]at h;subst h;have:b.data.size≤65536:=by simpa using hb
   simp only[V,Act.eval];refine⟨by cases b;simp,?_⟩;simp only[aH,Array.length_toList];omega
 |_=>exact hr _ h
theorem uG{w:World}{O:Nat→Prop}{ρ:aC}{env:Env}{a:Act}
  (he:∀t d,env.get t=some d→V w O ρ d (a.tmps.getD t undef)):∀x d',env.op x=some d'→V w O ρ d' (a.eval x):=by
 intro x d' h;cases x with
 |tmp t=>exact he t d' h
 |const v=>exact KS h
 |global g=>simp only[Env.op,Option.some.injEq]at h;subst h;simp[V,Act.eval]
 |func f=>simp only[Env.op,Option.some.injEq]at h;subst h;exact⟨#[],#[],rfl,by simp[Vs],by simp[Vs]⟩
theorem VX{ops:Array Oper}{o:Oper}{tmps:Array Value}{g:Nat}{b:Bool}{t:Nat}{u:Value}(hg:o.guard=some (g,b))(ht:(ops[g]?).bind (·.dst)=some t)(hu:tmps.getD t undef=u):
  Region.wanted o (yielded ops tmps)=true↔u=.bool b:=by
 simp only[Region.wanted,hg,yielded,ht,Option.bind_some];by_cases h:t<tmps.size
 ·have:tmps[t]?=some u:=by simpa[Array.getD,h]using hu
  rw[this];cases u<;>simp
 ·have h1:tmps[t]?=none:=by simpa using h
  have h2:u=undef:=by simpa[Array.getD,h]using hu.symm
  rw[h1,h2];simp[undef]
theorem Ds{ops:Array Oper}{env:Env}{o:Oper}{a:Act}{w:World}{O:Nat→Prop}{ρ:aC}(hg:On ops env o)
  (he:∀g b t,o.guard=some (g,b)→(ops[g]?).bind (·.dst)=some t→∀d,env.get t=some d→V w O ρ d (a.tmps.getD t undef)):Region.wanted o (yielded ops a.tmps)=true:=by
 unfold On at hg;split at hg
 ·rename_i h;simp[Region.wanted,h]
 ·rename_i g b h;obtain⟨t,ht,e⟩:=hg;have:=he g b t h ht _ e;simp only[V]at this;exact(VX h ht this).2 rfl
theorem Mf{ops:Array Oper}{env:Env}{o:Oper}{a:Act}{w:World}{O:Nat→Prop}{ρ:aC}(hg:tC ops env o)
  (he:∀g b t,o.guard=some (g,b)→(ops[g]?).bind (·.dst)=some t→∀d,env.get t=some d→V w O ρ d (a.tmps.getD t undef)):Region.wanted o (yielded ops a.tmps)=false:=by
 obtain⟨g,b,t,u,h,ht,e,hu⟩:=hg;have:=he g b t h ht _ e;simp only[V]at this;have h2:=(VX (tmps:=a.tmps) h ht this);cases hw:Region.wanted o (yielded ops a.tmps)with
 |false=>rfl
 |true=>exact absurd (h2.1 hw) hu
structure Trace(P:Program)(N:Nat)(ops:Array Oper)(l:List Oper)(ks:List Kind)(E:Nat→Env)(B:Nat→aa)(ds:Nat→D):Prop where
 len:ks.length=l.length
 step:∀i o k,l[i]?=some o→ks[i]?=some k→eQ N o.dst=true∧E (i+1)=(E i).put o.dst (ds i)∧(k≠.w→B (i+1)=B i)∧
  ((On ops (E i) o∧(k=.p→∀J,aq P o (E i) J (ds i) J)∧aq P o (E i) (B i) (ds i) (B (i+1)))∨(tC ops (E i) o∧ds i=.raw undef∧B (i+1)=B i))
theorem dt.trace{P:Program}{N:Nat}{ops:Array Oper}{K:Env→aa→Prop}{l:List Oper}{ks:List Kind}{env:Env}{J:aa}(h:dt P N ops K l ks env J):
  ∃E B ds,Trace P N ops l ks E B ds∧E 0=env∧B 0=J∧K (E l.length) (B l.length):=by
 have cons:∀{o:Oper}{l:List Oper}{k:Kind}{ks:List Kind}{env:Env}{J ai:aa}{d:D},eQ N o.dst=true→(k≠.w→ai=J)→
   ((On ops env o∧(k=.p→∀J,aq P o env J d J)∧aq P o env J d ai)∨(tC ops env o∧d=.raw undef∧ai=J))→
   (∃E B ds,Trace P N ops l ks E B ds∧E 0=env.put o.dst d∧B 0=ai∧K (E l.length) (B l.length))→
   ∃E B ds,Trace P N ops (o::l) (k::ks) E B ds∧E 0=env∧B 0=J∧K (E (o::l).length) (B (o::l).length):=by
  intro o l k ks env J ai d hd hk hs ⟨E,B,ds,ht,hE,hB,hK⟩;subst hB;refine⟨fun i=>match i with|0=>env|i+1=>E i,fun i=>match i with|0=>J|i+1=>B i,fun i=>match i with|0=>d|i+1=>ds i,⟨by simp[ht.len],?_⟩,rfl,rfl,hK⟩;intro i o' k' ho qB;cases i with
  |zero=>
   simp only[List.getElem?_cons_zero,Option.some.injEq]at ho qB;subst ho;subst qB;exact⟨hd,hE,hk,hs⟩
  |succ i=>exact ht.step i o' k' (by simpa using ho) (by simpa using qB)
 induction h with
 |nil h=>exact⟨fun _=>_,fun _=>_,fun _=>.any,⟨rfl,fun i o k h=>by simp at h⟩,rfl,rfl,h⟩
 |p hd hg h _ ih=>exact cons hd (fun _=>rfl) (.inl ⟨hg,fun _=>h,h _⟩) ih
 |r hd hg h _ ih=>exact cons hd (fun _=>rfl) (.inl ⟨hg,(fun e=>by cases e),h⟩) ih
 |w hd hg h _ ih=>exact cons hd (fun e=>absurd rfl e) (.inl ⟨hg,(fun e=>by cases e),h⟩) ih
 |off hd hg _ ih=>exact cons hd (fun _=>rfl) (.inr ⟨hg,rfl,rfl⟩) ih
theorem Act.mI(a:Act)(dst:Option Tmp)(v:Value):(a.put dst v).defers=a.defers:=by cases dst<;>rfl
theorem yC{P:Program}{o:Oper}{a:Act}{w:World}{K:Act→World→Prop}{Q:Exit→Act→World→Prop}(ro:Option Nat)(h:o.wp P a w K (fun _ _ _=>False))(hK:∀a' w',K a' w'→a'.defers=a.defers):o.wpIn (fz ro) 0 P a w K Q:=by
 have hd:∀c,o.op≠.defer c:=by
  intro c hc;unfold Oper.wp at h;simp only[execOp,hc]at h;rw[Sem.run_bind]at h;cases hr:(resolve a.eval c o.type).run P w with
  |ok d w'=>
   rw[hr]at h;simp only[Result.andThen_ok,Sem.run_pure,Oper.upon]at h;have:=hK _ _ h;rw[Act.mI]at this;simpa using congrArg List.length this
  |halt x w'=>
   rw[hr]at h;cases x<;>exact h
 refine⟨fun _ _=>trivial,?_⟩;rw[Oper.semAt_eq _ _ _ hd];unfold Oper.wp at h;generalize (execOp a.eval o).run P w=r at*;have acB:∀{f args w' R R'},Calls P f args w' R→(∀e wF,R e wF→R' e wF)→CallsIn (fz ro) 0 P f args w' R':=by
  intro f args w' R R' h1 h2;exact callsIn_wide.2 (Calls.mono h1 h2)
 cases r with
 |ok n w'=>
  cases n<;>simp only[Oper.upon]at h<;>simp only[Oper.uponIn]<;>
   first
    |exact h
    |exact⟨fun e=>by simp[fz,Fence.wide]at e,acB h (fun e wF he=>by cases e<;>first|exact he|exact he.elim|exact(let⟨_,_,f⟩:=he;f.elim))⟩
    |exact⟨fun e=>by simp[fz,Fence.wide]at e,fun c cs _=>let⟨v,w2,r1,s1⟩:=h c cs;⟨v,w2,r1,stepsIn_wide.2 s1⟩⟩
 |halt x w'=>cases x<;>simp only[Oper.upon]at h
theorem Trace.text{P:Program}{F:Fr}{C:Ctx}{ops:Array Oper}{ks:List Kind}{E:Nat→Env}{B:Nat→aa}{ds:Nat→D}(ht:Trace P F.N ops ops.toList ks E B ds){Q:Exit→Act→World→Prop}
  (hQ:∀a w,St F C (E ops.size) (B ops.size) a w→Q .normal a w):
  ∀(n i:Nat),i+n=ops.size→∀a w,St F C (E i) (B i) a w→wpOpsIn (fz C.ro) 0 P ops Q (List.range' i n) a w
 |0,i,hi,a,w,hs=>by
  simp only[List.range',wpOpsIn];obtain rfl:i=ops.size:=by omega
  exact hQ a w hs
 |n+1,i,hi,a,w,hs=>by
  have bN:i<ops.size:=by omega
  have ho:ops[i]?=some ops[i]:=Array.getElem?_eq_getElem bN;have hk:∃k,ks[i]?=some k:=⟨ks[i]'(by rw[ht.len];simpa using bN),List.getElem?_eq_getElem _⟩
  obtain⟨k,hk⟩:=hk;obtain⟨hd,hE,_,ib⟩:=ht.step i ops[i] k (by simp[bN]) hk;obtain⟨ρ,bd⟩:=hs;simp only[List.range',wpOpsIn,ho];rcases ib with⟨hg,_,hq⟩|⟨hg,xq,Bw⟩
  ·rw[if_pos (Ds hg (fun _ _ t _ _ d h=>bd.env t d h))];have:=hq C.O ρ a w bd.tr.ok bd.xl (fun x _ d' h=>uG bd.env x d' h);refine Oper.wpIn_mono ?_ (yC C.ro this (by rintro a' w' ⟨aw,v,rfl,_⟩;exact Act.mI ..));rintro a' w' ⟨aw,v,rfl,kZ,hv⟩;refine Trace.text ht hQ n (i+1) zO _ _ ⟨aw,bd.step kZ ?_ (Act.uS _ _ _) (Act.mI ..)⟩;rw[hE];exact vj bd.size hd (fun t d h=>kZ.V (bd.env t d h)) hv
  ·rw[if_neg (by simp[Mf hg (fun _ _ t _ _ d h=>bd.env t d h)])];refine⟨fun _ _=>trivial,Trace.text ht hQ n (i+1) zO _ _ ⟨ρ,?_⟩⟩;rw[Bw];refine bd.step (Tr.refl bd.tr.ok) ?_ (Act.uS _ _ _) (Act.mI ..);rw[hE,xq];exact vj bd.size hd bd.env (by simp[V])
def Kl:List Oper→List Nat→List Nat
 |[],acc=>acc
 |o::l,acc=>Kl l (acc++[o.after.toList.foldl (fun s e=>if Region.binds .any e then s|||2^e.on|||acc.getD e.on 0 else s) 0])
def AH(ops:Array Oper)(o:Oper):List Tmp:=
 (o.op.operands.toList.filterMap fun|.tmp t=>some t|_=>none)++
 (match o.guard with|none=>[]|some (g,_)=>(((ops[g]?).bind (·.dst)).toList))
def wT(ops:Array Oper)(oi oj:Oper)(ki kj:Kind):Bool:=
 (match oi.dst with|some t=>(AH ops oj).contains t||oj.dst==some t|none=>false)||
 (match oj.dst with|some t=>(AH ops oi).contains t|none=>false)||
 (match ki,kj with|.w,.w|.w,.r|.r,.w=>true|_,_=>false)
def kM(ops:Array Oper)(ks:List Kind):Bool:=
 let m:=Kl ops.toList []
 (List.range ops.size).all fun j=>match ops[j]?,ks[j]?with
  |some oj,some kj=>(oj.after.toList.all fun e=>!Region.binds .any e||Nat.blt e.on j)&&
   (List.range j).all fun i=>match ops[i]?,ks[i]?with
    |some oi,some ki=>!wT ops oi oj ki kj||(m.getD j 0).testBit i
    |_,_=>false
  |_,_=>false
inductive u9(ops:Array Oper):Nat→Nat→Prop
 |Om {j:Nat} {o:Oper} {e:Edge} (ho:ops[j]?=some o) (he:e∈o.after.toList) (hb:Region.binds .any e=true):u9 ops e.on j
 |step {i j:Nat} {o:Oper} {e:Edge} (ho:ops[j]?=some o) (he:e∈o.after.toList) (hb:Region.binds .any e=true) (h:u9 ops i e.on):u9 ops i j
theorem abx{acc:List Nat}{R:Nat→Prop}(es:List Edge)(h:∀e∈es,Region.binds .any e=true→R e.on∧∀i,(acc.getD e.on 0).testBit i=true→R i):
  ∀s:Nat,(∀i,s.testBit i=true→R i)→∀i,(es.foldl (fun s e=>if Region.binds .any e then s|||2^e.on|||acc.getD e.on 0 else s) s).testBit i=true→R i:=by
 induction es with
 |nil=>intro s hs i hi;exact hs i hi
 |cons e es ih=>
  intro s hs;simp only[List.foldl_cons];refine ih (fun e' he'=>h e' (List.mem_cons_of_mem _ he')) _ ?_;intro i hi;by_cases hb:Region.binds .any e=true
  ·simp only[hb,if_true,Nat.testBit_or,Bool.or_eq_true]at hi;have h1:=h e List.mem_cons_self hb;rcases hi with(hi|hi)|hi
   ·exact hs i hi
   ·rw[Nat.testBit_two_pow]at hi;have:e.on=i:=by simpa using hi
    exact this▸h1.1
   ·exact h1.2 i hi
  ·simp only[hb]at hi;exact hs i hi
theorem Sx(ops:Array Oper):∀(l:List Oper)(acc:List Nat),ops.toList.drop acc.length=l→(∀j i,(acc.getD j 0).testBit i=true→u9 ops i j)→
  ∀j i,((Kl l acc).getD j 0).testBit i=true→u9 ops i j
 |[],acc,_,h,j,i,hi=>h j i hi
 |o::l,acc,hl,h,j,i,hi=>by
  have ho:ops[acc.length]?=some o:=by
   have:=congrArg List.head? hl;simpa[List.head?_drop]using this
  refine Sx ops l _ ?_ ?_ j i hi
  ·rw[List.length_append,←List.drop_drop,hl];simp
  ·intro j i hj;by_cases e:j=acc.length
   ·subst e;simp only[List.getD_eq_getElem?_getD,List.getElem?_append_right (Nat.le_refl _),Nat.sub_self,List.getElem?_cons_zero,Option.getD_some]at hj;refine abx (acc:=acc) (R:=fun i=>u9 ops i acc.length) o.after.toList ?_ 0 zS i (by simpa[List.getD_eq_getElem?_getD]using hj);intro e he hb;exact⟨.Om ho he hb,fun i hi=>.step ho he hb (h _ _ hi)⟩
   ·refine h j i ?_;rcases Nat.lt_or_ge j acc.length with g|g
    ·simpa[List.getD_eq_getElem?_getD,List.getElem?_append_left g]using hj
    ·have:(acc++[o.after.toList.foldl (fun s e=>if Region.binds .any e then s|||2^e.on|||acc.getD e.on 0 else s) 0]).getD j 0=0:=by
      simp only[List.getD_eq_getElem?_getD];rw[List.getElem?_eq_none zQ];rfl
     rw[this]at hj;simp at hj
theorem ahg{ops:Array Oper}{ks:List Kind}(h:kM ops ks=true){j:Nat}{o:Oper}(ho:ops[j]?=some o){e:Edge}(he:e∈o.after.toList)(hb:Region.binds .any e=true):e.on<j:=by
 have hj:j<ops.size:=(Array.getElem?_eq_some_iff.1 ho).1;simp only[kM,List.all_eq_true,List.mem_range]at h;have:=h j hj;rw[ho]at this;cases hk:ks[j]?with
 |none=>simp[hk]at this
 |some k=>
  simp only[hk,Bool.and_eq_true,List.all_eq_true]at this;have:=this.1 e he;simpa[hb,Nat.blt_eq]using this
theorem CK{ops:Array Oper}{ks:List Kind}(h:kM ops ks=true){i j:Nat}(rB:i<j){oi oj:Oper}{ki kj:Kind}(hi:ops[i]?=some oi)(hj:ops[j]?=some oj)(E2:ks[i]?=some ki)(BI:ks[j]?=some kj)
  (hc:wT ops oi oj ki kj=true):u9 ops i j:=by
 have bN:j<ops.size:=(Array.getElem?_eq_some_iff.1 hj).1;simp only[kM,List.all_eq_true,List.mem_range]at h;have:=h j bN;rw[hj,BI]at this;simp only[Bool.and_eq_true,List.all_eq_true,List.mem_range]at this;have:=this.2 i rB;rw[hi,E2]at this;simp only[hc,Bool.not_true,Bool.false_or]at this;exact Sx ops ops.toList [] rfl zS j i this
end Go.T
namespace Go.T
open Go
variable[bT]
section
variable{P:Program} {N:Nat} {C:Ctx} {ops:Array Oper} {ks:List Kind} {E:Nat→Env} {B:Nat→aa} {ds:Nat→D}
theorem Trace.at(ht:Trace P N ops ops.toList ks E B ds){i:Nat}{o:Oper}(ho:ops[i]?=some o):∃k,ks[i]?=some k∧eQ N o.dst=true∧E (i+1)=(E i).put o.dst (ds i)∧(k≠.w→B (i+1)=B i)∧
    ((On ops (E i) o∧(k=.p→∀J,aq P o (E i) J (ds i) J)∧aq P o (E i) (B i) (ds i) (B (i+1)))∨(tC ops (E i) o∧ds i=.raw undef∧B (i+1)=B i)):=by
  have bN:i<ops.size:=(Array.getElem?_eq_some_iff.1 ho).1;have hk:ks[i]?=some (ks[i]'(by rw[ht.len];simpa using bN)):=List.getElem?_eq_getElem _
  exact⟨_,hk,ht.step i o _ (by simpa using ho) hk⟩
theorem Trace.look(ht:Trace P N ops ops.toList ks E B ds)(t:Nat)(d:D):∀i,i≤ops.size→(E i).get t=some d→
    (∃j o,j<i∧ops[j]?=some o∧o.dst=some t∧d=ds j∧∀j' o',j<j'→j'<i→ops[j']?=some o'→o'.dst≠some t)∨
    ((∀j o,j<i→ops[j]?=some o→o.dst≠some t)∧(E 0).get t=some d)
  |0,_,h=>.inr ⟨fun _ _ h=>absurd h (Nat.not_lt_zero _),h⟩
  |i+1,hi,h=>by
    have ho:ops[i]?=some ops[i]:=Array.getElem?_eq_getElem zO;obtain⟨k,_,_,hE,_⟩:=ht.at ho;rw[hE]at h;have oC:(E i).get t=some d→ops[i].dst≠some t→(∃j o,j<i+1∧ops[j]?=some o∧o.dst=some t∧d=ds j∧∀j' o',j<j'→j'<i+1→ops[j']?=some o'→o'.dst≠some t)∨
        ((∀j o,j<i+1→ops[j]?=some o→o.dst≠some t)∧(E 0).get t=some d):=fun h' hn=>by
      rcases Trace.look ht t d i zO h' with⟨j,o,h1,h2,h3,h4,h5⟩|⟨h1,h2⟩
      · refine Or.inl ⟨j,o,Nat.lt_succ_of_lt h1,h2,h3,h4,fun j' o' a b c=>?_⟩
        rcases Nat.lt_or_ge j' i with g|g
        · exact h5 j' o' a g c
        · obtain rfl:j'=i:=by omega
          rw[ho]at c;cases c;exact hn
      · refine Or.inr ⟨fun j o a b=>?_,h2⟩
        rcases Nat.lt_or_ge j i with g|g
        · exact h1 j o g b
        · obtain rfl:j=i:=by omega
          rw[ho]at b;cases b;exact hn
    cases hd:ops[i].dst with
    |none=>
      rw[hd]at h;exact oC h (by simp[hd])
    |some s=>
      rw[hd]at h;simp only[Env.put,Env.bf]at h;by_cases e:s=t
      · simp only[if_pos e,Option.some.injEq]at h
        exact .inl ⟨i,_,Nat.lt_succ_self _,ho,by rw[hd,e],h.symm,fun j' o' a b=>by omega⟩
      · simp only[if_neg e]at h
        exact oC h (by rw[hd];simpa using e)
theorem Trace.still(ht:Trace P N ops ops.toList ks E B ds)(lo:Nat):∀hi,hi≤ops.size→lo≤hi→(∀j,lo≤j→j<hi→ks[j]?≠some .w)→B hi=B lo
  |0,_,hl,_=>by
      obtain rfl:lo=0:=by omega
      rfl
  |hi+1,hs,hl,hn=>by
    rcases Nat.lt_or_ge hi lo with g|g
    · obtain rfl:lo=hi+1:=by omega
      rfl
    · have ho:ops[hi]?=some ops[hi]:=Array.getElem?_eq_getElem zO
      obtain⟨k,hk,_,_,hB,_⟩:=ht.at ho;rw[hB (fun e=>hn hi g (Nat.lt_succ_self _) (by rw[hk,e]))];exact Trace.still ht lo hi zO g (fun j a b=>hn j a zO)
def hJ(listed:Array Bool)(i:Nat):Prop:=listed[i]?=some true
structure DB(F:Fr)(C:Ctx)(ops:Array Oper)(ks:List Kind)(E:Nat→Env)(B:Nat→aa)(ds:Nat→D)(listed:Array Bool)(a:Act)(w:World)(ρ:aC)(c:Nat):Prop where
  down:∀j o,ops[j]?=some o→hJ listed j→∀e∈o.after.toList,Region.binds .any e=true→hJ listed e.on
  cut:∀j,ks[j]?=some .w→(hJ listed j↔j<c)
  le:c≤ops.size
  tr:iw C.O C.w0 C.u6 C.FO w ρ (B c)
  fresh:∀t d,(∀j o,ops[j]?=some o→hJ listed j→o.dst≠some t)→(E 0).get t=some d→V w (Ot C.O ρ (B c)) ρ d (a.tmps.getD t undef)
  last:∀j o t,ops[j]?=some o→hJ listed j→o.dst=some t→(∀j' o',ops[j']?=some o'→hJ listed j'→o'.dst=some t→j'≤j)→V w (Ot C.O ρ (B c)) ρ (ds j) (a.tmps.getD t undef)
  size:a.tmps.size=F.N
  keep:∀i,i∈F.ps→∀l,C.u6 i=some l→ρ i=some l
  marks:Marks C.w0.heap.size w (Ot C.O ρ (B c)) a.defers
  rd:F.rd=false→C.ro=none
  yl:∀i b,F.yl=some (i,b)→i∈F.ps∧∃l,C.u6 i=some l∧l.b=b
  gl:Gl C.w0 (Ot C.O C.u6 C.FO)
theorem CV{listed:Array Bool}(down:∀j o,ops[j]?=some o→hJ listed j→∀e∈o.after.toList,Region.binds .any e=true→hJ listed e.on){i j:Nat}(h:u9 ops i j)
    (hj:∀o,ops[j]?=some o→∀e∈o.after.toList,Region.binds .any e=true→hJ listed e.on):hJ listed i:=by
  induction h with
  |Om ho he hb=>exact hj _ ho _ he hb
  |step ho he hb _ ih=>exact ih (fun o h'=>down _ o h' (hj _ ho _ he hb))
theorem DB.look{F:Fr}{listed:Array Bool}{a:Act}{w:World}{ρ:aC}{c:Nat}(hI:DB F C ops ks E B ds listed a w ρ c)(ht:Trace P F.N ops ops.toList ks E B ds)(af:kM ops ks=true)
    {i:Nat}{o:Oper}(ho:ops[i]?=some o)(cz:¬hJ listed i)(hr:∀e∈o.after.toList,Region.binds .any e=true→hJ listed e.on){t:Nat}(xH:t∈AH ops o){d:D}(hd:(E i).get t=some d):
    V w (Ot C.O ρ (B c)) ρ d (a.tmps.getD t undef):=by
  have hi:i<ops.size:=(Array.getElem?_eq_some_iff.1 ho).1;obtain⟨ki,E2,_⟩:=ht.at ho;have J2:∀j' o',ops[j']?=some o'→hJ listed j'→o'.dst=some t→j'<i:=by
    intro j' o' h1 h2 h3;rcases Nat.lt_trichotomy j' i with g|g|g
    · exact g
    · subst g;exact absurd h2 cz
    · obtain⟨k',qB,_⟩:=ht.at h1
      have hp:=CK af g ho h1 E2 qB (by simp[wT,h3,xH]);exact absurd (CV hI.down hp (fun x1 h4 e he hb=>hI.down j' x1 h4 h2 e he hb)) cz
  rcases ht.look t d i zO hd with⟨j,oj,h1,h2,h3,h4,h5⟩|⟨h1,h2⟩
  · obtain⟨kj,BI,_⟩:=ht.at h2
    have hp:=CK af h1 h2 ho BI E2 (by simp[wT,h3,xH]);have hl:hJ listed j:=CV hI.down hp (fun x1 h6=>by rw[ho]at h6;cases h6;exact hr);rw[h4];refine hI.last j oj t h2 hl h3 fun j' o' a1 a2 a3=>?_;rcases Nat.lt_or_ge j j' with g|g
    · exact absurd a3 (h5 j' o' g (J2 j' o' a1 a2 a3) a1)
    · exact g
  · exact hI.fresh t d (fun j o' a1 a2 a3=>h1 j o' (J2 j o' a1 a2 a3) a1 a3) h2
theorem vT{listed:Array Bool}{i j:Nat}(hi:i<listed.size):hJ (listed.setIfInBounds i true) j↔j=i∨hJ listed j:=by
  unfold hJ;rw[Array.getElem?_setIfInBounds];by_cases e:i=j
  · subst e;simp[hi]
  · rw[if_neg e]
    exact⟨.inr,fun h=>h.resolve_left (fun e'=>e e'.symm)⟩
def todo(listed:Array Bool):Nat:=(listed.toList.filter (!·)).length
theorem VH{listed:Array Bool}{i:Nat}(h:listed[i]?=some false):todo (listed.setIfInBounds i true)+1=todo listed:=by
  obtain⟨hi,he⟩:=Array.getElem?_eq_some_iff.1 h;have nw:i<listed.toList.length:=by simpa using hi
  unfold todo;rw[Array.toList_setIfInBounds];have h1:listed.toList=listed.toList.take i++false::listed.toList.drop (i+1):=by
    conv=>lhs;rw[←List.take_append_drop i listed.toList,List.drop_eq_getElem_cons nw]
    simp[he]
  conv=>rhs;rw[h1]
  rw[List.set_eq_take_append_cons_drop,if_pos nw];simp;omega
theorem Trace.any{F:Fr}(ht:Trace P F.N ops ops.toList ks E B ds)(af:kM ops ks=true){Q:Exit→Act→World→Prop}
    (hQ:∀a w,St F C (E ops.size) (B ops.size) a w→Q .normal a w):
    ∀(eF:Nat)(listed:Array Bool)(a:Act)(w:World),listed.size=ops.size→todo listed≤eF→(∃ρ c,DB F C ops ks E B ds listed a w ρ c)→wpAnyIn (fz C.ro) 0 P .any ops Q eF listed a w:=by
  have fin:∀(listed:Array Bool)(a:Act)(w:World),listed.size=ops.size→Region.ready .any ops listed=[]→(∃ρ c,DB F C ops ks E B ds listed a w ρ c)→Q .normal a w:=by
    intro listed a w hs hr ⟨ρ,c,hI⟩;have all:∀n,n≤ops.size→∀i,i<n→hJ listed i:=by
      intro n;induction n with
      |zero=>intro _ i hi;omega
      |succ n ih=>
        intro hn i hi;rcases Nat.lt_or_ge i n with g|g
        · exact ih zO i g
        · obtain rfl:i=n:=by omega
          have bN:i<listed.size:=by omega
          have ho:ops[i]?=some ops[i]:=Array.getElem?_eq_getElem zO;unfold hJ;cases hb:listed[i]with
          |true=>rw[Array.getElem?_eq_getElem bN,hb]
          |false=>
            have:i∈Region.ready .any ops listed:=by
              simp only[Region.ready,List.mem_filter,List.mem_range];refine⟨by omega,?_⟩;simp only[Array.getD_eq_getD_getElem?,Array.getElem?_eq_getElem bN,hb,Option.getD_some,Bool.not_false,Bool.true_and,ho,Option.map_some];rw[←Array.all_toList,List.all_eq_true];intro e he;cases BA:Region.binds .any e with
              |false=>simp
              |true=>
                have:=ih zO e.on (ahg af ho he BA);unfold hJ at this;simp[this]
            rw[hr]at this;cases this
    have eI:∀i,i<ops.size→hJ listed i:=all ops.size (Nat.le_refl _);have hB:B ops.size=B c:=by
      refine ht.still c ops.size (Nat.le_refl _) hI.le fun j h1 h2 hk=>?_;have:=(hI.cut j hk).1 (eI j h2);omega
    refine hQ a w ⟨ρ,hI.keep,by rw[hB];exact hI.tr,?_,hI.size,by rw[hB];exact hI.marks,hI.rd,hI.yl,hI.gl⟩;rw[hB];intro t d hd;rcases ht.look t d ops.size (Nat.le_refl _) hd with⟨j,o,h1,h2,h3,h4,h5⟩|⟨h1,h2⟩
    · rw[h4]
      refine hI.last j o t h2 (eI j h1) h3 fun j' o' a1 a2 a3=>?_;rcases Nat.lt_or_ge j j' with g|g
      · exact absurd a3 (h5 j' o' g (Array.getElem?_eq_some_iff.1 a1).1 a1)
      · exact g
    · exact hI.fresh t d (fun j o a1 _=>h1 j o (Array.getElem?_eq_some_iff.1 a1).1 a1) h2
  intro eF;induction eF with
  |zero=>
    intro listed a w hs hf hI;have hr:Region.ready .any ops listed=[]:=by
      rw[Region.ready,List.filter_eq_nil_iff];intro i hi;have bN:i<listed.size:=by rw[hs];simpa using hi
      have:listed[i]=true:=by
        cases hb:listed[i]with
        |true=>rfl
        |false=>
          have:=VH (listed:=listed) (i:=i) (by rw[Array.getElem?_eq_getElem bN,hb]);omega
      simp[Array.getD_eq_getD_getElem?,Array.getElem?_eq_getElem bN,this]
    exact⟨hr,fin listed a w hs hr hI⟩
  |succ eF ih=>
    intro listed a w hs hf hI;refine⟨fun hr=>fin listed a w hs hr hI,fun i hi=>?_⟩;obtain⟨ρ,c,hI⟩:=hI;simp only[Region.ready,List.mem_filter,List.mem_range,Bool.and_eq_true,Bool.not_eq_true']at hi;obtain⟨bN,BO,BT⟩:=hi;have sJ:i<listed.size:=by omega
    have Qo:listed[i]?=some false:=by
      simp only[Array.getD_eq_getD_getElem?,Array.getElem?_eq_getElem sJ,Option.getD_some]at BO;rw[Array.getElem?_eq_getElem sJ,BO]
    have cz:¬hJ listed i:=by unfold hJ;rw[Qo];simp
    have ho:ops[i]?=some ops[i]:=Array.getElem?_eq_getElem bN;generalize ops[i]=o at ho;have I_:∀e∈o.after.toList,Region.binds .any e=true→hJ listed e.on:=by
      intro e he hb;rw[ho]at BT;simp only[Option.map_some,Option.getD_some,←Array.all_toList,List.all_eq_true]at BT;have:=BT e he;simp only[hb,Bool.not_true,Bool.false_or,Array.getD_eq_getD_getElem?]at this;unfold hJ;cases hl:listed[e.on]?with
      |none=>simp[hl]at this
      |some b=>simp[hl]at this;rw[this]
    obtain⟨k,hk,I5,hE,hBk,adf⟩:=ht.at ho;have QD:∀t∈AH ops o,∀d,(E i).get t=some d→V w (Ot C.O ρ (B c)) ρ d (a.tmps.getD t undef):=fun t xH d hd=>hI.look ht af ho cz I_ xH hd;have Qw:∀g b t,o.guard=some (g,b)→(ops[g]?).bind (·.dst)=some t→∀d,(E i).get t=some d→V w (Ot C.O ρ (B c)) ρ d (a.tmps.getD t undef):=by
      intro g b t hg hgt d hd;exact QD t (by simp[AH,hg,hgt]) d hd
    have QL:∀x∈o.op.operands.toList,∀d',(E i).op x=some d'→V w (Ot C.O ρ (B c)) ρ d' (a.eval x):=by
      intro x hx d' hd;cases x with
      |tmp t=>exact QD t (by
          simp only[AH,List.mem_append,List.mem_filterMap];exact .inl ⟨.tmp t,hx,rfl⟩) d' hd
      |const v=>exact KS hd
      |global g=>simp only[Env.op,Option.some.injEq]at hd;subst hd;simp[V,Act.eval]
      |func f=>simp only[Env.op,Option.some.injEq]at hd;subst hd;exact⟨#[],#[],rfl,by simp[Vs],by simp[Vs]⟩
    -- writers other than i: listed just where they come before i, if i itself reads or writes
    have wr:k≠.p→∀j,ks[j]?=some .w→j≠i→(hJ listed j↔j<i):=by
      intro kc j hj hji;have Qz:j<ops.size:=by
        have:=(List.getElem?_eq_some_iff.1 hj).1;rw[ht.len]at this;simpa using this
      have qF:ops[j]?=some ops[j]:=Array.getElem?_eq_getElem Qz;constructor
      · intro hl
        rcases Nat.lt_or_ge j i with g|g
        · exact g
        · have hp:=CK af (by omega:i<j) ho qF hk hj (by cases k<;>simp_all[wT])
          exact absurd (CV hI.down hp (fun x1 h4 e he hb=>hI.down j x1 h4 hl e he hb)) cz
      · intro acU
        have hp:=CK af acU qF ho hj hk (by cases k<;>simp_all[wT]);exact CV hI.down hp (fun x1 h6=>by rw[ho]at h6;cases h6;exact I_)
    have Bw:k≠.p→B i=B c:=by
      intro kc;rcases Nat.lt_or_ge i c with g|g
      · refine(ht.still i c hI.le zO fun j h1 h2 hj=>?_).symm
        by_cases e:j=i
        · subst e;exact cz ((hI.cut j hj).2 g)
        · have:=(wr kc j hj e).1 ((hI.cut j hj).2 h2);omega
      · refine ht.still c i zO g fun j h1 h2 hj=>?_
        have:=(hI.cut j hj).1 ((wr kc j hj zO).2 h2);omega
    -- the state behind operation i
    have next:∀(v:Value)(w':World)(aw:aC)(c':Nat),c'≤ops.size→(∀j,ks[j]?=some .w→(hJ (listed.setIfInBounds i true) j↔j<c'))→Tr C.O w ρ (B c) w' aw (B c')→V w' (Ot C.O aw (B c')) aw (ds i) v→
        wpAnyIn (fz C.ro) 0 P .any ops Q eF (listed.setIfInBounds i true) (a.put o.dst v) w':=by
      intro v w' aw c' zn acE bm hv;refine ih _ _ _ (by simpa using hs) (by have:=VH Qo;omega) ⟨aw,c',?_,acE,zn,hI.tr.trans bm.wA,?_,?_,(Act.uS _ _ _).trans hI.size,fun i hi l hl=>bm.le i l (hI.keep i hi l hl),?_,hI.rd,hI.yl,hI.gl⟩
      · intro j oj qF hl e he hb
        rw[vT sJ]at hl⊢;rcases hl with rfl|hl
        · rw[ho]at qF;cases qF;exact .inr (I_ e he hb)
        · exact .inr (hI.down j oj qF hl e he hb)
      · intro t d hn hd
        have Jt:o.dst≠some t:=hn i o ho ((vT sJ).2 (.inl rfl));have:=bm.V (hI.fresh t d (fun j oj a1 a2=>hn j oj a1 ((vT sJ).2 (.inr a2))) hd);cases BE:o.dst with
        |none=>exact this
        |some s=>
          have aY:s<a.tmps.size:=by rw[hI.size];simpa[eQ,BE,Nat.blt_eq]using I5
          simp only[Act.put,Bt _ _ _ _ aY];rw[if_neg (fun e=>Jt (by rw[BE,e]))];exact this
      · intro j oj t qF hl EV zx
        rw[vT sJ]at hl;by_cases e:j=i
        · subst e
          rw[ho]at qF;cases qF;have aY:t<a.tmps.size:=by rw[hI.size];simpa[eQ,EV,Nat.blt_eq]using I5
          simp only[EV,Act.put,Bt _ _ _ _ aY,if_true];exact hv
        · have zw:=hl.resolve_left e
          have Jt:o.dst≠some t:=by
            intro xq;have h1:=zx i o ho ((vT sJ).2 (.inl rfl)) xq;obtain⟨kj,BI,_⟩:=ht.at qF;have hp:=CK af (by omega:i<j) ho qF hk BI (by simp[wT,xq,EV]);exact absurd (CV hI.down hp (fun x1 h4 e he hb=>hI.down j x1 h4 zw e he hb)) cz
          have:=bm.V (hI.last j oj t qF zw EV (fun j' o' a1 a2 a3=>zx j' o' a1 ((vT sJ).2 (.inr a2)) a3));cases BE:o.dst with
          |none=>exact this
          |some s=>
            have aY:s<a.tmps.size:=by rw[hI.size];simpa[eQ,BE,Nat.blt_eq]using I5
            simp only[Act.put,Bt _ _ _ _ aY];rw[if_neg (fun e=>Jt (by rw[BE,e]))];exact this
      · rw[Act.mI];exact bm.wA.marks hI.marks
    -- the cut behind an operation that is no writer
    have HH:k≠.w→∀j,ks[j]?=some .w→(hJ (listed.setIfInBounds i true) j↔j<c):=by
      intro nA j hj;rw[vT sJ,←hI.cut j hj];exact⟨fun h=>h.resolve_left (fun e=>by subst e;rw[hk]at hj;exact nA (Option.some.inj hj)),.inr⟩
    have NR:k=.w→∀j,ks[j]?=some .w→(hJ (listed.setIfInBounds i true) j↔j<i+1):=by
      intro nA j hj;rw[vT sJ];by_cases e:j=i
      · subst e;exact⟨fun _=>Nat.lt_succ_self _,fun _=>.inl rfl⟩
      · rw[wr (by rw[nA];simp) j hj e]
        constructor
        · rintro(h|h)
          · exact absurd h e
          · omega
        · intro h;exact .inr zO
    unfold wpOpIn;simp only[ho];rcases adf with⟨hg,hqp,hq⟩|⟨hg,xq,acp⟩
    · rw[if_pos (Ds hg Qw)]
      by_cases kc:k=.p
      · refine Oper.wpIn_mono ?_ (yC C.ro (hqp kc (B c) C.O ρ a w hI.tr.ok (hI.gl.mono hI.tr.kept) QL) (by rintro a' w' ⟨aw,v,rfl,_⟩;exact Act.mI ..))
        rintro a' w' ⟨aw,v,rfl,kZ,hv⟩;exact next v w' aw c hI.le (HH (by rw[kc];simp)) kZ hv
      · have qG:=hq
        rw[Bw kc]at qG;refine Oper.wpIn_mono ?_ (yC C.ro (qG C.O ρ a w hI.tr.ok (hI.gl.mono hI.tr.kept) QL) (by rintro a' w' ⟨aw,v,rfl,_⟩;exact Act.mI ..));rintro a' w' ⟨aw,v,rfl,kZ,hv⟩;by_cases nA:k=.w
        · exact next v w' aw (i+1) zO (NR nA) kZ hv
        · have qy:B (i+1)=B c:=(hBk nA).trans (Bw kc)
          rw[qy]at kZ hv;exact next v w' aw c hI.le (HH nA) kZ hv
    · rw[if_neg (by simp[Mf hg Qw])]
      refine⟨fun _ _=>trivial,?_⟩;by_cases nA:k=.w
      · have qy:B (i+1)=B c:=acp.trans (Bw (by rw[nA];simp))
        refine next undef w ρ (i+1) zO (NR nA) (by rw[qy];exact Tr.refl hI.tr.ok) ?_
        rw[xq];simp[V]
      · refine next undef w ρ c hI.le (HH nA) (Tr.refl hI.tr.ok) ?_
        rw[xq];simp[V]
end
end Go.T
