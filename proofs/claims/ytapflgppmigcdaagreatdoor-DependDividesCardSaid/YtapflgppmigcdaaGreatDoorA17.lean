/-
  Contracts of the functions that the statement reaches, and the logic in which they are proved (no condition): parts Core58, Core59, W100, W101, W102, W103, W104, W105, W106, W107, W108, Core61, W109, W110, Core62, SpecD20, SpecD21, SpecD22, SpecD23, W111, Core63, W112, Spec18, Spec19, Spec20, Spec21, Law1, Law2.
-/
import Derived.Test.YtapflgppmigcdaaGreatDoorA16
set_option linter.all false
namespace Go.T
open Go Go.Proofs Go.Shelf Go.RowKit Go.Lib Go.Sort
theorem zj{w:World}{O:Nat→Prop}{b:Nat}:∀(rows:List (List D))(off:Nat),Vr w O b off 1 rows→∀(i:Nat)(d:D),rows[i]?=some [d]→∃u,w.cell? ⟨b,off+i,none⟩=some u∧u.oneCell'=true∧V w O di d u
 |[],_,_,i,d,h=>by simp at h
 |r::rows,off,hv,0,d,h=>by
  simp only[Vr]at hv;simp only[List.getElem?_cons_zero,Option.some.injEq]at h;subst h;obtain⟨⟨_,h1⟩,_⟩:=hv;simp only[Vc]at h1;obtain⟨⟨u,⟨h2,h3⟩,h4⟩,_⟩:=h1;exact⟨u,h2,h3,h4⟩
 |r::rows,off,hv,i+1,d,h=>by
  simp only[Vr]at hv;have:=zj rows (off+1) hv.2 i d (by simpa using h);rwa[show off+1+i=off+(i+1) by omega]at this
theorem Fz{w:World}{O:Nat→Prop}{b:Nat}:∀(rows:List (List D))(off:Nat),(∀(i:Nat)(r:List D),rows[i]?=some r→∃d u,r=[d]∧w.cell? ⟨b,off+i,none⟩=some u∧u.oneCell'=true∧V w O di d u)→Vr w O b off 1 rows
 |[],_,_=>by simp[Vr]
 |r::rows,off,h=>by
  simp only[Vr];obtain⟨d,u,rfl,h1,h2,h3⟩:=h 0 r rfl;refine⟨⟨rfl,?_⟩,Fz rows (off+1) fun i r hr=>?_⟩
  ·simp only[Vc];exact⟨⟨u,⟨by simpa using h1,h2⟩,h3⟩,trivial⟩
  ·have:=h (i+1) r (by simpa using hr);rwa[show off+(i+1)=off+1+i by omega]at this
theorem afk(c d:UInt8)(r s:aa):aa.lt (c::r) (d::s)=(decide (c.toNat<d.toNat)||(decide (c=d)&&aa.lt r s)):=by
 show(decide (c<d)||(c==d&&Op.bytesLess r s))=_;have h1:decide (c<d)=decide (c.toNat<d.toNat):=by simp[UInt8.lt_iff_toNat_lt]
 have h2:(c==d)=decide (c=d):=by rw[Bool.eq_iff_iff];simp
 rw[h1,h2];rfl
theorem IM:∀a b:aa,aa.lt a b=true↔a<b
 |[],[]=>by simp[aa.lt,Op.bytesLess]
 |[],_::_=>by simp[aa.lt,Op.bytesLess]
 |_::_,[]=>by simp[aa.lt,Op.bytesLess]
 |x::a,y::b=>by
  rw[afk,List.cons_lt_cons_iff];have ih:=IM a b;simp only[Bool.or_eq_true,Bool.and_eq_true,decide_eq_true_eq,ih];rfl
theorem WR(a b:aa):(mJ a b<0)↔a<b:=by
 unfold mJ;by_cases h:aa.lt a b=true
 ·rw[if_pos h];exact⟨fun _=>(IM a b).1 h,fun _=>by decide⟩
 ·rw[if_neg h];constructor
  ·intro h2;split at h2<;>simp at h2
  ·intro h2;exact absurd ((IM a b).2 h2) h
theorem HG{α:Type}[Inhabited α]{enc:α→Value}{w:World}{bW off m:Nat}{dk:Array α}{os:Array Obj}{b:Nat}(hb:b<w.heap.size)(aB:b≠bW):(sortWorld enc w bW off m dk os).heap[b]?=w.heap[b]?:=by
 unfold sortWorld putRow mapBlock Sort.grow Sort.ahead;simp only;rw[Array.getElem?_append_left (by simpa using hb),Array.getElem?_modify,if_neg (Ne.symm aB)]
theorem acO{α:Type}[Inhabited α]{enc:α→Value}{w:World}{bW off m:Nat}{dk:Array α}{os:Array Obj}{c:Array Value}{T:TypeId}{fr:Nat×Nat}(hb:w.heap[bW]?=some (.cells c T fr)):(sortWorld enc w bW off m dk os).heap[bW]?=some (.cells (putCells enc off dk c) T fr):=by
 have kM:bW<w.heap.size:=(Array.getElem?_eq_some_iff.1 hb).1;unfold sortWorld putRow mapBlock Sort.grow Sort.ahead;simp only;rw[Array.getElem?_append_left (by simpa using kM),Array.getElem?_modify,if_pos rfl,hb];rfl
theorem TH{α:Type}[Inhabited α](enc:α→Value)(w:World)(bW off m:Nat)(dk:Array α)(os:Array Obj):w.heap.size≤(sortWorld enc w bW off m dk os).heap.size:=by
 unfold sortWorld putRow mapBlock Sort.grow Sort.ahead;simp
theorem ajp{P:Program}{f g:Nat}
  (ale:∀{α:Type}[Inhabited α](enc:α→Value)(_:OneCell enc)(cf:α→α→Int)(_:SWO (ltOf cf))(bW off cap:Nat)(d:Array α)(w:World)(_:CmpLays1 P g #[] enc cf bW off d.size w)(_:Holds enc w bW off d)(_:bW<w.heap.size)(_:d.size<4611686018427387904)(_:∀x y,(ltOf cf) x y=false→(ltOf cf) y x=false→x=y),
   Calls P f #[.slice (some ⟨bW,off,none⟩) d.size cap,.func (.func g) #[] #[]] w fun e w'=>e=.returned (.tuple #[])∧∃n os,w'=sortWorld enc w bW off n (d.toList.mergeSort fun x y=>!(ltOf cf) y x).toArray os)
  (agl:∀(p:Option Addr)(cap:Nat)(fv:Value)(w:World),Calls P f #[.slice p 0 cap,fv] w fun e w'=>e=.returned (.tuple #[])∧w'=w)
  {β:Type}(dD:β→D)(key:β→aa)(id:Nat)(r0:D)(l l2:List β)(hl:l.length<4611686018427387904)(hc:∀x∈l,∀y∈l,@Fc calm P g [dD x,dD y] (.i (mJ (key x) (key y))))
  (hk:(l.map key).Nodup)(hp:l2.Perm l)(hs:(l2.map key).Pairwise fun a b=>a≤b):
  dv P f [.n_ id 1 l.length,.fn (.func g) [] []] [(id,.arr 1 ([r0]::l.map fun x=>[dD x]))] (.bf []) [(id,.arr 1 ([r0]::l2.map fun x=>[dD x]))]:=⟨fun w O ρ vals aj cQ hv=>by
 simp only[Vs,V]at hv;obtain⟨v1,us,rfl,⟨aN,cap,g_,rfl,dA⟩,v2,w6,rfl,⟨xs,ys,rfl,v6,AL⟩,rfl⟩:=hv;obtain rfl:xs=#[]:=by rw[←Array.toArray_toList (xs:=xs),v6]
 obtain rfl:ys=#[]:=by rw[←Array.toArray_toList (xs:=ys),AL]
 have Ar:l2.length=l.length:=hp.length_eq;have eB:ae.get [(id,Ob.arr 1 ([r0]::l.map fun x=>[dD x]))] id=some (.arr 1 ([r0]::l.map fun x=>[dD x])):=by simp[ae.get]
 obtain⟨l',h3,xY,c,T,hb,be,qC,qK⟩:=aj.own id _ eB rfl;rw[g_]at h3;cases h3;have kM:aN.b<w.heap.size:=(Array.getElem?_eq_some_iff.1 hb).1;have jS:Ot O ρ [(id,Ob.arr 1 ([r0]::l.map fun x=>[dD x]))] aN.b:=.inr ⟨id,_,aN,eB,rfl,g_,rfl⟩;by_cases hn:l.length=0
 ·have e1:l=[]:=List.length_eq_zero_iff.1 hn;have e2:l2=[]:=List.length_eq_zero_iff.1 (Ar.trans hn);subst e1;subst e2;refine Calls.mono (agl (some ⟨aN.b,aN.off+1,none⟩) cap (.func (.func g) #[] #[]) w) ?_;rintro e w' ⟨rfl,rfl⟩;exact⟨_,ρ,rfl,Tr.refl aj,by simp[V,Vs]⟩
 have cells:∀i:Fin l.length,∃u,w.cell? ⟨aN.b,aN.off+1+i.1,none⟩=some u∧u.oneCell'=true∧V w (Ot O ρ [(id,Ob.arr 1 ([r0]::l.map fun x=>[dD x]))]) di (dD l[i.1]) u:=fun i=>by
  have:=zj _ _ qK (i.1+1) (dD l[i.1]) zS;rwa[show aN.off+(i.1+1)=aN.off+1+i.1 by omega]at this
 let enc:Fin l.length→Value:=fun i=>Classical.choose (cells i)
 have xQ:∀i,w.cell? ⟨aN.b,aN.off+1+i.1,none⟩=some (enc i)∧(enc i).oneCell'=true∧V w (Ot O ρ [(id,Ob.arr 1 ([r0]::l.map fun x=>[dD x]))]) di (dD l[i.1]) (enc i):=fun i=>Classical.choose_spec (cells i)
 clear_value enc
 haveI:Inhabited (Fin l.length):=⟨⟨0,by omega⟩⟩
 let cf:Fin l.length→Fin l.length→Int:=fun i j=>mJ (key l[i.1]) (key l[j.1])
 have bw:∀i j,ltOf cf i j=decide (key l[i.1]<key l[j.1]):=fun i j=>by
  unfold ltOf;rw[decide_eq_decide];exact WR _ _
 have hd:(Array.ofFn (fun i:Fin l.length=>i)).size=l.length:=Array.size_ofFn ..;have hdj:∀j(h:j<l.length),(Array.ofFn (fun i:Fin l.length=>i))[j]! =⟨j,h⟩:=fun j h=>by
  rw[getElem!_pos _ j (by rw[hd];exact h)];simp
 have HA:CmpLays1 P g #[] enc cf aN.b (aN.off+1) (Array.ofFn fun i:Fin l.length=>i).size w:=by
  intro m os dk _ x y;have xU:Kept w (Ot O ρ [(id,Ob.arr 1 ([r0]::l.map fun x=>[dD x]))]) (sortWorld enc w aN.b (aN.off+1) m dk os) (fun _=>False):=⟨TH ..,fun b fp ho=>⟨fun o e _=>HG fp (fun e=>ho (e▸jS)),fun h=>h⟩⟩;have:=@Fc.out calm _ _ _ _ (hc _ (List.getElem_mem (h:=x.2)) _ (List.getElem_mem (h:=y.2))) (sortWorld enc w aN.b (aN.off+1) m dk os) (fun _=>False) di [enc x,enc y] (fun _ h=>h.elim) (Gl.mono xU cQ) (by
   simp only[Vs];exact⟨_,_,rfl,V.mono xU (bA.refl _) _ _ (xQ x).2.2,_,_,rfl,V.mono xU (bA.refl _) _ _ (xQ y).2.2,rfl⟩)
  refine Calls.mono (by simpa using this) ?_;rintro e w' ⟨v,rfl,hv,hk⟩;simp only[D.i,V]at hv;subst hv;exact⟨rfl,ab' hk⟩
 have PY:=ale enc (fun x=>(xQ x).2.1) cf
  ⟨fun x=>by rw[bw];simp[List.lt_irrefl],fun x y z h1 h2=>by rw[bw]at*;simp only[decide_eq_true_eq]at*;exact List.lt_trans h1 h2,fun x y z h1 h2=>by
   rw[bw]at*;simp only[decide_eq_false_iff_not,List.not_lt]at*;exact List.le_trans h2 h1⟩
  aN.b (aN.off+1) cap (Array.ofFn fun i:Fin l.length=>i) w
  HA (by
   intro j hj;rw[hd]at hj;rw[hdj j hj];exact⟨(xQ ⟨j,hj⟩).1,by simp[World.frozen?,hb]⟩) kM (by rw[hd];exact hl)
  (fun x y h1 h2=>by
   rw[bw]at h1 h2;simp only[decide_eq_false_iff_not,List.not_lt]at h1 h2;have e:=List.le_antisymm h2 h1;have h3:(l.map key)[x.1]'(by simp)=(l.map key)[y.1]'(by simp):=by simpa using e
   have hp:=List.pairwise_iff_getElem.1 hk;rcases Nat.lt_trichotomy x.1 y.1 with h4|h4|h4
   ·exact absurd h3 (hp _ _ _ _ h4)
   ·exact Fin.ext h4
   ·exact absurd h3.symm (hp _ _ _ _ h4))
 rw[hd]at PY;refine Calls.mono PY ?_;rintro e w' ⟨rfl,n,os,rfl⟩;generalize Pn:(Array.ofFn fun i:Fin l.length=>i).toList.mergeSort (fun x y=>!(ltOf cf) y x)=sr;have Pe:sr.Perm (Array.ofFn fun i:Fin l.length=>i).toList:=by rw[←Pn];exact List.mergeSort_perm _ _
 have AD:sr.length=l.length:=by rw[Pe.length_eq];simp
 have ez:((Array.ofFn fun i:Fin l.length=>i).toList.map fun i=>l[i.1])=l:=by
  apply List.ext_getElem
  ·simp
  ·intro i h1 h2;simp
 have Ic:sr.Pairwise fun i j=>key l[i.1]≤key l[j.1]:=by
  have Pg:=List.pairwise_mergeSort (le:=fun x y=>!(ltOf cf) y x) (by
   intro a b c h1 h2;rw[bw]at*;simp only[Bool.not_eq_true',decide_eq_false_iff_not,List.not_lt]at*;exact List.le_trans h1 h2) (by
   intro a b;rw[bw,bw];simp only[Bool.or_eq_true,Bool.not_eq_true',decide_eq_false_iff_not,List.not_lt];exact List.le_total _ _) (Array.ofFn fun i:Fin l.length=>i).toList
  rw[Pn]at Pg;refine Pg.imp ?_;intro a b h;rw[bw]at h;simpa only[Bool.not_eq_true',decide_eq_false_iff_not,List.not_lt]using h
 have acY:(sr.map fun i=>l[i.1])=l2:=by
  have Pd:(sr.map fun i=>l[i.1]).Perm l2:=by
   have:=Pe.map fun i:Fin l.length=>l[i.1];rw[ez]at this;exact this.trans hp.symm
  refine List.Perm.eq_of_pairwise (le:=fun x y=>key x≤key y) (fun a b ha fp h1 h2=>?_) (List.pairwise_map.2 Ic) (List.pairwise_map.1 hs) Pd;have e:=List.le_antisymm h1 h2;have vF:a∈l:=hp.mem_iff.1 (Pd.mem_iff.1 ha);have tL:b∈l:=hp.mem_iff.1 fp;obtain⟨i,hi,rfl⟩:=List.getElem_of_mem vF;obtain⟨j,hj,rfl⟩:=List.getElem_of_mem tL;have h3:(l.map key)[i]'(by simpa using hi)=(l.map key)[j]'(by simpa using hj):=by simpa using e
  have pF:=List.pairwise_iff_getElem.1 hk;rcases Nat.lt_trichotomy i j with h4|h4|h4
  ·exact absurd h3 (pF _ _ _ _ h4)
  ·subst h4;rfl
  ·exact absurd h3.symm (pF _ _ _ _ h4)
 have xS:=acO (enc:=enc) (off:=aN.off+1) (m:=n) (dk:=sr.toArray) (os:=os) hb;have r3:w.heap.size≤(sortWorld enc w aN.b (aN.off+1) n sr.toArray os).heap.size:=TH ..;have x3:∀b,bQ ρ [(id,Ob.arr 1 ([r0]::l2.map fun x=>[dD x]))] b→bQ ρ [(id,Ob.arr 1 ([r0]::l.map fun x=>[dD x]))] b:=by
  rintro b ⟨i,o,q,g1,g2,g3,g4⟩;obtain⟨rfl,_⟩:=oG g1;exact⟨_,_,q,eB,rfl,g3,g4⟩
 have xU:Kept w (Ot O ρ [(id,Ob.arr 1 ([r0]::l.map fun x=>[dD x]))]) (sortWorld enc w aN.b (aN.off+1) n sr.toArray os) (Ot O ρ [(id,Ob.arr 1 ([r0]::l2.map fun x=>[dD x]))]):=
  ⟨r3,fun b fp ho=>⟨fun o e _=>HG fp (fun e=>ho (e▸jS)),fun g=>ho (g.imp _root_.id (x3 b))⟩⟩
 refine⟨_,ρ,rfl,⟨bA.refl _,r3,fun b kL fp=>?_,fun b kL=>.inl (x3 b kL),⟨fun b kL=>Nat.lt_of_lt_of_le (aj.lt b kL) r3,fun i hi=>?_,fun i o g1 g2=>?_,fun i j o o' q q' g1 g2 _ _ _ _ _=>?_⟩,rfl,rfl,.inl ⟨rfl,Nat.le_add_right _ _⟩⟩,by simp[V,Vs]⟩
 ·refine HG kL fun e=>fp ?_;exact⟨id,_,aN,eB,rfl,g_,e.symm⟩
 ·exact aj.fresh i (G_ hi)
 ·obtain⟨rfl,rfl⟩:=oG g1;refine⟨aN,g_,xY,_,T,xS,by simpa[putCells]using be,by simpa[Ar]using qC,Fz _ _ fun i r hr=>?_⟩;have HB:aN.off+l.length<c.size:=by
   simp only[List.length_cons,List.length_map]at qC;omega
  have LJ:∀o,(sortWorld enc w aN.b (aN.off+1) n sr.toArray os).cell? ⟨aN.b,o,none⟩=(putCells enc (aN.off+1) sr.toArray c)[o]?:=fun o=>by simp[World.cell?,xS]
  have Wi:∀o,w.cell? ⟨aN.b,o,none⟩=c[o]?:=fun o=>by simp[World.cell?,hb]
  cases i with
  |zero=>
   simp only[List.getElem?_cons_zero,Option.some.injEq]at hr;subst hr;obtain⟨u,h1,h2,h3⟩:=zj _ _ qK 0 r0 rfl;refine⟨r0,u,rfl,?_,h2,V.mono xU (bA.refl _) _ _ h3⟩;rw[LJ,←h1,Wi];simp only[putCells,Array.getElem?_mapIdx,Nat.add_zero];have ca:¬(aN.off+1≤aN.off):=by omega
   simp[ca]
  |succ i=>
   simp only[List.getElem?_cons_succ,List.getElem?_map,Option.map_eq_some_iff]at hr;obtain⟨x,hx,rfl⟩:=hr;have hi:i<sr.length:=by
    have:=(List.getElem?_eq_some_iff.1 hx).1;omega
   rw[←acY,List.getElem?_map,List.getElem?_eq_getElem hi]at hx;simp only[Option.map_some,Option.some.injEq]at hx;subst hx;refine⟨_,enc sr[i],rfl,?_,(xQ _).2.1,V.mono xU (bA.refl _) _ _ (xQ _).2.2⟩;rw[LJ];simp only[putCells,Array.getElem?_mapIdx];rw[Array.getElem?_eq_getElem (show aN.off+(i+1)<c.size by omega)];simp only[Option.map_some,Option.some.injEq];rw[if_pos zQ,show aN.off+(i+1)-(aN.off+1)=i by omega,getElem!_pos _ i (by simpa using hi)];simp
 ·exact(oG g1).1.trans (oG g2).1.symm⟩
end Go.T
namespace Go.T
open Go
variable{P:Program} {env:Env} {dst:Option Tmp} {ty:TypeId} {pos:String} {ar:Array Edge} {g:Option (Nat×Bool)}
theorem aia{U:ae}{t e:TypeId}{x y:Operand}{k:IntKind}{id n m:Nat}{rows:List (List D)}(hu:P.underlying t=some (.slice e))(hs:∀w,(sizeOf e).run P w=.ok 1 w)(hx:env.op x=some (.gs id n))
  (hy:env.op y=some (.raw (.int k 1)))(ho:U.get id=some (.arr 1 rows))(hn:rows.length=n)(hm:n=m+1)(DF:m≠0):
  aq P ⟨dst,.slice t x (some y) none none,ty,pos,ar,g⟩ env U (.n_ id 1 m) U:=
 .val fun O ρ a w aj hv=>by
  have h1:=hv x (by simp[Op.operands]) _ hx;have h2:=hv y (by simp[Op.operands]) _ hy;simp only[V]at h1 h2;rcases h1 with⟨h1,_⟩|⟨_,l,h3,e1⟩
  ·omega
  ·have qE:(Ob.arr 1 rows).live=true:=by
    cases rows
    ·simp at hn;omega
    ·rfl
   obtain⟨l',g3,g4,c,T,g5,g6,g7,g8⟩:=aj.own id _ ho qE;rw[h3]at g3;cases g3;have dA:n≤l.cap:=by omega
   have hb:(Instr.sliceBounds true n l.cap (some (.int k 1)) none none).run P w=.ok (1,n,l.cap) w:=by
    have h1:1≤n:=by omega
    have e1:(1:Int)=((1:Nat):Int):=rfl;rw[e1];simp only[Instr.sliceBounds,Sem.run_bind,Sem.run_pure,Result.andThen_ok,BT,h1]
   refine⟨.slice (some ⟨l.b,l.off+1,none⟩) m (l.cap-1),?_,?_⟩
   ·simp[execOp,Instr.sliceAt,Instr.slice,bY hu,e1,h2,hb,hs,addr_add];omega
   ·simp only[V];exact⟨l,l.cap-1,h3,rfl,by omega⟩
theorem aib{U:ae}{t e:TypeId}{x y:Operand}{k:IntKind}{id n:Nat}{rows:List (List D)}(hu:P.underlying t=some (.slice e))(hs:∀w,(sizeOf e).run P w=.ok 1 w)(hx:env.op x=some (.gs id n))
  (hy:env.op y=some (.raw (.int k 1)))(ho:U.get id=some (.arr 1 rows))(hn:rows.length=n)(hm:n=1):
  aq P ⟨dst,.slice t x (some y) none none,ty,pos,ar,g⟩ env U (.snap 1 false []) U:=
 .val fun O ρ a w aj hv=>by
  have h1:=hv x (by simp[Op.operands]) _ hx;have h2:=hv y (by simp[Op.operands]) _ hy;simp only[V]at h1 h2;rcases h1 with⟨h1,_⟩|⟨_,l,h3,e1⟩
  ·omega
  ·have qE:(Ob.arr 1 rows).live=true:=by
    cases rows
    ·simp at hn;omega
    ·rfl
   obtain⟨l',g3,g4,c,T,g5,g6,g7,g8⟩:=aj.own id _ ho qE;rw[h3]at g3;cases g3;have dA:n≤l.cap:=by omega
   have hb:(Instr.sliceBounds true n l.cap (some (.int k 1)) none none).run P w=.ok (1,n,l.cap) w:=by
    have h1:1≤n:=by omega
    have e1:(1:Int)=((1:Nat):Int):=rfl;rw[e1];simp only[Instr.sliceBounds,Sem.run_bind,Sem.run_pure,Result.andThen_ok,BT,h1]
   subst hm;refine⟨.slice (if l.cap=1 then some ⟨l.b,l.off,none⟩else some ⟨l.b,l.off+1,none⟩) 0 (l.cap-1),?_,?_⟩
   ·by_cases hc:l.cap=1
    ·rw[hc]at hb;simp[execOp,Instr.sliceAt,Instr.slice,bY hu,e1,h2,hb,hs,addr_add,hc]
    ·simp[execOp,Instr.sliceAt,Instr.slice,bY hu,e1,h2,hb,hs,addr_add,hc]
   ·simp only[V];exact⟨_,_,rfl,⟨by simp,by simp⟩,by simp,by simp⟩
end Go.T
namespace Go.T
open Go Go.Proofs Go.Proofs.Tryz
set_option maxRecDepth 20000
variable[bV]
theorem OC{l:List aa}(h:l≠[]):(l.map fun s=>[D.str s])[(0:Int).toNat]?=some [.str (l.headD [])]:=by
 cases l with
 |nil=>exact absurd rfl h
 |cons a l=>rfl
theorem WJ(a b:List aa)(ha:a≠[])(hb:b≠[]):Fc Tryz.prog 131 [cw a,cw b] (.i (mJ (a.headD []) (b.headD []))):=by
 refine Fc.mk' [4] func131 rfl ntmps131 rfl rfl rfl (fun t w=>results_tmp results131 t _ w) ?_;refine go [] ?_;refine ix zD (OC ha) ?_;refine ix zD (OC hb) ?_;refine oP (ai call132 rfl (L1 _ _)) ?_;refine ord ?_;exact ah rfl (Sub.refl _)
end Go.T
namespace Go.T
open Go Go.Proofs Go.Proofs.Tryz
set_option maxRecDepth 20000
open Go.Shelf Go.RowKit Go.Lib Go.Sort
theorem ZW:∀args w,(callFunc 131 args).run Tryz.prog w=.ok (.enter 131 args) w:=enters_of func131 (by kernel_rfl) rfl
theorem ajr(id:Nat)(r0:D)(l l2:List (List aa))(hl:l.length<4611686018427387904)(aB:∀x∈l,x≠[])(hk:(l.map (·.headD [])).Nodup)(hp:l2.Perm l)(hs:(l2.map (·.headD [])).Pairwise fun a b=>a≤b):
  dv Tryz.prog 130 [.n_ id 1 l.length,.fn (.func 131) [] []] [(id,.arr 1 ([r0]::l.map fun x=>[cw x]))] (.bf []) [(id,.arr 1 ([r0]::l2.map fun x=>[cw x]))]:=
 ajp (fun enc h1 cf hO bW off cap d w hc hH hb be hT=>Tryz.slices_SortFunc_total enc h1 cf hO 131 #[] bW off cap d w ZW hc hH hb be hT) (fun p cap fv w=>Tryz.slices_SortFunc_none (α:=Nat) p cap fv w)
  (fun x=>cw x) (·.headD []) id r0 l l2 hl (fun x hx y hy=>@WJ calm x y (aB x hx) (aB y hy)) hk hp hs
theorem ajq:Fc Tryz.prog 130 [.snap 1 false [],.fn (.func 131) [] []] (.bf []):=.o9 fun w O ρ vals hg hv=>by
 simp only[Vs,V]at hv;obtain⟨_,_,rfl,⟨a,cap,rfl,_⟩,v2,_,rfl,_,rfl⟩:=hv;refine(Tryz.slices_SortFunc_none (α:=Nat) a cap v2 w).mono ?_;rintro e w' ⟨rfl,rfl⟩;exact⟨_,rfl,by simp[V,Vs],.refl _⟩
end Go.T
namespace Go.T
open Go Go.Proofs Go.Proofs.Tryz
set_option maxRecDepth 20000
theorem ai4{n:Nat}{seen:List Nat}(hn:seen.Nodup)(bw:∀j∈seen,j<n):seen.length≤n:=by
 have:=List.Nodup.length_le_of_subset hn (l₂:=List.range n) (fun j hj=>List.mem_range.2 (bw j hj));simpa using this
theorem afn{u:UM}{seen:List Nat}{j:Nat}{kv:aa×aa}(h:u[j]?=some kv)(bw:∀j∈seen,j<u.length):∀i∈seen++[j],i<u.length:=by
 intro i hi;rcases List.mem_append.1 hi with hi|hi
 ·exact bw i hi
 ·simp at hi;subst hi;exact(List.getElem?_eq_some_iff.1 h).1
theorem abg{fm:bk}{u:UM}{ks:List aa}(h:nA fm u ks)(hp:ks.Perm (aD u)){seen:List Nat}(hs:seen.Nodup):(gN fm seen).length≤u.length:=by
 have h1:=List.Nodup.length_le_of_subset (G2 h hp hs) (l₂:=aD u) (fun x hx=>by
  obtain⟨l,hl,rfl⟩:=List.mem_map.1 hx;obtain⟨y,hy,h2,rfl⟩:=I6 h hp hl;rw[LV hy h2];exact hy)
 simpa[aD]using h1
structure ab9(u:UM)where
 seen:List Nat
 fm:bk
 ks:List aa
 ef:seen.Nodup
 bw:∀j∈seen,j<u.length
 rZ:ks=seen.filterMap (tZ u)
 j8:nA fm u ks
structure ab_(u:UM)(fm:bk)where
 seen:List Nat
 ef:seen.Nodup
theorem ab8(u:UM)(hg:kq u)(hn:(aD u).Nodup)(aj:∀k∈aD u,de k)(jx:u.length≤1000000):dv Tryz.prog 92 [.bu 60] [(60,.mp (aS D.str D.str u))] (vo (fG u)) [(60,.mp (aS D.str D.str u))]:=by
 refine dv.mk' [2] func92 rfl ntmps92 rfl rfl rfl (fun t w=>results_tmp results92 t _ w) ?_;refine J.seq (J.af [.p] ?_);refine .ag rfl rfl<|.nil ?_;refine J.seq (J.af [.w,.p] ?_);refine .W rfl (kn 61 D.str (gZ) rfl)<|.ag rfl rfl<|.nil ?_;refine J.seq (J.seq (J.af [.p,.w] ?_));refine .mv rfl rfl<|.W rfl (JZ ic (vD:=D.str) 62 underlying128 rfl rfl rfl)<|.nil ?_;refine J.block ?_;refine J.loop (ι:=ab9 u) (fun sx=>[(0,.bu 60),(3,.bu 61),(11,.box 62 0)]) (fun sx=>([(62,.mi 60 u.length sx.seen),(60,.mp (aS D.str D.str u)),(61,.mp (aS D.str gZ (ew sx.fm))),(99,.arr 1 [])]++cj sx.fm)) (fun sx=>w5 u.length sx.seen) ⟨[],bk.empty,[],List.nodup_nil,by simp,rfl,aca u⟩ ?_ ?_
 ·exact(Le.mB 99 1).trans<|Le.mk rfl (.s rfl rfl (.s rfl rfl (.s rfl rfl .nil))) (.cons rfl rfl (.eq rfl (by rfl) (fx _ _) (.eq rfl (by rfl) (yL _ _) (.arr rfl zS (.tail (fun _ _ h=>nomatch (show(none:Option Ob)=some _ from h)))))))
 ·rintro⟨seen,fm,ks,ef,bw,rZ,j8⟩;show J _ _ _ _ [(0,.bu 60),(3,.bu 61),(11,.box 62 0)] ([(62,.mi 60 u.length seen),(60,.mp (aS D.str D.str u)),(61,.mp (aS D.str gZ (ew fm))),(99,.arr 1 [])]++cj fm);have fq:∀r,(iE fm r).length≤1000000:=fun r=>by
    rw[j8.rows r];have h1:=List.length_filter_le (fun k=>decide (aF u k=r)) ks;have h2:=ad7 u seen;have h3:=ai4 ef bw;rw[rZ]at h1⊢;omega
  refine J.seq (J.sZ ?_);refine Tx.n rfl trivial (JX ic (vD:=D.str) rfl rfl rfl) (fun nb cm=>?_);rcases nb with _|⟨nj,nk,nv⟩
  ·dsimp only[q9,sA,sw];refine Tx.q rfl trivial (dY rfl rfl _) ?_;refine Tx.nil ?_;refine J.seq ?_;refine J.eQ rfl rfl ?_;refine J.exit (ei (dZ ?_));have nO:ks.Perm (aD u):=by rw[rZ];exact aea hn ef cm
   have hrw:∀(j:Nat)(e:FE),fm.ck[j]?=some e→(∀s∈e.rows,de s)∧e.rows.length≤1000000:=fun j e he=>by
    rw[Dl j8 he];exact⟨fun s hs=>aj s (nO.mem_iff.1 (List.mem_filter.1 hs).1),by have h1:=List.length_filter_le (fun k=>decide (aF u k=e.key)) ks;have h2:=nO.length_eq;simp only[aD,List.length_map]at h2;omega⟩
   have cQ:∀sn:List Nat,sn.Nodup→(gN fm sn).length≤1000000:=fun sn hsn=>Nat.le_trans (abg j8 nO hsn) jx;refine J.seq (J.af [.w,.p] ?_);refine .W rfl (JR (n:=1) (rows:=[[.raw (.slice none 0 0)]]) 64 underlying43 sizeOf48 rfl rfl rfl zeroValue48 rfl rfl rfl rfl rfl rfl rfl (xA (own:=[(62,_),(60,_),(61,_),(99,_)]) rfl rfl))<|.ag rfl rfl<|.nil ?_;refine J.seq (J.seq (J.af [.p,.w] ?_));refine .mv rfl rfl<|.W rfl (JZ ic (vD:=gZ) 63 underlying129 rfl rfl (xA (own:=[(64,_),(62,_),(60,_),(61,_),(99,_)]) rfl rfl))<|.nil ?_;refine J.block ?_;refine J.loop (ι:=ab_ u fm) (fun sx=>[(0,.bu 60),(6,.gs 64 (1+(gN fm sx.seen).length)),(29,.box 63 0)]) (fun sx=>([(63,.mi 61 (ew fm).length sx.seen),(60,.mp (aS D.str D.str u)),(61,.mp (aS D.str gZ (ew fm))),(64,.arr 1 ([.raw (.slice none 0 0)]::(gN fm sx.seen).map fun x=>[cw x])),(99,.arr 1 [])]++cj (jX fm sx.seen))) (fun sx=>w5 (ew fm).length sx.seen) ⟨[],List.nodup_nil⟩ ?_ ?_
   ·exact Le.mk rfl (.s rfl rfl (.cons rfl (Sub.gs (by simp[gN])) rfl (.s rfl rfl .nil))) (.cons rfl rfl (.eq rfl (by rfl) (fx _ _) (.eq rfl (by rfl) (wB _ _) (.arr rfl (by simp[gN]) (.arr rfl zS (.tail (vv (own:=[(63,_),(64,_),(62,_),(60,_),(61,_),(99,_)]) (iZ:=[(63,_),(60,_),(61,_),(64,_),(99,_)]) _ rfl)))))))
   ·rintro⟨seen,ef⟩;show J _ _ _ _ [(0,.bu 60),(6,.gs 64 (1+(gN fm seen).length)),(29,.box 63 0)] ([(63,.mi 61 (ew fm).length seen),(60,.mp (aS D.str D.str u)),(61,.mp (aS D.str gZ (ew fm))),(64,.arr 1 ([.raw (.slice none 0 0)]::(gN fm seen).map fun x=>[cw x])),(99,.arr 1 [])]++cj (jX fm seen));refine J.seq (J.sZ ?_);refine Tx.n rfl trivial (JX ic (vD:=gZ) rfl rfl rfl) (fun nb cm=>?_);rcases nb with _|⟨nj,nk,nv⟩
    ·dsimp only[q9,sA,sw];refine Tx.q rfl trivial (dY rfl rfl _) ?_;refine Tx.nil ?_;refine J.seq ?_;refine J.eQ rfl rfl ?_;refine J.exit (ei (dZ ?_));have HL:=abj j8 nO hn ef cm;by_cases hz:(gN fm seen).length=0
     ·have pL:gN fm seen=[]:=List.length_eq_zero_iff.1 hz;have Ir:fG u=[]:=List.length_eq_zero_iff.1 (HL.length_eq.trans hz);refine J.seq (J.af [.p,.r,.p] ?_);refine .mv rfl rfl<|.R rfl (aib (id:=64) underlying43 sizeOf48 rfl rfl rfl zQ zO)<|.P rfl (ai call130 rfl ajq)<|.nil ?_;refine J.seq (J.af [.p,.p] ?_);refine .mv rfl rfl<|.ag rfl rfl<|.nil ?_;refine J.bP (Le.freeze 2 64 rfl rfl zQ) ?_;refine J.ret (?_);exact uE rfl (Sub.snap (by rw[pL,Ir])) (.eq rfl (by rfl) (fx _ _) .nil)
     ·refine J.seq (J.af [.p,.r,.w] ?_);refine .mv rfl rfl<|.R rfl (aia (id:=64) (m:=(gN fm seen).length) underlying43 sizeOf48 rfl rfl rfl zQ zO hz)<|.W rfl (BB (own:=[(63,_),(60,_),(61,_),(64,_),(99,_)]) call130 rfl (ajr 64 (.raw (.slice none 0 0)) (gN fm seen) (fG u) (by have:=cQ seen ef;omega) (abi j8 nO) (G2 j8 nO ef) HL (N8 u)) rfl rfl (.cons rfl rfl .nil) rfl rfl)<|.nil ?_;refine J.seq (J.af [.p,.p] ?_);refine .mv rfl rfl<|.ag rfl rfl<|.nil ?_;refine J.bP (Le.freeze 2 64 rfl rfl (by have:=HL.length_eq;simp;omega)) ?_;refine J.ret (?_);exact uE rfl (Sub.refl _) (.eq rfl (by rfl) (fx _ _) .nil)
    ·dsimp only[q9,sA,sw];refine Tx.q rfl trivial (dY rfl rfl _) ?_;refine Tx.nil ?_;refine J.seq ?_;refine J.fD rfl rfl ?_;refine J.skip ?_;refine J.block ?_;obtain⟨e,he,rfl,rfl⟩:=M8 (And.left cm);have lE:(jX fm seen).ck[nj]?=some e:=(P0 _ _ _ (And.right cm)).trans he;have vV:e.ob=.arr 1 (h_ e.rows):=by unfold FE.ob;rw[if_pos (j8.live e (List.mem_of_getElem? he))]
     have OE:=hrw nj e he;refine J.seq (J.af [.r,.p,.p] ?_);refine .R rfl (JT ic (vD:=gZ) rfl rfl rfl (And.left cm))<|.P rfl (dY rfl rfl)<|.ag rfl rfl<|.nil ?_;refine J.seq (J.af [.p,.w] ?_);refine .mv rfl rfl<|.W rfl (ahJ (own:=[(63,_),(60,_),(61,_),(64,_),(99,_)]) (f:=jX fm seen) (e:=e) (List.mem_of_getElem? lE) rfl call63 rfl (by rw[vV];exact Ks e.id e.rows OE.1 (by have:=OE.2;omega)) (by simp[D.okB.eV,D.okB,ae.has,ae.aZ]))<|.nil ?_;refine J.bP (Le.freeze 8 e.id rfl abx (by simp[(ll e.rows).length_eq])) ?_;refine J.bP (Le.mk (aQ:=[(0,_),(6,_),(8,_),(29,_)]) (ak:=[(63,_),(60,_),(61,_),(64,_),(99,_)]++cj ((jX fm seen).kill nj)) rfl (show eO _ _ [(0,_),(6,_),(8,_),(29,_)]from(.s rfl rfl (.s rfl rfl (.s rfl rfl (.s rfl rfl .nil))))) (.cons (zT (own:=[(63,_),(60,_),(61,_),(64,_),(99,_)]) 63 lE rfl rfl) rfl (.cons (zT (own:=[(63,_),(60,_),(61,_),(64,_),(99,_)]) 60 lE rfl rfl) (fx _ _) (.cons (zT (own:=[(63,_),(60,_),(61,_),(64,_),(99,_)]) 61 lE rfl rfl) (by rw[←DT];exact wB _ (seen++[nj])) (.cons (zT (own:=[(63,_),(60,_),(61,_),(64,_),(99,_)]) 64 lE rfl rfl) rfl (.cons (zT (own:=[(63,_),(60,_),(61,_),(64,_),(99,_)]) 99 lE rfl rfl) rfl (.tail (aaH (own:=[(63,_),(60,_),(61,_),(64,_),(99,_)]) rfl lE)))))))) ?_;rw[←DT];refine J.af [.p,.p,.p,.w,.p] ?_
     refine .mv rfl rfl<|.mv rfl rfl<|.P rfl (bI (n:=1) (rows:=[[cw (eW e.rows)]]) underlying43 sizeOf48 rfl rfl rfl zeroValue48 rfl rfl rfl rfl rfl rfl rfl)<|.W rfl (k_ 65 underlying43 underlying43 sizeOf48 typeInfo48 zeroValue48 rfl (bt:=24) rfl rfl rfl rfl zQ rfl (xA (own:=[(63,_),(60,_),(61,_),(64,_),(99,_)]) rfl rfl) (by have:=cQ seen ef;simp;omega))<|.ag rfl rfl<|.nil ?_;refine J.nil (cC ?_);refine J.nil (dG ?_);exact⟨⟨seen++[nj],EW ef (And.right cm)⟩,by exact E8 ((List.getElem?_eq_some_iff.1 (And.left cm)).1) (And.right cm),(Le.mk (ak:=[(63,_),(60,_),(61,_),(65,_),(99,_)]++cj (jX fm (seen++[nj]))) rfl (show eO _ _ [(0,_),(6,_),(29,_)]from(.s rfl rfl (.s rfl rfl (.s rfl rfl .nil)))) (.cons (i:=63) rfl rfl (.cons (i:=60) rfl (fx _ _) (.cons (i:=61) rfl (wB _ _) (.cons (i:=65) rfl rfl (.cons (i:=99) rfl rfl (.tail (vv (own:=[(65,_),(63,_),(60,_),(61,_),(64,_),(99,_)]) (iZ:=[(63,_),(60,_),(61,_),(65,_),(99,_)]) _ rfl)))))))).trans<|(Le.pZ 6 65 64 rfl rfl zQ (xA (own:=[(63,_),(60,_),(61,_),(65,_),(99,_)]) rfl rfl)).trans<|Le.mk rfl (.s rfl rfl (.cons rfl (Sub.gs (by rw[NO he];simp;omega)) rfl (.s rfl rfl .nil))) (.cons rfl rfl (.eq rfl (by rfl) (fx _ _) (.eq rfl (by rfl) (wB _ _) (.arr rfl (by rw[NO he];simp) (.arr rfl zS (.tail (vv (own:=[(64,_),(63,_),(60,_),(61,_),(65,_),(99,_)]) (iZ:=[(63,_),(60,_),(61,_),(64,_),(99,_)]) _ rfl)))))))⟩
  ·dsimp only[q9,sA,sw];refine Tx.q rfl trivial (dY rfl rfl _) ?_;refine Tx.nil ?_;refine J.seq ?_;refine J.fD rfl rfl ?_;refine J.skip ?_;refine J.block ?_;refine J.seq (J.af [.r,.p,.p] ?_);refine .R rfl (JT ic (vD:=D.str) rfl rfl rfl (And.left cm))<|.P rfl (dY rfl rfl)<|.ag rfl rfl<|.nil ?_;refine J.seq (J.af [.p,.p,.w,.p] ?_);refine .mv rfl rfl<|.mv rfl rfl<|.W rfl (BB (own:=[(62,_),(60,_),(61,_),(99,_)]) call129 rfl (J' u hg nk (ad8 (And.left cm))) rfl rfl (.cons rfl (fx _ _) .nil) rfl rfl)<|.ag rfl rfl<|.nil ?_;refine J.af [.p,.p,.p,.p,.r,.p,.p,.w,.w] ?_;refine .mv rfl rfl<|.mv rfl rfl<|.mv rfl rfl<|.mv rfl rfl<|.R rfl (SQ ic (f:=fm) (k:=aF u nk) underlying129 zeroValue48 rfl rfl rfl rfl)<|.mv rfl rfl<|.P rfl (bI (n:=1) (rows:=[[.str nk]]) underlying48 sizeOf9 rfl rfl rfl zeroValue9 rfl rfl rfl rfl rfl rfl rfl)<|.W rfl (SD (own:=[(60,_),(62,_),(61,_),(99,_)]) (f:=fm) (k:=aF u nk) (new:=[nk]) (bt:=16) underlying48 underlying48 sizeOf9 typeInfo9 zeroValue9 rfl rfl rfl rfl rfl j8.live rfl rfl (by have:=fq (aF u nk);simp only[List.length_singleton];omega))<|.W rfl (dJ ic (vD:=gZ) (m:=ew fm) (k:=aF u nk) (v:=(fm.next,(iE fm (aF u nk)).length+[nk].length)) underlying129 rfl rfl rfl rfl rfl ((GD (own:=[(60,_),(62,_),(61,_),(99,_)]) zD).trans (Bq (own:=[(60,_),(62,_),(61,_),(99,_)]) rfl)))<|.nil ?_;refine J.nil (cC ?_);refine J.nil (dG ?_)
   exact⟨⟨seen++[nj],fm.add (aF u nk) [nk],ks++[nk],EW ef (And.right cm),afn (And.left cm) bw,by rw[rZ,ad9 (And.left cm)],j8.add nk⟩,by exact E8 ((List.getElem?_eq_some_iff.1 (And.left cm)).1) (And.right cm),(Le.mB 99 1).trans<|Le.mk rfl (.s rfl rfl (.s rfl rfl (.s rfl rfl .nil))) (.eq (GF (own:=[(60,_),(62,_),(61,_),(99,_)]) 62 rfl rfl rfl) rfl rfl (.eq (GF (own:=[(60,_),(62,_),(61,_),(99,_)]) 60 rfl rfl rfl) rfl (fx _ _) (.eq M4 (by rw[←M7]) (yL _ _) (.cons rfl rfl (.tail (M_ (own:=[(60,_),(62,_),(61,_),(99,_)]) zD rfl))))))⟩
theorem Yp(s:Setup)(l:List Fact)(xT:s.insts.length≤1000)(tQ:∀x∈s.insts,de x.id)(xV:l.length≤500)(ju:∀f∈l,f.opts.length≤1000∧∀s∈eC f,de s):Fc Tryz.prog 45 [.agg (iR s),bz l] (vo (kI (gL s l))):=
 Yq s l xT tQ xV ju fun u hg hn aj jx=>ab8 u hg hn aj jx
structure adr(l:List Fact)(P:Fact→Bool)where
 pre:List Fact
 rest:List Fact
 hx:l=pre++rest
 hp:pre.any P=false
theorem PF(l:List Fact)(f:FuncId)(b8:List D)(dA:D.bG.eG b8=true)(P:Fact→Bool)(gh:∀(args:Array Value)(w:World),(callFunc f args).run Tryz.prog w=.ok (.enter f args) w)(hP:∀x∈l,Fc Tryz.prog f (.agg (aM x)::b8) (.b (P x))):Fc Tryz.prog 67 [bz l,.fn (.func f) [] b8] (.i (ja P l)):=by
 refine Fc.mk' [4] func67 rfl ntmps67 rfl (by simp[D.bG,D.bG.eG,dA]) rfl (fun t w=>results_tmp results67 t _ w) ?_;refine J.ej 0 rfl (fun hb=>?_);simp only[List.length_map,aG]at hb;refine go [] ?_;refine J.loop (ι:=adr l P) (fun sx=>[(0,bz l),(1,.fn (.func f) [] b8),(6,bz l),(7,.i l.length),(8,.i sx.pre.length)]) (fun sx=>[]) (fun sx=>sx.rest.length) ⟨[],l,rfl,rfl⟩ ?_ ?_
 ·exact Le.mk rfl (.s rfl rfl (.cons rfl (Sub.refl _) (rf dA) (.s rfl rfl (.cons rfl (Sub.int zS) rfl (.s rfl rfl .nil))))) .nil
 ·rintro⟨pre,rest,hx,hp⟩;show J _ _ _ _ [(0,bz l),(1,.fn (.func f) [] b8),(6,bz l),(7,.i l.length),(8,.i pre.length)] [];have hl:=congrArg List.length hx;simp only[List.length_append]at hl;rcases rest with _|⟨x,rest⟩
  ·skip;refine go [] ?_;refine aR (by simp at hl⊢;omega) ?_;refine go [] ?_;exact ah rfl (Sub.int (by exact vy hx hp))
  ·simp only[List.length_cons]at hl;refine go [] ?_;refine a_ zQ ?_;refine ix zO (bn aM hx rfl) ?_;refine oP (dX gh rfl rfl (hP x (by rw[hx];simp))) ?_;refine br (fun h1=>?_) (fun h1=>?_)
   ·exact ah rfl (Sub.int (by exact tG hx hp h1))
   ·refine sd (az zO) ?_;exact nx ⟨pre++[x],rest,by simp[hx],ku hp h1⟩ zS (Le.mk rfl (.s rfl rfl (.cons rfl (Sub.refl _) (rf dA) (.s rfl rfl (.s rfl rfl (.cons rfl (Sub.int zS) rfl .nil))))) .nil)
theorem L9(l:List Fact)(f:FuncId)(b8:List D)(dA:D.bG.eG b8=true)(P:Fact→Bool)(gh:∀(args:Array Value)(w:World),(callFunc f args).run Tryz.prog w=.ok (.enter f args) w)(hP:∀x∈l,Fc Tryz.prog f (.agg (aM x)::b8) (.b (P x))):Fc Tryz.prog 42 [bz l,.fn (.func f) [] b8] (.b (l.any P)):=by
 refine Fc.mk' [4] func42 rfl ntmps42 rfl (by simp[D.bG,D.bG.eG,dA]) rfl (fun t w=>results_tmp results42 t _ w) ?_;refine go [] ?_;refine oP (ai call67 rfl (PF l f b8 dA P gh hP)) ?_;exact ah rfl (Sub.bool (by exact vx P l))
def lX(s:Setup)(l:List Fact):Bool:=!decide (mI s.insts s.qm=0)||l.any (fun f=>decide (eP f≠0))
theorem ab3(s:Setup)(l:List Fact)(hs:∀x∈s.insts,pj x)(hf:∀f∈l,kC f)(xT:s.insts.length≤1000)(tQ:∀x∈s.insts,de x.id)(xV:l.length≤500)(ju:∀f∈l,f.opts.length≤1000∧∀s∈eC f,de s)(hb:lX s l=false):Fc Tryz.prog 10 [.agg (iR s),bz l] (.bf [vo (kI (gL s l)),.i 0]):=by
 refine Fc.mk' [4,5] func10 rfl ntmps10 rfl rfl rfl (fun t w=>results_tmp2 results10 t _ w) ?_;refine go [1] ?_;refine J.bP (Le.gg 2 0 rfl rfl rfl rfl) ?_;refine go [] ?_;refine oP (ai call41 rfl (Tl s hs)) ?_;refine gP (fun hg=>ai call42 rfl (L9 l _ [] rfl (fun f=>decide (eP f≠0)) call43 (fun f Am=>Lr f (hf f Am)))) ?_;refine aR (by exact hb) ?_;refine oP (ai call45 rfl (Yp s l xT tQ xV ju)) ?_;exact gS rfl rfl (Sub.refl _) (Sub.refl _)
theorem ab2(s:Setup)(l:List Fact)(hs:∀x∈s.insts,pj x)(hf:∀f∈l,kC f)(xT:s.insts.length≤1000)(tQ:∀x∈s.insts,de x.id)(xV:l.length≤500)(ju:∀f∈l,f.opts.length≤1000∧∀s∈eC f,de s)(hb:lX s l=true):Fc Tryz.prog 10 [.agg (iR s),bz l] (.bf [.raw (.slice none 0 0),.i 1]):=by
 refine Fc.mk' [4,5] func10 rfl ntmps10 rfl rfl rfl (fun t w=>results_tmp2 results10 t _ w) ?_;refine go [1] ?_;refine J.bP (Le.gg 2 0 rfl rfl rfl rfl) ?_;refine go [] ?_;refine oP (ai call41 rfl (Tl s hs)) ?_;refine gP (fun hg=>ai call42 rfl (L9 l _ [] rfl (fun f=>decide (eP f≠0)) call43 (fun f Am=>Lr f (hf f Am)))) ?_;refine a_ (by exact hb) ?_;exact gS rfl rfl (by exact Sub.refl _) (Sub.refl _)
structure adC(l:List aa)(n:aa)where
 pre:List aa
 rest:List aa
 hx:l=pre++rest
 hp:pre.any (fun m=>decide (n=m))=false
theorem adB(l:List aa)(n:aa):Fc Tryz.prog 47 [cw l,.str n] (.i (ja (fun m=>decide (n=m)) l)):=by
 refine Fc.mk' [4] func47 rfl ntmps47 rfl rfl rfl (fun t w=>results_tmp results47 t _ w) ?_;refine J.ej 0 rfl (fun hb=>?_);simp only[List.length_map,aG]at hb;refine go [] ?_;refine J.loop (ι:=adC l n) (fun sx=>[(0,cw l),(1,.str n),(6,cw l),(7,.i l.length),(8,.i sx.pre.length)]) (fun sx=>[]) (fun sx=>sx.rest.length) ⟨[],l,rfl,rfl⟩ ?_ ?_
 ·exact Le.mk rfl (.s rfl rfl (.s rfl rfl (.s rfl rfl (.cons rfl (Sub.int zS) rfl (.s rfl rfl .nil))))) .nil
 ·rintro⟨pre,rest,hx,hp⟩;show J _ _ _ _ [(0,cw l),(1,.str n),(6,cw l),(7,.i l.length),(8,.i pre.length)] [];have hl:=congrArg List.length hx;simp only[List.length_append]at hl;rcases rest with _|⟨x,rest⟩
  ·skip;refine go [] ?_;refine aR (by simp at hl⊢;omega) ?_;refine go [] ?_;exact ah rfl (Sub.int (by exact vy hx hp))
  ·simp only[List.length_cons]at hl;refine go [] ?_;refine a_ zQ ?_;refine ix zO (bn (fun s:aa=>[D.str s]) hx rfl) ?_;refine br (fun h1=>?_) (fun h1=>?_)
   ·exact ah rfl (Sub.int (by exact tG hx hp h1))
   ·refine sd (az zO) ?_;exact nx ⟨pre++[x],rest,by simp[hx],ku hp h1⟩ zS (Le.mk rfl (.s rfl rfl (.s rfl rfl (.s rfl rfl (.s rfl rfl (.cons rfl (Sub.int zS) rfl .nil))))) .nil)
theorem acr(l:List aa)(n:aa):Fc Tryz.prog 15 [cw l,.str n] (.b (l.any (fun m=>decide (n=m)))):=by
 refine Fc.mk' [4] func15 rfl ntmps15 rfl rfl rfl (fun t w=>results_tmp results15 t _ w) ?_;refine go [] ?_;refine oP (ai call47 rfl (adB _ _)) ?_;exact ah rfl (Sub.bool (by exact vx _ l))
theorem ajD{x y:aa}(h:decide (x≠y)=false):x=y:=by simpa using h
theorem ajE{x y:aa}(h:decide (x≠y)=true):x≠y:=by simpa using h
structure aaa(a b:List aa)where
 pre:List aa
 rest:List aa
 aw:List aa
 aI:List aa
 hx:a=pre++rest
 hy:b=aw++aI
 hp:pre=aw
 ml:aw.length=pre.length
 jv:aI.length=rest.length
theorem Z'(a b:List aa):Fc Tryz.prog 19 [cw a,cw b] (.b (jq a b)):=by
 refine Fc.mk' [4] func19 rfl ntmps19 rfl rfl rfl (fun t w=>results_tmp results19 t _ w) ?_;refine J.ej 0 rfl (fun hb=>?_);simp only[List.length_map,aG]at hb;refine J.ej 1 rfl (fun fp=>?_);simp only[List.length_map,aG]at fp;refine go [] ?_;refine br (fun h1=>?_) (fun h1=>?_)
 ·exact ah rfl (Sub.bool (by exact CS (by have h9:=h1;simp at h9;omega)))
 ·refine J.loop (ι:=aaa a b) (fun sx=>[(0,cw a),(1,cw b),(12,.i a.length),(13,.i sx.pre.length)]) (fun sx=>[]) (fun sx=>sx.rest.length) ⟨[],a,[],b,rfl,rfl,rfl,rfl,by simp at h1;omega⟩ ?_ ?_
  ·exact Le.mk rfl (.s rfl rfl (.s rfl rfl (.cons rfl (Sub.int zS) rfl (.s rfl rfl .nil)))) .nil
  ·rintro⟨pre,rest,aw,aI,hx,hy,hp,ml,jv⟩;show J _ _ _ _ [(0,cw a),(1,cw b),(12,.i a.length),(13,.i pre.length)] [];have hl:=congrArg List.length hx;simp only[List.length_append]at hl;rcases rest with _|⟨x,rest⟩
   ·obtain rfl:aI=[]:=List.length_eq_zero_iff.1 (by simpa using jv);refine go [] ?_;refine aR (by simp at hl⊢;omega) ?_;refine go [] ?_;exact ah rfl (Sub.bool (by exact CR hx hy hp))
   ·simp only[List.length_cons]at hl;obtain⟨y,aI,rfl⟩:=Cz (n:=rest.length) (by simpa using jv);refine go [] ?_;refine a_ zQ ?_;refine ix zO (bn (fun s:aa=>[D.str s]) hx rfl) ?_;refine ix zO (bn (fun s:aa=>[D.str s]) hy zO) ?_;refine ord ?_;refine br (fun h2=>?_) (fun h2=>?_)
    ·exact ah rfl (Sub.bool (by exact CT hx hy ml (ajE h2)))
    ·refine sd (az zO) ?_;exact nx ⟨pre++[x],rest,aw++[y],aI,by simp[hx],by simp[hy],by rw[hp,ajD h2],by simp[ml],by simpa using jv⟩ zS (Le.mk rfl (.s rfl rfl (.s rfl rfl (.s rfl rfl (.cons rfl (Sub.int zS) rfl .nil)))) .nil)
structure adt(l:List (List aa))(P:(List aa)→Bool)where
 pre:List (List aa)
 rest:List (List aa)
 hx:l=pre++rest
 hp:pre.any P=false
theorem ads(l:List (List aa))(f:FuncId)(b8:List D)(dA:D.bG.eG b8=true)(P:(List aa)→Bool)(gh:∀(args:Array Value)(w:World),(callFunc f args).run Tryz.prog w=.ok (.enter f args) w)(hP:∀x∈l,Fc Tryz.prog f (cw x::b8) (.b (P x))):Fc Tryz.prog 48 [.snap 1 false (l.map fun v=>[cw v]),.fn (.func f) [] b8] (.i (ja P l)):=by
 refine Fc.mk' [4] func48 rfl ntmps48 rfl (by simp[D.bG,D.bG.eG,dA]) rfl (fun t w=>results_tmp results48 t _ w) ?_;refine J.ej 0 rfl (fun hb=>?_);simp only[List.length_map,aG]at hb;refine go [] ?_;refine J.loop (ι:=adt l P) (fun sx=>[(0,.snap 1 false (l.map fun v=>[cw v])),(1,.fn (.func f) [] b8),(6,.snap 1 false (l.map fun v=>[cw v])),(7,.i l.length),(8,.i sx.pre.length)]) (fun sx=>[]) (fun sx=>sx.rest.length) ⟨[],l,rfl,rfl⟩ ?_ ?_
 ·exact Le.mk rfl (.s rfl rfl (.cons rfl (Sub.refl _) (rf dA) (.s rfl rfl (.cons rfl (Sub.int zS) rfl (.s rfl rfl .nil))))) .nil
 ·rintro⟨pre,rest,hx,hp⟩;show J _ _ _ _ [(0,.snap 1 false (l.map fun v=>[cw v])),(1,.fn (.func f) [] b8),(6,.snap 1 false (l.map fun v=>[cw v])),(7,.i l.length),(8,.i pre.length)] [];have hl:=congrArg List.length hx;simp only[List.length_append]at hl;rcases rest with _|⟨x,rest⟩
  ·skip;refine go [] ?_;refine aR (by simp at hl⊢;omega) ?_;refine go [] ?_;exact ah rfl (Sub.int (by exact vy hx hp))
  ·simp only[List.length_cons]at hl;refine go [] ?_;refine a_ zQ ?_;refine ix zO (bn (fun v=>[cw v]) hx rfl) ?_;refine oP (dX gh rfl rfl (hP x (by rw[hx];simp))) ?_;refine br (fun h1=>?_) (fun h1=>?_)
   ·exact ah rfl (Sub.int (by exact tG hx hp h1))
   ·refine sd (az zO) ?_;exact nx ⟨pre++[x],rest,by simp[hx],ku hp h1⟩ zS (Le.mk rfl (.s rfl rfl (.cons rfl (Sub.refl _) (rf dA) (.s rfl rfl (.s rfl rfl (.cons rfl (Sub.int zS) rfl .nil))))) .nil)
end Go.T
namespace Go.T
open Go
abbrev dT(l:List (List aa)):D:=.snap 1 false (l.map fun v=>[D.snap 1 false (h_ v)])
theorem Sub.aiG{w:World}{O:Nat→Prop}{b off:Nat}{d d':D}{rows:List (List D)}(s:Sub d d')(h:Vr w O b off 1 ([d]::rows)):Vr w O b off 1 ([d']::rows):=by
 refine Fz _ _ fun i r hr=>?_;cases i with
 |zero=>
  simp only[List.getElem?_cons_zero,Option.some.injEq]at hr;subst hr;obtain⟨u,h1,h2,h3⟩:=zj _ _ h 0 d rfl;exact⟨d',u,rfl,h1,h2,s.out _ _ _ _ h3⟩
 |succ i=>
  simp only[Vr]at h;simp only[List.getElem?_cons_succ]at hr;have hl:∀(l:List (List D))(o:Nat),Vr w O b o 1 l→∀(i:Nat)(r:List D),l[i]?=some r→∃d,r=[d]:=by
   intro l;induction l with
   |nil=>intro o _ i r h;simp at h
   |cons a l ih=>
    intro o hv i r h;simp only[Vr]at hv;cases i with
    |zero=>simp only[List.getElem?_cons_zero,Option.some.injEq]at h;subst h;exact List.length_eq_one_iff.1 hv.1.1
    |succ i=>exact ih _ hv.2 i r (by simpa using h)
  obtain⟨e,rfl⟩:=hl _ _ h.2 i r hr;obtain⟨u,h1,h2,h3⟩:=zj _ _ h.2 i e hr;exact⟨e,u,rfl,by rwa[show off+(i+1)=off+1+i by omega],h2,h3⟩
theorem Sub.abX(gs:List (List aa)):Sub (vo gs) (dT ([]::gs)):=by
 refine⟨fun w O ρ v h=>?_⟩;simp only[V]at h⊢;obtain⟨a,cap,rfl,h1,h2,h3⟩:=h;refine⟨a,cap,by simp,by simpa using h1,by simp,fun _=>?_⟩;obtain⟨b,off,e,h4,h5⟩:=h3 zS;exact⟨b,off,e,h4,Sub.aiG (Sub.nil _ _) h5⟩
open Go.Proofs Go.Proofs.Tryz
set_option maxRecDepth 20000
theorem abD{x y:List aa}(h:(!jq x y)=false):x=y:=by simpa[jq]using h
theorem abE{x y:List aa}(h:(!jq x y)=true):x≠y:=by simpa[jq]using h
structure Z_(a b:List (List aa))where
 pre:List (List aa)
 rest:List (List aa)
 aw:List (List aa)
 aI:List (List aa)
 hx:a=pre++rest
 hy:b=aw++aI
 hp:pre=aw
 ml:aw.length=pre.length
 jv:aI.length=rest.length
theorem MV(a b:List (List aa)):Fc Tryz.prog 18 [.snap 1 false (a.map fun v=>[cw v]),.snap 1 false (b.map fun v=>[cw v]),.fn (.func 19) [] []] (.b (jq a b)):=by
 refine Fc.mk' [6] func18 rfl ntmps18 rfl rfl rfl (fun t w=>results_tmp results18 t _ w) ?_;refine J.ej 0 rfl (fun hb=>?_);simp only[List.length_map,aG]at hb;refine J.ej 1 rfl (fun fp=>?_);simp only[List.length_map,aG]at fp;refine go [] ?_;refine br (fun h1=>?_) (fun h1=>?_)
 ·exact ah rfl (Sub.bool (by exact CS (by have h9:=h1;simp at h9;omega)))
 ·refine J.loop (ι:=Z_ a b) (fun sx=>[(0,.snap 1 false (a.map fun v=>[cw v])),(1,.snap 1 false (b.map fun v=>[cw v])),(2,.fn (.func 19) [] []),(15,.snap 1 false (a.map fun v=>[cw v])),(16,.i a.length),(17,.i sx.pre.length)]) (fun sx=>[]) (fun sx=>sx.rest.length) ⟨[],a,[],b,rfl,rfl,rfl,rfl,by simp at h1;omega⟩ ?_ ?_
  ·exact Le.mk rfl (.s rfl rfl (.s rfl rfl (.s rfl rfl (.s rfl rfl (.cons rfl (Sub.int zS) rfl (.s rfl rfl .nil)))))) .nil
  ·rintro⟨pre,rest,aw,aI,hx,hy,hp,ml,jv⟩;show J _ _ _ _ [(0,.snap 1 false (a.map fun v=>[cw v])),(1,.snap 1 false (b.map fun v=>[cw v])),(2,.fn (.func 19) [] []),(15,.snap 1 false (a.map fun v=>[cw v])),(16,.i a.length),(17,.i pre.length)] [];have hl:=congrArg List.length hx;simp only[List.length_append]at hl;rcases rest with _|⟨x,rest⟩
   ·obtain rfl:aI=[]:=List.length_eq_zero_iff.1 (by simpa using jv);refine go [] ?_;refine aR (by simp at hl⊢;omega) ?_;refine go [] ?_;exact ah rfl (Sub.bool (by exact CR hx hy hp))
   ·simp only[List.length_cons]at hl;obtain⟨y,aI,rfl⟩:=Cz (n:=rest.length) (by simpa using jv);refine go [] ?_;refine a_ zQ ?_;refine ix zO (bn (fun v:List aa=>[cw v]) hx rfl) ?_;refine ix zO (bn (fun v:List aa=>[cw v]) hy zO) ?_;refine oP (dX call19 rfl rfl (Z' x y)) ?_;refine br (fun h2=>?_) (fun h2=>?_)
    ·exact ah rfl (Sub.bool (by exact CT hx hy ml (abE h2)))
    ·refine sd (az zO) ?_;exact nx ⟨pre++[x],rest,aw++[y],aI,by simp[hx],by simp[hy],by rw[hp,abD h2],by simp[ml],by simpa using jv⟩ zS (Le.mk rfl (.s rfl rfl (.s rfl rfl (.s rfl rfl (.s rfl rfl (.s rfl rfl (.cons rfl (Sub.int zS) rfl .nil)))))) .nil)
def KW:Fact:=⟨[],0,false,0,0,[],[],[],[],[],[],[],⟨[],[]⟩,⟨[],[]⟩,⟨[],[]⟩,[],[],0⟩
def gY(k c:aa):Fact:={KW with key:=k,day:=20,kind:=3,eY:=c,c_:=[49]}
theorem FV(k c:aa):Fc Tryz.prog 40 [.str k,.str c] (.agg (aM (gY k c))):=by
 refine Fc.iI func40 rfl ntmps40 rfl rfl rfl ?_;refine go [99999] ?_;refine J.ret (?_);exact Rd.cA results40 isAgg39 sizeOf39 rfl rfl rfl (Sub.agg (.r (.cons (Sub.refl _) (.r (.cons (Sub.refl _) (.r (.cons (Sub.refl _) (.r (.cons (Sub.refl _) (.r (.cons (Sub.refl _) (.r (.cons (Sub.refl _) (.r (.cons (Sub.refl _) (.r (.cons (Sub.refl _) (.r (.cons (Sub.refl _) (.cons ((Sub.nil _ false).trans (Sub.refl _)) (.cons ((Sub.nil _ false).trans (Sub.refl _)) (.r .nil))))))))))))))))))))))
end Go.T
namespace Go.T
open Go
variable[bV]
theorem Fc.res{P:Program}{f:FuncId}{ds:List D}{r r':D}(h:Fc P f ds r)(s:Sub r r'):Fc P f ds r':=
 ⟨fun w O ρ vals hO hg hv=>(h.out w O ρ vals hO hg hv).mono fun _ _ hx=>by
  obtain⟨v,e1,h1,h2⟩:=hx;exact⟨v,e1,s.out _ _ _ _ h1,h2⟩⟩
theorem U8{w:World}{O:Nat→Prop}{b:Nat}{ds ep:List D}(h:iv ds ep):∀off,Vc w O b off ds→Vc w O b off ep:=by
 induction h with
 |nil=>exact fun _ h=>h
 |cons s _ ih=>
  intro off hv;simp only[Vc]at hv⊢;obtain⟨⟨u,h1,h2⟩,h3⟩:=hv;exact⟨⟨u,h1,s.out _ _ _ _ h2⟩,ih _ h3⟩
theorem iv.len{ds ep:List D}(h:iv ds ep):ds.length=ep.length:=by
 induction h with
 |nil=>rfl
 |cons _ _ ih=>simp[ih]
inductive u2:List (List D)→List (List D)→Prop
 |nil:u2 [] []
 |cons {r r':List D} {rs p7:List (List D)} (h:iv r r') (k:u2 rs p7):u2 (r::rs) (r'::p7)
theorem u2.len{rs p7:List (List D)}(h:u2 rs p7):rs.length=p7.length:=by
 induction h with
 |nil=>rfl
 |cons _ _ ih=>simp[ih]
theorem U9{w:World}{O:Nat→Prop}{b sz:Nat}{rs p7:List (List D)}(h:u2 rs p7):∀off,Vr w O b off sz rs→Vr w O b off sz p7:=by
 induction h with
 |nil=>exact fun _ h=>h
 |cons s _ ih=>
  intro off hv;simp only[Vr]at hv⊢;exact⟨⟨s.len▸hv.1.1,U8 s _ hv.1.2⟩,ih _ hv.2⟩
theorem Sub.rows{sz:Nat}{f:Bool}{rs p7:List (List D)}(h:u2 rs p7):Sub (.snap sz f rs) (.snap sz false p7):=by
 have hl:=h.len;refine⟨fun w O ρ v hv=>?_⟩;simp only[V]at hv⊢;obtain⟨a,cap,rfl,h1,_,h3⟩:=hv;rw[hl]at h1;refine⟨a,cap,by rw[hl],h1,by simp,fun aB=>?_⟩;obtain⟨b,off,e,h4,h5⟩:=h3 (by
  cases rs with
  |nil=>cases h;exact absurd rfl aB
  |cons=>simp)
 exact⟨b,off,e,h4,U9 h _ h5⟩
end Go.T
namespace Go.T
open Go
theorem Kd:∀Ls:List (List aa),∃u,e5 u Ls
 |[]=>⟨[],Tt⟩
 |l::Ls=>by obtain⟨u,h⟩:=Kd Ls;exact⟨tY u l,Ts h l⟩
theorem ab7{u:UM}{g:List aa}(h:g∈fG u):∃x∈aD u,∀y,y∈g↔(y∈aD u∧aF u y=aF u x):=by
 unfold fG at h;obtain⟨x,hx,rfl⟩:=List.mem_map.1 h;refine⟨x,(qV.1 hx).1,fun y=>?_⟩;unfold iP;rw[qW,List.mem_filter];simp
theorem Hf{u:UM}{x:aa}(hx:x∈aD u):∃g∈fG u,∀y,y∈g↔(y∈aD u∧aF u y=aF u x):=by
 have aB:((aD u).filter fun y=>decide (aF u y=aF u x))≠[]:=List.ne_nil_of_mem (tv hx);obtain⟨h1,h2⟩:=EX aB;generalize (eW ((aD u).filter fun y=>decide (aF u y=aF u x))).headD []=z at h1 h2;obtain⟨h3,h4⟩:=List.mem_filter.1 h1;have h4:aF u z=aF u x:=of_decide_eq_true h4;refine⟨iP u z,?_,fun y=>?_⟩
 ·unfold fG;refine List.mem_map.2 ⟨z,qV.2 ⟨h3,?_⟩,rfl⟩;unfold kS;simp only[List.all_eq_true,decide_eq_true_eq];exact fun y hy e=>h2 y (List.mem_filter.2 ⟨hy,by rw[e,h4];exact decide_eq_true rfl⟩)
 ·unfold iP;rw[qW,List.mem_filter,h4];simp
theorem GW{gs:List (List aa)}(ef:gs.flatten.Nodup){g g':List aa}(hg:g∈gs)(lG:g'∈gs){x:aa}(hx:x∈g)(j_:x∈g'):g=g':=by
 induction gs with
 |nil=>cases hg
 |cons a r ih=>
  rw[List.flatten_cons,List.nodup_append]at ef;rcases List.mem_cons.1 hg with e|hg<;>rcases List.mem_cons.1 lG with e'|lG
  ·rw[e,e']
  ·exact absurd rfl (ef.2.2 x (e▸hx) x (List.mem_flatten.2 ⟨g',lG,j_⟩))
  ·exact absurd rfl (ef.2.2 x (e'▸j_) x (List.mem_flatten.2 ⟨g,hg,hx⟩))
  ·exact ih ef.2.1 hg lG
theorem aa7{gs:List (List aa)}(ef:gs.flatten.Nodup){g:List aa}(hg:g∈gs):g.Nodup:=by
 induction gs with
 |nil=>cases hg
 |cons a r ih=>
  rw[List.flatten_cons,List.nodup_append]at ef;rcases List.mem_cons.1 hg with rfl|hg
  ·exact ef.1
  ·exact ih ef.2.1 hg
theorem N4{Ls gs:List (List aa)}(aB:∀g∈gs,g≠[])(hs:∀g∈gs,g.Pairwise fun a b=>a≤b)(ef:gs.flatten.Nodup)(hh:(gs.map (·.headD [])).Pairwise fun a b=>a≤b)
  (eu:∀r∈Ls,r≠[]→∃g∈gs,∀x∈r,x∈g)(Du:∀g∈gs,∀x∈g,fP Ls (g.headD []) x∧named Ls x):kI Ls=gs:=by
 obtain⟨u,hu⟩:=Kd Ls;rw[←Hg hu];have TP:∀{x y:aa},fP Ls x y→x=y∨∃g∈gs,x∈g∧y∈g:=by
  intro x y hc;induction hc with
  |refl x=>exact .inl rfl
  |one hl hx hy=>
   obtain⟨g,hg,h⟩:=eu _ hl (List.ne_nil_of_mem hx);exact .inr ⟨g,hg,h _ hx,h _ hy⟩
  |symm _ ih=>exact ih.imp Eq.symm fun⟨g,a,b,c⟩=>⟨g,a,c,b⟩
  |trans _ _ ih mZ=>
   rcases ih with rfl|⟨g,a,b,c⟩
   ·exact mZ
   ·rcases mZ with rfl|⟨g',a',b',c'⟩
    ·exact .inr ⟨g,a,b,c⟩
    ·obtain rfl:=GW ef a a' c b';exact .inr ⟨g,a,b,c'⟩
 have nk:∀g∈gs,∀x∈g,x∈aD u:=fun g hg x hx=>(hu.keys x).2 (Du g hg x hx).2
 -- the class of a name of g is g
 have Cv:∀g∈gs,∀x∈g,iP u x=g:=by
  intro g hg x hx;refine EY ?_ (uG _) (hs g hg);refine(ll _).trans ((List.perm_ext_iff_of_nodup (hu.nd.filter _) (aa7 ef hg)).2 fun y=>?_);rw[List.mem_filter,decide_eq_true_eq];constructor
  ·rintro⟨h1,h2⟩;rcases TP ((hu.conn y x h1 (nk g hg x hx)).1 h2)with rfl|⟨g',a,b,c⟩
   ·exact hx
   ·rw[GW ef hg a hx c];exact b
  ·intro hy;exact⟨nk g hg y hy,(hu.conn y x (nk g hg y hy) (nk g hg x hx)).2 ((Du g hg y hy).1.symm.trans (Du g hg x hx).1)⟩
 have hd:∀g∈gs,g.headD []∈g:=fun g hg=>by
  cases g with
  |nil=>exact absurd rfl (aB _ hg)
  |cons a r=>exact List.mem_cons_self
 have n1:(fG u).Nodup:=by
  have:((fG u).map (·.headD [])).Nodup:=by
   rw[Hh];exact(ll _).nodup_iff.2 (hu.nd.filter _)
  exact(List.pairwise_map.1 this).imp fun aB e=>aB (by rw[e])
 have n2:gs.Nodup:=by
  clear hs hh eu Du TP nk Cv;induction gs with
  |nil=>exact List.nodup_nil
  |cons a r ih=>
   have h2:=ef;rw[List.flatten_cons,List.nodup_append]at h2;rw[List.nodup_cons];refine⟨fun ha=>?_,ih (fun g hg=>aB g (List.mem_cons_of_mem _ hg)) h2.2.1 (fun g hg=>hd g (List.mem_cons_of_mem _ hg))⟩;have hx:=hd a List.mem_cons_self;exact h2.2.2 _ hx _ (List.mem_flatten.2 ⟨a,ha,hx⟩) rfl
 have hp:(fG u).Perm gs:=(List.perm_ext_iff_of_nodup n1 n2).2 fun g=>by
  constructor
  ·intro hg;unfold fG at hg;obtain⟨x,hx,rfl⟩:=List.mem_map.1 hg;have hx:=(qV.1 hx).1;obtain⟨r,hr,Px⟩:=(hu.keys x).1 hx;obtain⟨g,hg,h⟩:=eu r hr (List.ne_nil_of_mem Px);rw[Cv g hg x (h x Px)];exact hg
  ·intro hg;have h1:=hd g hg;obtain⟨g',lG,hm⟩:=Hf (nk g hg _ h1);have:g'=g:=by
    unfold fG at lG;obtain⟨z,hz,rfl⟩:=List.mem_map.1 lG;have qN:=(qV.1 hz).1;have Is:z∈iP u z:=by unfold iP;rw[qW];exact tv qN
    have e:=((hm z).1 Is).2;have:z∈iP u (g.headD []):=by unfold iP;rw[qW];exact List.mem_filter.2 ⟨qN,decide_eq_true e⟩
    rw[Cv g hg _ h1]at this;exact Cv g hg z this
   exact this▸lG
 refine List.Perm.eq_of_pairwise (le:=fun x y=>x.headD []≤y.headD []) (fun a b ha hb h1 h2=>?_) (List.pairwise_map.1 (N8 u)) (List.pairwise_map.1 hh) hp;have e:=List.le_antisymm h1 h2;have vF:=hp.mem_iff.1 ha;exact GW ef vF hb (hd a vF) (e▸hd b hb)
def qP(x:aa):bJ:={(default:bJ)with id:=x,kind:=1,cur:=[69,85,82],DQ:=1}
def om:Setup:={(default:Setup)with qm:=[⟨[69,85,82],0⟩],insts:=[qP [97],qP [98],qP [99],qP [100]]}
def nr:Fact:={KW with key:=[115],day:=30,kind:=9,eY:=[97],other:=[98],ratio:=⟨[49],[]⟩}
theorem PN:cq nr=[[97],[98]]:=by
 have h1:gI nr=[[97],[98]]:=by decide
 unfold cq;rw[h1];have h2:eW [[97],[98]]=[[97],[98]]:=EY (ll _) (uG _) zD;rw[h2];decide
theorem PL(k:aa)(c:UInt8):cq (gY k [c])=[[c]]:=by
 have h1:gI (gY k [c])=[[c]]:=by simp[gI,eC,fU,t_,gY,KW]
 unfold cq;rw[h1];have h2:eW [[c]]=[[c]]:=EY (ll _) (uG _) zS;rw[h2];simp[Lib.compact,Lib.compactUpTo,Lib.keeps]
theorem N7{Ls gs:List (List aa)}(h:∀g∈gs,g∈Ls)(aB:∀g∈gs,g≠[]):∀g∈gs,∀x∈g,fP Ls (g.headD []) x∧named Ls x:=fun g hg x hx=>⟨.one (h g hg) (by
 cases g with
 |nil=>exact absurd rfl (aB _ hg)
 |cons a r=>exact List.mem_cons_self) hx,⟨g,h g hg,hx⟩⟩
theorem Ya:gL om [nr,gY [107] [99]]=[[[97]],[[98]],[[99]],[[100]],[[97],[98]],[[99]],[[97],[98]],[[99]]]:=by
 have e1:nr.key=[115]:=rfl;have e2:(gY [107] [99]).key=[107]:=rfl;simp[gL,ma,PN,PL,om,qP,e1,e2]
theorem abY:kI (gL om [nr,gY [107] [99]])=[[[97],[98]],[[99]],[[100]]]:=by
 rw[Ya];exact N4 zD zD zD zD zD (N7 zD zD)
theorem Yb:gL om [nr,gY [107] [99],gY [107] [100]]=[[[97]],[[98]],[[99]],[[100]],[[97],[98]],[[99]],[[100]],[[97],[98]],[[99],[100]],[[99],[100]]]:=by
 have e1:nr.key=[115]:=rfl;have e2:∀c,(gY [107] c).key=[107]:=fun _=>rfl;simp[gL,ma,PN,PL,om,qP,e1,e2]
theorem ab0:kI (gL om [nr,gY [107] [99],gY [107] [100]])=[[[97],[98]],[[99],[100]]]:=by
 rw[Yb];exact N4 zD zD zD zD zD (N7 zD zD)
set_option maxRecDepth 100000 in
theorem RP:eP (gY [107] [99])=0:=by decide+kernel
set_option maxRecDepth 100000 in
theorem agI:eP (gY [107] [100])=0:=by decide+kernel
set_option maxRecDepth 100000 in
theorem RR:eP nr=0:=by decide+kernel
set_option maxRecDepth 100000 in
theorem RQ:mI om.insts om.qm=0:=by decide+kernel
theorem al9:lX om [nr,gY [107] [99]]=false:=by simp[lX,RQ,RP,RR]
theorem al_:lX om [nr,gY [107] [99],gY [107] [100]]=false:=by simp[lX,RQ,RP,agI,RR]
open Go.Proofs
structure wC(s:Setup)(l:List Fact):Prop where
 insts:∀x∈s.insts,pj x
 facts:∀f∈l,kC f
 PA:s.insts.length≤1000
 ids:∀x∈s.insts,de x.id
 Ny:l.length≤500
 opts:∀f∈l,f.opts.length≤1000∧∀s∈eC f,de s
theorem tI{n:Int}{s:aa}(h:gt n s=false):(s.length:Int)≤n:=by simpa[gt]using h
theorem Hd{f:aP}(h:z8 f=false):lk f:=by
 simp only[z8,Bool.or_eq_false_iff]at h;have h1:=tI h.1;have h2:=tI h.2;unfold lk;omega
theorem yi{f:aP}(h:nX f=false):lk f:=by
 simp only[nX,Bool.or_eq_false_iff]at h;have h1:=tI h.1;have h2:=tI h.2;unfold lk;omega
theorem xe{α:Type}{l:List α}{p:α→Bool}(h:l.any p=false){x:α}(hx:x∈l):p x=false:=by
 have:=List.any_eq_false.1 h x hx;simpa using this
theorem adK{x:bJ}(h:Dh x=false):pj x∧de x.id:=by
 simp only[Dh,Bool.or_eq_false_iff,List.any_cons,List.any_nil]at h;obtain⟨⟨⟨h1,h2⟩,h3⟩,h4,h5,h6,_⟩:=h;refine⟨⟨Hd h4,Hd h5,Hd h6⟩,?_⟩;have:=tI h1;unfold de aG;omega
theorem CW{f:Fact}(h:tH f=false):kC f∧f.opts.length≤1000∧∀s∈eC f,de s:=by
 simp only[tH,Bool.or_eq_false_iff]at h;obtain⟨g1,g2,g3,g4⟩:=h;simp only[Hb,Bool.or_eq_false_iff,decide_eq_false_iff_not,Nat.not_lt]at g1;obtain⟨⟨⟨⟨⟨⟨⟨⟨⟨⟨a1,a2⟩,a3⟩,a4⟩,a5⟩,a6⟩,a7⟩,a8⟩,a9⟩,FB⟩,FC⟩:=g1;have ho:f.opts.length≤10:=by
  simp only[xK,Bool.or_eq_false_iff,decide_eq_false_iff_not]at g2;have:=g2.2;omega
 have x1:∀o∈f.opts,xL o=false:=fun o hx=>xe g4 hx;refine⟨⟨fun p hp=>?_,by omega,by omega,by omega,yi a9,yi FB,yi FC,fun o hx=>?_⟩,by omega,fun s hs=>?_⟩
 ·have:=xe g3 hp;simp only[z_,Bool.or_eq_false_iff,decide_eq_false_iff_not]at this;have h2:=this.1;omega
 ·have:=x1 o hx;simp only[xL,Bool.or_eq_false_iff]at this;exact⟨yi this.1.1.2,yi this.1.2,yi this.2⟩
 ·unfold eC fU at hs;have b1:=a2;have b2:=a3;rw[List.mem_append]at hs;unfold de aG;rcases hs with hs|hs
  ·have:s=f.eY∨s=f.other:=by
    split at hs
    ·simpa using hs
    ·exact .inl (by simpa using hs)
   rcases this with rfl|rfl<;>omega
  ·obtain⟨o,hx,rfl⟩:=List.mem_map.1 hs;have:=x1 o hx;simp only[xL,Bool.or_eq_false_iff]at this;have:=tI this.1.1.1;omega
theorem KN{l:List Fact}(h:rU l=false):l.length≤8∧∀f∈l,tH f=false:=by
 simp only[rU,Hc,Bool.or_eq_false_iff,decide_eq_false_iff_not]at h;exact⟨by have:=h.1;omega,fun f hf=>xe h.2.2 hf⟩
theorem Ju{s:Setup}{l:List Fact}(h:xM s=false)(h2:rU l=false):wC s l:=by
 obtain⟨v1,v2⟩:=KN h2;simp only[xM,Bool.or_eq_false_iff]at h;have hi:Di s.insts=false:=h.2.1.1.1.1;simp only[Di,Bool.or_eq_false_iff,decide_eq_false_iff_not]at hi;have hx:∀x∈s.insts,pj x∧de x.id:=fun x hx=>adK (xe hi.1 hx);exact⟨fun x k=>(hx x k).1,fun f hf=>(CW (v2 f hf)).1,by have:=hi.2.2;omega,fun x k=>(hx x k).2,by omega,fun f hf=>(CW (v2 f hf)).2⟩
theorem abC{s:Setup}{l:List Fact}(h:wC s l)(hb:lX s l=false):Fc Tryz.prog 10 [.agg (iR s),bz l] (.bf [vo (kI (gL s l)),.i 0]):=
 ab3 s l h.insts h.facts h.PA h.ids h.Ny h.opts hb
theorem Vy{s:Setup}{l:List Fact}(h:wC s l)(hb:lX s l=true):Fc Tryz.prog 10 [.agg (iR s),bz l] (.bf [.raw (.slice none 0 0),.i 1]):=
 ab2 s l h.insts h.facts h.PA h.ids h.Ny h.opts hb
noncomputable abbrev bD(s:Setup)(l:List Fact):List (List aa):=[]::kI (gL s l)
theorem G'{s:Setup}{l:List Fact}(h:wC s l)(hb:lX s l=false):Fc Tryz.prog 10 [.agg (iR s),bz l] (.bf [dT (bD s l),.i 0]):=
 (abC h hb).res (Sub.E7 (Sub.abX _) (Sub.refl _))
open Go.Proofs.Tryz
set_option maxRecDepth 20000
@[reducible] def uo:List aa:=[[97],[98],[99],[100]]
theorem agJ:wC om [nr,gY [107] [99]]:=Ju zD zD
theorem agK:wC om [nr,gY [107] [99],gY [107] [100]]:=Ju zD zD
@[reducible] def Ke:List D:=[.snap 2 true [[.str [69,85,82],.i 0]],.snap 15 false (uo.map fun x=>iD (qP x)),.raw (.slice none 0 0),.raw (.slice none 0 0),.raw (.slice none 0 0),.raw (.slice none 0 0),.i 0]
@[reducible] def BU:List D:=[.str [115],.i 0,.b false,.i 30,.i 9,.str [97],.str [98],.str [],.str [],.str [],.str [],.str [],.str [],.str [],.str [49],.str [],.str [],.str [],.raw (.slice none 0 0),.raw (.slice none 0 0),.i 0]
theorem Tv:Sub (.agg Ke) (.agg (iR om)):=.agg (.cons (Sub.ru _ _ _) (.r (.cons (Sub.nil _ _) (.cons (Sub.nil _ _) (.cons (Sub.nil _ _) (.cons (Sub.nil _ _) (.r .nil)))))))
theorem TN:iv BU (aM nr):=.cons (Sub.refl _) (.r (.cons (Sub.refl _) (.r (.cons (Sub.refl _) (.r (.cons (Sub.refl _) (.r (.cons (Sub.refl _) (.r (.cons (Sub.refl _) (.r (.cons (Sub.refl _) (.r (.cons (Sub.refl _) (.r (.cons (Sub.refl _) (.r (.cons (Sub.nil _ _) (.cons (Sub.nil _ _) (.r .nil))))))))))))))))))))
theorem iv.refl:∀ds:List D,iv ds ds
 |[]=>.nil
 |_::ds=>.cons (Sub.refl _) (iv.refl ds)
@[reducible] def C_:List (List aa):=[[],[[97],[98]],[[99]],[[100]]]
@[reducible] def C':List (List aa):=[[],[[97],[98]],[[99],[100]]]
theorem abZ:Fc Tryz.prog 10 [.agg Ke,.snap 21 true [BU,aM (gY [107] [99])]] (.bf [dT C_,.i 0]):=
 ((G' agJ al9).sub (.cons Tv (.cons (Sub.rows (.cons TN (.cons (iv.refl _) .nil))) .nil))).res (Sub.of_eq (by unfold bD;rw[abY]))
theorem ab1:Fc Tryz.prog 10 [.agg Ke,.snap 21 true [BU,aM (gY [107] [99]),aM (gY [107] [100])]] (.bf [dT C',.i 0]):=
 ((G' agK al_).sub (.cons Tv (.cons (Sub.rows (.cons TN (.cons (iv.refl _) (.cons (iv.refl _) .nil)))) .nil))).res (Sub.of_eq (by unfold bD;rw[ab0]))
theorem Z7:Fc Tryz.prog 18 [dT C_,.snap 1 true [[.raw (.slice none 0 0)],[.snap 1 true [[.str [97]],[.str [98]]]],[.snap 1 true [[.str [99]]]],[.snap 1 true [[.str [100]]]]],.fn (.func 19) [] []] (.b true):=
 ((MV C_ C_).sub (.r (.cons (Sub.rows (.cons (.cons (Sub.nil _ _) .nil) (.cons (.cons (Sub.ru _ _ _) .nil) (.cons (.cons (Sub.ru _ _ _) .nil) (.cons (.cons (Sub.ru _ _ _) .nil) .nil))))) (.r .nil)))).res (Sub.bool zD)
theorem Z8:Fc Tryz.prog 18 [dT C',.snap 1 true [[.raw (.slice none 0 0)],[.snap 1 true [[.str [97]],[.str [98]]]],[.snap 1 true [[.str [99]],[.str [100]]]]],.fn (.func 19) [] []] (.b true):=
 ((MV C' C').sub (.r (.cons (Sub.rows (.cons (.cons (Sub.nil _ _) .nil) (.cons (.cons (Sub.ru _ _ _) .nil) (.cons (.cons (Sub.ru _ _ _) .nil) .nil)))) (.r .nil)))).res (Sub.bool zD)
structure Vv where
 pre:List aa
 rest:List aa
 hx:uo=pre++rest
theorem Cp:Fc Tryz.prog 9 [] (.b true):=by
 refine Fc.mk' [0] func9 rfl ntmps9 rfl rfl rfl (fun t w=>results_tmp results9 t _ w) ?_;refine J.seq (J.af [.p] ?_);refine .ag rfl rfl<|.nil ?_;refine J.seq (J.af [.p,.p,.p,.w,.w] ?_);refine .P rfl (rl (pl:=#[(0,1),(1,1)]) underlying89 zeroValue89 (fun w=>by kernel_rfl) rfl rfl)<|.P rfl (bI (n:=1) (rows:=[[.str [69,85,82],.i 0]]) underlying22 sizeOf89 rfl rfl rfl zeroValue89 rfl rfl rfl rfl rfl rfl rfl)<|.P rfl (rl (pl:=#[(0,1),(1,1),(2,1),(3,2),(5,1),(6,1)]) underlying30 zeroValue30 (fun w=>by kernel_rfl) rfl rfl)<|.W rfl (jE 0 zeroValue30 rfl)<|.W rfl (lf sizeOf30 rfl rfl rfl rfl rfl rfl)<|.nil ?_;refine J.seq (J.seq (J.af [.p,.p,.p] ?_));refine .P rfl (bI (n:=4) (rows:=[[.str [97]],[.str [98]],[.str [99]],[.str [100]]]) underlying48 sizeOf9 rfl rfl rfl zeroValue9 rfl rfl rfl rfl rfl rfl rfl)<|.P rfl (dE underlying48 rfl)<|.mv rfl rfl<|.nil ?_;refine J.block ?_;refine J.loop (ι:=Vv) (fun sx=>[(1,.box 0 0),(12,.snap 1 true (uo.map fun s=>[.str s])),(13,.i uo.length),(14,.i sx.pre.length)]) (fun sx=>[(0,.cells [.snap 2 true [[.str [69,85,82],.i 0]],.gs 1 sx.pre.length,.raw (.slice none 0 0),.raw (.slice none 0 0),.raw (.slice none 0 0),.raw (.slice none 0 0),.i 0]),(1,.arr 15 (sx.pre.map fun x=>iD (qP x)))]) (fun sx=>sx.rest.length) ⟨[],uo,rfl⟩ ?_ ?_
 ·exact(Le.mB 1 15).trans<|(Le.eN 0 1 rfl rfl (Sub.z' _)).trans<|Le.mk rfl (.s rfl rfl (.s rfl rfl (.s rfl rfl (.s rfl rfl .nil)))) (.cons rfl rfl (.arr rfl zS .nil))
 ·rintro⟨pre,rest,hx⟩;show J _ _ _ _ [(1,.box 0 0),(12,.snap 1 true (uo.map fun s=>[.str s])),(13,.i uo.length),(14,.i pre.length)] [(0,.cells [.snap 2 true [[.str [69,85,82],.i 0]],.gs 1 pre.length,.raw (.slice none 0 0),.raw (.slice none 0 0),.raw (.slice none 0 0),.raw (.slice none 0 0),.i 0]),(1,.arr 15 (pre.map fun x=>iD (qP x)))];have hl:=congrArg List.length hx;simp only[List.length_append]at hl;have OV:pre.length+rest.length=4:=by have h9:=congrArg List.length hx;simp at h9;omega
  rcases rest with _|⟨x,rest⟩
  ·obtain rfl:pre=uo:=by simpa using hx.symm
   refine J.seq (J.af [.p] ?_);refine .P rfl (b_ rfl rfl)<|.nil ?_;refine J.seq ?_;refine J.eQ rfl zS ?_;refine J.exit (ei (dZ ?_));refine J.seq (J.af [.p,.p,.w,.w] ?_);refine .P rfl (rl (pl:=#[(0,1),(1,1)]) underlying35 zeroValue35 (fun w=>by kernel_rfl) rfl rfl)<|.P rfl (rl (pl:=#[(0,1),(1,1),(2,1),(3,1),(4,1),(5,1),(6,1),(7,1),(8,1),(9,1),(10,1),(11,1),(12,2),(14,2),(16,2),(18,1),(19,1),(20,1)]) underlying39 zeroValue39 (fun w=>by kernel_rfl) rfl rfl)<|.W rfl (jE 2 zeroValue39 rfl)<|.W rfl (lf sizeOf39 rfl rfl rfl rfl rfl rfl)<|.nil ?_;refine J.bP (Le.G0 0 1 1 rfl rfl rfl zS) ?_;refine J.bP (Le.gg 1 0 rfl rfl rfl rfl) ?_;refine J.bP (Le.gg 4 2 rfl rfl rfl rfl) ?_;refine J.seq (J.rp [.p,.p,.p,.p,.p,.p,.p,.p,.p,.p] nC zK ?_);refine .P rfl (sV isAgg30 sizeOf30 rfl rfl)<|.P rfl (sV isAgg39 sizeOf39 rfl rfl)<|.P rfl (ai call40 rfl (FV _ _))<|.P rfl (bI (n:=2) (rows:=[BU,aM (gY [107] [99])]) underlying31 sizeOf39 rfl rfl rfl zeroValue39 rfl rfl rfl rfl rfl rfl rfl)<|.P rfl (ai call10 rfl abZ)<|.mv rfl rfl<|.P rfl (dY rfl rfl)<|.P rfl (dY rfl rfl)<|.ag rfl rfl<|.ag rfl rfl<|.nil ?_;refine J.seq (J.rp [.p,.p,.p,.p,.p,.p,.p,.p,.p,.p,.p] nC zK ?_);refine .P rfl (sV isAgg30 sizeOf30 rfl rfl)<|.P rfl (sV isAgg39 sizeOf39 rfl rfl)<|.P rfl (ai call40 rfl (FV _ _))<|.P rfl (ai call40 rfl (FV _ _))<|.P rfl (bI (n:=3) (rows:=[BU,aM (gY [107] [99]),aM (gY [107] [100])]) underlying31 sizeOf39 rfl rfl rfl zeroValue39 rfl rfl rfl rfl rfl rfl rfl)<|.P rfl (ai call10 rfl ab1)<|.mv rfl rfl<|.P rfl (dY rfl rfl)<|.P rfl (dY rfl rfl)<|.ag rfl rfl<|.ag rfl rfl<|.nil ?_
   refine J.seq (J.af [.p,.p,.p,.p,.p,.p,.p,.p,.p,.p,.p,.p,.p,.p,.p,.p,.p,.p,.p,.p,.p,.p] ?_);refine .mv rfl rfl<|.P rfl (jF rfl rfl)<|.mv rfl rfl<|.gT rfl (.inl rfl) rfl rfl rfl (fun hg=>pk (fun _=>aX rfl _))<|.gT rfl (.inl rfl) rfl rfl rfl (fun hg=>pk (fun _=>jF (bj rfl hg) rfl _))<|.P rfl (gD rfl rfl)<|.mv rfl rfl<|.gT rfl (.inl rfl) rfl rfl rfl (fun hg=>pk (fun _=>aX rfl _))<|.gT rfl (.inl rfl) rfl rfl rfl (fun hg=>pk (fun _=>bI (n:=2) (rows:=[[.str [97]],[.str [98]]]) underlying48 sizeOf9 rfl rfl rfl zeroValue9 rfl rfl rfl rfl rfl rfl rfl _))<|.gT rfl (.inl rfl) rfl rfl rfl (fun hg=>pk (fun _=>bI (n:=1) (rows:=[[.str [99]]]) underlying48 sizeOf9 rfl rfl rfl zeroValue9 rfl rfl rfl rfl rfl rfl rfl _))<|.gT rfl (.inl rfl) rfl rfl rfl (fun hg=>pk (fun _=>bI (n:=1) (rows:=[[.str [100]]]) underlying48 sizeOf9 rfl rfl rfl zeroValue9 rfl rfl rfl rfl rfl rfl rfl _))<|.gT rfl (.inl rfl) rfl rfl rfl (fun hg=>pk (fun _=>bI (n:=4) (rows:=[[.raw (.slice none 0 0)],[.snap 1 true [[.str [97]],[.str [98]]]],[.snap 1 true [[.str [99]]]],[.snap 1 true [[.str [100]]]]]) underlying43 sizeOf48 rfl rfl rfl zeroValue48 rfl rfl rfl rfl rfl rfl rfl _))<|.gT rfl (.inl rfl) rfl rfl rfl (fun hg=>pk (fun _=>ai call18 (cd (bj rfl hg) (cd (bj rfl hg) (cd rfl (rfl)))) Z7 _))<|.P rfl (gD rfl rfl)<|.mv rfl rfl<|.gT rfl (.inl rfl) rfl rfl rfl (fun hg=>pk (fun _=>aX rfl _))<|.gT rfl (.inl rfl) rfl rfl rfl (fun hg=>pk (fun _=>bI (n:=2) (rows:=[[.str [97]],[.str [98]]]) underlying48 sizeOf9 rfl rfl rfl zeroValue9 rfl rfl rfl rfl rfl rfl rfl _)) ?_
   refine .gT rfl (.inl rfl) rfl rfl rfl (fun hg=>pk (fun _=>bI (n:=2) (rows:=[[.str [99]],[.str [100]]]) underlying48 sizeOf9 rfl rfl rfl zeroValue9 rfl rfl rfl rfl rfl rfl rfl _))<|.gT rfl (.inl rfl) rfl rfl rfl (fun hg=>pk (fun _=>bI (n:=3) (rows:=[[.raw (.slice none 0 0)],[.snap 1 true [[.str [97]],[.str [98]]]],[.snap 1 true [[.str [99]],[.str [100]]]]]) underlying43 sizeOf48 rfl rfl rfl zeroValue48 rfl rfl rfl rfl rfl rfl rfl _))<|.gT rfl (.inl rfl) rfl rfl rfl (fun hg=>pk (fun _=>ai call18 (cd (bj rfl hg) (cd (bj rfl hg) (cd rfl (rfl)))) Z8 _))<|.P rfl (gD rfl rfl)<|.ag rfl rfl<|.nil ?_;refine J.ret (?_);exact dF rfl (Sub.refl _)
  ·simp only[List.length_cons]at hl;simp only[List.length_cons]at OV;refine J.seq (J.af [.p] ?_);refine .P rfl (b_ rfl rfl)<|.nil ?_;refine J.seq ?_;refine J.fD rfl zQ ?_;refine J.skip ?_;refine J.seq ?_;refine J.block ?_;refine J.seq (J.af [.p,.p,.p] ?_);refine .P rfl (fY underlying48 sizeOf9 rfl rfl zO (bn (fun s:aa=>[D.str s]) hx rfl))<|.P rfl (bX isAgg9 rfl)<|.ag rfl rfl<|.nil ?_;refine J.af [.p,.r,.p,.p,.p,.w,.p,.w] ?_;refine .P rfl (hZ (n:=0) 23 1 underlying30 sizeOf23 rfl rfl)<|.R rfl (iK isAgg23 rfl rfl rfl)<|.mv rfl rfl<|.P rfl (rl (pl:=#[(0,1),(1,1),(2,1),(3,1),(4,1),(5,1),(6,2),(8,2),(10,1),(11,1),(12,1),(13,2)]) underlying65 zeroValue65 (fun w=>by kernel_rfl) rfl rfl)<|.P rfl (bI (n:=1) (rows:=[iD (qP x)]) underlying23 sizeOf65 rfl rfl rfl zeroValue65 rfl rfl rfl rfl rfl rfl rfl)<|.W rfl (k_ 2 underlying23 underlying23 sizeOf65 typeInfo65 zeroValue65 rfl (bt:=192) rfl rfl rfl rfl zS rfl rfl zQ)<|.P rfl (hZ (n:=0) 23 1 underlying30 sizeOf23 rfl rfl)<|.W rfl (rn sizeOf23 rfl rfl rfl rfl zS)<|.nil ?_;refine J.nil (cC ?_);refine J.af [.p,.p] ?_;refine .P rfl (bU rfl rfl (az zO))<|.mv rfl rfl<|.nil ?_;refine J.nil (dG ?_);exact⟨⟨pre++[x],rest,by simp[hx]⟩,by simp,(Le.mk (ak:=[(0,_),(2,_)]) rfl (show eO _ _ [(1,_),(12,_),(13,_),(14,_)]from(.s rfl rfl (.s rfl rfl (.s rfl rfl (.s rfl rfl .nil))))) (.cons (i:=0) rfl rfl (.cons (i:=2) rfl rfl .nil))).trans<|(Le.Ta 0 1 2 1 rfl rfl rfl zS rfl).trans<|Le.mk rfl (.s rfl rfl (.s rfl rfl (.s rfl rfl (.cons rfl (Sub.int zS) rfl .nil)))) (.eq rfl zS rfl (.arr rfl zS .nil))⟩
end Go.T
namespace Go.T
open Go
variable[bV] {P:Program} {dst:Option Tmp} {ty:TypeId} {pos:String} {ar:Array Edge} {g:Option (Nat×Bool)} {env:Env}
theorem ahH{t e:TypeId}{sz:Nat}{z:Value}{x:Operand}{ds:List D}(hu:P.underlying t=some (.slice e))(hs:∀w,(sizeOf e).run P w=.ok sz w)(cm:Nat.ble sz 16777216=true)
  (dn:Nat.beq sz 0=false)(hz:∀w,(zeroValue e).run P w=.ok z w)(hx:env.op x=some (.agg ds))(hl:Nat.beq ds.length sz=true)(h1:kZ ds=true)(hp:D.bG.eG ds=true)(U:ae):
  aq P ⟨dst,.buildSlice t 1 #[(0,x)],ty,pos,ar,g⟩ env U (.snap sz true [ds]) U:=by
 have vS:=Nat.eq_of_beq_eq_true hl;refine bI (n:=1) (xs:=[(0,x)]) (c6:=[(0,.agg ds)]) (cs:=ds) (rows:=[ds]) hu hs (by simpa using cm) rfl (by simpa using dn) hz (by simp[Env.oa,hx]) ?_ zS rfl (by simpa using hl) h1 hp U;have hlen:(((List.range (1*sz)).map fun x=>(z.cells.toList[x%z.cells.toList.length]?).getD default).map jZ).length=sz:=by simp
 generalize (((List.range (1*sz)).map fun x=>(z.cells.toList[x%z.cells.toList.length]?).getD default).map jZ)=zs at hlen;have e1:ko zs 0 ds=ds:=by
  have:=Ki ds zs [] zO;simpa using this
 have e2:(Nat.beq (D.agg ds).gd.length sz&&Nat.ble (0*sz+sz) zs.length&&(D.agg ds).kg)=true:=by
  rw[show(D.agg ds).gd=ds from rfl,show(D.agg ds).kg=kZ ds from rfl,hl,h1,hlen];simp
 unfold lB;simp only[e2,cond_true];rw[Nat.zero_mul,show(D.agg ds).gd=ds from rfl,e1];rfl
theorem SE{t e:TypeId}{z:Value}{x:Operand}{d:D}(hu:P.underlying t=some (.slice e))(hs:∀w,(sizeOf e).run P w=.ok 1 w)(hz:∀w,(zeroValue e).run P w=.ok z w)(hx:env.op x=some d)(hc:d.gd=[d])(h1:d.one=true)(hk:d.kg=true)(hp:d.bG=true)(U:ae):
  aq P ⟨dst,.buildSlice t 1 #[(0,x)],ty,pos,ar,g⟩ env U (.snap 1 true [[d]]) U:=by
 refine bI (n:=1) (xs:=[(0,x)]) (c6:=[(0,d)]) (cs:=[d]) (rows:=[[d]]) hu hs rfl rfl rfl hz (by simp[Env.oa,hx]) ?_ rfl rfl rfl (by simp[kZ,h1]) (by simp[D.bG.eG,hp]) U;have hlen:(((List.range (1*1)).map fun x=>(z.cells.toList[x%z.cells.toList.length]?).getD default).map jZ).length=1:=by simp
 generalize (((List.range (1*1)).map fun x=>(z.cells.toList[x%z.cells.toList.length]?).getD default).map jZ)=zs at hlen;obtain⟨a,rfl⟩:=List.length_eq_one_iff.1 hlen;unfold lB;simp[hc,hk,ko,lB];rfl
end Go.T
namespace Go.T
open Go Go.Proofs Go.Proofs.Tryz
set_option maxRecDepth 20000
end Go.T
namespace Go.T
open Go
theorem YG{s:aa}(h:s.head?≠some 48):en s=s:=by
 cases s with
 |nil=>rfl
 |cons c r=>
  have:c≠48:=by simpa using h
  exact tA (by intro⟨_,e⟩;exact this (UInt8.toNat_inj.1 (by simpa using e)))
theorem zE(s:aa):(digits s).1=fu (natVal (digits s).1):=Ed (mM s) (YG (CE s))
theorem Qt(c d:UInt8)(r s:aa):aa.lt (c::r) (d::s)=(decide (c.toNat<d.toNat)||(decide (c=d)&&aa.lt r s)):=by
 show(decide (c<d)||(c==d&&Op.bytesLess r s))=_;have h1:decide (c<d)=decide (c.toNat<d.toNat):=by simp[UInt8.lt_iff_toNat_lt]
 have h2:(c==d)=decide (c=d):=by rw[Bool.eq_iff_iff];simp
 rw[h1,h2];rfl
theorem Jc(c:UInt8)(r:aa):natVal (c::r)=(c.toNat-48)*10^r.length+natVal r:=by
 have e:natVal (c::r)=natVal ([c]++r):=rfl;rw[e,uq];simp[natVal]
theorem IS:∀(a b:aa),a.length=b.length→a.all bN=true→b.all bN=true→(aa.lt a b=true↔natVal a<natVal b)
 |[],[],_,_,_=>by simp[aa.lt,Op.bytesLess,natVal]
 |[],_::_,h,_,_=>by simp at h
 |_::_,[],h,_,_=>by simp at h
 |c::r,d::s,h,ha,hb=>by
  simp only[List.length_cons,Nat.add_right_cancel_iff]at h;simp only[List.all_cons,Bool.and_eq_true]at ha hb;have ih:=IS r s h ha.2 hb.2;have hr:=o8 r ha.2;have hs:=o8 s hb.2;rw[Qt,Jc,Jc,h]at*;have hc:48≤c.toNat:=by have:=ha.1;simp[bN]at this;omega
  have hd:48≤d.toNat:=by have:=hb.1;simp[bN]at this;omega
  simp only[Bool.or_eq_true,Bool.and_eq_true,decide_eq_true_eq];rcases Nat.lt_trichotomy c.toNat d.toNat with g|g|g
  ·have:=Nat.mul_le_mul_right (10^s.length) (show c.toNat-48+1≤d.toNat-48 by omega);rw[Nat.add_mul,Nat.one_mul]at this;constructor
   ·intro _;omega
   ·intro _;exact .inl g
  ·have e:c=d:=UInt8.toNat_inj.1 g;subst e;simp only[Nat.lt_irrefl,false_or,true_and,ih];omega
  ·have:=Nat.mul_le_mul_right (10^s.length) (show d.toNat-48+1≤c.toNat-48 by omega);rw[Nat.add_mul,Nat.one_mul]at this;constructor
   ·rintro(h|h)
    ·omega
    ·have:=h.1;subst this;omega
   ·intro _;omega
theorem Jd{d:aa}(hd:d.all bN=true)(h0:d.head?≠some 48)(hn:d.length≠0):10^(d.length-1)≤natVal d:=by
 cases d with
 |nil=>simp at hn
 |cons c r=>
  rw[Jc];simp only[List.all_cons,Bool.and_eq_true]at hd;have hc:48≤c.toNat:=by have:=hd.1;simp[bN]at this;omega
  have:c.toNat≠48:=fun e=>by simp at h0;exact h0 (UInt8.toNat_inj.1 e)
  have:=Nat.mul_le_mul_right (10^r.length) (show 1≤c.toNat-48 by omega);simp only[List.length_cons,Nat.add_sub_cancel];omega
theorem Rq{a b:aa}(ha:a.all bN=true)(hb:b.all bN=true)(h0:b.head?≠some 48)(h:a.length<b.length):natVal a<natVal b:=by
 have h1:=o8 a ha;have h2:=Jd hb h0 zO;have h3:10^a.length≤10^(b.length-1):=Nat.pow_le_pow_right zO zO;omega
theorem sF(a b:aa):fj a b=fO (val a-val b):=by
 have da:=mM a;have db:=mM b;have ha:=CE a;have hb:=CE b;have na:(digits a).2=true→0<natVal (digits a).1:=fun h=>by
  have:=zF a h;have e:(digits a).1.length≠0:=by intro e;apply this;rw[List.length_eq_zero_iff.1 e,rV];rfl
  exact Nat.lt_of_lt_of_le (Nat.pow_pos zO) (Jd da ha e)
 have nb:(digits b).2=true→0<natVal (digits b).1:=fun h=>by
  have:=zF b h;have e:(digits b).1.length≠0:=by intro e;apply this;rw[List.length_eq_zero_iff.1 e,rV];rfl
  exact Nat.lt_of_lt_of_le (Nat.pow_pos zO) (Jd db hb e)
 have key:(natVal (digits a).1<natVal (digits b).1↔(digits a).1.length<(digits b).1.length∨((digits a).1.length=(digits b).1.length∧aa.lt (digits a).1 (digits b).1=true))∧
   (natVal (digits b).1<natVal (digits a).1↔(digits b).1.length<(digits a).1.length∨((digits a).1.length=(digits b).1.length∧aa.lt (digits b).1 (digits a).1=true)):=by
  rcases Nat.lt_trichotomy (digits a).1.length (digits b).1.length with g|g|g
  ·have:=Rq da db hb g;constructor<;>constructor<;>intro h<;>omega
  ·rw[IS _ _ g da db,IS _ _ g.symm db da];constructor<;>constructor<;>intro h<;>omega
  ·have:=Rq db da ha g;constructor<;>constructor<;>intro h<;>omega
 unfold fj fO val;cases hna:(digits a).2<;>cases cm:(digits b).2<;>simp only[hna,cm]at na nb⊢<;>simp only[ne_eq,not_true,if_false,Bool.false_eq_true,if_true,not_false_iff,reduceCtorEq]<;>(repeat' split)<;>grind
end Go.T
