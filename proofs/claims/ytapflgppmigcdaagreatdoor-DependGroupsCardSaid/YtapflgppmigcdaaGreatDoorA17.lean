/-
  Contracts of the functions that the statement reaches, and the logic in which they are proved (no condition): parts Core58, Core59, W100, W101, W102, W103, W104, W105, W106, W107, W108, Core61, W109, W110, Core62, SpecD20, SpecD21, SpecD22, SpecD23, W111, Core63, W112, Spec18, Spec19, Spec20, Spec21, Law1, Law2.
-/
import Derived.Test.YtapflgppmigcdaaGreatDoorA16
set_option linter.all false
namespace Go.T
open Go Go.Proofs Go.Shelf Go.RowKit Go.Lib Go.Sort
theorem Ar{w:World}{O:Nat→Prop}{b:Nat}:∀(rows:List (List D))(off:Nat),Vr w O b off 1 rows→∀(i:Nat)(d:D),rows[i]?=some [d]→∃u,w.cell? ⟨b,off+i,none⟩=some u∧u.oneCell'=true∧V w O dt d u
 |[],_,_,i,d,h=>by simp at h
 |r::rows,off,hv,0,d,h=>by
  simp only[Vr]at hv;simp only[List.getElem?_cons_zero,Option.some.injEq]at h;subst h;obtain⟨⟨_,h1⟩,_⟩:=hv;simp only[Vc]at h1;obtain⟨⟨u,⟨h2,h3⟩,h4⟩,_⟩:=h1;exact⟨u,h2,h3,h4⟩
 |r::rows,off,hv,i+1,d,h=>by
  simp only[Vr]at hv;have:=Ar rows (off+1) hv.2 i d (by simpa using h);rwa[show off+1+i=off+(i+1) by omega]at this
theorem Hc{w:World}{O:Nat→Prop}{b:Nat}:∀(rows:List (List D))(off:Nat),(∀(i:Nat)(r:List D),rows[i]?=some r→∃d u,r=[d]∧w.cell? ⟨b,off+i,none⟩=some u∧u.oneCell'=true∧V w O dt d u)→Vr w O b off 1 rows
 |[],_,_=>by simp[Vr]
 |r::rows,off,h=>by
  simp only[Vr];obtain⟨d,u,rfl,h1,h2,h3⟩:=h 0 r rfl;refine⟨⟨rfl,?_⟩,Hc rows (off+1) fun i r hr=>?_⟩
  ·simp only[Vc];exact⟨⟨u,⟨by simpa using h1,h2⟩,h3⟩,trivial⟩
  ·have:=h (i+1) r (by simpa using hr);rwa[show off+(i+1)=off+1+i by omega]at this
theorem ag7(c d:UInt8)(r s:aa):aa.lt (c::r) (d::s)=(decide (c.toNat<d.toNat)||(decide (c=d)&&aa.lt r s)):=by
 show(decide (c<d)||(c==d&&Op.bytesLess r s))=_;have h1:decide (c<d)=decide (c.toNat<d.toNat):=by simp[UInt8.lt_iff_toNat_lt]
 have h2:(c==d)=decide (c=d):=by rw[Bool.eq_iff_iff];simp
 rw[h1,h2];rfl
theorem KH:∀a b:aa,aa.lt a b=true↔a<b
 |[],[]=>by simp[aa.lt,Op.bytesLess]
 |[],_::_=>by simp[aa.lt,Op.bytesLess]
 |_::_,[]=>by simp[aa.lt,Op.bytesLess]
 |x::a,y::b=>by
  rw[ag7,List.cons_lt_cons_iff];have ih:=KH a b;simp only[Bool.or_eq_true,Bool.and_eq_true,decide_eq_true_eq,ih];rfl
theorem Zz(a b:aa):(sq a b<0)↔a<b:=by
 unfold sq;by_cases h:aa.lt a b=true
 ·rw[if_pos h];exact⟨fun _=>(KH a b).1 h,fun _=>by decide⟩
 ·rw[if_neg h];constructor
  ·intro h2;split at h2<;>simp at h2
  ·intro h2;exact absurd ((KH a b).2 h2) h
theorem JE{α:Type}[Inhabited α]{enc:α→Value}{w:World}{b_ off m:Nat}{dk:Array α}{os:Array Obj}{b:Nat}(hb:b<w.heap.size)(aD:b≠b_):(sortWorld enc w b_ off m dk os).heap[b]?=w.heap[b]?:=by
 unfold sortWorld putRow mapBlock Sort.grow Sort.ahead;simp only;rw[Array.getElem?_append_left (by simpa using hb),Array.getElem?_modify,if_neg (Ne.symm aD)]
theorem aeo{α:Type}[Inhabited α]{enc:α→Value}{w:World}{b_ off m:Nat}{dk:Array α}{os:Array Obj}{c:Array Value}{T:TypeId}{fr:Nat×Nat}(hb:w.heap[b_]?=some (.cells c T fr)):(sortWorld enc w b_ off m dk os).heap[b_]?=some (.cells (putCells enc off dk c) T fr):=by
 have lA:b_<w.heap.size:=(Array.getElem?_eq_some_iff.1 hb).1;unfold sortWorld putRow mapBlock Sort.grow Sort.ahead;simp only;rw[Array.getElem?_append_left (by simpa using lA),Array.getElem?_modify,if_pos rfl,hb];rfl
theorem Wj{α:Type}[Inhabited α](enc:α→Value)(w:World)(b_ off m:Nat)(dk:Array α)(os:Array Obj):w.heap.size≤(sortWorld enc w b_ off m dk os).heap.size:=by
 unfold sortWorld putRow mapBlock Sort.grow Sort.ahead;simp
theorem alm{P:Program}{f g:Nat}
  (ane:∀{α:Type}[Inhabited α](enc:α→Value)(_:OneCell enc)(cf:α→α→Int)(_:SWO (ltOf cf))(b_ off cap:Nat)(d:Array α)(w:World)(_:CmpLays1 P g #[] enc cf b_ off d.size w)(_:Holds enc w b_ off d)(_:b_<w.heap.size)(_:d.size<4611686018427387904)(_:∀x y,(ltOf cf) x y=false→(ltOf cf) y x=false→x=y),
   Calls P f #[.slice (some ⟨b_,off,none⟩) d.size cap,.func (.func g) #[] #[]] w fun e w'=>e=.returned (.tuple #[])∧∃n os,w'=sortWorld enc w b_ off n (d.toList.mergeSort fun x y=>!(ltOf cf) y x).toArray os)
  (aib:∀(p:Option Addr)(cap:Nat)(fv:Value)(w:World),Calls P f #[.slice p 0 cap,fv] w fun e w'=>e=.returned (.tuple #[])∧w'=w)
  {β:Type}(dD:β→D)(key:β→aa)(id:Nat)(r0:D)(l l2:List β)(hl:l.length<4611686018427387904)(hc:∀x∈l,∀y∈l,@Fc calm P g [dD x,dD y] (.i (sq (key x) (key y))))
  (hk:(l.map key).Nodup)(hp:l2.Perm l)(hs:(l2.map key).Pairwise fun a b=>a≤b):
  dF P f [.oM id 1 l.length,.fn (.func g) [] []] [(id,.arr 1 ([r0]::l.map fun x=>[dD x]))] (.bj []) [(id,.arr 1 ([r0]::l2.map fun x=>[dD x]))]:=⟨fun w O ρ vals aj cK hv=>by
 simp only[Vs,V]at hv;obtain⟨v1,us,rfl,⟨aN,cap,iD,rfl,cJ⟩,v2,xH,rfl,⟨xs,ys,rfl,uQ,y0⟩,rfl⟩:=hv;obtain rfl:xs=#[]:=by rw[←Array.toArray_toList (xs:=xs),uQ]
 obtain rfl:ys=#[]:=by rw[←Array.toArray_toList (xs:=ys),y0]
 have Bl:l2.length=l.length:=hp.length_eq;have eS:ae.get [(id,Ob.arr 1 ([r0]::l.map fun x=>[dD x]))] id=some (.arr 1 ([r0]::l.map fun x=>[dD x])):=by simp[ae.get]
 obtain⟨l',h3,yO,c,T,hb,aY,rr,rC⟩:=aj.own id _ eS rfl;rw[iD]at h3;cases h3;have lA:aN.b<w.heap.size:=(Array.getElem?_eq_some_iff.1 hb).1;have kI:Ot O ρ [(id,Ob.arr 1 ([r0]::l.map fun x=>[dD x]))] aN.b:=.inr ⟨id,_,aN,eS,rfl,iD,rfl⟩;by_cases hn:l.length=0
 ·have e1:l=[]:=List.length_eq_zero_iff.1 hn;have e2:l2=[]:=List.length_eq_zero_iff.1 (Bl.trans hn);subst e1;subst e2;refine Calls.mono (aib (some ⟨aN.b,aN.off+1,none⟩) cap (.func (.func g) #[] #[]) w) ?_;rintro e w' ⟨rfl,rfl⟩;exact⟨_,ρ,rfl,Tr.refl aj,by simp[V,Vs]⟩
 have cells:∀i:Fin l.length,∃u,w.cell? ⟨aN.b,aN.off+1+i.1,none⟩=some u∧u.oneCell'=true∧V w (Ot O ρ [(id,Ob.arr 1 ([r0]::l.map fun x=>[dD x]))]) dt (dD l[i.1]) u:=fun i=>by
  have:=Ar _ _ rC (i.1+1) (dD l[i.1]) zS;rwa[show aN.off+(i.1+1)=aN.off+1+i.1 by omega]at this
 let enc:Fin l.length→Value:=fun i=>Classical.choose (cells i)
 have yD:∀i,w.cell? ⟨aN.b,aN.off+1+i.1,none⟩=some (enc i)∧(enc i).oneCell'=true∧V w (Ot O ρ [(id,Ob.arr 1 ([r0]::l.map fun x=>[dD x]))]) dt (dD l[i.1]) (enc i):=fun i=>Classical.choose_spec (cells i)
 clear_value enc
 haveI:Inhabited (Fin l.length):=⟨⟨0,by omega⟩⟩
 let cf:Fin l.length→Fin l.length→Int:=fun i j=>sq (key l[i.1]) (key l[j.1])
 have bw:∀i j,ltOf cf i j=decide (key l[i.1]<key l[j.1]):=fun i j=>by
  unfold ltOf;rw[decide_eq_decide];exact Zz _ _
 have hd:(Array.ofFn (fun i:Fin l.length=>i)).size=l.length:=Array.size_ofFn ..;have hdj:∀j(h:j<l.length),(Array.ofFn (fun i:Fin l.length=>i))[j]! =⟨j,h⟩:=fun j h=>by
  rw[getElem!_pos _ j (by rw[hd];exact h)];simp
 have Jx:CmpLays1 P g #[] enc cf aN.b (aN.off+1) (Array.ofFn fun i:Fin l.length=>i).size w:=by
  intro m os dk _ x y;have yI:Kept w (Ot O ρ [(id,Ob.arr 1 ([r0]::l.map fun x=>[dD x]))]) (sortWorld enc w aN.b (aN.off+1) m dk os) (fun _=>False):=⟨Wj ..,fun b fZ ho=>⟨fun o e _=>JE fZ (fun e=>ho (e▸kI)),fun h=>h⟩⟩;have:=@Fc.out calm _ _ _ _ (hc _ (List.getElem_mem (h:=x.2)) _ (List.getElem_mem (h:=y.2))) (sortWorld enc w aN.b (aN.off+1) m dk os) (fun _=>False) dt [enc x,enc y] (fun _ h=>h.elim) (Gl.mono yI cK) (by
   simp only[Vs];exact⟨_,_,rfl,V.mono yI (bI.refl _) _ _ (yD x).2.2,_,_,rfl,V.mono yI (bI.refl _) _ _ (yD y).2.2,rfl⟩)
  refine Calls.mono (by simpa using this) ?_;rintro e w' ⟨v,rfl,hv,hk⟩;simp only[D.i,V]at hv;subst hv;exact⟨rfl,adR hk⟩
 have Sb:=ane enc (fun x=>(yD x).2.1) cf
  ⟨fun x=>by rw[bw];simp[List.lt_irrefl],fun x y z h1 h2=>by rw[bw]at*;simp only[decide_eq_true_eq]at*;exact List.lt_trans h1 h2,fun x y z h1 h2=>by
   rw[bw]at*;simp only[decide_eq_false_iff_not,List.not_lt]at*;exact List.le_trans h2 h1⟩
  aN.b (aN.off+1) cap (Array.ofFn fun i:Fin l.length=>i) w
  Jx (by
   intro j hj;rw[hd]at hj;rw[hdj j hj];exact⟨(yD ⟨j,hj⟩).1,by simp[World.frozen?,hb]⟩) lA (by rw[hd];exact hl)
  (fun x y h1 h2=>by
   rw[bw]at h1 h2;simp only[decide_eq_false_iff_not,List.not_lt]at h1 h2;have e:=List.le_antisymm h2 h1;have h3:(l.map key)[x.1]'(by simp)=(l.map key)[y.1]'(by simp):=by simpa using e
   have hp:=List.pairwise_iff_getElem.1 hk;rcases Nat.lt_trichotomy x.1 y.1 with h4|h4|h4
   ·exact absurd h3 (hp _ _ _ _ h4)
   ·exact Fin.ext h4
   ·exact absurd h3.symm (hp _ _ _ _ h4))
 rw[hd]at Sb;refine Calls.mono Sb ?_;rintro e w' ⟨rfl,n,os,rfl⟩;generalize Rt:(Array.ofFn fun i:Fin l.length=>i).toList.mergeSort (fun x y=>!(ltOf cf) y x)=sr;have Rl:sr.Perm (Array.ofFn fun i:Fin l.length=>i).toList:=by rw[←Rt];exact List.mergeSort_perm _ _
 have yU:sr.length=l.length:=by rw[Rl.length_eq];simp
 have dW:((Array.ofFn fun i:Fin l.length=>i).toList.map fun i=>l[i.1])=l:=by
  apply List.ext_getElem
  ·simp
  ·intro i h1 h2;simp
 have J9:sr.Pairwise fun i j=>key l[i.1]≤key l[j.1]:=by
  have Rn:=List.pairwise_mergeSort (le:=fun x y=>!(ltOf cf) y x) (by
   intro a b c h1 h2;rw[bw]at*;simp only[Bool.not_eq_true',decide_eq_false_iff_not,List.not_lt]at*;exact List.le_trans h1 h2) (by
   intro a b;rw[bw,bw];simp only[Bool.or_eq_true,Bool.not_eq_true',decide_eq_false_iff_not,List.not_lt];exact List.le_total _ _) (Array.ofFn fun i:Fin l.length=>i).toList
  rw[Rt]at Rn;refine Rn.imp ?_;intro a b h;rw[bw]at h;simpa only[Bool.not_eq_true',decide_eq_false_iff_not,List.not_lt]using h
 have aey:(sr.map fun i=>l[i.1])=l2:=by
  have Rk:(sr.map fun i=>l[i.1]).Perm l2:=by
   have:=Rl.map fun i:Fin l.length=>l[i.1];rw[dW]at this;exact this.trans hp.symm
  refine List.Perm.eq_of_pairwise (le:=fun x y=>key x≤key y) (fun a b ha fZ h1 h2=>?_) (List.pairwise_map.2 J9) (List.pairwise_map.1 hs) Rk;have e:=List.le_antisymm h1 h2;have wq:a∈l:=hp.mem_iff.1 (Rk.mem_iff.1 ha);have qk:b∈l:=hp.mem_iff.1 fZ;obtain⟨i,hi,rfl⟩:=List.getElem_of_mem wq;obtain⟨j,hj,rfl⟩:=List.getElem_of_mem qk;have h3:(l.map key)[i]'(by simpa using hi)=(l.map key)[j]'(by simpa using hj):=by simpa using e
  have yS:=List.pairwise_iff_getElem.1 hk;rcases Nat.lt_trichotomy i j with h4|h4|h4
  ·exact absurd h3 (yS _ _ _ _ h4)
  ·subst h4;rfl
  ·exact absurd h3.symm (yS _ _ _ _ h4)
 have yF:=aeo (enc:=enc) (off:=aN.off+1) (m:=n) (dk:=sr.toArray) (os:=os) hb;have sY:w.heap.size≤(sortWorld enc w aN.b (aN.off+1) n sr.toArray os).heap.size:=Wj ..;have yR:∀b,b8 ρ [(id,Ob.arr 1 ([r0]::l2.map fun x=>[dD x]))] b→b8 ρ [(id,Ob.arr 1 ([r0]::l.map fun x=>[dD x]))] b:=by
  rintro b ⟨i,o,q,g1,g2,g3,g4⟩;obtain⟨rfl,_⟩:=pv g1;exact⟨_,_,q,eS,rfl,g3,g4⟩
 have yI:Kept w (Ot O ρ [(id,Ob.arr 1 ([r0]::l.map fun x=>[dD x]))]) (sortWorld enc w aN.b (aN.off+1) n sr.toArray os) (Ot O ρ [(id,Ob.arr 1 ([r0]::l2.map fun x=>[dD x]))]):=
  ⟨sY,fun b fZ ho=>⟨fun o e _=>JE fZ (fun e=>ho (e▸kI)),fun g=>ho (g.imp _root_.id (yR b))⟩⟩
 refine⟨_,ρ,rfl,⟨bI.refl _,sY,fun b kG fZ=>?_,fun b kG=>.inl (yR b kG),⟨fun b kG=>Nat.lt_of_lt_of_le (aj.lt b kG) sY,fun i hi=>?_,fun i o g1 g2=>?_,fun i j o o' q q' g1 g2 _ _ _ _ _=>?_⟩,rfl,rfl,.inl ⟨rfl,Nat.le_add_right _ _⟩⟩,by simp[V,Vs]⟩
 ·refine JE kG fun e=>fZ ?_;exact⟨id,_,aN,eS,rfl,iD,e.symm⟩
 ·exact aj.fresh i (I5 hi)
 ·obtain⟨rfl,rfl⟩:=pv g1;refine⟨aN,iD,yO,_,T,yF,by simpa[putCells]using aY,by simpa[Bl]using rr,Hc _ _ fun i r hr=>?_⟩;have Jz:aN.off+l.length<c.size:=by
   simp only[List.length_cons,List.length_map]at rr;omega
  have NO:∀o,(sortWorld enc w aN.b (aN.off+1) n sr.toArray os).cell? ⟨aN.b,o,none⟩=(putCells enc (aN.off+1) sr.toArray c)[o]?:=fun o=>by simp[World.cell?,yF]
  have Y':∀o,w.cell? ⟨aN.b,o,none⟩=c[o]?:=fun o=>by simp[World.cell?,hb]
  cases i with
  |zero=>
   simp only[List.getElem?_cons_zero,Option.some.injEq]at hr;subst hr;obtain⟨u,h1,h2,h3⟩:=Ar _ _ rC 0 r0 rfl;refine⟨r0,u,rfl,?_,h2,V.mono yI (bI.refl _) _ _ h3⟩;rw[NO,←h1,Y'];simp only[putCells,Array.getElem?_mapIdx,Nat.add_zero];have bY:¬(aN.off+1≤aN.off):=by omega
   simp[bY]
  |succ i=>
   simp only[List.getElem?_cons_succ,List.getElem?_map,Option.map_eq_some_iff]at hr;obtain⟨x,hx,rfl⟩:=hr;have hi:i<sr.length:=by
    have:=(List.getElem?_eq_some_iff.1 hx).1;omega
   rw[←aey,List.getElem?_map,List.getElem?_eq_getElem hi]at hx;simp only[Option.map_some,Option.some.injEq]at hx;subst hx;refine⟨_,enc sr[i],rfl,?_,(yD _).2.1,V.mono yI (bI.refl _) _ _ (yD _).2.2⟩;rw[NO];simp only[putCells,Array.getElem?_mapIdx];rw[Array.getElem?_eq_getElem (show aN.off+(i+1)<c.size by omega)];simp only[Option.map_some,Option.some.injEq];rw[if_pos zQ,show aN.off+(i+1)-(aN.off+1)=i by omega,getElem!_pos _ i (by simpa using hi)];simp
 ·exact(pv g1).1.trans (pv g2).1.symm⟩
end Go.T
namespace Go.T
open Go
variable{P:Program} {env:Env} {dst:Option Tmp} {ty:TypeId} {pos:String} {ar:Array Edge} {g:Option (Nat×Bool)}
theorem aj6{U:ae}{t e:TypeId}{x y:Operand}{k:IntKind}{id n m:Nat}{rows:List (List D)}(hu:P.underlying t=some (.slice e))(hs:∀w,(sizeOf e).run P w=.ok 1 w)(hx:env.op x=some (.gs id n))
  (hy:env.op y=some (.raw (.int k 1)))(ho:U.get id=some (.arr 1 rows))(hn:rows.length=n)(hm:n=m+1)(EY:m≠0):
  aq P ⟨dst,.slice t x (some y) none none,ty,pos,ar,g⟩ env U (.oM id 1 m) U:=
 .val fun O ρ a w aj hv=>by
  have h1:=hv x (by simp[Op.operands]) _ hx;have h2:=hv y (by simp[Op.operands]) _ hy;simp only[V]at h1 h2;rcases h1 with⟨h1,_⟩|⟨_,l,h3,e1⟩
  ·omega
  ·have ru:(Ob.arr 1 rows).live=true:=by
    cases rows
    ·simp at hn;omega
    ·rfl
   obtain⟨l',g3,g4,c,T,g5,g6,g7,g8⟩:=aj.own id _ ho ru;rw[h3]at g3;cases g3;have cJ:n≤l.cap:=by omega
   have hb:(Instr.sliceBounds true n l.cap (some (.int k 1)) none none).run P w=.ok (1,n,l.cap) w:=by
    have h1:1≤n:=by omega
    have e1:(1:Int)=((1:Nat):Int):=rfl;rw[e1];simp only[Instr.sliceBounds,Sem.run_bind,Sem.run_pure,Result.andThen_ok,CV,h1]
   refine⟨.slice (some ⟨l.b,l.off+1,none⟩) m (l.cap-1),?_,?_⟩
   ·simp[execOp,Instr.sliceAt,Instr.slice,ca hu,e1,h2,hb,hs,addr_add];omega
   ·simp only[V];exact⟨l,l.cap-1,h3,rfl,by omega⟩
theorem aj7{U:ae}{t e:TypeId}{x y:Operand}{k:IntKind}{id n:Nat}{rows:List (List D)}(hu:P.underlying t=some (.slice e))(hs:∀w,(sizeOf e).run P w=.ok 1 w)(hx:env.op x=some (.gs id n))
  (hy:env.op y=some (.raw (.int k 1)))(ho:U.get id=some (.arr 1 rows))(hn:rows.length=n)(hm:n=1):
  aq P ⟨dst,.slice t x (some y) none none,ty,pos,ar,g⟩ env U (.snap 1 false []) U:=
 .val fun O ρ a w aj hv=>by
  have h1:=hv x (by simp[Op.operands]) _ hx;have h2:=hv y (by simp[Op.operands]) _ hy;simp only[V]at h1 h2;rcases h1 with⟨h1,_⟩|⟨_,l,h3,e1⟩
  ·omega
  ·have ru:(Ob.arr 1 rows).live=true:=by
    cases rows
    ·simp at hn;omega
    ·rfl
   obtain⟨l',g3,g4,c,T,g5,g6,g7,g8⟩:=aj.own id _ ho ru;rw[h3]at g3;cases g3;have cJ:n≤l.cap:=by omega
   have hb:(Instr.sliceBounds true n l.cap (some (.int k 1)) none none).run P w=.ok (1,n,l.cap) w:=by
    have h1:1≤n:=by omega
    have e1:(1:Int)=((1:Nat):Int):=rfl;rw[e1];simp only[Instr.sliceBounds,Sem.run_bind,Sem.run_pure,Result.andThen_ok,CV,h1]
   subst hm;refine⟨.slice (if l.cap=1 then some ⟨l.b,l.off,none⟩else some ⟨l.b,l.off+1,none⟩) 0 (l.cap-1),?_,?_⟩
   ·by_cases hc:l.cap=1
    ·rw[hc]at hb;simp[execOp,Instr.sliceAt,Instr.slice,ca hu,e1,h2,hb,hs,addr_add,hc]
    ·simp[execOp,Instr.sliceAt,Instr.slice,ca hu,e1,h2,hb,hs,addr_add,hc]
   ·simp only[V];exact⟨_,_,rfl,⟨by simp,by simp⟩,by simp,by simp⟩
end Go.T
namespace Go.T
open Go Go.Proofs Go.Proofs.Tryz
set_option maxRecDepth 20000
variable[bX]
theorem QM{l:List aa}(h:l≠[]):(l.map fun s=>[D.str s])[(0:Int).toNat]?=some [.str (l.headD [])]:=by
 cases l with
 |nil=>exact absurd rfl h
 |cons a l=>rfl
theorem Zt(a b:List aa)(ha:a≠[])(hb:b≠[]):Fc Tryz.prog 131 [aL a,aL b] (.i (sq (a.headD []) (b.headD []))):=by
 refine Fc.mk' [4] func131 rfl ntmps131 rfl rfl rfl (fun t w=>results_tmp results131 t _ w) ?_;refine go [] ?_;refine ix zD (QM ha) ?_;refine ix zD (QM hb) ?_;refine oP (ai call132 rfl (Zy _ _)) ?_;refine ord ?_;exact ah rfl (Sub.refl _)
end Go.T
namespace Go.T
open Go Go.Proofs Go.Proofs.Tryz
set_option maxRecDepth 20000
open Go.Shelf Go.RowKit Go.Lib Go.Sort
theorem abv:∀args w,(callFunc 131 args).run Tryz.prog w=.ok (.enter 131 args) w:=enters_of func131 (by kernel_rfl) rfl
theorem alo(id:Nat)(r0:D)(l l2:List (List aa))(hl:l.length<4611686018427387904)(aD:∀x∈l,x≠[])(hk:(l.map (·.headD [])).Nodup)(hp:l2.Perm l)(hs:(l2.map (·.headD [])).Pairwise fun a b=>a≤b):
  dF Tryz.prog 130 [.oM id 1 l.length,.fn (.func 131) [] []] [(id,.arr 1 ([r0]::l.map fun x=>[aL x]))] (.bj []) [(id,.arr 1 ([r0]::l2.map fun x=>[aL x]))]:=
 alm (fun enc h1 cf hO b_ off cap d w hc hH hb aY hT=>Tryz.slices_SortFunc_total enc h1 cf hO 131 #[] b_ off cap d w abv hc hH hb aY hT) (fun p cap fv w=>Tryz.slices_SortFunc_none (α:=Nat) p cap fv w)
  (fun x=>aL x) (·.headD []) id r0 l l2 hl (fun x hx y hy=>@Zt calm x y (aD x hx) (aD y hy)) hk hp hs
theorem aln:Fc Tryz.prog 130 [.snap 1 false [],.fn (.func 131) [] []] (.bj []):=.pU fun w O ρ vals hg hv=>by
 simp only[Vs,V]at hv;obtain⟨_,_,rfl,⟨a,cap,rfl,_⟩,v2,_,rfl,_,rfl⟩:=hv;refine(Tryz.slices_SortFunc_none (α:=Nat) a cap v2 w).mono ?_;rintro e w' ⟨rfl,rfl⟩;exact⟨_,rfl,by simp[V,Vs],.refl _⟩
end Go.T
namespace Go.T
open Go Go.Proofs Go.Proofs.Tryz
set_option maxRecDepth 20000
theorem akY{n:Nat}{seen:List Nat}(hn:seen.Nodup)(bw:∀j∈seen,j<n):seen.length≤n:=by
 have:=List.Nodup.length_le_of_subset hn (l₂:=List.range n) (fun j hj=>List.mem_range.2 (bw j hj));simpa using this
theorem ag_{u:UM}{seen:List Nat}{j:Nat}{kv:aa×aa}(h:u[j]?=some kv)(bw:∀j∈seen,j<u.length):∀i∈seen++[j],i<u.length:=by
 intro i hi;rcases List.mem_append.1 hi with hi|hi
 ·exact bw i hi
 ·simp at hi;subst hi;exact(List.getElem?_eq_some_iff.1 h).1
theorem acV{fm:bp}{u:UM}{ks:List aa}(h:oa fm u ks)(hp:ks.Perm (aI u)){seen:List Nat}(hs:seen.Nodup):(ie fm seen).length≤u.length:=by
 have h1:=List.Nodup.length_le_of_subset (IW h hp hs) (l₂:=aI u) (fun x hx=>by
  obtain⟨l,hl,rfl⟩:=List.mem_map.1 hx;obtain⟨y,hy,h2,rfl⟩:=K5 h hp hl;rw[NY hy h2];exact hy)
 simpa[aI]using h1
structure adO(u:UM)where
 seen:List Nat
 fm:bp
 ks:List aa
 eU:seen.Nodup
 bw:∀j∈seen,j<u.length
 sX:ks=seen.filterMap (uV u)
 kY:oa fm u ks
structure adP(u:UM)(fm:bp)where
 seen:List Nat
 eU:seen.Nodup
theorem adN(u:UM)(hg:lf u)(hn:(aI u).Nodup)(aj:∀k∈aI u,dj k)(j5:u.length≤1000000):dF Tryz.prog 92 [.bR 60] [(60,.mp (bu D.str D.str u))] (sE (iR u)) [(60,.mp (bu D.str D.str u))]:=by
 refine dF.mk' [2] func92 rfl ntmps92 rfl rfl rfl (fun t w=>results_tmp results92 t _ w) ?_;refine J.seq (J.af [.p] ?_);refine .ag rfl rfl<|.nil ?_;refine J.seq (J.af [.w,.p] ?_);refine .W rfl (mF 61 D.str (iB) rfl)<|.ag rfl rfl<|.nil ?_;refine J.seq (J.seq (J.af [.p,.w] ?_));refine .mv rfl rfl<|.W rfl (L5 kp (vD:=D.str) 62 underlying128 rfl rfl rfl)<|.nil ?_;refine J.block ?_;refine J.loop (ι:=adO u) (fun sx=>[(0,.bR 60),(3,.bR 61),(11,.box 62 0)]) (fun sx=>([(62,.mi 60 u.length sx.seen),(60,.mp (bu D.str D.str u)),(61,.mp (bu D.str iB (eR sx.fm))),(99,.arr 1 [])]++cp sx.fm)) (fun sx=>xF u.length sx.seen) ⟨[],bp.empty,[],List.nodup_nil,by simp,rfl,adS u⟩ ?_ ?_
 ·exact(Le.jy 99 1).trans<|Le.mk rfl (.s rfl rfl (.s rfl rfl (.s rfl rfl .nil))) (.cons rfl rfl (.eq rfl (by rfl) (gh _ _) (.eq rfl (by rfl) (zG _ _) (.arr rfl zS (.tail (fun _ _ h=>nomatch (show(none:Option Ob)=some _ from h)))))))
 ·rintro⟨seen,fm,ks,eU,bw,sX,kY⟩;show J _ _ _ _ [(0,.bR 60),(3,.bR 61),(11,.box 62 0)] ([(62,.mi 60 u.length seen),(60,.mp (bu D.str D.str u)),(61,.mp (bu D.str iB (eR fm))),(99,.arr 1 [])]++cp fm);have f_:∀r,(ja fm r).length≤1000000:=fun r=>by
    rw[kY.rows r];have h1:=List.length_filter_le (fun k=>decide (aJ u k=r)) ks;have h2:=afV u seen;have h3:=akY eU bw;rw[sX]at h1⊢;omega
  refine J.seq (J.vl ?_);refine Tx.n rfl trivial (L4 kp (vD:=D.str) rfl rfl rfl) (fun nb cP=>?_);rcases nb with _|⟨nj,nk,nv⟩
  ·dsimp only[rZ,tp,tn];refine Tx.q rfl trivial (eC rfl rfl _) ?_;refine Tx.nil ?_;refine J.seq ?_;refine J.eF rfl rfl ?_;refine J.exit (dO (dG ?_));have oz:ks.Perm (aI u):=by rw[sX];exact af0 hn eU cP
   have hrw:∀(j:Nat)(e:FE),fm.cr[j]?=some e→(∀s∈e.rows,dj s)∧e.rows.length≤1000000:=fun j e he=>by
    rw[EC kY he];exact⟨fun s hs=>aj s (oz.mem_iff.1 (List.mem_filter.1 hs).1),by have h1:=List.length_filter_le (fun k=>decide (aJ u k=e.key)) ks;have h2:=oz.length_eq;simp only[aI,List.length_map]at h2;omega⟩
   have cK:∀sn:List Nat,sn.Nodup→(ie fm sn).length≤1000000:=fun sn hsn=>Nat.le_trans (acV kY oz hsn) j5;refine J.seq (J.af [.w,.p] ?_);refine .W rfl (Gh (n:=1) (rows:=[[.raw (.slice none 0 0)]]) 64 underlying43 sizeOf48 rfl rfl rfl zeroValue48 rfl rfl rfl rfl rfl rfl rfl (yg (own:=[(62,_),(60,_),(61,_),(99,_)]) rfl rfl))<|.ag rfl rfl<|.nil ?_;refine J.seq (J.seq (J.af [.p,.w] ?_));refine .mv rfl rfl<|.W rfl (L5 kp (vD:=iB) 63 underlying129 rfl rfl (yg (own:=[(64,_),(62,_),(60,_),(61,_),(99,_)]) rfl rfl))<|.nil ?_;refine J.block ?_;refine J.loop (ι:=adP u fm) (fun sx=>[(0,.bR 60),(6,.gs 64 (1+(ie fm sx.seen).length)),(29,.box 63 0)]) (fun sx=>([(63,.mi 61 (eR fm).length sx.seen),(60,.mp (bu D.str D.str u)),(61,.mp (bu D.str iB (eR fm))),(64,.arr 1 ([.raw (.slice none 0 0)]::(ie fm sx.seen).map fun x=>[aL x])),(99,.arr 1 [])]++cp (kM fm sx.seen))) (fun sx=>xF (eR fm).length sx.seen) ⟨[],List.nodup_nil⟩ ?_ ?_
   ·exact Le.mk rfl (.s rfl rfl (.cons rfl (Sub.gs (by simp[ie])) rfl (.s rfl rfl .nil))) (.cons rfl rfl (.eq rfl (by rfl) (gh _ _) (.eq rfl (by rfl) (xe _ _) (.arr rfl (by simp[ie]) (.arr rfl zS (.tail (wi (own:=[(63,_),(64,_),(62,_),(60,_),(61,_),(99,_)]) (jx:=[(63,_),(60,_),(61,_),(64,_),(99,_)]) _ rfl)))))))
   ·rintro⟨seen,eU⟩;show J _ _ _ _ [(0,.bR 60),(6,.gs 64 (1+(ie fm seen).length)),(29,.box 63 0)] ([(63,.mi 61 (eR fm).length seen),(60,.mp (bu D.str D.str u)),(61,.mp (bu D.str iB (eR fm))),(64,.arr 1 ([.raw (.slice none 0 0)]::(ie fm seen).map fun x=>[aL x])),(99,.arr 1 [])]++cp (kM fm seen));refine J.seq (J.vl ?_);refine Tx.n rfl trivial (L4 kp (vD:=iB) rfl rfl rfl) (fun nb cP=>?_);rcases nb with _|⟨nj,nk,nv⟩
    ·dsimp only[rZ,tp,tn];refine Tx.q rfl trivial (eC rfl rfl _) ?_;refine Tx.nil ?_;refine J.seq ?_;refine J.eF rfl rfl ?_;refine J.exit (dO (dG ?_));have JJ:=acY kY oz hn eU cP;by_cases hz:(ie fm seen).length=0
     ·have qu:ie fm seen=[]:=List.length_eq_zero_iff.1 hz;have Kl:iR u=[]:=List.length_eq_zero_iff.1 (JJ.length_eq.trans hz);refine J.seq (J.af [.p,.r,.p] ?_);refine .mv rfl rfl<|.R rfl (aj7 (id:=64) underlying43 sizeOf48 rfl rfl rfl zQ zO)<|.P rfl (ai call130 rfl aln)<|.nil ?_;refine J.seq (J.af [.p,.p] ?_);refine .mv rfl rfl<|.ag rfl rfl<|.nil ?_;refine J.bE (Le.freeze 2 64 rfl rfl zQ) ?_;refine J.ret (?_);exact vm rfl (Sub.snap (by rw[qu,Kl])) (.eq rfl (by rfl) (gh _ _) .nil)
     ·refine J.seq (J.af [.p,.r,.w] ?_);refine .mv rfl rfl<|.R rfl (aj6 (id:=64) (m:=(ie fm seen).length) underlying43 sizeOf48 rfl rfl rfl zQ zO hz)<|.W rfl (CC (own:=[(63,_),(60,_),(61,_),(64,_),(99,_)]) call130 rfl (alo 64 (.raw (.slice none 0 0)) (ie fm seen) (iR u) (by have:=cK seen eU;omega) (acX kY oz) (IW kY oz eU) JJ (Qk u)) rfl rfl (.cons rfl rfl .nil) rfl rfl)<|.nil ?_;refine J.seq (J.af [.p,.p] ?_);refine .mv rfl rfl<|.ag rfl rfl<|.nil ?_;refine J.bE (Le.freeze 2 64 rfl rfl (by have:=JJ.length_eq;simp;omega)) ?_;refine J.ret (?_);exact vm rfl (Sub.refl _) (.eq rfl (by rfl) (gh _ _) .nil)
    ·dsimp only[rZ,tp,tn];refine Tx.q rfl trivial (eC rfl rfl _) ?_;refine Tx.nil ?_;refine J.seq ?_;refine J.gu rfl rfl ?_;refine J.skip ?_;refine J.block ?_;obtain⟨e,he,rfl,rfl⟩:=Pn (And.left cP);have mf:(kM fm seen).cr[nj]?=some e:=(Se _ _ _ (And.right cP)).trans he;have wK:e.ob=.arr 1 (cM e.rows):=by unfold FE.ob;rw[if_pos (kY.live e (List.mem_of_getElem? he))]
     have QP:=hrw nj e he;refine J.seq (J.af [.r,.p,.p] ?_);refine .R rfl (LZ kp (vD:=iB) rfl rfl rfl (And.left cP))<|.P rfl (eC rfl rfl)<|.ag rfl rfl<|.nil ?_;refine J.seq (J.af [.p,.w] ?_);refine .mv rfl rfl<|.W rfl (ajC (own:=[(63,_),(60,_),(61,_),(64,_),(99,_)]) (f:=kM fm seen) (e:=e) (List.mem_of_getElem? mf) rfl call63 rfl (by rw[wK];exact Mv e.id e.rows QP.1 (by have:=QP.2;omega)) (by simp[D.okB.fg,D.okB,ae.has,ae.bf]))<|.nil ?_;refine J.bE (Le.freeze 8 e.id rfl adb (by simp[(nA e.rows).length_eq])) ?_;refine J.bE (Le.mk (aQ:=[(0,_),(6,_),(8,_),(29,_)]) (am:=[(63,_),(60,_),(61,_),(64,_),(99,_)]++cp ((kM fm seen).kill nj)) rfl (show dE _ _ [(0,_),(6,_),(8,_),(29,_)]from(.s rfl rfl (.s rfl rfl (.s rfl rfl (.s rfl rfl .nil))))) (.cons (AU (own:=[(63,_),(60,_),(61,_),(64,_),(99,_)]) 63 mf rfl rfl) rfl (.cons (AU (own:=[(63,_),(60,_),(61,_),(64,_),(99,_)]) 60 mf rfl rfl) (gh _ _) (.cons (AU (own:=[(63,_),(60,_),(61,_),(64,_),(99,_)]) 61 mf rfl rfl) (by rw[←Fg];exact xe _ (seen++[nj])) (.cons (AU (own:=[(63,_),(60,_),(61,_),(64,_),(99,_)]) 64 mf rfl rfl) rfl (.cons (AU (own:=[(63,_),(60,_),(61,_),(64,_),(99,_)]) 99 mf rfl rfl) rfl (.tail (aci (own:=[(63,_),(60,_),(61,_),(64,_),(99,_)]) rfl mf)))))))) ?_;rw[←Fg];refine J.af [.p,.p,.p,.w,.p] ?_
     refine .mv rfl rfl<|.mv rfl rfl<|.P rfl (bK (n:=1) (rows:=[[aL (fx e.rows)]]) underlying43 sizeOf48 rfl rfl rfl zeroValue48 rfl rfl rfl rfl rfl rfl rfl)<|.W rfl (fq 65 underlying43 underlying43 sizeOf48 typeInfo48 zeroValue48 rfl (bt:=24) rfl rfl rfl rfl zQ rfl (yg (own:=[(63,_),(60,_),(61,_),(64,_),(99,_)]) rfl rfl) (by have:=cK seen eU;simp;omega))<|.ag rfl rfl<|.nil ?_;refine J.nil (cn ?_);refine J.nil (cZ ?_);exact⟨⟨seen++[nj],GD eU (And.right cP)⟩,by exact GO ((List.getElem?_eq_some_iff.1 (And.left cP)).1) (And.right cP),(Le.mk (am:=[(63,_),(60,_),(61,_),(65,_),(99,_)]++cp (kM fm (seen++[nj]))) rfl (show dE _ _ [(0,_),(6,_),(29,_)]from(.s rfl rfl (.s rfl rfl (.s rfl rfl .nil)))) (.cons (i:=63) rfl rfl (.cons (i:=60) rfl (gh _ _) (.cons (i:=61) rfl (xe _ _) (.cons (i:=65) rfl rfl (.cons (i:=99) rfl rfl (.tail (wi (own:=[(65,_),(63,_),(60,_),(61,_),(64,_),(99,_)]) (jx:=[(63,_),(60,_),(61,_),(65,_),(99,_)]) _ rfl)))))))).trans<|(Le.kO 6 65 64 rfl rfl zQ (yg (own:=[(63,_),(60,_),(61,_),(65,_),(99,_)]) rfl rfl)).trans<|Le.mk rfl (.s rfl rfl (.cons rfl (Sub.gs (by rw[P1 he];simp;omega)) rfl (.s rfl rfl .nil))) (.cons rfl rfl (.eq rfl (by rfl) (gh _ _) (.eq rfl (by rfl) (xe _ _) (.arr rfl (by rw[P1 he];simp) (.arr rfl zS (.tail (wi (own:=[(64,_),(63,_),(60,_),(61,_),(65,_),(99,_)]) (jx:=[(63,_),(60,_),(61,_),(64,_),(99,_)]) _ rfl)))))))⟩
  ·dsimp only[rZ,tp,tn];refine Tx.q rfl trivial (eC rfl rfl _) ?_;refine Tx.nil ?_;refine J.seq ?_;refine J.gu rfl rfl ?_;refine J.skip ?_;refine J.block ?_;refine J.seq (J.af [.r,.p,.p] ?_);refine .R rfl (LZ kp (vD:=D.str) rfl rfl rfl (And.left cP))<|.P rfl (eC rfl rfl)<|.ag rfl rfl<|.nil ?_;refine J.seq (J.af [.p,.p,.w,.p] ?_);refine .mv rfl rfl<|.mv rfl rfl<|.W rfl (CC (own:=[(62,_),(60,_),(61,_),(99,_)]) call129 rfl (Mg u hg nk (afW (And.left cP))) rfl rfl (.cons rfl (gh _ _) .nil) rfl rfl)<|.ag rfl rfl<|.nil ?_;refine J.af [.p,.p,.p,.p,.r,.p,.p,.w,.w] ?_;refine .mv rfl rfl<|.mv rfl rfl<|.mv rfl rfl<|.mv rfl rfl<|.R rfl (Vu kp (f:=fm) (k:=aJ u nk) underlying129 zeroValue48 rfl rfl rfl rfl)<|.mv rfl rfl<|.P rfl (bK (n:=1) (rows:=[[.str nk]]) underlying48 sizeOf9 rfl rfl rfl zeroValue9 rfl rfl rfl rfl rfl rfl rfl)<|.W rfl (Vi (own:=[(60,_),(62,_),(61,_),(99,_)]) (f:=fm) (k:=aJ u nk) (new:=[nk]) (bt:=16) underlying48 underlying48 sizeOf9 typeInfo9 zeroValue9 rfl rfl rfl rfl rfl kY.live rfl rfl (by have:=f_ (aJ u nk);simp only[List.length_singleton];omega))<|.W rfl (eD kp (vD:=iB) (m:=eR fm) (k:=aJ u nk) (v:=(fm.next,(ja fm (aJ u nk)).length+[nk].length)) underlying129 rfl rfl rfl rfl rfl ((Iw (own:=[(60,_),(62,_),(61,_),(99,_)]) zD).trans (Cr (own:=[(60,_),(62,_),(61,_),(99,_)]) rfl)))<|.nil ?_;refine J.nil (cn ?_);refine J.nil (cZ ?_)
   exact⟨⟨seen++[nj],fm.add (aJ u nk) [nk],ks++[nk],GD eU (And.right cP),ag_ (And.left cP) bw,by rw[sX,afX (And.left cP)],kY.add nk⟩,by exact GO ((List.getElem?_eq_some_iff.1 (And.left cP)).1) (And.right cP),(Le.jy 99 1).trans<|Le.mk rfl (.s rfl rfl (.s rfl rfl (.s rfl rfl .nil))) (.eq (Ix (own:=[(60,_),(62,_),(61,_),(99,_)]) 62 rfl rfl rfl) rfl rfl (.eq (Ix (own:=[(60,_),(62,_),(61,_),(99,_)]) 60 rfl rfl rfl) rfl (gh _ _) (.eq Pj (by rw[←Pm]) (zG _ _) (.cons rfl rfl (.tail (Pp (own:=[(60,_),(62,_),(61,_),(99,_)]) zD rfl))))))⟩
theorem aa1(s:Setup)(l:List Fact)(yG:s.insts.length≤1000)(uJ:∀x∈s.insts,dj x.id)(yL:l.length≤500)(j1:∀f∈l,f.opts.length≤1000∧∀s∈eV f,dj s):Fc Tryz.prog 45 [.agg (fC s),cN l] (sE (lu (i_ s l))):=
 aa5 s l yG uJ yL j1 fun u hg hn aj j5=>adN u hg hn aj j5
structure ae6(l:List Fact)(P:Fact→Bool)where
 pre:List Fact
 rest:List Fact
 hx:l=pre++rest
 hp:pre.any P=false
theorem ae5(l:List Fact)(f:FuncId)(bC:List D)(cJ:D.bz.ec bC=true)(P:Fact→Bool)(fc:∀(args:Array Value)(w:World),(callFunc f args).run Tryz.prog w=.ok (.enter f args) w)(hP:∀x∈l,Fc Tryz.prog f (.agg (aX x)::bC) (.b (P x))):Fc Tryz.prog 67 [cN l,.fn (.func f) [] bC] (.i (jq P l)):=by
 refine Fc.mk' [4] func67 rfl ntmps67 rfl (by simp[D.bz,D.bz.ec,cJ]) rfl (fun t w=>results_tmp results67 t _ w) ?_;refine J.eu 0 rfl (fun hb=>?_);simp only[List.length_map,aG]at hb;refine go [] ?_;refine J.loop (ι:=ae6 l P) (fun sx=>[(0,cN l),(1,.fn (.func f) [] bC),(6,cN l),(7,.i l.length),(8,.i sx.pre.length)]) (fun sx=>[]) (fun sx=>sx.rest.length) ⟨[],l,rfl,rfl⟩ ?_ ?_
 ·exact Le.mk rfl (.s rfl rfl (.cons rfl (Sub.refl _) (pV cJ) (.s rfl rfl (.cons rfl (Sub.int zS) rfl (.s rfl rfl .nil))))) .nil
 ·rintro⟨pre,rest,hx,hp⟩;show J _ _ _ _ [(0,cN l),(1,.fn (.func f) [] bC),(6,cN l),(7,.i l.length),(8,.i pre.length)] [];have hl:=congrArg List.length hx;simp only[List.length_append]at hl;rcases rest with _|⟨x,rest⟩
  ·skip;refine go [] ?_;refine a_ (by simp at hl⊢;omega) ?_;refine go [] ?_;exact ah rfl (Sub.int (by exact sM hx hp))
  ·simp only[List.length_cons]at hl;refine go [] ?_;refine bk zQ ?_;refine ix zO (aS aX hx rfl) ?_;refine oP (ek fc rfl rfl (hP x (by rw[hx];simp))) ?_;refine br (fun h1=>?_) (fun h1=>?_)
   ·exact ah rfl (Sub.int (by exact sN hx hp h1))
   ·refine sd (aw zO) ?_;exact nx ⟨pre++[x],rest,by simp[hx],iZ hp h1⟩ zS (Le.mk rfl (.s rfl rfl (.cons rfl (Sub.refl _) (pV cJ) (.s rfl rfl (.s rfl rfl (.cons rfl (Sub.int zS) rfl .nil))))) .nil)
theorem N6(l:List Fact)(f:FuncId)(bC:List D)(cJ:D.bz.ec bC=true)(P:Fact→Bool)(fc:∀(args:Array Value)(w:World),(callFunc f args).run Tryz.prog w=.ok (.enter f args) w)(hP:∀x∈l,Fc Tryz.prog f (.agg (aX x)::bC) (.b (P x))):Fc Tryz.prog 42 [cN l,.fn (.func f) [] bC] (.b (l.any P)):=by
 refine Fc.mk' [4] func42 rfl ntmps42 rfl (by simp[D.bz,D.bz.ec,cJ]) rfl (fun t w=>results_tmp results42 t _ w) ?_;refine go [] ?_;refine oP (ai call67 rfl (ae5 l f bC cJ P fc hP)) ?_;exact ah rfl (Sub.bool (by exact ux P l))
structure afe(l:List aa)(P:aa→Bool)where
 pre:List aa
 rest:List aa
 hx:l=pre++rest
 hp:pre.any P=false
theorem afd(l:List aa)(f:FuncId)(bC:List D)(cJ:D.bz.ec bC=true)(P:aa→Bool)(fc:∀(args:Array Value)(w:World),(callFunc f args).run Tryz.prog w=.ok (.enter f args) w)(hP:∀x∈l,Fc Tryz.prog f (.str x::bC) (.b (P x))):Fc Tryz.prog 46 [aL l,.fn (.func f) [] bC] (.i (jq P l)):=by
 refine Fc.mk' [4] func46 rfl ntmps46 rfl (by simp[D.bz,D.bz.ec,cJ]) rfl (fun t w=>results_tmp results46 t _ w) ?_;refine J.eu 0 rfl (fun hb=>?_);simp only[List.length_map,aG]at hb;refine go [] ?_;refine J.loop (ι:=afe l P) (fun sx=>[(0,aL l),(1,.fn (.func f) [] bC),(6,aL l),(7,.i l.length),(8,.i sx.pre.length)]) (fun sx=>[]) (fun sx=>sx.rest.length) ⟨[],l,rfl,rfl⟩ ?_ ?_
 ·exact Le.mk rfl (.s rfl rfl (.cons rfl (Sub.refl _) (pV cJ) (.s rfl rfl (.cons rfl (Sub.int zS) rfl (.s rfl rfl .nil))))) .nil
 ·rintro⟨pre,rest,hx,hp⟩;show J _ _ _ _ [(0,aL l),(1,.fn (.func f) [] bC),(6,aL l),(7,.i l.length),(8,.i pre.length)] [];have hl:=congrArg List.length hx;simp only[List.length_append]at hl;rcases rest with _|⟨x,rest⟩
  ·skip;refine go [] ?_;refine a_ (by simp at hl⊢;omega) ?_;refine go [] ?_;exact ah rfl (Sub.int (by exact sM hx hp))
  ·simp only[List.length_cons]at hl;refine go [] ?_;refine bk zQ ?_;refine ix zO (aS (fun s=>[D.str s]) hx rfl) ?_;refine oP (ek fc rfl rfl (hP x (by rw[hx];simp))) ?_;refine br (fun h1=>?_) (fun h1=>?_)
   ·exact ah rfl (Sub.int (by exact sN hx hp h1))
   ·refine sd (aw zO) ?_;exact nx ⟨pre++[x],rest,by simp[hx],iZ hp h1⟩ zS (Le.mk rfl (.s rfl rfl (.cons rfl (Sub.refl _) (pV cJ) (.s rfl rfl (.s rfl rfl (.cons rfl (Sub.int zS) rfl .nil))))) .nil)
theorem ZN(l:List aa)(f:FuncId)(bC:List D)(cJ:D.bz.ec bC=true)(P:aa→Bool)(fc:∀(args:Array Value)(w:World),(callFunc f args).run Tryz.prog w=.ok (.enter f args) w)(hP:∀x∈l,Fc Tryz.prog f (.str x::bC) (.b (P x))):Fc Tryz.prog 13 [aL l,.fn (.func f) [] bC] (.b (l.any P)):=by
 refine Fc.mk' [4] func13 rfl ntmps13 rfl (by simp[D.bz,D.bz.ec,cJ]) rfl (fun t w=>results_tmp results13 t _ w) ?_;refine go [] ?_;refine oP (ai call46 rfl (afd l f bC cJ P fc hP)) ?_;exact ah rfl (Sub.bool (by exact ux P l))
def iX(s:Setup)(l:List Fact):Bool:=!decide (kU s.insts s.oo=0)||l.any (fun f=>decide (gJ f≠0))
theorem adK(s:Setup)(l:List Fact)(hs:∀x∈s.insts,p8 x)(hf:∀f∈l,nJ f)(yG:s.insts.length≤1000)(uJ:∀x∈s.insts,dj x.id)(yL:l.length≤500)(j1:∀f∈l,f.opts.length≤1000∧∀s∈eV f,dj s)(hb:iX s l=false):Fc Tryz.prog 10 [.agg (fC s),cN l] (.bj [sE (lu (i_ s l)),.i 0]):=by
 refine Fc.mk' [4,5] func10 rfl ntmps10 rfl rfl rfl (fun t w=>results_tmp2 results10 t _ w) ?_;refine go [1] ?_;refine J.bE (Le.fY 2 0 rfl rfl rfl rfl) ?_;refine go [] ?_;refine oP (ai call41 rfl (VV s hs)) ?_;refine gP (fun hg=>ai call42 rfl (N6 l _ [] rfl (fun f=>decide (gJ f≠0)) call43 (fun f Bg=>Nw f (hf f Bg)))) ?_;refine a_ (by exact hb) ?_;refine oP (ai call45 rfl (aa1 s l yG uJ yL j1)) ?_;exact fu rfl rfl (Sub.refl _) (Sub.refl _)
theorem adJ(s:Setup)(l:List Fact)(hs:∀x∈s.insts,p8 x)(hf:∀f∈l,nJ f)(yG:s.insts.length≤1000)(uJ:∀x∈s.insts,dj x.id)(yL:l.length≤500)(j1:∀f∈l,f.opts.length≤1000∧∀s∈eV f,dj s)(hb:iX s l=true):Fc Tryz.prog 10 [.agg (fC s),cN l] (.bj [.raw (.slice none 0 0),.i 1]):=by
 refine Fc.mk' [4,5] func10 rfl ntmps10 rfl rfl rfl (fun t w=>results_tmp2 results10 t _ w) ?_;refine go [1] ?_;refine J.bE (Le.fY 2 0 rfl rfl rfl rfl) ?_;refine go [] ?_;refine oP (ai call41 rfl (VV s hs)) ?_;refine gP (fun hg=>ai call42 rfl (N6 l _ [] rfl (fun f=>decide (gJ f≠0)) call43 (fun f Bg=>Nw f (hf f Bg)))) ?_;refine bk (by exact hb) ?_;exact fu rfl rfl (by exact Sub.refl _) (Sub.refl _)
structure afg(l:List aa)(n:aa)where
 pre:List aa
 rest:List aa
 hx:l=pre++rest
 hp:pre.any (fun m=>decide (n=m))=false
theorem aff(l:List aa)(n:aa):Fc Tryz.prog 47 [aL l,.str n] (.i (jq (fun m=>decide (n=m)) l)):=by
 refine Fc.mk' [4] func47 rfl ntmps47 rfl rfl rfl (fun t w=>results_tmp results47 t _ w) ?_;refine J.eu 0 rfl (fun hb=>?_);simp only[List.length_map,aG]at hb;refine go [] ?_;refine J.loop (ι:=afg l n) (fun sx=>[(0,aL l),(1,.str n),(6,aL l),(7,.i l.length),(8,.i sx.pre.length)]) (fun sx=>[]) (fun sx=>sx.rest.length) ⟨[],l,rfl,rfl⟩ ?_ ?_
 ·exact Le.mk rfl (.s rfl rfl (.s rfl rfl (.s rfl rfl (.cons rfl (Sub.int zS) rfl (.s rfl rfl .nil))))) .nil
 ·rintro⟨pre,rest,hx,hp⟩;show J _ _ _ _ [(0,aL l),(1,.str n),(6,aL l),(7,.i l.length),(8,.i pre.length)] [];have hl:=congrArg List.length hx;simp only[List.length_append]at hl;rcases rest with _|⟨x,rest⟩
  ·skip;refine go [] ?_;refine a_ (by simp at hl⊢;omega) ?_;refine go [] ?_;exact ah rfl (Sub.int (by exact sM hx hp))
  ·simp only[List.length_cons]at hl;refine go [] ?_;refine bk zQ ?_;refine ix zO (aS (fun s:aa=>[D.str s]) hx rfl) ?_;refine br (fun h1=>?_) (fun h1=>?_)
   ·exact ah rfl (Sub.int (by exact sN hx hp h1))
   ·refine sd (aw zO) ?_;exact nx ⟨pre++[x],rest,by simp[hx],iZ hp h1⟩ zS (Le.mk rfl (.s rfl rfl (.s rfl rfl (.s rfl rfl (.s rfl rfl (.cons rfl (Sub.int zS) rfl .nil))))) .nil)
theorem ad_(l:List aa)(n:aa):Fc Tryz.prog 15 [aL l,.str n] (.b (l.any (fun m=>decide (n=m)))):=by
 refine Fc.mk' [4] func15 rfl ntmps15 rfl rfl rfl (fun t w=>results_tmp results15 t _ w) ?_;refine go [] ?_;refine oP (ai call47 rfl (aff _ _)) ?_;exact ah rfl (Sub.bool (by exact ux _ l))
theorem alC{x y:aa}(h:decide (x≠y)=false):x=y:=by simpa using h
theorem alD{x y:aa}(h:decide (x≠y)=true):x≠y:=by simpa using h
structure abM(a b:List aa)where
 pre:List aa
 rest:List aa
 au:List aa
 aC:List aa
 hx:a=pre++rest
 hy:b=au++aC
 hp:pre=au
 mZ:au.length=pre.length
 j3:aC.length=rest.length
theorem abL(a b:List aa):Fc Tryz.prog 19 [aL a,aL b] (.b (jE a b)):=by
 refine Fc.mk' [4] func19 rfl ntmps19 rfl rfl rfl (fun t w=>results_tmp results19 t _ w) ?_;refine J.eu 0 rfl (fun hb=>?_);simp only[List.length_map,aG]at hb;refine J.eu 1 rfl (fun fZ=>?_);simp only[List.length_map,aG]at fZ;refine go [] ?_;refine br (fun h1=>?_) (fun h1=>?_)
 ·exact ah rfl (Sub.bool (by exact D6 (by have h9:=h1;simp at h9;omega)))
 ·refine J.loop (ι:=abM a b) (fun sx=>[(0,aL a),(1,aL b),(12,.i a.length),(13,.i sx.pre.length)]) (fun sx=>[]) (fun sx=>sx.rest.length) ⟨[],a,[],b,rfl,rfl,rfl,rfl,by simp at h1;omega⟩ ?_ ?_
  ·exact Le.mk rfl (.s rfl rfl (.s rfl rfl (.cons rfl (Sub.int zS) rfl (.s rfl rfl .nil)))) .nil
  ·rintro⟨pre,rest,au,aC,hx,hy,hp,mZ,j3⟩;show J _ _ _ _ [(0,aL a),(1,aL b),(12,.i a.length),(13,.i pre.length)] [];have hl:=congrArg List.length hx;simp only[List.length_append]at hl;rcases rest with _|⟨x,rest⟩
   ·obtain rfl:aC=[]:=List.length_eq_zero_iff.1 (by simpa using j3);refine go [] ?_;refine a_ (by simp at hl⊢;omega) ?_;refine go [] ?_;exact ah rfl (Sub.bool (by exact D5 hx hy hp))
   ·simp only[List.length_cons]at hl;obtain⟨y,aC,rfl⟩:=DK (n:=rest.length) (by simpa using j3);refine go [] ?_;refine bk zQ ?_;refine ix zO (aS (fun s:aa=>[D.str s]) hx rfl) ?_;refine ix zO (aS (fun s:aa=>[D.str s]) hy zO) ?_;refine ord ?_;refine br (fun h2=>?_) (fun h2=>?_)
    ·exact ah rfl (Sub.bool (by exact D7 hx hy mZ (alD h2)))
    ·refine sd (aw zO) ?_;exact nx ⟨pre++[x],rest,au++[y],aC,by simp[hx],by simp[hy],by rw[hp,alC h2],by simp[mZ],by simpa using j3⟩ zS (Le.mk rfl (.s rfl rfl (.s rfl rfl (.s rfl rfl (.cons rfl (Sub.int zS) rfl .nil)))) .nil)
structure ae7(l:List (List aa))(P:(List aa)→Bool)where
 pre:List (List aa)
 rest:List (List aa)
 hx:l=pre++rest
 hp:pre.any P=false
theorem RJ(l:List (List aa))(f:FuncId)(bC:List D)(cJ:D.bz.ec bC=true)(P:(List aa)→Bool)(fc:∀(args:Array Value)(w:World),(callFunc f args).run Tryz.prog w=.ok (.enter f args) w)(hP:∀x∈l,Fc Tryz.prog f (aL x::bC) (.b (P x))):Fc Tryz.prog 48 [.snap 1 false (l.map fun v=>[aL v]),.fn (.func f) [] bC] (.i (jq P l)):=by
 refine Fc.mk' [4] func48 rfl ntmps48 rfl (by simp[D.bz,D.bz.ec,cJ]) rfl (fun t w=>results_tmp results48 t _ w) ?_;refine J.eu 0 rfl (fun hb=>?_);simp only[List.length_map,aG]at hb;refine go [] ?_;refine J.loop (ι:=ae7 l P) (fun sx=>[(0,.snap 1 false (l.map fun v=>[aL v])),(1,.fn (.func f) [] bC),(6,.snap 1 false (l.map fun v=>[aL v])),(7,.i l.length),(8,.i sx.pre.length)]) (fun sx=>[]) (fun sx=>sx.rest.length) ⟨[],l,rfl,rfl⟩ ?_ ?_
 ·exact Le.mk rfl (.s rfl rfl (.cons rfl (Sub.refl _) (pV cJ) (.s rfl rfl (.cons rfl (Sub.int zS) rfl (.s rfl rfl .nil))))) .nil
 ·rintro⟨pre,rest,hx,hp⟩;show J _ _ _ _ [(0,.snap 1 false (l.map fun v=>[aL v])),(1,.fn (.func f) [] bC),(6,.snap 1 false (l.map fun v=>[aL v])),(7,.i l.length),(8,.i pre.length)] [];have hl:=congrArg List.length hx;simp only[List.length_append]at hl;rcases rest with _|⟨x,rest⟩
  ·skip;refine go [] ?_;refine a_ (by simp at hl⊢;omega) ?_;refine go [] ?_;exact ah rfl (Sub.int (by exact sM hx hp))
  ·simp only[List.length_cons]at hl;refine go [] ?_;refine bk zQ ?_;refine ix zO (aS (fun v=>[aL v]) hx rfl) ?_;refine oP (ek fc rfl rfl (hP x (by rw[hx];simp))) ?_;refine br (fun h1=>?_) (fun h1=>?_)
   ·exact ah rfl (Sub.int (by exact sN hx hp h1))
   ·refine sd (aw zO) ?_;exact nx ⟨pre++[x],rest,by simp[hx],iZ hp h1⟩ zS (Le.mk rfl (.s rfl rfl (.cons rfl (Sub.refl _) (pV cJ) (.s rfl rfl (.s rfl rfl (.cons rfl (Sub.int zS) rfl .nil))))) .nil)
theorem ZL(l:List (List aa))(f:FuncId)(bC:List D)(cJ:D.bz.ec bC=true)(P:(List aa)→Bool)(fc:∀(args:Array Value)(w:World),(callFunc f args).run Tryz.prog w=.ok (.enter f args) w)(hP:∀x∈l,Fc Tryz.prog f (aL x::bC) (.b (P x))):Fc Tryz.prog 16 [.snap 1 false (l.map fun v=>[aL v]),.fn (.func f) [] bC] (.b (l.any P)):=by
 refine Fc.mk' [4] func16 rfl ntmps16 rfl (by simp[D.bz,D.bz.ec,cJ]) rfl (fun t w=>results_tmp results16 t _ w) ?_;refine go [] ?_;refine oP (ai call48 rfl (RJ l f bC cJ P fc hP)) ?_;exact ah rfl (Sub.bool (by exact ux P l))
end Go.T
namespace Go.T
open Go
abbrev cB(l:List (List aa)):D:=.snap 1 false (l.map fun v=>[D.snap 1 false (cM v)])
theorem Sub.akD{w:World}{O:Nat→Prop}{b off:Nat}{d d':D}{rows:List (List D)}(s:Sub d d')(h:Vr w O b off 1 ([d]::rows)):Vr w O b off 1 ([d']::rows):=by
 refine Hc _ _ fun i r hr=>?_;cases i with
 |zero=>
  simp only[List.getElem?_cons_zero,Option.some.injEq]at hr;subst hr;obtain⟨u,h1,h2,h3⟩:=Ar _ _ h 0 d rfl;exact⟨d',u,rfl,h1,h2,s.out _ _ _ _ h3⟩
 |succ i=>
  simp only[Vr]at h;simp only[List.getElem?_cons_succ]at hr;have hl:∀(l:List (List D))(o:Nat),Vr w O b o 1 l→∀(i:Nat)(r:List D),l[i]?=some r→∃d,r=[d]:=by
   intro l;induction l with
   |nil=>intro o _ i r h;simp at h
   |cons a l ih=>
    intro o hv i r h;simp only[Vr]at hv;cases i with
    |zero=>simp only[List.getElem?_cons_zero,Option.some.injEq]at h;subst h;exact List.length_eq_one_iff.1 hv.1.1
    |succ i=>exact ih _ hv.2 i r (by simpa using h)
  obtain⟨e,rfl⟩:=hl _ _ h.2 i r hr;obtain⟨u,h1,h2,h3⟩:=Ar _ _ h.2 i e hr;exact⟨e,u,rfl,by rwa[show off+(i+1)=off+1+i by omega],h2,h3⟩
theorem Sub.Qh(gs:List (List aa)):Sub (sE gs) (cB ([]::gs)):=by
 refine⟨fun w O ρ v h=>?_⟩;simp only[V]at h⊢;obtain⟨a,cap,rfl,h1,h2,h3⟩:=h;refine⟨a,cap,by simp,by simpa using h1,by simp,fun _=>?_⟩;obtain⟨b,off,e,h4,h5⟩:=h3 zS;exact⟨b,off,e,h4,Sub.akD (Sub.nil _ _) h5⟩
open Go.Proofs Go.Proofs.Tryz
set_option maxRecDepth 20000
theorem adj{x y:List aa}(h:(!jE x y)=false):x=y:=by simpa[jE]using h
theorem adk{x y:List aa}(h:(!jE x y)=true):x≠y:=by simpa[jE]using h
structure abK(a b:List (List aa))where
 pre:List (List aa)
 rest:List (List aa)
 au:List (List aa)
 aC:List (List aa)
 hx:a=pre++rest
 hy:b=au++aC
 hp:pre=au
 mZ:au.length=pre.length
 j3:aC.length=rest.length
theorem Iq(a b:List (List aa)):Fc Tryz.prog 18 [.snap 1 false (a.map fun v=>[aL v]),.snap 1 false (b.map fun v=>[aL v]),.fn (.func 19) [] []] (.b (jE a b)):=by
 refine Fc.mk' [6] func18 rfl ntmps18 rfl rfl rfl (fun t w=>results_tmp results18 t _ w) ?_;refine J.eu 0 rfl (fun hb=>?_);simp only[List.length_map,aG]at hb;refine J.eu 1 rfl (fun fZ=>?_);simp only[List.length_map,aG]at fZ;refine go [] ?_;refine br (fun h1=>?_) (fun h1=>?_)
 ·exact ah rfl (Sub.bool (by exact D6 (by have h9:=h1;simp at h9;omega)))
 ·refine J.loop (ι:=abK a b) (fun sx=>[(0,.snap 1 false (a.map fun v=>[aL v])),(1,.snap 1 false (b.map fun v=>[aL v])),(2,.fn (.func 19) [] []),(15,.snap 1 false (a.map fun v=>[aL v])),(16,.i a.length),(17,.i sx.pre.length)]) (fun sx=>[]) (fun sx=>sx.rest.length) ⟨[],a,[],b,rfl,rfl,rfl,rfl,by simp at h1;omega⟩ ?_ ?_
  ·exact Le.mk rfl (.s rfl rfl (.s rfl rfl (.s rfl rfl (.s rfl rfl (.cons rfl (Sub.int zS) rfl (.s rfl rfl .nil)))))) .nil
  ·rintro⟨pre,rest,au,aC,hx,hy,hp,mZ,j3⟩;show J _ _ _ _ [(0,.snap 1 false (a.map fun v=>[aL v])),(1,.snap 1 false (b.map fun v=>[aL v])),(2,.fn (.func 19) [] []),(15,.snap 1 false (a.map fun v=>[aL v])),(16,.i a.length),(17,.i pre.length)] [];have hl:=congrArg List.length hx;simp only[List.length_append]at hl;rcases rest with _|⟨x,rest⟩
   ·obtain rfl:aC=[]:=List.length_eq_zero_iff.1 (by simpa using j3);refine go [] ?_;refine a_ (by simp at hl⊢;omega) ?_;refine go [] ?_;exact ah rfl (Sub.bool (by exact D5 hx hy hp))
   ·simp only[List.length_cons]at hl;obtain⟨y,aC,rfl⟩:=DK (n:=rest.length) (by simpa using j3);refine go [] ?_;refine bk zQ ?_;refine ix zO (aS (fun v:List aa=>[aL v]) hx rfl) ?_;refine ix zO (aS (fun v:List aa=>[aL v]) hy zO) ?_;refine oP (ek call19 rfl rfl (abL x y)) ?_;refine br (fun h2=>?_) (fun h2=>?_)
    ·exact ah rfl (Sub.bool (by exact D7 hx hy mZ (adk h2)))
    ·refine sd (aw zO) ?_;exact nx ⟨pre++[x],rest,au++[y],aC,by simp[hx],by simp[hy],by rw[hp,adj h2],by simp[mZ],by simpa using j3⟩ zS (Le.mk rfl (.s rfl rfl (.s rfl rfl (.s rfl rfl (.s rfl rfl (.s rfl rfl (.cons rfl (Sub.int zS) rfl .nil)))))) .nil)
def MV:Fact:=⟨[],0,false,0,0,[],[],[],[],[],[],[],⟨[],[]⟩,⟨[],[]⟩,⟨[],[]⟩,[],[],0⟩
def iy(k c:aa):Fact:={MV with key:=k,day:=20,kind:=3,dM:=c,dm:=[49]}
theorem HC(k c:aa):Fc Tryz.prog 40 [.str k,.str c] (.agg (aX (iy k c))):=by
 refine Fc.je func40 rfl ntmps40 rfl rfl rfl ?_;refine go [99999] ?_;refine J.ret (?_);exact Rd.cA results40 isAgg39 sizeOf39 rfl rfl rfl (Sub.agg (.r (.cons (Sub.refl _) (.r (.cons (Sub.refl _) (.r (.cons (Sub.refl _) (.r (.cons (Sub.refl _) (.r (.cons (Sub.refl _) (.r (.cons (Sub.refl _) (.r (.cons (Sub.refl _) (.r (.cons (Sub.refl _) (.r (.cons (Sub.refl _) (.cons ((Sub.nil _ false).trans (Sub.refl _)) (.cons ((Sub.nil _ false).trans (Sub.refl _)) (.r .nil))))))))))))))))))))))
end Go.T
namespace Go.T
open Go
variable[bX]
theorem Fc.res{P:Program}{f:FuncId}{ds:List D}{r r':D}(h:Fc P f ds r)(s:Sub r r'):Fc P f ds r':=
 ⟨fun w O ρ vals hO hg hv=>(h.out w O ρ vals hO hg hv).mono fun _ _ hx=>by
  obtain⟨v,e1,h1,h2⟩:=hx;exact⟨v,e1,s.out _ _ _ _ h1,h2⟩⟩
theorem XV{w:World}{O:Nat→Prop}{b:Nat}{ds eP:List D}(h:iP ds eP):∀off,Vc w O b off ds→Vc w O b off eP:=by
 induction h with
 |nil=>exact fun _ h=>h
 |cons s _ ih=>
  intro off hv;simp only[Vc]at hv⊢;obtain⟨⟨u,h1,h2⟩,h3⟩:=hv;exact⟨⟨u,h1,s.out _ _ _ _ h2⟩,ih _ h3⟩
theorem iP.len{ds eP:List D}(h:iP ds eP):ds.length=eP.length:=by
 induction h with
 |nil=>rfl
 |cons _ _ ih=>simp[ih]
inductive vL:List (List D)→List (List D)→Prop
 |nil:vL [] []
 |cons {r r':List D} {rs qM:List (List D)} (h:iP r r') (k:vL rs qM):vL (r::rs) (r'::qM)
theorem vL.len{rs qM:List (List D)}(h:vL rs qM):rs.length=qM.length:=by
 induction h with
 |nil=>rfl
 |cons _ _ ih=>simp[ih]
theorem XW{w:World}{O:Nat→Prop}{b sz:Nat}{rs qM:List (List D)}(h:vL rs qM):∀off,Vr w O b off sz rs→Vr w O b off sz qM:=by
 induction h with
 |nil=>exact fun _ h=>h
 |cons s _ ih=>
  intro off hv;simp only[Vr]at hv⊢;exact⟨⟨s.len▸hv.1.1,XV s _ hv.1.2⟩,ih _ hv.2⟩
theorem Sub.rows{sz:Nat}{f:Bool}{rs qM:List (List D)}(h:vL rs qM):Sub (.snap sz f rs) (.snap sz false qM):=by
 have hl:=h.len;refine⟨fun w O ρ v hv=>?_⟩;simp only[V]at hv⊢;obtain⟨a,cap,rfl,h1,_,h3⟩:=hv;rw[hl]at h1;refine⟨a,cap,by rw[hl],h1,by simp,fun aD=>?_⟩;obtain⟨b,off,e,h4,h5⟩:=h3 (by
  cases rs with
  |nil=>cases h;exact absurd rfl aD
  |cons=>simp)
 exact⟨b,off,e,h4,XW h _ h5⟩
end Go.T
namespace Go.T
open Go
theorem Mj:∀Ls:List (List aa),∃u,fA u Ls
 |[]=>⟨[],V3⟩
 |l::Ls=>by obtain⟨u,h⟩:=Mj Ls;exact⟨uU u l,V2 h l⟩
theorem adM{u:UM}{x:aa}(hx:x∈aI u):∃g∈iR u,∀y,y∈g↔(y∈aI u∧aJ u y=aJ u x):=by
 have aD:((aI u).filter fun y=>decide (aJ u y=aJ u x))≠[]:=List.ne_nil_of_mem (vW hx);obtain⟨h1,h2⟩:=GF aD;generalize (fx ((aI u).filter fun y=>decide (aJ u y=aJ u x))).headD []=z at h1 h2;obtain⟨h3,h4⟩:=List.mem_filter.1 h1;have h4:aJ u z=aJ u x:=of_decide_eq_true h4;refine⟨l7 u z,?_,fun y=>?_⟩
 ·unfold iR;refine List.mem_map.2 ⟨z,zk.2 ⟨h3,?_⟩,rfl⟩;unfold m';simp only[List.all_eq_true,decide_eq_true_eq];exact fun y hy e=>h2 y (List.mem_filter.2 ⟨hy,by rw[e,h4];exact decide_eq_true rfl⟩)
 ·unfold l7;rw[w6,List.mem_filter,h4];simp
theorem adQ{Ls iY:List (List aa)}(h1:∀l∈Ls,∃l'∈iY,∀x∈l,x∈l')(h2:∀l∈iY,∃l'∈Ls,∀x∈l,x∈l'):lu Ls=lu iY:=by
 obtain⟨u,hu⟩:=Mj Ls;rw[←EA hu,←EA (hu.mono h1 h2)]
theorem Eg{gs:List (List aa)}(eU:gs.flatten.Nodup){g g':List aa}(hg:g∈gs)(kZ:g'∈gs){x:aa}(hx:x∈g)(j7:x∈g'):g=g':=by
 induction gs with
 |nil=>cases hg
 |cons a r ih=>
  rw[List.flatten_cons,List.nodup_append]at eU;rcases List.mem_cons.1 hg with e|hg<;>rcases List.mem_cons.1 kZ with e'|kZ
  ·rw[e,e']
  ·exact absurd rfl (eU.2.2 x (e▸hx) x (List.mem_flatten.2 ⟨g',kZ,j7⟩))
  ·exact absurd rfl (eU.2.2 x (e'▸j7) x (List.mem_flatten.2 ⟨g,hg,hx⟩))
  ·exact ih eU.2.1 hg kZ
theorem acM{gs:List (List aa)}(eU:gs.flatten.Nodup){g:List aa}(hg:g∈gs):g.Nodup:=by
 induction gs with
 |nil=>cases hg
 |cons a r ih=>
  rw[List.flatten_cons,List.nodup_append]at eU;rcases List.mem_cons.1 hg with rfl|hg
  ·exact eU.1
  ·exact ih eU.2.1 hg
theorem Ja{Ls gs:List (List aa)}(aD:∀g∈gs,g≠[])(hs:∀g∈gs,g.Pairwise fun a b=>a≤b)(eU:gs.flatten.Nodup)(hh:(gs.map (·.headD [])).Pairwise fun a b=>a≤b)
  (dX:∀r∈Ls,r≠[]→∃g∈gs,∀x∈r,x∈g)(EL:∀g∈gs,∀x∈g,fK Ls (g.headD []) x∧named Ls x):lu Ls=gs:=by
 obtain⟨u,hu⟩:=Mj Ls;rw[←EA hu];have Wq:∀{x y:aa},fK Ls x y→x=y∨∃g∈gs,x∈g∧y∈g:=by
  intro x y hc;induction hc with
  |refl x=>exact .inl rfl
  |one hl hx hy=>
   obtain⟨g,hg,h⟩:=dX _ hl (List.ne_nil_of_mem hx);exact .inr ⟨g,hg,h _ hx,h _ hy⟩
  |symm _ ih=>exact ih.imp Eq.symm fun⟨g,a,b,c⟩=>⟨g,a,c,b⟩
  |trans _ _ ih nP=>
   rcases ih with rfl|⟨g,a,b,c⟩
   ·exact nP
   ·rcases nP with rfl|⟨g',a',b',c'⟩
    ·exact .inr ⟨g,a,b,c⟩
    ·obtain rfl:=Eg eU a a' c b';exact .inr ⟨g,a,b,c'⟩
 have nk:∀g∈gs,∀x∈g,x∈aI u:=fun g hg x hx=>(hu.keys x).2 (EL g hg x hx).2
 -- the class of a name of g is g
 have DC:∀g∈gs,∀x∈g,l7 u x=g:=by
  intro g hg x hx;refine CW ?_ (vt _) (hs g hg);refine(nA _).trans ((List.perm_ext_iff_of_nodup (hu.nd.filter _) (acM eU hg)).2 fun y=>?_);rw[List.mem_filter,decide_eq_true_eq];constructor
  ·rintro⟨h1,h2⟩;rcases Wq ((hu.conn y x h1 (nk g hg x hx)).1 h2)with rfl|⟨g',a,b,c⟩
   ·exact hx
   ·rw[Eg eU hg a hx c];exact b
  ·intro hy;exact⟨nk g hg y hy,(hu.conn y x (nk g hg y hy) (nk g hg x hx)).2 ((EL g hg y hy).1.symm.trans (EL g hg x hx).1)⟩
 have hd:∀g∈gs,g.headD []∈g:=fun g hg=>by
  cases g with
  |nil=>exact absurd rfl (aD _ hg)
  |cons a r=>exact List.mem_cons_self
 have n1:(iR u).Nodup:=by
  have:((iR u).map (·.headD [])).Nodup:=by
   rw[Jc];exact(nA _).nodup_iff.2 (hu.nd.filter _)
  exact(List.pairwise_map.1 this).imp fun aD e=>aD (by rw[e])
 have n2:gs.Nodup:=by
  clear hs hh dX EL Wq nk DC;induction gs with
  |nil=>exact List.nodup_nil
  |cons a r ih=>
   have h2:=eU;rw[List.flatten_cons,List.nodup_append]at h2;rw[List.nodup_cons];refine⟨fun ha=>?_,ih (fun g hg=>aD g (List.mem_cons_of_mem _ hg)) h2.2.1 (fun g hg=>hd g (List.mem_cons_of_mem _ hg))⟩;have hx:=hd a List.mem_cons_self;exact h2.2.2 _ hx _ (List.mem_flatten.2 ⟨a,ha,hx⟩) rfl
 have hp:(iR u).Perm gs:=(List.perm_ext_iff_of_nodup n1 n2).2 fun g=>by
  constructor
  ·intro hg;unfold iR at hg;obtain⟨x,hx,rfl⟩:=List.mem_map.1 hg;have hx:=(zk.1 hx).1;obtain⟨r,hr,RC⟩:=(hu.keys x).1 hx;obtain⟨g,hg,h⟩:=dX r hr (List.ne_nil_of_mem RC);rw[DC g hg x (h x RC)];exact hg
  ·intro hg;have h1:=hd g hg;obtain⟨g',kZ,hm⟩:=adM (nk g hg _ h1);have:g'=g:=by
    unfold iR at kZ;obtain⟨z,hz,rfl⟩:=List.mem_map.1 kZ;have pJ:=(zk.1 hz).1;have Km:z∈l7 u z:=by unfold l7;rw[w6];exact vW pJ
    have e:=((hm z).1 Km).2;have:z∈l7 u (g.headD []):=by unfold l7;rw[w6];exact List.mem_filter.2 ⟨pJ,decide_eq_true e⟩
    rw[DC g hg _ h1]at this;exact DC g hg z this
   exact this▸kZ
 refine List.Perm.eq_of_pairwise (le:=fun x y=>x.headD []≤y.headD []) (fun a b ha hb h1 h2=>?_) (List.pairwise_map.1 (Qk u)) (List.pairwise_map.1 hh) hp;have e:=List.le_antisymm h1 h2;have wq:=hp.mem_iff.1 ha;exact Eg eU wq hb (hd a wq) (e▸hd b hb)
def rF(x:aa):aW:={(default:aW)with id:=x,kind:=1,cur:=[69,85,82],wS:=1}
def oX:Setup:={(default:Setup)with oo:=[⟨[69,85,82],0⟩],insts:=[rF [97],rF [98],rF [99],rF [100]]}
def n0:Fact:={MV with key:=[115],day:=30,kind:=9,dM:=[97],other:=[98],ratio:=⟨[49],[]⟩}
theorem RW:cC n0=[[97],[98]]:=by
 have h1:hZ n0=[[97],[98]]:=by decide
 unfold cC;rw[h1];have h2:fx [[97],[98]]=[[97],[98]]:=CW (nA _) (vt _) zD;rw[h2];decide
theorem RT(k:aa)(c:UInt8):cC (iy k [c])=[[c]]:=by
 have h1:hZ (iy k [c])=[[c]]:=by simp[hZ,eV,gL,uW,iy,MV]
 unfold cC;rw[h1];have h2:fx [[c]]=[[c]]:=CW (nA _) (vt _) zS;rw[h2];simp[Lib.compact,Lib.compactUpTo,Lib.keeps]
theorem Qj{Ls gs:List (List aa)}(h:∀g∈gs,g∈Ls)(aD:∀g∈gs,g≠[]):∀g∈gs,∀x∈g,fK Ls (g.headD []) x∧named Ls x:=fun g hg x hx=>⟨.one (h g hg) (by
 cases g with
 |nil=>exact absurd rfl (aD _ hg)
 |cons a r=>exact List.mem_cons_self) hx,⟨g,h g hg,hx⟩⟩
theorem aaG:i_ oX [n0,iy [107] [99]]=[[[97]],[[98]],[[99]],[[100]],[[97],[98]],[[99]],[[97],[98]],[[99]]]:=by
 have e1:n0.key=[115]:=rfl;have e2:(iy [107] [99]).key=[107]:=rfl;simp[i_,ew,RW,RT,oX,rF,e1,e2]
theorem adF:lu (i_ oX [n0,iy [107] [99]])=[[[97],[98]],[[99]],[[100]]]:=by
 rw[aaG];exact Ja zD zD zD zD zD (Qj zD zD)
theorem aaH:i_ oX [n0,iy [107] [99],iy [107] [100]]=[[[97]],[[98]],[[99]],[[100]],[[97],[98]],[[99]],[[100]],[[97],[98]],[[99],[100]],[[99],[100]]]:=by
 have e1:n0.key=[115]:=rfl;have e2:∀c,(iy [107] c).key=[107]:=fun _=>rfl;simp[i_,ew,RW,RT,oX,rF,e1,e2]
theorem adH:lu (i_ oX [n0,iy [107] [99],iy [107] [100]])=[[[97],[98]],[[99],[100]]]:=by
 rw[aaH];exact Ja zD zD zD zD zD (Qj zD zD)
set_option maxRecDepth 100000 in
theorem Uy:gJ (iy [107] [99])=0:=by decide+kernel
set_option maxRecDepth 100000 in
theorem aiy:gJ (iy [107] [100])=0:=by decide+kernel
set_option maxRecDepth 100000 in
theorem UA:gJ n0=0:=by decide+kernel
set_option maxRecDepth 100000 in
theorem Uz:kU oX.insts oX.oo=0:=by decide+kernel
theorem aob:iX oX [n0,iy [107] [99]]=false:=by simp[iX,Uz,Uy,UA]
theorem aoc:iX oX [n0,iy [107] [99],iy [107] [100]]=false:=by simp[iX,Uz,Uy,aiy,UA]
open Go.Proofs
structure qG(s:Setup)(l:List Fact):Prop where
 insts:∀x∈s.insts,p8 x
 facts:∀f∈l,nJ f
 Kn:s.insts.length≤1000
 ids:∀x∈s.insts,dj x.id
 PM:l.length≤500
 opts:∀f∈l,f.opts.length≤1000∧∀s∈eV f,dj s
theorem rl{n:Int}{s:aa}(h:gt n s=false):(s.length:Int)≤n:=by simpa[gt]using h
theorem I'{f:aM}(h:yw f=false):lU f:=by
 simp only[yw,Bool.or_eq_false_iff]at h;have h1:=rl h.1;have h2:=rl h.2;unfold lU;omega
theorem zb{f:aM}(h:oE f=false):lU f:=by
 simp only[oE,Bool.or_eq_false_iff]at h;have h1:=rl h.1;have h2:=rl h.2;unfold lU;omega
theorem ui{α:Type}{l:List α}{p:α→Bool}(h:l.any p=false){x:α}(hx:x∈l):p x=false:=by
 have:=List.any_eq_false.1 h x hx;simpa using this
theorem afs{x:aW}(h:A3 x=false):p8 x∧dj x.id:=by
 simp only[A3,Bool.or_eq_false_iff,List.any_cons,List.any_nil]at h;obtain⟨⟨⟨h1,h2⟩,h3⟩,h4,h5,h6,_⟩:=h;refine⟨⟨I' h4,I' h5,I' h6⟩,?_⟩;have:=rl h1;unfold dj aG;omega
theorem we{f:Fact}(h:px f=false):nJ f∧f.opts.length≤1000∧∀s∈eV f,dj s:=by
 simp only[px,Bool.or_eq_false_iff]at h;obtain⟨g1,g2,g3,g4⟩:=h;simp only[I8,Bool.or_eq_false_iff,decide_eq_false_iff_not,Nat.not_lt]at g1;obtain⟨⟨⟨⟨⟨⟨⟨⟨⟨⟨a1,a2⟩,a3⟩,a4⟩,a5⟩,a6⟩,a7⟩,a8⟩,a9⟩,He⟩,Hf⟩:=g1;have ho:f.opts.length≤10:=by
  simp only[yu,Bool.or_eq_false_iff,decide_eq_false_iff_not]at g2;have:=g2.2;omega
 have yQ:∀o∈f.opts,yx o=false:=fun o hx=>ui g4 hx;refine⟨⟨fun p hp=>?_,by omega,by omega,by omega,zb a9,zb He,zb Hf,fun o hx=>?_⟩,by omega,fun s hs=>?_⟩
 ·have:=ui g3 hp;simp only[A5,Bool.or_eq_false_iff,decide_eq_false_iff_not]at this;have h2:=this.1;omega
 ·have:=yQ o hx;simp only[yx,Bool.or_eq_false_iff]at this;exact⟨zb this.1.1.2,zb this.1.2,zb this.2⟩
 ·unfold eV gL at hs;have b1:=a2;have b2:=a3;rw[List.mem_append]at hs;unfold dj aG;rcases hs with hs|hs
  ·have:s=f.dM∨s=f.other:=by
    split at hs
    ·simpa using hs
    ·exact .inl (by simpa using hs)
   rcases this with rfl|rfl<;>omega
  ·obtain⟨o,hx,rfl⟩:=List.mem_map.1 hs;have:=yQ o hx;simp only[yx,Bool.or_eq_false_iff]at this;have:=rl this.1.1.1;omega
theorem xJ{l:List Fact}(h:ou l=false):l.length≤8∧∀f∈l,px f=false:=by
 simp only[ou,I_,Bool.or_eq_false_iff,decide_eq_false_iff_not]at h;exact⟨by have:=h.1;omega,fun f hf=>ui h.2.2 hf⟩
theorem F1{s:Setup}{l:List Fact}(h:py s=false)(h2:ou l=false):qG s l:=by
 obtain⟨v1,v2⟩:=xJ h2;simp only[py,Bool.or_eq_false_iff]at h;have hi:A4 s.insts=false:=h.2.1.1.1.1;simp only[A4,Bool.or_eq_false_iff,decide_eq_false_iff_not]at hi;have hx:∀x∈s.insts,p8 x∧dj x.id:=fun x hx=>afs (ui hi.1 hx);exact⟨fun x k=>(hx x k).1,fun f hf=>(we (v2 f hf)).1,by have:=hi.2.2;omega,fun x k=>(hx x k).2,by omega,fun f hf=>(we (v2 f hf)).2⟩
theorem qG.app{s:Setup}{l:List Fact}(h:qG s l)(hl:l.length≤8){f:Fact}(hf:px f=false):qG s (l++[f]):=by
 have hm:∀{g:Fact},g∈l++[f]→g∈l∨g=f:=fun k=>by simpa using k
 refine⟨h.insts,fun g k=>?_,h.Kn,h.ids,by simp;omega,fun g k=>?_⟩
 ·rcases hm k with k|rfl
  ·exact h.facts g k
  ·exact(we hf).1
 ·rcases hm k with k|rfl
  ·exact h.opts g k
  ·exact(we hf).2
theorem adi{s:Setup}{l:List Fact}(h:qG s l)(hb:iX s l=false):Fc Tryz.prog 10 [.agg (fC s),cN l] (.bj [sE (lu (i_ s l)),.i 0]):=
 adK s l h.insts h.facts h.Kn h.ids h.PM h.opts hb
theorem Yr{s:Setup}{l:List Fact}(h:qG s l)(hb:iX s l=true):Fc Tryz.prog 10 [.agg (fC s),cN l] (.bj [.raw (.slice none 0 0),.i 1]):=
 adJ s l h.insts h.facts h.Kn h.ids h.PM h.opts hb
noncomputable abbrev yz(s:Setup)(l:List Fact):List (List aa):=[]::lu (i_ s l)
theorem I6{s:Setup}{l:List Fact}(h:qG s l)(hb:iX s l=false):Fc Tryz.prog 10 [.agg (fC s),cN l] (.bj [cB (yz s l),.i 0]):=
 (adi h hb).res (Sub.C9 (Sub.Qh _) (Sub.refl _))
open Go.Proofs.Tryz
set_option maxRecDepth 20000
@[reducible] def u_:List aa:=[[97],[98],[99],[100]]
theorem aiA:qG oX [n0,iy [107] [99]]:=F1 zD zD
theorem aiB:qG oX [n0,iy [107] [99],iy [107] [100]]:=F1 zD zD
@[reducible] def Mk:List D:=[.snap 2 true [[.str [69,85,82],.i 0]],.snap 15 false (u_.map fun x=>gA (rF x)),.raw (.slice none 0 0),.raw (.slice none 0 0),.raw (.slice none 0 0),.raw (.slice none 0 0),.i 0]
@[reducible] def CX:List D:=[.str [115],.i 0,.b false,.i 30,.i 9,.str [97],.str [98],.str [],.str [],.str [],.str [],.str [],.str [],.str [],.str [49],.str [],.str [],.str [],.raw (.slice none 0 0),.raw (.slice none 0 0),.i 0]
theorem V7:Sub (.agg Mk) (.agg (fC oX)):=.agg (.cons (Sub.qQ _ _ _) (.r (.cons (Sub.nil _ _) (.cons (Sub.nil _ _) (.cons (Sub.nil _ _) (.cons (Sub.nil _ _) (.r .nil)))))))
theorem Wp:iP CX (aX n0):=.cons (Sub.refl _) (.r (.cons (Sub.refl _) (.r (.cons (Sub.refl _) (.r (.cons (Sub.refl _) (.r (.cons (Sub.refl _) (.r (.cons (Sub.refl _) (.r (.cons (Sub.refl _) (.r (.cons (Sub.refl _) (.r (.cons (Sub.refl _) (.r (.cons (Sub.nil _ _) (.cons (Sub.nil _ _) (.r .nil))))))))))))))))))))
theorem iP.refl:∀ds:List D,iP ds ds
 |[]=>.nil
 |_::ds=>.cons (Sub.refl _) (iP.refl ds)
@[reducible] def Er:List (List aa):=[[],[[97],[98]],[[99]],[[100]]]
@[reducible] def Es:List (List aa):=[[],[[97],[98]],[[99],[100]]]
theorem adG:Fc Tryz.prog 10 [.agg Mk,.snap 21 true [CX,aX (iy [107] [99])]] (.bj [cB Er,.i 0]):=
 ((I6 aiA aob).sub (.cons V7 (.cons (Sub.rows (.cons Wp (.cons (iP.refl _) .nil))) .nil))).res (Sub.of_eq (by unfold yz;rw[adF]))
theorem adI:Fc Tryz.prog 10 [.agg Mk,.snap 21 true [CX,aX (iy [107] [99]),aX (iy [107] [100])]] (.bj [cB Es,.i 0]):=
 ((I6 aiB aoc).sub (.cons V7 (.cons (Sub.rows (.cons Wp (.cons (iP.refl _) (.cons (iP.refl _) .nil)))) .nil))).res (Sub.of_eq (by unfold yz;rw[adH]))
theorem abH:Fc Tryz.prog 18 [cB Er,.snap 1 true [[.raw (.slice none 0 0)],[.snap 1 true [[.str [97]],[.str [98]]]],[.snap 1 true [[.str [99]]]],[.snap 1 true [[.str [100]]]]],.fn (.func 19) [] []] (.b true):=
 ((Iq Er Er).sub (.r (.cons (Sub.rows (.cons (.cons (Sub.nil _ _) .nil) (.cons (.cons (Sub.qQ _ _ _) .nil) (.cons (.cons (Sub.qQ _ _ _) .nil) (.cons (.cons (Sub.qQ _ _ _) .nil) .nil))))) (.r .nil)))).res (Sub.bool zD)
theorem abI:Fc Tryz.prog 18 [cB Es,.snap 1 true [[.raw (.slice none 0 0)],[.snap 1 true [[.str [97]],[.str [98]]]],[.snap 1 true [[.str [99]],[.str [100]]]]],.fn (.func 19) [] []] (.b true):=
 ((Iq Es Es).sub (.r (.cons (Sub.rows (.cons (.cons (Sub.nil _ _) .nil) (.cons (.cons (Sub.qQ _ _ _) .nil) (.cons (.cons (Sub.qQ _ _ _) .nil) .nil)))) (.r .nil)))).res (Sub.bool zD)
structure Yn where
 pre:List aa
 rest:List aa
 hx:u_=pre++rest
theorem Dx:Fc Tryz.prog 9 [] (.b true):=by
 refine Fc.mk' [0] func9 rfl ntmps9 rfl rfl rfl (fun t w=>results_tmp results9 t _ w) ?_;refine J.seq (J.af [.p] ?_);refine .ag rfl rfl<|.nil ?_;refine J.seq (J.af [.p,.p,.p,.w,.w] ?_);refine .P rfl (pZ (pl:=#[(0,1),(1,1)]) underlying89 zeroValue89 (fun w=>by kernel_rfl) rfl rfl)<|.P rfl (bK (n:=1) (rows:=[[.str [69,85,82],.i 0]]) underlying22 sizeOf89 rfl rfl rfl zeroValue89 rfl rfl rfl rfl rfl rfl rfl)<|.P rfl (pZ (pl:=#[(0,1),(1,1),(2,1),(3,2),(5,1),(6,1)]) underlying30 zeroValue30 (fun w=>by kernel_rfl) rfl rfl)<|.W rfl (jh 0 zeroValue30 rfl)<|.W rfl (km sizeOf30 rfl rfl rfl rfl rfl rfl)<|.nil ?_;refine J.seq (J.seq (J.af [.p,.p,.p] ?_));refine .P rfl (bK (n:=4) (rows:=[[.str [97]],[.str [98]],[.str [99]],[.str [100]]]) underlying48 sizeOf9 rfl rfl rfl zeroValue9 rfl rfl rfl rfl rfl rfl rfl)<|.P rfl (cY underlying48 rfl)<|.mv rfl rfl<|.nil ?_;refine J.block ?_;refine J.loop (ι:=Yn) (fun sx=>[(1,.box 0 0),(12,.snap 1 true (u_.map fun s=>[.str s])),(13,.i u_.length),(14,.i sx.pre.length)]) (fun sx=>[(0,.cells [.snap 2 true [[.str [69,85,82],.i 0]],.gs 1 sx.pre.length,.raw (.slice none 0 0),.raw (.slice none 0 0),.raw (.slice none 0 0),.raw (.slice none 0 0),.i 0]),(1,.arr 15 (sx.pre.map fun x=>gA (rF x)))]) (fun sx=>sx.rest.length) ⟨[],u_,rfl⟩ ?_ ?_
 ·exact(Le.jy 1 15).trans<|(Le.fa 0 1 rfl rfl (Sub.wm _)).trans<|Le.mk rfl (.s rfl rfl (.s rfl rfl (.s rfl rfl (.s rfl rfl .nil)))) (.cons rfl rfl (.arr rfl zS .nil))
 ·rintro⟨pre,rest,hx⟩;show J _ _ _ _ [(1,.box 0 0),(12,.snap 1 true (u_.map fun s=>[.str s])),(13,.i u_.length),(14,.i pre.length)] [(0,.cells [.snap 2 true [[.str [69,85,82],.i 0]],.gs 1 pre.length,.raw (.slice none 0 0),.raw (.slice none 0 0),.raw (.slice none 0 0),.raw (.slice none 0 0),.i 0]),(1,.arr 15 (pre.map fun x=>gA (rF x)))];have hl:=congrArg List.length hx;simp only[List.length_append]at hl;have Q4:pre.length+rest.length=4:=by have h9:=congrArg List.length hx;simp at h9;omega
  rcases rest with _|⟨x,rest⟩
  ·obtain rfl:pre=u_:=by simpa using hx.symm
   refine J.seq (J.af [.p] ?_);refine .P rfl (bQ rfl rfl)<|.nil ?_;refine J.seq ?_;refine J.eF rfl zS ?_;refine J.exit (dO (dG ?_));refine J.seq (J.af [.p,.p,.w,.w] ?_);refine .P rfl (pZ (pl:=#[(0,1),(1,1)]) underlying35 zeroValue35 (fun w=>by kernel_rfl) rfl rfl)<|.P rfl (pZ (pl:=#[(0,1),(1,1),(2,1),(3,1),(4,1),(5,1),(6,1),(7,1),(8,1),(9,1),(10,1),(11,1),(12,2),(14,2),(16,2),(18,1),(19,1),(20,1)]) underlying39 zeroValue39 (fun w=>by kernel_rfl) rfl rfl)<|.W rfl (jh 2 zeroValue39 rfl)<|.W rfl (km sizeOf39 rfl rfl rfl rfl rfl rfl)<|.nil ?_;refine J.bE (Le.IS 0 1 1 rfl rfl rfl zS) ?_;refine J.bE (Le.fY 1 0 rfl rfl rfl rfl) ?_;refine J.bE (Le.fY 4 2 rfl rfl rfl rfl) ?_;refine J.seq (J.oU [.p,.p,.p,.p,.p,.p,.p,.p,.p,.p] lh zK ?_);refine .P rfl (tN isAgg30 sizeOf30 rfl rfl)<|.P rfl (tN isAgg39 sizeOf39 rfl rfl)<|.P rfl (ai call40 rfl (HC _ _))<|.P rfl (bK (n:=2) (rows:=[CX,aX (iy [107] [99])]) underlying31 sizeOf39 rfl rfl rfl zeroValue39 rfl rfl rfl rfl rfl rfl rfl)<|.P rfl (ai call10 rfl adG)<|.mv rfl rfl<|.P rfl (eC rfl rfl)<|.P rfl (eC rfl rfl)<|.ag rfl rfl<|.ag rfl rfl<|.nil ?_;refine J.seq (J.oU [.p,.p,.p,.p,.p,.p,.p,.p,.p,.p,.p] lh zK ?_);refine .P rfl (tN isAgg30 sizeOf30 rfl rfl)<|.P rfl (tN isAgg39 sizeOf39 rfl rfl)<|.P rfl (ai call40 rfl (HC _ _))<|.P rfl (ai call40 rfl (HC _ _))<|.P rfl (bK (n:=3) (rows:=[CX,aX (iy [107] [99]),aX (iy [107] [100])]) underlying31 sizeOf39 rfl rfl rfl zeroValue39 rfl rfl rfl rfl rfl rfl rfl)<|.P rfl (ai call10 rfl adI)<|.mv rfl rfl<|.P rfl (eC rfl rfl)<|.P rfl (eC rfl rfl)<|.ag rfl rfl<|.ag rfl rfl<|.nil ?_
   refine J.seq (J.af [.p,.p,.p,.p,.p,.p,.p,.p,.p,.p,.p,.p,.p,.p,.p,.p,.p,.p,.p,.p,.p,.p] ?_);refine .mv rfl rfl<|.P rfl (jQ rfl rfl)<|.mv rfl rfl<|.gT rfl (.inl rfl) rfl rfl rfl (fun hg=>pk (fun _=>aT rfl _))<|.gT rfl (.inl rfl) rfl rfl rfl (fun hg=>pk (fun _=>jQ (bh rfl hg) rfl _))<|.P rfl (gO rfl rfl)<|.mv rfl rfl<|.gT rfl (.inl rfl) rfl rfl rfl (fun hg=>pk (fun _=>aT rfl _))<|.gT rfl (.inl rfl) rfl rfl rfl (fun hg=>pk (fun _=>bK (n:=2) (rows:=[[.str [97]],[.str [98]]]) underlying48 sizeOf9 rfl rfl rfl zeroValue9 rfl rfl rfl rfl rfl rfl rfl _))<|.gT rfl (.inl rfl) rfl rfl rfl (fun hg=>pk (fun _=>bK (n:=1) (rows:=[[.str [99]]]) underlying48 sizeOf9 rfl rfl rfl zeroValue9 rfl rfl rfl rfl rfl rfl rfl _))<|.gT rfl (.inl rfl) rfl rfl rfl (fun hg=>pk (fun _=>bK (n:=1) (rows:=[[.str [100]]]) underlying48 sizeOf9 rfl rfl rfl zeroValue9 rfl rfl rfl rfl rfl rfl rfl _))<|.gT rfl (.inl rfl) rfl rfl rfl (fun hg=>pk (fun _=>bK (n:=4) (rows:=[[.raw (.slice none 0 0)],[.snap 1 true [[.str [97]],[.str [98]]]],[.snap 1 true [[.str [99]]]],[.snap 1 true [[.str [100]]]]]) underlying43 sizeOf48 rfl rfl rfl zeroValue48 rfl rfl rfl rfl rfl rfl rfl _))<|.gT rfl (.inl rfl) rfl rfl rfl (fun hg=>pk (fun _=>ai call18 (ck (bh rfl hg) (ck (bh rfl hg) (ck rfl (rfl)))) abH _))<|.P rfl (gO rfl rfl)<|.mv rfl rfl<|.gT rfl (.inl rfl) rfl rfl rfl (fun hg=>pk (fun _=>aT rfl _))<|.gT rfl (.inl rfl) rfl rfl rfl (fun hg=>pk (fun _=>bK (n:=2) (rows:=[[.str [97]],[.str [98]]]) underlying48 sizeOf9 rfl rfl rfl zeroValue9 rfl rfl rfl rfl rfl rfl rfl _)) ?_
   refine .gT rfl (.inl rfl) rfl rfl rfl (fun hg=>pk (fun _=>bK (n:=2) (rows:=[[.str [99]],[.str [100]]]) underlying48 sizeOf9 rfl rfl rfl zeroValue9 rfl rfl rfl rfl rfl rfl rfl _))<|.gT rfl (.inl rfl) rfl rfl rfl (fun hg=>pk (fun _=>bK (n:=3) (rows:=[[.raw (.slice none 0 0)],[.snap 1 true [[.str [97]],[.str [98]]]],[.snap 1 true [[.str [99]],[.str [100]]]]]) underlying43 sizeOf48 rfl rfl rfl zeroValue48 rfl rfl rfl rfl rfl rfl rfl _))<|.gT rfl (.inl rfl) rfl rfl rfl (fun hg=>pk (fun _=>ai call18 (ck (bh rfl hg) (ck (bh rfl hg) (ck rfl (rfl)))) abI _))<|.P rfl (gO rfl rfl)<|.ag rfl rfl<|.nil ?_;refine J.ret (?_);exact dn rfl (Sub.refl _)
  ·simp only[List.length_cons]at hl;simp only[List.length_cons]at Q4;refine J.seq (J.af [.p] ?_);refine .P rfl (bQ rfl rfl)<|.nil ?_;refine J.seq ?_;refine J.gu rfl zQ ?_;refine J.skip ?_;refine J.seq ?_;refine J.block ?_;refine J.seq (J.af [.p,.p,.p] ?_);refine .P rfl (gm underlying48 sizeOf9 rfl rfl zO (aS (fun s:aa=>[D.str s]) hx rfl))<|.P rfl (bP isAgg9 rfl)<|.ag rfl rfl<|.nil ?_;refine J.af [.p,.r,.p,.p,.p,.w,.p,.w] ?_;refine .P rfl (im (n:=0) 23 1 underlying30 sizeOf23 rfl rfl)<|.R rfl (iV isAgg23 rfl rfl rfl)<|.mv rfl rfl<|.P rfl (pZ (pl:=#[(0,1),(1,1),(2,1),(3,1),(4,1),(5,1),(6,2),(8,2),(10,1),(11,1),(12,1),(13,2)]) underlying65 zeroValue65 (fun w=>by kernel_rfl) rfl rfl)<|.P rfl (bK (n:=1) (rows:=[gA (rF x)]) underlying23 sizeOf65 rfl rfl rfl zeroValue65 rfl rfl rfl rfl rfl rfl rfl)<|.W rfl (fq 2 underlying23 underlying23 sizeOf65 typeInfo65 zeroValue65 rfl (bt:=192) rfl rfl rfl rfl zS rfl rfl zQ)<|.P rfl (im (n:=0) 23 1 underlying30 sizeOf23 rfl rfl)<|.W rfl (r8 sizeOf23 rfl rfl rfl rfl zS)<|.nil ?_;refine J.nil (cn ?_);refine J.af [.p,.p] ?_;refine .P rfl (bU rfl rfl (aw zO))<|.mv rfl rfl<|.nil ?_;refine J.nil (cZ ?_);exact⟨⟨pre++[x],rest,by simp[hx]⟩,by simp,(Le.mk (am:=[(0,_),(2,_)]) rfl (show dE _ _ [(1,_),(12,_),(13,_),(14,_)]from(.s rfl rfl (.s rfl rfl (.s rfl rfl (.s rfl rfl .nil))))) (.cons (i:=0) rfl rfl (.cons (i:=2) rfl rfl .nil))).trans<|(Le.VJ 0 1 2 1 rfl rfl rfl zS rfl).trans<|Le.mk rfl (.s rfl rfl (.s rfl rfl (.s rfl rfl (.cons rfl (Sub.int zS) rfl .nil)))) (.eq rfl zS rfl (.arr rfl zS .nil))⟩
end Go.T
namespace Go.T
open Go
variable[bX] {P:Program} {dst:Option Tmp} {ty:TypeId} {pos:String} {ar:Array Edge} {g:Option (Nat×Bool)} {env:Env}
theorem aq.res{o:Oper}{U am:ae}{d d':D}(h:aq P o env U d am)(s:Sub d d'):aq P o env U d' am:=fun O ρ a w aj hg hv=>by
 refine Oper.wp_mono ?_ (h O ρ a w aj hg hv);rintro a' w' ⟨av,v,h1,h2,h3⟩;exact⟨av,v,h1,h2,s.out _ _ _ _ h3⟩
theorem ajy{st xt e e':TypeId}{ti:TypeInfo}{z:Value}{sz bt:Nat}{x y:Operand}{fP:Bool}{rows new:List (List D)}(hu:P.underlying st=some (.slice e))(jd:P.underlying xt=some (.slice e'))(hs:∀w,(sizeOf e).run P w=.ok sz w)
  (jI:∀w,(typeInfo e).run P w=.ok ti w)(hz:∀w,(zeroValue e).run P w=.ok z w)(s5:z.cells.size=sz)(mX:ti.bytes=bt)(ww:Nat.beq bt 0=false)(hx:env.op x=some (.snap sz true rows))(hy:env.op y=some (.snap sz fP new))
  (pA:(rows.length+new.length)*bt≤140737488355328)(U:ae):
  aq P ⟨dst,.call ⟨.builtin .append,#[x,y],#[st,xt]⟩,ty,pos,ar,g⟩ env U (.snap sz false (rows++new)) U:=by
 by_cases h:new=[]
 ·subst h;rw[List.append_nil];exact(Vh hu jd hs hx hy U).res (Sub.qQ _ _ _)
 ·exact Vj hu jd hs jI hz s5 mX ww hx hy h pA U
theorem p6{t e:TypeId}{z:Value}{x:Operand}{d:D}(hu:P.underlying t=some (.slice e))(hs:∀w,(sizeOf e).run P w=.ok 1 w)(hz:∀w,(zeroValue e).run P w=.ok z w)(hx:env.op x=some d)(hc:d.iz=[d])(h1:d.one=true)(hk:d.mC=true)(hp:d.bz=true)(U:ae):
  aq P ⟨dst,.buildSlice t 1 #[(0,x)],ty,pos,ar,g⟩ env U (.snap 1 true [[d]]) U:=by
 refine bK (n:=1) (xs:=[(0,x)]) (c_:=[(0,d)]) (cs:=[d]) (rows:=[[d]]) hu hs rfl rfl rfl hz (by simp[Env.nZ,hx]) ?_ rfl rfl rfl (by simp[nW,h1]) (by simp[D.bz.ec,hp]) U;have hlen:(((List.range (1*1)).map fun x=>(z.cells.toList[x%z.cells.toList.length]?).getD default).map lR).length=1:=by simp
 generalize (((List.range (1*1)).map fun x=>(z.cells.toList[x%z.cells.toList.length]?).getD default).map lR)=zs at hlen;obtain⟨a,rfl⟩:=List.length_eq_one_iff.1 hlen;unfold mV;simp[hc,hk,lT,mV];rfl
end Go.T
namespace Go.T
open Go Go.Proofs Go.Proofs.Tryz
set_option maxRecDepth 20000
theorem Wl{s:Setup}{l:List Fact}{f:Fact}{b:Bool}(h:(((py s||[l].any ou)||b)||px f)=false):py s=false∧ou l=false∧px f=false:=by
 simp only[Bool.or_eq_false_iff,List.any_cons,List.any_nil]at h;exact⟨h.1.1.1,h.1.1.2.1,h.2⟩
end Go.T
namespace Go.T
open Go
theorem abk{s:aa}(h:s.head?≠some 48):eO s=s:=by
 cases s with
 |nil=>rfl
 |cons c r=>
  have:c≠48:=by simpa using h
  exact uq (by intro⟨_,e⟩;exact this (UInt8.toNat_inj.1 (by simpa using e)))
theorem AK(s:aa):(digits s).1=gd (natVal (digits s).1):=FN (nE s) (abk (DR s))
theorem SU(c d:UInt8)(r s:aa):aa.lt (c::r) (d::s)=(decide (c.toNat<d.toNat)||(decide (c=d)&&aa.lt r s)):=by
 show(decide (c<d)||(c==d&&Op.bytesLess r s))=_;have h1:decide (c<d)=decide (c.toNat<d.toNat):=by simp[UInt8.lt_iff_toNat_lt]
 have h2:(c==d)=decide (c=d):=by rw[Bool.eq_iff_iff];simp
 rw[h1,h2];rfl
theorem Lf(c:UInt8)(r:aa):natVal (c::r)=(c.toNat-48)*10^r.length+natVal r:=by
 have e:natVal (c::r)=natVal ([c]++r):=rfl;rw[e,va];simp[natVal]
theorem KN:∀(a b:aa),a.length=b.length→a.all bZ=true→b.all bZ=true→(aa.lt a b=true↔natVal a<natVal b)
 |[],[],_,_,_=>by simp[aa.lt,Op.bytesLess,natVal]
 |[],_::_,h,_,_=>by simp at h
 |_::_,[],h,_,_=>by simp at h
 |c::r,d::s,h,ha,hb=>by
  simp only[List.length_cons,Nat.add_right_cancel_iff]at h;simp only[List.all_cons,Bool.and_eq_true]at ha hb;have ih:=KN r s h ha.2 hb.2;have hr:=pT r ha.2;have hs:=pT s hb.2;rw[SU,Lf,Lf,h]at*;have hc:48≤c.toNat:=by have:=ha.1;simp[bZ]at this;omega
  have hd:48≤d.toNat:=by have:=hb.1;simp[bZ]at this;omega
  simp only[Bool.or_eq_true,Bool.and_eq_true,decide_eq_true_eq];rcases Nat.lt_trichotomy c.toNat d.toNat with g|g|g
  ·have:=Nat.mul_le_mul_right (10^s.length) (show c.toNat-48+1≤d.toNat-48 by omega);rw[Nat.add_mul,Nat.one_mul]at this;constructor
   ·intro _;omega
   ·intro _;exact .inl g
  ·have e:c=d:=UInt8.toNat_inj.1 g;subst e;simp only[Nat.lt_irrefl,false_or,true_and,ih];omega
  ·have:=Nat.mul_le_mul_right (10^s.length) (show d.toNat-48+1≤c.toNat-48 by omega);rw[Nat.add_mul,Nat.one_mul]at this;constructor
   ·rintro(h|h)
    ·omega
    ·have:=h.1;subst this;omega
   ·intro _;omega
theorem Lg{d:aa}(hd:d.all bZ=true)(h0:d.head?≠some 48)(hn:d.length≠0):10^(d.length-1)≤natVal d:=by
 cases d with
 |nil=>simp at hn
 |cons c r=>
  rw[Lf];simp only[List.all_cons,Bool.and_eq_true]at hd;have hc:48≤c.toNat:=by have:=hd.1;simp[bZ]at this;omega
  have:c.toNat≠48:=fun e=>by simp at h0;exact h0 (UInt8.toNat_inj.1 e)
  have:=Nat.mul_le_mul_right (10^r.length) (show 1≤c.toNat-48 by omega);simp only[List.length_cons,Nat.add_sub_cancel];omega
theorem T'{a b:aa}(ha:a.all bZ=true)(hb:b.all bZ=true)(h0:b.head?≠some 48)(h:a.length<b.length):natVal a<natVal b:=by
 have h1:=pT a ha;have h2:=Lg hb h0 zO;have h3:10^a.length≤10^(b.length-1):=Nat.pow_le_pow_right zO zO;omega
theorem r2(a b:aa):fT a b=fw (val a-val b):=by
 have da:=nE a;have db:=nE b;have ha:=DR a;have hb:=DR b;have na:(digits a).2=true→0<natVal (digits a).1:=fun h=>by
  have:=AL a h;have e:(digits a).1.length≠0:=by intro e;apply this;rw[List.length_eq_zero_iff.1 e,sS];rfl
  exact Nat.lt_of_lt_of_le (Nat.pow_pos zO) (Lg da ha e)
 have nb:(digits b).2=true→0<natVal (digits b).1:=fun h=>by
  have:=AL b h;have e:(digits b).1.length≠0:=by intro e;apply this;rw[List.length_eq_zero_iff.1 e,sS];rfl
  exact Nat.lt_of_lt_of_le (Nat.pow_pos zO) (Lg db hb e)
 have key:(natVal (digits a).1<natVal (digits b).1↔(digits a).1.length<(digits b).1.length∨((digits a).1.length=(digits b).1.length∧aa.lt (digits a).1 (digits b).1=true))∧
   (natVal (digits b).1<natVal (digits a).1↔(digits b).1.length<(digits a).1.length∨((digits a).1.length=(digits b).1.length∧aa.lt (digits b).1 (digits a).1=true)):=by
  rcases Nat.lt_trichotomy (digits a).1.length (digits b).1.length with g|g|g
  ·have:=T' da db hb g;constructor<;>constructor<;>intro h<;>omega
  ·rw[KN _ _ g da db,KN _ _ g.symm db da];constructor<;>constructor<;>intro h<;>omega
  ·have:=T' db da ha g;constructor<;>constructor<;>intro h<;>omega
 unfold fT fw val;cases hna:(digits a).2<;>cases cP:(digits b).2<;>simp only[hna,cP]at na nb⊢<;>simp only[ne_eq,not_true,if_false,Bool.false_eq_true,if_true,not_false_iff,reduceCtorEq]<;>(repeat' split)<;>grind
end Go.T
