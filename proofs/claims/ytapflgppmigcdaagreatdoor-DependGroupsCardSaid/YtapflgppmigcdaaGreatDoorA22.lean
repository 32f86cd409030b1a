/-
  Contracts of the functions that the statement reaches, and the logic in which they are proved (no condition): parts Card1, Card2, CardB, CardC.
-/
import Derived.Test.YtapflgppmigcdaaGreatDoorA21
import Derived.ChangeArms
import Derived.SizedLaws
import Derived.ProofKit
import Derived.OpenShut
import Derived.ReadAgain
import Derived.LaidMore
import Derived.Test.YtapflgppmigcdaaGreatDoorCards
import Derived.Test.YtapflgppmigcdaaGreatDoorTie
import Derived.Lay
import Derived.SevenTiedAt
import Derived.Stop.Joined
set_option linter.all false
namespace Go.T
open Go
def tq:Nat→Prop:=fun _=>False
structure bB(P:Program)(t:TypeId)(α:Type)(enc:α→List D):Prop where
 out:∀{H:Type}{eH:TypeId×Value→H}{w:World}{dH:Nat}{cs:List Value}{x:DataW H×List MemPlace},DataW.trod eH P w 0 (fun _=>true) true dH t cs=some x→(∀n∈x.1.weights P t,n≤reachBytes)→
  ∃a:α,(∀u∈cs,u.oneCell'=true)∧Vs w tq dt (enc a) cs
theorem bB.int{P:Program}{t:TypeId}(ht:P.underlying t=some (.int .i64)):bB P t Int (fun n=>[.i n]):=⟨fun h _=>by
 obtain⟨n,rfl,_,_⟩:=DataW.trod_int ht h;exact⟨n,by simp[Value.oneCell'],by simp[Vs,V]⟩⟩
theorem bB.bool{P:Program}{t:TypeId}(ht:P.underlying t=some .bool):bB P t Bool (fun n=>[.b n]):=⟨fun h _=>by
 obtain⟨n,rfl,_⟩:=DataW.trod_bool ht h;exact⟨n,by simp[Value.oneCell'],by simp[Vs,V]⟩⟩
theorem bB.str{P:Program}{t:TypeId}(ht:P.underlying t=some .string):bB P t aa (fun n=>[.str n]):=⟨fun h hw=>by
 obtain⟨s,rfl,rfl,_⟩:=DataW.trod_string ht h;have:=hw s.data.toList.length (by simp[DataW.weights]);refine⟨s.data.toList,by simp[Value.oneCell'],?_⟩;simp only[Vs,V];refine⟨_,_,rfl,⟨by simp,?_⟩,rfl⟩;have:=reachBytes_lt;unfold aG;omega⟩
structure xO(P:Program)(fs:List Field)(off:Nat)(α:Type)(enc:α→List D):Prop where
 out:∀{H:Type}{eH:TypeId×Value→H}{w:World}{dH:Nat}{cs:List Value}{xs:List (DataW H×List MemPlace)},xs.length=fs.length→
  (∀(i:Nat)(f:Field),fs[i]?=some f→DataW.trod eH P w 0 (fun _=>true) true dH f.type ((cs.drop f.offset).take (P.cellsOf f.type))=xs[i]?)→(∀n∈DataW.weightsEach P (fs.map (·.type)) (xs.map (·.1)),n≤reachBytes)→
  ∃a:α,(∀u∈(cs.drop off).take ((fs.map fun f=>P.cellsOf f.type).sum),u.oneCell'=true)∧Vs w tq dt (enc a) ((cs.drop off).take ((fs.map fun f=>P.cellsOf f.type).sum))
theorem xO.nil{P:Program}{off:Nat}:xO P [] off Unit (fun _=>[]):=⟨fun _ _ _=>⟨(),by simp,by simp[Vs]⟩⟩
theorem Vs.app{w:World}{O:Nat→Prop}{ρ:az}:∀{ds es:List D}{us vs:List Value},Vs w O ρ ds us→Vs w O ρ es vs→Vs w O ρ (ds++es) (us++vs)
 |[],es,us,vs,h,h'=>by simp only[Vs]at h;subst h;simpa using h'
 |d::ds,es,us,vs,h,h'=>by
  simp only[Vs]at h;obtain⟨u,us,rfl,h1,h2⟩:=h;simp only[List.cons_append,Vs];exact⟨_,_,rfl,h1,Vs.app h2 h'⟩
theorem xO.cons{P:Program}{f:Field}{fs:List Field}{off n:Nat}{α β:Type}{enc:α→List D}{enc':β→List D}(h1:bB P f.type α enc)(ho:f.offset=off)(hn:P.cellsOf f.type=n)(h2:xO P fs (off+n) β enc'):xO P (f::fs) off (α×β) (fun x=>enc x.1++enc' x.2):=⟨fun{H eH w dH cs xs} hl hr hw=>by
 match xs,hl with
 |x::xs,hl=>
  have hx:=hr 0 f rfl;simp only[List.map_cons,DataW.weightsEach,List.mem_append]at hw;obtain⟨a,ha,Kh⟩:=h1.out (by simpa using hx) (fun n hn=>hw n (.inl hn));obtain⟨b,hb,Ry⟩:=h2.out (xs:=xs) (by simpa using hl) (fun i g hg=>by simpa using hr (i+1) g (by simpa using hg)) (fun n hn=>hw n (.inr hn));rw[ho,hn]at ha Kh;have e:(cs.drop off).take (((f::fs).map fun f=>P.cellsOf f.type).sum)=(cs.drop off).take n++(cs.drop (off+n)).take ((fs.map fun f=>P.cellsOf f.type).sum):=by
   rw[List.map_cons,List.sum_cons,hn,List.take_add,List.drop_drop]
  rw[e];exact⟨(a,b),fun u hu=>(List.mem_append.1 hu).elim (ha u) (hb u),Vs.app Kh Ry⟩⟩
theorem bB.struct{P:Program}{t:TypeId}{fs:List Field}{α:Type}{enc:α→List D}(ht:P.underlying t=some (.struct fs.toArray))(hc:P.cellsOf t=(fs.map fun f=>P.cellsOf f.type).sum)(h:xO P fs 0 α enc):bB P t α enc:=⟨fun{H eH w dH cs x} hr hw=>by
 obtain⟨xs,n,_,rfl,hl,hlen,hf⟩:=DataW.trod_struct ht hr;simp only[DataW.weights,ht,List.map_map]at hw;obtain⟨a,h1,h2⟩:=h.out (by simpa using hlen) (fun i f hi=>hf i f (by simpa using hi)) (fun n hn=>hw n (by simpa[Function.comp_def]using hn));have e:(cs.drop 0).take ((fs.map fun f=>P.cellsOf f.type).sum)=cs:=by
  rw[List.drop_zero,←hc,←hl,List.take_length]
 rw[e]at h1 h2;exact⟨a,h1,h2⟩⟩
theorem bB.map{P:Program}{t:TypeId}{α β:Type}{enc:α→List D}{enc':β→List D}(h:bB P t α enc)(f:α→β)(he:∀a,enc' (f a)=enc a):bB P t β enc':=⟨fun hr hw=>by
 obtain⟨a,h1,h2⟩:=h.out hr hw;exact⟨f a,h1,by rw[he];exact h2⟩⟩
theorem Vs.WH{w:World}{O:Nat→Prop}{b:Nat}:∀{ds:List D}{cs:List Value}{off:Nat},Vs w O dt ds cs→(∀u∈cs,u.oneCell'=true)→(∀j u,cs[j]?=some u→w.cell? ⟨b,off+j,none⟩=some u)→Vc w O b off ds
 |[],_,_,_,_,_=>by simp[Vc]
 |d::ds,cs,off,h,h1,hc=>by
  simp only[Vs]at h;obtain⟨u,us,rfl,h2,h3⟩:=h;simp only[Vc];refine⟨⟨u,⟨by simpa using hc 0 u rfl,h1 u List.mem_cons_self⟩,h2⟩,Vs.WH h3 (fun v hv=>h1 v (List.mem_cons_of_mem _ hv)) (fun j v hj=>?_)⟩;have:=hc (j+1) v (by simpa using hj);rwa[show off+(j+1)=off+1+j by omega]at this
theorem Y_{w:World}{a:Addr}{n:Nat}{cs:List Value}(h:w.cells? 0 a n=some cs):cs.length=n∧∀j,j<n→w.cell? (a.add j)=cs[j]?:=by
 unfold World.cells? at h;rw[if_pos (Nat.zero_le _)]at h;exact⟨by simpa using mapM_some_length h,fun j hj=>by simpa using mapM_some_get h j j (by simp[hj])⟩
theorem als{w:World}{a:Addr}{u:Value}(h:w.cell? a=some u):a.spot=none:=by
 cases yV:a.spot with
 |none=>rfl
 |some s=>
  simp only[World.cell?]at h;split at h
  ·simp[yV]at h
  ·cases h
theorem M8{w:World}{b sz:Nat}{α:Type}{enc:α→List D}:∀{l:List α}{off:Nat},(∀i a,l[i]?=some a→(enc a).length=sz∧Vc w tq b (off+i*sz) (enc a))→Vr w tq b off sz (l.map enc)
 |[],_,_=>by simp[Vr]
 |a::l,off,h=>by
  simp only[List.map_cons,Vr];refine⟨by simpa using h 0 a rfl,M8 fun i a' hi=>?_⟩;have:=h (i+1) a' (by simpa using hi);rwa[show off+(i+1)*sz=off+sz+i*sz by rw[Nat.add_mul];omega]at this
theorem Pd{α:Type}{p:Nat→α→Prop}:∀(n:Nat),(∀i,i<n→∃a,p i a)→∃l:List α,l.length=n∧∀i a,l[i]?=some a→p i a
 |0,_=>⟨[],rfl,by simp⟩
 |n+1,h=>by
  obtain⟨l,h1,h2⟩:=Pd n (fun i hi=>h i zO);obtain⟨a,ha⟩:=h n zO;refine⟨l++[a],by simp[h1],fun i a' hi=>?_⟩;by_cases e:i<l.length
  ·rw[List.getElem?_append_left e]at hi;exact h2 i a' hi
  ·rw[List.getElem?_append_right zO]at hi;have:i=n:=by
    by_cases e2:i-l.length=0
    ·omega
    ·simp[List.getElem?_cons,e2]at hi
   subst this;simp[h1]at hi;subst hi;exact ha
theorem Xg{H:Type}{P:Program}{e:TypeId}:∀{ds:List (DataW H)}{i:Nat}{d:DataW H},ds[i]?=some d→∀n∈d.weights P e,n∈DataW.weightsAll P e ds
 |d0::ds,0,d,h,n,hn=>by
  simp only[List.getElem?_cons_zero,Option.some.injEq]at h;subst h;simp only[DataW.weightsAll,List.mem_append];exact .inl hn
 |d0::ds,i+1,d,h,n,hn=>by
  simp only[DataW.weightsAll,List.mem_append];exact .inr (Xg (by simpa using h) n hn)
 |[],_,_,h,_,_=>by simp at h
theorem bB.slice{P:Program}{t e:TypeId}{α:Type}{enc:α→List D}{sz k:Nat}(ht:P.underlying t=some (.slice e))(hc:P.cellsOf e=sz)(hz:sz≠0)(hb:P.bytesOf e=k+1)(h:bB P e α enc)(hl:∀a,(enc a).length=sz):bB P t (List α) (fun l=>[.snap sz false (l.map enc)]):=⟨fun{H eH w dH cs x} hr hw=>by
 rcases DataW.trod_slice ht hr with⟨rfl,rfl⟩|⟨a,len,cap,OY,rest,n,rfl,rfl,rfl,_,hlc,cJ,JG,eS,yV,_⟩
 ·refine⟨[],by simp[Value.oneCell'],?_⟩;simp only[Vs,V,List.map_nil];exact⟨_,_,rfl,⟨none,0,rfl,⟨Nat.le_refl _,by simp⟩,by simp,by simp⟩,rfl⟩
 ·simp only[DataW.weights,ht,List.mem_cons,List.mem_append,hb]at hw;have hlen:len≤aG:=by
   have h1:=hw _ (.inl rfl);simp only[List.length_map,JG]at h1;have h2:=reachBytes_lt;have h3:len+rest.length≤(len+rest.length)*(k+1):=Nat.le_mul_of_pos_right _ zO;unfold aG;omega
  have hq:∀i,i<len→∃y:α,(enc y).length=sz∧∃cs:List Value,cs.length=sz∧(∀u∈cs,u.oneCell'=true)∧Vs w tq dt (enc y) cs∧∀j,j<sz→w.cell? ((a.add (i*sz)).add j)=cs[j]?:=by
   intro i hi;have hg:=eS i hi;rw[hc]at hg;have mh:i<OY.length:=by omega
   rw[List.getElem?_eq_getElem mh]at hg;obtain⟨cs,Jz,hg⟩:=Option.bind_eq_some_iff.1 hg;obtain⟨y,h1,h2⟩:=h.out hg (fun n hn=>hw n (.inr (.inl (Xg (i:=i) (d:=OY[i].1) (by simp[mh]) n hn))));obtain⟨h3,h4⟩:=Y_ Jz;exact⟨y,hl y,cs,h3,h1,h2,h4⟩
  obtain⟨l,Q7,hp⟩:=Pd len hq;refine⟨l,by simp[Value.oneCell'],?_⟩;simp only[Vs,V,List.length_map];refine⟨_,_,rfl,⟨some a,cap,by rw[Q7],⟨by omega,by omega⟩,by simp,fun aD=>?_⟩,rfl⟩;have J7:0<len:=by
   cases l with
   |nil=>simp at aD
   |cons _ _=>simp at Q7;omega
  have h0:∃u,w.cell? a=some u:=by
   obtain⟨y,_,cs,h1,_,_,h4⟩:=hq 0 J7;have h5:=h4 0 zO;have h6:0<cs.length:=by omega
   rw[List.getElem?_eq_getElem h6]at h5;exact⟨cs[0],by simpa[Addr.add]using h5⟩
  obtain⟨u,hu⟩:=h0;have hs:=als hu;obtain⟨b,off,sp⟩:=a;simp only at hs;subst hs;refine⟨b,off,rfl,⟨Y8 hu,fun h=>h⟩,M8 fun i y hi=>?_⟩;obtain⟨g1,cs,g2,g3,g4,g5⟩:=hp i y hi;refine⟨g1,Vs.WH g4 g3 fun j v hj=>?_⟩;have JP:j<sz:=by
   have:=(List.getElem?_eq_some_iff.1 hj).1;omega
  rw[←hj,←g5 j JP]
  congr 1
  unfold Addr.add;by_cases e1:i*sz=0<;>by_cases e2:j=0<;>simp[e1,e2]⟩
open Go.ChangeShapes Go.WideShapes Go.RowKit Go.ChangeAt
structure qR(P:Program)(ts:List TypeId)(α:Type)(enc:α→List D):Prop where
 out:∀{H:Type}{eH:TypeId×Value→H}{w:World}{dz:Nat}{vs:List Value}{ds:List (DataW H)}{p:List MemPlace},DataW.TrodAll eH P w 0 (fun _=>true) true ts vs ds p→
  (∀(j:Nat) t v,ts[j]?=some t→vs[j]?=some v→Value.okWide P w .any dz t v)→(∀n∈DataW.weightsEach P ts ds,n≤reachBytes)→∃a:α,Vs w tq dt (enc a) vs
def G3(P:Program)(t:TypeId):Prop:=∀w dz v,Value.okWide P w .any dz t v→v.cells.toList=[v]
theorem G3.slice{P:Program}{t e:TypeId}(ht:P.underlying t=some (.slice e)):G3 P t:=fun w dz v h=>by
 obtain⟨a,l,c,rfl⟩:=okWide_slice ht h;rfl
theorem qR.nil{P:Program}:qR P [] Unit (fun _=>[]):=⟨fun{H eH w dz vs ds p} h _ _=>by
 match vs,ds,h with
 |[],[],_=>exact⟨(),by simp[Vs]⟩⟩
theorem qR.cons{P:Program}{t:TypeId}{ts:List TypeId}{α β:Type}{e:α→D}{enc:β→List D}(h1:bB P t α (fun a=>[e a]))(ho:G3 P t)(h2:qR P ts β enc):qR P (t::ts) (α×β) (fun x=>e x.1::enc x.2):=⟨fun{H eH w dz vs ds p} h hv hw=>by
 match vs,ds,h with
 |v::vs,d::ds,⟨p1,q1,⟨dH,hf⟩,h4,_⟩=>
  simp only[DataW.weightsEach,List.mem_append]at hw;obtain⟨b,hb⟩:=h2.out h4 (fun j t v ht iL=>hv (j+1) t v (by simpa using ht) (by simpa using iL)) (fun n hn=>hw n (.inr hn));rw[ho w dz v (hv 0 t v rfl rfl)]at hf;obtain⟨a,_,ha⟩:=h1.out hf (fun n hn=>hw n (.inl hn));simp only[Vs]at ha;obtain⟨u,us,e1,ha,rfl⟩:=ha;cases e1;exact⟨(a,b),v,vs,rfl,ha,hb⟩⟩
theorem fO.keptBut{w w':World}(h:fO w w')(may:MemPlace→Prop):w.keptBut w' may:=by
 refine⟨h.os.1,h.os.2.1,fun i hi=>?_⟩;rw[h.same i hi];split<;>simp_all
theorem fO.sameAt{w w':World}(h:fO w w'){p:MemPlace}(hp:p.block<w.heap.size):w.sameAt w' p:=by
 cases p with
 |cell b off=>
  simp only[MemPlace.block]at hp;simp[World.sameAt,World.cell?,h.same b hp]
 |map b=>exact h.same b hp
theorem WL{H:Type}{eH:TypeId×Value→H}{P:Program}{w w':World}{sp:Nat→Bool}(hk:fO w w'):∀{ts:List TypeId}{vs:List Value}{ds:List (DataW H)}{p:List MemPlace},DataW.TrodAll eH P w 0 sp true ts vs ds p→(∀x∈p,x.block<w.heap.size)→DataW.TrodAll eH P w' 0 sp true ts vs ds p
 |[],vs,ds,p,h,_=>by
  match vs,ds,h with
  |[],[],h=>exact h
 |t::ts,vs,ds,p,h,hp=>by
  match vs,ds,h with
  |v::vs,d::ds,⟨p1,q1,⟨dH,hf⟩,h4,e⟩=>
   subst e;exact⟨p1,q1,⟨dH,DataW.trod_carry _ _ _ _ hf fun x hx=>hk.sameAt (hp x (List.mem_append_left _ hx))⟩,WL hk h4 (fun x hx=>hp x (List.mem_append_right _ hx)),rfl⟩
theorem WM{H:Type}{eH:TypeId×Value→H}{P:Program}{w:World}{sp:Nat→Bool}:∀{ts:List TypeId}{vs:List Value}{ds:List (DataW H)}{p:List MemPlace},DataW.TrodAll eH P w 0 sp true ts vs ds p→ds.length=ts.length
 |[],vs,ds,p,h=>by
  match vs,ds,h with
  |[],[],h=>rfl
 |t::ts,vs,ds,p,h=>by
  match vs,ds,h with
  |v::vs,d::ds,⟨p1,q1,_,h4,e⟩=>simp[WM h4]
theorem agh{P:Program}{f:FuncId}{fn:Func}{s:ChangeSpec}{α:Type}{O5:α→List D}{tb:TypeId}
  (aeu:Kids P (· <P.types.size))(aeq:∀t e,t<P.types.size→P.underlying t=some (.slice e)→0<P.cellsOf e)
  (E5:∀t∈fn.params.toList,t<P.types.size)(Ki:s.vars=[])(qp:fn.resultTypes=#[tb])(hb:P.underlying tb=some .bool)
  (yV:∀(H:Type)(ds:List (DataW H)),ds.length=fn.params.size→s.fn H ds={results:=[.lit (.bool true)],args:=ds})
  (wx:qR P fn.params.toList α O5)(aev:∀a,Fc P f (O5 a) (.b true))
  {H:Type}{enc:TypeId×Value→H}{W:World}{dz:Nat}{args:Array Value}{ds gs:List (DataW H)}{Ny:List MemPlace}
  (E6:∀(j:Nat) t v,fn.params[j]?=some t→args[j]?=some v→Value.okWide P W .any dz t v)
  (hW:DataW.Whole enc P fn.params.toList s.vars false W args.toList ds gs Ny)
  (aY:(DataW.weightsEach P (fn.params.toList++s.plain.varTypes P) (ds++gs)).all (· ≤reachBytes)=true)(cK:Gl W tq):
  Calls P f args W fun e W'=>∃v,e=.returned v∧s.post enc P fn false true false false W args v W':=by
 have hW':=hW;obtain⟨p,q,hA,hV,rfl,_,_⟩:=hW;rw[Ki]at hV;obtain⟨rfl,rfl⟩:=trodVars_none hV;have s0:s.plain.varTypes P=[]:=by simp[ChangeSpec.plain,DataSpec.varTypes,Ki]
 rw[s0,List.append_nil,List.append_nil]at aY;obtain⟨a,ha⟩:=wx.out hA (fun j t v ht hv=>E6 j t v (by simpa using ht) (by simpa using hv)) (fun n hn=>by simpa using List.all_eq_true.1 aY n hn);have hlen:=WM hA;have bw:∀x∈p,x.block<W.heap.size:=fun x hx=>hA.lt x hx;refine((aev a).out W tq dt args.toList (fun b h=>h.elim) cK ha).mono ?_;rintro e W' ⟨v,rfl,hv,hk⟩;simp only[V]at hv;subst hv;have hf:s.fn H (ds++[])={results:=[.lit (.bool true)],args:=ds}:=by rw[List.append_nil];exact yV H ds (by simpa using hlen)
 refine⟨_,rfl,ds,[],p++[],[],p,[],hW',?_,?_,?_,hk.keptBut _,fun h=>by cases h⟩
 ·rw[hf,qp];exact trodAll_mk1 (shut_bool hb _)
 ·rw[hf];exact DataW.TrodAll.respare aeu aeq E5 (WL hk hA bw) (fun x hx=>by simpa using bw x hx)
 ·rw[hf,Ki];rfl
theorem aga{P:Program}{W:World}{n:String}{k:IntKind}{zs:List Int}{rest:List (String×DataW Unit)}{g t e:Nat}(hg:P.globalNamed n=some g)(ht:(P.globals[g]?).map (·.type)=some t)(hu:P.underlying t=some (.array zs.length e))(he:P.underlying e=some (.int k))(hce:P.cellsOf e=1)(hct:P.cellsOf t=zs.length)
  (pre:List (String×DataW Unit))(hL:laidMet P (pre++(n,.agg (zs.map fun z=>.lit (.int k z)))::rest) W):∃T fr,W.heap[g]?=some (.cells (zs.map fun z=>Value.int k z).toArray T fr):=by
 obtain⟨ps,h,hx⟩:=hL;clear hx;induction pre generalizing ps with
 |cons x pre ih=>
  obtain⟨_,_,_,_,_,q,_,_,_,_,h,_⟩:=h;exact ih q h
 |nil=>
  obtain⟨g',t',cs,dH,p,q,kZ,Kf,hv,hd,_⟩:=h;obtain rfl:=Option.some.inj (hg.symm.trans kZ);obtain rfl:=Option.some.inj (ht.symm.trans Kf);obtain⟨xs,m,_,ex,uD,hl,JG⟩:=DataW.trod_array hu hd;have e3:xs.map (·.1)=zs.map fun z=>.lit (.int k z):=(DataW.agg.inj (Prod.mk.inj ex).1).symm;have key:cs=(zs.map fun z=>Value.int k z).toArray:=by
   apply Array.ext';apply List.ext_getElem?;intro r;by_cases hr:r<zs.length
   ·have hE:=JG r hr;rw[hce,Nat.mul_one,List.getElem?_eq_getElem zO]at hE;obtain⟨z,e1,e2,_⟩:=DataW.trod_int he hE;have e4:(xs.map (·.1))[r]?=(zs.map fun n=>(DataW.lit (.int k n):DataW Unit))[r]?:=by rw[e3]
    rw[List.getElem?_map,List.getElem?_map,List.getElem?_eq_getElem (by omega:r<xs.length),List.getElem?_eq_getElem hr,e2]at e4;simp only[Option.map_some,Option.some.injEq,DataW.lit.injEq,Lit.int.injEq,true_and]at e4;have h0:((cs.toList.drop r).take 1)[0]?=some (.int k z):=by rw[e1];rfl
    have h1:cs.toList[r]?=some (.int k z):=by simpa using h0
    rw[h1,List.toList_toArray,List.getElem?_map,List.getElem?_eq_getElem hr,e4];rfl
   ·have:cs.toList.length=zs.length:=by rw[uD,hct]
    rw[List.getElem?_eq_none zO,List.getElem?_eq_none zQ]
  simp only[World.var?,hg,Option.bind_some]at hv;split at hv
  ·rename_i c T fr hb;cases hv;exact⟨T,fr,by rw[hb,key]⟩
  ·cases hv
theorem qR.N5{P:Program}{t:TypeId}{fs:Array Field}{ts:List TypeId}{α β:Type}{e:α→List D}{enc:β→List D}(ht:P.underlying t=some (.struct fs))(h1:bB P t α e)(h2:qR P ts β enc):qR P (t::ts) (α×β) (fun x=>.agg (e x.1)::enc x.2):=⟨fun{H eH w dz vs ds p} h hv hw=>by
 match vs,ds,h with
 |v::vs,d::ds,⟨p1,q1,⟨dH,hf⟩,h4,_⟩=>
  simp only[DataW.weightsEach,List.mem_append]at hw;obtain⟨b,hb⟩:=h2.out h4 (fun j t v ht iL=>hv (j+1) t v (by simpa using ht) (by simpa using iL)) (fun n hn=>hw n (.inr hn));obtain⟨cs,rfl,_⟩:=okWide_struct ht (hv 0 t v rfl rfl);obtain⟨a,_,ha⟩:=h1.out (cs:=cs.toList) hf (fun n hn=>hw n (.inl hn));exact⟨(a,b),_,vs,rfl,by simp only[V];exact⟨cs,rfl,ha⟩,hb⟩⟩
theorem Sp{P:Program}{W:World}{n nm:String}{d:DataW Unit}{rest:List (String×DataW Unit)}{g t:Nat}{ms:Array (String×TypeId)}(hg:P.globalNamed n=some g)(ht:(P.globals[g]?).map (·.type)=some t)(hu:P.underlying t=some (.interface ms))
  (pre:List (String×DataW Unit))(hL:laidMet P (pre++(n,.iface nm d)::rest) W):∃te pe T fr,W.heap[g]?=some (.cells #[.iface te pe] T fr):=by
 obtain⟨ps,h,hx⟩:=hL;clear hx;induction pre generalizing ps with
 |cons x pre ih=>
  obtain⟨_,_,_,_,_,q,_,_,_,_,h,_⟩:=h;exact ih q h
 |nil=>
  obtain⟨g',t',cs,dH,p,q,kZ,Kf,hv,hd,_⟩:=h;obtain rfl:=Option.some.inj (hg.symm.trans kZ);obtain rfl:=Option.some.inj (ht.symm.trans Kf);have key:∃te pe,cs.toList=[.iface te pe]:=by
   cases dH with
   |zero=>simp[DataW.trod]at hd
   |succ m=>
    rw[DataW.trod_step]at hd;unfold DataW.trodStep at hd;rw[hu]at hd;split at hd<;>simp_all
  obtain⟨te,pe,e⟩:=key;have e2:cs=#[.iface te pe]:=by
   apply Array.ext';rw[e]
  subst e2;simp only[World.var?,hg,Option.bind_some]at hv;split at hv
  ·rename_i c T fr hb;cases hv;exact⟨te,pe,T,fr,hb⟩
  ·cases hv
open Go.Proofs
set_option maxRecDepth 100000
theorem anx:Kids Tryz.prog (· <Tryz.prog.types.size):=kids_rows (by kernel_rfl) (by kernel_rfl)
theorem anw:∀t e,t<Tryz.prog.types.size→Tryz.prog.underlying t=some (.slice e)→0<Tryz.prog.cellsOf e:=slices_full_of Tryz.prog (by kernel_rfl)
theorem anz:ownKnob Tryz.prog.godebug=none:=by kernel_rfl
theorem anA:Tryz.prog.types.size=369:=by kernel_rfl
theorem pn:Tryz.prog.cellsOf 9=1:=by kernel_rfl
theorem qX:Tryz.prog.cellsOf 3=1:=by kernel_rfl
theorem aau:bB Tryz.prog 89 bA (l_):=
 (bB.struct Tryz.underlying89 (by kernel_rfl) (.cons (bB.str Tryz.underlying9) rfl pn (.cons (bB.int Tryz.underlying3) rfl qX .nil))).map (fun x=>⟨x.1,x.2.1⟩) (fun a=>rfl)
theorem aag:bB Tryz.prog 22 (List bA) (fun l=>[.snap 2 false (l.map (l_))]):=.slice (sz:=2) (k:=23) Tryz.underlying22 (by kernel_rfl) zD (by kernel_rfl) aau (fun _=>rfl)
theorem xX:Tryz.prog.cellsOf 33=1:=by kernel_rfl
theorem sw:bB Tryz.prog 35 aM (cj):=
 (bB.struct Tryz.underlying35 (by kernel_rfl) (.cons (bB.str Tryz.underlying33) rfl xX (.cons (bB.str Tryz.underlying33) rfl xX .nil))).map (fun x=>⟨x.1,x.2.1⟩) (fun a=>rfl)
theorem HH:Tryz.prog.cellsOf 32=1:=by kernel_rfl
theorem so:Tryz.prog.cellsOf 35=2:=by kernel_rfl
theorem aar:bB Tryz.prog 65 aW (gA):=
 (bB.struct Tryz.underlying65 (by kernel_rfl) (.cons (bB.str Tryz.underlying9) rfl pn (.cons (bB.int Tryz.underlying3) rfl qX (.cons (bB.str Tryz.underlying9) rfl pn (.cons (bB.int Tryz.underlying3) rfl qX (.cons (bB.int Tryz.underlying32) rfl HH (.cons (bB.int Tryz.underlying32) rfl HH (.cons sw rfl so (.cons sw rfl so (.cons (bB.int Tryz.underlying3) rfl qX (.cons (bB.int Tryz.underlying3) rfl qX (.cons (bB.str Tryz.underlying9) rfl pn (.cons sw rfl so .nil))))))))))))).map (fun x=>⟨x.1,x.2.1,x.2.2.1,x.2.2.2.1,x.2.2.2.2.1,x.2.2.2.2.2.1,x.2.2.2.2.2.2.1,x.2.2.2.2.2.2.2.1,x.2.2.2.2.2.2.2.2.1,x.2.2.2.2.2.2.2.2.2.1,x.2.2.2.2.2.2.2.2.2.2.1,x.2.2.2.2.2.2.2.2.2.2.2.1⟩) (fun a=>rfl)
theorem aah:bB Tryz.prog 23 (List aW) (fun l=>[.snap 15 false (l.map (gA))]):=.slice (sz:=15) (k:=191) Tryz.underlying23 (by kernel_rfl) zD (by kernel_rfl) aar (fun _=>rfl)
theorem aaf:bB Tryz.prog 110 vF (D2):=
 (bB.struct Tryz.underlying110 (by kernel_rfl) (.cons (bB.str Tryz.underlying9) rfl pn (.cons (bB.int Tryz.underlying3) rfl qX .nil))).map (fun x=>⟨x.1,x.2.1⟩) (fun a=>rfl)
theorem aai:bB Tryz.prog 24 (List vF) (fun l=>[.snap 2 false (l.map (D2))]):=.slice (sz:=2) (k:=23) Tryz.underlying24 (by kernel_rfl) zD (by kernel_rfl) aaf (fun _=>rfl)
theorem aaj:bB Tryz.prog 25 (List Int) (fun l=>[.snap 1 false (l.map (fun n=>[.i n]))]):=.slice (sz:=1) (k:=7) Tryz.underlying25 (by kernel_rfl) zD (by kernel_rfl) (bB.int Tryz.underlying3) (fun _=>rfl)
theorem Oj:bB Tryz.prog 26 (List Int) (fun l=>[.snap 1 false (l.map (fun n=>[.i n]))]):=.slice (sz:=1) (k:=7) Tryz.underlying26 (by kernel_rfl) zD (by kernel_rfl) (bB.int Tryz.underlying32) (fun _=>rfl)
theorem Y0:Tryz.prog.cellsOf 25=1:=by kernel_rfl
theorem NN:Tryz.prog.cellsOf 26=1:=by kernel_rfl
theorem aak:bB Tryz.prog 28 (List Int×List Int) (fun x=>[ir x.1,ir x.2]):=
 (bB.struct Tryz.underlying28 (by kernel_rfl) (.cons aaj rfl Y0 (.cons Oj rfl NN .nil))).map (fun x=>(x.1,x.2.1)) (fun a=>rfl)
theorem YX:Tryz.prog.cellsOf 22=1:=by kernel_rfl
theorem YY:Tryz.prog.cellsOf 23=1:=by kernel_rfl
theorem YZ:Tryz.prog.cellsOf 24=1:=by kernel_rfl
theorem Y1:Tryz.prog.cellsOf 28=2:=by kernel_rfl
theorem aal:bB Tryz.prog 30 Setup (fC):=
 (bB.struct Tryz.underlying30 (by kernel_rfl) (.cons aag rfl YX (.cons aah rfl YY (.cons aai rfl YZ (.cons aak rfl Y1 (.cons Oj rfl NN (.cons (bB.int Tryz.underlying3) rfl qX .nil))))))).map (fun x=>⟨x.1,x.2.1,x.2.2.1,x.2.2.2.1.1,x.2.2.2.1.2,x.2.2.2.2.1,x.2.2.2.2.2.1⟩) (fun a=>rfl)
theorem aas:bB Tryz.prog 85 du (jX):=
 (bB.struct Tryz.underlying85 (by kernel_rfl) (.cons (bB.str Tryz.underlying9) rfl pn (.cons (bB.str Tryz.underlying33) rfl xX .nil))).map (fun x=>⟨x.1,x.2.1⟩) (fun a=>rfl)
theorem aan:bB Tryz.prog 36 (List du) (fun l=>[.snap 2 false (l.map (jX))]):=.slice (sz:=2) (k:=31) Tryz.underlying36 (by kernel_rfl) zD (by kernel_rfl) aas (fun _=>rfl)
theorem aat:bB Tryz.prog 87 cT (ma):=
 (bB.struct Tryz.underlying87 (by kernel_rfl) (.cons (bB.str Tryz.underlying9) rfl pn (.cons sw rfl so (.cons sw rfl so (.cons sw rfl so .nil))))).map (fun x=>⟨x.1,x.2.1,x.2.2.1,x.2.2.2.1⟩) (fun a=>rfl)
theorem aao:bB Tryz.prog 37 (List cT) (fun l=>[.snap 7 false (l.map (ma))]):=.slice (sz:=7) (k:=111) Tryz.underlying37 (by kernel_rfl) zD (by kernel_rfl) aat (fun _=>rfl)
theorem Y4:Tryz.prog.cellsOf 4=1:=by kernel_rfl
theorem Y2:Tryz.prog.cellsOf 36=1:=by kernel_rfl
theorem Y3:Tryz.prog.cellsOf 37=1:=by kernel_rfl
theorem Ol:bB Tryz.prog 39 Fact (aX):=
 (bB.struct Tryz.underlying39 (by kernel_rfl) (.cons (bB.str Tryz.underlying9) rfl pn (.cons (bB.int Tryz.underlying3) rfl qX (.cons (bB.bool Tryz.underlying4) rfl Y4 (.cons (bB.int Tryz.underlying32) rfl HH (.cons (bB.int Tryz.underlying3) rfl qX (.cons (bB.str Tryz.underlying9) rfl pn (.cons (bB.str Tryz.underlying9) rfl pn (.cons (bB.str Tryz.underlying9) rfl pn (.cons (bB.str Tryz.underlying9) rfl pn (.cons (bB.str Tryz.underlying33) rfl xX (.cons (bB.str Tryz.underlying33) rfl xX (.cons (bB.str Tryz.underlying33) rfl xX (.cons sw rfl so (.cons sw rfl so (.cons sw rfl so (.cons aan rfl Y2 (.cons aao rfl Y3 (.cons (bB.int Tryz.underlying3) rfl qX .nil))))))))))))))))))).map (fun x=>⟨x.1,x.2.1,x.2.2.1,x.2.2.2.1,x.2.2.2.2.1,x.2.2.2.2.2.1,x.2.2.2.2.2.2.1,x.2.2.2.2.2.2.2.1,x.2.2.2.2.2.2.2.2.1,x.2.2.2.2.2.2.2.2.2.1,x.2.2.2.2.2.2.2.2.2.2.1,x.2.2.2.2.2.2.2.2.2.2.2.1,x.2.2.2.2.2.2.2.2.2.2.2.2.1,x.2.2.2.2.2.2.2.2.2.2.2.2.2.1,x.2.2.2.2.2.2.2.2.2.2.2.2.2.2.1,x.2.2.2.2.2.2.2.2.2.2.2.2.2.2.2.1,x.2.2.2.2.2.2.2.2.2.2.2.2.2.2.2.2.1,x.2.2.2.2.2.2.2.2.2.2.2.2.2.2.2.2.2.1⟩) (fun a=>rfl)
theorem aam:bB Tryz.prog 31 (List Fact) (fun l=>[.snap 21 false (l.map (aX))]):=.slice (sz:=21) (k:=311) Tryz.underlying31 (by kernel_rfl) zD (by kernel_rfl) Ol (fun _=>rfl)
theorem aaq:bB Tryz.prog 48 (List aa) (fun l=>[.snap 1 false (l.map (fun n=>[.str n]))]):=.slice (sz:=1) (k:=15) Tryz.underlying48 (by kernel_rfl) zD (by kernel_rfl) (bB.str Tryz.underlying9) (fun _=>rfl)
theorem aap:bB Tryz.prog 43 (List ((List aa))) (fun l=>[.snap 1 false (l.map (fun l=>[.snap 1 false (l.map (fun n=>[.str n]))]))]):=.slice (sz:=1) (k:=23) Tryz.underlying43 (by kernel_rfl) zD (by kernel_rfl) aaq (fun _=>rfl)
def wV:List (String×DataW Unit):=Go.Proofs.YtapflgppmigcdaaGreatDoor.Rows.dependMoreRow.laid
theorem adf{W:World}(h:laidMetH Tryz.prog wV W):Gl W tq:=by
 rw[MakeChecks.laidMetH_plain _ _ _ (by kernel_rfl)]at h;refine⟨fun g vs hm=>⟨?_,fun h=>h⟩,fun g hm=>⟨?_,fun h=>h⟩⟩
 ·simp only[Qn,List.mem_singleton,Prod.mk.injEq]at hm;obtain⟨rfl,rfl⟩:=hm;have:=aga (P:=Tryz.prog) (W:=W) (n:= "internal/strconv.uint64pow10") (k:=.u64) (zs:=Ge.map fun(n:Nat)=>(n:Int)) (g:=5) (t:=350) (e:=184) (by kernel_rfl) (by kernel_rfl) Tryz.underlying350 Tryz.underlying184 (by kernel_rfl) (by kernel_rfl) (wV.take 2) (rest:=wV.drop 3) h;simpa[Function.comp_def]using this
 ·simp only[Ir,List.mem_cons,List.not_mem_nil,or_false]at hm;rcases hm with rfl|rfl
  ·exact Sp (P:=Tryz.prog) (W:=W) (n:= "strconv.ErrSyntax") (g:=3) (t:=239) (by kernel_rfl) (by kernel_rfl) Tryz.underlying239 (wV.take 5) (rest:=wV.drop 6) h
  ·exact Sp (P:=Tryz.prog) (W:=W) (n:= "strconv.ErrRange") (g:=4) (t:=239) (by kernel_rfl) (by kernel_rfl) Tryz.underlying239 (wV.take 4) (rest:=wV.drop 5) h
end Go.T
