/-
  Contracts of the functions that the statement reaches, and the logic in which they are proved (no condition): parts Card2, CardB, CardC.
-/
import Derived.Test.YtapflgppmigcdaaGreatDoorA20
import Derived.ProofKit
import Derived.OpenShut
import Derived.ReadAgain
import Derived.LaidMore
import Derived.Test.YtapflgppmigcdaaGreatDoorCards
import Derived.Test.YtapflgppmigcdaaGreatDoorTie
import Derived.Lay
import Derived.SevenTiedAt
import Derived.Stop.Joined
set_option linter.all false
namespace Go.T
open Go Go.ChangeShapes Go.WideShapes Go.RowKit Go.ChangeAt
structure qc(P:Program)(ts:List TypeId)(α:Type)(enc:α→List D):Prop where
 out:∀{H:Type}{eH:TypeId×Value→H}{w:World}{iB:Nat}{vs:List Value}{ds:List (DataW H)}{p:List MemPlace},DataW.TrodAll eH P w 0 (fun _=>true) true ts vs ds p→
  (∀(j:Nat) t v,ts[j]?=some t→vs[j]?=some v→Value.okWide P w .any iB t v)→(∀n∈DataW.weightsEach P ts ds,n≤reachBytes)→∃a:α,Vs w sB di (enc a) vs
def Fm(P:Program)(t:TypeId):Prop:=∀w iB v,Value.okWide P w .any iB t v→v.cells.toList=[v]
theorem Fm.slice{P:Program}{t e:TypeId}(ht:P.underlying t=some (.slice e)):Fm P t:=fun w iB v h=>by
 obtain⟨a,l,c,rfl⟩:=okWide_slice ht h;rfl
theorem qc.nil{P:Program}:qc P [] Unit (fun _=>[]):=⟨fun{H eH w iB vs ds p} h _ _=>by
 match vs,ds,h with
 |[],[],_=>exact⟨(),by simp[Vs]⟩⟩
theorem qc.cons{P:Program}{t:TypeId}{ts:List TypeId}{α β:Type}{e:α→D}{enc:β→List D}(h1:bx P t α (fun a=>[e a]))(ho:Fm P t)(h2:qc P ts β enc):qc P (t::ts) (α×β) (fun x=>e x.1::enc x.2):=⟨fun{H eH w iB vs ds p} h hv hw=>by
 match vs,ds,h with
 |v::vs,d::ds,⟨p1,q1,⟨dx,hf⟩,h4,_⟩=>
  simp only[DataW.weightsEach,List.mem_append]at hw;obtain⟨b,hb⟩:=h2.out h4 (fun j t v ht ij=>hv (j+1) t v (by simpa using ht) (by simpa using ij)) (fun n hn=>hw n (.inr hn));rw[ho w iB v (hv 0 t v rfl rfl)]at hf;obtain⟨a,_,ha⟩:=h1.out hf (fun n hn=>hw n (.inl hn));simp only[Vs]at ha;obtain⟨u,us,e1,ha,rfl⟩:=ha;cases e1;exact⟨(a,b),v,vs,rfl,ha,hb⟩⟩
theorem ff.keptBut{w w':World}(h:ff w w')(may:MemPlace→Prop):w.keptBut w' may:=by
 refine⟨h.os.1,h.os.2.1,fun i hi=>?_⟩;rw[h.same i hi];split<;>simp_all
theorem ff.sameAt{w w':World}(h:ff w w'){p:MemPlace}(hp:p.block<w.heap.size):w.sameAt w' p:=by
 cases p with
 |cell b off=>
  simp only[MemPlace.block]at hp;simp[World.sameAt,World.cell?,h.same b hp]
 |map b=>exact h.same b hp
theorem T8{H:Type}{eH:TypeId×Value→H}{P:Program}{w w':World}{sp:Nat→Bool}(hk:ff w w'):∀{ts:List TypeId}{vs:List Value}{ds:List (DataW H)}{p:List MemPlace},DataW.TrodAll eH P w 0 sp true ts vs ds p→(∀x∈p,x.block<w.heap.size)→DataW.TrodAll eH P w' 0 sp true ts vs ds p
 |[],vs,ds,p,h,_=>by
  match vs,ds,h with
  |[],[],h=>exact h
 |t::ts,vs,ds,p,h,hp=>by
  match vs,ds,h with
  |v::vs,d::ds,⟨p1,q1,⟨dx,hf⟩,h4,e⟩=>
   subst e;exact⟨p1,q1,⟨dx,DataW.trod_carry _ _ _ _ hf fun x hx=>hk.sameAt (hp x (List.mem_append_left _ hx))⟩,T8 hk h4 (fun x hx=>hp x (List.mem_append_right _ hx)),rfl⟩
theorem T9{H:Type}{eH:TypeId×Value→H}{P:Program}{w:World}{sp:Nat→Bool}:∀{ts:List TypeId}{vs:List Value}{ds:List (DataW H)}{p:List MemPlace},DataW.TrodAll eH P w 0 sp true ts vs ds p→ds.length=ts.length
 |[],vs,ds,p,h=>by
  match vs,ds,h with
  |[],[],h=>rfl
 |t::ts,vs,ds,p,h=>by
  match vs,ds,h with
  |v::vs,d::ds,⟨p1,q1,_,h4,e⟩=>simp[T9 h4]
theorem aey{P:Program}{f:FuncId}{fn:Func}{s:ChangeSpec}{α:Type}{MR:α→List D}{tb:TypeId}
  (acU:Kids P (· <P.types.size))(acQ:∀t e,t<P.types.size→P.underlying t=some (.slice e)→0<P.cellsOf e)
  (hts:∀t∈fn.params.toList,t<P.types.size)(In:s.vars=[])(pH:fn.resultTypes=#[tb])(hb:P.underlying tb=some .bool)
  (x5:∀(H:Type)(ds:List (DataW H)),ds.length=fn.params.size→s.fn H ds={results:=[.lit (.bool true)],args:=ds})
  (vI:qc P fn.params.toList α MR)(acV:∀a,Fc P f (MR a) (.b true))
  {H:Type}{enc:TypeId×Value→H}{W:World}{iB:Nat}{args:Array Value}{ds gs:List (DataW H)}{Lt:List MemPlace}
  (DI:∀(j:Nat) t v,fn.params[j]?=some t→args[j]?=some v→Value.okWide P W .any iB t v)
  (hW:DataW.Whole enc P fn.params.toList s.vars false W args.toList ds gs Lt)
  (be:(DataW.weightsEach P (fn.params.toList++s.plain.varTypes P) (ds++gs)).all (· ≤reachBytes)=true)(cQ:Gl W sB):
  Calls P f args W fun e W'=>∃v,e=.returned v∧s.post enc P fn false true false false W args v W':=by
 have hW':=hW;obtain⟨p,q,hA,hV,rfl,_,_⟩:=hW;rw[In]at hV;obtain⟨rfl,rfl⟩:=trodVars_none hV;have r6:s.plain.varTypes P=[]:=by simp[ChangeSpec.plain,DataSpec.varTypes,In]
 rw[r6,List.append_nil,List.append_nil]at be;obtain⟨a,ha⟩:=vI.out hA (fun j t v ht hv=>DI j t v (by simpa using ht) (by simpa using hv)) (fun n hn=>by simpa using List.all_eq_true.1 be n hn);have hlen:=T9 hA;have bw:∀x∈p,x.block<W.heap.size:=fun x hx=>hA.lt x hx;refine((acV a).out W sB di args.toList (fun b h=>h.elim) cQ ha).mono ?_;rintro e W' ⟨v,rfl,hv,hk⟩;simp only[V]at hv;subst hv;have hf:s.fn H (ds++[])={results:=[.lit (.bool true)],args:=ds}:=by rw[List.append_nil];exact x5 H ds (by simpa using hlen)
 refine⟨_,rfl,ds,[],p++[],[],p,[],hW',?_,?_,?_,hk.keptBut _,fun h=>by cases h⟩
 ·rw[hf,pH];exact trodAll_mk1 (shut_bool hb _)
 ·rw[hf];exact DataW.TrodAll.respare acU acQ hts (T8 hk hA bw) (fun x hx=>by simpa using bw x hx)
 ·rw[hf,In];rfl
theorem aej{P:Program}{W:World}{n:String}{k:IntKind}{zs:List Int}{rest:List (String×DataW Unit)}{g t e:Nat}(hg:P.globalNamed n=some g)(ht:(P.globals[g]?).map (·.type)=some t)(hu:P.underlying t=some (.array zs.length e))(he:P.underlying e=some (.int k))(hce:P.cellsOf e=1)(hct:P.cellsOf t=zs.length)
  (pre:List (String×DataW Unit))(hL:laidMet P (pre++(n,.agg (zs.map fun z=>.lit (.int k z)))::rest) W):∃T fr,W.heap[g]?=some (.cells (zs.map fun z=>Value.int k z).toArray T fr):=by
 obtain⟨ps,h,hx⟩:=hL;clear hx;induction pre generalizing ps with
 |cons x pre ih=>
  obtain⟨_,_,_,_,_,q,_,_,_,_,h,_⟩:=h;exact ih q h
 |nil=>
  obtain⟨g',t',cs,dx,p,q,lG,Ik,hv,hd,_⟩:=h;obtain rfl:=Option.some.inj (hg.symm.trans lG);obtain rfl:=Option.some.inj (ht.symm.trans Ik);obtain⟨xs,m,_,ex,tM,hl,HI⟩:=DataW.trod_array hu hd;have e3:xs.map (·.1)=zs.map fun z=>.lit (.int k z):=(DataW.agg.inj (Prod.mk.inj ex).1).symm;have key:cs=(zs.map fun z=>Value.int k z).toArray:=by
   apply Array.ext';apply List.ext_getElem?;intro r;by_cases hr:r<zs.length
   ·have hE:=HI r hr;rw[hce,Nat.mul_one,List.getElem?_eq_getElem zO]at hE;obtain⟨z,e1,e2,_⟩:=DataW.trod_int he hE;have e4:(xs.map (·.1))[r]?=(zs.map fun n=>(DataW.lit (.int k n):DataW Unit))[r]?:=by rw[e3]
    rw[List.getElem?_map,List.getElem?_map,List.getElem?_eq_getElem (by omega:r<xs.length),List.getElem?_eq_getElem hr,e2]at e4;simp only[Option.map_some,Option.some.injEq,DataW.lit.injEq,Lit.int.injEq,true_and]at e4;have h0:((cs.toList.drop r).take 1)[0]?=some (.int k z):=by rw[e1];rfl
    have h1:cs.toList[r]?=some (.int k z):=by simpa using h0
    rw[h1,List.toList_toArray,List.getElem?_map,List.getElem?_eq_getElem hr,e4];rfl
   ·have:cs.toList.length=zs.length:=by rw[tM,hct]
    rw[List.getElem?_eq_none zO,List.getElem?_eq_none zQ]
  simp only[World.var?,hg,Option.bind_some]at hv;split at hv
  ·rename_i c T fr hb;cases hv;exact⟨T,fr,by rw[hb,key]⟩
  ·cases hv
theorem qc.Xb{P:Program}{t:TypeId}{fs:Array Field}{ts:List TypeId}{α β:Type}{e:α→List D}{enc:β→List D}(ht:P.underlying t=some (.struct fs))(h1:bx P t α e)(h2:qc P ts β enc):qc P (t::ts) (α×β) (fun x=>.agg (e x.1)::enc x.2):=⟨fun{H eH w iB vs ds p} h hv hw=>by
 match vs,ds,h with
 |v::vs,d::ds,⟨p1,q1,⟨dx,hf⟩,h4,_⟩=>
  simp only[DataW.weightsEach,List.mem_append]at hw;obtain⟨b,hb⟩:=h2.out h4 (fun j t v ht ij=>hv (j+1) t v (by simpa using ht) (by simpa using ij)) (fun n hn=>hw n (.inr hn));obtain⟨cs,rfl,_⟩:=okWide_struct ht (hv 0 t v rfl rfl);obtain⟨a,_,ha⟩:=h1.out (cs:=cs.toList) hf (fun n hn=>hw n (.inl hn));exact⟨(a,b),_,vs,rfl,by simp only[V];exact⟨cs,rfl,ha⟩,hb⟩⟩
theorem P_{P:Program}{W:World}{n nm:String}{d:DataW Unit}{rest:List (String×DataW Unit)}{g t:Nat}{ms:Array (String×TypeId)}(hg:P.globalNamed n=some g)(ht:(P.globals[g]?).map (·.type)=some t)(hu:P.underlying t=some (.interface ms))
  (pre:List (String×DataW Unit))(hL:laidMet P (pre++(n,.iface nm d)::rest) W):∃te pe T fr,W.heap[g]?=some (.cells #[.iface te pe] T fr):=by
 obtain⟨ps,h,hx⟩:=hL;clear hx;induction pre generalizing ps with
 |cons x pre ih=>
  obtain⟨_,_,_,_,_,q,_,_,_,_,h,_⟩:=h;exact ih q h
 |nil=>
  obtain⟨g',t',cs,dx,p,q,lG,Ik,hv,hd,_⟩:=h;obtain rfl:=Option.some.inj (hg.symm.trans lG);obtain rfl:=Option.some.inj (ht.symm.trans Ik);have key:∃te pe,cs.toList=[.iface te pe]:=by
   cases dx with
   |zero=>simp[DataW.trod]at hd
   |succ m=>
    rw[DataW.trod_step]at hd;unfold DataW.trodStep at hd;rw[hu]at hd;split at hd<;>simp_all
  obtain⟨te,pe,e⟩:=key;have e2:cs=#[.iface te pe]:=by
   apply Array.ext';rw[e]
  subst e2;simp only[World.var?,hg,Option.bind_some]at hv;split at hv
  ·rename_i c T fr hb;cases hv;exact⟨te,pe,T,fr,hb⟩
  ·cases hv
open Go.Proofs
set_option maxRecDepth 100000
theorem alv:Kids Tryz.prog (· <Tryz.prog.types.size):=kids_rows (by kernel_rfl) (by kernel_rfl)
theorem alu:∀t e,t<Tryz.prog.types.size→Tryz.prog.underlying t=some (.slice e)→0<Tryz.prog.cellsOf e:=slices_full_of Tryz.prog (by kernel_rfl)
theorem alw:ownKnob Tryz.prog.godebug=none:=by kernel_rfl
theorem alx:Tryz.prog.types.size=369:=by kernel_rfl
theorem oA:Tryz.prog.cellsOf 9=1:=by kernel_rfl
theorem qk:Tryz.prog.cellsOf 3=1:=by kernel_rfl
theorem X0:bx Tryz.prog 89 cp (qq):=
 (bx.struct Tryz.underlying89 (by kernel_rfl) (.cons (bx.str Tryz.underlying9) rfl oA (.cons (bx.int Tryz.underlying3) rfl qk .nil))).map (fun x=>⟨x.1,x.2.1⟩) (fun a=>rfl)
theorem XN:bx Tryz.prog 22 (List cp) (fun l=>[.snap 2 false (l.map (qq))]):=.slice (sz:=2) (k:=23) Tryz.underlying22 (by kernel_rfl) zD (by kernel_rfl) X0 (fun _=>rfl)
theorem xj:Tryz.prog.cellsOf 33=1:=by kernel_rfl
theorem rK:bx Tryz.prog 35 aP (cG):=
 (bx.struct Tryz.underlying35 (by kernel_rfl) (.cons (bx.str Tryz.underlying33) rfl xj (.cons (bx.str Tryz.underlying33) rfl xj .nil))).map (fun x=>⟨x.1,x.2.1⟩) (fun a=>rfl)
theorem FZ:Tryz.prog.cellsOf 32=1:=by kernel_rfl
theorem rH:Tryz.prog.cellsOf 35=2:=by kernel_rfl
theorem XX:bx Tryz.prog 65 bJ (iD):=
 (bx.struct Tryz.underlying65 (by kernel_rfl) (.cons (bx.str Tryz.underlying9) rfl oA (.cons (bx.int Tryz.underlying3) rfl qk (.cons (bx.str Tryz.underlying9) rfl oA (.cons (bx.int Tryz.underlying3) rfl qk (.cons (bx.int Tryz.underlying32) rfl FZ (.cons (bx.int Tryz.underlying32) rfl FZ (.cons rK rfl rH (.cons rK rfl rH (.cons (bx.int Tryz.underlying3) rfl qk (.cons (bx.int Tryz.underlying3) rfl qk (.cons (bx.str Tryz.underlying9) rfl oA (.cons rK rfl rH .nil))))))))))))).map (fun x=>⟨x.1,x.2.1,x.2.2.1,x.2.2.2.1,x.2.2.2.2.1,x.2.2.2.2.2.1,x.2.2.2.2.2.2.1,x.2.2.2.2.2.2.2.1,x.2.2.2.2.2.2.2.2.1,x.2.2.2.2.2.2.2.2.2.1,x.2.2.2.2.2.2.2.2.2.2.1,x.2.2.2.2.2.2.2.2.2.2.2.1⟩) (fun a=>rfl)
theorem XO:bx Tryz.prog 23 (List bJ) (fun l=>[.snap 15 false (l.map (iD))]):=.slice (sz:=15) (k:=191) Tryz.underlying23 (by kernel_rfl) zD (by kernel_rfl) XX (fun _=>rfl)
theorem XM:bx Tryz.prog 110 uV (CO):=
 (bx.struct Tryz.underlying110 (by kernel_rfl) (.cons (bx.str Tryz.underlying9) rfl oA (.cons (bx.int Tryz.underlying3) rfl qk .nil))).map (fun x=>⟨x.1,x.2.1⟩) (fun a=>rfl)
theorem XP:bx Tryz.prog 24 (List uV) (fun l=>[.snap 2 false (l.map (CO))]):=.slice (sz:=2) (k:=23) Tryz.underlying24 (by kernel_rfl) zD (by kernel_rfl) XM (fun _=>rfl)
theorem XQ:bx Tryz.prog 25 (List Int) (fun l=>[.snap 1 false (l.map (fun n=>[.i n]))]):=.slice (sz:=1) (k:=7) Tryz.underlying25 (by kernel_rfl) zD (by kernel_rfl) (bx.int Tryz.underlying3) (fun _=>rfl)
theorem Mg:bx Tryz.prog 26 (List Int) (fun l=>[.snap 1 false (l.map (fun n=>[.i n]))]):=.slice (sz:=1) (k:=7) Tryz.underlying26 (by kernel_rfl) zD (by kernel_rfl) (bx.int Tryz.underlying32) (fun _=>rfl)
theorem V9:Tryz.prog.cellsOf 25=1:=by kernel_rfl
theorem LI:Tryz.prog.cellsOf 26=1:=by kernel_rfl
theorem XR:bx Tryz.prog 28 (List Int×List Int) (fun x=>[gU x.1,gU x.2]):=
 (bx.struct Tryz.underlying28 (by kernel_rfl) (.cons XQ rfl V9 (.cons Mg rfl LI .nil))).map (fun x=>(x.1,x.2.1)) (fun a=>rfl)
theorem V6:Tryz.prog.cellsOf 22=1:=by kernel_rfl
theorem V7:Tryz.prog.cellsOf 23=1:=by kernel_rfl
theorem V8:Tryz.prog.cellsOf 24=1:=by kernel_rfl
theorem V_:Tryz.prog.cellsOf 28=2:=by kernel_rfl
theorem XS:bx Tryz.prog 30 Setup (iR):=
 (bx.struct Tryz.underlying30 (by kernel_rfl) (.cons XN rfl V6 (.cons XO rfl V7 (.cons XP rfl V8 (.cons XR rfl V_ (.cons Mg rfl LI (.cons (bx.int Tryz.underlying3) rfl qk .nil))))))).map (fun x=>⟨x.1,x.2.1,x.2.2.1,x.2.2.2.1.1,x.2.2.2.1.2,x.2.2.2.2.1,x.2.2.2.2.2.1⟩) (fun a=>rfl)
theorem XY:bx Tryz.prog 85 cX (iQ):=
 (bx.struct Tryz.underlying85 (by kernel_rfl) (.cons (bx.str Tryz.underlying9) rfl oA (.cons (bx.str Tryz.underlying33) rfl xj .nil))).map (fun x=>⟨x.1,x.2.1⟩) (fun a=>rfl)
theorem XU:bx Tryz.prog 36 (List cX) (fun l=>[.snap 2 false (l.map (iQ))]):=.slice (sz:=2) (k:=31) Tryz.underlying36 (by kernel_rfl) zD (by kernel_rfl) XY (fun _=>rfl)
theorem XZ:bx Tryz.prog 87 cR (lA):=
 (bx.struct Tryz.underlying87 (by kernel_rfl) (.cons (bx.str Tryz.underlying9) rfl oA (.cons rK rfl rH (.cons rK rfl rH (.cons rK rfl rH .nil))))).map (fun x=>⟨x.1,x.2.1,x.2.2.1,x.2.2.2.1⟩) (fun a=>rfl)
theorem XV:bx Tryz.prog 37 (List cR) (fun l=>[.snap 7 false (l.map (lA))]):=.slice (sz:=7) (k:=111) Tryz.underlying37 (by kernel_rfl) zD (by kernel_rfl) XZ (fun _=>rfl)
theorem Wb:Tryz.prog.cellsOf 4=1:=by kernel_rfl
theorem V':Tryz.prog.cellsOf 36=1:=by kernel_rfl
theorem Wa:Tryz.prog.cellsOf 37=1:=by kernel_rfl
theorem XW:bx Tryz.prog 39 Fact (aM):=
 (bx.struct Tryz.underlying39 (by kernel_rfl) (.cons (bx.str Tryz.underlying9) rfl oA (.cons (bx.int Tryz.underlying3) rfl qk (.cons (bx.bool Tryz.underlying4) rfl Wb (.cons (bx.int Tryz.underlying32) rfl FZ (.cons (bx.int Tryz.underlying3) rfl qk (.cons (bx.str Tryz.underlying9) rfl oA (.cons (bx.str Tryz.underlying9) rfl oA (.cons (bx.str Tryz.underlying9) rfl oA (.cons (bx.str Tryz.underlying9) rfl oA (.cons (bx.str Tryz.underlying33) rfl xj (.cons (bx.str Tryz.underlying33) rfl xj (.cons (bx.str Tryz.underlying33) rfl xj (.cons rK rfl rH (.cons rK rfl rH (.cons rK rfl rH (.cons XU rfl V' (.cons XV rfl Wa (.cons (bx.int Tryz.underlying3) rfl qk .nil))))))))))))))))))).map (fun x=>⟨x.1,x.2.1,x.2.2.1,x.2.2.2.1,x.2.2.2.2.1,x.2.2.2.2.2.1,x.2.2.2.2.2.2.1,x.2.2.2.2.2.2.2.1,x.2.2.2.2.2.2.2.2.1,x.2.2.2.2.2.2.2.2.2.1,x.2.2.2.2.2.2.2.2.2.2.1,x.2.2.2.2.2.2.2.2.2.2.2.1,x.2.2.2.2.2.2.2.2.2.2.2.2.1,x.2.2.2.2.2.2.2.2.2.2.2.2.2.1,x.2.2.2.2.2.2.2.2.2.2.2.2.2.2.1,x.2.2.2.2.2.2.2.2.2.2.2.2.2.2.2.1,x.2.2.2.2.2.2.2.2.2.2.2.2.2.2.2.2.1,x.2.2.2.2.2.2.2.2.2.2.2.2.2.2.2.2.2.1⟩) (fun a=>rfl)
theorem XT:bx Tryz.prog 31 (List Fact) (fun l=>[.snap 21 false (l.map (aM))]):=.slice (sz:=21) (k:=311) Tryz.underlying31 (by kernel_rfl) zD (by kernel_rfl) XW (fun _=>rfl)
def wg:List (String×DataW Unit):=Go.Proofs.YtapflgppmigcdaaGreatDoor.Rows.dependMoreRow.laid
theorem abz{W:World}(h:laidMetH Tryz.prog wg W):Gl W sB:=by
 rw[MakeChecks.laidMetH_plain _ _ _ (by kernel_rfl)]at h;refine⟨fun g vs hm=>⟨?_,fun h=>h⟩,fun g hm=>⟨?_,fun h=>h⟩⟩
 ·simp only[N',List.mem_singleton,Prod.mk.injEq]at hm;obtain⟨rfl,rfl⟩:=hm;have:=aej (P:=Tryz.prog) (W:=W) (n:= "internal/strconv.uint64pow10") (k:=.u64) (zs:=Ey.map fun(n:Nat)=>(n:Int)) (g:=5) (t:=350) (e:=184) (by kernel_rfl) (by kernel_rfl) Tryz.underlying350 Tryz.underlying184 (by kernel_rfl) (by kernel_rfl) (wg.take 2) (rest:=wg.drop 3) h;simpa[Function.comp_def]using this
 ·simp only[GA,List.mem_cons,List.not_mem_nil,or_false]at hm;rcases hm with rfl|rfl
  ·exact P_ (P:=Tryz.prog) (W:=W) (n:= "strconv.ErrSyntax") (g:=3) (t:=239) (by kernel_rfl) (by kernel_rfl) Tryz.underlying239 (wg.take 5) (rest:=wg.drop 6) h
  ·exact P_ (P:=Tryz.prog) (W:=W) (n:= "strconv.ErrRange") (g:=4) (t:=239) (by kernel_rfl) (by kernel_rfl) Tryz.underlying239 (wg.take 4) (rest:=wg.drop 5) h
end Go.T
