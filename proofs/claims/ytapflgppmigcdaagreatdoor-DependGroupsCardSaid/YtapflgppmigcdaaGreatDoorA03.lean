/-
  Contracts of the functions that the statement reaches, and the logic in which they are proved (no condition): parts Core7, Core8, Core9, Core10, Core11, Sq, Core12, Core13, Sq2, Spec1, SpecD1.
-/
import Derived.Test.YtapflgppmigcdaaGreatDoorA02
import Derived.Tactics
import Derived.OwnWalk
set_option linter.all false
namespace Go.T
open Go
variable[bX]
theorem aq.step{P:Program}{o:Oper}{env:Env}{U am:ae}{d:D}
  (h:∀(O:Nat→Prop)(ρ:az)(a:Act)(w:World),cF w O ρ U→(∀x∈o.op.operands.toList,∀d',env.op x=some d'→V w (Ot O ρ U) ρ d' (a.eval x))→
   ∃v w' av,((execOp a.eval o).run P w=.ok (.value v) w'∨((execOp a.eval o).run P w=.ok .skip w'∧v=undef))∧Tr O w ρ U w' av am∧V w' (Ot O av am) av d v):aq P o env U d am:=by
 intro O ρ a w aj _ hv;obtain⟨v,w',av,h1,h2,h3⟩:=h O ρ a w aj hv;unfold Oper.wp;rcases h1 with h1|⟨h1,rfl⟩
 ·rw[h1];exact⟨av,v,rfl,h2,h3⟩
 ·rw[h1];exact⟨av,undef,rfl,h2,h3⟩
section
variable{P:Program} {env:Env} {dst:Option Tmp} {ty:TypeId} {pos:String} {ar:Array Edge} {g:Option (Nat×Bool)}
def lR:Value→D
 |.string b=>bif Nat.beq b.data.size 0 then .str []else .raw (.string b)
 |v=>.raw v
theorem akd{w:World}{O:Nat→Prop}{ρ:az}(v:Value):V w O ρ (lR v) v:=by
 cases v with
 |string b=>
  simp only[lR];cases hb:Nat.beq b.data.size 0 with
  |false=>simp[V]
  |true=>
   have:b.data=#[]:=by
    have:=Nat.eq_of_beq_eq_true hb;exact Array.size_eq_zero_iff.1 this
   simp only[cond_true,V];refine⟨?_,by simp⟩;cases b;simp_all
 |_=>simp[lR,V]
theorem Vs.Aa{w:World}{O:Nat→Prop}{ρ:az}:∀(vs:List Value),Vs w O ρ (vs.map lR) vs
 |[]=>by simp[Vs]
 |v::vs=>by simp only[List.map_cons,Vs];exact⟨v,vs,rfl,akd v,Vs.Aa vs⟩
theorem jh{t:TypeId}{z:Value}{U:ae}(id:Nat)(hz:∀w,(zeroValue t).run P w=.ok z w)(hid:U.get id=none):aq P ⟨dst,.alloc t,ty,pos,ar,g⟩ env U (.box id 0) ((id,.cells (z.cells.toList.map lR))::U):=
 .step fun O ρ a w aj _=>by
  refine⟨.pointer (some ⟨w.heap.size,0,none⟩),{w with heap:=w.heap.push (.cells z.cells t (0,0))},T.cm ρ id ⟨w.heap.size,0,0⟩,.inl ?_,?_,?_⟩
  ·simp[execOp,Instr.alloc,hz,newVar,newRow]
  ·refine Tr.born aj hid _ rfl (fun _ _ h _=>h) (fun _ h=>h) ?_;intro _;exact⟨z.cells,t,by simp,Vs.Aa _⟩
  ·simp only[V];exact⟨_,kq ..,rfl⟩
theorem Gg{t:TypeId}{x:Operand}{cs:List D}{U:ae}(id:Nat)(hx:env.op x=some (.agg cs))(hid:U.get id=none):aq P ⟨dst,.box t x,ty,pos,ar,g⟩ env U (.box id 0) ((id,.cells cs)::U):=
 .step fun O ρ a w aj hv=>by
  have h1:=hv x (by simp[Op.operands]) _ hx;simp only[V]at h1;obtain⟨vs,e,h2⟩:=h1;refine⟨.pointer (some ⟨w.heap.size,0,none⟩),{w with heap:=w.heap.push (.cells vs t (0,0))},T.cm ρ id ⟨w.heap.size,0,0⟩,.inl ?_,?_,?_⟩
  ·simp[execOp,Instr.box,e,newVar,newRow,Value.cells]
  ·refine Tr.born aj hid _ rfl (fun _ _ h _=>h) (fun _ h=>h) ?_;intro hk;exact⟨vs,t,by simp,Vs.mono hk (vB _ (aj.fresh id hid)) _ _ h2⟩
  ·simp only[V];exact⟨_,kq ..,rfl⟩
theorem LY{t:TypeId}{x:Operand}{d:D}{U:ae}(id:Nat)(hx:env.op x=some d)(hd:d.one=true)(hid:U.get id=none):aq P ⟨dst,.box t x,ty,pos,ar,g⟩ env U (.box id 0) ((id,.cells [d])::U):=
 .step fun O ρ a w aj hv=>by
  have h1:=hv x (by simp[Op.operands]) _ hx;refine⟨.pointer (some ⟨w.heap.size,0,none⟩),{w with heap:=w.heap.push (.cells #[a.eval x] t (0,0))},T.cm ρ id ⟨w.heap.size,0,0⟩,.inl ?_,?_,?_⟩
  ·simp[execOp,Instr.box,newVar,newRow,cells_one (h1.one hd)]
  ·refine Tr.born aj hid _ rfl (fun _ _ h _=>h) (fun _ h=>h) ?_;intro hk;refine⟨#[a.eval x],t,by simp,?_⟩;simp only[Vs];exact⟨_,_,rfl,V.mono hk (vB _ (aj.fresh id hid)) _ _ h1,rfl⟩
  ·simp only[V];exact⟨_,kq ..,rfl⟩
theorem im{t:TypeId}{x:Operand}{f n:Nat}{fs:Array Field}{id off:Nat}(ft:TypeId)(fo:Nat)(hu:P.underlying t=some (.struct fs))(hs:∀w,(sizeOf ft).run P w=.ok (n+1) w)(hf:(fs[f]?).map (fun x=>(x.type,x.offset))=some (ft,fo))(hx:env.op x=some (.box id off))(U:ae):
  aq P ⟨dst,.fieldAddr t x f,ty,pos,ar,g⟩ env U (.box id (off+fo)) U:=
 .val fun _ _ a w _ hv=>by
  have h1:=hv x (by simp[Op.operands]) _ hx;simp only[V]at h1;obtain⟨l,h2,e⟩:=h1;obtain⟨fl,iC,wB⟩:=Option.map_eq_some_iff.1 hf;cases wB;refine⟨.pointer (some ⟨l.b,off+fl.offset,none⟩),?_,?_⟩
  ·simp[execOp,Instr.fieldAt,e,ca hu,iC,Instr.sureAddr,fieldPlace,hs,addr_add]
  ·simp only[V];exact⟨l,h2,rfl⟩
theorem NP{w:World}{b off:Nat}{c:Array Value}{T:TypeId}{v:Value}(hb:w.heap[b]?=some (.cells c T (0,0)))(hc:c.toList[off]?=some v):w.cell? ⟨b,off,none⟩=some v:=by
 simpa[World.cell?,hb]using hc
theorem iV{t:TypeId}{x:Operand}{id off:Nat}{ds:List D}{d:D}{U:ae}(ht:∀w,(isAgg t).run P w=.ok false w)(hx:env.op x=some (.box id off))(ho:U.get id=some (.cells ds))(hd:ds[off]?=some d):aq P ⟨dst,.load t x,ty,pos,ar,g⟩ env U d U:=
 .val fun O ρ a w aj hv=>by
  have h1:=hv x (by simp[Op.operands]) _ hx;simp only[V]at h1;obtain⟨l,h2,e⟩:=h1;obtain⟨l',h3,_,vs,T,h4,h5⟩:=aj.own id _ ho rfl;rw[h2]at h3;cases h3;obtain⟨v,h6,h7⟩:=h5.get off d hd;exact⟨v,by simp[execOp,Instr.loadAt,e,Instr.sureAddr,loadVar,ht,NP h4 h6],h7⟩
theorem Gw{w:World}{b:Nat}{c:Array Value}{T:TypeId}(hb:w.heap[b]?=some (.cells c T (0,0))):∀(n off i:Nat)(acc:Array Value),off+i+n≤c.size→
  (loadCellsFrom ⟨b,off,none⟩ i n acc).run P w=.ok (acc++((c.toList.drop (off+i)).take n).toArray) w
 |0,off,i,acc,_=>by simp[loadCellsFrom]
 |n+1,off,i,acc,h=>by
  have hl:off+i<c.toList.length:=by simp;omega
  have h1:=NP (off:=off+i) hb (List.getElem?_eq_getElem hl);simp only[loadCellsFrom,addr_add,Sem.run_bind,run_load,h1,Result.andThen_ok];rw[Gw hb n off (i+1) _ zO,List.drop_eq_getElem_cons hl];simp[Nat.add_assoc]
theorem Vs.drop{w:World}{O:Nat→Prop}{ρ:az}:∀(n:Nat){ds:List D}{vs:List Value},Vs w O ρ ds vs→Vs w O ρ (ds.drop n) (vs.drop n)
 |0,ds,vs,h=>by simpa using h
 |n+1,[],vs,h=>by simp only[Vs]at h;subst h;simp[Vs]
 |n+1,d::ds,vs,h=>by
  simp only[Vs]at h;obtain⟨u,us,rfl,h1,h2⟩:=h;simpa using Vs.drop n h2
theorem Vs.take{w:World}{O:Nat→Prop}{ρ:az}:∀(n:Nat){ds:List D}{vs:List Value},Vs w O ρ ds vs→Vs w O ρ (ds.take n) (vs.take n)
 |0,ds,vs,h=>by simp[Vs]
 |n+1,[],vs,h=>by simp only[Vs]at h;subst h;simp[Vs]
 |n+1,d::ds,vs,h=>by
  simp only[Vs]at h;obtain⟨u,us,rfl,h1,h2⟩:=h;simp only[List.take_succ_cons,Vs];exact⟨u,us.take n,rfl,h1,Vs.take n h2⟩
theorem Vt{t:TypeId}{x:Operand}{id off n:Nat}{ds cs:List D}{U:ae}(ht:∀w,(isAgg t).run P w=.ok true w)(hs:∀w,(sizeOf t).run P w=.ok n w)(hx:env.op x=some (.box id off))(ho:U.get id=some (.cells ds))(hn:off+n≤ds.length)(hd:(ds.drop off).take n=cs):aq P ⟨dst,.load t x,ty,pos,ar,g⟩ env U (.agg cs) U:=
 .val fun O ρ a w aj hv=>by
  have h1:=hv x (by simp[Op.operands]) _ hx;simp only[V]at h1;obtain⟨l,h2,e⟩:=h1;obtain⟨l',h3,_,vs,T,h4,h5⟩:=aj.own id _ ho rfl;rw[h2]at h3;cases h3;have hl:=h5.length;have h6:=Gw (P:=P) h4 n off 0 #[] (by simp at hl;omega);refine⟨.agg ((vs.toList.drop off).take n).toArray,?_,?_⟩
  ·simp[execOp,Instr.loadAt,e,Instr.sureAddr,loadVar,ht,hs,loadCells,h6]
  ·simp only[V];refine⟨_,rfl,?_⟩;rw[←hd];simpa using (h5.drop off).take n
theorem zZ{t:TypeId}{x:Operand}{id n:Nat}{ds:List D}{U:ae}(ht:∀w,(isAgg t).run P w=.ok true w)(hs:∀w,(sizeOf t).run P w=.ok n w)(hx:env.op x=some (.box id 0))(ho:U.get id=some (.cells ds))(hn:ds.length=n):aq P ⟨dst,.load t x,ty,pos,ar,g⟩ env U (.agg ds) U:=
 Vt ht hs hx ho zO (by subst hn;simp)
theorem r8{t:TypeId}{x y:Operand}{id off:Nat}{ds:List D}{d:D}{U:ae}(hs:∀w,(sizeOf t).run P w=.ok 1 w)(hx:env.op x=some (.box id off))(hy:env.op y=some d)(h1:d.one=true)(ho:U.get id=some (.cells ds))(hl:off<ds.length):
  aq P ⟨dst,.store t x y,ty,pos,ar,g⟩ env U (.raw undef) (U.set id (.cells (ds.set off d))):=
 .step fun O ρ a w aj hv=>by
  have iE:=hv x (by simp[Op.operands]) _ hx;have lC:=hv y (by simp[Op.operands]) _ hy;simp only[V]at iE;obtain⟨l,h2,e⟩:=iE;obtain⟨l',h3,_,vs,T,h4,h5⟩:=aj.own id _ ho rfl;rw[h2]at h3;cases h3;have hlen:=h5.length;have h6:=vp (P:=P) [a.eval y] w vs off 0 h4 (by simp at hlen⊢;omega) (by simpa using lC.one h1);refine⟨undef,_,ρ,.inr ⟨?_,rfl⟩,Tr.cm (o':=.cells (ds.set off d)) aj ho rfl h2 (.cells (setMany vs (off+0) [a.eval y]) T (0,0)) ?_,by simp[V]⟩
  ·simp[execOp,Instr.storeAt,e,Instr.sureAddr,storeVar,cells_one (lC.one h1),hs,h6]
  ·intro hk;refine⟨setMany vs off [a.eval y],T,by simp[(Array.getElem?_eq_some_iff.1 h4).1],?_⟩;have:=Vs.setMany (cs:=[d]) (us:=[a.eval y]) (by simp only[Vs];exact⟨_,_,rfl,V.mono hk (bI.refl _) _ _ lC,rfl⟩) off (Vs.mono hk (bI.refl _) _ _ h5);simpa[lT]using this
theorem Vy{t:TypeId}{x y:Operand}{id off n:Nat}{ds cs:List D}{U:ae}(hs:∀w,(sizeOf t).run P w=.ok n w)(hx:env.op x=some (.box id off))(hy:env.op y=some (.agg cs))(hn:cs.length=n)(h1:nW cs=true)(ho:U.get id=some (.cells ds))(hl:off+n≤ds.length):
  aq P ⟨dst,.store t x y,ty,pos,ar,g⟩ env U (.raw undef) (U.set id (.cells (lT ds off cs))):=
 .step fun O ρ a w aj hv=>by
  have iE:=hv x (by simp[Op.operands]) _ hx;have lC:=hv y (by simp[Op.operands]) _ hy;simp only[V]at iE lC;obtain⟨us,e2,h7⟩:=lC;obtain⟨l,h2,e⟩:=iE;obtain⟨l',h3,_,vs,T,h4,h5⟩:=aj.own id _ ho rfl;rw[h2]at h3;cases h3;have hlen:=h5.length;have Bl:=h7.length;simp only[Array.length_toList]at hlen Bl;have h6:=vp (P:=P) us.toList w vs off 0 h4 zQ (h7.one h1);refine⟨undef,_,ρ,.inr ⟨?_,rfl⟩,Tr.cm (o':=.cells (lT ds off cs)) aj ho rfl h2 (.cells (setMany vs (off+0) us.toList) T (0,0)) ?_,by simp[V]⟩
  ·have:us.size=n:=by omega
   simp[execOp,Instr.storeAt,e,e2,Instr.sureAddr,storeVar,Value.cells,hs,this,h6]
  ·intro hk;refine⟨setMany vs off us.toList,T,by simp[(Array.getElem?_eq_some_iff.1 h4).1],?_⟩;exact Vs.setMany (Vs.mono hk (bI.refl _) _ _ h7) off (Vs.mono hk (bI.refl _) _ _ h5)
theorem V_:∀(cs ds pre:List D),cs.length=ds.length→lT (pre++ds) pre.length cs=pre++cs
 |[],ds,pre,h=>by obtain rfl:=List.length_eq_zero_iff.1 h.symm;simp[lT]
 |c::cs,[],pre,h=>by simp at h
 |c::cs,d::ds,pre,h=>by
  have:=V_ cs ds (pre++[c]) (by simpa using h);simp only[lT];rw[List.set_append_right _ _ (Nat.le_refl _)];simpa using this
theorem km{t:TypeId}{x y:Operand}{id n:Nat}{ds cs:List D}{U:ae}(hs:∀w,(sizeOf t).run P w=.ok n w)(hx:env.op x=some (.box id 0))(hy:env.op y=some (.agg cs))(hn:cs.length=n)(h1:nW cs=true)(ho:U.get id=some (.cells ds))(hl:ds.length=n):
  aq P ⟨dst,.store t x y,ty,pos,ar,g⟩ env U (.raw undef) (U.set id (.cells cs)):=by
 have h:=Vy (dst:=dst) (ty:=ty) (pos:=pos) (ar:=ar) (g:=g) hs hx hy hn h1 ho zO;have h2:=V_ cs ds [] zO;simp only[List.nil_append,List.length_nil]at h2;rwa[h2]at h
end
end Go.T
namespace Go.T
open Go
variable[bX]
def D.iz:D→List D
 |.agg cs=>cs
 |d=>[d]
def D.mC:D→Bool
 |.agg cs=>nW cs
 |d=>d.one
theorem V.iz{w:World}{O:Nat→Prop}{ρ:az}{d:D}{v:Value}(hd:d.mC=true)(h:V w O ρ d v):Vs w O ρ d.iz v.cells.toList:=by
 cases d with
 |agg cs=>
  simp only[V]at h;obtain⟨vs,rfl,h⟩:=h;simpa[D.iz,Value.cells]using h
 |_=>
  have:=h.one (by simpa[D.mC]using hd);rw[cells_one this];simp only[D.iz,Vs];exact⟨v,[],rfl,h,rfl⟩
theorem aiC{d:D}(h:d.mC=true):nW d.iz=true:=by
 cases d<;>simp_all[D.mC,D.iz,nW]
def mV(xm:Nat→Option (Nat×Nat))(ds:List D):List (Nat×D)→Option (List D)
 |[]=>some ds
 |(i,d)::rest=>match xm i with
  |none=>none
  |some (off,size)=>bif Nat.beq d.iz.length size&&Nat.ble (off+size) ds.length&&d.mC then mV xm (lT ds off d.iz) rest else none
theorem PR(off:Nat):∀(l:List Value)(c:Array Value)(j:Nat),(l.zipIdx j).foldl (fun cs (x:Value×Nat)=>cs.setIfInBounds (off+x.2) x.1) c=setMany c (off+j) l
 |[],c,j=>rfl
 |v::l,c,j=>by
  simp only[List.zipIdx_cons,List.foldl_cons,setMany];rw[PR off l _ (j+1)];rfl
theorem AW{w:World}{O:Nat→Prop}{ρ:az}(xm:Nat→Option (Nat×Nat)):∀(c_:List (Nat×D))(xn:List (Nat×Value))(ds:List D)(c:Array Value)(cs:List D),c_.map (·.1)=xn.map (·.1)→Vs w O ρ (c_.map (·.2)) (xn.map (·.2))→Vs w O ρ ds c.toList→mV xm ds c_=some cs→
  ∃c',Instr.fill xm c xn=some c'∧Vs w O ρ cs c'.toList
 |[],xn,ds,c,cs,h1,_,h3,h4=>by
  obtain rfl:xn=[]:=by simpa using h1.symm
  simp only[mV,Option.some.injEq]at h4;subst h4;exact⟨c,rfl,h3⟩
 |(i,d)::c_,[],ds,c,cs,h1,_,_,_=>by simp at h1
 |(i,d)::c_,(j,v)::xn,ds,c,cs,h1,h2,h3,h4=>by
  simp only[List.map_cons,List.cons.injEq]at h1;obtain⟨rfl,h1⟩:=h1;simp only[List.map_cons,Vs]at h2;obtain⟨u,us,e,h5,h6⟩:=h2;simp only[List.cons.injEq]at e;obtain⟨rfl,rfl⟩:=e;simp only[mV]at h4;cases hp:xm i with
  |none=>simp[hp]at h4
  |some x=>
   obtain⟨off,size⟩:=x;simp only[hp]at h4;cases hb:(Nat.beq d.iz.length size&&Nat.ble (off+size) ds.length&&d.mC)with
   |false=>simp[hb]at h4
   |true=>
    simp only[hb,cond_true]at h4;simp only[Bool.and_eq_true,Nat.beq_eq,Nat.ble_eq]at hb;obtain⟨⟨mo,bN⟩,aj⟩:=hb;have h7:=h5.iz aj;have aY:=h7.length;have Ke:=h3.length;simp only[Array.length_toList]at aY Ke;have h8:=Vs.setMany h7 off h3;obtain⟨c',h9,ct⟩:=AW xm c_ xn _ _ cs h1 h6 h8 h4;refine⟨c',?_,ct⟩;rw[Instr.fill,hp];have hc:¬((v.cells.size≠size||decide (off+v.cells.size>c.size))=true):=by simp;omega
    simp only[if_neg hc];have cI:Array.foldl (fun cs (x:Value×Nat)=>cs.setIfInBounds (off+x.2) x.1) c v.cells.zipIdx=setMany c off v.cells.toList:=by
     rw[←Array.foldl_toList,Array.toList_zipIdx];exact PR off v.cells.toList c 0
    rw[cI];exact h9
def Env.nZ(env:Env):List (Nat×Operand)→Option (List (Nat×D))
 |[]=>some []
 |(i,x)::r=>match env.op x,env.nZ r with
  |some d,some ds=>some ((i,d)::ds)
  |_,_=>none
theorem Ct{w:World}{O:Nat→Prop}{ρ:az}{env:Env}{a:Act}:∀(xs:List (Nat×Operand))(c_:List (Nat×D)),env.nZ xs=some c_→(∀x∈xs.map (·.2),∀d',env.op x=some d'→V w O ρ d' (a.eval x))→
  c_.map (·.1)=(xs.map fun x=>(x.1,a.eval x.2)).map (·.1)∧Vs w O ρ (c_.map (·.2)) ((xs.map fun x=>(x.1,a.eval x.2)).map (·.2))
 |[],c_,h,_=>by simp only[Env.nZ,Option.some.injEq]at h;subst h;simp[Vs]
 |(i,x)::xs,c_,h,hv=>by
  simp only[Env.nZ]at h;split at h
  ·rename_i d eP h1 h2;simp only[Option.some.injEq]at h;subst h;obtain⟨h3,h4⟩:=Ct xs eP h2 (fun y hy=>hv y (List.mem_cons_of_mem _ hy));refine⟨by simp only[List.map_cons,h3],?_⟩;simp only[List.map_cons,Vs];exact⟨_,_,rfl,hv x zS d h1,h4⟩
  ·cases h
section
variable{P:Program} {env:Env} {dst:Option Tmp} {ty:TypeId} {pos:String} {ar:Array Edge} {g:Option (Nat×Bool)}
theorem pZ{t:TypeId}{fs:Array Field}{z:Value}{pl:Array (Nat×Nat)}{xs:List (Nat×Operand)}{c_:List (Nat×D)}{cs:List D}(hu:P.underlying t=some (.struct fs))(hz:∀w,(zeroValue t).run P w=.ok z w)
  (hp:∀w,(fs.mapM (m:=Sem) fun f=>Prod.mk f.offset<$>sizeOf f.type).run P w=.ok pl w)(hx:env.nZ xs=some c_)(hf:mV (pl[·]?) (z.cells.toList.map lR) c_=some cs)(U:ae):
  aq P ⟨dst,.build t xs.toArray,ty,pos,ar,g⟩ env U (.agg cs) U:=
 .val fun O ρ a w _ hv=>by
  obtain⟨h1,h2⟩:=Ct (a:=a) xs c_ hx (fun x hx d' h=>hv x (by simpa[Op.operands]using hx) d' h);obtain⟨c',h3,h4⟩:=AW (pl[·]?) c_ _ _ z.cells cs h1 h2 (Vs.Aa _) hf;refine⟨.agg c',?_,?_⟩
  ·simp[execOp,Instr.build,hz,ca hu,hp,h3]
  ·simp only[V];exact⟨_,rfl,h4⟩
theorem Vc.r3{w:World}{O:Nat→Prop}{b:Nat}{c:Array Value}{T:TypeId}{fr:Nat×Nat}(hb:w.heap[b]?=some (.cells c T fr)):∀(ds:List D)(off:Nat),Vs w O dt ds ((c.toList.drop off).take ds.length)→(∀v∈(c.toList.drop off).take ds.length,v.oneCell'=true)→Vc w O b off ds
 |[],off,_,_=>by simp[Vc]
 |d::ds,off,h,h1=>by
  simp only[Vs,List.length_cons]at h;obtain⟨u,us,e,h2,h3⟩:=h;have hl:off<c.toList.length:=by
   rcases Nat.lt_or_ge off c.toList.length with g|g
   ·exact g
   ·rw[List.drop_of_length_le g]at e;simp at e
  rw[List.length_cons,List.drop_eq_getElem_cons hl,List.take_succ_cons]at h1;rw[List.drop_eq_getElem_cons hl,List.take_succ_cons]at e;simp only[List.cons.injEq]at e;obtain⟨rfl,rfl⟩:=e;simp only[Vc];refine⟨⟨_,⟨?_,h1 _ List.mem_cons_self⟩,h2⟩,Vc.r3 hb ds (off+1) h3 (fun v hv=>h1 v (List.mem_cons_of_mem _ hv))⟩;simp[World.cell?,hb]
theorem Vc.GL{w:World}{O:Nat→Prop}{b:Nat}{c:Array Value}{T:TypeId}{fr:Nat×Nat}(hb:w.heap[b]?=some (.cells c T fr)):∀(ds:List D)(off:Nat),Vc w O b off ds→Vs w O dt ds ((c.toList.drop off).take ds.length)∧(∀v∈(c.toList.drop off).take ds.length,v.oneCell'=true)∧(ds≠[]→off+ds.length≤c.size)
 |[],off,_=>by simp[Vs]
 |d::ds,off,h=>by
  simp only[Vc]at h;obtain⟨⟨u,⟨h1,h2⟩,h3⟩,h4⟩:=h;have h5:c[off]?=some u:=by simpa[World.cell?,hb]using h1
  obtain⟨hl,he⟩:=Array.getElem?_eq_some_iff.1 h5;have yJ:off<c.toList.length:=by simpa using hl
  obtain⟨h6,h7,h8⟩:=Vc.GL hb ds (off+1) h4;rw[List.length_cons,List.drop_eq_getElem_cons yJ,List.take_succ_cons];refine⟨?_,?_,fun _=>?_⟩
  ·simp only[Vs];exact⟨_,_,rfl,by simpa[he]using h3,h6⟩
  ·intro v hv;cases hv with
   |head=>simpa[he]using h2
   |tail _ hm=>exact h7 v hm
  ·cases ds with
   |nil=>simp;omega
   |cons d' ds=>have:=h8 zS;simp at this⊢;omega
theorem Vr.r3{w:World}{O:Nat→Prop}{b sz:Nat}{c:Array Value}{T:TypeId}{fr:Nat×Nat}(hb:w.heap[b]?=some (.cells c T fr)):∀(rows:List (List D))(off:Nat),(∀r∈rows,r.length=sz)→Vs w O dt rows.flatten ((c.toList.drop off).take rows.flatten.length)→(∀v∈(c.toList.drop off).take rows.flatten.length,v.oneCell'=true)→Vr w O b off sz rows
 |[],off,_,_,_=>by simp[Vr]
 |r::rs,off,hl,h,h1=>by
  have hr:r.length=sz:=hl r List.mem_cons_self;simp only[List.flatten_cons,List.length_append]at h h1;have h2:=h.take r.length;have h3:=h.drop r.length;simp only[List.take_left,List.drop_left,List.take_take]at h2 h3;rw[Nat.min_eq_left zO]at h2;rw[List.drop_take,List.drop_drop,show r.length+rs.flatten.length-r.length=rs.flatten.length by omega,hr]at h3;rw[List.take_add]at h1;simp only[List.mem_append]at h1;simp only[Vr];refine⟨⟨hr,Vc.r3 hb r off h2 (fun v hv=>h1 v (.inl hv))⟩,Vr.r3 hb rs (off+sz) (fun x hx=>hl x (List.mem_cons_of_mem _ hx)) h3 (fun v hv=>h1 v (.inr ?_))⟩;rw[List.drop_drop,hr];exact hv
theorem ajA{t e:TypeId}{n sz:Nat}{z:Value}{xs:List (Nat×Operand)}{c_:List (Nat×D)}{cs:List D}{rows:List (List D)}(hu:P.underlying t=some (.slice e))(hs:∀w,(sizeOf e).run P w=.ok sz w)(hn:n*sz≤16777216)(cP:n≤16777216)
  (dY:n*sz≠0)(hz:∀w,(zeroValue e).run P w=.ok z w)(hx:env.nZ xs=some c_)
  (hf:mV (fun i=>some (i*sz,sz)) (((Array.range (n*sz)).map (z.cells[· %z.cells.size]!)).toList.map lR) c_=some cs)(hr:rows.flatten=cs)(hlen:rows.length=n)(f_:rows.all (fun r=>Nat.beq r.length sz)=true)(h1:nW cs=true)(hp:D.bz.ec cs=true)(U:ae):
  aq P ⟨dst,.buildSlice t n xs.toArray,ty,pos,ar,g⟩ env U (.snap sz true rows) U:=
 .step fun O ρ a w aj hv=>by
  obtain⟨h2,h3⟩:=Ct (a:=a) xs c_ hx (fun x hx d' h=>hv x (by simpa[Op.operands]using hx) d' h);obtain⟨c',h4,h5⟩:=AW (fun i=>some (i*sz,sz)) c_ _ _ ((Array.range (n*sz)).map (z.cells[· %z.cells.size]!)) cs h2 h3 (Vs.Aa _) hf;have hk:fO w {w with heap:=w.heap.push (.cells c' e (0,0))}:=⟨by simp,fun b hb=>by rw[Array.getElem?_push,if_neg zO],rfl,rfl,gV.eq rfl rfl⟩;refine⟨.slice (some ⟨w.heap.size,0,none⟩) n n,{w with heap:=w.heap.push (.cells c' e (0,0))},ρ,.inl ?_,Tr.oK hk aj,?_⟩
  ·have h6:¬n*sz>2^24:=by omega
   have h9:Instr.fill (fun i=>some (i*sz,sz)) ((Array.range (n*sz)).map fun x=>z.cells[x%z.cells.size]!) ((Array.map (fun x=>(x.1,a.eval x.2)) xs.toArray).toList)=some c':=by
    simpa using h4
   simp only[execOp,Instr.buildSlice,Sem.run_bind,ca hu,Result.andThen_ok,hs,if_neg h6,if_neg dY,Sem.run_pure,hz,h9];simp[newRow]
  ·simp only[V];refine⟨some ⟨w.heap.size,0,none⟩,n,by rw[hlen],⟨by omega,?_⟩,by simp[hlen],fun aD=>⟨w.heap.size,0,rfl,⟨by simp,?_⟩,?_⟩⟩
   ·rw[hlen];unfold aG;omega
   ·rintro(hb|hb)
    ·have:=aj.lt _ hb;omega
    ·have:=(aj.block hb).1;omega
   ·have h8:Vs w (Ot O ρ U) dt cs c'.toList:=Vs.pure cs _ hp h5;have hl:c'.toList.length=cs.length:=h8.length;refine Vr.r3 (c:=c') (T:=e) (fr:=(0,0)) zS rows 0 ?_ ?_ (fun v hv=>h8.one h1 v (List.mem_of_mem_drop (List.mem_of_mem_take hv)))
    ·intro r nN;have:=List.all_eq_true.1 f_ r nN;simpa using this
    ·rw[hr,←hl];simp only[List.drop_zero,List.take_length];exact Vs.mono (hk.kept _) (bI.refl _) _ _ h8
theorem tL{t e:TypeId}{sz:Nat}(hu:P.underlying t=some (.slice e))(hs:∀w,(sizeOf e).run P w=.ok sz w)(U:ae):aq P ⟨dst,.buildSlice t 0 #[],ty,pos,ar,g⟩ env U (.snap sz true []) U:=
 .step fun O ρ a w aj hv=>by
  have hk:fO w {w with heap:=w.heap.push (.cells #[] e (0,0))}:=⟨by simp,fun b hb=>by rw[Array.getElem?_push,if_neg zO],rfl,rfl,gV.eq rfl rfl⟩;refine⟨.slice (some ⟨w.heap.size,0,none⟩) 0 0,{w with heap:=w.heap.push (.cells #[] e (0,0))},ρ,.inl ?_,Tr.oK hk aj,?_⟩
  ·have h0:Array.range 0=#[]:=by decide
   simp[execOp,Instr.buildSlice,ca hu,hs,Instr.fill,newRow,h0]
  ·simp only[V];exact⟨_,0,rfl,by simp[aG]⟩
end
end Go.T
namespace Go.T
open Go
variable[bX]
theorem Ql(Cd:Nat)(hn:256≤Cd):∀(r c:Nat),c≤2*Cd→Builtin.growBy Cd r c≤2*Cd
 |0,c,h=>by simpa[Builtin.growBy]using h
 |r+1,c,h=>by
  simp only[Builtin.growBy];split
  ·exact h
  ·exact Ql Cd hn r _ zO
theorem nextslicecap_le(need cap:Nat)(h:cap<need):Builtin.nextslicecap need cap≤2*need:=by
 unfold Builtin.nextslicecap;split
 ·omega
 ·split
  ·omega
  ·exact Ql need zO 4 cap zO
theorem Vr.flat{w:World}{O:Nat→Prop}{b sz:Nat}:∀(rows:List (List D))(off:Nat),Vr w O b off sz rows→Vc w O b off rows.flatten∧rows.flatten.length=rows.length*sz
 |[],off,_=>by simp[Vc]
 |r::rs,off,h=>by
  simp only[Vr]at h;obtain⟨⟨h1,h2⟩,h3⟩:=h;obtain⟨h4,h5⟩:=Vr.flat rs (off+sz) h3;simp only[List.flatten_cons,List.length_append,List.length_cons,h1,h5,Nat.add_mul];exact⟨Vc.app r rs.flatten off h2 (by rw[h1];exact h4),by omega⟩
where
 Vc.app {w:World} {O:Nat→Prop} {b:Nat}:∀(xs ys:List D)(off:Nat),Vc w O b off xs→Vc w O b (off+xs.length) ys→Vc w O b off (xs++ys)
  |[],ys,off,_,h=>by simpa using h
  |x::xs,ys,off,h,h'=>by
   simp only[Vc,List.cons_append]at h⊢;exact⟨h.1,Vc.app xs ys (off+1) h.2 (by rw[show off+1+xs.length=off+(x::xs).length by simp;omega];exact h')⟩
theorem xz{P:Program}{w:World}{O:Nat→Prop}{ρ:az}{sz:Nat}{fP:Bool}{rows:List (List D)}{v:Value}(h:V w O ρ (.snap sz fP rows) v):
  (∀w',(Builtin.lenOf v).run P w'=.ok rows.length w')∧∃us,(∀w',w'.heap=w.heap→(Builtin.firstCells sz rows.length v).run P w'=.ok us.toArray w')∧Vs w O dt rows.flatten us∧(∀u∈us,u.oneCell'=true)∧us.length=rows.length*sz∧(∀r∈rows,r.length=sz):=by
 simp only[V]at h;obtain⟨a,cap,rfl,h1,h2,h3⟩:=h;refine⟨fun _=>rfl,?_⟩;by_cases aD:rows=[]
 ·subst aD;refine⟨[],?_,by simp[Vs],by simp,by simp,by simp⟩;cases a with
  |none=>simp[Builtin.firstCells]
  |some a=>simp[Builtin.firstCells,loadCells,loadCellsFrom]
 ·obtain⟨b,off,rfl,ho,h4⟩:=h3 aD;obtain⟨h5,h6⟩:=Vr.flat rows off h4;obtain⟨us,h7,h8,h9⟩:=run_loadCells (P:=P) rows.flatten off 0 #[] (by simpa using h5);refine⟨us,?_,h8,h9,by rw[h8.length,h6],?_⟩
  ·rw[h6]at h7;intro w' he;simpa[Builtin.firstCells,loadCells]using h7 w' he
  ·intro r hr;obtain⟨i,hi⟩:=List.getElem?_of_mem hr;exact(Vr.get rows off h4 i r hi).1
theorem CU:∀(us:List Value)(c:Array Value)(k:Nat),k+us.length≤c.size→(setMany c k us).toList=c.toList.take k++us++c.toList.drop (k+us.length)
 |[],c,k,h=>by simp[setMany]
 |u::us,c,k,h=>by
  simp only[List.length_cons]at h;simp only[setMany];rw[CU us _ (k+1) zQ,Array.toList_setIfInBounds];have hk:k<c.toList.length:=by simp;omega
  rw[List.take_set,List.drop_set];have h1:¬k+1+us.length≤k:=by omega
  rw[if_pos zO];rw[List.take_succ_eq_append_getElem hk];rw[List.set_append_right _ _ zQ];simp[Nat.min_eq_left (by omega:k≤c.size),Nat.add_assoc,Nat.add_comm 1]
theorem ae.set_set(i:Nat)(x y:Ob):∀U:ae,(U.set i x).set i y=U.set i y
 |[]=>by simp[ae.set]
 |(t,d)::r=>by
  simp only[ae.set];cases h:Nat.beq t i with
  |true=>simp[ae.set,h]
  |false=>simp[ae.set,h,ae.set_set i x y r]
section
variable{P:Program} {env:Env} {dst:Option Tmp} {ty:TypeId} {pos:String} {ar:Array Edge} {g:Option (Nat×Bool)}
theorem run_append_room{st xt e T:TypeId}{xd:TypeDesc}{sz n cap:Nat}{a:Addr}{x:Value}{us:List Value}{m:Nat}{w w':World}(hu:P.underlying st=some (.slice e))(hs:∀w,(sizeOf e).run P w=.ok sz w)(jd:P.underlying xt=some xd)(Kk:∀k,xd≠.int k)
  (hm:(Builtin.lenOf x).run P w=.ok m w)(hf:(Builtin.firstCells sz m x).run P w=.ok us.toArray w)(hc:n+m≤cap)(aP:(storeCells (a.add (n*sz)) us).run P w=.ok () w'):
  (Builtin.append_ #[st,xt] T #[.slice (some a) n cap,x]).run P w=.ok (.slice (some a) (n+m) cap) w':=by
 simp[Builtin.append_,ca hu,hs,ca jd,hm,hc,hf,aP]
theorem run_append_grow{st xt e T:TypeId}{xd:TypeDesc}{ti:TypeInfo}{z:Value}{sz n cap:Nat}{dz:Option Addr}{x:Value}{us vs:List Value}{m:Nat}{w:World}(hu:P.underlying st=some (.slice e))(hs:∀w,(sizeOf e).run P w=.ok sz w)(jd:P.underlying xt=some xd)(Kk:∀k,xd≠.int k)
  (jI:∀w,(typeInfo e).run P w=.ok ti w)(hz:∀w,(zeroValue e).run P w=.ok z w)
  (hm:∀w',w'.heap=w.heap→(Builtin.lenOf x).run P w'=.ok m w')(hf:∀w',w'.heap=w.heap→(Builtin.firstCells sz m x).run P w'=.ok us.toArray w')(uI:∀w',w'.heap=w.heap→(Builtin.firstCells sz n (.slice dz n cap)).run P w'=.ok vs.toArray w')
  (hc:¬n+m≤cap)(hb:(n+m)*ti.bytes≤140737488355328)(gK:ti.bytes≠0):
  ∃nc,n+m≤nc∧(Builtin.append_ #[st,xt] T #[.slice dz n cap,x]).run P w=.ok (.slice (some ⟨w.heap.size,0,none⟩) (n+m) nc) {w with drawn:=w.drawn+1,heap:=w.heap.push (.cells (vs.toArray++us.toArray++Builtin.zeroCells z.cells (nc-(n+m))) e (0,0))}:=by
 have h1:=nextslicecap_le (n+m) cap zO;have h2:¬Builtin.nextslicecap (n+m) cap*ti.bytes>281474976710656:=by
  have:=Nat.mul_le_mul_right ti.bytes h1;rw[Nat.mul_assoc]at this;omega
 refine⟨(n+m)+(w.tape w.drawn (.appendCap (n+m) cap e))%(2^63-(n+m)),by omega,?_⟩;have EY:=hm w rfl;have EQ:=hf w.drew rfl;have aep:=uI w.drew rfl;simp[Builtin.append_,ca hu,hs,ca jd,EY,hc,jI,gK,h2,Question.forced,Question.cut,aep,EQ,hz,newRow];simp only[World.alloc,World.drew];have h9:vs.toArray++(us.toArray++Builtin.zeroCells z.cells (w.tape w.drawn (Question.appendCap (n+m) cap e)%(9223372036854775808-(n+m))))=(vs++us).toArray++Builtin.zeroCells z.cells (w.tape w.drawn (Question.appendCap (n+m) cap e)%(9223372036854775808-(n+m))):=by
  apply Array.ext';simp
 rw[h9]
theorem MU(z:Array Value)(n:Nat):(Builtin.zeroCells z n).size=n*z.size:=by simp[Builtin.zeroCells]
theorem gX.grown{w w':World}{O:Nat→Prop}{ρ:az}{b nc sz:Nat}{T:TypeId}{ds:List (List D)}{vs:List Value}{zs:Array Value}(hb:w'.heap[b]?=some (.cells (vs.toArray++zs) T (0,0)))(hlen:vs.length=ds.length*sz)(s5:zs.size=(nc-ds.length)*sz)(Bo:ds.length≤nc)(Jw:ds.length≤aG)
  (aeM:∀r∈ds,r.length=sz)(hv:Vs w O dt ds.flatten vs)(h1:∀v∈vs,v.oneCell'=true){O':Nat→Prop}(hk:Kept w O w' O'):gX w' O' ρ ⟨b,0,nc⟩ (.arr sz ds):=by
 refine⟨_,T,hb,?_,⟨Bo,Jw⟩,?_⟩
 ·simp only[Array.size_append,List.size_toArray,hlen,s5,Nat.zero_add];rw[←Nat.add_mul,Nat.add_sub_cancel' Bo];exact Nat.le_refl _
 ·have iC:ds.flatten.length=vs.length:=hv.length.symm;have uP:(((vs.toArray++zs).toList).drop 0).take ds.flatten.length=vs:=by
   simp[iC]
  refine Vr.r3 hb ds 0 aeM ?_ ?_
  ·rw[uP];exact Vs.mono hk (bI.refl _) _ _ hv
  ·rw[uP];exact h1
theorem Tr.drawn{O:Nat→Prop}{w:World}{ρ:az}{U:ae}(aj:cF w O ρ U)(n:Nat)(hn:w.drawn≤n):Tr O w ρ U {w with drawn:=n} ρ U:=
 Tr.oK ⟨Nat.le_refl _,fun _ _=>rfl,rfl,rfl,.inl ⟨rfl,hn⟩⟩ aj
theorem q8{U:ae}{id:Nat}:∀i x,(U.set id .dead).get i=some x→x.live=true→U.get i=some x:=by
 intro i x h1 h2;rw[ae.dV]at h1;by_cases e:id=i
 ·simp only[if_pos e,Option.some.injEq]at h1;subst h1;simp[Ob.live]at h2
 ·rw[if_neg e]at h1;exact h1
theorem DP{U:ae}{id:Nat}:∀i,(U.set id .dead).get i=none→U.get i=none:=by
 intro i h1;rw[ae.dV]at h1;by_cases e:id=i
 ·simp[e]at h1
 ·rw[if_neg e]at h1;exact h1
theorem Tr.Gr{O:Nat→Prop}{w:World}{ρ:az}{U:ae}{id bl:Nat}{sz:Nat}(aj:cF w O ρ U):Tr O w ρ U w ρ ((bl,.arr sz [])::U.set id .dead):=by
 have look:∀i x,ae.get ((bl,Ob.arr sz [])::U.set id .dead) i=some x→x.live=true→U.get i=some x:=by
  intro i x h1 h2;rw[ae.bf]at h1;by_cases e:bl=i
  ·simp only[if_pos e,Option.some.injEq]at h1;subst h1;simp[Ob.live]at h2
  ·rw[if_neg e]at h1;exact q8 i x h1 h2
 have lv:∀b,b8 ρ ((bl,.arr sz [])::U.set id .dead) b→b8 ρ U b:=by
  rintro b ⟨i,x,l,h1,h2,h3⟩;exact⟨i,x,l,look i x h1 h2,h2,h3⟩
 have hk:Kept w (Ot O ρ U) w (Ot O ρ ((bl,.arr sz [])::U.set id .dead)):=Kept.fa fun b=>Or.imp _root_.id (lv b);refine⟨bI.refl _,Nat.le_refl _,fun _ _ _=>rfl,fun b hb=>.inl (lv b hb),⟨aj.lt,?_,?_,?_⟩,rfl,rfl,gV.eq rfl rfl⟩
 ·intro i hi;rw[ae.bf]at hi;by_cases e:bl=i
  ·simp[e]at hi
  ·rw[if_neg e]at hi;exact aj.fresh i (DP i hi)
 ·intro i x h1 h2;obtain⟨l,h3,h4,h5⟩:=aj.own i x (look i x h1 h2) h2;exact⟨l,h3,h4,h5.mono hk (bI.refl _) rfl⟩
 ·intro i j x x' l1 l2 h1 h2 h3 h4;exact aj.inj i j x x' l1 l2 (look i x h1 h3) (look j x' h2 h4) h3 h4
theorem fq{st xt e e':TypeId}{ti:TypeInfo}{z:Value}{sz n id bt:Nat}{x y:Operand}{fP:Bool}{rows new:List (List D)}{U:ae}(bl:Nat)(hu:P.underlying st=some (.slice e))(jd:P.underlying xt=some (.slice e'))(hs:∀w,(sizeOf e).run P w=.ok sz w)
  (jI:∀w,(typeInfo e).run P w=.ok ti w)(hz:∀w,(zeroValue e).run P w=.ok z w)(s5:z.cells.size=sz)(mX:ti.bytes=bt)(ww:Nat.beq bt 0=false)(hx:env.op x=some (.gs id n))(ho:U.get id=some (.arr sz rows))(hn:rows.length=n)(hy:env.op y=some (.snap sz fP new))(hid:U.get bl=none)
  (pA:(n+new.length)*bt≤140737488355328):
  aq P ⟨dst,.call ⟨.builtin .append,#[x,y],#[st,xt]⟩,ty,pos,ar,g⟩ env U (.gs bl (n+new.length)) ((bl,.arr sz (rows++new))::U.set id .dead):=
 .step fun O ρ a w aj hv=>by
  have hb:(n+new.length)*ti.bytes≤140737488355328:=by rw[mX];exact pA
  have gK:ti.bytes≠0:=by
   rw[mX];intro h;subst h;simp at ww
  have cd:=hv x (by simp[Op.operands,Call.operands]) _ hx;have dJ:=hv y (by simp[Op.operands,Call.operands]) _ hy;have fd:∀v w',(Builtin.append_ #[st,xt] ty #[a.eval x,a.eval y]).run P w=.ok v w'→(execOp a.eval ⟨dst,.call ⟨.builtin .append,#[x,y],#[st,xt]⟩,ty,pos,ar,g⟩).run P w=.ok (.value v) w':=by
   intro v w' h;simp[execOp,resolve,invoke,builtin,h]
  obtain⟨hlen,us,mg,m7,rz,j5,f_⟩:=xz (P:=P) dJ;have Ba:n+new.length≤aG:=by
   have:(n+new.length)*1≤(n+new.length)*ti.bytes:=Nat.mul_le_mul_left _ zO;unfold aG;omega
  -- the grown slice in a new block
  have grow:∀(dz:Option Addr)(cap:Nat)(vs:List Value),a.eval x=.slice dz n cap→(∀w',w'.heap=w.heap→(Builtin.firstCells sz n (.slice dz n cap)).run P w'=.ok vs.toArray w')→¬n+new.length≤cap→vs.length=n*sz→Vs w (Ot O ρ U) dt rows.flatten vs→(∀v∈vs,v.oneCell'=true)→(∀r∈rows,r.length=sz)→n+new.length≠0→
    ∃v w' av,((execOp a.eval ⟨dst,.call ⟨.builtin .append,#[x,y],#[st,xt]⟩,ty,pos,ar,g⟩).run P w=.ok (.value v) w'∨((execOp a.eval ⟨dst,.call ⟨.builtin .append,#[x,y],#[st,xt]⟩,ty,pos,ar,g⟩).run P w=.ok .skip w'∧v=undef))∧Tr O w ρ U w' av ((bl,.arr sz (rows++new))::U.set id .dead)∧V w' (Ot O av ((bl,.arr sz (rows++new))::U.set id .dead)) av (.gs bl (n+new.length)) v:=by
   intro dz cap vs e1 j6 hc BE wN iE yT aD;obtain⟨nc,h1,h2⟩:=run_append_grow (T:=ty) (w:=w) hu hs jd zS jI hz (fun w' _=>hlen w') mg j6 hc hb gK;rw[←e1]at h2;have Bt:cF {w with drawn:=w.drawn+1} O ρ U:=(Tr.drawn aj (w.drawn+1) (Nat.le_succ _)).ok;have bg:=Tr.drawn aj (w.drawn+1) (Nat.le_succ _);refine⟨_,_,T.cm ρ bl ⟨w.heap.size,0,nc⟩,.inl (fd _ _ h2),bg.trans (Tr.born (w:={w with drawn:=w.drawn+1}) Bt hid _ rfl q8 DP ?_),?_⟩
   ·intro hk;have bN:(rows++new).length=n+new.length:=by rw[List.length_append,hn]
    have sU:(vs++us).toArray=vs.toArray++us.toArray:=by simp
    refine gX.grown (w:={w with drawn:=w.drawn+1}) (T:=e) (vs:=vs++us) (zs:=Builtin.zeroCells z.cells (nc-(n+new.length))) (by rw[sU];simp) ?_ ?_ ?_ (by rw[bN];exact Ba) ?_ ?_ ?_ hk
    ·rw[List.length_append,bN,BE,j5,Nat.add_mul]
    ·rw[MU,s5,bN]
    ·rw[bN];exact h1
    ·intro r hr;rcases List.mem_append.1 hr with hr|hr
     ·exact yT r hr
     ·exact f_ r hr
    ·rw[List.flatten_append];exact Vs.mono bg.kept (bI.refl _) _ _ (Vs.append wN m7)
    ·intro v iL;rcases List.mem_append.1 iL with iL|iL
     ·exact iE v iL
     ·exact rz v iL
   ·simp only[V];exact .inr ⟨aD,_,kq ..,rfl⟩
  by_cases dY:n=0
  ·subst dY;obtain rfl:rows=[]:=List.length_eq_zero_iff.1 hn;have he:∃ad,a.eval x=.slice ad 0 0:=by
    simp only[V]at cd;rcases cd with⟨_,ad,e⟩|⟨h,_⟩
    ·exact⟨ad,e⟩
    ·exact absurd rfl h
   obtain⟨ad,e1⟩:=he;by_cases hm:new=[]
   ·subst hm;refine⟨.slice ad 0 0,w,ρ,.inl (fd _ _ ?_),by simpa using Tr.Gr (id:=id) (bl:=bl) (sz:=sz) aj,by simp[V]⟩;have h1:=mg w rfl;have BD:us=[]:=by
     have:=j5;simp at this;exact this
    subst BD;rw[e1];cases ad with
    |none=>simp[Builtin.append_,ca hu,hs,ca jd,hlen w]at h1⊢;simp[h1]
    |some ad=>simp[Builtin.append_,ca hu,hs,ca jd,hlen w]at h1⊢;simp[h1,storeCells]
   ·refine grow ad 0 [] e1 ?_ ?_ zS (by simp[Vs]) zS zS ?_
    ·intro w' _;cases ad with
     |none=>simp[Builtin.firstCells]
     |some ad=>simp[Builtin.firstCells,loadCells,loadCellsFrom]
    ·have:new.length≠0:=fun h=>hm (List.length_eq_zero_iff.1 h);omega
    ·have:new.length≠0:=fun h=>hm (List.length_eq_zero_iff.1 h);omega
  ·have ei:(Ob.arr sz rows).live=true:=by
    cases rows with
    |nil=>simp at hn;exact absurd hn.symm dY
    |cons r rs=>rfl
   obtain⟨l,h3,hOl,c,T,h4,h5,h6,h7⟩:=aj.own id _ ho ei;have e1:a.eval x=.slice (some ⟨l.b,l.off,none⟩) n l.cap:=by
    simp only[V]at cd;rcases cd with⟨h,_⟩|⟨_,l',h8,e⟩
    ·exact absurd h dY
    ·rw[h3]at h8;cases h8;exact e
   obtain⟨h8,h9⟩:=Vr.flat rows l.off h7;have yT:∀r∈rows,r.length=sz:=by
    intro r hr;obtain⟨i,hi⟩:=List.getElem?_of_mem hr;exact(Vr.get rows l.off h7 i r hi).1
   rw[hn]at h9 h6;by_cases hc:n+new.length≤l.cap
   ·-- in place
    obtain⟨ct,cI,_⟩:=Vc.GL h4 rows.flatten l.off h8;have A':l.off+n*sz+us.length≤c.size:=by
     rw[j5];have:(n+new.length)*sz≤l.cap*sz:=Nat.mul_le_mul_right sz hc;rw[Nat.add_mul]at this;omega
    have aP:=vp (P:=P) (b:=l.b) (T:=T) us w c (l.off+n*sz) 0 h4 zO rz;have Ka:=run_append_room (T:=ty) (a:=⟨l.b,l.off,none⟩) (w:=w) hu hs jd zS (hlen w) (mg w rfl) hc (by rw[addr_add];exact aP);have bg:=Tr.cm (o':=.arr sz (rows++new)) aj ho ei h3 (.cells (setMany c (l.off+n*sz+0) us) T (0,0)) ?_
    ·have JV:(Ob.arr sz (rows++new)).live=true:=by
      cases rows with
      |nil=>simp at hn;exact absurd hn.symm dY
      |cons r rs=>rfl
     have JM:(U.set id (.arr sz (rows++new))).get bl=none:=by
      rw[ae.dV];by_cases e:id=bl
      ·subst e;rw[ho]at hid;cases hid
      ·rw[if_neg e];exact hid
     have kJ:=Tr.rename (id:=id) (bl:=bl) bg.ok (by rw[ae.dV];simp) JV JM h3;have qq:(U.set id (.arr sz (rows++new))).set id .dead=U.set id .dead:=by
      exact ae.set_set ..
     rw[qq]at kJ;refine⟨_,_,Go.T.cm ρ bl l,.inl (fd _ _ (by rw[e1];exact Ka)),bg.trans kJ,?_⟩;simp only[V];exact .inr ⟨by omega,l,kq ..,rfl⟩
    ·intro hk;refine⟨_,T,by simp[(Array.getElem?_eq_some_iff.1 h4).1];rfl,?_,?_,?_⟩
     ·rw[Gz];exact h5
     ·rw[List.length_append,hn];exact⟨hc,Ba⟩
     ·have uP:((setMany c (l.off+n*sz) us).toList.drop l.off).take (rows++new).flatten.length=(c.toList.drop l.off).take rows.flatten.length++us:=by
       rw[CU us c _ A',List.flatten_append,List.length_append,h9,m7.length.symm];have dI:(c.toList.take (l.off+n*sz)++us++c.toList.drop (l.off+n*sz+us.length)).drop l.off=(c.toList.drop l.off).take (n*sz)++us++c.toList.drop (l.off+n*sz+us.length):=by
        rw[List.append_assoc,List.drop_append_of_le_length zQ,List.drop_take,List.append_assoc,show l.off+n*sz-l.off=n*sz by omega]
       rw[dI];have fR:((c.toList.drop l.off).take (n*sz)++us).length=n*sz+us.length:=by
        simp;omega
       rw[←fR,List.take_left]
      refine Vr.r3 (c:=setMany c (l.off+n*sz) us) (T:=T) (fr:=(0,0)) (by simp[(Array.getElem?_eq_some_iff.1 h4).1]) (rows++new) l.off ?_ ?_ ?_
      ·intro r hr;rcases List.mem_append.1 hr with hr|hr
       ·exact yT r hr
       ·exact f_ r hr
      ·rw[uP,List.flatten_append];exact Vs.mono hk (bI.refl _) _ _ (Vs.append ct m7)
      ·rw[uP];intro v iL;rcases List.mem_append.1 iL with iL|iL
       ·exact cI v iL
       ·exact rz v iL
   ·obtain⟨vs,ct,cI,dI⟩:=run_loadCells (P:=P) rows.flatten l.off 0 #[] (by simpa using h8);refine grow (some ⟨l.b,l.off,none⟩) l.cap vs e1 ?_ hc (by rw[cI.length,h9]) cI dI yT zO;intro w' he;rw[h9]at ct;simpa[Builtin.firstCells,loadCells]using ct w' he
end
end Go.T
namespace Go.T
open Go
variable[bX]
theorem Le.step{F:Fr}{env aQ:Env}{U am:ae}
  (h:∀(O:Nat→Prop)(ρ:az)(w:World)(f:Nat→Value),cF w O ρ U→(∀t d,env.get t=some d→V w (Ot O ρ U) ρ d (f t))→∃av,Tr O w ρ U w av am∧∀t d,aQ.get t=some d→V w (Ot O av am) av d (f t)):Le F env U aQ am:=
 ⟨fun C a w ⟨ρ,hs⟩=>by
  obtain⟨av,h1,h2⟩:=h C.O ρ w (fun t=>a.tmps.getD t undef) hs.tr.ok hs.env;exact⟨av,hs.step h1 h2 rfl rfl⟩⟩
theorem Tr.jy{O:Nat→Prop}{w:World}{ρ:az}{U:ae}(id sz:Nat)(aj:cF w O ρ U):Tr O w ρ U w ρ ((id,.arr sz [])::U):=by
 have look:∀i x,ae.get ((id,Ob.arr sz [])::U) i=some x→x.live=true→U.get i=some x:=by
  intro i x h1 h2;rw[ae.bf]at h1;by_cases e:id=i
  ·simp only[if_pos e,Option.some.injEq]at h1;subst h1;simp[Ob.live]at h2
  ·rw[if_neg e]at h1;exact h1
 have lv:∀b,b8 ρ ((id,.arr sz [])::U) b→b8 ρ U b:=by
  rintro b ⟨i,x,l,h1,h2,h3⟩;exact⟨i,x,l,look i x h1 h2,h2,h3⟩
 have hk:Kept w (Ot O ρ U) w (Ot O ρ ((id,.arr sz [])::U)):=Kept.fa fun b=>Or.imp _root_.id (lv b);refine⟨bI.refl _,Nat.le_refl _,fun _ _ _=>rfl,fun b hb=>.inl (lv b hb),⟨aj.lt,?_,?_,?_⟩,rfl,rfl,gV.eq rfl rfl⟩
 ·intro i hi;rw[ae.bf]at hi;by_cases e:id=i
  ·simp[e]at hi
  ·rw[if_neg e]at hi;exact aj.fresh i hi
 ·intro i x h1 h2;obtain⟨l,h3,h4,h5⟩:=aj.own i x (look i x h1 h2) h2;exact⟨l,h3,h4,h5.mono hk (bI.refl _) rfl⟩
 ·intro i j x x' l1 l2 h1 h2 h3 h4;exact aj.inj i j x x' l1 l2 (look i x h1 h3) (look j x' h2 h4) h3 h4
theorem Le.jy{F:Fr}{env:Env}{U:ae}(id sz:Nat):Le F env U env ((id,.arr sz [])::U):=.step fun O ρ w f aj hv=>
 ⟨ρ,Tr.jy id sz aj,fun t d h=>(Tr.jy id sz aj).V (hv t d h)⟩
theorem aq.jy{P:Program}{o:Oper}{env:Env}{U am:ae}{d d0:D}{t:Nat}(id sz:Nat)(ht:env.get t=some d0)(hs:Sub d0 (.gs id 0))(h:aq P o ((t,.gs id 0)::env) ((id,.arr sz [])::U) d am):aq P o env U d am:=by
 intro O ρ a w aj cK hv;have bg:=Tr.jy id sz aj;refine Oper.wp_mono ?_ (h O ρ a w bg.ok (cK.mono bg.kept) ?_)
 ·rintro a' w' ⟨av,v,h1,h2,h3⟩;exact⟨av,v,h1,bg.trans h2,h3⟩
 ·intro x hx d' hd;cases x with
  |tmp s=>
   simp only[Env.op,Env.bf]at hd;by_cases e:t=s
   ·subst e;simp only[if_true,Option.some.injEq]at hd;subst hd;exact bg.V (hs.out _ _ _ _ (hv (.tmp t) hx d0 ht))
   ·rw[if_neg e]at hd;exact bg.V (hv (.tmp s) hx d' hd)
  |const v=>exact LD hd
  |global g=>simp only[Env.op,Option.some.injEq]at hd;subst hd;simp[V,Act.eval]
  |func f=>simp only[Env.op,Option.some.injEq]at hd;subst hd;exact⟨#[],#[],rfl,by simp[Vs],by simp[Vs]⟩
theorem Sub.wm(id:Nat):Sub (.raw (.slice none 0 0)) (.gs id 0):=⟨fun w O ρ v h=>by
 simp only[V]at h⊢;exact .inl ⟨trivial,none,h⟩⟩
theorem Sub.yA(id sz:Nat):Sub (.snap sz true []) (.gs id 0):=⟨fun w O ρ v h=>by
 simp only[V]at h⊢;obtain⟨a,cap,e,_,h2,_⟩:=h;have:=h2 trivial;exact .inl ⟨trivial,a,by rw[e,this];rfl⟩⟩
theorem Le.kO{F:Fr}{env:Env}{U:ae}{sz n:Nat}{rows:List (List D)}(t id bl:Nat)(ht:env.get t=some (.gs id n))(ho:U.get id=some (.arr sz rows))(hn:rows.length=n)(hid:U.get bl=none):
  Le F env U ((t,.gs bl n)::env) ((bl,.arr sz rows)::U.set id .dead):=.step fun O ρ w f aj hv=>by
 have s0:=hv t _ ht;cases rows with
 |nil=>
  subst hn;have bg:=Tr.Gr (id:=id) (bl:=bl) (sz:=sz) aj;refine⟨ρ,bg,fun s d h=>?_⟩;rw[Env.bf]at h;by_cases e:t=s
  ·rw[if_pos e]at h;cases h;subst e;simp only[V]at s0⊢;rcases s0 with h|⟨h,_⟩
   ·exact .inl h
   ·exact absurd rfl h
  ·rw[if_neg e]at h;exact bg.V (hv s d h)
 |cons r rs=>
  obtain⟨l,h3,_⟩:=aj.own id _ ho rfl;have bg:=Tr.rename (id:=id) (bl:=bl) aj ho rfl hid h3;refine⟨_,bg,fun s d h=>?_⟩;rw[Env.bf]at h;by_cases e:t=s
  ·rw[if_pos e]at h;cases h;subst e;simp only[V]at s0⊢;rcases s0 with h|⟨h,l',h4,h5⟩
   ·exact .inl h
   ·rw[h3]at h4;cases h4;exact .inr ⟨h,l,kq ..,h5⟩
  ·rw[if_neg e]at h;exact bg.V (hv s d h)
theorem Tr.die{O:Nat→Prop}{w:World}{ρ:az}{U:ae}(id:Nat)(aj:cF w O ρ U):Tr O w ρ U w ρ (U.set id .dead):=by
 have lv:∀b,b8 ρ (U.set id .dead) b→b8 ρ U b:=by
  rintro b ⟨i,x,l,h1,h2,h3⟩;exact⟨i,x,l,q8 i x h1 h2,h2,h3⟩
 have hk:Kept w (Ot O ρ U) w (Ot O ρ (U.set id .dead)):=Kept.fa fun b=>Or.imp _root_.id (lv b);refine⟨bI.refl _,Nat.le_refl _,fun _ _ _=>rfl,fun b hb=>.inl (lv b hb),⟨aj.lt,fun i hi=>aj.fresh i (DP i hi),?_,?_⟩,rfl,rfl,gV.eq rfl rfl⟩
 ·intro i x h1 h2;obtain⟨l,h3,h4,h5⟩:=aj.own i x (q8 i x h1 h2) h2;exact⟨l,h3,h4,h5.mono hk (bI.refl _) rfl⟩
 ·intro i j x x' l1 l2 h1 h2 h3 h4;exact aj.inj i j x x' l1 l2 (q8 i x h1 h3) (q8 j x' h2 h4) h3 h4
theorem Jg{O:Nat→Prop}{w:World}{ρ:az}{U:ae}{id sz n:Nat}{rows:List (List D)}{v:Value}(aj:cF w O ρ U)(ho:U.get id=some (.arr sz rows))(hn:rows.length=n)(hv:V w (Ot O ρ U) ρ (.gs id n) v):
  V w (Ot O ρ (U.set id .dead)) ρ (.snap sz false rows) v:=by
 simp only[V]at hv⊢;cases rows with
 |nil=>
  subst hn;rcases hv with⟨_,a,e⟩|⟨h,_⟩
  ·exact⟨a,0,e,by simp[aG]⟩
  ·exact absurd rfl h
 |cons r rs=>
  rcases hv with⟨h,_⟩|⟨_,l,h1,e⟩
  ·rw[h]at hn;simp at hn
  ·obtain⟨l',h3,h4,c,T,h5,h6,h7,h8⟩:=aj.own id _ ho rfl;rw[h1]at h3;cases h3;refine⟨some ⟨l.b,l.off,none⟩,l.cap,by rw[hn];exact e,h7,by simp,fun _=>⟨l.b,l.off,rfl,⟨(Array.getElem?_eq_some_iff.1 h5).1,?_⟩,?_⟩⟩
   ·rintro(hb|⟨i,x,l',g1,g2,g3,g4⟩)
    ·exact h4 hb
    ·have hx:=q8 i x g1 g2;have:=aj.inj i id x _ l' l hx ho g2 rfl g3 h1 g4;subst this;rw[ae.dV]at g1;simp only[if_true,Option.some.injEq]at g1;subst g1;simp[Ob.live]at g2
   ·have hk:=(Tr.die id aj).kept;exact gX.mono.vr hk rfl _ _ h8
theorem Le.freeze{F:Fr}{env:Env}{U:ae}{sz n:Nat}{rows:List (List D)}(t id:Nat)(ht:env.get t=some (.gs id n))(ho:U.get id=some (.arr sz rows))(hn:rows.length=n):
  Le F env U ((t,.snap sz false rows)::env) (U.set id .dead):=.step fun O ρ w f aj hv=>by
 have bg:=Tr.die id aj;refine⟨ρ,bg,fun s d h=>?_⟩;rw[Env.bf]at h;by_cases e:t=s
 ·rw[if_pos e]at h;cases h;subst e;exact Jg aj ho hn (hv t _ ht)
 ·rw[if_neg e]at h;exact bg.V (hv s d h)
end Go.T
namespace Go.T
open Go
variable[bX]
section
variable{P:Program} {N:Nat} {ops:Array Oper} {K:Env→ae→Prop} {l:List Oper} {ks:List Kind} {env:Env} {U:ae}
theorem eB{o:Oper}{g t:Nat}{b c:Bool}(hg:o.guard=some (g,b))(ht:(ops[g]?).bind (·.dst)=some t)(he:env.get t=some (.raw (.bool c)))(hc:c=b):On ops env o:=by
 subst hc;simp only[On,hg];exact⟨t,ht,he⟩
theorem gf{o:Oper}{g t:Nat}{b c:Bool}(hg:o.guard=some (g,b))(ht:(ops[g]?).bind (·.dst)=some t)(he:env.get t=some (.raw (.bool c)))(hc:c=!b):si ops env o:=
 ⟨g,b,t,.bool c,hg,ht,he,by subst hc;cases b<;>simp⟩
theorem Lx{o:Oper}{g t:Nat}{b:Bool}(hg:o.guard=some (g,b))(ht:(ops[g]?).bind (·.dst)=some t)(he:env.get t=some (.raw undef)):si ops env o:=
 ⟨g,b,t,undef,hg,ht,he,by simp[undef]⟩
theorem cz.gT{o:Oper}{iM:Kind}{g t:Nat}{p:Bool}{d:D}(hd:dR N o.dst=true)(hk:iM=.p∨iM=.r)(hg:o.guard=some (g,true))(ht:(ops[g]?).bind (·.dst)=some t)(he:env.get t=some (.raw (.bool p)))
  (h:p=true→(iM=.p→∀U,aq P o env U d U)∧(iM=.r→aq P o env U d U))(k:cz P N ops K l ks (env.put o.dst (bif p then d else .raw undef)) U):cz P N ops K (o::l) (iM::ks) env U:=by
 cases p with
 |false=>exact .off hd (gf hg ht he rfl) k
 |true=>
  rcases hk with rfl|rfl
  ·exact .p hd (eB hg ht he rfl) ((h rfl).1 rfl) k
  ·exact .r hd (eB hg ht he rfl) ((h rfl).2 rfl) k
theorem cz.gF{o:Oper}{iM:Kind}{g t:Nat}{p:Bool}{d:D}(hd:dR N o.dst=true)(hk:iM=.p∨iM=.r)(hg:o.guard=some (g,false))(ht:(ops[g]?).bind (·.dst)=some t)(he:env.get t=some (.raw (.bool p)))
  (h:p=false→(iM=.p→∀U,aq P o env U d U)∧(iM=.r→aq P o env U d U))(k:cz P N ops K l ks (env.put o.dst (bif !p then d else .raw undef)) U):cz P N ops K (o::l) (iM::ks) env U:=by
 cases p with
 |true=>exact .off hd (gf hg ht he rfl) k
 |false=>
  rcases hk with rfl|rfl
  ·exact .p hd (eB hg ht he rfl) ((h rfl).1 rfl) k
  ·exact .r hd (eB hg ht he rfl) ((h rfl).2 rfl) k
theorem cz.nT{o:Oper}{iM:Kind}{g t:Nat}{c p:Bool}{d:D}(hd:dR N o.dst=true)(hk:iM=.p∨iM=.r)(hg:o.guard=some (g,true))(ht:(ops[g]?).bind (·.dst)=some t)(he:env.get t=some (bif c then .raw (.bool p)else .raw undef))
  (h:c=true→p=true→(iM=.p→∀U,aq P o env U d U)∧(iM=.r→aq P o env U d U))(k:cz P N ops K l ks (env.put o.dst (bif c&&p then d else .raw undef)) U):cz P N ops K (o::l) (iM::ks) env U:=by
 cases c with
 |false=>exact .off hd (Lx hg ht he) k
 |true=>exact cz.gT hd hk hg ht he (h rfl) k
theorem cz.nF{o:Oper}{iM:Kind}{g t:Nat}{c p:Bool}{d:D}(hd:dR N o.dst=true)(hk:iM=.p∨iM=.r)(hg:o.guard=some (g,false))(ht:(ops[g]?).bind (·.dst)=some t)(he:env.get t=some (bif c then .raw (.bool p)else .raw undef))
  (h:c=true→p=false→(iM=.p→∀U,aq P o env U d U)∧(iM=.r→aq P o env U d U))(k:cz P N ops K l ks (env.put o.dst (bif c&&!p then d else .raw undef)) U):cz P N ops K (o::l) (iM::ks) env U:=by
 cases c with
 |false=>exact .off hd (Lx hg ht he) k
 |true=>exact cz.gF hd hk hg ht he (h rfl) k
theorem bh{x:Operand}{c:Bool}{d u:D}(h:env.op x=some (bif c then d else u))(hc:c=true):env.op x=some d:=by rw[h,hc];rfl
theorem LC{x:Operand}{c r:Bool}{d u:D}(h:env.op x=some (bif c&&r then d else u))(hc:c=true):env.op x=some (bif r then d else u):=by rw[h,hc];rfl
theorem ck{x:Operand}{xs:List Operand}{d:D}{ds:List D}(h:env.op x=some d)(r:env.kg xs=some ds):env.kg (x::xs)=some (d::ds):=by simp[Env.kg,h,r]
theorem nt{p:Bool}(h:p=false):(!p)=true:=by rw[h];rfl
theorem bT{c p:Bool}(h:c=true)(h':p=true):(c&&p)=true:=by rw[h,h'];rfl
theorem bF{c p:Bool}(h:c=true)(h':p=false):(c&&!p)=true:=by rw[h,h'];rfl
theorem pk{P:Program}{o:Oper}{env:Env}{d:D}{U:ae}(h:∀U,aq P o env U d U):(Kind.p=.p→∀U,aq P o env U d U)∧(Kind.p=.r→aq P o env U d U):=⟨fun _=>h,(fun e=>by cases e)⟩
theorem rk{P:Program}{o:Oper}{env:Env}{d:D}{U:ae}(h:aq P o env U d U):(Kind.r=.p→∀U,aq P o env U d U)∧(Kind.r=.r→aq P o env U d U):=⟨(fun e=>by cases e),fun _=>h⟩
theorem gO{dst:Option Tmp}{ty:TypeId}{pos:String}{ar:Array Edge}{g:Option (Nat×Bool)}{c x:Operand}{b q:Bool}{u:D}(hc:env.op c=some (.raw (.bool b)))(hx:env.op x=some (bif b then .raw (.bool q)else u))(U:ae):
  aq P ⟨dst,.pick c x (.const (.bool false)),ty,pos,ar,g⟩ env U (.raw (.bool (b&&q))) U:=by
 cases b with
 |true=>exact tP hc rfl hx U
 |false=>exact xr hc rfl rfl U
theorem nw{dst:Option Tmp}{ty:TypeId}{pos:String}{ar:Array Edge}{g:Option (Nat×Bool)}{c y:Operand}{b q:Bool}{u:D}(hc:env.op c=some (.raw (.bool b)))(hx:env.op y=some (bif !b then .raw (.bool q)else u))(U:ae):
  aq P ⟨dst,.pick c (.const (.bool true)) y,ty,pos,ar,g⟩ env U (.raw (.bool (b||q))) U:=by
 cases b with
 |true=>exact tP hc rfl rfl U
 |false=>exact xr hc rfl hx U
end
theorem cz.mono{P:Program}{N:Nat}{ops:Array Oper}{K K':Env→ae→Prop}{l:List Oper}{ks:List Kind}{env:Env}{U:ae}(h:cz P N ops K l ks env U)(hk:∀e o,K e o→K' e o):cz P N ops K' l ks env U:=by
 induction h with
 |nil h=>exact .nil (hk _ _ h)
 |p hd hg h _ ih=>exact .p hd hg h ih
 |r hd hg h _ ih=>exact .r hd hg h ih
 |w hd hg h _ ih=>exact .w hd hg h ih
 |off hd hg _ ih=>exact .off hd hg ih
def od(P:Program)(F:Fr):List Code→(Exit→Env→ae→Prop)→Env→ae→Prop
 |[],Q,env,U=>Q .normal env U
 |c::cs,Q,env,U=>WP P F c (jS (od P F cs Q) Q) env U
structure J(P:Program)(F:Fr)(cs:List Code)(Q:Exit→Env→ae→Prop)(env:Env)(U:ae):Prop where
 out:od P F cs Q env U
def bq(id:Nat)(K:Env→ae→Prop)(Q:Exit→Env→ae→Prop):Exit→Env→ae→Prop
 |.normal,env,U=>K env U
 |.exit i,env,U=>bif Nat.beq i id then K env U else Q (.exit i) env U
 |e,env,U=>Q e env U
section
variable{P:Program} {F:Fr} {Q Q':Exit→Env→ae→Prop} {K:Env→ae→Prop} {env:Env} {U:ae} {cs:List Code}
theorem WP.mono{c:Code}(h:WP P F c Q env U)(hq:∀e env U,Q e env U→Q' e env U):WP P F c Q' env U:=
 ⟨fun C a w hs=>wpIn_mono (h.out C a w hs) fun e _ _ ⟨aQ,am,h1,h2⟩=>⟨aQ,am,hq e aQ am h1,h2⟩⟩
theorem J.start{c:Code}(h:J P F [c] Q env U):WP P F c Q env U:=WP.mono h.out fun e _ _ h=>by cases e<;>exact h
theorem J.seq{a b:Code}(h:J P F (a::b::cs) Q env U):J P F (.seq a b::cs) Q env U:=⟨by
 refine WP.seq (WP.mono h.out ?_);intro e env U h;cases e<;>exact h⟩
theorem J.af{id:Nat}{l:List Oper}(ks:List Kind)(h:cz P F.N l.toArray (J P F cs Q) l ks env U):J P F (.region id l.toArray false::cs) Q env U:=
 ⟨WP.region (Q:=jS (od P F cs Q) Q) (h.mono fun _ _ h=>h.out)⟩
theorem J.oU{id:Nat}{l:List Oper}(ks:List Kind)(hm:P.follows .mixedOrders=true)(aj:jO l.toArray ks=true)(h:cz P F.N l.toArray (J P F cs Q) l ks env U):J P F (.region id l.toArray true::cs) Q env U:=
 ⟨WP.VI (Q:=jS (od P F cs Q) Q) hm aj (h.mono fun _ _ h=>h.out)⟩
theorem J.skip(h:J P F cs Q env U):J P F (.skip::cs) Q env U:=⟨WP.skip (Q:=jS (od P F cs Q) Q) h.out⟩
theorem J.ret(h:Q .ret env U):J P F (.ret::cs) Q env U:=⟨WP.ret (Q:=jS (od P F cs Q) Q) h⟩
theorem J.exit{id:Nat}(h:Q (.exit id) env U):J P F (.exit id::cs) Q env U:=⟨WP.exit (Q:=jS (od P F cs Q) Q) h⟩
theorem J.nil(h:Q .normal env U):J P F [] Q env U:=⟨h⟩
theorem J.cond{c:Operand}{x y:Code}{b:Bool}(hc:env.op c=some (.raw (.bool b)))(ht:b=true→J P F (x::cs) Q env U)(hf:b=false→J P F (y::cs) Q env U):J P F (.cond c x y::cs) Q env U:=
 ⟨WP.cond hc (fun e=>(ht e).out) (fun e=>(hf e).out)⟩
theorem J.gu{c:Operand}{x y:Code}{b:Bool}(hc:env.op c=some (.raw (.bool b)))(hb:b=true)(ht:J P F (x::cs) Q env U):J P F (.cond c x y::cs) Q env U:=⟨WP.gu hc hb ht.out⟩
theorem J.eF{c:Operand}{x y:Code}{b:Bool}(hc:env.op c=some (.raw (.bool b)))(hb:b=false)(ht:J P F (y::cs) Q env U):J P F (.cond c x y::cs) Q env U:=⟨WP.eF hc hb ht.out⟩
theorem J.bE{c:Code}{aQ:Env}{am:ae}(h:Le F env U aQ am)(hr:J P F (c::cs) Q aQ am):J P F (c::cs) Q env U:=⟨WP.bE h hr.out⟩
theorem J.block{id:Nat}{c:Code}(h:J P F [c] (bq id (J P F cs Q) Q) env U):J P F (.block id c::cs) Q env U:=⟨by
 refine WP.block (WP.mono h.start ?_);intro e env U h;cases e with
 |normal=>exact h.out
 |exit i=>
  simp only[bq,Hy]at h⊢;cases hb:Nat.beq i id with
  |true=>simp only[hb,cond_true]at h⊢;exact h.out
  |false=>simp only[hb,cond_false]at h⊢;exact h
 |_=>exact h⟩
theorem cn{id:Nat}(h:K env U):bq id K Q .normal env U:=h
theorem dG{id:Nat}(h:K env U):bq id K Q (.exit id) env U:=by simp only[bq,Nat.beq_refl,cond_true];exact h
theorem YG{id i:Nat}(hi:Nat.beq i id=false)(h:Q (.exit i) env U):bq id K Q (.exit i) env U:=by simp only[bq,hi,cond_false];exact h
theorem jU{id:Nat}(h:Q .ret env U):bq id K Q .ret env U:=h
theorem cZ(h:K env U):jS K Q .normal env U:=h
theorem dO{i:Nat}(h:Q (.exit i) env U):jS K Q (.exit i) env U:=h
theorem sc(h:Q .ret env U):jS K Q .ret env U:=h
theorem J.loop{ι:Type}{c:Code}(E:ι→Env)(B:ι→ae)(m:ι→Nat)(x0:ι)(h0:Le F env U (E x0) (B x0))
  (round:∀x,J P F [c] (jS (fun e o=>∃x',m x'<m x∧Le F e o (E x') (B x')) Q) (E x) (B x)):J P F (.loop c::cs) Q env U:=⟨by
 refine WP.loop E B m x0 h0 fun x=>WP.mono (round x).start ?_;intro e env U h;cases e<;>exact h⟩
end
theorem J.l4{P:Program}{F:Fr}{Q:Exit→Env→ae→Prop}{env:Env}{U:ae}{c:Code}{cs:List Code}{s:List UInt8}(t:Nat)(h:env.get t=some (.str s))(k:s.length≤aG→J P F (c::cs) Q env U):J P F (c::cs) Q env U:=⟨⟨fun C a w hs=>by
 have hb:s.length≤aG:=by
  obtain⟨ρ,hs⟩:=hs;have:=hs.env t _ h;simp only[V]at this;exact this.2
 exact(k hb).out.out C a w hs⟩⟩
theorem J.eu{P:Program}{F:Fr}{Q:Exit→Env→ae→Prop}{env:Env}{U:ae}{c:Code}{cs:List Code}{sz:Nat}{f:Bool}{rows:List (List D)}(t:Nat)(h:env.get t=some (.snap sz f rows))(k:rows.length≤aG→J P F (c::cs) Q env U):J P F (c::cs) Q env U:=⟨⟨fun C a w hs=>by
 have hb:rows.length≤aG:=by
  obtain⟨ρ,hs⟩:=hs;have:=hs.env t _ h;simp only[V]at this;obtain⟨_,_,_,h1,_⟩:=this;exact h1.2
 exact(k hb).out.out C a w hs⟩⟩
theorem J.vR{P:Program}{F:Fr}{Q:Exit→Env→ae→Prop}{env:Env}{U:ae}{c:Code}{cs:List Code}{ds:List D}{sz:Nat}{f:Bool}{rows:List (List D)}(t i:Nat)(h:env.get t=some (.agg ds))(hi:ds[i]?=some (.snap sz f rows))(k:rows.length≤aG→J P F (c::cs) Q env U):J P F (c::cs) Q env U:=⟨⟨fun C s w hs=>by
 have hb:rows.length≤aG:=by
  obtain⟨ρ,hs⟩:=hs;have h1:=hs.env t _ h;simp only[V]at h1;obtain⟨vs,_,h1⟩:=h1;obtain⟨v,_,h2⟩:=h1.get i _ hi;simp only[V]at h2;obtain⟨_,_,_,h3,_⟩:=h2;exact h3.2
 exact(k hb).out.out C s w hs⟩⟩
theorem Sub.int{k:IntKind}{n m:Int}(h:n=m):Sub (.raw (.int k n)) (.raw (.int k m)):=.of_eq (by rw[h])
theorem Sub.bool{n m:Bool}(h:n=m):Sub (.raw (.bool n)) (.raw (.bool m)):=.of_eq (by rw[h])
theorem Sub.str{n m:List UInt8}(h:n=m):Sub (.str n) (.str m):=.of_eq (by rw[h])
theorem Sub.snap{sz:Nat}{f:Bool}{n m:List (List D)}(h:n=m):Sub (.snap sz f n) (.snap sz false m):=h▸.qQ sz f n
theorem dn{env:Env}{U:ae}{t:Nat}{d r:D}(h:env.get t=some d)(s:Sub d r):CM [t] r .ret env U:=⟨[d],by simp[getAll,h],s⟩
theorem r9{env:Env}{U:ae}{t u:Nat}{d e d' e':D}(h:env.get t=some d)(h':env.get u=some e)(s:Sub d d')(s':Sub e e'):CM [t,u] (.bj [d',e']) .ret env U:=⟨[d,e],by simp[getAll,h,h'],.C9 s s'⟩
theorem Md{env:Env}{U:ae}{t u v:Nat}{d e f d' e' f':D}(h:env.get t=some d)(h':env.get u=some e)(A6:env.get v=some f)(s:Sub d d')(s':Sub e e')(Mi:Sub f f'):CM [t,u,v] (.bj [d',e',f']) .ret env U:=⟨[d,e,f],by simp[getAll,h,h',A6],.WN s s' Mi⟩
theorem aS{α β:Type}{l pre rest:List α}{x:α}{n:Int}(f:α→β)(h:l=pre++x::rest)(hn:n=(pre.length:Int)):(l.map f)[n.toNat]?=some (f x):=by
 subst h;subst hn;simp
theorem mu{l pre rest:List UInt8}{x:UInt8}{n:Int}(h:l=pre++x::rest)(hn:n=(pre.length:Int)):l[n.toNat]?=some x:=by
 subst h;subst hn;simp
theorem en{n:Int}(h1:-9223372036854775808≤n)(h2:n≤9223372036854775807):IntKind.i64.wrap n=n:=IntWalk.i64_in n ⟨h1,h2⟩
theorem aw{n:Int}(h:-9223372036854775808≤n∧n≤9223372036854775807):IntKind.i64.wrap n=n:=IntWalk.i64_in n h
theorem Dd{n:Int}(h1:0≤n)(h2:n≤18446744073709551615):IntKind.u64.wrap n=n:=IntWalk.u64_in n ⟨h1,h2⟩
theorem Xp{n:Int}(h1:0≤n)(h2:n≤255):IntKind.u8.wrap n=n:=IntWalk.u8_in n ⟨h1,h2⟩
theorem Fc.mk'{P:Program}{f:FuncId}{fn:Func}{c:Code}{args:List D}{r:D}(ts:List Nat)(hf:P.funcs[f]?=some fn)(hb:fn.body=some c){N:Nat}(hN:fn.ntmps=N)(hn:Nat.ble args.length N=true)(hp:D.bz.ec args=true)(hr:r.bz=true)
  (qp:∀tmps w,(results fn tmps).run P w=.ok (CK ts tmps) w)(h:J P ⟨N,[],false,none⟩ [c] (CM ts r) (qc args 0) []):Fc P f args r:=
 Fc.of_wp ts hf hb hN (Nat.le_of_ble_eq_true hn) hp hr qp h.start
end Go.T
namespace Go.T
open Go
variable[bX]
theorem cz.mv{P:Program}{N:Nat}{ops:Array Oper}{K:Env→ae→Prop}{dst:Option Tmp}{ty:TypeId}{pos:String}{ar:Array Edge}{x:Operand}{l:List Oper}{ks:List Kind}{env:Env}{U:ae}{d:D}(hd:dR N dst=true)(hx:env.op x=some d)
  (k:cz P N ops K l ks (env.put dst d) U):cz P N ops K (⟨dst,.move x,ty,pos,ar,none⟩::l) (.p::ks) env U:=.p hd trivial (fun _=>aT hx _) k
theorem cz.ag{P:Program}{N:Nat}{ops:Array Oper}{K:Env→ae→Prop}{dst:Option Tmp}{ty:TypeId}{pos:String}{ar:Array Edge}{x:Operand}{l:List Oper}{ks:List Kind}{env:Env}{U:ae}{d:D}(hd:dR N dst=true)(hx:env.op x=some d)
  (k:cz P N ops K l ks (env.put dst d) U):cz P N ops K (⟨dst,.assign x,ty,pos,ar,none⟩::l) (.p::ks) env U:=.p hd trivial (fun _=>zX hx _) k
theorem bs:((∀a b:Bool,((a&&b)=true)=(a=true∧b=true))∧(∀a b:Bool,((a||b)=true)=(a=true∨b=true))∧(∀x y:Bool,((x&&y)=false)=(x=false∨y=false))∧(∀x y:Bool,((x||y)=false)=(x=false∧y=false))∧
  (∀(p:Prop)[Decidable p],(decide p=true)=p)∧(∀(p:Prop)[Decidable p],(decide p=false)=¬p)∧(∀b:Bool,((!b)=true)=(b=false))∧(∀b:Bool,((!b)=false)=(b=true))∧(∀a b:Int,(¬a<b)=(b≤a))∧(∀a b:Int,(¬a≤b)=(b<a))∧
  (∀p:Prop,(¬¬p)=p))∧(∀{α:Type}[BEq α][LawfulBEq α](a b:α),((a !=b)=true)=(a≠b))∧(∀{α:Type}(a b:α),(a≠b)=¬(a=b))∧(∀{α β:Type}(f:α→β)(l:List α),(l.map f).length=l.length):=
 ⟨⟨fun a b=>by simp,fun a b=>by simp,fun a b=>by cases a<;>cases b<;>simp,fun a b=>by simp,fun p _=>by simp,fun p _=>by simp,fun b=>by simp,fun b=>by simp,fun a b=>by simp,fun a b=>by simp,fun p=>by simp⟩,fun a b=>by simp,fun a b=>rfl,fun f l=>by simp⟩
theorem cz.P{P:Program}{N:Nat}{ops:Array Oper}{K:Env→ae→Prop}{dst:Option Tmp}{o:Op}{ty:TypeId}{pos:String}{ar:Array Edge}{l:List Oper}{ks:List Kind}{env:Env}{U:ae}{d:D}(hd:dR N dst=true)(h:∀U,aq P ⟨dst,o,ty,pos,ar,none⟩ env U d U)(k:cz P N ops K l ks (env.put dst d) U):cz P N ops K (⟨dst,o,ty,pos,ar,none⟩::l) (.p::ks) env U:=.p hd trivial h k
theorem cz.R{P:Program}{N:Nat}{ops:Array Oper}{K:Env→ae→Prop}{dst:Option Tmp}{o:Op}{ty:TypeId}{pos:String}{ar:Array Edge}{l:List Oper}{ks:List Kind}{env:Env}{U:ae}{d:D}(hd:dR N dst=true)(h:aq P ⟨dst,o,ty,pos,ar,none⟩ env U d U)(k:cz P N ops K l ks (env.put dst d) U):cz P N ops K (⟨dst,o,ty,pos,ar,none⟩::l) (.r::ks) env U:=.r hd trivial h k
theorem cz.W{P:Program}{N:Nat}{ops:Array Oper}{K:Env→ae→Prop}{dst:Option Tmp}{o:Op}{ty:TypeId}{pos:String}{ar:Array Edge}{l:List Oper}{ks:List Kind}{env:Env}{U am:ae}{d:D}(hd:dR N dst=true)(h:aq P ⟨dst,o,ty,pos,ar,none⟩ env U d am)(k:cz P N ops K l ks (env.put dst d) am):cz P N ops K (⟨dst,o,ty,pos,ar,none⟩::l) (.w::ks) env U:=.w hd trivial h k
theorem Sub.aru{k:IntKind}{n m:Int}(h:n=m:=by first|rfl|(simp;done)|omega|(simp;omega)):Sub (.raw (.int k n)) (.raw (.int k m)):=.int h
theorem Sub.ap4{n m:Bool}(h:n=m:=by first|rfl|(simp;done)|omega|(simp;omega)):Sub (.raw (.bool n)) (.raw (.bool m)):=.bool h
theorem Sub.asK{n m:List UInt8}(h:n=m:=by first|rfl|(simp;done)|omega|(simp;omega)):Sub (.str n) (.str m):=.str h
end Go.T
namespace Go.T
open Go
variable[bX]
section
variable{P:Program} {env:Env} {dst:Option Tmp} {ty:TypeId} {pos:String} {ar:Array Edge} {g:Option (Nat×Bool)}
theorem CG{tys:Array TypeId}{x y:Operand}{k:IntKind}{n m r:Int}(hx:env.op x=some (.raw (.int k n)))(hy:env.op y=some (.raw (.int k m)))(h:max n m=r)(U:ae):aq P ⟨dst,.call ⟨.builtin .max,#[x,y],tys⟩,ty,pos,ar,g⟩ env U (.raw (.int k r)) U:=
 .val fun _ _ a w _ hv=>⟨.int k r,by
  have h1:=hv x (by simp[Op.operands,Call.operands]) _ hx;have h2:=hv y (by simp[Op.operands,Call.operands]) _ hy;simp only[V]at h1 h2;have:(if m>n then m else n)=r:=by rw[←h];omega
  simp[execOp,resolve,invoke,builtin,Builtin.max_,Builtin.max2,h1,h2,this],by simp[V]⟩
theorem z1{tys:Array TypeId}{x y:Operand}{k:IntKind}{n m r:Int}(hx:env.op x=some (.raw (.int k n)))(hy:env.op y=some (.raw (.int k m)))(h:min n m=r)(U:ae):aq P ⟨dst,.call ⟨.builtin .min,#[x,y],tys⟩,ty,pos,ar,g⟩ env U (.raw (.int k r)) U:=
 .val fun _ _ a w _ hv=>⟨.int k r,by
  have h1:=hv x (by simp[Op.operands,Call.operands]) _ hx;have h2:=hv y (by simp[Op.operands,Call.operands]) _ hy;simp only[V]at h1 h2;have:(if m<n then m else n)=r:=by rw[←h];omega
  simp[execOp,resolve,invoke,builtin,Builtin.min_,Builtin.min2,h1,h2,this],by simp[V]⟩
@[reducible] def l5(s:aa):List (List D):=s.map fun c=>[.raw (.int .u8 c.toNat)]
theorem NH{w:World}{O:Nat→Prop}{b:Nat}{c:Array Value}{T:TypeId}{fr:Nat×Nat}(hb:w.heap[b]?=some (.cells c T fr)):∀(s:aa)(off:Nat),(∀j x,s[j]?=some x→c.toList[off+j]?=some (.int .u8 x.toNat))→Vr w O b off 1 (l5 s)
 |[],off,_=>by simp[l5,Vr]
 |x::s,off,h=>by
  simp only[l5,List.map_cons,Vr];refine⟨⟨rfl,?_⟩,NH hb s (off+1) (fun j y hj=>?_)⟩
  ·simp only[Vc];have h0:=h 0 x rfl;refine⟨⟨.int .u8 x.toNat,⟨?_,rfl⟩,by simp[V]⟩,trivial⟩;simp only[World.cell?,hb];simpa using h0
  ·have:=h (j+1) y (by simpa using hj);rw[show off+1+j=off+(j+1) by omega];exact this
theorem akO(e:TypeId)(c:Array Value)(n cap:Nat)(w:World):(do let a←newRow e c;markStringish a;pure (Value.slice (some a) n cap):Sem Value).run P w=.ok (.slice (some ⟨w.heap.size,0,none⟩) n cap) {w with heap:=w.heap.push (.cells c e (c.size,c.size+1))}:=by
 have h1:(newRow e c).run P w=.ok ⟨w.heap.size,0,none⟩ {w with heap:=w.heap.push (.cells c e (0,0))}:=by
  simp[newRow,run_newObj_alloc]
 have h2:(markStringish ⟨w.heap.size,0,none⟩).run P {w with heap:=w.heap.push (.cells c e (0,0))}=.ok () {w with heap:=w.heap.push (.cells c e (c.size,c.size+1))}:=by
  have hs:World.shape? {w with heap:=w.heap.push (.cells c e (0,0))} w.heap.size=some (e,c.size):=by simp[World.shape?]
  have hf:World.freeze {w with heap:=w.heap.push (.cells c e (0,0))} ⟨w.heap.size,c.size,none⟩ 1={w with heap:=w.heap.push (.cells c e (c.size,c.size+1))}:=by
   unfold World.freeze;rw[if_neg zO]
   congr 1
   apply Array.ext
   ·simp
   ·intro i h1 h2;simp only[Array.getElem_modify,Array.getElem_push];by_cases hi:w.heap.size=i
    ·subst hi;simp
    ·have:i<w.heap.size:=by simp at h2;omega
     simp[hi,this]
  unfold markStringish;rw[Sem.run_bind];have:(shape w.heap.size).run P {w with heap:=w.heap.push (.cells c e (0,0))}=.ok (some (e,c.size)) {w with heap:=w.heap.push (.cells c e (0,0))}:=by
   show Result.ok (World.shape? _ _) _=_;rw[hs]
  rw[this];show Result.ok () (World.freeze _ _ _)=_;rw[hf]
 rw[Sem.run_bind,h1];simp only[Result.andThen_ok];rw[Sem.run_bind,h2];rfl
theorem Vk{st t e:TypeId}{x:Operand}{s:aa}{u:TypeDesc}(hs:P.underlying st=some .string)(ht:P.underlying t=some (.slice e))(he:P.underlying e=some (.int .u8))(hx:env.op x=some (.str s))(U:ae):
  aq P ⟨dst,.convert st t x,ty,pos,ar,g⟩ env U (.snap 1 false (l5 s)) U:=
 .step fun O ρ a w aj hv=>by
  have h1:=hv x (by simp[Op.operands]) _ hx;simp only[V]at h1;have aY:(⟨s.toArray⟩:ByteArray).size=s.length:=by simp[ByteArray.size]
  obtain⟨cap,cJ,fd⟩:∃cap,s.length≤cap∧(Conv.stringToBytes e ⟨s.toArray⟩).run P w=.ok (.slice (some ⟨w.heap.size,0,none⟩) s.length cap) {w with drawn:=w.drawn+1,heap:=w.heap.push (.cells ((s.toArray.map fun b=>.int .u8 b.toNat)++Array.replicate (cap-s.length) (.int .u8 0)) e (cap,cap+1))}:=by
   refine⟨s.length+(w.tape w.drawn (.appendCap s.length 0 e))%(2^63-s.length),by omega,?_⟩;have hq:Question.forced (.appendCap s.length 0 e)=false:=rfl;have hc:Question.cut (.appendCap s.length 0 e) (w.tape w.drawn (.appendCap s.length 0 e))=s.length+(w.tape w.drawn (.appendCap s.length 0 e))%(2^63-s.length):=by simp[Question.cut]
   unfold Conv.stringToBytes;rw[aY,Sem.run_bind,run_choose_drew,hq];simp only[Bool.false_eq_true,if_false,Result.andThen_ok,hc];rw[akO];have:s.length+(w.tape w.drawn (.appendCap s.length 0 e))%(2^63-s.length)-s.length=(w.tape w.drawn (.appendCap s.length 0 e))%(2^63-s.length):=by omega
   rw[this];have Ke:((s.toArray.map fun b=>Value.int .u8 b.toNat)++Array.replicate ((w.tape w.drawn (.appendCap s.length 0 e))%(2^63-s.length)) (Value.int .u8 0)).size=s.length+(w.tape w.drawn (.appendCap s.length 0 e))%(2^63-s.length):=by simp
   rw[Ke];rfl
  let w':World:={w with drawn:=w.drawn+1,heap:=w.heap.push (.cells ((s.toArray.map fun b=>.int .u8 b.toNat)++Array.replicate (cap-s.length) (.int .u8 0)) e (cap,cap+1))}
  have bg:Tr O w ρ U w' ρ U:=Tr.oK ⟨by simp[w'],fun b hb=>by
   show(w.heap.push _)[b]?=_;rw[Array.getElem?_push,if_neg zO],rfl,rfl,.inl ⟨rfl,Nat.le_succ _⟩⟩ aj
  have iL:V w' (Ot O ρ U) ρ (.snap 1 false (l5 s)) (.slice (some ⟨w.heap.size,0,none⟩) s.length cap):=by
   simp only[V];refine⟨_,_,by simp[l5];rfl,⟨by simpa[l5]using cJ,by simpa[l5]using h1.2⟩,by simp,fun _=>⟨w.heap.size,0,rfl,⟨by simp[w'],?_⟩,NH (c:=(s.toArray.map fun b=>.int .u8 b.toNat)++Array.replicate (cap-s.length) (.int .u8 0)) (T:=e) (fr:=(cap,cap+1)) (by simp[w']) s 0 ?_⟩⟩
   ·rintro(hb|hb)
    ·have:=aj.lt _ hb;omega
    ·have:=(aj.block hb).1;omega
   ·intro j y hj;have bw:j<s.length:=(List.getElem?_eq_some_iff.1 hj).1;have hjx:s[j]=y:=(List.getElem?_eq_some_iff.1 hj).2;simp[List.getElem?_append_left,bw,hjx]
  refine⟨_,w',ρ,.inl ?_,bg,iL⟩;have QF:(convert st t (.string ⟨s.toArray⟩)).run P w=.ok (.slice (some ⟨w.heap.size,0,none⟩) s.length cap) w':=by
   simp only[convert,Sem.run_bind,ca hs,ca ht,ca he,Result.andThen_ok,fd,w']
  simp[execOp,h1.1,QF]
end
end Go.T
namespace Go.T
open Go
variable[bX]
theorem Sub.gs{id n m:Nat}(h:n=m):Sub (.gs id n) (.gs id m):=.of_eq (by rw[h])
theorem iw.arr{all U e:ae}{i sz:Nat}{rows VZ:List (List D)}(h:U.get i=some (.arr sz rows))(he:rows=VZ)(r:iw all U e):iw all U ((i,.arr sz VZ)::e):=by
 subst he;exact .cons h rfl r
theorem iw.eq{all U e:ae}{i:Nat}{o o':Ob}(h:U.get i=some o)(he:o=o')(hp:o'.okB all.has=true)(r:iw all U e):iw all U ((i,o')::e):=by
 subst he;exact .cons h hp r
theorem Xw(z:Value)(m:Nat):((Array.range m).map (z.cells[· %z.cells.size]!)).toList=(List.range m).map fun x=>(z.cells.toList[x%z.cells.toList.length]?).getD default:=by
 rw[Array.toList_map,Array.toList_range];refine List.map_congr_left fun x _=>?_;simp only[Array.length_toList,Array.getElem?_toList];exact getElem!_def ..
section
variable{P:Program} {env:Env} {dst:Option Tmp} {ty:TypeId} {pos:String} {ar:Array Edge} {g:Option (Nat×Bool)}
theorem bK{t e:TypeId}{n sz:Nat}{z:Value}{xs:List (Nat×Operand)}{c_:List (Nat×D)}{cs:List D}{rows:List (List D)}(hu:P.underlying t=some (.slice e))(hs:∀w,(sizeOf e).run P w=.ok sz w)(hn:Nat.ble (n*sz) 16777216=true)(cP:Nat.ble n 16777216=true)
  (dY:Nat.beq (n*sz) 0=false)(hz:∀w,(zeroValue e).run P w=.ok z w)(hx:env.nZ xs=some c_)
  (hf:mV (fun i=>some (i*sz,sz)) (((List.range (n*sz)).map fun x=>(z.cells.toList[x%z.cells.toList.length]?).getD default).map lR) c_=some cs)(hr:rows.flatten=cs)(hlen:rows.length=n)(f_:rows.all (fun r=>Nat.beq r.length sz)=true)(h1:nW cs=true)(hp:D.bz.ec cs=true)(U:ae):
  aq P ⟨dst,.buildSlice t n xs.toArray,ty,pos,ar,g⟩ env U (.snap sz true rows) U:=
 ajA hu hs (Nat.le_of_ble_eq_true hn) (Nat.le_of_ble_eq_true cP) (by intro h;rw[h]at dY;simp at dY) hz hx (by rw[Xw];exact hf) hr hlen f_ h1 hp U
end
end Go.T
namespace Go.T
open Go
theorem iw.eqA{all U e:ae}{i:Nat}{o o':Ob}(h:U.get i=some o)(hp:o'.okB all.has=true)(r:iw all U e)(he:o=o':=by first|rfl|(simp;done)):iw all U ((i,o')::e):=.eq h he hp r
structure MZ where
 XX:aa
 ZZ:aa
 Hj:aa
 deriving DecidableEq,Inhabited
structure Entry where
 day:Int
 YW:aa
 lines:List MZ
 deriving DecidableEq,Inhabited
@[reducible] def aL(l:List aa):D:=.snap 1 false (l.map fun s=>[.str s])
def bZ(c:UInt8):Bool:=48≤c.toNat&&c.toNat≤57
def cQ:aa→aa×Bool
 |45::r=>(r,true)
 |s=>(s,false)
def eO:aa→aa
 |48::r=>eO r
 |s=>s
def digits(s:aa):aa×Bool:=if(cQ s).1.all bZ then(eO (cQ s).1,(cQ s).2&&decide (eO (cQ s).1≠[]))else([],false)
def canon(s:aa):aa:=if(digits s).2 then 45::(digits s).1 else(digits s).1
def natVal(d:aa):Nat:=d.foldl (fun a c=>10*a+(c.toNat-48)) 0
def val(s:aa):Int:=if(digits s).2 then -(natVal (digits s).1:Int)else natVal (digits s).1
def rW(c:UInt8):Bool:=(97≤c.toNat&&c.toNat≤122)||(48≤c.toNat&&c.toNat≤57)||c.toNat==95
def isName(s:aa):Bool:=1≤s.length&&s.length≤16&&s.all rW
def fF(s:aa):Bool:=s.all (fun c=>65≤c.toNat&&c.toNat≤90)&&s.length==3
def xI(d:Int):Bool:=decide (-25567≤d)&&decide (d≤84005)
def adu(x:MZ):Bool:=decide (60<x.XX.length)||decide (60<x.ZZ.length)||decide (13<x.Hj.length)
def adv(e:Entry):Bool:=decide (60<e.YW.length)||(decide (8<e.lines.length)&&decide (e.lines.length≤64))||decide (66<e.lines.length)||e.lines.any adu
def aq'(l:List Entry):Bool:=decide (10<l.length)||l.any adv
def sq(a b:aa):Int:=if aa.lt a b then -1 else if aa.lt b a then 1 else 0
def fT(a b:aa):Int:=
 if(digits a).2≠(digits b).2 then(if(digits a).2 then -1 else 1)
 else if(digits a).1.length≠(digits b).1.length then(if(digits a).1.length<(digits b).1.length then(if(digits a).2 then 1 else -1)else(if(digits a).2 then -1 else 1))
 else if aa.lt (digits a).1 (digits b).1 then(if(digits a).2 then 1 else -1)else if aa.lt (digits b).1 (digits a).1 then(if(digits a).2 then -1 else 1)else 0
def vU(s:aa):Int:=if canon s=s then 0 else 1
def ni(s:aa):aa:=if(digits s).2=true∨(digits s).1=[]then(digits s).1 else 45::(digits s).1
structure aM where
 num:aa
 den:aa
 deriving DecidableEq,Inhabited
structure du where
 gb:aa
 dm:aa
 deriving DecidableEq,Inhabited
structure cT where
 other:aa
 ratio:aM
 d_:aM
 value:aM
 deriving DecidableEq,Inhabited
structure Fact where
 key:aa
 lW:Int
 cancelled:Bool
 day:Int
 kind:Int
 dM:aa
 other:aa
 cur:aa
 target:aa
 dm:aa
 mN:aa
 mU:aa
 d_:aM
 ratio:aM
 share:aM
 fL:List du
 opts:List cT
 choice:Int
 deriving DecidableEq,Inhabited
structure aW where
 id:aa
 kind:Int
 cur:aa
 places:Int
 wS:Int
 rP:Int
 fk:aM
 fh:aM
 qC:Int
 count:Int
 other:aa
 e_:aM
 deriving DecidableEq,Inhabited
structure bA where
 code:aa
 places:Int
 deriving DecidableEq,Inhabited
structure vF where
 code:aa
 kind:Int
 deriving DecidableEq,Inhabited
structure Setup where
 oo:List bA
 insts:List aW
 xQ:List vF
 Xf:List Int
 Rh:List Int
 marks:List Int
 alu:Int
 deriving DecidableEq,Inhabited
@[reducible] def cj(x:aM):List D:=[.str x.num,.str x.den]
@[reducible] def jX(x:du):List D:=[.str x.gb,.str x.dm]
@[reducible] def ma(x:cT):List D:=[.str x.other,.str x.ratio.num,.str x.ratio.den,.str x.d_.num,.str x.d_.den,.str x.value.num,.str x.value.den]
@[reducible] def Ag(l:List aM):D:=.snap 2 false (l.map cj)
@[reducible] def mH(l:List du):D:=.snap 2 false (l.map jX)
@[reducible] def kn(l:List cT):D:=.snap 7 false (l.map ma)
@[reducible] def aX(f:Fact):List D:=[.str f.key,.i f.lW,.b f.cancelled,.i f.day,.i f.kind,.str f.dM,.str f.other,.str f.cur,.str f.target,.str f.dm,.str f.mN,.str f.mU,
 .str f.d_.num,.str f.d_.den,.str f.ratio.num,.str f.ratio.den,.str f.share.num,.str f.share.den,mH f.fL,kn f.opts,.i f.choice]
@[reducible] def gA(x:aW):List D:=[.str x.id,.i x.kind,.str x.cur,.i x.places,.i x.wS,.i x.rP,.str x.fk.num,.str x.fk.den,.str x.fh.num,.str x.fh.den,.i x.qC,.i x.count,.str x.other,.str x.e_.num,.str x.e_.den]
@[reducible] def l_(x:bA):List D:=[.str x.code,.i x.places]
@[reducible] def D2(x:vF):List D:=[.str x.code,.i x.kind]
@[reducible] def ir(l:List Int):D:=.snap 1 false (l.map fun n=>[D.i n])
@[reducible] def fM(l:List bA):D:=.snap 2 false (l.map l_)
@[reducible] def iW(l:List aW):D:=.snap 15 false (l.map gA)
@[reducible] def akP(l:List vF):D:=.snap 2 false (l.map D2)
@[reducible] def cN(l:List Fact):D:=.snap 21 false (l.map aX)
@[reducible] def fC(s:Setup):List D:=[fM s.oo,iW s.insts,akP s.xQ,ir s.Xf,ir s.Rh,ir s.marks,.i s.alu]
@[reducible] def gt(n:Int)(s:aa):Bool:=decide (n<(s.length:Int))
@[reducible] def ig{α:Type}(n:Int)(l:List α):Bool:=decide (n<(l.length:Int))
@[reducible] def uX{α:Type}(n:Int)(l:List α):Bool:=decide ((l.length:Int)≤n)
def yw(f:aM):Bool:=gt 60 f.num||gt 60 f.den
def A3(x:aW):Bool:=gt 60 x.id||gt 60 x.cur||gt 60 x.other||[x.fk,x.fh,x.e_].any yw
def A4(l:List aW):Bool:=l.any A3||(ig 8 l&&uX 64 l||ig 67 l)
def Qf(l:List bA):Bool:=(l.take 24).any (fun c=>gt 8 c.code)||ig 18 l
def I7(w h:List Int):Bool:=ig 10 w||ig 20 h&&decide ((h.length:Int)<980)||ig 1005 h
def py(s:Setup):Bool:=s.xQ.any (fun a=>gt 120 a.code)||(ig 16 s.xQ&&uX 256 s.xQ||ig 259 s.xQ)||
 (A4 s.insts||Qf s.oo||I7 s.Xf s.Rh||ig 4 s.marks&&uX 64 s.marks||ig 66 s.marks)
def oE(f:aM):Bool:=gt 13 f.num||gt 13 f.den
def A5(p:du):Bool:=gt 30 p.gb||decide (13<p.dm.length)
def yx(o:cT):Bool:=gt 24 o.other||oE o.ratio||oE o.d_||oE o.value
def I8(f:Fact):Bool:=gt 24 f.key||gt 24 f.dM||gt 24 f.other||gt 24 f.cur||gt 24 f.target||decide (13<f.dm.length)||decide (13<f.mN.length)||decide (13<f.mU.length)||oE f.d_||oE f.ratio||oE f.share
def yu(f:Fact):Bool:=ig 4 f.fL&&uX 64 f.fL||ig 66 f.fL||ig 3 f.opts&&uX 8 f.opts||ig 10 f.opts
def px(f:Fact):Bool:=I8 f||(yu f||(f.fL.any A5||f.opts.any yx))
def I_(l:List Fact):Bool:=(ig 12 l&&uX 1000 l||ig 1002 l)||l.any px
def ou(l:List Fact):Bool:=ig 8 l||I_ l
theorem nD{α:Type}{l pre rest:List α}{x:α}{P:α→Bool}(hx:l=pre++x::rest)(h:P x=true):l.any P=true:=by subst hx;simp[h]
theorem mO{α:Type}{l pre:List α}{P:α→Bool}(hx:l=pre++[])(h:pre.any P=false):l.any P=false:=by subst hx;simpa using h
theorem iZ{α:Type}{pre:List α}{x:α}{P:α→Bool}(h:pre.any P=false)(h2:P x=false):(pre++[x]).any P=false:=by simp[h2];simpa using h
theorem Ya{α:Type}{l pre rest:List α}{x:α}{P:α→Bool}(hx:l=pre++x::rest)(h:P x=true)(hn:pre.length<24):(l.take 24).any P=true:=by
 subst hx;rw[List.take_append,List.take_of_length_le zO,show 24-pre.length=(23-pre.length)+1 by omega,List.take_succ_cons];simp[h]
theorem No{α:Type}{l pre rest:List α}{P:α→Bool}(hx:l=pre++rest)(hp:pre.any P=false)(yB:pre.length≤24)(h:rest=[]∨24≤pre.length):(l.take 24).any P=false:=by
 subst hx;rcases h with rfl|h
 ·rw[List.append_nil,List.take_of_length_le yB];exact hp
 ·rw[List.take_append_of_le_length h,List.take_of_length_le yB];exact hp
theorem tB{a b:Bool}(h:a=true):true=(a||b):=by simp[h]
theorem lI{a b c:Bool}(h:a=false)(h':c=b):c=(a||b):=by simp[h,h']
end Go.T
