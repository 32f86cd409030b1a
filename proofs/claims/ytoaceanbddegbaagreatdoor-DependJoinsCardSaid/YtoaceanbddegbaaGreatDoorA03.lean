/-
  Contracts of the functions that the statement reaches, and the logic in which they are proved (no condition): parts Core7, Core8, Core9, Core10, Core11, Sq, Core12, Core13, Sq2.
-/
import Derived.Test.YtoaceanbddegbaaGreatDoorA02
import Derived.Tactics
import Derived.OwnWalk
set_option linter.all false
namespace Go.T
open Go
variable[bT]
theorem aq.step{P:Program}{o:Oper}{env:Env}{J ai:aa}{d:D}
  (h:∀(O:Nat→Prop)(ρ:aC)(a:Act)(w:World),di w O ρ J→(∀x∈o.op.operands.toList,∀d',env.op x=some d'→V w (Ot O ρ J) ρ d' (a.eval x))→
   ∃v w' aw,((execOp a.eval o).run P w=.ok (.value v) w'∨((execOp a.eval o).run P w=.ok .skip w'∧v=undef))∧Tr O w ρ J w' aw ai∧V w' (Ot O aw ai) aw d v):aq P o env J d ai:=by
 intro O ρ a w af _ hv;obtain⟨v,w',aw,h1,h2,h3⟩:=h O ρ a w af hv;unfold Oper.wp;rcases h1 with h1|⟨h1,rfl⟩
 ·rw[h1];exact⟨aw,v,rfl,h2,h3⟩
 ·rw[h1];exact⟨aw,undef,rfl,h2,h3⟩
section
variable{P:Program} {env:Env} {dst:Option Tmp} {ty:TypeId} {pos:String} {au:Array Edge} {g:Option (Nat×Bool)}
def mK:Value→D
 |.string b=>bif Nat.beq b.data.size 0 then .str []else .raw (.string b)
 |v=>.raw v
theorem aiP{w:World}{O:Nat→Prop}{ρ:aC}(v:Value):V w O ρ (mK v) v:=by
 cases v with
 |string b=>
  simp only[mK];cases hb:Nat.beq b.data.size 0 with
  |false=>simp[V]
  |true=>
   have:b.data=#[]:=by
    have:=Nat.eq_of_beq_eq_true hb;exact Array.size_eq_zero_iff.1 this
   simp only[cond_true,V];refine⟨?_,by simp⟩;cases b;simp_all
 |_=>simp[mK,V]
theorem Vs.AG{w:World}{O:Nat→Prop}{ρ:aC}:∀(vs:List Value),Vs w O ρ (vs.map mK) vs
 |[]=>by simp[Vs]
 |v::vs=>by simp only[List.map_cons,Vs];exact⟨v,vs,rfl,aiP v,Vs.AG vs⟩
theorem ln{t:TypeId}{z:Value}{J:aa}(id:Nat)(hz:∀w,(zeroValue t).run P w=.ok z w)(hid:J.get id=none):aq P ⟨dst,.alloc t,ty,pos,au,g⟩ env J (.box id 0) ((id,.cells (z.cells.toList.map mK))::J):=
 .step fun O ρ a w af _=>by
  refine⟨.pointer (some ⟨w.heap.size,0,none⟩),{w with heap:=w.heap.push (.cells z.cells t (0,0))},T.cv ρ id ⟨w.heap.size,0,0⟩,.inl ?_,?_,?_⟩
  ·simp[execOp,Instr.alloc,hz,newVar,newRow]
  ·refine Tr.born af hid _ rfl (fun _ _ h _=>h) (fun _ h=>h) ?_;intro _;exact⟨z.cells,t,by simp,Vs.AG _⟩
  ·simp only[V];exact⟨_,lr ..,rfl⟩
theorem oG{t:TypeId}{x:Operand}{cs:List D}{J:aa}(id:Nat)(hx:env.op x=some (.agg cs))(hid:J.get id=none):aq P ⟨dst,.box t x,ty,pos,au,g⟩ env J (.box id 0) ((id,.cells cs)::J):=
 .step fun O ρ a w af hv=>by
  have h1:=hv x (by simp[Op.operands]) _ hx;simp only[V]at h1;obtain⟨vs,e,h2⟩:=h1;refine⟨.pointer (some ⟨w.heap.size,0,none⟩),{w with heap:=w.heap.push (.cells vs t (0,0))},T.cv ρ id ⟨w.heap.size,0,0⟩,.inl ?_,?_,?_⟩
  ·simp[execOp,Instr.box,e,newVar,newRow,Value.cells]
  ·refine Tr.born af hid _ rfl (fun _ _ h _=>h) (fun _ h=>h) ?_;intro hk;exact⟨vs,t,by simp,Vs.mono hk (wE _ (af.fresh id hid)) _ _ h2⟩
  ·simp only[V];exact⟨_,lr ..,rfl⟩
theorem Ll{t:TypeId}{x:Operand}{d:D}{J:aa}(id:Nat)(hx:env.op x=some d)(hd:d.one=true)(hid:J.get id=none):aq P ⟨dst,.box t x,ty,pos,au,g⟩ env J (.box id 0) ((id,.cells [d])::J):=
 .step fun O ρ a w af hv=>by
  have h1:=hv x (by simp[Op.operands]) _ hx;refine⟨.pointer (some ⟨w.heap.size,0,none⟩),{w with heap:=w.heap.push (.cells #[a.eval x] t (0,0))},T.cv ρ id ⟨w.heap.size,0,0⟩,.inl ?_,?_,?_⟩
  ·simp[execOp,Instr.box,newVar,newRow,cells_one (h1.one hd)]
  ·refine Tr.born af hid _ rfl (fun _ _ h _=>h) (fun _ h=>h) ?_;intro hk;refine⟨#[a.eval x],t,by simp,?_⟩;simp only[Vs];exact⟨_,_,rfl,V.mono hk (wE _ (af.fresh id hid)) _ _ h1,rfl⟩
  ·simp only[V];exact⟨_,lr ..,rfl⟩
theorem bJ{t:TypeId}{x:Operand}{f n:Nat}{fs:Array Field}{id off:Nat}(ft:TypeId)(fo:Nat)(hu:P.underlying t=some (.struct fs))(hs:∀w,(sizeOf ft).run P w=.ok (n+1) w)(hf:(fs[f]?).map (fun x=>(x.type,x.offset))=some (ft,fo))(hx:env.op x=some (.box id off))(J:aa):
  aq P ⟨dst,.fieldAddr t x f,ty,pos,au,g⟩ env J (.box id (off+fo)) J:=
 .val fun _ _ a w _ hv=>by
  have h1:=hv x (by simp[Op.operands]) _ hx;simp only[V]at h1;obtain⟨l,h2,e⟩:=h1;obtain⟨fl,dN,xw⟩:=Option.map_eq_some_iff.1 hf;cases xw;refine⟨.pointer (some ⟨l.b,off+fl.offset,none⟩),?_,?_⟩
  ·simp[execOp,Instr.fieldAt,e,cg hu,dN,Instr.sureAddr,fieldPlace,hs,addr_add]
  ·simp only[V];exact⟨l,h2,rfl⟩
theorem Nn{w:World}{b off:Nat}{c:Array Value}{T:TypeId}{v:Value}(hb:w.heap[b]?=some (.cells c T (0,0)))(hc:c.toList[off]?=some v):w.cell? ⟨b,off,none⟩=some v:=by
 simpa[World.cell?,hb]using hc
theorem bP{t:TypeId}{x:Operand}{id off:Nat}{ds:List D}{d:D}{J:aa}(ht:∀w,(isAgg t).run P w=.ok false w)(hx:env.op x=some (.box id off))(ho:J.get id=some (.cells ds))(hd:ds[off]?=some d):aq P ⟨dst,.load t x,ty,pos,au,g⟩ env J d J:=
 .val fun O ρ a w af hv=>by
  have h1:=hv x (by simp[Op.operands]) _ hx;simp only[V]at h1;obtain⟨l,h2,e⟩:=h1;obtain⟨l',h3,_,vs,T,h4,h5⟩:=af.own id _ ho rfl;rw[h2]at h3;cases h3;obtain⟨v,h6,h7⟩:=h5.get off d hd;exact⟨v,by simp[execOp,Instr.loadAt,e,Instr.sureAddr,loadVar,ht,Nn h4 h6],h7⟩
theorem Gd{w:World}{b:Nat}{c:Array Value}{T:TypeId}(hb:w.heap[b]?=some (.cells c T (0,0))):∀(n off i:Nat)(acc:Array Value),off+i+n≤c.size→
  (loadCellsFrom ⟨b,off,none⟩ i n acc).run P w=.ok (acc++((c.toList.drop (off+i)).take n).toArray) w
 |0,off,i,acc,_=>by simp[loadCellsFrom]
 |n+1,off,i,acc,h=>by
  have hl:off+i<c.toList.length:=by simp;omega
  have h1:=Nn (off:=off+i) hb (List.getElem?_eq_getElem hl);simp only[loadCellsFrom,addr_add,Sem.run_bind,run_load,h1,Result.andThen_ok];rw[Gd hb n off (i+1) _ zO,List.drop_eq_getElem_cons hl];simp[Nat.add_assoc]
theorem Vs.drop{w:World}{O:Nat→Prop}{ρ:aC}:∀(n:Nat){ds:List D}{vs:List Value},Vs w O ρ ds vs→Vs w O ρ (ds.drop n) (vs.drop n)
 |0,ds,vs,h=>by simpa using h
 |n+1,[],vs,h=>by simp only[Vs]at h;subst h;simp[Vs]
 |n+1,d::ds,vs,h=>by
  simp only[Vs]at h;obtain⟨u,us,rfl,h1,h2⟩:=h;simpa using Vs.drop n h2
theorem Vs.take{w:World}{O:Nat→Prop}{ρ:aC}:∀(n:Nat){ds:List D}{vs:List Value},Vs w O ρ ds vs→Vs w O ρ (ds.take n) (vs.take n)
 |0,ds,vs,h=>by simp[Vs]
 |n+1,[],vs,h=>by simp only[Vs]at h;subst h;simp[Vs]
 |n+1,d::ds,vs,h=>by
  simp only[Vs]at h;obtain⟨u,us,rfl,h1,h2⟩:=h;simp only[List.take_succ_cons,Vs];exact⟨u,us.take n,rfl,h1,Vs.take n h2⟩
theorem Uf{t:TypeId}{x:Operand}{id off n:Nat}{ds cs:List D}{J:aa}(ht:∀w,(isAgg t).run P w=.ok true w)(hs:∀w,(sizeOf t).run P w=.ok n w)(hx:env.op x=some (.box id off))(ho:J.get id=some (.cells ds))(hn:off+n≤ds.length)(hd:(ds.drop off).take n=cs):aq P ⟨dst,.load t x,ty,pos,au,g⟩ env J (.agg cs) J:=
 .val fun O ρ a w af hv=>by
  have h1:=hv x (by simp[Op.operands]) _ hx;simp only[V]at h1;obtain⟨l,h2,e⟩:=h1;obtain⟨l',h3,_,vs,T,h4,h5⟩:=af.own id _ ho rfl;rw[h2]at h3;cases h3;have hl:=h5.length;have h6:=Gd (P:=P) h4 n off 0 #[] (by simp at hl;omega);refine⟨.agg ((vs.toList.drop off).take n).toArray,?_,?_⟩
  ·simp[execOp,Instr.loadAt,e,Instr.sureAddr,loadVar,ht,hs,loadCells,h6]
  ·simp only[V];refine⟨_,rfl,?_⟩;rw[←hd];simpa using (h5.drop off).take n
theorem AA{t:TypeId}{x:Operand}{id n:Nat}{ds:List D}{J:aa}(ht:∀w,(isAgg t).run P w=.ok true w)(hs:∀w,(sizeOf t).run P w=.ok n w)(hx:env.op x=some (.box id 0))(ho:J.get id=some (.cells ds))(hn:ds.length=n):aq P ⟨dst,.load t x,ty,pos,au,g⟩ env J (.agg ds) J:=
 Uf ht hs hx ho zO (by subst hn;simp)
theorem qX{t:TypeId}{x y:Operand}{id off:Nat}{ds:List D}{d:D}{J:aa}(hs:∀w,(sizeOf t).run P w=.ok 1 w)(hx:env.op x=some (.box id off))(hy:env.op y=some d)(h1:d.one=true)(ho:J.get id=some (.cells ds))(hl:off<ds.length):
  aq P ⟨dst,.store t x y,ty,pos,au,g⟩ env J (.raw undef) (J.set id (.cells (ds.set off d))):=
 .step fun O ρ a w af hv=>by
  have ic:=hv x (by simp[Op.operands]) _ hx;have k8:=hv y (by simp[Op.operands]) _ hy;simp only[V]at ic;obtain⟨l,h2,e⟩:=ic;obtain⟨l',h3,_,vs,T,h4,h5⟩:=af.own id _ ho rfl;rw[h2]at h3;cases h3;have hlen:=h5.length;have h6:=uO (P:=P) [a.eval y] w vs off 0 h4 (by simp at hlen⊢;omega) (by simpa using k8.one h1);refine⟨undef,_,ρ,.inr ⟨?_,rfl⟩,Tr.cv (o':=.cells (ds.set off d)) af ho rfl h2 (.cells (setMany vs (off+0) [a.eval y]) T (0,0)) ?_,by simp[V]⟩
  ·simp[execOp,Instr.storeAt,e,Instr.sureAddr,storeVar,cells_one (k8.one h1),hs,h6]
  ·intro hk;refine⟨setMany vs off [a.eval y],T,by simp[(Array.getElem?_eq_some_iff.1 h4).1],?_⟩;have:=Vs.setMany (cs:=[d]) (us:=[a.eval y]) (by simp only[Vs];exact⟨_,_,rfl,V.mono hk (bO.refl _) _ _ k8,rfl⟩) off (Vs.mono hk (bO.refl _) _ _ h5);simpa[mN]using this
theorem Ul{t:TypeId}{x y:Operand}{id off n:Nat}{ds cs:List D}{J:aa}(hs:∀w,(sizeOf t).run P w=.ok n w)(hx:env.op x=some (.box id off))(hy:env.op y=some (.agg cs))(hn:cs.length=n)(h1:oD cs=true)(ho:J.get id=some (.cells ds))(hl:off+n≤ds.length):
  aq P ⟨dst,.store t x y,ty,pos,au,g⟩ env J (.raw undef) (J.set id (.cells (mN ds off cs))):=
 .step fun O ρ a w af hv=>by
  have ic:=hv x (by simp[Op.operands]) _ hx;have k8:=hv y (by simp[Op.operands]) _ hy;simp only[V]at ic k8;obtain⟨us,e2,h7⟩:=k8;obtain⟨l,h2,e⟩:=ic;obtain⟨l',h3,_,vs,T,h4,h5⟩:=af.own id _ ho rfl;rw[h2]at h3;cases h3;have hlen:=h5.length;have BK:=h7.length;simp only[Array.length_toList]at hlen BK;have h6:=uO (P:=P) us.toList w vs off 0 h4 zQ (h7.one h1);refine⟨undef,_,ρ,.inr ⟨?_,rfl⟩,Tr.cv (o':=.cells (mN ds off cs)) af ho rfl h2 (.cells (setMany vs (off+0) us.toList) T (0,0)) ?_,by simp[V]⟩
  ·have:us.size=n:=by omega
   simp[execOp,Instr.storeAt,e,e2,Instr.sureAddr,storeVar,Value.cells,hs,this,h6]
  ·intro hk;refine⟨setMany vs off us.toList,T,by simp[(Array.getElem?_eq_some_iff.1 h4).1],?_⟩;exact Vs.setMany (Vs.mono hk (bO.refl _) _ _ h7) off (Vs.mono hk (bO.refl _) _ _ h5)
theorem UW:∀(cs ds pre:List D),cs.length=ds.length→mN (pre++ds) pre.length cs=pre++cs
 |[],ds,pre,h=>by obtain rfl:=List.length_eq_zero_iff.1 h.symm;simp[mN]
 |c::cs,[],pre,h=>by simp at h
 |c::cs,d::ds,pre,h=>by
  have:=UW cs ds (pre++[c]) (by simpa using h);simp only[mN];rw[List.set_append_right _ _ (Nat.le_refl _)];simpa using this
theorem mJ{t:TypeId}{x y:Operand}{id n:Nat}{ds cs:List D}{J:aa}(hs:∀w,(sizeOf t).run P w=.ok n w)(hx:env.op x=some (.box id 0))(hy:env.op y=some (.agg cs))(hn:cs.length=n)(h1:oD cs=true)(ho:J.get id=some (.cells ds))(hl:ds.length=n):
  aq P ⟨dst,.store t x y,ty,pos,au,g⟩ env J (.raw undef) (J.set id (.cells cs)):=by
 have h:=Ul (dst:=dst) (ty:=ty) (pos:=pos) (au:=au) (g:=g) hs hx hy hn h1 ho zO;have h2:=UW cs ds [] zO;simp only[List.nil_append,List.length_nil]at h2;rwa[h2]at h
end
end Go.T
namespace Go.T
open Go
variable[bT]
def D.jr:D→List D
 |.agg cs=>cs
 |d=>[d]
def D.nO:D→Bool
 |.agg cs=>oD cs
 |d=>d.one
theorem V.jr{w:World}{O:Nat→Prop}{ρ:aC}{d:D}{v:Value}(hd:d.nO=true)(h:V w O ρ d v):Vs w O ρ d.jr v.cells.toList:=by
 cases d with
 |agg cs=>
  simp only[V]at h;obtain⟨vs,rfl,h⟩:=h;simpa[D.jr,Value.cells]using h
 |_=>
  have:=h.one (by simpa[D.nO]using hd);rw[cells_one this];simp only[D.jr,Vs];exact⟨v,[],rfl,h,rfl⟩
theorem agY{d:D}(h:d.nO=true):oD d.jr=true:=by
 cases d<;>simp_all[D.nO,D.jr,oD]
def oh(yb:Nat→Option (Nat×Nat))(ds:List D):List (Nat×D)→Option (List D)
 |[]=>some ds
 |(i,d)::rest=>match yb i with
  |none=>none
  |some (off,size)=>bif Nat.beq d.jr.length size&&Nat.ble (off+size) ds.length&&d.nO then oh yb (mN ds off d.jr) rest else none
theorem Pe(off:Nat):∀(l:List Value)(c:Array Value)(j:Nat),(l.zipIdx j).foldl (fun cs (x:Value×Nat)=>cs.setIfInBounds (off+x.2) x.1) c=setMany c (off+j) l
 |[],c,j=>rfl
 |v::l,c,j=>by
  simp only[List.zipIdx_cons,List.foldl_cons,setMany];rw[Pe off l _ (j+1)];rfl
theorem Bn{w:World}{O:Nat→Prop}{ρ:aC}(yb:Nat→Option (Nat×Nat)):∀(dV:List (Nat×D))(yf:List (Nat×Value))(ds:List D)(c:Array Value)(cs:List D),dV.map (·.1)=yf.map (·.1)→Vs w O ρ (dV.map (·.2)) (yf.map (·.2))→Vs w O ρ ds c.toList→oh yb ds dV=some cs→
  ∃c',Instr.fill yb c yf=some c'∧Vs w O ρ cs c'.toList
 |[],yf,ds,c,cs,h1,_,h3,h4=>by
  obtain rfl:yf=[]:=by simpa using h1.symm
  simp only[oh,Option.some.injEq]at h4;subst h4;exact⟨c,rfl,h3⟩
 |(i,d)::dV,[],ds,c,cs,h1,_,_,_=>by simp at h1
 |(i,d)::dV,(j,v)::yf,ds,c,cs,h1,h2,h3,h4=>by
  simp only[List.map_cons,List.cons.injEq]at h1;obtain⟨rfl,h1⟩:=h1;simp only[List.map_cons,Vs]at h2;obtain⟨u,us,e,h5,h6⟩:=h2;simp only[List.cons.injEq]at e;obtain⟨rfl,rfl⟩:=e;simp only[oh]at h4;cases hp:yb i with
  |none=>simp[hp]at h4
  |some x=>
   obtain⟨off,size⟩:=x;simp only[hp]at h4;cases hb:(Nat.beq d.jr.length size&&Nat.ble (off+size) ds.length&&d.nO)with
   |false=>simp[hb]at h4
   |true=>
    simp only[hb,cond_true]at h4;simp only[Bool.and_eq_true,Nat.beq_eq,Nat.ble_eq]at hb;obtain⟨⟨hl1,bW⟩,af⟩:=hb;have h7:=h5.jr af;have aY:=h7.length;have JI:=h3.length;simp only[Array.length_toList]at aY JI;have h8:=Vs.setMany h7 off h3;obtain⟨c',h9,gE⟩:=Bn yb dV yf _ _ cs h1 h6 h8 h4;refine⟨c',?_,gE⟩;rw[Instr.fill,hp];have hc:¬((v.cells.size≠size||decide (off+v.cells.size>c.size))=true):=by simp;omega
    simp only[if_neg hc];have f_:Array.foldl (fun cs (x:Value×Nat)=>cs.setIfInBounds (off+x.2) x.1) c v.cells.zipIdx=setMany c off v.cells.toList:=by
     rw[←Array.foldl_toList,Array.toList_zipIdx];exact Pe off v.cells.toList c 0
    rw[f_];exact h9
def Env.qU(env:Env):List (Nat×Operand)→Option (List (Nat×D))
 |[]=>some []
 |(i,x)::r=>match env.op x,env.qU r with
  |some d,some ds=>some ((i,d)::ds)
  |_,_=>none
theorem CO{w:World}{O:Nat→Prop}{ρ:aC}{env:Env}{a:Act}:∀(xs:List (Nat×Operand))(dV:List (Nat×D)),env.qU xs=some dV→(∀x∈xs.map (·.2),∀d',env.op x=some d'→V w O ρ d' (a.eval x))→
  dV.map (·.1)=(xs.map fun x=>(x.1,a.eval x.2)).map (·.1)∧Vs w O ρ (dV.map (·.2)) ((xs.map fun x=>(x.1,a.eval x.2)).map (·.2))
 |[],dV,h,_=>by simp only[Env.qU,Option.some.injEq]at h;subst h;simp[Vs]
 |(i,x)::xs,dV,h,hv=>by
  simp only[Env.qU]at h;split at h
  ·rename_i d fg h1 h2;simp only[Option.some.injEq]at h;subst h;obtain⟨h3,h4⟩:=CO xs fg h2 (fun y hy=>hv y (List.mem_cons_of_mem _ hy));refine⟨by simp only[List.map_cons,h3],?_⟩;simp only[List.map_cons,Vs];exact⟨_,_,rfl,hv x zS d h1,h4⟩
  ·cases h
section
variable{P:Program} {env:Env} {dst:Option Tmp} {ty:TypeId} {pos:String} {au:Array Edge} {g:Option (Nat×Bool)}
theorem tj{t:TypeId}{fs:Array Field}{z:Value}{pl:Array (Nat×Nat)}{xs:List (Nat×Operand)}{dV:List (Nat×D)}{cs:List D}(hu:P.underlying t=some (.struct fs))(hz:∀w,(zeroValue t).run P w=.ok z w)
  (hp:∀w,(fs.mapM (m:=Sem) fun f=>Prod.mk f.offset<$>sizeOf f.type).run P w=.ok pl w)(hx:env.qU xs=some dV)(hf:oh (pl[·]?) (z.cells.toList.map mK) dV=some cs)(J:aa):
  aq P ⟨dst,.build t xs.toArray,ty,pos,au,g⟩ env J (.agg cs) J:=
 .val fun O ρ a w _ hv=>by
  obtain⟨h1,h2⟩:=CO (a:=a) xs dV hx (fun x hx d' h=>hv x (by simpa[Op.operands]using hx) d' h);obtain⟨c',h3,h4⟩:=Bn (pl[·]?) dV _ _ z.cells cs h1 h2 (Vs.AG _) hf;refine⟨.agg c',?_,?_⟩
  ·simp[execOp,Instr.build,hz,cg hu,hp,h3]
  ·simp only[V];exact⟨_,rfl,h4⟩
theorem Vc.ta{w:World}{O:Nat→Prop}{b:Nat}{c:Array Value}{T:TypeId}{fr:Nat×Nat}(hb:w.heap[b]?=some (.cells c T fr)):∀(ds:List D)(off:Nat),Vs w O dX ds ((c.toList.drop off).take ds.length)→(∀v∈(c.toList.drop off).take ds.length,v.oneCell'=true)→Vc w O b off ds
 |[],off,_,_=>by simp[Vc]
 |d::ds,off,h,h1=>by
  simp only[Vs,List.length_cons]at h;obtain⟨u,us,e,h2,h3⟩:=h;have hl:off<c.toList.length:=by
   rcases Nat.lt_or_ge off c.toList.length with g|g
   ·exact g
   ·rw[List.drop_of_length_le g]at e;simp at e
  rw[List.length_cons,List.drop_eq_getElem_cons hl,List.take_succ_cons]at h1;rw[List.drop_eq_getElem_cons hl,List.take_succ_cons]at e;simp only[List.cons.injEq]at e;obtain⟨rfl,rfl⟩:=e;simp only[Vc];refine⟨⟨_,⟨?_,h1 _ List.mem_cons_self⟩,h2⟩,Vc.ta hb ds (off+1) h3 (fun v hv=>h1 v (List.mem_cons_of_mem _ hv))⟩;simp[World.cell?,hb]
theorem Vc.GF{w:World}{O:Nat→Prop}{b:Nat}{c:Array Value}{T:TypeId}{fr:Nat×Nat}(hb:w.heap[b]?=some (.cells c T fr)):∀(ds:List D)(off:Nat),Vc w O b off ds→Vs w O dX ds ((c.toList.drop off).take ds.length)∧(∀v∈(c.toList.drop off).take ds.length,v.oneCell'=true)∧(ds≠[]→off+ds.length≤c.size)
 |[],off,_=>by simp[Vs]
 |d::ds,off,h=>by
  simp only[Vc]at h;obtain⟨⟨u,⟨h1,h2⟩,h3⟩,h4⟩:=h;have h5:c[off]?=some u:=by simpa[World.cell?,hb]using h1
  obtain⟨hl,he⟩:=Array.getElem?_eq_some_iff.1 h5;have zw:off<c.toList.length:=by simpa using hl
  obtain⟨h6,h7,h8⟩:=Vc.GF hb ds (off+1) h4;rw[List.length_cons,List.drop_eq_getElem_cons zw,List.take_succ_cons];refine⟨?_,?_,fun _=>?_⟩
  ·simp only[Vs];exact⟨_,_,rfl,by simpa[he]using h3,h6⟩
  ·intro v hv;cases hv with
   |head=>simpa[he]using h2
   |tail _ hm=>exact h7 v hm
  ·cases ds with
   |nil=>simp;omega
   |cons d' ds=>have:=h8 zS;simp at this⊢;omega
theorem Vr.ta{w:World}{O:Nat→Prop}{b sz:Nat}{c:Array Value}{T:TypeId}{fr:Nat×Nat}(hb:w.heap[b]?=some (.cells c T fr)):∀(rows:List (List D))(off:Nat),(∀r∈rows,r.length=sz)→Vs w O dX rows.flatten ((c.toList.drop off).take rows.flatten.length)→(∀v∈(c.toList.drop off).take rows.flatten.length,v.oneCell'=true)→Vr w O b off sz rows
 |[],off,_,_,_=>by simp[Vr]
 |r::rs,off,hl,h,h1=>by
  have hr:r.length=sz:=hl r List.mem_cons_self;simp only[List.flatten_cons,List.length_append]at h h1;have h2:=h.take r.length;have h3:=h.drop r.length;simp only[List.take_left,List.drop_left,List.take_take]at h2 h3;rw[Nat.min_eq_left zO]at h2;rw[List.drop_take,List.drop_drop,show r.length+rs.flatten.length-r.length=rs.flatten.length by omega,hr]at h3;rw[List.take_add]at h1;simp only[List.mem_append]at h1;simp only[Vr];refine⟨⟨hr,Vc.ta hb r off h2 (fun v hv=>h1 v (.inl hv))⟩,Vr.ta hb rs (off+sz) (fun x hx=>hl x (List.mem_cons_of_mem _ hx)) h3 (fun v hv=>h1 v (.inr ?_))⟩;rw[List.drop_drop,hr];exact hv
theorem aic{t e:TypeId}{n sz:Nat}{z:Value}{xs:List (Nat×Operand)}{dV:List (Nat×D)}{cs:List D}{rows:List (List D)}(hu:P.underlying t=some (.slice e))(hs:∀w,(sizeOf e).run P w=.ok sz w)(hn:n*sz≤16777216)(dz:n≤16777216)
  (gb:n*sz≠0)(hz:∀w,(zeroValue e).run P w=.ok z w)(hx:env.qU xs=some dV)
  (hf:oh (fun i=>some (i*sz,sz)) (((Array.range (n*sz)).map (z.cells[· %z.cells.size]!)).toList.map mK) dV=some cs)(hr:rows.flatten=cs)(hlen:rows.length=n)(gO:rows.all (fun r=>Nat.beq r.length sz)=true)(h1:oD cs=true)(hp:D.bk.dw cs=true)(J:aa):
  aq P ⟨dst,.buildSlice t n xs.toArray,ty,pos,au,g⟩ env J (.snap sz true rows) J:=
 .step fun O ρ a w af hv=>by
  obtain⟨h2,h3⟩:=CO (a:=a) xs dV hx (fun x hx d' h=>hv x (by simpa[Op.operands]using hx) d' h);obtain⟨c',h4,h5⟩:=Bn (fun i=>some (i*sz,sz)) dV _ _ ((Array.range (n*sz)).map (z.cells[· %z.cells.size]!)) cs h2 h3 (Vs.AG _) hf;have hk:gL w {w with heap:=w.heap.push (.cells c' e (0,0))}:=⟨by simp,fun b hb=>by rw[Array.getElem?_push,if_neg zO],rfl,rfl,iU.eq rfl rfl⟩;refine⟨.slice (some ⟨w.heap.size,0,none⟩) n n,{w with heap:=w.heap.push (.cells c' e (0,0))},ρ,.inl ?_,Tr.qQ hk af,?_⟩
  ·have h6:¬n*sz>2^24:=by omega
   have h9:Instr.fill (fun i=>some (i*sz,sz)) ((Array.range (n*sz)).map fun x=>z.cells[x%z.cells.size]!) ((Array.map (fun x=>(x.1,a.eval x.2)) xs.toArray).toList)=some c':=by
    simpa using h4
   simp only[execOp,Instr.buildSlice,Sem.run_bind,cg hu,Result.andThen_ok,hs,if_neg h6,if_neg gb,Sem.run_pure,hz,h9];simp[newRow]
  ·simp only[V];refine⟨some ⟨w.heap.size,0,none⟩,n,by rw[hlen],⟨by omega,?_⟩,by simp[hlen],fun aG=>⟨w.heap.size,0,rfl,⟨by simp,?_⟩,?_⟩⟩
   ·rw[hlen];unfold aH;omega
   ·rintro(hb|hb)
    ·have:=af.lt _ hb;omega
    ·have:=(af.block hb).1;omega
   ·have h8:Vs w (Ot O ρ J) dX cs c'.toList:=Vs.pure cs _ hp h5;have hl:c'.toList.length=cs.length:=h8.length;refine Vr.ta (c:=c') (T:=e) (fr:=(0,0)) zS rows 0 ?_ ?_ (fun v hv=>h8.one h1 v (List.mem_of_mem_drop (List.mem_of_mem_take hv)))
    ·intro r pg;have:=List.all_eq_true.1 gO r pg;simpa using this
    ·rw[hr,←hl];simp only[List.drop_zero,List.take_length];exact Vs.mono (hk.kept _) (bO.refl _) _ _ h8
theorem rR{t e:TypeId}{sz:Nat}(hu:P.underlying t=some (.slice e))(hs:∀w,(sizeOf e).run P w=.ok sz w)(J:aa):aq P ⟨dst,.buildSlice t 0 #[],ty,pos,au,g⟩ env J (.snap sz true []) J:=
 .step fun O ρ a w af hv=>by
  have hk:gL w {w with heap:=w.heap.push (.cells #[] e (0,0))}:=⟨by simp,fun b hb=>by rw[Array.getElem?_push,if_neg zO],rfl,rfl,iU.eq rfl rfl⟩;refine⟨.slice (some ⟨w.heap.size,0,none⟩) 0 0,{w with heap:=w.heap.push (.cells #[] e (0,0))},ρ,.inl ?_,Tr.qQ hk af,?_⟩
  ·have h0:Array.range 0=#[]:=by decide
   simp[execOp,Instr.buildSlice,cg hu,hs,Instr.fill,newRow,h0]
  ·simp only[V];exact⟨_,0,rfl,by simp[aH]⟩
end
end Go.T
namespace Go.T
open Go
variable[bT]
theorem PS(Cy:Nat)(hn:256≤Cy):∀(r c:Nat),c≤2*Cy→Builtin.growBy Cy r c≤2*Cy
 |0,c,h=>by simpa[Builtin.growBy]using h
 |r+1,c,h=>by
  simp only[Builtin.growBy];split
  ·exact h
  ·exact PS Cy hn r _ zO
theorem nextslicecap_le(need cap:Nat)(h:cap<need):Builtin.nextslicecap need cap≤2*need:=by
 unfold Builtin.nextslicecap;split
 ·omega
 ·split
  ·omega
  ·exact PS need zO 4 cap zO
theorem Vr.flat{w:World}{O:Nat→Prop}{b sz:Nat}:∀(rows:List (List D))(off:Nat),Vr w O b off sz rows→Vc w O b off rows.flatten∧rows.flatten.length=rows.length*sz
 |[],off,_=>by simp[Vc]
 |r::rs,off,h=>by
  simp only[Vr]at h;obtain⟨⟨h1,h2⟩,h3⟩:=h;obtain⟨h4,h5⟩:=Vr.flat rs (off+sz) h3;simp only[List.flatten_cons,List.length_append,List.length_cons,h1,h5,Nat.add_mul];exact⟨Vc.app r rs.flatten off h2 (by rw[h1];exact h4),by omega⟩
where
 Vc.app {w:World} {O:Nat→Prop} {b:Nat}:∀(xs ys:List D)(off:Nat),Vc w O b off xs→Vc w O b (off+xs.length) ys→Vc w O b off (xs++ys)
  |[],ys,off,_,h=>by simpa using h
  |x::xs,ys,off,h,h'=>by
   simp only[Vc,List.cons_append]at h⊢;exact⟨h.1,Vc.app xs ys (off+1) h.2 (by rw[show off+1+xs.length=off+(x::xs).length by simp;omega];exact h')⟩
theorem yp{P:Program}{w:World}{O:Nat→Prop}{ρ:aC}{sz:Nat}{ia:Bool}{rows:List (List D)}{v:Value}(h:V w O ρ (.snap sz ia rows) v):
  (∀w',(Builtin.lenOf v).run P w'=.ok rows.length w')∧∃us,(∀w',w'.heap=w.heap→(Builtin.firstCells sz rows.length v).run P w'=.ok us.toArray w')∧Vs w O dX rows.flatten us∧(∀u∈us,u.oneCell'=true)∧us.length=rows.length*sz∧(∀r∈rows,r.length=sz):=by
 simp only[V]at h;obtain⟨a,cap,rfl,h1,h2,h3⟩:=h;refine⟨fun _=>rfl,?_⟩;by_cases aG:rows=[]
 ·subst aG;refine⟨[],?_,by simp[Vs],by simp,by simp,by simp⟩;cases a with
  |none=>simp[Builtin.firstCells]
  |some a=>simp[Builtin.firstCells,loadCells,loadCellsFrom]
 ·obtain⟨b,off,rfl,ho,h4⟩:=h3 aG;obtain⟨h5,h6⟩:=Vr.flat rows off h4;obtain⟨us,h7,h8,h9⟩:=run_loadCells (P:=P) rows.flatten off 0 #[] (by simpa using h5);refine⟨us,?_,h8,h9,by rw[h8.length,h6],?_⟩
  ·rw[h6]at h7;intro w' he;simpa[Builtin.firstCells,loadCells]using h7 w' he
  ·intro r hr;obtain⟨i,hi⟩:=List.getElem?_of_mem hr;exact(Vr.get rows off h4 i r hi).1
theorem C':∀(us:List Value)(c:Array Value)(k:Nat),k+us.length≤c.size→(setMany c k us).toList=c.toList.take k++us++c.toList.drop (k+us.length)
 |[],c,k,h=>by simp[setMany]
 |u::us,c,k,h=>by
  simp only[List.length_cons]at h;simp only[setMany];rw[C' us _ (k+1) zQ,Array.toList_setIfInBounds];have hk:k<c.toList.length:=by simp;omega
  rw[List.take_set,List.drop_set];have h1:¬k+1+us.length≤k:=by omega
  rw[if_pos zO];rw[List.take_succ_eq_append_getElem hk];rw[List.set_append_right _ _ zQ];simp[Nat.min_eq_left (by omega:k≤c.size),Nat.add_assoc,Nat.add_comm 1]
theorem aa.set_set(i:Nat)(x y:Ob):∀J:aa,(J.set i x).set i y=J.set i y
 |[]=>by simp[aa.set]
 |(t,d)::r=>by
  simp only[aa.set];cases h:Nat.beq t i with
  |true=>simp[aa.set,h]
  |false=>simp[aa.set,h,aa.set_set i x y r]
section
variable{P:Program} {env:Env} {dst:Option Tmp} {ty:TypeId} {pos:String} {au:Array Edge} {g:Option (Nat×Bool)}
theorem run_append_room{st xt e T:TypeId}{xd:TypeDesc}{sz n cap:Nat}{a:Addr}{x:Value}{us:List Value}{m:Nat}{w w':World}(hu:P.underlying st=some (.slice e))(hs:∀w,(sizeOf e).run P w=.ok sz w)(k9:P.underlying xt=some xd)(JO:∀k,xd≠.int k)
  (hm:(Builtin.lenOf x).run P w=.ok m w)(hf:(Builtin.firstCells sz m x).run P w=.ok us.toArray w)(hc:n+m≤cap)(bd:(storeCells (a.add (n*sz)) us).run P w=.ok () w'):
  (Builtin.append_ #[st,xt] T #[.slice (some a) n cap,x]).run P w=.ok (.slice (some a) (n+m) cap) w':=by
 simp[Builtin.append_,cg hu,hs,cg k9,hm,hc,hf,bd]
theorem run_append_grow{st xt e T:TypeId}{xd:TypeDesc}{ti:TypeInfo}{z:Value}{sz n cap:Nat}{ez:Option Addr}{x:Value}{us vs:List Value}{m:Nat}{w:World}(hu:P.underlying st=some (.slice e))(hs:∀w,(sizeOf e).run P w=.ok sz w)(k9:P.underlying xt=some xd)(JO:∀k,xd≠.int k)
  (lB:∀w,(typeInfo e).run P w=.ok ti w)(hz:∀w,(zeroValue e).run P w=.ok z w)
  (hm:∀w',w'.heap=w.heap→(Builtin.lenOf x).run P w'=.ok m w')(hf:∀w',w'.heap=w.heap→(Builtin.firstCells sz m x).run P w'=.ok us.toArray w')(EX:∀w',w'.heap=w.heap→(Builtin.firstCells sz n (.slice ez n cap)).run P w'=.ok vs.toArray w')
  (hc:¬n+m≤cap)(hb:(n+m)*ti.bytes≤140737488355328)(sE:ti.bytes≠0):
  ∃nc,n+m≤nc∧(Builtin.append_ #[st,xt] T #[.slice ez n cap,x]).run P w=.ok (.slice (some ⟨w.heap.size,0,none⟩) (n+m) nc) {w with drawn:=w.drawn+1,heap:=w.heap.push (.cells (vs.toArray++us.toArray++Builtin.zeroCells z.cells (nc-(n+m))) e (0,0))}:=by
 have h1:=nextslicecap_le (n+m) cap zO;have h2:¬Builtin.nextslicecap (n+m) cap*ti.bytes>281474976710656:=by
  have:=Nat.mul_le_mul_right ti.bytes h1;rw[Nat.mul_assoc]at this;omega
 refine⟨(n+m)+(w.tape w.drawn (.appendCap (n+m) cap e))%(2^63-(n+m)),by omega,?_⟩;have E3:=hm w rfl;have Jb:=hf w.drew rfl;have acM:=EX w.drew rfl;simp[Builtin.append_,cg hu,hs,cg k9,E3,hc,lB,sE,h2,Question.forced,Question.cut,acM,Jb,hz,newRow];simp only[World.alloc,World.drew];have h9:vs.toArray++(us.toArray++Builtin.zeroCells z.cells (w.tape w.drawn (Question.appendCap (n+m) cap e)%(9223372036854775808-(n+m))))=(vs++us).toArray++Builtin.zeroCells z.cells (w.tape w.drawn (Question.appendCap (n+m) cap e)%(9223372036854775808-(n+m))):=by
  apply Array.ext';simp
 rw[h9]
theorem Mj(z:Array Value)(n:Nat):(Builtin.zeroCells z n).size=n*z.size:=by simp[Builtin.zeroCells]
theorem iV.grown{w w':World}{O:Nat→Prop}{ρ:aC}{b nc sz:Nat}{T:TypeId}{ds:List (List D)}{vs:List Value}{zs:Array Value}(hb:w'.heap[b]?=some (.cells (vs.toArray++zs) T (0,0)))(hlen:vs.length=ds.length*sz)(xM:zs.size=(nc-ds.length)*sz)(BN:ds.length≤nc)(I0:ds.length≤aH)
  (ac_:∀r∈ds,r.length=sz)(hv:Vs w O dX ds.flatten vs)(h1:∀v∈vs,v.oneCell'=true){O':Nat→Prop}(hk:Kept w O w' O'):iV w' O' ρ ⟨b,0,nc⟩ (.arr sz ds):=by
 refine⟨_,T,hb,?_,⟨BN,I0⟩,?_⟩
 ·simp only[Array.size_append,List.size_toArray,hlen,xM,Nat.zero_add];rw[←Nat.add_mul,Nat.add_sub_cancel' BN];exact Nat.le_refl _
 ·have dN:ds.flatten.length=vs.length:=hv.length.symm;have vI:(((vs.toArray++zs).toList).drop 0).take ds.flatten.length=vs:=by
   simp[dN]
  refine Vr.ta hb ds 0 ac_ ?_ ?_
  ·rw[vI];exact Vs.mono hk (bO.refl _) _ _ hv
  ·rw[vI];exact h1
theorem Tr.drawn{O:Nat→Prop}{w:World}{ρ:aC}{J:aa}(af:di w O ρ J)(n:Nat)(hn:w.drawn≤n):Tr O w ρ J {w with drawn:=n} ρ J:=
 Tr.qQ ⟨Nat.le_refl _,fun _ _=>rfl,rfl,rfl,.inl ⟨rfl,hn⟩⟩ af
theorem sj{J:aa}{id:Nat}:∀i x,(J.set id .dead).get i=some x→x.live=true→J.get i=some x:=by
 intro i x h1 h2;rw[aa.eG]at h1;by_cases e:id=i
 ·simp only[if_pos e,Option.some.injEq]at h1;subst h1;simp[Ob.live]at h2
 ·rw[if_neg e]at h1;exact h1
theorem D4{J:aa}{id:Nat}:∀i,(J.set id .dead).get i=none→J.get i=none:=by
 intro i h1;rw[aa.eG]at h1;by_cases e:id=i
 ·simp[e]at h1
 ·rw[if_neg e]at h1;exact h1
theorem Tr.Gb{O:Nat→Prop}{w:World}{ρ:aC}{J:aa}{id bn:Nat}{sz:Nat}(af:di w O ρ J):Tr O w ρ J w ρ ((bn,.arr sz [])::J.set id .dead):=by
 have look:∀i x,aa.get ((bn,Ob.arr sz [])::J.set id .dead) i=some x→x.live=true→J.get i=some x:=by
  intro i x h1 h2;rw[aa.bf]at h1;by_cases e:bn=i
  ·simp only[if_pos e,Option.some.injEq]at h1;subst h1;simp[Ob.live]at h2
  ·rw[if_neg e]at h1;exact sj i x h1 h2
 have mu:∀b,b9 ρ ((bn,.arr sz [])::J.set id .dead) b→b9 ρ J b:=by
  rintro b ⟨i,x,l,h1,h2,h3⟩;exact⟨i,x,l,look i x h1 h2,h2,h3⟩
 have hk:Kept w (Ot O ρ J) w (Ot O ρ ((bn,.arr sz [])::J.set id .dead)):=Kept.eP fun b=>Or.imp _root_.id (mu b);refine⟨bO.refl _,Nat.le_refl _,fun _ _ _=>rfl,fun b hb=>.inl (mu b hb),⟨af.lt,?_,?_,?_⟩,rfl,rfl,iU.eq rfl rfl⟩
 ·intro i hi;rw[aa.bf]at hi;by_cases e:bn=i
  ·simp[e]at hi
  ·rw[if_neg e]at hi;exact af.fresh i (D4 i hi)
 ·intro i x h1 h2;obtain⟨l,h3,h4,h5⟩:=af.own i x (look i x h1 h2) h2;exact⟨l,h3,h4,h5.mono hk (bO.refl _) rfl⟩
 ·intro i j x x' l1 l2 h1 h2 h3 h4;exact af.inj i j x x' l1 l2 (look i x h1 h3) (look j x' h2 h4) h3 h4
theorem dJ{st xt e e':TypeId}{ti:TypeInfo}{z:Value}{sz n id bt:Nat}{x y:Operand}{ia:Bool}{rows new:List (List D)}{J:aa}(bn:Nat)(hu:P.underlying st=some (.slice e))(k9:P.underlying xt=some (.slice e'))(hs:∀w,(sizeOf e).run P w=.ok sz w)
  (lB:∀w,(typeInfo e).run P w=.ok ti w)(hz:∀w,(zeroValue e).run P w=.ok z w)(xM:z.cells.size=sz)(pR:ti.bytes=bt)(Bz:Nat.beq bt 0=false)(hx:env.op x=some (.gs id n))(ho:J.get id=some (.arr sz rows))(hn:rows.length=n)(hy:env.op y=some (.snap sz ia new))(hid:J.get bn=none)
  (qy:(n+new.length)*bt≤140737488355328):
  aq P ⟨dst,.call ⟨.builtin .append,#[x,y],#[st,xt]⟩,ty,pos,au,g⟩ env J (.gs bn (n+new.length)) ((bn,.arr sz (rows++new))::J.set id .dead):=
 .step fun O ρ a w af hv=>by
  have hb:(n+new.length)*ti.bytes≤140737488355328:=by rw[pR];exact qy
  have sE:ti.bytes≠0:=by
   rw[pR];intro h;subst h;simp at Bz
  have cp:=hv x (by simp[Op.operands,Call.operands]) _ hx;have eD:=hv y (by simp[Op.operands,Call.operands]) _ hy;have gw:∀v w',(Builtin.append_ #[st,xt] ty #[a.eval x,a.eval y]).run P w=.ok v w'→(execOp a.eval ⟨dst,.call ⟨.builtin .append,#[x,y],#[st,xt]⟩,ty,pos,au,g⟩).run P w=.ok (.value v) w':=by
   intro v w' h;simp[execOp,resolve,invoke,builtin,h]
  obtain⟨hlen,us,nq,ot,sL,k6,gO⟩:=yp (P:=P) eD;have BB:n+new.length≤aH:=by
   have:(n+new.length)*1≤(n+new.length)*ti.bytes:=Nat.mul_le_mul_left _ zO;unfold aH;omega
  -- the grown slice in a new block
  have grow:∀(ez:Option Addr)(cap:Nat)(vs:List Value),a.eval x=.slice ez n cap→(∀w',w'.heap=w.heap→(Builtin.firstCells sz n (.slice ez n cap)).run P w'=.ok vs.toArray w')→¬n+new.length≤cap→vs.length=n*sz→Vs w (Ot O ρ J) dX rows.flatten vs→(∀v∈vs,v.oneCell'=true)→(∀r∈rows,r.length=sz)→n+new.length≠0→
    ∃v w' aw,((execOp a.eval ⟨dst,.call ⟨.builtin .append,#[x,y],#[st,xt]⟩,ty,pos,au,g⟩).run P w=.ok (.value v) w'∨((execOp a.eval ⟨dst,.call ⟨.builtin .append,#[x,y],#[st,xt]⟩,ty,pos,au,g⟩).run P w=.ok .skip w'∧v=undef))∧Tr O w ρ J w' aw ((bn,.arr sz (rows++new))::J.set id .dead)∧V w' (Ot O aw ((bn,.arr sz (rows++new))::J.set id .dead)) aw (.gs bn (n+new.length)) v:=by
   intro ez cap vs e1 mz hc B1 xI ic zH aG;obtain⟨nc,h1,h2⟩:=run_append_grow (T:=ty) (w:=w) hu hs k9 zS lB hz (fun w' _=>hlen w') nq mz hc hb sE;rw[←e1]at h2;have BR:di {w with drawn:=w.drawn+1} O ρ J:=(Tr.drawn af (w.drawn+1) (Nat.le_succ _)).ok;have bm:=Tr.drawn af (w.drawn+1) (Nat.le_succ _);refine⟨_,_,T.cv ρ bn ⟨w.heap.size,0,nc⟩,.inl (gw _ _ h2),bm.trans (Tr.born (w:={w with drawn:=w.drawn+1}) BR hid _ rfl sj D4 ?_),?_⟩
   ·intro hk;have bW:(rows++new).length=n+new.length:=by rw[List.length_append,hn]
    have tZ:(vs++us).toArray=vs.toArray++us.toArray:=by simp
    refine iV.grown (w:={w with drawn:=w.drawn+1}) (T:=e) (vs:=vs++us) (zs:=Builtin.zeroCells z.cells (nc-(n+new.length))) (by rw[tZ];simp) ?_ ?_ ?_ (by rw[bW];exact BB) ?_ ?_ ?_ hk
    ·rw[List.length_append,bW,B1,k6,Nat.add_mul]
    ·rw[Mj,xM,bW]
    ·rw[bW];exact h1
    ·intro r hr;rcases List.mem_append.1 hr with hr|hr
     ·exact zH r hr
     ·exact gO r hr
    ·rw[List.flatten_append];exact Vs.mono bm.kept (bO.refl _) _ _ (Vs.append xI ot)
    ·intro v j0;rcases List.mem_append.1 j0 with j0|j0
     ·exact ic v j0
     ·exact sL v j0
   ·simp only[V];exact .inr ⟨aG,_,lr ..,rfl⟩
  by_cases gb:n=0
  ·subst gb;obtain rfl:rows=[]:=List.length_eq_zero_iff.1 hn;have he:∃ad,a.eval x=.slice ad 0 0:=by
    simp only[V]at cp;rcases cp with⟨_,ad,e⟩|⟨h,_⟩
    ·exact⟨ad,e⟩
    ·exact absurd rfl h
   obtain⟨ad,e1⟩:=he;by_cases hm:new=[]
   ·subst hm;refine⟨.slice ad 0 0,w,ρ,.inl (gw _ _ ?_),by simpa using Tr.Gb (id:=id) (bn:=bn) (sz:=sz) af,by simp[V]⟩;have h1:=nq w rfl;have B0:us=[]:=by
     have:=k6;simp at this;exact this
    subst B0;rw[e1];cases ad with
    |none=>simp[Builtin.append_,cg hu,hs,cg k9,hlen w]at h1⊢;simp[h1]
    |some ad=>simp[Builtin.append_,cg hu,hs,cg k9,hlen w]at h1⊢;simp[h1,storeCells]
   ·refine grow ad 0 [] e1 ?_ ?_ zS (by simp[Vs]) zS zS ?_
    ·intro w' _;cases ad with
     |none=>simp[Builtin.firstCells]
     |some ad=>simp[Builtin.firstCells,loadCells,loadCellsFrom]
    ·have:new.length≠0:=fun h=>hm (List.length_eq_zero_iff.1 h);omega
    ·have:new.length≠0:=fun h=>hm (List.length_eq_zero_iff.1 h);omega
  ·have dT:(Ob.arr sz rows).live=true:=by
    cases rows with
    |nil=>simp at hn;exact absurd hn.symm gb
    |cons r rs=>rfl
   obtain⟨l,h3,hOl,c,T,h4,h5,h6,h7⟩:=af.own id _ ho dT;have e1:a.eval x=.slice (some ⟨l.b,l.off,none⟩) n l.cap:=by
    simp only[V]at cp;rcases cp with⟨h,_⟩|⟨_,l',h8,e⟩
    ·exact absurd h gb
    ·rw[h3]at h8;cases h8;exact e
   obtain⟨h8,h9⟩:=Vr.flat rows l.off h7;have zH:∀r∈rows,r.length=sz:=by
    intro r hr;obtain⟨i,hi⟩:=List.getElem?_of_mem hr;exact(Vr.get rows l.off h7 i r hi).1
   rw[hn]at h9 h6;by_cases hc:n+new.length≤l.cap
   ·-- in place
    obtain⟨gE,f_,_⟩:=Vc.GF h4 rows.flatten l.off h8;have BA:l.off+n*sz+us.length≤c.size:=by
     rw[k6];have:(n+new.length)*sz≤l.cap*sz:=Nat.mul_le_mul_right sz hc;rw[Nat.add_mul]at this;omega
    have bd:=uO (P:=P) (b:=l.b) (T:=T) us w c (l.off+n*sz) 0 h4 zO sL;have JF:=run_append_room (T:=ty) (a:=⟨l.b,l.off,none⟩) (w:=w) hu hs k9 zS (hlen w) (nq w rfl) hc (by rw[addr_add];exact bd);have bm:=Tr.cv (o':=.arr sz (rows++new)) af ho dT h3 (.cells (setMany c (l.off+n*sz+0) us) T (0,0)) ?_
    ·have Jo:(Ob.arr sz (rows++new)).live=true:=by
      cases rows with
      |nil=>simp at hn;exact absurd hn.symm gb
      |cons r rs=>rfl
     have Jf:(J.set id (.arr sz (rows++new))).get bn=none:=by
      rw[aa.eG];by_cases e:id=bn
      ·subst e;rw[ho]at hid;cases hid
      ·rw[if_neg e];exact hid
     have lC:=Tr.rename (id:=id) (bn:=bn) bm.ok (by rw[aa.eG];simp) Jo Jf h3;have rF:(J.set id (.arr sz (rows++new))).set id .dead=J.set id .dead:=by
      exact aa.set_set ..
     rw[rF]at lC;refine⟨_,_,Go.T.cv ρ bn l,.inl (gw _ _ (by rw[e1];exact JF)),bm.trans lC,?_⟩;simp only[V];exact .inr ⟨by omega,l,lr ..,rfl⟩
    ·intro hk;refine⟨_,T,by simp[(Array.getElem?_eq_some_iff.1 h4).1];rfl,?_,?_,?_⟩
     ·rw[C_];exact h5
     ·rw[List.length_append,hn];exact⟨hc,BB⟩
     ·have vI:((setMany c (l.off+n*sz) us).toList.drop l.off).take (rows++new).flatten.length=(c.toList.drop l.off).take rows.flatten.length++us:=by
       rw[C' us c _ BA,List.flatten_append,List.length_append,h9,ot.length.symm];have ja:(c.toList.take (l.off+n*sz)++us++c.toList.drop (l.off+n*sz+us.length)).drop l.off=(c.toList.drop l.off).take (n*sz)++us++c.toList.drop (l.off+n*sz+us.length):=by
        rw[List.append_assoc,List.drop_append_of_le_length zQ,List.drop_take,List.append_assoc,show l.off+n*sz-l.off=n*sz by omega]
       rw[ja];have kW:((c.toList.drop l.off).take (n*sz)++us).length=n*sz+us.length:=by
        simp;omega
       rw[←kW,List.take_left]
      refine Vr.ta (c:=setMany c (l.off+n*sz) us) (T:=T) (fr:=(0,0)) (by simp[(Array.getElem?_eq_some_iff.1 h4).1]) (rows++new) l.off ?_ ?_ ?_
      ·intro r hr;rcases List.mem_append.1 hr with hr|hr
       ·exact zH r hr
       ·exact gO r hr
      ·rw[vI,List.flatten_append];exact Vs.mono hk (bO.refl _) _ _ (Vs.append gE ot)
      ·rw[vI];intro v j0;rcases List.mem_append.1 j0 with j0|j0
       ·exact f_ v j0
       ·exact sL v j0
   ·obtain⟨vs,gE,f_,ja⟩:=run_loadCells (P:=P) rows.flatten l.off 0 #[] (by simpa using h8);refine grow (some ⟨l.b,l.off,none⟩) l.cap vs e1 ?_ hc (by rw[f_.length,h9]) f_ ja zH zO;intro w' he;rw[h9]at gE;simpa[Builtin.firstCells,loadCells]using gE w' he
end
end Go.T
namespace Go.T
open Go
variable[bT]
theorem Le.step{F:Fr}{env aS:Env}{J ai:aa}
  (h:∀(O:Nat→Prop)(ρ:aC)(w:World)(f:Nat→Value),di w O ρ J→(∀t d,env.get t=some d→V w (Ot O ρ J) ρ d (f t))→∃aw,Tr O w ρ J w aw ai∧∀t d,aS.get t=some d→V w (Ot O aw ai) aw d (f t)):Le F env J aS ai:=
 ⟨fun C a w ⟨ρ,hs⟩=>by
  obtain⟨aw,h1,h2⟩:=h C.O ρ w (fun t=>a.tmps.getD t undef) hs.tr.ok hs.env;exact⟨aw,hs.step h1 h2 rfl rfl⟩⟩
theorem Tr.ij{O:Nat→Prop}{w:World}{ρ:aC}{J:aa}(id sz:Nat)(af:di w O ρ J):Tr O w ρ J w ρ ((id,.arr sz [])::J):=by
 have look:∀i x,aa.get ((id,Ob.arr sz [])::J) i=some x→x.live=true→J.get i=some x:=by
  intro i x h1 h2;rw[aa.bf]at h1;by_cases e:id=i
  ·simp only[if_pos e,Option.some.injEq]at h1;subst h1;simp[Ob.live]at h2
  ·rw[if_neg e]at h1;exact h1
 have mu:∀b,b9 ρ ((id,.arr sz [])::J) b→b9 ρ J b:=by
  rintro b ⟨i,x,l,h1,h2,h3⟩;exact⟨i,x,l,look i x h1 h2,h2,h3⟩
 have hk:Kept w (Ot O ρ J) w (Ot O ρ ((id,.arr sz [])::J)):=Kept.eP fun b=>Or.imp _root_.id (mu b);refine⟨bO.refl _,Nat.le_refl _,fun _ _ _=>rfl,fun b hb=>.inl (mu b hb),⟨af.lt,?_,?_,?_⟩,rfl,rfl,iU.eq rfl rfl⟩
 ·intro i hi;rw[aa.bf]at hi;by_cases e:id=i
  ·simp[e]at hi
  ·rw[if_neg e]at hi;exact af.fresh i hi
 ·intro i x h1 h2;obtain⟨l,h3,h4,h5⟩:=af.own i x (look i x h1 h2) h2;exact⟨l,h3,h4,h5.mono hk (bO.refl _) rfl⟩
 ·intro i j x x' l1 l2 h1 h2 h3 h4;exact af.inj i j x x' l1 l2 (look i x h1 h3) (look j x' h2 h4) h3 h4
theorem Le.ij{F:Fr}{env:Env}{J:aa}(id sz:Nat):Le F env J env ((id,.arr sz [])::J):=.step fun O ρ w f af hv=>
 ⟨ρ,Tr.ij id sz af,fun t d h=>(Tr.ij id sz af).V (hv t d h)⟩
theorem aq.ij{P:Program}{o:Oper}{env:Env}{J ai:aa}{d d0:D}{t:Nat}(id sz:Nat)(ht:env.get t=some d0)(hs:Sub d0 (.gs id 0))(h:aq P o ((t,.gs id 0)::env) ((id,.arr sz [])::J) d ai):aq P o env J d ai:=by
 intro O ρ a w af dH hv;have bm:=Tr.ij id sz af;refine Oper.wp_mono ?_ (h O ρ a w bm.ok (dH.mono bm.kept) ?_)
 ·rintro a' w' ⟨aw,v,h1,h2,h3⟩;exact⟨aw,v,h1,bm.trans h2,h3⟩
 ·intro x hx d' hd;cases x with
  |tmp s=>
   simp only[Env.op,Env.bf]at hd;by_cases e:t=s
   ·subst e;simp only[if_true,Option.some.injEq]at hd;subst hd;exact bm.V (hs.out _ _ _ _ (hv (.tmp t) hx d0 ht))
   ·rw[if_neg e]at hd;exact bm.V (hv (.tmp s) hx d' hd)
  |const v=>exact KS hd
  |global g=>simp only[Env.op,Option.some.injEq]at hd;subst hd;simp[V,Act.eval]
  |func f=>simp only[Env.op,Option.some.injEq]at hd;subst hd;exact⟨#[],#[],rfl,by simp[Vs],by simp[Vs]⟩
theorem Sub.qv(id:Nat):Sub (.raw (.slice none 0 0)) (.gs id 0):=⟨fun w O ρ v h=>by
 simp only[V]at h⊢;exact .inl ⟨trivial,none,h⟩⟩
theorem Sub.sw(id sz:Nat):Sub (.snap sz true []) (.gs id 0):=⟨fun w O ρ v h=>by
 simp only[V]at h⊢;obtain⟨a,cap,e,_,h2,_⟩:=h;have:=h2 trivial;exact .inl ⟨trivial,a,by rw[e,this];rfl⟩⟩
theorem Le.j4{F:Fr}{env:Env}{J:aa}{sz n:Nat}{rows:List (List D)}(t id bn:Nat)(ht:env.get t=some (.gs id n))(ho:J.get id=some (.arr sz rows))(hn:rows.length=n)(hid:J.get bn=none):
  Le F env J ((t,.gs bn n)::env) ((bn,.arr sz rows)::J.set id .dead):=.step fun O ρ w f af hv=>by
 have ue:=hv t _ ht;cases rows with
 |nil=>
  subst hn;have bm:=Tr.Gb (id:=id) (bn:=bn) (sz:=sz) af;refine⟨ρ,bm,fun s d h=>?_⟩;rw[Env.bf]at h;by_cases e:t=s
  ·rw[if_pos e]at h;cases h;subst e;simp only[V]at ue⊢;rcases ue with h|⟨h,_⟩
   ·exact .inl h
   ·exact absurd rfl h
  ·rw[if_neg e]at h;exact bm.V (hv s d h)
 |cons r rs=>
  obtain⟨l,h3,_⟩:=af.own id _ ho rfl;have bm:=Tr.rename (id:=id) (bn:=bn) af ho rfl hid h3;refine⟨_,bm,fun s d h=>?_⟩;rw[Env.bf]at h;by_cases e:t=s
  ·rw[if_pos e]at h;cases h;subst e;simp only[V]at ue⊢;rcases ue with h|⟨h,l',h4,h5⟩
   ·exact .inl h
   ·rw[h3]at h4;cases h4;exact .inr ⟨h,l,lr ..,h5⟩
  ·rw[if_neg e]at h;exact bm.V (hv s d h)
theorem Tr.die{O:Nat→Prop}{w:World}{ρ:aC}{J:aa}(id:Nat)(af:di w O ρ J):Tr O w ρ J w ρ (J.set id .dead):=by
 have mu:∀b,b9 ρ (J.set id .dead) b→b9 ρ J b:=by
  rintro b ⟨i,x,l,h1,h2,h3⟩;exact⟨i,x,l,sj i x h1 h2,h2,h3⟩
 have hk:Kept w (Ot O ρ J) w (Ot O ρ (J.set id .dead)):=Kept.eP fun b=>Or.imp _root_.id (mu b);refine⟨bO.refl _,Nat.le_refl _,fun _ _ _=>rfl,fun b hb=>.inl (mu b hb),⟨af.lt,fun i hi=>af.fresh i (D4 i hi),?_,?_⟩,rfl,rfl,iU.eq rfl rfl⟩
 ·intro i x h1 h2;obtain⟨l,h3,h4,h5⟩:=af.own i x (sj i x h1 h2) h2;exact⟨l,h3,h4,h5.mono hk (bO.refl _) rfl⟩
 ·intro i j x x' l1 l2 h1 h2 h3 h4;exact af.inj i j x x' l1 l2 (sj i x h1 h3) (sj j x' h2 h4) h3 h4
theorem PV{O:Nat→Prop}{w:World}{ρ:aC}{J:aa}{id sz n:Nat}{rows:List (List D)}{v:Value}(af:di w O ρ J)(ho:J.get id=some (.arr sz rows))(hn:rows.length=n)(hv:V w (Ot O ρ J) ρ (.gs id n) v):
  V w (Ot O ρ (J.set id .dead)) ρ (.snap sz false rows) v:=by
 simp only[V]at hv⊢;cases rows with
 |nil=>
  subst hn;rcases hv with⟨_,a,e⟩|⟨h,_⟩
  ·exact⟨a,0,e,by simp[aH]⟩
  ·exact absurd rfl h
 |cons r rs=>
  rcases hv with⟨h,_⟩|⟨_,l,h1,e⟩
  ·rw[h]at hn;simp at hn
  ·obtain⟨l',h3,h4,c,T,h5,h6,h7,h8⟩:=af.own id _ ho rfl;rw[h1]at h3;cases h3;refine⟨some ⟨l.b,l.off,none⟩,l.cap,by rw[hn];exact e,h7,by simp,fun _=>⟨l.b,l.off,rfl,⟨(Array.getElem?_eq_some_iff.1 h5).1,?_⟩,?_⟩⟩
   ·rintro(hb|⟨i,x,l',g1,g2,g3,g4⟩)
    ·exact h4 hb
    ·have hx:=sj i x g1 g2;have:=af.inj i id x _ l' l hx ho g2 rfl g3 h1 g4;subst this;rw[aa.eG]at g1;simp only[if_true,Option.some.injEq]at g1;subst g1;simp[Ob.live]at g2
   ·have hk:=(Tr.die id af).kept;exact iV.mono.vr hk rfl _ _ h8
theorem Le.freeze{F:Fr}{env:Env}{J:aa}{sz n:Nat}{rows:List (List D)}(t id:Nat)(ht:env.get t=some (.gs id n))(ho:J.get id=some (.arr sz rows))(hn:rows.length=n):
  Le F env J ((t,.snap sz false rows)::env) (J.set id .dead):=.step fun O ρ w f af hv=>by
 have bm:=Tr.die id af;refine⟨ρ,bm,fun s d h=>?_⟩;rw[Env.bf]at h;by_cases e:t=s
 ·rw[if_pos e]at h;cases h;subst e;exact PV af ho hn (hv t _ ht)
 ·rw[if_neg e]at h;exact bm.V (hv s d h)
end Go.T
namespace Go.T
open Go
variable[bT]
section
variable{P:Program} {N:Nat} {ops:Array Oper} {K:Env→aa→Prop} {l:List Oper} {ks:List Kind} {env:Env} {J:aa}
theorem cN{o:Oper}{g t:Nat}{b c:Bool}(hg:o.guard=some (g,b))(ht:(ops[g]?).bind (·.dst)=some t)(he:env.get t=some (.raw (.bool c)))(hc:c=b):On ops env o:=by
 subst hc;simp only[On,hg];exact⟨t,ht,he⟩
theorem lk{o:Oper}{g t:Nat}{b c:Bool}(hg:o.guard=some (g,b))(ht:(ops[g]?).bind (·.dst)=some t)(he:env.get t=some (.raw (.bool c)))(hc:c=!b):tC ops env o:=
 ⟨g,b,t,.bool c,hg,ht,he,by subst hc;cases b<;>simp⟩
theorem Tq{o:Oper}{g t:Nat}{b:Bool}(hg:o.guard=some (g,b))(ht:(ops[g]?).bind (·.dst)=some t)(he:env.get t=some (.raw undef)):tC ops env o:=
 ⟨g,b,t,undef,hg,ht,he,by simp[undef]⟩
theorem dt.gT{o:Oper}{lG:Kind}{g t:Nat}{p:Bool}{d:D}(hd:eQ N o.dst=true)(hk:lG=.p∨lG=.r)(hg:o.guard=some (g,true))(ht:(ops[g]?).bind (·.dst)=some t)(he:env.get t=some (.raw (.bool p)))
  (h:p=true→(lG=.p→∀J,aq P o env J d J)∧(lG=.r→aq P o env J d J))(k:dt P N ops K l ks (env.put o.dst (bif p then d else .raw undef)) J):dt P N ops K (o::l) (lG::ks) env J:=by
 cases p with
 |false=>exact .off hd (lk hg ht he rfl) k
 |true=>
  rcases hk with rfl|rfl
  ·exact .p hd (cN hg ht he rfl) ((h rfl).1 rfl) k
  ·exact .r hd (cN hg ht he rfl) ((h rfl).2 rfl) k
theorem dt.gF{o:Oper}{lG:Kind}{g t:Nat}{p:Bool}{d:D}(hd:eQ N o.dst=true)(hk:lG=.p∨lG=.r)(hg:o.guard=some (g,false))(ht:(ops[g]?).bind (·.dst)=some t)(he:env.get t=some (.raw (.bool p)))
  (h:p=false→(lG=.p→∀J,aq P o env J d J)∧(lG=.r→aq P o env J d J))(k:dt P N ops K l ks (env.put o.dst (bif !p then d else .raw undef)) J):dt P N ops K (o::l) (lG::ks) env J:=by
 cases p with
 |true=>exact .off hd (lk hg ht he rfl) k
 |false=>
  rcases hk with rfl|rfl
  ·exact .p hd (cN hg ht he rfl) ((h rfl).1 rfl) k
  ·exact .r hd (cN hg ht he rfl) ((h rfl).2 rfl) k
theorem dt.nF{o:Oper}{lG:Kind}{g t:Nat}{c p:Bool}{d:D}(hd:eQ N o.dst=true)(hk:lG=.p∨lG=.r)(hg:o.guard=some (g,false))(ht:(ops[g]?).bind (·.dst)=some t)(he:env.get t=some (bif c then .raw (.bool p)else .raw undef))
  (h:c=true→p=false→(lG=.p→∀J,aq P o env J d J)∧(lG=.r→aq P o env J d J))(k:dt P N ops K l ks (env.put o.dst (bif c&&!p then d else .raw undef)) J):dt P N ops K (o::l) (lG::ks) env J:=by
 cases c with
 |false=>exact .off hd (Tq hg ht he) k
 |true=>exact dt.gF hd hk hg ht he (h rfl) k
theorem bI{x:Operand}{c:Bool}{d u:D}(h:env.op x=some (bif c then d else u))(hc:c=true):env.op x=some d:=by rw[h,hc];rfl
theorem opA{x:Operand}{c r:Bool}{d u:D}(h:env.op x=some (bif c&&r then d else u))(hc:c=true):env.op x=some (bif r then d else u):=by rw[h,hc];rfl
theorem cB{x:Operand}{xs:List Operand}{d:D}{ds:List D}(h:env.op x=some d)(r:env.lH xs=some ds):env.lH (x::xs)=some (d::ds):=by simp[Env.lH,h,r]
theorem nt{p:Bool}(h:p=false):(!p)=true:=by rw[h];rfl
theorem bF{c p:Bool}(h:c=true)(h':p=false):(c&&!p)=true:=by rw[h,h'];rfl
theorem pk{P:Program}{o:Oper}{env:Env}{d:D}{J:aa}(h:∀J,aq P o env J d J):(Kind.p=.p→∀J,aq P o env J d J)∧(Kind.p=.r→aq P o env J d J):=⟨fun _=>h,(fun e=>by cases e)⟩
theorem rk{P:Program}{o:Oper}{env:Env}{d:D}{J:aa}(h:aq P o env J d J):(Kind.r=.p→∀J,aq P o env J d J)∧(Kind.r=.r→aq P o env J d J):=⟨(fun e=>by cases e),fun _=>h⟩
theorem kN{dst:Option Tmp}{ty:TypeId}{pos:String}{au:Array Edge}{g:Option (Nat×Bool)}{c x:Operand}{b q:Bool}{u:D}(hc:env.op c=some (.raw (.bool b)))(hx:env.op x=some (bif b then .raw (.bool q)else u))(J:aa):
  aq P ⟨dst,.pick c x (.const (.bool false)),ty,pos,au,g⟩ env J (.raw (.bool (b&&q))) J:=by
 cases b with
 |true=>exact qV hc rfl hx J
 |false=>exact C0 hc rfl rfl J
theorem rT{dst:Option Tmp}{ty:TypeId}{pos:String}{au:Array Edge}{g:Option (Nat×Bool)}{c y:Operand}{b q:Bool}{u:D}(hc:env.op c=some (.raw (.bool b)))(hx:env.op y=some (bif !b then .raw (.bool q)else u))(J:aa):
  aq P ⟨dst,.pick c (.const (.bool true)) y,ty,pos,au,g⟩ env J (.raw (.bool (b||q))) J:=by
 cases b with
 |true=>exact qV hc rfl rfl J
 |false=>exact C0 hc rfl hx J
end
theorem dt.mono{P:Program}{N:Nat}{ops:Array Oper}{K K':Env→aa→Prop}{l:List Oper}{ks:List Kind}{env:Env}{J:aa}(h:dt P N ops K l ks env J)(hk:∀e o,K e o→K' e o):dt P N ops K' l ks env J:=by
 induction h with
 |nil h=>exact .nil (hk _ _ h)
 |p hd hg h _ ih=>exact .p hd hg h ih
 |r hd hg h _ ih=>exact .r hd hg h ih
 |w hd hg h _ ih=>exact .w hd hg h ih
 |off hd hg _ ih=>exact .off hd hg ih
def pI(P:Program)(F:Fr):List Code→(Exit→Env→aa→Prop)→Env→aa→Prop
 |[],Q,env,J=>Q .normal env J
 |c::cs,Q,env,J=>WP P F c (kr (pI P F cs Q) Q) env J
structure U(P:Program)(F:Fr)(cs:List Code)(Q:Exit→Env→aa→Prop)(env:Env)(J:aa):Prop where
 out:pI P F cs Q env J
def bq(id:Nat)(K:Env→aa→Prop)(Q:Exit→Env→aa→Prop):Exit→Env→aa→Prop
 |.normal,env,J=>K env J
 |.exit i,env,J=>bif Nat.beq i id then K env J else Q (.exit i) env J
 |e,env,J=>Q e env J
section
variable{P:Program} {F:Fr} {Q Q':Exit→Env→aa→Prop} {K:Env→aa→Prop} {env:Env} {J:aa} {cs:List Code}
theorem WP.mono{c:Code}(h:WP P F c Q env J)(hq:∀e env J,Q e env J→Q' e env J):WP P F c Q' env J:=
 ⟨fun C a w hs=>wpIn_mono (h.out C a w hs) fun e _ _ ⟨aS,ai,h1,h2⟩=>⟨aS,ai,hq e aS ai h1,h2⟩⟩
theorem U.start{c:Code}(h:U P F [c] Q env J):WP P F c Q env J:=WP.mono h.out fun e _ _ h=>by cases e<;>exact h
theorem U.seq{a b:Code}(h:U P F (a::b::cs) Q env J):U P F (.seq a b::cs) Q env J:=⟨by
 refine WP.seq (WP.mono h.out ?_);intro e env J h;cases e<;>exact h⟩
theorem U.cH{id:Nat}{l:List Oper}(ks:List Kind)(h:dt P F.N l.toArray (U P F cs Q) l ks env J):U P F (.region id l.toArray false::cs) Q env J:=
 ⟨WP.region (Q:=kr (pI P F cs Q) Q) (h.mono fun _ _ h=>h.out)⟩
theorem U.qY{id:Nat}{l:List Oper}(ks:List Kind)(hm:P.follows .mixedOrders=true)(af:kM l.toArray ks=true)(h:dt P F.N l.toArray (U P F cs Q) l ks env J):U P F (.region id l.toArray true::cs) Q env J:=
 ⟨WP.Us (Q:=kr (pI P F cs Q) Q) hm af (h.mono fun _ _ h=>h.out)⟩
theorem U.skip(h:U P F cs Q env J):U P F (.skip::cs) Q env J:=⟨WP.skip (Q:=kr (pI P F cs Q) Q) h.out⟩
theorem U.ret(h:Q .ret env J):U P F (.ret::cs) Q env J:=⟨WP.ret (Q:=kr (pI P F cs Q) Q) h⟩
theorem U.exit{id:Nat}(h:Q (.exit id) env J):U P F (.exit id::cs) Q env J:=⟨WP.exit (Q:=kr (pI P F cs Q) Q) h⟩
theorem U.nil(h:Q .normal env J):U P F [] Q env J:=⟨h⟩
theorem U.cond{c:Operand}{x y:Code}{b:Bool}(hc:env.op c=some (.raw (.bool b)))(ht:b=true→U P F (x::cs) Q env J)(hf:b=false→U P F (y::cs) Q env J):U P F (.cond c x y::cs) Q env J:=
 ⟨WP.cond hc (fun e=>(ht e).out) (fun e=>(hf e).out)⟩
theorem U.iY{c:Operand}{x y:Code}{b:Bool}(hc:env.op c=some (.raw (.bool b)))(hb:b=true)(ht:U P F (x::cs) Q env J):U P F (.cond c x y::cs) Q env J:=⟨WP.iY hc hb ht.out⟩
theorem U.fG{c:Operand}{x y:Code}{b:Bool}(hc:env.op c=some (.raw (.bool b)))(hb:b=false)(ht:U P F (y::cs) Q env J):U P F (.cond c x y::cs) Q env J:=⟨WP.fG hc hb ht.out⟩
theorem U.bC{c:Code}{aS:Env}{ai:aa}(h:Le F env J aS ai)(hr:U P F (c::cs) Q aS ai):U P F (c::cs) Q env J:=⟨WP.bC h hr.out⟩
theorem U.block{id:Nat}{c:Code}(h:U P F [c] (bq id (U P F cs Q) Q) env J):U P F (.block id c::cs) Q env J:=⟨by
 refine WP.block (WP.mono h.start ?_);intro e env J h;cases e with
 |normal=>exact h.out
 |exit i=>
  simp only[bq,Ho]at h⊢;cases hb:Nat.beq i id with
  |true=>simp only[hb,cond_true]at h⊢;exact h.out
  |false=>simp only[hb,cond_false]at h⊢;exact h
 |_=>exact h⟩
theorem dv{id:Nat}(h:K env J):bq id K Q .normal env J:=h
theorem eY{id:Nat}(h:K env J):bq id K Q (.exit id) env J:=by simp only[bq,Nat.beq_refl,cond_true];exact h
theorem Xn{id i:Nat}(hi:Nat.beq i id=false)(h:Q (.exit i) env J):bq id K Q (.exit i) env J:=by simp only[bq,hi,cond_false];exact h
theorem lS{id:Nat}(h:Q .ret env J):bq id K Q .ret env J:=h
theorem dx(h:K env J):kr K Q .normal env J:=h
theorem fc{i:Nat}(h:Q (.exit i) env J):kr K Q (.exit i) env J:=h
theorem u4(h:Q .ret env J):kr K Q .ret env J:=h
theorem U.loop{ι:Type}{c:Code}(E:ι→Env)(B:ι→aa)(m:ι→Nat)(x0:ι)(h0:Le F env J (E x0) (B x0))
  (round:∀x,U P F [c] (kr (fun e o=>∃x',m x'<m x∧Le F e o (E x') (B x')) Q) (E x) (B x)):U P F (.loop c::cs) Q env J:=⟨by
 refine WP.loop E B m x0 h0 fun x=>WP.mono (round x).start ?_;intro e env J h;cases e<;>exact h⟩
end
theorem U.qh{P:Program}{F:Fr}{Q:Exit→Env→aa→Prop}{env:Env}{J:aa}{c:Code}{cs:List Code}{s:List UInt8}(t:Nat)(h:env.get t=some (.str s))(k:s.length≤aH→U P F (c::cs) Q env J):U P F (c::cs) Q env J:=⟨⟨fun C a w hs=>by
 have hb:s.length≤aH:=by
  obtain⟨ρ,hs⟩:=hs;have:=hs.env t _ h;simp only[V]at this;exact this.2
 exact(k hb).out.out C a w hs⟩⟩
theorem U.ec{P:Program}{F:Fr}{Q:Exit→Env→aa→Prop}{env:Env}{J:aa}{c:Code}{cs:List Code}{sz:Nat}{f:Bool}{rows:List (List D)}(t:Nat)(h:env.get t=some (.snap sz f rows))(k:rows.length≤aH→U P F (c::cs) Q env J):U P F (c::cs) Q env J:=⟨⟨fun C a w hs=>by
 have hb:rows.length≤aH:=by
  obtain⟨ρ,hs⟩:=hs;have:=hs.env t _ h;simp only[V]at this;obtain⟨_,_,_,h1,_⟩:=this;exact h1.2
 exact(k hb).out.out C a w hs⟩⟩
theorem U.rh{P:Program}{F:Fr}{Q:Exit→Env→aa→Prop}{env:Env}{J:aa}{c:Code}{cs:List Code}{ds:List D}{sz:Nat}{f:Bool}{rows:List (List D)}(t i:Nat)(h:env.get t=some (.agg ds))(hi:ds[i]?=some (.snap sz f rows))(k:rows.length≤aH→U P F (c::cs) Q env J):U P F (c::cs) Q env J:=⟨⟨fun C s w hs=>by
 have hb:rows.length≤aH:=by
  obtain⟨ρ,hs⟩:=hs;have h1:=hs.env t _ h;simp only[V]at h1;obtain⟨vs,_,h1⟩:=h1;obtain⟨v,_,h2⟩:=h1.get i _ hi;simp only[V]at h2;obtain⟨_,_,_,h3,_⟩:=h2;exact h3.2
 exact(k hb).out.out C s w hs⟩⟩
theorem Sub.int{k:IntKind}{n m:Int}(h:n=m):Sub (.raw (.int k n)) (.raw (.int k m)):=.of_eq (by rw[h])
theorem Sub.bool{n m:Bool}(h:n=m):Sub (.raw (.bool n)) (.raw (.bool m)):=.of_eq (by rw[h])
theorem Sub.str{n m:List UInt8}(h:n=m):Sub (.str n) (.str m):=.of_eq (by rw[h])
theorem Sub.snap{sz:Nat}{f:Bool}{n m:List (List D)}(h:n=m):Sub (.snap sz f n) (.snap sz false m):=h▸.tv sz f n
theorem bS{env:Env}{J:aa}{t:Nat}{d r:D}(h:env.get t=some d)(s:Sub d r):wu [t] r .ret env J:=⟨[d],by simp[getAll,h],s⟩
theorem uM{env:Env}{J:aa}{t u:Nat}{d e d' e':D}(h:env.get t=some d)(h':env.get u=some e)(s:Sub d d')(s':Sub e e'):wu [t,u] (.bl [d',e']) .ret env J:=⟨[d,e],by simp[getAll,h,h'],.GH s s'⟩
theorem bb{α β:Type}{l pre rest:List α}{x:α}{n:Int}(f:α→β)(h:l=pre++x::rest)(hn:n=(pre.length:Int)):(l.map f)[n.toNat]?=some (f x):=by
 subst h;subst hn;simp
theorem sR{l pre rest:List UInt8}{x:UInt8}{n:Int}(h:l=pre++x::rest)(hn:n=(pre.length:Int)):l[n.toNat]?=some x:=by
 subst h;subst hn;simp
theorem aW{n:Int}(h1:-9223372036854775808≤n)(h2:n≤9223372036854775807):IntKind.i64.wrap n=n:=IntWalk.i64_in n ⟨h1,h2⟩
theorem aB{n:Int}(h:-9223372036854775808≤n∧n≤9223372036854775807):IntKind.i64.wrap n=n:=IntWalk.i64_in n h
theorem u5{n:Int}(h1:0≤n)(h2:n≤18446744073709551615):IntKind.u64.wrap n=n:=IntWalk.u64_in n ⟨h1,h2⟩
theorem V4{n:Int}(h1:0≤n)(h2:n≤255):IntKind.u8.wrap n=n:=IntWalk.u8_in n ⟨h1,h2⟩
theorem Fc.mk'{P:Program}{f:FuncId}{fn:Func}{c:Code}{args:List D}{r:D}(ts:List Nat)(hf:P.funcs[f]?=some fn)(hb:fn.body=some c){N:Nat}(hN:fn.ntmps=N)(hn:Nat.ble args.length N=true)(hp:D.bk.dw args=true)(hr:r.bk=true)
  (rE:∀tmps w,(results fn tmps).run P w=.ok (C1 ts tmps) w)(h:U P ⟨N,[],false,none⟩ [c] (wu ts r) (mc args 0) []):Fc P f args r:=
 Fc.of_wp ts hf hb hN (Nat.le_of_ble_eq_true hn) hp hr rE h.start
end Go.T
namespace Go.T
open Go
variable[bT]
theorem dt.mv{P:Program}{N:Nat}{ops:Array Oper}{K:Env→aa→Prop}{dst:Option Tmp}{ty:TypeId}{pos:String}{au:Array Edge}{x:Operand}{l:List Oper}{ks:List Kind}{env:Env}{J:aa}{d:D}(hd:eQ N dst=true)(hx:env.op x=some d)
  (k:dt P N ops K l ks (env.put dst d) J):dt P N ops K (⟨dst,.move x,ty,pos,au,none⟩::l) (.p::ks) env J:=.p hd trivial (fun _=>bG hx _) k
theorem dt.ag{P:Program}{N:Nat}{ops:Array Oper}{K:Env→aa→Prop}{dst:Option Tmp}{ty:TypeId}{pos:String}{au:Array Edge}{x:Operand}{l:List Oper}{ks:List Kind}{env:Env}{J:aa}{d:D}(hd:eQ N dst=true)(hx:env.op x=some d)
  (k:dt P N ops K l ks (env.put dst d) J):dt P N ops K (⟨dst,.assign x,ty,pos,au,none⟩::l) (.p::ks) env J:=.p hd trivial (fun _=>Ax hx _) k
theorem bs:((∀a b:Bool,((a&&b)=true)=(a=true∧b=true))∧(∀a b:Bool,((a||b)=true)=(a=true∨b=true))∧(∀x y:Bool,((x&&y)=false)=(x=false∨y=false))∧(∀x y:Bool,((x||y)=false)=(x=false∧y=false))∧
  (∀(p:Prop)[Decidable p],(decide p=true)=p)∧(∀(p:Prop)[Decidable p],(decide p=false)=¬p)∧(∀b:Bool,((!b)=true)=(b=false))∧(∀b:Bool,((!b)=false)=(b=true))∧(∀a b:Int,(¬a<b)=(b≤a))∧(∀a b:Int,(¬a≤b)=(b<a))∧
  (∀p:Prop,(¬¬p)=p))∧(∀{α:Type}[BEq α][LawfulBEq α](a b:α),((a !=b)=true)=(a≠b))∧(∀{α:Type}(a b:α),(a≠b)=¬(a=b))∧(∀{α β:Type}(f:α→β)(l:List α),(l.map f).length=l.length):=
 ⟨⟨fun a b=>by simp,fun a b=>by simp,fun a b=>by cases a<;>cases b<;>simp,fun a b=>by simp,fun p _=>by simp,fun p _=>by simp,fun b=>by simp,fun b=>by simp,fun a b=>by simp,fun a b=>by simp,fun p=>by simp⟩,fun a b=>by simp,fun a b=>rfl,fun f l=>by simp⟩
theorem dt.P{P:Program}{N:Nat}{ops:Array Oper}{K:Env→aa→Prop}{dst:Option Tmp}{o:Op}{ty:TypeId}{pos:String}{au:Array Edge}{l:List Oper}{ks:List Kind}{env:Env}{J:aa}{d:D}(hd:eQ N dst=true)(h:∀J,aq P ⟨dst,o,ty,pos,au,none⟩ env J d J)(k:dt P N ops K l ks (env.put dst d) J):dt P N ops K (⟨dst,o,ty,pos,au,none⟩::l) (.p::ks) env J:=.p hd trivial h k
theorem dt.R{P:Program}{N:Nat}{ops:Array Oper}{K:Env→aa→Prop}{dst:Option Tmp}{o:Op}{ty:TypeId}{pos:String}{au:Array Edge}{l:List Oper}{ks:List Kind}{env:Env}{J:aa}{d:D}(hd:eQ N dst=true)(h:aq P ⟨dst,o,ty,pos,au,none⟩ env J d J)(k:dt P N ops K l ks (env.put dst d) J):dt P N ops K (⟨dst,o,ty,pos,au,none⟩::l) (.r::ks) env J:=.r hd trivial h k
theorem dt.W{P:Program}{N:Nat}{ops:Array Oper}{K:Env→aa→Prop}{dst:Option Tmp}{o:Op}{ty:TypeId}{pos:String}{au:Array Edge}{l:List Oper}{ks:List Kind}{env:Env}{J ai:aa}{d:D}(hd:eQ N dst=true)(h:aq P ⟨dst,o,ty,pos,au,none⟩ env J d ai)(k:dt P N ops K l ks (env.put dst d) ai):dt P N ops K (⟨dst,o,ty,pos,au,none⟩::l) (.w::ks) env J:=.w hd trivial h k
theorem Sub.aF{k:IntKind}{n m:Int}(h:n=m:=by first|rfl|(simp;done)|omega|(simp;omega)):Sub (.raw (.int k n)) (.raw (.int k m)):=.int h
theorem Sub.ape{n m:Bool}(h:n=m:=by first|rfl|(simp;done)|omega|(simp;omega)):Sub (.raw (.bool n)) (.raw (.bool m)):=.bool h
theorem Sub.arG{n m:List UInt8}(h:n=m:=by first|rfl|(simp;done)|omega|(simp;omega)):Sub (.str n) (.str m):=.str h
end Go.T
namespace Go.T
open Go
variable[bT]
section
variable{P:Program} {env:Env} {dst:Option Tmp} {ty:TypeId} {pos:String} {au:Array Edge} {g:Option (Nat×Bool)}
theorem CZ{tys:Array TypeId}{x y:Operand}{k:IntKind}{n m r:Int}(hx:env.op x=some (.raw (.int k n)))(hy:env.op y=some (.raw (.int k m)))(h:max n m=r)(J:aa):aq P ⟨dst,.call ⟨.builtin .max,#[x,y],tys⟩,ty,pos,au,g⟩ env J (.raw (.int k r)) J:=
 .val fun _ _ a w _ hv=>⟨.int k r,by
  have h1:=hv x (by simp[Op.operands,Call.operands]) _ hx;have h2:=hv y (by simp[Op.operands,Call.operands]) _ hy;simp only[V]at h1 h2;have:(if m>n then m else n)=r:=by rw[←h];omega
  simp[execOp,resolve,invoke,builtin,Builtin.max_,Builtin.max2,h1,h2,this],by simp[V]⟩
theorem AE{tys:Array TypeId}{x y:Operand}{k:IntKind}{n m r:Int}(hx:env.op x=some (.raw (.int k n)))(hy:env.op y=some (.raw (.int k m)))(h:min n m=r)(J:aa):aq P ⟨dst,.call ⟨.builtin .min,#[x,y],tys⟩,ty,pos,au,g⟩ env J (.raw (.int k r)) J:=
 .val fun _ _ a w _ hv=>⟨.int k r,by
  have h1:=hv x (by simp[Op.operands,Call.operands]) _ hx;have h2:=hv y (by simp[Op.operands,Call.operands]) _ hy;simp only[V]at h1 h2;have:(if m<n then m else n)=r:=by rw[←h];omega
  simp[execOp,resolve,invoke,builtin,Builtin.min_,Builtin.min2,h1,h2,this],by simp[V]⟩
@[reducible] def mW(s:ae):List (List D):=s.map fun c=>[.raw (.int .u8 c.toNat)]
theorem Ng{w:World}{O:Nat→Prop}{b:Nat}{c:Array Value}{T:TypeId}{fr:Nat×Nat}(hb:w.heap[b]?=some (.cells c T fr)):∀(s:ae)(off:Nat),(∀j x,s[j]?=some x→c.toList[off+j]?=some (.int .u8 x.toNat))→Vr w O b off 1 (mW s)
 |[],off,_=>by simp[mW,Vr]
 |x::s,off,h=>by
  simp only[mW,List.map_cons,Vr];refine⟨⟨rfl,?_⟩,Ng hb s (off+1) (fun j y hj=>?_)⟩
  ·simp only[Vc];have h0:=h 0 x rfl;refine⟨⟨.int .u8 x.toNat,⟨?_,rfl⟩,by simp[V]⟩,trivial⟩;simp only[World.cell?,hb];simpa using h0
  ·have:=h (j+1) y (by simpa using hj);rw[show off+1+j=off+(j+1) by omega];exact this
theorem ajo(e:TypeId)(c:Array Value)(n cap:Nat)(w:World):(do let a←newRow e c;markStringish a;pure (Value.slice (some a) n cap):Sem Value).run P w=.ok (.slice (some ⟨w.heap.size,0,none⟩) n cap) {w with heap:=w.heap.push (.cells c e (c.size,c.size+1))}:=by
 have h1:(newRow e c).run P w=.ok ⟨w.heap.size,0,none⟩ {w with heap:=w.heap.push (.cells c e (0,0))}:=by
  simp[newRow,run_newObj_alloc]
 have h2:(markStringish ⟨w.heap.size,0,none⟩).run P {w with heap:=w.heap.push (.cells c e (0,0))}=.ok () {w with heap:=w.heap.push (.cells c e (c.size,c.size+1))}:=by
  have hs:World.shape? {w with heap:=w.heap.push (.cells c e (0,0))} w.heap.size=some (e,c.size):=by simp[World.shape?]
  have hf:World.freeze {w with heap:=w.heap.push (.cells c e (0,0))} ⟨w.heap.size,c.size,none⟩ 1={w with heap:=w.heap.push (.cells c e (c.size,c.size+1))}:=by
   unfold World.freeze;rw[if_neg zO]
   congr 1
   apply Array.ext
   ·simp
   ·intro i h1 h2;simp only[Array.getElem_modify,Array.getElem_push];by_cases hi:w.heap.size=i
    ·subst hi;simp
    ·have:i<w.heap.size:=by simp at h2;omega
     simp[hi,this]
  unfold markStringish;rw[Sem.run_bind];have:(shape w.heap.size).run P {w with heap:=w.heap.push (.cells c e (0,0))}=.ok (some (e,c.size)) {w with heap:=w.heap.push (.cells c e (0,0))}:=by
   show Result.ok (World.shape? _ _) _=_;rw[hs]
  rw[this];show Result.ok () (World.freeze _ _ _)=_;rw[hf]
 rw[Sem.run_bind,h1];simp only[Result.andThen_ok];rw[Sem.run_bind,h2];rfl
theorem T_{st t e:TypeId}{x:Operand}{s:ae}{u:TypeDesc}(hs:P.underlying st=some .string)(ht:P.underlying t=some (.slice e))(he:P.underlying e=some (.int .u8))(hx:env.op x=some (.str s))(J:aa):
  aq P ⟨dst,.convert st t x,ty,pos,au,g⟩ env J (.snap 1 false (mW s)) J:=
 .step fun O ρ a w af hv=>by
  have h1:=hv x (by simp[Op.operands]) _ hx;simp only[V]at h1;have aY:(⟨s.toArray⟩:ByteArray).size=s.length:=by simp[ByteArray.size]
  obtain⟨cap,ct,gw⟩:∃cap,s.length≤cap∧(Conv.stringToBytes e ⟨s.toArray⟩).run P w=.ok (.slice (some ⟨w.heap.size,0,none⟩) s.length cap) {w with drawn:=w.drawn+1,heap:=w.heap.push (.cells ((s.toArray.map fun b=>.int .u8 b.toNat)++Array.replicate (cap-s.length) (.int .u8 0)) e (cap,cap+1))}:=by
   refine⟨s.length+(w.tape w.drawn (.appendCap s.length 0 e))%(2^63-s.length),by omega,?_⟩;have hq:Question.forced (.appendCap s.length 0 e)=false:=rfl;have hc:Question.cut (.appendCap s.length 0 e) (w.tape w.drawn (.appendCap s.length 0 e))=s.length+(w.tape w.drawn (.appendCap s.length 0 e))%(2^63-s.length):=by simp[Question.cut]
   unfold Conv.stringToBytes;rw[aY,Sem.run_bind,run_choose_drew,hq];simp only[Bool.false_eq_true,if_false,Result.andThen_ok,hc];rw[ajo];have:s.length+(w.tape w.drawn (.appendCap s.length 0 e))%(2^63-s.length)-s.length=(w.tape w.drawn (.appendCap s.length 0 e))%(2^63-s.length):=by omega
   rw[this];have JI:((s.toArray.map fun b=>Value.int .u8 b.toNat)++Array.replicate ((w.tape w.drawn (.appendCap s.length 0 e))%(2^63-s.length)) (Value.int .u8 0)).size=s.length+(w.tape w.drawn (.appendCap s.length 0 e))%(2^63-s.length):=by simp
   rw[JI];rfl
  let w':World:={w with drawn:=w.drawn+1,heap:=w.heap.push (.cells ((s.toArray.map fun b=>.int .u8 b.toNat)++Array.replicate (cap-s.length) (.int .u8 0)) e (cap,cap+1))}
  have bm:Tr O w ρ J w' ρ J:=Tr.qQ ⟨by simp[w'],fun b hb=>by
   show(w.heap.push _)[b]?=_;rw[Array.getElem?_push,if_neg zO],rfl,rfl,.inl ⟨rfl,Nat.le_succ _⟩⟩ af
  have j0:V w' (Ot O ρ J) ρ (.snap 1 false (mW s)) (.slice (some ⟨w.heap.size,0,none⟩) s.length cap):=by
   simp only[V];refine⟨_,_,by simp[mW];rfl,⟨by simpa[mW]using ct,by simpa[mW]using h1.2⟩,by simp,fun _=>⟨w.heap.size,0,rfl,⟨by simp[w'],?_⟩,Ng (c:=(s.toArray.map fun b=>.int .u8 b.toNat)++Array.replicate (cap-s.length) (.int .u8 0)) (T:=e) (fr:=(cap,cap+1)) (by simp[w']) s 0 ?_⟩⟩
   ·rintro(hb|hb)
    ·have:=af.lt _ hb;omega
    ·have:=(af.block hb).1;omega
   ·intro j y hj;have bN:j<s.length:=(List.getElem?_eq_some_iff.1 hj).1;have hjx:s[j]=y:=(List.getElem?_eq_some_iff.1 hj).2;simp[List.getElem?_append_left,bN,hjx]
  refine⟨_,w',ρ,.inl ?_,bm,j0⟩;have Qf:(convert st t (.string ⟨s.toArray⟩)).run P w=.ok (.slice (some ⟨w.heap.size,0,none⟩) s.length cap) w':=by
   simp only[convert,Sem.run_bind,cg hs,cg ht,cg he,Result.andThen_ok,gw,w']
  simp[execOp,h1.1,Qf]
end
end Go.T
namespace Go.T
open Go
variable[bT]
theorem Sub.gs{id n m:Nat}(h:n=m):Sub (.gs id n) (.gs id m):=.of_eq (by rw[h])
theorem jj.arr{all J e:aa}{i sz:Nat}{rows UI:List (List D)}(h:J.get i=some (.arr sz rows))(he:rows=UI)(r:jj all J e):jj all J ((i,.arr sz UI)::e):=by
 subst he;exact .cons h rfl r
theorem jj.eq{all J e:aa}{i:Nat}{o o':Ob}(h:J.get i=some o)(he:o=o')(hp:o'.okB all.has=true)(r:jj all J e):jj all J ((i,o')::e):=by
 subst he;exact .cons h hp r
theorem V5(z:Value)(m:Nat):((Array.range m).map (z.cells[· %z.cells.size]!)).toList=(List.range m).map fun x=>(z.cells.toList[x%z.cells.toList.length]?).getD default:=by
 rw[Array.toList_map,Array.toList_range];refine List.map_congr_left fun x _=>?_;simp only[Array.length_toList,Array.getElem?_toList];exact getElem!_def ..
section
variable{P:Program} {env:Env} {dst:Option Tmp} {ty:TypeId} {pos:String} {au:Array Edge} {g:Option (Nat×Bool)}
theorem cm{t e:TypeId}{n sz:Nat}{z:Value}{xs:List (Nat×Operand)}{dV:List (Nat×D)}{cs:List D}{rows:List (List D)}(hu:P.underlying t=some (.slice e))(hs:∀w,(sizeOf e).run P w=.ok sz w)(hn:Nat.ble (n*sz) 16777216=true)(dz:Nat.ble n 16777216=true)
  (gb:Nat.beq (n*sz) 0=false)(hz:∀w,(zeroValue e).run P w=.ok z w)(hx:env.qU xs=some dV)
  (hf:oh (fun i=>some (i*sz,sz)) (((List.range (n*sz)).map fun x=>(z.cells.toList[x%z.cells.toList.length]?).getD default).map mK) dV=some cs)(hr:rows.flatten=cs)(hlen:rows.length=n)(gO:rows.all (fun r=>Nat.beq r.length sz)=true)(h1:oD cs=true)(hp:D.bk.dw cs=true)(J:aa):
  aq P ⟨dst,.buildSlice t n xs.toArray,ty,pos,au,g⟩ env J (.snap sz true rows) J:=
 aic hu hs (Nat.le_of_ble_eq_true hn) (Nat.le_of_ble_eq_true dz) (by intro h;rw[h]at gb;simp at gb) hz hx (by rw[V5];exact hf) hr hlen gO h1 hp J
end
end Go.T
namespace Go.T
open Go
theorem jj.eqA{all J e:aa}{i:Nat}{o o':Ob}(h:J.get i=some o)(hp:o'.okB all.has=true)(r:jj all J e)(he:o=o':=by first|rfl|(simp;done)):jj all J ((i,o')::e):=.eq h he hp r
end Go.T
