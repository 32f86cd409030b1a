/- Contracts of functions that the statement reaches, and the logic in which they are proved (no condition). -/
import Derived.Test.YtapflgppmigcdaaGreatDoorA02
import Derived.Tactics
import Derived.OwnWalk
set_option linter.all false
set_option maxRecDepth 20000
namespace Go.T
open Go
variable[bX]
def aq.step{P:Program}{o:Oper}{env:Env}{Z aj:ae}{d:D}
  (h:∀(O:Nat->Prop)(ρ:aA)(a:Act)(w:World),cX w O ρ Z->(∀x∈o.op.operands.toList,∀d',env.op x=some d'->V w (Ot O ρ Z) ρ d' (a.eval x))->
   ∃v w' av,((execOp a.eval o).run P w=.ok (.value v) w'\/((execOp a.eval o).run P w=.ok .skip w'/\v=undef))/\Tr O w ρ Z w' av aj/\V w' (Ot O av aj) av d v):aq P o env Z d aj:=by
 intro O ρ a w ai _ hv;obtain⟨v,w',av,h1,h2,h3⟩:=h O ρ a w ai hv;unfold Oper.wp;rcases h1 with h1|⟨h1,rfl⟩
 ·rw[h1];exact⟨av,v,rfl,h2,h3⟩
 ·rw[h1];exact⟨av,undef,rfl,h2,h3⟩
section
variable{P:Program} {env:Env} {dst:Option Tmp} {ty:TypeId} {pos:String} {ar:Array Edge} {g:Option (Nat×Bool)}
def lY:Value->D
 |.string b=>bif Nat.beq b.data.size 0 then .str []else .raw (.string b)
 |v=>.raw v
def apQ{w:World}{O:Nat->Prop}{ρ:aA}(v:Value):V w O ρ (lY v) v:=by
 cases v with
 |string b=>
  simp only[lY];cases hb:Nat.beq b.data.size 0 with
  |false=>simp[V]
  |true=>
   have:b.data=#[]:=by
    have:=pT hb;exact Array.size_eq_zero_iff.1 this
   simp only[iX,V];refine⟨?_,by simp⟩;cases b;simp_all
 |_=>simp[lY,V]
theorem Vs.Cc{w:World}{O:Nat->Prop}{ρ:aA}:∀(vs:List Value),Vs w O ρ (vs.map lY) vs
 |[]=>by simp[Vs]
 |v::vs=>by simp only[cP,Vs];exact⟨v,vs,rfl,apQ v,Vs.Cc vs⟩
def jC{t:TypeId}{z:Value}{Z:ae}(id:Nat)(hz:∀w,(zeroValue t).run P w=.ok z w)(hid:Z.get id=none):aq P ⟨dst,.alloc t,ty,pos,ar,g⟩ env Z (.box id 0) ((id,.cells (z.cells.toList.map lY))::Z):=
 .step fun O ρ a w ai _=>by
  refine⟨.pointer (some ⟨w.heap.size,0,none⟩),{w with heap:=w.heap.push (.cells z.cells t (0,0))},T.cn ρ id ⟨w.heap.size,0,0⟩,.inl ?_,?_,?_⟩
  ·simp[execOp,Instr.alloc,hz,newVar,newRow]
  ·refine Tr.born ai hid _ rfl (fun _ _ h _=>h) (fun _ h=>h) ?_;intro _;exact⟨z.cells,t,by simp,Vs.Cc _⟩
  ·simp only[V];exact⟨_,kn ..,rfl⟩
def I8{t:TypeId}{x:Operand}{cs:List D}{Z:ae}(id:Nat)(hx:env.op x=some (.agg cs))(hid:Z.get id=none):aq P ⟨dst,.box t x,ty,pos,ar,g⟩ env Z (.box id 0) ((id,.cells cs)::Z):=
 .step fun O ρ a w ai hv=>by
  have h1:=hv x (by simp[Op.operands]) _ hx;simp only[V]at h1;obtain⟨vs,e,h2⟩:=h1;refine⟨.pointer (some ⟨w.heap.size,0,none⟩),{w with heap:=w.heap.push (.cells vs t (0,0))},T.cn ρ id ⟨w.heap.size,0,0⟩,.inl ?_,?_,?_⟩
  ·simp[execOp,Instr.box,e,newVar,newRow,Value.cells]
  ·refine Tr.born ai hid _ rfl (fun _ _ h _=>h) (fun _ h=>h) ?_;intro hk;exact⟨vs,t,by simp,Vs.mono hk (xI _ (ai.fresh id hid)) _ _ h2⟩
  ·simp only[V];exact⟨_,kn ..,rfl⟩
def Po{t:TypeId}{x:Operand}{d:D}{Z:ae}(id:Nat)(hx:env.op x=some d)(hd:d.one=true)(hid:Z.get id=none):aq P ⟨dst,.box t x,ty,pos,ar,g⟩ env Z (.box id 0) ((id,.cells [d])::Z):=
 .step fun O ρ a w ai hv=>by
  have h1:=hv x (by simp[Op.operands]) _ hx;refine⟨.pointer (some ⟨w.heap.size,0,none⟩),{w with heap:=w.heap.push (.cells #[a.eval x] t (0,0))},T.cn ρ id ⟨w.heap.size,0,0⟩,.inl ?_,?_,?_⟩
  ·simp[execOp,Instr.box,newVar,newRow,cells_one (h1.one hd)]
  ·refine Tr.born ai hid _ rfl (fun _ _ h _=>h) (fun _ h=>h) ?_;intro hk;refine⟨#[a.eval x],t,by simp,?_⟩;simp only[Vs];exact⟨_,_,rfl,V.mono hk (xI _ (ai.fresh id hid)) _ _ h1,rfl⟩
  ·simp only[V];exact⟨_,kn ..,rfl⟩
def iN{t:TypeId}{x:Operand}{f n:Nat}{fs:Array Field}{id off:Nat}(ft:TypeId)(fo:Nat)(hu:P.underlying t=some (.struct fs))(hs:∀w,(sizeOf ft).run P w=.ok (n+1) w)(hf:(fs[f]?).map (fun x=>(x.type,x.offset))=some (ft,fo))(hx:env.op x=some (.box id off))(Z:ae):
  aq P ⟨dst,.fieldAddr t x f,ty,pos,ar,g⟩ env Z (.box id (off+fo)) Z:=
 .val fun _ _ a w _ hv=>by
  have h1:=hv x (by simp[Op.operands]) _ hx;simp only[V]at h1;obtain⟨l,h2,e⟩:=h1;obtain⟨fl,jd,yy⟩:=gx.1 hf;cases yy;refine⟨.pointer (some ⟨l.b,off+fl.offset,none⟩),?_,?_⟩
  ·simp[execOp,Instr.fieldAt,e,bW hu,jd,Instr.sureAddr,fieldPlace,hs,addr_add]
  ·simp only[V];exact⟨l,h2,rfl⟩
def Rt{w:World}{b off:Nat}{c:Array Value}{T:TypeId}{v:Value}(hb:w.heap[b]?=some (.cells c T (0,0)))(hc:c.toList[off]?=some v):w.cell? ⟨b,off,none⟩=some v:=by
 simpa[World.cell?,hb]using hc
def iY{t:TypeId}{x:Operand}{id off:Nat}{ds:List D}{d:D}{Z:ae}(ht:∀w,(isAgg t).run P w=.ok false w)(hx:env.op x=some (.box id off))(ho:Z.get id=some (.cells ds))(hd:ds[off]?=some d):aq P ⟨dst,.load t x,ty,pos,ar,g⟩ env Z d Z:=
 .val fun O ρ a w ai hv=>by
  have h1:=hv x (by simp[Op.operands]) _ hx;simp only[V]at h1;obtain⟨l,h2,e⟩:=h1;obtain⟨l',h3,_,vs,T,h4,h5⟩:=ai.own id _ ho rfl;rw[h2]at h3;cases h3;obtain⟨v,h6,h7⟩:=h5.get off d hd;exact⟨v,by simp[execOp,Instr.loadAt,e,Instr.sureAddr,loadVar,ht,Rt h4 h6],h7⟩
theorem Jo{w:World}{b:Nat}{c:Array Value}{T:TypeId}(hb:w.heap[b]?=some (.cells c T (0,0))):∀(n off i:Nat)(acc:Array Value),off+i+n<=c.size->
  (loadCellsFrom ⟨b,off,none⟩ i n acc).run P w=.ok (acc++((c.toList.drop (off+i)).take n).toArray) w
 |0,off,i,acc,_=>by simp[loadCellsFrom]
 |n+1,off,i,acc,h=>by
  have hl:off+i<c.toList.length:=by simp;omega
  have h1:=Rt (off:=off+i) hb (eu hl);simp only[loadCellsFrom,addr_add,Sem.run_bind,run_load,h1,Result.andThen_ok];rw[Jo hb n off (i+1) _ zO,ju hl];simp[l6]
theorem Vs.drop{w:World}{O:Nat->Prop}{ρ:aA}:∀(n:Nat){ds:List D}{vs:List Value},Vs w O ρ ds vs->Vs w O ρ (ds.drop n) (vs.drop n)
 |0,ds,vs,h=>by simpa using h
 |n+1,[],vs,h=>by simp only[Vs]at h;subst h;simp[Vs]
 |n+1,d::ds,vs,h=>by
  simp only[Vs]at h;obtain⟨u,us,rfl,h1,h2⟩:=h;simpa using Vs.drop n h2
theorem Vs.take{w:World}{O:Nat->Prop}{ρ:aA}:∀(n:Nat){ds:List D}{vs:List Value},Vs w O ρ ds vs->Vs w O ρ (ds.take n) (vs.take n)
 |0,ds,vs,h=>by simp[Vs]
 |n+1,[],vs,h=>by simp only[Vs]at h;subst h;simp[Vs]
 |n+1,d::ds,vs,h=>by
  simp only[Vs]at h;obtain⟨u,us,rfl,h1,h2⟩:=h;simp only[lW,Vs];exact⟨u,us.take n,rfl,h1,Vs.take n h2⟩
def ZJ{t:TypeId}{x:Operand}{id off n:Nat}{ds cs:List D}{Z:ae}(ht:∀w,(isAgg t).run P w=.ok true w)(hs:∀w,(sizeOf t).run P w=.ok n w)(hx:env.op x=some (.box id off))(ho:Z.get id=some (.cells ds))(hn:off+n<=ds.length)(hd:(ds.drop off).take n=cs):aq P ⟨dst,.load t x,ty,pos,ar,g⟩ env Z (.agg cs) Z:=
 .val fun O ρ a w ai hv=>by
  have h1:=hv x (by simp[Op.operands]) _ hx;simp only[V]at h1;obtain⟨l,h2,e⟩:=h1;obtain⟨l',h3,_,vs,T,h4,h5⟩:=ai.own id _ ho rfl;rw[h2]at h3;cases h3;have hl:=h5.length;have h6:=Jo (P:=P) h4 n off 0 #[] (by simp at hl;omega);refine⟨.agg ((vs.toList.drop off).take n).toArray,?_,?_⟩
  ·simp[execOp,Instr.loadAt,e,Instr.sureAddr,loadVar,ht,hs,loadCells,h6]
  ·simp only[V];refine⟨_,rfl,?_⟩;rw[<-hd];simpa using (h5.drop off).take n
def B8{t:TypeId}{x:Operand}{id n:Nat}{ds:List D}{Z:ae}(ht:∀w,(isAgg t).run P w=.ok true w)(hs:∀w,(sizeOf t).run P w=.ok n w)(hx:env.op x=some (.box id 0))(ho:Z.get id=some (.cells ds))(hn:ds.length=n):aq P ⟨dst,.load t x,ty,pos,ar,g⟩ env Z (.agg ds) Z:=
 ZJ ht hs hx ho zO (by subst hn;simp)
def sq{t:TypeId}{x y:Operand}{id off:Nat}{ds:List D}{d:D}{Z:ae}(hs:∀w,(sizeOf t).run P w=.ok 1 w)(hx:env.op x=some (.box id off))(hy:env.op y=some d)(h1:d.one=true)(ho:Z.get id=some (.cells ds))(hl:off<ds.length):
  aq P ⟨dst,.store t x y,ty,pos,ar,g⟩ env Z (.raw undef) (Z.set id (.cells (ds.set off d))):=
 .step fun O ρ a w ai hv=>by
  have iL:=hv x (by simp[Op.operands]) _ hx;have mR:=hv y (by simp[Op.operands]) _ hy;simp only[V]at iL;obtain⟨l,h2,e⟩:=iL;obtain⟨l',h3,_,vs,T,h4,h5⟩:=ai.own id _ ho rfl;rw[h2]at h3;cases h3;have hlen:=h5.length;have h6:=vP (P:=P) [a.eval y] w vs off 0 h4 (by simp at hlen|-;omega) (by simpa using mR.one h1);refine⟨undef,_,ρ,.inr ⟨?_,rfl⟩,Tr.cn (o':=.cells (ds.set off d)) ai ho rfl h2 (.cells (setMany vs (off+0) [a.eval y]) T (0,0)) ?_,by simp[V]⟩
  ·simp[execOp,Instr.storeAt,e,Instr.sureAddr,storeVar,cells_one (mR.one h1),hs,h6]
  ·intro hk;refine⟨setMany vs off [a.eval y],T,by simp[(bH.1 h4).1],?_⟩;have:=Vs.setMany (cs:=[d]) (us:=[a.eval y]) (by simp only[Vs];exact⟨_,_,rfl,V.mono hk (bN.refl _) _ _ mR,rfl⟩) off (Vs.mono hk (bN.refl _) _ _ h5);simpa[mu]using this
def ZP{t:TypeId}{x y:Operand}{id off n:Nat}{ds cs:List D}{Z:ae}(hs:∀w,(sizeOf t).run P w=.ok n w)(hx:env.op x=some (.box id off))(hy:env.op y=some (.agg cs))(hn:cs.length=n)(h1:m_ cs=true)(ho:Z.get id=some (.cells ds))(hl:off+n<=ds.length):
  aq P ⟨dst,.store t x y,ty,pos,ar,g⟩ env Z (.raw undef) (Z.set id (.cells (mu ds off cs))):=
 .step fun O ρ a w ai hv=>by
  have iL:=hv x (by simp[Op.operands]) _ hx;have mR:=hv y (by simp[Op.operands]) _ hy;simp only[V]at iL mR;obtain⟨us,e2,h7⟩:=mR;obtain⟨l,h2,e⟩:=iL;obtain⟨l',h3,_,vs,T,h4,h5⟩:=ai.own id _ ho rfl;rw[h2]at h3;cases h3;have hlen:=h5.length;have Dy:=h7.length;simp only[Ar]at hlen Dy;have h6:=vP (P:=P) us.toList w vs off 0 h4 zQ (h7.one h1);refine⟨undef,_,ρ,.inr ⟨?_,rfl⟩,Tr.cn (o':=.cells (mu ds off cs)) ai ho rfl h2 (.cells (setMany vs (off+0) us.toList) T (0,0)) ?_,by simp[V]⟩
  ·have:us.size=n:=by omega
   simp[execOp,Instr.storeAt,e,e2,Instr.sureAddr,storeVar,Value.cells,hs,this,h6]
  ·intro hk;refine⟨setMany vs off us.toList,T,by simp[(bH.1 h4).1],?_⟩;exact Vs.setMany (Vs.mono hk (bN.refl _) _ _ h7) off (Vs.mono hk (bN.refl _) _ _ h5)
theorem PX:∀(cs ds pre:List D),cs.length=ds.length->mu (pre++ds) pre.length cs=pre++cs
 |[],ds,pre,h=>by obtain rfl:=cc.1 h.symm;simp[mu]
 |c::cs,[],pre,h=>by simp at h
 |c::cs,d::ds,pre,h=>by
  have:=PX cs ds (pre++[c]) (by simpa using h);simp only[mu];rw[List.set_append_right _ _ (dP _)];simpa using this
def kP{t:TypeId}{x y:Operand}{id n:Nat}{ds cs:List D}{Z:ae}(hs:∀w,(sizeOf t).run P w=.ok n w)(hx:env.op x=some (.box id 0))(hy:env.op y=some (.agg cs))(hn:cs.length=n)(h1:m_ cs=true)(ho:Z.get id=some (.cells ds))(hl:ds.length=n):
  aq P ⟨dst,.store t x y,ty,pos,ar,g⟩ env Z (.raw undef) (Z.set id (.cells cs)):=by
 have h:=ZP (dst:=dst) (ty:=ty) (pos:=pos) (ar:=ar) (g:=g) hs hx hy hn h1 ho zO;have h2:=PX cs ds [] zO;simp only[q_,hG]at h2;rwa[h2]at h
end
end Go.T
namespace Go.T
open Go
variable[bX]
def D.il:D->List D
 |.agg cs=>cs
 |d=>[d]
def D.ml:D->Bool
 |.agg cs=>m_ cs
 |d=>d.one
theorem V.il{w:World}{O:Nat->Prop}{ρ:aA}{d:D}{v:Value}(hd:d.ml=true)(h:V w O ρ d v):Vs w O ρ d.il v.cells.toList:=by
 cases d with
 |agg cs=>
  simp only[V]at h;obtain⟨vs,rfl,h⟩:=h;simpa[D.il,Value.cells]using h
 |_=>
  have:=h.one (by simpa[D.ml]using hd);rw[cells_one this];simp only[D.il,Vs];exact⟨v,[],rfl,h,rfl⟩
def anS{d:D}(h:d.ml=true):m_ d.il=true:=by
 cases d<;>simp_all[D.ml,D.il,m_]
def nH(zq:Nat->Option (Nat×Nat))(ds:List D):List (Nat×D)->Option (List D)
 |[]=>some ds
 |(i,d)::rest=>match zq i with
  |none=>none
  |some (off,size)=>bif Nat.beq d.il.length size&&Nat.ble (off+size) ds.length&&d.ml then nH zq (mu ds off d.il) rest else none
theorem TU(off:Nat):∀(l:List Value)(c:Array Value)(j:Nat),(l.zipIdx j).foldl (fun cs (x:Value×Nat)=>cs.setIfInBounds (off+x.2) x.1) c=setMany c (off+j) l
 |[],c,j=>rfl
 |v::l,c,j=>by
  simp only[List.zipIdx_cons,oe,setMany];rw[TU off l _ (j+1)];rfl
theorem C6{w:World}{O:Nat->Prop}{ρ:aA}(zq:Nat->Option (Nat×Nat)):∀(dH:List (Nat×D))(zt:List (Nat×Value))(ds:List D)(c:Array Value)(cs:List D),dH.map (·.1)=zt.map (·.1)->Vs w O ρ (dH.map (·.2)) (zt.map (·.2))->Vs w O ρ ds c.toList->nH zq ds dH=some cs->
  ∃c',Instr.fill zq c zt=some c'/\Vs w O ρ cs c'.toList
 |[],zt,ds,c,cs,h1,_,h3,h4=>by
  obtain rfl:zt=[]:=by simpa using h1.symm
  simp only[nH,cH]at h4;subst h4;exact⟨c,rfl,h3⟩
 |(i,d)::dH,[],ds,c,cs,h1,_,_,_=>by simp at h1
 |(i,d)::dH,(j,v)::zt,ds,c,cs,h1,h2,h3,h4=>by
  simp only[cP,l_]at h1;obtain⟨rfl,h1⟩:=h1;simp only[cP,Vs]at h2;obtain⟨u,us,e,h5,h6⟩:=h2;simp only[l_]at e;obtain⟨rfl,rfl⟩:=e;simp only[nH]at h4;cases hp:zq i with
  |none=>simp[hp]at h4
  |some x=>
   obtain⟨off,size⟩:=x;simp only[hp]at h4;cases hb:(Nat.beq d.il.length size&&Nat.ble (off+size) ds.length&&d.ml)with
   |false=>simp[hb]at h4
   |true=>
    simp only[hb,iX]at h4;simp only[bd,BX,Nat.ble_eq]at hb;obtain⟨⟨qM,bM⟩,ai⟩:=hb;have h7:=h5.il ai;have bb:=h7.length;have Nn:=h3.length;simp only[Ar]at bb Nn;have h8:=Vs.setMany h7 off h3;obtain⟨c',h9,cB⟩:=C6 zq dH zt _ _ cs h1 h6 h8 h4;refine⟨c',?_,cB⟩;rw[Instr.fill,hp];have hc:¬((v.cells.size≠size||decide (off+v.cells.size>c.size))=true):=by simp;omega
    simp only[aF hc];have cD:Array.foldl (fun cs (x:Value×Nat)=>cs.setIfInBounds (off+x.2) x.1) c v.cells.zipIdx=setMany c off v.cells.toList:=by
     rw[<-Array.foldl_toList,Array.toList_zipIdx];exact TU off v.cells.toList c 0
    rw[cD];exact h9
def Env.oO(env:Env):List (Nat×Operand)->Option (List (Nat×D))
 |[]=>some []
 |(i,x)::r=>match env.op x,env.oO r with
  |some d,some ds=>some ((i,d)::ds)
  |_,_=>none
theorem EK{w:World}{O:Nat->Prop}{ρ:aA}{env:Env}{a:Act}:∀(xs:List (Nat×Operand))(dH:List (Nat×D)),env.oO xs=some dH->(∀x∈xs.map (·.2),∀d',env.op x=some d'->V w O ρ d' (a.eval x))->
  dH.map (·.1)=(xs.map fun x=>(x.1,a.eval x.2)).map (·.1)/\Vs w O ρ (dH.map (·.2)) ((xs.map fun x=>(x.1,a.eval x.2)).map (·.2))
 |[],dH,h,_=>by simp only[Env.oO,cH]at h;subst h;simp[Vs]
 |(i,x)::xs,dH,h,hv=>by
  simp only[Env.oO]at h;split at h
  ·rename_i d fg h1 h2;simp only[cH]at h;subst h;obtain⟨h3,h4⟩:=EK xs fg h2 (fun y hy=>hv y (cC _ hy));refine⟨by simp only[cP,h3],?_⟩;simp only[cP,Vs];exact⟨_,_,rfl,hv x zS d h1,h4⟩
  ·cases h
section
variable{P:Program} {env:Env} {dst:Option Tmp} {ty:TypeId} {pos:String} {ar:Array Edge} {g:Option (Nat×Bool)}
def rn{t:TypeId}{fs:Array Field}{z:Value}{pl:Array (Nat×Nat)}{xs:List (Nat×Operand)}{dH:List (Nat×D)}{cs:List D}(hu:P.underlying t=some (.struct fs))(hz:∀w,(zeroValue t).run P w=.ok z w)
  (hp:∀w,(fs.mapM (m:=Sem) fun f=>Prod.mk f.offset<$>sizeOf f.type).run P w=.ok pl w)(hx:env.oO xs=some dH)(hf:nH (pl[·]?) (z.cells.toList.map lY) dH=some cs)(Z:ae):
  aq P ⟨dst,.build t xs.toArray,ty,pos,ar,g⟩ env Z (.agg cs) Z:=
 .val fun O ρ a w _ hv=>by
  obtain⟨h1,h2⟩:=EK (a:=a) xs dH hx (fun x hx d' h=>hv x (by simpa[Op.operands]using hx) d' h);obtain⟨c',h3,h4⟩:=C6 (pl[·]?) dH _ _ z.cells cs h1 h2 (Vs.Cc _) hf;refine⟨.agg c',?_,?_⟩
  ·simp[execOp,Instr.build,hz,bW hu,hp,h3]
  ·simp only[V];exact⟨_,rfl,h4⟩
theorem Vc.sh{w:World}{O:Nat->Prop}{b:Nat}{c:Array Value}{T:TypeId}{fr:Nat×Nat}(hb:w.heap[b]?=some (.cells c T fr)):∀(ds:List D)(off:Nat),Vs w O dZ ds ((c.toList.drop off).take ds.length)->(∀v∈(c.toList.drop off).take ds.length,v.oneCell'=true)->Vc w O b off ds
 |[],off,_,_=>by simp[Vc]
 |d::ds,off,h,h1=>by
  simp only[Vs,bD]at h;obtain⟨u,us,e,h2,h3⟩:=h;have hl:off<c.toList.length:=by
   rcases eQ off c.toList.length with g|g
   ·exact g
   ·rw[iP g]at e;simp at e
  rw[bD,ju hl,lW]at h1;rw[ju hl,lW]at e;simp only[l_]at e;obtain⟨rfl,rfl⟩:=e;simp only[Vc];refine⟨⟨_,⟨?_,h1 _ c7⟩,h2⟩,Vc.sh hb ds (off+1) h3 (fun v hv=>h1 v (cC _ hv))⟩;simp[World.cell?,hb]
theorem Vc.JE{w:World}{O:Nat->Prop}{b:Nat}{c:Array Value}{T:TypeId}{fr:Nat×Nat}(hb:w.heap[b]?=some (.cells c T fr)):∀(ds:List D)(off:Nat),Vc w O b off ds->Vs w O dZ ds ((c.toList.drop off).take ds.length)/\(∀v∈(c.toList.drop off).take ds.length,v.oneCell'=true)/\(ds≠[]->off+ds.length<=c.size)
 |[],off,_=>by simp[Vs]
 |d::ds,off,h=>by
  simp only[Vc]at h;obtain⟨⟨u,⟨h1,h2⟩,h3⟩,h4⟩:=h;have h5:c[off]?=some u:=by simpa[World.cell?,hb]using h1
  obtain⟨hl,he⟩:=bH.1 h5;have yF:off<c.toList.length:=by simpa using hl
  obtain⟨h6,h7,h8⟩:=Vc.JE hb ds (off+1) h4;rw[bD,ju yF,lW];refine⟨?_,?_,fun _=>?_⟩
  ·simp only[Vs];exact⟨_,_,rfl,by simpa[he]using h3,h6⟩
  ·intro v hv;cases hv with
   |head=>simpa[he]using h2
   |tail _ hm=>exact h7 v hm
  ·cases ds with
   |nil=>simp;omega
   |cons d' ds=>have:=h8 zS;simp at this|-;omega
theorem Vr.sh{w:World}{O:Nat->Prop}{b sz:Nat}{c:Array Value}{T:TypeId}{fr:Nat×Nat}(hb:w.heap[b]?=some (.cells c T fr)):∀(rows:List (List D))(off:Nat),(∀r∈rows,r.length=sz)->Vs w O dZ rows.flatten ((c.toList.drop off).take rows.flatten.length)->(∀v∈(c.toList.drop off).take rows.flatten.length,v.oneCell'=true)->Vr w O b off sz rows
 |[],off,_,_,_=>by simp[Vr]
 |r::rs,off,hl,h,h1=>by
  have hr:r.length=sz:=hl r c7;simp only[fW,bl]at h h1;have h2:=h.take r.length;have h3:=h.drop r.length;simp only[LJ,List.drop_left,List.take_take]at h2 h3;rw[D3 zO]at h2;rw[List.drop_take,tD,show r.length+rs.flatten.length-r.length=rs.flatten.length by omega,hr]at h3;rw[List.take_add]at h1;simp only[cM]at h1;simp only[Vr];refine⟨⟨hr,Vc.sh hb r off h2 (fun v hv=>h1 v (.inl hv))⟩,Vr.sh hb rs (off+sz) (fun x hx=>hl x (cC _ hx)) h3 (fun v hv=>h1 v (.inr ?_))⟩;rw[tD,hr];exact hv
def ao_{t e:TypeId}{n sz:Nat}{z:Value}{xs:List (Nat×Operand)}{dH:List (Nat×D)}{cs:List D}{rows:List (List D)}(hu:P.underlying t=some (.slice e))(hs:∀w,(sizeOf e).run P w=.ok sz w)(hn:n*sz<=16777216)(cF:n<=16777216)
  (dQ:n*sz≠0)(hz:∀w,(zeroValue e).run P w=.ok z w)(hx:env.oO xs=some dH)
  (hf:nH (fun i=>some (i*sz,sz)) (((Array.range (n*sz)).map (z.cells[· %z.cells.size]!)).toList.map lY) dH=some cs)(hr:rows.flatten=cs)(hlen:rows.length=n)(fQ:rows.all (fun r=>Nat.beq r.length sz)=true)(h1:m_ cs=true)(hp:D.bw.dT cs=true)(Z:ae):
  aq P ⟨dst,.buildSlice t n xs.toArray,ty,pos,ar,g⟩ env Z (.snap sz true rows) Z:=
 .step fun O ρ a w ai hv=>by
  obtain⟨h2,h3⟩:=EK (a:=a) xs dH hx (fun x hx d' h=>hv x (by simpa[Op.operands]using hx) d' h);obtain⟨c',h4,h5⟩:=C6 (fun i=>some (i*sz,sz)) dH _ _ ((Array.range (n*sz)).map (z.cells[· %z.cells.size]!)) cs h2 h3 (Vs.Cc _) hf;have hk:gm w {w with heap:=w.heap.push (.cells c' e (0,0))}:=⟨by simp,fun b hb=>by rw[pS,aF zO],rfl,rfl,iE.eq rfl rfl⟩;refine⟨.slice (some ⟨w.heap.size,0,none⟩) n n,{w with heap:=w.heap.push (.cells c' e (0,0))},ρ,.inl ?_,Tr.pz hk ai,?_⟩
  ·have h6:¬n*sz>2^24:=by omega
   have h9:Instr.fill (fun i=>some (i*sz,sz)) ((Array.range (n*sz)).map fun x=>z.cells[x%z.cells.size]!) ((Array.map (fun x=>(x.1,a.eval x.2)) xs.toArray).toList)=some c':=by
    simpa using h4
   simp only[execOp,Instr.buildSlice,Sem.run_bind,bW hu,Result.andThen_ok,hs,aF h6,aF dQ,Sem.run_pure,hz,h9];simp[newRow]
  ·simp only[V];refine⟨some ⟨w.heap.size,0,none⟩,n,by rw[hlen],⟨by omega,?_⟩,by simp[hlen],fun aC=>⟨w.heap.size,0,rfl,⟨by simp,?_⟩,?_⟩⟩
   ·rw[hlen];unfold aD;omega
   ·rintro(hb|hb)
    ·have:=ai.lt _ hb;omega
    ·have:=(ai.block hb).1;omega
   ·have h8:Vs w (Ot O ρ Z) dZ cs c'.toList:=Vs.pure cs _ hp h5;have hl:c'.toList.length=cs.length:=h8.length;refine Vr.sh (c:=c') (T:=e) (fr:=(0,0)) zS rows 0 ?_ ?_ (fun v hv=>h8.one h1 v (B3 (tE hv)))
    ·intro r mP;have:=de.1 fQ r mP;simpa using this
    ·rw[hr,<-hl];simp only[uH,Gn];exact Vs.mono (hk.kept _) (bN.refl _) _ _ h8
def t_{t e:TypeId}{sz:Nat}(hu:P.underlying t=some (.slice e))(hs:∀w,(sizeOf e).run P w=.ok sz w)(Z:ae):aq P ⟨dst,.buildSlice t 0 #[],ty,pos,ar,g⟩ env Z (.snap sz true []) Z:=
 .step fun O ρ a w ai hv=>by
  have hk:gm w {w with heap:=w.heap.push (.cells #[] e (0,0))}:=⟨by simp,fun b hb=>by rw[pS,aF zO],rfl,rfl,iE.eq rfl rfl⟩;refine⟨.slice (some ⟨w.heap.size,0,none⟩) 0 0,{w with heap:=w.heap.push (.cells #[] e (0,0))},ρ,.inl ?_,Tr.pz hk ai,?_⟩
  ·have h0:Array.range 0=#[]:=by decide
   simp[execOp,Instr.buildSlice,bW hu,hs,Instr.fill,newRow,h0]
  ·simp only[V];exact⟨_,0,rfl,by simp[aD]⟩
end
end Go.T
namespace Go.T
open Go
variable[bX]
theorem Us(Ev:Nat)(hn:256<=Ev):∀(r c:Nat),c<=2*Ev->Builtin.growBy Ev r c<=2*Ev
 |0,c,h=>by simpa[Builtin.growBy]using h
 |r+1,c,h=>by
  simp only[Builtin.growBy];split
  ·exact h
  ·exact Us Ev hn r _ zO
def nextslicecap_le(need cap:Nat)(h:cap<need):Builtin.nextslicecap need cap<=2*need:=by
 unfold Builtin.nextslicecap;split
 ·omega
 ·split
  ·omega
  ·exact Us need zO 4 cap zO
theorem Vr.flat{w:World}{O:Nat->Prop}{b sz:Nat}:∀(rows:List (List D))(off:Nat),Vr w O b off sz rows->Vc w O b off rows.flatten/\rows.flatten.length=rows.length*sz
 |[],off,_=>by simp[Vc]
 |r::rs,off,h=>by
  simp only[Vr]at h;obtain⟨⟨h1,h2⟩,h3⟩:=h;obtain⟨h4,h5⟩:=Vr.flat rs (off+sz) h3;simp only[fW,bl,bD,h1,h5,dO];exact⟨Vc.app r rs.flatten off h2 (by rw[h1];exact h4),by omega⟩
where
 Vc.app {w:World} {O:Nat->Prop} {b:Nat}:∀(xs ys:List D)(off:Nat),Vc w O b off xs->Vc w O b (off+xs.length) ys->Vc w O b off (xs++ys)
  |[],ys,off,_,h=>by simpa using h
  |x::xs,ys,off,h,h'=>by
   simp only[Vc,jF]at h|-;exact⟨h.1,Vc.app xs ys (off+1) h.2 (by rw[show off+1+xs.length=off+(x::xs).length by simp;omega];exact h')⟩
def vO{P:Program}{w:World}{O:Nat->Prop}{ρ:aA}{sz:Nat}{fP:Bool}{rows:List (List D)}{v:Value}(h:V w O ρ (.snap sz fP rows) v):
  (∀w',(Builtin.lenOf v).run P w'=.ok rows.length w')/\∃us,(∀w',w'.heap=w.heap->(Builtin.firstCells sz rows.length v).run P w'=.ok us.toArray w')/\Vs w O dZ rows.flatten us/\(∀u∈us,u.oneCell'=true)/\us.length=rows.length*sz/\(∀r∈rows,r.length=sz):=by
 simp only[V]at h;obtain⟨a,cap,rfl,h1,h2,h3⟩:=h;refine⟨fun _=>rfl,?_⟩;by_cases aC:rows=[]
 ·subst aC;refine⟨[],?_,by simp[Vs],by simp,by simp,by simp⟩;cases a with
  |none=>simp[Builtin.firstCells]
  |some a=>simp[Builtin.firstCells,loadCells,loadCellsFrom]
 ·obtain⟨b,off,rfl,ho,h4⟩:=h3 aC;obtain⟨h5,h6⟩:=Vr.flat rows off h4;obtain⟨us,h7,h8,h9⟩:=run_loadCells (P:=P) rows.flatten off 0 #[] (by simpa using h5);refine⟨us,?_,h8,h9,by rw[h8.length,h6],?_⟩
  ·rw[h6]at h7;intro w' he;simpa[Builtin.firstCells,loadCells]using h7 w' he
  ·intro r hr;obtain⟨i,hi⟩:=mw hr;exact(Vr.get rows off h4 i r hi).1
theorem Cm:∀(us:List Value)(c:Array Value)(k:Nat),k+us.length<=c.size->(setMany c k us).toList=c.toList.take k++us++c.toList.drop (k+us.length)
 |[],c,k,h=>by simp[setMany]
 |u::us,c,k,h=>by
  simp only[bD]at h;simp only[setMany];rw[Cm us _ (k+1) zQ,CO];have hk:k<c.toList.length:=by simp;omega
  rw[List.take_set,List.drop_set];have h1:¬k+1+us.length<=k:=by omega
  rw[aV zO];rw[List.take_succ_eq_append_getElem hk];rw[List.set_append_right _ _ zQ];simp[D3 (by omega:k<=c.size),l6,BI 1]
theorem ae.set_set(i:Nat)(x y:Ob):∀Z:ae,(Z.set i x).set i y=Z.set i y
 |[]=>by simp[ae.set]
 |(t,d)::r=>by
  simp only[ae.set];cases h:Nat.beq t i with
  |true=>simp[ae.set,h]
  |false=>simp[ae.set,h,ae.set_set i x y r]
section
variable{P:Program} {env:Env} {dst:Option Tmp} {ty:TypeId} {pos:String} {ar:Array Edge} {g:Option (Nat×Bool)}
def run_append_room{st xt e T:TypeId}{xd:TypeDesc}{sz n cap:Nat}{a:Addr}{x:Value}{us:List Value}{m:Nat}{w w':World}(hu:P.underlying st=some (.slice e))(hs:∀w,(sizeOf e).run P w=.ok sz w)(ia:P.underlying xt=some xd)(Nu:∀k,xd≠.int k)
  (hm:(Builtin.lenOf x).run P w=.ok m w)(hf:(Builtin.firstCells sz m x).run P w=.ok us.toArray w)(hc:n+m<=cap)(aU:(storeCells (a.add (n*sz)) us).run P w=.ok () w'):
  (Builtin.append_ #[st,xt] T #[.slice (some a) n cap,x]).run P w=.ok (.slice (some a) (n+m) cap) w':=by
 simp[Builtin.append_,bW hu,hs,bW ia,hm,hc,hf,aU]
def run_append_grow{st xt e T:TypeId}{xd:TypeDesc}{ti:TypeInfo}{z:Value}{sz n cap:Nat}{base:Option Addr}{x:Value}{us vs:List Value}{m:Nat}{w:World}(hu:P.underlying st=some (.slice e))(hs:∀w,(sizeOf e).run P w=.ok sz w)(ia:P.underlying xt=some xd)(Nu:∀k,xd≠.int k)
  (jq:∀w,(typeInfo e).run P w=.ok ti w)(hz:∀w,(zeroValue e).run P w=.ok z w)
  (hm:∀w',w'.heap=w.heap->(Builtin.lenOf x).run P w'=.ok m w')(hf:∀w',w'.heap=w.heap->(Builtin.firstCells sz m x).run P w'=.ok us.toArray w')(Hv:∀w',w'.heap=w.heap->(Builtin.firstCells sz n (.slice base n cap)).run P w'=.ok vs.toArray w')
  (hc:¬n+m<=cap)(hb:(n+m)*ti.bytes<=140737488355328)(gV:ti.bytes≠0):
  ∃nc,n+m<=nc/\(Builtin.append_ #[st,xt] T #[.slice base n cap,x]).run P w=.ok (.slice (some ⟨w.heap.size,0,none⟩) (n+m) nc) {w with drawn:=w.drawn+1,heap:=w.heap.push (.cells (vs.toArray++us.toArray++Builtin.zeroCells z.cells (nc-(n+m))) e (0,0))}:=by
 have h1:=nextslicecap_le (n+m) cap zO;have h2:¬Builtin.nextslicecap (n+m) cap*ti.bytes>281474976710656:=by
  have:=dd ti.bytes h1;rw[iv]at this;omega
 refine⟨(n+m)+(w.tape w.drawn (.appendCap (n+m) cap e))%(2^63-(n+m)),by omega,?_⟩;have HD:=hm w rfl;have Hs:=hf w.drew rfl;have ajd:=Hv w.drew rfl;simp[Builtin.append_,bW hu,hs,bW ia,HD,hc,jq,gV,h2,Question.forced,Question.cut,ajd,Hs,hz,newRow];simp only[World.alloc,World.drew];have h9:vs.toArray++(us.toArray++Builtin.zeroCells z.cells (w.tape w.drawn (Question.appendCap (n+m) cap e)%(9223372036854775808-(n+m))))=(vs++us).toArray++Builtin.zeroCells z.cells (w.tape w.drawn (Question.appendCap (n+m) cap e)%(9223372036854775808-(n+m))):=by
  apply I2;simp
 rw[h9]
def FC(z:Array Value)(n:Nat):(Builtin.zeroCells z n).size=n*z.size:=by simp[Builtin.zeroCells]
def ig.grown{w w':World}{O:Nat->Prop}{ρ:aA}{b nc sz:Nat}{T:TypeId}{ds:List (List D)}{vs:List Value}{zs:Array Value}(hb:w'.heap[b]?=some (.cells (vs.toArray++zs) T (0,0)))(hlen:vs.length=ds.length*sz)(p7:zs.size=(nc-ds.length)*sz)(wX:ds.length<=nc)(MB:ds.length<=aD)
  (ajC:∀r∈ds,r.length=sz)(hv:Vs w O dZ ds.flatten vs)(h1:∀v∈vs,v.oneCell'=true){O':Nat->Prop}(hk:Kept w O w' O'):ig w' O' ρ ⟨b,0,nc⟩ (.arr sz ds):=by
 refine⟨_,T,hb,?_,⟨wX,MB⟩,?_⟩
 ·simp only[FL,Bz,hlen,p7,mD];rw[<-dO,Nat.add_sub_cancel' wX];exact dP _
 ·have jd:ds.flatten.length=vs.length:=hv.length.symm;have rT:(((vs.toArray++zs).toList).drop 0).take ds.flatten.length=vs:=by
   simp[jd]
  refine Vr.sh hb ds 0 ajC ?_ ?_
  ·rw[rT];exact Vs.mono hk (bN.refl _) _ _ hv
  ·rw[rT];exact h1
theorem Tr.drawn{O:Nat->Prop}{w:World}{ρ:aA}{Z:ae}(ai:cX w O ρ Z)(n:Nat)(hn:w.drawn<=n):Tr O w ρ Z {w with drawn:=n} ρ Z:=
 Tr.pz ⟨dP _,fun _ _=>rfl,rfl,rfl,.inl ⟨rfl,hn⟩⟩ ai
def rG{Z:ae}{id:Nat}:∀i x,(Z.set id .dead).get i=some x->x.live=true->Z.get i=some x:=by
 intro i x h1 h2;rw[ae.ej]at h1;by_cases e:id=i
 ·simp only[aV e,cH]at h1;subst h1;simp[Ob.live]at h2
 ·rw[aF e]at h1;exact h1
def CQ{Z:ae}{id:Nat}:∀i,(Z.set id .dead).get i=none->Z.get i=none:=by
 intro i h1;rw[ae.ej]at h1;by_cases e:id=i
 ·simp[e]at h1
 ·rw[aF e]at h1;exact h1
def Tr.Ji{O:Nat->Prop}{w:World}{ρ:aA}{Z:ae}{id bh:Nat}{sz:Nat}(ai:cX w O ρ Z):Tr O w ρ Z w ρ ((bh,.arr sz [])::Z.set id .dead):=by
 have look:∀i x,ae.get ((bh,Ob.arr sz [])::Z.set id .dead) i=some x->x.live=true->Z.get i=some x:=by
  intro i x h1 h2;rw[ae.bm]at h1;by_cases e:bh=i
  ·simp only[aV e,cH]at h1;subst h1;simp[Ob.live]at h2
  ·rw[aF e]at h1;exact rG i x h1 h2
 have mL:∀b,cj ρ ((bh,.arr sz [])::Z.set id .dead) b->cj ρ Z b:=by
  rintro b ⟨i,x,l,h1,h2,h3⟩;exact⟨i,x,l,look i x h1 h2,h2,h3⟩
 have hk:Kept w (Ot O ρ Z) w (Ot O ρ ((bh,.arr sz [])::Z.set id .dead)):=Kept.fp fun b=>Or.imp _root_.id (mL b);refine⟨bN.refl _,dP _,fun _ _ _=>rfl,fun b hb=>.inl (mL b hb),⟨ai.lt,?_,?_,?_⟩,rfl,rfl,iE.eq rfl rfl⟩
 ·intro i hi;rw[ae.bm]at hi;by_cases e:bh=i
  ·simp[e]at hi
  ·rw[aF e]at hi;exact ai.fresh i (CQ i hi)
 ·intro i x h1 h2;obtain⟨l,h3,h4,h5⟩:=ai.own i x (look i x h1 h2) h2;exact⟨l,h3,h4,h5.mono hk (bN.refl _) rfl⟩
 ·intro i j x x' l1 l2 h1 h2 h3 h4;exact ai.inj i j x x' l1 l2 (look i x h1 h3) (look j x' h2 h4) h3 h4
def ee{st xt e e':TypeId}{ti:TypeInfo}{z:Value}{sz n id bt:Nat}{x y:Operand}{fP:Bool}{rows new:List (List D)}{Z:ae}(bh:Nat)(hu:P.underlying st=some (.slice e))(ia:P.underlying xt=some (.slice e'))(hs:∀w,(sizeOf e).run P w=.ok sz w)
  (jq:∀w,(typeInfo e).run P w=.ok ti w)(hz:∀w,(zeroValue e).run P w=.ok z w)(p7:z.cells.size=sz)(kA:ti.bytes=bt)(uL:Nat.beq bt 0=false)(hx:env.op x=some (.gs id n))(ho:Z.get id=some (.arr sz rows))(hn:rows.length=n)(hy:env.op y=some (.snap sz fP new))(hid:Z.get bh=none)
  (nK:(n+new.length)*bt<=140737488355328):
  aq P ⟨dst,.call ⟨.builtin .append,#[x,y],#[st,xt]⟩,ty,pos,ar,g⟩ env Z (.gs bh (n+new.length)) ((bh,.arr sz (rows++new))::Z.set id .dead):=
 .step fun O ρ a w ai hv=>by
  have hb:(n+new.length)*ti.bytes<=140737488355328:=by rw[kA];exact nK
  have gV:ti.bytes≠0:=by
   rw[kA];intro h;subst h;simp at uL
  have bZ:=hv x (by simp[Op.operands,Call.operands]) _ hx;have dR:=hv y (by simp[Op.operands,Call.operands]) _ hy;have eY:∀v w',(Builtin.append_ #[st,xt] ty #[a.eval x,a.eval y]).run P w=.ok v w'->(execOp a.eval ⟨dst,.call ⟨.builtin .append,#[x,y],#[st,xt]⟩,ty,pos,ar,g⟩).run P w=.ok (.value v) w':=by
   intro v w' h;simp[execOp,resolve,invoke,builtin,h]
  obtain⟨hlen,us,kC,k8,oA,jr,fQ⟩:=vO (P:=P) dR;have uM:n+new.length<=aD:=by
   have:(n+new.length)*1<=(n+new.length)*ti.bytes:=jg _ zO;unfold aD;omega
  -- the grown slice in a new block
  have grow:∀(base:Option Addr)(cap:Nat)(vs:List Value),a.eval x=.slice base n cap->(∀w',w'.heap=w.heap->(Builtin.firstCells sz n (.slice base n cap)).run P w'=.ok vs.toArray w')->¬n+new.length<=cap->vs.length=n*sz->Vs w (Ot O ρ Z) dZ rows.flatten vs->(∀v∈vs,v.oneCell'=true)->(∀r∈rows,r.length=sz)->n+new.length≠0->
    ∃v w' av,((execOp a.eval ⟨dst,.call ⟨.builtin .append,#[x,y],#[st,xt]⟩,ty,pos,ar,g⟩).run P w=.ok (.value v) w'\/((execOp a.eval ⟨dst,.call ⟨.builtin .append,#[x,y],#[st,xt]⟩,ty,pos,ar,g⟩).run P w=.ok .skip w'/\v=undef))/\Tr O w ρ Z w' av ((bh,.arr sz (rows++new))::Z.set id .dead)/\V w' (Ot O av ((bh,.arr sz (rows++new))::Z.set id .dead)) av (.gs bh (n+new.length)) v:=by
   intro base cap vs e1 j7 hc nP yO iL A9 aC;obtain⟨nc,h1,h2⟩:=run_append_grow (T:=ty) (w:=w) hu hs ia zS jq hz (fun w' _=>hlen w') kC j7 hc hb gV;rw[<-e1]at h2;have DF:cX {w with drawn:=w.drawn+1} O ρ Z:=(Tr.drawn ai (w.drawn+1) (vY _)).ok;have aP:=Tr.drawn ai (w.drawn+1) (vY _);refine⟨_,_,T.cn ρ bh ⟨w.heap.size,0,nc⟩,.inl (eY _ _ h2),aP.trans (Tr.born (w:={w with drawn:=w.drawn+1}) DF hid _ rfl rG CQ ?_),?_⟩
   ·intro hk;have bM:(rows++new).length=n+new.length:=by rw[bl,hn]
    have uK:(vs++us).toArray=vs.toArray++us.toArray:=by simp
    refine ig.grown (w:={w with drawn:=w.drawn+1}) (T:=e) (vs:=vs++us) (zs:=Builtin.zeroCells z.cells (nc-(n+new.length))) (by rw[uK];simp) ?_ ?_ ?_ (by rw[bM];exact uM) ?_ ?_ ?_ hk
    ·rw[bl,bM,nP,jr,dO]
    ·rw[FC,p7,bM]
    ·rw[bM];exact h1
    ·intro r hr;rcases cM.1 hr with hr|hr
     ·exact A9 r hr
     ·exact fQ r hr
    ·rw[qX];exact Vs.mono aP.kept (bN.refl _) _ _ (Vs.append yO k8)
    ·intro v js;rcases cM.1 js with js|js
     ·exact iL v js
     ·exact oA v js
   ·simp only[V];exact .inr ⟨aC,_,kn ..,rfl⟩
  by_cases dQ:n=0
  ·subst dQ;obtain rfl:rows=[]:=cc.1 hn;have he:∃ad,a.eval x=.slice ad 0 0:=by
    simp only[V]at bZ;rcases bZ with⟨_,ad,e⟩|⟨h,_⟩
    ·exact⟨ad,e⟩
    ·exact absurd rfl h
   obtain⟨ad,e1⟩:=he;by_cases hm:new=[]
   ·subst hm;refine⟨.slice ad 0 0,w,ρ,.inl (eY _ _ ?_),by simpa using Tr.Ji (id:=id) (bh:=bh) (sz:=sz) ai,by simp[V]⟩;have h1:=kC w rfl;have yN:us=[]:=by
     have:=jr;simp at this;exact this
    subst yN;rw[e1];cases ad with
    |none=>simp[Builtin.append_,bW hu,hs,bW ia,hlen w]at h1|-;simp[h1]
    |some ad=>simp[Builtin.append_,bW hu,hs,bW ia,hlen w]at h1|-;simp[h1,storeCells]
   ·refine grow ad 0 [] e1 ?_ ?_ zS (by simp[Vs]) zS zS ?_
    ·intro w' _;cases ad with
     |none=>simp[Builtin.firstCells]
     |some ad=>simp[Builtin.firstCells,loadCells,loadCellsFrom]
    ·have:new.length≠0:=fun h=>hm (cc.1 h);omega
    ·have:new.length≠0:=fun h=>hm (cc.1 h);omega
  ·have eS:(Ob.arr sz rows).live=true:=by
    cases rows with
    |nil=>simp at hn;exact absurd hn.symm dQ
    |cons r rs=>rfl
   obtain⟨l,h3,hOl,c,T,h4,h5,h6,h7⟩:=ai.own id _ ho eS;have e1:a.eval x=.slice (some ⟨l.b,l.off,none⟩) n l.cap:=by
    simp only[V]at bZ;rcases bZ with⟨h,_⟩|⟨_,l',h8,e⟩
    ·exact absurd h dQ
    ·rw[h3]at h8;cases h8;exact e
   obtain⟨h8,h9⟩:=Vr.flat rows l.off h7;have A9:∀r∈rows,r.length=sz:=by
    intro r hr;obtain⟨i,hi⟩:=mw hr;exact(Vr.get rows l.off h7 i r hi).1
   rw[hn]at h9 h6;by_cases hc:n+new.length<=l.cap
   ·-- in place
    obtain⟨cB,cD,_⟩:=Vc.JE h4 rows.flatten l.off h8;have AU:l.off+n*sz+us.length<=c.size:=by
     rw[jr];have:(n+new.length)*sz<=l.cap*sz:=dd sz hc;rw[dO]at this;omega
    have aU:=vP (P:=P) (b:=l.b) (T:=T) us w c (l.off+n*sz) 0 h4 zO oA;have uU:=run_append_room (T:=ty) (a:=⟨l.b,l.off,none⟩) (w:=w) hu hs ia zS (hlen w) (kC w rfl) hc (by rw[addr_add];exact aU);have aP:=Tr.cn (o':=.arr sz (rows++new)) ai ho eS h3 (.cells (setMany c (l.off+n*sz+0) us) T (0,0)) ?_
    ·have Dz:(Ob.arr sz (rows++new)).live=true:=by
      cases rows with
      |nil=>simp at hn;exact absurd hn.symm dQ
      |cons r rs=>rfl
     have Du:(Z.set id (.arr sz (rows++new))).get bh=none:=by
      rw[ae.ej];by_cases e:id=bh
      ·subst e;rw[ho]at hid;cases hid
      ·rw[aF e];exact hid
     have j6:=Tr.rename (id:=id) (bh:=bh) aP.ok (by rw[ae.ej];simp) Dz Du h3;have rU:(Z.set id (.arr sz (rows++new))).set id .dead=Z.set id .dead:=by
      exact ae.set_set ..
     rw[rU]at j6;refine⟨_,_,Go.T.cn ρ bh l,.inl (eY _ _ (by rw[e1];exact uU)),aP.trans j6,?_⟩;simp only[V];exact .inr ⟨by omega,l,kn ..,rfl⟩
    ·intro hk;refine⟨_,T,by simp[(bH.1 h4).1];rfl,?_,?_,?_⟩
     ·rw[E_];exact h5
     ·rw[bl,hn];exact⟨hc,uM⟩
     ·have rT:((setMany c (l.off+n*sz) us).toList.drop l.off).take (rows++new).flatten.length=(c.toList.drop l.off).take rows.flatten.length++us:=by
       rw[Cm us c _ AU,qX,bl,h9,k8.length.symm];have cW:(c.toList.take (l.off+n*sz)++us++c.toList.drop (l.off+n*sz+us.length)).drop l.off=(c.toList.drop l.off).take (n*sz)++us++c.toList.drop (l.off+n*sz+us.length):=by
        rw[ng,wH zQ,List.drop_take,ng,show l.off+n*sz-l.off=n*sz by omega]
       rw[cW];have fy:((c.toList.drop l.off).take (n*sz)++us).length=n*sz+us.length:=by
        simp;omega
       rw[<-fy,LJ]
      refine Vr.sh (c:=setMany c (l.off+n*sz) us) (T:=T) (fr:=(0,0)) (by simp[(bH.1 h4).1]) (rows++new) l.off ?_ ?_ ?_
      ·intro r hr;rcases cM.1 hr with hr|hr
       ·exact A9 r hr
       ·exact fQ r hr
      ·rw[rT,qX];exact Vs.mono hk (bN.refl _) _ _ (Vs.append cB k8)
      ·rw[rT];intro v js;rcases cM.1 js with js|js
       ·exact cD v js
       ·exact oA v js
   ·obtain⟨vs,cB,cD,cW⟩:=run_loadCells (P:=P) rows.flatten l.off 0 #[] (by simpa using h8);refine grow (some ⟨l.b,l.off,none⟩) l.cap vs e1 ?_ hc (by rw[cD.length,h9]) cD cW A9 zO;intro w' he;rw[h9]at cB;simpa[Builtin.firstCells,loadCells]using cB w' he
end
end Go.T
namespace Go.T
open Go
variable[bX]
theorem Le.step{F:Fr}{env aY:Env}{Z aj:ae}
  (h:∀(O:Nat->Prop)(ρ:aA)(w:World)(f:Nat->Value),cX w O ρ Z->(∀t d,env.get t=some d->V w (Ot O ρ Z) ρ d (f t))->∃av,Tr O w ρ Z w av aj/\∀t d,aY.get t=some d->V w (Ot O av aj) av d (f t)):Le F env Z aY aj:=
 ⟨fun C a w ⟨ρ,hs⟩=>by
  obtain⟨av,h1,h2⟩:=h C.O ρ w (fun t=>a.tmps.getD t undef) hs.tr.ok hs.env;exact⟨av,hs.step h1 h2 rfl rfl⟩⟩
def Tr.gC{O:Nat->Prop}{w:World}{ρ:aA}{Z:ae}(id sz:Nat)(ai:cX w O ρ Z):Tr O w ρ Z w ρ ((id,.arr sz [])::Z):=by
 have look:∀i x,ae.get ((id,Ob.arr sz [])::Z) i=some x->x.live=true->Z.get i=some x:=by
  intro i x h1 h2;rw[ae.bm]at h1;by_cases e:id=i
  ·simp only[aV e,cH]at h1;subst h1;simp[Ob.live]at h2
  ·rw[aF e]at h1;exact h1
 have mL:∀b,cj ρ ((id,.arr sz [])::Z) b->cj ρ Z b:=by
  rintro b ⟨i,x,l,h1,h2,h3⟩;exact⟨i,x,l,look i x h1 h2,h2,h3⟩
 have hk:Kept w (Ot O ρ Z) w (Ot O ρ ((id,.arr sz [])::Z)):=Kept.fp fun b=>Or.imp _root_.id (mL b);refine⟨bN.refl _,dP _,fun _ _ _=>rfl,fun b hb=>.inl (mL b hb),⟨ai.lt,?_,?_,?_⟩,rfl,rfl,iE.eq rfl rfl⟩
 ·intro i hi;rw[ae.bm]at hi;by_cases e:id=i
  ·simp[e]at hi
  ·rw[aF e]at hi;exact ai.fresh i hi
 ·intro i x h1 h2;obtain⟨l,h3,h4,h5⟩:=ai.own i x (look i x h1 h2) h2;exact⟨l,h3,h4,h5.mono hk (bN.refl _) rfl⟩
 ·intro i j x x' l1 l2 h1 h2 h3 h4;exact ai.inj i j x x' l1 l2 (look i x h1 h3) (look j x' h2 h4) h3 h4
theorem Le.gC{F:Fr}{env:Env}{Z:ae}(id sz:Nat):Le F env Z env ((id,.arr sz [])::Z):=.step fun O ρ w f ai hv=>
 ⟨ρ,Tr.gC id sz ai,fun t d h=>(Tr.gC id sz ai).V (hv t d h)⟩
theorem aq.gC{P:Program}{o:Oper}{env:Env}{Z aj:ae}{d d0:D}{t:Nat}(id sz:Nat)(ht:env.get t=some d0)(hs:Sub d0 (.gs id 0))(h:aq P o ((t,.gs id 0)::env) ((id,.arr sz [])::Z) d aj):aq P o env Z d aj:=by
 intro O ρ a w ai bY hv;have aP:=Tr.gC id sz ai;refine Oper.wp_mono ?_ (h O ρ a w aP.ok (bY.mono aP.kept) ?_)
 ·rintro a' w' ⟨av,v,h1,h2,h3⟩;exact⟨av,v,h1,aP.trans h2,h3⟩
 ·intro x hx d' hd;cases x with
  |tmp s=>
   simp only[Env.op,Env.bm]at hd;by_cases e:t=s
   ·subst e;simp only[mX,cH]at hd;subst hd;exact aP.V (hs.out _ _ _ _ (hv (.tmp t) hx d0 ht))
   ·rw[aF e]at hd;exact aP.V (hv (.tmp s) hx d' hd)
  |const v=>exact O0 hd
  |global g=>simp only[Env.op,cH]at hd;subst hd;simp[V,Act.eval]
  |func f=>simp only[Env.op,cH]at hd;subst hd;exact⟨#[],#[],rfl,by simp[Vs],by simp[Vs]⟩
def Sub.oz(id:Nat):Sub (.raw (.slice none 0 0)) (.gs id 0):=⟨fun w O ρ v h=>by
 simp only[V]at h|-;exact .inl ⟨trivial,none,h⟩⟩
def Sub.yp(id sz:Nat):Sub (.snap sz true []) (.gs id 0):=⟨fun w O ρ v h=>by
 simp only[V]at h|-;obtain⟨a,cap,e,_,h2,_⟩:=h;have:=h2 trivial;exact .inl ⟨trivial,a,by rw[e,this];rfl⟩⟩
def Le.iz{F:Fr}{env:Env}{Z:ae}{sz n:Nat}{rows:List (List D)}(t id bh:Nat)(ht:env.get t=some (.gs id n))(ho:Z.get id=some (.arr sz rows))(hn:rows.length=n)(hid:Z.get bh=none):
  Le F env Z ((t,.gs bh n)::env) ((bh,.arr sz rows)::Z.set id .dead):=.step fun O ρ w f ai hv=>by
 have uX:=hv t _ ht;cases rows with
 |nil=>
  subst hn;have aP:=Tr.Ji (id:=id) (bh:=bh) (sz:=sz) ai;refine⟨ρ,aP,fun s d h=>?_⟩;rw[Env.bm]at h;by_cases e:t=s
  ·rw[aV e]at h;cases h;subst e;simp only[V]at uX|-;rcases uX with h|⟨h,_⟩
   ·exact .inl h
   ·exact absurd rfl h
  ·rw[aF e]at h;exact aP.V (hv s d h)
 |cons r rs=>
  obtain⟨l,h3,_⟩:=ai.own id _ ho rfl;have aP:=Tr.rename (id:=id) (bh:=bh) ai ho rfl hid h3;refine⟨_,aP,fun s d h=>?_⟩;rw[Env.bm]at h;by_cases e:t=s
  ·rw[aV e]at h;cases h;subst e;simp only[V]at uX|-;rcases uX with h|⟨h,l',h4,h5⟩
   ·exact .inl h
   ·rw[h3]at h4;cases h4;exact .inr ⟨h,l,kn ..,h5⟩
  ·rw[aF e]at h;exact aP.V (hv s d h)
def Tr.die{O:Nat->Prop}{w:World}{ρ:aA}{Z:ae}(id:Nat)(ai:cX w O ρ Z):Tr O w ρ Z w ρ (Z.set id .dead):=by
 have mL:∀b,cj ρ (Z.set id .dead) b->cj ρ Z b:=by
  rintro b ⟨i,x,l,h1,h2,h3⟩;exact⟨i,x,l,rG i x h1 h2,h2,h3⟩
 have hk:Kept w (Ot O ρ Z) w (Ot O ρ (Z.set id .dead)):=Kept.fp fun b=>Or.imp _root_.id (mL b);refine⟨bN.refl _,dP _,fun _ _ _=>rfl,fun b hb=>.inl (mL b hb),⟨ai.lt,fun i hi=>ai.fresh i (CQ i hi),?_,?_⟩,rfl,rfl,iE.eq rfl rfl⟩
 ·intro i x h1 h2;obtain⟨l,h3,h4,h5⟩:=ai.own i x (rG i x h1 h2) h2;exact⟨l,h3,h4,h5.mono hk (bN.refl _) rfl⟩
 ·intro i j x x' l1 l2 h1 h2 h3 h4;exact ai.inj i j x x' l1 l2 (rG i x h1 h3) (rG j x' h2 h4) h3 h4
def Df{O:Nat->Prop}{w:World}{ρ:aA}{Z:ae}{id sz n:Nat}{rows:List (List D)}{v:Value}(ai:cX w O ρ Z)(ho:Z.get id=some (.arr sz rows))(hn:rows.length=n)(hv:V w (Ot O ρ Z) ρ (.gs id n) v):
  V w (Ot O ρ (Z.set id .dead)) ρ (.snap sz false rows) v:=by
 simp only[V]at hv|-;cases rows with
 |nil=>
  subst hn;rcases hv with⟨_,a,e⟩|⟨h,_⟩
  ·exact⟨a,0,e,by simp[aD]⟩
  ·exact absurd rfl h
 |cons r rs=>
  rcases hv with⟨h,_⟩|⟨_,l,h1,e⟩
  ·rw[h]at hn;simp at hn
  ·obtain⟨l',h3,h4,c,T,h5,h6,h7,h8⟩:=ai.own id _ ho rfl;rw[h1]at h3;cases h3;refine⟨some ⟨l.b,l.off,none⟩,l.cap,by rw[hn];exact e,h7,by simp,fun _=>⟨l.b,l.off,rfl,⟨(bH.1 h5).1,?_⟩,?_⟩⟩
   ·rintro(hb|⟨i,x,l',g1,g2,g3,g4⟩)
    ·exact h4 hb
    ·have hx:=rG i x g1 g2;have:=ai.inj i id x _ l' l hx ho g2 rfl g3 h1 g4;subst this;rw[ae.ej]at g1;simp only[mX,cH]at g1;subst g1;simp[Ob.live]at g2
   ·have hk:=(Tr.die id ai).kept;exact ig.mono.vr hk rfl _ _ h8
def Le.freeze{F:Fr}{env:Env}{Z:ae}{sz n:Nat}{rows:List (List D)}(t id:Nat)(ht:env.get t=some (.gs id n))(ho:Z.get id=some (.arr sz rows))(hn:rows.length=n):
  Le F env Z ((t,.snap sz false rows)::env) (Z.set id .dead):=.step fun O ρ w f ai hv=>by
 have aP:=Tr.die id ai;refine⟨ρ,aP,fun s d h=>?_⟩;rw[Env.bm]at h;by_cases e:t=s
 ·rw[aV e]at h;cases h;subst e;exact Df ai ho hn (hv t _ ht)
 ·rw[aF e]at h;exact aP.V (hv s d h)
end Go.T
namespace Go.T
open Go
variable[bX]
section
variable{P:Program} {N:Nat} {ops:Array Oper} {K:Env->ae->Prop} {l:List Oper} {ks:List Kind} {env:Env} {Z:ae}
def e7{o:Oper}{g t:Nat}{b c:Bool}(hg:o.guard=some (g,b))(ht:(ops[g]?).bind (·.dst)=some t)(he:env.get t=some (.raw (.bool c)))(hc:c=b):On ops env o:=by
 subst hc;simp only[On,hg];exact⟨t,ht,he⟩
def gL{o:Oper}{g t:Nat}{b c:Bool}(hg:o.guard=some (g,b))(ht:(ops[g]?).bind (·.dst)=some t)(he:env.get t=some (.raw (.bool c)))(hc:c=!b):ui ops env o:=
 ⟨g,b,t,.bool c,hg,ht,he,by subst hc;cases b<;>simp⟩
def OU{o:Oper}{g t:Nat}{b:Bool}(hg:o.guard=some (g,b))(ht:(ops[g]?).bind (·.dst)=some t)(he:env.get t=some (.raw undef)):ui ops env o:=
 ⟨g,b,t,undef,hg,ht,he,by simp[undef]⟩
def cN.gT{o:Oper}{jt:Kind}{g t:Nat}{p:Bool}{d:D}(hd:eF N o.dst=true)(hk:jt=.p\/jt=.r)(hg:o.guard=some (g,true))(ht:(ops[g]?).bind (·.dst)=some t)(he:env.get t=some (.raw (.bool p)))
  (h:p=true->(jt=.p->∀Z,aq P o env Z d Z)/\(jt=.r->aq P o env Z d Z))(k:cN P N ops K l ks (env.put o.dst (bif p then d else .raw undef)) Z):cN P N ops K (o::l) (jt::ks) env Z:=by
 cases p with
 |false=>exact .off hd (gL hg ht he rfl) k
 |true=>
  rcases hk with rfl|rfl
  ·exact .p hd (e7 hg ht he rfl) ((h rfl).1 rfl) k
  ·exact .r hd (e7 hg ht he rfl) ((h rfl).2 rfl) k
def cN.gF{o:Oper}{jt:Kind}{g t:Nat}{p:Bool}{d:D}(hd:eF N o.dst=true)(hk:jt=.p\/jt=.r)(hg:o.guard=some (g,false))(ht:(ops[g]?).bind (·.dst)=some t)(he:env.get t=some (.raw (.bool p)))
  (h:p=false->(jt=.p->∀Z,aq P o env Z d Z)/\(jt=.r->aq P o env Z d Z))(k:cN P N ops K l ks (env.put o.dst (bif !p then d else .raw undef)) Z):cN P N ops K (o::l) (jt::ks) env Z:=by
 cases p with
 |true=>exact .off hd (gL hg ht he rfl) k
 |false=>
  rcases hk with rfl|rfl
  ·exact .p hd (e7 hg ht he rfl) ((h rfl).1 rfl) k
  ·exact .r hd (e7 hg ht he rfl) ((h rfl).2 rfl) k
def cN.nT{o:Oper}{jt:Kind}{g t:Nat}{c p:Bool}{d:D}(hd:eF N o.dst=true)(hk:jt=.p\/jt=.r)(hg:o.guard=some (g,true))(ht:(ops[g]?).bind (·.dst)=some t)(he:env.get t=some (bif c then .raw (.bool p)else .raw undef))
  (h:c=true->p=true->(jt=.p->∀Z,aq P o env Z d Z)/\(jt=.r->aq P o env Z d Z))(k:cN P N ops K l ks (env.put o.dst (bif c&&p then d else .raw undef)) Z):cN P N ops K (o::l) (jt::ks) env Z:=by
 cases c with
 |false=>exact .off hd (OU hg ht he) k
 |true=>exact cN.gT hd hk hg ht he (h rfl) k
def cN.nF{o:Oper}{jt:Kind}{g t:Nat}{c p:Bool}{d:D}(hd:eF N o.dst=true)(hk:jt=.p\/jt=.r)(hg:o.guard=some (g,false))(ht:(ops[g]?).bind (·.dst)=some t)(he:env.get t=some (bif c then .raw (.bool p)else .raw undef))
  (h:c=true->p=false->(jt=.p->∀Z,aq P o env Z d Z)/\(jt=.r->aq P o env Z d Z))(k:cN P N ops K l ks (env.put o.dst (bif c&&!p then d else .raw undef)) Z):cN P N ops K (o::l) (jt::ks) env Z:=by
 cases c with
 |false=>exact .off hd (OU hg ht he) k
 |true=>exact cN.gF hd hk hg ht he (h rfl) k
def bn{x:Operand}{c:Bool}{d u:D}(h:env.op x=some (bif c then d else u))(hc:c=true):env.op x=some d:=by rw[h,hc];rfl
def OZ{x:Operand}{c r:Bool}{d u:D}(h:env.op x=some (bif c&&r then d else u))(hc:c=true):env.op x=some (bif r then d else u):=by rw[h,hc];rfl
def cG{x:Operand}{xs:List Operand}{d:D}{ds:List D}(h:env.op x=some d)(r:env.kM xs=some ds):env.kM (x::xs)=some (d::ds):=by simp[Env.kM,h,r]
def nt{p:Bool}(h:p=false):(!p)=true:=by rw[h];rfl
def bT{c p:Bool}(h:c=true)(h':p=true):(c&&p)=true:=by rw[h,h'];rfl
def bF{c p:Bool}(h:c=true)(h':p=false):(c&&!p)=true:=by rw[h,h'];rfl
def pk{P:Program}{o:Oper}{env:Env}{d:D}{Z:ae}(h:∀Z,aq P o env Z d Z):(Kind.p=.p->∀Z,aq P o env Z d Z)/\(Kind.p=.r->aq P o env Z d Z):=⟨fun _=>h,(fun e=>by cases e)⟩
def rk{P:Program}{o:Oper}{env:Env}{d:D}{Z:ae}(h:aq P o env Z d Z):(Kind.r=.p->∀Z,aq P o env Z d Z)/\(Kind.r=.r->aq P o env Z d Z):=⟨(fun e=>by cases e),fun _=>h⟩
def iy{dst:Option Tmp}{ty:TypeId}{pos:String}{ar:Array Edge}{g:Option (Nat×Bool)}{c x:Operand}{b q:Bool}{u:D}(hc:env.op c=some (.raw (.bool b)))(hx:env.op x=some (bif b then .raw (.bool q)else u))(Z:ae):
  aq P ⟨dst,.pick c x (.const (.bool false)),ty,pos,ar,g⟩ env Z (.raw (.bool (b&&q))) Z:=by
 cases b with
 |true=>exact vI hc rfl hx Z
 |false=>exact zB hc rfl rfl Z
def oT{dst:Option Tmp}{ty:TypeId}{pos:String}{ar:Array Edge}{g:Option (Nat×Bool)}{c y:Operand}{b q:Bool}{u:D}(hc:env.op c=some (.raw (.bool b)))(hx:env.op y=some (bif !b then .raw (.bool q)else u))(Z:ae):
  aq P ⟨dst,.pick c (.const (.bool true)) y,ty,pos,ar,g⟩ env Z (.raw (.bool (b||q))) Z:=by
 cases b with
 |true=>exact vI hc rfl rfl Z
 |false=>exact zB hc rfl hx Z
end
def cN.mono{P:Program}{N:Nat}{ops:Array Oper}{K K':Env->ae->Prop}{l:List Oper}{ks:List Kind}{env:Env}{Z:ae}(h:cN P N ops K l ks env Z)(hk:∀e o,K e o->K' e o):cN P N ops K' l ks env Z:=by
 induction h with
 |nil h=>exact .nil (hk _ _ h)
 |p hd hg h _ ih=>exact .p hd hg h ih
 |r hd hg h _ ih=>exact .r hd hg h ih
 |w hd hg h _ ih=>exact .w hd hg h ih
 |off hd hg _ ih=>exact .off hd hg ih
def pK(P:Program)(F:Fr):List Code->(Exit->Env->ae->Prop)->Env->ae->Prop
 |[],Q,env,Z=>Q .normal env Z
 |c::cs,Q,env,Z=>WP P F c (kS (pK P F cs Q) Q) env Z
structure U(P:Program)(F:Fr)(cs:List Code)(Q:Exit->Env->ae->Prop)(env:Env)(Z:ae):Prop where
 out:pK P F cs Q env Z
def bq(id:Nat)(K:Env->ae->Prop)(Q:Exit->Env->ae->Prop):Exit->Env->ae->Prop
 |.normal,env,Z=>K env Z
 |.exit i,env,Z=>bif Nat.beq i id then K env Z else Q (.exit i) env Z
 |e,env,Z=>Q e env Z
section
variable{P:Program} {F:Fr} {Q Q':Exit->Env->ae->Prop} {K:Env->ae->Prop} {env:Env} {Z:ae} {cs:List Code}
def WP.mono{c:Code}(h:WP P F c Q env Z)(hq:∀e env Z,Q e env Z->Q' e env Z):WP P F c Q' env Z:=
 ⟨fun C a w hs=>wpIn_mono (h.out C a w hs) fun e _ _ ⟨aY,aj,h1,h2⟩=>⟨aY,aj,hq e aY aj h1,h2⟩⟩
def U.start{c:Code}(h:U P F [c] Q env Z):WP P F c Q env Z:=WP.mono h.out fun e _ _ h=>by cases e<;>exact h
theorem U.seq{a b:Code}(h:U P F (a::b::cs) Q env Z):U P F (.seq a b::cs) Q env Z:=⟨by
 refine WP.seq (WP.mono h.out ?_);intro e env Z h;cases e<;>exact h⟩
def U.e_{id:Nat}{l:List Oper}(ks:List Kind)(h:cN P F.N l.toArray (U P F cs Q) l ks env Z):U P F (.region id l.toArray false::cs) Q env Z:=
 ⟨WP.region (Q:=kS (pK P F cs Q) Q) (h.mono fun _ _ h=>h.out)⟩
def U.pE{id:Nat}{l:List Oper}(ks:List Kind)(hm:P.follows .mixedOrders=true)(ai:kN l.toArray ks=true)(h:cN P F.N l.toArray (U P F cs Q) l ks env Z):U P F (.region id l.toArray true::cs) Q env Z:=
 ⟨WP.ZZ (Q:=kS (pK P F cs Q) Q) hm ai (h.mono fun _ _ h=>h.out)⟩
theorem U.skip(h:U P F cs Q env Z):U P F (.skip::cs) Q env Z:=⟨WP.skip (Q:=kS (pK P F cs Q) Q) h.out⟩
theorem U.ret(h:Q .ret env Z):U P F (.ret::cs) Q env Z:=⟨WP.ret (Q:=kS (pK P F cs Q) Q) h⟩
theorem U.exit{id:Nat}(h:Q (.exit id) env Z):U P F (.exit id::cs) Q env Z:=⟨WP.exit (Q:=kS (pK P F cs Q) Q) h⟩
def U.nil(h:Q .normal env Z):U P F [] Q env Z:=⟨h⟩
theorem U.cond{c:Operand}{x y:Code}{b:Bool}(hc:env.op c=some (.raw (.bool b)))(ht:b=true->U P F (x::cs) Q env Z)(hf:b=false->U P F (y::cs) Q env Z):U P F (.cond c x y::cs) Q env Z:=
 ⟨WP.cond hc (fun e=>(ht e).out) (fun e=>(hf e).out)⟩
theorem U.ew{c:Operand}{x y:Code}{b:Bool}(hc:env.op c=some (.raw (.bool b)))(hb:b=true)(ht:U P F (x::cs) Q env Z):U P F (.cond c x y::cs) Q env Z:=⟨WP.ew hc hb ht.out⟩
theorem U.c6{c:Operand}{x y:Code}{b:Bool}(hc:env.op c=some (.raw (.bool b)))(hb:b=false)(ht:U P F (y::cs) Q env Z):U P F (.cond c x y::cs) Q env Z:=⟨WP.c6 hc hb ht.out⟩
theorem U.bc{c:Code}{aY:Env}{aj:ae}(h:Le F env Z aY aj)(hr:U P F (c::cs) Q aY aj):U P F (c::cs) Q env Z:=⟨WP.bc h hr.out⟩
theorem U.block{id:Nat}{c:Code}(h:U P F [c] (bq id (U P F cs Q) Q) env Z):U P F (.block id c::cs) Q env Z:=⟨by
 refine WP.block (WP.mono h.start ?_);intro e env Z h;cases e with
 |normal=>exact h.out
 |exit i=>
  simp only[bq,Kq]at h|-;cases hb:Nat.beq i id with
  |true=>simp only[hb,iX]at h|-;exact h.out
  |false=>simp only[hb,jh]at h|-;exact h
 |_=>exact h⟩
def bR{id:Nat}(h:K env Z):bq id K Q .normal env Z:=h
def du{id:Nat}(h:K env Z):bq id K Q (.exit id) env Z:=by simp only[bq,Nat.beq_refl,iX];exact h
def ac0{id i:Nat}(hi:Nat.beq i id=false)(h:Q (.exit i) env Z):bq id K Q (.exit i) env Z:=by simp only[bq,hi,jh];exact h
def jY{id:Nat}(h:Q .ret env Z):bq id K Q .ret env Z:=h
def cz(h:K env Z):kS K Q .normal env Z:=h
def dz{i:Nat}(h:Q (.exit i) env Z):kS K Q (.exit i) env Z:=h
def sE(h:Q .ret env Z):kS K Q .ret env Z:=h
theorem U.loop{ι:Type}{c:Code}(E:ι->Env)(B:ι->ae)(m:ι->Nat)(x0:ι)(h0:Le F env Z (E x0) (B x0))
  (round:∀x,U P F [c] (kS (fun e o=>∃x',m x'<m x/\Le F e o (E x') (B x')) Q) (E x) (B x)):U P F (.loop c::cs) Q env Z:=⟨by
 refine WP.loop E B m x0 h0 fun x=>WP.mono (round x).start ?_;intro e env Z h;cases e<;>exact h⟩
end
def U.nB{P:Program}{F:Fr}{Q:Exit->Env->ae->Prop}{env:Env}{Z:ae}{c:Code}{cs:List Code}{s:List UInt8}(t:Nat)(h:env.get t=some (.str s))(k:s.length<=aD->U P F (c::cs) Q env Z):U P F (c::cs) Q env Z:=⟨⟨fun C a w hs=>by
 have hb:s.length<=aD:=by
  obtain⟨ρ,hs⟩:=hs;have:=hs.env t _ h;simp only[V]at this;exact this.2
 exact(k hb).out.out C a w hs⟩⟩
def U.eh{P:Program}{F:Fr}{Q:Exit->Env->ae->Prop}{env:Env}{Z:ae}{c:Code}{cs:List Code}{sz:Nat}{f:Bool}{rows:List (List D)}(t:Nat)(h:env.get t=some (.snap sz f rows))(k:rows.length<=aD->U P F (c::cs) Q env Z):U P F (c::cs) Q env Z:=⟨⟨fun C a w hs=>by
 have hb:rows.length<=aD:=by
  obtain⟨ρ,hs⟩:=hs;have:=hs.env t _ h;simp only[V]at this;obtain⟨_,_,_,h1,_⟩:=this;exact h1.2
 exact(k hb).out.out C a w hs⟩⟩
def U.um{P:Program}{F:Fr}{Q:Exit->Env->ae->Prop}{env:Env}{Z:ae}{c:Code}{cs:List Code}{ds:List D}{sz:Nat}{f:Bool}{rows:List (List D)}(t i:Nat)(h:env.get t=some (.agg ds))(hi:ds[i]?=some (.snap sz f rows))(k:rows.length<=aD->U P F (c::cs) Q env Z):U P F (c::cs) Q env Z:=⟨⟨fun C s w hs=>by
 have hb:rows.length<=aD:=by
  obtain⟨ρ,hs⟩:=hs;have h1:=hs.env t _ h;simp only[V]at h1;obtain⟨vs,_,h1⟩:=h1;obtain⟨v,_,h2⟩:=h1.get i _ hi;simp only[V]at h2;obtain⟨_,_,_,h3,_⟩:=h2;exact h3.2
 exact(k hb).out.out C s w hs⟩⟩
theorem Sub.int{k:IntKind}{n m:Int}(h:n=m):Sub (.raw (.int k n)) (.raw (.int k m)):=.of_eq (by rw[h])
theorem Sub.bool{n m:Bool}(h:n=m):Sub (.raw (.bool n)) (.raw (.bool m)):=.of_eq (by rw[h])
theorem Sub.str{n m:List UInt8}(h:n=m):Sub (.str n) (.str m):=.of_eq (by rw[h])
theorem Sub.snap{sz:Nat}{f:Bool}{n m:List (List D)}(h:n=m):Sub (.snap sz f n) (.snap sz false m):=h▸.sF sz f n
def dt{env:Env}{Z:ae}{t:Nat}{d r:D}(h:env.get t=some d)(s:Sub d r):vM [t] r .ret env Z:=⟨[d],by simp[getAll,h],s⟩
def rq{env:Env}{Z:ae}{t u:Nat}{d e d' e':D}(h:env.get t=some d)(h':env.get u=some e)(s:Sub d d')(s':Sub e e'):vM [t,u] (.a_ [d',e']) .ret env Z:=⟨[d,e],by simp[getAll,h,h'],.JH s s'⟩
def PL{env:Env}{Z:ae}{t u v:Nat}{d e f d' e' f':D}(h:env.get t=some d)(h':env.get u=some e)(Dg:env.get v=some f)(s:Sub d d')(s':Sub e e')(PR:Sub f f'):vM [t,u,v] (.a_ [d',e',f']) .ret env Z:=⟨[d,e,f],by simp[getAll,h,h',Dg],.aaW s s' PR⟩
def aK{α β:Type}{l pre rest:List α}{x:α}{n:Int}(f:α->β)(h:l=pre++x::rest)(hn:n=(pre.length:Int)):(l.map f)[n.toNat]?=some (f x):=by
 subst h;subst hn;simp
def lf{l pre rest:List UInt8}{x:UInt8}{n:Int}(h:l=pre++x::rest)(hn:n=(pre.length:Int)):l[n.toNat]?=some x:=by
 subst h;subst hn;simp
def cT{n:Int}(h1:-9223372036854775808<=n)(h2:n<=9223372036854775807):IntKind.i64.wrap n=n:=IntWalk.i64_in n ⟨h1,h2⟩
def ao{n:Int}(h:-9223372036854775808<=n/\n<=9223372036854775807):IntKind.i64.wrap n=n:=IntWalk.i64_in n h
def FA{n:Int}(h1:0<=n)(h2:n<=18446744073709551615):IntKind.u64.wrap n=n:=IntWalk.u64_in n ⟨h1,h2⟩
def aby{n:Int}(h1:0<=n)(h2:n<=255):IntKind.u8.wrap n=n:=IntWalk.u8_in n ⟨h1,h2⟩
def Fc.mk'{P:Program}{f:FuncId}{fn:Func}{c:Code}{args:List D}{r:D}(ts:List Nat)(hf:P.funcs[f]?=some fn)(hb:fn.body=some c){N:Nat}(hN:fn.ntmps=N)(hn:Nat.ble args.length N=true)(hp:D.bw.dT args=true)(hr:r.bw=true)
  (rS:∀tmps w,(results fn tmps).run P w=.ok (E2 ts tmps) w)(h:U P ⟨N,[],false,none⟩ [c] (vM ts r) (mA args 0) []):Fc P f args r:=
 Fc.of_wp ts hf hb hN (nA hn) hp hr rS h.start
end Go.T
namespace Go.T
open Go
variable[bX]
def cN.mv{P:Program}{N:Nat}{ops:Array Oper}{K:Env->ae->Prop}{dst:Option Tmp}{ty:TypeId}{pos:String}{ar:Array Edge}{x:Operand}{l:List Oper}{ks:List Kind}{env:Env}{Z:ae}{d:D}(hd:eF N dst=true)(hx:env.op x=some d)
  (k:cN P N ops K l ks (env.put dst d) Z):cN P N ops K (⟨dst,.move x,ty,pos,ar,none⟩::l) (.p::ks) env Z:=.p hd trivial (fun _=>aX hx _) k
def cN.ag{P:Program}{N:Nat}{ops:Array Oper}{K:Env->ae->Prop}{dst:Option Tmp}{ty:TypeId}{pos:String}{ar:Array Edge}{x:Operand}{l:List Oper}{ks:List Kind}{env:Env}{Z:ae}{d:D}(hd:eF N dst=true)(hx:env.op x=some d)
  (k:cN P N ops K l ks (env.put dst d) Z):cN P N ops K (⟨dst,.assign x,ty,pos,ar,none⟩::l) (.p::ks) env Z:=.p hd trivial (fun _=>zu hx _) k
def bs:((∀a b:Bool,((a&&b)=true)=(a=true/\b=true))/\(∀a b:Bool,((a||b)=true)=(a=true\/b=true))/\(∀x y:Bool,((x&&y)=false)=(x=false\/y=false))/\(∀x y:Bool,((x||y)=false)=(x=false/\y=false))/\
  (∀(p:Prop)[Decidable p],(decide p=true)=p)/\(∀(p:Prop)[Decidable p],(decide p=false)=¬p)/\(∀b:Bool,((!b)=true)=(b=false))/\(∀b:Bool,((!b)=false)=(b=true))/\(∀a b:Int,(¬a<b)=(b<=a))/\(∀a b:Int,(¬a<=b)=(b<a))/\
  (∀p:Prop,(¬¬p)=p))/\(∀{α:Type}[BEq α][LawfulBEq α](a b:α),((a !=b)=true)=(a≠b))/\(∀{α:Type}(a b:α),(a≠b)=¬(a=b))/\(∀{α β:Type}(f:α->β)(l:List α),(l.map f).length=l.length):=
 ⟨⟨fun a b=>by simp,fun a b=>by simp,fun a b=>by cases a<;>cases b<;>simp,fun a b=>by simp,fun p _=>by simp,fun p _=>by simp,fun b=>by simp,fun b=>by simp,fun a b=>by simp,fun a b=>by simp,fun p=>by simp⟩,fun a b=>by simp,fun a b=>rfl,fun f l=>by simp⟩
theorem cN.P{P:Program}{N:Nat}{ops:Array Oper}{K:Env->ae->Prop}{dst:Option Tmp}{o:Op}{ty:TypeId}{pos:String}{ar:Array Edge}{l:List Oper}{ks:List Kind}{env:Env}{Z:ae}{d:D}(hd:eF N dst=true)(h:∀Z,aq P ⟨dst,o,ty,pos,ar,none⟩ env Z d Z)(k:cN P N ops K l ks (env.put dst d) Z):cN P N ops K (⟨dst,o,ty,pos,ar,none⟩::l) (.p::ks) env Z:=.p hd trivial h k
def cN.R{P:Program}{N:Nat}{ops:Array Oper}{K:Env->ae->Prop}{dst:Option Tmp}{o:Op}{ty:TypeId}{pos:String}{ar:Array Edge}{l:List Oper}{ks:List Kind}{env:Env}{Z:ae}{d:D}(hd:eF N dst=true)(h:aq P ⟨dst,o,ty,pos,ar,none⟩ env Z d Z)(k:cN P N ops K l ks (env.put dst d) Z):cN P N ops K (⟨dst,o,ty,pos,ar,none⟩::l) (.r::ks) env Z:=.r hd trivial h k
def cN.W{P:Program}{N:Nat}{ops:Array Oper}{K:Env->ae->Prop}{dst:Option Tmp}{o:Op}{ty:TypeId}{pos:String}{ar:Array Edge}{l:List Oper}{ks:List Kind}{env:Env}{Z aj:ae}{d:D}(hd:eF N dst=true)(h:aq P ⟨dst,o,ty,pos,ar,none⟩ env Z d aj)(k:cN P N ops K l ks (env.put dst d) aj):cN P N ops K (⟨dst,o,ty,pos,ar,none⟩::l) (.w::ks) env Z:=.w hd trivial h k
def Sub.axx{k:IntKind}{n m:Int}(h:n=m:=by first|rfl|(simp;done)|omega|(simp;omega)):Sub (.raw (.int k n)) (.raw (.int k m)):=.int h
def Sub.av7{n m:Bool}(h:n=m:=by first|rfl|(simp;done)|omega|(simp;omega)):Sub (.raw (.bool n)) (.raw (.bool m)):=.bool h
def Sub.ayP{n m:List UInt8}(h:n=m:=by first|rfl|(simp;done)|omega|(simp;omega)):Sub (.str n) (.str m):=.str h
end Go.T
namespace Go.T
open Go
variable[bX]
section
variable{P:Program} {env:Env} {dst:Option Tmp} {ty:TypeId} {pos:String} {ar:Array Edge} {g:Option (Nat×Bool)}
def EX{tys:Array TypeId}{x y:Operand}{k:IntKind}{n m r:Int}(hx:env.op x=some (.raw (.int k n)))(hy:env.op y=some (.raw (.int k m)))(h:max n m=r)(Z:ae):aq P ⟨dst,.call ⟨.builtin .max,#[x,y],tys⟩,ty,pos,ar,g⟩ env Z (.raw (.int k r)) Z:=
 .val fun _ _ a w _ hv=>⟨.int k r,by
  have h1:=hv x (by simp[Op.operands,Call.operands]) _ hx;have h2:=hv y (by simp[Op.operands,Call.operands]) _ hy;simp only[V]at h1 h2;have:(if m>n then m else n)=r:=by rw[<-h];omega
  simp[execOp,resolve,invoke,builtin,Builtin.max_,Builtin.max2,h1,h2,this],by simp[V]⟩
def B9{tys:Array TypeId}{x y:Operand}{k:IntKind}{n m r:Int}(hx:env.op x=some (.raw (.int k n)))(hy:env.op y=some (.raw (.int k m)))(h:min n m=r)(Z:ae):aq P ⟨dst,.call ⟨.builtin .min,#[x,y],tys⟩,ty,pos,ar,g⟩ env Z (.raw (.int k r)) Z:=
 .val fun _ _ a w _ hv=>⟨.int k r,by
  have h1:=hv x (by simp[Op.operands,Call.operands]) _ hx;have h2:=hv y (by simp[Op.operands,Call.operands]) _ hy;simp only[V]at h1 h2;have:(if m<n then m else n)=r:=by rw[<-h];omega
  simp[execOp,resolve,invoke,builtin,Builtin.min_,Builtin.min2,h1,h2,this],by simp[V]⟩
@[reducible] def nC(s:aa):List (List D):=s.map fun c=>[.raw (.int .u8 c.toNat)]
theorem Rk{w:World}{O:Nat->Prop}{b:Nat}{c:Array Value}{T:TypeId}{fr:Nat×Nat}(hb:w.heap[b]?=some (.cells c T fr)):∀(s:aa)(off:Nat),(∀j x,s[j]?=some x->c.toList[off+j]?=some (.int .u8 x.toNat))->Vr w O b off 1 (nC s)
 |[],off,_=>by simp[nC,Vr]
 |x::s,off,h=>by
  simp only[nC,cP,Vr];refine⟨⟨rfl,?_⟩,Rk hb s (off+1) (fun j y hj=>?_)⟩
  ·simp only[Vc];have h0:=h 0 x rfl;refine⟨⟨.int .u8 x.toNat,⟨?_,rfl⟩,by simp[V]⟩,trivial⟩;simp only[World.cell?,hb];simpa using h0
  ·have:=h (j+1) y (by simpa using hj);rw[show off+1+j=off+(j+1) by omega];exact this
def aqp(e:TypeId)(c:Array Value)(n cap:Nat)(w:World):(do let a<-newRow e c;markStringish a;pure (Value.slice (some a) n cap):Sem Value).run P w=.ok (.slice (some ⟨w.heap.size,0,none⟩) n cap) {w with heap:=w.heap.push (.cells c e (c.size,c.size+1))}:=by
 have h1:(newRow e c).run P w=.ok ⟨w.heap.size,0,none⟩ {w with heap:=w.heap.push (.cells c e (0,0))}:=by
  simp[newRow,run_newObj_alloc]
 have h2:(markStringish ⟨w.heap.size,0,none⟩).run P {w with heap:=w.heap.push (.cells c e (0,0))}=.ok () {w with heap:=w.heap.push (.cells c e (c.size,c.size+1))}:=by
  have hs:World.shape? {w with heap:=w.heap.push (.cells c e (0,0))} w.heap.size=some (e,c.size):=by simp[World.shape?]
  have hf:World.freeze {w with heap:=w.heap.push (.cells c e (0,0))} ⟨w.heap.size,c.size,none⟩ 1={w with heap:=w.heap.push (.cells c e (c.size,c.size+1))}:=by
   unfold World.freeze;rw[aF zO]
   congr 1
   apply Iq
   ·simp
   ·intro i h1 h2;simp only[G8,Array.getElem_push];by_cases hi:w.heap.size=i
    ·subst hi;simp
    ·have:i<w.heap.size:=by simp at h2;omega
     simp[hi,this]
  unfold markStringish;rw[Sem.run_bind];have:(shape w.heap.size).run P {w with heap:=w.heap.push (.cells c e (0,0))}=.ok (some (e,c.size)) {w with heap:=w.heap.push (.cells c e (0,0))}:=by
   show Result.ok (World.shape? _ _) _=_;rw[hs]
  rw[this];show Result.ok () (World.freeze _ _ _)=_;rw[hf]
 rw[Sem.run_bind,h1];simp only[Result.andThen_ok];rw[Sem.run_bind,h2];rfl
def Pp{st t e:TypeId}{x:Operand}{s:aa}{u:TypeDesc}(hs:P.underlying st=some .string)(ht:P.underlying t=some (.slice e))(he:P.underlying e=some (.int .u8))(hx:env.op x=some (.str s))(Z:ae):
  aq P ⟨dst,.convert st t x,ty,pos,ar,g⟩ env Z (.snap 1 false (nC s)) Z:=
 .step fun O ρ a w ai hv=>by
  have h1:=hv x (by simp[Op.operands]) _ hx;simp only[V]at h1;have bb:(⟨s.toArray⟩:ByteArray).size=s.length:=by simp[ByteArray.size]
  obtain⟨cap,cR,eY⟩:∃cap,s.length<=cap/\(Conv.stringToBytes e ⟨s.toArray⟩).run P w=.ok (.slice (some ⟨w.heap.size,0,none⟩) s.length cap) {w with drawn:=w.drawn+1,heap:=w.heap.push (.cells ((s.toArray.map fun b=>.int .u8 b.toNat)++Array.replicate (cap-s.length) (.int .u8 0)) e (cap,cap+1))}:=by
   refine⟨s.length+(w.tape w.drawn (.appendCap s.length 0 e))%(2^63-s.length),by omega,?_⟩;have hq:Question.forced (.appendCap s.length 0 e)=false:=rfl;have hc:Question.cut (.appendCap s.length 0 e) (w.tape w.drawn (.appendCap s.length 0 e))=s.length+(w.tape w.drawn (.appendCap s.length 0 e))%(2^63-s.length):=by simp[Question.cut]
   unfold Conv.stringToBytes;rw[bb,Sem.run_bind,run_choose_drew,hq];simp only[gM,pb,Result.andThen_ok,hc];rw[aqp];have:s.length+(w.tape w.drawn (.appendCap s.length 0 e))%(2^63-s.length)-s.length=(w.tape w.drawn (.appendCap s.length 0 e))%(2^63-s.length):=by omega
   rw[this];have Nn:((s.toArray.map fun b=>Value.int .u8 b.toNat)++Array.replicate ((w.tape w.drawn (.appendCap s.length 0 e))%(2^63-s.length)) (Value.int .u8 0)).size=s.length+(w.tape w.drawn (.appendCap s.length 0 e))%(2^63-s.length):=by simp
   rw[Nn];rfl
  let w':World:={w with drawn:=w.drawn+1,heap:=w.heap.push (.cells ((s.toArray.map fun b=>.int .u8 b.toNat)++Array.replicate (cap-s.length) (.int .u8 0)) e (cap,cap+1))}
  have aP:Tr O w ρ Z w' ρ Z:=Tr.pz ⟨by simp[w'],fun b hb=>by
   show(w.heap.push _)[b]?=_;rw[pS,aF zO],rfl,rfl,.inl ⟨rfl,vY _⟩⟩ ai
  have js:V w' (Ot O ρ Z) ρ (.snap 1 false (nC s)) (.slice (some ⟨w.heap.size,0,none⟩) s.length cap):=by
   simp only[V];refine⟨_,_,by simp[nC];rfl,⟨by simpa[nC]using cR,by simpa[nC]using h1.2⟩,by simp,fun _=>⟨w.heap.size,0,rfl,⟨by simp[w'],?_⟩,Rk (c:=(s.toArray.map fun b=>.int .u8 b.toNat)++Array.replicate (cap-s.length) (.int .u8 0)) (T:=e) (fr:=(cap,cap+1)) (by simp[w']) s 0 ?_⟩⟩
   ·rintro(hb|hb)
    ·have:=ai.lt _ hb;omega
    ·have:=(ai.block hb).1;omega
   ·intro j y hj;have bA:j<s.length:=(cI.1 hj).1;have hjx:s[j]=y:=(cI.1 hj).2;simp[r7,bA,hjx]
  refine⟨_,w',ρ,.inl ?_,aP,js⟩;have US:(convert st t (.string ⟨s.toArray⟩)).run P w=.ok (.slice (some ⟨w.heap.size,0,none⟩) s.length cap) w':=by
   simp only[convert,Sem.run_bind,bW hs,bW ht,bW he,Result.andThen_ok,eY,w']
  simp[execOp,h1.1,US]
end
end Go.T
namespace Go.T
open Go
variable[bX]
theorem Sub.gs{id n m:Nat}(h:n=m):Sub (.gs id n) (.gs id m):=.of_eq (by rw[h])
theorem iQ.arr{all Z e:ae}{i sz:Nat}{rows Z':List (List D)}(h:Z.get i=some (.arr sz rows))(he:rows=Z')(r:iQ all Z e):iQ all Z ((i,.arr sz Z')::e):=by
 subst he;exact .cons h rfl r
def iQ.eq{all Z e:ae}{i:Nat}{o o':Ob}(h:Z.get i=some o)(he:o=o')(hp:o'.okB all.has=true)(r:iQ all Z e):iQ all Z ((i,o')::e):=by
 subst he;exact .cons h hp r
def abA(z:Value)(m:Nat):((Array.range m).map (z.cells[· %z.cells.size]!)).toList=(List.range m).map fun x=>(z.cells.toList[x%z.cells.toList.length]?).getD default:=by
 rw[Array.toList_map,Array.toList_range];refine C_ fun x _=>?_;simp only[Ar,jW];exact getElem!_def ..
section
variable{P:Program} {env:Env} {dst:Option Tmp} {ty:TypeId} {pos:String} {ar:Array Edge} {g:Option (Nat×Bool)}
def bK{t e:TypeId}{n sz:Nat}{z:Value}{xs:List (Nat×Operand)}{dH:List (Nat×D)}{cs:List D}{rows:List (List D)}(hu:P.underlying t=some (.slice e))(hs:∀w,(sizeOf e).run P w=.ok sz w)(hn:Nat.ble (n*sz) 16777216=true)(cF:Nat.ble n 16777216=true)
  (dQ:Nat.beq (n*sz) 0=false)(hz:∀w,(zeroValue e).run P w=.ok z w)(hx:env.oO xs=some dH)
  (hf:nH (fun i=>some (i*sz,sz)) (((List.range (n*sz)).map fun x=>(z.cells.toList[x%z.cells.toList.length]?).getD default).map lY) dH=some cs)(hr:rows.flatten=cs)(hlen:rows.length=n)(fQ:rows.all (fun r=>Nat.beq r.length sz)=true)(h1:m_ cs=true)(hp:D.bw.dT cs=true)(Z:ae):
  aq P ⟨dst,.buildSlice t n xs.toArray,ty,pos,ar,g⟩ env Z (.snap sz true rows) Z:=
 ao_ hu hs (nA hn) (nA cF) (by intro h;rw[h]at dQ;simp at dQ) hz hx (by rw[abA];exact hf) hr hlen fQ h1 hp Z
end
end Go.T
namespace Go.T
open Go
def iQ.eqA{all Z e:ae}{i:Nat}{o o':Ob}(h:Z.get i=some o)(hp:o'.okB all.has=true)(r:iQ all Z e)(he:o=o':=by first|rfl|(simp;done)):iQ all Z ((i,o')::e):=.eq h he hp r
end Go.T
