/-
  Contracts of the functions that the statement reaches, and the logic in which they are proved (no condition): parts Core14, Core15, Core16, Core17, Sq3, Spec1, SpecD1, Core18.
-/
import Derived.Test.YtoaceanbddegbaaGreatDoorA03
import Derived.Laws.StructEq
import Derived.Laws.Runes
set_option linter.all false
namespace Go.T
open Go
variable[bT]
theorem Xg{c:List Value}{off len p:Nat}{us:List Value}(h:p+us.length≤len)(h2:off+len≤c.length):
  ((c.take (off+p)++us++c.drop (off+p+us.length)).drop off).take len=((c.drop off).take len).take p++us++((c.drop off).take len).drop (p+us.length):=by
 apply List.ext_getElem?;intro i;simp only[List.getElem?_take,List.getElem?_drop,List.getElem?_append,List.length_append,List.length_take,List.length_drop];grind
theorem O9{sz:Nat}:∀(rows:List (List D)),(∀r∈rows,r.length=sz)→rows.flatten.length=rows.length*sz
 |[],_=>by simp
 |r::rows,h=>by
  have:=O9 rows (fun r hr=>h r (List.mem_cons_of_mem _ hr));simp only[List.flatten_cons,List.length_append,this,h r List.mem_cons_self,List.length_cons,Nat.add_mul,Nat.one_mul];omega
theorem O_{sz k m:Nat}{ds:List D}:∀(rows:List (List D))(j:Nat)(r r':List D),(∀r∈rows,r.length=sz)→rows[j]?=some r→r'=r.take k++ds++r.drop (k+m)→k+m≤sz→
  (rows.set j r').flatten=rows.flatten.take (j*sz+k)++ds++rows.flatten.drop (j*sz+k+m)
 |[],j,r,r',_,h,_,_=>by simp at h
 |q::rows,0,r,r',hl,h,e,hk=>by
  simp only[List.getElem?_cons_zero,Option.some.injEq]at h;subst h;have hq:=hl q List.mem_cons_self;simp only[List.set_cons_zero,List.flatten_cons,Nat.zero_mul,Nat.zero_add];rw[List.take_append_of_le_length zO,List.drop_append_of_le_length zO,e];simp
 |q::rows,j+1,r,r',hl,h,e,hk=>by
  have hq:=hl q List.mem_cons_self;have ih:=O_ rows j r r' (fun r hr=>hl r (List.mem_cons_of_mem _ hr)) (by simpa using h) e hk;simp only[List.set_cons_succ,List.flatten_cons,ih];have e1:(j+1)*sz+k=q.length+(j*sz+k):=by rw[hq,Nat.add_mul];omega
  have e2:(j+1)*sz+k+m=q.length+(j*sz+k+m):=by rw[hq,Nat.add_mul];omega
  rw[e2,e1,List.drop_length_add_append,List.take_length_add_append];simp
theorem Vr.lens{w:World}{O:Nat→Prop}{b sz:Nat}:∀(rs:List (List D))(off:Nat),Vr w O b off sz rs→∀r∈rs,r.length=sz
 |[],_,_=>by simp
 |r::rs,off,h=>by
  simp only[Vr]at h;intro r' hr;rcases List.mem_cons.1 hr with rfl|hr
  ·exact h.1.1
  ·exact Vr.lens rs _ h.2 r' hr
theorem Vr.set{w w':World}{O O':Nat→Prop}{b sz off k:Nat}{c:Array Value}{T:TypeId}{rows:List (List D)}{us:List Value}{cs:List D}(hb:w.heap[b]?=some (.cells c T (0,0)))(hv:Vr w O b off sz rows)(hk:Kept w O w' O')
  (aY:off+rows.length*sz≤c.size)(j:Nat)(r r':List D)(hj:rows[j]?=some r)(pg:r'=r.take k++cs++r.drop (k+cs.length))(hkl:k+cs.length≤sz)(ot:Vs w O dX cs us)(h1:∀u∈us,u.oneCell'=true)
  (rz:w'.heap[b]?=some (.cells (setMany c (off+(j*sz+k)) us) T (0,0))):Vr w' O' b off sz (rows.set j r'):=by
 have hl:=hv.lens;have dN:=O9 rows hl;obtain⟨h2,h3⟩:=hv.flat;obtain⟨h4,h5,_⟩:=Vc.GF hb _ _ h2;have k6:=ot.length;have Qz:j<rows.length:=(List.getElem?_eq_some_iff.1 hj).1;have EZ:j*sz+sz≤rows.length*sz:=by
  have:=Nat.mul_le_mul_right sz (show j+1≤rows.length by omega);rw[Nat.add_mul]at this;omega
 have EX:=O_ (ds:=cs) rows j r r' hl hj pg hkl;have QC:(rows.set j r').flatten.length=rows.flatten.length:=by
  rw[EX];simp only[List.length_append,List.length_take,List.length_drop];omega
 have eU:c.toList.length=c.size:=by simp
 have mw:=Xg (c:=c.toList) (off:=off) (len:=rows.flatten.length) (p:=j*sz+k) (us:=us) zO zO;have JG:=C' us c (off+(j*sz+k)) zO;refine Vr.ta rz _ _ ?_ ?_ ?_
 ·intro q hq;rcases List.mem_or_eq_of_mem_set hq with hq|rfl
  ·exact hl q hq
  ·have:=hl r (List.mem_of_getElem? hj);rw[pg];simp only[List.length_append,List.length_take,List.length_drop];omega
 ·rw[QC,JG,←Nat.add_assoc,Nat.add_assoc off,mw,EX,k6];exact Vs.mono hk (bO.refl _) _ _ (((h4.take _).append ot).append (h4.drop _))
 ·rw[QC,JG,←Nat.add_assoc,Nat.add_assoc off,mw];intro v hv;simp only[List.mem_append]at hv;rcases hv with(hv|hv)|hv
  ·exact h5 v (List.mem_of_mem_take hv)
  ·exact h1 v hv
  ·exact h5 v (List.mem_of_mem_drop hv)
section
variable{P:Program} {env:Env} {dst:Option Tmp} {ty:TypeId} {pos:String} {au:Array Edge} {g:Option (Nat×Bool)}
theorem b8{t e:TypeId}{x y:Operand}{id n sz off:Nat}{k:IntKind}{i:Int}(hu:P.underlying t=some (.slice e))(hs:∀w,(sizeOf e).run P w=.ok sz w)(hx:env.op x=some (.gs id n))(hy:env.op y=some (.raw (.int k i)))(h0:0≤i)(hi:i.toNat<n)(ho:i.toNat*sz=off)(J:aa):
  aq P ⟨dst,.indexAddr t x y,ty,pos,au,g⟩ env J (.nf id off) J:=
 .val fun _ _ a w _ hv=>by
  have h1:=hv x (by simp[Op.operands]) _ hx;have h2:=hv y (by simp[Op.operands]) _ hy;simp only[V]at h1 h2;rcases h1 with⟨h1,_⟩|⟨_,l,h3,h4⟩
  ·omega
  ·refine⟨.pointer (some ⟨l.b,l.off+off,none⟩),?_,?_⟩
   ·have h8:i<(n:Int):=by omega
    simp[execOp,Instr.indexAt,h4,h2,asIntOf,cg hu,h0,h8,hs,addr_add,ho]
   ·simp only[V];exact⟨l,h3,rfl⟩
theorem nR{t:TypeId}{x:Operand}{id off n sz j:Nat}{rows:List (List D)}{r:List D}{J:aa}(ht:∀w,(isAgg t).run P w=.ok true w)(hs:∀w,(sizeOf t).run P w=.ok n w)(hx:env.op x=some (.nf id off))(ho:J.get id=some (.arr sz rows))(hn:n=sz)(xE:off=j*sz)(hr:rows[j]?=some r):
  aq P ⟨dst,.load t x,ty,pos,au,g⟩ env J (.agg r) J:=
 .val fun O ρ a w af hv=>by
  have h1:=hv x (by simp[Op.operands]) _ hx;simp only[V]at h1;obtain⟨l,h2,e⟩:=h1;have dT:(Ob.arr sz rows).live=true:=by
   cases rows with
   |nil=>simp at hr
   |cons=>rfl
  obtain⟨l',h3,_,c,T,h4,_,_,h5⟩:=af.own id _ ho dT;rw[h2]at h3;cases h3;obtain⟨h6,h7⟩:=h5.get _ _ j r hr;obtain⟨us,h8,h9,_⟩:=run_loadCells (P:=P) r (l.off+j*sz) 0 #[] (by simpa using h7);subst xE;subst hn;refine⟨.agg us.toArray,?_,?_⟩
  ·rw[h6]at h8;simp[execOp,Instr.loadAt,e,Instr.sureAddr,loadVar,ht,hs,loadCells,h8 w rfl]
  ·simp only[V];exact⟨_,rfl,by simpa using h9.AJ⟩
theorem wk{t:TypeId}{x y:Operand}{id off n sz j:Nat}{rows:List (List D)}{cs:List D}{J:aa}(hs:∀w,(sizeOf t).run P w=.ok n w)(hx:env.op x=some (.nf id off))(hy:env.op y=some (.agg cs))(hn:cs.length=n)(h1:oD cs=true)(hp:D.bk.dw cs=true)(ho:J.get id=some (.arr sz rows))(Jv:n=sz)(xE:off=j*sz)(hj:j<rows.length):
  aq P ⟨dst,.store t x y,ty,pos,au,g⟩ env J (.raw undef) (J.set id (.arr sz (rows.set j cs))):=
 .step fun O ρ a w af hv=>by
  have ic:=hv x (by simp[Op.operands]) _ hx;have k8:=hv y (by simp[Op.operands]) _ hy;simp only[V]at ic k8;obtain⟨us,e2,h7⟩:=k8;obtain⟨l,h2,e⟩:=ic;have dT:(Ob.arr sz rows).live=true:=by
   cases rows with
   |nil=>simp at hj
   |cons=>rfl
  obtain⟨l',h3,_,c,T,h4,hc,gO,h5⟩:=af.own id _ ho dT;rw[h2]at h3;cases h3;have hlen:=h7.length;simp only[Array.length_toList]at hlen;subst xE;subst Jv;have EZ:j*n+n≤rows.length*n:=by
   have:=Nat.mul_le_mul_right n (show j+1≤rows.length by omega);rw[Nat.add_mul]at this;omega
  have hrc:rows.length*n≤l.cap*n:=Nat.mul_le_mul_right n gO.1;have h6:=uO (P:=P) us.toList w c (l.off+j*n) 0 h4 zQ (h7.one h1);refine⟨undef,_,ρ,.inr ⟨?_,rfl⟩,Tr.cv (o':=.arr n (rows.set j cs)) af ho dT h2 (.cells (setMany c (l.off+j*n+0) us.toList) T (0,0)) ?_,by simp[V]⟩
  ·have:us.size=n:=by omega
   simp[execOp,Instr.storeAt,e,e2,Instr.sureAddr,storeVar,Value.cells,hs,this,h6]
  ·intro hk;refine⟨setMany c (l.off+j*n) us.toList,T,by simp[(Array.getElem?_eq_some_iff.1 h4).1],by rw[C_];exact hc,by simpa using gO,?_⟩;exact Vr.set (k:=0) h4 h5 hk zO j (rows[j]) cs (by simp[hj]) (by have:=(h5.lens) rows[j] (List.getElem_mem hj);simp;omega) zO (Vs.pure _ _ hp h7) (h7.one h1) (by simp[(Array.getElem?_eq_some_iff.1 h4).1])
theorem fN{t:TypeId}{x:Operand}{id off sz:Nat}{rows:List (List D)}{r:List D}{d:D}{J:aa}(j k:Nat)(ht:∀w,(isAgg t).run P w=.ok false w)(hx:env.op x=some (.nf id off))(ho:J.get id=some (.arr sz rows))(xE:off=j*sz+k)(hr:rows[j]?=some r)(hd:r[k]?=some d):
  aq P ⟨dst,.load t x,ty,pos,au,g⟩ env J d J:=
 .val fun O ρ a w af hv=>by
  have h1:=hv x (by simp[Op.operands]) _ hx;simp only[V]at h1;obtain⟨l,h2,e⟩:=h1;have dT:(Ob.arr sz rows).live=true:=by
   cases rows with
   |nil=>simp at hr
   |cons=>rfl
  obtain⟨l',h3,_,c,T,h4,_,_,h5⟩:=af.own id _ ho dT;rw[h2]at h3;cases h3;obtain⟨h6,h7⟩:=h5.get _ _ j r hr;obtain⟨v,h8,h9⟩:=h7.get _ _ k d hd;subst xE;rw[Nat.add_assoc]at h8;exact⟨v,by simp[execOp,Instr.loadAt,e,Instr.sureAddr,loadVar,ht,h8],h9.AJ⟩
theorem jd{t:TypeId}{x y:Operand}{id off sz:Nat}{rows:List (List D)}{r:List D}{d:D}{J:aa}(j k:Nat)(hs:∀w,(sizeOf t).run P w=.ok 1 w)(hx:env.op x=some (.nf id off))(hy:env.op y=some d)(h1:d.one=true)(hp:d.bk=true)(ho:J.get id=some (.arr sz rows))(xE:off=j*sz+k)(hr:rows[j]?=some r)(hk:k<r.length):
  aq P ⟨dst,.store t x y,ty,pos,au,g⟩ env J (.raw undef) (J.set id (.arr sz (rows.set j (r.set k d)))):=
 .step fun O ρ a w af hv=>by
  have ic:=hv x (by simp[Op.operands]) _ hx;have k8:=hv y (by simp[Op.operands]) _ hy;simp only[V]at ic;obtain⟨l,h2,e⟩:=ic;have hj:j<rows.length:=(List.getElem?_eq_some_iff.1 hr).1;have dT:(Ob.arr sz rows).live=true:=by
   cases rows with
   |nil=>simp at hj
   |cons=>rfl
  obtain⟨l',h3,_,c,T,h4,hc,gO,h5⟩:=af.own id _ ho dT;rw[h2]at h3;cases h3;subst xE;have QS:=(h5.get _ _ j r hr).1;have EZ:j*sz+sz≤rows.length*sz:=by
   have:=Nat.mul_le_mul_right sz (show j+1≤rows.length by omega);rw[Nat.add_mul]at this;omega
  have hrc:rows.length*sz≤l.cap*sz:=Nat.mul_le_mul_right sz gO.1;have h6:=uO (P:=P) [a.eval y] w c (l.off+(j*sz+k)) 0 h4 zQ (by simpa using k8.one h1);refine⟨undef,_,ρ,.inr ⟨?_,rfl⟩,Tr.cv (o':=.arr sz (rows.set j (r.set k d))) af ho dT h2 (.cells (setMany c (l.off+(j*sz+k)+0) [a.eval y]) T (0,0)) ?_,by simp[V]⟩
  ·simp[execOp,Instr.storeAt,e,Instr.sureAddr,storeVar,cells_one (k8.one h1),hs,h6]
  ·intro qB;refine⟨setMany c (l.off+(j*sz+k)) [a.eval y],T,by simp[(Array.getElem?_eq_some_iff.1 h4).1],by rw[C_];exact hc,by simpa using gO,?_⟩;exact Vr.set (k:=k) (cs:=[d]) h4 h5 qB zO j r _ hr (by simp[List.set_eq_take_append_cons_drop,hk]) zQ (by simp only[Vs];exact⟨_,_,rfl,V.pure _ _ hp k8,rfl⟩) (by simpa using k8.one h1) (by simp[(Array.getElem?_eq_some_iff.1 h4).1])
inductive u_(P:Program):List Field→Nat→Prop
 |nil (k:Nat):u_ P [] k
 |cons {f:Field} {fs:List Field} {k:Nat} (hn:(f.name== "_")=false) (hu:P.underlying f.type=some .string) (ha:∀w,(isAgg f.type).run P w=.ok false w) (ho:f.offset=k) (r:u_ P fs (k+1)):u_ P (f::fs) k
theorem Oy{P:Program}{d:Nat}{xs ys:List ae}{fs:List Field}{k:Nat}(h:u_ P fs k)(hx:k+fs.length=xs.length)(hy:k+fs.length=ys.length)(w:World):
  (Op.eqFields (d+1) (xs.map fun s=>Value.string ⟨s.toArray⟩).toArray (ys.map fun s=>Value.string ⟨s.toArray⟩).toArray fs).run P w=.ok (decide (xs.drop k=ys.drop k)) w:=by
 induction h with
 |nil k=>
  simp only[List.length_nil,Nat.add_zero]at hx hy;rw[List.drop_of_length_le zO,List.drop_of_length_le zO];simp[Op.eqFields]
 |@cons f fs k hn hu ha ho r ih=>
  simp only[List.length_cons]at hx hy;have ih:=ih zO zO;have h1:k<xs.length:=by omega
  have h2:k<ys.length:=by omega
  have xp:decide (xs.drop k=ys.drop k)=(decide (xs[k]=ys[k])&&decide (xs.drop (k+1)=ys.drop (k+1))):=by
   rw[List.drop_eq_getElem_cons h1,List.drop_eq_getElem_cons h2];simp only[List.cons.injEq,Bool.decide_and]
  rw[xp];have pf:f.name≠ "_":=by simpa using hn
  simp only[Op.eqFields,pf,ne_eq,not_false_eq_true,if_true,Sem.run_bind,part,ha,Result.andThen_ok,Bool.false_eq_true,if_false,ho];simp only[List.getElem?_toArray,List.getElem?_map,List.getElem?_eq_getElem h1,List.getElem?_eq_getElem h2,Option.map_some,Sem.run_pure,Result.andThen_ok,run_equalIn_string _ _ _ _ _ hu,wB];by_cases e:xs[k]=ys[k]
  ·simp only[e,BEq.rfl,Bool.not_true,Bool.false_eq_true,if_false,decide_true,Bool.true_and];exact ih
  ·have:(xs[k]==ys[k])=false:=by simpa using e
   simp only[this,Bool.not_false,if_true,Sem.run_pure,e,decide_false,Bool.false_and]
theorem A0{w:World}{O:Nat→Prop}{ρ:aC}:∀{ss:List ae}{vs:List Value},Vs w O ρ (ss.map D.str) vs→vs=ss.map fun s=>Value.string ⟨s.toArray⟩
 |[],vs,h=>by simpa[Vs]using h
 |s::ss,vs,h=>by
  simp only[List.map_cons,Vs,V]at h;obtain⟨u,us,rfl,h1,h2⟩:=h;rw[h1.1,A0 h2];rfl
theorem Ua{op:BinOp}{t t':TypeId}{x y:Operand}{xs ys:List ae}{fs:List Field}(zC:op=.eql∨op=.neq)(hu:P.underlying t=some (.struct fs.toArray))(hp:P.stoodInHeld t=false)(hg:P.eqGuardType P.depth t=false)(hf:u_ P fs 0)(vE:xs.length=fs.length)(vF:ys.length=fs.length)
  (hx:env.op x=some (.agg (xs.map D.str)))(hy:env.op y=some (.agg (ys.map D.str)))(J:aa):aq P ⟨dst,.binOp op t x y t',ty,pos,au,g⟩ env J (.raw (.bool (if op=.eql then decide (xs=ys)else !decide (xs=ys)))) J:=
 .val fun _ _ a w _ hv=>by
  have h1:=hv x (by simp[Op.operands]) _ hx;have h2:=hv y (by simp[Op.operands]) _ hy;simp only[V]at h1 h2;obtain⟨us,e1,h1⟩:=h1;obtain⟨vs,e2,h2⟩:=h2;have h1:=A0 h1;have h2:=A0 h2;have j_:P.fieldsOf t=fs.toArray:=by simp[Program.fieldsOf,hu]
  have h3:=run_equalIn_struct (P:=P) w 9999 t us vs (by rw[j_];exact hu) hp;have h4:us=(xs.map fun s=>Value.string ⟨s.toArray⟩).toArray:=by rw[←h1]
  have h5:vs=(ys.map fun s=>Value.string ⟨s.toArray⟩).toArray:=by rw[←h2]
  have h6:=Oy (d:=9998) hf (xs:=xs) (ys:=ys) zO zO w;rw[j_]at h3;simp only[h4,h5]at h3 e1 e2;simp only[List.drop_zero]at h6;refine⟨.bool (if op=.eql then decide (xs=ys)else !decide (xs=ys)),?_,by simp only[V]⟩;rcases zC with rfl|rfl
  ·simp[execOp,e1,e2,run_eqGuard_agg _ _ _ _ _ _ _ hg,run_eql_struct,h3,h6]
  ·simp[execOp,e1,e2,run_eqGuard_agg _ _ _ _ _ _ _ hg,run_neq_struct,h3,h6]
theorem F6{t t':TypeId}{x y:Operand}{xs ys:List ae}{fs:List Field}{ds es:List D}(hu:P.underlying t=some (.struct fs.toArray))(hp:P.stoodInHeld t=false)(hg:P.eqGuardType P.depth t=false)(hf:u_ P fs 0)(vE:xs.length=fs.length)(vF:ys.length=fs.length)
  (hx:env.op x=some (.agg ds))(hy:env.op y=some (.agg es))(hd:ds=xs.map D.str)(he:es=ys.map D.str)(J:aa):aq P ⟨dst,.binOp .eql t x y t',ty,pos,au,g⟩ env J (.raw (.bool (decide (xs=ys)))) J:=by
 subst hd;subst he;exact Ua (.inl rfl) hu hp hg hf vE vF hx hy J
theorem F8{t t':TypeId}{x y:Operand}{xs ys:List ae}{fs:List Field}{ds es:List D}(hu:P.underlying t=some (.struct fs.toArray))(hp:P.stoodInHeld t=false)(hg:P.eqGuardType P.depth t=false)(hf:u_ P fs 0)(vE:xs.length=fs.length)(vF:ys.length=fs.length)
  (hx:env.op x=some (.agg ds))(hy:env.op y=some (.agg es))(hd:ds=xs.map D.str)(he:es=ys.map D.str)(J:aa):aq P ⟨dst,.binOp .neq t x y t',ty,pos,au,g⟩ env J (.raw (.bool (!decide (xs=ys)))) J:=by
 subst hd;subst he;exact Ua (.inr rfl) hu hp hg hf vE vF hx hy J
theorem Lx{s t:TypeId}{x:Operand}{k:IntKind}{n:Int}{c:UInt8}{u:TypeDesc}(hs:P.underlying s=some u)(ht:P.underlying t=some .string)(hx:env.op x=some (.raw (.int k n)))(h0:0≤n)(h1:n<128)(hc:UInt8.ofNat n.toNat=c)(J:aa):
  aq P ⟨dst,.convert s t x,ty,pos,au,g⟩ env J (.str [c]) J:=
 .val fun _ _ a w _ hv=>⟨.string ⟨#[c]⟩,by
  have h2:=hv x (by simp[Op.operands]) _ hx;simp only[V]at h2;have h3:Utf8.encode n=⟨#[c]⟩:=by
   have hv:Utf8.valid n=true:=by simp[Utf8.valid];omega
   have:n.toNat<128:=by omega
   simp[Utf8.encode,hv,this,hc]
  simp[execOp,h2,run_convert_int_string w s t k n (by rw[hs];rfl) ht,h3],by simp[V,aH]⟩
end
end Go.T
namespace Go.T
open Go
variable[bT]
theorem Vs.ajH{w:World}{O:Nat→Prop}{ρ:aC}{ds:List D}{vs:List Value}{i:Nat}{d d':D}(h:Vs w O ρ ds vs)(hi:ds[i]?=some d)(hd:∀v,V w O ρ d v→V w O ρ d' v):Vs w O ρ (ds.set i d') vs:=by
 obtain⟨v,h3,h4⟩:=h.get i _ hi;have h5:=Vs.set i h (hd v h4);have h6:vs.set i v=vs:=by
  obtain⟨hl,he⟩:=List.getElem?_eq_some_iff.1 h3;rw[←he];exact List.set_getElem_self hl
 rwa[h6]at h5
theorem Ga{O:Nat→Prop}{w:World}{ρ:aC}{J:aa}{k i:Nat}{ds:List D}{d d':D}(af:di w O ρ J)(hk:J.get k=some (.cells ds))(hi:ds[i]?=some d)
  (hd:∀v,V w (Ot O ρ J) ρ d v→V w (Ot O ρ J) ρ d' v):Tr O w ρ J w ρ (J.set k (.cells (ds.set i d'))):=by
 have P5:∀b,b9 ρ (J.set k (.cells (ds.set i d'))) b→b9 ρ J b:=by
  rintro b ⟨j,x,l,h1,h2,h3⟩;rw[aa.eG]at h1;by_cases e:k=j
  ·subst e;exact⟨k,_,l,hk,rfl,h3⟩
  ·rw[if_neg e]at h1;exact⟨j,x,l,h1,h2,h3⟩
 have kc:Kept w (Ot O ρ J) w (Ot O ρ (J.set k (.cells (ds.set i d')))):=Kept.eP fun b=>Or.imp _root_.id (P5 b);refine⟨bO.refl _,Nat.le_refl _,fun _ _ _=>rfl,fun b hb=>.inl (P5 b hb),⟨af.lt,?_,?_,?_⟩,rfl,rfl,iU.eq rfl rfl⟩
 ·intro j hj;rw[aa.eG]at hj;by_cases e:k=j
  ·simp[e]at hj
  ·rw[if_neg e]at hj;exact af.fresh j hj
 ·intro j x h1 h2;rw[aa.eG]at h1;by_cases e:k=j
  ·subst e;simp only[if_true,Option.some.injEq]at h1;subst h1;obtain⟨l,h3,h4,vs,T,h5,h6⟩:=af.own k _ hk rfl;exact⟨l,h3,h4,vs,T,h5,Vs.mono kc (bO.refl _) _ _ (h6.ajH hi hd)⟩
  ·rw[if_neg e]at h1;obtain⟨l,h3,h4,h5⟩:=af.own j x h1 h2;exact⟨l,h3,h4,h5.mono kc (bO.refl _) rfl⟩
 ·intro a b x x' l1 l2 h1 h2 h3 h4 h5 h6 h7;have look:∀j y,(J.set k (.cells (ds.set i d'))).get j=some y→y.live=true→∃y',J.get j=some y'∧y'.live=true:=by
   intro j y hy hl;rw[aa.eG]at hy;by_cases e:k=j
   ·subst e;exact⟨_,hk,rfl⟩
   ·rw[if_neg e]at hy;exact⟨y,hy,hl⟩
  obtain⟨y,xL,JQ⟩:=look a x h1 h3;obtain⟨z,rI,JR⟩:=look b x' h2 h4;exact af.inj a b y z l1 l2 xL rI JQ JR h5 h6 h7
theorem Le.Is{F:Fr}{env:Env}{J:aa}{sz n:Nat}{rows:List (List D)}{ds:List D}(k i id:Nat)(hk:J.get k=some (.cells ds))(hi:ds[i]?=some (.gs id n))(ho:J.get id=some (.arr sz rows))(hn:rows.length=n):
  Le F env J env ((J.set id .dead).set k (.cells (ds.set i (.snap sz false rows)))):=.step fun O ρ w f af hv=>by
 have h1:=Tr.die id af;have aG:id≠k:=by rintro rfl;rw[hk]at ho;cases ho
 have h2:=Ga (d':=.snap sz false rows) h1.ok (k:=k) (ds:=ds) (by rw[aa.eG,if_neg aG];exact hk) hi (fun v h=>PV af ho hn (by simpa only[V]using h));have h3:=h1.trans h2;exact⟨ρ,h3,fun t d h=>h3.V (hv t d h)⟩
theorem Le.Ut{F:Fr}{env:Env}{J:aa}{sz n:Nat}{rows:List (List D)}{ds:List D}(k i id bn:Nat)(hk:J.get k=some (.cells ds))(hi:ds[i]?=some (.gs id n))(ho:J.get id=some (.arr sz rows))(hn:rows.length=n)(hid:J.get bn=none):
  Le F env J env (aa.set ((bn,.arr sz rows)::J.set id .dead) k (.cells (ds.set i (.gs bn n)))):=.step fun O ρ w f af hv=>by
 have aG:id≠k:=by rintro rfl;rw[hk]at ho;cases ho
 have QH:bn≠k:=by rintro rfl;rw[hk]at hid;cases hid
 have fA:aa.get ((bn,.arr sz rows)::J.set id .dead) k=some (.cells ds):=by
  rw[aa.bf,if_neg QH,aa.eG,if_neg aG];exact hk
 cases rows with
 |nil=>
  subst hn;have h1:=Tr.Gb (id:=id) (bn:=bn) (sz:=sz) af;have h2:=Ga (d':=.gs bn 0) h1.ok fA hi (fun v h=>by simpa[V]using h);have h3:=h1.trans h2;exact⟨ρ,h3,fun t d h=>h3.V (hv t d h)⟩
 |cons r rs=>
  obtain⟨l,h4,_⟩:=af.own id _ ho rfl;have h1:=Tr.rename (id:=id) (bn:=bn) af ho rfl hid h4;have h2:=Ga (d':=.gs bn n) h1.ok fA hi (fun v h=>by
   simp only[V]at h⊢;rcases h with h|⟨h,l',h5,h6⟩
   ·exact .inl h
   ·have:=h1.le id l h4;rw[this]at h5;cases h5;exact .inr ⟨h,l,lr ..,h6⟩)
  have h3:=h1.trans h2;exact⟨_,h3,fun t d h=>h3.V (hv t d h)⟩
theorem Le.eP{F:Fr}{env:Env}{J:aa}{ds:List D}{d d':D}(k i:Nat)(hk:J.get k=some (.cells ds))(hi:ds[i]?=some d)(s:Sub d d'):Le F env J env (J.set k (.cells (ds.set i d'))):=.step fun O ρ w f af hv=>by
 have h3:=Ga af hk hi (fun v h=>s.out _ _ _ _ h);exact⟨ρ,h3,fun t d h=>h3.V (hv t d h)⟩
def Rd(P:Program)(fn:Func)(env:Env)(J:aa)(r:D):Prop:=
 ∀(O:Nat→Prop)(ρ:aC)(tmps:Array Value)(w:World),di w O ρ J→(∀t d,env.get t=some d→V w (Ot O ρ J) ρ d (tmps.getD t undef))→∃v,(results fn tmps).run P w=.ok v w∧V w (Ot O ρ J) ρ r v
def rdQ(P:Program)(fn:Func)(r:D):Exit→Env→aa→Prop
 |.ret,env,J|.normal,env,J=>Rd P fn env J r
 |_,_,_=>False
theorem Fc.j2{P:Program}{f:FuncId}{fn:Func}{c:Code}{args:List D}{r:D}(hf:P.funcs[f]?=some fn)(hb:fn.body=some c){N:Nat}(hN:fn.ntmps=N)(pf:Nat.ble args.length N=true)(hp:D.bk.dw args=true)(hr:r.bk=true)
  (h':U P ⟨N,[],false,none⟩ [c] (rdQ P fn r) (mc args 0) []):Fc P f args r:=⟨fun w O ρ vals hO dH jC=>by
 have cz:∀b,¬b9 dX [] b:=fun b ⟨i,o,l,h1,_⟩=>by simp[aa.get]at h1
 have af:di w O dX []:=⟨hO,fun _ _=>rfl,fun i o h1=>by simp[aa.get]at h1,fun i j o o' l l' h1=>by simp[aa.get]at h1⟩;have hv:Vs w (Ot O dX []) dX args vals:=Vs.mono (Kept.eP fun b hb=>hb.elim _root_.id (fun g=>(cz b g).elim)) (bO.refl _) _ _ (Vs.pure args vals hp jC);refine A' hf hb h'.start (St.begin fn.ntmps hN (Nat.le_of_ble_eq_true pf) af (dH.mono (Kept.eP fun b hb=>hb.elim _root_.id (fun g=>(cz b g).elim))) hv [] none (fun _ _ e=>by cases e)) ?_ ?_
 ·intro e aS ai hq;cases e<;>first|exact .inl rfl|exact .inr rfl|exact hq.elim
 ·intro e aS ai tmps w' aw hq _ bm vA;have:Rd P fn aS ai r:=by cases e<;>first|exact hq|exact hq.elim
  obtain⟨v,h1,h2⟩:=this _ _ _ _ bm.ok vA;refine⟨v,h1,v,rfl,?_,bm.size,fun b hb=>bm.same b hb (cz b),bm.os⟩;exact V.pure r _ hr (V.mono (O':=O) (Kept.eP fun b hb=>Or.inl hb) (bO.refl _) _ _ h2)⟩
section
variable{P:Program} {fn:Func} {env:Env} {J:aa}
theorem RZ{O:Nat→Prop}{ρ:aC}{w:World}{ty:TypeId}{id n:Nat}{ds:List D}{u:Value}(af:di w O ρ J)(ha:∀w,(isAgg ty).run P w=.ok true w)(hs:∀w,(sizeOf ty).run P w=.ok n w)(hn:ds.length=n)(ho:J.get id=some (.cells ds))(hu:V w (Ot O ρ J) ρ (.box id 0) u):
  ∃a v,u=.pointer (some a)∧(loadVar ty a).run P w=.ok v w∧V w (Ot O ρ J) ρ (.agg ds) v:=by
 simp only[V]at hu;obtain⟨l,h2,e⟩:=hu;obtain⟨l',h3,_,vs,T,h4,h5⟩:=af.own id _ ho rfl;rw[h2]at h3;cases h3;have hl:=h5.length;have h6:=Gd (P:=P) h4 n 0 0 #[] (by simp at hl;omega);refine⟨_,.agg ((vs.toList.drop 0).take n).toArray,e,?_,?_⟩
 ·simp[loadVar,ha,hs,loadCells,h6]
 ·simp only[V];refine⟨_,rfl,?_⟩;have:vs.toList.take n=vs.toList:=List.take_of_length_le zO;simpa[this]using h5
theorem Rd.cA{p:Tmp}{ty:TypeId}{id n:Nat}{ds:List D}{r:D}(h:fn.results=#[.cell p ty])(ha:∀w,(isAgg ty).run P w=.ok true w)(hs:∀w,(sizeOf ty).run P w=.ok n w)(hn:ds.length=n)(ht:env.get p=some (.box id 0))(ho:J.get id=some (.cells ds))(s:Sub (.agg ds) r):Rd P fn env J r:=by
 intro O ρ tmps w af hv;obtain⟨a,v,e,h1,h2⟩:=RZ (P:=P) af ha hs hn ho (hv p _ ht);have e':tmps[p]?.getD undef=.pointer (some a):=by simpa using e
 exact⟨v,by simp[results,h,e',asAddr,h1],s.out _ _ _ _ h2⟩
theorem Rd.tE{p q:Tmp}{ty:TypeId}{id n:Nat}{ds:List D}{d r r':D}(h:fn.results=#[.cell p ty,.tmp q])(ha:∀w,(isAgg ty).run P w=.ok true w)(hs:∀w,(sizeOf ty).run P w=.ok n w)(hn:ds.length=n)(ht:env.get p=some (.box id 0))(ho:J.get id=some (.cells ds))(hq:env.get q=some d)(s:Sub (.agg ds) r)(s':Sub d r'):Rd P fn env J (.bl [r,r']):=by
 intro O ρ tmps w af hv;obtain⟨a,v,e,h1,h2⟩:=RZ (P:=P) af ha hs hn ho (hv p _ ht);have e':tmps[p]?.getD undef=.pointer (some a):=by simpa using e
 refine⟨.tuple #[v,tmps.getD q undef],by simp[results,h,e',asAddr,h1],?_⟩;simp only[V];exact⟨_,rfl,by simp only[Vs];exact⟨_,_,rfl,s.out _ _ _ _ h2,_,_,rfl,s'.out _ _ _ _ (hv q _ hq),rfl⟩⟩
end
end Go.T
namespace Go.T
open Go
variable[bT]
theorem aa.get_append:∀(a b:aa)(i:Nat),aa.get (a++b) i=match a.get i with|some x=>some x|none=>b.get i
 |[],b,i=>by simp[aa.get]
 |(t,d)::r,b,i=>by
  rw[List.cons_append,aa.bf,aa.bf];by_cases h:t=i
  ·simp[h]
  ·rw[if_neg h,if_neg h];exact aa.get_append r b i
def aa.rest:aa→aa→aa
 |[],_=>[]
 |(t,d)::r,pre=>bif pre.has t then aa.rest r pre else(t,d)::aa.rest r pre
theorem aa.su(pre:aa)(i:Nat):∀J:aa,(J.rest pre).get i=if pre.has i then none else J.get i
 |[]=>by simp[aa.rest,aa.get]
 |(t,d)::r=>by
  simp only[aa.rest];cases h:pre.has t with
  |true=>
   rw[cond_true,aa.su pre i r,aa.bf];by_cases e:t=i
   ·subst e;simp[h]
   ·rw[if_neg e]
  |false=>
   rw[cond_false,aa.bf,aa.su pre i r,aa.bf];by_cases e:t=i
   ·subst e;simp[h]
   ·rw[if_neg e,if_neg e]
theorem aa.jl{J:aa}{i:Nat}:J.has i=true↔∃o,J.get i=some o:=by
 unfold aa.has;cases J.get i<;>simp
mutual
theorem D.Ao:∀(d:D){f g:Nat→Bool},(∀i,f i=true→g i=true)→d.okB f=true→d.okB g=true
 |.any,_,_,_,_|.raw _,_,_,_,_|.str _,_,_,_,_|.snap _ _ _,_,_,_,_|.bz _,_,_,_,_|.pj _ _,_,_,_,_=>rfl
 |.agg ds,f,g,h,hd=>by simp only[D.okB]at hd⊢;exact D.td ds h hd
 |.bl ds,f,g,h,hd=>by simp only[D.okB]at hd⊢;exact D.td ds h hd
 |.fn _ ax bs,f,g,h,hd=>by
  simp only[D.okB,Bool.and_eq_true]at hd⊢;exact⟨D.td ax h hd.1,D.td bs h hd.2⟩
 |.box i _,f,g,h,hd|.gs i _,f,g,h,hd|.nf i _,f,g,h,hd|.dj i,f,g,h,hd|.sc i _ _,f,g,h,hd|.pZ i _ _,f,g,h,hd|.gr i _,f,g,h,hd=>by simp only[D.okB]at hd⊢;exact h i hd
theorem D.td:∀(ds:List D){f g:Nat→Bool},(∀i,f i=true→g i=true)→D.okB.gS f ds=true→D.okB.gS g ds=true
 |[],_,_,_,_=>rfl
 |d::ds,f,g,h,hd=>by
  simp only[D.okB.gS,Bool.and_eq_true]at hd⊢;exact⟨D.Ao d h hd.1,D.td ds h hd.2⟩
end
mutual
theorem D.KP:∀(d:D),d.okB (fun _=>true)=true
 |.any|.raw _|.str _|.snap _ _ _|.bz _|.box _ _|.gs _ _|.nf _ _|.dj _|.sc _ _ _|.pZ _ _ _|.gr _ _|.pj _ _=>rfl
 |.agg ds=>by simp only[D.okB];exact D.Ar ds
 |.bl ds=>by simp only[D.okB];exact D.Ar ds
 |.fn _ ax bs=>by simp only[D.okB,Bool.and_eq_true];exact⟨D.Ar ax,D.Ar bs⟩
theorem D.Ar:∀(ds:List D),D.okB.gS (fun _=>true) ds=true
 |[]=>rfl
 |d::ds=>by simp only[D.okB.gS,Bool.and_eq_true];exact⟨D.KP d,D.Ar ds⟩
end
theorem Ob.KP(o:Ob):o.okB (fun _=>true)=true:=by
 cases o<;>simp[Ob.okB,D.Ar]
def aa.okB(f:Nat→Bool):aa→Bool
 |[]=>true
 |(_,o)::r=>o.okB f&&aa.okB f r
theorem aa.KO{f:Nat→Bool}:∀{J:aa},J.okB f=true→∀i o,J.get i=some o→o.okB f=true
 |[],_,i,o,h=>by simp[aa.get]at h
 |(t,d)::r,h,i,o,hg=>by
  simp only[aa.okB,Bool.and_eq_true]at h;rw[aa.bf]at hg;by_cases e:t=i
  ·rw[if_pos e]at hg;cases hg;exact h.1
  ·rw[if_neg e]at hg;exact aa.KO h.2 i o hg
section
variable{w w':World} {O:Nat→Prop} {ρ aw:aC} {J pre post:aa}
theorem v_(eV:∀i o,pre.get i=some o→J.get i=some o)(b:Nat):b9 ρ J b↔b9 (cW pre.has ρ) pre b∨b9 ρ (J.rest pre) b:=by
 constructor
 ·rintro⟨i,o,l,h1,h2,h3,h4⟩;cases hp:pre.has i with
  |true=>
   obtain⟨o',QI⟩:=aa.jl.1 hp;have:=eV i o' QI;rw[h1]at this;cases this;exact .inl ⟨i,o,l,QI,h2,by simp[cW,hp,h3],h4⟩
  |false=>exact .inr ⟨i,o,l,by rw[aa.su,hp];exact h1,h2,h3,h4⟩
 ·rintro(⟨i,o,l,h1,h2,h3,h4⟩|⟨i,o,l,h1,h2,h3,h4⟩)
  ·exact⟨i,o,l,eV i o h1,h2,ql h3,h4⟩
  ·rw[aa.su]at h1;split at h1
   ·cases h1
   ·exact⟨i,o,l,h1,h2,h3,h4⟩
theorem C2{i:Nat}{o:Ob}(h:(J.rest pre).get i=some o):J.get i=some o∧pre.has i=false:=by
 rw[aa.su]at h;split at h
 ·cases h
 ·rename_i hp;exact⟨h,by simpa using hp⟩
theorem Uz(eV:∀i o,pre.get i=some o→J.get i=some o)(af:di w O ρ J){b:Nat}(h1:b9 (cW pre.has ρ) pre b)(h2:b9 ρ (J.rest pre) b):False:=by
 obtain⟨i,o,l,a1,a2,a3,a4⟩:=h1;obtain⟨j,o',l',b1,b2,b3,b4⟩:=h2;have:=af.inj i j o o' l l' (eV i o a1) (C2 b1).1 a2 b2 (ql a3) b3 (a4.trans b4.symm);subst this;have:=(C2 b1).2;rw[aa.jl.2 ⟨o,a1⟩]at this;cases this
def kJ(rest:aa)(ρ aw:aC):aC:=fun i=>if rest.has i then ρ i else aw i
theorem ahm{rest:aa}(oo:∀i,post.has i=true→rest.has i=false)(b:Nat):b9 (kJ rest ρ aw) (post++rest) b↔b9 aw post b∨b9 ρ rest b:=by
 constructor
 ·rintro⟨i,o,l,h1,h2,h3,h4⟩;rw[aa.get_append]at h1;cases hp:post.get i with
  |some x=>
   simp only[hp,Option.some.injEq]at h1;subst h1;have:=oo i (aa.jl.2 ⟨_,hp⟩);simp only[kJ,this]at h3;exact .inl ⟨i,x,l,hp,h2,h3,h4⟩
  |none=>
   simp only[hp]at h1;simp only[kJ,aa.jl.2 ⟨_,h1⟩,if_true]at h3;exact .inr ⟨i,o,l,h1,h2,h3,h4⟩
 ·rintro(⟨i,o,l,h1,h2,h3,h4⟩|⟨i,o,l,h1,h2,h3,h4⟩)
  ·have:=oo i (aa.jl.2 ⟨_,h1⟩);exact⟨i,o,l,by rw[aa.get_append,h1],h2,by simp[kJ,this,h3],h4⟩
  ·have hn:post.get i=none:=by
    cases hp:post.get i with
    |none=>rfl
    |some x=>
     have:=oo i (aa.jl.2 ⟨_,hp⟩);rw[aa.jl.2 ⟨_,h1⟩]at this;cases this
   exact⟨i,o,l,by rw[aa.get_append,hn];exact h1,h2,by simp[kJ,aa.jl.2 ⟨_,h1⟩,h3],h4⟩
theorem Pj(Gq:Nat→Bool)(eV:∀i o,pre.get i=some o→J.get i=some o)(af:di w O ρ J)(h:iw (Ot O ρ (J.rest pre)) w (cW pre.has ρ) pre w' aw post)
  (oo:∀i,post.has i=true→(J.rest pre).has i=false)(gv:∀i l,Gq i=true→cW pre.has ρ i=some l→aw i=some l)(QS:∀i o,(J.rest pre).get i=some o→o.okB Gq=true):
  iw O w ρ J w' (kJ (J.rest pre) ρ aw) (post++J.rest pre)∧(∀i l,Gq i=true→ρ i=some l→kJ (J.rest pre) ρ aw i=some l)∧
  ∀r v,V w' (Ot (Ot O ρ (J.rest pre)) aw post) aw r v→V w' (Ot O (kJ (J.rest pre) ρ aw) (post++J.rest pre)) (kJ (J.rest pre) ρ aw) r v:=by
 have hj:=ahm (ρ:=ρ) (aw:=aw) oo;have qC:∀i l,Gq i=true→ρ i=some l→kJ (J.rest pre) ρ aw i=some l:=by
  intro i l hs hl;unfold kJ;split
  ·exact hl
  ·rename_i hr;refine gv i l hs ?_;have:pre.has i=true:=by
    cases hp:pre.has i with
    |true=>rfl
    |false=>
     have hg:(J.rest pre).get i=J.get i:=by rw[aa.su,hp];rfl
     cases ho:J.get i with
     |none=>rw[af.fresh i ho]at hl;cases hl
     |some o=>exact absurd (aa.jl.2 ⟨o,hg.trans ho⟩) hr
   simp[cW,this,hl]
 have Jm:bO aw (kJ (J.rest pre) ρ aw):=by
  intro i l hl;unfold kJ;split
  ·rename_i hr;have:post.get i=none:=by
    cases hp:post.get i with
    |none=>rfl
    |some x=>have:=oo i (aa.jl.2 ⟨_,hp⟩);rw[hr]at this;cases this
   rw[h.ok.fresh i this]at hl;cases hl
  ·exact hl
 have rF:∀b,Ot (Ot O ρ (J.rest pre)) aw post b↔Ot O (kJ (J.rest pre) ρ aw) (post++J.rest pre) b:=by
  intro b;unfold Ot;rw[hj b];constructor
  ·rintro((g|g)|g)
   ·exact .inl g
   ·exact .inr (.inr g)
   ·exact .inr (.inl g)
  ·rintro(g|g|g)
   ·exact .inl (.inl g)
   ·exact .inr g
   ·exact .inl (.inr g)
 have xC:∀b,b9 (kJ (J.rest pre) ρ aw) (post++J.rest pre) b→b9 ρ J b∨w.heap.size≤b:=by
  intro b hb;rcases(hj b).1 hb with g|g
  ·rcases h.new b g with g|g
   ·exact .inl ((v_ eV b).2 (.inl g))
   ·exact .inr g
  ·exact .inl ((v_ eV b).2 (.inr g))
 have qH:∀b,b<w.heap.size→¬b9 ρ J b→w'.heap[b]?=w.heap[b]?:=fun b hb ho=>h.same b hb fun g=>ho ((v_ eV b).2 (.inl g));have xz:Kept w (Ot O ρ J) w' (Ot O (kJ (J.rest pre) ρ aw) (post++J.rest pre)):=by
  refine⟨h.size,fun b hb ho=>⟨fun _ _ _=>qH b hb fun g=>ho (.inr g),fun g=>?_⟩⟩;rcases g with g|g
  ·exact ho (.inl g)
  ·rcases xC b g with g|g
   ·exact ho (.inr g)
   ·omega
 refine⟨⟨h.size,qH,xC,⟨fun b hb=>h.ok.lt b (.inl hb),?_,?_,?_⟩,h.os⟩,qC,fun r v hv=>V.mono (Kept.eP fun b hb=>(rF b).2 hb) Jm r v hv⟩
 ·intro i hi;rw[aa.get_append]at hi;cases hp:post.get i with
  |some x=>simp[hp]at hi
  |none=>
   simp only[hp]at hi;simp only[kJ,aa.has,hi,Option.isSome_none];exact h.ok.fresh i hp
 ·intro i o h1 h2;rw[aa.get_append]at h1;cases hp:post.get i with
  |some x=>
   simp only[hp,Option.some.injEq]at h1;subst h1;obtain⟨l,h3,h4,h5⟩:=h.ok.own i x hp h2;exact⟨l,Jm i l h3,fun hb=>h4 (.inl hb),h5.mono (Kept.eP fun b hb=>(rF b).2 hb) Jm rfl⟩
  |none=>
   simp only[hp]at h1;obtain⟨l,h3,h4,h5⟩:=af.own i o (C2 h1).1 h2;have hr:(J.rest pre).has i=true:=aa.jl.2 ⟨_,h1⟩;have mw:w'.heap[l.b]?=w.heap[l.b]?:=h.same l.b (h5.lt h2) fun g=>Uz eV af g ⟨i,o,l,h1,h2,h3,rfl⟩;refine⟨l,by simp[kJ,hr,h3],h4,(h5.cut (QS i o h1)).mono xz ?_ mw⟩;intro j lj lw;unfold cW at lw;split at lw
   ·rename_i hs;exact qC j lj hs lw
   ·cases lw
 ·intro i j o o' l l' a1 a2 a3 a4 a5 a6 a7;have key:∀i o l,aa.get (post++J.rest pre) i=some o→kJ (J.rest pre) ρ aw i=some l→(post.get i=some o∧aw i=some l)∨((J.rest pre).get i=some o∧ρ i=some l):=by
   intro i o l h1 h3;rw[aa.get_append]at h1;cases hp:post.get i with
   |some x=>
    simp only[hp,Option.some.injEq]at h1;subst h1;have:=oo i (aa.jl.2 ⟨_,hp⟩);simp only[kJ,this]at h3;exact .inl ⟨rfl,h3⟩
   |none=>
    simp only[hp]at h1;simp only[kJ,aa.jl.2 ⟨_,h1⟩,if_true]at h3;exact .inr ⟨h1,h3⟩
  have NQ:∀i j o o' l l',post.get i=some o→o.live=true→aw i=some l→(J.rest pre).get j=some o'→o'.live=true→ρ j=some l'→l.b=l'.b→False:=by
   intro i j o o' l l' b1 b2 b3 b4 b5 b6 b7;obtain⟨l2,c1,c2,_⟩:=h.ok.own i o b1 b2;rw[b3]at c1;cases c1;exact c2 (.inr ⟨j,o',l',b4,b5,b6,b7.symm⟩)
  rcases key i o l a1 a5 with⟨b1,b2⟩|⟨b1,b2⟩<;>rcases key j o' l' a2 a6 with⟨c1,c2⟩|⟨c1,c2⟩
  ·exact h.ok.inj i j o o' l l' b1 c1 a3 a4 b2 c2 a7
  ·exact(NQ i j o o' l l' b1 a3 b2 c1 a4 c2 a7).elim
  ·exact(NQ j i o' o l' l c1 a4 c2 b1 a3 b2 a7.symm).elim
  ·exact af.inj i j o o' l l' (C2 b1).1 (C2 c1).1 a3 a4 b2 c2 a7
end
end Go.T
namespace Go.T
open Go
variable[bT]
structure bh(P:Program)(f:FuncId)(args:List D)(pre:aa)(r:D)(post:aa):Prop where
 out:∀w O ρ vals,di w O ρ pre→Gl w (Ot O ρ pre)→Vs w (Ot O ρ pre) ρ args vals→Calls P f vals.toArray w (fun e w'=>∃v aw,e=.returned v∧Tr O w ρ pre w' aw post∧V w' (Ot O aw post) aw r v)
def tK(a b:aa):Bool:=a.all fun p=>!b.has p.1
theorem ZB{a b:aa}(h:tK a b=true):∀i,a.has i=true→b.has i=false:=by
 intro i hi;obtain⟨o,ho⟩:=aa.jl.1 hi;have key:∀a:aa,tK a b=true→a.get i=some o→b.has i=false:=by
  intro a;induction a with
  |nil=>intro _ h;simp[aa.get]at h
  |cons p r ih=>
   obtain⟨t,d⟩:=p;intro hd hg;simp only[tK,List.all_cons,Bool.and_eq_true,Bool.not_eq_true']at hd;rw[aa.bf]at hg;by_cases e:t=i
   ·subst e;exact hd.1
   ·rw[if_neg e]at hg;exact ih hd.2 hg
 exact key a h ho
theorem jj.okB{pre J:aa}(h:jj pre J pre):∀i o,pre.get i=some o→o.okB pre.has=true:=fun i o ho=>(h.sound i o ho).2
theorem Vs.YY{w:World}{O:Nat→Prop}{ρ:aC}{f:Nat→Bool}{ds:List D}{vs:List Value}(hp:D.okB.gS f ds=true)(h:Vs w O ρ ds vs):Vs w O (cW f ρ) ds vs:=Vs.cut ds vs hp h
theorem Pk{w:World}{O:Nat→Prop}{ρ:aC}{J pre:aa}(eV:∀i o,pre.get i=some o→J.get i=some o)(hp:∀i o,pre.get i=some o→o.okB pre.has=true)(af:di w O ρ J):di w (Ot O ρ (J.rest pre)) (cW pre.has ρ) pre:=by
 refine⟨?_,fun i hi=>by simp[cW,aa.has,hi],fun i o h1 h2=>?_,fun i j o o' l l' a b c d e e'=>af.inj i j o o' l l' (eV _ _ a) (eV _ _ b) c d (ql e) (ql e')⟩
 ·rintro b (hb|hb)
  ·exact af.lt b hb
  ·exact(af.block ((v_ eV b).2 (.inr hb))).1
 ·obtain⟨l,h3,h4,h5⟩:=af.own i o (eV i o h1) h2;have hl:cW pre.has ρ i=some l:=by simp[cW,aa.has,h1,h3]
  refine⟨l,hl,?_,(h5.eP (Kept.eP ?_)).cut (hp i o h1)⟩
  ·rintro(hb|hb)
   ·exact h4 hb
   ·exact Uz eV af ⟨i,o,l,h1,h2,hl,rfl⟩ hb
  ·rintro b ((hb|hb)|hb)
   ·exact .inl hb
   ·exact .inr ((v_ eV b).2 (.inr hb))
   ·exact .inr ((v_ eV b).2 (.inl hb))
theorem FU{w:World}{O:Nat→Prop}{ρ:aC}{J pre:aa}(eV:∀i o,pre.get i=some o→J.get i=some o)(b:Nat):Ot (Ot O ρ (J.rest pre)) (cW pre.has ρ) pre b→Ot O ρ J b:=by
 rintro((hb|hb)|hb)
 ·exact .inl hb
 ·exact .inr ((v_ eV b).2 (.inr hb))
 ·exact .inr ((v_ eV b).2 (.inl hb))
section
variable{P:Program} {env:Env} {dst:Option Tmp} {ty:TypeId} {pos:String} {au:Array Edge} {g:Option (Nat×Bool)}
theorem aq.aak{o:Oper}{f:FuncId}{ds:List D}{r:D}{pre post J:aa}(hf:bh P f ds pre r post)(gv:jj pre J pre)(xr:D.okB.gS pre.has ds=true)(oo:tK post (J.rest pre)=true)
  (h:∀(O:Nat→Prop)(ρ:aC)(a:Act)(w:World),di w O ρ J→(∀x∈o.op.operands.toList,∀d',env.op x=some d'→V w (Ot O ρ J) ρ d' (a.eval x))→∃vals:List Value,(execOp a.eval o).run P w=.ok (.enter f vals.toArray) w∧Vs w (Ot O ρ J) ρ ds vals):
  aq P o env J r (post++J.rest pre):=by
 intro O ρ a w af dH hv;obtain⟨vals,gw,mz⟩:=h O ρ a w af hv;have eV:∀i o,pre.get i=some o→J.get i=some o:=fun i o ho=>(gv.sound i o ho).1;unfold Oper.wp;rw[gw];simp only[Oper.upon];have adh:Vs w (Ot (Ot O ρ (J.rest pre)) (cW pre.has ρ) pre) (cW pre.has ρ) ds vals:=
  Vs.YY xr (Vs.mono (Kept.eP fun b hb=>FU (w:=w) eV b hb) (bO.refl _) _ _ mz)
 refine Calls.mono (hf.out w _ _ vals (Pk eV gv.okB af) (dH.mono (Kept.eP fun b hb=>FU (w:=w) eV b hb)) adh) ?_;rintro e w' ⟨v,aw,rfl,bm,hr⟩;obtain⟨h1,h2,h3⟩:=Pj (fun _=>true) eV af bm.wA (ZB oo) (fun i l _ hl=>bm.le i l hl) (fun i o _=>Ob.KP o);exact⟨_,v,rfl,⟨fun i l hl=>h2 i l rfl hl,h1.size,h1.same,h1.new,h1.ok,h1.os⟩,h3 r v hr⟩
theorem eu{f:FuncId}{xs:List Operand}{tys:Array TypeId}{ds:List D}{r:D}{pre post J:aa}
  (fy:∀(args:Array Value)(w:World),(callFunc f args).run P w=.ok (.enter f args) w)(hx:env.lH xs=some ds)(hf:bh P f ds pre r post)(gv:jj pre J pre)(xr:D.okB.gS pre.has ds=true)(oo:tK post (J.rest pre)=true):
  aq P ⟨dst,.call ⟨.value (.func f),xs.toArray,tys⟩,ty,pos,au,g⟩ env J r (post++J.rest pre):=by
 refine aq.aak hf gv xr oo fun O ρ a w af hv=>?_;refine⟨xs.map a.eval,?_,v8 xs ds hx (fun x hx d' h=>hv x (by simp[Op.operands,Call.operands,hx]) d' h)⟩;have h1:execOp a.eval ⟨dst,.call ⟨.value (.func f),xs.toArray,tys⟩,ty,pos,au,g⟩=callFunc f (xs.map a.eval).toArray:=by
  simp[execOp,resolve,Deferred.ofValue,Act.eval,invoke,Bind.bind,Sem.bind,Pure.pure]
 rw[h1,fy]
theorem Pc{w:World}{O:Nat→Prop}{ρ:aC}{f:FuncId}{fs bx:List D}{v:Value}(h:V w O ρ (.fn (.func f) fs bx) v):∃us vs,v=.func (.func f) us vs∧Vs w O ρ fs us.toList∧Vs w O ρ bx vs.toList:=by simpa only[V]using h
theorem aaX(a:Act){y:Operand}{f:FuncId}{us vs:Array Value}{xs:List Operand}{tys:Array TypeId}(h:a.eval y=.func (.func f) us vs):
  execOp a.eval ⟨dst,.call ⟨.value y,xs.toArray,tys⟩,ty,pos,au,g⟩=callFunc f (us.toList++xs.map a.eval++vs.toList).toArray:=by
 have:us++(xs.map a.eval).toArray++vs=(us.toList++xs.map a.eval++vs.toList).toArray:=by simp
 simp[execOp,resolve,Deferred.ofValue,h,invoke,Bind.bind,Sem.bind,Pure.pure,this]
theorem cR{f:FuncId}{y:Operand}{xs:List Operand}{tys:Array TypeId}{ds fs bx:List D}{r:D}
  (fy:∀(args:Array Value)(w:World),(callFunc f args).run P w=.ok (.enter f args) w)(hy:env.op y=some (.fn (.func f) fs bx))(hx:env.lH xs=some ds)(hf:Fc P f (fs++ds++bx) r)(J:aa):
  aq P ⟨dst,.call ⟨.value y,xs.toArray,tys⟩,ty,pos,au,g⟩ env J r J:=by
 intro O ρ a w af dH hv;obtain⟨us,vs,e1,e2,e3⟩:=Pc (hv y (by simp[Op.operands,Call.operands]) _ hy);have mz:=v8 xs ds hx (fun x hx d' h=>hv x (by simp[Op.operands,Call.operands,hx]) d' h);unfold Oper.wp;rw[aaX a e1,fy];simp only[Oper.upon];refine Calls.mono (hf.out w (Ot O ρ J) ρ _ ?_ dH ((e2.append mz).append e3)) ?_
 ·rintro b (hb|hb)
  ·exact af.lt b hb
  ·exact(af.block hb).1
 ·rintro e w' ⟨v,rfl,h1,h2⟩;exact⟨ρ,v,rfl,Tr.qQ h2 af,h1⟩
end
theorem Xm{O:Nat→Prop}{w:World}{ρ:aC}{J:aa}{id:Nat}{ds:List D}{v:Value}(af:di w O ρ J)(ho:J.get id=some (.cells ds))(hp:D.bk.dw ds=true)(h1:oD ds=true)(hv:V w (Ot O ρ J) ρ (.box id 0) v):
  V w (Ot O ρ (J.set id .dead)) ρ (.bz ds) v:=by
 simp only[V]at hv⊢;obtain⟨l,e1,e⟩:=hv;obtain⟨l',h3,h4,vs,T,h5,h6⟩:=af.own id _ ho rfl;rw[e1]at h3;cases h3;have hk:=(Tr.die id af).kept;refine⟨l.b,0,e,⟨(Array.getElem?_eq_some_iff.1 h5).1,?_⟩,?_⟩
 ·rintro(hb|⟨i,x,l',g1,g2,g3,g4⟩)
  ·exact h4 hb
  ·have hx:=sj i x g1 g2;have:=af.inj i id x _ l' l hx ho g2 rfl g3 e1 g4;subst this;rw[aa.eG]at g1;simp only[if_true,Option.some.injEq]at g1;subst g1;simp[Ob.live]at g2
 ·refine Vc.ta h5 ds 0 ?_ ?_
  ·have hl:=h6.length;rw[List.drop_zero,List.take_of_length_le zO];exact Vs.mono hk (bO.refl _) _ _ (Vs.pure ds _ hp h6)
  ·have hl:=h6.length;rw[List.drop_zero,List.take_of_length_le zO];exact Vs.one h1 h6
theorem Le.h_{F:Fr}{env:Env}{J:aa}{ds:List D}(t id:Nat)(ht:env.get t=some (.box id 0))(ho:J.get id=some (.cells ds))(hp:D.bk.dw ds=true)(h1:oD ds=true):
  Le F env J ((t,.bz ds)::env) (J.set id .dead):=.step fun O ρ w f af hv=>by
 have bm:=Tr.die id af;refine⟨ρ,bm,fun s d h=>?_⟩;rw[Env.bf]at h;by_cases e:t=s
 ·rw[if_pos e]at h;cases h;subst e;exact Xm af ho hp h1 (hv t _ ht)
 ·rw[if_neg e]at h;exact bm.V (hv s d h)
def ym(ts:List Nat)(r:D)(post:aa):Exit→Env→aa→Prop
 |.ret,env,J|.normal,env,J=>(∃ds,getAll env ts=some ds∧Sub (s5 ds) r)∧jj post J post
 |_,_,_=>False
theorem bh.mk'{P:Program}{f:FuncId}{fn:Func}{c:Code}{args:List D}{r:D}{pre post:aa}(ts:List Nat)(hf:P.funcs[f]?=some fn)(hb:fn.body=some c){N:Nat}(hN:fn.ntmps=N)(hn:Nat.ble args.length N=true)(sM:(pre.map (·.1)).all post.has=true)(hr:r.okB post.has=true)
  (rE:∀tmps w,(results fn tmps).run P w=.ok (C1 ts tmps) w)(h:U P ⟨N,pre.map (·.1),false,none⟩ [c] (ym ts r post) (mc args 0) pre):bh P f args pre r post:=⟨fun w O ρ vals af dH hv=>by
 refine A' hf hb h.start (St.begin fn.ntmps hN (Nat.le_of_ble_eq_true hn) af dH hv _ none (fun _ _ e=>by cases e)) ?_ ?_
 ·intro e aS ai hq;cases e<;>first|exact .inl rfl|exact .inr rfl|exact hq.elim
 ·intro e aS ai tmps w' aw hq qC bm vA;have:(∃ds,getAll aS ts=some ds∧Sub (s5 ds) r)∧jj post ai post:=by cases e<;>first|exact hq|exact hq.elim
  obtain⟨⟨ds,h1,h2⟩,h3⟩:=this;have hO:∀b,b9 (cW post.has aw) post b→b9 aw ai b:=by
   rintro b ⟨i,o,l,g1,g2,g3,g4⟩;exact⟨i,o,l,(h3.sound i o g1).1,g2,ql g3,g4⟩
  refine⟨_,rE _ _,_,cW post.has aw,rfl,⟨?_,bm.size,bm.same,fun b hb=>bm.new b (hO b hb),bm.ok.sub h3.sound,bm.os⟩,?_⟩
  ·intro i l hl;have hi:pre.has i=true:=by
    cases hp:pre.get i with
    |none=>rw[af.fresh i hp]at hl;cases hl
    |some o=>exact aa.jl.2 ⟨o,hp⟩
   have hm:i∈pre.map (·.1):=by
    obtain⟨o,ho⟩:=aa.jl.1 hi;have key:∀p:aa,p.get i=some o→i∈p.map (·.1):=by
     intro p;induction p with
     |nil=>intro h;simp[aa.get]at h
     |cons q r ih=>
      obtain⟨t,d⟩:=q;intro h;rw[aa.bf]at h;by_cases e:t=i
      ·subst e;simp
      ·rw[if_neg e]at h;exact List.mem_cons_of_mem _ (ih h)
    exact key pre ho
   have:=List.all_eq_true.1 sM i hm;simp[cW,this,qC i hm l hl]
  ·have h4:=h2.out _ _ _ _ (Vs.res (Ez vA ts ds h1));exact V.cut r _ hr (V.mono (Kept.eP fun b hb=>hb.imp _root_.id (hO b)) (bO.refl _) _ _ h4)⟩
theorem wq{env:Env}{J post:aa}{t:Nat}{d r:D}(h:env.get t=some d)(s:Sub d r)(hp:jj post J post):ym [t] r post .ret env J:=⟨⟨[d],by simp[getAll,h],s⟩,hp⟩
theorem UC{env:Env}{J post:aa}{t u:Nat}{d e d' e':D}(h:env.get t=some d)(h':env.get u=some e)(s:Sub d d')(s':Sub e e')(hp:jj post J post):ym [t,u] (.bl [d',e']) post .ret env J:=⟨⟨[d,e],by simp[getAll,h,h'],.GH s s'⟩,hp⟩
theorem UB{env:Env}{J post:aa}{r:D}(s:Sub (.bl []) r)(hp:jj post J post):ym [] r post .ret env J:=⟨⟨[],rfl,s⟩,hp⟩
theorem tn{env:Env}{J post:aa}{r:D}(s:Sub (.bl []) r)(hp:jj post J post):ym [] r post .normal env J:=⟨⟨[],rfl,s⟩,hp⟩
structure Tx(P:Program)(F:Fr)(ops:Array Oper)(K:Env→aa→Prop)(l:List Oper)(env:Env)(J:aa):Prop where
 out:∀(C:Ctx)(Q:Exit→Act→World→Prop),(∀a w aS ai,K aS ai→St F C aS ai a w→Q .normal a w)→∀(i:Nat) a w,ops.toList.drop i=l→St F C env J a w→wpOpsIn (fz C.ro) 0 P ops Q (List.range' i l.length) a w
section
variable{P:Program} {F:Fr} {ops:Array Oper} {K:Env→aa→Prop} {l:List Oper} {env:Env} {J:aa} {o:Oper}
theorem Tx.nil(h:K env J):Tx P F ops K [] env J:=⟨fun C Q hQ i a w _ hs=>by
 simp only[List.length_nil,List.range',wpOpsIn];exact hQ a w env J h hs⟩
theorem Oj{ops:Array Oper}{i:Nat}{o:Oper}{l:List Oper}(h:ops.toList.drop i=o::l):ops[i]?=some o∧ops.toList.drop (i+1)=l:=by
 constructor
 ·have:=congrArg List.head? h;simpa[List.head?_drop]using this
 ·rw[←List.drop_drop,h];rfl
theorem Tx.many(hg:On ops env o)(h:∀(C:Ctx)(Q:Exit→Act→World→Prop)(k:Act→World→Prop)(a:Act)(w:World)(ρ:aC),qf F C env J a w ρ→(∀a' w' aS ai,Tx P F ops K l aS ai→St F C aS ai a' w'→k a' w')→o.wpIn (fz C.ro) 0 P a w k Q):Tx P F ops K (o::l) env J:=⟨fun C Q hQ i a w hd hs=>by
 obtain⟨ho,BD⟩:=Oj hd;obtain⟨ρ,bd⟩:=hs;simp only[List.length_cons,List.range',wpOpsIn,ho];rw[if_pos (Ds hg (fun _ _ t _ _ d h=>bd.env t d h))];exact h C Q _ a w ρ bd (fun a' w' aS ai hk ib=>hk.out C Q hQ (i+1) a' w' BD ib)⟩
theorem Tx.q{d:D}{ai:aa}(hd:eQ F.N o.dst=true)(hg:On ops env o)(h:aq P o env J d ai)(k:Tx P F ops K l (env.put o.dst d) ai):Tx P F ops K (o::l) env J:=
 .many hg fun C Q kk a w ρ bd hk=>by
  have:=h C.O ρ a w bd.tr.ok bd.xl (fun x _ d' h=>uG bd.env x d' h);refine Oper.wpIn_mono ?_ (yC C.ro this (by rintro a' w' ⟨aw,v,rfl,_⟩;exact Act.mI ..));rintro a' w' ⟨aw,v,rfl,kZ,hv⟩;exact hk _ _ _ _ k ⟨aw,bd.step kZ (vj bd.size hd (fun t d h=>kZ.V (bd.env t d h)) hv) (Act.uS _ _ _) (Act.mI ..)⟩
def tD(P:Program)(o:Oper)(env:Env)(J:aa){ι:Type}(A:ι→Prop)(d:ι→D)(ai:ι→aa):Prop:=
 ∀(O:Nat→Prop)(ρ:aC)(a:Act)(w:World),di w O ρ J→Gl w (Ot O ρ J)→
  (∀x∈o.op.operands.toList,∀d',env.op x=some d'→V w (Ot O ρ J) ρ d' (a.eval x))→
  o.wp P a w (fun a' w'=>∃i aw v,A i∧a'=a.put o.dst v∧Tr O w ρ J w' aw (ai i)∧V w' (Ot O aw (ai i)) aw (d i) v) (fun _ _ _=>False)
theorem Tx.n{ι:Type}{A:ι→Prop}{d:ι→D}{ai:ι→aa}(hd:eQ F.N o.dst=true)(hg:On ops env o)(h:tD P o env J A d ai)(k:∀i,A i→Tx P F ops K l (env.put o.dst (d i)) (ai i)):Tx P F ops K (o::l) env J:=
 .many hg fun C Q kk a w ρ bd hk=>by
  have:=h C.O ρ a w bd.tr.ok bd.xl (fun x _ d' h=>uG bd.env x d' h);refine Oper.wpIn_mono ?_ (yC C.ro this (by rintro a' w' ⟨i,aw,v,_,rfl,_⟩;exact Act.mI ..));rintro a' w' ⟨i,aw,v,hA,rfl,kZ,hv⟩;exact hk _ _ _ _ (k i hA) ⟨aw,bd.step kZ (vj bd.size hd (fun t d h=>kZ.V (bd.env t d h)) hv) (Act.uS _ _ _) (Act.mI ..)⟩
theorem Tx.off(hd:eQ F.N o.dst=true)(hg:tC ops env o)(k:Tx P F ops K l (env.put o.dst (.raw undef)) J):Tx P F ops K (o::l) env J:=⟨fun C Q hQ i a w hdr hs=>by
 obtain⟨ho,BD⟩:=Oj hdr;obtain⟨ρ,bd⟩:=hs;simp only[List.length_cons,List.range',wpOpsIn,ho];rw[if_neg (by simp[Mf hg (fun _ _ t _ _ d h=>bd.env t d h)])];exact⟨fun _ _=>trivial,k.out C Q hQ (i+1) _ _ BD ⟨ρ,bd.step (Tr.refl bd.tr.ok) (vj bd.size hd bd.env (by simp[V])) (Act.uS _ _ _) (Act.mI ..)⟩⟩⟩
theorem Tx.bC{aS:Env}{ai:aa}(h:Le F env J aS ai)(k:Tx P F ops K l aS ai):Tx P F ops K l env J:=⟨fun C Q hQ i a w hd hs=>k.out C Q hQ i a w hd (h.out C a w hs)⟩
theorem U.wo{Q:Exit→Env→aa→Prop}{cs:List Code}{id:Nat}{l:List Oper}(h:Tx P F l.toArray (U P F cs Q) l env J):U P F (.region id l.toArray false::cs) Q env J:=⟨⟨fun C a w hs=>by
 refine wpIn_region ?_;rw[List.range_eq_range'];have:=h.out C (fun e a' w'=>∃aS ai,kr (pI P F cs Q) Q e aS ai∧St F C aS ai a' w') (fun a w aS ai hk hs=>⟨aS,ai,hk.out,hs⟩) 0 a w zS hs;simpa using this⟩⟩
end
end Go.T
namespace Go.T
open Go
section
variable[bT] {P:Program} {f:FuncId} {fn:Func} {c:Code} {args:List D} {r:D} {t u v N:Nat}
theorem fk0(hf:P.funcs[f]?=some fn)(hN:fn.ntmps=N)(hR:fn.results=#[])(h:U P ⟨N,[],false,none⟩ [c] (wu [] r) (mc args 0) [])(hb:fn.body=some c:=by rfl)(hn:Nat.ble args.length N=true:=by rfl)(hp:D.bk.dw args=true:=by rfl)(hr:r.bk=true:=by rfl):Fc P f args r:=
 Fc.mk' [] hf hb hN hn hp hr (fun t w=>results_none hR t _ w) h
theorem bE(hf:P.funcs[f]?=some fn)(hN:fn.ntmps=N)(hR:fn.results=#[.tmp t])(h:U P ⟨N,[],false,none⟩ [c] (wu [t] r) (mc args 0) [])(hb:fn.body=some c:=by rfl)(hn:Nat.ble args.length N=true:=by rfl)(hp:D.bk.dw args=true:=by rfl)(hr:r.bk=true:=by rfl):Fc P f args r:=
 Fc.mk' [t] hf hb hN hn hp hr (fun t w=>results_tmp hR t _ w) h
theorem pO(hf:P.funcs[f]?=some fn)(hN:fn.ntmps=N)(hR:fn.results=#[.tmp t,.tmp u])(h:U P ⟨N,[],false,none⟩ [c] (wu [t,u] r) (mc args 0) [])(hb:fn.body=some c:=by rfl)(hn:Nat.ble args.length N=true:=by rfl)(hp:D.bk.dw args=true:=by rfl)(hr:r.bk=true:=by rfl):Fc P f args r:=
 Fc.mk' [t,u] hf hb hN hn hp hr (fun t w=>results_tmp2 hR t _ w) h
theorem Io(hf:P.funcs[f]?=some fn)(hN:fn.ntmps=N)(hR:fn.results=#[.tmp t,.tmp u,.tmp v])(h:U P ⟨N,[],false,none⟩ [c] (wu [t,u,v] r) (mc args 0) [])(hb:fn.body=some c:=by rfl)(hn:Nat.ble args.length N=true:=by rfl)(hp:D.bk.dw args=true:=by rfl)(hr:r.bk=true:=by rfl):Fc P f args r:=
 Fc.mk' [t,u,v] hf hb hN hn hp hr (fun t w=>results_tmp3 hR t _ w) h
variable{pre post:aa}
theorem Pd(hf:P.funcs[f]?=some fn)(hN:fn.ntmps=N)(hR:fn.results=#[])(h:U P ⟨N,pre.map (·.1),false,none⟩ [c] (ym [] r post) (mc args 0) pre)(hb:fn.body=some c:=by rfl)(hn:Nat.ble args.length N=true:=by rfl)(hp:(pre.map (·.1)).all post.has=true:=by rfl)(hr:r.okB post.has=true:=by rfl):bh P f args pre r post:=
 bh.mk' [] hf hb hN hn hp hr (fun t w=>results_none hR t _ w) h
theorem xj(hf:P.funcs[f]?=some fn)(hN:fn.ntmps=N)(hR:fn.results=#[.tmp t])(h:U P ⟨N,pre.map (·.1),false,none⟩ [c] (ym [t] r post) (mc args 0) pre)(hb:fn.body=some c:=by rfl)(hn:Nat.ble args.length N=true:=by rfl)(hp:(pre.map (·.1)).all post.has=true:=by rfl)(hr:r.okB post.has=true:=by rfl):bh P f args pre r post:=
 bh.mk' [t] hf hb hN hn hp hr (fun t w=>results_tmp hR t _ w) h
end
theorem rg[bT]{P:Program}{F:Fr}{cs:List Code}{Q:Exit→Env→aa→Prop}{env:Env}{J:aa}{id:Nat}{l:List Oper}{ks:List Kind}(h:dt P F.N l.toArray (U P F cs Q) l ks env J):U P F (.region id l.toArray false::cs) Q env J:=U.cH ks h
theorem du.n{ai:aa}{env:Env}:∀{e:Env}(k:Nat),(e.take k).map (fun p=>env.get p.1)=(e.take k).map (fun p=>some p.2)→(e.take k).all (fun p=>p.2.okB ai.has)=true→du ai env (e.drop k)→du ai env e
 |_,0,_,_,r=>r
 |[],_+1,_,_,_=>.nil
 |(t,d)::e,k+1,h1,h2,r=>by
  simp only[List.take_succ_cons,List.map_cons,List.cons.injEq,List.all_cons,Bool.and_eq_true]at h1 h2;exact .cons h1.1 (Sub.refl _) h2.1 (du.n k h1.2 h2.2 r)
theorem lc{α:Type}{l pre rest:List α}(h:l=pre++rest):(rest=[]∧l.length=pre.length+([]:List α).length)∨∃x r,rest=x::r∧l.length=pre.length+(r.length+1):=by
 cases rest with
 |nil=>exact .inl ⟨rfl,by rw[h,List.length_append]⟩
 |cons x r=>exact .inr ⟨x,r,rfl,by rw[h,List.length_append,List.length_cons]⟩
structure dM where
 mT:ae
 oV:ae
 fq:ae
 deriving DecidableEq,Inhabited
structure Entry where
 day:Int
 fe:ae
 lines:List dM
 deriving DecidableEq,Inhabited
@[reducible] def iZ(x:dM):List D:=[.str x.mT,.str x.oV,.str x.fq]
@[reducible] def kC(x:Entry):List D:=[.i x.day,.str x.fe,.snap 3 false (x.lines.map iZ)]
@[reducible] def pz(l:List dM):D:=.snap 3 false (l.map iZ)
@[reducible] def jN(l:List ae):D:=.snap 1 false (l.map fun s=>[.str s])
def dh(c:UInt8):Bool:=48≤c.toNat&&c.toNat≤57
def dZ:ae→ae×Bool
 |45::r=>(r,true)
 |s=>(s,false)
def ff:ae→ae
 |48::r=>ff r
 |s=>s
def digits(s:ae):ae×Bool:=if(dZ s).1.all dh then(ff (dZ s).1,(dZ s).2&&decide (ff (dZ s).1≠[]))else([],false)
def canon(s:ae):ae:=if(digits s).2 then 45::(digits s).1 else(digits s).1
def natVal(d:ae):Nat:=d.foldl (fun a c=>10*a+(c.toNat-48)) 0
def val(s:ae):Int:=if(digits s).2 then -(natVal (digits s).1:Int)else natVal (digits s).1
def Ag(c:UInt8):Bool:=(97≤c.toNat&&c.toNat≤122)||(48≤c.toNat&&c.toNat≤57)||c.toNat==95
def isName(s:ae):Bool:=1≤s.length&&s.length≤16&&s.all Ag
def ig(s:ae):Bool:=s.all (fun c=>65≤c.toNat&&c.toNat≤90)&&s.length==3
def Mc(d:Int):Bool:=decide (-25567≤d)&&decide (d≤84005)
def ab5(x:dM):Bool:=decide (60<x.mT.length)||decide (60<x.oV.length)||decide (13<x.fq.length)
def ab6(e:Entry):Bool:=decide (60<e.fe.length)||(decide (8<e.lines.length)&&decide (e.lines.length≤64))||decide (66<e.lines.length)||e.lines.any ab5
def aqg(l:List Entry):Bool:=decide (10<l.length)||l.any ab6
def dm(a b:ae):Int:=if ae.lt a b then -1 else if ae.lt b a then 1 else 0
def me(a b:dM):Int:=if dm a.mT b.mT≠0 then dm a.mT b.mT else dm a.oV b.oV
def kl(a b:ae):Int:=
 if(digits a).2≠(digits b).2 then(if(digits a).2 then -1 else 1)
 else if(digits a).1.length≠(digits b).1.length then(if(digits a).1.length<(digits b).1.length then(if(digits a).2 then 1 else -1)else(if(digits a).2 then -1 else 1))
 else if ae.lt (digits a).1 (digits b).1 then(if(digits a).2 then 1 else -1)else if ae.lt (digits b).1 (digits a).1 then(if(digits a).2 then -1 else 1)else 0
def rj(s:ae):Int:=if canon s=s then 0 else 1
def agr(s:ae):ae:=if(digits s).2=true∨(digits s).1=[]then(digits s).1 else 45::(digits s).1
structure cF where
 num:ae
 den:ae
 deriving DecidableEq,Inhabited
structure gi where
 iO:ae
 eX:ae
 deriving DecidableEq,Inhabited
structure ir where
 other:ae
 ratio:cF
 iQ:cF
 value:cF
 deriving DecidableEq,Inhabited
structure Fact where
 key:ae
 yw:Int
 cancelled:Bool
 day:Int
 kind:Int
 ie:ae
 other:ae
 cur:ae
 target:ae
 eX:ae
 cV:ae
 tS:ae
 iQ:cF
 ratio:cF
 share:cF
 ll:List gi
 opts:List ir
 choice:Int
 deriving DecidableEq,Inhabited
structure cK where
 id:ae
 kind:Int
 cur:ae
 places:Int
 Fb:Int
 Cs:Int
 oe:cF
 oa:cF
 Cu:Int
 count:Int
 other:ae
 oN:cF
 deriving DecidableEq,Inhabited
structure dB where
 code:ae
 places:Int
 deriving DecidableEq,Inhabited
structure GP where
 code:ae
 kind:Int
 deriving DecidableEq,Inhabited
structure Setup where
 wV:List dB
 insts:List cK
 A3:List GP
 V0:List Int
 QK:List Int
 marks:List Int
 akh:Int
 deriving DecidableEq,Inhabited
@[reducible] def iL(x:cF):List D:=[.str x.num,.str x.den]
@[reducible] def rm(x:gi):List D:=[.str x.iO,.str x.eX]
@[reducible] def tN(x:ir):List D:=[.str x.other,.str x.ratio.num,.str x.ratio.den,.str x.iQ.num,.str x.iQ.den,.str x.value.num,.str x.value.den]
@[reducible] def tt(l:List gi):D:=.snap 2 false (l.map rm)
@[reducible] def rW(l:List ir):D:=.snap 7 false (l.map tN)
@[reducible] def ed(f:Fact):List D:=[.str f.key,.i f.yw,.b f.cancelled,.i f.day,.i f.kind,.str f.ie,.str f.other,.str f.cur,.str f.target,.str f.eX,.str f.cV,.str f.tS,
 .str f.iQ.num,.str f.iQ.den,.str f.ratio.num,.str f.ratio.den,.str f.share.num,.str f.share.den,tt f.ll,rW f.opts,.i f.choice]
@[reducible] def mh(x:cK):List D:=[.str x.id,.i x.kind,.str x.cur,.i x.places,.i x.Fb,.i x.Cs,.str x.oe.num,.str x.oe.den,.str x.oa.num,.str x.oa.den,.i x.Cu,.i x.count,.str x.other,.str x.oN.num,.str x.oN.den]
@[reducible] def w_(x:dB):List D:=[.str x.code,.i x.places]
@[reducible] def aab(x:GP):List D:=[.str x.code,.i x.kind]
@[reducible] def oK(l:List Int):D:=.snap 1 false (l.map fun n=>[D.i n])
@[reducible] def p_(l:List dB):D:=.snap 2 false (l.map w_)
@[reducible] def uP(l:List cK):D:=.snap 15 false (l.map mh)
@[reducible] def ajp(l:List GP):D:=.snap 2 false (l.map aab)
@[reducible] def qZ(l:List Fact):D:=.snap 21 false (l.map ed)
@[reducible] def xb(s:Setup):List D:=[p_ s.wV,uP s.insts,ajp s.A3,oK s.V0,oK s.QK,oK s.marks,.i s.akh]
@[reducible] def gt(n:Int)(s:ae):Bool:=decide (n<(s.length:Int))
@[reducible] def mr{α:Type}(n:Int)(l:List α):Bool:=decide (n<(l.length:Int))
@[reducible] def zV{α:Type}(n:Int)(l:List α):Bool:=decide ((l.length:Int)≤n)
def Iz(f:cF):Bool:=gt 60 f.num||gt 60 f.den
def IB(x:cK):Bool:=gt 60 x.id||gt 60 x.cur||gt 60 x.other||[x.oe,x.oa,x.oN].any Iz
def IC(l:List cK):Bool:=l.any IB||(mr 8 l&&zV 64 l||mr 67 l)
def ab7(l:List dB):Bool:=(l.take 24).any (fun c=>gt 8 c.code)||mr 18 l
def ab4(w h:List Int):Bool:=mr 10 w||mr 20 h&&decide ((h.length:Int)<980)||mr 1005 h
def PL(s:Setup):Bool:=s.A3.any (fun a=>gt 120 a.code)||(mr 16 s.A3&&zV 256 s.A3||mr 259 s.A3)||
 (IC s.insts||ab7 s.wV||ab4 s.V0 s.QK||mr 4 s.marks&&zV 64 s.marks||mr 66 s.marks)
def vS(f:cF):Bool:=gt 13 f.num||gt 13 f.den
def PK(p:gi):Bool:=gt 30 p.iO||decide (13<p.eX.length)
def EI(o:ir):Bool:=gt 24 o.other||vS o.ratio||vS o.iQ||vS o.value
def PH(f:Fact):Bool:=gt 24 f.key||gt 24 f.ie||gt 24 f.other||gt 24 f.cur||gt 24 f.target||decide (13<f.eX.length)||decide (13<f.cV.length)||decide (13<f.tS.length)||vS f.iQ||vS f.ratio||vS f.share
def PI(f:Fact):Bool:=mr 4 f.ll&&zV 64 f.ll||mr 66 f.ll||mr 3 f.opts&&zV 8 f.opts||mr 10 f.opts
def EH(f:Fact):Bool:=PH f||(PI f||(f.ll.any PK||f.opts.any EI))
def PJ(l:List Fact):Bool:=(mr 12 l&&zV 1000 l||mr 1002 l)||l.any EH
def ID(l:List Fact):Bool:=mr 8 l||PJ l
theorem MX{α:Type}{l pre rest:List α}{x:α}{P:α→Bool}(hx:l=pre++x::rest)(h:P x=true):l.any P=true:=by subst hx;simp[h]
theorem MW{α:Type}{l pre:List α}{P:α→Bool}(hx:l=pre++[])(h:pre.any P=false):l.any P=false:=by subst hx;simpa using h
theorem r8{α:Type}{pre:List α}{x:α}{P:α→Bool}(h:pre.any P=false)(h2:P x=false):(pre++[x]).any P=false:=by simp[h2];simpa using h
variable[bT]
theorem Ob.Ao{o:Ob}{f g:Nat→Bool}(h:∀i,f i=true→g i=true)(ho:o.okB f=true):o.okB g=true:=by
 cases o with
 |dead=>rfl
 |cells ds=>exact D.td ds h ho
 |arr sz rows=>rfl
 |lp st Au s env=>exact D.td _ h ho
 |mp rK=>
  simp only[Ob.okB,Bool.and_eq_true]at ho⊢;exact⟨D.td _ h ho.1,D.td _ h ho.2⟩
 |mi m yr seen=>exact h m ho
 |fu j n=>exact h j ho
 |ba s=>rfl
 |res sz=>rfl
 |mj ks vs seen=>rfl
 |mn=>rfl
theorem b9.congr{ρ:aC}{J ai:aa}(h:∀i,J.get i=ai.get i)(b:Nat):b9 ρ J b↔b9 ρ ai b:=by
 unfold b9;simp only[h]
theorem Ot.congr{O:Nat→Prop}{ρ:aC}{J ai:aa}(h:∀i,J.get i=ai.get i)(b:Nat):Ot O ρ J b↔Ot O ρ ai b:=by
 unfold Ot;rw[b9.congr h b]
theorem di.congr{w:World}{O:Nat→Prop}{ρ:aC}{J ai:aa}(h:∀i,J.get i=ai.get i)(af:di w O ρ J):di w O ρ ai:=by
 refine⟨af.lt,fun i hi=>af.fresh i (by rw[h];exact hi),fun i o h1 h2=>?_,fun i j o o' l l' a b=>af.inj i j o o' l l' (by rw[h];exact a) (by rw[h];exact b)⟩;obtain⟨l,h3,h4,h5⟩:=af.own i o (by rw[h];exact h1) h2;exact⟨l,h3,h4,h5.eP (Kept.eP fun b hb=>(Ot.congr h b).2 hb)⟩
theorem iw.congr{O:Nat→Prop}{w w':World}{ρ aw:aC}{J dn mG:aa}(h:∀i,dn.get i=mG.get i)(ht:iw O w ρ J w' aw dn):iw O w ρ J w' aw mG:=
 ⟨ht.size,ht.same,fun b hb=>ht.new b ((b9.congr h b).2 hb),ht.ok.congr h,ht.os⟩
theorem iw.YH{O:Nat→Prop}{w w':World}{ρ aw:aC}{J ai dn:aa}(h:∀i,J.get i=ai.get i)(ht:iw O w ρ J w' aw dn):iw O w ρ ai w' aw dn:=
 ⟨ht.size,fun b hb ho=>ht.same b hb fun g=>ho ((b9.congr h b).1 g),fun b hb=>(ht.new b hb).imp (b9.congr h b).1 _root_.id,ht.ok,ht.os⟩
structure MB(P:Program)(aK lb:Nat)(ids:List Nat)(x:List D)(B B':aa)(X:aa→Prop):Prop where
 out:∀(O:Nat→Prop)(ρ:aC)(w:World)(vals:List Value)(l:Loc),ρ aK=some l→l.b=lb→di w O ρ B→Gl w (Ot O ρ B)→Vs w (Ot O ρ B) ρ x vals→
  ∃fn tmps assign body,(Instr.yield lb vals.toArray).run P w=.ok (.round lb fn tmps assign body) w∧
   RoundIn Fence.wide 0 P lb fn tmps assign body w (fun e w'=>∃b aw o,e=.returned (.bool b)∧((b=true∧o=B')∨(b=false∧X o))∧iw O w ρ B w' aw o∧∀i∈ids,∀l,ρ i=some l→aw i=some l)
structure A1{α:Type}(P:Program)(lo aK lb:Nat)(ids:List Nat)(B:List α→aa)(X:aa→Prop)(enc:α→List D)(ok:List α→Prop):Prop where
 mem:aK∈ids
 has:∀pre,ids.all (B pre).has=true
 acz:∀o,X o→ids.all o.has=true
 CH:∀pre i o,(B pre).get i=some o→o.okB (B pre).has=true
 okX:∀o,X o→∀i x,o.get i=some x→x.okB o.has=true
 free:∀pre i,lo≤i→i<lo+100→(B pre).get i=none
 Po:∀o,X o→∀i,lo≤i→i<lo+100→o.get i=none
 step:∀pre x,ok (pre++[x])→MB P aK lb ids (enc x) (B pre) (B (pre++[x])) X
@[reducible] def yv(lb:Nat):D:=.raw (.func (.yield lb) #[] #[])
structure AX{α:Type}(P:Program)(f:FuncId)(lo:Nat)(bx:List D)(own:aa)(enc:α→List D)(ok fin:List α→Prop):Prop where
 out:∀(aK lb:Nat)(ids:List Nat)(B:List α→aa)(X:aa→Prop),A1 P lo aK lb ids B X enc ok→∀w O ρ vals l,ρ aK=some l→l.b=lb→di w O ρ (own++B [])→Gl w (Ot O ρ (own++B []))→Vs w (Ot O ρ (own++B [])) ρ bx vals→
  Calls P f (.func (.yield lb) #[] #[]::vals).toArray w (fun e w'=>∃v aw o,e=.returned v∧((∃xs,fin xs∧o=B xs)∨X o)∧iw O w ρ (own++B []) w' aw o∧∀i∈ids,∀l,ρ i=some l→aw i=some l)
def mA(lo:Nat)(own:aa):Bool:=own.all fun p=>Nat.ble lo p.1&&Nat.blt p.1 (lo+100)
theorem sS{lo:Nat}{own:aa}(h:mA lo own=true):∀i,own.has i=true→lo≤i∧i<lo+100:=by
 intro i hi;obtain⟨o,ho⟩:=aa.jl.1 hi;induction own with
 |nil=>simp[aa.get]at ho
 |cons p r ih=>
  obtain⟨t,d⟩:=p;simp only[mA,List.all_cons,Bool.and_eq_true]at h;rw[aa.bf]at ho;by_cases e:t=i
  ·subst e;exact⟨Nat.le_of_ble_eq_true h.1.1,by simpa[Nat.blt_eq]using h.1.2⟩
  ·rw[if_neg e]at ho;exact ih h.2 (aa.jl.2 ⟨o,ho⟩) ho
theorem IY{i:Nat}:∀{own:aa},i∈own.map (·.1)→own.has i=true
 |[],hi=>by simp at hi
 |(t,d)::r,hi=>by
  simp only[aa.has,aa.bf];by_cases e:t=i
  ·simp[e]
  ·rw[if_neg e];simp only[List.map_cons,List.mem_cons]at hi;exact IY (own:=r) (hi.resolve_left (fun e'=>e e'.symm))
inductive r5(f:Nat→Bool)(env:Env):Env→Prop
 |nil:r5 f env []
 |cons {t:Nat} {d:D} {e:Env} (h:env.get t=some d) (hp:d.okB f=true) (r:r5 f env e):r5 f env ((t,d)::e)
theorem r5.sound{f:Nat→Bool}{env aS:Env}(h:r5 f env aS):∀t d,aS.get t=some d→env.get t=some d∧d.okB f=true:=by
 induction h with
 |nil=>intro t d h;simp[Env.get]at h
 |@cons t0 d0 e h hp _ ih=>
  intro t d hd;rw[Env.bf]at hd;by_cases e:t0=t
  ·rw[if_pos e]at hd;cases hd;exact⟨e▸h,hp⟩
  ·rw[if_neg e]at hd;exact ih t d hd
section
variable{P:Program} {F:Fr} {ops:Array Oper} {K:Env→aa→Prop} {ol:List Oper} {env:Env}
theorem aaY(a:Act){y:Operand}{lb:Nat}{xs:List Operand}{tys:Array TypeId}{dst:Option Tmp}{ty:TypeId}{pos:String}{au:Array Edge}{g:Option (Nat×Bool)}(h:a.eval y=.func (.yield lb) #[] #[]):
  execOp a.eval ⟨dst,.call ⟨.value y,xs.toArray,tys⟩,ty,pos,au,g⟩=Instr.yield lb (xs.map a.eval).toArray:=by
 simp[execOp,resolve,Deferred.ofValue,h,invoke,Bind.bind,Sem.bind,Pure.pure]
theorem Tx.y2{α:Type}{lo aK lb:Nat}{ids:List Nat}{B:List α→aa}{X:aa→Prop}{enc:α→List D}{ok:List α→Prop}(Y:A1 P lo aK lb ids B X enc ok){own:aa}{pre:List α}{aS:Env}{y:Operand}{xs:List Operand}{tys:Array TypeId}{dst:Option Tmp}{ty:TypeId}{pos:String}{au:Array Edge}{g:Option (Nat×Bool)}
  {p0:List Nat}(x:α)(IS:F.yl=some (aK,lb))(sM:F.ps=ids++p0)(hp0:p0.all own.has=true)(hd:eQ F.N dst=true)(hg:On ops env ⟨dst,.call ⟨.value y,xs.toArray,tys⟩,ty,pos,au,g⟩)(hy:env.op y=some (yv lb))(hx:env.lH xs=some (enc x))(JC:D.bk.dw (enc x)=true)(af:ok (pre++[x]))
  (fj:mA lo own=true)(Jz:own.okB own.has=true)(he:r5 own.has env aS)
  (kT:Tx P F ops K ol (aS.put dst (.raw (.bool true))) (own++B (pre++[x])))(kF:∀o,X o→Tx P F ops K ol (aS.put dst (.raw (.bool false))) (own++o)):
  Tx P F ops K (⟨dst,.call ⟨.value y,xs.toArray,tys⟩,ty,pos,au,g⟩::ol) env (own++B pre):=
 .many hg fun C Q kk a w ρ bd hk=>by
  have zq:=uG bd.env y _ hy;simp only[V]at zq;obtain⟨_,l0,QA,ke⟩:=bd.yl aK lb IS;have qD:aK∈F.ps:=by rw[sM];exact List.mem_append_left _ Y.mem
  have nG:=bd.keep aK qD l0 QA;have mz:=v8 xs _ hx (fun x _ d' h=>uG bd.env x d' h);have IR:∀i,own.has i=true→(B pre).get i=none:=fun i hi=>Y.free pre i (sS fj i hi).1 (sS fj i hi).2;have ac4:∀(o:aa),(∀i,own.has i=true→o.get i=none)→∀i x,o.get i=some x→aa.get (own++o) i=some x:=by
   intro o ho i x hi;rw[aa.get_append];cases hp:own.get i with
   |none=>exact hi
   |some z=>rw[ho i (aa.jl.2 ⟨z,hp⟩)]at hi;cases hi
  have eV:=ac4 (B pre) IR;have JE:∀i,(aa.rest (own++B pre) (B pre)).get i=own.get i:=by
   intro i;rw[aa.su,aa.get_append];cases hp:own.get i with
   |some z=>simp[aa.has,IR i (aa.jl.2 ⟨z,hp⟩)]
   |none=>
    cases hb:(B pre).get i with
    |none=>simp[aa.has,hb]
    |some z=>simp[aa.has,hb]
  have ac7:∀i,(aa.rest (own++B pre) (B pre)).has i=own.has i:=fun i=>by simp[aa.has,JE]
  have Jg:(B pre).has aK=true:=List.all_eq_true.1 (Y.has pre) aK Y.mem;have BR:=Pk (J:=own++B pre) (pre:=B pre) eV (Y.CH pre) bd.tr.ok;have adi:Vs w (Ot (Ot C.O ρ (aa.rest (own++B pre) (B pre))) (cW (B pre).has ρ) (B pre)) (cW (B pre).has ρ) (enc x) (xs.map a.eval):=
   Vs.pure _ _ JC (Vs.mono (Kept.eP fun b hb=>FU (w:=w) eV b hb) (bO.refl _) _ _ mz)
  obtain⟨fn,tmps,assign,body,gw,ac8⟩:=(Y.step pre x af).out _ _ w (xs.map a.eval) l0 (by simp[cW,Jg,nG]) ke BR (bd.xl.mono (Kept.eP fun b hb=>FU (w:=w) eV b hb)) adi;refine⟨fun _ _=>trivial,?_⟩;rw[Oper.semAt_eq _ _ _ (fun c hc=>by cases hc),aaY a zq,gw];simp only[Oper.uponIn];refine⟨fun e=>by simp[fz,Fence.wide]at e,?_⟩;have ac9:RoundIn (fz C.ro) 0 P lb fn tmps assign body w _:=ac8;refine ac9.mono ?_;rintro e w' ⟨b,aw,o,rfl,ho,bm,qC⟩;have Qr:∀i,own.has i=true→o.get i=none:=by
   rcases ho with⟨_,rfl⟩|⟨_,ho⟩
   ·exact fun i hi=>Y.free _ i (sS fj i hi).1 (sS fj i hi).2
   ·exact fun i hi=>Y.Po o ho i (sS fj i hi).1 (sS fj i hi).2
  obtain⟨h1,h2,_⟩:=Pj (fun i=>ids.contains i||own.has i) eV bd.tr.ok bm
   (fun i hi=>by
    rw[ac7];cases hp:own.has i with
    |false=>rfl
    |true=>rw[aa.has,Qr i hp]at hi;cases hi)
   (fun i l hs hl=>by
    simp only[Bool.or_eq_true,List.contains_iff_mem]at hs;rcases hs with hs|hs
    ·exact qC i hs l hl
    ·simp[cW,aa.has,IR i hs]at hl)
   (fun i x hx=>by
    rw[JE]at hx;exact Ob.Ao (fun j hj=>by simp[hj]) (aa.KO Jz i x hx))
  have BC:∀i,aa.get (o++aa.rest (own++B pre) (B pre)) i=aa.get (own++o) i:=by
   intro i;rw[aa.get_append,aa.get_append,JE];cases hp:own.get i with
   |none=>cases o.get i<;>rfl
   |some z=>rw[Qr i (aa.jl.2 ⟨z,hp⟩)]
  have tY:=h1.congr BC;have sN:∀v:Bool,St F C (aS.put dst (.raw (.bool v))) (own++o) (a.put dst (.bool v)) w':=fun v=>by
   refine⟨_,fun i hi l hl=>h2 i l ?_ (bd.keep i hi l hl),bd.tr.trans tY,?_,(Act.uS _ _ _).trans bd.size,?_,bd.rd,bd.yl,bd.gl⟩
   ·rw[sM]at hi;simp only[Bool.or_eq_true,List.contains_iff_mem];rcases List.mem_append.1 hi with hi|hi
    ·exact .inl hi
    ·refine .inr ?_;exact List.all_eq_true.1 hp0 _ hi
   ·refine vj bd.size hd (fun t d BD=>?_) (by simp[V]);obtain⟨g1,g2⟩:=he.sound t d BD;refine V.mono tY.kept ?_ _ _ (V.cut d _ g2 (bd.env t d g1));intro j lj lw;unfold cW at lw;split at lw
    ·rename_i hs;exact h2 j lj (by simp[hs]) lw
    ·cases lw
   ·rw[Act.mI];exact tY.marks bd.marks
  rcases ho with⟨rfl,rfl⟩|⟨rfl,ho⟩
  ·exact hk _ _ _ _ kT (sN true)
  ·exact hk _ _ _ _ (kF o ho) (sN false)
theorem Tx.y{α:Type}{lo aK lb:Nat}{ids:List Nat}{B:List α→aa}{X:aa→Prop}{enc:α→List D}{ok:List α→Prop}(Y:A1 P lo aK lb ids B X enc ok){own:aa}{pre:List α}{aS:Env}{y:Operand}{xs:List Operand}{tys:Array TypeId}{dst:Option Tmp}{ty:TypeId}{pos:String}{au:Array Edge}{g:Option (Nat×Bool)}
  (x:α)(IS:F.yl=some (aK,lb))(sM:F.ps=ids++own.map (·.1))(hd:eQ F.N dst=true)(hg:On ops env ⟨dst,.call ⟨.value y,xs.toArray,tys⟩,ty,pos,au,g⟩)(hy:env.op y=some (yv lb))(hx:env.lH xs=some (enc x))(JC:D.bk.dw (enc x)=true)(af:ok (pre++[x]))
  (fj:mA lo own=true)(Jz:own.okB own.has=true)(he:r5 own.has env aS)
  (kT:Tx P F ops K ol (aS.put dst (.raw (.bool true))) (own++B (pre++[x])))(kF:∀o,X o→Tx P F ops K ol (aS.put dst (.raw (.bool false))) (own++o)):
  Tx P F ops K (⟨dst,.call ⟨.value y,xs.toArray,tys⟩,ty,pos,au,g⟩::ol) env (own++B pre):=
 Tx.y2 Y x IS sM (List.all_eq_true.2 fun i hi=>IY hi) hd hg hy hx JC af fj Jz he kT kF
end
def LD{α:Type}(B:List α→aa)(X:aa→Prop)(fin:List α→Prop):Exit→Env→aa→Prop
 |.ret,_,J|.normal,_,J=>∃o,((∃xs,fin xs∧o=B xs)∨X o)∧∀i x,o.get i=some x→J.get i=some x
 |_,_,_=>False
theorem ai4{α:Type}{B:List α→aa}{X:aa→Prop}{fin:List α→Prop}{env:Env}{J:aa}{e:Exit}(he:e=.ret∨e=.normal)(xs:List α)(hf:fin xs)(h:∀i x,(B xs).get i=some x→J.get i=some x):LD B X fin e env J:=by
 rcases he with rfl|rfl<;>exact⟨_,.inl ⟨xs,hf,rfl⟩,h⟩
theorem ai5{α:Type}{B:List α→aa}{X:aa→Prop}{fin:List α→Prop}{env:Env}{J:aa}{e:Exit}(he:e=.ret∨e=.normal)(o:aa)(hx:X o)(h:∀i x,o.get i=some x→J.get i=some x):LD B X fin e env J:=by
 rcases he with rfl|rfl<;>exact⟨_,.inr hx,h⟩
theorem uH{own o:aa}{lo:Nat}(fj:mA lo own=true)(hf:∀i,lo≤i→i<lo+100→o.get i=none):∀i x,o.get i=some x→aa.get (own++o) i=some x:=by
 intro i x hi;rw[aa.get_append];cases hp:own.get i with
 |none=>exact hi
 |some z=>
  have:=sS fj i (aa.jl.2 ⟨z,hp⟩);rw[hf i this.1 this.2]at hi;cases hi
theorem Lg{ids own:List Nat}{L o:aa}(h:ids.all o.has=true)(h2:own.all (aa.has L)=true):(ids++own).all (aa.has (L++o))=true:=by
 rw[List.all_append,Bool.and_eq_true];constructor
 ·rw[List.all_eq_true]at h⊢;intro i hi;obtain⟨x,hx⟩:=aa.jl.1 (h i hi);simp only[aa.has,aa.get_append];cases L.get i<;>simp[hx]
 ·rw[List.all_eq_true]at h2⊢;intro i hi;obtain⟨x,hx⟩:=aa.jl.1 (h2 i hi);simp[aa.has,aa.get_append,hx]
theorem L7{own km o:aa}{lo:Nat}(fj:mA lo own=true)(hf:∀i,lo≤i→i<lo+100→o.get i=none)(af:∀i x,o.get i=some x→x.okB o.has=true):∀i x,o.get i=some x→aa.get (own++o) i=some x∧x.okB (aa.has (km++o))=true:=by
 intro i x hi;refine⟨uH fj hf i x hi,Ob.Ao (fun j hj=>?_) (af i x hi)⟩;obtain⟨y,hy⟩:=aa.jl.1 hj;simp only[aa.has,aa.get_append];cases km.get j<;>simp[hy]
theorem AX.mk'{α:Type}{P:Program}{f:FuncId}{fn:Func}{c:Code}{lo:Nat}{bx:List D}{own:aa}{enc:α→List D}{ok fin:List α→Prop}(hf:P.funcs[f]?=some fn)(hb:fn.body=some c){N:Nat}(hN:fn.ntmps=N)(hn:Nat.ble (bx.length+1) N=true)
  (rE:∀tmps w,(results fn tmps).run P w=.ok (C1 [] tmps) w)
  (h:∀(aK lb:Nat)(ids:List Nat)(B:List α→aa)(X:aa→Prop),A1 P lo aK lb ids B X enc ok→U P ⟨N,ids++own.map (·.1),false,some (aK,lb)⟩ [c] (LD B X fin) (mc (yv lb::bx) 0) (own++B [])):AX P f lo bx own enc ok fin:=⟨fun aK lb ids B X Y w O ρ vals l hl ke af dH hv=>by
 have j0:Vs w (Ot O ρ (own++B [])) ρ (yv lb::bx) (.func (.yield lb) #[] #[]::vals):=by
  simp only[Vs];exact⟨_,_,rfl,by simp[V],hv⟩
 refine A' hf hb (h aK lb ids B X Y).start (St.begin fn.ntmps hN (by have:=Nat.le_of_ble_eq_true hn;simpa using this) af dH j0 _ _ (fun i b e=>?_)) ?_ ?_
 ·cases e;exact⟨List.mem_append_left _ Y.mem,l,hl,ke⟩
 ·intro e aS ai hq;cases e<;>first|exact .inl rfl|exact .inr rfl|exact hq.elim
 ·intro e aS ai tmps w' aw hq qC bm vA;have:∃o,((∃xs,fin xs∧o=B xs)∨X o)∧∀i x,o.get i=some x→ai.get i=some x:=by cases e<;>first|exact hq|exact hq.elim
  obtain⟨o,ho,eV⟩:=this;have ac0:∀i x,o.get i=some x→x.okB o.has=true:=by
   rcases ho with⟨xs,_,rfl⟩|ho
   ·exact Y.CH xs
   ·exact Y.okX o ho
  have acO:ids.all o.has=true:=by
   rcases ho with⟨xs,_,rfl⟩|ho
   ·exact Y.has xs
   ·exact Y.acz o ho
  have hO:∀b,b9 (cW o.has aw) o b→b9 aw ai b:=by
   rintro b ⟨i,x,l,g1,g2,g3,g4⟩;exact⟨i,x,l,eV i x g1,g2,ql g3,g4⟩
  refine⟨_,rE _ _,_,cW o.has aw,o,rfl,ho,⟨bm.size,bm.same,fun b hb=>bm.new b (hO b hb),bm.ok.sub (fun i x hx=>⟨eV i x hx,ac0 i x hx⟩),bm.os⟩,fun i hi l hl=>?_⟩;have:=List.all_eq_true.1 acO i hi;simp[cW,this,qC i (List.mem_append_left _ hi) l hl]⟩
end Go.T
