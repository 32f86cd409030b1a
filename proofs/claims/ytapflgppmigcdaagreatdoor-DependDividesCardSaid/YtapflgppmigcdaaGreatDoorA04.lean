/-
  Contracts of the functions that the statement reaches, and the logic in which they are proved (no condition): parts Core14, Core15, Core16, Core17, Core18, Core19.
-/
import Derived.Test.YtapflgppmigcdaaGreatDoorA03
import Derived.Laws.StructEq
import Derived.Laws.Runes
set_option linter.all false
namespace Go.T
open Go
variable[bV]
theorem VJ{c:List Value}{off len p:Nat}{us:List Value}(h:p+us.length≤len)(h2:off+len≤c.length):
  ((c.take (off+p)++us++c.drop (off+p+us.length)).drop off).take len=((c.drop off).take len).take p++us++((c.drop off).take len).drop (p+us.length):=by
 apply List.ext_getElem?;intro i;simp only[List.getElem?_take,List.getElem?_drop,List.getElem?_append,List.length_append,List.length_take,List.length_drop];grind
theorem Nw{sz:Nat}:∀(rows:List (List D)),(∀r∈rows,r.length=sz)→rows.flatten.length=rows.length*sz
 |[],_=>by simp
 |r::rows,h=>by
  have:=Nw rows (fun r hr=>h r (List.mem_cons_of_mem _ hr));simp only[List.flatten_cons,List.length_append,this,h r List.mem_cons_self,List.length_cons,Nat.add_mul,Nat.one_mul];omega
theorem Nx{sz k m:Nat}{ds:List D}:∀(rows:List (List D))(j:Nat)(r r':List D),(∀r∈rows,r.length=sz)→rows[j]?=some r→r'=r.take k++ds++r.drop (k+m)→k+m≤sz→
  (rows.set j r').flatten=rows.flatten.take (j*sz+k)++ds++rows.flatten.drop (j*sz+k+m)
 |[],j,r,r',_,h,_,_=>by simp at h
 |q::rows,0,r,r',hl,h,e,hk=>by
  simp only[List.getElem?_cons_zero,Option.some.injEq]at h;subst h;have hq:=hl q List.mem_cons_self;simp only[List.set_cons_zero,List.flatten_cons,Nat.zero_mul,Nat.zero_add];rw[List.take_append_of_le_length zO,List.drop_append_of_le_length zO,e];simp
 |q::rows,j+1,r,r',hl,h,e,hk=>by
  have hq:=hl q List.mem_cons_self;have ih:=Nx rows j r r' (fun r hr=>hl r (List.mem_cons_of_mem _ hr)) (by simpa using h) e hk;simp only[List.set_cons_succ,List.flatten_cons,ih];have e1:(j+1)*sz+k=q.length+(j*sz+k):=by rw[hq,Nat.add_mul];omega
  have e2:(j+1)*sz+k+m=q.length+(j*sz+k+m):=by rw[hq,Nat.add_mul];omega
  rw[e2,e1,List.drop_length_add_append,List.take_length_add_append];simp
theorem Vr.lens{w:World}{O:Nat→Prop}{b sz:Nat}:∀(rs:List (List D))(off:Nat),Vr w O b off sz rs→∀r∈rs,r.length=sz
 |[],_,_=>by simp
 |r::rs,off,h=>by
  simp only[Vr]at h;intro r' hr;rcases List.mem_cons.1 hr with rfl|hr
  ·exact h.1.1
  ·exact Vr.lens rs _ h.2 r' hr
theorem Vr.set{w w':World}{O O':Nat→Prop}{b sz off k:Nat}{c:Array Value}{T:TypeId}{rows:List (List D)}{us:List Value}{cs:List D}(hb:w.heap[b]?=some (.cells c T (0,0)))(hv:Vr w O b off sz rows)(hk:Kept w O w' O')
  (be:off+rows.length*sz≤c.size)(j:Nat)(r r':List D)(hj:rows[j]?=some r)(kN:r'=r.take k++cs++r.drop (k+cs.length))(hkl:k+cs.length≤sz)(mo:Vs w O di cs us)(h1:∀u∈us,u.oneCell'=true)
  (tL:w'.heap[b]?=some (.cells (setMany c (off+(j*sz+k)) us) T (0,0))):Vr w' O' b off sz (rows.set j r'):=by
 have hl:=hv.lens;have iw:=Nw rows hl;obtain⟨h2,h3⟩:=hv.flat;obtain⟨h4,h5,_⟩:=Vc.E5 hb _ _ h2;have jx:=mo.length;have OS:j<rows.length:=(List.getElem?_eq_some_iff.1 hj).1;have HT:j*sz+sz≤rows.length*sz:=by
  have:=Nat.mul_le_mul_right sz (show j+1≤rows.length by omega);rw[Nat.add_mul]at this;omega
 have DB:=Nx (ds:=cs) rows j r r' hl hj kN hkl;have OX:(rows.set j r').flatten.length=rows.flatten.length:=by
  rw[DB];simp only[List.length_append,List.length_take,List.length_drop];omega
 have tM:c.toList.length=c.size:=by simp
 have kM:=VJ (c:=c.toList) (off:=off) (len:=rows.flatten.length) (p:=j*sz+k) (us:=us) zO zO;have Ih:=BS us c (off+(j*sz+k)) zO;refine Vr.q_ tL _ _ ?_ ?_ ?_
 ·intro q hq;rcases List.mem_or_eq_of_mem_set hq with hq|rfl
  ·exact hl q hq
  ·have:=hl r (List.mem_of_getElem? hj);rw[kN];simp only[List.length_append,List.length_take,List.length_drop];omega
 ·rw[OX,Ih,←Nat.add_assoc,Nat.add_assoc off,kM,DB,jx];exact Vs.mono hk (bA.refl _) _ _ (((h4.take _).append mo).append (h4.drop _))
 ·rw[OX,Ih,←Nat.add_assoc,Nat.add_assoc off,kM];intro v hv;simp only[List.mem_append]at hv;rcases hv with(hv|hv)|hv
  ·exact h5 v (List.mem_of_mem_take hv)
  ·exact h1 v hv
  ·exact h5 v (List.mem_of_mem_drop hv)
section
variable{P:Program} {env:Env} {dst:Option Tmp} {ty:TypeId} {pos:String} {ar:Array Edge} {g:Option (Nat×Bool)}
theorem bM{t e:TypeId}{x y:Operand}{id n sz off:Nat}{k:IntKind}{i:Int}(hu:P.underlying t=some (.slice e))(hs:∀w,(sizeOf e).run P w=.ok sz w)(hx:env.op x=some (.gs id n))(hy:env.op y=some (.raw (.int k i)))(h0:0≤i)(hi:i.toNat<n)(ho:i.toNat*sz=off)(U:ae):
  aq P ⟨dst,.indexAddr t x y,ty,pos,ar,g⟩ env U (.nI id off) U:=
 .val fun _ _ a w _ hv=>by
  have h1:=hv x (by simp[Op.operands]) _ hx;have h2:=hv y (by simp[Op.operands]) _ hy;simp only[V]at h1 h2;rcases h1 with⟨h1,_⟩|⟨_,l,h3,h4⟩
  ·omega
  ·refine⟨.pointer (some ⟨l.b,l.off+off,none⟩),?_,?_⟩
   ·have h8:i<(n:Int):=by omega
    simp[execOp,Instr.indexAt,h4,h2,asIntOf,bY hu,h0,h8,hs,addr_add,ho]
   ·simp only[V];exact⟨l,h3,rfl⟩
theorem eI{t:TypeId}{x:Operand}{id off sz:Nat}{rows:List (List D)}{r:List D}{d:D}{U:ae}(j k:Nat)(ht:∀w,(isAgg t).run P w=.ok false w)(hx:env.op x=some (.nI id off))(ho:U.get id=some (.arr sz rows))(H6:off=j*sz+k)(hr:rows[j]?=some r)(hd:r[k]?=some d):
  aq P ⟨dst,.load t x,ty,pos,ar,g⟩ env U d U:=
 .val fun O ρ a w aj hv=>by
  have h1:=hv x (by simp[Op.operands]) _ hx;simp only[V]at h1;obtain⟨l,h2,e⟩:=h1;have dO:(Ob.arr sz rows).live=true:=by
   cases rows with
   |nil=>simp at hr
   |cons=>rfl
  obtain⟨l',h3,_,c,T,h4,_,_,h5⟩:=aj.own id _ ho dO;rw[h2]at h3;cases h3;obtain⟨h6,h7⟩:=h5.get _ _ j r hr;obtain⟨v,h8,h9⟩:=h7.get _ _ k d hd;subst H6;rw[Nat.add_assoc]at h8;exact⟨v,by simp[execOp,Instr.loadAt,e,Instr.sureAddr,loadVar,ht,h8],h9.BK⟩
theorem gn{t:TypeId}{x y:Operand}{id off sz:Nat}{rows:List (List D)}{r:List D}{d:D}{U:ae}(j k:Nat)(hs:∀w,(sizeOf t).run P w=.ok 1 w)(hx:env.op x=some (.nI id off))(hy:env.op y=some d)(h1:d.one=true)(hp:d.bG=true)(ho:U.get id=some (.arr sz rows))(H6:off=j*sz+k)(hr:rows[j]?=some r)(hk:k<r.length):
  aq P ⟨dst,.store t x y,ty,pos,ar,g⟩ env U (.raw undef) (U.set id (.arr sz (rows.set j (r.set k d)))):=
 .step fun O ρ a w aj hv=>by
  have hC:=hv x (by simp[Op.operands]) _ hx;have kO:=hv y (by simp[Op.operands]) _ hy;simp only[V]at hC;obtain⟨l,h2,e⟩:=hC;have hj:j<rows.length:=(List.getElem?_eq_some_iff.1 hr).1;have dO:(Ob.arr sz rows).live=true:=by
   cases rows with
   |nil=>simp at hj
   |cons=>rfl
  obtain⟨l',h3,_,c,T,h4,hc,fq,h5⟩:=aj.own id _ ho dO;rw[h2]at h3;cases h3;subst H6;have Pj:=(h5.get _ _ j r hr).1;have HT:j*sz+sz≤rows.length*sz:=by
   have:=Nat.mul_le_mul_right sz (show j+1≤rows.length by omega);rw[Nat.add_mul]at this;omega
  have hrc:rows.length*sz≤l.cap*sz:=Nat.mul_le_mul_right sz fq.1;have h6:=uF (P:=P) [a.eval y] w c (l.off+(j*sz+k)) 0 h4 zQ (by simpa using kO.one h1);refine⟨undef,_,ρ,.inr ⟨?_,rfl⟩,Tr.cg (o':=.arr sz (rows.set j (r.set k d))) aj ho dO h2 (.cells (setMany c (l.off+(j*sz+k)+0) [a.eval y]) T (0,0)) ?_,by simp[V]⟩
  ·simp[execOp,Instr.storeAt,e,Instr.sureAddr,storeVar,cells_one (kO.one h1),hs,h6]
  ·intro rY;refine⟨setMany c (l.off+(j*sz+k)) [a.eval y],T,by simp[(Array.getElem?_eq_some_iff.1 h4).1],by rw[ER];exact hc,by simpa using fq,?_⟩;exact Vr.set (k:=k) (cs:=[d]) h4 h5 rY zO j r _ hr (by simp[List.set_eq_take_append_cons_drop,hk]) zQ (by simp only[Vs];exact⟨_,_,rfl,V.pure _ _ hp kO,rfl⟩) (by simpa using kO.one h1) (by simp[(Array.getElem?_eq_some_iff.1 h4).1])
inductive tg(P:Program):List Field→Nat→Prop
 |nil (k:Nat):tg P [] k
 |cons {f:Field} {fs:List Field} {k:Nat} (hn:(f.name== "_")=false) (hu:P.underlying f.type=some .string) (ha:∀w,(isAgg f.type).run P w=.ok false w) (ho:f.offset=k) (r:tg P fs (k+1)):tg P (f::fs) k
theorem MU{P:Program}{d:Nat}{xs ys:List aa}{fs:List Field}{k:Nat}(h:tg P fs k)(hx:k+fs.length=xs.length)(hy:k+fs.length=ys.length)(w:World):
  (Op.eqFields (d+1) (xs.map fun s=>Value.string ⟨s.toArray⟩).toArray (ys.map fun s=>Value.string ⟨s.toArray⟩).toArray fs).run P w=.ok (decide (xs.drop k=ys.drop k)) w:=by
 induction h with
 |nil k=>
  simp only[List.length_nil,Nat.add_zero]at hx hy;rw[List.drop_of_length_le zO,List.drop_of_length_le zO];simp[Op.eqFields]
 |@cons f fs k hn hu ha ho r ih=>
  simp only[List.length_cons]at hx hy;have ih:=ih zO zO;have h1:k<xs.length:=by omega
  have h2:k<ys.length:=by omega
  have vI:decide (xs.drop k=ys.drop k)=(decide (xs[k]=ys[k])&&decide (xs.drop (k+1)=ys.drop (k+1))):=by
   rw[List.drop_eq_getElem_cons h1,List.drop_eq_getElem_cons h2];simp only[List.cons.injEq,Bool.decide_and]
  rw[vI];have qF:f.name≠ "_":=by simpa using hn
  simp only[Op.eqFields,qF,ne_eq,not_false_eq_true,if_true,Sem.run_bind,part,ha,Result.andThen_ok,Bool.false_eq_true,if_false,ho];simp only[List.getElem?_toArray,List.getElem?_map,List.getElem?_eq_getElem h1,List.getElem?_eq_getElem h2,Option.map_some,Sem.run_pure,Result.andThen_ok,run_equalIn_string _ _ _ _ _ hu,uL];by_cases e:xs[k]=ys[k]
  ·simp only[e,BEq.rfl,Bool.not_true,Bool.false_eq_true,if_false,decide_true,Bool.true_and];exact ih
  ·have:(xs[k]==ys[k])=false:=by simpa using e
   simp only[this,Bool.not_false,if_true,Sem.run_pure,e,decide_false,Bool.false_and]
theorem zk{w:World}{O:Nat→Prop}{ρ:aA}:∀{ss:List aa}{vs:List Value},Vs w O ρ (ss.map D.str) vs→vs=ss.map fun s=>Value.string ⟨s.toArray⟩
 |[],vs,h=>by simpa[Vs]using h
 |s::ss,vs,h=>by
  simp only[List.map_cons,Vs,V]at h;obtain⟨u,us,rfl,h1,h2⟩:=h;rw[h1.1,zk h2];rfl
theorem SH{op:BinOp}{t t':TypeId}{x y:Operand}{xs ys:List aa}{fs:List Field}(x1:op=.eql∨op=.neq)(hu:P.underlying t=some (.struct fs.toArray))(hp:P.stoodInHeld t=false)(hg:P.eqGuardType P.depth t=false)(hf:tg P fs 0)(tR:xs.length=fs.length)(tS:ys.length=fs.length)
  (hx:env.op x=some (.agg (xs.map D.str)))(hy:env.op y=some (.agg (ys.map D.str)))(U:ae):aq P ⟨dst,.binOp op t x y t',ty,pos,ar,g⟩ env U (.raw (.bool (if op=.eql then decide (xs=ys)else !decide (xs=ys)))) U:=
 .val fun _ _ a w _ hv=>by
  have h1:=hv x (by simp[Op.operands]) _ hx;have h2:=hv y (by simp[Op.operands]) _ hy;simp only[V]at h1 h2;obtain⟨us,e1,h1⟩:=h1;obtain⟨vs,e2,h2⟩:=h2;have h1:=zk h1;have h2:=zk h2;have ju:P.fieldsOf t=fs.toArray:=by simp[Program.fieldsOf,hu]
  have h3:=run_equalIn_struct (P:=P) w 9999 t us vs (by rw[ju];exact hu) hp;have h4:us=(xs.map fun s=>Value.string ⟨s.toArray⟩).toArray:=by rw[←h1]
  have h5:vs=(ys.map fun s=>Value.string ⟨s.toArray⟩).toArray:=by rw[←h2]
  have h6:=MU (d:=9998) hf (xs:=xs) (ys:=ys) zO zO w;rw[ju]at h3;simp only[h4,h5]at h3 e1 e2;simp only[List.drop_zero]at h6;refine⟨.bool (if op=.eql then decide (xs=ys)else !decide (xs=ys)),?_,by simp only[V]⟩;rcases x1 with rfl|rfl
  ·simp[execOp,e1,e2,run_eqGuard_agg _ _ _ _ _ _ _ hg,run_eql_struct,h3,h6]
  ·simp[execOp,e1,e2,run_eqGuard_agg _ _ _ _ _ _ _ hg,run_neq_struct,h3,h6]
theorem wM{t t':TypeId}{x y:Operand}{xs ys:List aa}{fs:List Field}{ds es:List D}(hu:P.underlying t=some (.struct fs.toArray))(hp:P.stoodInHeld t=false)(hg:P.eqGuardType P.depth t=false)(hf:tg P fs 0)(tR:xs.length=fs.length)(tS:ys.length=fs.length)
  (hx:env.op x=some (.agg ds))(hy:env.op y=some (.agg es))(hd:ds=xs.map D.str)(he:es=ys.map D.str)(U:ae):aq P ⟨dst,.binOp .eql t x y t',ty,pos,ar,g⟩ env U (.raw (.bool (decide (xs=ys)))) U:=by
 subst hd;subst he;exact SH (.inl rfl) hu hp hg hf tR tS hx hy U
theorem sX{t t':TypeId}{x y:Operand}{xs ys:List aa}{fs:List Field}{ds es:List D}(hu:P.underlying t=some (.struct fs.toArray))(hp:P.stoodInHeld t=false)(hg:P.eqGuardType P.depth t=false)(hf:tg P fs 0)(tR:xs.length=fs.length)(tS:ys.length=fs.length)
  (hx:env.op x=some (.agg ds))(hy:env.op y=some (.agg es))(hd:ds=xs.map D.str)(he:es=ys.map D.str)(U:ae):aq P ⟨dst,.binOp .neq t x y t',ty,pos,ar,g⟩ env U (.raw (.bool (!decide (xs=ys)))) U:=by
 subst hd;subst he;exact SH (.inr rfl) hu hp hg hf tR tS hx hy U
theorem J0{s t:TypeId}{x:Operand}{k:IntKind}{n:Int}{c:UInt8}{u:TypeDesc}(hs:P.underlying s=some u)(ht:P.underlying t=some .string)(hx:env.op x=some (.raw (.int k n)))(h0:0≤n)(h1:n<128)(hc:UInt8.ofNat n.toNat=c)(U:ae):
  aq P ⟨dst,.convert s t x,ty,pos,ar,g⟩ env U (.str [c]) U:=
 .val fun _ _ a w _ hv=>⟨.string ⟨#[c]⟩,by
  have h2:=hv x (by simp[Op.operands]) _ hx;simp only[V]at h2;have h3:Utf8.encode n=⟨#[c]⟩:=by
   have hv:Utf8.valid n=true:=by simp[Utf8.valid];omega
   have:n.toNat<128:=by omega
   simp[Utf8.encode,hv,this,hc]
  simp[execOp,h2,run_convert_int_string w s t k n (by rw[hs];rfl) ht,h3],by simp[V,aG]⟩
end
end Go.T
namespace Go.T
open Go
variable[bV]
theorem Vs.ai_{w:World}{O:Nat→Prop}{ρ:aA}{ds:List D}{vs:List Value}{i:Nat}{d d':D}(h:Vs w O ρ ds vs)(hi:ds[i]?=some d)(hd:∀v,V w O ρ d v→V w O ρ d' v):Vs w O ρ (ds.set i d') vs:=by
 obtain⟨v,h3,h4⟩:=h.get i _ hi;have h5:=Vs.set i h (hd v h4);have h6:vs.set i v=vs:=by
  obtain⟨hl,he⟩:=List.getElem?_eq_some_iff.1 h3;rw[←he];exact List.set_getElem_self hl
 rwa[h6]at h5
theorem EI{O:Nat→Prop}{w:World}{ρ:aA}{U:ae}{k i:Nat}{ds:List D}{d d':D}(aj:cF w O ρ U)(hk:U.get k=some (.cells ds))(hi:ds[i]?=some d)
  (hd:∀v,V w (Ot O ρ U) ρ d v→V w (Ot O ρ U) ρ d' v):Tr O w ρ U w ρ (U.set k (.cells (ds.set i d'))):=by
 have Og:∀b,bQ ρ (U.set k (.cells (ds.set i d'))) b→bQ ρ U b:=by
  rintro b ⟨j,x,l,h1,h2,h3⟩;rw[ae.dU]at h1;by_cases e:k=j
  ·subst e;exact⟨k,_,l,hk,rfl,h3⟩
  ·rw[if_neg e]at h1;exact⟨j,x,l,h1,h2,h3⟩
 have iW:Kept w (Ot O ρ U) w (Ot O ρ (U.set k (.cells (ds.set i d')))):=Kept.eN fun b=>Or.imp _root_.id (Og b);refine⟨bA.refl _,Nat.le_refl _,fun _ _ _=>rfl,fun b hb=>.inl (Og b hb),⟨aj.lt,?_,?_,?_⟩,rfl,rfl,gv.eq rfl rfl⟩
 ·intro j hj;rw[ae.dU]at hj;by_cases e:k=j
  ·simp[e]at hj
  ·rw[if_neg e]at hj;exact aj.fresh j hj
 ·intro j x h1 h2;rw[ae.dU]at h1;by_cases e:k=j
  ·subst e;simp only[if_true,Option.some.injEq]at h1;subst h1;obtain⟨l,h3,h4,vs,T,h5,h6⟩:=aj.own k _ hk rfl;exact⟨l,h3,h4,vs,T,h5,Vs.mono iW (bA.refl _) _ _ (h6.ai_ hi hd)⟩
  ·rw[if_neg e]at h1;obtain⟨l,h3,h4,h5⟩:=aj.own j x h1 h2;exact⟨l,h3,h4,h5.mono iW (bA.refl _) rfl⟩
 ·intro a b x x' l1 l2 h1 h2 h3 h4 h5 h6 h7;have look:∀j y,(U.set k (.cells (ds.set i d'))).get j=some y→y.live=true→∃y',U.get j=some y'∧y'.live=true:=by
   intro j y hy hl;rw[ae.dU]at hy;by_cases e:k=j
   ·subst e;exact⟨_,hk,rfl⟩
   ·rw[if_neg e]at hy;exact⟨y,hy,hl⟩
  obtain⟨y,v8,hy2⟩:=look a x h1 h3;obtain⟨z,pL,Ir⟩:=look b x' h2 h4;exact aj.inj a b y z l1 l2 v8 pL hy2 Ir h5 h6 h7
theorem Le.G0{F:Fr}{env:Env}{U:ae}{sz n:Nat}{rows:List (List D)}{ds:List D}(k i id:Nat)(hk:U.get k=some (.cells ds))(hi:ds[i]?=some (.gs id n))(ho:U.get id=some (.arr sz rows))(hn:rows.length=n):
  Le F env U env ((U.set id .dead).set k (.cells (ds.set i (.snap sz false rows)))):=.step fun O ρ w f aj hv=>by
 have h1:=Tr.die id aj;have aB:id≠k:=by rintro rfl;rw[hk]at ho;cases ho
 have h2:=EI (d':=.snap sz false rows) h1.ok (k:=k) (ds:=ds) (by rw[ae.dU,if_neg aB];exact hk) hi (fun v h=>N_ aj ho hn (by simpa only[V]using h));have h3:=h1.trans h2;exact⟨ρ,h3,fun t d h=>h3.V (hv t d h)⟩
theorem Le.Ta{F:Fr}{env:Env}{U:ae}{sz n:Nat}{rows:List (List D)}{ds:List D}(k i id bc:Nat)(hk:U.get k=some (.cells ds))(hi:ds[i]?=some (.gs id n))(ho:U.get id=some (.arr sz rows))(hn:rows.length=n)(hid:U.get bc=none):
  Le F env U env (ae.set ((bc,.arr sz rows)::U.set id .dead) k (.cells (ds.set i (.gs bc n)))):=.step fun O ρ w f aj hv=>by
 have aB:id≠k:=by rintro rfl;rw[hk]at ho;cases ho
 have O6:bc≠k:=by rintro rfl;rw[hk]at hid;cases hid
 have eB:ae.get ((bc,.arr sz rows)::U.set id .dead) k=some (.cells ds):=by
  rw[ae.aZ,if_neg O6,ae.dU,if_neg aB];exact hk
 cases rows with
 |nil=>
  subst hn;have h1:=Tr.EJ (id:=id) (bc:=bc) (sz:=sz) aj;have h2:=EI (d':=.gs bc 0) h1.ok eB hi (fun v h=>by simpa[V]using h);have h3:=h1.trans h2;exact⟨ρ,h3,fun t d h=>h3.V (hv t d h)⟩
 |cons r rs=>
  obtain⟨l,h4,_⟩:=aj.own id _ ho rfl;have h1:=Tr.rename (id:=id) (bc:=bc) aj ho rfl hid h4;have h2:=EI (d':=.gs bc n) h1.ok eB hi (fun v h=>by
   simp only[V]at h⊢;rcases h with h|⟨h,l',h5,h6⟩
   ·exact .inl h
   ·have:=h1.le id l h4;rw[this]at h5;cases h5;exact .inr ⟨h,l,jH ..,h6⟩)
  have h3:=h1.trans h2;exact⟨_,h3,fun t d h=>h3.V (hv t d h)⟩
theorem Le.eN{F:Fr}{env:Env}{U:ae}{ds:List D}{d d':D}(k i:Nat)(hk:U.get k=some (.cells ds))(hi:ds[i]?=some d)(s:Sub d d'):Le F env U env (U.set k (.cells (ds.set i d'))):=.step fun O ρ w f aj hv=>by
 have h3:=EI aj hk hi (fun v h=>s.out _ _ _ _ h);exact⟨ρ,h3,fun t d h=>h3.V (hv t d h)⟩
def Rd(P:Program)(fn:Func)(env:Env)(U:ae)(r:D):Prop:=
 ∀(O:Nat→Prop)(ρ:aA)(tmps:Array Value)(w:World),cF w O ρ U→(∀t d,env.get t=some d→V w (Ot O ρ U) ρ d (tmps.getD t undef))→∃v,(results fn tmps).run P w=.ok v w∧V w (Ot O ρ U) ρ r v
def rdQ(P:Program)(fn:Func)(r:D):Exit→Env→ae→Prop
 |.ret,env,U|.normal,env,U=>Rd P fn env U r
 |_,_,_=>False
theorem Fc.iI{P:Program}{f:FuncId}{fn:Func}{c:Code}{args:List D}{r:D}(hf:P.funcs[f]?=some fn)(hb:fn.body=some c){N:Nat}(hN:fn.ntmps=N)(qF:Nat.ble args.length N=true)(hp:D.bG.eG args=true)(hr:r.bG=true)
  (h':J P ⟨N,[],false,none⟩ [c] (rdQ P fn r) (pt args 0) []):Fc P f args r:=⟨fun w O ρ vals hO cQ r4=>by
 have ca:∀b,¬bQ di [] b:=fun b ⟨i,o,l,h1,_⟩=>by simp[ae.get]at h1
 have aj:cF w O di []:=⟨hO,fun _ _=>rfl,fun i o h1=>by simp[ae.get]at h1,fun i j o o' l l' h1=>by simp[ae.get]at h1⟩;have hv:Vs w (Ot O di []) di args vals:=Vs.mono (Kept.eN fun b hb=>hb.elim _root_.id (fun g=>(ca b g).elim)) (bA.refl _) _ _ (Vs.pure args vals hp r4);refine zu hf hb h'.start (St.begin fn.ntmps hN (Nat.le_of_ble_eq_true qF) aj (cQ.mono (Kept.eN fun b hb=>hb.elim _root_.id (fun g=>(ca b g).elim))) hv [] none (fun _ _ e=>by cases e)) ?_ ?_
 ·intro e aQ ak hq;cases e<;>first|exact .inl rfl|exact .inr rfl|exact hq.elim
 ·intro e aQ ak tmps w' av hq _ bb tO;have:Rd P fn aQ ak r:=by cases e<;>first|exact hq|exact hq.elim
  obtain⟨v,h1,h2⟩:=this _ _ _ _ bb.ok tO;refine⟨v,h1,v,rfl,?_,bb.size,fun b hb=>bb.same b hb (ca b),bb.os⟩;exact V.pure r _ hr (V.mono (O':=O) (Kept.eN fun b hb=>Or.inl hb) (bA.refl _) _ _ h2)⟩
section
variable{P:Program} {fn:Func} {env:Env} {U:ae}
theorem Qr{O:Nat→Prop}{ρ:aA}{w:World}{ty:TypeId}{id n:Nat}{ds:List D}{u:Value}(aj:cF w O ρ U)(ha:∀w,(isAgg ty).run P w=.ok true w)(hs:∀w,(sizeOf ty).run P w=.ok n w)(hn:ds.length=n)(ho:U.get id=some (.cells ds))(hu:V w (Ot O ρ U) ρ (.box id 0) u):
  ∃a v,u=.pointer (some a)∧(loadVar ty a).run P w=.ok v w∧V w (Ot O ρ U) ρ (.agg ds) v:=by
 simp only[V]at hu;obtain⟨l,h2,e⟩:=hu;obtain⟨l',h3,_,vs,T,h4,h5⟩:=aj.own id _ ho rfl;rw[h2]at h3;cases h3;have hl:=h5.length;have h6:=EN (P:=P) h4 n 0 0 #[] (by simp at hl;omega);refine⟨_,.agg ((vs.toList.drop 0).take n).toArray,e,?_,?_⟩
 ·simp[loadVar,ha,hs,loadCells,h6]
 ·simp only[V];refine⟨_,rfl,?_⟩;have:vs.toList.take n=vs.toList:=List.take_of_length_le zO;simpa[this]using h5
theorem Rd.cA{p:Tmp}{ty:TypeId}{id n:Nat}{ds:List D}{r:D}(h:fn.results=#[.cell p ty])(ha:∀w,(isAgg ty).run P w=.ok true w)(hs:∀w,(sizeOf ty).run P w=.ok n w)(hn:ds.length=n)(ht:env.get p=some (.box id 0))(ho:U.get id=some (.cells ds))(s:Sub (.agg ds) r):Rd P fn env U r:=by
 intro O ρ tmps w aj hv;obtain⟨a,v,e,h1,h2⟩:=Qr (P:=P) aj ha hs hn ho (hv p _ ht);have e':tmps[p]?.getD undef=.pointer (some a):=by simpa using e
 exact⟨v,by simp[results,h,e',asAddr,h1],s.out _ _ _ _ h2⟩
theorem Rd.Cq{p q:Tmp}{ty:TypeId}{id n:Nat}{ds:List D}{d r r':D}(h:fn.results=#[.cell p ty,.tmp q])(ha:∀w,(isAgg ty).run P w=.ok true w)(hs:∀w,(sizeOf ty).run P w=.ok n w)(hn:ds.length=n)(ht:env.get p=some (.box id 0))(ho:U.get id=some (.cells ds))(hq:env.get q=some d)(s:Sub (.agg ds) r)(s':Sub d r'):Rd P fn env U (.bf [r,r']):=by
 intro O ρ tmps w aj hv;obtain⟨a,v,e,h1,h2⟩:=Qr (P:=P) aj ha hs hn ho (hv p _ ht);have e':tmps[p]?.getD undef=.pointer (some a):=by simpa using e
 refine⟨.tuple #[v,tmps.getD q undef],by simp[results,h,e',asAddr,h1],?_⟩;simp only[V];exact⟨_,rfl,by simp only[Vs];exact⟨_,_,rfl,s.out _ _ _ _ h2,_,_,rfl,s'.out _ _ _ _ (hv q _ hq),rfl⟩⟩
end
end Go.T
namespace Go.T
open Go
variable[bV]
theorem ae.get_append:∀(a b:ae)(i:Nat),ae.get (a++b) i=match a.get i with|some x=>some x|none=>b.get i
 |[],b,i=>by simp[ae.get]
 |(t,d)::r,b,i=>by
  rw[List.cons_append,ae.aZ,ae.aZ];by_cases h:t=i
  ·simp[h]
  ·rw[if_neg h,if_neg h];exact ae.get_append r b i
def ae.rest:ae→ae→ae
 |[],_=>[]
 |(t,d)::r,pre=>bif pre.has t then ae.rest r pre else(t,d)::ae.rest r pre
theorem ae.qy(pre:ae)(i:Nat):∀U:ae,(U.rest pre).get i=if pre.has i then none else U.get i
 |[]=>by simp[ae.rest,ae.get]
 |(t,d)::r=>by
  simp only[ae.rest];cases h:pre.has t with
  |true=>
   rw[cond_true,ae.qy pre i r,ae.aZ];by_cases e:t=i
   ·subst e;simp[h]
   ·rw[if_neg e]
  |false=>
   rw[cond_false,ae.aZ,ae.qy pre i r,ae.aZ];by_cases e:t=i
   ·subst e;simp[h]
   ·rw[if_neg e,if_neg e]
theorem ae.gO{U:ae}{i:Nat}:U.has i=true↔∃o,U.get i=some o:=by
 unfold ae.has;cases U.get i<;>simp
mutual
theorem D.yK:∀(d:D){f g:Nat→Bool},(∀i,f i=true→g i=true)→d.okB f=true→d.okB g=true
 |.any,_,_,_,_|.raw _,_,_,_,_|.str _,_,_,_,_|.snap _ _ _,_,_,_,_|.aY _,_,_,_,_|.m_ _ _,_,_,_,_=>rfl
 |.agg ds,f,g,h,hd=>by simp only[D.okB]at hd⊢;exact D.rh ds h hd
 |.bf ds,f,g,h,hd=>by simp only[D.okB]at hd⊢;exact D.rh ds h hd
 |.fn _ ax bs,f,g,h,hd=>by
  simp only[D.okB,Bool.and_eq_true]at hd⊢;exact⟨D.rh ax h hd.1,D.rh bs h hd.2⟩
 |.box i _,f,g,h,hd|.gs i _,f,g,h,hd|.nI i _,f,g,h,hd|.bu i,f,g,h,hd|.qj i _ _,f,g,h,hd|.n_ i _ _,f,g,h,hd|.gr i _,f,g,h,hd=>by simp only[D.okB]at hd⊢;exact h i hd
theorem D.rh:∀(ds:List D){f g:Nat→Bool},(∀i,f i=true→g i=true)→D.okB.eV f ds=true→D.okB.eV g ds=true
 |[],_,_,_,_=>rfl
 |d::ds,f,g,h,hd=>by
  simp only[D.okB.eV,Bool.and_eq_true]at hd⊢;exact⟨D.yK d h hd.1,D.rh ds h hd.2⟩
end
mutual
theorem D.Jt:∀(d:D),d.okB (fun _=>true)=true
 |.any|.raw _|.str _|.snap _ _ _|.aY _|.box _ _|.gs _ _|.nI _ _|.bu _|.qj _ _ _|.n_ _ _ _|.gr _ _|.m_ _ _=>rfl
 |.agg ds=>by simp only[D.okB];exact D.yM ds
 |.bf ds=>by simp only[D.okB];exact D.yM ds
 |.fn _ ax bs=>by simp only[D.okB,Bool.and_eq_true];exact⟨D.yM ax,D.yM bs⟩
theorem D.yM:∀(ds:List D),D.okB.eV (fun _=>true) ds=true
 |[]=>rfl
 |d::ds=>by simp only[D.okB.eV,Bool.and_eq_true];exact⟨D.Jt d,D.yM ds⟩
end
theorem Ob.Jt(o:Ob):o.okB (fun _=>true)=true:=by
 cases o<;>simp[Ob.okB,D.yM]
def ae.okB(f:Nat→Bool):ae→Bool
 |[]=>true
 |(_,o)::r=>o.okB f&&ae.okB f r
theorem ae.Js{f:Nat→Bool}:∀{U:ae},U.okB f=true→∀i o,U.get i=some o→o.okB f=true
 |[],_,i,o,h=>by simp[ae.get]at h
 |(t,d)::r,h,i,o,hg=>by
  simp only[ae.okB,Bool.and_eq_true]at h;rw[ae.aZ]at hg;by_cases e:t=i
  ·rw[if_pos e]at hg;cases hg;exact h.1
  ·rw[if_neg e]at hg;exact ae.Js h.2 i o hg
section
variable{w w':World} {O:Nat→Prop} {ρ av:aA} {U pre post:ae}
theorem uw(dV:∀i o,pre.get i=some o→U.get i=some o)(b:Nat):bQ ρ U b↔bQ (cu pre.has ρ) pre b∨bQ ρ (U.rest pre) b:=by
 constructor
 ·rintro⟨i,o,l,h1,h2,h3,h4⟩;cases hp:pre.has i with
  |true=>
   obtain⟨o',O8⟩:=ae.gO.1 hp;have:=dV i o' O8;rw[h1]at this;cases this;exact .inl ⟨i,o,l,O8,h2,by simp[cu,hp,h3],h4⟩
  |false=>exact .inr ⟨i,o,l,by rw[ae.qy,hp];exact h1,h2,h3,h4⟩
 ·rintro(⟨i,o,l,h1,h2,h3,h4⟩|⟨i,o,l,h1,h2,h3,h4⟩)
  ·exact⟨i,o,l,dV i o h1,h2,oD h3,h4⟩
  ·rw[ae.qy]at h1;split at h1
   ·cases h1
   ·exact⟨i,o,l,h1,h2,h3,h4⟩
theorem BI{i:Nat}{o:Ob}(h:(U.rest pre).get i=some o):U.get i=some o∧pre.has i=false:=by
 rw[ae.qy]at h;split at h
 ·cases h
 ·rename_i hp;exact⟨h,by simpa using hp⟩
theorem Tg(dV:∀i o,pre.get i=some o→U.get i=some o)(aj:cF w O ρ U){b:Nat}(h1:bQ (cu pre.has ρ) pre b)(h2:bQ ρ (U.rest pre) b):False:=by
 obtain⟨i,o,l,a1,a2,a3,a4⟩:=h1;obtain⟨j,o',l',b1,b2,b3,b4⟩:=h2;have:=aj.inj i j o o' l l' (dV i o a1) (BI b1).1 a2 b2 (oD a3) b3 (a4.trans b4.symm);subst this;have:=(BI b1).2;rw[ae.gO.2 ⟨o,a1⟩]at this;cases this
def jd(rest:ae)(ρ av:aA):aA:=fun i=>if rest.has i then ρ i else av i
theorem ahc{rest:ae}(mg:∀i,post.has i=true→rest.has i=false)(b:Nat):bQ (jd rest ρ av) (post++rest) b↔bQ av post b∨bQ ρ rest b:=by
 constructor
 ·rintro⟨i,o,l,h1,h2,h3,h4⟩;rw[ae.get_append]at h1;cases hp:post.get i with
  |some x=>
   simp only[hp,Option.some.injEq]at h1;subst h1;have:=mg i (ae.gO.2 ⟨_,hp⟩);simp only[jd,this]at h3;exact .inl ⟨i,x,l,hp,h2,h3,h4⟩
  |none=>
   simp only[hp]at h1;simp only[jd,ae.gO.2 ⟨_,h1⟩,if_true]at h3;exact .inr ⟨i,o,l,h1,h2,h3,h4⟩
 ·rintro(⟨i,o,l,h1,h2,h3,h4⟩|⟨i,o,l,h1,h2,h3,h4⟩)
  ·have:=mg i (ae.gO.2 ⟨_,h1⟩);exact⟨i,o,l,by rw[ae.get_append,h1],h2,by simp[jd,this,h3],h4⟩
  ·have hn:post.get i=none:=by
    cases hp:post.get i with
    |none=>rfl
    |some x=>
     have:=mg i (ae.gO.2 ⟨_,hp⟩);rw[ae.gO.2 ⟨_,h1⟩]at this;cases this
   exact⟨i,o,l,by rw[ae.get_append,hn];exact h1,h2,by simp[jd,ae.gO.2 ⟨_,h1⟩,h3],h4⟩
theorem NH(EZ:Nat→Bool)(dV:∀i o,pre.get i=some o→U.get i=some o)(aj:cF w O ρ U)(h:fR (Ot O ρ (U.rest pre)) w (cu pre.has ρ) pre w' av post)
  (mg:∀i,post.has i=true→(U.rest pre).has i=false)(e8:∀i l,EZ i=true→cu pre.has ρ i=some l→av i=some l)(Pj:∀i o,(U.rest pre).get i=some o→o.okB EZ=true):
  fR O w ρ U w' (jd (U.rest pre) ρ av) (post++U.rest pre)∧(∀i l,EZ i=true→ρ i=some l→jd (U.rest pre) ρ av i=some l)∧
  ∀r v,V w' (Ot (Ot O ρ (U.rest pre)) av post) av r v→V w' (Ot O (jd (U.rest pre) ρ av) (post++U.rest pre)) (jd (U.rest pre) ρ av) r v:=by
 have hj:=ahc (ρ:=ρ) (av:=av) mg;have oN:∀i l,EZ i=true→ρ i=some l→jd (U.rest pre) ρ av i=some l:=by
  intro i l hs hl;unfold jd;split
  ·exact hl
  ·rename_i hr;refine e8 i l hs ?_;have:pre.has i=true:=by
    cases hp:pre.has i with
    |true=>rfl
    |false=>
     have hg:(U.rest pre).get i=U.get i:=by rw[ae.qy,hp];rfl
     cases ho:U.get i with
     |none=>rw[aj.fresh i ho]at hl;cases hl
     |some o=>exact absurd (ae.gO.2 ⟨o,hg.trans ho⟩) hr
   simp[cu,this,hl]
 have HW:bA av (jd (U.rest pre) ρ av):=by
  intro i l hl;unfold jd;split
  ·rename_i hr;have:post.get i=none:=by
    cases hp:post.get i with
    |none=>rfl
    |some x=>have:=mg i (ae.gO.2 ⟨_,hp⟩);rw[hr]at this;cases this
   rw[h.ok.fresh i this]at hl;cases hl
  ·exact hl
 have pI:∀b,Ot (Ot O ρ (U.rest pre)) av post b↔Ot O (jd (U.rest pre) ρ av) (post++U.rest pre) b:=by
  intro b;unfold Ot;rw[hj b];constructor
  ·rintro((g|g)|g)
   ·exact .inl g
   ·exact .inr (.inr g)
   ·exact .inr (.inl g)
  ·rintro(g|g|g)
   ·exact .inl (.inl g)
   ·exact .inr g
   ·exact .inl (.inr g)
 have vU:∀b,bQ (jd (U.rest pre) ρ av) (post++U.rest pre) b→bQ ρ U b∨w.heap.size≤b:=by
  intro b hb;rcases(hj b).1 hb with g|g
  ·rcases h.new b g with g|g
   ·exact .inl ((uw dV b).2 (.inl g))
   ·exact .inr g
  ·exact .inl ((uw dV b).2 (.inr g))
 have oU:∀b,b<w.heap.size→¬bQ ρ U b→w'.heap[b]?=w.heap[b]?:=fun b hb ho=>h.same b hb fun g=>ho ((uw dV b).2 (.inl g));have vQ:Kept w (Ot O ρ U) w' (Ot O (jd (U.rest pre) ρ av) (post++U.rest pre)):=by
  refine⟨h.size,fun b hb ho=>⟨fun _ _ _=>oU b hb fun g=>ho (.inr g),fun g=>?_⟩⟩;rcases g with g|g
  ·exact ho (.inl g)
  ·rcases vU b g with g|g
   ·exact ho (.inr g)
   ·omega
 refine⟨⟨h.size,oU,vU,⟨fun b hb=>h.ok.lt b (.inl hb),?_,?_,?_⟩,h.os⟩,oN,fun r v hv=>V.mono (Kept.eN fun b hb=>(pI b).2 hb) HW r v hv⟩
 ·intro i hi;rw[ae.get_append]at hi;cases hp:post.get i with
  |some x=>simp[hp]at hi
  |none=>
   simp only[hp]at hi;simp only[jd,ae.has,hi,Option.isSome_none];exact h.ok.fresh i hp
 ·intro i o h1 h2;rw[ae.get_append]at h1;cases hp:post.get i with
  |some x=>
   simp only[hp,Option.some.injEq]at h1;subst h1;obtain⟨l,h3,h4,h5⟩:=h.ok.own i x hp h2;exact⟨l,HW i l h3,fun hb=>h4 (.inl hb),h5.mono (Kept.eN fun b hb=>(pI b).2 hb) HW rfl⟩
  |none=>
   simp only[hp]at h1;obtain⟨l,h3,h4,h5⟩:=aj.own i o (BI h1).1 h2;have hr:(U.rest pre).has i=true:=ae.gO.2 ⟨_,h1⟩;have kM:w'.heap[l.b]?=w.heap[l.b]?:=h.same l.b (h5.lt h2) fun g=>Tg dV aj g ⟨i,o,l,h1,h2,h3,rfl⟩;refine⟨l,by simp[jd,hr,h3],h4,(h5.cut (Pj i o h1)).mono vQ ?_ kM⟩;intro j lj jR;unfold cu at jR;split at jR
   ·rename_i hs;exact oN j lj hs jR
   ·cases jR
 ·intro i j o o' l l' a1 a2 a3 a4 a5 a6 a7;have key:∀i o l,ae.get (post++U.rest pre) i=some o→jd (U.rest pre) ρ av i=some l→(post.get i=some o∧av i=some l)∨((U.rest pre).get i=some o∧ρ i=some l):=by
   intro i o l h1 h3;rw[ae.get_append]at h1;cases hp:post.get i with
   |some x=>
    simp only[hp,Option.some.injEq]at h1;subst h1;have:=mg i (ae.gO.2 ⟨_,hp⟩);simp only[jd,this]at h3;exact .inl ⟨rfl,h3⟩
   |none=>
    simp only[hp]at h1;simp only[jd,ae.gO.2 ⟨_,h1⟩,if_true]at h3;exact .inr ⟨h1,h3⟩
  have Ma:∀i j o o' l l',post.get i=some o→o.live=true→av i=some l→(U.rest pre).get j=some o'→o'.live=true→ρ j=some l'→l.b=l'.b→False:=by
   intro i j o o' l l' b1 b2 b3 b4 b5 b6 b7;obtain⟨l2,c1,c2,_⟩:=h.ok.own i o b1 b2;rw[b3]at c1;cases c1;exact c2 (.inr ⟨j,o',l',b4,b5,b6,b7.symm⟩)
  rcases key i o l a1 a5 with⟨b1,b2⟩|⟨b1,b2⟩<;>rcases key j o' l' a2 a6 with⟨c1,c2⟩|⟨c1,c2⟩
  ·exact h.ok.inj i j o o' l l' b1 c1 a3 a4 b2 c2 a7
  ·exact(Ma i j o o' l l' b1 a3 b2 c1 a4 c2 a7).elim
  ·exact(Ma j i o' o l' l c1 a4 c2 b1 a3 b2 a7.symm).elim
  ·exact aj.inj i j o o' l l' (BI b1).1 (BI c1).1 a3 a4 b2 c2 a7
end
end Go.T
namespace Go.T
open Go
variable[bV]
structure dv(P:Program)(f:FuncId)(args:List D)(pre:ae)(r:D)(post:ae):Prop where
 out:∀w O ρ vals,cF w O ρ pre→Gl w (Ot O ρ pre)→Vs w (Ot O ρ pre) ρ args vals→Calls P f vals.toArray w (fun e w'=>∃v av,e=.returned v∧Tr O w ρ pre w' av post∧V w' (Ot O av post) av r v)
def rM(a b:ae):Bool:=a.all fun p=>!b.has p.1
theorem X'{a b:ae}(h:rM a b=true):∀i,a.has i=true→b.has i=false:=by
 intro i hi;obtain⟨o,ho⟩:=ae.gO.1 hi;have key:∀a:ae,rM a b=true→a.get i=some o→b.has i=false:=by
  intro a;induction a with
  |nil=>intro _ h;simp[ae.get]at h
  |cons p r ih=>
   obtain⟨t,d⟩:=p;intro hd hg;simp only[rM,List.all_cons,Bool.and_eq_true,Bool.not_eq_true']at hd;rw[ae.aZ]at hg;by_cases e:t=i
   ·subst e;exact hd.1
   ·rw[if_neg e]at hg;exact ih hd.2 hg
 exact key a h ho
theorem gX.okB{pre U:ae}(h:gX pre U pre):∀i o,pre.get i=some o→o.okB pre.has=true:=fun i o ho=>(h.sound i o ho).2
theorem Vs.Xv{w:World}{O:Nat→Prop}{ρ:aA}{f:Nat→Bool}{ds:List D}{vs:List Value}(hp:D.okB.eV f ds=true)(h:Vs w O ρ ds vs):Vs w O (cu f ρ) ds vs:=Vs.cut ds vs hp h
theorem NI{w:World}{O:Nat→Prop}{ρ:aA}{U pre:ae}(dV:∀i o,pre.get i=some o→U.get i=some o)(hp:∀i o,pre.get i=some o→o.okB pre.has=true)(aj:cF w O ρ U):cF w (Ot O ρ (U.rest pre)) (cu pre.has ρ) pre:=by
 refine⟨?_,fun i hi=>by simp[cu,ae.has,hi],fun i o h1 h2=>?_,fun i j o o' l l' a b c d e e'=>aj.inj i j o o' l l' (dV _ _ a) (dV _ _ b) c d (oD e) (oD e')⟩
 ·rintro b (hb|hb)
  ·exact aj.lt b hb
  ·exact(aj.block ((uw dV b).2 (.inr hb))).1
 ·obtain⟨l,h3,h4,h5⟩:=aj.own i o (dV i o h1) h2;have hl:cu pre.has ρ i=some l:=by simp[cu,ae.has,h1,h3]
  refine⟨l,hl,?_,(h5.eN (Kept.eN ?_)).cut (hp i o h1)⟩
  ·rintro(hb|hb)
   ·exact h4 hb
   ·exact Tg dV aj ⟨i,o,l,h1,h2,hl,rfl⟩ hb
  ·rintro b ((hb|hb)|hb)
   ·exact .inl hb
   ·exact .inr ((uw dV b).2 (.inr hb))
   ·exact .inr ((uw dV b).2 (.inl hb))
theorem Ep{w:World}{O:Nat→Prop}{ρ:aA}{U pre:ae}(dV:∀i o,pre.get i=some o→U.get i=some o)(b:Nat):Ot (Ot O ρ (U.rest pre)) (cu pre.has ρ) pre b→Ot O ρ U b:=by
 rintro((hb|hb)|hb)
 ·exact .inl hb
 ·exact .inr ((uw dV b).2 (.inr hb))
 ·exact .inr ((uw dV b).2 (.inl hb))
section
variable{P:Program} {env:Env} {dst:Option Tmp} {ty:TypeId} {pos:String} {ar:Array Edge} {g:Option (Nat×Bool)}
theorem aq.Z6{o:Oper}{f:FuncId}{ds:List D}{r:D}{pre post U:ae}(hf:dv P f ds pre r post)(e8:gX pre U pre)(vK:D.okB.eV pre.has ds=true)(mg:rM post (U.rest pre)=true)
  (h:∀(O:Nat→Prop)(ρ:aA)(a:Act)(w:World),cF w O ρ U→(∀x∈o.op.operands.toList,∀d',env.op x=some d'→V w (Ot O ρ U) ρ d' (a.eval x))→∃vals:List Value,(execOp a.eval o).run P w=.ok (.enter f vals.toArray) w∧Vs w (Ot O ρ U) ρ ds vals):
  aq P o env U r (post++U.rest pre):=by
 intro O ρ a w aj cQ hv;obtain⟨vals,e_,kP⟩:=h O ρ a w aj hv;have dV:∀i o,pre.get i=some o→U.get i=some o:=fun i o ho=>(e8.sound i o ho).1;unfold Oper.wp;rw[e_];simp only[Oper.upon];have adj:Vs w (Ot (Ot O ρ (U.rest pre)) (cu pre.has ρ) pre) (cu pre.has ρ) ds vals:=
  Vs.Xv vK (Vs.mono (Kept.eN fun b hb=>Ep (w:=w) dV b hb) (bA.refl _) _ _ kP)
 refine Calls.mono (hf.out w _ _ vals (NI dV e8.okB aj) (cQ.mono (Kept.eN fun b hb=>Ep (w:=w) dV b hb)) adj) ?_;rintro e w' ⟨v,av,rfl,bb,hr⟩;obtain⟨h1,h2,h3⟩:=NH (fun _=>true) dV aj bb.uK (X' mg) (fun i l _ hl=>bb.le i l hl) (fun i o _=>Ob.Jt o);exact⟨_,v,rfl,⟨fun i l hl=>h2 i l rfl hl,h1.size,h1.same,h1.new,h1.ok,h1.os⟩,h3 r v hr⟩
theorem gE{f:FuncId}{xs:List Operand}{tys:Array TypeId}{ds:List D}{r:D}{pre post U:ae}
  (gh:∀(args:Array Value)(w:World),(callFunc f args).run P w=.ok (.enter f args) w)(hx:env.jY xs=some ds)(hf:dv P f ds pre r post)(e8:gX pre U pre)(vK:D.okB.eV pre.has ds=true)(mg:rM post (U.rest pre)=true):
  aq P ⟨dst,.call ⟨.value (.func f),xs.toArray,tys⟩,ty,pos,ar,g⟩ env U r (post++U.rest pre):=by
 refine aq.Z6 hf e8 vK mg fun O ρ a w aj hv=>?_;refine⟨xs.map a.eval,?_,uu xs ds hx (fun x hx d' h=>hv x (by simp[Op.operands,Call.operands,hx]) d' h)⟩;have h1:execOp a.eval ⟨dst,.call ⟨.value (.func f),xs.toArray,tys⟩,ty,pos,ar,g⟩=callFunc f (xs.map a.eval).toArray:=by
  simp[execOp,resolve,Deferred.ofValue,Act.eval,invoke,Bind.bind,Sem.bind,Pure.pure]
 rw[h1,gh]
theorem NA{w:World}{O:Nat→Prop}{ρ:aA}{f:FuncId}{fs b8:List D}{v:Value}(h:V w O ρ (.fn (.func f) fs b8) v):∃us vs,v=.func (.func f) us vs∧Vs w O ρ fs us.toList∧Vs w O ρ b8 vs.toList:=by simpa only[V]using h
theorem aam(a:Act){y:Operand}{f:FuncId}{us vs:Array Value}{xs:List Operand}{tys:Array TypeId}(h:a.eval y=.func (.func f) us vs):
  execOp a.eval ⟨dst,.call ⟨.value y,xs.toArray,tys⟩,ty,pos,ar,g⟩=callFunc f (us.toList++xs.map a.eval++vs.toList).toArray:=by
 have:us++(xs.map a.eval).toArray++vs=(us.toList++xs.map a.eval++vs.toList).toArray:=by simp
 simp[execOp,resolve,Deferred.ofValue,h,invoke,Bind.bind,Sem.bind,Pure.pure,this]
theorem dX{f:FuncId}{y:Operand}{xs:List Operand}{tys:Array TypeId}{ds fs b8:List D}{r:D}
  (gh:∀(args:Array Value)(w:World),(callFunc f args).run P w=.ok (.enter f args) w)(hy:env.op y=some (.fn (.func f) fs b8))(hx:env.jY xs=some ds)(hf:Fc P f (fs++ds++b8) r)(U:ae):
  aq P ⟨dst,.call ⟨.value y,xs.toArray,tys⟩,ty,pos,ar,g⟩ env U r U:=by
 intro O ρ a w aj cQ hv;obtain⟨us,vs,e1,e2,e3⟩:=NA (hv y (by simp[Op.operands,Call.operands]) _ hy);have kP:=uu xs ds hx (fun x hx d' h=>hv x (by simp[Op.operands,Call.operands,hx]) d' h);unfold Oper.wp;rw[aam a e1,gh];simp only[Oper.upon];refine Calls.mono (hf.out w (Ot O ρ U) ρ _ ?_ cQ ((e2.append kP).append e3)) ?_
 ·rintro b (hb|hb)
  ·exact aj.lt b hb
  ·exact(aj.block hb).1
 ·rintro e w' ⟨v,rfl,h1,h2⟩;exact⟨ρ,v,rfl,Tr.o_ h2 aj,h1⟩
end
theorem VP{O:Nat→Prop}{w:World}{ρ:aA}{U:ae}{id:Nat}{ds:List D}{v:Value}(aj:cF w O ρ U)(ho:U.get id=some (.cells ds))(hp:D.bG.eG ds=true)(h1:kZ ds=true)(hv:V w (Ot O ρ U) ρ (.box id 0) v):
  V w (Ot O ρ (U.set id .dead)) ρ (.aY ds) v:=by
 simp only[V]at hv⊢;obtain⟨l,e1,e⟩:=hv;obtain⟨l',h3,h4,vs,T,h5,h6⟩:=aj.own id _ ho rfl;rw[e1]at h3;cases h3;have hk:=(Tr.die id aj).kept;refine⟨l.b,0,e,⟨(Array.getElem?_eq_some_iff.1 h5).1,?_⟩,?_⟩
 ·rintro(hb|⟨i,x,l',g1,g2,g3,g4⟩)
  ·exact h4 hb
  ·have hx:=qo i x g1 g2;have:=aj.inj i id x _ l' l hx ho g2 rfl g3 e1 g4;subst this;rw[ae.dU]at g1;simp only[if_true,Option.some.injEq]at g1;subst g1;simp[Ob.live]at g2
 ·refine Vc.q_ h5 ds 0 ?_ ?_
  ·have hl:=h6.length;rw[List.drop_zero,List.take_of_length_le zO];exact Vs.mono hk (bA.refl _) _ _ (Vs.pure ds _ hp h6)
  ·have hl:=h6.length;rw[List.drop_zero,List.take_of_length_le zO];exact Vs.one h1 h6
theorem Le.gg{F:Fr}{env:Env}{U:ae}{ds:List D}(t id:Nat)(ht:env.get t=some (.box id 0))(ho:U.get id=some (.cells ds))(hp:D.bG.eG ds=true)(h1:kZ ds=true):
  Le F env U ((t,.aY ds)::env) (U.set id .dead):=.step fun O ρ w f aj hv=>by
 have bb:=Tr.die id aj;refine⟨ρ,bb,fun s d h=>?_⟩;rw[Env.aZ]at h;by_cases e:t=s
 ·rw[if_pos e]at h;cases h;subst e;exact VP aj ho hp h1 (hv t _ ht)
 ·rw[if_neg e]at h;exact bb.V (hv s d h)
def EK(ts:List Nat)(r:D)(post:ae):Exit→Env→ae→Prop
 |.ret,env,U|.normal,env,U=>(∃ds,getAll env ts=some ds∧Sub (qX ds) r)∧gX post U post
 |_,_,_=>False
theorem dv.mk'{P:Program}{f:FuncId}{fn:Func}{c:Code}{args:List D}{r:D}{pre post:ae}(ts:List Nat)(hf:P.funcs[f]?=some fn)(hb:fn.body=some c){N:Nat}(hN:fn.ntmps=N)(hn:Nat.ble args.length N=true)(qH:(pre.map (·.1)).all post.has=true)(hr:r.okB post.has=true)
  (pH:∀tmps w,(results fn tmps).run P w=.ok (BH ts tmps) w)(h:J P ⟨N,pre.map (·.1),false,none⟩ [c] (EK ts r post) (pt args 0) pre):dv P f args pre r post:=⟨fun w O ρ vals aj cQ hv=>by
 refine zu hf hb h.start (St.begin fn.ntmps hN (Nat.le_of_ble_eq_true hn) aj cQ hv _ none (fun _ _ e=>by cases e)) ?_ ?_
 ·intro e aQ ak hq;cases e<;>first|exact .inl rfl|exact .inr rfl|exact hq.elim
 ·intro e aQ ak tmps w' av hq oN bb tO;have:(∃ds,getAll aQ ts=some ds∧Sub (qX ds) r)∧gX post ak post:=by cases e<;>first|exact hq|exact hq.elim
  obtain⟨⟨ds,h1,h2⟩,h3⟩:=this;have hO:∀b,bQ (cu post.has av) post b→bQ av ak b:=by
   rintro b ⟨i,o,l,g1,g2,g3,g4⟩;exact⟨i,o,l,(h3.sound i o g1).1,g2,oD g3,g4⟩
  refine⟨_,pH _ _,_,cu post.has av,rfl,⟨?_,bb.size,bb.same,fun b hb=>bb.new b (hO b hb),bb.ok.sub h3.sound,bb.os⟩,?_⟩
  ·intro i l hl;have hi:pre.has i=true:=by
    cases hp:pre.get i with
    |none=>rw[aj.fresh i hp]at hl;cases hl
    |some o=>exact ae.gO.2 ⟨o,hp⟩
   have hm:i∈pre.map (·.1):=by
    obtain⟨o,ho⟩:=ae.gO.1 hi;have key:∀p:ae,p.get i=some o→i∈p.map (·.1):=by
     intro p;induction p with
     |nil=>intro h;simp[ae.get]at h
     |cons q r ih=>
      obtain⟨t,d⟩:=q;intro h;rw[ae.aZ]at h;by_cases e:t=i
      ·subst e;simp
      ·rw[if_neg e]at h;exact List.mem_cons_of_mem _ (ih h)
    exact key pre ho
   have:=List.all_eq_true.1 qH i hm;simp[cu,this,oN i hm l hl]
  ·have h4:=h2.out _ _ _ _ (Vs.res (Dc tO ts ds h1));exact V.cut r _ hr (V.mono (Kept.eN fun b hb=>hb.imp _root_.id (hO b)) (bA.refl _) _ _ h4)⟩
theorem uE{env:Env}{U post:ae}{t:Nat}{d r:D}(h:env.get t=some d)(s:Sub d r)(hp:gX post U post):EK [t] r post .ret env U:=⟨⟨[d],by simp[getAll,h],s⟩,hp⟩
theorem Tj{env:Env}{U post:ae}{t u:Nat}{d e d' e':D}(h:env.get t=some d)(h':env.get u=some e)(s:Sub d d')(s':Sub e e')(hp:gX post U post):EK [t,u] (.bf [d',e']) post .ret env U:=⟨⟨[d,e],by simp[getAll,h,h'],.E7 s s'⟩,hp⟩
theorem J9{env:Env}{U post:ae}{r:D}(s:Sub (.bf []) r)(hp:gX post U post):EK [] r post .normal env U:=⟨⟨[],rfl,s⟩,hp⟩
structure Tx(P:Program)(F:Fr)(ops:Array Oper)(K:Env→ae→Prop)(l:List Oper)(env:Env)(U:ae):Prop where
 out:∀(C:Ctx)(Q:Exit→Act→World→Prop),(∀a w aQ ak,K aQ ak→St F C aQ ak a w→Q .normal a w)→∀(i:Nat) a w,ops.toList.drop i=l→St F C env U a w→wpOpsIn (fz C.ro) 0 P ops Q (List.range' i l.length) a w
section
variable{P:Program} {F:Fr} {ops:Array Oper} {K:Env→ae→Prop} {l:List Oper} {env:Env} {U:ae} {o:Oper}
theorem Tx.nil(h:K env U):Tx P F ops K [] env U:=⟨fun C Q hQ i a w _ hs=>by
 simp only[List.length_nil,List.range',wpOpsIn];exact hQ a w env U h hs⟩
theorem MI{ops:Array Oper}{i:Nat}{o:Oper}{l:List Oper}(h:ops.toList.drop i=o::l):ops[i]?=some o∧ops.toList.drop (i+1)=l:=by
 constructor
 ·have:=congrArg List.head? h;simpa[List.head?_drop]using this
 ·rw[←List.drop_drop,h];rfl
theorem Tx.many(hg:On ops env o)(h:∀(C:Ctx)(Q:Exit→Act→World→Prop)(k:Act→World→Prop)(a:Act)(w:World)(ρ:aA),oz F C env U a w ρ→(∀a' w' aQ ak,Tx P F ops K l aQ ak→St F C aQ ak a' w'→k a' w')→o.wpIn (fz C.ro) 0 P a w k Q):Tx P F ops K (o::l) env U:=⟨fun C Q hQ i a w hd hs=>by
 obtain⟨ho,Aj⟩:=MI hd;obtain⟨ρ,aT⟩:=hs;simp only[List.length_cons,List.range',wpOpsIn,ho];rw[if_pos (B7 hg (fun _ _ t _ _ d h=>aT.env t d h))];exact h C Q _ a w ρ aT (fun a' w' aQ ak hk fH=>hk.out C Q hQ (i+1) a' w' Aj fH)⟩
theorem Tx.q{d:D}{ak:ae}(hd:ed F.N o.dst=true)(hg:On ops env o)(h:aq P o env U d ak)(k:Tx P F ops K l (env.put o.dst d) ak):Tx P F ops K (o::l) env U:=
 .many hg fun C Q kk a w ρ aT hk=>by
  have:=h C.O ρ a w aT.tr.ok aT.vB (fun x _ d' h=>sH aT.env x d' h);refine Oper.wpIn_mono ?_ (w9 C.ro this (by rintro a' w' ⟨av,v,rfl,_⟩;exact Act.k9 ..));rintro a' w' ⟨av,v,rfl,jw,hv⟩;exact hk _ _ _ _ k ⟨av,aT.step jw (tD aT.size hd (fun t d h=>jw.V (aT.env t d h)) hv) (Act.s6 _ _ _) (Act.k9 ..)⟩
def rF(P:Program)(o:Oper)(env:Env)(U:ae){ι:Type}(A:ι→Prop)(d:ι→D)(ak:ι→ae):Prop:=
 ∀(O:Nat→Prop)(ρ:aA)(a:Act)(w:World),cF w O ρ U→Gl w (Ot O ρ U)→
  (∀x∈o.op.operands.toList,∀d',env.op x=some d'→V w (Ot O ρ U) ρ d' (a.eval x))→
  o.wp P a w (fun a' w'=>∃i av v,A i∧a'=a.put o.dst v∧Tr O w ρ U w' av (ak i)∧V w' (Ot O av (ak i)) av (d i) v) (fun _ _ _=>False)
theorem Tx.n{ι:Type}{A:ι→Prop}{d:ι→D}{ak:ι→ae}(hd:ed F.N o.dst=true)(hg:On ops env o)(h:rF P o env U A d ak)(k:∀i,A i→Tx P F ops K l (env.put o.dst (d i)) (ak i)):Tx P F ops K (o::l) env U:=
 .many hg fun C Q kk a w ρ aT hk=>by
  have:=h C.O ρ a w aT.tr.ok aT.vB (fun x _ d' h=>sH aT.env x d' h);refine Oper.wpIn_mono ?_ (w9 C.ro this (by rintro a' w' ⟨i,av,v,_,rfl,_⟩;exact Act.k9 ..));rintro a' w' ⟨i,av,v,hA,rfl,jw,hv⟩;exact hk _ _ _ _ (k i hA) ⟨av,aT.step jw (tD aT.size hd (fun t d h=>jw.V (aT.env t d h)) hv) (Act.s6 _ _ _) (Act.k9 ..)⟩
theorem Tx.off(hd:ed F.N o.dst=true)(hg:rE ops env o)(k:Tx P F ops K l (env.put o.dst (.raw undef)) U):Tx P F ops K (o::l) env U:=⟨fun C Q hQ i a w hdr hs=>by
 obtain⟨ho,Aj⟩:=MI hdr;obtain⟨ρ,aT⟩:=hs;simp only[List.length_cons,List.range',wpOpsIn,ho];rw[if_neg (by simp[KQ hg (fun _ _ t _ _ d h=>aT.env t d h)])];exact⟨fun _ _=>trivial,k.out C Q hQ (i+1) _ _ Aj ⟨ρ,aT.step (Tr.refl aT.tr.ok) (tD aT.size hd aT.env (by simp[V])) (Act.s6 _ _ _) (Act.k9 ..)⟩⟩⟩
theorem Tx.bP{aQ:Env}{ak:ae}(h:Le F env U aQ ak)(k:Tx P F ops K l aQ ak):Tx P F ops K l env U:=⟨fun C Q hQ i a w hd hs=>k.out C Q hQ i a w hd (h.out C a w hs)⟩
theorem J.sZ{Q:Exit→Env→ae→Prop}{cs:List Code}{id:Nat}{l:List Oper}(h:Tx P F l.toArray (J P F cs Q) l env U):J P F (.region id l.toArray false::cs) Q env U:=⟨⟨fun C a w hs=>by
 refine wpIn_region ?_;rw[List.range_eq_range'];have:=h.out C (fun e a' w'=>∃aQ ak,jk (nD P F cs Q) Q e aQ ak∧St F C aQ ak a' w') (fun a w aQ ak hk hs=>⟨aQ,ak,hk.out,hs⟩) 0 a w zS hs;simpa using this⟩⟩
end
end Go.T
namespace Go.T
open Go
variable[bV]
theorem Ob.yK{o:Ob}{f g:Nat→Bool}(h:∀i,f i=true→g i=true)(ho:o.okB f=true):o.okB g=true:=by
 cases o with
 |dead=>rfl
 |cells ds=>exact D.rh ds h ho
 |arr sz rows=>rfl
 |lp st yS s env=>exact D.rh _ h ho
 |mp pP=>
  simp only[Ob.okB,Bool.and_eq_true]at ho⊢;exact⟨D.rh _ h ho.1,D.rh _ h ho.2⟩
 |mi m wY seen=>exact h m ho
 |d_ j n=>exact h j ho
 |ba s=>rfl
 |res sz=>rfl
 |mj ks vs seen=>rfl
 |mn=>rfl
theorem bQ.congr{ρ:aA}{U ak:ae}(h:∀i,U.get i=ak.get i)(b:Nat):bQ ρ U b↔bQ ρ ak b:=by
 unfold bQ;simp only[h]
theorem Ot.congr{O:Nat→Prop}{ρ:aA}{U ak:ae}(h:∀i,U.get i=ak.get i)(b:Nat):Ot O ρ U b↔Ot O ρ ak b:=by
 unfold Ot;rw[bQ.congr h b]
theorem cF.congr{w:World}{O:Nat→Prop}{ρ:aA}{U ak:ae}(h:∀i,U.get i=ak.get i)(aj:cF w O ρ U):cF w O ρ ak:=by
 refine⟨aj.lt,fun i hi=>aj.fresh i (by rw[h];exact hi),fun i o h1 h2=>?_,fun i j o o' l l' a b=>aj.inj i j o o' l l' (by rw[h];exact a) (by rw[h];exact b)⟩;obtain⟨l,h3,h4,h5⟩:=aj.own i o (by rw[h];exact h1) h2;exact⟨l,h3,h4,h5.eN (Kept.eN fun b hb=>(Ot.congr h b).2 hb)⟩
theorem fR.congr{O:Nat→Prop}{w w':World}{ρ av:aA}{U dl kY:ae}(h:∀i,dl.get i=kY.get i)(ht:fR O w ρ U w' av dl):fR O w ρ U w' av kY:=
 ⟨ht.size,ht.same,fun b hb=>ht.new b ((bQ.congr h b).2 hb),ht.ok.congr h,ht.os⟩
theorem fR.Xa{O:Nat→Prop}{w w':World}{ρ av:aA}{U ak dl:ae}(h:∀i,U.get i=ak.get i)(ht:fR O w ρ U w' av dl):fR O w ρ ak w' av dl:=
 ⟨ht.size,fun b hb ho=>ht.same b hb fun g=>ho ((bQ.congr h b).1 g),fun b hb=>(ht.new b hb).imp (bQ.congr h b).1 _root_.id,ht.ok,ht.os⟩
structure K_(P:Program)(aH lb:Nat)(ids:List Nat)(x:List D)(B B':ae)(X:ae→Prop):Prop where
 out:∀(O:Nat→Prop)(ρ:aA)(w:World)(vals:List Value)(l:Loc),ρ aH=some l→l.b=lb→cF w O ρ B→Gl w (Ot O ρ B)→Vs w (Ot O ρ B) ρ x vals→
  ∃fn tmps assign body,(Instr.yield lb vals.toArray).run P w=.ok (.round lb fn tmps assign body) w∧
   RoundIn Fence.wide 0 P lb fn tmps assign body w (fun e w'=>∃b av o,e=.returned (.bool b)∧((b=true∧o=B')∨(b=false∧X o))∧fR O w ρ B w' av o∧∀i∈ids,∀l,ρ i=some l→av i=some l)
structure zl{α:Type}(P:Program)(lo aH lb:Nat)(ids:List Nat)(B:List α→ae)(X:ae→Prop)(enc:α→List D)(ok:List α→Prop):Prop where
 mem:aH∈ids
 has:∀pre,ids.all (B pre).has=true
 acs:∀o,X o→ids.all o.has=true
 Bk:∀pre i o,(B pre).get i=some o→o.okB (B pre).has=true
 okX:∀o,X o→∀i x,o.get i=some x→x.okB o.has=true
 free:∀pre i,lo≤i→i<lo+100→(B pre).get i=none
 NM:∀o,X o→∀i,lo≤i→i<lo+100→o.get i=none
 step:∀pre x,ok (pre++[x])→K_ P aH lb ids (enc x) (B pre) (B (pre++[x])) X
@[reducible] def yv(lb:Nat):D:=.raw (.func (.yield lb) #[] #[])
structure zh{α:Type}(P:Program)(f:FuncId)(lo:Nat)(b8:List D)(own:ae)(enc:α→List D)(ok fin:List α→Prop):Prop where
 out:∀(aH lb:Nat)(ids:List Nat)(B:List α→ae)(X:ae→Prop),zl P lo aH lb ids B X enc ok→∀w O ρ vals l,ρ aH=some l→l.b=lb→cF w O ρ (own++B [])→Gl w (Ot O ρ (own++B []))→Vs w (Ot O ρ (own++B [])) ρ b8 vals→
  Calls P f (.func (.yield lb) #[] #[]::vals).toArray w (fun e w'=>∃v av o,e=.returned v∧((∃xs,fin xs∧o=B xs)∨X o)∧fR O w ρ (own++B []) w' av o∧∀i∈ids,∀l,ρ i=some l→av i=some l)
def kR(lo:Nat)(own:ae):Bool:=own.all fun p=>Nat.ble lo p.1&&Nat.blt p.1 (lo+100)
theorem qO{lo:Nat}{own:ae}(h:kR lo own=true):∀i,own.has i=true→lo≤i∧i<lo+100:=by
 intro i hi;obtain⟨o,ho⟩:=ae.gO.1 hi;induction own with
 |nil=>simp[ae.get]at ho
 |cons p r ih=>
  obtain⟨t,d⟩:=p;simp only[kR,List.all_cons,Bool.and_eq_true]at h;rw[ae.aZ]at ho;by_cases e:t=i
  ·subst e;exact⟨Nat.le_of_ble_eq_true h.1.1,by simpa[Nat.blt_eq]using h.1.2⟩
  ·rw[if_neg e]at ho;exact ih h.2 (ae.gO.2 ⟨o,ho⟩) ho
theorem Hx{i:Nat}:∀{own:ae},i∈own.map (·.1)→own.has i=true
 |[],hi=>by simp at hi
 |(t,d)::r,hi=>by
  simp only[ae.has,ae.aZ];by_cases e:t=i
  ·simp[e]
  ·rw[if_neg e];simp only[List.map_cons,List.mem_cons]at hi;exact Hx (own:=r) (hi.resolve_left (fun e'=>e e'.symm))
inductive qd(f:Nat→Bool)(env:Env):Env→Prop
 |nil:qd f env []
 |cons {t:Nat} {d:D} {e:Env} (h:env.get t=some d) (hp:d.okB f=true) (r:qd f env e):qd f env ((t,d)::e)
theorem qd.sound{f:Nat→Bool}{env aQ:Env}(h:qd f env aQ):∀t d,aQ.get t=some d→env.get t=some d∧d.okB f=true:=by
 induction h with
 |nil=>intro t d h;simp[Env.get]at h
 |@cons t0 d0 e h hp _ ih=>
  intro t d hd;rw[Env.aZ]at hd;by_cases e:t0=t
  ·rw[if_pos e]at hd;cases hd;exact⟨e▸h,hp⟩
  ·rw[if_neg e]at hd;exact ih t d hd
section
variable{P:Program} {F:Fr} {ops:Array Oper} {K:Env→ae→Prop} {ol:List Oper} {env:Env}
theorem aan(a:Act){y:Operand}{lb:Nat}{xs:List Operand}{tys:Array TypeId}{dst:Option Tmp}{ty:TypeId}{pos:String}{ar:Array Edge}{g:Option (Nat×Bool)}(h:a.eval y=.func (.yield lb) #[] #[]):
  execOp a.eval ⟨dst,.call ⟨.value y,xs.toArray,tys⟩,ty,pos,ar,g⟩=Instr.yield lb (xs.map a.eval).toArray:=by
 simp[execOp,resolve,Deferred.ofValue,h,invoke,Bind.bind,Sem.bind,Pure.pure]
theorem Tx.y2{α:Type}{lo aH lb:Nat}{ids:List Nat}{B:List α→ae}{X:ae→Prop}{enc:α→List D}{ok:List α→Prop}(Y:zl P lo aH lb ids B X enc ok){own:ae}{pre:List α}{aQ:Env}{y:Operand}{xs:List Operand}{tys:Array TypeId}{dst:Option Tmp}{ty:TypeId}{pos:String}{ar:Array Edge}{g:Option (Nat×Bool)}
  {p0:List Nat}(x:α)(Hq:F.yl=some (aH,lb))(qH:F.ps=ids++p0)(hp0:p0.all own.has=true)(hd:ed F.N dst=true)(hg:On ops env ⟨dst,.call ⟨.value y,xs.toArray,tys⟩,ty,pos,ar,g⟩)(hy:env.op y=some (yv lb))(hx:env.jY xs=some (enc x))(Ib:D.bG.eG (enc x)=true)(aj:ok (pre++[x]))
  (eu:kR lo own=true)(H_:own.okB own.has=true)(he:qd own.has env aQ)
  (kT:Tx P F ops K ol (aQ.put dst (.raw (.bool true))) (own++B (pre++[x])))(kF:∀o,X o→Tx P F ops K ol (aQ.put dst (.raw (.bool false))) (own++o)):
  Tx P F ops K (⟨dst,.call ⟨.value y,xs.toArray,tys⟩,ty,pos,ar,g⟩::ol) env (own++B pre):=
 .many hg fun C Q kk a w ρ aT hk=>by
  have xR:=sH aT.env y _ hy;simp only[V]at xR;obtain⟨_,l0,OT,mh⟩:=aT.yl aH lb Hq;have oO:aH∈F.ps:=by rw[qH];exact List.mem_append_left _ Y.mem
  have lJ:=aT.keep aH oO l0 OT;have kP:=uu xs _ hx (fun x _ d' h=>sH aT.env x d' h);have Hp:∀i,own.has i=true→(B pre).get i=none:=fun i hi=>Y.free pre i (qO eu i hi).1 (qO eu i hi).2;have ac7:∀(o:ae),(∀i,own.has i=true→o.get i=none)→∀i x,o.get i=some x→ae.get (own++o) i=some x:=by
   intro o ho i x hi;rw[ae.get_append];cases hp:own.get i with
   |none=>exact hi
   |some z=>rw[ho i (ae.gO.2 ⟨z,hp⟩)]at hi;cases hi
  have dV:=ac7 (B pre) Hp;have Ie:∀i,(ae.rest (own++B pre) (B pre)).get i=own.get i:=by
   intro i;rw[ae.qy,ae.get_append];cases hp:own.get i with
   |some z=>simp[ae.has,Hp i (ae.gO.2 ⟨z,hp⟩)]
   |none=>
    cases hb:(B pre).get i with
    |none=>simp[ae.has,hb]
    |some z=>simp[ae.has,hb]
  have ac9:∀i,(ae.rest (own++B pre) (B pre)).has i=own.has i:=fun i=>by simp[ae.has,Ie]
  have HP:(B pre).has aH=true:=List.all_eq_true.1 (Y.has pre) aH Y.mem;have Ay:=NI (U:=own++B pre) (pre:=B pre) dV (Y.Bk pre) aT.tr.ok;have adk:Vs w (Ot (Ot C.O ρ (ae.rest (own++B pre) (B pre))) (cu (B pre).has ρ) (B pre)) (cu (B pre).has ρ) (enc x) (xs.map a.eval):=
   Vs.pure _ _ Ib (Vs.mono (Kept.eN fun b hb=>Ep (w:=w) dV b hb) (bA.refl _) _ _ kP)
  obtain⟨fn,tmps,assign,body,e_,ac_⟩:=(Y.step pre x aj).out _ _ w (xs.map a.eval) l0 (by simp[cu,HP,lJ]) mh Ay (aT.vB.mono (Kept.eN fun b hb=>Ep (w:=w) dV b hb)) adk;refine⟨fun _ _=>trivial,?_⟩;rw[Oper.semAt_eq _ _ _ (fun c hc=>by cases hc),aan a xR,e_];simp only[Oper.uponIn];refine⟨fun e=>by simp[fz,Fence.wide]at e,?_⟩;have ac':RoundIn (fz C.ro) 0 P lb fn tmps assign body w _:=ac_;refine ac'.mono ?_;rintro e w' ⟨b,av,o,rfl,ho,bb,oN⟩;have OJ:∀i,own.has i=true→o.get i=none:=by
   rcases ho with⟨_,rfl⟩|⟨_,ho⟩
   ·exact fun i hi=>Y.free _ i (qO eu i hi).1 (qO eu i hi).2
   ·exact fun i hi=>Y.NM o ho i (qO eu i hi).1 (qO eu i hi).2
  obtain⟨h1,h2,_⟩:=NH (fun i=>ids.contains i||own.has i) dV aT.tr.ok bb
   (fun i hi=>by
    rw[ac9];cases hp:own.has i with
    |false=>rfl
    |true=>rw[ae.has,OJ i hp]at hi;cases hi)
   (fun i l hs hl=>by
    simp only[Bool.or_eq_true,List.contains_iff_mem]at hs;rcases hs with hs|hs
    ·exact oN i hs l hl
    ·simp[cu,ae.has,Hp i hs]at hl)
   (fun i x hx=>by
    rw[Ie]at hx;exact Ob.yK (fun j hj=>by simp[hj]) (ae.Js H_ i x hx))
  have Ai:∀i,ae.get (o++ae.rest (own++B pre) (B pre)) i=ae.get (own++o) i:=by
   intro i;rw[ae.get_append,ae.get_append,Ie];cases hp:own.get i with
   |none=>cases o.get i<;>rfl
   |some z=>rw[OJ i (ae.gO.2 ⟨z,hp⟩)]
  have mU:=h1.congr Ai;have qI:∀v:Bool,St F C (aQ.put dst (.raw (.bool v))) (own++o) (a.put dst (.bool v)) w':=fun v=>by
   refine⟨_,fun i hi l hl=>h2 i l ?_ (aT.keep i hi l hl),aT.tr.trans mU,?_,(Act.s6 _ _ _).trans aT.size,?_,aT.rd,aT.yl,aT.gl⟩
   ·rw[qH]at hi;simp only[Bool.or_eq_true,List.contains_iff_mem];rcases List.mem_append.1 hi with hi|hi
    ·exact .inl hi
    ·refine .inr ?_;exact List.all_eq_true.1 hp0 _ hi
   ·refine tD aT.size hd (fun t d Aj=>?_) (by simp[V]);obtain⟨g1,g2⟩:=he.sound t d Aj;refine V.mono mU.kept ?_ _ _ (V.cut d _ g2 (aT.env t d g1));intro j lj jR;unfold cu at jR;split at jR
    ·rename_i hs;exact h2 j lj (by simp[hs]) jR
    ·cases jR
   ·rw[Act.k9];exact mU.marks aT.marks
  rcases ho with⟨rfl,rfl⟩|⟨rfl,ho⟩
  ·exact hk _ _ _ _ kT (qI true)
  ·exact hk _ _ _ _ (kF o ho) (qI false)
theorem Tx.y{α:Type}{lo aH lb:Nat}{ids:List Nat}{B:List α→ae}{X:ae→Prop}{enc:α→List D}{ok:List α→Prop}(Y:zl P lo aH lb ids B X enc ok){own:ae}{pre:List α}{aQ:Env}{y:Operand}{xs:List Operand}{tys:Array TypeId}{dst:Option Tmp}{ty:TypeId}{pos:String}{ar:Array Edge}{g:Option (Nat×Bool)}
  (x:α)(Hq:F.yl=some (aH,lb))(qH:F.ps=ids++own.map (·.1))(hd:ed F.N dst=true)(hg:On ops env ⟨dst,.call ⟨.value y,xs.toArray,tys⟩,ty,pos,ar,g⟩)(hy:env.op y=some (yv lb))(hx:env.jY xs=some (enc x))(Ib:D.bG.eG (enc x)=true)(aj:ok (pre++[x]))
  (eu:kR lo own=true)(H_:own.okB own.has=true)(he:qd own.has env aQ)
  (kT:Tx P F ops K ol (aQ.put dst (.raw (.bool true))) (own++B (pre++[x])))(kF:∀o,X o→Tx P F ops K ol (aQ.put dst (.raw (.bool false))) (own++o)):
  Tx P F ops K (⟨dst,.call ⟨.value y,xs.toArray,tys⟩,ty,pos,ar,g⟩::ol) env (own++B pre):=
 Tx.y2 Y x Hq qH (List.all_eq_true.2 fun i hi=>Hx hi) hd hg hy hx Ib aj eu H_ he kT kF
end
def J_{α:Type}(B:List α→ae)(X:ae→Prop)(fin:List α→Prop):Exit→Env→ae→Prop
 |.ret,_,U|.normal,_,U=>∃o,((∃xs,fin xs∧o=B xs)∨X o)∧∀i x,o.get i=some x→U.get i=some x
 |_,_,_=>False
theorem aiA{α:Type}{B:List α→ae}{X:ae→Prop}{fin:List α→Prop}{env:Env}{U:ae}{e:Exit}(he:e=.ret∨e=.normal)(xs:List α)(hf:fin xs)(h:∀i x,(B xs).get i=some x→U.get i=some x):J_ B X fin e env U:=by
 rcases he with rfl|rfl<;>exact⟨_,.inl ⟨xs,hf,rfl⟩,h⟩
theorem aiB{α:Type}{B:List α→ae}{X:ae→Prop}{fin:List α→Prop}{env:Env}{U:ae}{e:Exit}(he:e=.ret∨e=.normal)(o:ae)(hx:X o)(h:∀i x,o.get i=some x→U.get i=some x):J_ B X fin e env U:=by
 rcases he with rfl|rfl<;>exact⟨_,.inr hx,h⟩
theorem sM{own o:ae}{lo:Nat}(eu:kR lo own=true)(hf:∀i,lo≤i→i<lo+100→o.get i=none):∀i x,o.get i=some x→ae.get (own++o) i=some x:=by
 intro i x hi;rw[ae.get_append];cases hp:own.get i with
 |none=>exact hi
 |some z=>
  have:=qO eu i (ae.gO.2 ⟨z,hp⟩);rw[hf i this.1 this.2]at hi;cases hi
theorem JM{ids own:List Nat}{L o:ae}(h:ids.all o.has=true)(h2:own.all (ae.has L)=true):(ids++own).all (ae.has (L++o))=true:=by
 rw[List.all_append,Bool.and_eq_true];constructor
 ·rw[List.all_eq_true]at h⊢;intro i hi;obtain⟨x,hx⟩:=ae.gO.1 (h i hi);simp only[ae.has,ae.get_append];cases L.get i<;>simp[hx]
 ·rw[List.all_eq_true]at h2⊢;intro i hi;obtain⟨x,hx⟩:=ae.gO.1 (h2 i hi);simp[ae.has,ae.get_append,hx]
theorem KA{own iZ o:ae}{lo:Nat}(eu:kR lo own=true)(hf:∀i,lo≤i→i<lo+100→o.get i=none)(aj:∀i x,o.get i=some x→x.okB o.has=true):∀i x,o.get i=some x→ae.get (own++o) i=some x∧x.okB (ae.has (iZ++o))=true:=by
 intro i x hi;refine⟨sM eu hf i x hi,Ob.yK (fun j hj=>?_) (aj i x hi)⟩;obtain⟨y,hy⟩:=ae.gO.1 hj;simp only[ae.has,ae.get_append];cases iZ.get j<;>simp[hy]
theorem zh.mk'{α:Type}{P:Program}{f:FuncId}{fn:Func}{c:Code}{lo:Nat}{b8:List D}{own:ae}{enc:α→List D}{ok fin:List α→Prop}(hf:P.funcs[f]?=some fn)(hb:fn.body=some c){N:Nat}(hN:fn.ntmps=N)(hn:Nat.ble (b8.length+1) N=true)
  (pH:∀tmps w,(results fn tmps).run P w=.ok (BH [] tmps) w)
  (h:∀(aH lb:Nat)(ids:List Nat)(B:List α→ae)(X:ae→Prop),zl P lo aH lb ids B X enc ok→J P ⟨N,ids++own.map (·.1),false,some (aH,lb)⟩ [c] (J_ B X fin) (pt (yv lb::b8) 0) (own++B [])):zh P f lo b8 own enc ok fin:=⟨fun aH lb ids B X Y w O ρ vals l hl mh aj cQ hv=>by
 have ij:Vs w (Ot O ρ (own++B [])) ρ (yv lb::b8) (.func (.yield lb) #[] #[]::vals):=by
  simp only[Vs];exact⟨_,_,rfl,by simp[V],hv⟩
 refine zu hf hb (h aH lb ids B X Y).start (St.begin fn.ntmps hN (by have:=Nat.le_of_ble_eq_true hn;simpa using this) aj cQ ij _ _ (fun i b e=>?_)) ?_ ?_
 ·cases e;exact⟨List.mem_append_left _ Y.mem,l,hl,mh⟩
 ·intro e aQ ak hq;cases e<;>first|exact .inl rfl|exact .inr rfl|exact hq.elim
 ·intro e aQ ak tmps w' av hq oN bb tO;have:∃o,((∃xs,fin xs∧o=B xs)∨X o)∧∀i x,o.get i=some x→ak.get i=some x:=by cases e<;>first|exact hq|exact hq.elim
  obtain⟨o,ho,dV⟩:=this;have ac3:∀i x,o.get i=some x→x.okB o.has=true:=by
   rcases ho with⟨xs,_,rfl⟩|ho
   ·exact Y.Bk xs
   ·exact Y.okX o ho
  have acR:ids.all o.has=true:=by
   rcases ho with⟨xs,_,rfl⟩|ho
   ·exact Y.has xs
   ·exact Y.acs o ho
  have hO:∀b,bQ (cu o.has av) o b→bQ av ak b:=by
   rintro b ⟨i,x,l,g1,g2,g3,g4⟩;exact⟨i,x,l,dV i x g1,g2,oD g3,g4⟩
  refine⟨_,pH _ _,_,cu o.has av,o,rfl,ho,⟨bb.size,bb.same,fun b hb=>bb.new b (hO b hb),bb.ok.sub (fun i x hx=>⟨dV i x hx,ac3 i x hx⟩),bb.os⟩,fun i hi l hl=>?_⟩;have:=List.all_eq_true.1 acR i hi;simp[cu,this,oN i (List.mem_append_left _ hi) l hl]⟩
end Go.T
namespace Go.T
open Go
variable[bV]
def yW:Env→List Tmp→List D→Env
 |e,p::ps,d::ds=>yW ((p,d)::e) ps ds
 |e,_,_=>e
theorem SB{w:World}{O:Nat→Prop}{ρ:aA}{N:Nat}:∀(ps:List Tmp)(ds:List D)(vs:List Value)(env:Env)(tmps:Array Value),tmps.size=N→ps.all (fun p=>Nat.blt p N)=true→Vs w O ρ ds vs→(∀t d,env.get t=some d→V w O ρ d (tmps.getD t undef))→
  ((ps.zip vs).foldl (fun(t:Array Value) (x:Tmp×Value)=>t.setIfInBounds x.1 x.2) tmps).size=N∧∀t d,(yW env ps ds).get t=some d→V w O ρ d (((ps.zip vs).foldl (fun(t:Array Value) (x:Tmp×Value)=>t.setIfInBounds x.1 x.2) tmps).getD t undef)
 |[],ds,vs,env,tmps,hN,_,hv,he=>by
  simp only[List.zip_nil_left,List.foldl_nil];refine⟨hN,?_⟩;cases ds<;>exact he
 |p::ps,[],vs,env,tmps,hN,_,hv,he=>by
  simp only[Vs]at hv;subst hv;simp only[List.zip_nil_right,List.foldl_nil];exact⟨hN,he⟩
 |p::ps,d::ds,vs,env,tmps,hN,hp,hv,he=>by
  simp only[Vs]at hv;obtain⟨u,us,rfl,h1,h2⟩:=hv;simp only[List.all_cons,Bool.and_eq_true]at hp;have bw:p<tmps.size:=by rw[hN];simpa[Nat.blt_eq]using hp.1
  simp only[List.zip_cons_cons,List.foldl_cons,yW];refine SB ps ds us _ _ (by simpa using hN) hp.2 h2 ?_;intro t d' hd;rw[Env.aZ]at hd;rw[z7 _ _ _ _ bw];by_cases e:p=t
  ·rw[if_pos e]at hd⊢;cases hd;exact h1
  ·rw[if_neg e]at hd⊢;exact he t d' hd
theorem qd.eV{f:Nat→Bool}{env aQ:Env}(h:qd f env aQ):D.okB.eV f (aQ.map (·.2))=true:=by
 induction h with
 |nil=>rfl
 |cons h hp _ ih=>simp only[List.map_cons,D.okB.eV,hp,ih,Bool.and_self]
def Z5(F':Fr)(aH:Nat)(s:u0)(b9:Env)(B':ae)(Xs:Code→ae→Prop):Exit→Env→ae→Prop
 |.normal,env,U=>U.get aH=some (.lp .busy none s b9)∧Le F' env (U.set aH (.lp .ready none s b9)) [] B'
 |.ret,env,U=>U.get aH=some (.lp .busy none s b9)∧∃Rx,Xs .ret Rx∧Le F' env (U.set aH (.lp .done (some .ret) s b9)) [] ((aH,.lp .done (some .ret) s b9)::Rx)
 |.exit id,env,U=>U.get aH=some (.lp .busy none s b9)∧∃Rx,Xs (.exit id) Rx∧Le F' env (U.set aH (.lp .done (some (.exit id)) s b9)) [] ((aH,.lp .done (some (.exit id)) s b9)::Rx)
 |_,_,_=>False
def Lp(P:Program)(F':Fr)(aH:Nat)(s:u0)(b9:Env)(B':ae)(Xs:Code→ae→Prop):Exit→Env→ae→Prop
 |.normal,env,U=>U.get aH=some (.lp .ready none s b9)∧J P F' [s.body] (Z5 F' aH s b9 B' Xs) env (U.set aH (.lp .busy none s b9))
 |_,_,_=>False
def E0(aH:Nat)(s:u0)(b9:Env)(Xs:Code→ae→Prop)(o:ae):Prop:=∃j Rx,Xs j Rx∧o=(aH,.lp .done (some j) s b9)::Rx
theorem St.record{F':Fr}{C:Ctx}{env:Env}{U:ae}{a:Act}{w:World}{aH:Nat}{l:Loc}{st:LoopState}{pe:Option Code}{s:u0}{b9:Env}(oO:aH∈F'.ps)(hl:C.td aH=some l)(eB:U.get aH=some (.lp st pe s b9))(hs:St F' C env U a w):
  ∃fn tmps df,w.heap[l.b]?=some (.loop ⟨st,pe,fn,tmps,s.ps,s.assign,s.body,df⟩)∧∀BV Bu,St F' C env (U.set aH (.lp BV Bu s b9)) a (w.putObj l.b (.loop ⟨BV,Bu,fn,tmps,s.ps,s.assign,s.body,df⟩)):=by
 obtain⟨ρ,hs⟩:=hs;have lJ:=hs.keep aH oO l hl;obtain⟨l',h1,h2,fn,tmps,df,h3,h4,h5⟩:=hs.tr.ok.own aH _ eB rfl;rw[lJ]at h1;cases h1;refine⟨fn,tmps,df,h3,fun BV Bu=>⟨ρ,?_⟩⟩;have bb:=Tr.cg (o':=.lp BV Bu s b9) hs.tr.ok eB rfl lJ (.loop ⟨BV,Bu,fn,tmps,s.ps,s.assign,s.body,df⟩) (fun hk=>⟨fn,tmps,df,by
  have:=(Array.getElem?_eq_some_iff.1 h3).1;simp[this],h4,fun t d hd=>V.mono hk (bA.refl _) d _ (h5 t d hd)⟩)
 exact hs.step bb (fun t d hd=>bb.V (hs.env t d hd)) rfl rfl
theorem aiF{P:Program}{N aH lb:Nat}{ids:List Nat}{pl:List Tmp}{s:u0}{b9:Env}{x:List D}{R:ae}{B':ae}{Xs:Code→ae→Prop}(hs:s.ps=pl.toArray)(hN:s.N=N)(Az:pl.all (fun p=>Nat.blt p N)=true)(hlen:x.length=pl.length)(oO:aH∈ids)
  (h:J P ⟨N,ids,true,none⟩ [s.assign] (Lp P ⟨N,ids,true,none⟩ aH s b9 B' Xs) (yW b9 pl x) ((aH,.lp .ready none s b9)::R)):
  K_ P aH lb ids x ((aH,.lp .ready none s b9)::R) B' (E0 aH s b9 Xs):=⟨fun O ρ w vals l hl mh aj cQ hv=>by
 subst mh;have eB:ae.get ((aH,Ob.lp .ready none s b9)::R) aH=some (.lp .ready none s b9):=by simp[ae.get]
 obtain⟨l',h1,h2,fn,tmps,df,h3,h4,h5⟩:=aj.own aH _ eB rfl;rw[hl]at h1;cases h1;have qJ:=hv.length;refine⟨fn,_,s.assign,s.body,run_yield h3 (by rw[hs];simp[qJ,hlen]),?_⟩;refine roundIn_of_wpIn trivial ?_;have vY:((s.ps.zip vals.toArray).foldl (fun tmps (x:Tmp×Value)=>tmps.setIfInBounds x.1 x.2) tmps)=((pl.zip vals).foldl (fun(t:Array Value) (x:Tmp×Value)=>t.setIfInBounds x.1 x.2) tmps):=by
  rw[hs];simp
 obtain⟨be,hpe⟩:=SB (w:=w) pl x vals b9 tmps (h4.trans hN) Az hv h5
 let C:Ctx:=⟨O,w,ρ,(aH,.lp .ready none s b9)::R,some l.b⟩
 have aT:St ⟨N,ids,true,none⟩ C (yW b9 pl x) ((aH,.lp .ready none s b9)::R) {tmps:=(s.ps.zip vals.toArray).foldl (fun tmps (x:Tmp×Value)=>tmps.setIfInBounds x.1 x.2) tmps,defers:=[]} w:=
  ⟨ρ,fun _ _ _ h=>h,fR.refl aj,by rw[vY];exact hpe,by rw[vY];exact be,Marks.nil ..,(fun e=>by cases e),(fun _ _ e=>by cases e),cQ⟩
 have e_:=h.start.out C _ w aT;refine wpIn_mono e_ ?_;rintro e a1 w1 ⟨fE,dl,hq,hs1⟩;cases e with
 |normal=>
  obtain⟨lH,acB⟩:=hq;obtain⟨fn1,aqL,df1,HM,ade⟩:=hs1.record (C:=C) (l:=l) oO hl lH;refine⟨_,run_beginRound HM rfl,?_⟩;refine wpIn_mono (acB.start.out C a1 _ (ade .busy none)) ?_;have fin:∀(sc:Option Code)(st:LoopState)(vp:Env)(kY:ae)(a2:Act)(w2:World)(o:ae),(st=if sc.isNone then .ready else .done)→kY.get aH=some (.lp .busy none s b9)→St ⟨N,ids,true,none⟩ C vp kY a2 w2→Le ⟨N,ids,true,none⟩ vp (kY.set aH (.lp st sc s b9)) [] o→((sc.isNone=true∧o=B')∨(sc.isNone=false∧E0 aH s b9 Xs o))→
    ∃v w',(Instr.endRound l.b sc).run P w2=.ok v w'∧∃b av o,Ending.returned v=.returned (.bool b)∧((b=true∧o=B')∨(b=false∧E0 aH s b9 Xs o))∧fR O w ρ ((aH,.lp .ready none s b9)::R) w' av o∧∀i∈ids,∀l,ρ i=some l→av i=some l:=by
   intro sc st vp kY a2 w2 o adg oM AC e8 ho;obtain⟨fn2,aqM,df2,hh2,adf⟩:=AC.record (C:=C) (l:=l) oO hl oM;obtain⟨av,Pm⟩:=e8.out C a2 _ (adf st sc);refine⟨_,_,run_endRound sc hh2,sc.isNone,av,o,rfl,ho,?_,Pm.keep⟩;have:=Pm.tr;rw[adg]at this;exact this
  rintro e a2 w2 ⟨vp,kY,vW,AC⟩;cases e with
  |normal=>exact fin none .ready vp kY a2 w2 B' rfl vW.1 AC vW.2 (.inl ⟨rfl,rfl⟩)
  |ret=>
   obtain⟨oM,Rx,hx,e8⟩:=vW;exact fin (some .ret) .done vp kY a2 w2 _ rfl oM AC e8 (.inr ⟨rfl,.ret,Rx,hx,rfl⟩)
  |exit id=>
   obtain⟨oM,Rx,hx,e8⟩:=vW;exact fin (some (.exit id)) .done vp kY a2 w2 _ rfl oM AC e8 (.inr ⟨rfl,.exit id,Rx,hx,rfl⟩)
  |goto l=>exact vW.elim
  |panic ch=>exact vW.elim
  |outgrown=>exact vW.elim
 |exit id=>exact hq.elim
 |goto l=>exact hq.elim
 |ret=>exact hq.elim
 |panic ch=>exact hq.elim
 |outgrown=>exact hq.elim⟩
def ajz(Q:Exit→Env→ae→Prop)(b9:Env)(j:Code)(Rx:ae):Prop:=
 match j with
 |.ret=>Q .ret b9 Rx
 |.exit id=>Q (.exit id) b9 Rx
 |_=>False
theorem J.aie{α:Type}{P:Program}{F:Fr}{Q:Exit→Env→ae→Prop}{cs:List Code}{env:Env}{U:ae}{g:Operand}{pl:List Tmp}{assign body:Code}{f:FuncId}{lo:Nat}{b8:List D}{own:ae}{enc:α→List D}{ok fin:List α→Prop}
  (aH:Nat)(S:List Nat)(b9:Env)(R:List α→ae)(Xs:Code→ae→Prop)
  (AA:F.rd=false)(gh:∀(args:Array Value)(w:World),(callFunc f args).run P w=.ok (.enter f args) w)(hF:zh P f lo b8 own enc ok fin)
  {fE:Env}(e8:Le F env U fE (own++R []))(hg:fE.op g=some (.fn (.func f) [] b8))(Az:pl.all (fun p=>Nat.blt p F.N)=true)(hlen:∀x,(enc x).length=pl.length)
  (he:qd (fun i=>S.contains i) fE b9)(qH:F.ps.all (fun i=>S.contains i)=true)
  (hS:∀pre,S.all (R pre).has=true)(Ht:∀j o,Xs j o→S.all o.has=true)
  (aj:∀pre i o,(R pre).get i=some o→o.okB (R pre).has=true)(O_:∀j o,Xs j o→∀i x,o.get i=some x→x.okB o.has=true)
  (vO:∀pre i,(lo≤i∧i<lo+100)∨i=aH→(R pre).get i=none)(OI:∀j o,Xs j o→∀i,(lo≤i∧i<lo+100)∨i=aH→o.get i=none)
  (HP:¬(lo≤aH∧aH<lo+100))(jS:own.get aH=none)
  (round:∀pre x,ok (pre++[x])→J P ⟨F.N,aH::S,true,none⟩ [assign] (Lp P ⟨F.N,aH::S,true,none⟩ aH ⟨pl.toArray,assign,body,F.N⟩ b9 ((aH,.lp .ready none ⟨pl.toArray,assign,body,F.N⟩ b9)::R (pre++[x])) Xs) (yW b9 pl (enc x)) ((aH,.lp .ready none ⟨pl.toArray,assign,body,F.N⟩ b9)::R pre))
  (done:∀xs,fin xs→J P F cs Q b9 (R xs))(stop:∀j o,Xs j o→ajz Q b9 j o):
  J P F (.rangeFunc g pl.toArray assign body::cs) Q env U:=by
 have Xk:∀C a w,St F C env U a w→Code.wpIn (fz C.ro) 0 P (.rangeFunc g pl.toArray assign body) (fun e a' w'=>∃aQ ak,jk (nD P F cs Q) Q e aQ ak∧St F C aQ ak a' w') a w:=by
  intro C a w hs0;obtain⟨ρ,hs⟩:=e8.out C a w hs0;have Ig:C.ro=none:=hs.rd AA;have xR:=sH hs.env g _ hg;obtain⟨us,vs,e1,e2,e3⟩:=NA xR;have mo:us=#[]:=by simp only[Vs]at e2;exact Array.toList_eq_nil_iff.1 e2
  subst mo
  let s:u0:=⟨pl.toArray,assign,body,F.N⟩
  let B:List α→ae:=fun pre=>(aH,.lp .ready none s b9)::R pre
  have hgB:∀(o:Ob)(r:ae) i,ae.get ((aH,o)::r) i=if aH=i then some o else r.get i:=fun o r i=>ae.aZ ..
  rw[Ig];refine wpIn_rangeFunc fun fn _=>?_
  let w1:=w.alloc (.deferred (some []))
  let w2:=w1.alloc (.loop {state:=.ready,pending:=none,fn,tmps:=a.tmps,params:=pl.toArray,assign,body,defers:=w.heap.size})
  have r7:w1.heap.size=w.heap.size+1:=by simp[w1]
  have hw2:w.heap.size<w2.heap.size:=by
   have:w2.heap.size=w1.heap.size+1:=by simp[w2]
   omega
  -- the world with the block for deferred calls, then with the record
  have nQ:Tr C.O w ρ (own++R []) w1 ρ (own++R []):=by
   refine Tr.o_ ⟨by omega,fun b hb=>?_,rfl,rfl,gv.eq rfl rfl⟩ hs.tr.ok;show(w.heap.push _)[b]?=_;rw[Array.getElem?_push,if_neg zO]
  let l:Loc:=⟨w1.heap.size,0,0⟩
  have ca:ae.get (own++R []) aH=none:=by
   rw[ae.get_append,jS];exact vO [] aH (.inr rfl)
  have jU:Tr C.O w1 ρ (own++R []) w2 (cg ρ aH l) ((aH,.lp .ready none s b9)::(own++R [])):=by
   refine Tr.born nQ.ok ca _ rfl (fun i x h _=>h) (fun i h=>h) (fun hk=>⟨fn,a.tmps,w.heap.size,?_,hs.size,fun t d hd=>?_⟩)
   ·exact World.alloc_heap_new w1 _
   ·exact V.mono hk (uP l (nQ.ok.fresh aH ca)) d _ (nQ.V (hs.env t d (he.sound t d hd).1))
  have x6:=nQ.trans jU;have Ai:∀i,ae.get ((aH,.lp .ready none s b9)::(own++R [])) i=ae.get (own++B []) i:=by
   intro i;rw[ae.aZ,ae.get_append,ae.get_append];by_cases e:aH=i
   ·subst e;simp[jS,B,ae.aZ]
   ·rw[if_neg e];cases own.get i with
    |some z=>rfl
    |none=>simp[B,ae.aZ,e]
  have ac2:cF w2 C.O (cg ρ aH l) (own++B []):=x6.ok.congr Ai;have DD:∀b,Ot C.O (cg ρ aH l) (own++B []) b→Ot C.O (cg ρ aH l) ((aH,.lp .ready none s b9)::(own++R [])) b:=fun b hb=>(Ot.congr Ai b).2 hb;have acD:Vs w2 (Ot C.O (cg ρ aH l) (own++B [])) (cg ρ aH l) b8 vs.toList:=
   Vs.mono (Kept.eN DD) (bA.refl _) _ _ (Vs.mono x6.kept x6.le _ _ e3)
  have O0:∀i,i∈S→i≠aH:=by
   intro i hi e;have h1:=List.all_eq_true.1 (hS []) i hi;rw[e,ae.has,vO [] aH (.inr rfl)]at h1;cases h1
  have Y:zl P lo aH l.b (aH::S) B (E0 aH s b9 Xs) enc ok:=by
   have Oj:∀(o:Ob)(r:ae),S.all r.has=true→(aH::S).all (ae.has ((aH,o)::r))=true:=by
    intro o r hr;rw[List.all_eq_true]at hr⊢;intro i hi;rcases List.mem_cons.1 hi with rfl|hi
    ·simp[ae.has,ae.aZ]
    ·have:=hr i hi;simp only[ae.has,ae.aZ]at this⊢;split
     ·rfl
     ·exact this
   have okE:∀(o:ae),S.all o.has=true→∀st pe,(Ob.lp st pe s b9).okB o.has=true:=by
    intro o ho st pe;show D.okB.eV o.has (b9.map (·.2))=true;have:=he.eV;exact D.rh _ (fun i hi=>List.all_eq_true.1 ho i (by simpa using hi)) this
   have Q2:∀(o:Ob)(r:ae) i,r.has i=true→ae.has ((aH,o)::r) i=true:=by
    intro o r i hi;simp only[ae.has,ae.aZ]at hi⊢;split
    ·rfl
    ·exact hi
   have RS:∀st pe(r:ae),S.all r.has=true→(∀i x,r.get i=some x→x.okB r.has=true)→∀i x,ae.get ((aH,.lp st pe s b9)::r) i=some x→x.okB (ae.has ((aH,.lp st pe s b9)::r))=true:=by
    intro st pe r hr ho i x hx;rw[ae.aZ]at hx;by_cases e:aH=i
    ·rw[if_pos e]at hx;cases hx;exact Ob.yK (Q2 _ r) (okE r hr st pe)
    ·rw[if_neg e]at hx;exact Ob.yK (Q2 _ r) (ho i x hx)
   have NJ:∀(o:Ob)(r:ae),(∀i,(lo≤i∧i<lo+100)∨i=aH→r.get i=none)→∀i,lo≤i→i<lo+100→ae.get ((aH,o)::r) i=none:=by
    intro o r hr i h1 h2;rw[ae.aZ,if_neg (fun e:aH=i=>HP zO)];exact hr i (.inl ⟨h1,h2⟩)
   refine⟨List.mem_cons_self,fun pre=>Oj _ _ (hS pre),?_,fun pre=>RS _ _ _ (hS pre) (aj pre),?_,fun pre=>NJ _ _ (vO pre),?_,fun pre x hx=>?_⟩
   ·rintro o ⟨j,Rx,hx,rfl⟩;exact Oj _ _ (Ht j Rx hx)
   ·rintro o ⟨j,Rx,hx,rfl⟩;exact RS _ _ _ (Ht j Rx hx) (O_ j Rx hx)
   ·rintro o ⟨j,Rx,hx,rfl⟩;exact NJ _ _ (OI j Rx hx)
   ·exact aiF rfl rfl Az (hlen x) List.mem_cons_self (round pre x hx)
  refine⟨w.heap.size+1,[⟨.collected w.heap.size,#[]⟩],w2,⟨.fn (.func f) vs,#[]++#[.func (.yield (w.heap.size+1)) #[] #[]]⟩,w2,f,(Value.func (.yield l.b) #[] #[]::vs.toList).toArray,w2,run_enterLoop_outer fn a.tmps pl.toArray assign body,?_,fun _ _=>trivial,?_,fun e=>by simp[fz,Fence.wide]at e,?_⟩
  ·have hm:Array.map a.eval #[Operand.const (Value.func (Fn.yield (w.heap.size+1)) #[] #[])]=#[Value.func (.yield (w.heap.size+1)) #[] #[]]:=by simp[Act.eval]
   rw[resolve];simp only[rangeCall,e1,Deferred.ofValue,hm,Sem.run_pure]
  ·have:(#[]++#[Value.func (.yield (w.heap.size+1)) #[] #[]]++vs:Array Value)=(Value.func (.yield l.b) #[] #[]::vs.toList).toArray:=by
    apply Array.ext';simp[l,r7]
   show(callFunc f (#[]++#[Value.func (.yield (w.heap.size+1)) #[] #[]]++vs)).run P w2=_;rw[this,gh]
  ·refine callsIn_wide.2 (Calls.mono (hF.out aH l.b (aH::S) B _ Y w2 C.O (cg ρ aH l) vs.toList l (jH ..) rfl ac2 (hs.vB.mono (x6.kept.trans (Kept.eN DD))) acD) ?_);rintro e w3 ⟨v,av,o,rfl,ho,x7,oN⟩;have ya:av aH=some l:=oN aH List.mem_cons_self l (jH ..)
   -- the whole way from w to w3
   have ez:fR C.O w ρ (own++R []) w3 av o:=x6.uK.trans (x7.Xa fun i=>(Ai i).symm);have oQ:Marks C.w0.heap.size w3 (Ot C.O av o) (⟨.collected w.heap.size,#[]⟩::a.defers):=by
    have acZ:Marks C.w0.heap.size w2 (Ot C.O (cg ρ aH l) (own++B [])) (⟨.collected w.heap.size,#[]⟩::a.defers):=by
     have xZ:=x6.uK.marks hs.marks;refine⟨fun d hd=>?_,List.pairwise_cons.2 ⟨fun d hd r hr e=>?_,xZ.apart⟩⟩
     ·rcases List.mem_cons.1 hd with rfl|hd
      ·refine⟨w.heap.size,rfl,hs.tr.size,hw2,?_,?_⟩
       ·intro hb;rcases DD _ hb with hb|hb
        ·have:=hs.tr.ok.lt _ hb;omega
        ·rcases jU.new _ hb with hb|hb
         ·have:=(hs.tr.ok.block hb).1;omega
         ·omega
       ·show((w.heap.push _).push _)[w.heap.size]?=_;simp[Array.getElem?_push]
      ·obtain⟨r,g1,g2,g3,g4,g5⟩:=xZ.at_ d hd;exact⟨r,g1,g2,g3,fun hb=>g4 (DD _ hb),g5⟩
     ·obtain⟨r',g1,_,g3,_⟩:=hs.marks.at_ d hd;subst e;cases hr;simp only[Deferred.mk.injEq,Target.collected.injEq,and_true]at g1;omega
    exact x7.marks acZ
   -- what every end has in common
   have Nn:∀(st:LoopState)(pe:Option Code)(Ro:ae),o=(aH,.lp st pe s b9)::Ro→st≠.busy→S.all Ro.has=true→(∀i x,Ro.get i=some x→x.okB Ro.has=true)→(∀i,(lo≤i∧i<lo+100)∨i=aH→Ro.get i=none)→
     ∃w4,(Instr.endLoop l.b).run P w3=.ok pe w4∧St F C b9 Ro {a with defers:=⟨.collected w.heap.size,#[]⟩::a.defers} w4:=by
    intro st pe Ro hoe aT Oi ac4 OK;subst hoe;have eB:ae.get ((aH,Ob.lp st pe s b9)::Ro) aH=some (.lp st pe s b9):=by simp[ae.get]
    obtain⟨l',g1,g2,Nz,T2,Mo,g3,g4,g5⟩:=x7.ok.own aH _ eB rfl;rw[ya]at g1;cases g1;refine⟨_,run_endLoop g3 aT,?_⟩;have Ii:∀i x,Ro.get i=some x→ae.get ((aH,.lp st pe s b9)::Ro) i=some x∧x.okB Ro.has=true:=by
     intro i x hx;refine⟨?_,ac4 i x hx⟩;rw[ae.aZ,if_neg (fun e=>by rw[←e,OK aH (.inr rfl)]at hx;cases hx)];exact hx
    have Oh:∀b,bQ (cu Ro.has av) Ro b→bQ av ((aH,.lp st pe s b9)::Ro) b:=by
     rintro b ⟨i,x,l',k1,k2,k3,k4⟩;exact⟨i,x,l',(Ii i x k1).1,k2,oD k3,k4⟩
    have Av:∀b,bQ (cu Ro.has av) Ro b→b≠l.b:=by
     rintro b ⟨i,x,l',k1,k2,k3,k4⟩ e;have:=x7.ok.inj i aH x _ l' l (Ii i x k1).1 eB k2 rfl (oD k3) ya (k4.trans e);rw[this,OK aH (.inr rfl)]at k1;cases k1
    have H7:=x7.ok.sub Ii;have hk4:Kept w3 (Ot C.O (cu Ro.has av) Ro) (w3.putObj l.b (.loop ⟨.exhausted,pe,Nz,T2,s.ps,s.assign,s.body,Mo⟩)) (Ot C.O (cu Ro.has av) Ro):=by
     refine⟨by simp,fun b hb vV=>⟨fun o e hs=>World.putObj_heap_other (fun e'=>?_),vV⟩⟩;rw[e',g3]at e;cases e;cases hs
    have Pp:fR C.O w ρ (own++R []) (w3.putObj l.b (.loop ⟨.exhausted,pe,Nz,T2,s.ps,s.assign,s.body,Mo⟩)) (cu Ro.has av) Ro:=by
     refine⟨by simpa using ez.size,fun b hb vV=>?_,fun b hb=>ez.new b (Oh b hb),⟨fun b hb=>by simpa using x7.ok.lt b hb,H7.fresh,fun i x k1 k2=>?_,H7.inj⟩,ez.os⟩
     ·rw[World.putObj_heap_other (fun e=>by have:l.b=w.heap.size+1:=r7;omega)];exact ez.same b hb vV
     ·obtain⟨l',k3,k4,k5⟩:=H7.own i x k1 k2;exact⟨l',k3,k4,k5.mono hk4 (bA.refl _) (World.putObj_heap_other (Av _ ⟨i,x,l',k1,k2,k3,rfl⟩))⟩
    refine⟨cu Ro.has av,fun i hi l' vS=>?_,hs.tr.trans Pp,fun t d hd=>?_,hs.size,?_,hs.rd,hs.yl,hs.gl⟩
    ·have HN:i∈S:=by simpa using List.all_eq_true.1 qH i hi
     have hr:cg ρ aH l i=some l':=by rw[ov (O0 i HN)];exact hs.keep i hi l' vS
     have:=List.all_eq_true.1 Oi i HN;simp[cu,this,oN i (List.mem_cons_of_mem _ HN) l' hr]
    ·obtain⟨k1,k2⟩:=he.sound t d hd;refine V.mono Pp.kept ?_ _ _ (V.cut d _ k2 (hs.env t d k1));intro j lj jR;unfold cu at jR;split at jR
     ·rename_i hj;have HS:j∈S:=by simpa using hj
      have hr:cg ρ aH l j=some lj:=by rw[ov (O0 j HS)];exact jR
      have:=List.all_eq_true.1 Oi j HS;simp[cu,this,oN j (List.mem_cons_of_mem _ HS) lj hr]
     ·cases jR
    ·have H2:Marks C.w0.heap.size w3 (Ot C.O (cu Ro.has av) Ro) (⟨.collected w.heap.size,#[]⟩::a.defers):=oQ.mono (Nat.le_refl _) (fun b _ vV=>⟨rfl,fun g=>vV (g.imp _root_.id (Oh b))⟩);refine⟨fun d hd=>?_,H2.apart⟩;obtain⟨r,k1,k2,k3,k4,k5⟩:=H2.at_ d hd;refine⟨r,k1,k2,by simpa using k3,k4,?_⟩;rw[World.putObj_heap_other (fun e=>by rw[e,g3]at k5;cases k5)];exact k5
   have Pf:rangePost Fence.wide 0 P l.b (fun e a' w'=>∃aQ ak,jk (nD P F cs Q) Q e aQ ak∧St F C aQ ak a' w') {a with defers:=⟨.collected w.heap.size,#[]⟩::a.defers} (.returned v) w3:=by
    rcases ho with⟨xs,hfx,rfl⟩|⟨j,Rx,hx,rfl⟩
    ·obtain⟨w4,k1,k2⟩:=Nn .ready none (R xs) rfl zS (hS xs) (aj xs) (vO xs);exact⟨none,w4,k1,b9,R xs,(done xs hfx).out,k2⟩
    ·obtain⟨w4,k1,k2⟩:=Nn .done (some j) Rx rfl zS (Ht j Rx hx) (O_ j Rx hx) (OI j Rx hx);refine⟨some j,w4,k1,?_⟩;have aT:=stop j Rx hx;cases j with
     |ret=>exact wpIn_ret ⟨b9,Rx,aT,k2⟩
     |exit id=>exact wpIn_exit ⟨b9,Rx,aT,k2⟩
     |_=>exact aT.elim
   have mh:l.b=w.heap.size+1:=r7;rw[mh]at Pf;exact Pf
 exact⟨⟨Xk⟩⟩
end Go.T
