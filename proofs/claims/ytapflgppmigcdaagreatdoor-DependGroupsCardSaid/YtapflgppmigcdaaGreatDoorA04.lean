/-
  Contracts of the functions that the statement reaches, and the logic in which they are proved (no condition): parts Core14, Core15, Core16, Core17, Core18, Core19.
-/
import Derived.Test.YtapflgppmigcdaaGreatDoorA03
import Derived.Laws.StructEq
import Derived.Laws.Runes
set_option linter.all false
namespace Go.T
open Go
variable[bX]
theorem YC{c:List Value}{off len p:Nat}{us:List Value}(h:p+us.length≤len)(h2:off+len≤c.length):
  ((c.take (off+p)++us++c.drop (off+p+us.length)).drop off).take len=((c.drop off).take len).take p++us++((c.drop off).take len).drop (p+us.length):=by
 apply List.ext_getElem?;intro i;simp only[List.getElem?_take,List.getElem?_drop,List.getElem?_append,List.length_append,List.length_take,List.length_drop];grind
theorem PI{sz:Nat}:∀(rows:List (List D)),(∀r∈rows,r.length=sz)→rows.flatten.length=rows.length*sz
 |[],_=>by simp
 |r::rows,h=>by
  have:=PI rows (fun r hr=>h r (List.mem_cons_of_mem _ hr));simp only[List.flatten_cons,List.length_append,this,h r List.mem_cons_self,List.length_cons,Nat.add_mul,Nat.one_mul];omega
theorem PJ{sz k m:Nat}{ds:List D}:∀(rows:List (List D))(j:Nat)(r r':List D),(∀r∈rows,r.length=sz)→rows[j]?=some r→r'=r.take k++ds++r.drop (k+m)→k+m≤sz→
  (rows.set j r').flatten=rows.flatten.take (j*sz+k)++ds++rows.flatten.drop (j*sz+k+m)
 |[],j,r,r',_,h,_,_=>by simp at h
 |q::rows,0,r,r',hl,h,e,hk=>by
  simp only[List.getElem?_cons_zero,Option.some.injEq]at h;subst h;have hq:=hl q List.mem_cons_self;simp only[List.set_cons_zero,List.flatten_cons,Nat.zero_mul,Nat.zero_add];rw[List.take_append_of_le_length zO,List.drop_append_of_le_length zO,e];simp
 |q::rows,j+1,r,r',hl,h,e,hk=>by
  have hq:=hl q List.mem_cons_self;have ih:=PJ rows j r r' (fun r hr=>hl r (List.mem_cons_of_mem _ hr)) (by simpa using h) e hk;simp only[List.set_cons_succ,List.flatten_cons,ih];have e1:(j+1)*sz+k=q.length+(j*sz+k):=by rw[hq,Nat.add_mul];omega
  have e2:(j+1)*sz+k+m=q.length+(j*sz+k+m):=by rw[hq,Nat.add_mul];omega
  rw[e2,e1,List.drop_length_add_append,List.take_length_add_append];simp
theorem Vr.lens{w:World}{O:Nat→Prop}{b sz:Nat}:∀(rs:List (List D))(off:Nat),Vr w O b off sz rs→∀r∈rs,r.length=sz
 |[],_,_=>by simp
 |r::rs,off,h=>by
  simp only[Vr]at h;intro r' hr;rcases List.mem_cons.1 hr with rfl|hr
  ·exact h.1.1
  ·exact Vr.lens rs _ h.2 r' hr
theorem Vr.set{w w':World}{O O':Nat→Prop}{b sz off k:Nat}{c:Array Value}{T:TypeId}{rows:List (List D)}{us:List Value}{cs:List D}(hb:w.heap[b]?=some (.cells c T (0,0)))(hv:Vr w O b off sz rows)(hk:Kept w O w' O')
  (aY:off+rows.length*sz≤c.size)(j:Nat)(r r':List D)(hj:rows[j]?=some r)(nN:r'=r.take k++cs++r.drop (k+cs.length))(Bk:k+cs.length≤sz)(m7:Vs w O dt cs us)(h1:∀u∈us,u.oneCell'=true)
  (qk:w'.heap[b]?=some (.cells (setMany c (off+(j*sz+k)) us) T (0,0))):Vr w' O' b off sz (rows.set j r'):=by
 have hl:=hv.lens;have iC:=PI rows hl;obtain⟨h2,h3⟩:=hv.flat;obtain⟨h4,h5,_⟩:=Vc.GL hb _ _ h2;have j5:=m7.length;have Q3:j<rows.length:=(List.getElem?_eq_some_iff.1 hj).1;have JR:j*sz+sz≤rows.length*sz:=by
  have:=Nat.mul_le_mul_right sz (show j+1≤rows.length by omega);rw[Nat.add_mul]at this;omega
 have uI:=PJ (ds:=cs) rows j r r' hl hj nN Bk;have Q6:(rows.set j r').flatten.length=rows.flatten.length:=by
  rw[uI];simp only[List.length_append,List.length_take,List.length_drop];omega
 have uD:c.toList.length=c.size:=by simp
 have lA:=YC (c:=c.toList) (off:=off) (len:=rows.flatten.length) (p:=j*sz+k) (us:=us) zO zO;have Kc:=CU us c (off+(j*sz+k)) zO;refine Vr.r3 qk _ _ ?_ ?_ ?_
 ·intro q hq;rcases List.mem_or_eq_of_mem_set hq with hq|rfl
  ·exact hl q hq
  ·have:=hl r (List.mem_of_getElem? hj);rw[nN];simp only[List.length_append,List.length_take,List.length_drop];omega
 ·rw[Q6,Kc,←Nat.add_assoc,Nat.add_assoc off,lA,uI,j5];exact Vs.mono hk (bI.refl _) _ _ (((h4.take _).append m7).append (h4.drop _))
 ·rw[Q6,Kc,←Nat.add_assoc,Nat.add_assoc off,lA];intro v hv;simp only[List.mem_append]at hv;rcases hv with(hv|hv)|hv
  ·exact h5 v (List.mem_of_mem_take hv)
  ·exact h1 v hv
  ·exact h5 v (List.mem_of_mem_drop hv)
section
variable{P:Program} {env:Env} {dst:Option Tmp} {ty:TypeId} {pos:String} {ar:Array Edge} {g:Option (Nat×Bool)}
theorem bS{t e:TypeId}{x y:Operand}{id n sz off:Nat}{k:IntKind}{i:Int}(hu:P.underlying t=some (.slice e))(hs:∀w,(sizeOf e).run P w=.ok sz w)(hx:env.op x=some (.gs id n))(hy:env.op y=some (.raw (.int k i)))(h0:0≤i)(hi:i.toNat<n)(ho:i.toNat*sz=off)(U:ae):
  aq P ⟨dst,.indexAddr t x y,ty,pos,ar,g⟩ env U (.oq id off) U:=
 .val fun _ _ a w _ hv=>by
  have h1:=hv x (by simp[Op.operands]) _ hx;have h2:=hv y (by simp[Op.operands]) _ hy;simp only[V]at h1 h2;rcases h1 with⟨h1,_⟩|⟨_,l,h3,h4⟩
  ·omega
  ·refine⟨.pointer (some ⟨l.b,l.off+off,none⟩),?_,?_⟩
   ·have h8:i<(n:Int):=by omega
    simp[execOp,Instr.indexAt,h4,h2,asIntOf,ca hu,h0,h8,hs,addr_add,ho]
   ·simp only[V];exact⟨l,h3,rfl⟩
theorem eX{t:TypeId}{x:Operand}{id off sz:Nat}{rows:List (List D)}{r:List D}{d:D}{U:ae}(j k:Nat)(ht:∀w,(isAgg t).run P w=.ok false w)(hx:env.op x=some (.oq id off))(ho:U.get id=some (.arr sz rows))(J1:off=j*sz+k)(hr:rows[j]?=some r)(hd:r[k]?=some d):
  aq P ⟨dst,.load t x,ty,pos,ar,g⟩ env U d U:=
 .val fun O ρ a w aj hv=>by
  have h1:=hv x (by simp[Op.operands]) _ hx;simp only[V]at h1;obtain⟨l,h2,e⟩:=h1;have ei:(Ob.arr sz rows).live=true:=by
   cases rows with
   |nil=>simp at hr
   |cons=>rfl
  obtain⟨l',h3,_,c,T,h4,_,_,h5⟩:=aj.own id _ ho ei;rw[h2]at h3;cases h3;obtain⟨h6,h7⟩:=h5.get _ _ j r hr;obtain⟨v,h8,h9⟩:=h7.get _ _ k d hd;subst J1;rw[Nat.add_assoc]at h8;exact⟨v,by simp[execOp,Instr.loadAt,e,Instr.sureAddr,loadVar,ht,h8],h9.CN⟩
theorem gH{t:TypeId}{x y:Operand}{id off sz:Nat}{rows:List (List D)}{r:List D}{d:D}{U:ae}(j k:Nat)(hs:∀w,(sizeOf t).run P w=.ok 1 w)(hx:env.op x=some (.oq id off))(hy:env.op y=some d)(h1:d.one=true)(hp:d.bz=true)(ho:U.get id=some (.arr sz rows))(J1:off=j*sz+k)(hr:rows[j]?=some r)(hk:k<r.length):
  aq P ⟨dst,.store t x y,ty,pos,ar,g⟩ env U (.raw undef) (U.set id (.arr sz (rows.set j (r.set k d)))):=
 .step fun O ρ a w aj hv=>by
  have iE:=hv x (by simp[Op.operands]) _ hx;have lC:=hv y (by simp[Op.operands]) _ hy;simp only[V]at iE;obtain⟨l,h2,e⟩:=iE;have hj:j<rows.length:=(List.getElem?_eq_some_iff.1 hr).1;have ei:(Ob.arr sz rows).live=true:=by
   cases rows with
   |nil=>simp at hj
   |cons=>rfl
  obtain⟨l',h3,_,c,T,h4,hc,f_,h5⟩:=aj.own id _ ho ei;rw[h2]at h3;cases h3;subst J1;have Rp:=(h5.get _ _ j r hr).1;have JR:j*sz+sz≤rows.length*sz:=by
   have:=Nat.mul_le_mul_right sz (show j+1≤rows.length by omega);rw[Nat.add_mul]at this;omega
  have hrc:rows.length*sz≤l.cap*sz:=Nat.mul_le_mul_right sz f_.1;have h6:=vp (P:=P) [a.eval y] w c (l.off+(j*sz+k)) 0 h4 zQ (by simpa using lC.one h1);refine⟨undef,_,ρ,.inr ⟨?_,rfl⟩,Tr.cm (o':=.arr sz (rows.set j (r.set k d))) aj ho ei h2 (.cells (setMany c (l.off+(j*sz+k)+0) [a.eval y]) T (0,0)) ?_,by simp[V]⟩
  ·simp[execOp,Instr.storeAt,e,Instr.sureAddr,storeVar,cells_one (lC.one h1),hs,h6]
  ·intro sW;refine⟨setMany c (l.off+(j*sz+k)) [a.eval y],T,by simp[(Array.getElem?_eq_some_iff.1 h4).1],by rw[Gz];exact hc,by simpa using f_,?_⟩;exact Vr.set (k:=k) (cs:=[d]) h4 h5 sW zO j r _ hr (by simp[List.set_eq_take_append_cons_drop,hk]) zQ (by simp only[Vs];exact⟨_,_,rfl,V.pure _ _ hp lC,rfl⟩) (by simpa using lC.one h1) (by simp[(Array.getElem?_eq_some_iff.1 h4).1])
inductive uf(P:Program):List Field→Nat→Prop
 |nil (k:Nat):uf P [] k
 |cons {f:Field} {fs:List Field} {k:Nat} (hn:(f.name== "_")=false) (hu:P.underlying f.type=some .string) (ha:∀w,(isAgg f.type).run P w=.ok false w) (ho:f.offset=k) (r:uf P fs (k+1)):uf P (f::fs) k
theorem O7{P:Program}{d:Nat}{xs ys:List aa}{fs:List Field}{k:Nat}(h:uf P fs k)(hx:k+fs.length=xs.length)(hy:k+fs.length=ys.length)(w:World):
  (Op.eqFields (d+1) (xs.map fun s=>Value.string ⟨s.toArray⟩).toArray (ys.map fun s=>Value.string ⟨s.toArray⟩).toArray fs).run P w=.ok (decide (xs.drop k=ys.drop k)) w:=by
 induction h with
 |nil k=>
  simp only[List.length_nil,Nat.add_zero]at hx hy;rw[List.drop_of_length_le zO,List.drop_of_length_le zO];simp[Op.eqFields]
 |@cons f fs k hn hu ha ho r ih=>
  simp only[List.length_cons]at hx hy;have ih:=ih zO zO;have h1:k<xs.length:=by omega
  have h2:k<ys.length:=by omega
  have wx:decide (xs.drop k=ys.drop k)=(decide (xs[k]=ys[k])&&decide (xs.drop (k+1)=ys.drop (k+1))):=by
   rw[List.drop_eq_getElem_cons h1,List.drop_eq_getElem_cons h2];simp only[List.cons.injEq,Bool.decide_and]
  rw[wx];have rv:f.name≠ "_":=by simpa using hn
  simp only[Op.eqFields,rv,ne_eq,not_false_eq_true,if_true,Sem.run_bind,part,ha,Result.andThen_ok,Bool.false_eq_true,if_false,ho];simp only[List.getElem?_toArray,List.getElem?_map,List.getElem?_eq_getElem h1,List.getElem?_eq_getElem h2,Option.map_some,Sem.run_pure,Result.andThen_ok,run_equalIn_string _ _ _ _ _ hu,vx];by_cases e:xs[k]=ys[k]
  ·simp only[e,BEq.rfl,Bool.not_true,Bool.false_eq_true,if_false,decide_true,Bool.true_and];exact ih
  ·have:(xs[k]==ys[k])=false:=by simpa using e
   simp only[this,Bool.not_false,if_true,Sem.run_pure,e,decide_false,Bool.false_and]
theorem As{w:World}{O:Nat→Prop}{ρ:az}:∀{ss:List aa}{vs:List Value},Vs w O ρ (ss.map D.str) vs→vs=ss.map fun s=>Value.string ⟨s.toArray⟩
 |[],vs,h=>by simpa[Vs]using h
 |s::ss,vs,h=>by
  simp only[List.map_cons,Vs,V]at h;obtain⟨u,us,rfl,h1,h2⟩:=h;rw[h1.1,As h2];rfl
theorem Vm{op:BinOp}{t t':TypeId}{x y:Operand}{xs ys:List aa}{fs:List Field}(yQ:op=.eql∨op=.neq)(hu:P.underlying t=some (.struct fs.toArray))(hp:P.stoodInHeld t=false)(hg:P.eqGuardType P.depth t=false)(hf:uf P fs 0)(uL:xs.length=fs.length)(uM:ys.length=fs.length)
  (hx:env.op x=some (.agg (xs.map D.str)))(hy:env.op y=some (.agg (ys.map D.str)))(U:ae):aq P ⟨dst,.binOp op t x y t',ty,pos,ar,g⟩ env U (.raw (.bool (if op=.eql then decide (xs=ys)else !decide (xs=ys)))) U:=
 .val fun _ _ a w _ hv=>by
  have h1:=hv x (by simp[Op.operands]) _ hx;have h2:=hv y (by simp[Op.operands]) _ hy;simp only[V]at h1 h2;obtain⟨us,e1,h1⟩:=h1;obtain⟨vs,e2,h2⟩:=h2;have h1:=As h1;have h2:=As h2;have j1:P.fieldsOf t=fs.toArray:=by simp[Program.fieldsOf,hu]
  have h3:=run_equalIn_struct (P:=P) w 9999 t us vs (by rw[j1];exact hu) hp;have h4:us=(xs.map fun s=>Value.string ⟨s.toArray⟩).toArray:=by rw[←h1]
  have h5:vs=(ys.map fun s=>Value.string ⟨s.toArray⟩).toArray:=by rw[←h2]
  have h6:=O7 (d:=9998) hf (xs:=xs) (ys:=ys) zO zO w;rw[j1]at h3;simp only[h4,h5]at h3 e1 e2;simp only[List.drop_zero]at h6;refine⟨.bool (if op=.eql then decide (xs=ys)else !decide (xs=ys)),?_,by simp only[V]⟩;rcases yQ with rfl|rfl
  ·simp[execOp,e1,e2,run_eqGuard_agg _ _ _ _ _ _ _ hg,run_eql_struct,h3,h6]
  ·simp[execOp,e1,e2,run_eqGuard_agg _ _ _ _ _ _ _ hg,run_neq_struct,h3,h6]
theorem xo{t t':TypeId}{x y:Operand}{xs ys:List aa}{fs:List Field}{ds es:List D}(hu:P.underlying t=some (.struct fs.toArray))(hp:P.stoodInHeld t=false)(hg:P.eqGuardType P.depth t=false)(hf:uf P fs 0)(uL:xs.length=fs.length)(uM:ys.length=fs.length)
  (hx:env.op x=some (.agg ds))(hy:env.op y=some (.agg es))(hd:ds=xs.map D.str)(he:es=ys.map D.str)(U:ae):aq P ⟨dst,.binOp .eql t x y t',ty,pos,ar,g⟩ env U (.raw (.bool (decide (xs=ys)))) U:=by
 subst hd;subst he;exact Vm (.inl rfl) hu hp hg hf uL uM hx hy U
theorem qK{t t':TypeId}{x y:Operand}{xs ys:List aa}{fs:List Field}{ds es:List D}(hu:P.underlying t=some (.struct fs.toArray))(hp:P.stoodInHeld t=false)(hg:P.eqGuardType P.depth t=false)(hf:uf P fs 0)(uL:xs.length=fs.length)(uM:ys.length=fs.length)
  (hx:env.op x=some (.agg ds))(hy:env.op y=some (.agg es))(hd:ds=xs.map D.str)(he:es=ys.map D.str)(U:ae):aq P ⟨dst,.binOp .neq t x y t',ty,pos,ar,g⟩ env U (.raw (.bool (!decide (xs=ys)))) U:=by
 subst hd;subst he;exact Vm (.inr rfl) hu hp hg hf uL uM hx hy U
theorem L6{s t:TypeId}{x:Operand}{k:IntKind}{n:Int}{c:UInt8}{u:TypeDesc}(hs:P.underlying s=some u)(ht:P.underlying t=some .string)(hx:env.op x=some (.raw (.int k n)))(h0:0≤n)(h1:n<128)(hc:UInt8.ofNat n.toNat=c)(U:ae):
  aq P ⟨dst,.convert s t x,ty,pos,ar,g⟩ env U (.str [c]) U:=
 .val fun _ _ a w _ hv=>⟨.string ⟨#[c]⟩,by
  have h2:=hv x (by simp[Op.operands]) _ hx;simp only[V]at h2;have h3:Utf8.encode n=⟨#[c]⟩:=by
   have hv:Utf8.valid n=true:=by simp[Utf8.valid];omega
   have:n.toNat<128:=by omega
   simp[Utf8.encode,hv,this,hc]
  simp[execOp,h2,run_convert_int_string w s t k n (by rw[hs];rfl) ht,h3],by simp[V,aG]⟩
end
end Go.T
namespace Go.T
open Go
variable[bX]
theorem Vs.ak8{w:World}{O:Nat→Prop}{ρ:az}{ds:List D}{vs:List Value}{i:Nat}{d d':D}(h:Vs w O ρ ds vs)(hi:ds[i]?=some d)(hd:∀v,V w O ρ d v→V w O ρ d' v):Vs w O ρ (ds.set i d') vs:=by
 obtain⟨v,h3,h4⟩:=h.get i _ hi;have h5:=Vs.set i h (hd v h4);have h6:vs.set i v=vs:=by
  obtain⟨hl,he⟩:=List.getElem?_eq_some_iff.1 h3;rw[←he];exact List.set_getElem_self hl
 rwa[h6]at h5
theorem Gq{O:Nat→Prop}{w:World}{ρ:az}{U:ae}{k i:Nat}{ds:List D}{d d':D}(aj:cF w O ρ U)(hk:U.get k=some (.cells ds))(hi:ds[i]?=some d)
  (hd:∀v,V w (Ot O ρ U) ρ d v→V w (Ot O ρ U) ρ d' v):Tr O w ρ U w ρ (U.set k (.cells (ds.set i d'))):=by
 have Qt:∀b,b8 ρ (U.set k (.cells (ds.set i d'))) b→b8 ρ U b:=by
  rintro b ⟨j,x,l,h1,h2,h3⟩;rw[ae.dV]at h1;by_cases e:k=j
  ·subst e;exact⟨k,_,l,hk,rfl,h3⟩
  ·rw[if_neg e]at h1;exact⟨j,x,l,h1,h2,h3⟩
 have js:Kept w (Ot O ρ U) w (Ot O ρ (U.set k (.cells (ds.set i d')))):=Kept.fa fun b=>Or.imp _root_.id (Qt b);refine⟨bI.refl _,Nat.le_refl _,fun _ _ _=>rfl,fun b hb=>.inl (Qt b hb),⟨aj.lt,?_,?_,?_⟩,rfl,rfl,gV.eq rfl rfl⟩
 ·intro j hj;rw[ae.dV]at hj;by_cases e:k=j
  ·simp[e]at hj
  ·rw[if_neg e]at hj;exact aj.fresh j hj
 ·intro j x h1 h2;rw[ae.dV]at h1;by_cases e:k=j
  ·subst e;simp only[if_true,Option.some.injEq]at h1;subst h1;obtain⟨l,h3,h4,vs,T,h5,h6⟩:=aj.own k _ hk rfl;exact⟨l,h3,h4,vs,T,h5,Vs.mono js (bI.refl _) _ _ (h6.ak8 hi hd)⟩
  ·rw[if_neg e]at h1;obtain⟨l,h3,h4,h5⟩:=aj.own j x h1 h2;exact⟨l,h3,h4,h5.mono js (bI.refl _) rfl⟩
 ·intro a b x x' l1 l2 h1 h2 h3 h4 h5 h6 h7;have look:∀j y,(U.set k (.cells (ds.set i d'))).get j=some y→y.live=true→∃y',U.get j=some y'∧y'.live=true:=by
   intro j y hy hl;rw[ae.dV]at hy;by_cases e:k=j
   ·subst e;exact⟨_,hk,rfl⟩
   ·rw[if_neg e]at hy;exact⟨y,hy,hl⟩
  obtain⟨y,wQ,hy2⟩:=look a x h1 h3;obtain⟨z,qu,Kl⟩:=look b x' h2 h4;exact aj.inj a b y z l1 l2 wQ qu hy2 Kl h5 h6 h7
theorem Le.IS{F:Fr}{env:Env}{U:ae}{sz n:Nat}{rows:List (List D)}{ds:List D}(k i id:Nat)(hk:U.get k=some (.cells ds))(hi:ds[i]?=some (.gs id n))(ho:U.get id=some (.arr sz rows))(hn:rows.length=n):
  Le F env U env ((U.set id .dead).set k (.cells (ds.set i (.snap sz false rows)))):=.step fun O ρ w f aj hv=>by
 have h1:=Tr.die id aj;have aD:id≠k:=by rintro rfl;rw[hk]at ho;cases ho
 have h2:=Gq (d':=.snap sz false rows) h1.ok (k:=k) (ds:=ds) (by rw[ae.dV,if_neg aD];exact hk) hi (fun v h=>Jg aj ho hn (by simpa only[V]using h));have h3:=h1.trans h2;exact⟨ρ,h3,fun t d h=>h3.V (hv t d h)⟩
theorem Le.VJ{F:Fr}{env:Env}{U:ae}{sz n:Nat}{rows:List (List D)}{ds:List D}(k i id bl:Nat)(hk:U.get k=some (.cells ds))(hi:ds[i]?=some (.gs id n))(ho:U.get id=some (.arr sz rows))(hn:rows.length=n)(hid:U.get bl=none):
  Le F env U env (ae.set ((bl,.arr sz rows)::U.set id .dead) k (.cells (ds.set i (.gs bl n)))):=.step fun O ρ w f aj hv=>by
 have aD:id≠k:=by rintro rfl;rw[hk]at ho;cases ho
 have Rc:bl≠k:=by rintro rfl;rw[hk]at hid;cases hid
 have eS:ae.get ((bl,.arr sz rows)::U.set id .dead) k=some (.cells ds):=by
  rw[ae.bf,if_neg Rc,ae.dV,if_neg aD];exact hk
 cases rows with
 |nil=>
  subst hn;have h1:=Tr.Gr (id:=id) (bl:=bl) (sz:=sz) aj;have h2:=Gq (d':=.gs bl 0) h1.ok eS hi (fun v h=>by simpa[V]using h);have h3:=h1.trans h2;exact⟨ρ,h3,fun t d h=>h3.V (hv t d h)⟩
 |cons r rs=>
  obtain⟨l,h4,_⟩:=aj.own id _ ho rfl;have h1:=Tr.rename (id:=id) (bl:=bl) aj ho rfl hid h4;have h2:=Gq (d':=.gs bl n) h1.ok eS hi (fun v h=>by
   simp only[V]at h⊢;rcases h with h|⟨h,l',h5,h6⟩
   ·exact .inl h
   ·have:=h1.le id l h4;rw[this]at h5;cases h5;exact .inr ⟨h,l,kq ..,h6⟩)
  have h3:=h1.trans h2;exact⟨_,h3,fun t d h=>h3.V (hv t d h)⟩
theorem Le.fa{F:Fr}{env:Env}{U:ae}{ds:List D}{d d':D}(k i:Nat)(hk:U.get k=some (.cells ds))(hi:ds[i]?=some d)(s:Sub d d'):Le F env U env (U.set k (.cells (ds.set i d'))):=.step fun O ρ w f aj hv=>by
 have h3:=Gq aj hk hi (fun v h=>s.out _ _ _ _ h);exact⟨ρ,h3,fun t d h=>h3.V (hv t d h)⟩
def Rd(P:Program)(fn:Func)(env:Env)(U:ae)(r:D):Prop:=
 ∀(O:Nat→Prop)(ρ:az)(tmps:Array Value)(w:World),cF w O ρ U→(∀t d,env.get t=some d→V w (Ot O ρ U) ρ d (tmps.getD t undef))→∃v,(results fn tmps).run P w=.ok v w∧V w (Ot O ρ U) ρ r v
def rdQ(P:Program)(fn:Func)(r:D):Exit→Env→ae→Prop
 |.ret,env,U|.normal,env,U=>Rd P fn env U r
 |_,_,_=>False
theorem Fc.je{P:Program}{f:FuncId}{fn:Func}{c:Code}{args:List D}{r:D}(hf:P.funcs[f]?=some fn)(hb:fn.body=some c){N:Nat}(hN:fn.ntmps=N)(rv:Nat.ble args.length N=true)(hp:D.bz.ec args=true)(hr:r.bz=true)
  (h':J P ⟨N,[],false,none⟩ [c] (rdQ P fn r) (qc args 0) []):Fc P f args r:=⟨fun w O ρ vals hO cK sZ=>by
 have bY:∀b,¬b8 dt [] b:=fun b ⟨i,o,l,h1,_⟩=>by simp[ae.get]at h1
 have aj:cF w O dt []:=⟨hO,fun _ _=>rfl,fun i o h1=>by simp[ae.get]at h1,fun i j o o' l l' h1=>by simp[ae.get]at h1⟩;have hv:Vs w (Ot O dt []) dt args vals:=Vs.mono (Kept.fa fun b hb=>hb.elim _root_.id (fun g=>(bY b g).elim)) (bI.refl _) _ _ (Vs.pure args vals hp sZ);refine AD hf hb h'.start (St.begin fn.ntmps hN (Nat.le_of_ble_eq_true rv) aj (cK.mono (Kept.fa fun b hb=>hb.elim _root_.id (fun g=>(bY b g).elim))) hv [] none (fun _ _ e=>by cases e)) ?_ ?_
 ·intro e aQ am hq;cases e<;>first|exact .inl rfl|exact .inr rfl|exact hq.elim
 ·intro e aQ am tmps w' av hq _ bg uG;have:Rd P fn aQ am r:=by cases e<;>first|exact hq|exact hq.elim
  obtain⟨v,h1,h2⟩:=this _ _ _ _ bg.ok uG;refine⟨v,h1,v,rfl,?_,bg.size,fun b hb=>bg.same b hb (bY b),bg.os⟩;exact V.pure r _ hr (V.mono (O':=O) (Kept.fa fun b hb=>Or.inl hb) (bI.refl _) _ _ h2)⟩
section
variable{P:Program} {fn:Func} {env:Env} {U:ae}
theorem SQ{O:Nat→Prop}{ρ:az}{w:World}{ty:TypeId}{id n:Nat}{ds:List D}{u:Value}(aj:cF w O ρ U)(ha:∀w,(isAgg ty).run P w=.ok true w)(hs:∀w,(sizeOf ty).run P w=.ok n w)(hn:ds.length=n)(ho:U.get id=some (.cells ds))(hu:V w (Ot O ρ U) ρ (.box id 0) u):
  ∃a v,u=.pointer (some a)∧(loadVar ty a).run P w=.ok v w∧V w (Ot O ρ U) ρ (.agg ds) v:=by
 simp only[V]at hu;obtain⟨l,h2,e⟩:=hu;obtain⟨l',h3,_,vs,T,h4,h5⟩:=aj.own id _ ho rfl;rw[h2]at h3;cases h3;have hl:=h5.length;have h6:=Gw (P:=P) h4 n 0 0 #[] (by simp at hl;omega);refine⟨_,.agg ((vs.toList.drop 0).take n).toArray,e,?_,?_⟩
 ·simp[loadVar,ha,hs,loadCells,h6]
 ·simp only[V];refine⟨_,rfl,?_⟩;have:vs.toList.take n=vs.toList:=List.take_of_length_le zO;simpa[this]using h5
theorem Rd.cA{p:Tmp}{ty:TypeId}{id n:Nat}{ds:List D}{r:D}(h:fn.results=#[.cell p ty])(ha:∀w,(isAgg ty).run P w=.ok true w)(hs:∀w,(sizeOf ty).run P w=.ok n w)(hn:ds.length=n)(ht:env.get p=some (.box id 0))(ho:U.get id=some (.cells ds))(s:Sub (.agg ds) r):Rd P fn env U r:=by
 intro O ρ tmps w aj hv;obtain⟨a,v,e,h1,h2⟩:=SQ (P:=P) aj ha hs hn ho (hv p _ ht);have e':tmps[p]?.getD undef=.pointer (some a):=by simpa using e
 exact⟨v,by simp[results,h,e',asAddr,h1],s.out _ _ _ _ h2⟩
theorem Rd.Dz{p q:Tmp}{ty:TypeId}{id n:Nat}{ds:List D}{d r r':D}(h:fn.results=#[.cell p ty,.tmp q])(ha:∀w,(isAgg ty).run P w=.ok true w)(hs:∀w,(sizeOf ty).run P w=.ok n w)(hn:ds.length=n)(ht:env.get p=some (.box id 0))(ho:U.get id=some (.cells ds))(hq:env.get q=some d)(s:Sub (.agg ds) r)(s':Sub d r'):Rd P fn env U (.bj [r,r']):=by
 intro O ρ tmps w aj hv;obtain⟨a,v,e,h1,h2⟩:=SQ (P:=P) aj ha hs hn ho (hv p _ ht);have e':tmps[p]?.getD undef=.pointer (some a):=by simpa using e
 refine⟨.tuple #[v,tmps.getD q undef],by simp[results,h,e',asAddr,h1],?_⟩;simp only[V];exact⟨_,rfl,by simp only[Vs];exact⟨_,_,rfl,s.out _ _ _ _ h2,_,_,rfl,s'.out _ _ _ _ (hv q _ hq),rfl⟩⟩
end
end Go.T
namespace Go.T
open Go
variable[bX]
theorem ae.get_append:∀(a b:ae)(i:Nat),ae.get (a++b) i=match a.get i with|some x=>some x|none=>b.get i
 |[],b,i=>by simp[ae.get]
 |(t,d)::r,b,i=>by
  rw[List.cons_append,ae.bf,ae.bf];by_cases h:t=i
  ·simp[h]
  ·rw[if_neg h,if_neg h];exact ae.get_append r b i
def ae.rest:ae→ae→ae
 |[],_=>[]
 |(t,d)::r,pre=>bif pre.has t then ae.rest r pre else(t,d)::ae.rest r pre
theorem ae.rj(pre:ae)(i:Nat):∀U:ae,(U.rest pre).get i=if pre.has i then none else U.get i
 |[]=>by simp[ae.rest,ae.get]
 |(t,d)::r=>by
  simp only[ae.rest];cases h:pre.has t with
  |true=>
   rw[cond_true,ae.rj pre i r,ae.bf];by_cases e:t=i
   ·subst e;simp[h]
   ·rw[if_neg e]
  |false=>
   rw[cond_false,ae.bf,ae.rj pre i r,ae.bf];by_cases e:t=i
   ·subst e;simp[h]
   ·rw[if_neg e,if_neg e]
theorem ae.ij{U:ae}{i:Nat}:U.has i=true↔∃o,U.get i=some o:=by
 unfold ae.has;cases U.get i<;>simp
mutual
theorem D.zF:∀(d:D){f g:Nat→Bool},(∀i,f i=true→g i=true)→d.okB f=true→d.okB g=true
 |.any,_,_,_,_|.raw _,_,_,_,_|.str _,_,_,_,_|.snap _ _ _,_,_,_,_|.bc _,_,_,_,_|.nQ _ _,_,_,_,_=>rfl
 |.agg ds,f,g,h,hd=>by simp only[D.okB]at hd⊢;exact D.r4 ds h hd
 |.bj ds,f,g,h,hd=>by simp only[D.okB]at hd⊢;exact D.r4 ds h hd
 |.fn _ ax bs,f,g,h,hd=>by
  simp only[D.okB,Bool.and_eq_true]at hd⊢;exact⟨D.r4 ax h hd.1,D.r4 bs h hd.2⟩
 |.box i _,f,g,h,hd|.gs i _,f,g,h,hd|.oq i _,f,g,h,hd|.bR i,f,g,h,hd|.qW i _ _,f,g,h,hd|.oM i _ _,f,g,h,hd|.gr i _,f,g,h,hd=>by simp only[D.okB]at hd⊢;exact h i hd
theorem D.r4:∀(ds:List D){f g:Nat→Bool},(∀i,f i=true→g i=true)→D.okB.fg f ds=true→D.okB.fg g ds=true
 |[],_,_,_,_=>rfl
 |d::ds,f,g,h,hd=>by
  simp only[D.okB.fg,Bool.and_eq_true]at hd⊢;exact⟨D.zF d h hd.1,D.r4 ds h hd.2⟩
end
mutual
theorem D.Lz:∀(d:D),d.okB (fun _=>true)=true
 |.any|.raw _|.str _|.snap _ _ _|.bc _|.box _ _|.gs _ _|.oq _ _|.bR _|.qW _ _ _|.oM _ _ _|.gr _ _|.nQ _ _=>rfl
 |.agg ds=>by simp only[D.okB];exact D.zH ds
 |.bj ds=>by simp only[D.okB];exact D.zH ds
 |.fn _ ax bs=>by simp only[D.okB,Bool.and_eq_true];exact⟨D.zH ax,D.zH bs⟩
theorem D.zH:∀(ds:List D),D.okB.fg (fun _=>true) ds=true
 |[]=>rfl
 |d::ds=>by simp only[D.okB.fg,Bool.and_eq_true];exact⟨D.Lz d,D.zH ds⟩
end
theorem Ob.Lz(o:Ob):o.okB (fun _=>true)=true:=by
 cases o<;>simp[Ob.okB,D.zH]
def ae.okB(f:Nat→Bool):ae→Bool
 |[]=>true
 |(_,o)::r=>o.okB f&&ae.okB f r
theorem ae.Ly{f:Nat→Bool}:∀{U:ae},U.okB f=true→∀i o,U.get i=some o→o.okB f=true
 |[],_,i,o,h=>by simp[ae.get]at h
 |(t,d)::r,h,i,o,hg=>by
  simp only[ae.okB,Bool.and_eq_true]at h;rw[ae.bf]at hg;by_cases e:t=i
  ·rw[if_pos e]at hg;cases hg;exact h.1
  ·rw[if_neg e]at hg;exact ae.Ly h.2 i o hg
section
variable{w w':World} {O:Nat→Prop} {ρ av:az} {U pre post:ae}
theorem ve(ez:∀i o,pre.get i=some o→U.get i=some o)(b:Nat):b8 ρ U b↔b8 (cv pre.has ρ) pre b∨b8 ρ (U.rest pre) b:=by
 constructor
 ·rintro⟨i,o,l,h1,h2,h3,h4⟩;cases hp:pre.has i with
  |true=>
   obtain⟨o',Re⟩:=ae.ij.1 hp;have:=ez i o' Re;rw[h1]at this;cases this;exact .inl ⟨i,o,l,Re,h2,by simp[cv,hp,h3],h4⟩
  |false=>exact .inr ⟨i,o,l,by rw[ae.rj,hp];exact h1,h2,h3,h4⟩
 ·rintro(⟨i,o,l,h1,h2,h3,h4⟩|⟨i,o,l,h1,h2,h3,h4⟩)
  ·exact⟨i,o,l,ez i o h1,h2,po h3,h4⟩
  ·rw[ae.rj]at h1;split at h1
   ·cases h1
   ·exact⟨i,o,l,h1,h2,h3,h4⟩
theorem CL{i:Nat}{o:Ob}(h:(U.rest pre).get i=some o):U.get i=some o∧pre.has i=false:=by
 rw[ae.rj]at h;split at h
 ·cases h
 ·rename_i hp;exact⟨h,by simpa using hp⟩
theorem VP(ez:∀i o,pre.get i=some o→U.get i=some o)(aj:cF w O ρ U){b:Nat}(h1:b8 (cv pre.has ρ) pre b)(h2:b8 ρ (U.rest pre) b):False:=by
 obtain⟨i,o,l,a1,a2,a3,a4⟩:=h1;obtain⟨j,o',l',b1,b2,b3,b4⟩:=h2;have:=aj.inj i j o o' l l' (ez i o a1) (CL b1).1 a2 b2 (po a3) b3 (a4.trans b4.symm);subst this;have:=(CL b1).2;rw[ae.ij.2 ⟨o,a1⟩]at this;cases this
def jJ(rest:ae)(ρ av:az):az:=fun i=>if rest.has i then ρ i else av i
theorem ajd{rest:ae}(mY:∀i,post.has i=true→rest.has i=false)(b:Nat):b8 (jJ rest ρ av) (post++rest) b↔b8 av post b∨b8 ρ rest b:=by
 constructor
 ·rintro⟨i,o,l,h1,h2,h3,h4⟩;rw[ae.get_append]at h1;cases hp:post.get i with
  |some x=>
   simp only[hp,Option.some.injEq]at h1;subst h1;have:=mY i (ae.ij.2 ⟨_,hp⟩);simp only[jJ,this]at h3;exact .inl ⟨i,x,l,hp,h2,h3,h4⟩
  |none=>
   simp only[hp]at h1;simp only[jJ,ae.ij.2 ⟨_,h1⟩,if_true]at h3;exact .inr ⟨i,o,l,h1,h2,h3,h4⟩
 ·rintro(⟨i,o,l,h1,h2,h3,h4⟩|⟨i,o,l,h1,h2,h3,h4⟩)
  ·have:=mY i (ae.ij.2 ⟨_,h1⟩);exact⟨i,o,l,by rw[ae.get_append,h1],h2,by simp[jJ,this,h3],h4⟩
  ·have hn:post.get i=none:=by
    cases hp:post.get i with
    |none=>rfl
    |some x=>
     have:=mY i (ae.ij.2 ⟨_,hp⟩);rw[ae.ij.2 ⟨_,h1⟩]at this;cases this
   exact⟨i,o,l,by rw[ae.get_append,hn];exact h1,h2,by simp[jJ,ae.ij.2 ⟨_,h1⟩,h3],h4⟩
theorem PV(GG:Nat→Bool)(ez:∀i o,pre.get i=some o→U.get i=some o)(aj:cF w O ρ U)(h:gz (Ot O ρ (U.rest pre)) w (cv pre.has ρ) pre w' av post)
  (mY:∀i,post.has i=true→(U.rest pre).has i=false)(eY:∀i l,GG i=true→cv pre.has ρ i=some l→av i=some l)(Rp:∀i o,(U.rest pre).get i=some o→o.okB GG=true):
  gz O w ρ U w' (jJ (U.rest pre) ρ av) (post++U.rest pre)∧(∀i l,GG i=true→ρ i=some l→jJ (U.rest pre) ρ av i=some l)∧
  ∀r v,V w' (Ot (Ot O ρ (U.rest pre)) av post) av r v→V w' (Ot O (jJ (U.rest pre) ρ av) (post++U.rest pre)) (jJ (U.rest pre) ρ av) r v:=by
 have hj:=ajd (ρ:=ρ) (av:=av) mY;have pD:∀i l,GG i=true→ρ i=some l→jJ (U.rest pre) ρ av i=some l:=by
  intro i l hs hl;unfold jJ;split
  ·exact hl
  ·rename_i hr;refine eY i l hs ?_;have:pre.has i=true:=by
    cases hp:pre.has i with
    |true=>rfl
    |false=>
     have hg:(U.rest pre).get i=U.get i:=by rw[ae.rj,hp];rfl
     cases ho:U.get i with
     |none=>rw[aj.fresh i ho]at hl;cases hl
     |some o=>exact absurd (ae.ij.2 ⟨o,hg.trans ho⟩) hr
   simp[cv,this,hl]
 have JT:bI av (jJ (U.rest pre) ρ av):=by
  intro i l hl;unfold jJ;split
  ·rename_i hr;have:post.get i=none:=by
    cases hp:post.get i with
    |none=>rfl
    |some x=>have:=mY i (ae.ij.2 ⟨_,hp⟩);rw[hr]at this;cases this
   rw[h.ok.fresh i this]at hl;cases hl
  ·exact hl
 have qq:∀b,Ot (Ot O ρ (U.rest pre)) av post b↔Ot O (jJ (U.rest pre) ρ av) (post++U.rest pre) b:=by
  intro b;unfold Ot;rw[hj b];constructor
  ·rintro((g|g)|g)
   ·exact .inl g
   ·exact .inr (.inr g)
   ·exact .inr (.inl g)
  ·rintro(g|g|g)
   ·exact .inl (.inl g)
   ·exact .inr g
   ·exact .inl (.inr g)
 have wJ:∀b,b8 (jJ (U.rest pre) ρ av) (post++U.rest pre) b→b8 ρ U b∨w.heap.size≤b:=by
  intro b hb;rcases(hj b).1 hb with g|g
  ·rcases h.new b g with g|g
   ·exact .inl ((ve ez b).2 (.inl g))
   ·exact .inr g
  ·exact .inl ((ve ez b).2 (.inr g))
 have pI:∀b,b<w.heap.size→¬b8 ρ U b→w'.heap[b]?=w.heap[b]?:=fun b hb ho=>h.same b hb fun g=>ho ((ve ez b).2 (.inl g));have wG:Kept w (Ot O ρ U) w' (Ot O (jJ (U.rest pre) ρ av) (post++U.rest pre)):=by
  refine⟨h.size,fun b hb ho=>⟨fun _ _ _=>pI b hb fun g=>ho (.inr g),fun g=>?_⟩⟩;rcases g with g|g
  ·exact ho (.inl g)
  ·rcases wJ b g with g|g
   ·exact ho (.inr g)
   ·omega
 refine⟨⟨h.size,pI,wJ,⟨fun b hb=>h.ok.lt b (.inl hb),?_,?_,?_⟩,h.os⟩,pD,fun r v hv=>V.mono (Kept.fa fun b hb=>(qq b).2 hb) JT r v hv⟩
 ·intro i hi;rw[ae.get_append]at hi;cases hp:post.get i with
  |some x=>simp[hp]at hi
  |none=>
   simp only[hp]at hi;simp only[jJ,ae.has,hi,Option.isSome_none];exact h.ok.fresh i hp
 ·intro i o h1 h2;rw[ae.get_append]at h1;cases hp:post.get i with
  |some x=>
   simp only[hp,Option.some.injEq]at h1;subst h1;obtain⟨l,h3,h4,h5⟩:=h.ok.own i x hp h2;exact⟨l,JT i l h3,fun hb=>h4 (.inl hb),h5.mono (Kept.fa fun b hb=>(qq b).2 hb) JT rfl⟩
  |none=>
   simp only[hp]at h1;obtain⟨l,h3,h4,h5⟩:=aj.own i o (CL h1).1 h2;have hr:(U.rest pre).has i=true:=ae.ij.2 ⟨_,h1⟩;have lA:w'.heap[l.b]?=w.heap[l.b]?:=h.same l.b (h5.lt h2) fun g=>VP ez aj g ⟨i,o,l,h1,h2,h3,rfl⟩;refine⟨l,by simp[jJ,hr,h3],h4,(h5.cut (Rp i o h1)).mono wG ?_ lA⟩;intro j lj kH;unfold cv at kH;split at kH
   ·rename_i hs;exact pD j lj hs kH
   ·cases kH
 ·intro i j o o' l l' a1 a2 a3 a4 a5 a6 a7;have key:∀i o l,ae.get (post++U.rest pre) i=some o→jJ (U.rest pre) ρ av i=some l→(post.get i=some o∧av i=some l)∨((U.rest pre).get i=some o∧ρ i=some l):=by
   intro i o l h1 h3;rw[ae.get_append]at h1;cases hp:post.get i with
   |some x=>
    simp only[hp,Option.some.injEq]at h1;subst h1;have:=mY i (ae.ij.2 ⟨_,hp⟩);simp only[jJ,this]at h3;exact .inl ⟨rfl,h3⟩
   |none=>
    simp only[hp]at h1;simp only[jJ,ae.ij.2 ⟨_,h1⟩,if_true]at h3;exact .inr ⟨h1,h3⟩
  have N8:∀i j o o' l l',post.get i=some o→o.live=true→av i=some l→(U.rest pre).get j=some o'→o'.live=true→ρ j=some l'→l.b=l'.b→False:=by
   intro i j o o' l l' b1 b2 b3 b4 b5 b6 b7;obtain⟨l2,c1,c2,_⟩:=h.ok.own i o b1 b2;rw[b3]at c1;cases c1;exact c2 (.inr ⟨j,o',l',b4,b5,b6,b7.symm⟩)
  rcases key i o l a1 a5 with⟨b1,b2⟩|⟨b1,b2⟩<;>rcases key j o' l' a2 a6 with⟨c1,c2⟩|⟨c1,c2⟩
  ·exact h.ok.inj i j o o' l l' b1 c1 a3 a4 b2 c2 a7
  ·exact(N8 i j o o' l l' b1 a3 b2 c1 a4 c2 a7).elim
  ·exact(N8 j i o' o l' l c1 a4 c2 b1 a3 b2 a7.symm).elim
  ·exact aj.inj i j o o' l l' (CL b1).1 (CL c1).1 a3 a4 b2 c2 a7
end
end Go.T
namespace Go.T
open Go
variable[bX]
structure dF(P:Program)(f:FuncId)(args:List D)(pre:ae)(r:D)(post:ae):Prop where
 out:∀w O ρ vals,cF w O ρ pre→Gl w (Ot O ρ pre)→Vs w (Ot O ρ pre) ρ args vals→Calls P f vals.toArray w (fun e w'=>∃v av,e=.returned v∧Tr O w ρ pre w' av post∧V w' (Ot O av post) av r v)
def sB(a b:ae):Bool:=a.all fun p=>!b.has p.1
theorem aaF{a b:ae}(h:sB a b=true):∀i,a.has i=true→b.has i=false:=by
 intro i hi;obtain⟨o,ho⟩:=ae.ij.1 hi;have key:∀a:ae,sB a b=true→a.get i=some o→b.has i=false:=by
  intro a;induction a with
  |nil=>intro _ h;simp[ae.get]at h
  |cons p r ih=>
   obtain⟨t,d⟩:=p;intro hd hg;simp only[sB,List.all_cons,Bool.and_eq_true,Bool.not_eq_true']at hd;rw[ae.bf]at hg;by_cases e:t=i
   ·subst e;exact hd.1
   ·rw[if_neg e]at hg;exact ih hd.2 hg
 exact key a h ho
theorem iw.okB{pre U:ae}(h:iw pre U pre):∀i o,pre.get i=some o→o.okB pre.has=true:=fun i o ho=>(h.sound i o ho).2
theorem Vs.Z2{w:World}{O:Nat→Prop}{ρ:az}{f:Nat→Bool}{ds:List D}{vs:List Value}(hp:D.okB.fg f ds=true)(h:Vs w O ρ ds vs):Vs w O (cv f ρ) ds vs:=Vs.cut ds vs hp h
theorem PW{w:World}{O:Nat→Prop}{ρ:az}{U pre:ae}(ez:∀i o,pre.get i=some o→U.get i=some o)(hp:∀i o,pre.get i=some o→o.okB pre.has=true)(aj:cF w O ρ U):cF w (Ot O ρ (U.rest pre)) (cv pre.has ρ) pre:=by
 refine⟨?_,fun i hi=>by simp[cv,ae.has,hi],fun i o h1 h2=>?_,fun i j o o' l l' a b c d e e'=>aj.inj i j o o' l l' (ez _ _ a) (ez _ _ b) c d (po e) (po e')⟩
 ·rintro b (hb|hb)
  ·exact aj.lt b hb
  ·exact(aj.block ((ve ez b).2 (.inr hb))).1
 ·obtain⟨l,h3,h4,h5⟩:=aj.own i o (ez i o h1) h2;have hl:cv pre.has ρ i=some l:=by simp[cv,ae.has,h1,h3]
  refine⟨l,hl,?_,(h5.fa (Kept.fa ?_)).cut (hp i o h1)⟩
  ·rintro(hb|hb)
   ·exact h4 hb
   ·exact VP ez aj ⟨i,o,l,h1,h2,hl,rfl⟩ hb
  ·rintro b ((hb|hb)|hb)
   ·exact .inl hb
   ·exact .inr ((ve ez b).2 (.inr hb))
   ·exact .inr ((ve ez b).2 (.inl hb))
theorem F5{w:World}{O:Nat→Prop}{ρ:az}{U pre:ae}(ez:∀i o,pre.get i=some o→U.get i=some o)(b:Nat):Ot (Ot O ρ (U.rest pre)) (cv pre.has ρ) pre b→Ot O ρ U b:=by
 rintro((hb|hb)|hb)
 ·exact .inl hb
 ·exact .inr ((ve ez b).2 (.inr hb))
 ·exact .inr ((ve ez b).2 (.inl hb))
section
variable{P:Program} {env:Env} {dst:Option Tmp} {ty:TypeId} {pos:String} {ar:Array Edge} {g:Option (Nat×Bool)}
theorem aq.abG{o:Oper}{f:FuncId}{ds:List D}{r:D}{pre post U:ae}(hf:dF P f ds pre r post)(eY:iw pre U pre)(wy:D.okB.fg pre.has ds=true)(mY:sB post (U.rest pre)=true)
  (h:∀(O:Nat→Prop)(ρ:az)(a:Act)(w:World),cF w O ρ U→(∀x∈o.op.operands.toList,∀d',env.op x=some d'→V w (Ot O ρ U) ρ d' (a.eval x))→∃vals:List Value,(execOp a.eval o).run P w=.ok (.enter f vals.toArray) w∧Vs w (Ot O ρ U) ρ ds vals):
  aq P o env U r (post++U.rest pre):=by
 intro O ρ a w aj cK hv;obtain⟨vals,fd,j6⟩:=h O ρ a w aj hv;have ez:∀i o,pre.get i=some o→U.get i=some o:=fun i o ho=>(eY.sound i o ho).1;unfold Oper.wp;rw[fd];simp only[Oper.upon];have aeU:Vs w (Ot (Ot O ρ (U.rest pre)) (cv pre.has ρ) pre) (cv pre.has ρ) ds vals:=
  Vs.Z2 wy (Vs.mono (Kept.fa fun b hb=>F5 (w:=w) ez b hb) (bI.refl _) _ _ j6)
 refine Calls.mono (hf.out w _ _ vals (PW ez eY.okB aj) (cK.mono (Kept.fa fun b hb=>F5 (w:=w) ez b hb)) aeU) ?_;rintro e w' ⟨v,av,rfl,bg,hr⟩;obtain⟨h1,h2,h3⟩:=PV (fun _=>true) ez aj bg.vv (aaF mY) (fun i l _ hl=>bg.le i l hl) (fun i o _=>Ob.Lz o);exact⟨_,v,rfl,⟨fun i l hl=>h2 i l rfl hl,h1.size,h1.same,h1.new,h1.ok,h1.os⟩,h3 r v hr⟩
theorem hJ{f:FuncId}{xs:List Operand}{tys:Array TypeId}{ds:List D}{r:D}{pre post U:ae}
  (fc:∀(args:Array Value)(w:World),(callFunc f args).run P w=.ok (.enter f args) w)(hx:env.kg xs=some ds)(hf:dF P f ds pre r post)(eY:iw pre U pre)(wy:D.okB.fg pre.has ds=true)(mY:sB post (U.rest pre)=true):
  aq P ⟨dst,.call ⟨.value (.func f),xs.toArray,tys⟩,ty,pos,ar,g⟩ env U r (post++U.rest pre):=by
 refine aq.abG hf eY wy mY fun O ρ a w aj hv=>?_;refine⟨xs.map a.eval,?_,tA xs ds hx (fun x hx d' h=>hv x (by simp[Op.operands,Call.operands,hx]) d' h)⟩;have h1:execOp a.eval ⟨dst,.call ⟨.value (.func f),xs.toArray,tys⟩,ty,pos,ar,g⟩=callFunc f (xs.map a.eval).toArray:=by
  simp[execOp,resolve,Deferred.ofValue,Act.eval,invoke,Bind.bind,Sem.bind,Pure.pure]
 rw[h1,fc]
theorem PO{w:World}{O:Nat→Prop}{ρ:az}{f:FuncId}{fs bC:List D}{v:Value}(h:V w O ρ (.fn (.func f) fs bC) v):∃us vs,v=.func (.func f) us vs∧Vs w O ρ fs us.toList∧Vs w O ρ bC vs.toList:=by simpa only[V]using h
theorem abZ(a:Act){y:Operand}{f:FuncId}{us vs:Array Value}{xs:List Operand}{tys:Array TypeId}(h:a.eval y=.func (.func f) us vs):
  execOp a.eval ⟨dst,.call ⟨.value y,xs.toArray,tys⟩,ty,pos,ar,g⟩=callFunc f (us.toList++xs.map a.eval++vs.toList).toArray:=by
 have:us++(xs.map a.eval).toArray++vs=(us.toList++xs.map a.eval++vs.toList).toArray:=by simp
 simp[execOp,resolve,Deferred.ofValue,h,invoke,Bind.bind,Sem.bind,Pure.pure,this]
theorem ek{f:FuncId}{y:Operand}{xs:List Operand}{tys:Array TypeId}{ds fs bC:List D}{r:D}
  (fc:∀(args:Array Value)(w:World),(callFunc f args).run P w=.ok (.enter f args) w)(hy:env.op y=some (.fn (.func f) fs bC))(hx:env.kg xs=some ds)(hf:Fc P f (fs++ds++bC) r)(U:ae):
  aq P ⟨dst,.call ⟨.value y,xs.toArray,tys⟩,ty,pos,ar,g⟩ env U r U:=by
 intro O ρ a w aj cK hv;obtain⟨us,vs,e1,e2,e3⟩:=PO (hv y (by simp[Op.operands,Call.operands]) _ hy);have j6:=tA xs ds hx (fun x hx d' h=>hv x (by simp[Op.operands,Call.operands,hx]) d' h);unfold Oper.wp;rw[abZ a e1,fc];simp only[Oper.upon];refine Calls.mono (hf.out w (Ot O ρ U) ρ _ ?_ cK ((e2.append j6).append e3)) ?_
 ·rintro b (hb|hb)
  ·exact aj.lt b hb
  ·exact(aj.block hb).1
 ·rintro e w' ⟨v,rfl,h1,h2⟩;exact⟨ρ,v,rfl,Tr.oK h2 aj,h1⟩
end
theorem YF{O:Nat→Prop}{w:World}{ρ:az}{U:ae}{id:Nat}{ds:List D}{v:Value}(aj:cF w O ρ U)(ho:U.get id=some (.cells ds))(hp:D.bz.ec ds=true)(h1:nW ds=true)(hv:V w (Ot O ρ U) ρ (.box id 0) v):
  V w (Ot O ρ (U.set id .dead)) ρ (.bc ds) v:=by
 simp only[V]at hv⊢;obtain⟨l,e1,e⟩:=hv;obtain⟨l',h3,h4,vs,T,h5,h6⟩:=aj.own id _ ho rfl;rw[e1]at h3;cases h3;have hk:=(Tr.die id aj).kept;refine⟨l.b,0,e,⟨(Array.getElem?_eq_some_iff.1 h5).1,?_⟩,?_⟩
 ·rintro(hb|⟨i,x,l',g1,g2,g3,g4⟩)
  ·exact h4 hb
  ·have hx:=q8 i x g1 g2;have:=aj.inj i id x _ l' l hx ho g2 rfl g3 e1 g4;subst this;rw[ae.dV]at g1;simp only[if_true,Option.some.injEq]at g1;subst g1;simp[Ob.live]at g2
 ·refine Vc.r3 h5 ds 0 ?_ ?_
  ·have hl:=h6.length;rw[List.drop_zero,List.take_of_length_le zO];exact Vs.mono hk (bI.refl _) _ _ (Vs.pure ds _ hp h6)
  ·have hl:=h6.length;rw[List.drop_zero,List.take_of_length_le zO];exact Vs.one h1 h6
theorem Le.fY{F:Fr}{env:Env}{U:ae}{ds:List D}(t id:Nat)(ht:env.get t=some (.box id 0))(ho:U.get id=some (.cells ds))(hp:D.bz.ec ds=true)(h1:nW ds=true):
  Le F env U ((t,.bc ds)::env) (U.set id .dead):=.step fun O ρ w f aj hv=>by
 have bg:=Tr.die id aj;refine⟨ρ,bg,fun s d h=>?_⟩;rw[Env.bf]at h;by_cases e:t=s
 ·rw[if_pos e]at h;cases h;subst e;exact YF aj ho hp h1 (hv t _ ht)
 ·rw[if_neg e]at h;exact bg.V (hv s d h)
def Gt(ts:List Nat)(r:D)(post:ae):Exit→Env→ae→Prop
 |.ret,env,U|.normal,env,U=>(∃ds,getAll env ts=some ds∧Sub (rT ds) r)∧iw post U post
 |_,_,_=>False
theorem dF.mk'{P:Program}{f:FuncId}{fn:Func}{c:Code}{args:List D}{r:D}{pre post:ae}(ts:List Nat)(hf:P.funcs[f]?=some fn)(hb:fn.body=some c){N:Nat}(hN:fn.ntmps=N)(hn:Nat.ble args.length N=true)(rA:(pre.map (·.1)).all post.has=true)(hr:r.okB post.has=true)
  (qp:∀tmps w,(results fn tmps).run P w=.ok (CK ts tmps) w)(h:J P ⟨N,pre.map (·.1),false,none⟩ [c] (Gt ts r post) (qc args 0) pre):dF P f args pre r post:=⟨fun w O ρ vals aj cK hv=>by
 refine AD hf hb h.start (St.begin fn.ntmps hN (Nat.le_of_ble_eq_true hn) aj cK hv _ none (fun _ _ e=>by cases e)) ?_ ?_
 ·intro e aQ am hq;cases e<;>first|exact .inl rfl|exact .inr rfl|exact hq.elim
 ·intro e aQ am tmps w' av hq pD bg uG;have:(∃ds,getAll aQ ts=some ds∧Sub (rT ds) r)∧iw post am post:=by cases e<;>first|exact hq|exact hq.elim
  obtain⟨⟨ds,h1,h2⟩,h3⟩:=this;have hO:∀b,b8 (cv post.has av) post b→b8 av am b:=by
   rintro b ⟨i,o,l,g1,g2,g3,g4⟩;exact⟨i,o,l,(h3.sound i o g1).1,g2,po g3,g4⟩
  refine⟨_,qp _ _,_,cv post.has av,rfl,⟨?_,bg.size,bg.same,fun b hb=>bg.new b (hO b hb),bg.ok.sub h3.sound,bg.os⟩,?_⟩
  ·intro i l hl;have hi:pre.has i=true:=by
    cases hp:pre.get i with
    |none=>rw[aj.fresh i hp]at hl;cases hl
    |some o=>exact ae.ij.2 ⟨o,hp⟩
   have hm:i∈pre.map (·.1):=by
    obtain⟨o,ho⟩:=ae.ij.1 hi;have key:∀p:ae,p.get i=some o→i∈p.map (·.1):=by
     intro p;induction p with
     |nil=>intro h;simp[ae.get]at h
     |cons q r ih=>
      obtain⟨t,d⟩:=q;intro h;rw[ae.bf]at h;by_cases e:t=i
      ·subst e;simp
      ·rw[if_neg e]at h;exact List.mem_cons_of_mem _ (ih h)
    exact key pre ho
   have:=List.all_eq_true.1 rA i hm;simp[cv,this,pD i hm l hl]
  ·have h4:=h2.out _ _ _ _ (Vs.res (Ev uG ts ds h1));exact V.cut r _ hr (V.mono (Kept.fa fun b hb=>hb.imp _root_.id (hO b)) (bI.refl _) _ _ h4)⟩
theorem vm{env:Env}{U post:ae}{t:Nat}{d r:D}(h:env.get t=some d)(s:Sub d r)(hp:iw post U post):Gt [t] r post .ret env U:=⟨⟨[d],by simp[getAll,h],s⟩,hp⟩
theorem VR{env:Env}{U post:ae}{t u:Nat}{d e d' e':D}(h:env.get t=some d)(h':env.get u=some e)(s:Sub d d')(s':Sub e e')(hp:iw post U post):Gt [t,u] (.bj [d',e']) post .ret env U:=⟨⟨[d,e],by simp[getAll,h,h'],.C9 s s'⟩,hp⟩
theorem Me{env:Env}{U post:ae}{r:D}(s:Sub (.bj []) r)(hp:iw post U post):Gt [] r post .normal env U:=⟨⟨[],rfl,s⟩,hp⟩
structure Tx(P:Program)(F:Fr)(ops:Array Oper)(K:Env→ae→Prop)(l:List Oper)(env:Env)(U:ae):Prop where
 out:∀(C:Ctx)(Q:Exit→Act→World→Prop),(∀a w aQ am,K aQ am→St F C aQ am a w→Q .normal a w)→∀(i:Nat) a w,ops.toList.drop i=l→St F C env U a w→wpOpsIn (fz C.ro) 0 P ops Q (List.range' i l.length) a w
section
variable{P:Program} {F:Fr} {ops:Array Oper} {K:Env→ae→Prop} {l:List Oper} {env:Env} {U:ae} {o:Oper}
theorem Tx.nil(h:K env U):Tx P F ops K [] env U:=⟨fun C Q hQ i a w _ hs=>by
 simp only[List.length_nil,List.range',wpOpsIn];exact hQ a w env U h hs⟩
theorem OS{ops:Array Oper}{i:Nat}{o:Oper}{l:List Oper}(h:ops.toList.drop i=o::l):ops[i]?=some o∧ops.toList.drop (i+1)=l:=by
 constructor
 ·have:=congrArg List.head? h;simpa[List.head?_drop]using this
 ·rw[←List.drop_drop,h];rfl
theorem Tx.many(hg:On ops env o)(h:∀(C:Ctx)(Q:Exit→Act→World→Prop)(k:Act→World→Prop)(a:Act)(w:World)(ρ:az),pj F C env U a w ρ→(∀a' w' aQ am,Tx P F ops K l aQ am→St F C aQ am a' w'→k a' w')→o.wpIn (fz C.ro) 0 P a w k Q):Tx P F ops K (o::l) env U:=⟨fun C Q hQ i a w hd hs=>by
 obtain⟨ho,Bd⟩:=OS hd;obtain⟨ρ,aP⟩:=hs;simp only[List.length_cons,List.range',wpOpsIn,ho];rw[if_pos (Da hg (fun _ _ t _ _ d h=>aP.env t d h))];exact h C Q _ a w ρ aP (fun a' w' aQ am hk gv=>hk.out C Q hQ (i+1) a' w' Bd gv)⟩
theorem Tx.q{d:D}{am:ae}(hd:dR F.N o.dst=true)(hg:On ops env o)(h:aq P o env U d am)(k:Tx P F ops K l (env.put o.dst d) am):Tx P F ops K (o::l) env U:=
 .many hg fun C Q kk a w ρ aP hk=>by
  have:=h C.O ρ a w aP.tr.ok aP.wk (fun x _ d' h=>tz aP.env x d' h);refine Oper.wpIn_mono ?_ (xN C.ro this (by rintro a' w' ⟨av,v,rfl,_⟩;exact Act.lN ..));rintro a' w' ⟨av,v,rfl,j4,hv⟩;exact hk _ _ _ _ k ⟨av,aP.step j4 (uu aP.size hd (fun t d h=>j4.V (aP.env t d h)) hv) (Act.tV _ _ _) (Act.lN ..)⟩
def sj(P:Program)(o:Oper)(env:Env)(U:ae){ι:Type}(A:ι→Prop)(d:ι→D)(am:ι→ae):Prop:=
 ∀(O:Nat→Prop)(ρ:az)(a:Act)(w:World),cF w O ρ U→Gl w (Ot O ρ U)→
  (∀x∈o.op.operands.toList,∀d',env.op x=some d'→V w (Ot O ρ U) ρ d' (a.eval x))→
  o.wp P a w (fun a' w'=>∃i av v,A i∧a'=a.put o.dst v∧Tr O w ρ U w' av (am i)∧V w' (Ot O av (am i)) av (d i) v) (fun _ _ _=>False)
theorem Tx.n{ι:Type}{A:ι→Prop}{d:ι→D}{am:ι→ae}(hd:dR F.N o.dst=true)(hg:On ops env o)(h:sj P o env U A d am)(k:∀i,A i→Tx P F ops K l (env.put o.dst (d i)) (am i)):Tx P F ops K (o::l) env U:=
 .many hg fun C Q kk a w ρ aP hk=>by
  have:=h C.O ρ a w aP.tr.ok aP.wk (fun x _ d' h=>tz aP.env x d' h);refine Oper.wpIn_mono ?_ (xN C.ro this (by rintro a' w' ⟨i,av,v,_,rfl,_⟩;exact Act.lN ..));rintro a' w' ⟨i,av,v,hA,rfl,j4,hv⟩;exact hk _ _ _ _ (k i hA) ⟨av,aP.step j4 (uu aP.size hd (fun t d h=>j4.V (aP.env t d h)) hv) (Act.tV _ _ _) (Act.lN ..)⟩
theorem Tx.off(hd:dR F.N o.dst=true)(hg:si ops env o)(k:Tx P F ops K l (env.put o.dst (.raw undef)) U):Tx P F ops K (o::l) env U:=⟨fun C Q hQ i a w hdr hs=>by
 obtain⟨ho,Bd⟩:=OS hdr;obtain⟨ρ,aP⟩:=hs;simp only[List.length_cons,List.range',wpOpsIn,ho];rw[if_neg (by simp[MM hg (fun _ _ t _ _ d h=>aP.env t d h)])];exact⟨fun _ _=>trivial,k.out C Q hQ (i+1) _ _ Bd ⟨ρ,aP.step (Tr.refl aP.tr.ok) (uu aP.size hd aP.env (by simp[V])) (Act.tV _ _ _) (Act.lN ..)⟩⟩⟩
theorem Tx.bE{aQ:Env}{am:ae}(h:Le F env U aQ am)(k:Tx P F ops K l aQ am):Tx P F ops K l env U:=⟨fun C Q hQ i a w hd hs=>k.out C Q hQ i a w hd (h.out C a w hs)⟩
theorem J.vl{Q:Exit→Env→ae→Prop}{cs:List Code}{id:Nat}{l:List Oper}(h:Tx P F l.toArray (J P F cs Q) l env U):J P F (.region id l.toArray false::cs) Q env U:=⟨⟨fun C a w hs=>by
 refine wpIn_region ?_;rw[List.range_eq_range'];have:=h.out C (fun e a' w'=>∃aQ am,jS (od P F cs Q) Q e aQ am∧St F C aQ am a' w') (fun a w aQ am hk hs=>⟨aQ,am,hk.out,hs⟩) 0 a w zS hs;simpa using this⟩⟩
end
end Go.T
namespace Go.T
open Go
variable[bX]
theorem Ob.zF{o:Ob}{f g:Nat→Bool}(h:∀i,f i=true→g i=true)(ho:o.okB f=true):o.okB g=true:=by
 cases o with
 |dead=>rfl
 |cells ds=>exact D.r4 ds h ho
 |arr sz rows=>rfl
 |lp st zP s env=>exact D.r4 _ h ho
 |mp qy=>
  simp only[Ob.okB,Bool.and_eq_true]at ho⊢;exact⟨D.r4 _ h ho.1,D.r4 _ h ho.2⟩
 |mi m xB seen=>exact h m ho
 |eE j n=>exact h j ho
 |ba s=>rfl
 |res sz=>rfl
 |mj ks vs seen=>rfl
 |mn=>rfl
theorem b8.congr{ρ:az}{U am:ae}(h:∀i,U.get i=am.get i)(b:Nat):b8 ρ U b↔b8 ρ am b:=by
 unfold b8;simp only[h]
theorem Ot.congr{O:Nat→Prop}{ρ:az}{U am:ae}(h:∀i,U.get i=am.get i)(b:Nat):Ot O ρ U b↔Ot O ρ am b:=by
 unfold Ot;rw[b8.congr h b]
theorem cF.congr{w:World}{O:Nat→Prop}{ρ:az}{U am:ae}(h:∀i,U.get i=am.get i)(aj:cF w O ρ U):cF w O ρ am:=by
 refine⟨aj.lt,fun i hi=>aj.fresh i (by rw[h];exact hi),fun i o h1 h2=>?_,fun i j o o' l l' a b=>aj.inj i j o o' l l' (by rw[h];exact a) (by rw[h];exact b)⟩;obtain⟨l,h3,h4,h5⟩:=aj.own i o (by rw[h];exact h1) h2;exact⟨l,h3,h4,h5.fa (Kept.fa fun b hb=>(Ot.congr h b).2 hb)⟩
theorem gz.congr{O:Nat→Prop}{w w':World}{ρ av:az}{U cX lH:ae}(h:∀i,cX.get i=lH.get i)(ht:gz O w ρ U w' av cX):gz O w ρ U w' av lH:=
 ⟨ht.size,ht.same,fun b hb=>ht.new b ((b8.congr h b).2 hb),ht.ok.congr h,ht.os⟩
theorem gz.ZH{O:Nat→Prop}{w w':World}{ρ av:az}{U am cX:ae}(h:∀i,U.get i=am.get i)(ht:gz O w ρ U w' av cX):gz O w ρ am w' av cX:=
 ⟨ht.size,fun b hb ho=>ht.same b hb fun g=>ho ((b8.congr h b).1 g),fun b hb=>(ht.new b hb).imp (b8.congr h b).1 _root_.id,ht.ok,ht.os⟩
structure M'(P:Program)(aK lb:Nat)(ids:List Nat)(x:List D)(B B':ae)(X:ae→Prop):Prop where
 out:∀(O:Nat→Prop)(ρ:az)(w:World)(vals:List Value)(l:Loc),ρ aK=some l→l.b=lb→cF w O ρ B→Gl w (Ot O ρ B)→Vs w (Ot O ρ B) ρ x vals→
  ∃fn tmps assign body,(Instr.yield lb vals.toArray).run P w=.ok (.round lb fn tmps assign body) w∧
   RoundIn Fence.wide 0 P lb fn tmps assign body w (fun e w'=>∃b av o,e=.returned (.bool b)∧((b=true∧o=B')∨(b=false∧X o))∧gz O w ρ B w' av o∧∀i∈ids,∀l,ρ i=some l→av i=some l)
structure Au{α:Type}(P:Program)(lo aK lb:Nat)(ids:List Nat)(B:List α→ae)(X:ae→Prop)(enc:α→List D)(ok:List α→Prop):Prop where
 mem:aK∈ids
 has:∀pre,ids.all (B pre).has=true
 ad':∀o,X o→ids.all o.has=true
 Cj:∀pre i o,(B pre).get i=some o→o.okB (B pre).has=true
 okX:∀o,X o→∀i x,o.get i=some x→x.okB o.has=true
 free:∀pre i,lo≤i→i<lo+100→(B pre).get i=none
 P0:∀o,X o→∀i,lo≤i→i<lo+100→o.get i=none
 step:∀pre x,ok (pre++[x])→M' P aK lb ids (enc x) (B pre) (B (pre++[x])) X
@[reducible] def yv(lb:Nat):D:=.raw (.func (.yield lb) #[] #[])
structure Ap{α:Type}(P:Program)(f:FuncId)(lo:Nat)(bC:List D)(own:ae)(enc:α→List D)(ok fin:List α→Prop):Prop where
 out:∀(aK lb:Nat)(ids:List Nat)(B:List α→ae)(X:ae→Prop),Au P lo aK lb ids B X enc ok→∀w O ρ vals l,ρ aK=some l→l.b=lb→cF w O ρ (own++B [])→Gl w (Ot O ρ (own++B []))→Vs w (Ot O ρ (own++B [])) ρ bC vals→
  Calls P f (.func (.yield lb) #[] #[]::vals).toArray w (fun e w'=>∃v av o,e=.returned v∧((∃xs,fin xs∧o=B xs)∨X o)∧gz O w ρ (own++B []) w' av o∧∀i∈ids,∀l,ρ i=some l→av i=some l)
def lE(lo:Nat)(own:ae):Bool:=own.all fun p=>Nat.ble lo p.1&&Nat.blt p.1 (lo+100)
theorem rE{lo:Nat}{own:ae}(h:lE lo own=true):∀i,own.has i=true→lo≤i∧i<lo+100:=by
 intro i hi;obtain⟨o,ho⟩:=ae.ij.1 hi;induction own with
 |nil=>simp[ae.get]at ho
 |cons p r ih=>
  obtain⟨t,d⟩:=p;simp only[lE,List.all_cons,Bool.and_eq_true]at h;rw[ae.bf]at ho;by_cases e:t=i
  ·subst e;exact⟨Nat.le_of_ble_eq_true h.1.1,by simpa[Nat.blt_eq]using h.1.2⟩
  ·rw[if_neg e]at ho;exact ih h.2 (ae.ij.2 ⟨o,ho⟩) ho
theorem Jv{i:Nat}:∀{own:ae},i∈own.map (·.1)→own.has i=true
 |[],hi=>by simp at hi
 |(t,d)::r,hi=>by
  simp only[ae.has,ae.bf];by_cases e:t=i
  ·simp[e]
  ·rw[if_neg e];simp only[List.map_cons,List.mem_cons]at hi;exact Jv (own:=r) (hi.resolve_left (fun e'=>e e'.symm))
inductive qS(f:Nat→Bool)(env:Env):Env→Prop
 |nil:qS f env []
 |cons {t:Nat} {d:D} {e:Env} (h:env.get t=some d) (hp:d.okB f=true) (r:qS f env e):qS f env ((t,d)::e)
theorem qS.sound{f:Nat→Bool}{env aQ:Env}(h:qS f env aQ):∀t d,aQ.get t=some d→env.get t=some d∧d.okB f=true:=by
 induction h with
 |nil=>intro t d h;simp[Env.get]at h
 |@cons t0 d0 e h hp _ ih=>
  intro t d hd;rw[Env.bf]at hd;by_cases e:t0=t
  ·rw[if_pos e]at hd;cases hd;exact⟨e▸h,hp⟩
  ·rw[if_neg e]at hd;exact ih t d hd
section
variable{P:Program} {F:Fr} {ops:Array Oper} {K:Env→ae→Prop} {ol:List Oper} {env:Env}
theorem ab0(a:Act){y:Operand}{lb:Nat}{xs:List Operand}{tys:Array TypeId}{dst:Option Tmp}{ty:TypeId}{pos:String}{ar:Array Edge}{g:Option (Nat×Bool)}(h:a.eval y=.func (.yield lb) #[] #[]):
  execOp a.eval ⟨dst,.call ⟨.value y,xs.toArray,tys⟩,ty,pos,ar,g⟩=Instr.yield lb (xs.map a.eval).toArray:=by
 simp[execOp,resolve,Deferred.ofValue,h,invoke,Bind.bind,Sem.bind,Pure.pure]
theorem Tx.y2{α:Type}{lo aK lb:Nat}{ids:List Nat}{B:List α→ae}{X:ae→Prop}{enc:α→List D}{ok:List α→Prop}(Y:Au P lo aK lb ids B X enc ok){own:ae}{pre:List α}{aQ:Env}{y:Operand}{xs:List Operand}{tys:Array TypeId}{dst:Option Tmp}{ty:TypeId}{pos:String}{ar:Array Edge}{g:Option (Nat×Bool)}
  {p0:List Nat}(x:α)(Jm:F.yl=some (aK,lb))(rA:F.ps=ids++p0)(hp0:p0.all own.has=true)(hd:dR F.N dst=true)(hg:On ops env ⟨dst,.call ⟨.value y,xs.toArray,tys⟩,ty,pos,ar,g⟩)(hy:env.op y=some (yv lb))(hx:env.kg xs=some (enc x))(J8:D.bz.ec (enc x)=true)(aj:ok (pre++[x]))
  (dX:lE lo own=true)(J5:own.okB own.has=true)(he:qS own.has env aQ)
  (kT:Tx P F ops K ol (aQ.put dst (.raw (.bool true))) (own++B (pre++[x])))(kF:∀o,X o→Tx P F ops K ol (aQ.put dst (.raw (.bool false))) (own++o)):
  Tx P F ops K (⟨dst,.call ⟨.value y,xs.toArray,tys⟩,ty,pos,ar,g⟩::ol) env (own++B pre):=
 .many hg fun C Q kk a w ρ aP hk=>by
  have yE:=tz aP.env y _ hy;simp only[V]at yE;obtain⟨_,l0,uK,mq⟩:=aP.yl aK lb Jm;have pE:aK∈F.ps:=by rw[rA];exact List.mem_append_left _ Y.mem
  have mr:=aP.keep aK pE l0 uK;have j6:=tA xs _ hx (fun x _ d' h=>tz aP.env x d' h);have Jl:∀i,own.has i=true→(B pre).get i=none:=fun i hi=>Y.free pre i (rE dX i hi).1 (rE dX i hi).2;have aeH:∀(o:ae),(∀i,own.has i=true→o.get i=none)→∀i x,o.get i=some x→ae.get (own++o) i=some x:=by
   intro o ho i x hi;rw[ae.get_append];cases hp:own.get i with
   |none=>exact hi
   |some z=>rw[ho i (ae.ij.2 ⟨z,hp⟩)]at hi;cases hi
  have ez:=aeH (B pre) Jl;have J':∀i,(ae.rest (own++B pre) (B pre)).get i=own.get i:=by
   intro i;rw[ae.rj,ae.get_append];cases hp:own.get i with
   |some z=>simp[ae.has,Jl i (ae.ij.2 ⟨z,hp⟩)]
   |none=>
    cases hb:(B pre).get i with
    |none=>simp[ae.has,hb]
    |some z=>simp[ae.has,hb]
  have aeJ:∀i,(ae.rest (own++B pre) (B pre)).has i=own.has i:=fun i=>by simp[ae.has,J']
  have JN:(B pre).has aK=true:=List.all_eq_true.1 (Y.has pre) aK Y.mem;have Bt:=PW (U:=own++B pre) (pre:=B pre) ez (Y.Cj pre) aP.tr.ok;have aeV:Vs w (Ot (Ot C.O ρ (ae.rest (own++B pre) (B pre))) (cv (B pre).has ρ) (B pre)) (cv (B pre).has ρ) (enc x) (xs.map a.eval):=
   Vs.pure _ _ J8 (Vs.mono (Kept.fa fun b hb=>F5 (w:=w) ez b hb) (bI.refl _) _ _ j6)
  obtain⟨fn,tmps,assign,body,fd,aeK⟩:=(Y.step pre x aj).out _ _ w (xs.map a.eval) l0 (by simp[cv,JN,mr]) mq Bt (aP.wk.mono (Kept.fa fun b hb=>F5 (w:=w) ez b hb)) aeV;refine⟨fun _ _=>trivial,?_⟩;rw[Oper.semAt_eq _ _ _ (fun c hc=>by cases hc),ab0 a yE,fd];simp only[Oper.uponIn];refine⟨fun e=>by simp[fz,Fence.wide]at e,?_⟩;have aeL:RoundIn (fz C.ro) 0 P lb fn tmps assign body w _:=aeK;refine aeL.mono ?_;rintro e w' ⟨b,av,o,rfl,ho,bg,pD⟩;have QU:∀i,own.has i=true→o.get i=none:=by
   rcases ho with⟨_,rfl⟩|⟨_,ho⟩
   ·exact fun i hi=>Y.free _ i (rE dX i hi).1 (rE dX i hi).2
   ·exact fun i hi=>Y.P0 o ho i (rE dX i hi).1 (rE dX i hi).2
  obtain⟨h1,h2,_⟩:=PV (fun i=>ids.contains i||own.has i) ez aP.tr.ok bg
   (fun i hi=>by
    rw[aeJ];cases hp:own.has i with
    |false=>rfl
    |true=>rw[ae.has,QU i hp]at hi;cases hi)
   (fun i l hs hl=>by
    simp only[Bool.or_eq_true,List.contains_iff_mem]at hs;rcases hs with hs|hs
    ·exact pD i hs l hl
    ·simp[cv,ae.has,Jl i hs]at hl)
   (fun i x hx=>by
    rw[J']at hx;exact Ob.zF (fun j hj=>by simp[hj]) (ae.Ly J5 i x hx))
  have Bc:∀i,ae.get (o++ae.rest (own++B pre) (B pre)) i=ae.get (own++o) i:=by
   intro i;rw[ae.get_append,ae.get_append,J'];cases hp:own.get i with
   |none=>cases o.get i<;>rfl
   |some z=>rw[QU i (ae.ij.2 ⟨z,hp⟩)]
  have nM:=h1.congr Bc;have rB:∀v:Bool,St F C (aQ.put dst (.raw (.bool v))) (own++o) (a.put dst (.bool v)) w':=fun v=>by
   refine⟨_,fun i hi l hl=>h2 i l ?_ (aP.keep i hi l hl),aP.tr.trans nM,?_,(Act.tV _ _ _).trans aP.size,?_,aP.rd,aP.yl,aP.gl⟩
   ·rw[rA]at hi;simp only[Bool.or_eq_true,List.contains_iff_mem];rcases List.mem_append.1 hi with hi|hi
    ·exact .inl hi
    ·refine .inr ?_;exact List.all_eq_true.1 hp0 _ hi
   ·refine uu aP.size hd (fun t d Bd=>?_) (by simp[V]);obtain⟨g1,g2⟩:=he.sound t d Bd;refine V.mono nM.kept ?_ _ _ (V.cut d _ g2 (aP.env t d g1));intro j lj kH;unfold cv at kH;split at kH
    ·rename_i hs;exact h2 j lj (by simp[hs]) kH
    ·cases kH
   ·rw[Act.lN];exact nM.marks aP.marks
  rcases ho with⟨rfl,rfl⟩|⟨rfl,ho⟩
  ·exact hk _ _ _ _ kT (rB true)
  ·exact hk _ _ _ _ (kF o ho) (rB false)
theorem Tx.y{α:Type}{lo aK lb:Nat}{ids:List Nat}{B:List α→ae}{X:ae→Prop}{enc:α→List D}{ok:List α→Prop}(Y:Au P lo aK lb ids B X enc ok){own:ae}{pre:List α}{aQ:Env}{y:Operand}{xs:List Operand}{tys:Array TypeId}{dst:Option Tmp}{ty:TypeId}{pos:String}{ar:Array Edge}{g:Option (Nat×Bool)}
  (x:α)(Jm:F.yl=some (aK,lb))(rA:F.ps=ids++own.map (·.1))(hd:dR F.N dst=true)(hg:On ops env ⟨dst,.call ⟨.value y,xs.toArray,tys⟩,ty,pos,ar,g⟩)(hy:env.op y=some (yv lb))(hx:env.kg xs=some (enc x))(J8:D.bz.ec (enc x)=true)(aj:ok (pre++[x]))
  (dX:lE lo own=true)(J5:own.okB own.has=true)(he:qS own.has env aQ)
  (kT:Tx P F ops K ol (aQ.put dst (.raw (.bool true))) (own++B (pre++[x])))(kF:∀o,X o→Tx P F ops K ol (aQ.put dst (.raw (.bool false))) (own++o)):
  Tx P F ops K (⟨dst,.call ⟨.value y,xs.toArray,tys⟩,ty,pos,ar,g⟩::ol) env (own++B pre):=
 Tx.y2 Y x Jm rA (List.all_eq_true.2 fun i hi=>Jv hi) hd hg hy hx J8 aj dX J5 he kT kF
end
def Mf{α:Type}(B:List α→ae)(X:ae→Prop)(fin:List α→Prop):Exit→Env→ae→Prop
 |.ret,_,U|.normal,_,U=>∃o,((∃xs,fin xs∧o=B xs)∨X o)∧∀i x,o.get i=some x→U.get i=some x
 |_,_,_=>False
theorem aky{α:Type}{B:List α→ae}{X:ae→Prop}{fin:List α→Prop}{env:Env}{U:ae}{e:Exit}(he:e=.ret∨e=.normal)(xs:List α)(hf:fin xs)(h:∀i x,(B xs).get i=some x→U.get i=some x):Mf B X fin e env U:=by
 rcases he with rfl|rfl<;>exact⟨_,.inl ⟨xs,hf,rfl⟩,h⟩
theorem akz{α:Type}{B:List α→ae}{X:ae→Prop}{fin:List α→Prop}{env:Env}{U:ae}{e:Exit}(he:e=.ret∨e=.normal)(o:ae)(hx:X o)(h:∀i x,o.get i=some x→U.get i=some x):Mf B X fin e env U:=by
 rcases he with rfl|rfl<;>exact⟨_,.inr hx,h⟩
theorem tC{own o:ae}{lo:Nat}(dX:lE lo own=true)(hf:∀i,lo≤i→i<lo+100→o.get i=none):∀i x,o.get i=some x→ae.get (own++o) i=some x:=by
 intro i x hi;rw[ae.get_append];cases hp:own.get i with
 |none=>exact hi
 |some z=>
  have:=rE dX i (ae.ij.2 ⟨z,hp⟩);rw[hf i this.1 this.2]at hi;cases hi
theorem LU{ids own:List Nat}{L o:ae}(h:ids.all o.has=true)(h2:own.all (ae.has L)=true):(ids++own).all (ae.has (L++o))=true:=by
 rw[List.all_append,Bool.and_eq_true];constructor
 ·rw[List.all_eq_true]at h⊢;intro i hi;obtain⟨x,hx⟩:=ae.ij.1 (h i hi);simp only[ae.has,ae.get_append];cases L.get i<;>simp[hx]
 ·rw[List.all_eq_true]at h2⊢;intro i hi;obtain⟨x,hx⟩:=ae.ij.1 (h2 i hi);simp[ae.has,ae.get_append,hx]
theorem MF{own jx o:ae}{lo:Nat}(dX:lE lo own=true)(hf:∀i,lo≤i→i<lo+100→o.get i=none)(aj:∀i x,o.get i=some x→x.okB o.has=true):∀i x,o.get i=some x→ae.get (own++o) i=some x∧x.okB (ae.has (jx++o))=true:=by
 intro i x hi;refine⟨tC dX hf i x hi,Ob.zF (fun j hj=>?_) (aj i x hi)⟩;obtain⟨y,hy⟩:=ae.ij.1 hj;simp only[ae.has,ae.get_append];cases jx.get j<;>simp[hy]
theorem Ap.mk'{α:Type}{P:Program}{f:FuncId}{fn:Func}{c:Code}{lo:Nat}{bC:List D}{own:ae}{enc:α→List D}{ok fin:List α→Prop}(hf:P.funcs[f]?=some fn)(hb:fn.body=some c){N:Nat}(hN:fn.ntmps=N)(hn:Nat.ble (bC.length+1) N=true)
  (qp:∀tmps w,(results fn tmps).run P w=.ok (CK [] tmps) w)
  (h:∀(aK lb:Nat)(ids:List Nat)(B:List α→ae)(X:ae→Prop),Au P lo aK lb ids B X enc ok→J P ⟨N,ids++own.map (·.1),false,some (aK,lb)⟩ [c] (Mf B X fin) (qc (yv lb::bC) 0) (own++B [])):Ap P f lo bC own enc ok fin:=⟨fun aK lb ids B X Y w O ρ vals l hl mq aj cK hv=>by
 have iL:Vs w (Ot O ρ (own++B [])) ρ (yv lb::bC) (.func (.yield lb) #[] #[]::vals):=by
  simp only[Vs];exact⟨_,_,rfl,by simp[V],hv⟩
 refine AD hf hb (h aK lb ids B X Y).start (St.begin fn.ntmps hN (by have:=Nat.le_of_ble_eq_true hn;simpa using this) aj cK iL _ _ (fun i b e=>?_)) ?_ ?_
 ·cases e;exact⟨List.mem_append_left _ Y.mem,l,hl,mq⟩
 ·intro e aQ am hq;cases e<;>first|exact .inl rfl|exact .inr rfl|exact hq.elim
 ·intro e aQ am tmps w' av hq pD bg uG;have:∃o,((∃xs,fin xs∧o=B xs)∨X o)∧∀i x,o.get i=some x→am.get i=some x:=by cases e<;>first|exact hq|exact hq.elim
  obtain⟨o,ho,ez⟩:=this;have aeD:∀i x,o.get i=some x→x.okB o.has=true:=by
   rcases ho with⟨xs,_,rfl⟩|ho
   ·exact Y.Cj xs
   ·exact Y.okX o ho
  have aer:ids.all o.has=true:=by
   rcases ho with⟨xs,_,rfl⟩|ho
   ·exact Y.has xs
   ·exact Y.ad' o ho
  have hO:∀b,b8 (cv o.has av) o b→b8 av am b:=by
   rintro b ⟨i,x,l,g1,g2,g3,g4⟩;exact⟨i,x,l,ez i x g1,g2,po g3,g4⟩
  refine⟨_,qp _ _,_,cv o.has av,o,rfl,ho,⟨bg.size,bg.same,fun b hb=>bg.new b (hO b hb),bg.ok.sub (fun i x hx=>⟨ez i x hx,aeD i x hx⟩),bg.os⟩,fun i hi l hl=>?_⟩;have:=List.all_eq_true.1 aer i hi;simp[cv,this,pD i (List.mem_append_left _ hi) l hl]⟩
end Go.T
namespace Go.T
open Go
variable[bX]
def zV:Env→List Tmp→List D→Env
 |e,p::ps,d::ds=>zV ((p,d)::e) ps ds
 |e,_,_=>e
theorem Vf{w:World}{O:Nat→Prop}{ρ:az}{N:Nat}:∀(ps:List Tmp)(ds:List D)(vs:List Value)(env:Env)(tmps:Array Value),tmps.size=N→ps.all (fun p=>Nat.blt p N)=true→Vs w O ρ ds vs→(∀t d,env.get t=some d→V w O ρ d (tmps.getD t undef))→
  ((ps.zip vs).foldl (fun(t:Array Value) (x:Tmp×Value)=>t.setIfInBounds x.1 x.2) tmps).size=N∧∀t d,(zV env ps ds).get t=some d→V w O ρ d (((ps.zip vs).foldl (fun(t:Array Value) (x:Tmp×Value)=>t.setIfInBounds x.1 x.2) tmps).getD t undef)
 |[],ds,vs,env,tmps,hN,_,hv,he=>by
  simp only[List.zip_nil_left,List.foldl_nil];refine⟨hN,?_⟩;cases ds<;>exact he
 |p::ps,[],vs,env,tmps,hN,_,hv,he=>by
  simp only[Vs]at hv;subst hv;simp only[List.zip_nil_right,List.foldl_nil];exact⟨hN,he⟩
 |p::ps,d::ds,vs,env,tmps,hN,hp,hv,he=>by
  simp only[Vs]at hv;obtain⟨u,us,rfl,h1,h2⟩:=hv;simp only[List.all_cons,Bool.and_eq_true]at hp;have bw:p<tmps.size:=by rw[hN];simpa[Nat.blt_eq]using hp.1
  simp only[List.zip_cons_cons,List.foldl_cons,zV];refine Vf ps ds us _ _ (by simpa using hN) hp.2 h2 ?_;intro t d' hd;rw[Env.bf]at hd;rw[A2 _ _ _ _ bw];by_cases e:p=t
  ·rw[if_pos e]at hd⊢;cases hd;exact h1
  ·rw[if_neg e]at hd⊢;exact he t d' hd
theorem qS.fg{f:Nat→Bool}{env aQ:Env}(h:qS f env aQ):D.okB.fg f (aQ.map (·.2))=true:=by
 induction h with
 |nil=>rfl
 |cons h hp _ ih=>simp only[List.map_cons,D.okB.fg,hp,ih,Bool.and_self]
def abF(F':Fr)(aK:Nat)(s:vK)(cc:Env)(B':ae)(Xs:Code→ae→Prop):Exit→Env→ae→Prop
 |.normal,env,U=>U.get aK=some (.lp .busy none s cc)∧Le F' env (U.set aK (.lp .ready none s cc)) [] B'
 |.ret,env,U=>U.get aK=some (.lp .busy none s cc)∧∃Rx,Xs .ret Rx∧Le F' env (U.set aK (.lp .done (some .ret) s cc)) [] ((aK,.lp .done (some .ret) s cc)::Rx)
 |.exit id,env,U=>U.get aK=some (.lp .busy none s cc)∧∃Rx,Xs (.exit id) Rx∧Le F' env (U.set aK (.lp .done (some (.exit id)) s cc)) [] ((aK,.lp .done (some (.exit id)) s cc)::Rx)
 |_,_,_=>False
def Nv(P:Program)(F':Fr)(aK:Nat)(s:vK)(cc:Env)(B':ae)(Xs:Code→ae→Prop):Exit→Env→ae→Prop
 |.normal,env,U=>U.get aK=some (.lp .ready none s cc)∧J P F' [s.body] (abF F' aK s cc B' Xs) env (U.set aK (.lp .busy none s cc))
 |_,_,_=>False
def GH(aK:Nat)(s:vK)(cc:Env)(Xs:Code→ae→Prop)(o:ae):Prop:=∃j Rx,Xs j Rx∧o=(aK,.lp .done (some j) s cc)::Rx
theorem St.record{F':Fr}{C:Ctx}{env:Env}{U:ae}{a:Act}{w:World}{aK:Nat}{l:Loc}{st:LoopState}{pe:Option Code}{s:vK}{cc:Env}(pE:aK∈F'.ps)(hl:C.ub aK=some l)(eS:U.get aK=some (.lp st pe s cc))(hs:St F' C env U a w):
  ∃fn tmps df,w.heap[l.b]?=some (.loop ⟨st,pe,fn,tmps,s.ps,s.assign,s.body,df⟩)∧∀CY Cv,St F' C env (U.set aK (.lp CY Cv s cc)) a (w.putObj l.b (.loop ⟨CY,Cv,fn,tmps,s.ps,s.assign,s.body,df⟩)):=by
 obtain⟨ρ,hs⟩:=hs;have mr:=hs.keep aK pE l hl;obtain⟨l',h1,h2,fn,tmps,df,h3,h4,h5⟩:=hs.tr.ok.own aK _ eS rfl;rw[mr]at h1;cases h1;refine⟨fn,tmps,df,h3,fun CY Cv=>⟨ρ,?_⟩⟩;have bg:=Tr.cm (o':=.lp CY Cv s cc) hs.tr.ok eS rfl mr (.loop ⟨CY,Cv,fn,tmps,s.ps,s.assign,s.body,df⟩) (fun hk=>⟨fn,tmps,df,by
  have:=(Array.getElem?_eq_some_iff.1 h3).1;simp[this],h4,fun t d hd=>V.mono hk (bI.refl _) d _ (h5 t d hd)⟩)
 exact hs.step bg (fun t d hd=>bg.V (hs.env t d hd)) rfl rfl
theorem akC{P:Program}{N aK lb:Nat}{ids:List Nat}{pl:List Tmp}{s:vK}{cc:Env}{x:List D}{R:ae}{B':ae}{Xs:Code→ae→Prop}(hs:s.ps=pl.toArray)(hN:s.N=N)(E0:pl.all (fun p=>Nat.blt p N)=true)(hlen:x.length=pl.length)(pE:aK∈ids)
  (h:J P ⟨N,ids,true,none⟩ [s.assign] (Nv P ⟨N,ids,true,none⟩ aK s cc B' Xs) (zV cc pl x) ((aK,.lp .ready none s cc)::R)):
  M' P aK lb ids x ((aK,.lp .ready none s cc)::R) B' (GH aK s cc Xs):=⟨fun O ρ w vals l hl mq aj cK hv=>by
 subst mq;have eS:ae.get ((aK,Ob.lp .ready none s cc)::R) aK=some (.lp .ready none s cc):=by simp[ae.get]
 obtain⟨l',h1,h2,fn,tmps,df,h3,h4,h5⟩:=aj.own aK _ eS rfl;rw[hl]at h1;cases h1;have BE:=hv.length;refine⟨fn,_,s.assign,s.body,run_yield h3 (by rw[hs];simp[BE,hlen]),?_⟩;refine roundIn_of_wpIn trivial ?_;have wM:((s.ps.zip vals.toArray).foldl (fun tmps (x:Tmp×Value)=>tmps.setIfInBounds x.1 x.2) tmps)=((pl.zip vals).foldl (fun(t:Array Value) (x:Tmp×Value)=>t.setIfInBounds x.1 x.2) tmps):=by
  rw[hs];simp
 obtain⟨aY,hpe⟩:=Vf (w:=w) pl x vals cc tmps (h4.trans hN) E0 hv h5
 let C:Ctx:=⟨O,w,ρ,(aK,.lp .ready none s cc)::R,some l.b⟩
 have aP:St ⟨N,ids,true,none⟩ C (zV cc pl x) ((aK,.lp .ready none s cc)::R) {tmps:=(s.ps.zip vals.toArray).foldl (fun tmps (x:Tmp×Value)=>tmps.setIfInBounds x.1 x.2) tmps,defers:=[]} w:=
  ⟨ρ,fun _ _ _ h=>h,gz.refl aj,by rw[wM];exact hpe,by rw[wM];exact aY,Marks.nil ..,(fun e=>by cases e),(fun _ _ e=>by cases e),cK⟩
 have fd:=h.start.out C _ w aP;refine wpIn_mono fd ?_;rintro e a1 w1 ⟨fD,cX,hq,hs1⟩;cases e with
 |normal=>
  obtain⟨jr,aec⟩:=hq;obtain⟨fn1,as1,df1,JK,aeP⟩:=hs1.record (C:=C) (l:=l) pE hl jr;refine⟨_,run_beginRound JK rfl,?_⟩;refine wpIn_mono (aec.start.out C a1 _ (aeP .busy none)) ?_;have fin:∀(s8:Option Code)(st:LoopState)(wb:Env)(lH:ae)(a2:Act)(w2:World)(o:ae),(st=if s8.isNone then .ready else .done)→lH.get aK=some (.lp .busy none s cc)→St ⟨N,ids,true,none⟩ C wb lH a2 w2→Le ⟨N,ids,true,none⟩ wb (lH.set aK (.lp st s8 s cc)) [] o→((s8.isNone=true∧o=B')∨(s8.isNone=false∧GH aK s cc Xs o))→
    ∃v w',(Instr.endRound l.b s8).run P w2=.ok v w'∧∃b av o,Ending.returned v=.returned (.bool b)∧((b=true∧o=B')∨(b=false∧GH aK s cc Xs o))∧gz O w ρ ((aK,.lp .ready none s cc)::R) w' av o∧∀i∈ids,∀l,ρ i=some l→av i=some l:=by
   intro s8 st wb lH a2 w2 o aeR j2 Bw eY ho;obtain⟨fn2,as2,df2,hh2,aeQ⟩:=Bw.record (C:=C) (l:=l) pE hl j2;obtain⟨av,Rs⟩:=eY.out C a2 _ (aeQ st s8);refine⟨_,_,run_endRound s8 hh2,s8.isNone,av,o,rfl,ho,?_,Rs.keep⟩;have:=Rs.tr;rw[aeR]at this;exact this
  rintro e a2 w2 ⟨wb,lH,uO,Bw⟩;cases e with
  |normal=>exact fin none .ready wb lH a2 w2 B' rfl uO.1 Bw uO.2 (.inl ⟨rfl,rfl⟩)
  |ret=>
   obtain⟨j2,Rx,hx,eY⟩:=uO;exact fin (some .ret) .done wb lH a2 w2 _ rfl j2 Bw eY (.inr ⟨rfl,.ret,Rx,hx,rfl⟩)
  |exit id=>
   obtain⟨j2,Rx,hx,eY⟩:=uO;exact fin (some (.exit id)) .done wb lH a2 w2 _ rfl j2 Bw eY (.inr ⟨rfl,.exit id,Rx,hx,rfl⟩)
  |goto l=>exact uO.elim
  |panic ch=>exact uO.elim
  |outgrown=>exact uO.elim
 |exit id=>exact hq.elim
 |goto l=>exact hq.elim
 |ret=>exact hq.elim
 |panic ch=>exact hq.elim
 |outgrown=>exact hq.elim⟩
def aly(Q:Exit→Env→ae→Prop)(cc:Env)(j:Code)(Rx:ae):Prop:=
 match j with
 |.ret=>Q .ret cc Rx
 |.exit id=>Q (.exit id) cc Rx
 |_=>False
theorem J.aj'{α:Type}{P:Program}{F:Fr}{Q:Exit→Env→ae→Prop}{cs:List Code}{env:Env}{U:ae}{g:Operand}{pl:List Tmp}{assign body:Code}{f:FuncId}{lo:Nat}{bC:List D}{own:ae}{enc:α→List D}{ok fin:List α→Prop}
  (aK:Nat)(S:List Nat)(cc:Env)(R:List α→ae)(Xs:Code→ae→Prop)
  (Bv:F.rd=false)(fc:∀(args:Array Value)(w:World),(callFunc f args).run P w=.ok (.enter f args) w)(hF:Ap P f lo bC own enc ok fin)
  {fD:Env}(eY:Le F env U fD (own++R []))(hg:fD.op g=some (.fn (.func f) [] bC))(E0:pl.all (fun p=>Nat.blt p F.N)=true)(hlen:∀x,(enc x).length=pl.length)
  (he:qS (fun i=>S.contains i) fD cc)(rA:F.ps.all (fun i=>S.contains i)=true)
  (hS:∀pre,S.all (R pre).has=true)(Jp:∀j o,Xs j o→S.all o.has=true)
  (aj:∀pre i o,(R pre).get i=some o→o.okB (R pre).has=true)(Rf:∀j o,Xs j o→∀i x,o.get i=some x→x.okB o.has=true)
  (wC:∀pre i,(lo≤i∧i<lo+100)∨i=aK→(R pre).get i=none)(QT:∀j o,Xs j o→∀i,(lo≤i∧i<lo+100)∨i=aK→o.get i=none)
  (JN:¬(lo≤aK∧aK<lo+100))(kI:own.get aK=none)
  (round:∀pre x,ok (pre++[x])→J P ⟨F.N,aK::S,true,none⟩ [assign] (Nv P ⟨F.N,aK::S,true,none⟩ aK ⟨pl.toArray,assign,body,F.N⟩ cc ((aK,.lp .ready none ⟨pl.toArray,assign,body,F.N⟩ cc)::R (pre++[x])) Xs) (zV cc pl (enc x)) ((aK,.lp .ready none ⟨pl.toArray,assign,body,F.N⟩ cc)::R pre))
  (done:∀xs,fin xs→J P F cs Q cc (R xs))(stop:∀j o,Xs j o→aly Q cc j o):
  J P F (.rangeFunc g pl.toArray assign body::cs) Q env U:=by
 have ZS:∀C a w,St F C env U a w→Code.wpIn (fz C.ro) 0 P (.rangeFunc g pl.toArray assign body) (fun e a' w'=>∃aQ am,jS (od P F cs Q) Q e aQ am∧St F C aQ am a' w') a w:=by
  intro C a w hs0;obtain⟨ρ,hs⟩:=eY.out C a w hs0;have Kb:C.ro=none:=hs.rd Bv;have yE:=tz hs.env g _ hg;obtain⟨us,vs,e1,e2,e3⟩:=PO yE;have m7:us=#[]:=by simp only[Vs]at e2;exact Array.toList_eq_nil_iff.1 e2
  subst m7
  let s:vK:=⟨pl.toArray,assign,body,F.N⟩
  let B:List α→ae:=fun pre=>(aK,.lp .ready none s cc)::R pre
  have hgB:∀(o:Ob)(r:ae) i,ae.get ((aK,o)::r) i=if aK=i then some o else r.get i:=fun o r i=>ae.bf ..
  rw[Kb];refine wpIn_rangeFunc fun fn _=>?_
  let w1:=w.alloc (.deferred (some []))
  let w2:=w1.alloc (.loop {state:=.ready,pending:=none,fn,tmps:=a.tmps,params:=pl.toArray,assign,body,defers:=w.heap.size})
  have s2:w1.heap.size=w.heap.size+1:=by simp[w1]
  have hw2:w.heap.size<w2.heap.size:=by
   have:w2.heap.size=w1.heap.size+1:=by simp[w2]
   omega
  -- the world with the block for deferred calls, then with the record
  have oB:Tr C.O w ρ (own++R []) w1 ρ (own++R []):=by
   refine Tr.oK ⟨by omega,fun b hb=>?_,rfl,rfl,gV.eq rfl rfl⟩ hs.tr.ok;show(w.heap.push _)[b]?=_;rw[Array.getElem?_push,if_neg zO]
  let l:Loc:=⟨w1.heap.size,0,0⟩
  have bY:ae.get (own++R []) aK=none:=by
   rw[ae.get_append,kI];exact wC [] aK (.inr rfl)
  have kJ:Tr C.O w1 ρ (own++R []) w2 (cm ρ aK l) ((aK,.lp .ready none s cc)::(own++R [])):=by
   refine Tr.born oB.ok bY _ rfl (fun i x h _=>h) (fun i h=>h) (fun hk=>⟨fn,a.tmps,w.heap.size,?_,hs.size,fun t d hd=>?_⟩)
   ·exact World.alloc_heap_new w1 _
   ·exact V.mono hk (vB l (oB.ok.fresh aK bY)) d _ (oB.V (hs.env t d (he.sound t d hd).1))
  have yW:=oB.trans kJ;have Bc:∀i,ae.get ((aK,.lp .ready none s cc)::(own++R [])) i=ae.get (own++B []) i:=by
   intro i;rw[ae.bf,ae.get_append,ae.get_append];by_cases e:aK=i
   ·subst e;simp[kI,B,ae.bf]
   ·rw[if_neg e];cases own.get i with
    |some z=>rfl
    |none=>simp[B,ae.bf,e]
  have aeC:cF w2 C.O (cm ρ aK l) (own++B []):=yW.ok.congr Bc;have EU:∀b,Ot C.O (cm ρ aK l) (own++B []) b→Ot C.O (cm ρ aK l) ((aK,.lp .ready none s cc)::(own++R [])) b:=fun b hb=>(Ot.congr Bc b).2 hb;have aee:Vs w2 (Ot C.O (cm ρ aK l) (own++B [])) (cm ρ aK l) bC vs.toList:=
   Vs.mono (Kept.fa EU) (bI.refl _) _ _ (Vs.mono yW.kept yW.le _ _ e3)
  have Q9:∀i,i∈S→i≠aK:=by
   intro i hi e;have h1:=List.all_eq_true.1 (hS []) i hi;rw[e,ae.has,wC [] aK (.inr rfl)]at h1;cases h1
  have Y:Au P lo aK l.b (aK::S) B (GH aK s cc Xs) enc ok:=by
   have Qy:∀(o:Ob)(r:ae),S.all r.has=true→(aK::S).all (ae.has ((aK,o)::r))=true:=by
    intro o r hr;rw[List.all_eq_true]at hr⊢;intro i hi;rcases List.mem_cons.1 hi with rfl|hi
    ·simp[ae.has,ae.bf]
    ·have:=hr i hi;simp only[ae.has,ae.bf]at this⊢;split
     ·rfl
     ·exact this
   have okE:∀(o:ae),S.all o.has=true→∀st pe,(Ob.lp st pe s cc).okB o.has=true:=by
    intro o ho st pe;show D.okB.fg o.has (cc.map (·.2))=true;have:=he.fg;exact D.r4 _ (fun i hi=>List.all_eq_true.1 ho i (by simpa using hi)) this
   have TL:∀(o:Ob)(r:ae) i,r.has i=true→ae.has ((aK,o)::r) i=true:=by
    intro o r i hi;simp only[ae.has,ae.bf]at hi⊢;split
    ·rfl
    ·exact hi
   have UB:∀st pe(r:ae),S.all r.has=true→(∀i x,r.get i=some x→x.okB r.has=true)→∀i x,ae.get ((aK,.lp st pe s cc)::r) i=some x→x.okB (ae.has ((aK,.lp st pe s cc)::r))=true:=by
    intro st pe r hr ho i x hx;rw[ae.bf]at hx;by_cases e:aK=i
    ·rw[if_pos e]at hx;cases hx;exact Ob.zF (TL _ r) (okE r hr st pe)
    ·rw[if_neg e]at hx;exact Ob.zF (TL _ r) (ho i x hx)
   have PX:∀(o:Ob)(r:ae),(∀i,(lo≤i∧i<lo+100)∨i=aK→r.get i=none)→∀i,lo≤i→i<lo+100→ae.get ((aK,o)::r) i=none:=by
    intro o r hr i h1 h2;rw[ae.bf,if_neg (fun e:aK=i=>JN zO)];exact hr i (.inl ⟨h1,h2⟩)
   refine⟨List.mem_cons_self,fun pre=>Qy _ _ (hS pre),?_,fun pre=>UB _ _ _ (hS pre) (aj pre),?_,fun pre=>PX _ _ (wC pre),?_,fun pre x hx=>?_⟩
   ·rintro o ⟨j,Rx,hx,rfl⟩;exact Qy _ _ (Jp j Rx hx)
   ·rintro o ⟨j,Rx,hx,rfl⟩;exact UB _ _ _ (Jp j Rx hx) (Rf j Rx hx)
   ·rintro o ⟨j,Rx,hx,rfl⟩;exact PX _ _ (QT j Rx hx)
   ·exact akC rfl rfl E0 (hlen x) List.mem_cons_self (round pre x hx)
  refine⟨w.heap.size+1,[⟨.collected w.heap.size,#[]⟩],w2,⟨.fn (.func f) vs,#[]++#[.func (.yield (w.heap.size+1)) #[] #[]]⟩,w2,f,(Value.func (.yield l.b) #[] #[]::vs.toList).toArray,w2,run_enterLoop_outer fn a.tmps pl.toArray assign body,?_,fun _ _=>trivial,?_,fun e=>by simp[fz,Fence.wide]at e,?_⟩
  ·have hm:Array.map a.eval #[Operand.const (Value.func (Fn.yield (w.heap.size+1)) #[] #[])]=#[Value.func (.yield (w.heap.size+1)) #[] #[]]:=by simp[Act.eval]
   rw[resolve];simp only[rangeCall,e1,Deferred.ofValue,hm,Sem.run_pure]
  ·have:(#[]++#[Value.func (.yield (w.heap.size+1)) #[] #[]]++vs:Array Value)=(Value.func (.yield l.b) #[] #[]::vs.toList).toArray:=by
    apply Array.ext';simp[l,s2]
   show(callFunc f (#[]++#[Value.func (.yield (w.heap.size+1)) #[] #[]]++vs)).run P w2=_;rw[this,fc]
  ·refine callsIn_wide.2 (Calls.mono (hF.out aK l.b (aK::S) B _ Y w2 C.O (cm ρ aK l) vs.toList l (kq ..) rfl aeC (hs.wk.mono (yW.kept.trans (Kept.fa EU))) aee) ?_);rintro e w3 ⟨v,av,o,rfl,ho,yX,pD⟩;have y1:av aK=some l:=pD aK List.mem_cons_self l (kq ..)
   -- the whole way from w to w3
   have dW:gz C.O w ρ (own++R []) w3 av o:=yW.vv.trans (yX.ZH fun i=>(Bc i).symm);have pF:Marks C.w0.heap.size w3 (Ot C.O av o) (⟨.collected w.heap.size,#[]⟩::a.defers):=by
    have aez:Marks C.w0.heap.size w2 (Ot C.O (cm ρ aK l) (own++B [])) (⟨.collected w.heap.size,#[]⟩::a.defers):=by
     have yP:=yW.vv.marks hs.marks;refine⟨fun d hd=>?_,List.pairwise_cons.2 ⟨fun d hd r hr e=>?_,yP.apart⟩⟩
     ·rcases List.mem_cons.1 hd with rfl|hd
      ·refine⟨w.heap.size,rfl,hs.tr.size,hw2,?_,?_⟩
       ·intro hb;rcases EU _ hb with hb|hb
        ·have:=hs.tr.ok.lt _ hb;omega
        ·rcases kJ.new _ hb with hb|hb
         ·have:=(hs.tr.ok.block hb).1;omega
         ·omega
       ·show((w.heap.push _).push _)[w.heap.size]?=_;simp[Array.getElem?_push]
      ·obtain⟨r,g1,g2,g3,g4,g5⟩:=yP.at_ d hd;exact⟨r,g1,g2,g3,fun hb=>g4 (EU _ hb),g5⟩
     ·obtain⟨r',g1,_,g3,_⟩:=hs.marks.at_ d hd;subst e;cases hr;simp only[Deferred.mk.injEq,Target.collected.injEq,and_true]at g1;omega
    exact yX.marks aez
   -- what every end has in common
   have PD:∀(st:LoopState)(pe:Option Code)(Ro:ae),o=(aK,.lp st pe s cc)::Ro→st≠.busy→S.all Ro.has=true→(∀i x,Ro.get i=some x→x.okB Ro.has=true)→(∀i,(lo≤i∧i<lo+100)∨i=aK→Ro.get i=none)→
     ∃w4,(Instr.endLoop l.b).run P w3=.ok pe w4∧St F C cc Ro {a with defers:=⟨.collected w.heap.size,#[]⟩::a.defers} w4:=by
    intro st pe Ro hoe aP Qw aeE QV;subst hoe;have eS:ae.get ((aK,Ob.lp st pe s cc)::Ro) aK=some (.lp st pe s cc):=by simp[ae.get]
    obtain⟨l',g1,g2,PN,WF,Oy,g3,g4,g5⟩:=yX.ok.own aK _ eS rfl;rw[y1]at g1;cases g1;refine⟨_,run_endLoop g3 aP,?_⟩;have Kd:∀i x,Ro.get i=some x→ae.get ((aK,.lp st pe s cc)::Ro) i=some x∧x.okB Ro.has=true:=by
     intro i x hx;refine⟨?_,aeE i x hx⟩;rw[ae.bf,if_neg (fun e=>by rw[←e,QV aK (.inr rfl)]at hx;cases hx)];exact hx
    have Qu:∀b,b8 (cv Ro.has av) Ro b→b8 av ((aK,.lp st pe s cc)::Ro) b:=by
     rintro b ⟨i,x,l',k1,k2,k3,k4⟩;exact⟨i,x,l',(Kd i x k1).1,k2,po k3,k4⟩
    have Bp:∀b,b8 (cv Ro.has av) Ro b→b≠l.b:=by
     rintro b ⟨i,x,l',k1,k2,k3,k4⟩ e;have:=yX.ok.inj i aK x _ l' l (Kd i x k1).1 eS k2 rfl (po k3) y1 (k4.trans e);rw[this,QV aK (.inr rfl)]at k1;cases k1
    have J2:=yX.ok.sub Kd;have hk4:Kept w3 (Ot C.O (cv Ro.has av) Ro) (w3.putObj l.b (.loop ⟨.exhausted,pe,PN,WF,s.ps,s.assign,s.body,Oy⟩)) (Ot C.O (cv Ro.has av) Ro):=by
     refine⟨by simp,fun b hb wK=>⟨fun o e hs=>World.putObj_heap_other (fun e'=>?_),wK⟩⟩;rw[e',g3]at e;cases e;cases hs
    have Rv:gz C.O w ρ (own++R []) (w3.putObj l.b (.loop ⟨.exhausted,pe,PN,WF,s.ps,s.assign,s.body,Oy⟩)) (cv Ro.has av) Ro:=by
     refine⟨by simpa using dW.size,fun b hb wK=>?_,fun b hb=>dW.new b (Qu b hb),⟨fun b hb=>by simpa using yX.ok.lt b hb,J2.fresh,fun i x k1 k2=>?_,J2.inj⟩,dW.os⟩
     ·rw[World.putObj_heap_other (fun e=>by have:l.b=w.heap.size+1:=s2;omega)];exact dW.same b hb wK
     ·obtain⟨l',k3,k4,k5⟩:=J2.own i x k1 k2;exact⟨l',k3,k4,k5.mono hk4 (bI.refl _) (World.putObj_heap_other (Bp _ ⟨i,x,l',k1,k2,k3,rfl⟩))⟩
    refine⟨cv Ro.has av,fun i hi l' yJ=>?_,hs.tr.trans Rv,fun t d hd=>?_,hs.size,?_,hs.rd,hs.yl,hs.gl⟩
    ·have JL:i∈S:=by simpa using List.all_eq_true.1 rA i hi
     have hr:cm ρ aK l i=some l':=by rw[o9 (Q9 i JL)];exact hs.keep i hi l' yJ
     have:=List.all_eq_true.1 Qw i JL;simp[cv,this,pD i (List.mem_cons_of_mem _ JL) l' hr]
    ·obtain⟨k1,k2⟩:=he.sound t d hd;refine V.mono Rv.kept ?_ _ _ (V.cut d _ k2 (hs.env t d k1));intro j lj kH;unfold cv at kH;split at kH
     ·rename_i hj;have JQ:j∈S:=by simpa using hj
      have hr:cm ρ aK l j=some lj:=by rw[o9 (Q9 j JQ)];exact kH
      have:=List.all_eq_true.1 Qw j JQ;simp[cv,this,pD j (List.mem_cons_of_mem _ JQ) lj hr]
     ·cases kH
    ·have JX:Marks C.w0.heap.size w3 (Ot C.O (cv Ro.has av) Ro) (⟨.collected w.heap.size,#[]⟩::a.defers):=pF.mono (Nat.le_refl _) (fun b _ wK=>⟨rfl,fun g=>wK (g.imp _root_.id (Qu b))⟩);refine⟨fun d hd=>?_,JX.apart⟩;obtain⟨r,k1,k2,k3,k4,k5⟩:=JX.at_ d hd;refine⟨r,k1,k2,by simpa using k3,k4,?_⟩;rw[World.putObj_heap_other (fun e=>by rw[e,g3]at k5;cases k5)];exact k5
   have Rm:rangePost Fence.wide 0 P l.b (fun e a' w'=>∃aQ am,jS (od P F cs Q) Q e aQ am∧St F C aQ am a' w') {a with defers:=⟨.collected w.heap.size,#[]⟩::a.defers} (.returned v) w3:=by
    rcases ho with⟨xs,hfx,rfl⟩|⟨j,Rx,hx,rfl⟩
    ·obtain⟨w4,k1,k2⟩:=PD .ready none (R xs) rfl zS (hS xs) (aj xs) (wC xs);exact⟨none,w4,k1,cc,R xs,(done xs hfx).out,k2⟩
    ·obtain⟨w4,k1,k2⟩:=PD .done (some j) Rx rfl zS (Jp j Rx hx) (Rf j Rx hx) (QT j Rx hx);refine⟨some j,w4,k1,?_⟩;have aP:=stop j Rx hx;cases j with
     |ret=>exact wpIn_ret ⟨cc,Rx,aP,k2⟩
     |exit id=>exact wpIn_exit ⟨cc,Rx,aP,k2⟩
     |_=>exact aP.elim
   have mq:l.b=w.heap.size+1:=s2;rw[mq]at Rm;exact Rm
 exact⟨⟨ZS⟩⟩
end Go.T
