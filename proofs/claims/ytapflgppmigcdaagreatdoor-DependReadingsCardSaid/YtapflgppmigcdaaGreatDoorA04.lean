/- Contracts of functions that the statement reaches, and the logic in which they are proved (no condition). -/
import Derived.Test.YtapflgppmigcdaaGreatDoorA03
import Derived.Laws.StructEq
import Derived.Laws.Runes
set_option linter.all false
set_option maxRecDepth 20000
namespace Go.T
open Go
variable[bX]
def acW{c:List Value}{off len p:Nat}{us:List Value}(h:p+us.length<=len)(h2:off+len<=c.length):
  ((c.take (off+p)++us++c.drop (off+p+us.length)).drop off).take len=((c.drop off).take len).take p++us++((c.drop off).take len).drop (p+us.length):=by
 apply F0;intro i;simp only[Er,Ir,List.getElem?_append,bl,uB,z1];grind
theorem TM{sz:Nat}:∀(rows:List (List D)),(∀r∈rows,r.length=sz)->rows.flatten.length=rows.length*sz
 |[],_=>by simp
 |r::rows,h=>by
  have:=TM rows (fun r hr=>h r (cC _ hr));simp only[fW,bl,this,h r c7,bD,dO,qA];omega
theorem TN{sz k m:Nat}{ds:List D}:∀(rows:List (List D))(j:Nat)(r r':List D),(∀r∈rows,r.length=sz)->rows[j]?=some r->r'=r.take k++ds++r.drop (k+m)->k+m<=sz->
  (rows.set j r').flatten=rows.flatten.take (j*sz+k)++ds++rows.flatten.drop (j*sz+k+m)
 |[],j,r,r',_,h,_,_=>by simp at h
 |q::rows,0,r,r',hl,h,e,hk=>by
  simp only[jH,cH]at h;subst h;have hq:=hl q c7;simp only[oG,fW,xW,mD];rw[wI zO,wH zO,e];simp
 |q::rows,j+1,r,r',hl,h,e,hk=>by
  have hq:=hl q c7;have ih:=TN rows j r r' (fun r hr=>hl r (cC _ hr)) (by simpa using h) e hk;simp only[Im,fW,ih];have e1:(j+1)*sz+k=q.length+(j*sz+k):=by rw[hq,dO];omega
  have e2:(j+1)*sz+k+m=q.length+(j*sz+k+m):=by rw[hq,dO];omega
  rw[e2,e1,List.drop_length_add_append,List.take_length_add_append];simp
theorem Vr.lens{w:World}{O:Nat->Prop}{b sz:Nat}:∀(rs:List (List D))(off:Nat),Vr w O b off sz rs->∀r∈rs,r.length=sz
 |[],_,_=>by simp
 |r::rs,off,h=>by
  simp only[Vr]at h;intro r' hr;rcases cr.1 hr with rfl|hr
  ·exact h.1.1
  ·exact Vr.lens rs _ h.2 r' hr
theorem Vr.set{w w':World}{O O':Nat->Prop}{b sz off k:Nat}{c:Array Value}{T:TypeId}{rows:List (List D)}{us:List Value}{cs:List D}(hb:w.heap[b]?=some (.cells c T (0,0)))(hv:Vr w O b off sz rows)(hk:Kept w O w' O')
  (bb:off+rows.length*sz<=c.size)(j:Nat)(r r':List D)(hj:rows[j]?=some r)(mP:r'=r.take k++cs++r.drop (k+cs.length))(uS:k+cs.length<=sz)(k8:Vs w O dZ cs us)(h1:∀u∈us,u.oneCell'=true)
  (rN:w'.heap[b]?=some (.cells (setMany c (off+(j*sz+k)) us) T (0,0))):Vr w' O' b off sz (rows.set j r'):=by
 have hl:=hv.lens;have jd:=TM rows hl;obtain⟨h2,h3⟩:=hv.flat;obtain⟨h4,h5,_⟩:=Vc.JE hb _ _ h2;have jr:=k8.length;have Vf:j<rows.length:=(cI.1 hj).1;have M1:j*sz+sz<=rows.length*sz:=by
  have:=dd sz (show j+1<=rows.length by omega);rw[dO]at this;omega
 have Hv:=TN (ds:=cs) rows j r r' hl hj mP uS;have Vj:(rows.set j r').flatten.length=rows.flatten.length:=by
  rw[Hv];simp only[bl,uB,z1];omega
 have wO:c.toList.length=c.size:=by simp
 have mN:=acW (c:=c.toList) (off:=off) (len:=rows.flatten.length) (p:=j*sz+k) (us:=us) zO zO;have Nk:=Cm us c (off+(j*sz+k)) zO;refine Vr.sh rN _ _ ?_ ?_ ?_
 ·intro q hq;rcases List.mem_or_eq_of_mem_set hq with hq|rfl
  ·exact hl q hq
  ·have:=hl r (dj hj);rw[mP];simp only[bl,uB,z1];omega
 ·rw[Vj,Nk,<-l6,l6 off,mN,Hv,jr];exact Vs.mono hk (bN.refl _) _ _ (((h4.take _).append k8).append (h4.drop _))
 ·rw[Vj,Nk,<-l6,l6 off,mN];intro v hv;simp only[cM]at hv;rcases hv with(hv|hv)|hv
  ·exact h5 v (tE hv)
  ·exact h1 v hv
  ·exact h5 v (B3 hv)
section
variable{P:Program} {env:Env} {dst:Option Tmp} {ty:TypeId} {pos:String} {ar:Array Edge} {g:Option (Nat×Bool)}
def ca{t e:TypeId}{x y:Operand}{id n sz off:Nat}{k:IntKind}{i:Int}(hu:P.underlying t=some (.slice e))(hs:∀w,(sizeOf e).run P w=.ok sz w)(hx:env.op x=some (.gs id n))(hy:env.op y=some (.raw (.int k i)))(h0:0<=i)(hi:i.toNat<n)(ho:i.toNat*sz=off)(Z:ae):
  aq P ⟨dst,.indexAddr t x y,ty,pos,ar,g⟩ env Z (.pR id off) Z:=
 .val fun _ _ a w _ hv=>by
  have h1:=hv x (by simp[Op.operands]) _ hx;have h2:=hv y (by simp[Op.operands]) _ hy;simp only[V]at h1 h2;rcases h1 with⟨h1,_⟩|⟨_,l,h3,h4⟩
  ·omega
  ·refine⟨.pointer (some ⟨l.b,l.off+off,none⟩),?_,?_⟩
   ·have h8:i<(n:Int):=by omega
    simp[execOp,Instr.indexAt,h4,h2,asIntOf,bW hu,h0,h8,hs,addr_add,ho]
   ·simp only[V];exact⟨l,h3,rfl⟩
def fG{t:TypeId}{x:Operand}{id off sz:Nat}{rows:List (List D)}{r:List D}{d:D}{Z:ae}(j k:Nat)(ht:∀w,(isAgg t).run P w=.ok false w)(hx:env.op x=some (.pR id off))(ho:Z.get id=some (.arr sz rows))(M9:off=j*sz+k)(hr:rows[j]?=some r)(hd:r[k]?=some d):
  aq P ⟨dst,.load t x,ty,pos,ar,g⟩ env Z d Z:=
 .val fun O ρ a w ai hv=>by
  have h1:=hv x (by simp[Op.operands]) _ hx;simp only[V]at h1;obtain⟨l,h2,e⟩:=h1;have eS:(Ob.arr sz rows).live=true:=by
   cases rows with
   |nil=>simp at hr
   |cons=>rfl
  obtain⟨l',h3,_,c,T,h4,_,_,h5⟩:=ai.own id _ ho eS;rw[h2]at h3;cases h3;obtain⟨h6,h7⟩:=h5.get _ _ j r hr;obtain⟨v,h8,h9⟩:=h7.get _ _ k d hd;subst M9;rw[l6]at h8;exact⟨v,by simp[execOp,Instr.loadAt,e,Instr.sureAddr,loadVar,ht,h8],h9.E4⟩
def ic{t:TypeId}{x y:Operand}{id off sz:Nat}{rows:List (List D)}{r:List D}{d:D}{Z:ae}(j k:Nat)(hs:∀w,(sizeOf t).run P w=.ok 1 w)(hx:env.op x=some (.pR id off))(hy:env.op y=some d)(h1:d.one=true)(hp:d.bw=true)(ho:Z.get id=some (.arr sz rows))(M9:off=j*sz+k)(hr:rows[j]?=some r)(hk:k<r.length):
  aq P ⟨dst,.store t x y,ty,pos,ar,g⟩ env Z (.raw undef) (Z.set id (.arr sz (rows.set j (r.set k d)))):=
 .step fun O ρ a w ai hv=>by
  have iL:=hv x (by simp[Op.operands]) _ hx;have mR:=hv y (by simp[Op.operands]) _ hy;simp only[V]at iL;obtain⟨l,h2,e⟩:=iL;have hj:j<rows.length:=(cI.1 hr).1;have eS:(Ob.arr sz rows).live=true:=by
   cases rows with
   |nil=>simp at hj
   |cons=>rfl
  obtain⟨l',h3,_,c,T,h4,hc,fQ,h5⟩:=ai.own id _ ho eS;rw[h2]at h3;cases h3;subst M9;have VC:=(h5.get _ _ j r hr).1;have M1:j*sz+sz<=rows.length*sz:=by
   have:=dd sz (show j+1<=rows.length by omega);rw[dO]at this;omega
  have hrc:rows.length*sz<=l.cap*sz:=dd sz fQ.1;have h6:=vP (P:=P) [a.eval y] w c (l.off+(j*sz+k)) 0 h4 zQ (by simpa using mR.one h1);refine⟨undef,_,ρ,.inr ⟨?_,rfl⟩,Tr.cn (o':=.arr sz (rows.set j (r.set k d))) ai ho eS h2 (.cells (setMany c (l.off+(j*sz+k)+0) [a.eval y]) T (0,0)) ?_,by simp[V]⟩
  ·simp[execOp,Instr.storeAt,e,Instr.sureAddr,storeVar,cells_one (mR.one h1),hs,h6]
  ·intro uR;refine⟨setMany c (l.off+(j*sz+k)) [a.eval y],T,by simp[(bH.1 h4).1],by rw[E_];exact hc,by simpa using fQ,?_⟩;exact Vr.set (k:=k) (cs:=[d]) h4 h5 uR zO j r _ hr (by simp[List.set_eq_take_append_cons_drop,hk]) zQ (by simp only[Vs];exact⟨_,_,rfl,V.pure _ _ hp mR,rfl⟩) (by simpa using mR.one h1) (by simp[(bH.1 h4).1])
inductive wj(P:Program):List Field->Nat->Prop
 |nil (k:Nat):wj P [] k
 |cons {f:Field} {fs:List Field} {k:Nat} (hn:(f.name== "_")=false) (hu:P.underlying f.type=some .string) (ha:∀w,(isAgg f.type).run P w=.ok false w) (ho:f.offset=k) (r:wj P fs (k+1)):wj P (f::fs) k
def SV{P:Program}{d:Nat}{xs ys:List aa}{fs:List Field}{k:Nat}(h:wj P fs k)(hx:k+fs.length=xs.length)(hy:k+fs.length=ys.length)(w:World):
  (Op.eqFields (d+1) (xs.map fun s=>Value.string ⟨s.toArray⟩).toArray (ys.map fun s=>Value.string ⟨s.toArray⟩).toArray fs).run P w=.ok (decide (xs.drop k=ys.drop k)) w:=by
 induction h with
 |nil k=>
  simp only[hG,pL]at hx hy;rw[iP zO,iP zO];simp[Op.eqFields]
 |@cons f fs k hn hu ha ho r ih=>
  simp only[bD]at hx hy;have ih:=ih zO zO;have h1:k<xs.length:=by omega
  have h2:k<ys.length:=by omega
  have yw:decide (xs.drop k=ys.drop k)=(decide (xs[k]=ys[k])&&decide (xs.drop (k+1)=ys.drop (k+1))):=by
   rw[ju h1,ju h2];simp only[l_,KU]
  rw[yw];have th:f.name≠ "_":=by simpa using hn
  simp only[Op.eqFields,th,ne_eq,IB,mX,Sem.run_bind,part,ha,Result.andThen_ok,gM,pb,ho];simp only[GJ,fR,eu h1,eu h2,jk,Sem.run_pure,Result.andThen_ok,run_equalIn_string _ _ _ _ _ hu,xF];by_cases e:xs[k]=ys[k]
  ·simp only[e,BEq.rfl,zh,gM,pb,C7,oL];exact ih
  ·have:(xs[k]==ys[k])=false:=by simpa using e
   simp only[this,BB,mX,Sem.run_pure,e,BL,zT]
theorem Cy{w:World}{O:Nat->Prop}{ρ:aA}:∀{ss:List aa}{vs:List Value},Vs w O ρ (ss.map D.str) vs->vs=ss.map fun s=>Value.string ⟨s.toArray⟩
 |[],vs,h=>by simpa[Vs]using h
 |s::ss,vs,h=>by
  simp only[cP,Vs,V]at h;obtain⟨u,us,rfl,h1,h2⟩:=h;rw[h1.1,Cy h2];rfl
def ZE{op:BinOp}{t t':TypeId}{x y:Operand}{xs ys:List aa}{fs:List Field}(A6:op=.eql\/op=.neq)(hu:P.underlying t=some (.struct fs.toArray))(hp:P.stoodInHeld t=false)(hg:P.eqGuardType P.depth t=false)(hf:wj P fs 0)(wT:xs.length=fs.length)(wU:ys.length=fs.length)
  (hx:env.op x=some (.agg (xs.map D.str)))(hy:env.op y=some (.agg (ys.map D.str)))(Z:ae):aq P ⟨dst,.binOp op t x y t',ty,pos,ar,g⟩ env Z (.raw (.bool (if op=.eql then decide (xs=ys)else !decide (xs=ys)))) Z:=
 .val fun _ _ a w _ hv=>by
  have h1:=hv x (by simp[Op.operands]) _ hx;have h2:=hv y (by simp[Op.operands]) _ hy;simp only[V]at h1 h2;obtain⟨us,e1,h1⟩:=h1;obtain⟨vs,e2,h2⟩:=h2;have h1:=Cy h1;have h2:=Cy h2;have h_:P.fieldsOf t=fs.toArray:=by simp[Program.fieldsOf,hu]
  have h3:=run_equalIn_struct (P:=P) w 9999 t us vs (by rw[h_];exact hu) hp;have h4:us=(xs.map fun s=>Value.string ⟨s.toArray⟩).toArray:=by rw[<-h1]
  have h5:vs=(ys.map fun s=>Value.string ⟨s.toArray⟩).toArray:=by rw[<-h2]
  have h6:=SV (d:=9998) hf (xs:=xs) (ys:=ys) zO zO w;rw[h_]at h3;simp only[h4,h5]at h3 e1 e2;simp only[uH]at h6;refine⟨.bool (if op=.eql then decide (xs=ys)else !decide (xs=ys)),?_,by simp only[V]⟩;rcases A6 with rfl|rfl
  ·simp[execOp,e1,e2,run_eqGuard_agg _ _ _ _ _ _ _ hg,run_eql_struct,h3,h6]
  ·simp[execOp,e1,e2,run_eqGuard_agg _ _ _ _ _ _ _ hg,run_neq_struct,h3,h6]
def zx{t t':TypeId}{x y:Operand}{xs ys:List aa}{fs:List Field}{ds es:List D}(hu:P.underlying t=some (.struct fs.toArray))(hp:P.stoodInHeld t=false)(hg:P.eqGuardType P.depth t=false)(hf:wj P fs 0)(wT:xs.length=fs.length)(wU:ys.length=fs.length)
  (hx:env.op x=some (.agg ds))(hy:env.op y=some (.agg es))(hd:ds=xs.map D.str)(he:es=ys.map D.str)(Z:ae):aq P ⟨dst,.binOp .eql t x y t',ty,pos,ar,g⟩ env Z (.raw (.bool (decide (xs=ys)))) Z:=by
 subst hd;subst he;exact ZE (.inl rfl) hu hp hg hf wT wU hx hy Z
def oS{t t':TypeId}{x y:Operand}{xs ys:List aa}{fs:List Field}{ds es:List D}(hu:P.underlying t=some (.struct fs.toArray))(hp:P.stoodInHeld t=false)(hg:P.eqGuardType P.depth t=false)(hf:wj P fs 0)(wT:xs.length=fs.length)(wU:ys.length=fs.length)
  (hx:env.op x=some (.agg ds))(hy:env.op y=some (.agg es))(hd:ds=xs.map D.str)(he:es=ys.map D.str)(Z:ae):aq P ⟨dst,.binOp .neq t x y t',ty,pos,ar,g⟩ env Z (.raw (.bool (!decide (xs=ys)))) Z:=by
 subst hd;subst he;exact ZE (.inr rfl) hu hp hg hf wT wU hx hy Z
def PC{s t:TypeId}{x:Operand}{k:IntKind}{n:Int}{c:UInt8}{u:TypeDesc}(hs:P.underlying s=some u)(ht:P.underlying t=some .string)(hx:env.op x=some (.raw (.int k n)))(h0:0<=n)(h1:n<128)(hc:UInt8.ofNat n.toNat=c)(Z:ae):
  aq P ⟨dst,.convert s t x,ty,pos,ar,g⟩ env Z (.str [c]) Z:=
 .val fun _ _ a w _ hv=>⟨.string ⟨#[c]⟩,by
  have h2:=hv x (by simp[Op.operands]) _ hx;simp only[V]at h2;have h3:Utf8.encode n=⟨#[c]⟩:=by
   have hv:Utf8.valid n=true:=by simp[Utf8.valid];omega
   have:n.toNat<128:=by omega
   simp[Utf8.encode,hv,this,hc]
  simp[execOp,h2,run_convert_int_string w s t k n (by rw[hs];rfl) ht,h3],by simp[V,aD]⟩
end
end Go.T
namespace Go.T
open Go
variable[bX]
def Vs.aqM{w:World}{O:Nat->Prop}{ρ:aA}{ds:List D}{vs:List Value}{i:Nat}{d d':D}(h:Vs w O ρ ds vs)(hi:ds[i]?=some d)(hd:∀v,V w O ρ d v->V w O ρ d' v):Vs w O ρ (ds.set i d') vs:=by
 obtain⟨v,h3,h4⟩:=h.get i _ hi;have h5:=Vs.set i h (hd v h4);have h6:vs.set i v=vs:=by
  obtain⟨hl,he⟩:=cI.1 h3;rw[<-he];exact List.set_getElem_self hl
 rwa[h6]at h5
def Jh{O:Nat->Prop}{w:World}{ρ:aA}{Z:ae}{k i:Nat}{ds:List D}{d d':D}(ai:cX w O ρ Z)(hk:Z.get k=some (.cells ds))(hi:ds[i]?=some d)
  (hd:∀v,V w (Ot O ρ Z) ρ d v->V w (Ot O ρ Z) ρ d' v):Tr O w ρ Z w ρ (Z.set k (.cells (ds.set i d'))):=by
 have UD:∀b,cj ρ (Z.set k (.cells (ds.set i d'))) b->cj ρ Z b:=by
  rintro b ⟨j,x,l,h1,h2,h3⟩;rw[ae.ej]at h1;by_cases e:k=j
  ·subst e;exact⟨k,_,l,hk,rfl,h3⟩
  ·rw[aF e]at h1;exact⟨j,x,l,h1,h2,h3⟩
 have j5:Kept w (Ot O ρ Z) w (Ot O ρ (Z.set k (.cells (ds.set i d')))):=Kept.fp fun b=>Or.imp _root_.id (UD b);refine⟨bN.refl _,dP _,fun _ _ _=>rfl,fun b hb=>.inl (UD b hb),⟨ai.lt,?_,?_,?_⟩,rfl,rfl,iE.eq rfl rfl⟩
 ·intro j hj;rw[ae.ej]at hj;by_cases e:k=j
  ·simp[e]at hj
  ·rw[aF e]at hj;exact ai.fresh j hj
 ·intro j x h1 h2;rw[ae.ej]at h1;by_cases e:k=j
  ·subst e;simp only[mX,cH]at h1;subst h1;obtain⟨l,h3,h4,vs,T,h5,h6⟩:=ai.own k _ hk rfl;exact⟨l,h3,h4,vs,T,h5,Vs.mono j5 (bN.refl _) _ _ (h6.aqM hi hd)⟩
  ·rw[aF e]at h1;obtain⟨l,h3,h4,h5⟩:=ai.own j x h1 h2;exact⟨l,h3,h4,h5.mono j5 (bN.refl _) rfl⟩
 ·intro a b x x' l1 l2 h1 h2 h3 h4 h5 h6 h7;have look:∀j y,(Z.set k (.cells (ds.set i d'))).get j=some y->y.live=true->∃y',Z.get j=some y'/\y'.live=true:=by
   intro j y hy hl;rw[ae.ej]at hy;by_cases e:k=j
   ·subst e;exact⟨_,hk,rfl⟩
   ·rw[aF e]at hy;exact⟨y,hy,hl⟩
  obtain⟨y,yR,hy2⟩:=look a x h1 h3;obtain⟨z,rX,Nv⟩:=look b x' h2 h4;exact ai.inj a b y z l1 l2 yR rX hy2 Nv h5 h6 h7
def Le.LZ{F:Fr}{env:Env}{Z:ae}{sz n:Nat}{rows:List (List D)}{ds:List D}(k i id:Nat)(hk:Z.get k=some (.cells ds))(hi:ds[i]?=some (.gs id n))(ho:Z.get id=some (.arr sz rows))(hn:rows.length=n):
  Le F env Z env ((Z.set id .dead).set k (.cells (ds.set i (.snap sz false rows)))):=.step fun O ρ w f ai hv=>by
 have h1:=Tr.die id ai;have aC:id≠k:=by rintro rfl;rw[hk]at ho;cases ho
 have h2:=Jh (d':=.snap sz false rows) h1.ok (k:=k) (ds:=ds) (by rw[ae.ej,aF aC];exact hk) hi (fun v h=>Df ai ho hn (by simpa only[V]using h));have h3:=h1.trans h2;exact⟨ρ,h3,fun t d h=>h3.V (hv t d h)⟩
def Le.Cf{F:Fr}{env:Env}{Z:ae}{sz n:Nat}{rows:List (List D)}{ds:List D}(k i id bh:Nat)(hk:Z.get k=some (.cells ds))(hi:ds[i]?=some (.gs id n))(ho:Z.get id=some (.arr sz rows))(hn:rows.length=n)(hid:Z.get bh=none):
  Le F env Z env (ae.set ((bh,.arr sz rows)::Z.set id .dead) k (.cells (ds.set i (.gs bh n)))):=.step fun O ρ w f ai hv=>by
 have aC:id≠k:=by rintro rfl;rw[hk]at ho;cases ho
 have Vp:bh≠k:=by rintro rfl;rw[hk]at hid;cases hid
 have fC:ae.get ((bh,.arr sz rows)::Z.set id .dead) k=some (.cells ds):=by
  rw[ae.bm,aF Vp,ae.ej,aF aC];exact hk
 cases rows with
 |nil=>
  subst hn;have h1:=Tr.Ji (id:=id) (bh:=bh) (sz:=sz) ai;have h2:=Jh (d':=.gs bh 0) h1.ok fC hi (fun v h=>by simpa[V]using h);have h3:=h1.trans h2;exact⟨ρ,h3,fun t d h=>h3.V (hv t d h)⟩
 |cons r rs=>
  obtain⟨l,h4,_⟩:=ai.own id _ ho rfl;have h1:=Tr.rename (id:=id) (bh:=bh) ai ho rfl hid h4;have h2:=Jh (d':=.gs bh n) h1.ok fC hi (fun v h=>by
   simp only[V]at h|-;rcases h with h|⟨h,l',h5,h6⟩
   ·exact .inl h
   ·have:=h1.le id l h4;rw[this]at h5;cases h5;exact .inr ⟨h,l,kn ..,h6⟩)
  have h3:=h1.trans h2;exact⟨_,h3,fun t d h=>h3.V (hv t d h)⟩
def Le.fp{F:Fr}{env:Env}{Z:ae}{ds:List D}{d d':D}(k i:Nat)(hk:Z.get k=some (.cells ds))(hi:ds[i]?=some d)(s:Sub d d'):Le F env Z env (Z.set k (.cells (ds.set i d'))):=.step fun O ρ w f ai hv=>by
 have h3:=Jh ai hk hi (fun v h=>s.out _ _ _ _ h);exact⟨ρ,h3,fun t d h=>h3.V (hv t d h)⟩
def Rd(P:Program)(fn:Func)(env:Env)(Z:ae)(r:D):Prop:=
 ∀(O:Nat->Prop)(ρ:aA)(tmps:Array Value)(w:World),cX w O ρ Z->(∀t d,env.get t=some d->V w (Ot O ρ Z) ρ d (tmps.getD t undef))->∃v,(results fn tmps).run P w=.ok v w/\V w (Ot O ρ Z) ρ r v
def rdQ(P:Program)(fn:Func)(r:D):Exit->Env->ae->Prop
 |.ret,env,Z|.normal,env,Z=>Rd P fn env Z r
 |_,_,_=>False
def Fc.jM{P:Program}{f:FuncId}{fn:Func}{c:Code}{args:List D}{r:D}(hf:P.funcs[f]?=some fn)(hb:fn.body=some c){N:Nat}(hN:fn.ntmps=N)(th:Nat.ble args.length N=true)(hp:D.bw.dT args=true)(hr:r.bw=true)
  (h':U P ⟨N,[],false,none⟩ [c] (rdQ P fn r) (mA args 0) []):Fc P f args r:=⟨fun w O ρ vals hO bY uW=>by
 have ce:∀b,¬cj dZ [] b:=fun b ⟨i,o,l,h1,_⟩=>by simp[ae.get]at h1
 have ai:cX w O dZ []:=⟨hO,fun _ _=>rfl,fun i o h1=>by simp[ae.get]at h1,fun i j o o' l l' h1=>by simp[ae.get]at h1⟩;have hv:Vs w (Ot O dZ []) dZ args vals:=Vs.mono (Kept.fp fun b hb=>hb.elim _root_.id (fun g=>(ce b g).elim)) (bN.refl _) _ _ (Vs.pure args vals hp uW);refine CK hf hb h'.start (St.begin fn.ntmps hN (nA th) ai (bY.mono (Kept.fp fun b hb=>hb.elim _root_.id (fun g=>(ce b g).elim))) hv [] none (fun _ _ e=>by cases e)) ?_ ?_
 ·intro e aY aj hq;cases e<;>first|exact .inl rfl|exact .inr rfl|exact hq.elim
 ·intro e aY aj tmps w' av hq _ aP wR;have:Rd P fn aY aj r:=by cases e<;>first|exact hq|exact hq.elim
  obtain⟨v,h1,h2⟩:=this _ _ _ _ aP.ok wR;refine⟨v,h1,v,rfl,?_,aP.size,fun b hb=>aP.same b hb (ce b),aP.os⟩;exact V.pure r _ hr (V.mono (O':=O) (Kept.fp fun b hb=>Or.inl hb) (bN.refl _) _ _ h2)⟩
section
variable{P:Program} {fn:Func} {env:Env} {Z:ae}
def Xc{O:Nat->Prop}{ρ:aA}{w:World}{ty:TypeId}{id n:Nat}{ds:List D}{u:Value}(ai:cX w O ρ Z)(ha:∀w,(isAgg ty).run P w=.ok true w)(hs:∀w,(sizeOf ty).run P w=.ok n w)(hn:ds.length=n)(ho:Z.get id=some (.cells ds))(hu:V w (Ot O ρ Z) ρ (.box id 0) u):
  ∃a v,u=.pointer (some a)/\(loadVar ty a).run P w=.ok v w/\V w (Ot O ρ Z) ρ (.agg ds) v:=by
 simp only[V]at hu;obtain⟨l,h2,e⟩:=hu;obtain⟨l',h3,_,vs,T,h4,h5⟩:=ai.own id _ ho rfl;rw[h2]at h3;cases h3;have hl:=h5.length;have h6:=Jo (P:=P) h4 n 0 0 #[] (by simp at hl;omega);refine⟨_,.agg ((vs.toList.drop 0).take n).toArray,e,?_,?_⟩
 ·simp[loadVar,ha,hs,loadCells,h6]
 ·simp only[V];refine⟨_,rfl,?_⟩;have:vs.toList.take n=vs.toList:=gZ zO;simpa[this]using h5
def Rd.cA{p:Tmp}{ty:TypeId}{id n:Nat}{ds:List D}{r:D}(h:fn.results=#[.cell p ty])(ha:∀w,(isAgg ty).run P w=.ok true w)(hs:∀w,(sizeOf ty).run P w=.ok n w)(hn:ds.length=n)(ht:env.get p=some (.box id 0))(ho:Z.get id=some (.cells ds))(s:Sub (.agg ds) r):Rd P fn env Z r:=by
 intro O ρ tmps w ai hv;obtain⟨a,v,e,h1,h2⟩:=Xc (P:=P) ai ha hs hn ho (hv p _ ht);have e':tmps[p]?.getD undef=.pointer (some a):=by simpa using e
 exact⟨v,by simp[results,h,e',asAddr,h1],s.out _ _ _ _ h2⟩
def Rd.FZ{p q:Tmp}{ty:TypeId}{id n:Nat}{ds:List D}{d r r':D}(h:fn.results=#[.cell p ty,.tmp q])(ha:∀w,(isAgg ty).run P w=.ok true w)(hs:∀w,(sizeOf ty).run P w=.ok n w)(hn:ds.length=n)(ht:env.get p=some (.box id 0))(ho:Z.get id=some (.cells ds))(hq:env.get q=some d)(s:Sub (.agg ds) r)(s':Sub d r'):Rd P fn env Z (.a_ [r,r']):=by
 intro O ρ tmps w ai hv;obtain⟨a,v,e,h1,h2⟩:=Xc (P:=P) ai ha hs hn ho (hv p _ ht);have e':tmps[p]?.getD undef=.pointer (some a):=by simpa using e
 refine⟨.tuple #[v,tmps.getD q undef],by simp[results,h,e',asAddr,h1],?_⟩;simp only[V];exact⟨_,rfl,by simp only[Vs];exact⟨_,_,rfl,s.out _ _ _ _ h2,_,_,rfl,s'.out _ _ _ _ (hv q _ hq),rfl⟩⟩
end
end Go.T
namespace Go.T
open Go
variable[bX]
theorem ae.get_append:∀(a b:ae)(i:Nat),ae.get (a++b) i=match a.get i with|some x=>some x|none=>b.get i
 |[],b,i=>by simp[ae.get]
 |(t,d)::r,b,i=>by
  rw[jF,ae.bm,ae.bm];by_cases h:t=i
  ·simp[h]
  ·rw[aF h,aF h];exact ae.get_append r b i
def ae.rest:ae->ae->ae
 |[],_=>[]
 |(t,d)::r,pre=>bif pre.has t then ae.rest r pre else(t,d)::ae.rest r pre
theorem ae.s3(pre:ae)(i:Nat):∀Z:ae,(Z.rest pre).get i=if pre.has i then none else Z.get i
 |[]=>by simp[ae.rest,ae.get]
 |(t,d)::r=>by
  simp only[ae.rest];cases h:pre.has t with
  |true=>
   rw[iX,ae.s3 pre i r,ae.bm];by_cases e:t=i
   ·subst e;simp[h]
   ·rw[aF e]
  |false=>
   rw[jh,ae.bm,ae.s3 pre i r,ae.bm];by_cases e:t=i
   ·subst e;simp[h]
   ·rw[aF e,aF e]
def ae.iW{Z:ae}{i:Nat}:Z.has i=true↔∃o,Z.get i=some o:=by
 unfold ae.has;cases Z.get i<;>simp
mutual
theorem D.BS:∀(d:D){f g:Nat->Bool},(∀i,f i=true->g i=true)->d.okB f=true->d.okB g=true
 |.any,_,_,_,_|.raw _,_,_,_,_|.str _,_,_,_,_|.snap _ _ _,_,_,_,_|.bj _,_,_,_,_|.pq _ _,_,_,_,_=>rfl
 |.agg ds,f,g,h,hd=>by simp only[D.okB]at hd|-;exact D.tV ds h hd
 |.a_ ds,f,g,h,hd=>by simp only[D.okB]at hd|-;exact D.tV ds h hd
 |.fn _ ax bs,f,g,h,hd=>by
  simp only[D.okB,bd]at hd|-;exact⟨D.tV ax h hd.1,D.tV bs h hd.2⟩
 |.box i _,f,g,h,hd|.gs i _,f,g,h,hd|.pR i _,f,g,h,hd|.cL i,f,g,h,hd|.sO i _ _,f,g,h,hd|.qg i _ _,f,g,h,hd|.gr i _,f,g,h,hd=>by simp only[D.okB]at hd|-;exact h i hd
theorem D.tV:∀(ds:List D){f g:Nat->Bool},(∀i,f i=true->g i=true)->D.okB.fM f ds=true->D.okB.fM g ds=true
 |[],_,_,_,_=>rfl
 |d::ds,f,g,h,hd=>by
  simp only[D.okB.fM,bd]at hd|-;exact⟨D.BS d h hd.1,D.tV ds h hd.2⟩
end
mutual
theorem D.OW:∀(d:D),d.okB (fun _=>true)=true
 |.any|.raw _|.str _|.snap _ _ _|.bj _|.box _ _|.gs _ _|.pR _ _|.cL _|.sO _ _ _|.qg _ _ _|.gr _ _|.pq _ _=>rfl
 |.agg ds=>by simp only[D.okB];exact D.BU ds
 |.a_ ds=>by simp only[D.okB];exact D.BU ds
 |.fn _ ax bs=>by simp only[D.okB,bd];exact⟨D.BU ax,D.BU bs⟩
theorem D.BU:∀(ds:List D),D.okB.fM (fun _=>true) ds=true
 |[]=>rfl
 |d::ds=>by simp only[D.okB.fM,bd];exact⟨D.OW d,D.BU ds⟩
end
def Ob.OW(o:Ob):o.okB (fun _=>true)=true:=by
 cases o<;>simp[Ob.okB,D.BU]
def ae.okB(f:Nat->Bool):ae->Bool
 |[]=>true
 |(_,o)::r=>o.okB f&&ae.okB f r
theorem ae.OV{f:Nat->Bool}:∀{Z:ae},Z.okB f=true->∀i o,Z.get i=some o->o.okB f=true
 |[],_,i,o,h=>by simp[ae.get]at h
 |(t,d)::r,h,i,o,hg=>by
  simp only[ae.okB,bd]at h;rw[ae.bm]at hg;by_cases e:t=i
  ·rw[aV e]at hg;cases hg;exact h.1
  ·rw[aF e]at hg;exact ae.OV h.2 i o hg
section
variable{w w':World} {O:Nat->Prop} {ρ av:aA} {Z pre post:ae}
def xr(eZ:∀i o,pre.get i=some o->Z.get i=some o)(b:Nat):cj ρ Z b↔cj (cQ pre.has ρ) pre b\/cj ρ (Z.rest pre) b:=by
 constructor
 ·rintro⟨i,o,l,h1,h2,h3,h4⟩;cases hp:pre.has i with
  |true=>
   obtain⟨o',Vq⟩:=ae.iW.1 hp;have:=eZ i o' Vq;rw[h1]at this;cases this;exact .inl ⟨i,o,l,Vq,h2,by simp[cQ,hp,h3],h4⟩
  |false=>exact .inr ⟨i,o,l,by rw[ae.s3,hp];exact h1,h2,h3,h4⟩
 ·rintro(⟨i,o,l,h1,h2,h3,h4⟩|⟨i,o,l,h1,h2,h3,h4⟩)
  ·exact⟨i,o,l,eZ i o h1,h2,qy h3,h4⟩
  ·rw[ae.s3]at h1;split at h1
   ·cases h1
   ·exact⟨i,o,l,h1,h2,h3,h4⟩
def E3{i:Nat}{o:Ob}(h:(Z.rest pre).get i=some o):Z.get i=some o/\pre.has i=false:=by
 rw[ae.s3]at h;split at h
 ·cases h
 ·rename_i hp;exact⟨h,by simpa using hp⟩
def Z4(eZ:∀i o,pre.get i=some o->Z.get i=some o)(ai:cX w O ρ Z){b:Nat}(h1:cj (cQ pre.has ρ) pre b)(h2:cj ρ (Z.rest pre) b):False:=by
 obtain⟨i,o,l,a1,a2,a3,a4⟩:=h1;obtain⟨j,o',l',b1,b2,b3,b4⟩:=h2;have:=ai.inj i j o o' l l' (eZ i o a1) (E3 b1).1 a2 b2 (qy a3) b3 (a4.trans b4.symm);subst this;have:=(E3 b1).2;rw[ae.iW.2 ⟨o,a1⟩]at this;cases this
def kH(rest:ae)(ρ av:aA):aA:=fun i=>if rest.has i then ρ i else av i
def aox{rest:ae}(mO:∀i,post.has i=true->rest.has i=false)(b:Nat):cj (kH rest ρ av) (post++rest) b↔cj av post b\/cj ρ rest b:=by
 constructor
 ·rintro⟨i,o,l,h1,h2,h3,h4⟩;rw[ae.get_append]at h1;cases hp:post.get i with
  |some x=>
   simp only[hp,cH]at h1;subst h1;have:=mO i (ae.iW.2 ⟨_,hp⟩);simp only[kH,this]at h3;exact .inl ⟨i,x,l,hp,h2,h3,h4⟩
  |none=>
   simp only[hp]at h1;simp only[kH,ae.iW.2 ⟨_,h1⟩,mX]at h3;exact .inr ⟨i,o,l,h1,h2,h3,h4⟩
 ·rintro(⟨i,o,l,h1,h2,h3,h4⟩|⟨i,o,l,h1,h2,h3,h4⟩)
  ·have:=mO i (ae.iW.2 ⟨_,h1⟩);exact⟨i,o,l,by rw[ae.get_append,h1],h2,by simp[kH,this,h3],h4⟩
  ·have hn:post.get i=none:=by
    cases hp:post.get i with
    |none=>rfl
    |some x=>
     have:=mO i (ae.iW.2 ⟨_,hp⟩);rw[ae.iW.2 ⟨_,h1⟩]at this;cases this
   exact⟨i,o,l,by rw[ae.get_append,hn];exact h1,h2,by simp[kH,ae.iW.2 ⟨_,h1⟩,h3],h4⟩
def TX(JA:Nat->Bool)(eZ:∀i o,pre.get i=some o->Z.get i=some o)(ai:cX w O ρ Z)(h:hJ (Ot O ρ (Z.rest pre)) w (cQ pre.has ρ) pre w' av post)
  (mO:∀i,post.has i=true->(Z.rest pre).has i=false)(fh:∀i l,JA i=true->cQ pre.has ρ i=some l->av i=some l)(VC:∀i o,(Z.rest pre).get i=some o->o.okB JA=true):
  hJ O w ρ Z w' (kH (Z.rest pre) ρ av) (post++Z.rest pre)/\(∀i l,JA i=true->ρ i=some l->kH (Z.rest pre) ρ av i=some l)/\
  ∀r v,V w' (Ot (Ot O ρ (Z.rest pre)) av post) av r v->V w' (Ot O (kH (Z.rest pre) ρ av) (post++Z.rest pre)) (kH (Z.rest pre) ρ av) r v:=by
 have hj:=aox (ρ:=ρ) (av:=av) mO;have qL:∀i l,JA i=true->ρ i=some l->kH (Z.rest pre) ρ av i=some l:=by
  intro i l hs hl;unfold kH;split
  ·exact hl
  ·rename_i hr;refine fh i l hs ?_;have:pre.has i=true:=by
    cases hp:pre.has i with
    |true=>rfl
    |false=>
     have hg:(Z.rest pre).get i=Z.get i:=by rw[ae.s3,hp];rfl
     cases ho:Z.get i with
     |none=>rw[ai.fresh i ho]at hl;cases hl
     |some o=>exact absurd (ae.iW.2 ⟨o,hg.trans ho⟩) hr
   simp[cQ,this,hl]
 have M2:bN av (kH (Z.rest pre) ρ av):=by
  intro i l hl;unfold kH;split
  ·rename_i hr;have:post.get i=none:=by
    cases hp:post.get i with
    |none=>rfl
    |some x=>have:=mO i (ae.iW.2 ⟨_,hp⟩);rw[hr]at this;cases this
   rw[h.ok.fresh i this]at hl;cases hl
  ·exact hl
 have rU:∀b,Ot (Ot O ρ (Z.rest pre)) av post b↔Ot O (kH (Z.rest pre) ρ av) (post++Z.rest pre) b:=by
  intro b;unfold Ot;rw[hj b];constructor
  ·rintro((g|g)|g)
   ·exact .inl g
   ·exact .inr (.inr g)
   ·exact .inr (.inl g)
  ·rintro(g|g|g)
   ·exact .inl (.inl g)
   ·exact .inr g
   ·exact .inl (.inr g)
 have yH:∀b,cj (kH (Z.rest pre) ρ av) (post++Z.rest pre) b->cj ρ Z b\/w.heap.size<=b:=by
  intro b hb;rcases(hj b).1 hb with g|g
  ·rcases h.new b g with g|g
   ·exact .inl ((xr eZ b).2 (.inl g))
   ·exact .inr g
  ·exact .inl ((xr eZ b).2 (.inr g))
 have qR:∀b,b<w.heap.size->¬cj ρ Z b->w'.heap[b]?=w.heap[b]?:=fun b hb ho=>h.same b hb fun g=>ho ((xr eZ b).2 (.inl g));have yC:Kept w (Ot O ρ Z) w' (Ot O (kH (Z.rest pre) ρ av) (post++Z.rest pre)):=by
  refine⟨h.size,fun b hb ho=>⟨fun _ _ _=>qR b hb fun g=>ho (.inr g),fun g=>?_⟩⟩;rcases g with g|g
  ·exact ho (.inl g)
  ·rcases yH b g with g|g
   ·exact ho (.inr g)
   ·omega
 refine⟨⟨h.size,qR,yH,⟨fun b hb=>h.ok.lt b (.inl hb),?_,?_,?_⟩,h.os⟩,qL,fun r v hv=>V.mono (Kept.fp fun b hb=>(rU b).2 hb) M2 r v hv⟩
 ·intro i hi;rw[ae.get_append]at hi;cases hp:post.get i with
  |some x=>simp[hp]at hi
  |none=>
   simp only[hp]at hi;simp only[kH,ae.has,hi,Option.isSome_none];exact h.ok.fresh i hp
 ·intro i o h1 h2;rw[ae.get_append]at h1;cases hp:post.get i with
  |some x=>
   simp only[hp,cH]at h1;subst h1;obtain⟨l,h3,h4,h5⟩:=h.ok.own i x hp h2;exact⟨l,M2 i l h3,fun hb=>h4 (.inl hb),h5.mono (Kept.fp fun b hb=>(rU b).2 hb) M2 rfl⟩
  |none=>
   simp only[hp]at h1;obtain⟨l,h3,h4,h5⟩:=ai.own i o (E3 h1).1 h2;have hr:(Z.rest pre).has i=true:=ae.iW.2 ⟨_,h1⟩;have mN:w'.heap[l.b]?=w.heap[l.b]?:=h.same l.b (h5.lt h2) fun g=>Z4 eZ ai g ⟨i,o,l,h1,h2,h3,rfl⟩;refine⟨l,by simp[kH,hr,h3],h4,(h5.cut (VC i o h1)).mono yC ?_ mN⟩;intro j lj lR;unfold cQ at lR;split at lR
   ·rename_i hs;exact qL j lj hs lR
   ·cases lR
 ·intro i j o o' l l' a1 a2 a3 a4 a5 a6 a7;have key:∀i o l,ae.get (post++Z.rest pre) i=some o->kH (Z.rest pre) ρ av i=some l->(post.get i=some o/\av i=some l)\/((Z.rest pre).get i=some o/\ρ i=some l):=by
   intro i o l h1 h3;rw[ae.get_append]at h1;cases hp:post.get i with
   |some x=>
    simp only[hp,cH]at h1;subst h1;have:=mO i (ae.iW.2 ⟨_,hp⟩);simp only[kH,this]at h3;exact .inl ⟨rfl,h3⟩
   |none=>
    simp only[hp]at h1;simp only[kH,ae.iW.2 ⟨_,h1⟩,mX]at h3;exact .inr ⟨h1,h3⟩
  have RS:∀i j o o' l l',post.get i=some o->o.live=true->av i=some l->(Z.rest pre).get j=some o'->o'.live=true->ρ j=some l'->l.b=l'.b->False:=by
   intro i j o o' l l' b1 b2 b3 b4 b5 b6 b7;obtain⟨l2,c1,c2,_⟩:=h.ok.own i o b1 b2;rw[b3]at c1;cases c1;exact c2 (.inr ⟨j,o',l',b4,b5,b6,b7.symm⟩)
  rcases key i o l a1 a5 with⟨b1,b2⟩|⟨b1,b2⟩<;>rcases key j o' l' a2 a6 with⟨c1,c2⟩|⟨c1,c2⟩
  ·exact h.ok.inj i j o o' l l' b1 c1 a3 a4 b2 c2 a7
  ·exact(RS i j o o' l l' b1 a3 b2 c1 a4 c2 a7).elim
  ·exact(RS j i o' o l' l c1 a4 c2 b1 a3 b2 a7.symm).elim
  ·exact ai.inj i j o o' l l' (E3 b1).1 (E3 c1).1 a3 a4 b2 c2 a7
end
end Go.T
namespace Go.T
open Go
variable[bX]
structure dB(P:Program)(f:FuncId)(args:List D)(pre:ae)(r:D)(post:ae):Prop where
 out:∀w O ρ vals,cX w O ρ pre->Gl w (Ot O ρ pre)->Vs w (Ot O ρ pre) ρ args vals->Calls P f vals.toArray w (fun e w'=>∃v av,e=.returned v/\Tr O w ρ pre w' av post/\V w' (Ot O av post) av r v)
def sU(a b:ae):Bool:=a.all fun p=>!b.has p.1
def afp{a b:ae}(h:sU a b=true):∀i,a.has i=true->b.has i=false:=by
 intro i hi;obtain⟨o,ho⟩:=ae.iW.1 hi;have key:∀a:ae,sU a b=true->a.get i=some o->b.has i=false:=by
  intro a;induction a with
  |nil=>intro _ h;simp[ae.get]at h
  |cons p r ih=>
   obtain⟨t,d⟩:=p;intro hd hg;simp only[sU,kJ,bd,lD]at hd;rw[ae.bm]at hg;by_cases e:t=i
   ·subst e;exact hd.1
   ·rw[aF e]at hg;exact ih hd.2 hg
 exact key a h ho
theorem iQ.okB{pre Z:ae}(h:iQ pre Z pre):∀i o,pre.get i=some o->o.okB pre.has=true:=fun i o ho=>(h.sound i o ho).2
def Vs.aeG{w:World}{O:Nat->Prop}{ρ:aA}{f:Nat->Bool}{ds:List D}{vs:List Value}(hp:D.okB.fM f ds=true)(h:Vs w O ρ ds vs):Vs w O (cQ f ρ) ds vs:=Vs.cut ds vs hp h
def TY{w:World}{O:Nat->Prop}{ρ:aA}{Z pre:ae}(eZ:∀i o,pre.get i=some o->Z.get i=some o)(hp:∀i o,pre.get i=some o->o.okB pre.has=true)(ai:cX w O ρ Z):cX w (Ot O ρ (Z.rest pre)) (cQ pre.has ρ) pre:=by
 refine⟨?_,fun i hi=>by simp[cQ,ae.has,hi],fun i o h1 h2=>?_,fun i j o o' l l' a b c d e e'=>ai.inj i j o o' l l' (eZ _ _ a) (eZ _ _ b) c d (qy e) (qy e')⟩
 ·rintro b (hb|hb)
  ·exact ai.lt b hb
  ·exact(ai.block ((xr eZ b).2 (.inr hb))).1
 ·obtain⟨l,h3,h4,h5⟩:=ai.own i o (eZ i o h1) h2;have hl:cQ pre.has ρ i=some l:=by simp[cQ,ae.has,h1,h3]
  refine⟨l,hl,?_,(h5.fp (Kept.fp ?_)).cut (hp i o h1)⟩
  ·rintro(hb|hb)
   ·exact h4 hb
   ·exact Z4 eZ ai ⟨i,o,l,h1,h2,hl,rfl⟩ hb
  ·rintro b ((hb|hb)|hb)
   ·exact .inl hb
   ·exact .inr ((xr eZ b).2 (.inr hb))
   ·exact .inr ((xr eZ b).2 (.inl hb))
def IP{w:World}{O:Nat->Prop}{ρ:aA}{Z pre:ae}(eZ:∀i o,pre.get i=some o->Z.get i=some o)(b:Nat):Ot (Ot O ρ (Z.rest pre)) (cQ pre.has ρ) pre b->Ot O ρ Z b:=by
 rintro((hb|hb)|hb)
 ·exact .inl hb
 ·exact .inr ((xr eZ b).2 (.inr hb))
 ·exact .inr ((xr eZ b).2 (.inl hb))
section
variable{P:Program} {env:Env} {dst:Option Tmp} {ty:TypeId} {pos:String} {ar:Array Edge} {g:Option (Nat×Bool)}
def aq.SU{o:Oper}{f:FuncId}{ds:List D}{r:D}{pre post Z:ae}(hf:dB P f ds pre r post)(fh:iQ pre Z pre)(uN:D.okB.fM pre.has ds=true)(mO:sU post (Z.rest pre)=true)
  (h:∀(O:Nat->Prop)(ρ:aA)(a:Act)(w:World),cX w O ρ Z->(∀x∈o.op.operands.toList,∀d',env.op x=some d'->V w (Ot O ρ Z) ρ d' (a.eval x))->∃vals:List Value,(execOp a.eval o).run P w=.ok (.enter f vals.toArray) w/\Vs w (Ot O ρ Z) ρ ds vals):
  aq P o env Z r (post++Z.rest pre):=by
 intro O ρ a w ai bY hv;obtain⟨vals,eY,j7⟩:=h O ρ a w ai hv;have eZ:∀i o,pre.get i=some o->Z.get i=some o:=fun i o ho=>(fh.sound i o ho).1;unfold Oper.wp;rw[eY];simp only[Oper.upon];have ajK:Vs w (Ot (Ot O ρ (Z.rest pre)) (cQ pre.has ρ) pre) (cQ pre.has ρ) ds vals:=
  Vs.aeG uN (Vs.mono (Kept.fp fun b hb=>IP (w:=w) eZ b hb) (bN.refl _) _ _ j7)
 refine Calls.mono (hf.out w _ _ vals (TY eZ fh.okB ai) (bY.mono (Kept.fp fun b hb=>IP (w:=w) eZ b hb)) ajK) ?_;rintro e w' ⟨v,av,rfl,aP,hr⟩;obtain⟨h1,h2,h3⟩:=TX (fun _=>true) eZ ai aP.xE (afp mO) (fun i l _ hl=>aP.le i l hl) (fun i o _=>Ob.OW o);exact⟨_,v,rfl,⟨fun i l hl=>h2 i l rfl hl,h1.size,h1.same,h1.new,h1.ok,h1.os⟩,h3 r v hr⟩
def gv{f:FuncId}{xs:List Operand}{tys:Array TypeId}{ds:List D}{r:D}{pre post Z:ae}
  (fA:∀(args:Array Value)(w:World),(callFunc f args).run P w=.ok (.enter f args) w)(hx:env.kM xs=some ds)(hf:dB P f ds pre r post)(fh:iQ pre Z pre)(uN:D.okB.fM pre.has ds=true)(mO:sU post (Z.rest pre)=true):
  aq P ⟨dst,.call ⟨.value (.func f),xs.toArray,tys⟩,ty,pos,ar,g⟩ env Z r (post++Z.rest pre):=by
 refine aq.SU hf fh uN mO fun O ρ a w ai hv=>?_;refine⟨xs.map a.eval,?_,tW xs ds hx (fun x hx d' h=>hv x (by simp[Op.operands,Call.operands,hx]) d' h)⟩;have h1:execOp a.eval ⟨dst,.call ⟨.value (.func f),xs.toArray,tys⟩,ty,pos,ar,g⟩=callFunc f (xs.map a.eval).toArray:=by
  simp[execOp,resolve,Deferred.ofValue,Act.eval,invoke,Bind.bind,Sem.bind,Pure.pure]
 rw[h1,fA]
def LS{w:World}{O:Nat->Prop}{ρ:aA}{f:FuncId}{fs bO:List D}{v:Value}(h:V w O ρ (.fn (.func f) fs bO) v):∃us vs,v=.func (.func f) us vs/\Vs w O ρ fs us.toList/\Vs w O ρ bO vs.toList:=by simpa only[V]using h
def S_(a:Act){y:Operand}{f:FuncId}{us vs:Array Value}{xs:List Operand}{tys:Array TypeId}(h:a.eval y=.func (.func f) us vs):
  execOp a.eval ⟨dst,.call ⟨.value y,xs.toArray,tys⟩,ty,pos,ar,g⟩=callFunc f (us.toList++xs.map a.eval++vs.toList).toArray:=by
 have:us++(xs.map a.eval).toArray++vs=(us.toList++xs.map a.eval++vs.toList).toArray:=by simp
 simp[execOp,resolve,Deferred.ofValue,h,invoke,Bind.bind,Sem.bind,Pure.pure,this]
def eO{f:FuncId}{y:Operand}{xs:List Operand}{tys:Array TypeId}{ds fs bO:List D}{r:D}
  (fA:∀(args:Array Value)(w:World),(callFunc f args).run P w=.ok (.enter f args) w)(hy:env.op y=some (.fn (.func f) fs bO))(hx:env.kM xs=some ds)(hf:Fc P f (fs++ds++bO) r)(Z:ae):
  aq P ⟨dst,.call ⟨.value y,xs.toArray,tys⟩,ty,pos,ar,g⟩ env Z r Z:=by
 intro O ρ a w ai bY hv;obtain⟨us,vs,e1,e2,e3⟩:=LS (hv y (by simp[Op.operands,Call.operands]) _ hy);have j7:=tW xs ds hx (fun x hx d' h=>hv x (by simp[Op.operands,Call.operands,hx]) d' h);unfold Oper.wp;rw[S_ a e1,fA];simp only[Oper.upon];refine Calls.mono (hf.out w (Ot O ρ Z) ρ _ ?_ bY ((e2.append j7).append e3)) ?_
 ·rintro b (hb|hb)
  ·exact ai.lt b hb
  ·exact(ai.block hb).1
 ·rintro e w' ⟨v,rfl,h1,h2⟩;exact⟨ρ,v,rfl,Tr.pz h2 ai,h1⟩
def zw{f:FuncId}{y:Operand}{xs:List Operand}{tys:Array TypeId}{ds fs bO:List D}{r:D}{pre post Z:ae}
  (fA:∀(args:Array Value)(w:World),(callFunc f args).run P w=.ok (.enter f args) w)(hy:env.op y=some (.fn (.func f) fs bO))(hx:env.kM xs=some ds)(hf:dB P f (fs++ds++bO) pre r post)(fh:iQ pre Z pre)(uN:D.okB.fM pre.has (fs++ds++bO)=true)(mO:sU post (Z.rest pre)=true):
  aq P ⟨dst,.call ⟨.value y,xs.toArray,tys⟩,ty,pos,ar,g⟩ env Z r (post++Z.rest pre):=by
 refine aq.SU hf fh uN mO fun O ρ a w ai hv=>?_;obtain⟨us,vs,e1,e2,e3⟩:=LS (hv y (by simp[Op.operands,Call.operands]) _ hy);have j7:=tW xs ds hx (fun x hx d' h=>hv x (by simp[Op.operands,Call.operands,hx]) d' h);exact⟨_,by rw[S_ a e1,fA],(e2.append j7).append e3⟩
end
def acZ{O:Nat->Prop}{w:World}{ρ:aA}{Z:ae}{id:Nat}{ds:List D}{v:Value}(ai:cX w O ρ Z)(ho:Z.get id=some (.cells ds))(hp:D.bw.dT ds=true)(h1:m_ ds=true)(hv:V w (Ot O ρ Z) ρ (.box id 0) v):
  V w (Ot O ρ (Z.set id .dead)) ρ (.bj ds) v:=by
 simp only[V]at hv|-;obtain⟨l,e1,e⟩:=hv;obtain⟨l',h3,h4,vs,T,h5,h6⟩:=ai.own id _ ho rfl;rw[e1]at h3;cases h3;have hk:=(Tr.die id ai).kept;refine⟨l.b,0,e,⟨(bH.1 h5).1,?_⟩,?_⟩
 ·rintro(hb|⟨i,x,l',g1,g2,g3,g4⟩)
  ·exact h4 hb
  ·have hx:=rG i x g1 g2;have:=ai.inj i id x _ l' l hx ho g2 rfl g3 e1 g4;subst this;rw[ae.ej]at g1;simp only[mX,cH]at g1;subst g1;simp[Ob.live]at g2
 ·refine Vc.sh h5 ds 0 ?_ ?_
  ·have hl:=h6.length;rw[uH,gZ zO];exact Vs.mono hk (bN.refl _) _ _ (Vs.pure ds _ hp h6)
  ·have hl:=h6.length;rw[uH,gZ zO];exact Vs.one h1 h6
def Le.fx{F:Fr}{env:Env}{Z:ae}{ds:List D}(t id:Nat)(ht:env.get t=some (.box id 0))(ho:Z.get id=some (.cells ds))(hp:D.bw.dT ds=true)(h1:m_ ds=true):
  Le F env Z ((t,.bj ds)::env) (Z.set id .dead):=.step fun O ρ w f ai hv=>by
 have aP:=Tr.die id ai;refine⟨ρ,aP,fun s d h=>?_⟩;rw[Env.bm]at h;by_cases e:t=s
 ·rw[aV e]at h;cases h;subst e;exact acZ ai ho hp h1 (hv t _ ht)
 ·rw[aF e]at h;exact aP.V (hv s d h)
def Cj(ts:List Nat)(r:D)(post:ae):Exit->Env->ae->Prop
 |.ret,env,Z|.normal,env,Z=>(∃ds,getAll env ts=some ds/\Sub (tL ds) r)/\iQ post Z post
 |_,_,_=>False
def dB.mk'{P:Program}{f:FuncId}{fn:Func}{c:Code}{args:List D}{r:D}{pre post:ae}(ts:List Nat)(hf:P.funcs[f]?=some fn)(hb:fn.body=some c){N:Nat}(hN:fn.ntmps=N)(hn:Nat.ble args.length N=true)(tj:(pre.map (·.1)).all post.has=true)(hr:r.okB post.has=true)
  (rS:∀tmps w,(results fn tmps).run P w=.ok (E2 ts tmps) w)(h:U P ⟨N,pre.map (·.1),false,none⟩ [c] (Cj ts r post) (mA args 0) pre):dB P f args pre r post:=⟨fun w O ρ vals ai bY hv=>by
 refine CK hf hb h.start (St.begin fn.ntmps hN (nA hn) ai bY hv _ none (fun _ _ e=>by cases e)) ?_ ?_
 ·intro e aY aj hq;cases e<;>first|exact .inl rfl|exact .inr rfl|exact hq.elim
 ·intro e aY aj tmps w' av hq qL aP wR;have:(∃ds,getAll aY ts=some ds/\Sub (tL ds) r)/\iQ post aj post:=by cases e<;>first|exact hq|exact hq.elim
  obtain⟨⟨ds,h1,h2⟩,h3⟩:=this;have hO:∀b,cj (cQ post.has av) post b->cj av aj b:=by
   rintro b ⟨i,o,l,g1,g2,g3,g4⟩;exact⟨i,o,l,(h3.sound i o g1).1,g2,qy g3,g4⟩
  refine⟨_,rS _ _,_,cQ post.has av,rfl,⟨?_,aP.size,aP.same,fun b hb=>aP.new b (hO b hb),aP.ok.sub h3.sound,aP.os⟩,?_⟩
  ·intro i l hl;have hi:pre.has i=true:=by
    cases hp:pre.get i with
    |none=>rw[ai.fresh i hp]at hl;cases hl
    |some o=>exact ae.iW.2 ⟨o,hp⟩
   have hm:i∈pre.map (·.1):=by
    obtain⟨o,ho⟩:=ae.iW.1 hi;have key:∀p:ae,p.get i=some o->i∈p.map (·.1):=by
     intro p;induction p with
     |nil=>intro h;simp[ae.get]at h
     |cons q r ih=>
      obtain⟨t,d⟩:=q;intro h;rw[ae.bm]at h;by_cases e:t=i
      ·subst e;simp
      ·rw[aF e]at h;exact cC _ (ih h)
    exact key pre ho
   have:=de.1 tj i hm;simp[cQ,this,qL i hm l hl]
  ·have h4:=h2.out _ _ _ _ (Vs.res (G5 wR ts ds h1));exact V.cut r _ hr (V.mono (Kept.fp fun b hb=>hb.imp _root_.id (hO b)) (bN.refl _) _ _ h4)⟩
def ua{env:Env}{Z post:ae}{t:Nat}{d r:D}(h:env.get t=some d)(s:Sub d r)(hp:iQ post Z post):Cj [t] r post .ret env Z:=⟨⟨[d],by simp[getAll,h],s⟩,hp⟩
def Z6{env:Env}{Z post:ae}{t u:Nat}{d e d' e':D}(h:env.get t=some d)(h':env.get u=some e)(s:Sub d d')(s':Sub e e')(hp:iQ post Z post):Cj [t,u] (.a_ [d',e']) post .ret env Z:=⟨⟨[d,e],by simp[getAll,h,h'],.JH s s'⟩,hp⟩
def Jk{env:Env}{Z post:ae}{r:D}(s:Sub (.a_ []) r)(hp:iQ post Z post):Cj [] r post .normal env Z:=⟨⟨[],rfl,s⟩,hp⟩
structure Tx(P:Program)(F:Fr)(ops:Array Oper)(K:Env->ae->Prop)(l:List Oper)(env:Env)(Z:ae):Prop where
 out:∀(C:Ctx)(Q:Exit->Act->World->Prop),(∀a w aY aj,K aY aj->St F C aY aj a w->Q .normal a w)->∀(i:Nat) a w,ops.toList.drop i=l->St F C env Z a w->wpOpsIn (fz C.ro) 0 P ops Q (List.range' i l.length) a w
section
variable{P:Program} {F:Fr} {ops:Array Oper} {K:Env->ae->Prop} {l:List Oper} {env:Env} {Z:ae} {o:Oper}
def Tx.nil(h:K env Z):Tx P F ops K [] env Z:=⟨fun C Q hQ i a w _ hs=>by
 simp only[hG,List.range',wpOpsIn];exact hQ a w env Z h hs⟩
def SE{ops:Array Oper}{i:Nat}{o:Oper}{l:List Oper}(h:ops.toList.drop i=o::l):ops[i]?=some o/\ops.toList.drop (i+1)=l:=by
 constructor
 ·have:=aT List.head? h;simpa[List.head?_drop]using this
 ·rw[<-tD,h];rfl
def Tx.many(hg:On ops env o)(h:∀(C:Ctx)(Q:Exit->Act->World->Prop)(k:Act->World->Prop)(a:Act)(w:World)(ρ:aA),qu F C env Z a w ρ->(∀a' w' aY aj,Tx P F ops K l aY aj->St F C aY aj a' w'->k a' w')->o.wpIn (fz C.ro) 0 P a w k Q):Tx P F ops K (o::l) env Z:=⟨fun C Q hQ i a w hd hs=>by
 obtain⟨ho,Dp⟩:=SE hd;obtain⟨ρ,aU⟩:=hs;simp only[bD,List.range',wpOpsIn,ho];rw[aV (Fw hg (fun _ _ t _ _ d h=>aU.env t d h))];exact h C Q _ a w ρ aU (fun a' w' aY aj hk gX=>hk.out C Q hQ (i+1) a' w' Dp gX)⟩
def Tx.q{d:D}{aj:ae}(hd:eF F.N o.dst=true)(hg:On ops env o)(h:aq P o env Z d aj)(k:Tx P F ops K l (env.put o.dst d) aj):Tx P F ops K (o::l) env Z:=
 .many hg fun C Q kk a w ρ aU hk=>by
  have:=h C.O ρ a w aU.tr.ok aU.ym (fun x _ d' h=>vq aU.env x d' h);refine Oper.wpIn_mono ?_ (zZ C.ro this (by rintro a' w' ⟨av,v,rfl,_⟩;exact Act.nh ..));rintro a' w' ⟨av,v,rfl,k7,hv⟩;exact hk _ _ _ _ k ⟨av,aU.step k7 (wE aU.size hd (fun t d h=>k7.V (aU.env t d h)) hv) (Act.vT _ _ _) (Act.nh ..)⟩
def uj(P:Program)(o:Oper)(env:Env)(Z:ae){ι:Type}(A:ι->Prop)(d:ι->D)(aj:ι->ae):Prop:=
 ∀(O:Nat->Prop)(ρ:aA)(a:Act)(w:World),cX w O ρ Z->Gl w (Ot O ρ Z)->
  (∀x∈o.op.operands.toList,∀d',env.op x=some d'->V w (Ot O ρ Z) ρ d' (a.eval x))->
  o.wp P a w (fun a' w'=>∃i av v,A i/\a'=a.put o.dst v/\Tr O w ρ Z w' av (aj i)/\V w' (Ot O av (aj i)) av (d i) v) (fun _ _ _=>False)
def Tx.n{ι:Type}{A:ι->Prop}{d:ι->D}{aj:ι->ae}(hd:eF F.N o.dst=true)(hg:On ops env o)(h:uj P o env Z A d aj)(k:∀i,A i->Tx P F ops K l (env.put o.dst (d i)) (aj i)):Tx P F ops K (o::l) env Z:=
 .many hg fun C Q kk a w ρ aU hk=>by
  have:=h C.O ρ a w aU.tr.ok aU.ym (fun x _ d' h=>vq aU.env x d' h);refine Oper.wpIn_mono ?_ (zZ C.ro this (by rintro a' w' ⟨i,av,v,_,rfl,_⟩;exact Act.nh ..));rintro a' w' ⟨i,av,v,hA,rfl,k7,hv⟩;exact hk _ _ _ _ (k i hA) ⟨av,aU.step k7 (wE aU.size hd (fun t d h=>k7.V (aU.env t d h)) hv) (Act.vT _ _ _) (Act.nh ..)⟩
def Tx.off(hd:eF F.N o.dst=true)(hg:ui ops env o)(k:Tx P F ops K l (env.put o.dst (.raw undef)) Z):Tx P F ops K (o::l) env Z:=⟨fun C Q hQ i a w hdr hs=>by
 obtain⟨ho,Dp⟩:=SE hdr;obtain⟨ρ,aU⟩:=hs;simp only[bD,List.range',wpOpsIn,ho];rw[aF (by simp[Qo hg (fun _ _ t _ _ d h=>aU.env t d h)])];exact⟨fun _ _=>trivial,k.out C Q hQ (i+1) _ _ Dp ⟨ρ,aU.step (Tr.refl aU.tr.ok) (wE aU.size hd aU.env (by simp[V])) (Act.vT _ _ _) (Act.nh ..)⟩⟩⟩
def Tx.bc{aY:Env}{aj:ae}(h:Le F env Z aY aj)(k:Tx P F ops K l aY aj):Tx P F ops K l env Z:=⟨fun C Q hQ i a w hd hs=>k.out C Q hQ i a w hd (h.out C a w hs)⟩
def U.vK{Q:Exit->Env->ae->Prop}{cs:List Code}{id:Nat}{l:List Oper}(h:Tx P F l.toArray (U P F cs Q) l env Z):U P F (.region id l.toArray false::cs) Q env Z:=⟨⟨fun C a w hs=>by
 refine wpIn_region ?_;rw[List.range_eq_range'];have:=h.out C (fun e a' w'=>∃aY aj,kS (pK P F cs Q) Q e aY aj/\St F C aY aj a' w') (fun a w aY aj hk hs=>⟨aY,aj,hk.out,hs⟩) 0 a w zS hs;simpa using this⟩⟩
end
end Go.T
namespace Go.T
open Go
section
variable[bX] {P:Program} {f:FuncId} {fn:Func} {c:Code} {args:List D} {r:D} {t u v N:Nat}
def fk0(hf:P.funcs[f]?=some fn)(hN:fn.ntmps=N)(hR:fn.results=#[])(h:U P ⟨N,[],false,none⟩ [c] (vM [] r) (mA args 0) [])(hb:fn.body=some c:=by rfl)(hn:Nat.ble args.length N=true:=by rfl)(hp:D.bw.dT args=true:=by rfl)(hr:r.bw=true:=by rfl):Fc P f args r:=
 Fc.mk' [] hf hb hN hn hp hr (fun t w=>results_none hR t _ w) h
def ay(hf:P.funcs[f]?=some fn)(hN:fn.ntmps=N)(hR:fn.results=#[.tmp t])(h:U P ⟨N,[],false,none⟩ [c] (vM [t] r) (mA args 0) [])(hb:fn.body=some c:=by rfl)(hn:Nat.ble args.length N=true:=by rfl)(hp:D.bw.dT args=true:=by rfl)(hr:r.bw=true:=by rfl):Fc P f args r:=
 Fc.mk' [t] hf hb hN hn hp hr (fun t w=>results_tmp hR t _ w) h
def gq(hf:P.funcs[f]?=some fn)(hN:fn.ntmps=N)(hR:fn.results=#[.tmp t,.tmp u])(h:U P ⟨N,[],false,none⟩ [c] (vM [t,u] r) (mA args 0) [])(hb:fn.body=some c:=by rfl)(hn:Nat.ble args.length N=true:=by rfl)(hp:D.bw.dT args=true:=by rfl)(hr:r.bw=true:=by rfl):Fc P f args r:=
 Fc.mk' [t,u] hf hb hN hn hp hr (fun t w=>results_tmp2 hR t _ w) h
def AF(hf:P.funcs[f]?=some fn)(hN:fn.ntmps=N)(hR:fn.results=#[.tmp t,.tmp u,.tmp v])(h:U P ⟨N,[],false,none⟩ [c] (vM [t,u,v] r) (mA args 0) [])(hb:fn.body=some c:=by rfl)(hn:Nat.ble args.length N=true:=by rfl)(hp:D.bw.dT args=true:=by rfl)(hr:r.bw=true:=by rfl):Fc P f args r:=
 Fc.mk' [t,u,v] hf hb hN hn hp hr (fun t w=>results_tmp3 hR t _ w) h
variable{pre post:ae}
def LU(hf:P.funcs[f]?=some fn)(hN:fn.ntmps=N)(hR:fn.results=#[])(h:U P ⟨N,pre.map (·.1),false,none⟩ [c] (Cj [] r post) (mA args 0) pre)(hb:fn.body=some c:=by rfl)(hn:Nat.ble args.length N=true:=by rfl)(hp:(pre.map (·.1)).all post.has=true:=by rfl)(hr:r.okB post.has=true:=by rfl):dB P f args pre r post:=
 dB.mk' [] hf hb hN hn hp hr (fun t w=>results_none hR t _ w) h
def uF(hf:P.funcs[f]?=some fn)(hN:fn.ntmps=N)(hR:fn.results=#[.tmp t])(h:U P ⟨N,pre.map (·.1),false,none⟩ [c] (Cj [t] r post) (mA args 0) pre)(hb:fn.body=some c:=by rfl)(hn:Nat.ble args.length N=true:=by rfl)(hp:(pre.map (·.1)).all post.has=true:=by rfl)(hr:r.okB post.has=true:=by rfl):dB P f args pre r post:=
 dB.mk' [t] hf hb hN hn hp hr (fun t w=>results_tmp hR t _ w) h
end
def rg[bX]{P:Program}{F:Fr}{cs:List Code}{Q:Exit->Env->ae->Prop}{env:Env}{Z:ae}{id:Nat}{l:List Oper}{ks:List Kind}(h:cN P F.N l.toArray (U P F cs Q) l ks env Z):U P F (.region id l.toArray false::cs) Q env Z:=U.e_ ks h
theorem ct.n{aj:ae}{env:Env}:∀{e:Env}(k:Nat),(e.take k).map (fun p=>env.get p.1)=(e.take k).map (fun p=>some p.2)->(e.take k).all (fun p=>p.2.okB aj.has)=true->ct aj env (e.drop k)->ct aj env e
 |_,0,_,_,r=>r
 |[],_+1,_,_,_=>.nil
 |(t,d)::e,k+1,h1,h2,r=>by
  simp only[lW,cP,l_,kJ,bd]at h1 h2;exact .cons h1.1 (Sub.refl _) h2.1 (ct.n k h1.2 h2.2 r)
def lc{α:Type}{l pre rest:List α}(h:l=pre++rest):(rest=[]/\l.length=pre.length+([]:List α).length)\/∃x r,rest=x::r/\l.length=pre.length+(r.length+1):=by
 cases rest with
 |nil=>exact .inl ⟨rfl,by rw[h,bl]⟩
 |cons x r=>exact .inr ⟨x,r,rfl,by rw[h,bl,bD]⟩
structure QD where
 ab4:aa
 aeD:aa
 Ka:aa
 deriving DecidableEq,Inhabited
structure Entry where
 day:Int
 adf:aa
 lines:List QD
 deriving DecidableEq,Inhabited
@[reducible] def bg(l:List aa):D:=.snap 1 false (l.map fun s=>[.str s])
def cg(c:UInt8):Bool:=48<=c.toNat&&c.toNat<=57
def d_:aa->aa×Bool
 |45::r=>(r,true)
 |s=>(s,false)
def ff:aa->aa
 |48::r=>ff r
 |s=>s
def digits(s:aa):aa×Bool:=if(d_ s).1.all cg then(ff (d_ s).1,(d_ s).2&&decide (ff (d_ s).1≠[]))else([],false)
def canon(s:aa):aa:=if(digits s).2 then 45::(digits s).1 else(digits s).1
def natVal(d:aa):Nat:=d.foldl (fun a c=>10*a+(c.toNat-48)) 0
def val(s:aa):Int:=if(digits s).2 then -(natVal (digits s).1:Int)else natVal (digits s).1
def tO(c:UInt8):Bool:=(97<=c.toNat&&c.toNat<=122)||(48<=c.toNat&&c.toNat<=57)||c.toNat==95
def isName(s:aa):Bool:=1<=s.length&&s.length<=16&&s.all tO
def gf(s:aa):Bool:=s.all (fun c=>65<=c.toNat&&c.toNat<=90)&&s.length==3
def zV(d:Int):Bool:=decide (-25567<=d)&&decide (d<=84005)
def aii(x:QD):Bool:=decide (60<x.ab4.length)||decide (60<x.aeD.length)||decide (13<x.Ka.length)
def aij(e:Entry):Bool:=decide (60<e.adf.length)||(decide (8<e.lines.length)&&decide (e.lines.length<=64))||decide (66<e.lines.length)||e.lines.any aii
def axc(l:List Entry):Bool:=decide (10<l.length)||l.any aij
def o0(a b:aa):Int:=if aa.lt a b then -1 else if aa.lt b a then 1 else 0
def gA(a b:aa):Int:=
 if(digits a).2≠(digits b).2 then(if(digits a).2 then -1 else 1)
 else if(digits a).1.length≠(digits b).1.length then(if(digits a).1.length<(digits b).1.length then(if(digits a).2 then 1 else -1)else(if(digits a).2 then -1 else 1))
 else if aa.lt (digits a).1 (digits b).1 then(if(digits a).2 then 1 else -1)else if aa.lt (digits b).1 (digits a).1 then(if(digits a).2 then -1 else 1)else 0
def xZ(s:aa):Int:=if canon s=s then 0 else 1
def oI(s:aa):aa:=if(digits s).2=true\/(digits s).1=[]then(digits s).1 else 45::(digits s).1
structure aO where
 num:aa
 den:aa
 deriving DecidableEq,Inhabited
structure dE where
 fT:aa
 dc:aa
 deriving DecidableEq,Inhabited
structure cY where
 other:aa
 ratio:aO
 dn:aO
 value:aO
 deriving DecidableEq,Inhabited
structure Fact where
 key:aa
 iB:Int
 cancelled:Bool
 day:Int
 kind:Int
 dV:aa
 other:aa
 cur:aa
 target:aa
 dc:aa
 l9:aa
 mb:aa
 dn:aO
 ratio:aO
 share:aO
 fF:List dE
 opts:List cY
 choice:Int
 deriving DecidableEq,Inhabited
structure aS where
 id:aa
 kind:Int
 cur:aa
 places:Int
 yU:Int
 tH:Int
 gp:aO
 gn:aO
 r_:Int
 count:Int
 other:aa
 fY:aO
 deriving DecidableEq,Inhabited
structure bL where
 code:aa
 places:Int
 deriving DecidableEq,Inhabited
structure xL where
 code:aa
 kind:Int
 deriving DecidableEq,Inhabited
structure Setup where
 o7:List bL
 insts:List aS
 z_:List xL
 abo:List Int
 Vv:List Int
 marks:List Int
 ara:Int
 deriving DecidableEq,Inhabited
@[reducible] def cK(x:aO):List D:=[.str x.num,.str x.den]
@[reducible] def j0(x:dE):List D:=[.str x.fT,.str x.dc]
@[reducible] def mF(x:cY):List D:=[.str x.other,.str x.ratio.num,.str x.ratio.den,.str x.dn.num,.str x.dn.den,.str x.value.num,.str x.value.den]
@[reducible] def Jp(l:List aO):D:=.snap 2 false (l.map cK)
@[reducible] def ru(l:List dE):D:=.snap 2 false (l.map j0)
@[reducible] def qk(l:List cY):D:=.snap 7 false (l.map mF)
@[reducible] def aJ(f:Fact):List D:=[.str f.key,.i f.iB,.b f.cancelled,.i f.day,.i f.kind,.str f.dV,.str f.other,.str f.cur,.str f.target,.str f.dc,.str f.l9,.str f.mb,
 .str f.dn.num,.str f.dn.den,.str f.ratio.num,.str f.ratio.den,.str f.share.num,.str f.share.den,ru f.fF,qk f.opts,.i f.choice]
@[reducible] def iS(x:aS):List D:=[.str x.id,.i x.kind,.str x.cur,.i x.places,.i x.yU,.i x.tH,.str x.gp.num,.str x.gp.den,.str x.gn.num,.str x.gn.den,.i x.r_,.i x.count,.str x.other,.str x.fY.num,.str x.fY.den]
@[reducible] def nG(x:bL):List D:=[.str x.code,.i x.places]
@[reducible] def Gw(x:xL):List D:=[.str x.code,.i x.kind]
@[reducible] def lZ(l:List Int):D:=.snap 1 false (l.map fun n=>[D.i n])
@[reducible] def kh(l:List bL):D:=.snap 2 false (l.map nG)
@[reducible] def n_(l:List aS):D:=.snap 15 false (l.map iS)
@[reducible] def aqq(l:List xL):D:=.snap 2 false (l.map Gw)
@[reducible] def aQ(l:List Fact):D:=.snap 21 false (l.map aJ)
@[reducible] def im(s:Setup):List D:=[kh s.o7,n_ s.insts,aqq s.z_,lZ s.abo,lZ s.Vv,lZ s.marks,.i s.ara]
@[reducible] def gt(n:Int)(s:aa):Bool:=decide (n<(s.length:Int))
@[reducible] def iV{α:Type}(n:Int)(l:List α):Bool:=decide (n<(l.length:Int))
@[reducible] def xc{α:Type}(n:Int)(l:List α):Bool:=decide ((l.length:Int)<=n)
def AM(f:aO):Bool:=gt 60 f.num||gt 60 f.den
def Da(x:aS):Bool:=gt 60 x.id||gt 60 x.cur||gt 60 x.other||[x.gp,x.gn,x.fY].any AM
def Db(l:List aS):Bool:=l.any Da||(iV 8 l&&xc 64 l||iV 67 l)
def Ul(l:List bL):Bool:=(l.take 24).any (fun c=>gt 8 c.code)||iV 18 l
def L9(w h:List Int):Bool:=iV 10 w||iV 20 h&&decide ((h.length:Int)<980)||iV 1005 h
def uI(s:Setup):Bool:=s.z_.any (fun a=>gt 120 a.code)||(iV 16 s.z_&&xc 256 s.z_||iV 259 s.z_)||
 (Db s.insts||Ul s.o7||L9 s.abo s.Vv||iV 4 s.marks&&xc 64 s.marks||iV 66 s.marks)
def qb(f:aO):Bool:=gt 13 f.num||gt 13 f.den
def Dc(p:dE):Bool:=gt 30 p.fT||decide (13<p.dc.length)
def AN(o:cY):Bool:=gt 24 o.other||qb o.ratio||qb o.dn||qb o.value
def L_(f:Fact):Bool:=gt 24 f.key||gt 24 f.dV||gt 24 f.other||gt 24 f.cur||gt 24 f.target||decide (13<f.dc.length)||decide (13<f.l9.length)||decide (13<f.mb.length)||qb f.dn||qb f.ratio||qb f.share
def AL(f:Fact):Bool:=iV 4 f.fF&&xc 64 f.fF||iV 66 f.fF||iV 3 f.opts&&xc 8 f.opts||iV 10 f.opts
def s4(f:Fact):Bool:=L_ f||(AL f||(f.fF.any Dc||f.opts.any AN))
def L'(l:List Fact):Bool:=(iV 12 l&&xc 1000 l||iV 1002 l)||l.any s4
def rK(l:List Fact):Bool:=iV 8 l||L' l
def oh{α:Type}{l pre rest:List α}{x:α}{P:α->Bool}(hx:l=pre++x::rest)(h:P x=true):l.any P=true:=by subst hx;simp[h]
def oX{α:Type}{l pre:List α}{P:α->Bool}(hx:l=pre++[])(h:pre.any P=false):l.any P=false:=by subst hx;simpa using h
def jX{α:Type}{pre:List α}{x:α}{P:α->Bool}(h:pre.any P=false)(h2:P x=false):(pre++[x]).any P=false:=by simp[h2];simpa using h
def acn{α:Type}{l pre rest:List α}{x:α}{P:α->Bool}(hx:l=pre++x::rest)(h:P x=true)(hn:pre.length<24):(l.take 24).any P=true:=by
 subst hx;rw[List.take_append,gZ zO,show 24-pre.length=(23-pre.length)+1 by omega,lW];simp[h]
def Q0{α:Type}{l pre rest:List α}{P:α->Bool}(hx:l=pre++rest)(hp:pre.any P=false)(AP:pre.length<=24)(h:rest=[]\/24<=pre.length):(l.take 24).any P=false:=by
 subst hx;rcases h with rfl|h
 ·rw[iJ,gZ AP];exact hp
 ·rw[wI h,gZ AP];exact hp
def vt{a b:Bool}(h:a=true):true=(a||b):=by simp[h]
def m'{a b c:Bool}(h:a=false)(h':c=b):c=(a||b):=by simp[h,h']
variable[bX]
def Ob.BS{o:Ob}{f g:Nat->Bool}(h:∀i,f i=true->g i=true)(ho:o.okB f=true):o.okB g=true:=by
 cases o with
 |dead=>rfl
 |cells ds=>exact D.tV ds h ho
 |arr sz rows=>rfl
 |lp st B1 s env=>exact D.tV _ h ho
 |mp r5=>
  simp only[Ob.okB,bd]at ho|-;exact⟨D.tV _ h ho.1,D.tV _ h ho.2⟩
 |mi m zJ seen=>exact h m ho
 |fq j n=>exact h j ho
 |ba s=>rfl
 |res sz=>rfl
 |mj ks vs seen=>rfl
 |mn=>rfl
def cj.congr{ρ:aA}{Z aj:ae}(h:∀i,Z.get i=aj.get i)(b:Nat):cj ρ Z b↔cj ρ aj b:=by
 unfold cj;simp only[h]
theorem Ot.congr{O:Nat->Prop}{ρ:aA}{Z aj:ae}(h:∀i,Z.get i=aj.get i)(b:Nat):Ot O ρ Z b↔Ot O ρ aj b:=by
 unfold Ot;rw[cj.congr h b]
theorem cX.congr{w:World}{O:Nat->Prop}{ρ:aA}{Z aj:ae}(h:∀i,Z.get i=aj.get i)(ai:cX w O ρ Z):cX w O ρ aj:=by
 refine⟨ai.lt,fun i hi=>ai.fresh i (by rw[h];exact hi),fun i o h1 h2=>?_,fun i j o o' l l' a b=>ai.inj i j o o' l l' (by rw[h];exact a) (by rw[h];exact b)⟩;obtain⟨l,h3,h4,h5⟩:=ai.own i o (by rw[h];exact h1) h2;exact⟨l,h3,h4,h5.fp (Kept.fp fun b hb=>(Ot.congr h b).2 hb)⟩
theorem hJ.congr{O:Nat->Prop}{w w':World}{ρ av:aA}{Z dG m9:ae}(h:∀i,dG.get i=m9.get i)(ht:hJ O w ρ Z w' av dG):hJ O w ρ Z w' av m9:=
 ⟨ht.size,ht.same,fun b hb=>ht.new b ((cj.congr h b).2 hb),ht.ok.congr h,ht.os⟩
def hJ.ael{O:Nat->Prop}{w w':World}{ρ av:aA}{Z aj dG:ae}(h:∀i,Z.get i=aj.get i)(ht:hJ O w ρ Z w' av dG):hJ O w ρ aj w' av dG:=
 ⟨ht.size,fun b hb ho=>ht.same b hb fun g=>ho ((cj.congr h b).1 g),fun b hb=>(ht.new b hb).imp (cj.congr h b).1 _root_.id,ht.ok,ht.os⟩
structure QO(P:Program)(aL lb:Nat)(ids:List Nat)(x:List D)(B B':ae)(X:ae->Prop):Prop where
 out:∀(O:Nat->Prop)(ρ:aA)(w:World)(vals:List Value)(l:Loc),ρ aL=some l->l.b=lb->cX w O ρ B->Gl w (Ot O ρ B)->Vs w (Ot O ρ B) ρ x vals->
  ∃fn tmps assign body,(Instr.yield lb vals.toArray).run P w=.ok (.round lb fn tmps assign body) w/\
   RoundIn Fence.wide 0 P lb fn tmps assign body w (fun e w'=>∃b av o,e=.returned (.bool b)/\((b=true/\o=B')\/(b=false/\X o))/\hJ O w ρ B w' av o/\∀i∈ids,∀l,ρ i=some l->av i=some l)
structure Cz{α:Type}(P:Program)(lo aL lb:Nat)(ids:List Nat)(B:List α->ae)(X:ae->Prop)(enc:α->List D)(ok:List α->Prop):Prop where
 mem:aL∈ids
 has:∀pre,ids.all (B pre).has=true
 aiZ:∀o,X o->ids.all o.has=true
 Ez:∀pre i o,(B pre).get i=some o->o.okB (B pre).has=true
 okX:∀o,X o->∀i x,o.get i=some x->x.okB o.has=true
 free:∀pre i,lo<=i->i<lo+100->(B pre).get i=none
 T2:∀o,X o->∀i,lo<=i->i<lo+100->o.get i=none
 step:∀pre x,ok (pre++[x])->QO P aL lb ids (enc x) (B pre) (B (pre++[x])) X
@[reducible] def yv(lb:Nat):D:=.raw (.func (.yield lb) #[] #[])
structure Cv{α:Type}(P:Program)(f:FuncId)(lo:Nat)(bO:List D)(own:ae)(enc:α->List D)(ok fin:List α->Prop):Prop where
 out:∀(aL lb:Nat)(ids:List Nat)(B:List α->ae)(X:ae->Prop),Cz P lo aL lb ids B X enc ok->∀w O ρ vals l,ρ aL=some l->l.b=lb->cX w O ρ (own++B [])->Gl w (Ot O ρ (own++B []))->Vs w (Ot O ρ (own++B [])) ρ bO vals->
  Calls P f (.func (.yield lb) #[] #[]::vals).toArray w (fun e w'=>∃v av o,e=.returned v/\((∃xs,fin xs/\o=B xs)\/X o)/\hJ O w ρ (own++B []) w' av o/\∀i∈ids,∀l,ρ i=some l->av i=some l)
def mT(lo:Nat)(own:ae):Bool:=own.all fun p=>Nat.ble lo p.1&&Nat.blt p.1 (lo+100)
def tt{lo:Nat}{own:ae}(h:mT lo own=true):∀i,own.has i=true->lo<=i/\i<lo+100:=by
 intro i hi;obtain⟨o,ho⟩:=ae.iW.1 hi;induction own with
 |nil=>simp[ae.get]at ho
 |cons p r ih=>
  obtain⟨t,d⟩:=p;simp only[mT,kJ,bd]at h;rw[ae.bm]at ho;by_cases e:t=i
  ·subst e;exact⟨nA h.1.1,by simpa[jE]using h.1.2⟩
  ·rw[aF e]at ho;exact ih h.2 (ae.iW.2 ⟨o,ho⟩) ho
theorem MA{i:Nat}:∀{own:ae},i∈own.map (·.1)->own.has i=true
 |[],hi=>by simp at hi
 |(t,d)::r,hi=>by
  simp only[ae.has,ae.bm];by_cases e:t=i
  ·simp[e]
  ·rw[aF e];simp only[cP,cr]at hi;exact MA (own:=r) (hi.resolve_left (fun e'=>e e'.symm))
inductive sL(f:Nat->Bool)(env:Env):Env->Prop
 |nil:sL f env []
 |cons {t:Nat} {d:D} {e:Env} (h:env.get t=some d) (hp:d.okB f=true) (r:sL f env e):sL f env ((t,d)::e)
def sL.sound{f:Nat->Bool}{env aY:Env}(h:sL f env aY):∀t d,aY.get t=some d->env.get t=some d/\d.okB f=true:=by
 induction h with
 |nil=>intro t d h;simp[Env.get]at h
 |@cons t0 d0 e h hp _ ih=>
  intro t d hd;rw[Env.bm]at hd;by_cases e:t0=t
  ·rw[aV e]at hd;cases hd;exact⟨e▸h,hp⟩
  ·rw[aF e]at hd;exact ih t d hd
section
variable{P:Program} {F:Fr} {ops:Array Oper} {K:Env->ae->Prop} {ol:List Oper} {env:Env}
def agN(a:Act){y:Operand}{lb:Nat}{xs:List Operand}{tys:Array TypeId}{dst:Option Tmp}{ty:TypeId}{pos:String}{ar:Array Edge}{g:Option (Nat×Bool)}(h:a.eval y=.func (.yield lb) #[] #[]):
  execOp a.eval ⟨dst,.call ⟨.value y,xs.toArray,tys⟩,ty,pos,ar,g⟩=Instr.yield lb (xs.map a.eval).toArray:=by
 simp[execOp,resolve,Deferred.ofValue,h,invoke,Bind.bind,Sem.bind,Pure.pure]
def Tx.y2{α:Type}{lo aL lb:Nat}{ids:List Nat}{B:List α->ae}{X:ae->Prop}{enc:α->List D}{ok:List α->Prop}(Y:Cz P lo aL lb ids B X enc ok){own:ae}{pre:List α}{aY:Env}{y:Operand}{xs:List Operand}{tys:Array TypeId}{dst:Option Tmp}{ty:TypeId}{pos:String}{ar:Array Edge}{g:Option (Nat×Bool)}
  {p0:List Nat}(x:α)(Ms:F.yl=some (aL,lb))(tj:F.ps=ids++p0)(hp0:p0.all own.has=true)(hd:eF F.N dst=true)(hg:On ops env ⟨dst,.call ⟨.value y,xs.toArray,tys⟩,ty,pos,ar,g⟩)(hy:env.op y=some (yv lb))(hx:env.kM xs=some (enc x))(Nf:D.bw.dT (enc x)=true)(ai:ok (pre++[x]))
  (eJ:mT lo own=true)(Nb:own.okB own.has=true)(he:sL own.has env aY)
  (kT:Tx P F ops K ol (aY.put dst (.raw (.bool true))) (own++B (pre++[x])))(kF:∀o,X o->Tx P F ops K ol (aY.put dst (.raw (.bool false))) (own++o)):
  Tx P F ops K (⟨dst,.call ⟨.value y,xs.toArray,tys⟩,ty,pos,ar,g⟩::ol) env (own++B pre):=
 .many hg fun C Q kk a w ρ aU hk=>by
  have AX:=vq aU.env y _ hy;simp only[V]at AX;obtain⟨_,l0,yG,nO⟩:=aU.yl aL lb Ms;have qN:aL∈F.ps:=by rw[tj];exact ln _ Y.mem
  have nQ:=aU.keep aL qN l0 yG;have j7:=tW xs _ hx (fun x _ d' h=>vq aU.env x d' h);have Mr:∀i,own.has i=true->(B pre).get i=none:=fun i hi=>Y.free pre i (tt eJ i hi).1 (tt eJ i hi).2;have ajx:∀(o:ae),(∀i,own.has i=true->o.get i=none)->∀i x,o.get i=some x->ae.get (own++o) i=some x:=by
   intro o ho i x hi;rw[ae.get_append];cases hp:own.get i with
   |none=>exact hi
   |some z=>rw[ho i (ae.iW.2 ⟨z,hp⟩)]at hi;cases hi
  have eZ:=ajx (B pre) Mr;have Ni:∀i,(ae.rest (own++B pre) (B pre)).get i=own.get i:=by
   intro i;rw[ae.s3,ae.get_append];cases hp:own.get i with
   |some z=>simp[ae.has,Mr i (ae.iW.2 ⟨z,hp⟩)]
   |none=>
    cases hb:(B pre).get i with
    |none=>simp[ae.has,hb]
    |some z=>simp[ae.has,hb]
  have ajz:∀i,(ae.rest (own++B pre) (B pre)).has i=own.has i:=fun i=>by simp[ae.has,Ni]
  have MW:(B pre).has aL=true:=de.1 (Y.has pre) aL Y.mem;have DF:=TY (Z:=own++B pre) (pre:=B pre) eZ (Y.Ez pre) aU.tr.ok;have ajL:Vs w (Ot (Ot C.O ρ (ae.rest (own++B pre) (B pre))) (cQ (B pre).has ρ) (B pre)) (cQ (B pre).has ρ) (enc x) (xs.map a.eval):=
   Vs.pure _ _ Nf (Vs.mono (Kept.fp fun b hb=>IP (w:=w) eZ b hb) (bN.refl _) _ _ j7)
  obtain⟨fn,tmps,assign,body,eY,ajA⟩:=(Y.step pre x ai).out _ _ w (xs.map a.eval) l0 (by simp[cQ,MW,nQ]) nO DF (aU.ym.mono (Kept.fp fun b hb=>IP (w:=w) eZ b hb)) ajL;refine⟨fun _ _=>trivial,?_⟩;rw[Oper.semAt_eq _ _ _ (fun c hc=>by cases hc),agN a AX,eY];simp only[Oper.uponIn];refine⟨fun e=>by simp[fz,Fence.wide]at e,?_⟩;have ajB:RoundIn (fz C.ro) 0 P lb fn tmps assign body w _:=ajA;refine ajB.mono ?_;rintro e w' ⟨b,av,o,rfl,ho,aP,qL⟩;have U6:∀i,own.has i=true->o.get i=none:=by
   rcases ho with⟨_,rfl⟩|⟨_,ho⟩
   ·exact fun i hi=>Y.free _ i (tt eJ i hi).1 (tt eJ i hi).2
   ·exact fun i hi=>Y.T2 o ho i (tt eJ i hi).1 (tt eJ i hi).2
  obtain⟨h1,h2,_⟩:=TX (fun i=>ids.contains i||own.has i) eZ aU.tr.ok aP
   (fun i hi=>by
    rw[ajz];cases hp:own.has i with
    |false=>rfl
    |true=>rw[ae.has,U6 i hp]at hi;cases hi)
   (fun i l hs hl=>by
    simp only[fZ,uO]at hs;rcases hs with hs|hs
    ·exact qL i hs l hl
    ·simp[cQ,ae.has,Mr i hs]at hl)
   (fun i x hx=>by
    rw[Ni]at hx;exact Ob.BS (fun j hj=>by simp[hj]) (ae.OV Nb i x hx))
  have Do:∀i,ae.get (o++ae.rest (own++B pre) (B pre)) i=ae.get (own++o) i:=by
   intro i;rw[ae.get_append,ae.get_append,Ni];cases hp:own.get i with
   |none=>cases o.get i<;>rfl
   |some z=>rw[U6 i (ae.iW.2 ⟨z,hp⟩)]
  have mJ:=h1.congr Do;have tm:∀v:Bool,St F C (aY.put dst (.raw (.bool v))) (own++o) (a.put dst (.bool v)) w':=fun v=>by
   refine⟨_,fun i hi l hl=>h2 i l ?_ (aU.keep i hi l hl),aU.tr.trans mJ,?_,(Act.vT _ _ _).trans aU.size,?_,aU.rd,aU.yl,aU.gl⟩
   ·rw[tj]at hi;simp only[fZ,uO];rcases cM.1 hi with hi|hi
    ·exact .inl hi
    ·refine .inr ?_;exact de.1 hp0 _ hi
   ·refine wE aU.size hd (fun t d Dp=>?_) (by simp[V]);obtain⟨g1,g2⟩:=he.sound t d Dp;refine V.mono mJ.kept ?_ _ _ (V.cut d _ g2 (aU.env t d g1));intro j lj lR;unfold cQ at lR;split at lR
    ·rename_i hs;exact h2 j lj (by simp[hs]) lR
    ·cases lR
   ·rw[Act.nh];exact mJ.marks aU.marks
  rcases ho with⟨rfl,rfl⟩|⟨rfl,ho⟩
  ·exact hk _ _ _ _ kT (tm true)
  ·exact hk _ _ _ _ (kF o ho) (tm false)
theorem Tx.y{α:Type}{lo aL lb:Nat}{ids:List Nat}{B:List α->ae}{X:ae->Prop}{enc:α->List D}{ok:List α->Prop}(Y:Cz P lo aL lb ids B X enc ok){own:ae}{pre:List α}{aY:Env}{y:Operand}{xs:List Operand}{tys:Array TypeId}{dst:Option Tmp}{ty:TypeId}{pos:String}{ar:Array Edge}{g:Option (Nat×Bool)}
  (x:α)(Ms:F.yl=some (aL,lb))(tj:F.ps=ids++own.map (·.1))(hd:eF F.N dst=true)(hg:On ops env ⟨dst,.call ⟨.value y,xs.toArray,tys⟩,ty,pos,ar,g⟩)(hy:env.op y=some (yv lb))(hx:env.kM xs=some (enc x))(Nf:D.bw.dT (enc x)=true)(ai:ok (pre++[x]))
  (eJ:mT lo own=true)(Nb:own.okB own.has=true)(he:sL own.has env aY)
  (kT:Tx P F ops K ol (aY.put dst (.raw (.bool true))) (own++B (pre++[x])))(kF:∀o,X o->Tx P F ops K ol (aY.put dst (.raw (.bool false))) (own++o)):
  Tx P F ops K (⟨dst,.call ⟨.value y,xs.toArray,tys⟩,ty,pos,ar,g⟩::ol) env (own++B pre):=
 Tx.y2 Y x Ms tj (de.2 fun i hi=>MA hi) hd hg hy hx Nf ai eJ Nb he kT kF
end
def PM{α:Type}(B:List α->ae)(X:ae->Prop)(fin:List α->Prop):Exit->Env->ae->Prop
 |.ret,_,Z|.normal,_,Z=>∃o,((∃xs,fin xs/\o=B xs)\/X o)/\∀i x,o.get i=some x->Z.get i=some x
 |_,_,_=>False
def ap'{α:Type}{B:List α->ae}{X:ae->Prop}{fin:List α->Prop}{env:Env}{Z:ae}{e:Exit}(he:e=.ret\/e=.normal)(xs:List α)(hf:fin xs)(h:∀i x,(B xs).get i=some x->Z.get i=some x):PM B X fin e env Z:=by
 rcases he with rfl|rfl<;>exact⟨_,.inl ⟨xs,hf,rfl⟩,h⟩
def aqa{α:Type}{B:List α->ae}{X:ae->Prop}{fin:List α->Prop}{env:Env}{Z:ae}{e:Exit}(he:e=.ret\/e=.normal)(o:ae)(hx:X o)(h:∀i x,o.get i=some x->Z.get i=some x):PM B X fin e env Z:=by
 rcases he with rfl|rfl<;>exact⟨_,.inr hx,h⟩
def vu{own o:ae}{lo:Nat}(eJ:mT lo own=true)(hf:∀i,lo<=i->i<lo+100->o.get i=none):∀i x,o.get i=some x->ae.get (own++o) i=some x:=by
 intro i x hi;rw[ae.get_append];cases hp:own.get i with
 |none=>exact hi
 |some z=>
  have:=tt eJ i (ae.iW.2 ⟨z,hp⟩);rw[hf i this.1 this.2]at hi;cases hi
def Pk{ids own:List Nat}{L o:ae}(h:ids.all o.has=true)(h2:own.all (ae.has L)=true):(ids++own).all (ae.has (L++o))=true:=by
 rw[lE,bd];constructor
 ·rw[de]at h|-;intro i hi;obtain⟨x,hx⟩:=ae.iW.1 (h i hi);simp only[ae.has,ae.get_append];cases L.get i<;>simp[hx]
 ·rw[de]at h2|-;intro i hi;obtain⟨x,hx⟩:=ae.iW.1 (h2 i hi);simp[ae.has,ae.get_append,hx]
def Qg{own kf o:ae}{lo:Nat}(eJ:mT lo own=true)(hf:∀i,lo<=i->i<lo+100->o.get i=none)(ai:∀i x,o.get i=some x->x.okB o.has=true):∀i x,o.get i=some x->ae.get (own++o) i=some x/\x.okB (ae.has (kf++o))=true:=by
 intro i x hi;refine⟨vu eJ hf i x hi,Ob.BS (fun j hj=>?_) (ai i x hi)⟩;obtain⟨y,hy⟩:=ae.iW.1 hj;simp only[ae.has,ae.get_append];cases kf.get j<;>simp[hy]
def Cv.mk'{α:Type}{P:Program}{f:FuncId}{fn:Func}{c:Code}{lo:Nat}{bO:List D}{own:ae}{enc:α->List D}{ok fin:List α->Prop}(hf:P.funcs[f]?=some fn)(hb:fn.body=some c){N:Nat}(hN:fn.ntmps=N)(hn:Nat.ble (bO.length+1) N=true)
  (rS:∀tmps w,(results fn tmps).run P w=.ok (E2 [] tmps) w)
  (h:∀(aL lb:Nat)(ids:List Nat)(B:List α->ae)(X:ae->Prop),Cz P lo aL lb ids B X enc ok->U P ⟨N,ids++own.map (·.1),false,some (aL,lb)⟩ [c] (PM B X fin) (mA (yv lb::bO) 0) (own++B [])):Cv P f lo bO own enc ok fin:=⟨fun aL lb ids B X Y w O ρ vals l hl nO ai bY hv=>by
 have js:Vs w (Ot O ρ (own++B [])) ρ (yv lb::bO) (.func (.yield lb) #[] #[]::vals):=by
  simp only[Vs];exact⟨_,_,rfl,by simp[V],hv⟩
 refine CK hf hb (h aL lb ids B X Y).start (St.begin fn.ntmps hN (by have:=nA hn;simpa using this) ai bY js _ _ (fun i b e=>?_)) ?_ ?_
 ·cases e;exact⟨ln _ Y.mem,l,hl,nO⟩
 ·intro e aY aj hq;cases e<;>first|exact .inl rfl|exact .inr rfl|exact hq.elim
 ·intro e aY aj tmps w' av hq qL aP wR;have:∃o,((∃xs,fin xs/\o=B xs)\/X o)/\∀i x,o.get i=some x->aj.get i=some x:=by cases e<;>first|exact hq|exact hq.elim
  obtain⟨o,ho,eZ⟩:=this;have ajt:∀i x,o.get i=some x->x.okB o.has=true:=by
   rcases ho with⟨xs,_,rfl⟩|ho
   ·exact Y.Ez xs
   ·exact Y.okX o ho
  have ajf:ids.all o.has=true:=by
   rcases ho with⟨xs,_,rfl⟩|ho
   ·exact Y.has xs
   ·exact Y.aiZ o ho
  have hO:∀b,cj (cQ o.has av) o b->cj av aj b:=by
   rintro b ⟨i,x,l,g1,g2,g3,g4⟩;exact⟨i,x,l,eZ i x g1,g2,qy g3,g4⟩
  refine⟨_,rS _ _,_,cQ o.has av,o,rfl,ho,⟨aP.size,aP.same,fun b hb=>aP.new b (hO b hb),aP.ok.sub (fun i x hx=>⟨eZ i x hx,ajt i x hx⟩),aP.os⟩,fun i hi l hl=>?_⟩;have:=de.1 ajf i hi;simp[cQ,this,qL i (ln _ hi) l hl]⟩
end Go.T
