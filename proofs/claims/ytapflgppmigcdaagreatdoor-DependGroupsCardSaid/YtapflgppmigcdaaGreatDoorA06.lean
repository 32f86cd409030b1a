/-
  Contracts of the functions that the statement reaches, and the logic in which they are proved (no condition): parts Core39, Core40, Core41, Core42.
-/
import Derived.Test.YtapflgppmigcdaaGreatDoorA05
set_option linter.all false
namespace Go.T
open Go
variable[bX]
section
variable{P:Program} {T:TypeId→bx} {A:Prop} {e:Env} {dst:Option Tmp} {ty:TypeId} {pos:String} {ar:Array Edge} {g:Option (Nat×Bool)}
def jT(P:Program)(A:Prop)(o:Oper)(e:Env)(G:Prop)(K:D→Prop):Prop:=G∨∃d,(A→∀U,aq P o e U d U)∧K d
theorem jT.of{o:Oper}{G:Prop}{K:D→Prop}{d:D}(h:A→∀U,aq P o e U d U)(k:K d):jT P A o e G K:=.inr ⟨d,h,k⟩
theorem Yv{op:BinOp}{t t':TypeId}{x y:Operand}{k:IntKind}{n m:Int}{G:Prop}{K:D→Prop}(hx:e.op x=some (.raw (.int k n)))(hy:e.op y=some (.raw (.int k m)))(h:Ht A op k n m G K):jT P A ⟨dst,.binOp op t x y t',ty,pos,ar,g⟩ e G K:=by
 cases op<;>simp only[Ht]at h
 case add=>exact .of (fun a=>bU hx hy (h.s a)) h.k
 case sub=>exact .of (fun a=>dw hx hy (h.s a)) h.k
 case mul=>exact .of (fun a=>tO hx hy (h.s a)) h.k
 case lss=>exact .of (fun _=>bQ hx hy) h
 case leq=>exact .of (fun _=>CE hx hy) h
 case gtr=>exact .of (fun _=>gn hx hy) h
 case geq=>exact .of (fun _=>oQ hx hy) h
 case eql=>exact .of (fun _=>jQ hx hy) h
 case neq=>exact .of (fun _=>z6 hx hy) h
 all_goals exact .inl h
theorem Yw{op:BinOp}{t t':TypeId}{x y:Operand}{s r:aa}{G:Prop}{K:D→Prop}(hx:e.op x=some (.str s))(hy:e.op y=some (.str r))(h:Hu A op s r G K):jT P A ⟨dst,.binOp op t x y t',ty,pos,ar,g⟩ e G K:=by
 cases op<;>simp only[Hu]at h
 case add=>exact .of (fun a=>zW hx hy (h.s a) rfl) h.k
 case lss=>exact .of (fun _=>Vv hx hy) h
 case leq=>exact .of (fun _=>ajO hx hy) h
 case gtr=>exact .of (fun _=>ajL hx hy) h
 case geq=>exact .of (fun _=>Vp hx hy) h
 case eql=>exact .of (fun _=>L0 hx hy) h
 case neq=>exact .of (fun _=>ajX hx hy) h
 all_goals exact .inl h
theorem Yu{op:BinOp}{t t':TypeId}{x y:Operand}{b c:Bool}{G:Prop}{K:D→Prop}(hu:P.underlying t=some .bool)(hx:e.op x=some (.raw (.bool b)))(hy:e.op y=some (.raw (.bool c)))(h:Hs op b c G K):jT P A ⟨dst,.binOp op t x y t',ty,pos,ar,g⟩ e G K:=by
 cases op<;>simp only[Hs]at h
 case eql=>exact .of (fun _=>ajH hu hx hy) h
 case neq=>exact .of (fun _=>z7 hu hx hy) h
 all_goals exact .inl h
theorem Yx(hT:mL P T){op:BinOp}{t t':TypeId}{x y:Operand}{G:Prop}{K:D→Prop}(h:Hv T A op t (e.op x) (e.op y) G K):jT P A ⟨dst,.binOp op t x y t',ty,pos,ar,g⟩ e G K:=by
 unfold Hv at h;split at h
 ·rename_i k n k' m hx hy;cases hd:decide (k=k')with
  |false=>simp only[hd,cond_false]at h;exact .inl h
  |true=>
   simp only[hd,cond_true]at h;obtain rfl:=of_decide_eq_true hd;exact Yv hx hy h
 ·rename_i hx hy;exact Yw hx hy h
 ·rename_i hx hy;split at h
  ·rename_i hu;exact Yu ((hT.ty t).u _ hu) hx hy h
  ·exact .inl h
 ·exact .inl h
theorem anB{op:UnOp}{t:TypeId}{x:Operand}{G:Prop}{K:D→Prop}(h:MK op A (e.op x) G K):jT P A ⟨dst,.unOp op t x,ty,pos,ar,g⟩ e G K:=by
 unfold MK at h;split at h
 ·rename_i hx;exact .of (fun _=>Vx hx) h
 ·rename_i hx;exact .of (fun a=>Gk hx (h.s a)) h.k
 ·exact .inl h
theorem ZO(hT:mL P T){s t:TypeId}{x:Operand}{G:Prop}{K:D→Prop}(h:HL T A s t (e.op x) G K):jT P A ⟨dst,.convert s t x,ty,pos,ar,g⟩ e G K:=by
 unfold HL at h;split at h
 ·rename_i hx hs ht;exact .of (fun a=>Gi ((hT.ty s).u _ hs) ((hT.ty t).u _ ht) hx (h.s a)) h.k
 ·rename_i hx hs ht;exact .of (fun _=>ajE ((hT.ty s).u _ hs) ((hT.ty t).u _ ht) hx) h
 ·exact .inl h
theorem ah_{x:Operand}{G:Prop}{K:D→Prop}(h:Lk (e.op x) G K):jT P A ⟨dst,.nilCheck x,ty,pos,ar,g⟩ e G K:=by
 unfold Lk at h;split at h
 ·rename_i hx;exact .of (fun _=>aj0 hx) h
 ·rename_i hx;exact .of (fun _=>xp hx) h
 ·rename_i hx;exact .of (fun _=>aj1 hx) h
 ·exact .inl h
theorem acs(hT:mL P T){t:TypeId}{x:Operand}{f:Nat}{G:Prop}{K:D→Prop}(h:IC T t (e.op x) f G K):jT P A ⟨dst,.field t x f,ty,pos,ar,g⟩ e G K:=by
 unfold IC at h;split at h
 ·rename_i cs fs hx hu;have BA:=(hT.ty t).u _ hu;split at h
  ·rename_i fl iC;rw[s_]at iC;have hf:(fs[f]?).map (fun x=>(x.type,x.offset))=some (fl.type,fl.offset):=by simp[←Array.getElem?_toList,iC]
   split at h
   ·rename_i ha;split at h
    ·rename_i d hd;rw[s_]at hd;exact .of (fun _=>L1 fl.type fl.offset BA ((hT.ty _).agg _ ha) hf hx hd) h
    ·exact .inl h
   ·rename_i n ha hs;obtain⟨h1,h2⟩:=DX _ _ _ h;obtain⟨h3,h4⟩:=GJ _ _ _ h2;exact .of (fun _=>ajK fl.type fl.offset BA ((hT.ty _).agg _ ha) ((hT.ty _).sz _ hs) hf hx (by simp at h3;omega) rfl) h4
   ·exact .inl h
  ·exact .inl h
 ·exact .inl h
theorem ack(hT:mL P T){t:TypeId}{x:Operand}{f:Nat}{G:Prop}{K:D→Prop}(h:IA T t (e.op x) f G K):jT P A ⟨dst,.fieldAddr t x f,ty,pos,ar,g⟩ e G K:=by
 unfold IA at h;split at h
 ·rename_i id off fs hx hu;split at h
  ·rename_i fl iC;rw[s_]at iC;have hf:(fs[f]?).map (fun x=>(x.type,x.offset))=some (fl.type,fl.offset):=by simp[←Array.getElem?_toList,iC]
   split at h
   ·rename_i hs;exact .of (fun _=>im fl.type fl.offset ((hT.ty t).u _ hu) ((hT.ty _).sz _ hs) hf hx) h
   ·exact .inl h
  ·exact .inl h
 ·rename_i cs fs hx hu;split at h
  ·rename_i fl iC;rw[s_]at iC;have hf:(fs[f]?).map (fun x=>(x.type,x.offset))=some (fl.type,fl.offset):=by simp[←Array.getElem?_toList,iC]
   split at h
   ·rename_i hs;obtain⟨_,h2⟩:=DX _ _ _ h;exact .of (fun _=>kl fl.type fl.offset ((hT.ty t).u _ hu) ((hT.ty _).sz _ hs) hf hx rfl) h2
   ·exact .inl h
  ·exact .inl h
 ·exact .inl h
theorem afh(hT:mL P T){t:TypeId}{x i:Operand}{G:Prop}{K:D→Prop}(h:Kr T A t (e.op x) (e.op i) G K):jT P A ⟨dst,.indexAddr t x i,ty,pos,ar,g⟩ e G K:=by
 unfold Kr at h;split at h
 ·rename_i sz fP rows k n el hx hi hu;split at h
  ·rename_i m hs;cases hb:Nat.beq m sz with
   |false=>simp only[hb,cond_false]at h;exact .inl h
   |true=>
    simp only[hb,cond_true]at h;obtain rfl:=Nat.eq_of_beq_eq_true hb;obtain⟨r,h1,h2⟩:=h.out;exact .of (fun a=>gm ((hT.ty t).u _ hu) ((hT.ty _).sz _ hs) hx hi (h1 a).1 (h1 a).2) h2
  ·exact .inl h
 ·exact .inl h
theorem afc(hT:mL P T){t:TypeId}{x i:Operand}{G:Prop}{K:D→Prop}(h:Kq T A t (e.op x) (e.op i) G K):jT P A ⟨dst,.index t x i,ty,pos,ar,g⟩ e G K:=by
 unfold Kq at h;split at h
 ·rename_i hx hi hu;obtain⟨r,h1,h2⟩:=h.out;exact .of (fun a=>nr ((hT.ty t).u _ hu) hx hi (h1 a).1 (h1 a).2) h2
 ·exact .inl h
theorem agN(hT:mL P T){t:TypeId}{x:Operand}{G:Prop}{K:D→Prop}(h:KB T t (e.op x) G K):jT P A ⟨dst,.call ⟨.builtin .len,#[x],#[t]⟩,ty,pos,ar,g⟩ e G K:=by
 unfold KB at h;split at h
 ·rename_i hx hu;exact .of (fun _=>fV ((hT.ty t).u _ hu) hx) h
 ·rename_i hx hu;exact .of (fun _=>cY ((hT.ty t).u _ hu) hx) h
 ·rename_i hx hu;exact .of (fun _=>tM ((hT.ty t).u _ hu) hx) h
 ·rename_i hx hu;exact .of (fun _=>ajN ((hT.ty t).u _ hu) hx) h
 ·exact .inl h
theorem TJ{x y:Operand}{tys:Array TypeId}{mx:Bool}{G:Prop}{K:D→Prop}(h:FG mx (e.op x) (e.op y) G K):jT P A ⟨dst,.call ⟨.builtin (bif mx then .max else .min),#[x,y],tys⟩,ty,pos,ar,g⟩ e G K:=by
 unfold FG at h;split at h
 ·rename_i k n k' m hx hy;cases hd:decide (k=k')with
  |false=>simp only[hd,cond_false]at h;exact .inl h
  |true=>
   simp only[hd,cond_true]at h;obtain rfl:=of_decide_eq_true hd;cases mx with
   |true=>exact .of (fun _=>CG hx hy rfl) h
   |false=>exact .of (fun _=>z1 hx hy rfl) h
 ·exact .inl h
theorem YS(hT:mL P T){b:Builtin}{args:Array Operand}{tys:Array TypeId}{G:Prop}{K:D→Prop}(h:HE T b args.toList tys.toList e G K):jT P A ⟨dst,.call ⟨.builtin b,args,tys⟩,ty,pos,ar,g⟩ e G K:=by
 obtain⟨args⟩:=args;obtain⟨tys⟩:=tys;simp only at h;unfold HE at h;split at h
 ·exact agN hT h
 ·exact TJ (mx:=true) h
 ·exact TJ (mx:=false) h
 ·exact .inl h
theorem ajz{U:ae}{t el:TypeId}{n sz:Nat}{z:Value}{xs:List (Nat×Operand)}{c_:List (Nat×D)}{cs:List D}(hu:P.underlying t=some (.array n el))(hz:∀w,(zeroValue t).run P w=.ok z w)
  (hs:∀w,(sizeOf el).run P w=.ok sz w)(hx:e.nZ xs=some c_)(hf:mV (fun i=>some (i*sz,sz)) (z.cells.toList.map lR) c_=some cs):
  aq P ⟨dst,.build t xs.toArray,ty,pos,ar,g⟩ e U (.agg cs) U:=
 .val fun O ρ a w _ hv=>by
  obtain⟨h1,h2⟩:=Ct (a:=a) xs c_ hx (fun x hx d' h=>hv x (by simpa[Op.operands]using hx) d' h);obtain⟨c',h3,h4⟩:=AW (fun i=>some (i*sz,sz)) c_ _ _ z.cells cs h1 h2 (Vs.Aa _) hf;refine⟨.agg c',?_,?_⟩
  ·simp[execOp,Instr.build,hz,ca hu,hs,h3]
  ·simp only[V];exact⟨_,rfl,h4⟩
theorem YH(hT:mL P T){t:TypeId}{ps:Array (Nat×Operand)}{G:Prop}{K:D→Prop}(h:HB T t ps.toList e G K):jT P A ⟨dst,.build t ps,ty,pos,ar,g⟩ e G K:=by
 obtain⟨ps⟩:=ps;unfold HB at h;split at h
 ·rename_i fs ds pl hu hz hp;cases hb:pl.all (fun x=>!Nat.beq x.2 0)with
  |false=>simp only[hb,cond_false]at h;exact .inl h
  |true=>
   simp only[hb,cond_true]at h;obtain⟨c_,h1,h2⟩:=LO _ _ _ h;obtain⟨cs,h3,h4⟩:=PA pl hb _ _ _ h2;obtain⟨z,h5,rfl⟩:=(hT.ty t).zc _ hz;have BA:=(hT.ty t).u _ hu;exact .of (fun _=>pZ (xs:=ps) BA h5 ((hT.ty t).pl _ hp _ BA) h1 h3) h4
 ·rename_i _ n el ds hu hz;split at h
  ·rename_i sz hs;cases hb:Nat.beq sz 0 with
   |true=>simp only[hb,cond_true]at h;exact .inl h
   |false=>
    simp only[hb,cond_false]at h;obtain⟨c_,h1,h2⟩:=LO _ _ _ h;obtain⟨cs,h3,h4⟩:=Py sz (by intro e;subst e;simp at hb) _ _ _ h2;obtain⟨z,h5,rfl⟩:=(hT.ty t).zc _ hz;exact .of (fun _ _=>ajz (xs:=ps) ((hT.ty t).u _ hu) h5 ((hT.ty el).sz _ hs) h1 h3) h4
  ·exact .inl h
 ·exact .inl h
end
section
variable{P:Program} {T:TypeId→bx} {A:Prop} {e:Env} {dst:Option Tmp} {ty:TypeId} {pos:String} {ar:Array Edge} {g:Option (Nat×Bool)} {U:ae}
theorem agT(hT:mL P T){t:TypeId}{x:Operand}{K:KK}(h:KG T t (e.op x) U (cu P A ⟨dst,.load t x,ty,pos,ar,g⟩ e U K) fun k d=>K k d U):cu P A ⟨dst,.load t x,ty,pos,ar,g⟩ e U K:=by
 unfold KG at h;split at h
 ·rename_i cs hx;split at h
  ·rename_i ha;cases cs with
   |nil=>exact h
   |cons d cs=>exact gP (fun _=>bP ((hT.ty t).agg _ ha) hx) h
  ·rename_i n ha hs;cases hb:nS cs n with
   |true=>simp only[hb,cond_true]at h;exact gP (fun _=>tN ((hT.ty t).agg _ ha) ((hT.ty t).sz _ hs) hx (y8 _ _ hb)) h
   |false=>
    simp only[hb,cond_false]at h;obtain⟨h1,h2⟩:=GJ _ _ _ h;exact gP (fun _=>ajP ((hT.ty t).agg _ ha) ((hT.ty t).sz _ hs) hx h1 rfl) h2
  ·exact h
 ·rename_i id off hx;split at h
  ·rename_i ds ho;split at h
   ·rename_i ha;split at h
    ·rename_i d hd;rw[s_]at hd;exact gR (fun _=>iV ((hT.ty t).agg _ ha) hx ho hd) h
    ·exact h
   ·rename_i n ha hs;cases hb:(Nat.beq off 0&&nS ds n)with
    |true=>
     simp only[hb,cond_true]at h;simp only[Bool.and_eq_true,Nat.beq_eq]at hb;obtain⟨rfl,hb⟩:=hb;exact gR (fun _=>zZ ((hT.ty t).agg _ ha) ((hT.ty t).sz _ hs) hx ho (y8 _ _ hb)) h
    |false=>
     simp only[hb,cond_false]at h;obtain⟨h1,h2⟩:=DX _ _ _ h;obtain⟨h3,h4⟩:=GJ _ _ _ h2;exact gR (fun _=>Vt ((hT.ty t).agg _ ha) ((hT.ty t).sz _ hs) hx ho (by simp at h3;omega) rfl) h4
   ·exact h
  ·exact h
 ·exact h
theorem alA(hT:mL P T){t:TypeId}{x y:Operand}{K:KK}(h:MA T t (e.op x) (e.op y) U (cu P A ⟨dst,.store t x y,ty,pos,ar,g⟩ e U K) fun d o=>K .w d o):cu P A ⟨dst,.store t x y,ty,pos,ar,g⟩ e U K:=by
 unfold MA at h;split at h
 ·rename_i id off d hx hy;split at h
  ·rename_i ds ho;split at h
   ·rename_i n hs;cases hb:(nS d.iz n&&d.mC&&!Nat.beq n 0)with
    |false=>simp only[hb,cond_false]at h;exact h
    |true=>
     simp only[hb,cond_true]at h;simp only[Bool.and_eq_true,Bool.not_eq_true']at hb;obtain⟨⟨hl,aj⟩,h0⟩:=hb;have hlen:=y8 _ _ hl;obtain⟨h1,h2⟩:=CT _ _ _ _ h;have h3:=Um _ _ _ _ h2;have aD:n≠0:=by intro e;subst e;simp at h0
     have eY:=h1 (LA hlen aD);have gv:=(hT.ty t).sz _ hs;cases d with
     |agg cs=>exact gW (fun _=>Vy gv hx hy hlen (aiC aj) ho (by simp only[D.iz]at eY hlen;omega)) h3
     |_=>
      simp only[D.iz,List.length_singleton]at hlen eY;subst hlen;exact gW (fun _=>r8 gv hx hy (by simpa[D.mC]using aj) ho zO) h3
   ·exact h
  ·exact h
 ·exact h
theorem YE{t:TypeId}{x:Operand}{K:KK}(h:HA (e.op x) U (cu P A ⟨dst,.box t x,ty,pos,ar,g⟩ e U K) fun d o=>K .w d o):cu P A ⟨dst,.box t x,ty,pos,ar,g⟩ e U K:=by
 unfold HA at h;split at h
 ·rename_i cs hx;obtain⟨id,h1,h2⟩:=Em _ _ _ h;exact gW (fun _=>Gg id hx h1) h2
 ·rename_i d _ hx;cases hb:d.one with
  |false=>simp only[hb,cond_false]at h;exact h
  |true=>
   simp only[hb,cond_true]at h;obtain⟨id,h1,h2⟩:=Em _ _ _ h;exact gW (fun _=>LY id hx hb h1) h2
 ·exact h
end
end Go.T
namespace Go.T
open Go
variable[bX]
structure jl(ops:List Oper)(E:Env)(x:GE):Prop where
 dst:(ops.toArray[x.g]?).bind (·.dst)=some x.t
 val:∃pc p,E.get x.t=some (bif pc then .raw (.bool p)else .raw undef)∧x.c=(pc&&(bif x.b then p else !p))
 env:x.c=true→Lq x.env E
 ws:∀t d,x.ws.get t=some d→d=.any∨E.get t=some (bif x.c then d else .raw undef)
theorem jl.guard{ops:List Oper}{E:Env}{x:GE}(h:jl ops E x){p:Bool}(he:E.get x.t=some (.raw (.bool p))):x.c=(bif x.b then p else !p):=by
 obtain⟨pc,q,h1,h2⟩:=h.val;rw[he]at h1;cases pc with
 |false=>simp[undef]at h1
 |true=>simp only[cond_true,Option.some.injEq,D.raw.injEq,Value.bool.injEq]at h1;subst h1;simpa using h2
theorem jl.uniq{ops:List Oper}{E:Env}{x y:GE}(h:jl ops E x)(h':jl ops E y)(hg:x.g=y.g)(hb:x.b=y.b):x.c=y.c:=by
 have ht:x.t=y.t:=by
  have:=h.dst;rw[hg,h'.dst]at this;exact(Option.some.inj this).symm
 obtain⟨pc,p,h1,h2⟩:=h.val;obtain⟨pc',p',h3,h4⟩:=h'.val;rw[ht,h3]at h1;cases pc<;>cases pc'<;>simp_all[undef]
theorem IK:∀{gs:List GE}{t:Nat}{b:Bool}{z:GE},yn gs t b=some z→z∈gs∧z.t=t∧z.b=b
 |[],t,b,z,h=>by simp[yn]at h
 |x::r,t,b,z,h=>by
  simp only[yn]at h;cases hb:(Nat.beq x.t t&&uv x.b b)with
  |true=>
   simp only[hb,cond_true,Option.some.injEq]at h;subst h;simp only[Bool.and_eq_true,Nat.beq_eq]at hb;exact⟨List.mem_cons_self,hb.1,Ip hb.2⟩
  |false=>
   simp only[hb,cond_false]at h;obtain⟨h1,h2⟩:=IK h;exact⟨List.mem_cons_of_mem _ h1,h2⟩
theorem ajj{P:Program}{A:Prop}{e E:Env}{dst:Option Tmp}{ty:TypeId}{pos:String}{ar:Array Edge}{g:Option (Nat×Bool)}{ops:List Oper}{gs:List GE}{c x y:Operand}{G:Prop}{K:D→Prop}(hl:A→Lq e E)(hg:∀z∈gs,jl ops E z)(h:LP gs c x y e G K):jT P A ⟨dst,.pick c x y,ty,pos,ar,g⟩ E G K:=by
 unfold LP at h;split at h
 ·rename_i b tc hc;have EJ:A→E.get tc=some (.raw (.bool b)):=fun a=>by
   rcases hl a tc _ hc with h|h
   ·cases h
   ·exact h
  split at h
  ·rename_i tx;split at h
   ·rename_i z hz;obtain⟨h1,rfl,h3⟩:=IK hz;split at h
    ·rename_i q hq;refine .of (fun a=>?_) h;have hz:=(hg z h1).guard (EJ a);rw[h3,cond_true]at hz;have hw:=((hg z h1).ws _ _ hq).resolve_left zS;rw[hz]at hw;exact gO (c:=.tmp z.t) (x:=.tmp tx) (EJ a) hw
    ·exact .inl h
   ·exact .inl h
  ·rename_i tx;split at h
   ·rename_i z hz;obtain⟨h1,rfl,h3⟩:=IK hz;split at h
    ·rename_i q hq;refine .of (fun a=>?_) h;have hz:=(hg z h1).guard (EJ a);rw[h3,cond_false]at hz;have hw:=((hg z h1).ws _ _ hq).resolve_left zS;rw[hz]at hw;exact nw (c:=.tmp z.t) (y:=.tmp tx) (EJ a) hw
    ·exact .inl h
   ·exact .inl h
  ·exact .inl h
 ·exact .inl h
theorem jT.snd{P:Program}{A:Prop}{o:Oper}{e:Env}{U:ae}{K:KK}(h:jT P A o e (cu P A o e U K) fun d=>K .p d U):cu P A o e U K:=by
 rcases h with h|⟨d,h1,h2⟩
 ·exact h
 ·exact gP h1 h2
theorem cu.lq{P:Program}{A:Prop}{o:Oper}{e E:Env}{U:ae}{K:KK}(hl:A→Lq e E)(h:cu P A o e U K):cu P A o E U K:=by
 obtain⟨k,d,am,h1,h2⟩:=h.out;exact⟨k,d,am,fun a=>(h1 a).lq (hl a),h2⟩
theorem UF{P:Program}{T:TypeId→bx}(hT:mL P T){A:Prop}{ops:List Oper}{gs:List GE}{o:Oper}{e E:Env}{U:ae}{K:KK}(hl:A→Lq e E)(hg:∀z∈gs,jl ops E z)(h:F3 T P A gs o e U K):cu P A o E U K:=by
 obtain⟨dst,op,ty,pos,ar,g⟩:=o;unfold F3 at h;split at h
 ·rename_i x ho;cases ho;refine cu.lq hl ?_;split at h
  ·rename_i d hx;exact gP (fun _=>aT hx) h
  ·exact gP (fun _=>ajV) h
 ·rename_i x ho;cases ho;refine cu.lq hl ?_;split at h
  ·rename_i d hx;exact gP (fun _=>zX hx) h
  ·exact h
 ·rename_i ho;cases ho;exact cu.lq hl (Yx hT h).snd
 ·rename_i ho;cases ho;exact cu.lq hl (anB h).snd
 ·rename_i ho;cases ho;exact cu.lq hl (ZO hT h).snd
 ·rename_i ho;cases ho;refine cu.lq hl ?_;split at h
  ·rename_i ds hx;split at h
   ·rename_i d hd;rw[s_]at hd;exact gP (fun _=>eC hx hd) h
   ·exact h
  ·exact h
 ·rename_i fn xs ys ho;cases ho;refine cu.lq hl ?_;obtain⟨as,h1,h2⟩:=LF _ _ _ h;obtain⟨bs,h3,h4⟩:=LF _ _ _ h2;exact gP (fun _=>by simpa using L3 (xs:=xs.toList) (ys:=ys.toList) h1 h3) h4
 ·rename_i ho;cases ho;exact cu.lq hl (ah_ h).snd
 ·rename_i ho;cases ho;exact cu.lq hl (agT hT h)
 ·rename_i ho;cases ho;exact cu.lq hl (alA hT h)
 ·rename_i ho;cases ho;exact cu.lq hl (acs hT h).snd
 ·rename_i ho;cases ho;exact cu.lq hl (ack hT h).snd
 ·rename_i ho;cases ho;exact cu.lq hl (afh hT h).snd
 ·rename_i ho;cases ho;exact cu.lq hl (afc hT h).snd
 ·rename_i t ho;cases ho;refine cu.lq hl ?_;split at h
  ·rename_i ds hz;obtain⟨z,h5,rfl⟩:=(hT.ty t).zc _ hz;obtain⟨id,h1,h2⟩:=Em _ _ _ h;exact gW (fun _=>jh id h5 h1) h2
  ·exact h
 ·rename_i ho;cases ho;exact cu.lq hl (YE h)
 ·rename_i ho;cases ho;exact cu.lq hl (YH hT h).snd
 ·rename_i ho;cases ho;rcases ajj hl hg h with h|⟨d,h1,h2⟩
  ·exact cu.lq hl h
  ·exact gP h1 h2
 ·rename_i ho;cases ho;exact cu.lq hl (YS hT h).snd
 ·exact cu.lq hl h
def ym:List GE→Nat→Bool→Option GE
 |[],_,_=>none
 |x::r,g,b=>bif Nat.beq x.g g&&uv x.b b then some x else ym r g b
theorem IH:∀{gs:List GE}{t:Nat}{b:Bool}{z:GE},ym gs t b=some z→z∈gs∧z.g=t∧z.b=b
 |[],t,b,z,h=>by simp[ym]at h
 |x::r,t,b,z,h=>by
  simp only[ym]at h;cases hb:(Nat.beq x.g t&&uv x.b b)with
  |true=>
   simp only[hb,cond_true,Option.some.injEq]at h;subst h;simp only[Bool.and_eq_true,Nat.beq_eq]at hb;exact⟨List.mem_cons_self,hb.1,Ip hb.2⟩
  |false=>
   simp only[hb,cond_false]at h;obtain⟨h1,h2⟩:=IH h;exact⟨List.mem_cons_of_mem _ h1,h2⟩
def Hg(gs:List GE)(k:List GE→GE→Prop)(x:GE):Prop:=k (x::gs) x
def pa:Bool→Bool→Bool
 |true,p=>p
 |false,p=>!p
def MP(ops:List Oper)(gs:List GE)(e:Env)(g:Nat)(b:Bool)(k:List GE→GE→Prop):Prop:=
 match ym gs g b with
 |some x=>k gs x
 |none=>match oC ops g with
  |some og=>match og.dst,og.guard with
   |some t,none=>match e.get t with
    |some (.raw (.bool p))=>Hg gs k ⟨g,b,t,pa b p,e,[]⟩
    |_=>False
   |some t,some (g',b')=>match ym gs g' b' with
    |some y=>match y.ws.get t with
     |some (.raw (.bool p))=>Hg gs k ⟨g,b,t,y.c&&pa b p,y.env,[]⟩
     |_=>False
    |none=>False
   |_,_=>False
  |none=>False
theorem Xd(b p:Bool):pa b p=(bif b then p else !p):=by cases b<;>rfl
theorem an5{ops:List Oper}{gs:List GE}{e E:Env}{g:Nat}{b:Bool}{k:List GE→GE→Prop}(hl:Lq e E)(hg:∀z∈gs,jl ops E z)(h:MP ops gs e g b k):∃fQ x,(∀z∈fQ,jl ops E z)∧x∈fQ∧x.g=g∧x.b=b∧k fQ x:=by
 unfold MP at h;split at h
 ·rename_i x hx;obtain⟨h1,h2,h3⟩:=IH hx;exact⟨gs,x,hg,h1,h2,h3,h⟩
 ·split at h
  ·rename_i og ho;rw[s_]at ho;have new:∀x:GE,jl ops E x→x.g=g→x.b=b→Hg gs k x→∃fQ x,(∀z∈fQ,jl ops E z)∧x∈fQ∧x.g=g∧x.b=b∧k fQ x:=by
    intro x hx h1 h2 h3;refine⟨x::gs,x,fun z hz=>?_,List.mem_cons_self,h1,h2,h3⟩;rcases List.mem_cons.1 hz with rfl|hz
    ·exact hx
    ·exact hg z hz
   split at h
   ·rename_i t hd _;split at h
    ·rename_i p hp;refine new _ ⟨?_,⟨true,p,?_,?_⟩,fun _=>hl,fun t d h=>by simp[Env.get]at h⟩ rfl rfl h
     ·simp[ho,hd]
     ·exact(hl t _ hp).resolve_left zS
     ·simp[Xd]
    ·exact h.elim
   ·rename_i t g' b' hd _;split at h
    ·rename_i y hy;obtain⟨h1,h2,h3⟩:=IH hy;split at h
     ·rename_i p hp;refine new _ ⟨?_,⟨y.c,p,?_,?_⟩,fun hc=>?_,fun t d h=>by simp[Env.get]at h⟩ rfl rfl h
      ·simp[ho,hd]
      ·exact((hg y h1).ws _ _ hp).resolve_left zS
      ·simp[Xd]
      ·simp only[Bool.and_eq_true]at hc;exact(hg y h1).env hc.1
     ·exact h.elim
    ·exact h.elim
   ·exact h.elim
  ·exact h.elim
def CB(t:Nat)(d:D):List GE→(List GE→Prop)→Prop
 |[],k=>k []
 |⟨g,b,t',c,env,ws⟩::r,k=>bif Nat.beq t' t then CB t d r k else CB t d r fun r'=>k (⟨g,b,t',c,(t,d)::env,(t,.any)::ws⟩::r')
theorem LV{ops:List Oper}{E:Env}{t:Nat}{d:D}:∀{gs:List GE}{k:List GE→Prop},(∀z∈gs,jl ops E z)→CB t d gs k→∃fQ,(∀z∈fQ,jl ops ((t,d)::E) z)∧k fQ
 |[],k,_,h=>⟨[],by simp,h⟩
 |⟨g,b,t',c,env,ws⟩::r,k,hg,h=>by
  simp only[CB]at h;cases hb:Nat.beq t' t with
  |true=>simp only[hb,cond_true]at h;exact LV (fun z hz=>hg z (List.mem_cons_of_mem _ hz)) h
  |false=>
   simp only[hb,cond_false]at h;have aD:¬t=t':=by rintro rfl;simp at hb
   obtain⟨fQ,h1,h2⟩:=LV (fun z hz=>hg z (List.mem_cons_of_mem _ hz)) h;refine⟨_,fun z hz=>?_,h2⟩;rcases List.mem_cons.1 hz with rfl|hz
   ·have h0:=hg _ List.mem_cons_self;obtain⟨pc,p,h3,h4⟩:=h0.val;refine⟨h0.dst,⟨pc,p,?_,h4⟩,fun hc=>(h0.env hc).put t d,fun s x hx=>?_⟩
    ·rw[Env.bf,if_neg aD];exact h3
    ·rw[Env.bf]at hx⊢;by_cases e:t=s
     ·rw[if_pos e]at hx;cases hx;exact .inl rfl
     ·rw[if_neg e]at hx⊢;exact h0.ws s x hx
   ·exact h1 z hz
def vi(g0:Nat)(b0:Bool)(t:Nat)(d:D):List GE→(List GE→Prop)→Prop
 |[],k=>k []
 |⟨g,b,t',c,env,ws⟩::r,k=>bif Nat.beq t' t then vi g0 b0 t d r k else bif Nat.beq g g0&&uv b b0 then vi g0 b0 t d r fun r'=>k (⟨g,b,t',c,(t,d)::env,(t,d)::ws⟩::r')
   else vi g0 b0 t d r fun r'=>k (⟨g,b,t',c,(t,.any)::env,(t,.any)::ws⟩::r')
theorem Gf{ops:List Oper}{E:Env}{t:Nat}{d:D}{x:GE}(hx:jl ops E x):∀{gs:List GE}{k:List GE→Prop},(∀z∈gs,jl ops E z)→vi x.g x.b t d gs k→∃fQ,(∀z∈fQ,jl ops ((t,bif x.c then d else .raw undef)::E) z)∧k fQ
 |[],k,_,h=>⟨[],by simp,h⟩
 |⟨g,b,t',c,env,ws⟩::r,k,hg,h=>by
  simp only[vi]at h;cases hb:Nat.beq t' t with
  |true=>simp only[hb,cond_true]at h;exact Gf hx (fun z hz=>hg z (List.mem_cons_of_mem _ hz)) h
  |false=>
   simp only[hb,cond_false]at h;have aD:¬t=t':=by rintro rfl;simp at hb
   have h0:=hg _ List.mem_cons_self;obtain⟨pc,p,h3,h4⟩:=h0.val;cases hk:(Nat.beq g x.g&&uv b x.b)with
   |true=>
    simp only[hk,cond_true]at h;simp only[Bool.and_eq_true,Nat.beq_eq]at hk;have hc:x.c=c:=hx.uniq h0 hk.1.symm (Ip hk.2).symm;obtain⟨fQ,h1,h2⟩:=Gf hx (fun z hz=>hg z (List.mem_cons_of_mem _ hz)) h;refine⟨_,fun z hz=>?_,h2⟩;rcases List.mem_cons.1 hz with rfl|hz
    ·refine⟨h0.dst,⟨pc,p,?_,h4⟩,fun yC=>?_,fun s y hy=>?_⟩
     ·rw[Env.bf,if_neg aD];exact h3
     ·have:x.c=true:=hc.trans yC;rw[this,cond_true];exact(h0.env yC).put t d
     ·rw[Env.bf]at hy⊢;by_cases e:t=s
      ·rw[if_pos e]at hy⊢;cases hy;exact .inr (by rw[hc])
      ·rw[if_neg e]at hy⊢;exact h0.ws s y hy
    ·exact h1 z hz
   |false=>
    simp only[hk,cond_false]at h;obtain⟨fQ,h1,h2⟩:=Gf hx (fun z hz=>hg z (List.mem_cons_of_mem _ hz)) h;refine⟨_,fun z hz=>?_,h2⟩;rcases List.mem_cons.1 hz with rfl|hz
    ·refine⟨h0.dst,⟨pc,p,?_,h4⟩,fun yC=>(h0.env yC).Ve t _,fun s y hy=>?_⟩
     ·rw[Env.bf,if_neg aD];exact h3
     ·rw[Env.bf]at hy⊢;by_cases e:t=s
      ·rw[if_pos e]at hy;cases hy;exact .inl rfl
      ·rw[if_neg e]at hy⊢;exact h0.ws s y hy
    ·exact h1 z hz
theorem VS(k:Kind)(ks fG:List Kind):fG.reverse++(k::ks)=(k::fG).reverse++ks:=by simp
theorem anS{b p:Bool}(h:(bif b then p else !p)=true):p=b:=by cases b<;>cases p<;>first|rfl|cases h
theorem anR{b p:Bool}(h:(bif b then p else !p)=false):p=!b:=by cases b<;>cases p<;>first|rfl|cases h
theorem jl.on{ops:List Oper}{E:Env}{x:GE}(h:jl ops E x){o:Oper}(ho:o.guard=some (x.g,x.b))(hc:x.c=true):On ops.toArray E o:=by
 obtain⟨pc,p,h1,h2⟩:=h.val;rw[hc]at h2;cases pc with
 |false=>cases h2
 |true=>exact eB ho h.dst h1 (anS h2.symm)
theorem jl.off{ops:List Oper}{E:Env}{x:GE}(h:jl ops E x){o:Oper}(ho:o.guard=some (x.g,x.b))(hc:x.c=false):si ops.toArray E o:=by
 obtain⟨pc,p,h1,h2⟩:=h.val;rw[hc]at h2;cases pc with
 |false=>exact Lx ho h.dst h1
 |true=>exact gf ho h.dst h1 (anR h2.symm)
end Go.T
namespace Go.T
open Go
variable[bX]
theorem pj.lq{F:Fr}{C:Ctx}{e E:Env}{U:ae}{a:Act}{w:World}{ρ:az}(hl:Lq e E)(h:pj F C E U a w ρ):pj F C e U a w ρ:=
 ⟨h.keep,h.tr,fun t d hd=>by
  rcases hl t d hd with rfl|hd
  ·simp[V]
  ·exact h.env t d hd,h.size,h.marks,h.rd,h.yl,h.gl⟩
theorem WP.Xe{P:Program}{F:Fr}{c:Code}{Q Q':Exit→Env→ae→Prop}{env:Env}{U:ae}(h:WP P F c Q env U)(hq:∀x E o,Q x E o→∃e,Lq e E∧Q' x e o):WP P F c Q' env U:=
 ⟨fun C a w hs=>wpIn_mono (h.out C a w hs) fun x a' w' ⟨E,o,h1,ρ,h2⟩=>by
  obtain⟨e,h3,h4⟩:=hq x E o h1;exact⟨e,o,h4,ρ,h2.lq h3⟩⟩
theorem cz.pull{P:Program}{N:Nat}{ops:Array Oper}{S:Prop}{K:Env→ae→Prop}{l:List Oper}{ks:List Kind}{env:Env}{U:ae}(h:cz P N ops K l ks env U)(hs:∀e o,K e o→S):S:=by
 induction h with
 |nil h=>exact hs _ _ h
 |p _ _ _ _ ih=>exact ih
 |r _ _ _ _ ih=>exact ih
 |w _ _ _ _ ih=>exact ih
 |off _ _ _ ih=>exact ih
def C0:List Nat→Nat→Bool
 |[],_=>false
 |s::r,i=>bif Nat.beq s i then true else C0 r i
structure Ord(ops:Array Oper)(ks:List Kind)(K:Prop):Prop where
 ok:jO ops ks=true
 k:K
theorem ord{ops:Array Oper}{ks:List Kind}{K:Prop}(k:K)(h:jO ops ks=true:=by decide+kernel):Ord ops ks K:=⟨h,k⟩
structure Dk(b:Bool)(A B:Prop):Prop where
 t:b=true→A
 f:b=false→B
inductive S where
 |code (cs:List Code) (fr:List (Nat×List Code)) (e:Env) (U:ae)
 |af (ops:Array Oper) (dr:Bool) (l:List Oper) (ks:List Kind) (gs:List GE) (e:Env) (cs:List Code) (fr:List (Nat×List Code)) (U:ae)
def gD(P:Program)(F:Fr)(Q:Exit→Env→ae→Prop):List (Nat×List Code)→Exit→Env→ae→Prop
 |[]=>Q
 |(id,cs)::fr=>bq id (J P F cs (gD P F Q fr)) (gD P F Q fr)
def Co:List (Nat×List Code)→Nat→Option (List Code×List (Nat×List Code))
 |[],_=>none
 |(id,cs)::fr,i=>bif Nat.beq i id then some (cs,fr)else Co fr i
def hG(T:TypeId→bx)(P:Program)(F:Fr)(stop:List Nat)(Q:Exit→Env→ae→Prop):Nat→S→Prop
 |0,.code cs fr e U=>J P F cs (gD P F Q fr) e U
 |0,.af ..=>False
 |n+1,.code cs fr e U=>match cs with
  |[]=>match fr with
   |[]=>Q .normal e U
   |(_,cs)::fr=>hG T P F stop Q n (.code cs fr e U)
  |c::cs=>match c with
   |.seq a b=>hG T P F stop Q n (.code (a::b::cs) fr e U)
   |.skip=>hG T P F stop Q n (.code cs fr e U)
   |.block id b=>hG T P F stop Q n (.code [b] ((id,cs)::fr) e U)
   |.exit id=>match Co fr id with
    |some (cs,fr)=>hG T P F stop Q n (.code cs fr e U)
    |none=>Q (.exit id) e U
   |.ret=>bif C0 stop 99999 then J P F (.ret::cs) (gD P F Q fr) e U else Q .ret e U
   |.cond x a b=>match e.op x with
    |some (.raw (.bool v))=>Dk v (hG T P F stop Q n (.code (a::cs) fr e U)) (hG T P F stop Q n (.code (b::cs) fr e U))
    |_=>J P F (.cond x a b::cs) (gD P F Q fr) e U
   |.region id ops dr=>bif C0 stop id then J P F (.region id ops dr::cs) (gD P F Q fr) e U else hG T P F stop Q n (.af ops dr ops.toList [] [] e cs fr U)
   |c=>J P F (c::cs) (gD P F Q fr) e U
 |n+1,.af ops dr l ks gs e cs fr U=>match l with
  |[]=>match dr with
   |false=>hG T P F stop Q n (.code cs fr e U)
   |true=>Ord ops ks.reverse (hG T P F stop Q n (.code cs fr e U))
  |o::l=>match o.guard with
   |none=>F3 T P True gs o e U fun k d am=>match o.dst with
    |none=>hG T P F stop Q n (.af ops dr l (k::ks) gs e cs fr am)
    |some t=>bif Nat.blt t F.N then CB t d gs fun fQ=>hG T P F stop Q n (.af ops dr l (k::ks) fQ ((t,d)::e) cs fr am)else False
   |some (g,b)=>MP ops.toList gs e g b fun gs x=>F3 T P (x.c=true) gs o x.env U fun k d _=>match k with
    |.w=>False
    |.p=>match o.dst with
     |none=>hG T P F stop Q n (.af ops dr l (.p::ks) gs e cs fr U)
     |some t=>bif Nat.blt t F.N then vi g b t d gs fun fQ=>hG T P F stop Q n (.af ops dr l (.p::ks) fQ ((t,.any)::e) cs fr U)else False
    |.r=>match o.dst with
     |none=>hG T P F stop Q n (.af ops dr l (.r::ks) gs e cs fr U)
     |some t=>bif Nat.blt t F.N then vi g b t d gs fun fQ=>hG T P F stop Q n (.af ops dr l (.r::ks) fQ ((t,.any)::e) cs fr U)else False
def Says(P:Program)(F:Fr)(Q:Exit→Env→ae→Prop):S→Prop
 |.code cs fr e U=>J P F cs (gD P F Q fr) e U
 |.af ops dr l ks gs e cs fr U=>∀E,Lq e E→(∀z∈gs,jl ops.toList E z)→∃fG,cz P F.N ops.toList.toArray (fun E' o=>∃e',Lq e' E'∧(dr=true→jO ops (fG.reverse++ks).reverse=true)∧J P F cs (gD P F Q fr) e' o) l fG E U
theorem J.exitTo{P:Program}{F:Fr}{Q:Exit→Env→ae→Prop}{e:Env}{U:ae}{id:Nat}:∀(fr:List (Nat×List Code)),(match Co fr id with
  |some (cs,fr)=>J P F cs (gD P F Q fr) e U
  |none=>Q (.exit id) e U)→gD P F Q fr (.exit id) e U
 |[],h=>h
 |(i,cs)::fr,h=>by
  simp only[Co]at h;simp only[gD,bq];cases hb:Nat.beq id i with
  |true=>simp only[hb,cond_true]at h⊢;exact h
  |false=>simp only[hb,cond_false]at h⊢;exact J.exitTo fr h
theorem PT{P:Program}{F:Fr}{Q:Exit→Env→ae→Prop}{e:Env}{U:ae}:∀(fr:List (Nat×List Code)),Q .ret e U→gD P F Q fr .ret e U
 |[],h=>h
 |(i,cs)::fr,h=>by simp only[gD,bq];exact PT fr h
theorem pw{T:TypeId→bx}{P:Program}(hT:mL P T){F:Fr}{stop:List Nat}{Q:Exit→Env→ae→Prop}:∀(n:Nat)(s:S),hG T P F stop Q n s→Says P F Q s
 |0,.code cs fr e U,h=>h
 |0,.af ..,h=>h.elim
 |n+1,.code [] [] e U,h=>⟨h⟩
 |n+1,.code [] ((i,cs)::fr) e U,h=>⟨(pw hT n (.code cs fr e U) h:J P F cs (gD P F Q fr) e U)⟩
 |n+1,.code (c::cs) fr e U,h=>by
  cases c with
  |seq a b=>exact J.seq (pw hT n (.code (a::b::cs) fr e U) h)
  |skip=>exact J.skip (pw hT n (.code cs fr e U) h)
  |block id b=>exact J.block (pw hT n (.code [b] ((id,cs)::fr) e U) h)
  |exit id=>
   refine J.exit (J.exitTo fr ?_);simp only[hG]at h;cases ho:Co fr id with
   |none=>simp only[ho]at h⊢;exact h
   |some x=>
    obtain⟨ZU,fr'⟩:=x;simp only[ho]at h⊢;exact pw hT n (.code ZU fr' e U) h
  |ret=>
   simp only[hG]at h;cases hs:C0 stop 99999 with
   |true=>simp only[hs,cond_true]at h;exact h
   |false=>simp only[hs,cond_false]at h;exact J.ret (PT fr h)
  |cond x a b=>
   simp only[hG]at h;split at h
   ·rename_i v hv;exact J.cond hv (fun k=>pw hT n (.code (a::cs) fr e U) (h.t k)) (fun k=>pw hT n (.code (b::cs) fr e U) (h.f k))
   ·exact h
  |region id ops dr=>
   simp only[hG]at h;cases hs:C0 stop id with
   |true=>simp only[hs,cond_true]at h;exact h
   |false=>
    simp only[hs,cond_false]at h;have Rj:ops=ops.toList.toArray:=by simp
    obtain⟨ks,h1⟩:=pw hT n (.af ops dr ops.toList [] [] e cs fr U) h e (Lq.refl e) zS;show J P F (.region id ops dr::cs) (gD P F Q fr) e U;have fin:∀x E o,jS (fun E o=>∃e,Lq e E∧(dr=true→jO ops (ks.reverse++[]).reverse=true)∧J P F cs (gD P F Q fr) e o) (gD P F Q fr) x E o→∃e,Lq e E∧jS (od P F cs (gD P F Q fr)) (gD P F Q fr) x e o:=by
     intro x E o hx;cases x with
     |normal=>obtain⟨e,h2,_,h3⟩:=hx;exact⟨e,h2,h3.out⟩
     |_=>exact⟨E,Lq.refl E,hx⟩
    cases dr with
    |false=>
     rw[Rj];exact⟨WP.Xe (WP.region (Q:=jS (fun E o=>∃e,Lq e E∧(false=true→jO ops (List.reverse (List.reverse ks++([]:List Kind)))=true)∧J P F cs (gD P F Q fr) e o) (gD P F Q fr)) h1) fin⟩
    |true=>
     have aj:jO ops.toList.toArray ks=true:=by
      have:=h1.pull fun E o ⟨e,_,h3,_⟩=>h3 rfl;simpa using this
     rw[Rj];exact⟨WP.Xe (WP.VI (Q:=jS (fun E o=>∃e,Lq e E∧(true=true→jO ops (List.reverse (List.reverse ks++([]:List Kind)))=true)∧J P F cs (gD P F Q fr) e o) (gD P F Q fr)) hT.mixed aj h1) fin⟩
  |_=>exact h
 |n+1,.af ops dr [] ks gs e cs fr U,h=>fun E hl hg=>by
  refine⟨[],.nil ⟨e,hl,?_⟩⟩;simp only[hG]at h;cases dr with
  |false=>exact⟨(fun h=>by cases h),pw hT n (.code cs fr e U) h⟩
  |true=>exact⟨fun _=>h.ok,pw hT n (.code cs fr e U) h.k⟩
 |n+1,.af ops dr (o::l) ks gs e cs fr U,h=>fun E hl hg=>by
  have ih:∀(k:Kind)(fQ:List GE)(e':Env)(am:ae)(E':Env),hG T P F stop Q n (.af ops dr l (k::ks) fQ e' cs fr am)→Lq e' E'→(∀z∈fQ,jl ops.toList E' z)→
    ∃fG,cz P F.N ops.toList.toArray (fun E' o=>∃e',Lq e' E'∧(dr=true→jO ops (fG.reverse++(k::ks)).reverse=true)∧J P F cs (gD P F Q fr) e' o) l fG E' am:=
   fun k fQ e' am E' h h1 h2=>pw hT n (.af ops dr l (k::ks) fQ e' cs fr am) h E' h1 h2
  simp only[hG]at h;split at h
  ·rename_i Bh;obtain⟨k,d,am,h1,h2⟩:=(UF hT (fun _=>hl) hg h).out;have h1:=h1 trivial;have J4:On ops.toList.toArray E o:=by simp[On,Bh]
   have step:∀(fG:List Kind),dR F.N o.dst=true→cz P F.N ops.toList.toArray (fun E' o=>∃e',Lq e' E'∧(dr=true→jO ops (fG.reverse++(k::ks)).reverse=true)∧J P F cs (gD P F Q fr) e' o) l fG (E.put o.dst d) am→
     ∃fG,cz P F.N ops.toList.toArray (fun E' o=>∃e',Lq e' E'∧(dr=true→jO ops (fG.reverse++ks).reverse=true)∧J P F cs (gD P F Q fr) e' o) (o::l) fG E U:=by
    intro fG hd hk;rw[VS]at hk;refine⟨k::fG,?_⟩;cases k with
    |p=>obtain⟨hq,rfl⟩:=h1;exact .p hd J4 hq hk
    |r=>obtain⟨hq,rfl⟩:=h1;exact .r hd J4 hq hk
    |w=>exact .w hd J4 h1 hk
   split at h2
   ·rename_i hd;obtain⟨fG,h3⟩:=ih k gs e am E h2 hl hg;exact step fG (by rw[hd];rfl) (by rw[hd];exact h3)
   ·rename_i t hd;cases hb:Nat.blt t F.N with
    |false=>simp only[hb,cond_false]at h2
    |true=>
     simp only[hb,cond_true]at h2;obtain⟨fQ,h3,h4⟩:=LV hg h2;obtain⟨fG,h5⟩:=ih k fQ _ am _ h4 (hl.put t d) h3;exact step fG (by rw[hd];exact hb) (by rw[hd];exact h5)
  ·rename_i g b Bh;obtain⟨Jf,x,jr,BG,rfl,rfl,h⟩:=an5 hl hg h;have hx:=jr x BG;obtain⟨k,d,am,h1,h2⟩:=(UF hT hx.env jr h).out;have step:∀(k:Kind)(fG:List Kind),k≠.w→(x.c=true→SK P o E U k d am)→dR F.N o.dst=true→cz P F.N ops.toList.toArray (fun E' o=>∃e',Lq e' E'∧(dr=true→jO ops (fG.reverse++(k::ks)).reverse=true)∧J P F cs (gD P F Q fr) e' o) l fG (E.put o.dst (bif x.c then d else .raw undef)) U→
     ∃fG,cz P F.N ops.toList.toArray (fun E' o=>∃e',Lq e' E'∧(dr=true→jO ops (fG.reverse++ks).reverse=true)∧J P F cs (gD P F Q fr) e' o) (o::l) fG E U:=by
    intro k fG ml h1 hd hk;rw[VS]at hk;refine⟨k::fG,?_⟩;cases hc:x.c with
    |false=>
     rw[hc,cond_false]at hk;exact .off hd (hx.off Bh hc) hk
    |true=>
     rw[hc,cond_true]at hk;have h1:=h1 hc;cases k with
     |p=>exact .p hd (hx.on Bh hc) h1.1 hk
     |r=>exact .r hd (hx.on Bh hc) h1.1 hk
     |w=>exact absurd rfl ml
   have fin:∀(k:Kind),k≠.w→(x.c=true→SK P o E U k d am)→(match o.dst with
     |none=>hG T P F stop Q n (.af ops dr l (k::ks) Jf e cs fr U)
     |some t=>bif Nat.blt t F.N then vi x.g x.b t d Jf fun fQ=>hG T P F stop Q n (.af ops dr l (k::ks) fQ ((t,.any)::e) cs fr U)else False)→
     ∃fG,cz P F.N ops.toList.toArray (fun E' o=>∃e',Lq e' E'∧(dr=true→jO ops (fG.reverse++ks).reverse=true)∧J P F cs (gD P F Q fr) e' o) (o::l) fG E U:=by
    intro k ml h1 h2;split at h2
    ·rename_i hd;obtain⟨fG,h3⟩:=ih k Jf e U E h2 hl jr;exact step k fG ml h1 (by rw[hd];rfl) (by rw[hd];exact h3)
    ·rename_i t hd;cases hb:Nat.blt t F.N with
     |false=>simp only[hb,cond_false]at h2
     |true=>
      simp only[hb,cond_true]at h2;obtain⟨fQ,h3,h4⟩:=Gf (d:=d) hx jr h2;obtain⟨fG,h5⟩:=ih k fQ _ U _ h4 (hl.Ve t _) h3;exact step k fG ml h1 (by rw[hd];exact hb) (by rw[hd];exact h5)
   cases k with
   |w=>exact h2.elim
   |p=>exact fin .p zS h1 h2
   |r=>exact fin .r zS h1 h2
theorem adg{T:TypeId→bx}{P:Program}(hT:mL P T){F:Fr}{stop:List Nat}(n:Nat)(cs:List Code)(Q:Exit→Env→ae→Prop)(env:Env)(U:ae)(h:hG T P F stop Q n (.code cs [] env U)):J P F cs Q env U:=pw hT n (.code cs [] env U) h
theorem br{b:Bool}{A B:Prop}(h:b=true→A)(h':b=false→B):Dk b A B:=⟨h,h'⟩
theorem bk{b:Bool}{A B:Prop}(hb:b=true)(h:A):Dk b A B:=⟨fun _=>h,fun e=>(by rw[hb]at e;cases e)⟩
theorem a_{b:Bool}{A B:Prop}(hb:b=false)(h:B):Dk b A B:=⟨fun e=>(by rw[hb]at e;cases e),fun _=>h⟩
end Go.T
namespace Go.T
open Go
variable[bX]
inductive vG(P:Program)where
 |leaf
 |node (k:Nat) (i:{i:bx//bV P k i}) (l r:vG P)
def vG.get{P:Program}:vG P→Nat→bx
 |.leaf,_=>{}
 |.node k i l r,t=>bif Nat.beq t k then i.1 else bif Nat.blt t k then l.get t else r.get t
theorem bV.none(P:Program)(t:TypeId):bV P t {}:=⟨fun _ h=>(nomatch h),fun _ h=>(nomatch h),fun _ h=>(nomatch h),fun _ h=>(nomatch h),fun _ h=>(nomatch h),fun _ h=>(nomatch h)⟩
theorem vG.ok{P:Program}:∀(b:vG P)(t:Nat),bV P t (b.get t)
 |.leaf,t=>bV.none P t
 |.node k i l r,t=>by
  simp only[vG.get];cases hb:Nat.beq t k with
  |true=>obtain rfl:=Nat.eq_of_beq_eq_true hb;exact i.2
  |false=>
   simp only[cond_false];cases Nat.blt t k with
   |true=>exact l.ok t
   |false=>exact r.ok t
section
variable{P:Program} {t:TypeId} {d:TypeDesc} {b:Bool} {n:Nat} {z:Value} {ds:List D} {fs:Array Field} {pl:List (Nat×Nat)} {ti:TypeInfo} {m:Nat}
theorem dx(ds:List D)(hu:P.underlying t=some d)(ha:∀w,(isAgg t).run P w=.ok b w)(hs:∀w,(sizeOf t).run P w=.ok n w)(hz:∀w,(zeroValue t).run P w=.ok z w)(hd:z.cells.toList.map lR=ds):bV P t {u:=some d,agg:=some b,sz:=some n,zc:=some ds}:=
 ⟨fun _ h=>by cases h;exact hu,fun _ h=>by cases h;exact ha,fun _ h=>by cases h;exact hs,fun _ h=>by cases h;exact⟨z,hz,hd⟩,fun _ h=>(nomatch h),fun _ h=>(nomatch h)⟩
theorem o8(pl:List (Nat×Nat))(ds:List D)(hu:P.underlying t=some (.struct fs))(ha:∀w,(isAgg t).run P w=.ok b w)(hs:∀w,(sizeOf t).run P w=.ok n w)(hz:∀w,(zeroValue t).run P w=.ok z w)(hd:z.cells.toList.map lR=ds)
  (hp:∀w,(fs.mapM (m:=Sem) fun f=>Prod.mk f.offset<$>sizeOf f.type).run P w=.ok pl.toArray w):bV P t {u:=some (.struct fs),agg:=some b,sz:=some n,zc:=some ds,pl:=some pl}:=
 ⟨fun _ h=>by cases h;exact hu,fun _ h=>by cases h;exact ha,fun _ h=>by cases h;exact hs,fun _ h=>by cases h;exact⟨z,hz,hd⟩,fun _ h fs' h'=>by cases h;rw[hu]at h';cases h';exact hp,fun _ h=>(nomatch h)⟩
end
mutual
theorem UC{f:Nat→Bool}:∀(d:D),d.bz=true→d.okB f=true
 |.any,_=>rfl
 |.raw _,_=>rfl
 |.str _,_=>rfl
 |.agg ds,h=>Ci ds h
 |.bj ds,h=>Ci ds h
 |.snap _ _ _,_=>rfl
 |.bc _,_=>rfl
 |.nQ _ _,_=>rfl
 |.box _ _,h=>by simp[D.bz]at h
 |.gs _ _,h=>by simp[D.bz]at h
 |.oq _ _,h=>by simp[D.bz]at h
 |.bR _,h=>by simp[D.bz]at h
 |.qW _ _ _,h=>by simp[D.bz]at h
 |.oM _ _ _,h=>by simp[D.bz]at h
 |.gr _ _,h=>by simp[D.bz]at h
 |.fn _ as bs,h=>by
  simp only[D.bz,Bool.and_eq_true]at h;simp only[D.okB,Ci as h.1,Ci bs h.2,Bool.and_self]
theorem Ci{f:Nat→Bool}:∀(ds:List D),D.bz.ec ds=true→D.okB.fg f ds=true
 |[],_=>rfl
 |d::ds,h=>by
  simp only[D.bz.ec,Bool.and_eq_true]at h;simp only[D.okB.fg,UC d h.1,Ci ds h.2,Bool.and_self]
end
theorem pV{f:Nat→Bool}{g:Go.Fn}{bC:List D}(h:D.bz.ec bC=true):(D.fn g [] bC).okB f=true:=UC _ (by simp[D.bz,D.bz.ec,h])
theorem Fc.sub{P:Program}{f:FuncId}{ds eP:List D}{r:D}(h:Fc P f eP r)(hs:iP ds eP:=by repeat(first|exact .nil|refine .cons (Sub.refl _) ?_|refine .cons (Sub.qQ _ _ _) ?_|refine .cons (Sub.nil _ _) ?_)):Fc P f ds r:=
 ⟨fun w O ρ vals hO hg hv=>h.out w O ρ vals hO hg (hs.out w O ρ vals hv)⟩
theorem ah{env:Env}{t:Nat}{d r:D}(h:env.get t=some d)(s:Sub d r):∃ds,getAll env [t]=some ds∧Sub (rT ds) r:=⟨[d],by simp[getAll,h],s⟩
theorem fu{env:Env}{t u:Nat}{d e d' e':D}(h:env.get t=some d)(h':env.get u=some e)(s:Sub d d')(s':Sub e e'):∃ds,getAll env [t,u]=some ds∧Sub (rT ds) (.bj [d',e']):=⟨[d,e],by simp[getAll,h,h'],.C9 s s'⟩
theorem CQ{env:Env}{t u v:Nat}{d e f d' e' f':D}(h:env.get t=some d)(h':env.get u=some e)(A6:env.get v=some f)(s:Sub d d')(s':Sub e e')(Mi:Sub f f'):∃ds,getAll env [t,u,v]=some ds∧Sub (rT ds) (.bj [d',e',f']):=⟨[d,e,f],by simp[getAll,h,h',A6],.WN s s' Mi⟩
theorem nx{ι:Type}{p q:ι→Prop}(x:ι)(h:p x)(k:q x):∃x,p x∧q x:=⟨x,h,k⟩
theorem sdG{A S K:Prop}(h:A→S)(k:K):Sd A S K:=⟨h,k⟩
end Go.T
