/-
  Contracts of the functions that the statement reaches, and the logic in which they are proved (no condition): parts Core39, Core40, Core41, Core42.
-/
import Derived.Test.YtapflgppmigcdaaGreatDoorA05
set_option linter.all false
namespace Go.T
open Go
variable[bV]
section
variable{P:Program} {T:TypeId→bp} {A:Prop} {e:Env} {dst:Option Tmp} {ty:TypeId} {pos:String} {ar:Array Edge} {g:Option (Nat×Bool)}
def jl(P:Program)(A:Prop)(o:Oper)(e:Env)(G:Prop)(K:D→Prop):Prop:=G∨∃d,(A→∀U,aq P o e U d U)∧K d
theorem jl.of{o:Oper}{G:Prop}{K:D→Prop}{d:D}(h:A→∀U,aq P o e U d U)(k:K d):jl P A o e G K:=.inr ⟨d,h,k⟩
theorem VC{op:BinOp}{t t':TypeId}{x y:Operand}{k:IntKind}{n m:Int}{G:Prop}{K:D→Prop}(hx:e.op x=some (.raw (.int k n)))(hy:e.op y=some (.raw (.int k m)))(h:FM A op k n m G K):jl P A ⟨dst,.binOp op t x y t',ty,pos,ar,g⟩ e G K:=by
 cases op<;>simp only[FM]at h
 case add=>exact .of (fun a=>bU hx hy (h.s a)) h.k
 case sub=>exact .of (fun a=>dQ hx hy (h.s a)) h.k
 case mul=>exact .of (fun a=>sW hx hy (h.s a)) h.k
 case lss=>exact .of (fun _=>b_ hx hy) h
 case leq=>exact .of (fun _=>EC hx hy) h
 case gtr=>exact .of (fun _=>gp hx hy) h
 case geq=>exact .of (fun _=>pY hx hy) h
 case eql=>exact .of (fun _=>jF hx hy) h
 case neq=>exact .of (fun _=>wO hx hy) h
 all_goals exact .inl h
theorem VD{op:BinOp}{t t':TypeId}{x y:Operand}{s r:aa}{G:Prop}{K:D→Prop}(hx:e.op x=some (.str s))(hy:e.op y=some (.str r))(h:FN A op s r G K):jl P A ⟨dst,.binOp op t x y t',ty,pos,ar,g⟩ e G K:=by
 cases op<;>simp only[FN]at h
 case add=>exact .of (fun a=>yX hx hy (h.s a) rfl) h.k
 case lss=>exact .of (fun _=>ahZ hx hy) h
 case leq=>exact .of (fun _=>ahV hx hy) h
 case gtr=>exact .of (fun _=>ahS hx hy) h
 case geq=>exact .of (fun _=>SN hx hy) h
 case eql=>exact .of (fun _=>SL hx hy) h
 case neq=>exact .of (fun _=>ah3 hx hy) h
 all_goals exact .inl h
theorem VB{op:BinOp}{t t':TypeId}{x y:Operand}{b c:Bool}{G:Prop}{K:D→Prop}(hu:P.underlying t=some .bool)(hx:e.op x=some (.raw (.bool b)))(hy:e.op y=some (.raw (.bool c)))(h:FL op b c G K):jl P A ⟨dst,.binOp op t x y t',ty,pos,ar,g⟩ e G K:=by
 cases op<;>simp only[FL]at h
 case eql=>exact .of (fun _=>ahO hu hx hy) h
 case neq=>exact .of (fun _=>EF hu hx hy) h
 all_goals exact .inl h
theorem VE(hT:l4 P T){op:BinOp}{t t':TypeId}{x y:Operand}{G:Prop}{K:D→Prop}(h:FO T A op t (e.op x) (e.op y) G K):jl P A ⟨dst,.binOp op t x y t',ty,pos,ar,g⟩ e G K:=by
 unfold FO at h;split at h
 ·rename_i k n k' m hx hy;cases hd:decide (k=k')with
  |false=>simp only[hd,cond_false]at h;exact .inl h
  |true=>
   simp only[hd,cond_true]at h;obtain rfl:=of_decide_eq_true hd;exact VC hx hy h
 ·rename_i hx hy;exact VD hx hy h
 ·rename_i hx hy;split at h
  ·rename_i hu;exact VB ((hT.ty t).u _ hu) hx hy h
  ·exact .inl h
 ·exact .inl h
theorem aly{op:UnOp}{t:TypeId}{x:Operand}{G:Prop}{K:D→Prop}(h:KI op A (e.op x) G K):jl P A ⟨dst,.unOp op t x,ty,pos,ar,g⟩ e G K:=by
 unfold KI at h;split at h
 ·rename_i hx;exact .of (fun _=>JY hx) h
 ·rename_i hx;exact .of (fun a=>EE hx (h.s a)) h.k
 ·exact .inl h
theorem Xg(hT:l4 P T){s t:TypeId}{x:Operand}{G:Prop}{K:D→Prop}(h:F7 T A s t (e.op x) G K):jl P A ⟨dst,.convert s t x,ty,pos,ar,g⟩ e G K:=by
 unfold F7 at h;split at h
 ·rename_i hx hs ht;exact .of (fun a=>EB ((hT.ty s).u _ hs) ((hT.ty t).u _ ht) hx (h.s a)) h.k
 ·rename_i hx hs ht;exact .of (fun _=>ahL ((hT.ty s).u _ hs) ((hT.ty t).u _ ht) hx) h
 ·exact .inl h
theorem agi{x:Operand}{G:Prop}{K:D→Prop}(h:Jh (e.op x) G K):jl P A ⟨dst,.nilCheck x,ty,pos,ar,g⟩ e G K:=by
 unfold Jh at h;split at h
 ·rename_i hx;exact .of (fun _=>ah6 hx) h
 ·rename_i hx;exact .of (fun _=>wP hx) h
 ·rename_i hx;exact .of (fun _=>ah7 hx) h
 ·exact .inl h
theorem aaQ(hT:l4 P T){t:TypeId}{x:Operand}{f:Nat}{G:Prop}{K:D→Prop}(h:GK T t (e.op x) f G K):jl P A ⟨dst,.field t x f,ty,pos,ar,g⟩ e G K:=by
 unfold GK at h;split at h
 ·rename_i cs fs hx hu;have AG:=(hT.ty t).u _ hu;split at h
  ·rename_i fl iw;rw[si]at iw;have hf:(fs[f]?).map (fun x=>(x.type,x.offset))=some (fl.type,fl.offset):=by simp[←Array.getElem?_toList,iw]
   split at h
   ·rename_i ha;split at h
    ·rename_i d hd;rw[si]at hd;exact .of (fun _=>JU fl.type fl.offset AG ((hT.ty _).agg _ ha) hf hx hd) h
    ·exact .inl h
   ·rename_i n ha hs;obtain⟨h1,h2⟩:=CJ _ _ _ h;obtain⟨h3,h4⟩:=E4 _ _ _ h2;exact .of (fun _=>ahR fl.type fl.offset AG ((hT.ty _).agg _ ha) ((hT.ty _).sz _ hs) hf hx (by simp at h3;omega) rfl) h4
   ·exact .inl h
  ·exact .inl h
 ·exact .inl h
theorem aaJ(hT:l4 P T){t:TypeId}{x:Operand}{f:Nat}{G:Prop}{K:D→Prop}(h:GI T t (e.op x) f G K):jl P A ⟨dst,.fieldAddr t x f,ty,pos,ar,g⟩ e G K:=by
 unfold GI at h;split at h
 ·rename_i id off fs hx hu;split at h
  ·rename_i fl iw;rw[si]at iw;have hf:(fs[f]?).map (fun x=>(x.type,x.offset))=some (fl.type,fl.offset):=by simp[←Array.getElem?_toList,iw]
   split at h
   ·rename_i hs;exact .of (fun _=>hZ fl.type fl.offset ((hT.ty t).u _ hu) ((hT.ty _).sz _ hs) hf hx) h
   ·exact .inl h
  ·exact .inl h
 ·rename_i cs fs hx hu;split at h
  ·rename_i fl iw;rw[si]at iw;have hf:(fs[f]?).map (fun x=>(x.type,x.offset))=some (fl.type,fl.offset):=by simp[←Array.getElem?_toList,iw]
   split at h
   ·rename_i hs;obtain⟨_,h2⟩:=CJ _ _ _ h;exact .of (fun _=>mD fl.type fl.offset ((hT.ty t).u _ hu) ((hT.ty _).sz _ hs) hf hx rfl) h2
   ·exact .inl h
  ·exact .inl h
 ·exact .inl h
theorem adD(hT:l4 P T){t:TypeId}{x i:Operand}{G:Prop}{K:D→Prop}(h:Iu T A t (e.op x) (e.op i) G K):jl P A ⟨dst,.indexAddr t x i,ty,pos,ar,g⟩ e G K:=by
 unfold Iu at h;split at h
 ·rename_i sz fF rows k n el hx hi hu;split at h
  ·rename_i m hs;cases hb:Nat.beq m sz with
   |false=>simp only[hb,cond_false]at h;exact .inl h
   |true=>
    simp only[hb,cond_true]at h;obtain rfl:=Nat.eq_of_beq_eq_true hb;obtain⟨r,h1,h2⟩:=h.out;exact .of (fun a=>fY ((hT.ty t).u _ hu) ((hT.ty _).sz _ hs) hx hi (h1 a).1 (h1 a).2) h2
  ·exact .inl h
 ·exact .inl h
theorem adA(hT:l4 P T){t:TypeId}{x i:Operand}{G:Prop}{K:D→Prop}(h:It T A t (e.op x) (e.op i) G K):jl P A ⟨dst,.index t x i,ty,pos,ar,g⟩ e G K:=by
 unfold It at h;split at h
 ·rename_i hx hi hu;obtain⟨r,h1,h2⟩:=h.out;exact .of (fun a=>oe ((hT.ty t).u _ hu) hx hi (h1 a).1 (h1 a).2) h2
 ·exact .inl h
theorem ae2(hT:l4 P T){t:TypeId}{x:Operand}{G:Prop}{K:D→Prop}(h:IH T t (e.op x) G K):jl P A ⟨dst,.call ⟨.builtin .len,#[x],#[t]⟩,ty,pos,ar,g⟩ e G K:=by
 unfold IH at h;split at h
 ·rename_i hx hu;exact .of (fun _=>fZ ((hT.ty t).u _ hu) hx) h
 ·rename_i hx hu;exact .of (fun _=>dE ((hT.ty t).u _ hu) hx) h
 ·rename_i hx hu;exact .of (fun _=>sU ((hT.ty t).u _ hu) hx) h
 ·rename_i hx hu;exact .of (fun _=>ahU ((hT.ty t).u _ hu) hx) h
 ·exact .inl h
theorem Q1{x y:Operand}{tys:Array TypeId}{mx:Bool}{G:Prop}{K:D→Prop}(h:D9 mx (e.op x) (e.op y) G K):jl P A ⟨dst,.call ⟨.builtin (bif mx then .max else .min),#[x,y],tys⟩,ty,pos,ar,g⟩ e G K:=by
 unfold D9 at h;split at h
 ·rename_i k n k' m hx hy;cases hd:decide (k=k')with
  |false=>simp only[hd,cond_false]at h;exact .inl h
  |true=>
   simp only[hd,cond_true]at h;obtain rfl:=of_decide_eq_true hd;cases mx with
   |true=>exact .of (fun _=>BD hx hy rfl) h
   |false=>exact .of (fun _=>yZ hx hy rfl) h
 ·exact .inl h
theorem V2(hT:l4 P T){b:Builtin}{args:Array Operand}{tys:Array TypeId}{G:Prop}{K:D→Prop}(h:FX T b args.toList tys.toList e G K):jl P A ⟨dst,.call ⟨.builtin b,args,tys⟩,ty,pos,ar,g⟩ e G K:=by
 obtain⟨args⟩:=args;obtain⟨tys⟩:=tys;simp only at h;unfold FX at h;split at h
 ·exact ae2 hT h
 ·exact Q1 (mx:=true) h
 ·exact Q1 (mx:=false) h
 ·exact .inl h
theorem ahG{U:ae}{t el:TypeId}{n sz:Nat}{z:Value}{xs:List (Nat×Operand)}{c6:List (Nat×D)}{cs:List D}(hu:P.underlying t=some (.array n el))(hz:∀w,(zeroValue t).run P w=.ok z w)
  (hs:∀w,(sizeOf el).run P w=.ok sz w)(hx:e.oa xs=some c6)(hf:lB (fun i=>some (i*sz,sz)) (z.cells.toList.map jZ) c6=some cs):
  aq P ⟨dst,.build t xs.toArray,ty,pos,ar,g⟩ e U (.agg cs) U:=
 .val fun O ρ a w _ hv=>by
  obtain⟨h1,h2⟩:=Bs (a:=a) xs c6 hx (fun x hx d' h=>hv x (by simpa[Op.operands]using hx) d' h);obtain⟨c',h3,h4⟩:=zV (fun i=>some (i*sz,sz)) c6 _ _ z.cells cs h1 h2 (Vs.y3 _) hf;refine⟨.agg c',?_,?_⟩
  ·simp[execOp,Instr.build,hz,bY hu,hs,h3]
  ·simp only[V];exact⟨_,rfl,h4⟩
theorem VR(hT:l4 P T){t:TypeId}{ps:Array (Nat×Operand)}{G:Prop}{K:D→Prop}(h:FU T t ps.toList e G K):jl P A ⟨dst,.build t ps,ty,pos,ar,g⟩ e G K:=by
 obtain⟨ps⟩:=ps;unfold FU at h;split at h
 ·rename_i fs ds pl hu hz hp;cases hb:pl.all (fun x=>!Nat.beq x.2 0)with
  |false=>simp only[hb,cond_false]at h;exact .inl h
  |true=>
   simp only[hb,cond_true]at h;obtain⟨c6,h1,h2⟩:=JH _ _ _ h;obtain⟨cs,h3,h4⟩:=Ni pl hb _ _ _ h2;obtain⟨z,h5,rfl⟩:=(hT.ty t).zc _ hz;have AG:=(hT.ty t).u _ hu;exact .of (fun _=>rl (xs:=ps) AG h5 ((hT.ty t).pl _ hp _ AG) h1 h3) h4
 ·rename_i _ n el ds hu hz;split at h
  ·rename_i sz hs;cases hb:Nat.beq sz 0 with
   |true=>simp only[hb,cond_true]at h;exact .inl h
   |false=>
    simp only[hb,cond_false]at h;obtain⟨c6,h1,h2⟩:=JH _ _ _ h;obtain⟨cs,h3,h4⟩:=Nh sz (by intro e;subst e;simp at hb) _ _ _ h2;obtain⟨z,h5,rfl⟩:=(hT.ty t).zc _ hz;exact .of (fun _ _=>ahG (xs:=ps) ((hT.ty t).u _ hu) h5 ((hT.ty el).sz _ hs) h1 h3) h4
  ·exact .inl h
 ·exact .inl h
end
section
variable{P:Program} {T:TypeId→bp} {A:Prop} {e:Env} {dst:Option Tmp} {ty:TypeId} {pos:String} {ar:Array Edge} {g:Option (Nat×Bool)} {U:ae}
theorem ae8(hT:l4 P T){t:TypeId}{x:Operand}{K:KK}(h:IL T t (e.op x) U (ct P A ⟨dst,.load t x,ty,pos,ar,g⟩ e U K) fun k d=>K k d U):ct P A ⟨dst,.load t x,ty,pos,ar,g⟩ e U K:=by
 unfold IL at h;split at h
 ·rename_i cs hx;split at h
  ·rename_i ha;cases cs with
   |nil=>exact h
   |cons d cs=>exact gP (fun _=>bX ((hT.ty t).agg _ ha) hx) h
  ·rename_i n ha hs;cases hb:m' cs n with
   |true=>simp only[hb,cond_true]at h;exact gP (fun _=>sV ((hT.ty t).agg _ ha) ((hT.ty t).sz _ hs) hx (yg _ _ hb)) h
   |false=>
    simp only[hb,cond_false]at h;obtain⟨h1,h2⟩:=E4 _ _ _ h;exact gP (fun _=>ahW ((hT.ty t).agg _ ha) ((hT.ty t).sz _ hs) hx h1 rfl) h2
  ·exact h
 ·rename_i id off hx;split at h
  ·rename_i ds ho;split at h
   ·rename_i ha;split at h
    ·rename_i d hd;rw[si]at hd;exact gR (fun _=>iK ((hT.ty t).agg _ ha) hx ho hd) h
    ·exact h
   ·rename_i n ha hs;cases hb:(Nat.beq off 0&&m' ds n)with
    |true=>
     simp only[hb,cond_true]at h;simp only[Bool.and_eq_true,Nat.beq_eq]at hb;obtain⟨rfl,hb⟩:=hb;exact gR (fun _=>ED ((hT.ty t).agg _ ha) ((hT.ty t).sz _ hs) hx ho (yg _ _ hb)) h
    |false=>
     simp only[hb,cond_false]at h;obtain⟨h1,h2⟩:=CJ _ _ _ h;obtain⟨h3,h4⟩:=E4 _ _ _ h2;exact gR (fun _=>SP ((hT.ty t).agg _ ha) ((hT.ty t).sz _ hs) hx ho (by simp at h3;omega) rfl) h4
   ·exact h
  ·exact h
 ·exact h
theorem ajB(hT:l4 P T){t:TypeId}{x y:Operand}{K:KK}(h:Kx T t (e.op x) (e.op y) U (ct P A ⟨dst,.store t x y,ty,pos,ar,g⟩ e U K) fun d o=>K .w d o):ct P A ⟨dst,.store t x y,ty,pos,ar,g⟩ e U K:=by
 unfold Kx at h;split at h
 ·rename_i id off d hx hy;split at h
  ·rename_i ds ho;split at h
   ·rename_i n hs;cases hb:(m' d.gd n&&d.kg&&!Nat.beq n 0)with
    |false=>simp only[hb,cond_false]at h;exact h
    |true=>
     simp only[hb,cond_true]at h;simp only[Bool.and_eq_true,Bool.not_eq_true']at hb;obtain⟨⟨hl,aj⟩,h0⟩:=hb;have hlen:=yg _ _ hl;obtain⟨h1,h2⟩:=BR _ _ _ _ h;have h3:=RC _ _ _ _ h2;have aB:n≠0:=by intro e;subst e;simp at h0
     have e8:=h1 (Jv hlen aB);have fH:=(hT.ty t).sz _ hs;cases d with
     |agg cs=>exact gW (fun _=>SV fH hx hy hlen (agL aj) ho (by simp only[D.gd]at e8 hlen;omega)) h3
     |_=>
      simp only[D.gd,List.length_singleton]at hlen e8;subst hlen;exact gW (fun _=>rn fH hx hy (by simpa[D.kg]using aj) ho zO) h3
   ·exact h
  ·exact h
 ·exact h
theorem VO{t:TypeId}{x:Operand}{K:KK}(h:FT (e.op x) U (ct P A ⟨dst,.box t x,ty,pos,ar,g⟩ e U K) fun d o=>K .w d o):ct P A ⟨dst,.box t x,ty,pos,ar,g⟩ e U K:=by
 unfold FT at h;split at h
 ·rename_i cs hx;obtain⟨id,h1,h2⟩:=C8 _ _ _ h;exact gW (fun _=>EA id hx h1) h2
 ·rename_i d _ hx;cases hb:d.one with
  |false=>simp only[hb,cond_false]at h;exact h
  |true=>
   simp only[hb,cond_true]at h;obtain⟨id,h1,h2⟩:=C8 _ _ _ h;exact gW (fun _=>JQ id hx hb h1) h2
 ·exact h
end
end Go.T
namespace Go.T
open Go
variable[bV]
structure iN(ops:List Oper)(E:Env)(x:GE):Prop where
 dst:(ops.toArray[x.g]?).bind (·.dst)=some x.t
 val:∃pc p,E.get x.t=some (bif pc then .raw (.bool p)else .raw undef)∧x.c=(pc&&(bif x.b then p else !p))
 env:x.c=true→Lq x.env E
 ws:∀t d,x.ws.get t=some d→d=.any∨E.get t=some (bif x.c then d else .raw undef)
theorem iN.guard{ops:List Oper}{E:Env}{x:GE}(h:iN ops E x){p:Bool}(he:E.get x.t=some (.raw (.bool p))):x.c=(bif x.b then p else !p):=by
 obtain⟨pc,q,h1,h2⟩:=h.val;rw[he]at h1;cases pc with
 |false=>simp[undef]at h1
 |true=>simp only[cond_true,Option.some.injEq,D.raw.injEq,Value.bool.injEq]at h1;subst h1;simpa using h2
theorem iN.uniq{ops:List Oper}{E:Env}{x y:GE}(h:iN ops E x)(h':iN ops E y)(hg:x.g=y.g)(hb:x.b=y.b):x.c=y.c:=by
 have ht:x.t=y.t:=by
  have:=h.dst;rw[hg,h'.dst]at this;exact(Option.some.inj this).symm
 obtain⟨pc,p,h1,h2⟩:=h.val;obtain⟨pc',p',h3,h4⟩:=h'.val;rw[ht,h3]at h1;cases pc<;>cases pc'<;>simp_all[undef]
theorem GU:∀{gs:List GE}{t:Nat}{b:Bool}{z:GE},xE gs t b=some z→z∈gs∧z.t=t∧z.b=b
 |[],t,b,z,h=>by simp[xE]at h
 |x::r,t,b,z,h=>by
  simp only[xE]at h;cases hb:(Nat.beq x.t t&&tE x.b b)with
  |true=>
   simp only[hb,cond_true,Option.some.injEq]at h;subst h;simp only[Bool.and_eq_true,Nat.beq_eq]at hb;exact⟨List.mem_cons_self,hb.1,Gz hb.2⟩
  |false=>
   simp only[hb,cond_false]at h;obtain⟨h1,h2⟩:=GU h;exact⟨List.mem_cons_of_mem _ h1,h2⟩
theorem aho{P:Program}{A:Prop}{e E:Env}{dst:Option Tmp}{ty:TypeId}{pos:String}{ar:Array Edge}{g:Option (Nat×Bool)}{ops:List Oper}{gs:List GE}{c x y:Operand}{G:Prop}{K:D→Prop}(hl:A→Lq e E)(hg:∀z∈gs,iN ops E z)(h:JI gs c x y e G K):jl P A ⟨dst,.pick c x y,ty,pos,ar,g⟩ E G K:=by
 unfold JI at h;split at h
 ·rename_i b tc hc;have Ds:A→E.get tc=some (.raw (.bool b)):=fun a=>by
   rcases hl a tc _ hc with h|h
   ·cases h
   ·exact h
  split at h
  ·rename_i tx;split at h
   ·rename_i z hz;obtain⟨h1,rfl,h3⟩:=GU hz;split at h
    ·rename_i q hq;refine .of (fun a=>?_) h;have hz:=(hg z h1).guard (Ds a);rw[h3,cond_true]at hz;have hw:=((hg z h1).ws _ _ hq).resolve_left zS;rw[hz]at hw;exact gD (c:=.tmp z.t) (x:=.tmp tx) (Ds a) hw
    ·exact .inl h
   ·exact .inl h
  ·rename_i tx;split at h
   ·rename_i z hz;obtain⟨h1,rfl,h3⟩:=GU hz;split at h
    ·rename_i q hq;refine .of (fun a=>?_) h;have hz:=(hg z h1).guard (Ds a);rw[h3,cond_false]at hz;have hw:=((hg z h1).ws _ _ hq).resolve_left zS;rw[hz]at hw;exact nq (c:=.tmp z.t) (y:=.tmp tx) (Ds a) hw
    ·exact .inl h
   ·exact .inl h
  ·exact .inl h
 ·exact .inl h
theorem jl.snd{P:Program}{A:Prop}{o:Oper}{e:Env}{U:ae}{K:KK}(h:jl P A o e (ct P A o e U K) fun d=>K .p d U):ct P A o e U K:=by
 rcases h with h|⟨d,h1,h2⟩
 ·exact h
 ·exact gP h1 h2
theorem ct.lq{P:Program}{A:Prop}{o:Oper}{e E:Env}{U:ae}{K:KK}(hl:A→Lq e E)(h:ct P A o e U K):ct P A o E U K:=by
 obtain⟨k,d,ak,h1,h2⟩:=h.out;exact⟨k,d,ak,fun a=>(h1 a).lq (hl a),h2⟩
theorem RX{P:Program}{T:TypeId→bp}(hT:l4 P T){A:Prop}{ops:List Oper}{gs:List GE}{o:Oper}{e E:Env}{U:ae}{K:KK}(hl:A→Lq e E)(hg:∀z∈gs,iN ops E z)(h:En T P A gs o e U K):ct P A o E U K:=by
 obtain⟨dst,op,ty,pos,ar,g⟩:=o;unfold En at h;split at h
 ·rename_i x ho;cases ho;refine ct.lq hl ?_;split at h
  ·rename_i d hx;exact gP (fun _=>aX hx) h
  ·exact gP (fun _=>ah2) h
 ·rename_i x ho;cases ho;refine ct.lq hl ?_;split at h
  ·rename_i d hx;exact gP (fun _=>wL hx) h
  ·exact h
 ·rename_i ho;cases ho;exact ct.lq hl (VE hT h).snd
 ·rename_i ho;cases ho;exact ct.lq hl (aly h).snd
 ·rename_i ho;cases ho;exact ct.lq hl (Xg hT h).snd
 ·rename_i ho;cases ho;refine ct.lq hl ?_;split at h
  ·rename_i ds hx;split at h
   ·rename_i d hd;rw[si]at hd;exact gP (fun _=>dY hx hd) h
   ·exact h
  ·exact h
 ·rename_i fn xs ys ho;cases ho;refine ct.lq hl ?_;obtain⟨as,h1,h2⟩:=Jy _ _ _ h;obtain⟨bs,h3,h4⟩:=Jy _ _ _ h2;exact gP (fun _=>by simpa using JW (xs:=xs.toList) (ys:=ys.toList) h1 h3) h4
 ·rename_i ho;cases ho;exact ct.lq hl (agi h).snd
 ·rename_i ho;cases ho;exact ct.lq hl (ae8 hT h)
 ·rename_i ho;cases ho;exact ct.lq hl (ajB hT h)
 ·rename_i ho;cases ho;exact ct.lq hl (aaQ hT h).snd
 ·rename_i ho;cases ho;exact ct.lq hl (aaJ hT h).snd
 ·rename_i ho;cases ho;exact ct.lq hl (adD hT h).snd
 ·rename_i ho;cases ho;exact ct.lq hl (adA hT h).snd
 ·rename_i t ho;cases ho;refine ct.lq hl ?_;split at h
  ·rename_i ds hz;obtain⟨z,h5,rfl⟩:=(hT.ty t).zc _ hz;obtain⟨id,h1,h2⟩:=C8 _ _ _ h;exact gW (fun _=>jE id h5 h1) h2
  ·exact h
 ·rename_i ho;cases ho;exact ct.lq hl (VO h)
 ·rename_i ho;cases ho;exact ct.lq hl (VR hT h).snd
 ·rename_i ho;cases ho;rcases aho hl hg h with h|⟨d,h1,h2⟩
  ·exact ct.lq hl h
  ·exact gP h1 h2
 ·rename_i ho;cases ho;exact ct.lq hl (V2 hT h).snd
 ·exact ct.lq hl h
def xD:List GE→Nat→Bool→Option GE
 |[],_,_=>none
 |x::r,g,b=>bif Nat.beq x.g g&&tE x.b b then some x else xD r g b
theorem GQ:∀{gs:List GE}{t:Nat}{b:Bool}{z:GE},xD gs t b=some z→z∈gs∧z.g=t∧z.b=b
 |[],t,b,z,h=>by simp[xD]at h
 |x::r,t,b,z,h=>by
  simp only[xD]at h;cases hb:(Nat.beq x.g t&&tE x.b b)with
  |true=>
   simp only[hb,cond_true,Option.some.injEq]at h;subst h;simp only[Bool.and_eq_true,Nat.beq_eq]at hb;exact⟨List.mem_cons_self,hb.1,Gz hb.2⟩
  |false=>
   simp only[hb,cond_false]at h;obtain⟨h1,h2⟩:=GQ h;exact⟨List.mem_cons_of_mem _ h1,h2⟩
def FD(gs:List GE)(k:List GE→GE→Prop)(x:GE):Prop:=k (x::gs) x
def lW:Bool→Bool→Bool
 |true,p=>p
 |false,p=>!p
def KT(ops:List Oper)(gs:List GE)(e:Env)(g:Nat)(b:Bool)(k:List GE→GE→Prop):Prop:=
 match xD gs g b with
 |some x=>k gs x
 |none=>match nW ops g with
  |some og=>match og.dst,og.guard with
   |some t,none=>match e.get t with
    |some (.raw (.bool p))=>FD gs k ⟨g,b,t,lW b p,e,[]⟩
    |_=>False
   |some t,some (g',b')=>match xD gs g' b' with
    |some y=>match y.ws.get t with
     |some (.raw (.bool p))=>FD gs k ⟨g,b,t,y.c&&lW b p,y.env,[]⟩
     |_=>False
    |none=>False
   |_,_=>False
  |none=>False
theorem Uv(b p:Bool):lW b p=(bif b then p else !p):=by cases b<;>rfl
theorem al0{ops:List Oper}{gs:List GE}{e E:Env}{g:Nat}{b:Bool}{k:List GE→GE→Prop}(hl:Lq e E)(hg:∀z∈gs,iN ops E z)(h:KT ops gs e g b k):∃fg x,(∀z∈fg,iN ops E z)∧x∈fg∧x.g=g∧x.b=b∧k fg x:=by
 unfold KT at h;split at h
 ·rename_i x hx;obtain⟨h1,h2,h3⟩:=GQ hx;exact⟨gs,x,hg,h1,h2,h3,h⟩
 ·split at h
  ·rename_i og ho;rw[si]at ho;have new:∀x:GE,iN ops E x→x.g=g→x.b=b→FD gs k x→∃fg x,(∀z∈fg,iN ops E z)∧x∈fg∧x.g=g∧x.b=b∧k fg x:=by
    intro x hx h1 h2 h3;refine⟨x::gs,x,fun z hz=>?_,List.mem_cons_self,h1,h2,h3⟩;rcases List.mem_cons.1 hz with rfl|hz
    ·exact hx
    ·exact hg z hz
   split at h
   ·rename_i t hd _;split at h
    ·rename_i p hp;refine new _ ⟨?_,⟨true,p,?_,?_⟩,fun _=>hl,fun t d h=>by simp[Env.get]at h⟩ rfl rfl h
     ·simp[ho,hd]
     ·exact(hl t _ hp).resolve_left zS
     ·simp[Uv]
    ·exact h.elim
   ·rename_i t g' b' hd _;split at h
    ·rename_i y hy;obtain⟨h1,h2,h3⟩:=GQ hy;split at h
     ·rename_i p hp;refine new _ ⟨?_,⟨y.c,p,?_,?_⟩,fun hc=>?_,fun t d h=>by simp[Env.get]at h⟩ rfl rfl h
      ·simp[ho,hd]
      ·exact((hg y h1).ws _ _ hp).resolve_left zS
      ·simp[Uv]
      ·simp only[Bool.and_eq_true]at hc;exact(hg y h1).env hc.1
     ·exact h.elim
    ·exact h.elim
   ·exact h.elim
  ·exact h.elim
def BA(t:Nat)(d:D):List GE→(List GE→Prop)→Prop
 |[],k=>k []
 |⟨g,b,t',c,env,ws⟩::r,k=>bif Nat.beq t' t then BA t d r k else BA t d r fun r'=>k (⟨g,b,t',c,(t,d)::env,(t,.any)::ws⟩::r')
theorem JN{ops:List Oper}{E:Env}{t:Nat}{d:D}:∀{gs:List GE}{k:List GE→Prop},(∀z∈gs,iN ops E z)→BA t d gs k→∃fg,(∀z∈fg,iN ops ((t,d)::E) z)∧k fg
 |[],k,_,h=>⟨[],by simp,h⟩
 |⟨g,b,t',c,env,ws⟩::r,k,hg,h=>by
  simp only[BA]at h;cases hb:Nat.beq t' t with
  |true=>simp only[hb,cond_true]at h;exact JN (fun z hz=>hg z (List.mem_cons_of_mem _ hz)) h
  |false=>
   simp only[hb,cond_false]at h;have aB:¬t=t':=by rintro rfl;simp at hb
   obtain⟨fg,h1,h2⟩:=JN (fun z hz=>hg z (List.mem_cons_of_mem _ hz)) h;refine⟨_,fun z hz=>?_,h2⟩;rcases List.mem_cons.1 hz with rfl|hz
   ·have h0:=hg _ List.mem_cons_self;obtain⟨pc,p,h3,h4⟩:=h0.val;refine⟨h0.dst,⟨pc,p,?_,h4⟩,fun hc=>(h0.env hc).put t d,fun s x hx=>?_⟩
    ·rw[Env.aZ,if_neg aB];exact h3
    ·rw[Env.aZ]at hx⊢;by_cases e:t=s
     ·rw[if_pos e]at hx;cases hx;exact .inl rfl
     ·rw[if_neg e]at hx⊢;exact h0.ws s x hx
   ·exact h1 z hz
def uA(g0:Nat)(b0:Bool)(t:Nat)(d:D):List GE→(List GE→Prop)→Prop
 |[],k=>k []
 |⟨g,b,t',c,env,ws⟩::r,k=>bif Nat.beq t' t then uA g0 b0 t d r k else bif Nat.beq g g0&&tE b b0 then uA g0 b0 t d r fun r'=>k (⟨g,b,t',c,(t,d)::env,(t,d)::ws⟩::r')
   else uA g0 b0 t d r fun r'=>k (⟨g,b,t',c,(t,.any)::env,(t,.any)::ws⟩::r')
theorem Ez{ops:List Oper}{E:Env}{t:Nat}{d:D}{x:GE}(hx:iN ops E x):∀{gs:List GE}{k:List GE→Prop},(∀z∈gs,iN ops E z)→uA x.g x.b t d gs k→∃fg,(∀z∈fg,iN ops ((t,bif x.c then d else .raw undef)::E) z)∧k fg
 |[],k,_,h=>⟨[],by simp,h⟩
 |⟨g,b,t',c,env,ws⟩::r,k,hg,h=>by
  simp only[uA]at h;cases hb:Nat.beq t' t with
  |true=>simp only[hb,cond_true]at h;exact Ez hx (fun z hz=>hg z (List.mem_cons_of_mem _ hz)) h
  |false=>
   simp only[hb,cond_false]at h;have aB:¬t=t':=by rintro rfl;simp at hb
   have h0:=hg _ List.mem_cons_self;obtain⟨pc,p,h3,h4⟩:=h0.val;cases hk:(Nat.beq g x.g&&tE b x.b)with
   |true=>
    simp only[hk,cond_true]at h;simp only[Bool.and_eq_true,Nat.beq_eq]at hk;have hc:x.c=c:=hx.uniq h0 hk.1.symm (Gz hk.2).symm;obtain⟨fg,h1,h2⟩:=Ez hx (fun z hz=>hg z (List.mem_cons_of_mem _ hz)) h;refine⟨_,fun z hz=>?_,h2⟩;rcases List.mem_cons.1 hz with rfl|hz
    ·refine⟨h0.dst,⟨pc,p,?_,h4⟩,fun xP=>?_,fun s y hy=>?_⟩
     ·rw[Env.aZ,if_neg aB];exact h3
     ·have:x.c=true:=hc.trans xP;rw[this,cond_true];exact(h0.env xP).put t d
     ·rw[Env.aZ]at hy⊢;by_cases e:t=s
      ·rw[if_pos e]at hy⊢;cases hy;exact .inr (by rw[hc])
      ·rw[if_neg e]at hy⊢;exact h0.ws s y hy
    ·exact h1 z hz
   |false=>
    simp only[hk,cond_false]at h;obtain⟨fg,h1,h2⟩:=Ez hx (fun z hz=>hg z (List.mem_cons_of_mem _ hz)) h;refine⟨_,fun z hz=>?_,h2⟩;rcases List.mem_cons.1 hz with rfl|hz
    ·refine⟨h0.dst,⟨pc,p,?_,h4⟩,fun xP=>(h0.env xP).SA t _,fun s y hy=>?_⟩
     ·rw[Env.aZ,if_neg aB];exact h3
     ·rw[Env.aZ]at hy⊢;by_cases e:t=s
      ·rw[if_pos e]at hy;cases hy;exact .inl rfl
      ·rw[if_neg e]at hy⊢;exact h0.ws s y hy
    ·exact h1 z hz
theorem Tk(k:Kind)(ks fa:List Kind):fa.reverse++(k::ks)=(k::fa).reverse++ks:=by simp
theorem alU{b p:Bool}(h:(bif b then p else !p)=true):p=b:=by cases b<;>cases p<;>first|rfl|cases h
theorem alT{b p:Bool}(h:(bif b then p else !p)=false):p=!b:=by cases b<;>cases p<;>first|rfl|cases h
theorem iN.on{ops:List Oper}{E:Env}{x:GE}(h:iN ops E x){o:Oper}(ho:o.guard=some (x.g,x.b))(hc:x.c=true):On ops.toArray E o:=by
 obtain⟨pc,p,h1,h2⟩:=h.val;rw[hc]at h2;cases pc with
 |false=>cases h2
 |true=>exact fX ho h.dst h1 (alU h2.symm)
theorem iN.off{ops:List Oper}{E:Env}{x:GE}(h:iN ops E x){o:Oper}(ho:o.guard=some (x.g,x.b))(hc:x.c=false):rE ops.toArray E o:=by
 obtain⟨pc,p,h1,h2⟩:=h.val;rw[hc]at h2;cases pc with
 |false=>exact Jr ho h.dst h1
 |true=>exact jD ho h.dst h1 (alT h2.symm)
end Go.T
namespace Go.T
open Go
variable[bV]
theorem oz.lq{F:Fr}{C:Ctx}{e E:Env}{U:ae}{a:Act}{w:World}{ρ:aA}(hl:Lq e E)(h:oz F C E U a w ρ):oz F C e U a w ρ:=
 ⟨h.keep,h.tr,fun t d hd=>by
  rcases hl t d hd with rfl|hd
  ·simp[V]
  ·exact h.env t d hd,h.size,h.marks,h.rd,h.yl,h.gl⟩
theorem WP.Uw{P:Program}{F:Fr}{c:Code}{Q Q':Exit→Env→ae→Prop}{env:Env}{U:ae}(h:WP P F c Q env U)(hq:∀x E o,Q x E o→∃e,Lq e E∧Q' x e o):WP P F c Q' env U:=
 ⟨fun C a w hs=>wpIn_mono (h.out C a w hs) fun x a' w' ⟨E,o,h1,ρ,h2⟩=>by
  obtain⟨e,h3,h4⟩:=hq x E o h1;exact⟨e,o,h4,ρ,h2.lq h3⟩⟩
theorem cz.pull{P:Program}{N:Nat}{ops:Array Oper}{S:Prop}{K:Env→ae→Prop}{l:List Oper}{ks:List Kind}{env:Env}{U:ae}(h:cz P N ops K l ks env U)(hs:∀e o,K e o→S):S:=by
 induction h with
 |nil h=>exact hs _ _ h
 |p _ _ _ _ ih=>exact ih
 |r _ _ _ _ ih=>exact ih
 |w _ _ _ _ ih=>exact ih
 |off _ _ _ ih=>exact ih
def BX:List Nat→Nat→Bool
 |[],_=>false
 |s::r,i=>bif Nat.beq s i then true else BX r i
structure Ord(ops:Array Oper)(ks:List Kind)(K:Prop):Prop where
 ok:jh ops ks=true
 k:K
theorem ord{ops:Array Oper}{ks:List Kind}{K:Prop}(k:K)(h:jh ops ks=true:=by decide+kernel):Ord ops ks K:=⟨h,k⟩
structure Cf(b:Bool)(A B:Prop):Prop where
 t:b=true→A
 f:b=false→B
inductive S where
 |code (cs:List Code) (fr:List (Nat×List Code)) (e:Env) (U:ae)
 |af (ops:Array Oper) (dr:Bool) (l:List Oper) (ks:List Kind) (gs:List GE) (e:Env) (cs:List Code) (fr:List (Nat×List Code)) (U:ae)
def fT(P:Program)(F:Fr)(Q:Exit→Env→ae→Prop):List (Nat×List Code)→Exit→Env→ae→Prop
 |[]=>Q
 |(id,cs)::fr=>bq id (J P F cs (fT P F Q fr)) (fT P F Q fr)
def Bo:List (Nat×List Code)→Nat→Option (List Code×List (Nat×List Code))
 |[],_=>none
 |(id,cs)::fr,i=>bif Nat.beq i id then some (cs,fr)else Bo fr i
def gz(T:TypeId→bp)(P:Program)(F:Fr)(stop:List Nat)(Q:Exit→Env→ae→Prop):Nat→S→Prop
 |0,.code cs fr e U=>J P F cs (fT P F Q fr) e U
 |0,.af ..=>False
 |n+1,.code cs fr e U=>match cs with
  |[]=>match fr with
   |[]=>Q .normal e U
   |(_,cs)::fr=>gz T P F stop Q n (.code cs fr e U)
  |c::cs=>match c with
   |.seq a b=>gz T P F stop Q n (.code (a::b::cs) fr e U)
   |.skip=>gz T P F stop Q n (.code cs fr e U)
   |.block id b=>gz T P F stop Q n (.code [b] ((id,cs)::fr) e U)
   |.exit id=>match Bo fr id with
    |some (cs,fr)=>gz T P F stop Q n (.code cs fr e U)
    |none=>Q (.exit id) e U
   |.ret=>bif BX stop 99999 then J P F (.ret::cs) (fT P F Q fr) e U else Q .ret e U
   |.cond x a b=>match e.op x with
    |some (.raw (.bool v))=>Cf v (gz T P F stop Q n (.code (a::cs) fr e U)) (gz T P F stop Q n (.code (b::cs) fr e U))
    |_=>J P F (.cond x a b::cs) (fT P F Q fr) e U
   |.region id ops dr=>bif BX stop id then J P F (.region id ops dr::cs) (fT P F Q fr) e U else gz T P F stop Q n (.af ops dr ops.toList [] [] e cs fr U)
   |c=>J P F (c::cs) (fT P F Q fr) e U
 |n+1,.af ops dr l ks gs e cs fr U=>match l with
  |[]=>match dr with
   |false=>gz T P F stop Q n (.code cs fr e U)
   |true=>Ord ops ks.reverse (gz T P F stop Q n (.code cs fr e U))
  |o::l=>match o.guard with
   |none=>En T P True gs o e U fun k d ak=>match o.dst with
    |none=>gz T P F stop Q n (.af ops dr l (k::ks) gs e cs fr ak)
    |some t=>bif Nat.blt t F.N then BA t d gs fun fg=>gz T P F stop Q n (.af ops dr l (k::ks) fg ((t,d)::e) cs fr ak)else False
   |some (g,b)=>KT ops.toList gs e g b fun gs x=>En T P (x.c=true) gs o x.env U fun k d _=>match k with
    |.w=>False
    |.p=>match o.dst with
     |none=>gz T P F stop Q n (.af ops dr l (.p::ks) gs e cs fr U)
     |some t=>bif Nat.blt t F.N then uA g b t d gs fun fg=>gz T P F stop Q n (.af ops dr l (.p::ks) fg ((t,.any)::e) cs fr U)else False
    |.r=>match o.dst with
     |none=>gz T P F stop Q n (.af ops dr l (.r::ks) gs e cs fr U)
     |some t=>bif Nat.blt t F.N then uA g b t d gs fun fg=>gz T P F stop Q n (.af ops dr l (.r::ks) fg ((t,.any)::e) cs fr U)else False
def Says(P:Program)(F:Fr)(Q:Exit→Env→ae→Prop):S→Prop
 |.code cs fr e U=>J P F cs (fT P F Q fr) e U
 |.af ops dr l ks gs e cs fr U=>∀E,Lq e E→(∀z∈gs,iN ops.toList E z)→∃fa,cz P F.N ops.toList.toArray (fun E' o=>∃e',Lq e' E'∧(dr=true→jh ops (fa.reverse++ks).reverse=true)∧J P F cs (fT P F Q fr) e' o) l fa E U
theorem J.exitTo{P:Program}{F:Fr}{Q:Exit→Env→ae→Prop}{e:Env}{U:ae}{id:Nat}:∀(fr:List (Nat×List Code)),(match Bo fr id with
  |some (cs,fr)=>J P F cs (fT P F Q fr) e U
  |none=>Q (.exit id) e U)→fT P F Q fr (.exit id) e U
 |[],h=>h
 |(i,cs)::fr,h=>by
  simp only[Bo]at h;simp only[fT,bq];cases hb:Nat.beq id i with
  |true=>simp only[hb,cond_true]at h⊢;exact h
  |false=>simp only[hb,cond_false]at h⊢;exact J.exitTo fr h
theorem NF{P:Program}{F:Fr}{Q:Exit→Env→ae→Prop}{e:Env}{U:ae}:∀(fr:List (Nat×List Code)),Q .ret e U→fT P F Q fr .ret e U
 |[],h=>h
 |(i,cs)::fr,h=>by simp only[fT,bq];exact NF fr h
theorem oH{T:TypeId→bp}{P:Program}(hT:l4 P T){F:Fr}{stop:List Nat}{Q:Exit→Env→ae→Prop}:∀(n:Nat)(s:S),gz T P F stop Q n s→Says P F Q s
 |0,.code cs fr e U,h=>h
 |0,.af ..,h=>h.elim
 |n+1,.code [] [] e U,h=>⟨h⟩
 |n+1,.code [] ((i,cs)::fr) e U,h=>⟨(oH hT n (.code cs fr e U) h:J P F cs (fT P F Q fr) e U)⟩
 |n+1,.code (c::cs) fr e U,h=>by
  cases c with
  |seq a b=>exact J.seq (oH hT n (.code (a::b::cs) fr e U) h)
  |skip=>exact J.skip (oH hT n (.code cs fr e U) h)
  |block id b=>exact J.block (oH hT n (.code [b] ((id,cs)::fr) e U) h)
  |exit id=>
   refine J.exit (J.exitTo fr ?_);simp only[gz]at h;cases ho:Bo fr id with
   |none=>simp only[ho]at h⊢;exact h
   |some x=>
    obtain⟨Xm,fr'⟩:=x;simp only[ho]at h⊢;exact oH hT n (.code Xm fr' e U) h
  |ret=>
   simp only[gz]at h;cases hs:BX stop 99999 with
   |true=>simp only[hs,cond_true]at h;exact h
   |false=>simp only[hs,cond_false]at h;exact J.ret (NF fr h)
  |cond x a b=>
   simp only[gz]at h;split at h
   ·rename_i v hv;exact J.cond hv (fun k=>oH hT n (.code (a::cs) fr e U) (h.t k)) (fun k=>oH hT n (.code (b::cs) fr e U) (h.f k))
   ·exact h
  |region id ops dr=>
   simp only[gz]at h;cases hs:BX stop id with
   |true=>simp only[hs,cond_true]at h;exact h
   |false=>
    simp only[hs,cond_false]at h;have Pc:ops=ops.toList.toArray:=by simp
    obtain⟨ks,h1⟩:=oH hT n (.af ops dr ops.toList [] [] e cs fr U) h e (Lq.refl e) zS;show J P F (.region id ops dr::cs) (fT P F Q fr) e U;have fin:∀x E o,jk (fun E o=>∃e,Lq e E∧(dr=true→jh ops (ks.reverse++[]).reverse=true)∧J P F cs (fT P F Q fr) e o) (fT P F Q fr) x E o→∃e,Lq e E∧jk (nD P F cs (fT P F Q fr)) (fT P F Q fr) x e o:=by
     intro x E o hx;cases x with
     |normal=>obtain⟨e,h2,_,h3⟩:=hx;exact⟨e,h2,h3.out⟩
     |_=>exact⟨E,Lq.refl E,hx⟩
    cases dr with
    |false=>
     rw[Pc];exact⟨WP.Uw (WP.region (Q:=jk (fun E o=>∃e,Lq e E∧(false=true→jh ops (List.reverse (List.reverse ks++([]:List Kind)))=true)∧J P F cs (fT P F Q fr) e o) (fT P F Q fr)) h1) fin⟩
    |true=>
     have aj:jh ops.toList.toArray ks=true:=by
      have:=h1.pull fun E o ⟨e,_,h3,_⟩=>h3 rfl;simpa using this
     rw[Pc];exact⟨WP.Uw (WP.S' (Q:=jk (fun E o=>∃e,Lq e E∧(true=true→jh ops (List.reverse (List.reverse ks++([]:List Kind)))=true)∧J P F cs (fT P F Q fr) e o) (fT P F Q fr)) hT.mixed aj h1) fin⟩
  |_=>exact h
 |n+1,.af ops dr [] ks gs e cs fr U,h=>fun E hl hg=>by
  refine⟨[],.nil ⟨e,hl,?_⟩⟩;simp only[gz]at h;cases dr with
  |false=>exact⟨(fun h=>by cases h),oH hT n (.code cs fr e U) h⟩
  |true=>exact⟨fun _=>h.ok,oH hT n (.code cs fr e U) h.k⟩
 |n+1,.af ops dr (o::l) ks gs e cs fr U,h=>fun E hl hg=>by
  have ih:∀(k:Kind)(fg:List GE)(e':Env)(ak:ae)(E':Env),gz T P F stop Q n (.af ops dr l (k::ks) fg e' cs fr ak)→Lq e' E'→(∀z∈fg,iN ops.toList E' z)→
    ∃fa,cz P F.N ops.toList.toArray (fun E' o=>∃e',Lq e' E'∧(dr=true→jh ops (fa.reverse++(k::ks)).reverse=true)∧J P F cs (fT P F Q fr) e' o) l fa E' ak:=
   fun k fg e' ak E' h h1 h2=>oH hT n (.af ops dr l (k::ks) fg e' cs fr ak) h E' h1 h2
  simp only[gz]at h;split at h
  ·rename_i An;obtain⟨k,d,ak,h1,h2⟩:=(RX hT (fun _=>hl) hg h).out;have h1:=h1 trivial;have H9:On ops.toList.toArray E o:=by simp[On,An]
   have step:∀(fa:List Kind),ed F.N o.dst=true→cz P F.N ops.toList.toArray (fun E' o=>∃e',Lq e' E'∧(dr=true→jh ops (fa.reverse++(k::ks)).reverse=true)∧J P F cs (fT P F Q fr) e' o) l fa (E.put o.dst d) ak→
     ∃fa,cz P F.N ops.toList.toArray (fun E' o=>∃e',Lq e' E'∧(dr=true→jh ops (fa.reverse++ks).reverse=true)∧J P F cs (fT P F Q fr) e' o) (o::l) fa E U:=by
    intro fa hd hk;rw[Tk]at hk;refine⟨k::fa,?_⟩;cases k with
    |p=>obtain⟨hq,rfl⟩:=h1;exact .p hd H9 hq hk
    |r=>obtain⟨hq,rfl⟩:=h1;exact .r hd H9 hq hk
    |w=>exact .w hd H9 h1 hk
   split at h2
   ·rename_i hd;obtain⟨fa,h3⟩:=ih k gs e ak E h2 hl hg;exact step fa (by rw[hd];rfl) (by rw[hd];exact h3)
   ·rename_i t hd;cases hb:Nat.blt t F.N with
    |false=>simp only[hb,cond_false]at h2
    |true=>
     simp only[hb,cond_true]at h2;obtain⟨fg,h3,h4⟩:=JN hg h2;obtain⟨fa,h5⟩:=ih k fg _ ak _ h4 (hl.put t d) h3;exact step fa (by rw[hd];exact hb) (by rw[hd];exact h5)
  ·rename_i g b An;obtain⟨Hk,x,lH,Ip,rfl,rfl,h⟩:=al0 hl hg h;have hx:=lH x Ip;obtain⟨k,d,ak,h1,h2⟩:=(RX hT hx.env lH h).out;have step:∀(k:Kind)(fa:List Kind),k≠.w→(x.c=true→SK P o E U k d ak)→ed F.N o.dst=true→cz P F.N ops.toList.toArray (fun E' o=>∃e',Lq e' E'∧(dr=true→jh ops (fa.reverse++(k::ks)).reverse=true)∧J P F cs (fT P F Q fr) e' o) l fa (E.put o.dst (bif x.c then d else .raw undef)) U→
     ∃fa,cz P F.N ops.toList.toArray (fun E' o=>∃e',Lq e' E'∧(dr=true→jh ops (fa.reverse++ks).reverse=true)∧J P F cs (fT P F Q fr) e' o) (o::l) fa E U:=by
    intro k fa lI h1 hd hk;rw[Tk]at hk;refine⟨k::fa,?_⟩;cases hc:x.c with
    |false=>
     rw[hc,cond_false]at hk;exact .off hd (hx.off An hc) hk
    |true=>
     rw[hc,cond_true]at hk;have h1:=h1 hc;cases k with
     |p=>exact .p hd (hx.on An hc) h1.1 hk
     |r=>exact .r hd (hx.on An hc) h1.1 hk
     |w=>exact absurd rfl lI
   have fin:∀(k:Kind),k≠.w→(x.c=true→SK P o E U k d ak)→(match o.dst with
     |none=>gz T P F stop Q n (.af ops dr l (k::ks) Hk e cs fr U)
     |some t=>bif Nat.blt t F.N then uA x.g x.b t d Hk fun fg=>gz T P F stop Q n (.af ops dr l (k::ks) fg ((t,.any)::e) cs fr U)else False)→
     ∃fa,cz P F.N ops.toList.toArray (fun E' o=>∃e',Lq e' E'∧(dr=true→jh ops (fa.reverse++ks).reverse=true)∧J P F cs (fT P F Q fr) e' o) (o::l) fa E U:=by
    intro k lI h1 h2;split at h2
    ·rename_i hd;obtain⟨fa,h3⟩:=ih k Hk e U E h2 hl lH;exact step k fa lI h1 (by rw[hd];rfl) (by rw[hd];exact h3)
    ·rename_i t hd;cases hb:Nat.blt t F.N with
     |false=>simp only[hb,cond_false]at h2
     |true=>
      simp only[hb,cond_true]at h2;obtain⟨fg,h3,h4⟩:=Ez (d:=d) hx lH h2;obtain⟨fa,h5⟩:=ih k fg _ U _ h4 (hl.SA t _) h3;exact step k fa lI h1 (by rw[hd];exact hb) (by rw[hd];exact h5)
   cases k with
   |w=>exact h2.elim
   |p=>exact fin .p zS h1 h2
   |r=>exact fin .r zS h1 h2
theorem abA{T:TypeId→bp}{P:Program}(hT:l4 P T){F:Fr}{stop:List Nat}(n:Nat)(cs:List Code)(Q:Exit→Env→ae→Prop)(env:Env)(U:ae)(h:gz T P F stop Q n (.code cs [] env U)):J P F cs Q env U:=oH hT n (.code cs [] env U) h
theorem br{b:Bool}{A B:Prop}(h:b=true→A)(h':b=false→B):Cf b A B:=⟨h,h'⟩
theorem a_{b:Bool}{A B:Prop}(hb:b=true)(h:A):Cf b A B:=⟨fun _=>h,fun e=>(by rw[hb]at e;cases e)⟩
theorem aR{b:Bool}{A B:Prop}(hb:b=false)(h:B):Cf b A B:=⟨fun e=>(by rw[hb]at e;cases e),fun _=>h⟩
end Go.T
namespace Go.T
open Go
variable[bV]
inductive uW(P:Program)where
 |leaf
 |node (k:Nat) (i:{i:bp//bK P k i}) (l r:uW P)
def uW.get{P:Program}:uW P→Nat→bp
 |.leaf,_=>{}
 |.node k i l r,t=>bif Nat.beq t k then i.1 else bif Nat.blt t k then l.get t else r.get t
theorem bK.none(P:Program)(t:TypeId):bK P t {}:=⟨fun _ h=>(nomatch h),fun _ h=>(nomatch h),fun _ h=>(nomatch h),fun _ h=>(nomatch h),fun _ h=>(nomatch h),fun _ h=>(nomatch h)⟩
theorem uW.ok{P:Program}:∀(b:uW P)(t:Nat),bK P t (b.get t)
 |.leaf,t=>bK.none P t
 |.node k i l r,t=>by
  simp only[uW.get];cases hb:Nat.beq t k with
  |true=>obtain rfl:=Nat.eq_of_beq_eq_true hb;exact i.2
  |false=>
   simp only[cond_false];cases Nat.blt t k with
   |true=>exact l.ok t
   |false=>exact r.ok t
section
variable{P:Program} {t:TypeId} {d:TypeDesc} {b:Bool} {n:Nat} {z:Value} {ds:List D} {fs:Array Field} {pl:List (Nat×Nat)} {ti:TypeInfo} {m:Nat}
theorem dj(ds:List D)(hu:P.underlying t=some d)(ha:∀w,(isAgg t).run P w=.ok b w)(hs:∀w,(sizeOf t).run P w=.ok n w)(hz:∀w,(zeroValue t).run P w=.ok z w)(hd:z.cells.toList.map jZ=ds):bK P t {u:=some d,agg:=some b,sz:=some n,zc:=some ds}:=
 ⟨fun _ h=>by cases h;exact hu,fun _ h=>by cases h;exact ha,fun _ h=>by cases h;exact hs,fun _ h=>by cases h;exact⟨z,hz,hd⟩,fun _ h=>(nomatch h),fun _ h=>(nomatch h)⟩
theorem ou(pl:List (Nat×Nat))(ds:List D)(hu:P.underlying t=some (.struct fs))(ha:∀w,(isAgg t).run P w=.ok b w)(hs:∀w,(sizeOf t).run P w=.ok n w)(hz:∀w,(zeroValue t).run P w=.ok z w)(hd:z.cells.toList.map jZ=ds)
  (hp:∀w,(fs.mapM (m:=Sem) fun f=>Prod.mk f.offset<$>sizeOf f.type).run P w=.ok pl.toArray w):bK P t {u:=some (.struct fs),agg:=some b,sz:=some n,zc:=some ds,pl:=some pl}:=
 ⟨fun _ h=>by cases h;exact hu,fun _ h=>by cases h;exact ha,fun _ h=>by cases h;exact hs,fun _ h=>by cases h;exact⟨z,hz,hd⟩,fun _ h fs' h'=>by cases h;rw[hu]at h';cases h';exact hp,fun _ h=>(nomatch h)⟩
end
mutual
theorem RU{f:Nat→Bool}:∀(d:D),d.bG=true→d.okB f=true
 |.any,_=>rfl
 |.raw _,_=>rfl
 |.str _,_=>rfl
 |.agg ds,h=>Bj ds h
 |.bf ds,h=>Bj ds h
 |.snap _ _ _,_=>rfl
 |.aY _,_=>rfl
 |.m_ _ _,_=>rfl
 |.box _ _,h=>by simp[D.bG]at h
 |.gs _ _,h=>by simp[D.bG]at h
 |.nI _ _,h=>by simp[D.bG]at h
 |.bu _,h=>by simp[D.bG]at h
 |.qj _ _ _,h=>by simp[D.bG]at h
 |.n_ _ _ _,h=>by simp[D.bG]at h
 |.gr _ _,h=>by simp[D.bG]at h
 |.fn _ as bs,h=>by
  simp only[D.bG,Bool.and_eq_true]at h;simp only[D.okB,Bj as h.1,Bj bs h.2,Bool.and_self]
theorem Bj{f:Nat→Bool}:∀(ds:List D),D.bG.eG ds=true→D.okB.eV f ds=true
 |[],_=>rfl
 |d::ds,h=>by
  simp only[D.bG.eG,Bool.and_eq_true]at h;simp only[D.okB.eV,RU d h.1,Bj ds h.2,Bool.and_self]
end
theorem rf{f:Nat→Bool}{g:Go.Fn}{b8:List D}(h:D.bG.eG b8=true):(D.fn g [] b8).okB f=true:=RU _ (by simp[D.bG,D.bG.eG,h])
theorem Fc.sub{P:Program}{f:FuncId}{ds ep:List D}{r:D}(h:Fc P f ep r)(hs:iv ds ep:=by repeat(first|exact .nil|refine .cons (Sub.refl _) ?_|refine .cons (Sub.ru _ _ _) ?_|refine .cons (Sub.nil _ _) ?_)):Fc P f ds r:=
 ⟨fun w O ρ vals hO hg hv=>h.out w O ρ vals hO hg (hs.out w O ρ vals hv)⟩
theorem ah{env:Env}{t:Nat}{d r:D}(h:env.get t=some d)(s:Sub d r):∃ds,getAll env [t]=some ds∧Sub (qX ds) r:=⟨[d],by simp[getAll,h],s⟩
theorem gS{env:Env}{t u:Nat}{d e d' e':D}(h:env.get t=some d)(h':env.get u=some e)(s:Sub d d')(s':Sub e e'):∃ds,getAll env [t,u]=some ds∧Sub (qX ds) (.bf [d',e']):=⟨[d,e],by simp[getAll,h,h'],.E7 s s'⟩
theorem BO{env:Env}{t u v:Nat}{d e f d' e' f':D}(h:env.get t=some d)(h':env.get u=some e)(Aa:env.get v=some f)(s:Sub d d')(s':Sub e e')(Kc:Sub f f'):∃ds,getAll env [t,u,v]=some ds∧Sub (qX ds) (.bf [d',e',f']):=⟨[d,e,f],by simp[getAll,h,h',Aa],.T_ s s' Kc⟩
theorem nx{ι:Type}{p q:ι→Prop}(x:ι)(h:p x)(k:q x):∃x,p x∧q x:=⟨x,h,k⟩
theorem Tu{A S K:Prop}(h:A→S)(k:K):Sd A S K:=⟨h,k⟩
end Go.T
