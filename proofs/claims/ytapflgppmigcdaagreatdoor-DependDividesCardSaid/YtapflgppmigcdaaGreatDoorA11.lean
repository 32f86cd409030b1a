/-
  Contracts of the functions that the statement reaches, and the logic in which they are proved (no condition): parts W75, Core44, Div6, Div7, Div8, Div9, Core45, W76, Div10, W77, Div11, W78, Div12, W79, Div13.
-/
import Derived.Test.YtapflgppmigcdaaGreatDoorA10
set_option linter.all false
namespace Go.T
open Go Go.Proofs Go.Proofs.Tryz
set_option maxRecDepth 20000
structure ajo(m:List Nat)(d:Nat)where
 lo:List Nat
 rest:List Nat
 hx:m=lo++rest
theorem ajn(m:List Nat)(d:Nat)(hm:m.length≠0)(hs:m.length≤40000)(ho:aU m)(hd:0<d)(HC:d<gB):Fc Tryz.prog 358 [aE m,.raw (.int .u64 (d:Int))] (.bf [aE (bh (gG m d).1),.raw (.int .u64 ((gG m d).2:Int))]):=by
 refine Fc.mk' [4,5] func358 rfl ntmps358 rfl rfl rfl (fun t w=>results_tmp2 results358 t _ w) ?_;refine J.seq (J.af [.p,.p] ?_);refine .ag rfl rfl<|.ag rfl rfl<|.nil ?_;refine J.seq (J.af [.p,.p,.w,.p] ?_);refine .mv rfl rfl<|.P rfl (dE underlying244 rfl)<|.W rfl (wN (bt:=8) 0 m.length underlying244 sizeOf184 typeInfo184 zeroValue184 rfl rfl rfl rfl rfl (by simp[aV]) (by simp[aV]) (Nat.le_refl m.length) zO zO zO rfl)<|.ag rfl rfl<|.nil ?_;refine J.seq (J.af [.p] ?_);refine .ag rfl rfl<|.nil ?_;refine J.seq (J.seq (J.af [.p,.p,.p,.p] ?_));refine .mv rfl rfl<|.P rfl (dE underlying244 rfl)<|.P rfl (dQ rfl rfl (eJ zO zQ))<|.ag rfl rfl<|.nil ?_;refine J.block ?_;refine J.loop (ι:=ajo m d) (fun sx=>[(7,.raw (.int .u64 ((gG sx.rest d).2:Int))),(8,.i ((sx.lo.length:Int)-1)),(6,.gs 0 m.length),(0,aE m),(1,.raw (.int .u64 (d:Int)))]) (fun sx=>[(0,.arr 1 (aV (List.replicate sx.lo.length 0++(gG sx.rest d).1)))]) (fun sx=>sx.lo.length) ⟨m,[],by simp⟩ ?_ ?_
 ·exact Le.mk rfl (.s rfl rfl (.cons rfl (Sub.int zS) rfl (.cons rfl (Sub.gs zS) rfl (.s rfl rfl (.s rfl rfl .nil))))) (.arr rfl (by simp[aV,gG]) .nil)
 ·rintro⟨lo,rest,hx⟩;show J _ _ _ _ [(7,.raw (.int .u64 ((gG rest d).2:Int))),(8,.i ((lo.length:Int)-1)),(6,.gs 0 m.length),(0,aE m),(1,.raw (.int .u64 (d:Int)))] [(0,.arr 1 (aV (List.replicate lo.length 0++(gG rest d).1)))];rcases lV lo with rfl|⟨i,x,rfl⟩
  ·obtain rfl:m=rest:=by simpa using hx
   refine J.seq (J.seq (J.af [.p,.p] ?_));refine .mv rfl rfl<|.P rfl (pY rfl rfl)<|.nil ?_;refine J.eQ rfl zS ?_;refine J.exit (ei (dZ ?_));refine J.bP (Le.freeze 6 0 rfl rfl (by simp[aV,ajc])) ?_;refine J.seq (J.af [.p,.p,.p,.p,.p] ?_);refine .mv rfl rfl<|.P rfl (ai call284 rfl (qn _))<|.mv rfl rfl<|.ag rfl rfl<|.ag rfl rfl<|.nil ?_;refine J.ret (?_);exact p6 rfl rfl (Sub.refl _) (Sub.refl _)
  ·have hl:=congrArg List.length hx;simp only[List.length_append,List.length_cons,List.length_nil]at hl;have jy:=ho x (by rw[hx];simp);have hr:=Km rest hd;have Hy:=aja hr HC jy;refine J.seq (J.seq (J.af [.p,.p] ?_));refine .mv rfl rfl<|.P rfl (pY rfl rfl)<|.nil ?_;refine J.fD rfl zS ?_;refine J.skip ?_;refine J.seq ?_;refine J.block ?_;refine J.seq (J.af [.p,.p,.p,.p,.p,.p,.p,.p] ?_);refine .mv rfl rfl<|.P rfl (sW rfl rfl (mulN (c:=gB) zD zO))<|.mv rfl rfl<|.mv rfl rfl<|.P rfl (fY underlying244 sizeOf184 rfl rfl zS (r_ (l:=m) (k:=i.length) (b:=x) (r:=rest) (by simp[hx]) zS))<|.P rfl (bX isAgg184 rfl)<|.P rfl (bU rfl rfl (addN zO))<|.ag rfl rfl<|.nil ?_;refine J.seq (J.af [.p,.p,.p,.p,.p,.p,.w] ?_);refine .mv rfl rfl<|.mv rfl rfl<|.mv rfl rfl<|.mv rfl rfl<|.P rfl (lT rfl rfl zO (J2 zO))<|.P rfl (bM (off:=(i.length)*1) underlying244 sizeOf184 rfl rfl zS zQ zS)<|.W rfl (gn (r:=_) (i.length) 0 sizeOf184 rfl rfl rfl rfl rfl rfl Z1 zS)<|.nil ?_;refine J.af [.p,.p,.p,.p] ?_;refine .mv rfl rfl<|.mv rfl rfl<|.P rfl (oh rfl rfl zO (aix _ _))<|.ag rfl rfl<|.nil ?_;refine J.nil (cC ?_);refine J.af [.p,.p,.p] ?_;refine .mv rfl rfl<|.P rfl (dQ rfl rfl (eJ zO zQ))<|.ag rfl rfl<|.nil ?_;refine J.nil (dG ?_);exact⟨⟨i,x::rest,by rw[hx];simp⟩,by simp,Le.mk rfl (.s rfl rfl (.cons rfl (Sub.int zS) rfl (.cons rfl (Sub.gs zS) rfl (.s rfl rfl (.s rfl rfl .nil))))) (.arr rfl (by exact Z2) .nil)⟩
structure akb(m n:List Nat)where
 pre:List Nat
 rest:List Nat
 out:List Nat
 hx:m=pre++rest
 hlen:out.length=m.length+n.length
 ho:TO out pre.length n.length (an pre*an n)
structure akc(m n:List Nat)(pre:List Nat)(x:Nat)where
 aw:List Nat
 aI:List Nat
 out:List Nat
 c:Nat
 bl:n=aw++aI
 hlen:out.length=m.length+n.length
 hi:TI out c pre.length n.length (an pre*an n) x aw
theorem T0(m n:List Nat)(hm:m.length+n.length≠0)(O4:m.length≤20000)(O7:n.length≤20000)(As:aU m)(ca:aU n):Fc Tryz.prog 338 [aE m,aE n] (aE (au (an m*an n))):=by
 refine Fc.mk' [4] func338 rfl ntmps338 rfl rfl rfl (fun t w=>results_tmp results338 t _ w) ?_;refine go [16] ?_;refine sd (eJ zO zQ) ?_;refine oW (wN (bt:=8) 0 (m.length+n.length) underlying244 sizeOf184 typeInfo184 zeroValue184 rfl rfl rfl rfl rfl (by simp[aV]) (by simp[aV]) (Nat.le_refl (m.length+n.length)) zO zO zO rfl) ?_;refine J.loop (ι:=akb m n) (fun sx=>[(17,aE m),(18,.i m.length),(1,aE n),(5,.gs 0 (m.length+n.length)),(19,.i sx.pre.length)]) (fun sx=>[(0,.arr 1 (aV sx.out))]) (fun sx=>sx.rest.length) ⟨[],m,List.replicate (m.length+n.length) 0,rfl,by simp,Fw m n _⟩ ?_ ?_
 ·exact Le.mk rfl (.s rfl rfl (.cons rfl (Sub.int zS) rfl (.s rfl rfl (.cons rfl (Sub.gs zS) rfl (.s rfl rfl .nil))))) (.arr rfl (by simp[aV]) .nil)
 ·rintro⟨pre,rest,out,hx,hlen,ho⟩;show J _ _ _ _ [(17,aE m),(18,.i m.length),(1,aE n),(5,.gs 0 (m.length+n.length)),(19,.i pre.length)] [(0,.arr 1 (aV out))];have hl:=congrArg List.length hx;simp only[List.length_append]at hl;rcases rest with _|⟨x,rest⟩
  ·obtain rfl:m=pre:=by simpa using hx
   refine go [16] ?_;refine aR zS ?_;refine go [16] ?_;refine J.bP (Le.freeze 5 0 rfl rfl (by simp[aV];omega)) ?_;refine go [] ?_;refine oP (ai call284 rfl (qn _)) ?_;exact ah rfl (Sub.snap (by rw[zi ho]))
  ·simp only[List.length_cons]at hl;have iX:=As x (by rw[hx];simp);refine go [16] ?_;refine a_ zQ ?_;refine ix zO (bn (fun(n:Nat)=>[D.raw (.int .u64 (n:Int))]) hx rfl) ?_;refine J.loop (ι:=akc m n pre x) (fun sx=>[(17,aE m),(18,.i m.length),(1,aE n),(5,.gs 0 (m.length+n.length)),(19,.i pre.length),(6,.i pre.length),(7,.raw (.int .u64 (x:Int))),(24,aE n),(25,.i n.length),(8,.raw (.int .u64 (sx.c:Int))),(26,.i sx.aw.length)]) (fun sx=>[(0,.arr 1 (aV sx.out))]) (fun sx=>sx.aI.length) ⟨[],n,out,0,rfl,hlen,Fs _ ho⟩ ?_ ?_
   ·exact Le.mk rfl (.s rfl rfl (.s rfl rfl (.s rfl rfl (.cons rfl (Sub.gs zS) rfl (.s rfl rfl (.s rfl rfl (.s rfl rfl (.s rfl rfl (.cons rfl (Sub.int zS) rfl (.s rfl rfl (.s rfl rfl .nil))))))))))) (.arr rfl (by rfl) .nil)
   ·rintro⟨aw,aI,out,c,bl,hlen,hi⟩;show J _ _ _ _ [(17,aE m),(18,.i m.length),(1,aE n),(5,.gs 0 (m.length+n.length)),(19,.i pre.length),(6,.i pre.length),(7,.raw (.int .u64 (x:Int))),(24,aE n),(25,.i n.length),(8,.raw (.int .u64 (c:Int))),(26,.i aw.length)] [(0,.arr 1 (aV out))];have bL:=congrArg List.length bl;simp only[List.length_append]at bL;rcases aI with _|⟨x2,aI⟩
    ·obtain rfl:n=aw:=by simpa using bl
     refine go [16] ?_;refine aR zS ?_;refine go [16] ?_;refine br (fun h1=>?_) (fun h1=>?_)
     ·refine sd (eJ zO zQ) ?_;refine oP (bM (off:=(pre.length+n.length)*1) underlying244 sizeOf184 rfl rfl zO zQ zQ) ?_;refine oR (eI (r:=_) (pre.length+n.length) 0 isAgg184 rfl rfl rfl (fS (by simp at*;omega)) rfl) ?_;refine sd ((addN (by have:=dP hi.1 (pre.length+n.length);have:=hi.2.1;unfold gB at*;omega))) ?_;refine oP (bM (off:=(pre.length+n.length)*1) underlying244 sizeOf184 rfl rfl zO zQ zQ) ?_;refine oW (gn (r:=_) (pre.length+n.length) 0 sizeOf184 rfl rfl rfl rfl rfl rfl (fS (by simp at*;omega)) zS) ?_;refine go [16] ?_;refine sd (az zO) ?_;exact nx ⟨pre++[x],rest,out.set (pre.length+n.length) (nth out (pre.length+n.length)+c),by simp[hx],by simp[hlen],Fu hi (by simp at*;omega) (by simp at*;omega) rfl⟩ zS (Le.mk rfl (.s rfl rfl (.s rfl rfl (.s rfl rfl (.cons rfl (Sub.gs zS) rfl (.cons rfl (Sub.int zS) rfl .nil))))) (.arr rfl (by exact rO) .nil))
     ·refine go [16] ?_;refine sd (az zO) ?_;exact nx ⟨pre++[x],rest,out,by simp[hx],hlen,K5 hi (by simp at*;omega)⟩ zS (Le.mk rfl (.s rfl rfl (.s rfl rfl (.s rfl rfl (.cons rfl (Sub.gs zS) rfl (.cons rfl (Sub.int zS) rfl .nil))))) (.arr rfl (by rfl) .nil))
    ·simp only[List.length_cons]at bL;have pK:=ca x2 (by rw[bl];simp);refine go [16] ?_;refine a_ zQ ?_;refine ix zO (bn (fun(n:Nat)=>[D.raw (.int .u64 (n:Int))]) bl rfl) ?_;refine sd (az zO) ?_;refine oP (bM (off:=(pre.length+aw.length)*1) underlying244 sizeOf184 rfl rfl zO zO zO) ?_;refine oR (eI (r:=_) (pre.length+aw.length) 0 isAgg184 rfl rfl rfl (fS (by simp at*;omega)) rfl) ?_;refine sd ((mulN rfl (tj hi.2.1 (dP hi.1 (pre.length+aw.length)) iX pK).1)) ?_;refine sd ((addN (tj hi.2.1 (dP hi.1 (pre.length+aw.length)) iX pK).2.1)) ?_;refine sd ((addN (tj hi.2.1 (dP hi.1 (pre.length+aw.length)) iX pK).2.2)) ?_;refine sd (az zO) ?_;refine oP (oh rfl rfl zD (s0 _)) ?_;refine oP (bM (off:=(pre.length+aw.length)*1) underlying244 sizeOf184 rfl rfl zO zO zO) ?_;refine oW (gn (r:=_) (pre.length+aw.length) 0 sizeOf184 rfl rfl rfl rfl rfl rfl (fS (by simp at*;omega)) zS) ?_;refine oP (lT rfl rfl zD (uD (tj hi.2.1 (dP hi.1 (pre.length+aw.length)) iX pK).2.2)) ?_;refine sd (az zO) ?_;exact nx ⟨aw++[x2],aI,out.set (pre.length+aw.length) ((c+(nth out (pre.length+aw.length)+x*x2))%gB),(c+(nth out (pre.length+aw.length)+x*x2))/gB,by simp[bl],by simp[hlen],Ft hi iX pK zO zO⟩ zS (Le.mk rfl (.s rfl rfl (.s rfl rfl (.s rfl rfl (.cons rfl (Sub.gs zS) rfl (.s rfl rfl (.s rfl rfl (.s rfl rfl (.s rfl rfl (.s rfl rfl (.s rfl rfl (.cons rfl (Sub.int zS) rfl .nil))))))))))) (.arr rfl (by exact rO) .nil))
end Go.T
namespace Go.T
open Go
variable[bV]
variable{P:Program} {env:Env} {dst:Option Tmp} {ty:TypeId} {pos:String} {ar:Array Edge} {g:Option (Nat×Bool)}
theorem FA{w:World}{O:Nat→Prop}{b sz:Nat}:∀(rows:List (List D))(off h:Nat),Vr w O b off sz rows→Vr w O b off sz (rows.take h)
 |[],_,h,_=>by simp[Vr]
 |r::rs,off,0,_=>by simp[Vr]
 |r::rs,off,h+1,hv=>by
  simp only[Vr,List.take_succ_cons]at hv⊢;exact⟨hv.1,FA rs _ h hv.2⟩
theorem acN{w:World}{b:Nat}{bW:Obj}(h:w.heap[b]?=some bW):({w with heap:=w.heap.setIfInBounds b bW}:World)=w:=by
 have e:w.heap.setIfInBounds b bW=w.heap:=by
  apply Array.ext_getElem?;intro i;rw[Array.getElem?_setIfInBounds];split
  ·rename_i e;subst e;have:=(Array.getElem?_eq_some_iff.1 h).1;simp[this,h.symm]
  ·rfl
 rw[e]
theorem Tr.shrink{O:Nat→Prop}{w:World}{ρ:aA}{U:ae}{id sz:Nat}{rows:List (List D)}(h:Nat)(aj:cF w O ρ U)(ho:U.get id=some (.arr sz rows))(aB:rows≠[]):Tr O w ρ U w ρ (U.set id (.arr sz (rows.take h))):=by
 have qE:(Ob.arr sz rows).live=true:=by
  cases rows
  ·exact absurd rfl aB
  ·rfl
 obtain⟨l,h3,h4,c,T,h5,h6,h7,h8⟩:=aj.own id _ ho qE;have hs:=acN h5;have:=Tr.cg (o':=.arr sz (rows.take h)) aj ho qE h3 (.cells c T (0,0)) (by
  rw[hs];intro hk;exact⟨c,T,h5,h6,⟨by simp;omega,by simp;omega⟩,FA _ _ _ (gw.mono.vr hk rfl _ _ h8)⟩)
 rw[hs]at this;exact this
theorem ah_{U:ae}{t e:TypeId}{x y:Operand}{k:IntKind}{sz id n h:Nat}{rows:List (List D)}(hu:P.underlying t=some (.slice e))(hs:∀w,(sizeOf e).run P w=.ok sz w)(hx:env.op x=some (.gs id n))
  (hy:env.op y=some (.raw (.int k (h:Int))))(ho:U.get id=some (.arr sz rows))(hn:rows.length=n)(hh:h≤n)(h0:h≠0):
  aq P ⟨dst,.slice t x none (some y) none,ty,pos,ar,g⟩ env U (.gs id h) (U.set id (.arr sz (rows.take h))):=
 .step fun O ρ a w aj hv=>by
  have h1:=hv x (by simp[Op.operands]) _ hx;have h2:=hv y (by simp[Op.operands]) _ hy;simp only[V]at h1 h2;rcases h1 with⟨h1,_⟩|⟨_,l,h3,e1⟩
  ·omega
  ·have aB:rows≠[]:=by rintro rfl;simp at hn;omega
   have qE:(Ob.arr sz rows).live=true:=by
    cases rows
    ·exact absurd rfl aB
    ·rfl
   obtain⟨l',g3,g4,c,T,g5,g6,g7,g8⟩:=aj.own id _ ho qE;rw[h3]at g3;cases g3;have dA:h≤l.cap:=by omega
   have hb:(Instr.sliceBounds true n l.cap none (some (.int k h)) none).run P w=.ok (0,h,l.cap) w:=by
    simp[Instr.sliceBounds,BT,dA]
   refine⟨.slice (some ⟨l.b,l.off,none⟩) h l.cap,w,ρ,.inl ?_,Tr.shrink h aj ho aB,?_⟩
   ·simp[execOp,Instr.sliceAt,Instr.slice,bY hu,e1,h2,hb,hs,addr_add]
   ·simp only[V];exact .inr ⟨h0,l,h3,rfl⟩
end Go.T
namespace Go.T
open Go
def MS(a0 a:List Nat)(g c i k:Nat)(pre:List Nat):Prop:=
 aU a∧c<gB∧a.length=a0.length∧an a+g*an pre*gB^i=an a0+c*gB^(i+pre.length)∧∀j,i+k≤j→nth a j=nth a0 j
theorem U0{a:List Nat}(h:aU a)(g i k:Nat):MS a a g 0 i k []:=⟨h,dz,rfl,by simp[an],fun _ _=>rfl⟩
theorem Fk{g b c:Nat}(hg:g<gB)(hb:b<gB)(hc:c<gB):g*b+c≤(gB-1)*gB:=by
 have h1:g*b≤(gB-1)*(gB-1):=Nat.mul_le_mul zO zO;unfold gB at*;omega
theorem Fl{g b c:Nat}(hg:g<gB)(hb:b<gB)(hc:c<gB):g*b<18446744073709551616∧g*b+c<18446744073709551616:=by
 have h:=Fk hg hb hc;have h2:(gB-1)*gB<18446744073709551616:=by decide
 omega
theorem U1{g b c x:Nat}(hg:g<gB)(hb:b<gB)(hc:c<gB)(hx:x<(g*b+c)%gB):(g*b+c)/gB+1<gB:=by
 have h:=Fk hg hb hc;rcases Nat.lt_or_ge ((g*b+c)/gB) (gB-1)with h1|h1
 ·omega
 ·exfalso;have h2:=Nat.div_add_mod (g*b+c) gB;have h3:gB*(gB-1)≤gB*((g*b+c)/gB):=Nat.mul_le_mul_left _ h1;rw[Nat.mul_comm gB (gB-1)]at h3;omega
theorem K3{g b c:Nat}(hg:g<gB)(hb:b<gB)(hc:c<gB):(g*b+c)/gB<gB:=by
 rw[Nat.div_lt_iff_lt_mul dz];have h:=Fk hg hb hc;have h2:(gB-1)*gB<gB*gB:=by decide
 omega
theorem K2{a0 a pre:List Nat}{g c i k b v e:Nat}(h:MS a0 a g c i k pre)(hg:g<gB)(hb:b<gB)(hk:pre.length<k)(hl:i+pre.length<a.length)
  (hv:v+(g*b+c)%gB=nth a (i+pre.length)+e*gB)(hvB:v<gB)(hc:(g*b+c)/gB+e<gB):
  MS a0 (a.set (i+pre.length) v) g ((g*b+c)/gB+e) i k (pre++[b]):=by
 obtain⟨h1,h2,h3,h4,h5⟩:=h;refine⟨ug h1 hvB,hc,by simpa using h3,?_,fun j hj=>?_⟩
 ·have hs:=yq (v:=v) hl;have hd:=Nat.div_add_mod (g*b+c) gB;rw[wq,List.length_append,List.length_singleton,←Nat.add_assoc,Nat.pow_succ];generalize (g*b+c)/gB=u at*;generalize (g*b+c)%gB=w at*;generalize nth a (i+pre.length)=z at*;have e1:g*(an pre+b*gB^pre.length)*gB^i=g*an pre*gB^i+g*b*gB^(i+pre.length):=by
   rw[Nat.mul_add,Nat.add_mul,Nat.pow_add,←Nat.mul_assoc g b,Nat.mul_assoc (g*b),Nat.mul_comm (gB^pre.length)]
  rw[e1];generalize gB^(i+pre.length)=P at*;have e2:(v+w)*P=(z+e*gB)*P:=by rw[hv]
  have e3:(gB*u+w)*P=(g*b+c)*P:=by rw[hd]
  have e4:(u+e)*(P*gB)=gB*u*P+e*gB*P:=by
   rw[Nat.add_mul,Nat.mul_comm P gB,←Nat.mul_assoc,←Nat.mul_assoc,Nat.mul_comm u gB]
  rw[e4];rw[Nat.add_mul,Nat.add_mul]at e2 e3;omega
 ·rw[yF hl,if_neg zO];exact h5 j hj
def AB(a1 a:List Nat)(d i k:Nat)(pre:List Nat):Prop:=
 aU a∧d≤1∧a.length=a1.length∧an a+d*gB^(i+pre.length)=an a1+an pre*gB^i∧∀j,i+k≤j→nth a j=nth a1 j
theorem UF{a:List Nat}(h:aU a)(i k:Nat):AB a a 0 i k []:=⟨h,by omega,rfl,by simp[an],fun _ _=>rfl⟩
theorem UG{a1 a pre:List Nat}{d i k b:Nat}(h:AB a1 a d i k pre)(hb:b<gB)(hk:pre.length<k)(hl:i+pre.length<a.length):
  AB a1 (a.set (i+pre.length) ((nth a (i+pre.length)+(b+d))%gB)) ((nth a (i+pre.length)+(b+d))/gB) i k (pre++[b]):=by
 obtain⟨h1,h2,h3,h4,h5⟩:=h;have hn:=dP h1 (i+pre.length);refine⟨ug h1 (Nat.mod_lt _ dz),?_,by simpa using h3,?_,fun j hj=>?_⟩
 ·have:nth a (i+pre.length)+(b+d)<gB*2:=by omega
  have:=Nat.div_lt_of_lt_mul this;omega
 ·have hs:=LG (t:=nth a (i+pre.length)+(b+d)) (c:=b+d) hl rfl zO;rw[wq,List.length_append,List.length_singleton,show i+(pre.length+1)=i+pre.length+1 from rfl,hs,Nat.add_mul b,Nat.add_mul,Nat.mul_assoc b,←Nat.pow_add,Nat.add_comm pre.length i];omega
 ·rw[yF hl,if_neg zO];exact h5 j hj
theorem Ku{l:List Nat}{n:Nat}(h:∀j,n<j→nth l j=0):an l=an (l.take n)+nth l n*gB^n:=by
 rcases Nat.lt_or_ge n l.length with g|g
 ·have h1:=I1 (l:=l) (k:=n+1) (fun j hj=>h j hj);rw[h1,List.take_succ,List.getElem?_eq_getElem g];simp only[Option.toList];rw[wq,List.length_take,Nat.min_eq_left zO];simp[nth,g]
 ·rw[List.take_of_length_le g];simp[nth,g]
theorem B0{l:List Nat}(h:aU l)(n:Nat):an (l.take n)<gB^n:=by
 have h2:=sl (m:=l.take n) (fun x hx=>h x (List.mem_of_mem_take hx));have h3:gB^(l.take n).length≤gB^n:=Nat.pow_le_pow_right dz zQ;omega
theorem alr{l x r y P:Nat}(h:l+x*P=r+y*P)(hl:l<P)(hr:r<P):x=y∧l=r:=by
 rcases Nat.lt_trichotomy x y with g|g|g
 ·exfalso;have:(x+1)*P≤y*P:=Nat.mul_le_mul_right _ g;rw[Nat.add_mul]at this;omega
 ·subst g;exact⟨rfl,by omega⟩
 ·exfalso;have:(y+1)*P≤x*P:=Nat.mul_le_mul_right _ g;rw[Nat.add_mul]at this;omega
def DO(A bv:Nat)(a out:List Nat)(i k:Nat):Prop:=aU a∧aU out∧a.length=out.length+k∧an a<bv*gB^i∧an a+an out*bv=A∧∀j,j<i→nth out j=0
theorem Fe{A bv:Nat}{a out b:List Nat}{i k:Nat}(h:DO A bv a out (i+1) k)(hb:aU b)(hk:b.length=k)(hv:an b=bv)(j:Nat)(hj:i+k<j):nth a j=0:=by
 refine RB (n:=i+k+1) ?_ zO;have h1:=sl hb;rw[hk,hv]at h1;have h2:bv*gB^(i+1)≤gB^k*gB^(i+1):=Nat.mul_le_mul_right _ zO;rw[←Nat.pow_add,show k+(i+1)=i+k+1 by omega]at h2;have:=h.2.2.2.1;omega
theorem R3{out:List Nat}{i g:Nat}(h0:nth out i=0)(hi:i<out.length):an (out.set i g)=an out+g*gB^i:=by
 have:=yq (v:=g) hi;rw[h0]at this;omega
theorem UL{A bv:Nat}{a0 a out b:List Nat}{i k g c:Nat}(h:DO A bv a0 out (i+1) k)(hv:an b=bv)
  (hq:∀q,q<gB→q*bv*gB^i≤an a0→q≤g)(hg:g<gB)(hm:MS a0 a g c i k b)(hk:b.length=k)(hc:c≤nth a (i+k))(hl:i+k<a.length)(ho:i<out.length):
  DO A bv (a.set (i+k) (nth a (i+k)-c)) (out.set i g) i k:=by
 obtain⟨o1,o2,o3,o4,o5,o6⟩:=h;obtain⟨m1,m2,m3,m4,m5⟩:=hm;have hn:=dP m1 (i+k);have hs:=yq (v:=nth a (i+k)-c) hl;rw[hk,hv]at m4;rw[Nat.sub_mul]at hs;have Dt:c*gB^(i+k)≤nth a (i+k)*gB^(i+k):=Nat.mul_le_mul_right _ hc;have DI:an (a.set (i+k) (nth a (i+k)-c))+g*bv*gB^i=an a0:=by omega
 have H':=R3 (g:=g) (o6 i zO) ho;refine⟨ug m1 zO,ug o2 hg,by simp;omega,?_,?_,fun j hj=>?_⟩
 ·rcases Nat.lt_or_ge (an (a.set (i+k) (nth a (i+k)-c))) (bv*gB^i)with r|r
  ·exact r
  ·exfalso;have e:(g+1)*bv*gB^i≤an a0:=by rw[Nat.add_mul,Nat.add_mul,Nat.one_mul];omega
   rcases Nat.lt_or_ge (g+1) gB with t|t
   ·have:=hq (g+1) t e;omega
   ·have e2:gB*bv*gB^i≤(g+1)*bv*gB^i:=Nat.mul_le_mul_right _ (Nat.mul_le_mul_right _ t);have e3:bv*gB^(i+1)=gB*bv*gB^i:=by rw[Nat.pow_succ,Nat.mul_comm gB bv,Nat.mul_assoc,Nat.mul_comm gB]
    omega
 ·rw[H',Nat.add_mul,Nat.mul_right_comm g (gB^i) bv];omega
 ·rw[yF ho,if_neg zO];exact o6 j zO
theorem UJ{A bv:Nat}{a0 a1 a out b:List Nat}{i k g c d:Nat}(h:DO A bv a0 out (i+1) k)(hb:aU b)(hv:an b=bv)(hk:b.length=k)
  (oM:(g-1)*bv*gB^i≤an a0)(hg:g<gB)(hm:MS a0 a1 g c i k b)(hc:nth a1 (i+k)<c)(vG:AB a1 a d i k b)(hl:i+k<a.length)(ho:i<out.length):
  1≤g∧nth a (i+k)+d=c∧DO A bv (a.set (i+k) (nth a (i+k)+d-c)) (out.set i (g-1)) i k:=by
 have hz:=Fe h hb hk hv;obtain⟨o1,o2,o3,o4,o5,o6⟩:=h;obtain⟨m1,m2,m3,m4,m5⟩:=hm;obtain⟨p1,p2,p3,p4,p5⟩:=vG;have t1:nth a (i+k)=nth a1 (i+k):=p5 _ (Nat.le_refl _);have sa:=Ku (l:=a) (n:=i+k) (fun j hj=>by rw[p5 j zO,m5 j zO];exact hz j hj);have s1:=Ku (l:=a1) (n:=i+k) (fun j hj=>by rw[m5 j zO];exact hz j hj);have la:=B0 p1 (i+k);have l1:=B0 m1 (i+k);have Ou:=sl hb;rw[hk,hv]at Ou m4 p4;have hX:bv*gB^i<gB^(i+k):=by
  have:bv*gB^i<gB^k*gB^i:=Nat.mul_lt_mul_of_pos_right Ou (Nat.pow_pos dz);rw[←Nat.pow_add,Nat.add_comm k i]at this;exact this
 have Dt:(nth a1 (i+k)+1)*gB^(i+k)≤c*gB^(i+k):=Nat.mul_le_mul_right _ hc;rw[Nat.add_mul,Nat.one_mul]at Dt;have bw:an a0<g*bv*gB^i:=by omega
 have lH:1≤g:=by
  rcases Nat.eq_zero_or_pos g with e|e
  ·subst e;simp at bw
  ·exact e
 have hgX:g*bv*gB^i=(g-1)*bv*gB^i+bv*gB^i:=by
  conv=>lhs;rw[show g=(g-1)+1 by omega]
  rw[Nat.add_mul,Nat.add_mul,Nat.one_mul]
 have key:an (a.take (i+k))+(nth a (i+k)+d)*gB^(i+k)=(an a0-(g-1)*bv*gB^i)+c*gB^(i+k):=by
  rw[Nat.add_mul];omega
 obtain⟨k1,k2⟩:=alr key la zO;have hs:=yq (v:=nth a (i+k)+d-c) hl;rw[show nth a (i+k)+d-c=0 by omega]at hs⊢;rw[Nat.zero_mul]at hs;have H':=R3 (g:=g-1) (o6 i zO) ho;refine⟨lH,k1,ug p1 dz,ug o2 zO,by simp;omega,by omega,?_,fun j hj=>?_⟩
 ·rw[H',Nat.add_mul,Nat.mul_right_comm (g-1) (gB^i) bv];omega
 ·rw[yF ho,if_neg zO];exact o6 j zO
def ot(a:List Nat)(i k:Nat):Nat:=nth a (i+k)*gB+nth a (i+k-1)
theorem Jk{l:List Nat}{n j:Nat}(h:j<n):nth (l.take n) j=nth l j:=by
 unfold nth;rw[List.getElem?_take,if_pos h]
theorem Eh{l:List Nat}{i j:Nat}:nth (l.drop i) j=nth l (i+j):=by
 unfold nth;rw[List.getElem?_drop]
theorem KS{a:List Nat}{i n:Nat}(ho:aU a)(hl:i+(n+2)<a.length)(hz:∀j,i+(n+2)<j→nth a j=0):
  ∃Ur,Ur<gB^n∧an a/gB^i=(ot a i (n+2)*gB+nth a (i+n))*gB^n+Ur:=by
 have h1:=afw ho i;have h2:=I1 (l:=a.drop i) (k:=n+3) (fun j hj=>by rw[Eh];exact hz _ zO);have OU:n+3=((a.drop i).take (n+3)).length:=by simp;omega
 have h3:=alc OU;rw[Jk zO,Jk zO,Jk zO,Eh,Eh,Eh]at h3;have bw:=B0 (l:=(a.drop i).take (n+3)) (fun x hx=>ho x (List.mem_of_mem_drop (List.mem_of_mem_take hx))) n;refine⟨_,bw,?_⟩;rw[←h1,h2,h3];rfl
theorem IF{q bv M P:Nat}(hP:0<P):q*bv*P≤M↔q*bv≤M/P:=(Nat.le_div_iff_mul_le hP).symm
def GS(a b:List Nat)(i k g:Nat):Prop:=g<gB∧g*nth b (k-1)≤ot a i k∧∀q,q<gB→q*an b*gB^i≤an a→q≤g
theorem FK{b:List Nat}{n:Nat}(ho:aU b)(hl:b.length=n+2):∃Vr,Vr<gB^n∧an b=(nth b (n+1)*gB+nth b n)*gB^n+Vr:=
 ⟨_,B0 ho n,alb hl.symm⟩
theorem ald{a:List Nat}{i n Ur:Nat}(ho:aU a)(hU:Ur<gB^n):nth a (i+n)*gB^n+Ur<gB*gB^n:=by
 have h:=dP ho (i+n);have:(nth a (i+n)+1)*gB^n≤gB*gB^n:=Nat.mul_le_mul_right _ h;rw[Nat.add_mul,Nat.one_mul]at this;omega
theorem UP{a b:List Nat}{i n:Nat}(ha:aU a)(hb:aU b)(hl:i+(n+2)<a.length)(hz:∀j,i+(n+2)<j→nth a j=0)(hk:b.length=n+2)(hC:0<nth b (n+1)):
  GS a b i (n+2) (min (ot a i (n+2)/nth b (n+1)) (gB-1)):=by
 obtain⟨Ur,hU,hW⟩:=KS ha hl hz;obtain⟨Vr,hV,hB⟩:=FK hb hk;refine⟨Nat.lt_of_le_of_lt (Nat.min_le_right _ _) (by unfold gB;omega),?_,fun q hq e8=>?_⟩
 ·exact Nat.le_trans (Nat.mul_le_mul_right _ (Nat.min_le_left _ _)) (Nat.div_mul_le_self _ _)
 ·rw[IF (Nat.pow_pos dz),hW,hB]at e8;exact ace (Nat.pow_pos dz) e8 (ald ha hU) hC zO
theorem UR{a b:List Nat}{i n g:Nat}(ha:aU a)(hb:aU b)(hl:i+(n+2)<a.length)(hz:∀j,i+(n+2)<j→nth a j=0)(hk:b.length=n+2)(h:GS a b i (n+2) g)
  (ht:(ot a i (n+2)-g*nth b (n+1))*gB+nth a (i+n)<g*nth b n):1≤g∧GS a b i (n+2) (g-1):=by
 obtain⟨Ur,hU,hW⟩:=KS ha hl hz;obtain⟨Vr,hV,hB⟩:=FK hb hk;obtain⟨h1,h2,h3⟩:=h;have hg:1≤g:=by
  rcases Nat.eq_zero_or_pos g with e|e
  ·subst e;simp at ht
  ·exact e
 refine⟨hg,by omega,Nat.le_trans (Nat.mul_le_mul_right _ (Nat.sub_le _ _)) h2,fun q hq e8=>?_⟩;rw[IF (Nat.pow_pos dz),hW,hB]at e8;exact acf hU h2 ht e8
theorem US{a b:List Nat}{i n g:Nat}(ha:aU a)(hb:aU b)(hl:i+(n+2)<a.length)(hz:∀j,i+(n+2)<j→nth a j=0)(hk:b.length=n+2)(hC:0<nth b (n+1))(h:GS a b i (n+2) g)
  (ht:gB≤ot a i (n+2)-g*nth b (n+1)∨g*nth b n≤(ot a i (n+2)-g*nth b (n+1))*gB+nth a (i+n)):(g-1)*an b*gB^i≤an a:=by
 obtain⟨Ur,hU,hW⟩:=KS ha hl hz;obtain⟨Vr,hV,hB⟩:=FK hb hk;obtain⟨h1,h2,h3⟩:=h;rw[IF (Nat.pow_pos dz),hW,hB];exact acg hC dz h2 zO (by have:=dP hb n;omega) hV ht
theorem ajb{l:List Nat}{d:Nat}(hl:aU l)(hd:0<d):bh (gG l d).1=au (an l/d)∧(gG l d).2=an l%d:=by
 have hv:=aje l d;have hr:=Km l hd;have h1:an l/d=an (gG l d).1:=by
  rw[hv,Nat.add_comm,Nat.add_mul_div_right _ _ hd,Nat.div_eq_of_lt hr];omega
 have h2:an l%d=(gG l d).2:=by
  rw[hv,Nat.add_comm,Nat.add_mul_mod_self_right,Nat.mod_eq_of_lt hr]
 exact⟨by rw[vb (ajd hl hd),h1],h2.symm⟩
theorem D3{v:Nat}(h:(au v).length≠0):gB^((au v).length-1)≤v:=by
 have:=IY (yp v) h;rw[gk]at this;exact this
theorem ue(v:Nat):v<gB^(au v).length:=by
 have:=sl (fW v);rw[gk]at this;exact this
theorem sk{u v:Nat}(h:u≤v):(au u).length≤(au v).length:=by
 rcases Nat.eq_zero_or_pos (au u).length with e|e
 ·omega
 ·have h1:=D3 (v:=u) zO;have h2:=ue v;have h3:gB^((au u).length-1)<gB^(au v).length:=by omega
  have:=(Nat.pow_lt_pow_iff_right (by unfold gB;omega)).1 h3;omega
theorem QN{v:Nat}(h:gB≤v):2≤(au v).length:=by
 rcases Nat.lt_or_ge (au v).length 2 with e|e
 ·exfalso;have h2:=ue v;have h3:gB^(au v).length≤gB^1:=Nat.pow_le_pow_right dz zO;rw[Nat.pow_one]at h3;omega
 ·exact e
theorem QL{v:Nat}{k:Nat}(h:(au v).length=k+1):0<nth (au v) k:=by
 have hc:=yp v;rcases lV (au v)with e|⟨i,x,e⟩
 ·rw[e]at h;simp at h
 ·have hi:i.length=k:=by rw[e]at h;simpa using h
  rw[e,←hi,ago];rcases Nat.eq_zero_or_pos x with z|z
  ·exfalso;subst z;have h1:=rJ i;have h2:=tw i;rw[e]at hc;rw[h1]at hc;have:=congrArg List.length hc;simp at this;omega
  ·exact z
theorem UN{M N:Nat}(hN:gB≤N)(hMN:N≤M):
  DO M N (au M++[0,0]) (List.replicate ((au M).length+2-(au N).length) 0) ((au M).length+2-(au N).length) (au N).length:=by
 have hk:=sk hMN;have h2:=QN hN;have hz:an (au M++[0,0])=M:=by rw[uh,gk];simp[an]
 refine⟨afv (fW M) (fun x hx=>by simp at hx;subst hx;exact dz),QO _,by simp;omega,?_,by rw[hz,QQ];omega,fun j hj=>?_⟩
 ·rw[hz];have h3:=D3 (v:=N) zO;have h4:=ue M;have h5:gB^((au N).length-1)*gB^((au M).length+2-(au N).length)≤N*gB^((au M).length+2-(au N).length):=Nat.mul_le_mul_right _ h3;rw[←Nat.pow_add,show(au N).length-1+((au M).length+2-(au N).length)=(au M).length+1 by omega]at h5;have h6:gB^(au M).length≤gB^((au M).length+1):=Nat.pow_le_pow_right dz zO;omega
 ·unfold nth;rw[List.getElem?_replicate];split<;>rfl
theorem UK{M N s:Nat}{a out:List Nat}{k:Nat}(h:DO (M*s) (N*s) a out 0 k)(hs:0<s)(hN:0<N)(hb:N*s<gB^k):
  bh out=au (M/N)∧bh (a.take k)=au (M%N*s):=by
 obtain⟨o1,o2,o3,o4,o5,o6⟩:=h;rw[Nat.pow_zero,Nat.mul_one]at o4;have hNs:0<N*s:=Nat.mul_pos hN hs;have e1:M*s/(N*s)=an out:=by rw[←o5,Nat.add_mul_div_right _ _ hNs,Nat.div_eq_of_lt o4];omega
 have e2:M*s%(N*s)=an a:=by rw[←o5,Nat.add_mul_mod_self_right,Nat.mod_eq_of_lt o4]
 rw[Nat.mul_div_mul_right _ _ hs]at e1;rw[Nat.mul_mod_mul_right]at e2;have e3:=I1 (l:=a) (k:=k) (fun j hj=>RB (n:=k) zO hj);refine⟨by rw[vb o2,e1],?_⟩;rw[vb (fun x hx=>o1 x (List.mem_of_mem_take hx)),←e3,e2]
variable[bV]
variable{P:Program} {env:Env} {dst:Option Tmp} {ty:TypeId} {pos:String} {ar:Array Edge} {g:Option (Nat×Bool)}
theorem aiQ{t e:TypeId}{ti:TypeInfo}(hu:P.underlying t=some (.slice e))(hs:∀w,(sizeOf e).run P w=.ok 1 w)(jT:∀w,(typeInfo e).run P w=.ok ti w)(w:World):
  (Instr.makeSlice t (.int .i64 0) (.int .i64 0)).run P w=.ok (.slice (some ⟨w.heap.size,0,none⟩) 0 0) (w.alloc (.cells #[] e)):=by
 have wl:IntKind.i64.wrap 0=0:=by rw[IntKind.wrap_i64];omega
 have e0:(Array.range 0).map (fun _=>(default:Value))=#[]:=by apply Array.ext_getElem?;intro i;simp
 simp[Instr.makeSlice,run_underlying hu,asInt,asIntOf,jT,hs,wl,newRow,e0]
theorem SS{t e:TypeId}{ti:TypeInfo}{x y:Operand}{nx ny:Int}(hu:P.underlying t=some (.slice e))(hs:∀w,(sizeOf e).run P w=.ok 1 w)(jT:∀w,(typeInfo e).run P w=.ok ti w)
  (hx:env.op x=some (.raw (.int .i64 nx)))(hy:env.op y=some (.raw (.int .i64 ny)))(Aw:nx=0)(Ax:ny=0)(U:ae):
  aq P ⟨dst,.makeSlice t x y,ty,pos,ar,g⟩ env U (.snap 1 false []) U:=
 .step fun O ρ a w aj hv=>by
  have cc:=hv x (by simp[Op.operands]) _ hx;have dB:=hv y (by simp[Op.operands]) _ hy;simp only[V]at cc dB;subst Aw;subst Ax;have hr:=aiQ hu hs jT w;refine⟨.slice (some ⟨w.heap.size,0,none⟩) 0 0,w.alloc (.cells #[] e),ρ,.inl ?_,Tr.o_ ⟨by simp,fun b hb=>by show(w.heap.push _)[b]?=_;rw[Array.getElem?_push,if_neg (Nat.ne_of_lt hb)],rfl,rfl,gv.eq rfl rfl⟩ aj,?_⟩
  ·simp only[execOp,cc,dB];rw[Sem.run_bind,hr];rfl
  ·simp[V,aG]
end Go.T
namespace Go.T
open Go Go.Proofs Go.Proofs.Tryz
set_option maxRecDepth 20000
structure Xy(m:List Nat)where
 cur:List Nat
 hx:bh cur=bh m
 hl:cur.length≤m.length
theorem Xx(m:List Nat)(hm:bh m≠[])(hs:m.length≤1000000):dv Tryz.prog 284 [.gs 7200 m.length] [(7200,.arr 1 (aV m))] (.gs 7200 (bh m).length) [(7200,.arr 1 (aV (bh m)))]:=by
 refine dv.mk' [2] func284 rfl ntmps284 rfl rfl rfl (fun t w=>results_tmp results284 t _ w) ?_;refine J.seq (J.af [.p] ?_);refine .ag rfl rfl<|.nil ?_;refine J.seq ?_;refine J.block ?_;refine J.loop (ι:=Xy m) (fun sx=>[(0,.gs 7200 sx.cur.length)]) (fun sx=>[(7200,.arr 1 (aV sx.cur))]) (fun sx=>sx.cur.length) ⟨m,rfl,by omega⟩ ?_ ?_
 ·exact Le.mk rfl (.cons rfl (Sub.gs zS) rfl .nil) (.arr rfl (by rfl) .nil)
 ·rintro⟨cur,hx,hl⟩;show J _ _ _ _ [(0,.gs 7200 cur.length)] [(7200,.arr 1 (aV cur))];rcases lV cur with rfl|⟨i,x,rfl⟩
  ·exact absurd hx.symm hm
  ·skip;refine J.seq (J.seq (J.af [.p,.p,.p,.p,.p,.p,.p,.p,.p,.r,.p,.p] ?_));refine .mv rfl rfl<|.P rfl (sU underlying244 rfl)<|.P rfl (gp rfl rfl)<|.mv rfl rfl<|.p rfl (fX rfl rfl rfl zS) (fun _=>aX rfl _)<|.p rfl (fX rfl rfl rfl zS) (fun _=>aX rfl _)<|.p rfl (fX rfl rfl rfl zS) (fun _=>sU underlying244 rfl _)<|.p rfl (fX rfl rfl rfl zS) (fun _=>dQ rfl rfl (az zO) _)<|.p rfl (fX rfl rfl rfl zS) (fun _=>bM (off:=(i.length)*1) underlying244 sizeOf184 rfl rfl zS zS zS _)<|.r rfl (fX rfl rfl rfl zS) (eI (r:=_) (i.length) 0 isAgg184 rfl rfl rfl (eX i x []) rfl)<|.p rfl (fX rfl rfl rfl zS) (fun _=>jF rfl rfl _)<|.P rfl (wQ rfl zS rfl)<|.nil ?_;refine J.cond rfl (fun h1=>?_) (fun h1=>?_)
   ·have bE:=h1;try simp only[bs]at bE
    refine J.skip ?_;refine J.block ?_;refine J.af [.p,.p,.p,.p,.w,.p] ?_;refine .mv rfl rfl<|.mv rfl rfl<|.P rfl (sU underlying244 rfl)<|.P rfl (dQ rfl rfl (az zO))<|.W rfl (ah_ (h:=i.length) underlying244 sizeOf184 rfl (ur rfl zS) rfl (by simp[aV]) zS (by rintro h0;obtain rfl:=List.length_eq_zero_iff.1 h0;exact hm (by rw[←hx,show x=0 by omega,rJ];rfl)))<|.ag rfl rfl<|.nil ?_;refine J.nil (cC ?_);refine J.nil (dG ?_);exact⟨⟨i,by rw[←hx,show x=0 by omega,rJ],by simp at hl;omega⟩,by simp,Le.mk rfl (.cons rfl (Sub.gs zS) rfl .nil) (.arr rfl (by simp[aV]) .nil)⟩
   ·have bE:=h1;try simp only[bs]at bE
    refine J.exit (ei (dZ ?_));refine J.seq (J.af [.p,.p] ?_);refine .mv rfl rfl<|.ag rfl rfl<|.nil ?_;refine J.ret (?_);exact uE rfl (by exact Sub.gs (by(rw[←hx,xo i zO]))) (.eq rfl (by(rw[←hx,xo i zO])) rfl .nil)
structure aj'(m n:List Nat)where
 pre:List Nat
 rest:List Nat
 out:List Nat
 hx:m=pre++rest
 hlen:out.length=m.length+n.length
 ho:TO out pre.length n.length (an pre*an n)
structure aka(m n:List Nat)(pre:List Nat)(x:Nat)where
 aw:List Nat
 aI:List Nat
 out:List Nat
 c:Nat
 bl:n=aw++aI
 hlen:out.length=m.length+n.length
 hi:TI out c pre.length n.length (an pre*an n) x aw
theorem aj_(m n:List Nat)(hm:m.length+n.length≠0)(O4:m.length≤20000)(O7:n.length≤20000)(As:aU m)(ca:aU n)(hmn:au (an m*an n)≠[]):dv Tryz.prog 338 [aE m,aE n] [] (.gs 7200 (au (an m*an n)).length) [(7200,.arr 1 (aV (au (an m*an n))))]:=by
 refine dv.mk' [4] func338 rfl ntmps338 rfl rfl rfl (fun t w=>results_tmp results338 t _ w) ?_;refine go [] ?_;refine sd (eJ zO zQ) ?_;refine oW (wN (bt:=8) 0 (m.length+n.length) underlying244 sizeOf184 typeInfo184 zeroValue184 rfl rfl rfl rfl rfl (by simp[aV]) (by simp[aV]) (Nat.le_refl (m.length+n.length)) zO zO zO rfl) ?_;refine J.loop (ι:=aj' m n) (fun sx=>[(17,aE m),(18,.i m.length),(1,aE n),(5,.gs 7200 (m.length+n.length)),(19,.i sx.pre.length)]) (fun sx=>[(7200,.arr 1 (aV sx.out))]) (fun sx=>sx.rest.length) ⟨[],m,List.replicate (m.length+n.length) 0,rfl,by simp,Fw m n _⟩ ?_ ?_
 ·exact(Le.mk (ak:=[(0,_)]) rfl (show eO _ _ [(17,_),(18,_),(1,_),(5,_),(19,_)]from(.s rfl rfl (.s rfl rfl (.s rfl rfl (.s rfl rfl (.s rfl rfl .nil)))))) (.cons (i:=0) rfl rfl .nil)).trans<|(Le.pZ 5 0 7200 rfl rfl zS rfl).trans<|Le.mk rfl (.s rfl rfl (.cons rfl (Sub.int zS) rfl (.s rfl rfl (.cons rfl (Sub.gs zS) rfl (.s rfl rfl .nil))))) (.arr rfl (by simp[aV]) .nil)
 ·rintro⟨pre,rest,out,hx,hlen,ho⟩;show J _ _ _ _ [(17,aE m),(18,.i m.length),(1,aE n),(5,.gs 7200 (m.length+n.length)),(19,.i pre.length)] [(7200,.arr 1 (aV out))];have hl:=congrArg List.length hx;simp only[List.length_append]at hl;rcases rest with _|⟨x,rest⟩
  ·obtain rfl:m=pre:=by simpa using hx
   refine go [] ?_;refine aR zS ?_;refine go [] ?_;refine oW (gE call284 (by rw[←hlen];rfl) (Xx out (by rw[zi ho];exact hmn) zO) (.cons rfl rfl .nil) rfl rfl) ?_;exact uE rfl (by exact Sub.gs (by rw[zi ho])) (.eq rfl (by rw[zi ho]) rfl .nil)
  ·simp only[List.length_cons]at hl;have iX:=As x (by rw[hx];simp);refine go [] ?_;refine a_ zQ ?_;refine ix zO (bn (fun(n:Nat)=>[D.raw (.int .u64 (n:Int))]) hx rfl) ?_;refine J.loop (ι:=aka m n pre x) (fun sx=>[(17,aE m),(18,.i m.length),(1,aE n),(5,.gs 7200 (m.length+n.length)),(19,.i pre.length),(6,.i pre.length),(7,.raw (.int .u64 (x:Int))),(24,aE n),(25,.i n.length),(8,.raw (.int .u64 (sx.c:Int))),(26,.i sx.aw.length)]) (fun sx=>[(7200,.arr 1 (aV sx.out))]) (fun sx=>sx.aI.length) ⟨[],n,out,0,rfl,hlen,Fs _ ho⟩ ?_ ?_
   ·exact Le.mk rfl (.s rfl rfl (.s rfl rfl (.s rfl rfl (.cons rfl (Sub.gs zS) rfl (.s rfl rfl (.s rfl rfl (.s rfl rfl (.s rfl rfl (.cons rfl (Sub.int zS) rfl (.s rfl rfl (.s rfl rfl .nil))))))))))) (.arr rfl (by rfl) .nil)
   ·rintro⟨aw,aI,out,c,bl,hlen,hi⟩;show J _ _ _ _ [(17,aE m),(18,.i m.length),(1,aE n),(5,.gs 7200 (m.length+n.length)),(19,.i pre.length),(6,.i pre.length),(7,.raw (.int .u64 (x:Int))),(24,aE n),(25,.i n.length),(8,.raw (.int .u64 (c:Int))),(26,.i aw.length)] [(7200,.arr 1 (aV out))];have bL:=congrArg List.length bl;simp only[List.length_append]at bL;rcases aI with _|⟨x2,aI⟩
    ·obtain rfl:n=aw:=by simpa using bl
     refine go [] ?_;refine aR zS ?_;refine go [] ?_;refine br (fun h1=>?_) (fun h1=>?_)
     ·refine sd (eJ zO zQ) ?_;refine oP (bM (off:=(pre.length+n.length)*1) underlying244 sizeOf184 rfl rfl zO zQ zQ) ?_;refine oR (eI (r:=_) (pre.length+n.length) 0 isAgg184 rfl rfl rfl (fS (by simp at*;omega)) rfl) ?_;refine sd ((addN (by have:=dP hi.1 (pre.length+n.length);have:=hi.2.1;unfold gB at*;omega))) ?_;refine oP (bM (off:=(pre.length+n.length)*1) underlying244 sizeOf184 rfl rfl zO zQ zQ) ?_;refine oW (gn (r:=_) (pre.length+n.length) 0 sizeOf184 rfl rfl rfl rfl rfl rfl (fS (by simp at*;omega)) zS) ?_;refine go [] ?_;refine sd (az zO) ?_;exact nx ⟨pre++[x],rest,out.set (pre.length+n.length) (nth out (pre.length+n.length)+c),by simp[hx],by simp[hlen],Fu hi (by simp at*;omega) (by simp at*;omega) rfl⟩ zS (Le.mk rfl (.s rfl rfl (.s rfl rfl (.s rfl rfl (.cons rfl (Sub.gs zS) rfl (.cons rfl (Sub.int zS) rfl .nil))))) (.arr rfl (by exact rO) .nil))
     ·refine go [] ?_;refine sd (az zO) ?_;exact nx ⟨pre++[x],rest,out,by simp[hx],hlen,K5 hi (by simp at*;omega)⟩ zS (Le.mk rfl (.s rfl rfl (.s rfl rfl (.s rfl rfl (.cons rfl (Sub.gs zS) rfl (.cons rfl (Sub.int zS) rfl .nil))))) (.arr rfl (by rfl) .nil))
    ·simp only[List.length_cons]at bL;have pK:=ca x2 (by rw[bl];simp);refine go [] ?_;refine a_ zQ ?_;refine ix zO (bn (fun(n:Nat)=>[D.raw (.int .u64 (n:Int))]) bl rfl) ?_;refine sd (az zO) ?_;refine oP (bM (off:=(pre.length+aw.length)*1) underlying244 sizeOf184 rfl rfl zO zO zO) ?_;refine oR (eI (r:=_) (pre.length+aw.length) 0 isAgg184 rfl rfl rfl (fS (by simp at*;omega)) rfl) ?_;refine sd ((mulN rfl (tj hi.2.1 (dP hi.1 (pre.length+aw.length)) iX pK).1)) ?_;refine sd ((addN (tj hi.2.1 (dP hi.1 (pre.length+aw.length)) iX pK).2.1)) ?_;refine sd ((addN (tj hi.2.1 (dP hi.1 (pre.length+aw.length)) iX pK).2.2)) ?_;refine sd (az zO) ?_;refine oP (oh rfl rfl zD (s0 _)) ?_;refine oP (bM (off:=(pre.length+aw.length)*1) underlying244 sizeOf184 rfl rfl zO zO zO) ?_;refine oW (gn (r:=_) (pre.length+aw.length) 0 sizeOf184 rfl rfl rfl rfl rfl rfl (fS (by simp at*;omega)) zS) ?_;refine oP (lT rfl rfl zD (uD (tj hi.2.1 (dP hi.1 (pre.length+aw.length)) iX pK).2.2)) ?_;refine sd (az zO) ?_;exact nx ⟨aw++[x2],aI,out.set (pre.length+aw.length) ((c+(nth out (pre.length+aw.length)+x*x2))%gB),(c+(nth out (pre.length+aw.length)+x*x2))/gB,by simp[bl],by simp[hlen],Ft hi iX pK zO zO⟩ zS (Le.mk rfl (.s rfl rfl (.s rfl rfl (.s rfl rfl (.cons rfl (Sub.gs zS) rfl (.s rfl rfl (.s rfl rfl (.s rfl rfl (.s rfl rfl (.s rfl rfl (.s rfl rfl (.cons rfl (Sub.int zS) rfl .nil))))))))))) (.arr rfl (by exact rO) .nil))
structure ajm(d:Nat)where
 u:Unit
theorem ajl(d:Nat):Fc Tryz.prog 358 [.snap 1 false [],.raw (.int .u64 (d:Int))] (.bf [.snap 1 false [],.raw (.int .u64 ((0:Nat):Int))]):=by
 refine Fc.mk' [4,5] func358 rfl ntmps358 rfl rfl rfl (fun t w=>results_tmp2 results358 t _ w) ?_;refine go [] ?_;refine oP (SS underlying244 sizeOf184 typeInfo184 rfl rfl rfl rfl) ?_;refine sd (eJ zO zS) ?_;refine J.loop (ι:=ajm d) (fun sx=>[(7,.raw (.int .u64 ((0:Nat):Int))),(8,.i (-1)),(6,aE []),(0,.snap 1 false []),(1,.raw (.int .u64 (d:Int)))]) (fun sx=>[]) (fun sx=>0) ⟨()⟩ ?_ ?_
 ·exact Le.mk rfl (.s rfl rfl (.s rfl rfl (.s rfl rfl (.s rfl rfl (.s rfl rfl .nil))))) .nil
 ·rintro⟨u⟩;show J _ _ _ _ [(7,.raw (.int .u64 ((0:Nat):Int))),(8,.i (-1)),(6,aE []),(0,.snap 1 false []),(1,.raw (.int .u64 (d:Int)))] []
  skip
  ·skip;refine go [] ?_;refine aR zS ?_;refine go [] ?_;refine oP (ai call284 rfl (qn _)) ?_;exact gS rfl rfl (Sub.refl _) (Sub.refl _)
theorem TF(M d:Nat)(hs:(au M).length≤40000)(hd:0<d)(HC:d<gB):Fc Tryz.prog 358 [aE (au M),.raw (.int .u64 (d:Int))] (.bf [aE (au (M/d)),.raw (.int .u64 ((M%d:Nat):Int))]):=by
 have h:=ajb (fW M) hd;rw[gk]at h;rw[←h.1,←h.2];by_cases e:(au M).length=0
 ·have e:=List.eq_nil_of_length_eq_zero e;rw[e];exact ajl d
 ·exact ajn _ d e hs (fW M) hd HC
end Go.T
namespace Go.T
open Go
theorem F3{M N:Nat}:ig (au M) (au N)<0↔M<N:=by
 have h:=(F2 (fW M) (fW N) (yp M) (yp N)).1;rw[gk,gk]at h;exact h
theorem afs{N:Nat}(h:(au N).length=1):au N=[N]∧0<N∧N<gB:=by
 have h0:N≠0:=by rintro rfl;rw[oZ]at h;simp at h
 have h1:=ue N;rw[h,Nat.pow_one]at h1;refine⟨?_,by omega,h1⟩;rw[wo h0,Nat.mod_eq_of_lt h1,Nat.div_eq_of_lt h1,oZ]
theorem XC{r:Nat}(h:r<gB):bh [r]=au r:=by
 rw[vb (fun x hx=>by simp at hx;subst hx;exact h)];simp[an]
open Go.Proofs Go.Proofs.Tryz
set_option maxRecDepth 20000
theorem Yc(M N:Nat)(vC:(au M).length≤10000)(vE:(au N).length≤10000)(h:M<N):Fc Tryz.prog 340 [aE (au M),aE (au N)] (.bf [aE (au (M/N)),aE (au (M%N))]):=by
 refine Fc.mk' [4,5] func340 rfl ntmps340 rfl rfl rfl (fun t w=>results_tmp2 results340 t _ w) ?_;refine go [] ?_;refine oP (ai call240 rfl (xm _ _ zO zO)) ?_;refine a_ (by simpa using F3.2 h) ?_;exact gS rfl rfl (by exact(Sub.nil _ false).trans (Sub.snap (by rw[Nat.div_eq_of_lt h,oZ];rfl))) (Sub.snap (by rw[Nat.mod_eq_of_lt h]))
theorem Yj(M N:Nat)(vC:(au M).length≤10000)(vE:(au N).length≤10000)(h:¬M<N)(h1:(au N).length=1):Fc Tryz.prog 340 [aE (au M),aE (au N)] (.bf [aE (au (M/N)),aE (au (M%N))]):=by
 refine Fc.mk' [4,5] func340 rfl ntmps340 rfl rfl rfl (fun t w=>results_tmp2 results340 t _ w) ?_;have nN:=afs h1;refine go [] ?_;refine oP (ai call240 rfl (xm _ _ zO zO)) ?_;refine aR (by simpa using fun hc=>h (F3.1 hc)) ?_;refine a_ (by simp[aV,h1]) ?_;refine ix zO (r_ (l:=au N) (k:=0) (b:=N) (r:=[]) (by rw[nN.1];rfl) (by rfl)) ?_;refine oP (ai call358 rfl (TF _ _ zO zO zO)) ?_;refine oP (bI (n:=1) (rows:=aV [M%N]) underlying244 sizeOf184 rfl rfl rfl zeroValue184 rfl rfl rfl rfl rfl rfl rfl) ?_;refine oP (ai call284 rfl (qn [M%N]).sub) ?_;exact gS rfl rfl (Sub.refl _) (Sub.snap (by rw[XC (Nat.lt_trans (Nat.mod_lt _ nN.2.1) nN.2.2)]))
end Go.T
namespace Go.T
open Go
def dS(N:Nat):Nat:=gB/(nth (au N) ((au N).length-1)+1)
def dK(N:Nat):Nat:=(au (N*dS N)).length
def dL(M N:Nat):Nat:=(au (M*dS N)).length
theorem zB(N:Nat):0<dS N:=by
 have h:=dP (fW N) ((au N).length-1);exact Nat.div_pos h zO
theorem Me{N:Nat}(h:(au N).length≠0):dS N<gB:=by
 obtain⟨k,hk⟩:∃k,(au N).length=k+1:=⟨(au N).length-1,by omega⟩;have h1:=QL hk;unfold dS;rw[show(au N).length-1=k by omega];exact Nat.div_lt_self dz zO
theorem IX{v n:Nat}(h:v<gB^n):(au v).length≤n:=by
 rcases Nat.lt_or_ge n (au v).length with g|g
 ·exfalso;have h1:=D3 (v:=v) zO;have h2:gB^n≤gB^((au v).length-1):=Nat.pow_le_pow_right dz zO;omega
 ·exact g
theorem XF{M N:Nat}(h:(au N).length≠0):dL M N≤(au M).length+1:=by
 refine IX ?_;have h1:=ue M;have h2:=Me h;rw[Nat.pow_succ];exact Nat.mul_lt_mul_of_lt_of_le h1 zO dz
theorem KG{N:Nat}(h:2≤(au N).length):gB≤N:=by
 have h1:=D3 (v:=N) zO;have h2:gB^1≤gB^((au N).length-1):=Nat.pow_le_pow_right dz zO;rw[Nat.pow_one]at h2;omega
theorem Md{N:Nat}(h:2≤(au N).length):gB≤N*dS N:=Nat.le_trans (KG h) (Nat.le_mul_of_pos_right _ (zB N))
theorem Gb{N:Nat}(h:2≤(au N).length):2≤dK N:=QN (Md h)
theorem XE{M N:Nat}(h:¬M<N):dK N≤dL M N:=sk (Nat.mul_le_mul_right _ zO)
theorem IC{l:List Nat}(h:l.length≠0):l.drop (l.length-1)=nth l (l.length-1)::[]:=by
 rw[vj zO,List.drop_of_length_le zO]
theorem XG{M N:Nat}(h:¬M<N)(h2:2≤(au N).length):DO (M*dS N) (N*dS N) (au (M*dS N)++[0,0]) (List.replicate (dL M N+2-dK N) 0) (dL M N+2-dK N) (dK N):=
 UN (Md h2) (Nat.mul_le_mul_right _ zO)
theorem IZ(s:Nat):an [s]=s:=by simp[an]
theorem afr{v:Nat}(h:v≠0):au v≠[]:=by rw[wo h];simp
open Go.Proofs Go.Proofs.Tryz
set_option maxRecDepth 20000
theorem dv.sub{P:Program}{f:FuncId}{ds ep:List D}{pre:ae}{r:D}{post:ae}(h:dv P f ep pre r post)(hs:iv ds ep):dv P f ds pre r post:=
 ⟨fun w O ρ vals aj hg hv=>h.out w O ρ vals aj hg (hs.out w _ ρ vals hv)⟩
theorem aj1(M s:Nat)(hL:(au M).length≤10000)(hs:0<s)(vX:s<gB)(hM:M≠0):dv Tryz.prog 338 [aE (au M),.snap 1 true (aV [s])] [] (.gs 7200 (au (M*s)).length) [(7200,.arr 1 (aV (au (M*s))))]:=by
 have h:=aj_ (au M) [s] zS zO zS (fW M) (fun x hx=>by simp at hx;subst hx;exact vX) (by rw[gk,IZ];exact afr (Nat.mul_ne_zero hM zO));rw[gk,IZ]at h;exact h.sub (.r (.cons (Sub.ru _ _ _) .nil))
theorem aj2(M s:Nat)(hL:(au M).length≤10000)(vX:s<gB):Fc Tryz.prog 338 [aE (au M),.snap 1 true (aV [s])] (aE (au (M*s))):=by
 have h:=T0 (au M) [s] zS zO zS (fW M) (fun x hx=>by simp at hx;subst hx;exact vX);rw[gk,IZ]at h;exact h.sub
end Go.T
namespace Go.T
open Go
variable{a b:List Nat} {i k g:Nat}
theorem UQ(ha:aU a)(hb:aU b)(hl:i+k<a.length)(hz:∀j,i+k<j→nth a j=0)(hk:b.length=k)(h2:2≤k)(hC:0<nth b (k-1)):
  GS a b i k (min (ot a i k/nth b (k-1)) (gB-1)):=by
 obtain⟨n,rfl⟩:∃n,k=n+2:=⟨k-2,by omega⟩;exact UP ha hb hl hz hk hC
theorem KY(ha:aU a)(hb:aU b)(hl:i+k<a.length)(hz:∀j,i+k<j→nth a j=0)(hk:b.length=k)(h2:2≤k)(h:GS a b i k g)
  (ht:(ot a i k-g*nth b (k-1))*gB+nth a (i+k-2)<g*nth b (k-2)):1≤g∧GS a b i k (g-1):=by
 obtain⟨n,rfl⟩:∃n,k=n+2:=⟨k-2,by omega⟩;exact UR ha hb hl hz hk h ht
theorem K0(ha:aU a)(hb:aU b)(hl:i+k<a.length)(hz:∀j,i+k<j→nth a j=0)(hk:b.length=k)(h2:2≤k)(hC:0<nth b (k-1))(h:GS a b i k g)
  (ht:gB≤ot a i k-g*nth b (k-1)∨g*nth b (k-2)≤(ot a i k-g*nth b (k-1))*gB+nth a (i+k-2)):(g-1)*an b*gB^i≤an a:=by
 obtain⟨n,rfl⟩:∃n,k=n+2:=⟨k-2,by omega⟩;exact US ha hb hl hz hk hC h ht
theorem XD{N:Nat}(h:2≤(au N).length):0<nth (au (N*dS N)) (dK N-1):=by
 have h2:=Gb h;exact QL (k:=dK N-1) (by show dK N=_;omega)
theorem U2{A bv:Nat}{a0 a1 out b:List Nat}{i k g c:Nat}(h:DO A bv a0 out (i+1) k)(hb:aU b)(hv:an b=bv)(hk:b.length=k)
  (hm:MS a0 a1 g c i k b)(hc:nth a1 (i+k)<c):1≤g:=by
 have hz:=Fe h hb hk hv;obtain⟨o1,o2,o3,o4,o5,o6⟩:=h;obtain⟨m1,m2,m3,m4,m5⟩:=hm;have s1:=Ku (l:=a1) (n:=i+k) (fun j hj=>by rw[m5 j zO];exact hz j hj);have l1:=B0 m1 (i+k);rw[hk]at m4;have Dt:(nth a1 (i+k)+1)*gB^(i+k)≤c*gB^(i+k):=Nat.mul_le_mul_right _ hc;rw[Nat.add_mul,Nat.one_mul]at Dt;rcases Nat.eq_zero_or_pos g with e|e
 ·subst e;rw[Nat.zero_mul,Nat.zero_mul]at m4;omega
 ·exact e
theorem Fx(t:Nat):t%gB<gB:=Nat.mod_lt _ dz
theorem afM(t k:Nat):min (t:Int) (k:Int)=((min t k:Nat):Int):=by omega
theorem afN(t:Nat):min (t:Int) 999999999=((min t (gB-1):Nat):Int):=afM t 999999999
end Go.T
namespace Go.T
open Go Go.Proofs Go.Proofs.Tryz
set_option maxRecDepth 20000
theorem yw{x:Nat}(h:x<gB):x*gB<18446744073709551616∧∀y,y<gB→x*gB+y<18446744073709551616:=by
 have h1:x*gB≤999999999*gB:=Nat.mul_le_mul_right _ (by unfold gB at*;omega);unfold gB at*;exact⟨by omega,fun y hy=>by omega⟩
theorem Q3{x y:Nat}(h:x<gB)(k:y<gB):x*y<18446744073709551616:=Nat.lt_of_le_of_lt (Nat.mul_le_mul_left _ (Nat.le_of_lt k)) (yw h).1
theorem T6{a:List Nat}(h:aU a)(i k:Nat):ot a i k<18446744073709551616:=(yw (dP h _)).2 _ (dP h _)
structure Ye(M N:Nat)where
 a:List Nat
 out:List Nat
 i:Nat
 hd:DO (M*dS N) (N*dS N) a out i (dK N)
 Dp:a.length=dL M N+2
 tQ:i≤out.length
structure Yf(M N:Nat)(a out:List Nat)(i:Nat)where
 g:Nat
 jc:GS a (au (N*dS N)) i (dK N) g
structure Yg(M N:Nat)(a out:List Nat)(i g:Nat)where
 aw:List Nat
 aI:List Nat
 a1:List Nat
 c:Nat
 bl:(au (N*dS N))=aw++aI
 hm:MS a a1 g c i (dK N) aw
 oM:(g-1)*an (au (N*dS N))*gB^i≤an a
structure Yh(M N:Nat)(a1 out:List Nat)(i g c:Nat)where
 aw:List Nat
 aI:List Nat
 a2:List Nat
 d:Nat
 bl:(au (N*dS N))=aw++aI
 hp:AB a1 a2 d i (dK N) aw
theorem Yd(M N:Nat)(vC:(au M).length≤10000)(vE:(au N).length≤10000)(h:¬M<N)(h2:2≤(au N).length):Fc Tryz.prog 340 [aE (au M),aE (au N)] (.bf [aE (au (M/N)),aE (au (M%N))]):=by
 refine Fc.mk' [4,5] func340 rfl ntmps340 rfl rfl rfl (fun t w=>results_tmp2 results340 t _ w) ?_;have vX:=Me (N:=N) zO;have hM0:M≠0:=by have:=KG h2;unfold gB at this;omega
 have hdL:=XF (M:=M) (N:=N) zO;have hdK:=XE h;have ao7:=Gb h2;have eL:(au (M*dS N)).length=dL M N:=rfl;have eK:(au (N*dS N)).length=dK N:=rfl;have hC:=XD h2;refine J.seq (J.af [.p,.p] ?_);refine .ag rfl rfl<|.ag rfl rfl<|.nil ?_;refine J.seq (J.seq (J.af [.p,.p,.p,.p] ?_));refine .mv rfl rfl<|.mv rfl rfl<|.P rfl (ai call240 rfl (xm _ _ zO zO))<|.P rfl (b_ rfl rfl)<|.nil ?_;refine J.eQ rfl (by simpa using fun hc=>h (F3.1 hc)) ?_;refine J.skip ?_;refine J.seq (J.seq (J.af [.p,.p,.p] ?_));refine .mv rfl rfl<|.P rfl (dE underlying244 rfl)<|.P rfl (jF rfl rfl)<|.nil ?_;refine J.eQ rfl (by simp[aV];omega) ?_;refine J.skip ?_;refine J.seq (J.af [.p,.p,.p,.p,.p,.p,.p,.p,.p] ?_);refine .mv rfl rfl<|.mv rfl rfl<|.P rfl (dE underlying244 rfl)<|.P rfl (dQ rfl rfl (eJ zO zQ))<|.P rfl (fY underlying244 sizeOf184 rfl rfl (by simp[aV];omega) (r_ (l:=au N) (k:=(au N).length-1) (b:=nth (au N) ((au N).length-1)) (r:=[]) (IC zO) (by simp[aV];omega)))<|.P rfl (bX isAgg184 rfl)<|.P rfl (bU rfl rfl (addN (b:=1) (by have:=dP (fW N) ((au N).length-1);unfold gB at*;omega)))<|.P rfl (lT rfl rfl zO (J2 (a:=gB) zD))<|.ag rfl rfl<|.nil ?_;refine J.seq (J.af [.p,.p,.p,.w,.p,.w,.p,.p,.p,.p,.p,.p] ?_)
 refine .mv rfl rfl<|.mv rfl rfl<|.P rfl (bI (n:=1) (rows:=aV [dS N]) underlying244 sizeOf184 rfl rfl rfl zeroValue184 rfl rfl rfl rfl rfl rfl rfl)<|.W rfl (gE call338 rfl (aj1 M (dS N) vC (zB N) vX hM0) .nil rfl rfl)<|.P rfl (bI (n:=2) (rows:=aV [0,0]) underlying244 sizeOf184 rfl rfl rfl zeroValue184 rfl rfl rfl rfl rfl rfl rfl)<|.W rfl (k_ 0 underlying244 underlying244 sizeOf184 typeInfo184 zeroValue184 rfl (bt:=8) rfl rfl rfl rfl (by simp[aV]) rfl rfl zQ)<|.mv rfl rfl<|.mv rfl rfl<|.P rfl (bI (n:=1) (rows:=aV [dS N]) underlying244 sizeOf184 rfl rfl rfl zeroValue184 rfl rfl rfl rfl rfl rfl rfl)<|.P rfl (ai call338 rfl (aj2 N (dS N) vE vX))<|.ag rfl rfl<|.ag rfl rfl<|.nil ?_;refine J.seq (J.af [.p,.p,.p] ?_);refine .mv rfl rfl<|.P rfl (dE underlying244 rfl)<|.ag rfl rfl<|.nil ?_;refine J.seq (J.af [.p,.p,.p,.p,.w,.p] ?_);refine .mv rfl rfl<|.P rfl (sU underlying244 rfl)<|.mv rfl rfl<|.P rfl (dQ rfl rfl (eJ zQ zQ))<|.W rfl (wN (bt:=8) 1 (dL M N+2-dK N) underlying244 sizeOf184 typeInfo184 zeroValue184 rfl rfl rfl rfl rfl (by simp[aV];omega) (by simp[aV];omega) (Nat.le_refl (dL M N+2-dK N)) zO zO zO rfl)<|.ag rfl rfl<|.nil ?_;refine J.seq (J.seq (J.af [.p,.p,.p,.p,.p,.p] ?_));refine .mv rfl rfl<|.P rfl (sU underlying244 rfl)<|.mv rfl rfl<|.P rfl (dQ rfl rfl (eJ zQ zQ))<|.P rfl (dQ rfl rfl (eJ zQ zQ))<|.ag rfl rfl<|.nil ?_;refine J.block ?_;refine J.loop (ι:=Ye M N) (fun sx=>[(9,.gs 0 (dL M N+2)),(10,aE (au (N*dS N))),(11,.i (dK N)),(12,.gs 1 (dL M N+2-dK N)),(8,.raw (.int .u64 ((dS N):Int))),(13,.i ((sx.i:Int)-1))]) (fun sx=>[(1,.arr 1 (aV sx.out)),(0,.arr 1 (aV sx.a))]) (fun sx=>sx.i) ⟨_,_,_,XG h h2,by simp[dL],by simp⟩ ?_ ?_
 ·exact Le.mk rfl (.cons rfl (Sub.refl _) rfl (.s rfl rfl (.cons rfl (Sub.int zQ) rfl (.cons rfl (Sub.refl _) rfl (.s rfl rfl (.cons rfl (Sub.int zQ) rfl .nil)))))) (.arr rfl (by simp[aV]) (.arr rfl (by simp[aV]) .nil))
 ·rintro⟨a,out,i,hd,Dp,tQ⟩;show J _ _ _ _ [(9,.gs 0 (dL M N+2)),(10,aE (au (N*dS N))),(11,.i (dK N)),(12,.gs 1 (dL M N+2-dK N)),(8,.raw (.int .u64 ((dS N):Int))),(13,.i ((i:Int)-1))] [(1,.arr 1 (aV out)),(0,.arr 1 (aV a))];rcases i with _|i
  ·have hol:=hd.2.2.1;have Of:0<N:=by have:=KG h2;unfold gB at this;omega
   have DA:=UK hd (zB N) Of (ue _);have fq:(au (M%N*dS N)).length≤dK N:=sk (Nat.mul_le_mul_right _ (Nat.le_of_lt (Nat.mod_lt _ Of)));refine J.seq (J.seq (J.af [.p,.p] ?_));refine .mv rfl rfl<|.P rfl (pY rfl rfl)<|.nil ?_;refine J.eQ rfl zS ?_;refine J.exit (ei (dZ ?_));refine J.bP (Le.freeze 9 0 rfl rfl (by simp[aV];omega)) ?_;refine J.seq (J.af [.p,.p,.p,.p,.p,.p,.p,.p,.p,.p,.p] ?_);refine .mv rfl rfl<|.mv rfl rfl<|.P rfl (uC underlying244 sizeOf184 rfl (h:=dK N) (r:=aV (a.take (dK N))) (.inl ⟨rfl,rfl⟩) (.inr ⟨_,_,rfl,rfl⟩) zO (by simp[aV];omega) (by simp[aV]))<|.P rfl (ai call284 rfl (qn _))<|.mv rfl rfl<|.P rfl (ai call358 (by rw[←DA.2];rfl) (TF (M%N*dS N) (dS N) zO (zB N) vX))<|.mv rfl rfl<|.P rfl (dY rfl rfl)<|.P rfl (dY rfl rfl)<|.ag rfl rfl<|.ag rfl rfl<|.nil ?_;refine J.bP (Le.freeze 12 1 rfl rfl (by simp[aV];omega)) ?_;refine J.seq (J.af [.p,.p,.p,.p,.p] ?_);refine .mv rfl rfl<|.P rfl (ai call284 rfl (qn _))<|.mv rfl rfl<|.ag rfl rfl<|.ag rfl rfl<|.nil ?_;refine J.ret (?_);exact p6 rfl rfl (Sub.snap (by rw[DA.1])) (Sub.snap (by rw[Nat.mul_div_cancel _ (zB N)]))
  ·have vP:=Gb h2;have hb:=fW (N*dS N);have hz:=Fe hd hb rfl (gk _);have hol:=hd.2.2.1;have oJ:=hd.1;have hl:i+dK N<a.length:=by omega
   have hg0:=UQ oJ hb hl (fun j hj=>hz j hj) rfl vP hC;refine J.seq (J.seq (J.af [.p,.p] ?_));refine .mv rfl rfl<|.P rfl (pY rfl rfl)<|.nil ?_;refine J.fD rfl zS ?_;refine J.skip ?_;refine J.seq ?_;refine J.block ?_;refine J.seq (J.rp [.p,.p,.p,.p,.p,.r,.p,.p,.p,.p,.p,.p,.p,.r,.p,.p] nC zK ?_);refine .mv rfl rfl<|.mv rfl rfl<|.mv rfl rfl<|.P rfl (bU rfl rfl (az zO))<|.P rfl (bM (off:=(i+dK N)*1) underlying244 sizeOf184 rfl rfl zO zO zO)<|.R rfl (eI (r:=_) (i+dK N) 0 isAgg184 rfl rfl rfl (fS (by simp at*;omega)) rfl)<|.P rfl (sW rfl rfl (mulN (c:=gB) zD (yw (dP oJ (i+dK N))).1))<|.mv rfl rfl<|.mv rfl rfl<|.mv rfl rfl<|.P rfl (bU rfl rfl (az zO))<|.P rfl (dQ rfl rfl (az zO))<|.P rfl (bM (off:=(i+dK N-1)*1) underlying244 sizeOf184 rfl rfl zO zO zO)<|.R rfl (eI (r:=_) (i+dK N-1) 0 isAgg184 rfl rfl rfl (fS (by simp at*;omega)) rfl)<|.P rfl (bU rfl rfl (addN ((yw (dP oJ (i+dK N))).2 _ (dP oJ (i+dK N-1)))))<|.ag rfl rfl<|.nil ?_;refine J.seq (J.af [.p,.p,.p,.p,.p,.p,.p,.p,.p] ?_);refine .mv rfl rfl<|.mv rfl rfl<|.mv rfl rfl<|.P rfl (dQ rfl rfl (az zO))<|.P rfl (fY underlying244 sizeOf184 rfl rfl zO (r_ (l:=(au (N*dS N))) (k:=dK N-1) (b:=nth (au (N*dS N)) (dK N-1)) (r:=[]) (IC (by show dK N≠0;omega)) zO))<|.P rfl (bX isAgg184 rfl)<|.P rfl (lT rfl rfl zO (J2 (T6 oJ i (dK N))))<|.P rfl (yZ rfl rfl rfl)<|.ag rfl rfl<|.nil ?_;refine J.seq ?_;refine J.block ?_
   refine J.loop (ι:=Yf M N a out i) (fun sx=>[(9,.gs 0 (dL M N+2)),(10,aE (au (N*dS N))),(11,.i (dK N)),(12,.gs 1 (dL M N+2-dK N)),(8,.raw (.int .u64 ((dS N):Int))),(13,.i (i:Int)),(14,.raw (.int .u64 ((ot a i (dK N)):Int))),(15,.raw (.int .u64 (sx.g:Int)))]) (fun sx=>[(1,.arr 1 (aV out)),(0,.arr 1 (aV a))]) (fun sx=>sx.g) ⟨_,hg0⟩ ?_ ?_
   ·exact Le.mk rfl (.cons rfl (Sub.gs zS) rfl (.s rfl rfl (.s rfl rfl (.cons rfl (Sub.gs zS) rfl (.s rfl rfl (.cons rfl (Sub.int zS) rfl (.s rfl rfl (.cons rfl (Sub.int (by exact afN _)) rfl .nil)))))))) (.arr rfl (by rfl) (.arr rfl (by rfl) .nil))
   ·rintro⟨g,jc⟩;show J _ _ _ _ [(9,.gs 0 (dL M N+2)),(10,aE (au (N*dS N))),(11,.i (dK N)),(12,.gs 1 (dL M N+2-dK N)),(8,.raw (.int .u64 ((dS N):Int))),(13,.i (i:Int)),(14,.raw (.int .u64 ((ot a i (dK N)):Int))),(15,.raw (.int .u64 (g:Int)))] [(1,.arr 1 (aV out)),(0,.arr 1 (aV a))];refine J.block ?_;refine J.seq (J.af [.p,.p,.p,.p,.p,.p,.p,.p,.p,.p] ?_);refine .mv rfl rfl<|.mv rfl rfl<|.mv rfl rfl<|.mv rfl rfl<|.P rfl (dQ rfl rfl (az zO))<|.P rfl (fY underlying244 sizeOf184 rfl rfl zO (r_ (l:=(au (N*dS N))) (k:=dK N-1) (b:=nth (au (N*dS N)) (dK N-1)) (r:=[]) (IC (by show dK N≠0;omega)) zO))<|.P rfl (bX isAgg184 rfl)<|.P rfl (sW rfl rfl (mulN rfl (Q3 jc.1 (dP hb (dK N-1)))))<|.P rfl (dQ rfl rfl (p_ jc.2.1 (T6 oJ i (dK N))))<|.ag rfl rfl<|.nil ?_;refine J.seq (J.seq (J.rp [.p,.p,.p,.p,.p,.p,.p,.p,.p,.p,.p,.p,.p,.p,.p,.p,.p,.p,.r,.p,.p,.p] nC zK ?_))
    refine .mv rfl rfl<|.P rfl (pY rfl rfl)<|.mv rfl rfl<|.gF rfl (.inl rfl) rfl rfl rfl (fun hg=>pk (fun _=>aX rfl _))<|.gF rfl (.inl rfl) rfl rfl rfl (fun hg=>pk (fun _=>aX rfl _))<|.gF rfl (.inl rfl) rfl rfl rfl (fun hg=>pk (fun _=>aX rfl _))<|.gF rfl (.inl rfl) rfl rfl rfl (fun hg=>pk (fun _=>dQ (bj rfl (nt hg)) rfl (az zO) _))<|.gF rfl (.inl rfl) rfl rfl rfl (fun hg=>pk (fun _=>fY underlying244 sizeOf184 (bj rfl (nt hg)) (bj rfl (nt hg)) zO (r_ (l:=(au (N*dS N))) (k:=dK N-2) (b:=nth (au (N*dS N)) (dK N-2)) (r:=_) (vj (by show dK N-2<dK N;omega)) zO) _))<|.gF rfl (.inl rfl) rfl rfl rfl (fun hg=>pk (fun _=>bX isAgg184 (bj rfl (nt hg)) _))<|.gF rfl (.inl rfl) rfl rfl rfl (fun hg=>pk (fun _=>sW (bj rfl (nt hg)) (bj rfl (nt hg)) (mulN rfl (Q3 jc.1 (dP hb (dK N-2)))) _))<|.gF rfl (.inl rfl) rfl rfl rfl (fun hg=>pk (fun _=>aX rfl _))<|.gF rfl (.inl rfl) rfl rfl rfl (fun hg=>pk (fun _=>sW (bj rfl (nt hg)) rfl (mulN (c:=gB) zD (yw (by have h9:=of_decide_eq_false hg;unfold gB at*;omega)).1) _))<|.gF rfl (.inl rfl) rfl rfl rfl (fun hg=>pk (fun _=>aX rfl _))<|.gF rfl (.inl rfl) rfl rfl rfl (fun hg=>pk (fun _=>aX rfl _))<|.gF rfl (.inl rfl) rfl rfl rfl (fun hg=>pk (fun _=>aX rfl _))<|.gF rfl (.inl rfl) rfl rfl rfl (fun hg=>pk (fun _=>bU (bj rfl (nt hg)) (bj rfl (nt hg)) (az zO) _)) ?_
    refine .gF rfl (.inl rfl) rfl rfl rfl (fun hg=>pk (fun _=>dQ (bj rfl (nt hg)) rfl (az zO) _))<|.gF rfl (.inl rfl) rfl rfl rfl (fun hg=>pk (fun _=>bM (off:=(i+dK N-2)*1) underlying244 sizeOf184 (bj rfl (nt hg)) (bj rfl (nt hg)) zO zO zO _))<|.gF rfl (.inr rfl) rfl rfl rfl (fun hg=>rk (eI (r:=_) (i+dK N-2) 0 isAgg184 (bj rfl (nt hg)) rfl rfl (fS (by simp at*;omega)) rfl))<|.gF rfl (.inl rfl) rfl rfl rfl (fun hg=>pk (fun _=>bU (bj rfl (nt hg)) (bj rfl (nt hg)) (addN ((yw (by have h9:=of_decide_eq_false hg;unfold gB at*;omega)).2 _ (dP oJ (i+dK N-2)))) _))<|.gF rfl (.inl rfl) rfl rfl rfl (fun hg=>pk (fun _=>EC (bj rfl (nt hg)) (bj rfl (nt hg)) _))<|.P rfl (nq rfl rfl)<|.nil ?_;refine J.cond rfl (fun h1=>?_) (fun h1=>?_)
    ·have bE:=h1;try simp only[bs]at bE
     refine J.exit (VQ rfl (ei (dZ ?_)));refine J.seq (J.af [.p] ?_);refine .ag rfl rfl<|.nil ?_;refine J.seq (J.seq (J.af [.p,.p,.p] ?_));refine .mv rfl rfl<|.P rfl (dE underlying244 rfl)<|.mv rfl rfl<|.nil ?_;refine J.block ?_;refine J.loop (ι:=Yg M N a out i g) (fun sx=>[(9,.gs 0 (dL M N+2)),(10,aE (au (N*dS N))),(11,.i (dK N)),(12,.gs 1 (dL M N+2-dK N)),(8,.raw (.int .u64 ((dS N):Int))),(13,.i (i:Int)),(15,.raw (.int .u64 (g:Int))),(17,.raw (.int .u64 (sx.c:Int))),(134,aE (au (N*dS N))),(135,.i (dK N)),(136,.i sx.aw.length)]) (fun sx=>[(1,.arr 1 (aV out)),(0,.arr 1 (aV sx.a1))]) (fun sx=>sx.aI.length) ⟨[],_,a,0,rfl,U0 oJ g i (dK N),by rcases bE with h9|h9;exact K0 oJ hb hl (fun j hj=>hz j hj) rfl vP hC jc (.inl (by unfold gB;omega));exact K0 oJ hb hl (fun j hj=>hz j hj) rfl vP hC jc (.inr zO)⟩ ?_ ?_
     ·exact Le.mk rfl (.cons rfl (Sub.refl _) rfl (.s rfl rfl (.s rfl rfl (.cons rfl (Sub.refl _) rfl (.s rfl rfl (.s rfl rfl (.s rfl rfl (.s rfl rfl (.s rfl rfl (.cons rfl (Sub.int zQ) rfl (.s rfl rfl .nil))))))))))) (.arr rfl (by rfl) (.arr rfl (by rfl) .nil))
     ·rintro⟨aw,aI,a1,c,bl,hm,oM⟩;show J _ _ _ _ [(9,.gs 0 (dL M N+2)),(10,aE (au (N*dS N))),(11,.i (dK N)),(12,.gs 1 (dL M N+2-dK N)),(8,.raw (.int .u64 ((dS N):Int))),(13,.i (i:Int)),(15,.raw (.int .u64 (g:Int))),(17,.raw (.int .u64 (c:Int))),(134,aE (au (N*dS N))),(135,.i (dK N)),(136,.i aw.length)] [(1,.arr 1 (aV out)),(0,.arr 1 (aV a1))];have bL:=congrArg List.length bl;simp only[List.length_append]at bL;rcases aI with _|⟨x2,aI⟩
      ·obtain rfl:aw=(au (N*dS N)):=by simpa using bl.symm
       have Hw:=hm.2.2.1;refine J.seq (J.af [.p] ?_);refine .P rfl (b_ rfl rfl)<|.nil ?_;refine J.seq ?_;refine J.eQ rfl zQ ?_;refine J.exit (ei (dZ ?_));refine J.seq (J.seq (J.af [.p,.p,.p,.p,.p,.r,.p,.p] ?_));refine .mv rfl rfl<|.mv rfl rfl<|.mv rfl rfl<|.P rfl (bU rfl rfl (az zO))<|.P rfl (bM (off:=(i+dK N)*1) underlying244 sizeOf184 rfl rfl zO zO zO)<|.R rfl (eI (r:=_) (i+dK N) 0 isAgg184 rfl rfl rfl (fS (by simp at*;omega)) rfl)<|.mv rfl rfl<|.P rfl (pY rfl rfl)<|.nil ?_;refine J.cond rfl (fun h2=>?_) (fun h2=>?_)
       ·have c7:=h2;try simp only[bs]at c7
        refine J.af [.p,.p,.p,.p,.p,.r,.p,.p,.p,.w] ?_;refine .mv rfl rfl<|.mv rfl rfl<|.mv rfl rfl<|.P rfl (bU rfl rfl (az zO))<|.P rfl (bM (off:=(i+dK N)*1) underlying244 sizeOf184 rfl rfl zO zO zO)<|.R rfl (eI (r:=_) (i+dK N) 0 isAgg184 rfl rfl rfl (fS (by simp at*;omega)) rfl)<|.mv rfl rfl<|.P rfl (dQ rfl rfl (p_ zO (by have:=dP hm.1 (i+dK N);unfold gB at*;omega)))<|.P rfl (bM (off:=(i+dK N)*1) underlying244 sizeOf184 rfl rfl zO zO zO)<|.W rfl (gn (r:=_) (i+dK N) 0 sizeOf184 rfl rfl rfl rfl rfl rfl (fS (by simp at*;omega)) zS)<|.nil ?_;refine J.af [.p,.p,.p,.p,.w] ?_;refine .mv rfl rfl<|.mv rfl rfl<|.mv rfl rfl<|.P rfl (bM (off:=(i)*1) underlying244 sizeOf184 rfl rfl zO zO zO)<|.W rfl (gn (r:=_) (i) 0 sizeOf184 rfl rfl rfl rfl rfl rfl (fS (by simp at*;omega)) zS)<|.nil ?_;refine J.nil (cC ?_);refine J.af [.p,.p,.p] ?_;refine .mv rfl rfl<|.P rfl (dQ rfl rfl (az zO))<|.ag rfl rfl<|.nil ?_;refine J.nil (dG ?_);exact⟨⟨a1.set (i+dK N) (nth a1 (i+dK N)-c),out.set i g,i,UL hd (gk _) (by simpa[gk]using jc.2.2) jc.1 hm rfl zO zO zO,by simp;omega,by simp;omega⟩,by simp,Le.mk rfl (.cons rfl (Sub.refl _) rfl (.s rfl rfl (.s rfl rfl (.cons rfl (Sub.refl _) rfl (.s rfl rfl (.s rfl rfl .nil)))))) (.arr rfl (by exact rO) (.arr rfl (by exact rO) .nil))⟩
       ·have c7:=h2;try simp only[bs]at c7
        have lH:=U2 hd hb (gk _) rfl hm zO;refine J.seq (J.af [.p,.p,.p] ?_);refine .mv rfl rfl<|.P rfl (dQ rfl rfl (p_ (b:=1) zO (by have:=jc.1;unfold gB at*;omega)))<|.ag rfl rfl<|.nil ?_;refine J.seq (J.af [.p] ?_);refine .ag rfl rfl<|.nil ?_;refine J.seq (J.seq (J.af [.p,.p,.p] ?_));refine .mv rfl rfl<|.P rfl (dE underlying244 rfl)<|.mv rfl rfl<|.nil ?_;refine J.block ?_;refine J.loop (ι:=Yh M N a1 out i g c) (fun sx=>[(9,.gs 0 (dL M N+2)),(10,aE (au (N*dS N))),(11,.i (dK N)),(12,.gs 1 (dL M N+2-dK N)),(8,.raw (.int .u64 ((dS N):Int))),(13,.i (i:Int)),(15,.raw (.int .u64 ((g-1:Nat):Int))),(17,.raw (.int .u64 (c:Int))),(20,.raw (.int .u64 (sx.d:Int))),(198,aE (au (N*dS N))),(199,.i (dK N)),(200,.i sx.aw.length)]) (fun sx=>[(1,.arr 1 (aV out)),(0,.arr 1 (aV sx.a2))]) (fun sx=>sx.aI.length) ⟨[],_,a1,0,rfl,UF hm.1 i (dK N)⟩ ?_ ?_
        ·exact Le.mk rfl (.cons rfl (Sub.refl _) rfl (.s rfl rfl (.s rfl rfl (.cons rfl (Sub.refl _) rfl (.s rfl rfl (.s rfl rfl (.s rfl rfl (.s rfl rfl (.s rfl rfl (.s rfl rfl (.cons rfl (Sub.int zQ) rfl (.s rfl rfl .nil)))))))))))) (.arr rfl (by rfl) (.arr rfl (by rfl) .nil))
        ·rintro⟨aw,aI,a2,d,bl,hp⟩;show J _ _ _ _ [(9,.gs 0 (dL M N+2)),(10,aE (au (N*dS N))),(11,.i (dK N)),(12,.gs 1 (dL M N+2-dK N)),(8,.raw (.int .u64 ((dS N):Int))),(13,.i (i:Int)),(15,.raw (.int .u64 ((g-1:Nat):Int))),(17,.raw (.int .u64 (c:Int))),(20,.raw (.int .u64 (d:Int))),(198,aE (au (N*dS N))),(199,.i (dK N)),(200,.i aw.length)] [(1,.arr 1 (aV out)),(0,.arr 1 (aV a2))];have bL:=congrArg List.length bl;simp only[List.length_append]at bL;rcases aI with _|⟨x2,aI⟩
         ·obtain rfl:aw=(au (N*dS N)):=by simpa using bl.symm
          have Hw:=hm.2.2.1;have acj:=hp.2.2.1;have Oy:=UJ hd hb (gk _) rfl (by simpa[gk]using oM) jc.1 hm zO hp zO zO;refine J.seq (J.af [.p] ?_);refine .P rfl (b_ rfl rfl)<|.nil ?_;refine J.seq ?_;refine J.eQ rfl zQ ?_;refine J.exit (ei (dZ ?_));refine J.af [.p,.p,.p,.p,.p,.p,.p,.p,.p,.r,.p,.p,.p,.p,.p,.w] ?_;refine .mv rfl rfl<|.mv rfl rfl<|.mv rfl rfl<|.P rfl (bU rfl rfl (az zO))<|.mv rfl rfl<|.mv rfl rfl<|.mv rfl rfl<|.P rfl (bU rfl rfl (az zO))<|.P rfl (bM (off:=(i+dK N)*1) underlying244 sizeOf184 rfl rfl zO zO zO)<|.R rfl (eI (r:=_) (i+dK N) 0 isAgg184 rfl rfl rfl (fS (by simp at*;omega)) rfl)<|.mv rfl rfl<|.P rfl (bU rfl rfl (addN (by have:=dP hp.1 (i+dK N);have:=hp.2.1;unfold gB at*;omega)))<|.mv rfl rfl<|.P rfl (dQ rfl rfl (p_ (by have:=Oy.2.1;omega) (by have:=dP hp.1 (i+dK N);have:=hp.2.1;unfold gB at*;omega)))<|.P rfl (bM (off:=(i+dK N)*1) underlying244 sizeOf184 rfl rfl zO zO zO)<|.W rfl (gn (r:=_) (i+dK N) 0 sizeOf184 rfl rfl rfl rfl rfl rfl (fS (by simp at*;omega)) zS)<|.nil ?_;refine J.af [.p,.p,.p,.p,.w] ?_;refine .mv rfl rfl<|.mv rfl rfl<|.mv rfl rfl<|.P rfl (bM (off:=(i)*1) underlying244 sizeOf184 rfl rfl zO zO zO)<|.W rfl (gn (r:=_) (i) 0 sizeOf184 rfl rfl rfl rfl rfl rfl (fS (by simp at*;omega)) zS)<|.nil ?_;refine J.nil (cC ?_);refine J.af [.p,.p,.p] ?_;refine .mv rfl rfl<|.P rfl (dQ rfl rfl (az zO))<|.ag rfl rfl<|.nil ?_;refine J.nil (dG ?_)
          exact⟨⟨a2.set (i+dK N) (nth a2 (i+dK N)+d-c),out.set i (g-1),i,Oy.2.2,by simp;omega,by simp;omega⟩,by simp,Le.mk rfl (.cons rfl (Sub.refl _) rfl (.s rfl rfl (.s rfl rfl (.cons rfl (Sub.refl _) rfl (.s rfl rfl (.s rfl rfl .nil)))))) (.arr rfl (by exact rO) (.arr rfl (by exact rO) .nil))⟩
         ·simp only[List.length_cons]at bL;have Hw:=hm.2.2.1;have acj:=hp.2.2.1;have qM:=hb x2 (by rw[bl];simp);have qB:(aw++x2::aI).length=dK N:=by rw[←bl];rfl
          refine J.seq (J.af [.p] ?_);refine .P rfl (b_ rfl rfl)<|.nil ?_;refine J.seq ?_;refine J.fD rfl zQ ?_;refine J.skip ?_;refine J.seq ?_;refine J.block ?_;refine J.seq (J.af [.p,.p] ?_);refine .mv rfl rfl<|.ag rfl rfl<|.nil ?_;refine J.seq (J.rp [.p,.p,.p,.p,.p,.r,.p,.p,.p,.p,.p,.p,.p,.p,.w] nC zK ?_);refine .mv rfl rfl<|.mv rfl rfl<|.mv rfl rfl<|.P rfl (bU rfl rfl (az zO))<|.P rfl (bM (off:=(i+aw.length)*1) underlying244 sizeOf184 rfl rfl zO zO zO)<|.R rfl (eI (r:=_) (i+aw.length) 0 isAgg184 rfl rfl rfl (fS (by simp at*;omega)) rfl)<|.mv rfl rfl<|.mv rfl rfl<|.P rfl (fY underlying244 sizeOf184 rfl rfl zO (bn (fun(n:Nat)=>[D.raw (.int .u64 (n:Int))]) bl rfl))<|.P rfl (bX isAgg184 rfl)<|.mv rfl rfl<|.P rfl (bU rfl rfl (addN (by have:=hp.2.1;unfold gB at*;omega)))<|.P rfl (bU rfl rfl (addN (by have:=dP hp.1 (i+aw.length);have:=hp.2.1;unfold gB at*;omega)))<|.P rfl (bM (off:=(i+aw.length)*1) underlying244 sizeOf184 rfl rfl zO zO zO)<|.W rfl (gn (r:=_) (i+aw.length) 0 sizeOf184 rfl rfl rfl rfl rfl rfl (fS (by simp at*;omega)) zS)<|.nil ?_;refine J.seq (J.af [.p,.p,.p,.p,.p,.r,.p,.p] ?_);refine .mv rfl rfl<|.mv rfl rfl<|.mv rfl rfl<|.P rfl (bU rfl rfl (az zO))<|.P rfl (bM (off:=(i+aw.length)*1) underlying244 sizeOf184 rfl rfl zO zO zO)<|.R rfl (eI (r:=_) (i+aw.length) 0 isAgg184 rfl rfl rfl (fM (fS (by simp at*;omega))) rfl)<|.P rfl (lT rfl rfl zD (uD (by have:=dP hp.1 (i+aw.length);have:=hp.2.1;unfold gB at*;omega)))<|.ag rfl rfl<|.nil ?_;refine J.af [.p,.p,.p,.p,.p,.r,.p,.p,.w] ?_
          refine .mv rfl rfl<|.mv rfl rfl<|.mv rfl rfl<|.P rfl (bU rfl rfl (az zO))<|.P rfl (bM (off:=(i+aw.length)*1) underlying244 sizeOf184 rfl rfl zO zO zO)<|.R rfl (eI (r:=_) (i+aw.length) 0 isAgg184 rfl rfl rfl (fM (fS (by simp at*;omega))) rfl)<|.P rfl (oh rfl rfl zD (s0 _))<|.P rfl (bM (off:=(i+aw.length)*1) underlying244 sizeOf184 rfl rfl zO zO zO)<|.W rfl (gn (r:=_) (i+aw.length) 0 sizeOf184 rfl rfl rfl rfl rfl rfl (fM (fS (by simp at*;omega))) zS)<|.nil ?_;refine J.nil (cC ?_);refine J.af [.p,.p] ?_;refine .P rfl (bU rfl rfl (az zO))<|.mv rfl rfl<|.nil ?_;refine J.nil (dG ?_);exact⟨⟨aw++[x2],aI,a2.set (i+aw.length) ((nth a2 (i+aw.length)+(x2+d))%gB),(nth a2 (i+aw.length)+(x2+d))/gB,by simp[bl],UG hp qM (by simp at qB;omega) (by simp at qB;have:=hp.2.2.1;have:=hm.2.2.1;omega)⟩,by simp,Le.mk rfl (.cons rfl (Sub.refl _) rfl (.s rfl rfl (.s rfl rfl (.cons rfl (Sub.refl _) rfl (.s rfl rfl (.s rfl rfl (.s rfl rfl (.s rfl rfl (.s rfl rfl (.s rfl rfl (.s rfl rfl (.cons rfl (Sub.int zS) rfl .nil)))))))))))) (.arr rfl (by rfl) (.arr rfl (by simp[aV]) .nil))⟩
      ·simp only[List.length_cons]at bL;have Hw:=hm.2.2.1;have qM:=hb x2 (by rw[bl];simp);have qB:(aw++x2::aI).length=dK N:=by rw[←bl];rfl
       refine J.seq (J.af [.p] ?_);refine .P rfl (b_ rfl rfl)<|.nil ?_;refine J.seq ?_;refine J.fD rfl zQ ?_;refine J.skip ?_;refine J.seq ?_;refine J.block ?_;refine J.seq (J.af [.p,.p] ?_);refine .mv rfl rfl<|.ag rfl rfl<|.nil ?_;refine J.seq (J.af [.p,.p,.p,.p,.p,.p,.p,.p,.p] ?_);refine .mv rfl rfl<|.mv rfl rfl<|.mv rfl rfl<|.P rfl (fY underlying244 sizeOf184 rfl rfl zO (bn (fun(n:Nat)=>[D.raw (.int .u64 (n:Int))]) bl rfl))<|.P rfl (bX isAgg184 rfl)<|.P rfl (sW rfl rfl (mulN rfl (Fl jc.1 qM hm.2.1).1))<|.mv rfl rfl<|.P rfl (bU rfl rfl (addN (Fl jc.1 qM hm.2.1).2))<|.ag rfl rfl<|.nil ?_;refine J.seq (J.af [.p,.p,.p] ?_);refine .mv rfl rfl<|.P rfl (lT rfl rfl zD (uD (Fl jc.1 qM hm.2.1).2))<|.ag rfl rfl<|.nil ?_;refine J.seq (J.af [.p,.p,.p] ?_);refine .mv rfl rfl<|.P rfl (oh rfl rfl zD (s0 _))<|.ag rfl rfl<|.nil ?_;refine J.seq (J.seq (J.af [.p,.p,.p,.p,.p,.r,.p,.p] ?_));refine .mv rfl rfl<|.mv rfl rfl<|.mv rfl rfl<|.P rfl (bU rfl rfl (az zO))<|.P rfl (bM (off:=(i+aw.length)*1) underlying244 sizeOf184 rfl rfl zO zO zO)<|.R rfl (eI (r:=_) (i+aw.length) 0 isAgg184 rfl rfl rfl (fS (by simp at*;omega)) rfl)<|.mv rfl rfl<|.P rfl (b_ rfl rfl)<|.nil ?_;refine J.cond rfl (fun h3=>?_) (fun h3=>?_)
       ·have fK:=h3;try simp only[bs]at fK
        refine J.seq (J.af [.p,.p,.p,.p,.p,.r,.p,.p,.w] ?_);refine .mv rfl rfl<|.mv rfl rfl<|.mv rfl rfl<|.P rfl (bU rfl rfl (az zO))<|.P rfl (bM (off:=(i+aw.length)*1) underlying244 sizeOf184 rfl rfl zO zO zO)<|.R rfl (eI (r:=_) (i+aw.length) 0 isAgg184 rfl rfl rfl (fS (by simp at*;omega)) rfl)<|.P rfl (bU rfl rfl (addN (b:=gB) (by have:=dP hm.1 (i+aw.length);unfold gB at*;omega)))<|.P rfl (bM (off:=(i+aw.length)*1) underlying244 sizeOf184 rfl rfl zO zO zO)<|.W rfl (gn (r:=_) (i+aw.length) 0 sizeOf184 rfl rfl rfl rfl rfl rfl (fS (by simp at*;omega)) zS)<|.nil ?_;refine J.af [.p,.p,.p] ?_;refine .mv rfl rfl<|.P rfl (bU rfl rfl (addN (b:=1) (by have:=K3 jc.1 qM hm.2.1;unfold gB at*;omega)))<|.ag rfl rfl<|.nil ?_;refine J.af [.p,.p,.p,.p,.p,.r,.p,.p,.p,.w] ?_;refine .mv rfl rfl<|.mv rfl rfl<|.mv rfl rfl<|.P rfl (bU rfl rfl (az zO))<|.P rfl (bM (off:=(i+aw.length)*1) underlying244 sizeOf184 rfl rfl zO zO zO)<|.R rfl (eI (r:=_) (i+aw.length) 0 isAgg184 rfl rfl rfl (fM (fS (by simp at*;omega))) rfl)<|.mv rfl rfl<|.P rfl (dQ rfl rfl (p_ (by have:=Fx (g*x2+c);omega) (by have:=dP hm.1 (i+aw.length);unfold gB at*;omega)))<|.P rfl (bM (off:=(i+aw.length)*1) underlying244 sizeOf184 rfl rfl zO zO zO)<|.W rfl (gn (r:=_) (i+aw.length) 0 sizeOf184 rfl rfl rfl rfl rfl rfl (fM (fS (by simp at*;omega))) zS)<|.nil ?_;refine J.nil (cC ?_);refine J.af [.p,.p] ?_;refine .P rfl (bU rfl rfl (az zO))<|.mv rfl rfl<|.nil ?_;refine J.nil (dG ?_)
        exact⟨⟨aw++[x2],aI,a1.set (i+aw.length) (nth a1 (i+aw.length)+gB-(g*x2+c)%gB),(g*x2+c)/gB+1,by simp[bl],K2 (e:=1) hm jc.1 qM (by simp at qB;omega) (by simp at qB;have:=hm.2.2.1;omega) (by have:=Fx (g*x2+c);omega) zO (U1 jc.1 qM hm.2.1 (x:=nth a1 (i+aw.length)) zO),oM⟩,by simp,Le.mk rfl (.cons rfl (Sub.refl _) rfl (.s rfl rfl (.s rfl rfl (.cons rfl (Sub.refl _) rfl (.s rfl rfl (.s rfl rfl (.s rfl rfl (.s rfl rfl (.s rfl rfl (.s rfl rfl (.cons rfl (Sub.int zS) rfl .nil))))))))))) (.arr rfl (by rfl) (.arr rfl (by simp[aV]) .nil))⟩
       ·have fK:=h3;try simp only[bs]at fK
        refine J.skip ?_;refine J.af [.p,.p,.p,.p,.p,.r,.p,.p,.p,.w] ?_;refine .mv rfl rfl<|.mv rfl rfl<|.mv rfl rfl<|.P rfl (bU rfl rfl (az zO))<|.P rfl (bM (off:=(i+aw.length)*1) underlying244 sizeOf184 rfl rfl zO zO zO)<|.R rfl (eI (r:=_) (i+aw.length) 0 isAgg184 rfl rfl rfl (fS (by simp at*;omega)) rfl)<|.mv rfl rfl<|.P rfl (dQ rfl rfl (p_ (by have:=Fx (g*x2+c);omega) (by have:=dP hm.1 (i+aw.length);unfold gB at*;omega)))<|.P rfl (bM (off:=(i+aw.length)*1) underlying244 sizeOf184 rfl rfl zO zO zO)<|.W rfl (gn (r:=_) (i+aw.length) 0 sizeOf184 rfl rfl rfl rfl rfl rfl (fS (by simp at*;omega)) zS)<|.nil ?_;refine J.nil (cC ?_);refine J.af [.p,.p] ?_;refine .P rfl (bU rfl rfl (az zO))<|.mv rfl rfl<|.nil ?_;refine J.nil (dG ?_);exact⟨⟨aw++[x2],aI,a1.set (i+aw.length) (nth a1 (i+aw.length)-(g*x2+c)%gB),(g*x2+c)/gB+0,by simp[bl],K2 (e:=0) hm jc.1 qM (by simp at qB;omega) (by simp at qB;have:=hm.2.2.1;omega) zO (by have:=dP hm.1 (i+aw.length);omega) (K3 jc.1 qM hm.2.1),oM⟩,by simp,Le.mk rfl (.cons rfl (Sub.refl _) rfl (.s rfl rfl (.s rfl rfl (.cons rfl (Sub.refl _) rfl (.s rfl rfl (.s rfl rfl (.s rfl rfl (.s rfl rfl (.s rfl rfl (.s rfl rfl (.cons rfl (Sub.int zS) rfl .nil))))))))))) (.arr rfl (by rfl) (.arr rfl (by exact rO) .nil))⟩
    ·have bE:=h1;try simp only[bs]at bE
     have lH:=(KY oJ hb hl (fun j hj=>hz j hj) rfl vP jc zO).1;refine J.skip ?_;refine J.af [.p,.p,.p] ?_;refine .mv rfl rfl<|.P rfl (dQ rfl rfl (p_ (b:=1) zO (by have:=jc.1;unfold gB at*;omega)))<|.ag rfl rfl<|.nil ?_;refine J.nil (cC ?_);refine J.nil (dG ?_);exact⟨⟨g-1,(KY oJ hb hl (fun j hj=>hz j hj) rfl vP jc zO).2⟩,by simp;omega,Le.mk rfl (.cons rfl (Sub.gs zS) rfl (.s rfl rfl (.s rfl rfl (.cons rfl (Sub.gs zS) rfl (.s rfl rfl (.s rfl rfl (.s rfl rfl (.s rfl rfl .nil)))))))) (.arr rfl (by rfl) (.arr rfl (by rfl) .nil))⟩
end Go.T
namespace Go.T
open Go
def iS(m n:Nat):List (Nat×Nat):=if h:n=0 then[(m,n)]else(m,n)::iS n (m%n)
termination_by n
decreasing_by exact Nat.mod_lt _ (Nat.pos_of_ne_zero h)
theorem GB(m:Nat):iS m 0=[(m,0)]:=by rw[iS];simp
theorem GC{m n:Nat}(h:n≠0):iS m n=(m,n)::iS n (m%n):=by rw[iS];simp[h]
theorem M0(m n:Nat):∃r,iS m n=(m,n)::r:=by
 by_cases h:n=0
 ·subst h;exact⟨[],GB m⟩
 ·exact⟨_,GC h⟩
def sf(l:List (Nat×Nat)):Nat:=(l.getLast?.getD (0,0)).1
theorem aem(l:List (Nat×Nat))(x:Nat×Nat):sf (l++[x])=x.1:=by simp[sf]
theorem ael(m n:Nat):sf (iS m n)=Nat.gcd m n:=by
 induction n using Nat.strongRecOn generalizing m with
 |_ n ih=>
  by_cases h:n=0
  ·subst h;rw[GB];simp[sf]
  ·rw[GC h];obtain⟨r,hr⟩:=M0 n (m%n);have h1:=ih (m%n) (Nat.mod_lt _ (Nat.pos_of_ne_zero h)) n;rw[hr]at h1⊢;rw[Nat.gcd_comm m n,Nat.gcd_rec n m,Nat.gcd_comm (m%n) n,←h1];simp[sf]
theorem aal{M N m n:Nat}{pre:List (Nat×Nat)}(h:iS M N=pre++iS m n):pre++[(m,n)]<+:iS M N:=by
 obtain⟨r,hr⟩:=M0 m n;exact⟨r,by rw[h,hr];simp⟩
theorem aak{M N m n:Nat}{pre:List (Nat×Nat)}(h:iS M N=pre++iS m n)(hn:n≠0):iS M N=(pre++[(m,n)])++iS n (m%n):=by rw[h,GC hn];simp
theorem aaj{M N m n:Nat}{pre:List (Nat×Nat)}(h:iS M N=pre++iS m n)(hn:n=0):pre++[(m,n)]=iS M N:=by subst hn;rw[h,GB]
theorem pS{n:Nat}(h:(au n).length=0):n=0:=by
 rcases Nat.eq_zero_or_pos n with e|e
 ·exact e
 ·rw[wo zO]at h;simp at h
theorem Dj(s:aa):e7 (digits s).1=au (val s).natAbs:=by
 have h:=my s;have hv:=lR s;rw[afx h.ok h.cut]
 congr 1
 unfold jg at hv;split at hv<;>omega
theorem Jf(s:aa):(digits s).2=decide (val s<0):=by
 have h:=my s;have hv:=lR s;cases e:(digits s).2 with
 |true=>
  have:=A6 h.cut (h.Bd e);rw[e]at hv;simp[jg]at hv;exact(decide_eq_true zO).symm
 |false=>
  rw[e]at hv;simp[jg]at hv;exact(decide_eq_false zO).symm
end Go.T
