/-
  Contracts of the functions that the statement reaches, and the logic in which they are proved (no condition): parts W75, Core44, Div6, Div7, Div8, Div9, Core45, W76, Div10, W77, Div11, W78, Div12, W79, Div13.
-/
import Derived.Test.YtapflgppmigcdaaGreatDoorA10
set_option linter.all false
namespace Go.T
open Go Go.Proofs Go.Proofs.Tryz
set_option maxRecDepth 20000
structure alk(m:List Nat)(d:Nat)where
 lo:List Nat
 rest:List Nat
 hx:m=lo++rest
theorem alj(m:List Nat)(d:Nat)(hm:m.length≠0)(hs:m.length≤40000)(ho:aR m)(hd:0<d)(JA:d<gB):Fc Tryz.prog 358 [aF m,.raw (.int .u64 (d:Int))] (.bj [aF (bm (hY m d).1),.raw (.int .u64 ((hY m d).2:Int))]):=by
 refine Fc.mk' [4,5] func358 rfl ntmps358 rfl rfl rfl (fun t w=>results_tmp2 results358 t _ w) ?_;refine J.seq (J.af [.p,.p] ?_);refine .ag rfl rfl<|.ag rfl rfl<|.nil ?_;refine J.seq (J.af [.p,.p,.w,.p] ?_);refine .mv rfl rfl<|.P rfl (cY underlying244 rfl)<|.W rfl (vj (bt:=8) 0 m.length underlying244 sizeOf184 typeInfo184 zeroValue184 rfl rfl rfl rfl rfl (by simp[bb]) (by simp[bb]) (Nat.le_refl m.length) zO zO zO rfl)<|.ag rfl rfl<|.nil ?_;refine J.seq (J.af [.p] ?_);refine .ag rfl rfl<|.nil ?_;refine J.seq (J.seq (J.af [.p,.p,.p,.p] ?_));refine .mv rfl rfl<|.P rfl (cY underlying244 rfl)<|.P rfl (dw rfl rfl (en zO zQ))<|.ag rfl rfl<|.nil ?_;refine J.block ?_;refine J.loop (ι:=alk m d) (fun sx=>[(7,.raw (.int .u64 ((hY sx.rest d).2:Int))),(8,.i ((sx.lo.length:Int)-1)),(6,.gs 0 m.length),(0,aF m),(1,.raw (.int .u64 (d:Int)))]) (fun sx=>[(0,.arr 1 (bb (List.replicate sx.lo.length 0++(hY sx.rest d).1)))]) (fun sx=>sx.lo.length) ⟨m,[],by simp⟩ ?_ ?_
 ·exact Le.mk rfl (.s rfl rfl (.cons rfl (Sub.int zS) rfl (.cons rfl (Sub.gs zS) rfl (.s rfl rfl (.s rfl rfl .nil))))) (.arr rfl (by simp[bb,hY]) .nil)
 ·rintro⟨lo,rest,hx⟩;show J _ _ _ _ [(7,.raw (.int .u64 ((hY rest d).2:Int))),(8,.i ((lo.length:Int)-1)),(6,.gs 0 m.length),(0,aF m),(1,.raw (.int .u64 (d:Int)))] [(0,.arr 1 (bb (List.replicate lo.length 0++(hY rest d).1)))];rcases lV lo with rfl|⟨i,x,rfl⟩
  ·obtain rfl:m=rest:=by simpa using hx
   refine J.seq (J.seq (J.af [.p,.p] ?_));refine .mv rfl rfl<|.P rfl (oQ rfl rfl)<|.nil ?_;refine J.eF rfl zS ?_;refine J.exit (dO (dG ?_));refine J.bE (Le.freeze 6 0 rfl rfl (by simp[bb,ak'])) ?_;refine J.seq (J.af [.p,.p,.p,.p,.p] ?_);refine .mv rfl rfl<|.P rfl (ai call284 rfl (q7 _))<|.mv rfl rfl<|.ag rfl rfl<|.ag rfl rfl<|.nil ?_;refine J.ret (?_);exact r9 rfl rfl (Sub.refl _) (Sub.refl _)
  ·have hl:=congrArg List.length hx;simp only[List.length_append,List.length_cons,List.length_nil]at hl;have iG:=ho x (by rw[hx];simp);have hr:=Mo rest hd;have Jw:=ak9 hr JA iG;refine J.seq (J.seq (J.af [.p,.p] ?_));refine .mv rfl rfl<|.P rfl (oQ rfl rfl)<|.nil ?_;refine J.gu rfl zS ?_;refine J.skip ?_;refine J.seq ?_;refine J.block ?_;refine J.seq (J.af [.p,.p,.p,.p,.p,.p,.p,.p] ?_);refine .mv rfl rfl<|.P rfl (tO rfl rfl (mulN (c:=gB) zD zO))<|.mv rfl rfl<|.mv rfl rfl<|.P rfl (gm underlying244 sizeOf184 rfl rfl zS (s7 (l:=m) (k:=i.length) (b:=x) (r:=rest) (by simp[hx]) zS))<|.P rfl (bP isAgg184 rfl)<|.P rfl (bU rfl rfl (addN zO))<|.ag rfl rfl<|.nil ?_;refine J.seq (J.af [.p,.p,.p,.p,.p,.p,.w] ?_);refine .mv rfl rfl<|.mv rfl rfl<|.mv rfl rfl<|.mv rfl rfl<|.P rfl (lO rfl rfl zO (L8 zO))<|.P rfl (bS (off:=(i.length)*1) underlying244 sizeOf184 rfl rfl zS zQ zS)<|.W rfl (gH (r:=_) (i.length) 0 sizeOf184 rfl rfl rfl rfl rfl rfl abB zS)<|.nil ?_;refine J.af [.p,.p,.p,.p] ?_;refine .mv rfl rfl<|.mv rfl rfl<|.P rfl (oS rfl rfl zO (akv _ _))<|.ag rfl rfl<|.nil ?_;refine J.nil (cn ?_);refine J.af [.p,.p,.p] ?_;refine .mv rfl rfl<|.P rfl (dw rfl rfl (en zO zQ))<|.ag rfl rfl<|.nil ?_;refine J.nil (cZ ?_);exact⟨⟨i,x::rest,by rw[hx];simp⟩,by simp,Le.mk rfl (.s rfl rfl (.cons rfl (Sub.int zS) rfl (.cons rfl (Sub.gs zS) rfl (.s rfl rfl (.s rfl rfl .nil))))) (.arr rfl (by exact abC) .nil)⟩
structure ama(m n:List Nat)where
 pre:List Nat
 rest:List Nat
 out:List Nat
 hx:m=pre++rest
 hlen:out.length=m.length+n.length
 ho:TO out pre.length n.length (an pre*an n)
structure amb(m n:List Nat)(pre:List Nat)(x:Nat)where
 au:List Nat
 aC:List Nat
 out:List Nat
 c:Nat
 aU:n=au++aC
 hlen:out.length=m.length+n.length
 hi:TI out c pre.length n.length (an pre*an n) x au
theorem WD(m n:List Nat)(hm:m.length+n.length≠0)(Ra:m.length≤20000)(Bq:n.length≤20000)(Bn:aR m)(bY:aR n):Fc Tryz.prog 338 [aF m,aF n] (aF (ak (an m*an n))):=by
 refine Fc.mk' [4] func338 rfl ntmps338 rfl rfl rfl (fun t w=>results_tmp results338 t _ w) ?_;refine go [16] ?_;refine sd (en zO zQ) ?_;refine oW (vj (bt:=8) 0 (m.length+n.length) underlying244 sizeOf184 typeInfo184 zeroValue184 rfl rfl rfl rfl rfl (by simp[bb]) (by simp[bb]) (Nat.le_refl (m.length+n.length)) zO zO zO rfl) ?_;refine J.loop (ι:=ama m n) (fun sx=>[(17,aF m),(18,.i m.length),(1,aF n),(5,.gs 0 (m.length+n.length)),(19,.i sx.pre.length)]) (fun sx=>[(0,.arr 1 (bb sx.out))]) (fun sx=>sx.rest.length) ⟨[],m,List.replicate (m.length+n.length) 0,rfl,by simp,G' m n _⟩ ?_ ?_
 ·exact Le.mk rfl (.s rfl rfl (.cons rfl (Sub.int zS) rfl (.s rfl rfl (.cons rfl (Sub.gs zS) rfl (.s rfl rfl .nil))))) (.arr rfl (by simp[bb]) .nil)
 ·rintro⟨pre,rest,out,hx,hlen,ho⟩;show J _ _ _ _ [(17,aF m),(18,.i m.length),(1,aF n),(5,.gs 0 (m.length+n.length)),(19,.i pre.length)] [(0,.arr 1 (bb out))];have hl:=congrArg List.length hx;simp only[List.length_append]at hl;rcases rest with _|⟨x,rest⟩
  ·obtain rfl:m=pre:=by simpa using hx
   refine go [16] ?_;refine a_ zS ?_;refine go [16] ?_;refine J.bE (Le.freeze 5 0 rfl rfl (by simp[bb];omega)) ?_;refine go [] ?_;refine oP (ai call284 rfl (q7 _)) ?_;exact ah rfl (Sub.snap (by rw[Aq ho]))
  ·simp only[List.length_cons]at hl;have jt:=Bn x (by rw[hx];simp);refine go [16] ?_;refine bk zQ ?_;refine ix zO (aS (fun(n:Nat)=>[D.raw (.int .u64 (n:Int))]) hx rfl) ?_;refine J.loop (ι:=amb m n pre x) (fun sx=>[(17,aF m),(18,.i m.length),(1,aF n),(5,.gs 0 (m.length+n.length)),(19,.i pre.length),(6,.i pre.length),(7,.raw (.int .u64 (x:Int))),(24,aF n),(25,.i n.length),(8,.raw (.int .u64 (sx.c:Int))),(26,.i sx.au.length)]) (fun sx=>[(0,.arr 1 (bb sx.out))]) (fun sx=>sx.aC.length) ⟨[],n,out,0,rfl,hlen,G7 _ ho⟩ ?_ ?_
   ·exact Le.mk rfl (.s rfl rfl (.s rfl rfl (.s rfl rfl (.cons rfl (Sub.gs zS) rfl (.s rfl rfl (.s rfl rfl (.s rfl rfl (.s rfl rfl (.cons rfl (Sub.int zS) rfl (.s rfl rfl (.s rfl rfl .nil))))))))))) (.arr rfl (by rfl) .nil)
   ·rintro⟨au,aC,out,c,aU,hlen,hi⟩;show J _ _ _ _ [(17,aF m),(18,.i m.length),(1,aF n),(5,.gs 0 (m.length+n.length)),(19,.i pre.length),(6,.i pre.length),(7,.raw (.int .u64 (x:Int))),(24,aF n),(25,.i n.length),(8,.raw (.int .u64 (c:Int))),(26,.i au.length)] [(0,.arr 1 (bb out))];have bN:=congrArg List.length aU;simp only[List.length_append]at bN;rcases aC with _|⟨x2,aC⟩
    ·obtain rfl:n=au:=by simpa using aU
     refine go [16] ?_;refine a_ zS ?_;refine go [16] ?_;refine br (fun h1=>?_) (fun h1=>?_)
     ·refine sd (en zO zQ) ?_;refine oP (bS (off:=(pre.length+n.length)*1) underlying244 sizeOf184 rfl rfl zO zQ zQ) ?_;refine oR (eX (r:=_) (pre.length+n.length) 0 isAgg184 rfl rfl rfl (gC (by simp at*;omega)) rfl) ?_;refine sd ((addN (by have:=dZ hi.1 (pre.length+n.length);have:=hi.2.1;unfold gB at*;omega))) ?_;refine oP (bS (off:=(pre.length+n.length)*1) underlying244 sizeOf184 rfl rfl zO zQ zQ) ?_;refine oW (gH (r:=_) (pre.length+n.length) 0 sizeOf184 rfl rfl rfl rfl rfl rfl (gC (by simp at*;omega)) zS) ?_;refine go [16] ?_;refine sd (aw zO) ?_;exact nx ⟨pre++[x],rest,out.set (pre.length+n.length) (nth out (pre.length+n.length)+c),by simp[hx],by simp[hlen],G9 hi (by simp at*;omega) (by simp at*;omega) rfl⟩ zS (Le.mk rfl (.s rfl rfl (.s rfl rfl (.s rfl rfl (.cons rfl (Sub.gs zS) rfl (.cons rfl (Sub.int zS) rfl .nil))))) (.arr rfl (by exact sG) .nil))
     ·refine go [16] ?_;refine sd (aw zO) ?_;exact nx ⟨pre++[x],rest,out,by simp[hx],hlen,M6 hi (by simp at*;omega)⟩ zS (Le.mk rfl (.s rfl rfl (.s rfl rfl (.s rfl rfl (.cons rfl (Sub.gs zS) rfl (.cons rfl (Sub.int zS) rfl .nil))))) (.arr rfl (by rfl) .nil))
    ·simp only[List.length_cons]at bN;have qt:=bY x2 (by rw[aU];simp);refine go [16] ?_;refine bk zQ ?_;refine ix zO (aS (fun(n:Nat)=>[D.raw (.int .u64 (n:Int))]) aU rfl) ?_;refine sd (aw zO) ?_;refine oP (bS (off:=(pre.length+au.length)*1) underlying244 sizeOf184 rfl rfl zO zO zO) ?_;refine oR (eX (r:=_) (pre.length+au.length) 0 isAgg184 rfl rfl rfl (gC (by simp at*;omega)) rfl) ?_;refine sd ((mulN rfl (uh hi.2.1 (dZ hi.1 (pre.length+au.length)) jt qt).1)) ?_;refine sd ((addN (uh hi.2.1 (dZ hi.1 (pre.length+au.length)) jt qt).2.1)) ?_;refine sd ((addN (uh hi.2.1 (dZ hi.1 (pre.length+au.length)) jt qt).2.2)) ?_;refine sd (aw zO) ?_;refine oP (oS rfl rfl zD (tR _)) ?_;refine oP (bS (off:=(pre.length+au.length)*1) underlying244 sizeOf184 rfl rfl zO zO zO) ?_;refine oW (gH (r:=_) (pre.length+au.length) 0 sizeOf184 rfl rfl rfl rfl rfl rfl (gC (by simp at*;omega)) zS) ?_;refine oP (lO rfl rfl zD (vk (uh hi.2.1 (dZ hi.1 (pre.length+au.length)) jt qt).2.2)) ?_;refine sd (aw zO) ?_;exact nx ⟨au++[x2],aC,out.set (pre.length+au.length) ((c+(nth out (pre.length+au.length)+x*x2))%gB),(c+(nth out (pre.length+au.length)+x*x2))/gB,by simp[aU],by simp[hlen],G8 hi jt qt zO zO⟩ zS (Le.mk rfl (.s rfl rfl (.s rfl rfl (.s rfl rfl (.cons rfl (Sub.gs zS) rfl (.s rfl rfl (.s rfl rfl (.s rfl rfl (.s rfl rfl (.s rfl rfl (.s rfl rfl (.cons rfl (Sub.int zS) rfl .nil))))))))))) (.arr rfl (by exact sG) .nil))
end Go.T
namespace Go.T
open Go
variable[bX]
variable{P:Program} {env:Env} {dst:Option Tmp} {ty:TypeId} {pos:String} {ar:Array Edge} {g:Option (Nat×Bool)}
theorem Hd{w:World}{O:Nat→Prop}{b sz:Nat}:∀(rows:List (List D))(off h:Nat),Vr w O b off sz rows→Vr w O b off sz (rows.take h)
 |[],_,h,_=>by simp[Vr]
 |r::rs,off,0,_=>by simp[Vr]
 |r::rs,off,h+1,hv=>by
  simp only[Vr,List.take_succ_cons]at hv⊢;exact⟨hv.1,Hd rs _ h hv.2⟩
theorem aen{w:World}{b:Nat}{b_:Obj}(h:w.heap[b]?=some b_):({w with heap:=w.heap.setIfInBounds b b_}:World)=w:=by
 have e:w.heap.setIfInBounds b b_=w.heap:=by
  apply Array.ext_getElem?;intro i;rw[Array.getElem?_setIfInBounds];split
  ·rename_i e;subst e;have:=(Array.getElem?_eq_some_iff.1 h).1;simp[this,h.symm]
  ·rfl
 rw[e]
theorem Tr.shrink{O:Nat→Prop}{w:World}{ρ:az}{U:ae}{id sz:Nat}{rows:List (List D)}(h:Nat)(aj:cF w O ρ U)(ho:U.get id=some (.arr sz rows))(aD:rows≠[]):Tr O w ρ U w ρ (U.set id (.arr sz (rows.take h))):=by
 have ru:(Ob.arr sz rows).live=true:=by
  cases rows
  ·exact absurd rfl aD
  ·rfl
 obtain⟨l,h3,h4,c,T,h5,h6,h7,h8⟩:=aj.own id _ ho ru;have hs:=aen h5;have:=Tr.cm (o':=.arr sz (rows.take h)) aj ho ru h3 (.cells c T (0,0)) (by
  rw[hs];intro hk;exact⟨c,T,h5,h6,⟨by simp;omega,by simp;omega⟩,Hd _ _ _ (gX.mono.vr hk rfl _ _ h8)⟩)
 rw[hs]at this;exact this
theorem aj4{U:ae}{t e:TypeId}{x y:Operand}{k:IntKind}{sz id n h:Nat}{rows:List (List D)}(hu:P.underlying t=some (.slice e))(hs:∀w,(sizeOf e).run P w=.ok sz w)(hx:env.op x=some (.gs id n))
  (hy:env.op y=some (.raw (.int k (h:Int))))(ho:U.get id=some (.arr sz rows))(hn:rows.length=n)(hh:h≤n)(h0:h≠0):
  aq P ⟨dst,.slice t x none (some y) none,ty,pos,ar,g⟩ env U (.gs id h) (U.set id (.arr sz (rows.take h))):=
 .step fun O ρ a w aj hv=>by
  have h1:=hv x (by simp[Op.operands]) _ hx;have h2:=hv y (by simp[Op.operands]) _ hy;simp only[V]at h1 h2;rcases h1 with⟨h1,_⟩|⟨_,l,h3,e1⟩
  ·omega
  ·have aD:rows≠[]:=by rintro rfl;simp at hn;omega
   have ru:(Ob.arr sz rows).live=true:=by
    cases rows
    ·exact absurd rfl aD
    ·rfl
   obtain⟨l',g3,g4,c,T,g5,g6,g7,g8⟩:=aj.own id _ ho ru;rw[h3]at g3;cases g3;have cJ:h≤l.cap:=by omega
   have hb:(Instr.sliceBounds true n l.cap none (some (.int k h)) none).run P w=.ok (0,h,l.cap) w:=by
    simp[Instr.sliceBounds,CV,cJ]
   refine⟨.slice (some ⟨l.b,l.off,none⟩) h l.cap,w,ρ,.inl ?_,Tr.shrink h aj ho aD,?_⟩
   ·simp[execOp,Instr.sliceAt,Instr.slice,ca hu,e1,h2,hb,hs,addr_add]
   ·simp only[V];exact .inr ⟨h0,l,h3,rfl⟩
end Go.T
namespace Go.T
open Go
def MS(a0 a:List Nat)(g c i k:Nat)(pre:List Nat):Prop:=
 aR a∧c<gB∧a.length=a0.length∧an a+g*an pre*gB^i=an a0+c*gB^(i+pre.length)∧∀j,i+k≤j→nth a j=nth a0 j
theorem XP{a:List Nat}(h:aR a)(g i k:Nat):MS a a g 0 i k []:=⟨h,dv,rfl,by simp[an],fun _ _=>rfl⟩
theorem G1{g b c:Nat}(hg:g<gB)(hb:b<gB)(hc:c<gB):g*b+c≤(gB-1)*gB:=by
 have h1:g*b≤(gB-1)*(gB-1):=Nat.mul_le_mul zO zO;unfold gB at*;omega
theorem G2{g b c:Nat}(hg:g<gB)(hb:b<gB)(hc:c<gB):g*b<18446744073709551616∧g*b+c<18446744073709551616:=by
 have h:=G1 hg hb hc;have h2:(gB-1)*gB<18446744073709551616:=by decide
 omega
theorem XQ{g b c x:Nat}(hg:g<gB)(hb:b<gB)(hc:c<gB)(hx:x<(g*b+c)%gB):(g*b+c)/gB+1<gB:=by
 have h:=G1 hg hb hc;rcases Nat.lt_or_ge ((g*b+c)/gB) (gB-1)with h1|h1
 ·omega
 ·exfalso;have h2:=Nat.div_add_mod (g*b+c) gB;have h3:gB*(gB-1)≤gB*((g*b+c)/gB):=Nat.mul_le_mul_left _ h1;rw[Nat.mul_comm gB (gB-1)]at h3;omega
theorem M1{g b c:Nat}(hg:g<gB)(hb:b<gB)(hc:c<gB):(g*b+c)/gB<gB:=by
 rw[Nat.div_lt_iff_lt_mul dv];have h:=G1 hg hb hc;have h2:(gB-1)*gB<gB*gB:=by decide
 omega
theorem M0{a0 a pre:List Nat}{g c i k b v e:Nat}(h:MS a0 a g c i k pre)(hg:g<gB)(hb:b<gB)(hk:pre.length<k)(hl:i+pre.length<a.length)
  (hv:v+(g*b+c)%gB=nth a (i+pre.length)+e*gB)(hvB:v<gB)(hc:(g*b+c)/gB+e<gB):
  MS a0 (a.set (i+pre.length) v) g ((g*b+c)/gB+e) i k (pre++[b]):=by
 obtain⟨h1,h2,h3,h4,h5⟩:=h;refine⟨u6 h1 hvB,hc,by simpa using h3,?_,fun j hj=>?_⟩
 ·have hs:=zi (v:=v) hl;have hd:=Nat.div_add_mod (g*b+c) gB;rw[wZ,List.length_append,List.length_singleton,←Nat.add_assoc,Nat.pow_succ];generalize (g*b+c)/gB=u at*;generalize (g*b+c)%gB=w at*;generalize nth a (i+pre.length)=z at*;have e1:g*(an pre+b*gB^pre.length)*gB^i=g*an pre*gB^i+g*b*gB^(i+pre.length):=by
   rw[Nat.mul_add,Nat.add_mul,Nat.pow_add,←Nat.mul_assoc g b,Nat.mul_assoc (g*b),Nat.mul_comm (gB^pre.length)]
  rw[e1];generalize gB^(i+pre.length)=P at*;have e2:(v+w)*P=(z+e*gB)*P:=by rw[hv]
  have e3:(gB*u+w)*P=(g*b+c)*P:=by rw[hd]
  have e4:(u+e)*(P*gB)=gB*u*P+e*gB*P:=by
   rw[Nat.add_mul,Nat.mul_comm P gB,←Nat.mul_assoc,←Nat.mul_assoc,Nat.mul_comm u gB]
  rw[e4];rw[Nat.add_mul,Nat.add_mul]at e2 e3;omega
 ·rw[zz hl,if_neg zO];exact h5 j hj
def AB(a1 a:List Nat)(d i k:Nat)(pre:List Nat):Prop:=
 aR a∧d≤1∧a.length=a1.length∧an a+d*gB^(i+pre.length)=an a1+an pre*gB^i∧∀j,i+k≤j→nth a j=nth a1 j
theorem Xx{a:List Nat}(h:aR a)(i k:Nat):AB a a 0 i k []:=⟨h,by omega,rfl,by simp[an],fun _ _=>rfl⟩
theorem Xy{a1 a pre:List Nat}{d i k b:Nat}(h:AB a1 a d i k pre)(hb:b<gB)(hk:pre.length<k)(hl:i+pre.length<a.length):
  AB a1 (a.set (i+pre.length) ((nth a (i+pre.length)+(b+d))%gB)) ((nth a (i+pre.length)+(b+d))/gB) i k (pre++[b]):=by
 obtain⟨h1,h2,h3,h4,h5⟩:=h;have hn:=dZ h1 (i+pre.length);refine⟨u6 h1 (Nat.mod_lt _ dv),?_,by simpa using h3,?_,fun j hj=>?_⟩
 ·have:nth a (i+pre.length)+(b+d)<gB*2:=by omega
  have:=Nat.div_lt_of_lt_mul this;omega
 ·have hs:=NL (t:=nth a (i+pre.length)+(b+d)) (c:=b+d) hl rfl zO;rw[wZ,List.length_append,List.length_singleton,show i+(pre.length+1)=i+pre.length+1 from rfl,hs,Nat.add_mul b,Nat.add_mul,Nat.mul_assoc b,←Nat.pow_add,Nat.add_comm pre.length i];omega
 ·rw[zz hl,if_neg zO];exact h5 j hj
theorem Mx{l:List Nat}{n:Nat}(h:∀j,n<j→nth l j=0):an l=an (l.take n)+nth l n*gB^n:=by
 rcases Nat.lt_or_ge n l.length with g|g
 ·have h1:=KU (l:=l) (k:=n+1) (fun j hj=>h j hj);rw[h1,List.take_succ,List.getElem?_eq_getElem g];simp only[Option.toList];rw[wZ,List.length_take,Nat.min_eq_left zO];simp[nth,g]
 ·rw[List.take_of_length_le g];simp[nth,g]
theorem C4{l:List Nat}(h:aR l)(n:Nat):an (l.take n)<gB^n:=by
 have h2:=tf (m:=l.take n) (fun x hx=>h x (List.mem_of_mem_take hx));have h3:gB^(l.take n).length≤gB^n:=Nat.pow_le_pow_right dv zQ;omega
theorem anu{l x r y P:Nat}(h:l+x*P=r+y*P)(hl:l<P)(hr:r<P):x=y∧l=r:=by
 rcases Nat.lt_trichotomy x y with g|g|g
 ·exfalso;have:(x+1)*P≤y*P:=Nat.mul_le_mul_right _ g;rw[Nat.add_mul]at this;omega
 ·subst g;exact⟨rfl,by omega⟩
 ·exfalso;have:(y+1)*P≤x*P:=Nat.mul_le_mul_right _ g;rw[Nat.add_mul]at this;omega
def DO(A bv:Nat)(a out:List Nat)(i k:Nat):Prop:=aR a∧aR out∧a.length=out.length+k∧an a<bv*gB^i∧an a+an out*bv=A∧∀j,j<i→nth out j=0
theorem GV{A bv:Nat}{a out b:List Nat}{i k:Nat}(h:DO A bv a out (i+1) k)(hb:aR b)(hk:b.length=k)(hv:an b=bv)(j:Nat)(hj:i+k<j):nth a j=0:=by
 refine Uj (n:=i+k+1) ?_ zO;have h1:=tf hb;rw[hk,hv]at h1;have h2:bv*gB^(i+1)≤gB^k*gB^(i+1):=Nat.mul_le_mul_right _ zO;rw[←Nat.pow_add,show k+(i+1)=i+k+1 by omega]at h2;have:=h.2.2.2.1;omega
theorem UL{out:List Nat}{i g:Nat}(h0:nth out i=0)(hi:i<out.length):an (out.set i g)=an out+g*gB^i:=by
 have:=zi (v:=g) hi;rw[h0]at this;omega
theorem XD{A bv:Nat}{a0 a out b:List Nat}{i k g c:Nat}(h:DO A bv a0 out (i+1) k)(hv:an b=bv)
  (hq:∀q,q<gB→q*bv*gB^i≤an a0→q≤g)(hg:g<gB)(hm:MS a0 a g c i k b)(hk:b.length=k)(hc:c≤nth a (i+k))(hl:i+k<a.length)(ho:i<out.length):
  DO A bv (a.set (i+k) (nth a (i+k)-c)) (out.set i g) i k:=by
 obtain⟨o1,o2,o3,o4,o5,o6⟩:=h;obtain⟨m1,m2,m3,m4,m5⟩:=hm;have hn:=dZ m1 (i+k);have hs:=zi (v:=nth a (i+k)-c) hl;rw[hk,hv]at m4;rw[Nat.sub_mul]at hs;have EK:c*gB^(i+k)≤nth a (i+k)*gB^(i+k):=Nat.mul_le_mul_right _ hc;have E6:an (a.set (i+k) (nth a (i+k)-c))+g*bv*gB^i=an a0:=by omega
 have J6:=UL (g:=g) (o6 i zO) ho;refine⟨u6 m1 zO,u6 o2 hg,by simp;omega,?_,?_,fun j hj=>?_⟩
 ·rcases Nat.lt_or_ge (an (a.set (i+k) (nth a (i+k)-c))) (bv*gB^i)with r|r
  ·exact r
  ·exfalso;have e:(g+1)*bv*gB^i≤an a0:=by rw[Nat.add_mul,Nat.add_mul,Nat.one_mul];omega
   rcases Nat.lt_or_ge (g+1) gB with t|t
   ·have:=hq (g+1) t e;omega
   ·have e2:gB*bv*gB^i≤(g+1)*bv*gB^i:=Nat.mul_le_mul_right _ (Nat.mul_le_mul_right _ t);have e3:bv*gB^(i+1)=gB*bv*gB^i:=by rw[Nat.pow_succ,Nat.mul_comm gB bv,Nat.mul_assoc,Nat.mul_comm gB]
    omega
 ·rw[J6,Nat.add_mul,Nat.mul_right_comm g (gB^i) bv];omega
 ·rw[zz ho,if_neg zO];exact o6 j zO
theorem XB{A bv:Nat}{a0 a1 a out b:List Nat}{i k g c d:Nat}(h:DO A bv a0 out (i+1) k)(hb:aR b)(hv:an b=bv)(hk:b.length=k)
  (j2:(g-1)*bv*gB^i≤an a0)(hg:g<gB)(hm:MS a0 a1 g c i k b)(hc:nth a1 (i+k)<c)(wu:AB a1 a d i k b)(hl:i+k<a.length)(ho:i<out.length):
  1≤g∧nth a (i+k)+d=c∧DO A bv (a.set (i+k) (nth a (i+k)+d-c)) (out.set i (g-1)) i k:=by
 have hz:=GV h hb hk hv;obtain⟨o1,o2,o3,o4,o5,o6⟩:=h;obtain⟨m1,m2,m3,m4,m5⟩:=hm;obtain⟨p1,p2,p3,p4,p5⟩:=wu;have t1:nth a (i+k)=nth a1 (i+k):=p5 _ (Nat.le_refl _);have sa:=Mx (l:=a) (n:=i+k) (fun j hj=>by rw[p5 j zO,m5 j zO];exact hz j hj);have s1:=Mx (l:=a1) (n:=i+k) (fun j hj=>by rw[m5 j zO];exact hz j hj);have la:=C4 p1 (i+k);have l1:=C4 m1 (i+k);have QD:=tf hb;rw[hk,hv]at QD m4 p4;have hX:bv*gB^i<gB^(i+k):=by
  have:bv*gB^i<gB^k*gB^i:=Nat.mul_lt_mul_of_pos_right QD (Nat.pow_pos dv);rw[←Nat.pow_add,Nat.add_comm k i]at this;exact this
 have EK:(nth a1 (i+k)+1)*gB^(i+k)≤c*gB^(i+k):=Nat.mul_le_mul_right _ hc;rw[Nat.add_mul,Nat.one_mul]at EK;have bw:an a0<g*bv*gB^i:=by omega
 have jr:1≤g:=by
  rcases Nat.eq_zero_or_pos g with e|e
  ·subst e;simp at bw
  ·exact e
 have hgX:g*bv*gB^i=(g-1)*bv*gB^i+bv*gB^i:=by
  conv=>lhs;rw[show g=(g-1)+1 by omega]
  rw[Nat.add_mul,Nat.add_mul,Nat.one_mul]
 have key:an (a.take (i+k))+(nth a (i+k)+d)*gB^(i+k)=(an a0-(g-1)*bv*gB^i)+c*gB^(i+k):=by
  rw[Nat.add_mul];omega
 obtain⟨k1,k2⟩:=anu key la zO;have hs:=zi (v:=nth a (i+k)+d-c) hl;rw[show nth a (i+k)+d-c=0 by omega]at hs⊢;rw[Nat.zero_mul]at hs;have J6:=UL (g:=g-1) (o6 i zO) ho;refine⟨jr,k1,u6 p1 dv,u6 o2 zO,by simp;omega,by omega,?_,fun j hj=>?_⟩
 ·rw[J6,Nat.add_mul,Nat.mul_right_comm (g-1) (gB^i) bv];omega
 ·rw[zz ho,if_neg zO];exact o6 j zO
def o7(a:List Nat)(i k:Nat):Nat:=nth a (i+k)*gB+nth a (i+k-1)
theorem Ln{l:List Nat}{n j:Nat}(h:j<n):nth (l.take n) j=nth l j:=by
 unfold nth;rw[List.getElem?_take,if_pos h]
theorem FR{l:List Nat}{i j:Nat}:nth (l.drop i) j=nth l (i+j):=by
 unfold nth;rw[List.getElem?_drop]
theorem MO{a:List Nat}{i n:Nat}(ho:aR a)(hl:i+(n+2)<a.length)(hz:∀j,i+(n+2)<j→nth a j=0):
  ∃Ur,Ur<gB^n∧an a/gB^i=(o7 a i (n+2)*gB+nth a (i+n))*gB^n+Ur:=by
 have h1:=ahi ho i;have h2:=KU (l:=a.drop i) (k:=n+3) (fun j hj=>by rw[FR];exact hz _ zO);have yK:n+3=((a.drop i).take (n+3)).length:=by simp;omega
 have h3:=anb yK;rw[Ln zO,Ln zO,Ln zO,FR,FR,FR]at h3;have bw:=C4 (l:=(a.drop i).take (n+3)) (fun x hx=>ho x (List.mem_of_mem_drop (List.mem_of_mem_take hx))) n;refine⟨_,bw,?_⟩;rw[←h1,h2,h3];rfl
theorem Kz{q bv M P:Nat}(hP:0<P):q*bv*P≤M↔q*bv≤M/P:=(Nat.le_div_iff_mul_le hP).symm
def GS(a b:List Nat)(i k g:Nat):Prop:=g<gB∧g*nth b (k-1)≤o7 a i k∧∀q,q<gB→q*an b*gB^i≤an a→q≤g
theorem Hr{b:List Nat}{n:Nat}(ho:aR b)(hl:b.length=n+2):∃Vr,Vr<gB^n∧an b=(nth b (n+1)*gB+nth b n)*gB^n+Vr:=
 ⟨_,C4 ho n,ana hl.symm⟩
theorem anc{a:List Nat}{i n Ur:Nat}(ho:aR a)(hU:Ur<gB^n):nth a (i+n)*gB^n+Ur<gB*gB^n:=by
 have h:=dZ ho (i+n);have:(nth a (i+n)+1)*gB^n≤gB*gB^n:=Nat.mul_le_mul_right _ h;rw[Nat.add_mul,Nat.one_mul]at this;omega
theorem XG{a b:List Nat}{i n:Nat}(ha:aR a)(hb:aR b)(hl:i+(n+2)<a.length)(hz:∀j,i+(n+2)<j→nth a j=0)(hk:b.length=n+2)(iE:0<nth b (n+1)):
  GS a b i (n+2) (min (o7 a i (n+2)/nth b (n+1)) (gB-1)):=by
 obtain⟨Ur,hU,hW⟩:=MO ha hl hz;obtain⟨Vr,hV,hB⟩:=Hr hb hk;refine⟨Nat.lt_of_le_of_lt (Nat.min_le_right _ _) (by unfold gB;omega),?_,fun q hq eY=>?_⟩
 ·exact Nat.le_trans (Nat.mul_le_mul_right _ (Nat.min_le_left _ _)) (Nat.div_mul_le_self _ _)
 ·rw[Kz (Nat.pow_pos dv),hW,hB]at eY;exact adV (Nat.pow_pos dv) eY (anc ha hU) iE zO
theorem XI{a b:List Nat}{i n g:Nat}(ha:aR a)(hb:aR b)(hl:i+(n+2)<a.length)(hz:∀j,i+(n+2)<j→nth a j=0)(hk:b.length=n+2)(h:GS a b i (n+2) g)
  (ht:(o7 a i (n+2)-g*nth b (n+1))*gB+nth a (i+n)<g*nth b n):1≤g∧GS a b i (n+2) (g-1):=by
 obtain⟨Ur,hU,hW⟩:=MO ha hl hz;obtain⟨Vr,hV,hB⟩:=Hr hb hk;obtain⟨h1,h2,h3⟩:=h;have hg:1≤g:=by
  rcases Nat.eq_zero_or_pos g with e|e
  ·subst e;simp at ht
  ·exact e
 refine⟨hg,by omega,Nat.le_trans (Nat.mul_le_mul_right _ (Nat.sub_le _ _)) h2,fun q hq eY=>?_⟩;rw[Kz (Nat.pow_pos dv),hW,hB]at eY;exact adW hU h2 ht eY
theorem XJ{a b:List Nat}{i n g:Nat}(ha:aR a)(hb:aR b)(hl:i+(n+2)<a.length)(hz:∀j,i+(n+2)<j→nth a j=0)(hk:b.length=n+2)(iE:0<nth b (n+1))(h:GS a b i (n+2) g)
  (ht:gB≤o7 a i (n+2)-g*nth b (n+1)∨g*nth b n≤(o7 a i (n+2)-g*nth b (n+1))*gB+nth a (i+n)):(g-1)*an b*gB^i≤an a:=by
 obtain⟨Ur,hU,hW⟩:=MO ha hl hz;obtain⟨Vr,hV,hB⟩:=Hr hb hk;obtain⟨h1,h2,h3⟩:=h;rw[Kz (Nat.pow_pos dv),hW,hB];exact adX iE dv h2 zO (by have:=dZ hb n;omega) hV ht
theorem ak_{l:List Nat}{d:Nat}(hl:aR l)(hd:0<d):bm (hY l d).1=ak (an l/d)∧(hY l d).2=an l%d:=by
 have hv:=alb l d;have hr:=Mo l hd;have h1:an l/d=an (hY l d).1:=by
  rw[hv,Nat.add_comm,Nat.add_mul_div_right _ _ hd,Nat.div_eq_of_lt hr];omega
 have h2:an l%d=(hY l d).2:=by
  rw[hv,Nat.add_comm,Nat.add_mul_mod_self_right,Nat.mod_eq_of_lt hr]
 exact⟨by rw[q0 (ala hl hd),h1],h2.symm⟩
theorem Fw{v:Nat}(h:(ak v).length≠0):gB^((ak v).length-1)≤v:=by
 have:=KR (u2 v) h;rw[e5]at this;exact this
theorem u4(v:Nat):v<gB^(ak v).length:=by
 have:=tf (eN v);rw[e5]at this;exact this
theorem oG{u v:Nat}(h:u≤v):(ak u).length≤(ak v).length:=by
 rcases Nat.eq_zero_or_pos (ak u).length with e|e
 ·omega
 ·have h1:=Fw (v:=u) zO;have h2:=u4 v;have h3:gB^((ak u).length-1)<gB^(ak v).length:=by omega
  have:=(Nat.pow_lt_pow_iff_right (by unfold gB;omega)).1 h3;omega
theorem Tl{v:Nat}(h:gB≤v):2≤(ak v).length:=by
 rcases Nat.lt_or_ge (ak v).length 2 with e|e
 ·exfalso;have h2:=u4 v;have h3:gB^(ak v).length≤gB^1:=Nat.pow_le_pow_right dv zO;rw[Nat.pow_one]at h3;omega
 ·exact e
theorem Th{v:Nat}{k:Nat}(h:(ak v).length=k+1):0<nth (ak v) k:=by
 have hc:=u2 v;rcases lV (ak v)with e|⟨i,x,e⟩
 ·rw[e]at h;simp at h
 ·have hi:i.length=k:=by rw[e]at h;simpa using h
  rw[e,←hi,aie];rcases Nat.eq_zero_or_pos x with z|z
  ·exfalso;subst z;have h1:=sv i;have h2:=um i;rw[e]at hc;rw[h1]at hc;have:=congrArg List.length hc;simp at this;omega
  ·exact z
theorem XE{M N:Nat}(hN:gB≤N)(hMN:N≤M):
  DO M N (ak M++[0,0]) (List.replicate ((ak M).length+2-(ak N).length) 0) ((ak M).length+2-(ak N).length) (ak N).length:=by
 have hk:=oG hMN;have h2:=Tl hN;have hz:an (ak M++[0,0])=M:=by rw[u7,e5];simp[an]
 refine⟨ahh (eN M) (fun x hx=>by simp at hx;subst hx;exact dv),Tn _,by simp;omega,?_,by rw[hz,Tp];omega,fun j hj=>?_⟩
 ·rw[hz];have h3:=Fw (v:=N) zO;have h4:=u4 M;have h5:gB^((ak N).length-1)*gB^((ak M).length+2-(ak N).length)≤N*gB^((ak M).length+2-(ak N).length):=Nat.mul_le_mul_right _ h3;rw[←Nat.pow_add,show(ak N).length-1+((ak M).length+2-(ak N).length)=(ak M).length+1 by omega]at h5;have h6:gB^(ak M).length≤gB^((ak M).length+1):=Nat.pow_le_pow_right dv zO;omega
 ·unfold nth;rw[List.getElem?_replicate];split<;>rfl
theorem XC{M N s:Nat}{a out:List Nat}{k:Nat}(h:DO (M*s) (N*s) a out 0 k)(hs:0<s)(hN:0<N)(hb:N*s<gB^k):
  bm out=ak (M/N)∧bm (a.take k)=ak (M%N*s):=by
 obtain⟨o1,o2,o3,o4,o5,o6⟩:=h;rw[Nat.pow_zero,Nat.mul_one]at o4;have hNs:0<N*s:=Nat.mul_pos hN hs;have e1:M*s/(N*s)=an out:=by rw[←o5,Nat.add_mul_div_right _ _ hNs,Nat.div_eq_of_lt o4];omega
 have e2:M*s%(N*s)=an a:=by rw[←o5,Nat.add_mul_mod_self_right,Nat.mod_eq_of_lt o4]
 rw[Nat.mul_div_mul_right _ _ hs]at e1;rw[Nat.mul_mod_mul_right]at e2;have e3:=KU (l:=a) (k:=k) (fun j hj=>Uj (n:=k) zO hj);refine⟨by rw[q0 o2,e1],?_⟩;rw[q0 (fun x hx=>o1 x (List.mem_of_mem_take hx)),←e3,e2]
variable[bX]
variable{P:Program} {env:Env} {dst:Option Tmp} {ty:TypeId} {pos:String} {ar:Array Edge} {g:Option (Nat×Bool)}
theorem akN{t e:TypeId}{ti:TypeInfo}(hu:P.underlying t=some (.slice e))(hs:∀w,(sizeOf e).run P w=.ok 1 w)(jI:∀w,(typeInfo e).run P w=.ok ti w)(w:World):
  (Instr.makeSlice t (.int .i64 0) (.int .i64 0)).run P w=.ok (.slice (some ⟨w.heap.size,0,none⟩) 0 0) (w.alloc (.cells #[] e)):=by
 have wl:IntKind.i64.wrap 0=0:=by rw[IntKind.wrap_i64];omega
 have e0:(Array.range 0).map (fun _=>(default:Value))=#[]:=by apply Array.ext_getElem?;intro i;simp
 simp[Instr.makeSlice,run_underlying hu,asInt,asIntOf,jI,hs,wl,newRow,e0]
theorem Vw{t e:TypeId}{ti:TypeInfo}{x y:Operand}{nx ny:Int}(hu:P.underlying t=some (.slice e))(hs:∀w,(sizeOf e).run P w=.ok 1 w)(jI:∀w,(typeInfo e).run P w=.ok ti w)
  (hx:env.op x=some (.raw (.int .i64 nx)))(hy:env.op y=some (.raw (.int .i64 ny)))(Br:nx=0)(Bs:ny=0)(U:ae):
  aq P ⟨dst,.makeSlice t x y,ty,pos,ar,g⟩ env U (.snap 1 false []) U:=
 .step fun O ρ a w aj hv=>by
  have cd:=hv x (by simp[Op.operands]) _ hx;have dJ:=hv y (by simp[Op.operands]) _ hy;simp only[V]at cd dJ;subst Br;subst Bs;have hr:=akN hu hs jI w;refine⟨.slice (some ⟨w.heap.size,0,none⟩) 0 0,w.alloc (.cells #[] e),ρ,.inl ?_,Tr.oK ⟨by simp,fun b hb=>by show(w.heap.push _)[b]?=_;rw[Array.getElem?_push,if_neg (Nat.ne_of_lt hb)],rfl,rfl,gV.eq rfl rfl⟩ aj,?_⟩
  ·simp only[execOp,cd,dJ];rw[Sem.run_bind,hr];rfl
  ·simp[V,aG]
end Go.T
namespace Go.T
open Go Go.Proofs Go.Proofs.Tryz
set_option maxRecDepth 20000
structure Z5(m:List Nat)where
 cur:List Nat
 hx:bm cur=bm m
 hl:cur.length≤m.length
theorem Z4(m:List Nat)(hm:bm m≠[])(hs:m.length≤1000000):dF Tryz.prog 284 [.gs 7200 m.length] [(7200,.arr 1 (bb m))] (.gs 7200 (bm m).length) [(7200,.arr 1 (bb (bm m)))]:=by
 refine dF.mk' [2] func284 rfl ntmps284 rfl rfl rfl (fun t w=>results_tmp results284 t _ w) ?_;refine J.seq (J.af [.p] ?_);refine .ag rfl rfl<|.nil ?_;refine J.seq ?_;refine J.block ?_;refine J.loop (ι:=Z5 m) (fun sx=>[(0,.gs 7200 sx.cur.length)]) (fun sx=>[(7200,.arr 1 (bb sx.cur))]) (fun sx=>sx.cur.length) ⟨m,rfl,by omega⟩ ?_ ?_
 ·exact Le.mk rfl (.cons rfl (Sub.gs zS) rfl .nil) (.arr rfl (by rfl) .nil)
 ·rintro⟨cur,hx,hl⟩;show J _ _ _ _ [(0,.gs 7200 cur.length)] [(7200,.arr 1 (bb cur))];rcases lV cur with rfl|⟨i,x,rfl⟩
  ·exact absurd hx.symm hm
  ·skip;refine J.seq (J.seq (J.af [.p,.p,.p,.p,.p,.p,.p,.p,.p,.r,.p,.p] ?_));refine .mv rfl rfl<|.P rfl (tM underlying244 rfl)<|.P rfl (gn rfl rfl)<|.mv rfl rfl<|.p rfl (eB rfl rfl rfl zS) (fun _=>aT rfl _)<|.p rfl (eB rfl rfl rfl zS) (fun _=>aT rfl _)<|.p rfl (eB rfl rfl rfl zS) (fun _=>tM underlying244 rfl _)<|.p rfl (eB rfl rfl rfl zS) (fun _=>dw rfl rfl (aw zO) _)<|.p rfl (eB rfl rfl rfl zS) (fun _=>bS (off:=(i.length)*1) underlying244 sizeOf184 rfl rfl zS zS zS _)<|.r rfl (eB rfl rfl rfl zS) (eX (r:=_) (i.length) 0 isAgg184 rfl rfl rfl (fj i x []) rfl)<|.p rfl (eB rfl rfl rfl zS) (fun _=>jQ rfl rfl _)<|.P rfl (tP rfl zS rfl)<|.nil ?_;refine J.cond rfl (fun h1=>?_) (fun h1=>?_)
   ·have bJ:=h1;try simp only[bs]at bJ
    refine J.skip ?_;refine J.block ?_;refine J.af [.p,.p,.p,.p,.w,.p] ?_;refine .mv rfl rfl<|.mv rfl rfl<|.P rfl (tM underlying244 rfl)<|.P rfl (dw rfl rfl (aw zO))<|.W rfl (aj4 (h:=i.length) underlying244 sizeOf184 rfl (tw rfl zS) rfl (by simp[bb]) zS (by rintro h0;obtain rfl:=List.length_eq_zero_iff.1 h0;exact hm (by rw[←hx,show x=0 by omega,sv];rfl)))<|.ag rfl rfl<|.nil ?_;refine J.nil (cn ?_);refine J.nil (cZ ?_);exact⟨⟨i,by rw[←hx,show x=0 by omega,sv],by simp at hl;omega⟩,by simp,Le.mk rfl (.cons rfl (Sub.gs zS) rfl .nil) (.arr rfl (by simp[bb]) .nil)⟩
   ·have bJ:=h1;try simp only[bs]at bJ
    refine J.exit (dO (dG ?_));refine J.seq (J.af [.p,.p] ?_);refine .mv rfl rfl<|.ag rfl rfl<|.nil ?_;refine J.ret (?_);exact vm rfl (by exact Sub.gs (by(rw[←hx,x6 i zO]))) (.eq rfl (by(rw[←hx,x6 i zO])) rfl .nil)
structure al_(m n:List Nat)where
 pre:List Nat
 rest:List Nat
 out:List Nat
 hx:m=pre++rest
 hlen:out.length=m.length+n.length
 ho:TO out pre.length n.length (an pre*an n)
structure al'(m n:List Nat)(pre:List Nat)(x:Nat)where
 au:List Nat
 aC:List Nat
 out:List Nat
 c:Nat
 aU:n=au++aC
 hlen:out.length=m.length+n.length
 hi:TI out c pre.length n.length (an pre*an n) x au
theorem al9(m n:List Nat)(hm:m.length+n.length≠0)(Ra:m.length≤20000)(Bq:n.length≤20000)(Bn:aR m)(bY:aR n)(hmn:ak (an m*an n)≠[]):dF Tryz.prog 338 [aF m,aF n] [] (.gs 7200 (ak (an m*an n)).length) [(7200,.arr 1 (bb (ak (an m*an n))))]:=by
 refine dF.mk' [4] func338 rfl ntmps338 rfl rfl rfl (fun t w=>results_tmp results338 t _ w) ?_;refine go [] ?_;refine sd (en zO zQ) ?_;refine oW (vj (bt:=8) 0 (m.length+n.length) underlying244 sizeOf184 typeInfo184 zeroValue184 rfl rfl rfl rfl rfl (by simp[bb]) (by simp[bb]) (Nat.le_refl (m.length+n.length)) zO zO zO rfl) ?_;refine J.loop (ι:=al_ m n) (fun sx=>[(17,aF m),(18,.i m.length),(1,aF n),(5,.gs 7200 (m.length+n.length)),(19,.i sx.pre.length)]) (fun sx=>[(7200,.arr 1 (bb sx.out))]) (fun sx=>sx.rest.length) ⟨[],m,List.replicate (m.length+n.length) 0,rfl,by simp,G' m n _⟩ ?_ ?_
 ·exact(Le.mk (am:=[(0,_)]) rfl (show dE _ _ [(17,_),(18,_),(1,_),(5,_),(19,_)]from(.s rfl rfl (.s rfl rfl (.s rfl rfl (.s rfl rfl (.s rfl rfl .nil)))))) (.cons (i:=0) rfl rfl .nil)).trans<|(Le.kO 5 0 7200 rfl rfl zS rfl).trans<|Le.mk rfl (.s rfl rfl (.cons rfl (Sub.int zS) rfl (.s rfl rfl (.cons rfl (Sub.gs zS) rfl (.s rfl rfl .nil))))) (.arr rfl (by simp[bb]) .nil)
 ·rintro⟨pre,rest,out,hx,hlen,ho⟩;show J _ _ _ _ [(17,aF m),(18,.i m.length),(1,aF n),(5,.gs 7200 (m.length+n.length)),(19,.i pre.length)] [(7200,.arr 1 (bb out))];have hl:=congrArg List.length hx;simp only[List.length_append]at hl;rcases rest with _|⟨x,rest⟩
  ·obtain rfl:m=pre:=by simpa using hx
   refine go [] ?_;refine a_ zS ?_;refine go [] ?_;refine oW (hJ call284 (by rw[←hlen];rfl) (Z4 out (by rw[Aq ho];exact hmn) zO) (.cons rfl rfl .nil) rfl rfl) ?_;exact vm rfl (by exact Sub.gs (by rw[Aq ho])) (.eq rfl (by rw[Aq ho]) rfl .nil)
  ·simp only[List.length_cons]at hl;have jt:=Bn x (by rw[hx];simp);refine go [] ?_;refine bk zQ ?_;refine ix zO (aS (fun(n:Nat)=>[D.raw (.int .u64 (n:Int))]) hx rfl) ?_;refine J.loop (ι:=al' m n pre x) (fun sx=>[(17,aF m),(18,.i m.length),(1,aF n),(5,.gs 7200 (m.length+n.length)),(19,.i pre.length),(6,.i pre.length),(7,.raw (.int .u64 (x:Int))),(24,aF n),(25,.i n.length),(8,.raw (.int .u64 (sx.c:Int))),(26,.i sx.au.length)]) (fun sx=>[(7200,.arr 1 (bb sx.out))]) (fun sx=>sx.aC.length) ⟨[],n,out,0,rfl,hlen,G7 _ ho⟩ ?_ ?_
   ·exact Le.mk rfl (.s rfl rfl (.s rfl rfl (.s rfl rfl (.cons rfl (Sub.gs zS) rfl (.s rfl rfl (.s rfl rfl (.s rfl rfl (.s rfl rfl (.cons rfl (Sub.int zS) rfl (.s rfl rfl (.s rfl rfl .nil))))))))))) (.arr rfl (by rfl) .nil)
   ·rintro⟨au,aC,out,c,aU,hlen,hi⟩;show J _ _ _ _ [(17,aF m),(18,.i m.length),(1,aF n),(5,.gs 7200 (m.length+n.length)),(19,.i pre.length),(6,.i pre.length),(7,.raw (.int .u64 (x:Int))),(24,aF n),(25,.i n.length),(8,.raw (.int .u64 (c:Int))),(26,.i au.length)] [(7200,.arr 1 (bb out))];have bN:=congrArg List.length aU;simp only[List.length_append]at bN;rcases aC with _|⟨x2,aC⟩
    ·obtain rfl:n=au:=by simpa using aU
     refine go [] ?_;refine a_ zS ?_;refine go [] ?_;refine br (fun h1=>?_) (fun h1=>?_)
     ·refine sd (en zO zQ) ?_;refine oP (bS (off:=(pre.length+n.length)*1) underlying244 sizeOf184 rfl rfl zO zQ zQ) ?_;refine oR (eX (r:=_) (pre.length+n.length) 0 isAgg184 rfl rfl rfl (gC (by simp at*;omega)) rfl) ?_;refine sd ((addN (by have:=dZ hi.1 (pre.length+n.length);have:=hi.2.1;unfold gB at*;omega))) ?_;refine oP (bS (off:=(pre.length+n.length)*1) underlying244 sizeOf184 rfl rfl zO zQ zQ) ?_;refine oW (gH (r:=_) (pre.length+n.length) 0 sizeOf184 rfl rfl rfl rfl rfl rfl (gC (by simp at*;omega)) zS) ?_;refine go [] ?_;refine sd (aw zO) ?_;exact nx ⟨pre++[x],rest,out.set (pre.length+n.length) (nth out (pre.length+n.length)+c),by simp[hx],by simp[hlen],G9 hi (by simp at*;omega) (by simp at*;omega) rfl⟩ zS (Le.mk rfl (.s rfl rfl (.s rfl rfl (.s rfl rfl (.cons rfl (Sub.gs zS) rfl (.cons rfl (Sub.int zS) rfl .nil))))) (.arr rfl (by exact sG) .nil))
     ·refine go [] ?_;refine sd (aw zO) ?_;exact nx ⟨pre++[x],rest,out,by simp[hx],hlen,M6 hi (by simp at*;omega)⟩ zS (Le.mk rfl (.s rfl rfl (.s rfl rfl (.s rfl rfl (.cons rfl (Sub.gs zS) rfl (.cons rfl (Sub.int zS) rfl .nil))))) (.arr rfl (by rfl) .nil))
    ·simp only[List.length_cons]at bN;have qt:=bY x2 (by rw[aU];simp);refine go [] ?_;refine bk zQ ?_;refine ix zO (aS (fun(n:Nat)=>[D.raw (.int .u64 (n:Int))]) aU rfl) ?_;refine sd (aw zO) ?_;refine oP (bS (off:=(pre.length+au.length)*1) underlying244 sizeOf184 rfl rfl zO zO zO) ?_;refine oR (eX (r:=_) (pre.length+au.length) 0 isAgg184 rfl rfl rfl (gC (by simp at*;omega)) rfl) ?_;refine sd ((mulN rfl (uh hi.2.1 (dZ hi.1 (pre.length+au.length)) jt qt).1)) ?_;refine sd ((addN (uh hi.2.1 (dZ hi.1 (pre.length+au.length)) jt qt).2.1)) ?_;refine sd ((addN (uh hi.2.1 (dZ hi.1 (pre.length+au.length)) jt qt).2.2)) ?_;refine sd (aw zO) ?_;refine oP (oS rfl rfl zD (tR _)) ?_;refine oP (bS (off:=(pre.length+au.length)*1) underlying244 sizeOf184 rfl rfl zO zO zO) ?_;refine oW (gH (r:=_) (pre.length+au.length) 0 sizeOf184 rfl rfl rfl rfl rfl rfl (gC (by simp at*;omega)) zS) ?_;refine oP (lO rfl rfl zD (vk (uh hi.2.1 (dZ hi.1 (pre.length+au.length)) jt qt).2.2)) ?_;refine sd (aw zO) ?_;exact nx ⟨au++[x2],aC,out.set (pre.length+au.length) ((c+(nth out (pre.length+au.length)+x*x2))%gB),(c+(nth out (pre.length+au.length)+x*x2))/gB,by simp[aU],by simp[hlen],G8 hi jt qt zO zO⟩ zS (Le.mk rfl (.s rfl rfl (.s rfl rfl (.s rfl rfl (.cons rfl (Sub.gs zS) rfl (.s rfl rfl (.s rfl rfl (.s rfl rfl (.s rfl rfl (.s rfl rfl (.s rfl rfl (.cons rfl (Sub.int zS) rfl .nil))))))))))) (.arr rfl (by exact sG) .nil))
structure ali(d:Nat)where
 u:Unit
theorem alh(d:Nat):Fc Tryz.prog 358 [.snap 1 false [],.raw (.int .u64 (d:Int))] (.bj [.snap 1 false [],.raw (.int .u64 ((0:Nat):Int))]):=by
 refine Fc.mk' [4,5] func358 rfl ntmps358 rfl rfl rfl (fun t w=>results_tmp2 results358 t _ w) ?_;refine go [] ?_;refine oP (Vw underlying244 sizeOf184 typeInfo184 rfl rfl rfl rfl) ?_;refine sd (en zO zS) ?_;refine J.loop (ι:=ali d) (fun sx=>[(7,.raw (.int .u64 ((0:Nat):Int))),(8,.i (-1)),(6,aF []),(0,.snap 1 false []),(1,.raw (.int .u64 (d:Int)))]) (fun sx=>[]) (fun sx=>0) ⟨()⟩ ?_ ?_
 ·exact Le.mk rfl (.s rfl rfl (.s rfl rfl (.s rfl rfl (.s rfl rfl (.s rfl rfl .nil))))) .nil
 ·rintro⟨u⟩;show J _ _ _ _ [(7,.raw (.int .u64 ((0:Nat):Int))),(8,.i (-1)),(6,aF []),(0,.snap 1 false []),(1,.raw (.int .u64 (d:Int)))] []
  skip
  ·skip;refine go [] ?_;refine a_ zS ?_;refine go [] ?_;refine oP (ai call284 rfl (q7 _)) ?_;exact fu rfl rfl (Sub.refl _) (Sub.refl _)
theorem Wg(M d:Nat)(hs:(ak M).length≤40000)(hd:0<d)(JA:d<gB):Fc Tryz.prog 358 [aF (ak M),.raw (.int .u64 (d:Int))] (.bj [aF (ak (M/d)),.raw (.int .u64 ((M%d:Nat):Int))]):=by
 have h:=ak_ (eN M) hd;rw[e5]at h;rw[←h.1,←h.2];by_cases e:(ak M).length=0
 ·have e:=List.eq_nil_of_length_eq_zero e;rw[e];exact alh d
 ·exact alj _ d e hs (eN M) hd JA
end Go.T
namespace Go.T
open Go
theorem HJ{M N:Nat}:iA (ak M) (ak N)<0↔M<N:=by
 have h:=(DE (eN M) (eN N) (u2 M) (u2 N)).1;rw[e5,e5]at h;exact h
theorem ahe{N:Nat}(h:(ak N).length=1):ak N=[N]∧0<N∧N<gB:=by
 have h0:N≠0:=by rintro rfl;rw[ng]at h;simp at h
 have h1:=u4 N;rw[h,Nat.pow_one]at h1;refine⟨?_,by omega,h1⟩;rw[u5 h0,Nat.mod_eq_of_lt h1,Nat.div_eq_of_lt h1,ng]
theorem Z9{r:Nat}(h:r<gB):bm [r]=ak r:=by
 rw[q0 (fun x hx=>by simp at hx;subst hx;exact h)];simp[an]
open Go.Proofs Go.Proofs.Tryz
set_option maxRecDepth 20000
theorem aaI(M N:Nat)(wn:(ak M).length≤10000)(wo:(ak N).length≤10000)(h:M<N):Fc Tryz.prog 340 [aF (ak M),aF (ak N)] (.bj [aF (ak (M/N)),aF (ak (M%N))]):=by
 refine Fc.mk' [4,5] func340 rfl ntmps340 rfl rfl rfl (fun t w=>results_tmp2 results340 t _ w) ?_;refine go [] ?_;refine oP (ai call240 rfl (x4 _ _ zO zO)) ?_;refine bk (by simpa using HJ.2 h) ?_;exact fu rfl rfl (by exact(Sub.nil _ false).trans (Sub.snap (by rw[Nat.div_eq_of_lt h,ng];rfl))) (Sub.snap (by rw[Nat.mod_eq_of_lt h]))
theorem aaP(M N:Nat)(wn:(ak M).length≤10000)(wo:(ak N).length≤10000)(h:¬M<N)(h1:(ak N).length=1):Fc Tryz.prog 340 [aF (ak M),aF (ak N)] (.bj [aF (ak (M/N)),aF (ak (M%N))]):=by
 refine Fc.mk' [4,5] func340 rfl ntmps340 rfl rfl rfl (fun t w=>results_tmp2 results340 t _ w) ?_;have ow:=ahe h1;refine go [] ?_;refine oP (ai call240 rfl (x4 _ _ zO zO)) ?_;refine a_ (by simpa using fun hc=>h (HJ.1 hc)) ?_;refine bk (by simp[bb,h1]) ?_;refine ix zO (s7 (l:=ak N) (k:=0) (b:=N) (r:=[]) (by rw[ow.1];rfl) (by rfl)) ?_;refine oP (ai call358 rfl (Wg _ _ zO zO zO)) ?_;refine oP (bK (n:=1) (rows:=bb [M%N]) underlying244 sizeOf184 rfl rfl rfl zeroValue184 rfl rfl rfl rfl rfl rfl rfl) ?_;refine oP (ai call284 rfl (q7 [M%N]).sub) ?_;exact fu rfl rfl (Sub.refl _) (Sub.snap (by rw[Z9 (Nat.lt_trans (Nat.mod_lt _ ow.2.1) ow.2.2)]))
end Go.T
namespace Go.T
open Go
def dS(N:Nat):Nat:=gB/(nth (ak N) ((ak N).length-1)+1)
def dK(N:Nat):Nat:=(ak (N*dS N)).length
def dL(M N:Nat):Nat:=(ak (M*dS N)).length
theorem AI(N:Nat):0<dS N:=by
 have h:=dZ (eN N) ((ak N).length-1);exact Nat.div_pos h zO
theorem Od{N:Nat}(h:(ak N).length≠0):dS N<gB:=by
 obtain⟨k,hk⟩:∃k,(ak N).length=k+1:=⟨(ak N).length-1,by omega⟩;have h1:=Th hk;unfold dS;rw[show(ak N).length-1=k by omega];exact Nat.div_lt_self dv zO
theorem KQ{v n:Nat}(h:v<gB^n):(ak v).length≤n:=by
 rcases Nat.lt_or_ge n (ak v).length with g|g
 ·exfalso;have h1:=Fw (v:=v) zO;have h2:gB^n≤gB^((ak v).length-1):=Nat.pow_le_pow_right dv zO;omega
 ·exact g
theorem aaa{M N:Nat}(h:(ak N).length≠0):dL M N≤(ak M).length+1:=by
 refine KQ ?_;have h1:=u4 M;have h2:=Od h;rw[Nat.pow_succ];exact Nat.mul_lt_mul_of_lt_of_le h1 zO dv
theorem MI{N:Nat}(h:2≤(ak N).length):gB≤N:=by
 have h1:=Fw (v:=N) zO;have h2:gB^1≤gB^((ak N).length-1):=Nat.pow_le_pow_right dv zO;rw[Nat.pow_one]at h2;omega
theorem Oc{N:Nat}(h:2≤(ak N).length):gB≤N*dS N:=Nat.le_trans (MI h) (Nat.le_mul_of_pos_right _ (AI N))
theorem HQ{N:Nat}(h:2≤(ak N).length):2≤dK N:=Tl (Oc h)
theorem Z'{M N:Nat}(h:¬M<N):dK N≤dL M N:=oG (Nat.mul_le_mul_right _ zO)
theorem Kw{l:List Nat}(h:l.length≠0):l.drop (l.length-1)=nth l (l.length-1)::[]:=by
 rw[v7 zO,List.drop_of_length_le zO]
theorem aab{M N:Nat}(h:¬M<N)(h2:2≤(ak N).length):DO (M*dS N) (N*dS N) (ak (M*dS N)++[0,0]) (List.replicate (dL M N+2-dK N) 0) (dL M N+2-dK N) (dK N):=
 XE (Oc h2) (Nat.mul_le_mul_right _ zO)
theorem KS(s:Nat):an [s]=s:=by simp[an]
theorem ahd{v:Nat}(h:v≠0):ak v≠[]:=by rw[u5 h];simp
open Go.Proofs Go.Proofs.Tryz
set_option maxRecDepth 20000
theorem dF.sub{P:Program}{f:FuncId}{ds eP:List D}{pre:ae}{r:D}{post:ae}(h:dF P f eP pre r post)(hs:iP ds eP):dF P f ds pre r post:=
 ⟨fun w O ρ vals aj hg hv=>h.out w O ρ vals aj hg (hs.out w _ ρ vals hv)⟩
theorem al1(M s:Nat)(hL:(ak M).length≤10000)(hs:0<s)(wL:s<gB)(hM:M≠0):dF Tryz.prog 338 [aF (ak M),.snap 1 true (bb [s])] [] (.gs 7200 (ak (M*s)).length) [(7200,.arr 1 (bb (ak (M*s))))]:=by
 have h:=al9 (ak M) [s] zS zO zS (eN M) (fun x hx=>by simp at hx;subst hx;exact wL) (by rw[e5,KS];exact ahd (Nat.mul_ne_zero hM zO));rw[e5,KS]at h;exact h.sub (.r (.cons (Sub.qQ _ _ _) .nil))
theorem al2(M s:Nat)(hL:(ak M).length≤10000)(wL:s<gB):Fc Tryz.prog 338 [aF (ak M),.snap 1 true (bb [s])] (aF (ak (M*s))):=by
 have h:=WD (ak M) [s] zS zO zS (eN M) (fun x hx=>by simp at hx;subst hx;exact wL);rw[e5,KS]at h;exact h.sub
end Go.T
namespace Go.T
open Go
variable{a b:List Nat} {i k g:Nat}
theorem XH(ha:aR a)(hb:aR b)(hl:i+k<a.length)(hz:∀j,i+k<j→nth a j=0)(hk:b.length=k)(h2:2≤k)(iE:0<nth b (k-1)):
  GS a b i k (min (o7 a i k/nth b (k-1)) (gB-1)):=by
 obtain⟨n,rfl⟩:∃n,k=n+2:=⟨k-2,by omega⟩;exact XG ha hb hl hz hk iE
theorem MX(ha:aR a)(hb:aR b)(hl:i+k<a.length)(hz:∀j,i+k<j→nth a j=0)(hk:b.length=k)(h2:2≤k)(h:GS a b i k g)
  (ht:(o7 a i k-g*nth b (k-1))*gB+nth a (i+k-2)<g*nth b (k-2)):1≤g∧GS a b i k (g-1):=by
 obtain⟨n,rfl⟩:∃n,k=n+2:=⟨k-2,by omega⟩;exact XI ha hb hl hz hk h ht
theorem MY(ha:aR a)(hb:aR b)(hl:i+k<a.length)(hz:∀j,i+k<j→nth a j=0)(hk:b.length=k)(h2:2≤k)(iE:0<nth b (k-1))(h:GS a b i k g)
  (ht:gB≤o7 a i k-g*nth b (k-1)∨g*nth b (k-2)≤(o7 a i k-g*nth b (k-1))*gB+nth a (i+k-2)):(g-1)*an b*gB^i≤an a:=by
 obtain⟨n,rfl⟩:∃n,k=n+2:=⟨k-2,by omega⟩;exact XJ ha hb hl hz hk iE h ht
theorem Z_{N:Nat}(h:2≤(ak N).length):0<nth (ak (N*dS N)) (dK N-1):=by
 have h2:=HQ h;exact Th (k:=dK N-1) (by show dK N=_;omega)
theorem XR{A bv:Nat}{a0 a1 out b:List Nat}{i k g c:Nat}(h:DO A bv a0 out (i+1) k)(hb:aR b)(hv:an b=bv)(hk:b.length=k)
  (hm:MS a0 a1 g c i k b)(hc:nth a1 (i+k)<c):1≤g:=by
 have hz:=GV h hb hk hv;obtain⟨o1,o2,o3,o4,o5,o6⟩:=h;obtain⟨m1,m2,m3,m4,m5⟩:=hm;have s1:=Mx (l:=a1) (n:=i+k) (fun j hj=>by rw[m5 j zO];exact hz j hj);have l1:=C4 m1 (i+k);rw[hk]at m4;have EK:(nth a1 (i+k)+1)*gB^(i+k)≤c*gB^(i+k):=Nat.mul_le_mul_right _ hc;rw[Nat.add_mul,Nat.one_mul]at EK;rcases Nat.eq_zero_or_pos g with e|e
 ·subst e;rw[Nat.zero_mul,Nat.zero_mul]at m4;omega
 ·exact e
theorem Ha(t:Nat):t%gB<gB:=Nat.mod_lt _ dv
theorem ahy(t k:Nat):min (t:Int) (k:Int)=((min t k:Nat):Int):=by omega
theorem ahz(t:Nat):min (t:Int) 999999999=((min t (gB-1):Nat):Int):=ahy t 999999999
end Go.T
namespace Go.T
open Go Go.Proofs Go.Proofs.Tryz
set_option maxRecDepth 20000
theorem zo{x:Nat}(h:x<gB):x*gB<18446744073709551616∧∀y,y<gB→x*gB+y<18446744073709551616:=by
 have h1:x*gB≤999999999*gB:=Nat.mul_le_mul_right _ (by unfold gB at*;omega);unfold gB at*;exact⟨by omega,fun y hy=>by omega⟩
theorem TM{x y:Nat}(h:x<gB)(k:y<gB):x*y<18446744073709551616:=Nat.lt_of_le_of_lt (Nat.mul_le_mul_left _ (Nat.le_of_lt k)) (zo h).1
theorem WJ{a:List Nat}(h:aR a)(i k:Nat):o7 a i k<18446744073709551616:=(zo (dZ h _)).2 _ (dZ h _)
structure aaK(M N:Nat)where
 a:List Nat
 out:List Nat
 i:Nat
 hd:DO (M*dS N) (N*dS N) a out i (dK N)
 EG:a.length=dL M N+2
 uJ:i≤out.length
structure aaL(M N:Nat)(a out:List Nat)(i:Nat)where
 g:Nat
 jH:GS a (ak (N*dS N)) i (dK N) g
structure aaM(M N:Nat)(a out:List Nat)(i g:Nat)where
 au:List Nat
 aC:List Nat
 a1:List Nat
 c:Nat
 aU:(ak (N*dS N))=au++aC
 hm:MS a a1 g c i (dK N) au
 j2:(g-1)*an (ak (N*dS N))*gB^i≤an a
structure aaN(M N:Nat)(a1 out:List Nat)(i g c:Nat)where
 au:List Nat
 aC:List Nat
 a2:List Nat
 d:Nat
 aU:(ak (N*dS N))=au++aC
 hp:AB a1 a2 d i (dK N) au
theorem aaJ(M N:Nat)(wn:(ak M).length≤10000)(wo:(ak N).length≤10000)(h:¬M<N)(h2:2≤(ak N).length):Fc Tryz.prog 340 [aF (ak M),aF (ak N)] (.bj [aF (ak (M/N)),aF (ak (M%N))]):=by
 refine Fc.mk' [4,5] func340 rfl ntmps340 rfl rfl rfl (fun t w=>results_tmp2 results340 t _ w) ?_;have wL:=Od (N:=N) zO;have hM0:M≠0:=by have:=MI h2;unfold gB at this;omega
 have hdL:=aaa (M:=M) (N:=N) zO;have hdK:=Z' h;have ara:=HQ h2;have eL:(ak (M*dS N)).length=dL M N:=rfl;have eK:(ak (N*dS N)).length=dK N:=rfl;have iE:=Z_ h2;refine J.seq (J.af [.p,.p] ?_);refine .ag rfl rfl<|.ag rfl rfl<|.nil ?_;refine J.seq (J.seq (J.af [.p,.p,.p,.p] ?_));refine .mv rfl rfl<|.mv rfl rfl<|.P rfl (ai call240 rfl (x4 _ _ zO zO))<|.P rfl (bQ rfl rfl)<|.nil ?_;refine J.eF rfl (by simpa using fun hc=>h (HJ.1 hc)) ?_;refine J.skip ?_;refine J.seq (J.seq (J.af [.p,.p,.p] ?_));refine .mv rfl rfl<|.P rfl (cY underlying244 rfl)<|.P rfl (jQ rfl rfl)<|.nil ?_;refine J.eF rfl (by simp[bb];omega) ?_;refine J.skip ?_;refine J.seq (J.af [.p,.p,.p,.p,.p,.p,.p,.p,.p] ?_);refine .mv rfl rfl<|.mv rfl rfl<|.P rfl (cY underlying244 rfl)<|.P rfl (dw rfl rfl (en zO zQ))<|.P rfl (gm underlying244 sizeOf184 rfl rfl (by simp[bb];omega) (s7 (l:=ak N) (k:=(ak N).length-1) (b:=nth (ak N) ((ak N).length-1)) (r:=[]) (Kw zO) (by simp[bb];omega)))<|.P rfl (bP isAgg184 rfl)<|.P rfl (bU rfl rfl (addN (b:=1) (by have:=dZ (eN N) ((ak N).length-1);unfold gB at*;omega)))<|.P rfl (lO rfl rfl zO (L8 (a:=gB) zD))<|.ag rfl rfl<|.nil ?_;refine J.seq (J.af [.p,.p,.p,.w,.p,.w,.p,.p,.p,.p,.p,.p] ?_)
 refine .mv rfl rfl<|.mv rfl rfl<|.P rfl (bK (n:=1) (rows:=bb [dS N]) underlying244 sizeOf184 rfl rfl rfl zeroValue184 rfl rfl rfl rfl rfl rfl rfl)<|.W rfl (hJ call338 rfl (al1 M (dS N) wn (AI N) wL hM0) .nil rfl rfl)<|.P rfl (bK (n:=2) (rows:=bb [0,0]) underlying244 sizeOf184 rfl rfl rfl zeroValue184 rfl rfl rfl rfl rfl rfl rfl)<|.W rfl (fq 0 underlying244 underlying244 sizeOf184 typeInfo184 zeroValue184 rfl (bt:=8) rfl rfl rfl rfl (by simp[bb]) rfl rfl zQ)<|.mv rfl rfl<|.mv rfl rfl<|.P rfl (bK (n:=1) (rows:=bb [dS N]) underlying244 sizeOf184 rfl rfl rfl zeroValue184 rfl rfl rfl rfl rfl rfl rfl)<|.P rfl (ai call338 rfl (al2 N (dS N) wo wL))<|.ag rfl rfl<|.ag rfl rfl<|.nil ?_;refine J.seq (J.af [.p,.p,.p] ?_);refine .mv rfl rfl<|.P rfl (cY underlying244 rfl)<|.ag rfl rfl<|.nil ?_;refine J.seq (J.af [.p,.p,.p,.p,.w,.p] ?_);refine .mv rfl rfl<|.P rfl (tM underlying244 rfl)<|.mv rfl rfl<|.P rfl (dw rfl rfl (en zQ zQ))<|.W rfl (vj (bt:=8) 1 (dL M N+2-dK N) underlying244 sizeOf184 typeInfo184 zeroValue184 rfl rfl rfl rfl rfl (by simp[bb];omega) (by simp[bb];omega) (Nat.le_refl (dL M N+2-dK N)) zO zO zO rfl)<|.ag rfl rfl<|.nil ?_;refine J.seq (J.seq (J.af [.p,.p,.p,.p,.p,.p] ?_));refine .mv rfl rfl<|.P rfl (tM underlying244 rfl)<|.mv rfl rfl<|.P rfl (dw rfl rfl (en zQ zQ))<|.P rfl (dw rfl rfl (en zQ zQ))<|.ag rfl rfl<|.nil ?_;refine J.block ?_;refine J.loop (ι:=aaK M N) (fun sx=>[(9,.gs 0 (dL M N+2)),(10,aF (ak (N*dS N))),(11,.i (dK N)),(12,.gs 1 (dL M N+2-dK N)),(8,.raw (.int .u64 ((dS N):Int))),(13,.i ((sx.i:Int)-1))]) (fun sx=>[(1,.arr 1 (bb sx.out)),(0,.arr 1 (bb sx.a))]) (fun sx=>sx.i) ⟨_,_,_,aab h h2,by simp[dL],by simp⟩ ?_ ?_
 ·exact Le.mk rfl (.cons rfl (Sub.refl _) rfl (.s rfl rfl (.cons rfl (Sub.int zQ) rfl (.cons rfl (Sub.refl _) rfl (.s rfl rfl (.cons rfl (Sub.int zQ) rfl .nil)))))) (.arr rfl (by simp[bb]) (.arr rfl (by simp[bb]) .nil))
 ·rintro⟨a,out,i,hd,EG,uJ⟩;show J _ _ _ _ [(9,.gs 0 (dL M N+2)),(10,aF (ak (N*dS N))),(11,.i (dK N)),(12,.gs 1 (dL M N+2-dK N)),(8,.raw (.int .u64 ((dS N):Int))),(13,.i ((i:Int)-1))] [(1,.arr 1 (bb out)),(0,.arr 1 (bb a))];rcases i with _|i
  ·have Rg:=hd.2.2.1;have Qs:0<N:=by have:=MI h2;unfold gB at this;omega
   have ER:=XC hd (AI N) Qs (u4 _);have f_:(ak (M%N*dS N)).length≤dK N:=oG (Nat.mul_le_mul_right _ (Nat.le_of_lt (Nat.mod_lt _ Qs)));refine J.seq (J.seq (J.af [.p,.p] ?_));refine .mv rfl rfl<|.P rfl (oQ rfl rfl)<|.nil ?_;refine J.eF rfl zS ?_;refine J.exit (dO (dG ?_));refine J.bE (Le.freeze 9 0 rfl rfl (by simp[bb];omega)) ?_;refine J.seq (J.af [.p,.p,.p,.p,.p,.p,.p,.p,.p,.p,.p] ?_);refine .mv rfl rfl<|.mv rfl rfl<|.P rfl (oT underlying244 sizeOf184 rfl (h:=dK N) (r:=bb (a.take (dK N))) (.inl ⟨rfl,rfl⟩) (.inr ⟨_,_,rfl,rfl⟩) zO (by simp[bb];omega) (by simp[bb]))<|.P rfl (ai call284 rfl (q7 _))<|.mv rfl rfl<|.P rfl (ai call358 (by rw[←ER.2];rfl) (Wg (M%N*dS N) (dS N) zO (AI N) wL))<|.mv rfl rfl<|.P rfl (eC rfl rfl)<|.P rfl (eC rfl rfl)<|.ag rfl rfl<|.ag rfl rfl<|.nil ?_;refine J.bE (Le.freeze 12 1 rfl rfl (by simp[bb];omega)) ?_;refine J.seq (J.af [.p,.p,.p,.p,.p] ?_);refine .mv rfl rfl<|.P rfl (ai call284 rfl (q7 _))<|.mv rfl rfl<|.ag rfl rfl<|.ag rfl rfl<|.nil ?_;refine J.ret (?_);exact r9 rfl rfl (Sub.snap (by rw[ER.1])) (Sub.snap (by rw[Nat.mul_div_cancel _ (AI N)]))
  ·have wF:=HQ h2;have hb:=eN (N*dS N);have hz:=GV hd hb rfl (e5 _);have Rg:=hd.2.2.1;have pz:=hd.1;have hl:i+dK N<a.length:=by omega
   have QX:=XH pz hb hl (fun j hj=>hz j hj) rfl wF iE;refine J.seq (J.seq (J.af [.p,.p] ?_));refine .mv rfl rfl<|.P rfl (oQ rfl rfl)<|.nil ?_;refine J.gu rfl zS ?_;refine J.skip ?_;refine J.seq ?_;refine J.block ?_;refine J.seq (J.oU [.p,.p,.p,.p,.p,.r,.p,.p,.p,.p,.p,.p,.p,.r,.p,.p] lh zK ?_);refine .mv rfl rfl<|.mv rfl rfl<|.mv rfl rfl<|.P rfl (bU rfl rfl (aw zO))<|.P rfl (bS (off:=(i+dK N)*1) underlying244 sizeOf184 rfl rfl zO zO zO)<|.R rfl (eX (r:=_) (i+dK N) 0 isAgg184 rfl rfl rfl (gC (by simp at*;omega)) rfl)<|.P rfl (tO rfl rfl (mulN (c:=gB) zD (zo (dZ pz (i+dK N))).1))<|.mv rfl rfl<|.mv rfl rfl<|.mv rfl rfl<|.P rfl (bU rfl rfl (aw zO))<|.P rfl (dw rfl rfl (aw zO))<|.P rfl (bS (off:=(i+dK N-1)*1) underlying244 sizeOf184 rfl rfl zO zO zO)<|.R rfl (eX (r:=_) (i+dK N-1) 0 isAgg184 rfl rfl rfl (gC (by simp at*;omega)) rfl)<|.P rfl (bU rfl rfl (addN ((zo (dZ pz (i+dK N))).2 _ (dZ pz (i+dK N-1)))))<|.ag rfl rfl<|.nil ?_;refine J.seq (J.af [.p,.p,.p,.p,.p,.p,.p,.p,.p] ?_);refine .mv rfl rfl<|.mv rfl rfl<|.mv rfl rfl<|.P rfl (dw rfl rfl (aw zO))<|.P rfl (gm underlying244 sizeOf184 rfl rfl zO (s7 (l:=(ak (N*dS N))) (k:=dK N-1) (b:=nth (ak (N*dS N)) (dK N-1)) (r:=[]) (Kw (by show dK N≠0;omega)) zO))<|.P rfl (bP isAgg184 rfl)<|.P rfl (lO rfl rfl zO (L8 (WJ pz i (dK N))))<|.P rfl (z1 rfl rfl rfl)<|.ag rfl rfl<|.nil ?_;refine J.seq ?_;refine J.block ?_
   refine J.loop (ι:=aaL M N a out i) (fun sx=>[(9,.gs 0 (dL M N+2)),(10,aF (ak (N*dS N))),(11,.i (dK N)),(12,.gs 1 (dL M N+2-dK N)),(8,.raw (.int .u64 ((dS N):Int))),(13,.i (i:Int)),(14,.raw (.int .u64 ((o7 a i (dK N)):Int))),(15,.raw (.int .u64 (sx.g:Int)))]) (fun sx=>[(1,.arr 1 (bb out)),(0,.arr 1 (bb a))]) (fun sx=>sx.g) ⟨_,QX⟩ ?_ ?_
   ·exact Le.mk rfl (.cons rfl (Sub.gs zS) rfl (.s rfl rfl (.s rfl rfl (.cons rfl (Sub.gs zS) rfl (.s rfl rfl (.cons rfl (Sub.int zS) rfl (.s rfl rfl (.cons rfl (Sub.int (by exact ahz _)) rfl .nil)))))))) (.arr rfl (by rfl) (.arr rfl (by rfl) .nil))
   ·rintro⟨g,jH⟩;show J _ _ _ _ [(9,.gs 0 (dL M N+2)),(10,aF (ak (N*dS N))),(11,.i (dK N)),(12,.gs 1 (dL M N+2-dK N)),(8,.raw (.int .u64 ((dS N):Int))),(13,.i (i:Int)),(14,.raw (.int .u64 ((o7 a i (dK N)):Int))),(15,.raw (.int .u64 (g:Int)))] [(1,.arr 1 (bb out)),(0,.arr 1 (bb a))];refine J.block ?_;refine J.seq (J.af [.p,.p,.p,.p,.p,.p,.p,.p,.p,.p] ?_);refine .mv rfl rfl<|.mv rfl rfl<|.mv rfl rfl<|.mv rfl rfl<|.P rfl (dw rfl rfl (aw zO))<|.P rfl (gm underlying244 sizeOf184 rfl rfl zO (s7 (l:=(ak (N*dS N))) (k:=dK N-1) (b:=nth (ak (N*dS N)) (dK N-1)) (r:=[]) (Kw (by show dK N≠0;omega)) zO))<|.P rfl (bP isAgg184 rfl)<|.P rfl (tO rfl rfl (mulN rfl (TM jH.1 (dZ hb (dK N-1)))))<|.P rfl (dw rfl rfl (qO jH.2.1 (WJ pz i (dK N))))<|.ag rfl rfl<|.nil ?_;refine J.seq (J.seq (J.oU [.p,.p,.p,.p,.p,.p,.p,.p,.p,.p,.p,.p,.p,.p,.p,.p,.p,.p,.r,.p,.p,.p] lh zK ?_))
    refine .mv rfl rfl<|.P rfl (oQ rfl rfl)<|.mv rfl rfl<|.gF rfl (.inl rfl) rfl rfl rfl (fun hg=>pk (fun _=>aT rfl _))<|.gF rfl (.inl rfl) rfl rfl rfl (fun hg=>pk (fun _=>aT rfl _))<|.gF rfl (.inl rfl) rfl rfl rfl (fun hg=>pk (fun _=>aT rfl _))<|.gF rfl (.inl rfl) rfl rfl rfl (fun hg=>pk (fun _=>dw (bh rfl (nt hg)) rfl (aw zO) _))<|.gF rfl (.inl rfl) rfl rfl rfl (fun hg=>pk (fun _=>gm underlying244 sizeOf184 (bh rfl (nt hg)) (bh rfl (nt hg)) zO (s7 (l:=(ak (N*dS N))) (k:=dK N-2) (b:=nth (ak (N*dS N)) (dK N-2)) (r:=_) (v7 (by show dK N-2<dK N;omega)) zO) _))<|.gF rfl (.inl rfl) rfl rfl rfl (fun hg=>pk (fun _=>bP isAgg184 (bh rfl (nt hg)) _))<|.gF rfl (.inl rfl) rfl rfl rfl (fun hg=>pk (fun _=>tO (bh rfl (nt hg)) (bh rfl (nt hg)) (mulN rfl (TM jH.1 (dZ hb (dK N-2)))) _))<|.gF rfl (.inl rfl) rfl rfl rfl (fun hg=>pk (fun _=>aT rfl _))<|.gF rfl (.inl rfl) rfl rfl rfl (fun hg=>pk (fun _=>tO (bh rfl (nt hg)) rfl (mulN (c:=gB) zD (zo (by have h9:=of_decide_eq_false hg;unfold gB at*;omega)).1) _))<|.gF rfl (.inl rfl) rfl rfl rfl (fun hg=>pk (fun _=>aT rfl _))<|.gF rfl (.inl rfl) rfl rfl rfl (fun hg=>pk (fun _=>aT rfl _))<|.gF rfl (.inl rfl) rfl rfl rfl (fun hg=>pk (fun _=>aT rfl _))<|.gF rfl (.inl rfl) rfl rfl rfl (fun hg=>pk (fun _=>bU (bh rfl (nt hg)) (bh rfl (nt hg)) (aw zO) _)) ?_
    refine .gF rfl (.inl rfl) rfl rfl rfl (fun hg=>pk (fun _=>dw (bh rfl (nt hg)) rfl (aw zO) _))<|.gF rfl (.inl rfl) rfl rfl rfl (fun hg=>pk (fun _=>bS (off:=(i+dK N-2)*1) underlying244 sizeOf184 (bh rfl (nt hg)) (bh rfl (nt hg)) zO zO zO _))<|.gF rfl (.inr rfl) rfl rfl rfl (fun hg=>rk (eX (r:=_) (i+dK N-2) 0 isAgg184 (bh rfl (nt hg)) rfl rfl (gC (by simp at*;omega)) rfl))<|.gF rfl (.inl rfl) rfl rfl rfl (fun hg=>pk (fun _=>bU (bh rfl (nt hg)) (bh rfl (nt hg)) (addN ((zo (by have h9:=of_decide_eq_false hg;unfold gB at*;omega)).2 _ (dZ pz (i+dK N-2)))) _))<|.gF rfl (.inl rfl) rfl rfl rfl (fun hg=>pk (fun _=>CE (bh rfl (nt hg)) (bh rfl (nt hg)) _))<|.P rfl (nw rfl rfl)<|.nil ?_;refine J.cond rfl (fun h1=>?_) (fun h1=>?_)
    ·have bJ:=h1;try simp only[bs]at bJ
     refine J.exit (YG rfl (dO (dG ?_)));refine J.seq (J.af [.p] ?_);refine .ag rfl rfl<|.nil ?_;refine J.seq (J.seq (J.af [.p,.p,.p] ?_));refine .mv rfl rfl<|.P rfl (cY underlying244 rfl)<|.mv rfl rfl<|.nil ?_;refine J.block ?_;refine J.loop (ι:=aaM M N a out i g) (fun sx=>[(9,.gs 0 (dL M N+2)),(10,aF (ak (N*dS N))),(11,.i (dK N)),(12,.gs 1 (dL M N+2-dK N)),(8,.raw (.int .u64 ((dS N):Int))),(13,.i (i:Int)),(15,.raw (.int .u64 (g:Int))),(17,.raw (.int .u64 (sx.c:Int))),(134,aF (ak (N*dS N))),(135,.i (dK N)),(136,.i sx.au.length)]) (fun sx=>[(1,.arr 1 (bb out)),(0,.arr 1 (bb sx.a1))]) (fun sx=>sx.aC.length) ⟨[],_,a,0,rfl,XP pz g i (dK N),by rcases bJ with h9|h9;exact MY pz hb hl (fun j hj=>hz j hj) rfl wF iE jH (.inl (by unfold gB;omega));exact MY pz hb hl (fun j hj=>hz j hj) rfl wF iE jH (.inr zO)⟩ ?_ ?_
     ·exact Le.mk rfl (.cons rfl (Sub.refl _) rfl (.s rfl rfl (.s rfl rfl (.cons rfl (Sub.refl _) rfl (.s rfl rfl (.s rfl rfl (.s rfl rfl (.s rfl rfl (.s rfl rfl (.cons rfl (Sub.int zQ) rfl (.s rfl rfl .nil))))))))))) (.arr rfl (by rfl) (.arr rfl (by rfl) .nil))
     ·rintro⟨au,aC,a1,c,aU,hm,j2⟩;show J _ _ _ _ [(9,.gs 0 (dL M N+2)),(10,aF (ak (N*dS N))),(11,.i (dK N)),(12,.gs 1 (dL M N+2-dK N)),(8,.raw (.int .u64 ((dS N):Int))),(13,.i (i:Int)),(15,.raw (.int .u64 (g:Int))),(17,.raw (.int .u64 (c:Int))),(134,aF (ak (N*dS N))),(135,.i (dK N)),(136,.i au.length)] [(1,.arr 1 (bb out)),(0,.arr 1 (bb a1))];have bN:=congrArg List.length aU;simp only[List.length_append]at bN;rcases aC with _|⟨x2,aC⟩
      ·obtain rfl:au=(ak (N*dS N)):=by simpa using aU.symm
       have Js:=hm.2.2.1;refine J.seq (J.af [.p] ?_);refine .P rfl (bQ rfl rfl)<|.nil ?_;refine J.seq ?_;refine J.eF rfl zQ ?_;refine J.exit (dO (dG ?_));refine J.seq (J.seq (J.af [.p,.p,.p,.p,.p,.r,.p,.p] ?_));refine .mv rfl rfl<|.mv rfl rfl<|.mv rfl rfl<|.P rfl (bU rfl rfl (aw zO))<|.P rfl (bS (off:=(i+dK N)*1) underlying244 sizeOf184 rfl rfl zO zO zO)<|.R rfl (eX (r:=_) (i+dK N) 0 isAgg184 rfl rfl rfl (gC (by simp at*;omega)) rfl)<|.mv rfl rfl<|.P rfl (oQ rfl rfl)<|.nil ?_;refine J.cond rfl (fun h2=>?_) (fun h2=>?_)
       ·have de:=h2;try simp only[bs]at de
        refine J.af [.p,.p,.p,.p,.p,.r,.p,.p,.p,.w] ?_;refine .mv rfl rfl<|.mv rfl rfl<|.mv rfl rfl<|.P rfl (bU rfl rfl (aw zO))<|.P rfl (bS (off:=(i+dK N)*1) underlying244 sizeOf184 rfl rfl zO zO zO)<|.R rfl (eX (r:=_) (i+dK N) 0 isAgg184 rfl rfl rfl (gC (by simp at*;omega)) rfl)<|.mv rfl rfl<|.P rfl (dw rfl rfl (qO zO (by have:=dZ hm.1 (i+dK N);unfold gB at*;omega)))<|.P rfl (bS (off:=(i+dK N)*1) underlying244 sizeOf184 rfl rfl zO zO zO)<|.W rfl (gH (r:=_) (i+dK N) 0 sizeOf184 rfl rfl rfl rfl rfl rfl (gC (by simp at*;omega)) zS)<|.nil ?_;refine J.af [.p,.p,.p,.p,.w] ?_;refine .mv rfl rfl<|.mv rfl rfl<|.mv rfl rfl<|.P rfl (bS (off:=(i)*1) underlying244 sizeOf184 rfl rfl zO zO zO)<|.W rfl (gH (r:=_) (i) 0 sizeOf184 rfl rfl rfl rfl rfl rfl (gC (by simp at*;omega)) zS)<|.nil ?_;refine J.nil (cn ?_);refine J.af [.p,.p,.p] ?_;refine .mv rfl rfl<|.P rfl (dw rfl rfl (aw zO))<|.ag rfl rfl<|.nil ?_;refine J.nil (cZ ?_);exact⟨⟨a1.set (i+dK N) (nth a1 (i+dK N)-c),out.set i g,i,XD hd (e5 _) (by simpa[e5]using jH.2.2) jH.1 hm rfl zO zO zO,by simp;omega,by simp;omega⟩,by simp,Le.mk rfl (.cons rfl (Sub.refl _) rfl (.s rfl rfl (.s rfl rfl (.cons rfl (Sub.refl _) rfl (.s rfl rfl (.s rfl rfl .nil)))))) (.arr rfl (by exact sG) (.arr rfl (by exact sG) .nil))⟩
       ·have de:=h2;try simp only[bs]at de
        have jr:=XR hd hb (e5 _) rfl hm zO;refine J.seq (J.af [.p,.p,.p] ?_);refine .mv rfl rfl<|.P rfl (dw rfl rfl (qO (b:=1) zO (by have:=jH.1;unfold gB at*;omega)))<|.ag rfl rfl<|.nil ?_;refine J.seq (J.af [.p] ?_);refine .ag rfl rfl<|.nil ?_;refine J.seq (J.seq (J.af [.p,.p,.p] ?_));refine .mv rfl rfl<|.P rfl (cY underlying244 rfl)<|.mv rfl rfl<|.nil ?_;refine J.block ?_;refine J.loop (ι:=aaN M N a1 out i g c) (fun sx=>[(9,.gs 0 (dL M N+2)),(10,aF (ak (N*dS N))),(11,.i (dK N)),(12,.gs 1 (dL M N+2-dK N)),(8,.raw (.int .u64 ((dS N):Int))),(13,.i (i:Int)),(15,.raw (.int .u64 ((g-1:Nat):Int))),(17,.raw (.int .u64 (c:Int))),(20,.raw (.int .u64 (sx.d:Int))),(198,aF (ak (N*dS N))),(199,.i (dK N)),(200,.i sx.au.length)]) (fun sx=>[(1,.arr 1 (bb out)),(0,.arr 1 (bb sx.a2))]) (fun sx=>sx.aC.length) ⟨[],_,a1,0,rfl,Xx hm.1 i (dK N)⟩ ?_ ?_
        ·exact Le.mk rfl (.cons rfl (Sub.refl _) rfl (.s rfl rfl (.s rfl rfl (.cons rfl (Sub.refl _) rfl (.s rfl rfl (.s rfl rfl (.s rfl rfl (.s rfl rfl (.s rfl rfl (.s rfl rfl (.cons rfl (Sub.int zQ) rfl (.s rfl rfl .nil)))))))))))) (.arr rfl (by rfl) (.arr rfl (by rfl) .nil))
        ·rintro⟨au,aC,a2,d,aU,hp⟩;show J _ _ _ _ [(9,.gs 0 (dL M N+2)),(10,aF (ak (N*dS N))),(11,.i (dK N)),(12,.gs 1 (dL M N+2-dK N)),(8,.raw (.int .u64 ((dS N):Int))),(13,.i (i:Int)),(15,.raw (.int .u64 ((g-1:Nat):Int))),(17,.raw (.int .u64 (c:Int))),(20,.raw (.int .u64 (d:Int))),(198,aF (ak (N*dS N))),(199,.i (dK N)),(200,.i au.length)] [(1,.arr 1 (bb out)),(0,.arr 1 (bb a2))];have bN:=congrArg List.length aU;simp only[List.length_append]at bN;rcases aC with _|⟨x2,aC⟩
         ·obtain rfl:au=(ak (N*dS N)):=by simpa using aU.symm
          have Js:=hm.2.2.1;have ad0:=hp.2.2.1;have QH:=XB hd hb (e5 _) rfl (by simpa[e5]using j2) jH.1 hm zO hp zO zO;refine J.seq (J.af [.p] ?_);refine .P rfl (bQ rfl rfl)<|.nil ?_;refine J.seq ?_;refine J.eF rfl zQ ?_;refine J.exit (dO (dG ?_));refine J.af [.p,.p,.p,.p,.p,.p,.p,.p,.p,.r,.p,.p,.p,.p,.p,.w] ?_;refine .mv rfl rfl<|.mv rfl rfl<|.mv rfl rfl<|.P rfl (bU rfl rfl (aw zO))<|.mv rfl rfl<|.mv rfl rfl<|.mv rfl rfl<|.P rfl (bU rfl rfl (aw zO))<|.P rfl (bS (off:=(i+dK N)*1) underlying244 sizeOf184 rfl rfl zO zO zO)<|.R rfl (eX (r:=_) (i+dK N) 0 isAgg184 rfl rfl rfl (gC (by simp at*;omega)) rfl)<|.mv rfl rfl<|.P rfl (bU rfl rfl (addN (by have:=dZ hp.1 (i+dK N);have:=hp.2.1;unfold gB at*;omega)))<|.mv rfl rfl<|.P rfl (dw rfl rfl (qO (by have:=QH.2.1;omega) (by have:=dZ hp.1 (i+dK N);have:=hp.2.1;unfold gB at*;omega)))<|.P rfl (bS (off:=(i+dK N)*1) underlying244 sizeOf184 rfl rfl zO zO zO)<|.W rfl (gH (r:=_) (i+dK N) 0 sizeOf184 rfl rfl rfl rfl rfl rfl (gC (by simp at*;omega)) zS)<|.nil ?_;refine J.af [.p,.p,.p,.p,.w] ?_;refine .mv rfl rfl<|.mv rfl rfl<|.mv rfl rfl<|.P rfl (bS (off:=(i)*1) underlying244 sizeOf184 rfl rfl zO zO zO)<|.W rfl (gH (r:=_) (i) 0 sizeOf184 rfl rfl rfl rfl rfl rfl (gC (by simp at*;omega)) zS)<|.nil ?_;refine J.nil (cn ?_);refine J.af [.p,.p,.p] ?_;refine .mv rfl rfl<|.P rfl (dw rfl rfl (aw zO))<|.ag rfl rfl<|.nil ?_;refine J.nil (cZ ?_)
          exact⟨⟨a2.set (i+dK N) (nth a2 (i+dK N)+d-c),out.set i (g-1),i,QH.2.2,by simp;omega,by simp;omega⟩,by simp,Le.mk rfl (.cons rfl (Sub.refl _) rfl (.s rfl rfl (.s rfl rfl (.cons rfl (Sub.refl _) rfl (.s rfl rfl (.s rfl rfl .nil)))))) (.arr rfl (by exact sG) (.arr rfl (by exact sG) .nil))⟩
         ·simp only[List.length_cons]at bN;have Js:=hm.2.2.1;have ad0:=hp.2.2.1;have rD:=hb x2 (by rw[aU];simp);have rq:(au++x2::aC).length=dK N:=by rw[←aU];rfl
          refine J.seq (J.af [.p] ?_);refine .P rfl (bQ rfl rfl)<|.nil ?_;refine J.seq ?_;refine J.gu rfl zQ ?_;refine J.skip ?_;refine J.seq ?_;refine J.block ?_;refine J.seq (J.af [.p,.p] ?_);refine .mv rfl rfl<|.ag rfl rfl<|.nil ?_;refine J.seq (J.oU [.p,.p,.p,.p,.p,.r,.p,.p,.p,.p,.p,.p,.p,.p,.w] lh zK ?_);refine .mv rfl rfl<|.mv rfl rfl<|.mv rfl rfl<|.P rfl (bU rfl rfl (aw zO))<|.P rfl (bS (off:=(i+au.length)*1) underlying244 sizeOf184 rfl rfl zO zO zO)<|.R rfl (eX (r:=_) (i+au.length) 0 isAgg184 rfl rfl rfl (gC (by simp at*;omega)) rfl)<|.mv rfl rfl<|.mv rfl rfl<|.P rfl (gm underlying244 sizeOf184 rfl rfl zO (aS (fun(n:Nat)=>[D.raw (.int .u64 (n:Int))]) aU rfl))<|.P rfl (bP isAgg184 rfl)<|.mv rfl rfl<|.P rfl (bU rfl rfl (addN (by have:=hp.2.1;unfold gB at*;omega)))<|.P rfl (bU rfl rfl (addN (by have:=dZ hp.1 (i+au.length);have:=hp.2.1;unfold gB at*;omega)))<|.P rfl (bS (off:=(i+au.length)*1) underlying244 sizeOf184 rfl rfl zO zO zO)<|.W rfl (gH (r:=_) (i+au.length) 0 sizeOf184 rfl rfl rfl rfl rfl rfl (gC (by simp at*;omega)) zS)<|.nil ?_;refine J.seq (J.af [.p,.p,.p,.p,.p,.r,.p,.p] ?_);refine .mv rfl rfl<|.mv rfl rfl<|.mv rfl rfl<|.P rfl (bU rfl rfl (aw zO))<|.P rfl (bS (off:=(i+au.length)*1) underlying244 sizeOf184 rfl rfl zO zO zO)<|.R rfl (eX (r:=_) (i+au.length) 0 isAgg184 rfl rfl rfl (gx (gC (by simp at*;omega))) rfl)<|.P rfl (lO rfl rfl zD (vk (by have:=dZ hp.1 (i+au.length);have:=hp.2.1;unfold gB at*;omega)))<|.ag rfl rfl<|.nil ?_;refine J.af [.p,.p,.p,.p,.p,.r,.p,.p,.w] ?_
          refine .mv rfl rfl<|.mv rfl rfl<|.mv rfl rfl<|.P rfl (bU rfl rfl (aw zO))<|.P rfl (bS (off:=(i+au.length)*1) underlying244 sizeOf184 rfl rfl zO zO zO)<|.R rfl (eX (r:=_) (i+au.length) 0 isAgg184 rfl rfl rfl (gx (gC (by simp at*;omega))) rfl)<|.P rfl (oS rfl rfl zD (tR _))<|.P rfl (bS (off:=(i+au.length)*1) underlying244 sizeOf184 rfl rfl zO zO zO)<|.W rfl (gH (r:=_) (i+au.length) 0 sizeOf184 rfl rfl rfl rfl rfl rfl (gx (gC (by simp at*;omega))) zS)<|.nil ?_;refine J.nil (cn ?_);refine J.af [.p,.p] ?_;refine .P rfl (bU rfl rfl (aw zO))<|.mv rfl rfl<|.nil ?_;refine J.nil (cZ ?_);exact⟨⟨au++[x2],aC,a2.set (i+au.length) ((nth a2 (i+au.length)+(x2+d))%gB),(nth a2 (i+au.length)+(x2+d))/gB,by simp[aU],Xy hp rD (by simp at rq;omega) (by simp at rq;have:=hp.2.2.1;have:=hm.2.2.1;omega)⟩,by simp,Le.mk rfl (.cons rfl (Sub.refl _) rfl (.s rfl rfl (.s rfl rfl (.cons rfl (Sub.refl _) rfl (.s rfl rfl (.s rfl rfl (.s rfl rfl (.s rfl rfl (.s rfl rfl (.s rfl rfl (.s rfl rfl (.cons rfl (Sub.int zS) rfl .nil)))))))))))) (.arr rfl (by rfl) (.arr rfl (by simp[bb]) .nil))⟩
      ·simp only[List.length_cons]at bN;have Js:=hm.2.2.1;have rD:=hb x2 (by rw[aU];simp);have rq:(au++x2::aC).length=dK N:=by rw[←aU];rfl
       refine J.seq (J.af [.p] ?_);refine .P rfl (bQ rfl rfl)<|.nil ?_;refine J.seq ?_;refine J.gu rfl zQ ?_;refine J.skip ?_;refine J.seq ?_;refine J.block ?_;refine J.seq (J.af [.p,.p] ?_);refine .mv rfl rfl<|.ag rfl rfl<|.nil ?_;refine J.seq (J.af [.p,.p,.p,.p,.p,.p,.p,.p,.p] ?_);refine .mv rfl rfl<|.mv rfl rfl<|.mv rfl rfl<|.P rfl (gm underlying244 sizeOf184 rfl rfl zO (aS (fun(n:Nat)=>[D.raw (.int .u64 (n:Int))]) aU rfl))<|.P rfl (bP isAgg184 rfl)<|.P rfl (tO rfl rfl (mulN rfl (G2 jH.1 rD hm.2.1).1))<|.mv rfl rfl<|.P rfl (bU rfl rfl (addN (G2 jH.1 rD hm.2.1).2))<|.ag rfl rfl<|.nil ?_;refine J.seq (J.af [.p,.p,.p] ?_);refine .mv rfl rfl<|.P rfl (lO rfl rfl zD (vk (G2 jH.1 rD hm.2.1).2))<|.ag rfl rfl<|.nil ?_;refine J.seq (J.af [.p,.p,.p] ?_);refine .mv rfl rfl<|.P rfl (oS rfl rfl zD (tR _))<|.ag rfl rfl<|.nil ?_;refine J.seq (J.seq (J.af [.p,.p,.p,.p,.p,.r,.p,.p] ?_));refine .mv rfl rfl<|.mv rfl rfl<|.mv rfl rfl<|.P rfl (bU rfl rfl (aw zO))<|.P rfl (bS (off:=(i+au.length)*1) underlying244 sizeOf184 rfl rfl zO zO zO)<|.R rfl (eX (r:=_) (i+au.length) 0 isAgg184 rfl rfl rfl (gC (by simp at*;omega)) rfl)<|.mv rfl rfl<|.P rfl (bQ rfl rfl)<|.nil ?_;refine J.cond rfl (fun h3=>?_) (fun h3=>?_)
       ·have fI:=h3;try simp only[bs]at fI
        refine J.seq (J.af [.p,.p,.p,.p,.p,.r,.p,.p,.w] ?_);refine .mv rfl rfl<|.mv rfl rfl<|.mv rfl rfl<|.P rfl (bU rfl rfl (aw zO))<|.P rfl (bS (off:=(i+au.length)*1) underlying244 sizeOf184 rfl rfl zO zO zO)<|.R rfl (eX (r:=_) (i+au.length) 0 isAgg184 rfl rfl rfl (gC (by simp at*;omega)) rfl)<|.P rfl (bU rfl rfl (addN (b:=gB) (by have:=dZ hm.1 (i+au.length);unfold gB at*;omega)))<|.P rfl (bS (off:=(i+au.length)*1) underlying244 sizeOf184 rfl rfl zO zO zO)<|.W rfl (gH (r:=_) (i+au.length) 0 sizeOf184 rfl rfl rfl rfl rfl rfl (gC (by simp at*;omega)) zS)<|.nil ?_;refine J.af [.p,.p,.p] ?_;refine .mv rfl rfl<|.P rfl (bU rfl rfl (addN (b:=1) (by have:=M1 jH.1 rD hm.2.1;unfold gB at*;omega)))<|.ag rfl rfl<|.nil ?_;refine J.af [.p,.p,.p,.p,.p,.r,.p,.p,.p,.w] ?_;refine .mv rfl rfl<|.mv rfl rfl<|.mv rfl rfl<|.P rfl (bU rfl rfl (aw zO))<|.P rfl (bS (off:=(i+au.length)*1) underlying244 sizeOf184 rfl rfl zO zO zO)<|.R rfl (eX (r:=_) (i+au.length) 0 isAgg184 rfl rfl rfl (gx (gC (by simp at*;omega))) rfl)<|.mv rfl rfl<|.P rfl (dw rfl rfl (qO (by have:=Ha (g*x2+c);omega) (by have:=dZ hm.1 (i+au.length);unfold gB at*;omega)))<|.P rfl (bS (off:=(i+au.length)*1) underlying244 sizeOf184 rfl rfl zO zO zO)<|.W rfl (gH (r:=_) (i+au.length) 0 sizeOf184 rfl rfl rfl rfl rfl rfl (gx (gC (by simp at*;omega))) zS)<|.nil ?_;refine J.nil (cn ?_);refine J.af [.p,.p] ?_;refine .P rfl (bU rfl rfl (aw zO))<|.mv rfl rfl<|.nil ?_;refine J.nil (cZ ?_)
        exact⟨⟨au++[x2],aC,a1.set (i+au.length) (nth a1 (i+au.length)+gB-(g*x2+c)%gB),(g*x2+c)/gB+1,by simp[aU],M0 (e:=1) hm jH.1 rD (by simp at rq;omega) (by simp at rq;have:=hm.2.2.1;omega) (by have:=Ha (g*x2+c);omega) zO (XQ jH.1 rD hm.2.1 (x:=nth a1 (i+au.length)) zO),j2⟩,by simp,Le.mk rfl (.cons rfl (Sub.refl _) rfl (.s rfl rfl (.s rfl rfl (.cons rfl (Sub.refl _) rfl (.s rfl rfl (.s rfl rfl (.s rfl rfl (.s rfl rfl (.s rfl rfl (.s rfl rfl (.cons rfl (Sub.int zS) rfl .nil))))))))))) (.arr rfl (by rfl) (.arr rfl (by simp[bb]) .nil))⟩
       ·have fI:=h3;try simp only[bs]at fI
        refine J.skip ?_;refine J.af [.p,.p,.p,.p,.p,.r,.p,.p,.p,.w] ?_;refine .mv rfl rfl<|.mv rfl rfl<|.mv rfl rfl<|.P rfl (bU rfl rfl (aw zO))<|.P rfl (bS (off:=(i+au.length)*1) underlying244 sizeOf184 rfl rfl zO zO zO)<|.R rfl (eX (r:=_) (i+au.length) 0 isAgg184 rfl rfl rfl (gC (by simp at*;omega)) rfl)<|.mv rfl rfl<|.P rfl (dw rfl rfl (qO (by have:=Ha (g*x2+c);omega) (by have:=dZ hm.1 (i+au.length);unfold gB at*;omega)))<|.P rfl (bS (off:=(i+au.length)*1) underlying244 sizeOf184 rfl rfl zO zO zO)<|.W rfl (gH (r:=_) (i+au.length) 0 sizeOf184 rfl rfl rfl rfl rfl rfl (gC (by simp at*;omega)) zS)<|.nil ?_;refine J.nil (cn ?_);refine J.af [.p,.p] ?_;refine .P rfl (bU rfl rfl (aw zO))<|.mv rfl rfl<|.nil ?_;refine J.nil (cZ ?_);exact⟨⟨au++[x2],aC,a1.set (i+au.length) (nth a1 (i+au.length)-(g*x2+c)%gB),(g*x2+c)/gB+0,by simp[aU],M0 (e:=0) hm jH.1 rD (by simp at rq;omega) (by simp at rq;have:=hm.2.2.1;omega) zO (by have:=dZ hm.1 (i+au.length);omega) (M1 jH.1 rD hm.2.1),j2⟩,by simp,Le.mk rfl (.cons rfl (Sub.refl _) rfl (.s rfl rfl (.s rfl rfl (.cons rfl (Sub.refl _) rfl (.s rfl rfl (.s rfl rfl (.s rfl rfl (.s rfl rfl (.s rfl rfl (.s rfl rfl (.cons rfl (Sub.int zS) rfl .nil))))))))))) (.arr rfl (by rfl) (.arr rfl (by exact sG) .nil))⟩
    ·have bJ:=h1;try simp only[bs]at bJ
     have jr:=(MX pz hb hl (fun j hj=>hz j hj) rfl wF jH zO).1;refine J.skip ?_;refine J.af [.p,.p,.p] ?_;refine .mv rfl rfl<|.P rfl (dw rfl rfl (qO (b:=1) zO (by have:=jH.1;unfold gB at*;omega)))<|.ag rfl rfl<|.nil ?_;refine J.nil (cn ?_);refine J.nil (cZ ?_);exact⟨⟨g-1,(MX pz hb hl (fun j hj=>hz j hj) rfl wF jH zO).2⟩,by simp;omega,Le.mk rfl (.cons rfl (Sub.gs zS) rfl (.s rfl rfl (.s rfl rfl (.cons rfl (Sub.gs zS) rfl (.s rfl rfl (.s rfl rfl (.s rfl rfl (.s rfl rfl .nil)))))))) (.arr rfl (by rfl) (.arr rfl (by rfl) .nil))⟩
end Go.T
namespace Go.T
open Go
def jo(m n:Nat):List (Nat×Nat):=if h:n=0 then[(m,n)]else(m,n)::jo n (m%n)
termination_by n
decreasing_by exact Nat.mod_lt _ (Nat.pos_of_ne_zero h)
theorem Is(m:Nat):jo m 0=[(m,0)]:=by rw[jo];simp
theorem It{m n:Nat}(h:n≠0):jo m n=(m,n)::jo n (m%n):=by rw[jo];simp[h]
theorem Pb(m n:Nat):∃r,jo m n=(m,n)::r:=by
 by_cases h:n=0
 ·subst h;exact⟨[],Is m⟩
 ·exact⟨_,It h⟩
def s9(l:List (Nat×Nat)):Nat:=(l.getLast?.getD (0,0)).1
theorem agc(l:List (Nat×Nat))(x:Nat×Nat):s9 (l++[x])=x.1:=by simp[s9]
theorem agb(m n:Nat):s9 (jo m n)=Nat.gcd m n:=by
 induction n using Nat.strongRecOn generalizing m with
 |_ n ih=>
  by_cases h:n=0
  ·subst h;rw[Is];simp[s9]
  ·rw[It h];obtain⟨r,hr⟩:=Pb n (m%n);have h1:=ih (m%n) (Nat.mod_lt _ (Nat.pos_of_ne_zero h)) n;rw[hr]at h1⊢;rw[Nat.gcd_comm m n,Nat.gcd_rec n m,Nat.gcd_comm (m%n) n,←h1];simp[s9]
theorem abY{M N m n:Nat}{pre:List (Nat×Nat)}(h:jo M N=pre++jo m n):pre++[(m,n)]<+:jo M N:=by
 obtain⟨r,hr⟩:=Pb m n;exact⟨r,by rw[h,hr];simp⟩
theorem abX{M N m n:Nat}{pre:List (Nat×Nat)}(h:jo M N=pre++jo m n)(hn:n≠0):jo M N=(pre++[(m,n)])++jo n (m%n):=by rw[h,It hn];simp
theorem abW{M N m n:Nat}{pre:List (Nat×Nat)}(h:jo M N=pre++jo m n)(hn:n=0):pre++[(m,n)]=jo M N:=by subst hn;rw[h,Is]
theorem pO{n:Nat}(h:(ak n).length=0):n=0:=by
 rcases Nat.eq_zero_or_pos n with e|e
 ·exact e
 ·rw[u5 zO]at h;simp at h
theorem EB(s:aa):fE (digits s).1=ak (val s).natAbs:=by
 have h:=nn s;have hv:=mB s;rw[ahj h.ok h.cut]
 congr 1
 unfold jM at hv;split at hv<;>omega
theorem Li(s:aa):(digits s).2=decide (val s<0):=by
 have h:=nn s;have hv:=mB s;cases e:(digits s).2 with
 |true=>
  have:=B5 h.cut (h.Cc e);rw[e]at hv;simp[jM]at hv;exact(decide_eq_true zO).symm
 |false=>
  rw[e]at hv;simp[jM]at hv;exact(decide_eq_false zO).symm
end Go.T
