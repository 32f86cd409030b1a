/-
  Contracts of the functions that the statement reaches, and the logic in which they are proved (no condition): parts SpecD14, W97, W98, Core54, Core55, Core56, SpecD15, SpecD16, SpecD17, Core57, SpecD18, Core60, SpecD19, W99.
-/
import Derived.Test.YtapflgppmigcdaaGreatDoorA15
import Derived.Lib.RowBridge
set_option linter.all false
namespace Go.T
open Go Go.Lib
@[reducible] def t_(f:Fact):Bool:=decide (f.kind=9)||decide (f.kind=12)
def eW(l:List aa):List aa:=l.mergeSort fun x y=>decide (x≤y)
theorem ll(l:List aa):(eW l).Perm l:=List.mergeSort_perm l _
theorem tq{α:Type}{P:α→Prop}{l:List α}(h:∀k∈l,P k):(l.attachWith P h).map Subtype.val=l:=by
 induction l with
 |nil=>rfl
 |cons a l ih=>simp
def fU(f:Fact):List aa:=if t_ f=true then[f.eY]++[f.other]else[f.eY]
def eC(f:Fact):List aa:=fU f++f.opts.map (·.other)
def gI(f:Fact):List aa:=(eC f).filter fun s=>!decide (s=[])
def cq(f:Fact):List aa:=Lib.compact (eW (gI f))
theorem vM(f:Fact):(fU f).length≤2∧fU f≠[]:=by
 unfold fU;split<;>simp
theorem QZ{d:Array aa}:∀(m:Nat)(x:aa),x∈compactUpTo d m↔∃j,j<m∧keeps d j=true∧d[j]! =x
 |0,x=>by simp[compactUpTo]
 |m+1,x=>by
  rw[compactUpTo_succ,List.mem_append,QZ m];constructor
  ·rintro(⟨j,h1,h2,h3⟩|h)
   ·exact⟨j,by omega,h2,h3⟩
   ·split at h
    ·exact⟨m,by omega,by assumption,(List.mem_singleton.1 h).symm⟩
    ·cases h
  ·rintro⟨j,h1,h2,h3⟩;by_cases e:j=m
   ·subst e;right;rw[if_pos h2];simp[h3]
   ·exact .inl ⟨j,by omega,h2,h3⟩
theorem I5{l:List aa}{x:aa}:x∈Lib.compact l↔x∈l:=by
 unfold Lib.compact;rw[QZ];constructor
 ·rintro⟨j,h1,_,rfl⟩;rw[getElem!_pos l.toArray j (by simpa using h1)];simp
 ·intro h;have tP:∃j,j<l.length∧l.toArray[j]! =x:=by
   obtain⟨j,hj,e⟩:=List.getElem_of_mem h;exact⟨j,hj,by rw[getElem!_pos l.toArray j (by simpa using hj)];simpa using e⟩
  have key:∀j,j<l.length→l.toArray[j]! =x→∃i,i<l.length∧keeps l.toArray i=true∧l.toArray[i]! =x:=by
   intro j;induction j with
   |zero=>intro h0 e;exact⟨0,h0,keeps_lt_one _ 0 zO,e⟩
   |succ j ih=>
    intro h0 e;by_cases e2:l.toArray[j]! =x
    ·exact ih zO e2
    ·exact⟨j+1,h0,keeps_pos (by rw[e];exact fun e3=>e2 e3.symm),e⟩
  obtain⟨j,h1,h2⟩:=tP;exact key j h1 h2
theorem qW{l:List aa}{x:aa}:x∈eW l↔x∈l:=(ll l).mem_iff
theorem QY{f:Fact}{x:aa}:x∈cq f↔x∈eC f∧x≠[]:=by
 unfold cq gI;rw[I5,qW,List.mem_filter];simp
theorem DN(f:Fact):(cq f).length≤2+f.opts.length:=by
 have h1:=compact_length_le (eW (gI f));have h2:=(ll (gI f)).length_eq;have h3:(gI f).length≤(eC f).length:=List.length_filter_le _ _;have h4:=(vM f).1;unfold eC at h3;simp only[List.length_append,List.length_map]at h3;unfold cq;omega
theorem PM{f:Fact}(h:gI f=[]):cq f=[]:=by
 unfold cq;rw[h];simp[eW,Lib.compact,compactUpTo]
open Go.Proofs Go.Proofs.Tryz Go.Shelf Go.RowKit Go.Sort
set_option maxRecDepth 20000
theorem N0(x:aa)(W:World):FnGives Tryz.prog 62 #[] #[encStr x] (.bool (decide (x=[]))) W:=by
 show Calls Tryz.prog 62 #[encStr x] W _
 go_enter func62,ntmps62
 go_wp2
 all_goals(go_ret;exact⟨by cases x<;>simp_all,0,rfl⟩)
theorem ML:∀args w,(callFunc 62 args).run Tryz.prog w=.ok (.enter 62 args) w:=enters_of func62 (by kernel_rfl) rfl
section
variable{l:List aa} (h:∀s∈l,de s)
theorem wU:(l.attachWith de h).map (fun x=>[D.str x.1])=l.map fun s=>[D.str s]:=by conv=>{rhs;rw[←tq h,List.map_map]};rfl
end
theorem Ml(id:Nat)(l:List aa)(h:∀s∈l,de s)(hl:l.length<4611686018427387904)(aB:(l.filter fun s=>!decide (s=[]))≠[]):
  dv Tryz.prog 61 [.gs id l.length,.fn (.func 62) [] []] [(id,.arr 1 (l.map fun s=>[D.str s]))] (.gs id (l.filter fun s=>!decide (s=[])).length) [(id,.arr 1 ((l.filter fun s=>!decide (s=[])).map fun s=>[D.str s]))]:=by
 have h2:∀s∈l.filter (fun s=>!decide (s=[])),de s:=fun s hs=>h s (List.mem_filter.1 hs).1;have:=X2 (r:=Tryz.Gd) Tryz.Mm zeroValue9 ML N0 id (l.attachWith de h) (by simpa using hl) ((l.filter fun s=>!decide (s=[])).attachWith de h2) (by rw[tq,tq]) (by intro e;exact aB (by simpa using congrArg (List.map Subtype.val) e));rw[wU h,wU h2,List.length_attachWith,List.length_attachWith]at this;exact this
theorem Mk(id:Nat)(l:List aa)(h:∀s∈l,de s)(h0:l≠[])(hl:l.length<4611686018427387904)(he:(l.filter fun s=>!decide (s=[]))=[]):
  dv Tryz.prog 61 [.gs id l.length,.fn (.func 62) [] []] [(id,.arr 1 (l.map fun s=>[D.str s]))] (.snap 1 false []) [(id,.arr 1 [])]:=by
 have:=X1 (r:=Tryz.Gd) Tryz.Mm zeroValue9 ML N0 id (l.attachWith de h) (by intro e;exact h0 (by simpa using congrArg (List.map Subtype.val) e)) (by simpa using hl) (by rw[tq];exact he);rw[wU h,List.length_attachWith]at this;exact this
theorem Ks(id:Nat)(l:List aa)(h:∀s∈l,de s)(hl:l.length<4611686018427387904):dv Tryz.prog 63 [.gs id l.length] [(id,.arr 1 (l.map fun s=>[D.str s]))] (.bf []) [(id,.arr 1 ((eW l).map fun s=>[D.str s]))]:=by
 have h2:∀s∈eW l,de s:=fun s hs=>h s ((ll l).subset hs);have:=ajs (r:=Tryz.Qe) Tryz.Qd id (l.attachWith de h) (by simpa using hl) ((eW l).attachWith de h2) (by rw[tq,tq];rfl);rw[wU h,wU h2,List.length_attachWith]at this;exact this
theorem TK:Fc Tryz.prog 63 [.snap 1 false []] (.bf []):=.o9 fun w O ρ vals hg hv=>by
 simp only[Vs,V]at hv;obtain⟨_,_,rfl,⟨a,cap,rfl,_⟩,rfl⟩:=hv;refine(Tryz.slices_Sort_string_none a cap w).mono ?_;rintro e w' ⟨rfl,rfl⟩;exact⟨_,rfl,by simp[V,Vs],.refl _⟩
theorem L6(id:Nat)(l:List aa)(h:∀s∈l,de s)(h0:l≠[])(hl:l.length<4611686018427387904)(n:Nat)(qC:l.length=n):dv Tryz.prog 64 [.gs id n] [(id,.arr 1 (l.map fun s=>[D.str s]))] (.gs id (Lib.compact l).length) [(id,.arr 1 ((Lib.compact l).map fun s=>[D.str s]))]:=by
 subst qC;have h2:∀s∈Lib.compact l,de s:=fun s hs=>h s (I5.1 hs);have:=W1 (f:=64) Tryz.slices_Compact_string id (l.attachWith de h) (by intro e;exact h0 (by simpa using congrArg (List.map Subtype.val) e)) (by simpa using hl) ((Lib.compact l).attachWith de h2) (by rw[tq,tq])
  (by
   intro e;obtain⟨x,hx⟩:=List.exists_mem_of_ne_nil _ h0;have e2:Lib.compact l=[]:=by simpa using congrArg (List.map Subtype.val) e
   have:=(I5 (l:=l) (x:=x)).2 hx;rw[e2]at this;cases this) (by simpa using compact_length_le l)
 rw[wU h,wU h2,List.length_attachWith,List.length_attachWith]at this;exact this
theorem L5:Fc Tryz.prog 64 [.snap 1 false []] (.snap 1 false []):=.o9 fun w O ρ vals hg hv=>by
 simp only[Vs,V]at hv;obtain⟨_,_,rfl,⟨a,cap,rfl,h⟩,rfl⟩:=hv;refine(Tryz.slices_Compact_string_empty a cap w).mono ?_;rintro e w' ⟨rfl,rfl⟩;exact⟨_,rfl,by simp only[V];exact⟨_,_,rfl,h⟩,.refl _⟩
end Go.T
namespace Go.T
open Go Go.Proofs Go.Proofs.Tryz
set_option maxRecDepth 20000
theorem Dn{f:Fact}(h:t_ f=true):fU f=[f.eY]++[f.other]:=if_pos h
theorem Dm{f:Fact}(h:t_ f=false):fU f=[f.eY]:=if_neg (by rw[h];simp)
theorem PI{f:Fact}(hs:∀s∈eC f,de s):(∀s∈gI f,de s)∧(∀s∈eW (gI f),de s):=
 ⟨fun s h=>hs s (List.mem_filter.1 h).1,fun s h=>hs s (List.mem_filter.1 (qW.1 h)).1⟩
theorem TU(f:Fact):(gI f).length≤2+f.opts.length∧(eW (gI f)).length=(gI f).length∧(eC f).length≤2+f.opts.length:=by
 have h2:=(ll (gI f)).length_eq;have h3:(gI f).length≤(eC f).length:=List.length_filter_le _ _;have h4:=(vM f).1;have h5:(eC f).length≤2+f.opts.length:=by
  unfold eC;simp only[List.length_append,List.length_map];omega
 exact⟨by omega,h2,h5⟩
theorem TL{f:Fact}(h:gI f≠[]):eW (gI f)≠[]:=by
 intro e;have:=(ll (gI f)).length_eq;rw[e]at this;exact h (List.length_eq_zero_iff.1 this.symm)
theorem PH(f:Fact):eC f≠[]:=by
 unfold eC;intro e;exact(vM f).2 (List.append_eq_nil_iff.1 e).1
structure PJ(f:Fact)where
 pre:List cR
 rest:List cR
 hx:f.opts=pre++rest
theorem adL(f:Fact)(hn:f.opts.length≤1000000)(hs:∀s∈eC f,de s)(aB:gI f=[]):Fc Tryz.prog 25 [.agg (aM f)] (cw (cq f)):=by
 refine Fc.mk' [2] func25 rfl ntmps25 rfl rfl rfl (fun t w=>results_tmp results25 t _ w) ?_;have hS:=PI hs;have Hu:=TU f;refine go [1] ?_;refine J.bP (Le.gg 1 0 rfl rfl rfl rfl) ?_;refine go [] ?_;refine oW (JR (n:=1) (rows:=[[.str f.eY]]) 1 underlying48 sizeOf9 rfl rfl rfl zeroValue9 rfl rfl rfl rfl rfl rfl rfl rfl) ?_;refine br (fun h1=>?_) (fun h1=>?_)
 ·refine oP (bI (n:=1) (rows:=[[.str f.other]]) underlying48 sizeOf9 rfl rfl rfl zeroValue9 rfl rfl rfl rfl rfl rfl rfl) ?_;refine oW (k_ 2 underlying48 underlying48 sizeOf9 typeInfo9 zeroValue9 rfl (bt:=16) rfl rfl rfl rfl zS rfl rfl zS) ?_;refine J.loop (ι:=PJ f) (fun sx=>[(1,.aY (aM f)),(3,.gs 1 ((fU f++sx.pre.map (·.other))).length),(23,j1 f.opts),(24,.i f.opts.length),(25,.i sx.pre.length)]) (fun sx=>[(1,.arr 1 ((fU f++sx.pre.map (·.other)).map (fun s:aa=>[D.str s])))]) (fun sx=>sx.rest.length) ⟨[],_,rfl⟩ ?_ ?_
  ·exact(Le.mk (ak:=[(2,_)]) rfl (show eO _ _ [(1,_),(3,_),(23,_),(24,_),(25,_)]from(.s rfl rfl (.s rfl rfl (.s rfl rfl (.s rfl rfl (.s rfl rfl .nil)))))) (.cons (i:=2) rfl rfl .nil)).trans<|(Le.pZ 3 2 1 rfl rfl zS rfl).trans<|Le.mk rfl (.s rfl rfl (.cons rfl (Sub.gs (by rw[Dn h1];rfl)) rfl (.s rfl rfl (.cons rfl (Sub.int zS) rfl (.s rfl rfl .nil))))) (.arr rfl (by rw[Dn h1];rfl) .nil)
  ·rintro⟨pre,rest,hx⟩;show J _ _ _ _ [(1,.aY (aM f)),(3,.gs 1 ((fU f++pre.map (·.other))).length),(23,j1 f.opts),(24,.i f.opts.length),(25,.i pre.length)] [(1,.arr 1 ((fU f++pre.map (·.other)).map (fun s:aa=>[D.str s])))];have hl:=congrArg List.length hx;simp only[List.length_append]at hl;have hH:=vM f;rcases rest with _|⟨x,rest⟩
   ·have nP:eC f=(fU f++pre.map (·.other)):=by rw[eC];simp[hx]
    refine go [1] ?_;refine aR (by simp at hl⊢;omega) ?_;refine go [1] ?_;refine oW (gE call61 (by rw[←nP];rfl) (Mk 1 (eC f) hs (PH f) zO aB) (.cons (by rw[←nP];rfl) rfl .nil) rfl rfl) ?_;refine oP (ai call63 rfl TK) ?_;refine oP (ai call64 rfl L5) ?_;exact ah rfl (Sub.snap (by exact(PM aB).symm▸rfl))
   ·simp only[List.length_cons]at hl;refine go [1] ?_;refine a_ zQ ?_;refine ix zO (bn lA hx rfl) ?_;refine oP (bI (n:=1) (rows:=[[.str x.other]]) underlying48 sizeOf9 rfl rfl rfl zeroValue9 rfl rfl rfl rfl rfl rfl rfl) ?_;refine oW (k_ 2 underlying48 underlying48 sizeOf9 typeInfo9 zeroValue9 rfl (bt:=16) rfl rfl rfl rfl zS rfl rfl zQ) ?_;refine sd (az zO) ?_;exact nx ⟨pre++[x],rest,by simp[hx]⟩ zS ((Le.mk (ak:=[(2,_)]) rfl (show eO _ _ [(1,_),(3,_),(23,_),(24,_),(25,_)]from(.s rfl rfl (.s rfl rfl (.s rfl rfl (.s rfl rfl (.s rfl rfl .nil)))))) (.cons (i:=2) rfl rfl .nil)).trans<|(Le.pZ 3 2 1 rfl rfl zQ rfl).trans<|Le.mk rfl (.s rfl rfl (.cons rfl (Sub.gs zQ) rfl (.s rfl rfl (.s rfl rfl (.cons rfl (Sub.int zS) rfl .nil))))) (.arr rfl zS .nil))
 ·refine J.loop (ι:=PJ f) (fun sx=>[(1,.aY (aM f)),(3,.gs 1 ((fU f++sx.pre.map (·.other))).length),(23,j1 f.opts),(24,.i f.opts.length),(25,.i sx.pre.length)]) (fun sx=>[(1,.arr 1 ((fU f++sx.pre.map (·.other)).map (fun s:aa=>[D.str s])))]) (fun sx=>sx.rest.length) ⟨[],_,rfl⟩ ?_ ?_
  ·exact Le.mk rfl (.s rfl rfl (.cons rfl (Sub.gs (by rw[Dm h1];rfl)) rfl (.s rfl rfl (.cons rfl (Sub.int zS) rfl (.s rfl rfl .nil))))) (.arr rfl (by rw[Dm h1];rfl) .nil)
  ·rintro⟨pre,rest,hx⟩;show J _ _ _ _ [(1,.aY (aM f)),(3,.gs 1 ((fU f++pre.map (·.other))).length),(23,j1 f.opts),(24,.i f.opts.length),(25,.i pre.length)] [(1,.arr 1 ((fU f++pre.map (·.other)).map (fun s:aa=>[D.str s])))];have hl:=congrArg List.length hx;simp only[List.length_append]at hl;have hH:=vM f;rcases rest with _|⟨x,rest⟩
   ·have nP:eC f=(fU f++pre.map (·.other)):=by rw[eC];simp[hx]
    refine go [1] ?_;refine aR (by simp at hl⊢;omega) ?_;refine go [1] ?_;refine oW (gE call61 (by rw[←nP];rfl) (Mk 1 (eC f) hs (PH f) zO aB) (.cons (by rw[←nP];rfl) rfl .nil) rfl rfl) ?_;refine oP (ai call63 rfl TK) ?_;refine oP (ai call64 rfl L5) ?_;exact ah rfl (Sub.snap (by exact(PM aB).symm▸rfl))
   ·simp only[List.length_cons]at hl;refine go [1] ?_;refine a_ zQ ?_;refine ix zO (bn lA hx rfl) ?_;refine oP (bI (n:=1) (rows:=[[.str x.other]]) underlying48 sizeOf9 rfl rfl rfl zeroValue9 rfl rfl rfl rfl rfl rfl rfl) ?_;refine oW (k_ 2 underlying48 underlying48 sizeOf9 typeInfo9 zeroValue9 rfl (bt:=16) rfl rfl rfl rfl zS rfl rfl zQ) ?_;refine sd (az zO) ?_;exact nx ⟨pre++[x],rest,by simp[hx]⟩ zS ((Le.mk (ak:=[(2,_)]) rfl (show eO _ _ [(1,_),(3,_),(23,_),(24,_),(25,_)]from(.s rfl rfl (.s rfl rfl (.s rfl rfl (.s rfl rfl (.s rfl rfl .nil)))))) (.cons (i:=2) rfl rfl .nil)).trans<|(Le.pZ 3 2 1 rfl rfl zQ rfl).trans<|Le.mk rfl (.s rfl rfl (.cons rfl (Sub.gs zQ) rfl (.s rfl rfl (.s rfl rfl (.cons rfl (Sub.int zS) rfl .nil))))) (.arr rfl zS .nil))
structure PK(f:Fact)where
 pre:List cR
 rest:List cR
 hx:f.opts=pre++rest
theorem adM(f:Fact)(hn:f.opts.length≤1000000)(hs:∀s∈eC f,de s)(aB:gI f≠[]):Fc Tryz.prog 25 [.agg (aM f)] (cw (cq f)):=by
 refine Fc.mk' [2] func25 rfl ntmps25 rfl rfl rfl (fun t w=>results_tmp results25 t _ w) ?_;have hS:=PI hs;have Hu:=TU f;refine J.seq (J.af [.w,.p] ?_);refine .W rfl (EA 0 rfl rfl)<|.ag rfl rfl<|.nil ?_;refine J.bP (Le.gg 1 0 rfl rfl rfl rfl) ?_;refine J.seq (J.af [.p,.p,.w,.p] ?_);refine .P rfl (mD (n:=0) 9 5 underlying39 sizeOf9 rfl rfl rfl)<|.P rfl (bX isAgg9 rfl)<|.W rfl (JR (n:=1) (rows:=[[.str f.eY]]) 1 underlying48 sizeOf9 rfl rfl rfl zeroValue9 rfl rfl rfl rfl rfl rfl rfl rfl)<|.ag rfl rfl<|.nil ?_;refine J.seq (J.seq (J.af [.p,.p,.p,.p,.p,.p,.p,.p] ?_));refine .P rfl (mD (n:=0) 3 4 underlying39 sizeOf3 rfl rfl rfl)<|.P rfl (bX isAgg3 rfl)<|.P rfl (jF rfl rfl)<|.mv rfl rfl<|.gF rfl (.inl rfl) rfl rfl rfl (fun hg=>pk (fun _=>mD (n:=0) 3 4 underlying39 sizeOf3 rfl rfl rfl _))<|.gF rfl (.inl rfl) rfl rfl rfl (fun hg=>pk (fun _=>bX isAgg3 (bj rfl (nt hg)) _))<|.gF rfl (.inl rfl) rfl rfl rfl (fun hg=>pk (fun _=>jF (bj rfl (nt hg)) rfl _))<|.P rfl (nq rfl rfl)<|.nil ?_;refine J.cond rfl (fun h1=>?_) (fun h1=>?_)
 ·refine J.af [.p,.p,.p,.p,.w,.p] ?_;refine .mv rfl rfl<|.P rfl (mD (n:=0) 9 6 underlying39 sizeOf9 rfl rfl rfl)<|.P rfl (bX isAgg9 rfl)<|.P rfl (bI (n:=1) (rows:=[[.str f.other]]) underlying48 sizeOf9 rfl rfl rfl zeroValue9 rfl rfl rfl rfl rfl rfl rfl)<|.W rfl (k_ 2 underlying48 underlying48 sizeOf9 typeInfo9 zeroValue9 rfl (bt:=16) rfl rfl rfl rfl zS rfl rfl zS)<|.ag rfl rfl<|.nil ?_;refine J.seq (J.seq (J.af [.p,.p,.p,.p] ?_));refine .P rfl (mD (n:=0) 37 19 underlying39 sizeOf37 rfl rfl rfl)<|.P rfl (bX isAgg37 rfl)<|.P rfl (dE underlying37 rfl)<|.mv rfl rfl<|.nil ?_;refine J.block ?_;refine J.loop (ι:=PK f) (fun sx=>[(1,.aY (aM f)),(3,.gs 1 ((fU f++sx.pre.map (·.other))).length),(23,j1 f.opts),(24,.i f.opts.length),(25,.i sx.pre.length)]) (fun sx=>[(1,.arr 1 ((fU f++sx.pre.map (·.other)).map (fun s:aa=>[D.str s])))]) (fun sx=>sx.rest.length) ⟨[],_,rfl⟩ ?_ ?_
  ·exact(Le.mk (ak:=[(2,_)]) rfl (show eO _ _ [(1,_),(3,_),(23,_),(24,_),(25,_)]from(.s rfl rfl (.s rfl rfl (.s rfl rfl (.s rfl rfl (.s rfl rfl .nil)))))) (.cons (i:=2) rfl rfl .nil)).trans<|(Le.pZ 3 2 1 rfl rfl zS rfl).trans<|Le.mk rfl (.s rfl rfl (.cons rfl (Sub.gs (by rw[Dn h1];rfl)) rfl (.s rfl rfl (.cons rfl (Sub.int zS) rfl (.s rfl rfl .nil))))) (.arr rfl (by rw[Dn h1];rfl) .nil)
  ·rintro⟨pre,rest,hx⟩;show J _ _ _ _ [(1,.aY (aM f)),(3,.gs 1 ((fU f++pre.map (·.other))).length),(23,j1 f.opts),(24,.i f.opts.length),(25,.i pre.length)] [(1,.arr 1 ((fU f++pre.map (·.other)).map (fun s:aa=>[D.str s])))];have hl:=congrArg List.length hx;simp only[List.length_append]at hl;have hH:=vM f;rcases rest with _|⟨x,rest⟩
   ·have nP:eC f=(fU f++pre.map (·.other)):=by rw[eC];simp[hx]
    refine J.seq (J.af [.p] ?_);refine .P rfl (b_ rfl rfl)<|.nil ?_;refine J.seq ?_;refine J.eQ rfl (by simp at hl⊢;omega) ?_;refine J.exit (ei (dZ ?_));refine J.seq (J.af [.p,.w,.p] ?_);refine .mv rfl rfl<|.W rfl (gE call61 (by rw[←nP];rfl) (Ml 1 (eC f) hs zO aB) (.cons (by rw[←nP];rfl) rfl .nil) rfl rfl)<|.ag rfl rfl<|.nil ?_;refine J.seq (J.af [.p,.w] ?_);refine .mv rfl rfl<|.W rfl (gE call63 rfl (Ks 1 (gI f) hS.1 zO) (.cons rfl rfl .nil) rfl rfl)<|.nil ?_;refine J.seq (J.af [.p,.w,.p] ?_);refine .mv rfl rfl<|.W rfl (gE call64 rfl (L6 1 (eW (gI f)) hS.2 (TL aB) zO (gI f).length Hu.2.1) (.cons rfl rfl .nil) rfl rfl)<|.ag rfl rfl<|.nil ?_;refine J.bP (Le.freeze 2 1 rfl rfl zS) ?_;refine J.ret (?_);exact dF rfl (Sub.refl _)
   ·simp only[List.length_cons]at hl;refine J.seq (J.af [.p] ?_);refine .P rfl (b_ rfl rfl)<|.nil ?_;refine J.seq ?_;refine J.fD rfl zQ ?_;refine J.skip ?_;refine J.seq ?_;refine J.block ?_;refine J.seq (J.af [.p,.p,.w,.w] ?_);refine .P rfl (fY underlying37 sizeOf87 rfl rfl zO (bn lA hx rfl))<|.P rfl (sV isAgg87 sizeOf87 rfl rfl)<|.W rfl (jE 3 zeroValue87 rfl)<|.W rfl (lf sizeOf87 rfl rfl rfl rfl rfl rfl)<|.nil ?_;refine J.af [.p,.p,.r,.p,.w,.p] ?_;refine .mv rfl rfl<|.P rfl (hZ (n:=0) 9 0 underlying87 sizeOf9 rfl rfl)<|.R rfl (iK isAgg9 rfl rfl rfl)<|.P rfl (bI (n:=1) (rows:=[[.str x.other]]) underlying48 sizeOf9 rfl rfl rfl zeroValue9 rfl rfl rfl rfl rfl rfl rfl)<|.W rfl (k_ 4 underlying48 underlying48 sizeOf9 typeInfo9 zeroValue9 rfl (bt:=16) rfl rfl rfl rfl zS rfl rfl zQ)<|.ag rfl rfl<|.nil ?_;refine J.nil (cC ?_);refine J.af [.p,.p] ?_;refine .P rfl (bU rfl rfl (az zO))<|.mv rfl rfl<|.nil ?_;refine J.nil (dG ?_);exact⟨⟨pre++[x],rest,by simp[hx]⟩,by simp,(Le.mk (ak:=[(4,_)]) rfl (show eO _ _ [(1,_),(3,_),(23,_),(24,_),(25,_)]from(.s rfl rfl (.s rfl rfl (.s rfl rfl (.s rfl rfl (.s rfl rfl .nil)))))) (.cons (i:=4) rfl rfl .nil)).trans<|(Le.pZ 3 4 1 rfl rfl zQ rfl).trans<|Le.mk rfl (.s rfl rfl (.cons rfl (Sub.gs zQ) rfl (.s rfl rfl (.s rfl rfl (.cons rfl (Sub.int zS) rfl .nil))))) (.arr rfl zS .nil)⟩
 ·refine J.skip ?_;refine J.seq (J.seq (J.af [.p,.p,.p,.p] ?_));refine .P rfl (mD (n:=0) 37 19 underlying39 sizeOf37 rfl rfl rfl)<|.P rfl (bX isAgg37 rfl)<|.P rfl (dE underlying37 rfl)<|.mv rfl rfl<|.nil ?_;refine J.block ?_;refine J.loop (ι:=PK f) (fun sx=>[(1,.aY (aM f)),(3,.gs 1 ((fU f++sx.pre.map (·.other))).length),(23,j1 f.opts),(24,.i f.opts.length),(25,.i sx.pre.length)]) (fun sx=>[(1,.arr 1 ((fU f++sx.pre.map (·.other)).map (fun s:aa=>[D.str s])))]) (fun sx=>sx.rest.length) ⟨[],_,rfl⟩ ?_ ?_
  ·exact Le.mk rfl (.s rfl rfl (.cons rfl (Sub.gs (by rw[Dm h1];rfl)) rfl (.s rfl rfl (.cons rfl (Sub.int zS) rfl (.s rfl rfl .nil))))) (.arr rfl (by rw[Dm h1];rfl) .nil)
  ·rintro⟨pre,rest,hx⟩;show J _ _ _ _ [(1,.aY (aM f)),(3,.gs 1 ((fU f++pre.map (·.other))).length),(23,j1 f.opts),(24,.i f.opts.length),(25,.i pre.length)] [(1,.arr 1 ((fU f++pre.map (·.other)).map (fun s:aa=>[D.str s])))];have hl:=congrArg List.length hx;simp only[List.length_append]at hl;have hH:=vM f;rcases rest with _|⟨x,rest⟩
   ·have nP:eC f=(fU f++pre.map (·.other)):=by rw[eC];simp[hx]
    refine J.seq (J.af [.p] ?_);refine .P rfl (b_ rfl rfl)<|.nil ?_;refine J.seq ?_;refine J.eQ rfl (by simp at hl⊢;omega) ?_;refine J.exit (ei (dZ ?_));refine J.seq (J.af [.p,.w,.p] ?_);refine .mv rfl rfl<|.W rfl (gE call61 (by rw[←nP];rfl) (Ml 1 (eC f) hs zO aB) (.cons (by rw[←nP];rfl) rfl .nil) rfl rfl)<|.ag rfl rfl<|.nil ?_;refine J.seq (J.af [.p,.w] ?_);refine .mv rfl rfl<|.W rfl (gE call63 rfl (Ks 1 (gI f) hS.1 zO) (.cons rfl rfl .nil) rfl rfl)<|.nil ?_;refine J.seq (J.af [.p,.w,.p] ?_);refine .mv rfl rfl<|.W rfl (gE call64 rfl (L6 1 (eW (gI f)) hS.2 (TL aB) zO (gI f).length Hu.2.1) (.cons rfl rfl .nil) rfl rfl)<|.ag rfl rfl<|.nil ?_;refine J.bP (Le.freeze 2 1 rfl rfl zS) ?_;refine J.ret (?_);exact dF rfl (Sub.refl _)
   ·simp only[List.length_cons]at hl;refine J.seq (J.af [.p] ?_);refine .P rfl (b_ rfl rfl)<|.nil ?_;refine J.seq ?_;refine J.fD rfl zQ ?_;refine J.skip ?_;refine J.seq ?_;refine J.block ?_;refine J.seq (J.af [.p,.p,.w,.w] ?_);refine .P rfl (fY underlying37 sizeOf87 rfl rfl zO (bn lA hx rfl))<|.P rfl (sV isAgg87 sizeOf87 rfl rfl)<|.W rfl (jE 2 zeroValue87 rfl)<|.W rfl (lf sizeOf87 rfl rfl rfl rfl rfl rfl)<|.nil ?_;refine J.af [.p,.p,.r,.p,.w,.p] ?_;refine .mv rfl rfl<|.P rfl (hZ (n:=0) 9 0 underlying87 sizeOf9 rfl rfl)<|.R rfl (iK isAgg9 rfl rfl rfl)<|.P rfl (bI (n:=1) (rows:=[[.str x.other]]) underlying48 sizeOf9 rfl rfl rfl zeroValue9 rfl rfl rfl rfl rfl rfl rfl)<|.W rfl (k_ 3 underlying48 underlying48 sizeOf9 typeInfo9 zeroValue9 rfl (bt:=16) rfl rfl rfl rfl zS rfl rfl zQ)<|.ag rfl rfl<|.nil ?_;refine J.nil (cC ?_);refine J.af [.p,.p] ?_;refine .P rfl (bU rfl rfl (az zO))<|.mv rfl rfl<|.nil ?_;refine J.nil (dG ?_);exact⟨⟨pre++[x],rest,by simp[hx]⟩,by simp,(Le.mk (ak:=[(3,_)]) rfl (show eO _ _ [(1,_),(3,_),(23,_),(24,_),(25,_)]from(.s rfl rfl (.s rfl rfl (.s rfl rfl (.s rfl rfl (.s rfl rfl .nil)))))) (.cons (i:=3) rfl rfl .nil)).trans<|(Le.pZ 3 3 1 rfl rfl zQ rfl).trans<|Le.mk rfl (.s rfl rfl (.cons rfl (Sub.gs zQ) rfl (.s rfl rfl (.s rfl rfl (.cons rfl (Sub.int zS) rfl .nil))))) (.arr rfl zS .nil)⟩
theorem Iv(f:Fact)(hn:f.opts.length≤1000000)(hs:∀s∈eC f,de s):Fc Tryz.prog 25 [.agg (aM f)] (cw (cq f)):=by
 by_cases h:gI f=[]
 ·exact adL f hn hs h
 ·exact adM f hn hs h
end Go.T
namespace Go.T
open Go
variable[bV]
structure FE where
 key:aa
 id:Nat
 rows:List aa
 live:Bool:=true
abbrev h_(l:List aa):List (List D):=l.map fun s=>[D.str s]
structure bk where
 next:Nat
 ck:List FE
 lo:∀e∈ck,1000≤e.id∧e.id<next
 nd:(ck.map (·.id)).Nodup
 hn:1000≤next
def bk.empty:bk:=⟨1000,[],by simp,by simp,by omega⟩
def FE.ob(e:FE):Ob:=if e.live then .arr 1 (h_ e.rows)else .dead
def cj(f:bk):ae:=f.ck.map fun e=>(e.id,e.ob)
def ew(f:bk):List (aa×(Nat×Nat)):=f.ck.map fun e=>(e.key,(e.id,e.rows.length))
@[reducible] def gZ(p:Nat×Nat):D:=.gs p.1 p.2
theorem NY:∀(l:List FE)(i:Nat)(o:Ob),ae.get (l.map fun e=>(e.id,e.ob)) i=some o→∃e∈l,e.id=i∧e.ob=o
 |[],i,o,h=>by simp[ae.get]at h
 |e::l,i,o,h=>by
  rw[List.map_cons,ae.aZ]at h;by_cases c:e.id=i
  ·rw[if_pos c]at h;cases h;exact⟨e,List.mem_cons_self,c,rfl⟩
  ·rw[if_neg c]at h;obtain⟨e',h1,h2⟩:=NY l i o h;exact⟨e',List.mem_cons_of_mem _ h1,h2⟩
theorem NZ:∀(l:List FE),(l.map (·.id)).Nodup→∀e∈l,ae.get (l.map fun e=>(e.id,e.ob)) e.id=some e.ob
 |[],_,e,h=>by cases h
 |a::l,hn,e,h=>by
  rw[List.map_cons,List.nodup_cons]at hn;rw[List.map_cons,ae.aZ];rcases List.mem_cons.1 h with rfl|h
  ·rw[if_pos rfl]
  ·rw[if_neg (fun c=>hn.1 (List.mem_map.2 ⟨e,h,c.symm⟩))];exact NZ l hn.2 e h
theorem zR(f:bk){i:Nat}{o:Ob}(h:(cj f).get i=some o):∃e∈f.ck,e.id=i∧e.ob=o:=NY _ i o h
theorem xy(f:bk){e:FE}(h:e∈f.ck):(cj f).get e.id=some e.ob:=NZ _ f.nd e h
theorem GG(f:bk)(i:Nat)(hi:i<1000):(cj f).get i=none:=by
 cases h:(cj f).get i with
 |none=>rfl
 |some o=>
  obtain⟨e,h1,h2,_⟩:=zR f h;have:=f.lo e h1;omega
theorem xz(f:bk)(i:Nat)(_:0≤i)(hi:i<0+100):(cj f).get i=none:=GG f i zO
theorem aaG(f:bk):(cj f).get f.next=none:=by
 cases h:(cj f).get f.next with
 |none=>rfl
 |some o=>
  obtain⟨e,h1,h2,_⟩:=zR f h;have:=f.lo e h1;omega
theorem GH(f:bk)(g:Nat→Bool):∀i x,(cj f).get i=some x→x.okB g=true:=fun i x h=>by
 obtain⟨e,_,_,rfl⟩:=zR f h;unfold FE.ob;split<;>rfl
theorem vv{own iZ:ae}(f:bk)(eu:kR 0 own=true):∀i x,(cj f).get i=some x→ae.get (own++cj f) i=some x∧x.okB (ae.has (iZ++cj f))=true:=
 fun i x h=>⟨sM eu (xz f) i x h,GH f _ i x h⟩
def vu(f:bk)(k:aa):Option FE:=f.ck.find? fun e=>decide (k=e.key)
def iE(f:bk)(k:aa):List aa:=((vu f k).map (·.rows)).getD []
def qu(f:bk)(k:aa):Nat:=((vu f k).map (·.id)).getD 99
theorem abw(f:bk)(k:aa):cN (99,0) (ew f) k=(qu f k,(iE f k).length):=by
 unfold ew qu iE vu;induction f.ck with
 |nil=>rfl
 |cons e l ih=>
  simp only[List.map_cons,cN,List.find?_cons];by_cases c:k=e.key
  ·rw[if_pos c];simp[c]
  ·rw[if_neg c,ih];simp[c]
def jj(l:List FE)(k:aa)(i:Nat)(r:List aa):List FE:=match l with
 |[]=>[⟨k,i,r,true⟩]
 |e::l=>if k=e.key then⟨k,i,r,true⟩::l else e::jj l k i r
theorem BP{k:aa}{i:Nat}{r:List aa}:∀{l:List FE}{e:FE},e∈jj l k i r→e∈l∨e=⟨k,i,r,true⟩
 |[],e,h=>.inr (List.mem_singleton.1 h)
 |a::l,e,h=>by
  simp only[jj]at h;split at h
  ·rcases List.mem_cons.1 h with h|h
   ·exact .inr h
   ·exact .inl (List.mem_cons_of_mem _ h)
  ·rcases List.mem_cons.1 h with h|h
   ·exact .inl (h▸List.mem_cons_self)
   ·exact(BP h).imp (List.mem_cons_of_mem _) id
theorem Tw{k:aa}{i:Nat}{r:List aa}:∀{l:List FE},(l.map (·.id)).Nodup→i∉l.map (·.id)→((jj l k i r).map (·.id)).Nodup
 |[],_,_=>by simp[jj]
 |a::l,hn,hi=>by
  rw[List.map_cons,List.nodup_cons]at hn;rw[List.map_cons,List.mem_cons,not_or]at hi;simp only[jj];split
  ·rw[List.map_cons,List.nodup_cons];exact⟨hi.2,hn.2⟩
  ·rw[List.map_cons,List.nodup_cons];refine⟨fun h=>?_,Tw hn.2 hi.2⟩;obtain⟨e,he,e2⟩:=List.mem_map.1 h;rcases BP he with he|rfl
   ·exact hn.1 (List.mem_map.2 ⟨e,he,e2⟩)
   ·exact hi.1 e2
def bk.add(f:bk)(k:aa)(new:List aa):bk:=⟨f.next+1,jj f.ck k f.next (iE f k++new),fun e h=>by
 rcases BP h with h|rfl
 ·have:=f.lo e h;omega
 ·exact⟨f.hn,by simp⟩,Tw f.nd (fun h=>by
 obtain⟨e,he,e2⟩:=List.mem_map.1 h;have:=f.lo e he;omega),by have:=f.hn;omega⟩
theorem M7(f:bk)(k:aa)(new:List aa):dm (ew f) k (f.next,(iE f k).length+new.length)=ew (f.add k new):=by
 unfold bk.add ew;simp only;rw[←List.length_append];generalize iE f k++new=r;induction f.ck with
 |nil=>rfl
 |cons e l ih=>
  simp only[List.map_cons,dm,jj];split
  ·rfl
  ·rw[ih,List.map_cons]
theorem aay(f:bk)(k:aa)(own:ae)(eu:kR 0 own=true)(Ho:own.get 99=some (.arr 1 []))(hl:∀e∈f.ck,e.live=true):ae.get (own++cj f) (qu f k)=some (.arr 1 (h_ (iE f k))):=by
 unfold qu iE;cases h:vu f k with
 |none=>
  rw[ae.get_append];simp only[Option.map_none,Option.getD_none,Ho];rfl
 |some e=>
  have he:e∈f.ck:=List.mem_of_find?_eq_some h;have h1:=xy f he;have:=sM eu (xz f) _ _ h1;simp only[Option.map_some,Option.getD_some];rw[this];unfold FE.ob;rw[if_pos (hl e he)]
theorem aaz(f:bk)(k:aa):qu f k=99∨1000≤qu f k:=by
 unfold qu;cases h:vu f k with
 |none=>exact .inl rfl
 |some e=>exact .inr (f.lo e (List.mem_of_find?_eq_some h)).1
end Go.T
namespace Go.T
open Go
variable[bV]
theorem Ty{k:aa}{i:Nat}{r:List aa}:∀{l:List FE},(l.map (·.id)).Nodup→(∀e∈l,1000≤e.id)→∀{e:FE},e∈jj l k i r→e=⟨k,i,r,true⟩∨(e∈l∧e.id≠(((l.find? fun e=>decide (k=e.key)).map (·.id)).getD 99))
 |[],_,_,e,h=>.inl (List.mem_singleton.1 h)
 |a::l,hn,HZ,e,h=>by
  rw[List.map_cons,List.nodup_cons]at hn;simp only[jj]at h;by_cases c:k=a.key
  ·rw[if_pos c]at h;rcases List.mem_cons.1 h with h|h
   ·exact .inl h
   ·right;refine⟨List.mem_cons_of_mem _ h,?_⟩;rw[List.find?_cons_of_pos (by simpa using c)];exact fun e2=>hn.1 (List.mem_map.2 ⟨e,h,e2⟩)
  ·rw[if_neg c]at h;rw[List.find?_cons_of_neg (by simpa using c)];rcases List.mem_cons.1 h with rfl|h
   ·right;refine⟨List.mem_cons_self,fun e2=>?_⟩;cases hf:l.find? fun e=>decide (k=e.key)with
    |none=>
     rw[hf]at e2;have:=HZ e List.mem_cons_self;simp only[Option.map_none,Option.getD_none]at e2;omega
    |some x=>
     rw[hf]at e2;exact hn.1 (List.mem_map.2 ⟨x,List.mem_of_find?_eq_some hf,e2.symm⟩)
   ·rcases Ty hn.2 (fun e h=>HZ e (List.mem_cons_of_mem _ h)) h with h|⟨h,h2⟩
    ·exact .inl h
    ·exact .inr ⟨List.mem_cons_of_mem _ h,h2⟩
variable{P:Program} {env:Env} {dst:Option Tmp} {ty:TypeId} {pos:String} {ar:Array Edge} {g:Option (Nat×Bool)}
theorem agf(w:World)(O:Nat→Prop)(ρ:aA):V w O ρ (gZ (99,0)) (.slice none 0 0):=by
 simp[V]
theorem SQ{kt et:TypeId}(hK:jI P kt D.str B5 de){t:TypeId}{x y:Operand}{m:Nat}{f:bk}{k:aa}{kd:D}{U:ae}(hu:P.underlying t=some (.map kt et))(hz:∀w,(zeroValue et).run P w=.ok (.slice none 0 0) w)
  (hx:env.op x=some (.bu m))(hy:env.op y=some kd)(pE:kd=D.str k)(ho:U.get m=some (.mp (aS D.str gZ (ew f)))):
  aq P ⟨dst,.lookup t x y false,ty,pos,ar,g⟩ env U (.gs (qu f k) (iE f k).length) U:=by
 have:=uB (dst:=dst) (ty:=ty) (pos:=pos) (ar:=ar) (g:=g) hK (vD:=gZ) (m:=ew f) (k:=k) (d:=(99,0)) hu hz agf hx hy pE ho;rw[abw]at this;exact this
def vt(own:ae)(f:bk)(k:aa)(new:List aa):ae:=(f.next,.arr 1 (h_ (iE f k)++h_ new))::(own++cj f).set (qu f k) .dead
theorem SD{st xt e e':TypeId}{ti:TypeInfo}{z:Value}{bt:Nat}{x y:Operand}{fF:Bool}{own:ae}{f:bk}{k:aa}{new:List aa}(hu:P.underlying st=some (.slice e))(jz:P.underlying xt=some (.slice e'))(hs:∀w,(sizeOf e).run P w=.ok 1 w)
  (jT:∀w,(typeInfo e).run P w=.ok ti w)(hz:∀w,(zeroValue e).run P w=.ok z w)(v_:z.cells.size=1)(nM:ti.bytes=bt)(Af:Nat.beq bt 0=false)(eu:kR 0 own=true)(Ho:own.get 99=some (.arr 1 []))(hl:∀e∈f.ck,e.live=true)
  (hx:env.op x=some (.gs (qu f k) (iE f k).length))(hy:env.op y=some (.snap 1 fF (h_ new)))(lD:((iE f k).length+new.length)*bt≤140737488355328):
  aq P ⟨dst,.call ⟨.builtin .append,#[x,y],#[st,xt]⟩,ty,pos,ar,g⟩ env (own++cj f) (.gs f.next ((iE f k).length+new.length)) (vt own f k new):=by
 have hid:ae.get (own++cj f) f.next=none:=by
  rw[ae.get_append];have:own.get f.next=none:=by
   cases h:own.get f.next with
   |none=>rfl
   |some o=>have:=qO eu f.next (ae.gO.2 ⟨o,h⟩);have:=f.hn;omega
  rw[this];exact aaG f
 have:=k_ (dst:=dst) (ty:=ty) (pos:=pos) (ar:=ar) (g:=g) f.next hu jz hs jT hz v_ nM Af hx (aay f k own eu Ho hl) zS hy hid (by simpa using lD);simp only[List.length_map]at this;exact this
theorem GD{own:ae}{f:bk}{k:aa}{new:List aa}{m:Nat}(hm:m<99):(vt own f k new).get m=ae.get (own++cj f) m:=by
 have h1:=aaz f k;have h2:=f.hn;unfold vt;rw[ae.aZ,if_neg zO,ae.dU,if_neg zO]
theorem Bq{own:ae}{f:bk}{m:Nat}{o:Ob}(h:own.get m=some o):ae.get (own++cj f) m=some o:=by
 rw[ae.get_append,h]
theorem M_{own iZ:ae}{f:bk}{k:aa}{new:List aa}{m:Nat}{o':Ob}(hm:m<99)(eu:kR 0 own=true):∀i x,(cj (f.add k new)).get i=some x→ae.get ((99,.arr 1 [])::(vt own f k new).set m o') i=some x∧x.okB (ae.has (iZ++cj (f.add k new)))=true:=by
 intro i x h;refine⟨?_,GH _ _ i x h⟩;obtain⟨e,he,rfl,rfl⟩:=zR _ h;have HZ:=(f.add k new).lo e he;rw[ae.aZ,if_neg zO,ae.dU,if_neg zO];unfold vt;rw[ae.aZ];rcases Ty f.nd (fun e h=>(f.lo e h).1) he with rfl|⟨h1,h2⟩
 ·rw[if_pos rfl];simp[FE.ob,h_]
 ·have:=f.lo e h1;rw[if_neg zO,ae.dU,if_neg (fun c=>h2 c.symm)];exact sM eu (xz f) _ _ (xy f h1)
end Go.T
namespace Go.T
open Go
variable[bV]
variable{P:Program} {env:Env} {dst:Option Tmp} {ty:TypeId} {pos:String} {ar:Array Edge} {g:Option (Nat×Bool)}
theorem xA{own:ae}{f:bk}{i:Nat}(h:own.get i=none)(hi:Nat.blt i 1000=true):ae.get (own++cj f) i=none:=by
 rw[ae.get_append,h];exact GG f i (by simpa[Nat.blt_eq]using hi)
theorem J8(pre:ae):∀(a b:ae),ae.rest (a++b) pre=ae.rest a pre++ae.rest b pre
 |[],b=>rfl
 |(t,d)::a,b=>by
  rw[List.cons_append];simp only[ae.rest];cases pre.has t with
  |true=>rw[cond_true,cond_true];exact J8 pre a b
  |false=>rw[cond_false,cond_false,J8 pre a b];rfl
theorem Th{pre:ae}:∀{b:ae},(∀p∈b,pre.has p.1=false)→ae.rest b pre=b
 |[],_=>rfl
 |(t,d)::b,h=>by
  simp only[ae.rest];rw[h (t,d) List.mem_cons_self,cond_false,Th fun p hp=>h p (List.mem_cons_of_mem _ hp)]
theorem ae7{pre:ae}(eu:kR 0 pre=true){i:Nat}(hi:100≤i):pre.has i=false:=by
 cases h:pre.has i with
 |false=>rfl
 |true=>have:=qO eu i h;omega
theorem aaE{f:bk}{p:Nat×Ob}(h:p∈cj f):1000≤p.1:=by
 obtain⟨e,he,rfl⟩:=List.mem_map.1 h;exact(f.lo e he).1
theorem BB{fn:FuncId}{xs:List Operand}{tys:Array TypeId}{ds:List D}{r:D}{pre post own:ae}{f:bk}
  (gh:∀(args:Array Value)(w:World),(callFunc fn args).run P w=.ok (.enter fn args) w)(hx:env.jY xs=some ds)(hf:dv P fn ds pre r post)(eu:kR 0 pre=true)(hip:kR 0 post=true)(e8:gX pre (own++cj f) pre)(vK:D.okB.eV pre.has ds=true)(mg:rM post (own.rest pre)=true):
  aq P ⟨dst,.call ⟨.value (.func fn),xs.toArray,tys⟩,ty,pos,ar,g⟩ env (own++cj f) r (post++(own.rest pre++cj f)):=by
 have e1:ae.rest (own++cj f) pre=own.rest pre++cj f:=by
  rw[J8,Th (b:=cj f) fun p hp=>ae7 eu (by have:=aaE hp;omega)]
 have e2:rM post (own.rest pre++cj f)=true:=by
  unfold rM at mg⊢;rw[List.all_eq_true]at mg⊢;intro p hp;have h1:=mg p hp;have h2:=qO hip p.1 (Hx (List.mem_map.2 ⟨p,hp,rfl⟩));simp only[Bool.not_eq_true',ae.has,ae.get_append]at h1⊢;cases h3:ae.get (own.rest pre) p.1 with
  |some o=>rw[h3]at h1;simp at h1
  |none=>simp[GG f p.1 zO]
 have:=gE (dst:=dst) (ty:=ty) (pos:=pos) (ar:=ar) (g:=g) (tys:=tys) (U:=own++cj f) gh hx hf e8 vK (by rw[e1];exact e2);rw[e1]at this;exact this
theorem ahJ{fn:FuncId}{xs:List Operand}{tys:Array TypeId}{ds:List D}{r:D}{own:ae}{f:bk}{e:FE}{o':Ob}(he:e∈f.ck)(eu:kR 0 own=true)
  (gh:∀(args:Array Value)(w:World),(callFunc fn args).run P w=.ok (.enter fn args) w)(hx:env.jY xs=some ds)(hf:dv P fn ds [(e.id,e.ob)] r [(e.id,o')])(vK:D.okB.eV (ae.has [(e.id,e.ob)]) ds=true):
  aq P ⟨dst,.call ⟨.value (.func fn),xs.toArray,tys⟩,ty,pos,ar,g⟩ env (own++cj f) r ((e.id,o')::ae.rest (own++cj f) [(e.id,e.ob)]):=
 gE gh hx hf (.cons (vv (iZ:=own) f eu _ _ (xy f he)).1 (by unfold FE.ob;split<;>rfl) .nil) vK (by
  simp only[rM,List.all_cons,List.all_nil,Bool.and_true,Bool.not_eq_true'];cases h:ae.has (ae.rest (own++cj f) [(e.id,e.ob)]) e.id with
  |false=>rfl
  |true=>
   obtain⟨x,hx⟩:=ae.gO.1 h;rw[ae.qy]at hx;simp[ae.has,ae.aZ]at hx)
def oV:List FE→Nat→List FE
 |[],_=>[]
 |e::l,0=>{e with live:=false}::l
 |e::l,j+1=>e::oV l j
theorem Iy:∀(l:List FE)(j:Nat),(oV l j).map (·.id)=l.map (·.id)
 |[],_=>rfl
 |_::_,0=>rfl
 |e::l,j+1=>by rw[oV,List.map_cons,Iy l j,List.map_cons]
theorem P2:∀(l:List FE)(j:Nat),(oV l j).map (fun e=>(e.key,(e.id,e.rows.length)))=l.map (fun e=>(e.key,(e.id,e.rows.length)))
 |[],_=>rfl
 |_::_,0=>rfl
 |e::l,j+1=>by rw[oV,List.map_cons,P2 l j,List.map_cons]
theorem P1:∀(l:List FE)(j i:Nat),(oV l j)[i]?=if i=j then(l[i]?).map (fun e=>{e with live:=false})else l[i]?
 |[],_,i=>by simp[oV]
 |e::l,0,0=>by simp[oV]
 |e::l,0,i+1=>by simp[oV]
 |e::l,j+1,0=>by simp[oV]
 |e::l,j+1,i+1=>by
  simp only[oV,List.getElem?_cons_succ,P1 l j i,Nat.add_right_cancel_iff]
def bk.kill(f:bk)(j:Nat):bk:=⟨f.next,oV f.ck j,fun e h=>by
 obtain⟨e',h1,h2⟩:=List.mem_map.1 ((Iy f.ck j)▸List.mem_map.2 ⟨e,h,rfl⟩:e.id∈f.ck.map (·.id));rw[←h2];exact f.lo e' h1,by rw[Iy];exact f.nd,f.hn⟩
theorem aaB(f:bk)(j:Nat):ew (f.kill j)=ew f:=P2 f.ck j
theorem P3(f:bk)(j i:Nat):(f.kill j).ck[i]?=if i=j then(f.ck[i]?).map (fun e=>{e with live:=false})else f.ck[i]?:=P1 ..
theorem M9{U iZ:ae}{f:bk}{j:Nat}{e:FE}(hj:f.ck[j]?=some e)(hd:U.get e.id=some .dead)(ho:∀i x,i≠e.id→(cj f).get i=some x→U.get i=some x):∀i x,(cj (f.kill j)).get i=some x→U.get i=some x∧x.okB (ae.has (iZ++cj (f.kill j)))=true:=by
 intro i x h;refine⟨?_,GH _ _ i x h⟩;obtain⟨e',he,rfl,rfl⟩:=zR _ h;obtain⟨i',jQ⟩:=List.getElem?_of_mem he;rw[P3]at jQ;by_cases c:i'=j
 ·subst c;rw[if_pos rfl,hj]at jQ;cases jQ;exact hd
 ·rw[if_neg c]at jQ;have hm:=List.mem_of_getElem? jQ;refine ho _ _ (fun c2=>c ?_) (xy f hm)
  -- ids are distinct
  have h1:(f.ck.map (·.id))[i']?=some e.id:=by rw[List.getElem?_map,jQ];simp[c2]
  have h2:(f.ck.map (·.id))[j]?=some e.id:=by rw[List.getElem?_map,hj];rfl
  obtain⟨a1,b1⟩:=List.getElem?_eq_some_iff.1 h1;obtain⟨a2,b2⟩:=List.getElem?_eq_some_iff.1 h2;have hp:=List.pairwise_iff_getElem.1 f.nd;rcases Nat.lt_trichotomy i' j with h3|h3|h3
  ·exact absurd (b1.trans b2.symm) (hp _ _ a1 a2 h3)
  ·exact h3
  ·exact absurd (b2.trans b1.symm) (hp _ _ a2 a1 h3)
end Go.T
namespace Go.T
open Go
theorem ai1{u:UM}{Ls:List (List aa)}(h:e5 u Ls)(x:aa):e5 (dc u x) ([x]::Ls):=by
 obtain⟨a1,a2,a3,a4⟩:=Cn h.pz x;have kE:∀y,named ([x]::Ls) y↔y=x∨named Ls y:=fun y=>by
  constructor
  ·rintro⟨l,hl,hy⟩;rcases List.mem_cons.1 hl with rfl|hl
   ·exact .inl (List.mem_singleton.1 hy)
   ·exact .inr ⟨l,hl,hy⟩
  ·rintro(rfl|⟨l,hl,hy⟩)
   ·exact⟨_,List.mem_cons_self,List.mem_singleton.2 rfl⟩
   ·exact⟨l,List.mem_cons_of_mem _ hl,hy⟩
 have cE:∀{y z:aa},fP ([x]::Ls) y z→fP Ls y z:=fun hc=>by
  induction hc with
  |refl x=>exact .refl x
  |symm _ ih=>exact .symm ih
  |trans _ _ ih mZ=>exact .trans ih mZ
  |one hl hx hy=>
   rcases List.mem_cons.1 hl with rfl|hl
   ·rw[List.mem_singleton.1 hx,List.mem_singleton.1 hy];exact .refl _
   ·exact .one hl hx hy
 have cU:∀{y z:aa},fP Ls y z→fP ([x]::Ls) y z:=fun hc=>hc.mono fun l hl=>⟨l,List.mem_cons_of_mem _ hl,fun _=>id⟩;refine⟨a1,fun y=>(a2 y).trans ((or_congr Iff.rfl (h.keys y)).trans (kE y).symm),fun y z hy hz=>?_,Li x h.nd⟩;by_cases jA:y∈aD u<;>by_cases jB:z∈aD u
 ·rw[a3 y jA,a3 z jB];exact(h.conn y z jA jB).trans ⟨cU,cE⟩
 ·obtain rfl:z=x:=((a2 z).1 hz).resolve_right jB;rw[a3 y jA,a4 jB];obtain⟨rk,hf⟩:=h.pz.vA;refine⟨fun e=>absurd ((hf.y5 _ y rfl jA).1) (by rw[e];exact jB),fun hc=>?_⟩;rcases(cE hc).named with rfl|⟨_,h2⟩
  ·exact absurd jA jB
  ·exact absurd ((h.keys _).2 h2) jB
 ·obtain rfl:y=x:=((a2 y).1 hy).resolve_right jA;rw[a3 z jB,a4 jA];obtain⟨rk,hf⟩:=h.pz.vA;refine⟨fun e=>absurd ((hf.y5 _ z rfl jB).1) (by rw[←e];exact jA),fun hc=>?_⟩;rcases(cE hc).named with rfl|⟨h2,_⟩
  ·exact absurd jB jA
  ·exact absurd ((h.keys _).2 h2) jA
 ·obtain rfl:y=x:=((a2 y).1 hy).resolve_right jA;obtain rfl:z=y:=((a2 z).1 hz).resolve_right jB;exact⟨fun _=>.refl _,fun _=>rfl⟩
def ma(l:List Fact)(k:aa):List aa:=((l.filter fun f=>decide (f.key=k)).map cq).flatten
theorem XJ(l:List Fact)(x:Fact)(k:aa):ma (l++[x]) k=ma l k++if x.key=k then cq x else[]:=by
 unfold ma;by_cases h:x.key=k
 ·simp[List.filter_append,h]
 ·simp[List.filter_append,h]
structure uX(fm:bk)(l:List Fact):Prop where
 live:∀e∈fm.ck,e.live=true
 rows:∀k,iE fm k=ma l k
 keys:∀k,k∈fm.ck.map (·.key)↔k∈l.map (·.key)
 nd:(fm.ck.map (·.key)).Nodup
theorem aaA:uX bk.empty []:=⟨by simp[bk.empty],fun k=>rfl,by simp[bk.empty],by simp[bk.empty]⟩
theorem EP{k:aa}{i:Nat}{r:List aa}:∀(l:List FE)(y:aa),y∈(jj l k i r).map (·.key)↔y=k∨y∈l.map (·.key)
 |[],y=>by simp[jj]
 |e::l,y=>by
  simp only[jj];split
  ·rename_i c;subst c;simp
  ·simp only[List.map_cons,List.mem_cons,EP l y];constructor
   ·rintro(h|h|h)
    ·exact .inr (.inl h)
    ·exact .inl h
    ·exact .inr (.inr h)
   ·rintro(h|h|h)
    ·exact .inr (.inl h)
    ·exact .inl h
    ·exact .inr (.inr h)
theorem Kf{k:aa}{i:Nat}{r:List aa}:∀(l:List FE),(l.map (·.key)).Nodup→((jj l k i r).map (·.key)).Nodup
 |[],_=>by simp[jj]
 |e::l,h=>by
  rw[List.map_cons,List.nodup_cons]at h;simp only[jj];split
  ·rename_i c;subst c;rw[List.map_cons,List.nodup_cons];exact h
  ·rename_i c;rw[List.map_cons,List.nodup_cons];refine⟨fun h2=>?_,Kf l h.2⟩;rcases(EP l _).1 h2 with h3|h3
   ·exact c h3.symm
   ·exact h.1 h3
theorem M6(f:bk)(k:aa)(new:List aa)(y:aa):iE (f.add k new) y=if y=k then iE f k++new else iE f y:=by
 have key:∀(r:List aa)(i:Nat)(l:List FE),((((jj l k i r).find? fun e=>decide (y=e.key)).map (·.rows)).getD [])=if y=k then r else(((l.find? fun e=>decide (y=e.key)).map (·.rows)).getD []):=by
  intro r i l;induction l with
  |nil=>
   simp only[jj,List.find?_cons];by_cases c:y=k<;>simp[c]
  |cons e l ih=>
   simp only[jj];by_cases c:k=e.key
   ·rw[if_pos c];by_cases d:y=k
    ·rw[List.find?_cons_of_pos (by simpa using d)];simp[d]
    ·rw[List.find?_cons_of_neg (by simpa using d),List.find?_cons_of_neg (by simpa[←c]using d),if_neg d]
   ·rw[if_neg c];by_cases d:y=e.key
    ·rw[List.find?_cons_of_pos (by simpa using d),List.find?_cons_of_pos (by simpa using d),if_neg (fun(e2:y=k)=>c (e2.symm.trans d))]
    ·rw[List.find?_cons_of_neg (by simpa using d),List.find?_cons_of_neg (by simpa using d),ih]
 exact key _ _ _
theorem uX.add{fm:bk}{l:List Fact}(h:uX fm l)(x:Fact):uX (fm.add x.key (cq x)) (l++[x]):=by
 refine⟨fun e he=>?_,fun k=>?_,fun k=>?_,Kf _ h.nd⟩
 ·rcases BP he with he|rfl
  ·exact h.live e he
  ·rfl
 ·rw[M6,XJ,h.rows k,h.rows x.key];by_cases c:k=x.key
  ·rw[if_pos c,if_pos c.symm,c]
  ·rw[if_neg c,if_neg (fun e=>c e.symm),List.append_nil]
 ·have:=EP (k:=x.key) (i:=fm.next) (r:=iE fm x.key++cq x) fm.ck k;show k∈(jj _ _ _ _).map (·.key)↔_;rw[this,h.keys k];simp[or_comm]
theorem yL(own:ae)(f:bk):(Ob.mp (aS D.str gZ (ew f))).okB (ae.has (own++cj f))=true:=by
 have hid:∀e∈f.ck,ae.has (own++cj f) e.id=true:=fun e he=>by
  have h1:=xy f he;simp only[ae.has,ae.get_append];cases own.get e.id<;>simp[h1]
 have key:∀(l:List FE),(∀e∈l,ae.has (own++cj f) e.id=true)→(Ob.mp (aS D.str gZ (l.map fun e=>(e.key,(e.id,e.rows.length))))).okB (ae.has (own++cj f))=true:=by
  intro l hl;induction l with
  |nil=>rfl
  |cons e l ih=>
   have h1:=ih fun e he=>hl e (List.mem_cons_of_mem _ he);have h2:=hl e List.mem_cons_self;simp only[Ob.okB,aS,List.map_cons,D.okB.eV,D.okB,Bool.and_eq_true,Bool.true_and]at h1⊢;exact⟨h1.1,h2,h1.2⟩
 exact key f.ck hid
def jX(f:bk)(seen:List Nat):bk:=seen.foldl bk.kill f
theorem DT(f:bk)(seen:List Nat)(j:Nat):jX f (seen++[j])=(jX f seen).kill j:=by simp[jX]
theorem aaC(seen:List Nat):∀f:bk,ew (jX f seen)=ew f:=by
 induction seen with
 |nil=>intro f;rfl
 |cons j seen ih=>intro f;show ew (jX (f.kill j) seen)=_;rw[ih,aaB]
theorem P0(seen:List Nat):∀(f:bk)(j:Nat),j∉seen→(jX f seen).ck[j]?=f.ck[j]?:=by
 induction seen with
 |nil=>intro f j _;rfl
 |cons i seen ih=>
  intro f j hj;show(jX (f.kill i) seen).ck[j]?=_;rw[ih _ _ (fun h=>hj (List.mem_cons_of_mem _ h)),P3,if_neg (fun(h:j=i)=>hj (h▸List.mem_cons_self))]
theorem M8{f:bk}{j:Nat}{k:aa}{v:Nat×Nat}(h:(ew f)[j]?=some (k,v)):∃e,f.ck[j]?=some e∧e.key=k∧v=(e.id,e.rows.length):=by
 unfold ew at h;rw[List.getElem?_map,Option.map_eq_some_iff]at h;obtain⟨e,h1,h2⟩:=h;cases h2;exact⟨e,h1,rfl,rfl⟩
def wV(f:bk)(j:Nat):Option (List aa):=(f.ck[j]?).map (·.rows)
theorem aiK{f:bk}{seen:List Nat}{j:Nat}{e:FE}(h:f.ck[j]?=some e):(seen++[j]).filterMap (wV f)=seen.filterMap (wV f)++[e.rows]:=by
 simp[List.filterMap_append,wV,h]
theorem e5.perm{u:UM}{Ls rD:List (List aa)}(h:e5 u Ls)(hp:∀l,l∈Ls↔l∈rD):e5 u rD:=
 h.mono (fun l hl=>⟨l,(hp l).1 hl,fun _=>id⟩) (fun l hl=>⟨l,(hp l).2 hl,fun _=>id⟩)
theorem e5.join{u:UM}{Ls:List (List aa)}(h:e5 u Ls)(l:List aa):e5 (tY u l) (Ls++[l]):=(Ts h l).perm fun x=>by simp[or_comm]
theorem e5.add{u:UM}{Ls:List (List aa)}(h:e5 u Ls)(x:aa):e5 (dc u x) (Ls++[[x]]):=(ai1 h x).perm fun y=>by simp[or_comm]
def gL(s:Setup)(l:List Fact):List (List aa):=(s.insts.map fun x=>[x.id])++l.map cq++l.map fun f=>ma l f.key
theorem MT{fm:bk}{l:List Fact}(h:uX fm l){j:Nat}{e:FE}(hj:fm.ck[j]?=some e):e.rows=ma l e.key:=by
 have he:=List.mem_of_getElem? hj;rw[←h.rows e.key];unfold iE vu;have:fm.ck.find? (fun x=>decide (e.key=x.key))=some e:=by
  have hn:=h.nd
  revert he hn
  induction fm.ck with
  |nil=>intro he;cases he
  |cons a r ih=>
   intro he hn;rw[List.map_cons,List.nodup_cons]at hn;rcases List.mem_cons.1 he with rfl|he
   ·rw[List.find?_cons_of_pos zS]
   ·rw[List.find?_cons_of_neg,ih he hn.2];simp only[decide_eq_true_eq];intro c;exact hn.1 (c▸List.mem_map.2 ⟨e,he,rfl⟩)
 rw[this];rfl
theorem Mx{s:Setup}{l:List Fact}{fm:bk}{u:UM}{seen:List Nat}(h:uX fm l)(ez:∀j,j<(ew fm).length→j∈seen)
  (hu:e5 u ((s.insts.map fun x=>[x.id])++l.map cq++seen.filterMap (wV fm))):e5 u (gL s l):=by
 refine hu.perm fun x=>?_;unfold gL;rw[List.mem_append,List.mem_append (s:=_++_)];refine or_congr Iff.rfl ?_;rw[List.mem_filterMap,List.mem_map];constructor
 ·rintro⟨j,_,hj⟩;unfold wV at hj;obtain⟨e,h1,rfl⟩:=Option.map_eq_some_iff.1 hj;have hk:=(h.keys e.key).1 (List.mem_map.2 ⟨e,List.mem_of_getElem? h1,rfl⟩);obtain⟨f,hf,e2⟩:=List.mem_map.1 hk;exact⟨f,hf,by rw[e2,MT h h1]⟩
 ·rintro⟨f,hf,rfl⟩;obtain⟨e,he,e2⟩:=List.mem_map.1 ((h.keys f.key).2 (List.mem_map.2 ⟨f,hf,rfl⟩));obtain⟨j,hj⟩:=List.getElem?_of_mem he;refine⟨j,ez j (by unfold ew;rw[List.length_map];exact(List.getElem?_eq_some_iff.1 hj).1),?_⟩;unfold wV;rw[hj];show some e.rows=_;rw[MT h hj,e2]
theorem XL{l:List Fact}{n:Nat}(h:∀f∈l,f.opts.length≤n)(k:aa):(ma l k).length≤l.length*(2+n):=by
 induction l with
 |nil=>simp[ma]
 |cons f r ih=>
  have h1:=ih fun g hg=>h g (List.mem_cons_of_mem _ hg);have h2:=DN f;have h3:=h f List.mem_cons_self;have e:ma (f::r) k=(if f.key=k then cq f else[])++ma r k:=by
   unfold ma;by_cases c:f.key=k<;>simp[c]
  rw[e,List.length_append,List.length_cons,Nat.add_mul,Nat.one_mul];split
  ·omega
  ·simp;omega
theorem aeZ(a b c:aa):decide (a≤b)=true→decide (b≤c)=true→decide (a≤c)=true:=by
 simp only[decide_eq_true_eq];exact List.le_trans
theorem aeY(a b:aa):(decide (a≤b)||decide (b≤a))=true:=by
 simp only[Bool.or_eq_true,decide_eq_true_eq];exact List.le_total a b
theorem uG(l:List aa):(eW l).Pairwise fun a b=>a≤b:=(List.pairwise_mergeSort aeZ aeY l).imp fun h=>of_decide_eq_true h
theorem EY{a b:List aa}(h:a.Perm b)(ha:a.Pairwise fun x y=>x≤y)(hb:b.Pairwise fun x y=>x≤y):a=b:=
 List.Perm.eq_of_pairwise (fun _ _ _ _ h1 h2=>List.le_antisymm h1 h2) ha hb h
theorem Kt{a b:List aa}(h:a.Perm b):eW a=eW b:=
 EY ((ll a).trans (h.trans (ll b).symm)) (uG a) (uG b)
theorem ahn{a b:List aa}(ha:a.Nodup)(hb:b.Nodup)(h:∀x,x∈a↔x∈b):a.Perm b:=(List.perm_ext_iff_of_nodup ha hb).2 h
noncomputable def iP(u:UM)(x:aa):List aa:=eW ((aD u).filter fun y=>decide (aF u y=aF u x))
noncomputable def kS(u:UM)(x:aa):Bool:=(aD u).all fun y=>decide (aF u y=aF u x→x≤y)
noncomputable def fG(u:UM):List (List aa):=(eW ((aD u).filter (kS u))).map (iP u)
theorem ai3{u u':UM}{Ls:List (List aa)}(h:e5 u Ls)(h':e5 u' Ls):fG u=fG u':=by
 have hp:(aD u).Perm (aD u'):=ahn h.nd h'.nd fun x=>(h.keys x).trans (h'.keys x).symm;have hm:∀x,x∈aD u↔x∈aD u':=fun x=>hp.mem_iff;have hr:∀x∈aD u,∀y∈aD u,(aF u y=aF u x↔aF u' y=aF u' x):=fun x hx y hy=>(h.conn y x hy hx).trans (h'.conn y x ((hm y).1 hy) ((hm x).1 hx)).symm;have hl:∀x∈aD u,kS u x=kS u' x:=fun x hx=>by
  rw[Bool.eq_iff_iff];unfold kS;simp only[List.all_eq_true,decide_eq_true_eq];constructor
  ·intro g y hy e;exact g y ((hm y).2 hy) ((hr x hx y ((hm y).2 hy)).2 e)
  ·intro g y hy e;exact g y ((hm y).1 hy) ((hr x hx y hy).1 e)
 have e1:eW ((aD u).filter (kS u))=eW ((aD u').filter (kS u')):=by
  refine Kt ?_;rw[List.filter_congr hl];exact hp.filter _
 unfold fG;rw[←e1];refine List.map_congr_left fun x hx=>?_;have j_:x∈aD u:=(List.mem_filter.1 ((ll _).mem_iff.1 hx)).1;unfold iP;refine Kt ?_;rw[List.filter_congr (q:=fun y=>decide (aF u' y=aF u' x)) fun y hy=>by rw[decide_eq_decide];exact hr x j_ y hy];exact hp.filter _
open Classical in
noncomputable def kI(Ls:List (List aa)):List (List aa):=if h:∃u,e5 u Ls then fG (Classical.choose h)else[]
theorem Hg{u:UM}{Ls:List (List aa)}(h:e5 u Ls):fG u=kI Ls:=by
 have hx:∃u,e5 u Ls:=⟨u,h⟩;unfold kI;rw[dif_pos hx];exact ai3 h (Classical.choose_spec hx)
abbrev vo(l:List (List aa)):D:=.snap 1 false ([.raw (.slice none 0 0)]::l.map fun r=>[D.snap 1 false (h_ r)])
end Go.T
namespace Go.T
open Go
theorem GF{own:ae}{f:bk}{k:aa}{new:List aa}{o' o:Ob}(i:Nat)(h:own.get i=some o)(h1:Nat.beq i 61=false)(h2:Nat.blt i 99=true):ae.get ((99,.arr 1 [])::(vt own f k new).set 61 o') i=some o:=by
 have h1:i≠61:=fun e=>by subst e;simp at h1
 have h2:i<99:=by simpa[Nat.blt_eq]using h2
 rw[ae.aZ,if_neg zO,ae.dU,if_neg zO,GD h2];exact Bq h
theorem M4{own:ae}{f:bk}{k:aa}{new:List aa}{o':Ob}:ae.get ((99,.arr 1 [])::(vt own f k new).set 61 o') 61=some o':=by
 rw[ae.aZ,if_neg zO,ae.dU,if_pos rfl]
theorem wB{f:bk}(own:ae)(seen:List Nat):(Ob.mp (aS D.str gZ (ew f))).okB (ae.has (own++cj (jX f seen)))=true:=by
 have:=yL own (jX f seen);rw[aaC]at this;exact this
theorem aaD{own:ae}{f:bk}{j:Nat}{e:FE}(eu:kR 0 own=true)(hj:f.ck[j]?=some e)(hl:e.live=true):ae.get (own++cj f) e.id=some (.arr 1 (h_ e.rows)):=by
 have h1:=xy f (List.mem_of_getElem? hj);have:=sM eu (xz f) _ _ h1;rw[this];unfold FE.ob;rw[if_pos hl]
theorem CX{own:ae}{f:bk}{j:Nat}{e:FE}{o:Ob}(i:Nat)(hj:f.ck[j]?=some e)(h:own.get i=some o)(hi:Nat.blt i 1000=true):ae.get ((own++cj f).set e.id .dead) i=some o:=by
 have:=(f.lo e (List.mem_of_getElem? hj)).1;have hi:i<1000:=by simpa[Nat.blt_eq]using hi
 rw[ae.dU,if_neg zO];exact Bq h
theorem aaF{own iZ:ae}{f:bk}{j:Nat}{e:FE}(eu:kR 0 own=true)(hj:f.ck[j]?=some e):∀i x,(cj (f.kill j)).get i=some x→ae.get ((own++cj f).set e.id .dead) i=some x∧x.okB (ae.has (iZ++cj (f.kill j)))=true:=
 M9 hj (by rw[ae.dU,if_pos rfl]) fun i x hi h=>by
  rw[ae.dU,if_neg (fun c=>hi c.symm)];exact sM eu (xz f) _ _ h
structure nA(fm:bk)(u:UM)(ks:List aa):Prop where
 live:∀e∈fm.ck,e.live=true
 rows:∀r,iE fm r=ks.filter fun k=>decide (aF u k=r)
 keys:∀r,r∈fm.ck.map (·.key)↔∃k∈ks,aF u k=r
 nd:(fm.ck.map (·.key)).Nodup
theorem aca(u:UM):nA bk.empty u []:=⟨by simp[bk.empty],fun k=>rfl,by simp[bk.empty],by simp[bk.empty]⟩
theorem nA.add{fm:bk}{u:UM}{ks:List aa}(h:nA fm u ks)(x:aa):nA (fm.add (aF u x) [x]) u (ks++[x]):=by
 refine⟨fun e he=>?_,fun r=>?_,fun r=>?_,Kf _ h.nd⟩
 ·rcases BP he with he|rfl
  ·exact h.live e he
  ·rfl
 ·rw[M6,h.rows,h.rows,List.filter_append];by_cases c:r=aF u x
  ·rw[if_pos c,←c];congr 1;simp[c]
  ·rw[if_neg c];have:¬aF u x=r:=fun e=>c e.symm;simp[this]
 ·show r∈(jj _ _ _ _).map (·.key)↔_;rw[EP,h.keys r];constructor
  ·rintro(rfl|⟨k,hk,e⟩)
   ·exact⟨x,by simp,rfl⟩
   ·exact⟨k,by simp[hk],e⟩
  ·rintro⟨k,hk,e⟩;rcases List.mem_append.1 hk with hk|hk
   ·exact .inr ⟨k,hk,e⟩
   ·left;rw[List.mem_singleton.1 hk]at e;exact e.symm
theorem Dl{fm:bk}{u:UM}{ks:List aa}(h:nA fm u ks){j:Nat}{e:FE}(hj:fm.ck[j]?=some e):e.rows=ks.filter fun k=>decide (aF u k=e.key):=by
 have he:=List.mem_of_getElem? hj;rw[←h.rows e.key];unfold iE vu;have:fm.ck.find? (fun x=>decide (e.key=x.key))=some e:=by
  have hn:=h.nd
  revert he hn
  induction fm.ck with
  |nil=>intro he;cases he
  |cons a r ih=>
   intro he hn;rw[List.map_cons,List.nodup_cons]at hn;rcases List.mem_cons.1 he with rfl|he
   ·rw[List.find?_cons_of_pos zS]
   ·rw[List.find?_cons_of_neg,ih he hn.2];simp only[decide_eq_true_eq];intro c;exact hn.1 (c▸List.mem_map.2 ⟨e,he,rfl⟩)
 rw[this];rfl
theorem EX{l:List aa}(h:l≠[]):(eW l).headD []∈l∧∀y∈l,(eW l).headD []≤y:=by
 have hp:=ll l;have hw:=uG l;cases e:eW l with
 |nil=>
  rw[e]at hp;exact absurd (List.length_eq_zero_iff.1 hp.length_eq.symm) h
 |cons a r=>
  rw[e]at hp hw;refine⟨hp.mem_iff.1 List.mem_cons_self,fun y hy=>?_⟩;rcases List.mem_cons.1 (hp.mem_iff.2 hy)with rfl|hy
  ·exact List.le_refl _
  ·exact(List.pairwise_cons.1 hw).1 y hy
theorem tv{u:UM}{x:aa}(hx:x∈aD u):x∈(aD u).filter fun y=>decide (aF u y=aF u x):=List.mem_filter.2 ⟨hx,by simp⟩
theorem LV{u:UM}{x:aa}(hx:x∈aD u)(hl:kS u x=true):(iP u x).headD []=x:=by
 have aB:((aD u).filter fun y=>decide (aF u y=aF u x))≠[]:=List.ne_nil_of_mem (tv hx);obtain⟨h1,h2⟩:=EX aB;obtain⟨h3,h4⟩:=List.mem_filter.1 h1;unfold kS at hl;simp only[List.all_eq_true,decide_eq_true_eq]at hl;exact List.le_antisymm (h2 x (tv hx)) (hl _ h3 (of_decide_eq_true h4))
theorem qV{u:UM}{x:aa}:x∈eW ((aD u).filter (kS u))↔x∈aD u∧kS u x=true:=by
 rw[qW,List.mem_filter]
theorem Hh(u:UM):(fG u).map (·.headD [])=eW ((aD u).filter (kS u)):=by
 unfold fG;rw[List.map_map];conv=>rhs;rw[←List.map_id (eW ((aD u).filter (kS u)))]
 refine List.map_congr_left fun x hx=>?_;have:=qV.1 hx;exact LV this.1 this.2
def gN(fm:bk)(seen:List Nat):List (List aa):=seen.filterMap fun j=>(fm.ck[j]?).map fun e=>eW e.rows
theorem NO{fm:bk}{seen:List Nat}{j:Nat}{e:FE}(h:fm.ck[j]?=some e):gN fm (seen++[j])=gN fm seen++[eW e.rows]:=by
 simp[gN,List.filterMap_append,h]
theorem Hj{u:UM}{ks:List aa}(hp:ks.Perm (aD u))(r:aa):eW (ks.filter fun k=>decide (aF u k=r))=eW ((aD u).filter fun k=>decide (aF u k=r)):=Kt (hp.filter _)
theorem I6{fm:bk}{u:UM}{ks:List aa}{seen:List Nat}(h:nA fm u ks)(hp:ks.Perm (aD u)){l:List aa}(hl:l∈gN fm seen):∃x∈aD u,kS u x=true∧l=iP u x:=by
 unfold gN at hl;obtain⟨j,_,hj⟩:=List.mem_filterMap.1 hl;obtain⟨e,he,rfl⟩:=Option.map_eq_some_iff.1 hj;obtain⟨k,hk,hr⟩:=(h.keys e.key).1 (List.mem_map.2 ⟨e,List.mem_of_getElem? he,rfl⟩);rw[Dl h he,Hj hp,←hr];have rY:k∈aD u:=hp.mem_iff.1 hk;have aB:((aD u).filter fun y=>decide (aF u y=aF u k))≠[]:=List.ne_nil_of_mem (tv rY);obtain⟨h1,h2⟩:=EX aB;generalize (eW ((aD u).filter fun y=>decide (aF u y=aF u k))).headD []=x at h1 h2;obtain⟨h3,h4⟩:=List.mem_filter.1 h1;have h4:aF u x=aF u k:=by simpa using h4
 refine⟨x,h3,?_,by unfold iP;rw[h4]⟩;unfold kS;simp only[List.all_eq_true,decide_eq_true_eq];exact fun y hy e=>h2 y (List.mem_filter.2 ⟨hy,by simpa[h4]using e⟩)
theorem abh{fm:bk}{u:UM}{ks:List aa}{seen:List Nat}(h:nA fm u ks)(hp:ks.Perm (aD u))(ez:∀j,j<(ew fm).length→j∈seen){x:aa}(hx:x∈aD u):iP u x∈gN fm seen:=by
 obtain⟨e,he,hk⟩:=List.mem_map.1 ((h.keys (aF u x)).2 ⟨x,hp.mem_iff.2 hx,rfl⟩);obtain⟨j,hj⟩:=List.getElem?_of_mem he;unfold gN;refine List.mem_filterMap.2 ⟨j,ez j (by unfold ew;rw[List.length_map];exact(List.getElem?_eq_some_iff.1 hj).1),?_⟩;rw[hj];show some (eW e.rows)=_;rw[Dl h hj,Hj hp,hk];rfl
theorem acM{u:UM}{x:aa}(hx:x∈aD u):aF u ((iP u x).headD [])=aF u x:=by
 have aB:((aD u).filter fun y=>decide (aF u y=aF u x))≠[]:=List.ne_nil_of_mem (tv hx);exact of_decide_eq_true (List.mem_filter.1 (EX aB).1).2
theorem abk{fm:bk}{u:UM}{ks:List aa}(h:nA fm u ks)(hp:ks.Perm (aD u))(seen:List Nat):(gN fm seen).map (fun l=>aF u (l.headD []))=seen.filterMap fun j=>(fm.ck[j]?).map (·.key):=by
 unfold gN;rw[List.map_filterMap]
 congr 1
 funext j
 cases hj:fm.ck[j]?with
 |none=>rfl
 |some e=>
  simp only[Option.map_some,Option.some.injEq];obtain⟨k,hk,hr⟩:=(h.keys e.key).1 (List.mem_map.2 ⟨e,List.mem_of_getElem? hj,rfl⟩);rw[Dl h hj,Hj hp,←hr];exact acM (hp.mem_iff.1 hk)
theorem G2{fm:bk}{u:UM}{ks:List aa}(h:nA fm u ks)(hp:ks.Perm (aD u)){seen:List Nat}(hs:seen.Nodup):((gN fm seen).map (·.headD [])).Nodup:=by
 have h1:((gN fm seen).map (fun l=>aF u (l.headD []))).Nodup:=by
  rw[abk h hp];refine List.Pairwise.filterMap _ (fun i j Ao a ha b hb e=>Ao ?_) hs;obtain⟨x,hx,rfl⟩:=Option.map_eq_some_iff.1 ha;obtain⟨y,hy,rfl⟩:=Option.map_eq_some_iff.1 hb;have h1:(fm.ck.map (·.key))[i]?=some x.key:=by rw[List.getElem?_map,hx];rfl
  have h2:(fm.ck.map (·.key))[j]?=some x.key:=by rw[List.getElem?_map,hy];exact congrArg some e.symm
  obtain⟨a1,b1⟩:=List.getElem?_eq_some_iff.1 h1;obtain⟨a2,b2⟩:=List.getElem?_eq_some_iff.1 h2;have hq:=List.pairwise_iff_getElem.1 h.nd;rcases Nat.lt_trichotomy i j with h3|h3|h3
  ·exact absurd (b1.trans b2.symm) (hq _ _ a1 a2 h3)
  ·exact h3
  ·exact absurd (b2.trans b1.symm) (hq _ _ a2 a1 h3)
 have h2:(((gN fm seen).map (·.headD [])).map (aF u)).Nodup:=by rw[List.map_map];exact h1
 exact(List.pairwise_map.1 h2).imp fun aB e=>aB (congrArg _ e)
theorem abj{fm:bk}{u:UM}{ks:List aa}{seen:List Nat}(h:nA fm u ks)(hp:ks.Perm (aD u))(hn:(aD u).Nodup)(hs:seen.Nodup)(ez:∀j,j<(ew fm).length→j∈seen):(fG u).Perm (gN fm seen):=by
 have n1:(fG u).Nodup:=by
  have:((fG u).map (·.headD [])).Nodup:=by
   rw[Hh];exact(ll _).nodup_iff.2 (hn.filter _)
  exact(List.pairwise_map.1 this).imp fun aB e=>aB (by rw[e])
 have n2:(gN fm seen).Nodup:=(List.pairwise_map.1 (G2 h hp hs)).imp fun aB e=>aB (by rw[e]);refine(List.perm_ext_iff_of_nodup n1 n2).2 fun l=>?_;constructor
 ·intro hl;unfold fG at hl;obtain⟨x,hx,rfl⟩:=List.mem_map.1 hl;exact abh h hp ez (qV.1 hx).1
 ·intro hl;obtain⟨x,hx,h1,rfl⟩:=I6 h hp hl;unfold fG;exact List.mem_map.2 ⟨x,qV.2 ⟨hx,h1⟩,rfl⟩
theorem abi{fm:bk}{u:UM}{ks:List aa}{seen:List Nat}(h:nA fm u ks)(hp:ks.Perm (aD u)):∀l∈gN fm seen,l≠[]:=fun l hl=>by
 obtain⟨x,hx,_,rfl⟩:=I6 h hp hl;have:x∈iP u x:=by unfold iP;rw[qW];exact tv hx
 exact List.ne_nil_of_mem this
theorem N8(u:UM):((fG u).map (·.headD [])).Pairwise fun a b=>a≤b:=by rw[Hh];exact uG _
theorem Oq{i j:Nat}{o:Ob}(h:i≠j):ae.has [(i,o)] j=false:=by
 show(ae.get [(i,o)] j).isSome=false;rw[ae.aZ,if_neg h];rfl
theorem abx{i:Nat}{o:Ob}{r:ae}:ae.get ((i,o)::r) i=some o:=by rw[ae.aZ,if_pos rfl]
abbrev M5(own:ae)(f:bk)(e:FE)(o':Ob):ae:=(e.id,o')::ae.rest (own++cj f) [(e.id,e.ob)]
theorem zT{own:ae}{f:bk}{j:Nat}{e:FE}{o' o:Ob}(i:Nat)(hj:f.ck[j]?=some e)(h:own.get i=some o)(hi:Nat.blt i 1000=true):ae.get ((M5 own f e o').set e.id .dead) i=some o:=by
 have:=(f.lo e (List.mem_of_getElem? hj)).1;have hi:i<1000:=by simpa[Nat.blt_eq]using hi
 rw[ae.dU,if_neg zO,ae.aZ,if_neg zO,ae.qy];have:ae.has [(e.id,e.ob)] i=false:=Oq zO;rw[this];exact Bq h
theorem aaH{own iZ:ae}{f:bk}{j:Nat}{e:FE}{o':Ob}(eu:kR 0 own=true)(hj:f.ck[j]?=some e):∀i x,(cj (f.kill j)).get i=some x→ae.get ((M5 own f e o').set e.id .dead) i=some x∧x.okB (ae.has (iZ++cj (f.kill j)))=true:=
 M9 hj (by rw[ae.dU,if_pos rfl]) fun i x hi h=>by
  rw[ae.dU,if_neg (fun c=>hi c.symm),ae.aZ,if_neg (fun c=>hi c.symm),ae.qy];have:ae.has [(e.id,e.ob)] i=false:=Oq fun c=>hi c.symm;rw[this];exact sM eu (xz f) _ _ h
def tZ(u:UM)(j:Nat):Option aa:=(u[j]?).map (·.1)
theorem ad9{u:UM}{seen:List Nat}{j:Nat}{k v:aa}(h:u[j]?=some (k,v)):(seen++[j]).filterMap (tZ u)=seen.filterMap (tZ u)++[k]:=by
 simp[List.filterMap_append,tZ,h]
theorem ad8{u:UM}{j:Nat}{k v:aa}(h:u[j]?=some (k,v)):k∈aD u:=List.mem_map.2 ⟨(k,v),List.mem_of_getElem? h,rfl⟩
theorem aea{u:UM}{seen:List Nat}(hn:(aD u).Nodup)(hs:seen.Nodup)(ez:∀j,j<u.length→j∈seen):(seen.filterMap (tZ u)).Perm (aD u):=by
 have n1:(seen.filterMap (tZ u)).Nodup:=by
  refine List.Pairwise.filterMap _ (fun i j Ao a ha b hb e=>Ao ?_) hs;have h1:(aD u)[i]?=some a:=by unfold aD;rw[List.getElem?_map];exact ha
  have h2:(aD u)[j]?=some a:=by unfold aD;rw[List.getElem?_map,e];exact hb
  obtain⟨a1,b1⟩:=List.getElem?_eq_some_iff.1 h1;obtain⟨a2,b2⟩:=List.getElem?_eq_some_iff.1 h2;have hq:=List.pairwise_iff_getElem.1 hn;rcases Nat.lt_trichotomy i j with h3|h3|h3
  ·exact absurd (b1.trans b2.symm) (hq _ _ a1 a2 h3)
  ·exact h3
  ·exact absurd (b2.trans b1.symm) (hq _ _ a2 a1 h3)
 refine(List.perm_ext_iff_of_nodup n1 hn).2 fun k=>?_;constructor
 ·intro h;obtain⟨j,_,hj⟩:=List.mem_filterMap.1 h;obtain⟨p,hp,rfl⟩:=Option.map_eq_some_iff.1 hj;exact List.mem_map.2 ⟨p,List.mem_of_getElem? hp,rfl⟩
 ·intro h;obtain⟨p,hp,rfl⟩:=List.mem_map.1 h;obtain⟨j,hj⟩:=List.getElem?_of_mem hp;exact List.mem_filterMap.2 ⟨j,ez j (List.getElem?_eq_some_iff.1 hj).1,by unfold tZ;rw[hj];rfl⟩
theorem ad7(u:UM)(seen:List Nat):(seen.filterMap (tZ u)).length≤seen.length:=List.length_filterMap_le _ _
theorem afG{l:List Fact}{k x:aa}(h:x∈ma l k):∃f∈l,x∈cq f:=by
 unfold ma at h;obtain⟨r,hr,hx⟩:=List.mem_flatten.1 h;obtain⟨f,hf,rfl⟩:=List.mem_map.1 hr;exact⟨f,(List.mem_filter.1 hf).1,hx⟩
theorem Gj{s:Setup}{l:List Fact}{x:aa}(h:named (gL s l) x):x∈(s.insts.map (·.id))++(l.map cq).flatten:=by
 obtain⟨r,hr,hx⟩:=h;unfold gL at hr;rw[List.mem_append,List.mem_append]at hr;rw[List.mem_append];rcases hr with(hr|hr)|hr
 ·obtain⟨i,hi,rfl⟩:=List.mem_map.1 hr;left;rw[List.mem_singleton.1 hx];exact List.mem_map.2 ⟨i,hi,rfl⟩
 ·exact .inr (List.mem_flatten.2 ⟨r,hr,hx⟩)
 ·obtain⟨f,hf,rfl⟩:=List.mem_map.1 hr;obtain⟨f',Am,j_⟩:=afG hx;exact .inr (List.mem_flatten.2 ⟨_,List.mem_map.2 ⟨f',Am,rfl⟩,j_⟩)
theorem aa6{l:List Fact}{n:Nat}(h:∀f∈l,f.opts.length≤n):(l.map cq).flatten.length≤l.length*(2+n):=by
 induction l with
 |nil=>simp
 |cons f r ih=>
  have h1:=ih fun g hg=>h g (List.mem_cons_of_mem _ hg);have h2:=DN f;have h3:=h f List.mem_cons_self;rw[List.map_cons,List.flatten_cons,List.length_append,List.length_cons,Nat.add_mul,Nat.one_mul];omega
theorem Yk{s:Setup}{l:List Fact}{u:UM}(hu:e5 u (gL s l))(hi:s.insts.length≤1000)(hl:l.length≤500)(ho:∀f∈l,f.opts.length≤1000):u.length≤1000000:=by
 have h1:=List.Nodup.length_le_of_subset hu.nd (l₂:=(s.insts.map (·.id))++(l.map cq).flatten) (fun x hx=>Gj ((hu.keys x).1 hx));have h2:=aa6 ho;have h3:l.length*(2+1000)≤500*1002:=Nat.mul_le_mul_right _ hl;simp only[aD,List.length_map,List.length_append]at h1;omega
theorem Yn{s:Setup}{l:List Fact}{u:UM}(hu:e5 u (gL s l))(hi:∀x∈s.insts,de x.id)(ho:∀f∈l,∀n∈eC f,de n):∀k∈aD u,de k:=fun k hk=>by
 have:=Gj ((hu.keys k).1 hk);rcases List.mem_append.1 this with h|h
 ·obtain⟨x,hx,rfl⟩:=List.mem_map.1 h;exact hi x hx
 ·obtain⟨r,hr,hx⟩:=List.mem_flatten.1 h;obtain⟨f,hf,rfl⟩:=List.mem_map.1 hr;exact ho f hf k (QY.1 hx).1
open Go.Proofs Go.Proofs.Tryz
set_option maxRecDepth 20000
structure Yr(s:Setup)(l:List Fact)where
 pre:List bJ
 rest:List bJ
 u:UM
 hx:s.insts=pre++rest
 hu:e5 u (pre.map fun x=>[x.id])
structure Ys(s:Setup)(l:List Fact)where
 pre:List Fact
 rest:List Fact
 u:UM
 fm:bk
 hx:l=pre++rest
 hu:e5 u ((s.insts.map fun x=>[x.id])++pre.map cq)
 j8:uX fm pre
structure Yt(s:Setup)(l:List Fact)(fm:bk)where
 seen:List Nat
 u3:UM
 ef:seen.Nodup
 AH:e5 u3 (((s.insts.map fun x=>[x.id])++l.map cq)++seen.filterMap (wV fm))
theorem Yq(s:Setup)(l:List Fact)(xT:s.insts.length≤1000)(tQ:∀x∈s.insts,de x.id)(xV:l.length≤500)(ju:∀f∈l,f.opts.length≤1000∧∀s∈eC f,de s)(hgr:∀u,kq u→(aD u).Nodup→(∀k∈aD u,de k)→u.length≤1000000→dv Tryz.prog 92 [.bu 60] [(60,.mp (aS D.str D.str u))] (vo (fG u)) [(60,.mp (aS D.str D.str u))]):Fc Tryz.prog 45 [.agg (iR s),bz l] (vo (kI (gL s l))):=by
 refine Fc.mk' [4] func45 rfl ntmps45 rfl rfl rfl (fun t w=>results_tmp results45 t _ w) ?_;refine J.seq (J.af [.w,.p] ?_);refine .W rfl (EA 0 rfl rfl)<|.ag rfl rfl<|.nil ?_;refine J.bP (Le.gg 2 0 rfl rfl rfl rfl) ?_;refine J.seq (J.af [.w,.w,.p,.p] ?_);refine .W rfl (kn 60 D.str (D.str) rfl)<|.W rfl (kn 61 D.str (gZ) rfl)<|.ag rfl rfl<|.ag rfl rfl<|.nil ?_;refine J.seq (J.seq (J.af [.p,.p,.p,.p] ?_));refine .P rfl (mD (n:=0) 23 1 underlying30 sizeOf23 rfl rfl rfl)<|.P rfl (bX isAgg23 rfl)<|.P rfl (dE underlying23 rfl)<|.mv rfl rfl<|.nil ?_;refine J.block ?_;refine J.loop (ι:=Yr s l) (fun sx=>[(1,bz l),(5,.bu 60),(6,.bu 61),(17,j0 s.insts),(18,.i s.insts.length),(19,.i sx.pre.length)]) (fun sx=>[(60,.mp (aS D.str D.str sx.u)),(61,.mp (aS D.str gZ (ew bk.empty)))]) (fun sx=>sx.rest.length) ⟨[],_,[],rfl,Tt⟩ ?_ ?_
 ·exact Le.mk rfl (.s rfl rfl (.s rfl rfl (.s rfl rfl (.s rfl rfl (.cons rfl (Sub.int zS) rfl (.s rfl rfl .nil)))))) (.eq rfl (by rfl) (fx _ _) (.cons rfl rfl .nil))
 ·rintro⟨pre,rest,u,hx,hu⟩;show J _ _ _ _ [(1,bz l),(5,.bu 60),(6,.bu 61),(17,j0 s.insts),(18,.i s.insts.length),(19,.i pre.length)] [(60,.mp (aS D.str D.str u)),(61,.mp (aS D.str gZ (ew bk.empty)))];have hl:=congrArg List.length hx;simp only[List.length_append]at hl;rcases rest with _|⟨x,rest⟩
  ·skip;refine J.seq (J.af [.p] ?_);refine .P rfl (b_ rfl rfl)<|.nil ?_;refine J.seq ?_;refine J.eQ rfl (by simp at hl⊢;omega) ?_;refine J.exit (ei (dZ ?_));refine J.seq (J.seq (J.af [.p,.p,.p] ?_));refine .mv rfl rfl<|.P rfl (dE underlying31 rfl)<|.mv rfl rfl<|.nil ?_;refine J.block ?_;refine J.loop (ι:=Ys s l) (fun sx=>[(1,bz l),(5,.bu 60),(6,.bu 61),(28,bz l),(29,.i l.length),(30,.i sx.pre.length)]) (fun sx=>([(60,.mp (aS D.str D.str sx.u)),(61,.mp (aS D.str gZ (ew sx.fm))),(99,.arr 1 [])]++cj sx.fm)) (fun sx=>sx.rest.length) ⟨[],_,u,bk.empty,rfl,(by have e:pre=s.insts:=(by simp[hx]);rw[←e];simpa using hu),aaA⟩ ?_ ?_
   ·exact(Le.mB 99 1).trans<|Le.mk rfl (.s rfl rfl (.s rfl rfl (.s rfl rfl (.s rfl rfl (.cons rfl (Sub.int zS) rfl (.s rfl rfl .nil)))))) (.eq rfl (by rfl) (fx _ _) (.eq rfl (by rfl) (yL _ _) (.arr rfl zS (.tail (fun _ _ h=>nomatch (show(none:Option Ob)=some _ from h))))))
   ·rintro⟨pre,rest,u,fm,hx,hu,j8⟩;show J _ _ _ _ [(1,bz l),(5,.bu 60),(6,.bu 61),(28,bz l),(29,.i l.length),(30,.i pre.length)] ([(60,.mp (aS D.str D.str u)),(61,.mp (aS D.str gZ (ew fm))),(99,.arr 1 [])]++cj fm);have hl:=congrArg List.length hx;simp only[List.length_append]at hl;rcases rest with _|⟨x,rest⟩
    ·obtain rfl:l=pre:=by simpa using hx
     refine J.seq (J.af [.p] ?_);refine .P rfl (b_ rfl rfl)<|.nil ?_;refine J.seq ?_;refine J.eQ rfl zS ?_;refine J.exit (ei (dZ ?_));refine J.seq (J.seq (J.af [.p,.w] ?_));refine .mv rfl rfl<|.W rfl (JZ ic (vD:=gZ) 62 underlying129 rfl rfl (xA (own:=[(60,_),(61,_),(99,_)]) rfl rfl))<|.nil ?_;refine J.block ?_;refine J.loop (ι:=Yt s l fm) (fun sx=>[(5,.bu 60),(50,.box 62 0)]) (fun sx=>([(62,.mi 61 (ew fm).length sx.seen),(60,.mp (aS D.str D.str sx.u3)),(61,.mp (aS D.str gZ (ew fm))),(99,.arr 1 [])]++cj (jX fm sx.seen))) (fun sx=>w5 (ew fm).length sx.seen) ⟨[],u,List.nodup_nil,(by simpa using hu)⟩ ?_ ?_
     ·exact Le.mk rfl (.s rfl rfl (.s rfl rfl .nil)) (.cons rfl rfl (.eq rfl (by rfl) (fx _ _) (.eq rfl (by rfl) (wB _ _) (.arr rfl zS (.tail (vv (own:=[(62,_),(60,_),(61,_),(99,_)]) (iZ:=[(62,_),(60,_),(61,_),(99,_)]) _ rfl))))))
     ·rintro⟨seen,u3,ef,AH⟩;show J _ _ _ _ [(5,.bu 60),(50,.box 62 0)] ([(62,.mi 61 (ew fm).length seen),(60,.mp (aS D.str D.str u3)),(61,.mp (aS D.str gZ (ew fm))),(99,.arr 1 [])]++cj (jX fm seen));refine J.seq (J.sZ ?_);refine Tx.n rfl trivial (JX ic (vD:=gZ) rfl rfl rfl) (fun nb cm=>?_);rcases nb with _|⟨nj,nk,nv⟩
      ·dsimp only[q9,sA,sw];refine Tx.q rfl trivial (dY rfl rfl _) ?_;refine Tx.nil ?_;refine J.seq ?_;refine J.eQ rfl rfl ?_;refine J.exit (ei (dZ ?_));have hD:=Mx j8 cm AH;refine J.seq (J.af [.p,.w,.p] ?_);refine .mv rfl rfl<|.W rfl (BB (own:=[(62,_),(60,_),(61,_),(99,_)]) call92 rfl (hgr _ hD.pz hD.nd (Yn hD tQ (fun f hf=>(ju f hf).2)) (Yk hD xT xV (fun f hf=>(ju f hf).1))) rfl rfl (.cons rfl (fx _ _) .nil) rfl rfl)<|.ag rfl rfl<|.nil ?_;refine J.ret (?_);exact dF rfl (Sub.snap (by(rw[Hg (Mx j8 cm AH)])))
      ·dsimp only[q9,sA,sw];refine Tx.q rfl trivial (dY rfl rfl _) ?_;refine Tx.nil ?_;refine J.seq ?_;refine J.fD rfl rfl ?_;refine J.skip ?_;refine J.block ?_;obtain⟨e,he,rfl,rfl⟩:=M8 (And.left cm);have lE:(jX fm seen).ck[nj]?=some e:=(P0 _ _ _ (And.right cm)).trans he;have qE:e.live=true:=j8.live e (List.mem_of_getElem? he);refine J.seq (J.af [.r,.p,.p] ?_);refine .R rfl (JT ic (vD:=gZ) rfl rfl rfl (And.left cm))<|.P rfl (dY rfl rfl)<|.ag rfl rfl<|.nil ?_;refine J.bP ((Le.freeze 13 e.id rfl (aaD (own:=[(62,_),(60,_),(61,_),(99,_)]) rfl lE qE) zS).trans (Le.mk (aQ:=[(5,_),(13,_),(50,_)]) (ak:=[(62,_),(60,_),(61,_),(99,_)]++cj ((jX fm seen).kill nj)) rfl ((.s rfl rfl (.s rfl rfl (.s rfl rfl .nil)))) (.cons (CX (own:=[(62,_),(60,_),(61,_),(99,_)]) 62 lE rfl rfl) rfl (.cons (CX (own:=[(62,_),(60,_),(61,_),(99,_)]) 60 lE rfl rfl) (fx _ _) (.cons (CX (own:=[(62,_),(60,_),(61,_),(99,_)]) 61 lE rfl rfl) (by rw[←DT];exact wB _ (seen++[nj])) (.cons (CX (own:=[(62,_),(60,_),(61,_),(99,_)]) 99 lE rfl rfl) rfl (.tail (aaF (own:=[(62,_),(60,_),(61,_),(99,_)]) rfl lE)))))))) ?_;rw[←DT];refine J.af [.p,.p,.w] ?_;refine .mv rfl rfl<|.mv rfl rfl<|.W rfl (BB (own:=[(62,_),(60,_),(61,_),(99,_)]) call91 rfl (PV _ (by exact AH.pz) _) rfl rfl (.cons rfl (fx _ _) .nil) rfl rfl)<|.nil ?_;refine J.nil (cC ?_);refine J.nil (dG ?_)
       exact⟨⟨seen++[nj],tY u3 e.rows,EW ef (And.right cm),by rw[aiK he,←List.append_assoc];exact AH.join e.rows⟩,by exact E8 ((List.getElem?_eq_some_iff.1 (And.left cm)).1) (And.right cm),Le.mk rfl (.s rfl rfl (.s rfl rfl .nil)) (.cons rfl rfl (.eq rfl (by rfl) (fx _ _) (.eq rfl (by rfl) (wB _ _) (.arr rfl zS (.tail (vv (own:=[(60,_),(62,_),(61,_),(99,_)]) (iZ:=[(62,_),(60,_),(61,_),(99,_)]) _ rfl))))))⟩
    ·simp only[List.length_cons]at hl;have Ip:=ju x (by rw[hx];simp);have hpr:∀f∈pre,f.opts.length≤1000:=fun f hf=>(ju f (by rw[hx];simp[hf])).1;refine J.seq (J.af [.p] ?_);refine .P rfl (b_ rfl rfl)<|.nil ?_;refine J.seq ?_;refine J.fD rfl zQ ?_;refine J.skip ?_;refine J.seq ?_;refine J.block ?_;refine J.seq (J.af [.p,.p,.w,.w] ?_);refine .P rfl (fY underlying31 sizeOf39 rfl rfl zO (bn aM hx rfl))<|.P rfl (sV isAgg39 sizeOf39 rfl rfl)<|.W rfl (jE 71 zeroValue39 (xA (own:=[(60,_),(61,_),(99,_)]) rfl rfl))<|.W rfl (lf sizeOf39 rfl rfl rfl rfl rfl rfl)<|.nil ?_;refine J.seq (J.af [.r,.p,.p] ?_);refine .R rfl (ED isAgg39 sizeOf39 rfl rfl rfl)<|.P rfl (ai call25 rfl (Iv x (Nat.le_trans (ju x (by rw[hx];simp)).1 zD) (ju x (by rw[hx];simp)).2))<|.ag rfl rfl<|.nil ?_;refine J.seq (J.af [.p,.p,.w] ?_);refine .mv rfl rfl<|.mv rfl rfl<|.W rfl (BB (own:=[(71,_),(60,_),(61,_),(99,_)]) call91 rfl (PV _ (by exact hu.pz) _) rfl rfl (.cons rfl (fx _ _) .nil) rfl rfl)<|.nil ?_;refine J.bP (Le.gg 10 71 rfl rfl rfl rfl) ?_;refine J.rp [.p,.p,.p,.p,.p,.p,.r,.p,.w,.w] nC zK ?_
     refine .mv rfl rfl<|.P rfl (mD (n:=0) 9 0 underlying39 sizeOf9 rfl rfl rfl)<|.P rfl (bX isAgg9 rfl)<|.mv rfl rfl<|.P rfl (mD (n:=0) 9 0 underlying39 sizeOf9 rfl rfl rfl)<|.P rfl (bX isAgg9 rfl)<|.R rfl (SQ ic (f:=fm) (k:=x.key) underlying129 zeroValue48 rfl rfl rfl rfl)<|.mv rfl rfl<|.W rfl (SD (own:=[(60,_),(71,_),(61,_),(99,_)]) (f:=fm) (k:=x.key) (new:=cq x) (bt:=16) underlying48 underlying48 sizeOf9 typeInfo9 zeroValue9 rfl rfl rfl rfl rfl j8.live rfl rfl (by have:=DN x;have:=Ip.1;have:=XL hpr x.key;rw[j8.rows];omega))<|.W rfl (dJ ic (vD:=gZ) (m:=ew fm) (k:=x.key) (v:=(fm.next,(iE fm x.key).length+(cq x).length)) underlying129 rfl rfl rfl rfl rfl ((GD (own:=[(60,_),(71,_),(61,_),(99,_)]) zD).trans (Bq (own:=[(60,_),(71,_),(61,_),(99,_)]) rfl)))<|.nil ?_;refine J.nil (cC ?_);rw[M7];refine J.bP (Le.mB 99 1) ?_;refine J.bP (Le.mk (aQ:=[(1,_),(5,_),(6,_),(28,_),(29,_),(30,_)]) (ak:=[(60,_),(61,_),(99,.arr 1 [])]++cj (fm.add x.key (cq x))) rfl (show eO _ _ [(1,_),(5,_),(6,_),(28,_),(29,_),(30,_)]from(.s rfl rfl (.s rfl rfl (.s rfl rfl (.s rfl rfl (.s rfl rfl (.s rfl rfl .nil))))))) (.eq (GF (own:=[(60,_),(71,_),(61,_),(99,_)]) 60 rfl rfl rfl) rfl (fx _ _) (.eq M4 rfl (yL _ _) (.cons rfl rfl (.tail (M_ (own:=[(60,_),(71,_),(61,_),(99,_)]) zD rfl)))))) ?_;refine J.af [.p,.p] ?_;refine .P rfl (bU rfl rfl (az zO))<|.mv rfl rfl<|.nil ?_;refine J.nil (dG ?_)
     exact⟨⟨pre++[x],rest,tY u (cq x),fm.add x.key (cq x),by simp[hx],by have:=hu.join (cq x);simpa using this,j8.add x⟩,by simp,Le.mk rfl (.s rfl rfl (.s rfl rfl (.s rfl rfl (.s rfl rfl (.s rfl rfl (.cons rfl (Sub.int zS) rfl .nil)))))) (.eq rfl (by rfl) (fx _ _) (.eq rfl (by rfl) (yL _ _) (.arr rfl zS (.tail (vv (own:=[(60,_),(61,_),(99,_)]) (iZ:=[(60,_),(61,_),(99,_)]) _ rfl)))))⟩
  ·simp only[List.length_cons]at hl;refine J.seq (J.af [.p] ?_);refine .P rfl (b_ rfl rfl)<|.nil ?_;refine J.seq ?_;refine J.fD rfl zQ ?_;refine J.skip ?_;refine J.seq ?_;refine J.block ?_;refine J.seq (J.af [.p,.p,.w,.w] ?_);refine .P rfl (fY underlying23 sizeOf65 rfl rfl zO (bn iD hx rfl))<|.P rfl (sV isAgg65 sizeOf65 rfl rfl)<|.W rfl (jE 70 zeroValue65 rfl)<|.W rfl (lf sizeOf65 rfl rfl rfl rfl rfl rfl)<|.nil ?_;refine J.af [.p,.p,.r,.w] ?_;refine .mv rfl rfl<|.P rfl (hZ (n:=0) 9 0 underlying65 sizeOf9 rfl rfl)<|.R rfl (iK isAgg9 rfl rfl rfl)<|.W rfl (gE call90 rfl (Lj _ _) (.cons rfl (fx _ _) .nil) rfl rfl)<|.nil ?_;refine J.nil (cC ?_);refine J.af [.p,.p] ?_;refine .P rfl (bU rfl rfl (az zO))<|.mv rfl rfl<|.nil ?_;refine J.nil (dG ?_);exact⟨⟨pre++[x],rest,dc u x.id,by simp[hx],by have:=hu.add x.id;simpa using this⟩,by simp,Le.mk rfl (.s rfl rfl (.s rfl rfl (.s rfl rfl (.s rfl rfl (.s rfl rfl (.cons rfl (Sub.int zS) rfl .nil)))))) (.eq rfl (by rfl) (fx _ _) (.cons rfl rfl .nil))⟩
end Go.T
