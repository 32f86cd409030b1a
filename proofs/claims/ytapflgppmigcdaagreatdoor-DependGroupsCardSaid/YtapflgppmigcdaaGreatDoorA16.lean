/-
  Contracts of the functions that the statement reaches, and the logic in which they are proved (no condition): parts SpecD14, W97, W98, Core54, Core55, Core56, SpecD15, SpecD16, SpecD17, Core57, SpecD18, Core60, SpecD19, W99.
-/
import Derived.Test.YtapflgppmigcdaaGreatDoorA15
import Derived.Lib.RowBridge
set_option linter.all false
namespace Go.T
open Go Go.Lib
@[reducible] def uW(f:Fact):Bool:=decide (f.kind=9)||decide (f.kind=12)
def fx(l:List aa):List aa:=l.mergeSort fun x y=>decide (x≤y)
theorem nA(l:List aa):(fx l).Perm l:=List.mergeSort_perm l _
theorem uj{α:Type}{P:α→Prop}{l:List α}(h:∀k∈l,P k):(l.attachWith P h).map Subtype.val=l:=by
 induction l with
 |nil=>rfl
 |cons a l ih=>simp
def gL(f:Fact):List aa:=if uW f=true then[f.dM]++[f.other]else[f.dM]
def eV(f:Fact):List aa:=gL f++f.opts.map (·.other)
def hZ(f:Fact):List aa:=(eV f).filter fun s=>!decide (s=[])
def cC(f:Fact):List aa:=Lib.compact (fx (hZ f))
theorem wA(f:Fact):(gL f).length≤2∧gL f≠[]:=by
 unfold gL;split<;>simp
theorem K7{d:Array aa}:∀(m:Nat)(x:aa),x∈compactUpTo d m↔∃j,j<m∧keeps d j=true∧d[j]! =x
 |0,x=>by simp[compactUpTo]
 |m+1,x=>by
  rw[compactUpTo_succ,List.mem_append,K7 m];constructor
  ·rintro(⟨j,h1,h2,h3⟩|h)
   ·exact⟨j,by omega,h2,h3⟩
   ·split at h
    ·exact⟨m,by omega,by assumption,(List.mem_singleton.1 h).symm⟩
    ·cases h
  ·rintro⟨j,h1,h2,h3⟩;by_cases e:j=m
   ·subst e;right;rw[if_pos h2];simp[h3]
   ·exact .inl ⟨j,by omega,h2,h3⟩
theorem K4{l:List aa}{x:aa}:x∈Lib.compact l↔x∈l:=by
 unfold Lib.compact;rw[K7];constructor
 ·rintro⟨j,h1,_,rfl⟩;rw[getElem!_pos l.toArray j (by simpa using h1)];simp
 ·intro h;have uH:∃j,j<l.length∧l.toArray[j]! =x:=by
   obtain⟨j,hj,e⟩:=List.getElem_of_mem h;exact⟨j,hj,by rw[getElem!_pos l.toArray j (by simpa using hj)];simpa using e⟩
  have key:∀j,j<l.length→l.toArray[j]! =x→∃i,i<l.length∧keeps l.toArray i=true∧l.toArray[i]! =x:=by
   intro j;induction j with
   |zero=>intro h0 e;exact⟨0,h0,keeps_lt_one _ 0 zO,e⟩
   |succ j ih=>
    intro h0 e;by_cases e2:l.toArray[j]! =x
    ·exact ih zO e2
    ·exact⟨j+1,h0,keeps_pos (by rw[e];exact fun e3=>e2 e3.symm),e⟩
  obtain⟨j,h1,h2⟩:=uH;exact key j h1 h2
theorem w6{l:List aa}{x:aa}:x∈fx l↔x∈l:=(nA l).mem_iff
theorem TE{f:Fact}{x:aa}:x∈cC f↔x∈eV f∧x≠[]:=by
 unfold cC hZ;rw[K4,w6,List.mem_filter];simp
theorem wR(f:Fact):(cC f).length≤2+f.opts.length:=by
 have h1:=compact_length_le (fx (hZ f));have h2:=(nA (hZ f)).length_eq;have h3:(hZ f).length≤(eV f).length:=List.length_filter_le _ _;have h4:=(wA f).1;unfold eV at h3;simp only[List.length_append,List.length_map]at h3;unfold cC;omega
theorem RU{f:Fact}(h:hZ f=[]):cC f=[]:=by
 unfold cC;rw[h];simp[fx,Lib.compact,compactUpTo]
open Go.Proofs Go.Proofs.Tryz Go.Shelf Go.RowKit Go.Sort
set_option maxRecDepth 20000
theorem Qc(x:aa)(W:World):FnGives Tryz.prog 62 #[] #[encStr x] (.bool (decide (x=[]))) W:=by
 show Calls Tryz.prog 62 #[encStr x] W _
 go_enter func62,ntmps62
 go_wp2
 all_goals(go_ret;exact⟨by cases x<;>simp_all,0,rfl⟩)
theorem OX:∀args w,(callFunc 62 args).run Tryz.prog w=.ok (.enter 62 args) w:=enters_of func62 (by kernel_rfl) rfl
section
variable{l:List aa} (h:∀s∈l,dj s)
theorem xx:(l.attachWith dj h).map (fun x=>[D.str x.1])=l.map fun s=>[D.str s]:=by conv=>{rhs;rw[←uj h,List.map_map]};rfl
end
theorem Ov(id:Nat)(l:List aa)(h:∀s∈l,dj s)(hl:l.length<4611686018427387904)(aD:(l.filter fun s=>!decide (s=[]))≠[]):
  dF Tryz.prog 61 [.gs id l.length,.fn (.func 62) [] []] [(id,.arr 1 (l.map fun s=>[D.str s]))] (.gs id (l.filter fun s=>!decide (s=[])).length) [(id,.arr 1 ((l.filter fun s=>!decide (s=[])).map fun s=>[D.str s]))]:=by
 have h2:∀s∈l.filter (fun s=>!decide (s=[])),dj s:=fun s hs=>h s (List.mem_filter.1 hs).1;have:=aaw (r:=Tryz.HV) Tryz.Ow zeroValue9 OX Qc id (l.attachWith dj h) (by simpa using hl) ((l.filter fun s=>!decide (s=[])).attachWith dj h2) (by rw[uj,uj]) (by intro e;exact aD (by simpa using congrArg (List.map Subtype.val) e));rw[xx h,xx h2,List.length_attachWith,List.length_attachWith]at this;exact this
theorem Ou(id:Nat)(l:List aa)(h:∀s∈l,dj s)(h0:l≠[])(hl:l.length<4611686018427387904)(he:(l.filter fun s=>!decide (s=[]))=[]):
  dF Tryz.prog 61 [.gs id l.length,.fn (.func 62) [] []] [(id,.arr 1 (l.map fun s=>[D.str s]))] (.snap 1 false []) [(id,.arr 1 [])]:=by
 have:=aav (r:=Tryz.HV) Tryz.Ow zeroValue9 OX Qc id (l.attachWith dj h) (by intro e;exact h0 (by simpa using congrArg (List.map Subtype.val) e)) (by simpa using hl) (by rw[uj];exact he);rw[xx h,List.length_attachWith]at this;exact this
theorem Mv(id:Nat)(l:List aa)(h:∀s∈l,dj s)(hl:l.length<4611686018427387904):dF Tryz.prog 63 [.gs id l.length] [(id,.arr 1 (l.map fun s=>[D.str s]))] (.bj []) [(id,.arr 1 ((fx l).map fun s=>[D.str s]))]:=by
 have h2:∀s∈fx l,dj s:=fun s hs=>h s ((nA l).subset hs);have:=alp (r:=Tryz.Sy) Tryz.Sx id (l.attachWith dj h) (by simpa using hl) ((fx l).attachWith dj h2) (by rw[uj,uj];rfl);rw[xx h,xx h2,List.length_attachWith]at this;exact this
theorem Wm:Fc Tryz.prog 63 [.snap 1 false []] (.bj []):=.pU fun w O ρ vals hg hv=>by
 simp only[Vs,V]at hv;obtain⟨_,_,rfl,⟨a,cap,rfl,_⟩,rfl⟩:=hv;refine(Tryz.slices_Sort_string_none a cap w).mono ?_;rintro e w' ⟨rfl,rfl⟩;exact⟨_,rfl,by simp[V,Vs],.refl _⟩
theorem N3(id:Nat)(l:List aa)(h:∀s∈l,dj s)(h0:l≠[])(hl:l.length<4611686018427387904)(n:Nat)(rr:l.length=n):dF Tryz.prog 64 [.gs id n] [(id,.arr 1 (l.map fun s=>[D.str s]))] (.gs id (Lib.compact l).length) [(id,.arr 1 ((Lib.compact l).map fun s=>[D.str s]))]:=by
 subst rr;have h2:∀s∈Lib.compact l,dj s:=fun s hs=>h s (K4.1 hs);have:=ZF (f:=64) Tryz.slices_Compact_string id (l.attachWith dj h) (by intro e;exact h0 (by simpa using congrArg (List.map Subtype.val) e)) (by simpa using hl) ((Lib.compact l).attachWith dj h2) (by rw[uj,uj])
  (by
   intro e;obtain⟨x,hx⟩:=List.exists_mem_of_ne_nil _ h0;have e2:Lib.compact l=[]:=by simpa using congrArg (List.map Subtype.val) e
   have:=(K4 (l:=l) (x:=x)).2 hx;rw[e2]at this;cases this) (by simpa using compact_length_le l)
 rw[xx h,xx h2,List.length_attachWith,List.length_attachWith]at this;exact this
theorem N2:Fc Tryz.prog 64 [.snap 1 false []] (.snap 1 false []):=.pU fun w O ρ vals hg hv=>by
 simp only[Vs,V]at hv;obtain⟨_,_,rfl,⟨a,cap,rfl,h⟩,rfl⟩:=hv;refine(Tryz.slices_Compact_string_empty a cap w).mono ?_;rintro e w' ⟨rfl,rfl⟩;exact⟨_,rfl,by simp only[V];exact⟨_,_,rfl,h⟩,.refl _⟩
end Go.T
namespace Go.T
open Go Go.Proofs Go.Proofs.Tryz
set_option maxRecDepth 20000
theorem EF{f:Fact}(h:uW f=true):gL f=[f.dM]++[f.other]:=if_pos h
theorem EE{f:Fact}(h:uW f=false):gL f=[f.dM]:=if_neg (by rw[h];simp)
theorem RQ{f:Fact}(hs:∀s∈eV f,dj s):(∀s∈hZ f,dj s)∧(∀s∈fx (hZ f),dj s):=
 ⟨fun s h=>hs s (List.mem_filter.1 h).1,fun s h=>hs s (List.mem_filter.1 (w6.1 h)).1⟩
theorem Wv(f:Fact):(hZ f).length≤2+f.opts.length∧(fx (hZ f)).length=(hZ f).length∧(eV f).length≤2+f.opts.length:=by
 have h2:=(nA (hZ f)).length_eq;have h3:(hZ f).length≤(eV f).length:=List.length_filter_le _ _;have h4:=(wA f).1;have h5:(eV f).length≤2+f.opts.length:=by
  unfold eV;simp only[List.length_append,List.length_map];omega
 exact⟨by omega,h2,h5⟩
theorem Wn{f:Fact}(h:hZ f≠[]):fx (hZ f)≠[]:=by
 intro e;have:=(nA (hZ f)).length_eq;rw[e]at this;exact h (List.length_eq_zero_iff.1 this.symm)
theorem RP(f:Fact):eV f≠[]:=by
 unfold eV;intro e;exact(wA f).2 (List.append_eq_nil_iff.1 e).1
structure RR(f:Fact)where
 pre:List cT
 rest:List cT
 hx:f.opts=pre++rest
theorem afu(f:Fact)(hn:f.opts.length≤1000000)(hs:∀s∈eV f,dj s)(aD:hZ f=[]):Fc Tryz.prog 25 [.agg (aX f)] (aL (cC f)):=by
 refine Fc.mk' [2] func25 rfl ntmps25 rfl rfl rfl (fun t w=>results_tmp results25 t _ w) ?_;have hS:=RQ hs;have Jq:=Wv f;refine go [1] ?_;refine J.bE (Le.fY 1 0 rfl rfl rfl rfl) ?_;refine go [] ?_;refine oW (Gh (n:=1) (rows:=[[.str f.dM]]) 1 underlying48 sizeOf9 rfl rfl rfl zeroValue9 rfl rfl rfl rfl rfl rfl rfl rfl) ?_;refine br (fun h1=>?_) (fun h1=>?_)
 ·refine oP (bK (n:=1) (rows:=[[.str f.other]]) underlying48 sizeOf9 rfl rfl rfl zeroValue9 rfl rfl rfl rfl rfl rfl rfl) ?_;refine oW (fq 2 underlying48 underlying48 sizeOf9 typeInfo9 zeroValue9 rfl (bt:=16) rfl rfl rfl rfl zS rfl rfl zS) ?_;refine J.loop (ι:=RR f) (fun sx=>[(1,.bc (aX f)),(3,.gs 1 ((gL f++sx.pre.map (·.other))).length),(23,kn f.opts),(24,.i f.opts.length),(25,.i sx.pre.length)]) (fun sx=>[(1,.arr 1 ((gL f++sx.pre.map (·.other)).map (fun s:aa=>[D.str s])))]) (fun sx=>sx.rest.length) ⟨[],_,rfl⟩ ?_ ?_
  ·exact(Le.mk (am:=[(2,_)]) rfl (show dE _ _ [(1,_),(3,_),(23,_),(24,_),(25,_)]from(.s rfl rfl (.s rfl rfl (.s rfl rfl (.s rfl rfl (.s rfl rfl .nil)))))) (.cons (i:=2) rfl rfl .nil)).trans<|(Le.kO 3 2 1 rfl rfl zS rfl).trans<|Le.mk rfl (.s rfl rfl (.cons rfl (Sub.gs (by rw[EF h1];rfl)) rfl (.s rfl rfl (.cons rfl (Sub.int zS) rfl (.s rfl rfl .nil))))) (.arr rfl (by rw[EF h1];rfl) .nil)
  ·rintro⟨pre,rest,hx⟩;show J _ _ _ _ [(1,.bc (aX f)),(3,.gs 1 ((gL f++pre.map (·.other))).length),(23,kn f.opts),(24,.i f.opts.length),(25,.i pre.length)] [(1,.arr 1 ((gL f++pre.map (·.other)).map (fun s:aa=>[D.str s])))];have hl:=congrArg List.length hx;simp only[List.length_append]at hl;have hH:=wA f;rcases rest with _|⟨x,rest⟩
   ·have oA:eV f=(gL f++pre.map (·.other)):=by rw[eV];simp[hx]
    refine go [1] ?_;refine a_ (by simp at hl⊢;omega) ?_;refine go [1] ?_;refine oW (hJ call61 (by rw[←oA];rfl) (Ou 1 (eV f) hs (RP f) zO aD) (.cons (by rw[←oA];rfl) rfl .nil) rfl rfl) ?_;refine oP (ai call63 rfl Wm) ?_;refine oP (ai call64 rfl N2) ?_;exact ah rfl (Sub.snap (by exact(RU aD).symm▸rfl))
   ·simp only[List.length_cons]at hl;refine go [1] ?_;refine bk zQ ?_;refine ix zO (aS ma hx rfl) ?_;refine oP (bK (n:=1) (rows:=[[.str x.other]]) underlying48 sizeOf9 rfl rfl rfl zeroValue9 rfl rfl rfl rfl rfl rfl rfl) ?_;refine oW (fq 2 underlying48 underlying48 sizeOf9 typeInfo9 zeroValue9 rfl (bt:=16) rfl rfl rfl rfl zS rfl rfl zQ) ?_;refine sd (aw zO) ?_;exact nx ⟨pre++[x],rest,by simp[hx]⟩ zS ((Le.mk (am:=[(2,_)]) rfl (show dE _ _ [(1,_),(3,_),(23,_),(24,_),(25,_)]from(.s rfl rfl (.s rfl rfl (.s rfl rfl (.s rfl rfl (.s rfl rfl .nil)))))) (.cons (i:=2) rfl rfl .nil)).trans<|(Le.kO 3 2 1 rfl rfl zQ rfl).trans<|Le.mk rfl (.s rfl rfl (.cons rfl (Sub.gs zQ) rfl (.s rfl rfl (.s rfl rfl (.cons rfl (Sub.int zS) rfl .nil))))) (.arr rfl zS .nil))
 ·refine J.loop (ι:=RR f) (fun sx=>[(1,.bc (aX f)),(3,.gs 1 ((gL f++sx.pre.map (·.other))).length),(23,kn f.opts),(24,.i f.opts.length),(25,.i sx.pre.length)]) (fun sx=>[(1,.arr 1 ((gL f++sx.pre.map (·.other)).map (fun s:aa=>[D.str s])))]) (fun sx=>sx.rest.length) ⟨[],_,rfl⟩ ?_ ?_
  ·exact Le.mk rfl (.s rfl rfl (.cons rfl (Sub.gs (by rw[EE h1];rfl)) rfl (.s rfl rfl (.cons rfl (Sub.int zS) rfl (.s rfl rfl .nil))))) (.arr rfl (by rw[EE h1];rfl) .nil)
  ·rintro⟨pre,rest,hx⟩;show J _ _ _ _ [(1,.bc (aX f)),(3,.gs 1 ((gL f++pre.map (·.other))).length),(23,kn f.opts),(24,.i f.opts.length),(25,.i pre.length)] [(1,.arr 1 ((gL f++pre.map (·.other)).map (fun s:aa=>[D.str s])))];have hl:=congrArg List.length hx;simp only[List.length_append]at hl;have hH:=wA f;rcases rest with _|⟨x,rest⟩
   ·have oA:eV f=(gL f++pre.map (·.other)):=by rw[eV];simp[hx]
    refine go [1] ?_;refine a_ (by simp at hl⊢;omega) ?_;refine go [1] ?_;refine oW (hJ call61 (by rw[←oA];rfl) (Ou 1 (eV f) hs (RP f) zO aD) (.cons (by rw[←oA];rfl) rfl .nil) rfl rfl) ?_;refine oP (ai call63 rfl Wm) ?_;refine oP (ai call64 rfl N2) ?_;exact ah rfl (Sub.snap (by exact(RU aD).symm▸rfl))
   ·simp only[List.length_cons]at hl;refine go [1] ?_;refine bk zQ ?_;refine ix zO (aS ma hx rfl) ?_;refine oP (bK (n:=1) (rows:=[[.str x.other]]) underlying48 sizeOf9 rfl rfl rfl zeroValue9 rfl rfl rfl rfl rfl rfl rfl) ?_;refine oW (fq 2 underlying48 underlying48 sizeOf9 typeInfo9 zeroValue9 rfl (bt:=16) rfl rfl rfl rfl zS rfl rfl zQ) ?_;refine sd (aw zO) ?_;exact nx ⟨pre++[x],rest,by simp[hx]⟩ zS ((Le.mk (am:=[(2,_)]) rfl (show dE _ _ [(1,_),(3,_),(23,_),(24,_),(25,_)]from(.s rfl rfl (.s rfl rfl (.s rfl rfl (.s rfl rfl (.s rfl rfl .nil)))))) (.cons (i:=2) rfl rfl .nil)).trans<|(Le.kO 3 2 1 rfl rfl zQ rfl).trans<|Le.mk rfl (.s rfl rfl (.cons rfl (Sub.gs zQ) rfl (.s rfl rfl (.s rfl rfl (.cons rfl (Sub.int zS) rfl .nil))))) (.arr rfl zS .nil))
structure RS(f:Fact)where
 pre:List cT
 rest:List cT
 hx:f.opts=pre++rest
theorem afv(f:Fact)(hn:f.opts.length≤1000000)(hs:∀s∈eV f,dj s)(aD:hZ f≠[]):Fc Tryz.prog 25 [.agg (aX f)] (aL (cC f)):=by
 refine Fc.mk' [2] func25 rfl ntmps25 rfl rfl rfl (fun t w=>results_tmp results25 t _ w) ?_;have hS:=RQ hs;have Jq:=Wv f;refine J.seq (J.af [.w,.p] ?_);refine .W rfl (Gg 0 rfl rfl)<|.ag rfl rfl<|.nil ?_;refine J.bE (Le.fY 1 0 rfl rfl rfl rfl) ?_;refine J.seq (J.af [.p,.p,.w,.p] ?_);refine .P rfl (kl (n:=0) 9 5 underlying39 sizeOf9 rfl rfl rfl)<|.P rfl (bP isAgg9 rfl)<|.W rfl (Gh (n:=1) (rows:=[[.str f.dM]]) 1 underlying48 sizeOf9 rfl rfl rfl zeroValue9 rfl rfl rfl rfl rfl rfl rfl rfl)<|.ag rfl rfl<|.nil ?_;refine J.seq (J.seq (J.af [.p,.p,.p,.p,.p,.p,.p,.p] ?_));refine .P rfl (kl (n:=0) 3 4 underlying39 sizeOf3 rfl rfl rfl)<|.P rfl (bP isAgg3 rfl)<|.P rfl (jQ rfl rfl)<|.mv rfl rfl<|.gF rfl (.inl rfl) rfl rfl rfl (fun hg=>pk (fun _=>kl (n:=0) 3 4 underlying39 sizeOf3 rfl rfl rfl _))<|.gF rfl (.inl rfl) rfl rfl rfl (fun hg=>pk (fun _=>bP isAgg3 (bh rfl (nt hg)) _))<|.gF rfl (.inl rfl) rfl rfl rfl (fun hg=>pk (fun _=>jQ (bh rfl (nt hg)) rfl _))<|.P rfl (nw rfl rfl)<|.nil ?_;refine J.cond rfl (fun h1=>?_) (fun h1=>?_)
 ·refine J.af [.p,.p,.p,.p,.w,.p] ?_;refine .mv rfl rfl<|.P rfl (kl (n:=0) 9 6 underlying39 sizeOf9 rfl rfl rfl)<|.P rfl (bP isAgg9 rfl)<|.P rfl (bK (n:=1) (rows:=[[.str f.other]]) underlying48 sizeOf9 rfl rfl rfl zeroValue9 rfl rfl rfl rfl rfl rfl rfl)<|.W rfl (fq 2 underlying48 underlying48 sizeOf9 typeInfo9 zeroValue9 rfl (bt:=16) rfl rfl rfl rfl zS rfl rfl zS)<|.ag rfl rfl<|.nil ?_;refine J.seq (J.seq (J.af [.p,.p,.p,.p] ?_));refine .P rfl (kl (n:=0) 37 19 underlying39 sizeOf37 rfl rfl rfl)<|.P rfl (bP isAgg37 rfl)<|.P rfl (cY underlying37 rfl)<|.mv rfl rfl<|.nil ?_;refine J.block ?_;refine J.loop (ι:=RS f) (fun sx=>[(1,.bc (aX f)),(3,.gs 1 ((gL f++sx.pre.map (·.other))).length),(23,kn f.opts),(24,.i f.opts.length),(25,.i sx.pre.length)]) (fun sx=>[(1,.arr 1 ((gL f++sx.pre.map (·.other)).map (fun s:aa=>[D.str s])))]) (fun sx=>sx.rest.length) ⟨[],_,rfl⟩ ?_ ?_
  ·exact(Le.mk (am:=[(2,_)]) rfl (show dE _ _ [(1,_),(3,_),(23,_),(24,_),(25,_)]from(.s rfl rfl (.s rfl rfl (.s rfl rfl (.s rfl rfl (.s rfl rfl .nil)))))) (.cons (i:=2) rfl rfl .nil)).trans<|(Le.kO 3 2 1 rfl rfl zS rfl).trans<|Le.mk rfl (.s rfl rfl (.cons rfl (Sub.gs (by rw[EF h1];rfl)) rfl (.s rfl rfl (.cons rfl (Sub.int zS) rfl (.s rfl rfl .nil))))) (.arr rfl (by rw[EF h1];rfl) .nil)
  ·rintro⟨pre,rest,hx⟩;show J _ _ _ _ [(1,.bc (aX f)),(3,.gs 1 ((gL f++pre.map (·.other))).length),(23,kn f.opts),(24,.i f.opts.length),(25,.i pre.length)] [(1,.arr 1 ((gL f++pre.map (·.other)).map (fun s:aa=>[D.str s])))];have hl:=congrArg List.length hx;simp only[List.length_append]at hl;have hH:=wA f;rcases rest with _|⟨x,rest⟩
   ·have oA:eV f=(gL f++pre.map (·.other)):=by rw[eV];simp[hx]
    refine J.seq (J.af [.p] ?_);refine .P rfl (bQ rfl rfl)<|.nil ?_;refine J.seq ?_;refine J.eF rfl (by simp at hl⊢;omega) ?_;refine J.exit (dO (dG ?_));refine J.seq (J.af [.p,.w,.p] ?_);refine .mv rfl rfl<|.W rfl (hJ call61 (by rw[←oA];rfl) (Ov 1 (eV f) hs zO aD) (.cons (by rw[←oA];rfl) rfl .nil) rfl rfl)<|.ag rfl rfl<|.nil ?_;refine J.seq (J.af [.p,.w] ?_);refine .mv rfl rfl<|.W rfl (hJ call63 rfl (Mv 1 (hZ f) hS.1 zO) (.cons rfl rfl .nil) rfl rfl)<|.nil ?_;refine J.seq (J.af [.p,.w,.p] ?_);refine .mv rfl rfl<|.W rfl (hJ call64 rfl (N3 1 (fx (hZ f)) hS.2 (Wn aD) zO (hZ f).length Jq.2.1) (.cons rfl rfl .nil) rfl rfl)<|.ag rfl rfl<|.nil ?_;refine J.bE (Le.freeze 2 1 rfl rfl zS) ?_;refine J.ret (?_);exact dn rfl (Sub.refl _)
   ·simp only[List.length_cons]at hl;refine J.seq (J.af [.p] ?_);refine .P rfl (bQ rfl rfl)<|.nil ?_;refine J.seq ?_;refine J.gu rfl zQ ?_;refine J.skip ?_;refine J.seq ?_;refine J.block ?_;refine J.seq (J.af [.p,.p,.w,.w] ?_);refine .P rfl (gm underlying37 sizeOf87 rfl rfl zO (aS ma hx rfl))<|.P rfl (tN isAgg87 sizeOf87 rfl rfl)<|.W rfl (jh 3 zeroValue87 rfl)<|.W rfl (km sizeOf87 rfl rfl rfl rfl rfl rfl)<|.nil ?_;refine J.af [.p,.p,.r,.p,.w,.p] ?_;refine .mv rfl rfl<|.P rfl (im (n:=0) 9 0 underlying87 sizeOf9 rfl rfl)<|.R rfl (iV isAgg9 rfl rfl rfl)<|.P rfl (bK (n:=1) (rows:=[[.str x.other]]) underlying48 sizeOf9 rfl rfl rfl zeroValue9 rfl rfl rfl rfl rfl rfl rfl)<|.W rfl (fq 4 underlying48 underlying48 sizeOf9 typeInfo9 zeroValue9 rfl (bt:=16) rfl rfl rfl rfl zS rfl rfl zQ)<|.ag rfl rfl<|.nil ?_;refine J.nil (cn ?_);refine J.af [.p,.p] ?_;refine .P rfl (bU rfl rfl (aw zO))<|.mv rfl rfl<|.nil ?_;refine J.nil (cZ ?_);exact⟨⟨pre++[x],rest,by simp[hx]⟩,by simp,(Le.mk (am:=[(4,_)]) rfl (show dE _ _ [(1,_),(3,_),(23,_),(24,_),(25,_)]from(.s rfl rfl (.s rfl rfl (.s rfl rfl (.s rfl rfl (.s rfl rfl .nil)))))) (.cons (i:=4) rfl rfl .nil)).trans<|(Le.kO 3 4 1 rfl rfl zQ rfl).trans<|Le.mk rfl (.s rfl rfl (.cons rfl (Sub.gs zQ) rfl (.s rfl rfl (.s rfl rfl (.cons rfl (Sub.int zS) rfl .nil))))) (.arr rfl zS .nil)⟩
 ·refine J.skip ?_;refine J.seq (J.seq (J.af [.p,.p,.p,.p] ?_));refine .P rfl (kl (n:=0) 37 19 underlying39 sizeOf37 rfl rfl rfl)<|.P rfl (bP isAgg37 rfl)<|.P rfl (cY underlying37 rfl)<|.mv rfl rfl<|.nil ?_;refine J.block ?_;refine J.loop (ι:=RS f) (fun sx=>[(1,.bc (aX f)),(3,.gs 1 ((gL f++sx.pre.map (·.other))).length),(23,kn f.opts),(24,.i f.opts.length),(25,.i sx.pre.length)]) (fun sx=>[(1,.arr 1 ((gL f++sx.pre.map (·.other)).map (fun s:aa=>[D.str s])))]) (fun sx=>sx.rest.length) ⟨[],_,rfl⟩ ?_ ?_
  ·exact Le.mk rfl (.s rfl rfl (.cons rfl (Sub.gs (by rw[EE h1];rfl)) rfl (.s rfl rfl (.cons rfl (Sub.int zS) rfl (.s rfl rfl .nil))))) (.arr rfl (by rw[EE h1];rfl) .nil)
  ·rintro⟨pre,rest,hx⟩;show J _ _ _ _ [(1,.bc (aX f)),(3,.gs 1 ((gL f++pre.map (·.other))).length),(23,kn f.opts),(24,.i f.opts.length),(25,.i pre.length)] [(1,.arr 1 ((gL f++pre.map (·.other)).map (fun s:aa=>[D.str s])))];have hl:=congrArg List.length hx;simp only[List.length_append]at hl;have hH:=wA f;rcases rest with _|⟨x,rest⟩
   ·have oA:eV f=(gL f++pre.map (·.other)):=by rw[eV];simp[hx]
    refine J.seq (J.af [.p] ?_);refine .P rfl (bQ rfl rfl)<|.nil ?_;refine J.seq ?_;refine J.eF rfl (by simp at hl⊢;omega) ?_;refine J.exit (dO (dG ?_));refine J.seq (J.af [.p,.w,.p] ?_);refine .mv rfl rfl<|.W rfl (hJ call61 (by rw[←oA];rfl) (Ov 1 (eV f) hs zO aD) (.cons (by rw[←oA];rfl) rfl .nil) rfl rfl)<|.ag rfl rfl<|.nil ?_;refine J.seq (J.af [.p,.w] ?_);refine .mv rfl rfl<|.W rfl (hJ call63 rfl (Mv 1 (hZ f) hS.1 zO) (.cons rfl rfl .nil) rfl rfl)<|.nil ?_;refine J.seq (J.af [.p,.w,.p] ?_);refine .mv rfl rfl<|.W rfl (hJ call64 rfl (N3 1 (fx (hZ f)) hS.2 (Wn aD) zO (hZ f).length Jq.2.1) (.cons rfl rfl .nil) rfl rfl)<|.ag rfl rfl<|.nil ?_;refine J.bE (Le.freeze 2 1 rfl rfl zS) ?_;refine J.ret (?_);exact dn rfl (Sub.refl _)
   ·simp only[List.length_cons]at hl;refine J.seq (J.af [.p] ?_);refine .P rfl (bQ rfl rfl)<|.nil ?_;refine J.seq ?_;refine J.gu rfl zQ ?_;refine J.skip ?_;refine J.seq ?_;refine J.block ?_;refine J.seq (J.af [.p,.p,.w,.w] ?_);refine .P rfl (gm underlying37 sizeOf87 rfl rfl zO (aS ma hx rfl))<|.P rfl (tN isAgg87 sizeOf87 rfl rfl)<|.W rfl (jh 2 zeroValue87 rfl)<|.W rfl (km sizeOf87 rfl rfl rfl rfl rfl rfl)<|.nil ?_;refine J.af [.p,.p,.r,.p,.w,.p] ?_;refine .mv rfl rfl<|.P rfl (im (n:=0) 9 0 underlying87 sizeOf9 rfl rfl)<|.R rfl (iV isAgg9 rfl rfl rfl)<|.P rfl (bK (n:=1) (rows:=[[.str x.other]]) underlying48 sizeOf9 rfl rfl rfl zeroValue9 rfl rfl rfl rfl rfl rfl rfl)<|.W rfl (fq 3 underlying48 underlying48 sizeOf9 typeInfo9 zeroValue9 rfl (bt:=16) rfl rfl rfl rfl zS rfl rfl zQ)<|.ag rfl rfl<|.nil ?_;refine J.nil (cn ?_);refine J.af [.p,.p] ?_;refine .P rfl (bU rfl rfl (aw zO))<|.mv rfl rfl<|.nil ?_;refine J.nil (cZ ?_);exact⟨⟨pre++[x],rest,by simp[hx]⟩,by simp,(Le.mk (am:=[(3,_)]) rfl (show dE _ _ [(1,_),(3,_),(23,_),(24,_),(25,_)]from(.s rfl rfl (.s rfl rfl (.s rfl rfl (.s rfl rfl (.s rfl rfl .nil)))))) (.cons (i:=3) rfl rfl .nil)).trans<|(Le.kO 3 3 1 rfl rfl zQ rfl).trans<|Le.mk rfl (.s rfl rfl (.cons rfl (Sub.gs zQ) rfl (.s rfl rfl (.s rfl rfl (.cons rfl (Sub.int zS) rfl .nil))))) (.arr rfl zS .nil)⟩
theorem RV(f:Fact)(hn:f.opts.length≤1000000)(hs:∀s∈eV f,dj s):Fc Tryz.prog 25 [.agg (aX f)] (aL (cC f)):=by
 by_cases h:hZ f=[]
 ·exact afu f hn hs h
 ·exact afv f hn hs h
end Go.T
namespace Go.T
open Go
variable[bX]
structure FE where
 key:aa
 id:Nat
 rows:List aa
 live:Bool:=true
abbrev cM(l:List aa):List (List D):=l.map fun s=>[D.str s]
structure bp where
 next:Nat
 cr:List FE
 lo:∀e∈cr,1000≤e.id∧e.id<next
 nd:(cr.map (·.id)).Nodup
 hn:1000≤next
def bp.empty:bp:=⟨1000,[],by simp,by simp,by omega⟩
def FE.ob(e:FE):Ob:=if e.live then .arr 1 (cM e.rows)else .dead
def cp(f:bp):ae:=f.cr.map fun e=>(e.id,e.ob)
def eR(f:bp):List (aa×(Nat×Nat)):=f.cr.map fun e=>(e.key,(e.id,e.rows.length))
@[reducible] def iB(p:Nat×Nat):D:=.gs p.1 p.2
theorem Qa:∀(l:List FE)(i:Nat)(o:Ob),ae.get (l.map fun e=>(e.id,e.ob)) i=some o→∃e∈l,e.id=i∧e.ob=o
 |[],i,o,h=>by simp[ae.get]at h
 |e::l,i,o,h=>by
  rw[List.map_cons,ae.bf]at h;by_cases c:e.id=i
  ·rw[if_pos c]at h;cases h;exact⟨e,List.mem_cons_self,c,rfl⟩
  ·rw[if_neg c]at h;obtain⟨e',h1,h2⟩:=Qa l i o h;exact⟨e',List.mem_cons_of_mem _ h1,h2⟩
theorem Qb:∀(l:List FE),(l.map (·.id)).Nodup→∀e∈l,ae.get (l.map fun e=>(e.id,e.ob)) e.id=some e.ob
 |[],_,e,h=>by cases h
 |a::l,hn,e,h=>by
  rw[List.map_cons,List.nodup_cons]at hn;rw[List.map_cons,ae.bf];rcases List.mem_cons.1 h with rfl|h
  ·rw[if_pos rfl]
  ·rw[if_neg (fun c=>hn.1 (List.mem_map.2 ⟨e,h,c.symm⟩))];exact Qb l hn.2 e h
theorem AT(f:bp){i:Nat}{o:Ob}(h:(cp f).get i=some o):∃e∈f.cr,e.id=i∧e.ob=o:=Qa _ i o h
theorem ye(f:bp){e:FE}(h:e∈f.cr):(cp f).get e.id=some e.ob:=Qb _ f.nd e h
theorem Iy(f:bp)(i:Nat)(hi:i<1000):(cp f).get i=none:=by
 cases h:(cp f).get i with
 |none=>rfl
 |some o=>
  obtain⟨e,h1,h2,_⟩:=AT f h;have:=f.lo e h1;omega
theorem yf(f:bp)(i:Nat)(_:0≤i)(hi:i<0+100):(cp f).get i=none:=Iy f i zO
theorem ach(f:bp):(cp f).get f.next=none:=by
 cases h:(cp f).get f.next with
 |none=>rfl
 |some o=>
  obtain⟨e,h1,h2,_⟩:=AT f h;have:=f.lo e h1;omega
theorem Iz(f:bp)(g:Nat→Bool):∀i x,(cp f).get i=some x→x.okB g=true:=fun i x h=>by
 obtain⟨e,_,_,rfl⟩:=AT f h;unfold FE.ob;split<;>rfl
theorem wi{own jx:ae}(f:bp)(dX:lE 0 own=true):∀i x,(cp f).get i=some x→ae.get (own++cp f) i=some x∧x.okB (ae.has (jx++cp f))=true:=
 fun i x h=>⟨tC dX (yf f) i x h,Iz f _ i x h⟩
def wh(f:bp)(k:aa):Option FE:=f.cr.find? fun e=>decide (k=e.key)
def ja(f:bp)(k:aa):List aa:=((wh f k).map (·.rows)).getD []
def rf(f:bp)(k:aa):Nat:=((wh f k).map (·.id)).getD 99
theorem ac'(f:bp)(k:aa):dU (99,0) (eR f) k=(rf f k,(ja f k).length):=by
 unfold eR rf ja wh;induction f.cr with
 |nil=>rfl
 |cons e l ih=>
  simp only[List.map_cons,dU,List.find?_cons];by_cases c:k=e.key
  ·rw[if_pos c];simp[c]
  ·rw[if_neg c,ih];simp[c]
def jR(l:List FE)(k:aa)(i:Nat)(r:List aa):List FE:=match l with
 |[]=>[⟨k,i,r,true⟩]
 |e::l=>if k=e.key then⟨k,i,r,true⟩::l else e::jR l k i r
theorem CR{k:aa}{i:Nat}{r:List aa}:∀{l:List FE}{e:FE},e∈jR l k i r→e∈l∨e=⟨k,i,r,true⟩
 |[],e,h=>.inr (List.mem_singleton.1 h)
 |a::l,e,h=>by
  simp only[jR]at h;split at h
  ·rcases List.mem_cons.1 h with h|h
   ·exact .inr h
   ·exact .inl (List.mem_cons_of_mem _ h)
  ·rcases List.mem_cons.1 h with h|h
   ·exact .inl (h▸List.mem_cons_self)
   ·exact(CR h).imp (List.mem_cons_of_mem _) id
theorem V8{k:aa}{i:Nat}{r:List aa}:∀{l:List FE},(l.map (·.id)).Nodup→i∉l.map (·.id)→((jR l k i r).map (·.id)).Nodup
 |[],_,_=>by simp[jR]
 |a::l,hn,hi=>by
  rw[List.map_cons,List.nodup_cons]at hn;rw[List.map_cons,List.mem_cons,not_or]at hi;simp only[jR];split
  ·rw[List.map_cons,List.nodup_cons];exact⟨hi.2,hn.2⟩
  ·rw[List.map_cons,List.nodup_cons];refine⟨fun h=>?_,V8 hn.2 hi.2⟩;obtain⟨e,he,e2⟩:=List.mem_map.1 h;rcases CR he with he|rfl
   ·exact hn.1 (List.mem_map.2 ⟨e,he,e2⟩)
   ·exact hi.1 e2
def bp.add(f:bp)(k:aa)(new:List aa):bp:=⟨f.next+1,jR f.cr k f.next (ja f k++new),fun e h=>by
 rcases CR h with h|rfl
 ·have:=f.lo e h;omega
 ·exact⟨f.hn,by simp⟩,V8 f.nd (fun h=>by
 obtain⟨e,he,e2⟩:=List.mem_map.1 h;have:=f.lo e he;omega),by have:=f.hn;omega⟩
theorem Pm(f:bp)(k:aa)(new:List aa):dN (eR f) k (f.next,(ja f k).length+new.length)=eR (f.add k new):=by
 unfold bp.add eR;simp only;rw[←List.length_append];generalize ja f k++new=r;induction f.cr with
 |nil=>rfl
 |cons e l ih=>
  simp only[List.map_cons,dN,jR];split
  ·rfl
  ·rw[ih,List.map_cons]
theorem ab_(f:bp)(k:aa)(own:ae)(dX:lE 0 own=true)(Jk:own.get 99=some (.arr 1 []))(hl:∀e∈f.cr,e.live=true):ae.get (own++cp f) (rf f k)=some (.arr 1 (cM (ja f k))):=by
 unfold rf ja;cases h:wh f k with
 |none=>
  rw[ae.get_append];simp only[Option.map_none,Option.getD_none,Jk];rfl
 |some e=>
  have he:e∈f.cr:=List.mem_of_find?_eq_some h;have h1:=ye f he;have:=tC dX (yf f) _ _ h1;simp only[Option.map_some,Option.getD_some];rw[this];unfold FE.ob;rw[if_pos (hl e he)]
theorem ab'(f:bp)(k:aa):rf f k=99∨1000≤rf f k:=by
 unfold rf;cases h:wh f k with
 |none=>exact .inl rfl
 |some e=>exact .inr (f.lo e (List.mem_of_find?_eq_some h)).1
end Go.T
namespace Go.T
open Go
variable[bX]
theorem V9{k:aa}{i:Nat}{r:List aa}:∀{l:List FE},(l.map (·.id)).Nodup→(∀e∈l,1000≤e.id)→∀{e:FE},e∈jR l k i r→e=⟨k,i,r,true⟩∨(e∈l∧e.id≠(((l.find? fun e=>decide (k=e.key)).map (·.id)).getD 99))
 |[],_,_,e,h=>.inl (List.mem_singleton.1 h)
 |a::l,hn,wI,e,h=>by
  rw[List.map_cons,List.nodup_cons]at hn;simp only[jR]at h;by_cases c:k=a.key
  ·rw[if_pos c]at h;rcases List.mem_cons.1 h with h|h
   ·exact .inl h
   ·right;refine⟨List.mem_cons_of_mem _ h,?_⟩;rw[List.find?_cons_of_pos (by simpa using c)];exact fun e2=>hn.1 (List.mem_map.2 ⟨e,h,e2⟩)
  ·rw[if_neg c]at h;rw[List.find?_cons_of_neg (by simpa using c)];rcases List.mem_cons.1 h with rfl|h
   ·right;refine⟨List.mem_cons_self,fun e2=>?_⟩;cases hf:l.find? fun e=>decide (k=e.key)with
    |none=>
     rw[hf]at e2;have:=wI e List.mem_cons_self;simp only[Option.map_none,Option.getD_none]at e2;omega
    |some x=>
     rw[hf]at e2;exact hn.1 (List.mem_map.2 ⟨x,List.mem_of_find?_eq_some hf,e2.symm⟩)
   ·rcases V9 hn.2 (fun e h=>wI e (List.mem_cons_of_mem _ h)) h with h|⟨h,h2⟩
    ·exact .inl h
    ·exact .inr ⟨List.mem_cons_of_mem _ h,h2⟩
variable{P:Program} {env:Env} {dst:Option Tmp} {ty:TypeId} {pos:String} {ar:Array Edge} {g:Option (Nat×Bool)}
theorem ah8(w:World)(O:Nat→Prop)(ρ:az):V w O ρ (iB (99,0)) (.slice none 0 0):=by
 simp[V]
theorem Vu{kt et:TypeId}(hK:kr P kt D.str C_ dj){t:TypeId}{x y:Operand}{m:Nat}{f:bp}{k:aa}{kd:D}{U:ae}(hu:P.underlying t=some (.map kt et))(hz:∀w,(zeroValue et).run P w=.ok (.slice none 0 0) w)
  (hx:env.op x=some (.bR m))(hy:env.op y=some kd)(qn:kd=D.str k)(ho:U.get m=some (.mp (bu D.str iB (eR f)))):
  aq P ⟨dst,.lookup t x y false,ty,pos,ar,g⟩ env U (.gs (rf f k) (ja f k).length) U:=by
 have:=Gj (dst:=dst) (ty:=ty) (pos:=pos) (ar:=ar) (g:=g) hK (vD:=iB) (m:=eR f) (k:=k) (d:=(99,0)) hu hz ah8 hx hy qn ho;rw[ac']at this;exact this
def wg(own:ae)(f:bp)(k:aa)(new:List aa):ae:=(f.next,.arr 1 (cM (ja f k)++cM new))::(own++cp f).set (rf f k) .dead
theorem Vi{st xt e e':TypeId}{ti:TypeInfo}{z:Value}{bt:Nat}{x y:Operand}{fP:Bool}{own:ae}{f:bp}{k:aa}{new:List aa}(hu:P.underlying st=some (.slice e))(jd:P.underlying xt=some (.slice e'))(hs:∀w,(sizeOf e).run P w=.ok 1 w)
  (jI:∀w,(typeInfo e).run P w=.ok ti w)(hz:∀w,(zeroValue e).run P w=.ok z w)(s5:z.cells.size=1)(mX:ti.bytes=bt)(ww:Nat.beq bt 0=false)(dX:lE 0 own=true)(Jk:own.get 99=some (.arr 1 []))(hl:∀e∈f.cr,e.live=true)
  (hx:env.op x=some (.gs (rf f k) (ja f k).length))(hy:env.op y=some (.snap 1 fP (cM new)))(pA:((ja f k).length+new.length)*bt≤140737488355328):
  aq P ⟨dst,.call ⟨.builtin .append,#[x,y],#[st,xt]⟩,ty,pos,ar,g⟩ env (own++cp f) (.gs f.next ((ja f k).length+new.length)) (wg own f k new):=by
 have hid:ae.get (own++cp f) f.next=none:=by
  rw[ae.get_append];have:own.get f.next=none:=by
   cases h:own.get f.next with
   |none=>rfl
   |some o=>have:=rE dX f.next (ae.ij.2 ⟨o,h⟩);have:=f.hn;omega
  rw[this];exact ach f
 have:=fq (dst:=dst) (ty:=ty) (pos:=pos) (ar:=ar) (g:=g) f.next hu jd hs jI hz s5 mX ww hx (ab_ f k own dX Jk hl) zS hy hid (by simpa using pA);simp only[List.length_map]at this;exact this
theorem Iw{own:ae}{f:bp}{k:aa}{new:List aa}{m:Nat}(hm:m<99):(wg own f k new).get m=ae.get (own++cp f) m:=by
 have h1:=ab' f k;have h2:=f.hn;unfold wg;rw[ae.bf,if_neg zO,ae.dV,if_neg zO]
theorem Cr{own:ae}{f:bp}{m:Nat}{o:Ob}(h:own.get m=some o):ae.get (own++cp f) m=some o:=by
 rw[ae.get_append,h]
theorem Pp{own jx:ae}{f:bp}{k:aa}{new:List aa}{m:Nat}{o':Ob}(hm:m<99)(dX:lE 0 own=true):∀i x,(cp (f.add k new)).get i=some x→ae.get ((99,.arr 1 [])::(wg own f k new).set m o') i=some x∧x.okB (ae.has (jx++cp (f.add k new)))=true:=by
 intro i x h;refine⟨?_,Iz _ _ i x h⟩;obtain⟨e,he,rfl,rfl⟩:=AT _ h;have wI:=(f.add k new).lo e he;rw[ae.bf,if_neg zO,ae.dV,if_neg zO];unfold wg;rw[ae.bf];rcases V9 f.nd (fun e h=>(f.lo e h).1) he with rfl|⟨h1,h2⟩
 ·rw[if_pos rfl];simp[FE.ob,cM]
 ·have:=f.lo e h1;rw[if_neg zO,ae.dV,if_neg (fun c=>h2 c.symm)];exact tC dX (yf f) _ _ (ye f h1)
end Go.T
namespace Go.T
open Go
variable[bX]
variable{P:Program} {env:Env} {dst:Option Tmp} {ty:TypeId} {pos:String} {ar:Array Edge} {g:Option (Nat×Bool)}
theorem yg{own:ae}{f:bp}{i:Nat}(h:own.get i=none)(hi:Nat.blt i 1000=true):ae.get (own++cp f) i=none:=by
 rw[ae.get_append,h];exact Iy f i (by simpa[Nat.blt_eq]using hi)
theorem Mc(pre:ae):∀(a b:ae),ae.rest (a++b) pre=ae.rest a pre++ae.rest b pre
 |[],b=>rfl
 |(t,d)::a,b=>by
  rw[List.cons_append];simp only[ae.rest];cases pre.has t with
  |true=>rw[cond_true,cond_true];exact Mc pre a b
  |false=>rw[cond_false,cond_false,Mc pre a b];rfl
theorem VQ{pre:ae}:∀{b:ae},(∀p∈b,pre.has p.1=false)→ae.rest b pre=b
 |[],_=>rfl
 |(t,d)::b,h=>by
  simp only[ae.rest];rw[h (t,d) List.mem_cons_self,cond_false,VQ fun p hp=>h p (List.mem_cons_of_mem _ hp)]
theorem agS{pre:ae}(dX:lE 0 pre=true){i:Nat}(hi:100≤i):pre.has i=false:=by
 cases h:pre.has i with
 |false=>rfl
 |true=>have:=rE dX i h;omega
theorem acf{f:bp}{p:Nat×Ob}(h:p∈cp f):1000≤p.1:=by
 obtain⟨e,he,rfl⟩:=List.mem_map.1 h;exact(f.lo e he).1
theorem CC{fn:FuncId}{xs:List Operand}{tys:Array TypeId}{ds:List D}{r:D}{pre post own:ae}{f:bp}
  (fc:∀(args:Array Value)(w:World),(callFunc fn args).run P w=.ok (.enter fn args) w)(hx:env.kg xs=some ds)(hf:dF P fn ds pre r post)(dX:lE 0 pre=true)(hip:lE 0 post=true)(eY:iw pre (own++cp f) pre)(wy:D.okB.fg pre.has ds=true)(mY:sB post (own.rest pre)=true):
  aq P ⟨dst,.call ⟨.value (.func fn),xs.toArray,tys⟩,ty,pos,ar,g⟩ env (own++cp f) r (post++(own.rest pre++cp f)):=by
 have e1:ae.rest (own++cp f) pre=own.rest pre++cp f:=by
  rw[Mc,VQ (b:=cp f) fun p hp=>agS dX (by have:=acf hp;omega)]
 have e2:sB post (own.rest pre++cp f)=true:=by
  unfold sB at mY⊢;rw[List.all_eq_true]at mY⊢;intro p hp;have h1:=mY p hp;have h2:=rE hip p.1 (Jv (List.mem_map.2 ⟨p,hp,rfl⟩));simp only[Bool.not_eq_true',ae.has,ae.get_append]at h1⊢;cases h3:ae.get (own.rest pre) p.1 with
  |some o=>rw[h3]at h1;simp at h1
  |none=>simp[Iy f p.1 zO]
 have:=hJ (dst:=dst) (ty:=ty) (pos:=pos) (ar:=ar) (g:=g) (tys:=tys) (U:=own++cp f) fc hx hf eY wy (by rw[e1];exact e2);rw[e1]at this;exact this
theorem ajC{fn:FuncId}{xs:List Operand}{tys:Array TypeId}{ds:List D}{r:D}{own:ae}{f:bp}{e:FE}{o':Ob}(he:e∈f.cr)(dX:lE 0 own=true)
  (fc:∀(args:Array Value)(w:World),(callFunc fn args).run P w=.ok (.enter fn args) w)(hx:env.kg xs=some ds)(hf:dF P fn ds [(e.id,e.ob)] r [(e.id,o')])(wy:D.okB.fg (ae.has [(e.id,e.ob)]) ds=true):
  aq P ⟨dst,.call ⟨.value (.func fn),xs.toArray,tys⟩,ty,pos,ar,g⟩ env (own++cp f) r ((e.id,o')::ae.rest (own++cp f) [(e.id,e.ob)]):=
 hJ fc hx hf (.cons (wi (jx:=own) f dX _ _ (ye f he)).1 (by unfold FE.ob;split<;>rfl) .nil) wy (by
  simp only[sB,List.all_cons,List.all_nil,Bool.and_true,Bool.not_eq_true'];cases h:ae.has (ae.rest (own++cp f) [(e.id,e.ob)]) e.id with
  |false=>rfl
  |true=>
   obtain⟨x,hx⟩:=ae.ij.1 h;rw[ae.rj]at hx;simp[ae.has,ae.bf]at hx)
def pL:List FE→Nat→List FE
 |[],_=>[]
 |e::l,0=>{e with live:=false}::l
 |e::l,j+1=>e::pL l j
theorem Kv:∀(l:List FE)(j:Nat),(pL l j).map (·.id)=l.map (·.id)
 |[],_=>rfl
 |_::_,0=>rfl
 |e::l,j+1=>by rw[pL,List.map_cons,Kv l j,List.map_cons]
theorem Sg:∀(l:List FE)(j:Nat),(pL l j).map (fun e=>(e.key,(e.id,e.rows.length)))=l.map (fun e=>(e.key,(e.id,e.rows.length)))
 |[],_=>rfl
 |_::_,0=>rfl
 |e::l,j+1=>by rw[pL,List.map_cons,Sg l j,List.map_cons]
theorem Sf:∀(l:List FE)(j i:Nat),(pL l j)[i]?=if i=j then(l[i]?).map (fun e=>{e with live:=false})else l[i]?
 |[],_,i=>by simp[pL]
 |e::l,0,0=>by simp[pL]
 |e::l,0,i+1=>by simp[pL]
 |e::l,j+1,0=>by simp[pL]
 |e::l,j+1,i+1=>by
  simp only[pL,List.getElem?_cons_succ,Sf l j i,Nat.add_right_cancel_iff]
def bp.kill(f:bp)(j:Nat):bp:=⟨f.next,pL f.cr j,fun e h=>by
 obtain⟨e',h1,h2⟩:=List.mem_map.1 ((Kv f.cr j)▸List.mem_map.2 ⟨e,h,rfl⟩:e.id∈f.cr.map (·.id));rw[←h2];exact f.lo e' h1,by rw[Kv];exact f.nd,f.hn⟩
theorem acb(f:bp)(j:Nat):eR (f.kill j)=eR f:=Sg f.cr j
theorem Sh(f:bp)(j i:Nat):(f.kill j).cr[i]?=if i=j then(f.cr[i]?).map (fun e=>{e with live:=false})else f.cr[i]?:=Sf ..
theorem Po{U jx:ae}{f:bp}{j:Nat}{e:FE}(hj:f.cr[j]?=some e)(hd:U.get e.id=some .dead)(ho:∀i x,i≠e.id→(cp f).get i=some x→U.get i=some x):∀i x,(cp (f.kill j)).get i=some x→U.get i=some x∧x.okB (ae.has (jx++cp (f.kill j)))=true:=by
 intro i x h;refine⟨?_,Iz _ _ i x h⟩;obtain⟨e',he,rfl,rfl⟩:=AT _ h;obtain⟨i',mh⟩:=List.getElem?_of_mem he;rw[Sh]at mh;by_cases c:i'=j
 ·subst c;rw[if_pos rfl,hj]at mh;cases mh;exact hd
 ·rw[if_neg c]at mh;have hm:=List.mem_of_getElem? mh;refine ho _ _ (fun c2=>c ?_) (ye f hm)
  -- ids are distinct
  have h1:(f.cr.map (·.id))[i']?=some e.id:=by rw[List.getElem?_map,mh];simp[c2]
  have h2:(f.cr.map (·.id))[j]?=some e.id:=by rw[List.getElem?_map,hj];rfl
  obtain⟨a1,b1⟩:=List.getElem?_eq_some_iff.1 h1;obtain⟨a2,b2⟩:=List.getElem?_eq_some_iff.1 h2;have hp:=List.pairwise_iff_getElem.1 f.nd;rcases Nat.lt_trichotomy i' j with h3|h3|h3
  ·exact absurd (b1.trans b2.symm) (hp _ _ a1 a2 h3)
  ·exact h3
  ·exact absurd (b2.trans b1.symm) (hp _ _ a2 a1 h3)
end Go.T
namespace Go.T
open Go
theorem akV{u:UM}{Ls:List (List aa)}(h:fA u Ls)(x:aa):fA (dh u x) ([x]::Ls):=by
 obtain⟨a1,a2,a3,a4⟩:=Du h.qg x;have kE:∀y,named ([x]::Ls) y↔y=x∨named Ls y:=fun y=>by
  constructor
  ·rintro⟨l,hl,hy⟩;rcases List.mem_cons.1 hl with rfl|hl
   ·exact .inl (List.mem_singleton.1 hy)
   ·exact .inr ⟨l,hl,hy⟩
  ·rintro(rfl|⟨l,hl,hy⟩)
   ·exact⟨_,List.mem_cons_self,List.mem_singleton.2 rfl⟩
   ·exact⟨l,List.mem_cons_of_mem _ hl,hy⟩
 have cE:∀{y z:aa},fK ([x]::Ls) y z→fK Ls y z:=fun hc=>by
  induction hc with
  |refl x=>exact .refl x
  |symm _ ih=>exact .symm ih
  |trans _ _ ih nP=>exact .trans ih nP
  |one hl hx hy=>
   rcases List.mem_cons.1 hl with rfl|hl
   ·rw[List.mem_singleton.1 hx,List.mem_singleton.1 hy];exact .refl _
   ·exact .one hl hx hy
 have cU:∀{y z:aa},fK Ls y z→fK ([x]::Ls) y z:=fun hc=>hc.mono fun l hl=>⟨l,List.mem_cons_of_mem _ hl,fun _=>id⟩;refine⟨a1,fun y=>(a2 y).trans ((or_congr Iff.rfl (h.keys y)).trans (kE y).symm),fun y z hy hz=>?_,Nh x h.nd⟩;by_cases j8:y∈aI u<;>by_cases j9:z∈aI u
 ·rw[a3 y j8,a3 z j9];exact(h.conn y z j8 j9).trans ⟨cU,cE⟩
 ·obtain rfl:z=x:=((a2 z).1 hz).resolve_right j9;rw[a3 y j8,a4 j9];obtain⟨rk,hf⟩:=h.qg.wj;refine⟨fun e=>absurd ((hf.Ac _ y rfl j8).1) (by rw[e];exact j9),fun hc=>?_⟩;rcases(cE hc).named with rfl|⟨_,h2⟩
  ·exact absurd j8 j9
  ·exact absurd ((h.keys _).2 h2) j9
 ·obtain rfl:y=x:=((a2 y).1 hy).resolve_right j8;rw[a3 z j9,a4 j8];obtain⟨rk,hf⟩:=h.qg.wj;refine⟨fun e=>absurd ((hf.Ac _ z rfl j9).1) (by rw[←e];exact j8),fun hc=>?_⟩;rcases(cE hc).named with rfl|⟨h2,_⟩
  ·exact absurd j9 j8
  ·exact absurd ((h.keys _).2 h2) j8
 ·obtain rfl:y=x:=((a2 y).1 hy).resolve_right j8;obtain rfl:z=y:=((a2 z).1 hz).resolve_right j9;exact⟨fun _=>.refl _,fun _=>rfl⟩
def ew(l:List Fact)(k:aa):List aa:=((l.filter fun f=>decide (f.key=k)).map cC).flatten
theorem HS(l:List Fact)(x:Fact)(k:aa):ew (l++[x]) k=ew l k++if x.key=k then cC x else[]:=by
 unfold ew;by_cases h:x.key=k
 ·simp[List.filter_append,h]
 ·simp[List.filter_append,h]
structure vH(fm:bp)(l:List Fact):Prop where
 live:∀e∈fm.cr,e.live=true
 rows:∀k,ja fm k=ew l k
 keys:∀k,k∈fm.cr.map (·.key)↔k∈l.map (·.key)
 nd:(fm.cr.map (·.key)).Nodup
theorem aca:vH bp.empty []:=⟨by simp[bp.empty],fun k=>rfl,by simp[bp.empty],by simp[bp.empty]⟩
theorem Gy{k:aa}{i:Nat}{r:List aa}:∀(l:List FE)(y:aa),y∈(jR l k i r).map (·.key)↔y=k∨y∈l.map (·.key)
 |[],y=>by simp[jR]
 |e::l,y=>by
  simp only[jR];split
  ·rename_i c;subst c;simp
  ·simp only[List.map_cons,List.mem_cons,Gy l y];constructor
   ·rintro(h|h|h)
    ·exact .inr (.inl h)
    ·exact .inl h
    ·exact .inr (.inr h)
   ·rintro(h|h|h)
    ·exact .inr (.inl h)
    ·exact .inl h
    ·exact .inr (.inr h)
theorem Ml{k:aa}{i:Nat}{r:List aa}:∀(l:List FE),(l.map (·.key)).Nodup→((jR l k i r).map (·.key)).Nodup
 |[],_=>by simp[jR]
 |e::l,h=>by
  rw[List.map_cons,List.nodup_cons]at h;simp only[jR];split
  ·rename_i c;subst c;rw[List.map_cons,List.nodup_cons];exact h
  ·rename_i c;rw[List.map_cons,List.nodup_cons];refine⟨fun h2=>?_,Ml l h.2⟩;rcases(Gy l _).1 h2 with h3|h3
   ·exact c h3.symm
   ·exact h.1 h3
theorem Pl(f:bp)(k:aa)(new:List aa)(y:aa):ja (f.add k new) y=if y=k then ja f k++new else ja f y:=by
 have key:∀(r:List aa)(i:Nat)(l:List FE),((((jR l k i r).find? fun e=>decide (y=e.key)).map (·.rows)).getD [])=if y=k then r else(((l.find? fun e=>decide (y=e.key)).map (·.rows)).getD []):=by
  intro r i l;induction l with
  |nil=>
   simp only[jR,List.find?_cons];by_cases c:y=k<;>simp[c]
  |cons e l ih=>
   simp only[jR];by_cases c:k=e.key
   ·rw[if_pos c];by_cases d:y=k
    ·rw[List.find?_cons_of_pos (by simpa using d)];simp[d]
    ·rw[List.find?_cons_of_neg (by simpa using d),List.find?_cons_of_neg (by simpa[←c]using d),if_neg d]
   ·rw[if_neg c];by_cases d:y=e.key
    ·rw[List.find?_cons_of_pos (by simpa using d),List.find?_cons_of_pos (by simpa using d),if_neg (fun(e2:y=k)=>c (e2.symm.trans d))]
    ·rw[List.find?_cons_of_neg (by simpa using d),List.find?_cons_of_neg (by simpa using d),ih]
 exact key _ _ _
theorem vH.add{fm:bp}{l:List Fact}(h:vH fm l)(x:Fact):vH (fm.add x.key (cC x)) (l++[x]):=by
 refine⟨fun e he=>?_,fun k=>?_,fun k=>?_,Ml _ h.nd⟩
 ·rcases CR he with he|rfl
  ·exact h.live e he
  ·rfl
 ·rw[Pl,HS,h.rows k,h.rows x.key];by_cases c:k=x.key
  ·rw[if_pos c,if_pos c.symm,c]
  ·rw[if_neg c,if_neg (fun e=>c e.symm),List.append_nil]
 ·have:=Gy (k:=x.key) (i:=fm.next) (r:=ja fm x.key++cC x) fm.cr k;show k∈(jR _ _ _ _).map (·.key)↔_;rw[this,h.keys k];simp[or_comm]
theorem zG(own:ae)(f:bp):(Ob.mp (bu D.str iB (eR f))).okB (ae.has (own++cp f))=true:=by
 have hid:∀e∈f.cr,ae.has (own++cp f) e.id=true:=fun e he=>by
  have h1:=ye f he;simp only[ae.has,ae.get_append];cases own.get e.id<;>simp[h1]
 have key:∀(l:List FE),(∀e∈l,ae.has (own++cp f) e.id=true)→(Ob.mp (bu D.str iB (l.map fun e=>(e.key,(e.id,e.rows.length))))).okB (ae.has (own++cp f))=true:=by
  intro l hl;induction l with
  |nil=>rfl
  |cons e l ih=>
   have h1:=ih fun e he=>hl e (List.mem_cons_of_mem _ he);have h2:=hl e List.mem_cons_self;simp only[Ob.okB,bu,List.map_cons,D.okB.fg,D.okB,Bool.and_eq_true,Bool.true_and]at h1⊢;exact⟨h1.1,h2,h1.2⟩
 exact key f.cr hid
def kM(f:bp)(seen:List Nat):bp:=seen.foldl bp.kill f
theorem Fg(f:bp)(seen:List Nat)(j:Nat):kM f (seen++[j])=(kM f seen).kill j:=by simp[kM]
theorem acd(seen:List Nat):∀f:bp,eR (kM f seen)=eR f:=by
 induction seen with
 |nil=>intro f;rfl
 |cons j seen ih=>intro f;show eR (kM (f.kill j) seen)=_;rw[ih,acb]
theorem Se(seen:List Nat):∀(f:bp)(j:Nat),j∉seen→(kM f seen).cr[j]?=f.cr[j]?:=by
 induction seen with
 |nil=>intro f j _;rfl
 |cons i seen ih=>
  intro f j hj;show(kM (f.kill i) seen).cr[j]?=_;rw[ih _ _ (fun h=>hj (List.mem_cons_of_mem _ h)),Sh,if_neg (fun(h:j=i)=>hj (h▸List.mem_cons_self))]
theorem Pn{f:bp}{j:Nat}{k:aa}{v:Nat×Nat}(h:(eR f)[j]?=some (k,v)):∃e,f.cr[j]?=some e∧e.key=k∧v=(e.id,e.rows.length):=by
 unfold eR at h;rw[List.getElem?_map,Option.map_eq_some_iff]at h;obtain⟨e,h1,h2⟩:=h;cases h2;exact⟨e,h1,rfl,rfl⟩
def xy(f:bp)(j:Nat):Option (List aa):=(f.cr[j]?).map (·.rows)
theorem akH{f:bp}{seen:List Nat}{j:Nat}{e:FE}(h:f.cr[j]?=some e):(seen++[j]).filterMap (xy f)=seen.filterMap (xy f)++[e.rows]:=by
 simp[List.filterMap_append,xy,h]
theorem fA.perm{u:UM}{Ls iY:List (List aa)}(h:fA u Ls)(hp:∀l,l∈Ls↔l∈iY):fA u iY:=
 h.mono (fun l hl=>⟨l,(hp l).1 hl,fun _=>id⟩) (fun l hl=>⟨l,(hp l).2 hl,fun _=>id⟩)
theorem fA.join{u:UM}{Ls:List (List aa)}(h:fA u Ls)(l:List aa):fA (uU u l) (Ls++[l]):=(V2 h l).perm fun x=>by simp[or_comm]
theorem fA.add{u:UM}{Ls:List (List aa)}(h:fA u Ls)(x:aa):fA (dh u x) (Ls++[[x]]):=(akV h x).perm fun y=>by simp[or_comm]
def i_(s:Setup)(l:List Fact):List (List aa):=(s.insts.map fun x=>[x.id])++l.map cC++l.map fun f=>ew l f.key
theorem O6{fm:bp}{l:List Fact}(h:vH fm l){j:Nat}{e:FE}(hj:fm.cr[j]?=some e):e.rows=ew l e.key:=by
 have he:=List.mem_of_getElem? hj;rw[←h.rows e.key];unfold ja wh;have:fm.cr.find? (fun x=>decide (e.key=x.key))=some e:=by
  have hn:=h.nd
  revert he hn
  induction fm.cr with
  |nil=>intro he;cases he
  |cons a r ih=>
   intro he hn;rw[List.map_cons,List.nodup_cons]at hn;rcases List.mem_cons.1 he with rfl|he
   ·rw[List.find?_cons_of_pos zS]
   ·rw[List.find?_cons_of_neg,ih he hn.2];simp only[decide_eq_true_eq];intro c;exact hn.1 (c▸List.mem_map.2 ⟨e,he,rfl⟩)
 rw[this];rfl
theorem OH{s:Setup}{l:List Fact}{fm:bp}{u:UM}{seen:List Nat}(h:vH fm l)(dW:∀j,j<(eR fm).length→j∈seen)
  (hu:fA u ((s.insts.map fun x=>[x.id])++l.map cC++seen.filterMap (xy fm))):fA u (i_ s l):=by
 refine hu.perm fun x=>?_;unfold i_;rw[List.mem_append,List.mem_append (s:=_++_)];refine or_congr Iff.rfl ?_;rw[List.mem_filterMap,List.mem_map];constructor
 ·rintro⟨j,_,hj⟩;unfold xy at hj;obtain⟨e,h1,rfl⟩:=Option.map_eq_some_iff.1 hj;have hk:=(h.keys e.key).1 (List.mem_map.2 ⟨e,List.mem_of_getElem? h1,rfl⟩);obtain⟨f,hf,e2⟩:=List.mem_map.1 hk;exact⟨f,hf,by rw[e2,O6 h h1]⟩
 ·rintro⟨f,hf,rfl⟩;obtain⟨e,he,e2⟩:=List.mem_map.1 ((h.keys f.key).2 (List.mem_map.2 ⟨f,hf,rfl⟩));obtain⟨j,hj⟩:=List.getElem?_of_mem he;refine⟨j,dW j (by unfold eR;rw[List.length_map];exact(List.getElem?_eq_some_iff.1 hj).1),?_⟩;unfold xy;rw[hj];show some e.rows=_;rw[O6 h hj,e2]
theorem aae{l:List Fact}{n:Nat}(h:∀f∈l,f.opts.length≤n)(k:aa):(ew l k).length≤l.length*(2+n):=by
 induction l with
 |nil=>simp[ew]
 |cons f r ih=>
  have h1:=ih fun g hg=>h g (List.mem_cons_of_mem _ hg);have h2:=wR f;have h3:=h f List.mem_cons_self;have e:ew (f::r) k=(if f.key=k then cC f else[])++ew r k:=by
   unfold ew;by_cases c:f.key=k<;>simp[c]
  rw[e,List.length_append,List.length_cons,Nat.add_mul,Nat.one_mul];split
  ·omega
  ·simp;omega
theorem agH(a b c:aa):decide (a≤b)=true→decide (b≤c)=true→decide (a≤c)=true:=by
 simp only[decide_eq_true_eq];exact List.le_trans
theorem agG(a b:aa):(decide (a≤b)||decide (b≤a))=true:=by
 simp only[Bool.or_eq_true,decide_eq_true_eq];exact List.le_total a b
theorem vt(l:List aa):(fx l).Pairwise fun a b=>a≤b:=(List.pairwise_mergeSort agH agG l).imp fun h=>of_decide_eq_true h
theorem CW{a b:List aa}(h:a.Perm b)(ha:a.Pairwise fun x y=>x≤y)(hb:b.Pairwise fun x y=>x≤y):a=b:=
 List.Perm.eq_of_pairwise (fun _ _ _ _ h1 h2=>List.le_antisymm h1 h2) ha hb h
theorem Mw{a b:List aa}(h:a.Perm b):fx a=fx b:=
 CW ((nA a).trans (h.trans (nA b).symm)) (vt a) (vt b)
theorem U0{a b:List aa}(ha:a.Nodup)(hb:b.Nodup)(h:∀x,x∈a↔x∈b):a.Perm b:=(List.perm_ext_iff_of_nodup ha hb).2 h
noncomputable def l7(u:UM)(x:aa):List aa:=fx ((aI u).filter fun y=>decide (aJ u y=aJ u x))
noncomputable def m'(u:UM)(x:aa):Bool:=(aI u).all fun y=>decide (aJ u y=aJ u x→x≤y)
noncomputable def iR(u:UM):List (List aa):=(fx ((aI u).filter (m' u))).map (l7 u)
theorem akX{u u':UM}{Ls:List (List aa)}(h:fA u Ls)(h':fA u' Ls):iR u=iR u':=by
 have hp:(aI u).Perm (aI u'):=U0 h.nd h'.nd fun x=>(h.keys x).trans (h'.keys x).symm;have hm:∀x,x∈aI u↔x∈aI u':=fun x=>hp.mem_iff;have hr:∀x∈aI u,∀y∈aI u,(aJ u y=aJ u x↔aJ u' y=aJ u' x):=fun x hx y hy=>(h.conn y x hy hx).trans (h'.conn y x ((hm y).1 hy) ((hm x).1 hx)).symm;have hl:∀x∈aI u,m' u x=m' u' x:=fun x hx=>by
  rw[Bool.eq_iff_iff];unfold m';simp only[List.all_eq_true,decide_eq_true_eq];constructor
  ·intro g y hy e;exact g y ((hm y).2 hy) ((hr x hx y ((hm y).2 hy)).2 e)
  ·intro g y hy e;exact g y ((hm y).1 hy) ((hr x hx y hy).1 e)
 have e1:fx ((aI u).filter (m' u))=fx ((aI u').filter (m' u')):=by
  refine Mw ?_;rw[List.filter_congr hl];exact hp.filter _
 unfold iR;rw[←e1];refine List.map_congr_left fun x hx=>?_;have j7:x∈aI u:=(List.mem_filter.1 ((nA _).mem_iff.1 hx)).1;unfold l7;refine Mw ?_;rw[List.filter_congr (q:=fun y=>decide (aJ u' y=aJ u' x)) fun y hy=>by rw[decide_eq_decide];exact hr x j7 y hy];exact hp.filter _
open Classical in
noncomputable def lu(Ls:List (List aa)):List (List aa):=if h:∃u,fA u Ls then iR (Classical.choose h)else[]
theorem EA{u:UM}{Ls:List (List aa)}(h:fA u Ls):iR u=lu Ls:=by
 have hx:∃u,fA u Ls:=⟨u,h⟩;unfold lu;rw[dif_pos hx];exact akX h (Classical.choose_spec hx)
abbrev sE(l:List (List aa)):D:=.snap 1 false ([.raw (.slice none 0 0)]::l.map fun r=>[D.snap 1 false (cM r)])
end Go.T
namespace Go.T
open Go
theorem Ix{own:ae}{f:bp}{k:aa}{new:List aa}{o' o:Ob}(i:Nat)(h:own.get i=some o)(h1:Nat.beq i 61=false)(h2:Nat.blt i 99=true):ae.get ((99,.arr 1 [])::(wg own f k new).set 61 o') i=some o:=by
 have h1:i≠61:=fun e=>by subst e;simp at h1
 have h2:i<99:=by simpa[Nat.blt_eq]using h2
 rw[ae.bf,if_neg zO,ae.dV,if_neg zO,Iw h2];exact Cr h
theorem Pj{own:ae}{f:bp}{k:aa}{new:List aa}{o':Ob}:ae.get ((99,.arr 1 [])::(wg own f k new).set 61 o') 61=some o':=by
 rw[ae.bf,if_neg zO,ae.dV,if_pos rfl]
theorem xe{f:bp}(own:ae)(seen:List Nat):(Ob.mp (bu D.str iB (eR f))).okB (ae.has (own++cp (kM f seen)))=true:=by
 have:=zG own (kM f seen);rw[acd]at this;exact this
theorem ace{own:ae}{f:bp}{j:Nat}{e:FE}(dX:lE 0 own=true)(hj:f.cr[j]?=some e)(hl:e.live=true):ae.get (own++cp f) e.id=some (.arr 1 (cM e.rows)):=by
 have h1:=ye f (List.mem_of_getElem? hj);have:=tC dX (yf f) _ _ h1;rw[this];unfold FE.ob;rw[if_pos hl]
theorem D'{own:ae}{f:bp}{j:Nat}{e:FE}{o:Ob}(i:Nat)(hj:f.cr[j]?=some e)(h:own.get i=some o)(hi:Nat.blt i 1000=true):ae.get ((own++cp f).set e.id .dead) i=some o:=by
 have:=(f.lo e (List.mem_of_getElem? hj)).1;have hi:i<1000:=by simpa[Nat.blt_eq]using hi
 rw[ae.dV,if_neg zO];exact Cr h
theorem acg{own jx:ae}{f:bp}{j:Nat}{e:FE}(dX:lE 0 own=true)(hj:f.cr[j]?=some e):∀i x,(cp (f.kill j)).get i=some x→ae.get ((own++cp f).set e.id .dead) i=some x∧x.okB (ae.has (jx++cp (f.kill j)))=true:=
 Po hj (by rw[ae.dV,if_pos rfl]) fun i x hi h=>by
  rw[ae.dV,if_neg (fun c=>hi c.symm)];exact tC dX (yf f) _ _ h
structure oa(fm:bp)(u:UM)(ks:List aa):Prop where
 live:∀e∈fm.cr,e.live=true
 rows:∀r,ja fm r=ks.filter fun k=>decide (aJ u k=r)
 keys:∀r,r∈fm.cr.map (·.key)↔∃k∈ks,aJ u k=r
 nd:(fm.cr.map (·.key)).Nodup
theorem adS(u:UM):oa bp.empty u []:=⟨by simp[bp.empty],fun k=>rfl,by simp[bp.empty],by simp[bp.empty]⟩
theorem oa.add{fm:bp}{u:UM}{ks:List aa}(h:oa fm u ks)(x:aa):oa (fm.add (aJ u x) [x]) u (ks++[x]):=by
 refine⟨fun e he=>?_,fun r=>?_,fun r=>?_,Ml _ h.nd⟩
 ·rcases CR he with he|rfl
  ·exact h.live e he
  ·rfl
 ·rw[Pl,h.rows,h.rows,List.filter_append];by_cases c:r=aJ u x
  ·rw[if_pos c,←c];congr 1;simp[c]
  ·rw[if_neg c];have:¬aJ u x=r:=fun e=>c e.symm;simp[this]
 ·show r∈(jR _ _ _ _).map (·.key)↔_;rw[Gy,h.keys r];constructor
  ·rintro(rfl|⟨k,hk,e⟩)
   ·exact⟨x,by simp,rfl⟩
   ·exact⟨k,by simp[hk],e⟩
  ·rintro⟨k,hk,e⟩;rcases List.mem_append.1 hk with hk|hk
   ·exact .inr ⟨k,hk,e⟩
   ·left;rw[List.mem_singleton.1 hk]at e;exact e.symm
theorem EC{fm:bp}{u:UM}{ks:List aa}(h:oa fm u ks){j:Nat}{e:FE}(hj:fm.cr[j]?=some e):e.rows=ks.filter fun k=>decide (aJ u k=e.key):=by
 have he:=List.mem_of_getElem? hj;rw[←h.rows e.key];unfold ja wh;have:fm.cr.find? (fun x=>decide (e.key=x.key))=some e:=by
  have hn:=h.nd
  revert he hn
  induction fm.cr with
  |nil=>intro he;cases he
  |cons a r ih=>
   intro he hn;rw[List.map_cons,List.nodup_cons]at hn;rcases List.mem_cons.1 he with rfl|he
   ·rw[List.find?_cons_of_pos zS]
   ·rw[List.find?_cons_of_neg,ih he hn.2];simp only[decide_eq_true_eq];intro c;exact hn.1 (c▸List.mem_map.2 ⟨e,he,rfl⟩)
 rw[this];rfl
theorem GF{l:List aa}(h:l≠[]):(fx l).headD []∈l∧∀y∈l,(fx l).headD []≤y:=by
 have hp:=nA l;have hw:=vt l;cases e:fx l with
 |nil=>
  rw[e]at hp;exact absurd (List.length_eq_zero_iff.1 hp.length_eq.symm) h
 |cons a r=>
  rw[e]at hp hw;refine⟨hp.mem_iff.1 List.mem_cons_self,fun y hy=>?_⟩;rcases List.mem_cons.1 (hp.mem_iff.2 hy)with rfl|hy
  ·exact List.le_refl _
  ·exact(List.pairwise_cons.1 hw).1 y hy
theorem vW{u:UM}{x:aa}(hx:x∈aI u):x∈(aI u).filter fun y=>decide (aJ u y=aJ u x):=List.mem_filter.2 ⟨hx,by simp⟩
theorem NY{u:UM}{x:aa}(hx:x∈aI u)(hl:m' u x=true):(l7 u x).headD []=x:=by
 have aD:((aI u).filter fun y=>decide (aJ u y=aJ u x))≠[]:=List.ne_nil_of_mem (vW hx);obtain⟨h1,h2⟩:=GF aD;obtain⟨h3,h4⟩:=List.mem_filter.1 h1;unfold m' at hl;simp only[List.all_eq_true,decide_eq_true_eq]at hl;exact List.le_antisymm (h2 x (vW hx)) (hl _ h3 (of_decide_eq_true h4))
theorem zk{u:UM}{x:aa}:x∈fx ((aI u).filter (m' u))↔x∈aI u∧m' u x=true:=by
 rw[w6,List.mem_filter]
theorem Jc(u:UM):(iR u).map (·.headD [])=fx ((aI u).filter (m' u)):=by
 unfold iR;rw[List.map_map];conv=>rhs;rw[←List.map_id (fx ((aI u).filter (m' u)))]
 refine List.map_congr_left fun x hx=>?_;have:=zk.1 hx;exact NY this.1 this.2
def ie(fm:bp)(seen:List Nat):List (List aa):=seen.filterMap fun j=>(fm.cr[j]?).map fun e=>fx e.rows
theorem P1{fm:bp}{seen:List Nat}{j:Nat}{e:FE}(h:fm.cr[j]?=some e):ie fm (seen++[j])=ie fm seen++[fx e.rows]:=by
 simp[ie,List.filterMap_append,h]
theorem Jd{u:UM}{ks:List aa}(hp:ks.Perm (aI u))(r:aa):fx (ks.filter fun k=>decide (aJ u k=r))=fx ((aI u).filter fun k=>decide (aJ u k=r)):=Mw (hp.filter _)
theorem K5{fm:bp}{u:UM}{ks:List aa}{seen:List Nat}(h:oa fm u ks)(hp:ks.Perm (aI u)){l:List aa}(hl:l∈ie fm seen):∃x∈aI u,m' u x=true∧l=l7 u x:=by
 unfold ie at hl;obtain⟨j,_,hj⟩:=List.mem_filterMap.1 hl;obtain⟨e,he,rfl⟩:=Option.map_eq_some_iff.1 hj;obtain⟨k,hk,hr⟩:=(h.keys e.key).1 (List.mem_map.2 ⟨e,List.mem_of_getElem? he,rfl⟩);rw[EC h he,Jd hp,←hr];have sW:k∈aI u:=hp.mem_iff.1 hk;have aD:((aI u).filter fun y=>decide (aJ u y=aJ u k))≠[]:=List.ne_nil_of_mem (vW sW);obtain⟨h1,h2⟩:=GF aD;generalize (fx ((aI u).filter fun y=>decide (aJ u y=aJ u k))).headD []=x at h1 h2;obtain⟨h3,h4⟩:=List.mem_filter.1 h1;have h4:aJ u x=aJ u k:=by simpa using h4
 refine⟨x,h3,?_,by unfold l7;rw[h4]⟩;unfold m';simp only[List.all_eq_true,decide_eq_true_eq];exact fun y hy e=>h2 y (List.mem_filter.2 ⟨hy,by simpa[h4]using e⟩)
theorem acW{fm:bp}{u:UM}{ks:List aa}{seen:List Nat}(h:oa fm u ks)(hp:ks.Perm (aI u))(dW:∀j,j<(eR fm).length→j∈seen){x:aa}(hx:x∈aI u):l7 u x∈ie fm seen:=by
 obtain⟨e,he,hk⟩:=List.mem_map.1 ((h.keys (aJ u x)).2 ⟨x,hp.mem_iff.2 hx,rfl⟩);obtain⟨j,hj⟩:=List.getElem?_of_mem he;unfold ie;refine List.mem_filterMap.2 ⟨j,dW j (by unfold eR;rw[List.length_map];exact(List.getElem?_eq_some_iff.1 hj).1),?_⟩;rw[hj];show some (fx e.rows)=_;rw[EC h hj,Jd hp,hk];rfl
theorem aem{u:UM}{x:aa}(hx:x∈aI u):aJ u ((l7 u x).headD [])=aJ u x:=by
 have aD:((aI u).filter fun y=>decide (aJ u y=aJ u x))≠[]:=List.ne_nil_of_mem (vW hx);exact of_decide_eq_true (List.mem_filter.1 (GF aD).1).2
theorem acZ{fm:bp}{u:UM}{ks:List aa}(h:oa fm u ks)(hp:ks.Perm (aI u))(seen:List Nat):(ie fm seen).map (fun l=>aJ u (l.headD []))=seen.filterMap fun j=>(fm.cr[j]?).map (·.key):=by
 unfold ie;rw[List.map_filterMap]
 congr 1
 funext j
 cases hj:fm.cr[j]?with
 |none=>rfl
 |some e=>
  simp only[Option.map_some,Option.some.injEq];obtain⟨k,hk,hr⟩:=(h.keys e.key).1 (List.mem_map.2 ⟨e,List.mem_of_getElem? hj,rfl⟩);rw[EC h hj,Jd hp,←hr];exact aem (hp.mem_iff.1 hk)
theorem IW{fm:bp}{u:UM}{ks:List aa}(h:oa fm u ks)(hp:ks.Perm (aI u)){seen:List Nat}(hs:seen.Nodup):((ie fm seen).map (·.headD [])).Nodup:=by
 have h1:((ie fm seen).map (fun l=>aJ u (l.headD []))).Nodup:=by
  rw[acZ h hp];refine List.Pairwise.filterMap _ (fun i j yH a ha b hb e=>yH ?_) hs;obtain⟨x,hx,rfl⟩:=Option.map_eq_some_iff.1 ha;obtain⟨y,hy,rfl⟩:=Option.map_eq_some_iff.1 hb;have h1:(fm.cr.map (·.key))[i]?=some x.key:=by rw[List.getElem?_map,hx];rfl
  have h2:(fm.cr.map (·.key))[j]?=some x.key:=by rw[List.getElem?_map,hy];exact congrArg some e.symm
  obtain⟨a1,b1⟩:=List.getElem?_eq_some_iff.1 h1;obtain⟨a2,b2⟩:=List.getElem?_eq_some_iff.1 h2;have hq:=List.pairwise_iff_getElem.1 h.nd;rcases Nat.lt_trichotomy i j with h3|h3|h3
  ·exact absurd (b1.trans b2.symm) (hq _ _ a1 a2 h3)
  ·exact h3
  ·exact absurd (b2.trans b1.symm) (hq _ _ a2 a1 h3)
 have h2:(((ie fm seen).map (·.headD [])).map (aJ u)).Nodup:=by rw[List.map_map];exact h1
 exact(List.pairwise_map.1 h2).imp fun aD e=>aD (congrArg _ e)
theorem acY{fm:bp}{u:UM}{ks:List aa}{seen:List Nat}(h:oa fm u ks)(hp:ks.Perm (aI u))(hn:(aI u).Nodup)(hs:seen.Nodup)(dW:∀j,j<(eR fm).length→j∈seen):(iR u).Perm (ie fm seen):=by
 have n1:(iR u).Nodup:=by
  have:((iR u).map (·.headD [])).Nodup:=by
   rw[Jc];exact(nA _).nodup_iff.2 (hn.filter _)
  exact(List.pairwise_map.1 this).imp fun aD e=>aD (by rw[e])
 have n2:(ie fm seen).Nodup:=(List.pairwise_map.1 (IW h hp hs)).imp fun aD e=>aD (by rw[e]);refine(List.perm_ext_iff_of_nodup n1 n2).2 fun l=>?_;constructor
 ·intro hl;unfold iR at hl;obtain⟨x,hx,rfl⟩:=List.mem_map.1 hl;exact acW h hp dW (zk.1 hx).1
 ·intro hl;obtain⟨x,hx,h1,rfl⟩:=K5 h hp hl;unfold iR;exact List.mem_map.2 ⟨x,zk.2 ⟨hx,h1⟩,rfl⟩
theorem acX{fm:bp}{u:UM}{ks:List aa}{seen:List Nat}(h:oa fm u ks)(hp:ks.Perm (aI u)):∀l∈ie fm seen,l≠[]:=fun l hl=>by
 obtain⟨x,hx,_,rfl⟩:=K5 h hp hl;have:x∈l7 u x:=by unfold l7;rw[w6];exact vW hx
 exact List.ne_nil_of_mem this
theorem Qk(u:UM):((iR u).map (·.headD [])).Pairwise fun a b=>a≤b:=by rw[Jc];exact vt _
theorem QC{i j:Nat}{o:Ob}(h:i≠j):ae.has [(i,o)] j=false:=by
 show(ae.get [(i,o)] j).isSome=false;rw[ae.bf,if_neg h];rfl
theorem adb{i:Nat}{o:Ob}{r:ae}:ae.get ((i,o)::r) i=some o:=by rw[ae.bf,if_pos rfl]
abbrev Pk(own:ae)(f:bp)(e:FE)(o':Ob):ae:=(e.id,o')::ae.rest (own++cp f) [(e.id,e.ob)]
theorem AU{own:ae}{f:bp}{j:Nat}{e:FE}{o' o:Ob}(i:Nat)(hj:f.cr[j]?=some e)(h:own.get i=some o)(hi:Nat.blt i 1000=true):ae.get ((Pk own f e o').set e.id .dead) i=some o:=by
 have:=(f.lo e (List.mem_of_getElem? hj)).1;have hi:i<1000:=by simpa[Nat.blt_eq]using hi
 rw[ae.dV,if_neg zO,ae.bf,if_neg zO,ae.rj];have:ae.has [(e.id,e.ob)] i=false:=QC zO;rw[this];exact Cr h
theorem aci{own jx:ae}{f:bp}{j:Nat}{e:FE}{o':Ob}(dX:lE 0 own=true)(hj:f.cr[j]?=some e):∀i x,(cp (f.kill j)).get i=some x→ae.get ((Pk own f e o').set e.id .dead) i=some x∧x.okB (ae.has (jx++cp (f.kill j)))=true:=
 Po hj (by rw[ae.dV,if_pos rfl]) fun i x hi h=>by
  rw[ae.dV,if_neg (fun c=>hi c.symm),ae.bf,if_neg (fun c=>hi c.symm),ae.rj];have:ae.has [(e.id,e.ob)] i=false:=QC fun c=>hi c.symm;rw[this];exact tC dX (yf f) _ _ h
def uV(u:UM)(j:Nat):Option aa:=(u[j]?).map (·.1)
theorem afX{u:UM}{seen:List Nat}{j:Nat}{k v:aa}(h:u[j]?=some (k,v)):(seen++[j]).filterMap (uV u)=seen.filterMap (uV u)++[k]:=by
 simp[List.filterMap_append,uV,h]
theorem afW{u:UM}{j:Nat}{k v:aa}(h:u[j]?=some (k,v)):k∈aI u:=List.mem_map.2 ⟨(k,v),List.mem_of_getElem? h,rfl⟩
theorem af0{u:UM}{seen:List Nat}(hn:(aI u).Nodup)(hs:seen.Nodup)(dW:∀j,j<u.length→j∈seen):(seen.filterMap (uV u)).Perm (aI u):=by
 have n1:(seen.filterMap (uV u)).Nodup:=by
  refine List.Pairwise.filterMap _ (fun i j yH a ha b hb e=>yH ?_) hs;have h1:(aI u)[i]?=some a:=by unfold aI;rw[List.getElem?_map];exact ha
  have h2:(aI u)[j]?=some a:=by unfold aI;rw[List.getElem?_map,e];exact hb
  obtain⟨a1,b1⟩:=List.getElem?_eq_some_iff.1 h1;obtain⟨a2,b2⟩:=List.getElem?_eq_some_iff.1 h2;have hq:=List.pairwise_iff_getElem.1 hn;rcases Nat.lt_trichotomy i j with h3|h3|h3
  ·exact absurd (b1.trans b2.symm) (hq _ _ a1 a2 h3)
  ·exact h3
  ·exact absurd (b2.trans b1.symm) (hq _ _ a2 a1 h3)
 refine(List.perm_ext_iff_of_nodup n1 hn).2 fun k=>?_;constructor
 ·intro h;obtain⟨j,_,hj⟩:=List.mem_filterMap.1 h;obtain⟨p,hp,rfl⟩:=Option.map_eq_some_iff.1 hj;exact List.mem_map.2 ⟨p,List.mem_of_getElem? hp,rfl⟩
 ·intro h;obtain⟨p,hp,rfl⟩:=List.mem_map.1 h;obtain⟨j,hj⟩:=List.getElem?_of_mem hp;exact List.mem_filterMap.2 ⟨j,dW j (List.getElem?_eq_some_iff.1 hj).1,by unfold uV;rw[hj];rfl⟩
theorem afV(u:UM)(seen:List Nat):(seen.filterMap (uV u)).length≤seen.length:=List.length_filterMap_le _ _
theorem ahq{l:List Fact}{k x:aa}(h:x∈ew l k):∃f∈l,x∈cC f:=by
 unfold ew at h;obtain⟨r,hr,hx⟩:=List.mem_flatten.1 h;obtain⟨f,hf,rfl⟩:=List.mem_map.1 hr;exact⟨f,(List.mem_filter.1 hf).1,hx⟩
theorem OJ{s:Setup}{l:List Fact}{x:aa}(h:named (i_ s l) x):x∈(s.insts.map (·.id))++(l.map cC).flatten:=by
 obtain⟨r,hr,hx⟩:=h;unfold i_ at hr;rw[List.mem_append,List.mem_append]at hr;rw[List.mem_append];rcases hr with(hr|hr)|hr
 ·obtain⟨i,hi,rfl⟩:=List.mem_map.1 hr;left;rw[List.mem_singleton.1 hx];exact List.mem_map.2 ⟨i,hi,rfl⟩
 ·exact .inr (List.mem_flatten.2 ⟨r,hr,hx⟩)
 ·obtain⟨f,hf,rfl⟩:=List.mem_map.1 hr;obtain⟨f',Bg,j7⟩:=ahq hx;exact .inr (List.mem_flatten.2 ⟨_,List.mem_map.2 ⟨f',Bg,rfl⟩,j7⟩)
theorem acL{l:List Fact}{n:Nat}(h:∀f∈l,f.opts.length≤n):(l.map cC).flatten.length≤l.length*(2+n):=by
 induction l with
 |nil=>simp
 |cons f r ih=>
  have h1:=ih fun g hg=>h g (List.mem_cons_of_mem _ hg);have h2:=wR f;have h3:=h f List.mem_cons_self;rw[List.map_cons,List.flatten_cons,List.length_append,List.length_cons,Nat.add_mul,Nat.one_mul];omega
theorem aaQ{s:Setup}{l:List Fact}{u:UM}(hu:fA u (i_ s l))(hi:s.insts.length≤1000)(hl:l.length≤500)(ho:∀f∈l,f.opts.length≤1000):u.length≤1000000:=by
 have h1:=List.Nodup.length_le_of_subset hu.nd (l₂:=(s.insts.map (·.id))++(l.map cC).flatten) (fun x hx=>OJ ((hu.keys x).1 hx));have h2:=acL ho;have h3:l.length*(2+1000)≤500*1002:=Nat.mul_le_mul_right _ hl;simp only[aI,List.length_map,List.length_append]at h1;omega
theorem aaT{s:Setup}{l:List Fact}{u:UM}(hu:fA u (i_ s l))(hi:∀x∈s.insts,dj x.id)(ho:∀f∈l,∀n∈eV f,dj n):∀k∈aI u,dj k:=fun k hk=>by
 have:=OJ ((hu.keys k).1 hk);rcases List.mem_append.1 this with h|h
 ·obtain⟨x,hx,rfl⟩:=List.mem_map.1 h;exact hi x hx
 ·obtain⟨r,hr,hx⟩:=List.mem_flatten.1 h;obtain⟨f,hf,rfl⟩:=List.mem_map.1 hr;exact ho f hf k (TE.1 hx).1
open Go.Proofs Go.Proofs.Tryz
set_option maxRecDepth 20000
structure aa6(s:Setup)(l:List Fact)where
 pre:List aW
 rest:List aW
 u:UM
 hx:s.insts=pre++rest
 hu:fA u (pre.map fun x=>[x.id])
structure aa7(s:Setup)(l:List Fact)where
 pre:List Fact
 rest:List Fact
 u:UM
 fm:bp
 hx:l=pre++rest
 hu:fA u ((s.insts.map fun x=>[x.id])++pre.map cC)
 kY:vH fm pre
structure aa8(s:Setup)(l:List Fact)(fm:bp)where
 seen:List Nat
 u3:UM
 eU:seen.Nodup
 BB:fA u3 (((s.insts.map fun x=>[x.id])++l.map cC)++seen.filterMap (xy fm))
theorem aa5(s:Setup)(l:List Fact)(yG:s.insts.length≤1000)(uJ:∀x∈s.insts,dj x.id)(yL:l.length≤500)(j1:∀f∈l,f.opts.length≤1000∧∀s∈eV f,dj s)(hgr:∀u,lf u→(aI u).Nodup→(∀k∈aI u,dj k)→u.length≤1000000→dF Tryz.prog 92 [.bR 60] [(60,.mp (bu D.str D.str u))] (sE (iR u)) [(60,.mp (bu D.str D.str u))]):Fc Tryz.prog 45 [.agg (fC s),cN l] (sE (lu (i_ s l))):=by
 refine Fc.mk' [4] func45 rfl ntmps45 rfl rfl rfl (fun t w=>results_tmp results45 t _ w) ?_;refine J.seq (J.af [.w,.p] ?_);refine .W rfl (Gg 0 rfl rfl)<|.ag rfl rfl<|.nil ?_;refine J.bE (Le.fY 2 0 rfl rfl rfl rfl) ?_;refine J.seq (J.af [.w,.w,.p,.p] ?_);refine .W rfl (mF 60 D.str (D.str) rfl)<|.W rfl (mF 61 D.str (iB) rfl)<|.ag rfl rfl<|.ag rfl rfl<|.nil ?_;refine J.seq (J.seq (J.af [.p,.p,.p,.p] ?_));refine .P rfl (kl (n:=0) 23 1 underlying30 sizeOf23 rfl rfl rfl)<|.P rfl (bP isAgg23 rfl)<|.P rfl (cY underlying23 rfl)<|.mv rfl rfl<|.nil ?_;refine J.block ?_;refine J.loop (ι:=aa6 s l) (fun sx=>[(1,cN l),(5,.bR 60),(6,.bR 61),(17,iW s.insts),(18,.i s.insts.length),(19,.i sx.pre.length)]) (fun sx=>[(60,.mp (bu D.str D.str sx.u)),(61,.mp (bu D.str iB (eR bp.empty)))]) (fun sx=>sx.rest.length) ⟨[],_,[],rfl,V3⟩ ?_ ?_
 ·exact Le.mk rfl (.s rfl rfl (.s rfl rfl (.s rfl rfl (.s rfl rfl (.cons rfl (Sub.int zS) rfl (.s rfl rfl .nil)))))) (.eq rfl (by rfl) (gh _ _) (.cons rfl rfl .nil))
 ·rintro⟨pre,rest,u,hx,hu⟩;show J _ _ _ _ [(1,cN l),(5,.bR 60),(6,.bR 61),(17,iW s.insts),(18,.i s.insts.length),(19,.i pre.length)] [(60,.mp (bu D.str D.str u)),(61,.mp (bu D.str iB (eR bp.empty)))];have hl:=congrArg List.length hx;simp only[List.length_append]at hl;rcases rest with _|⟨x,rest⟩
  ·skip;refine J.seq (J.af [.p] ?_);refine .P rfl (bQ rfl rfl)<|.nil ?_;refine J.seq ?_;refine J.eF rfl (by simp at hl⊢;omega) ?_;refine J.exit (dO (dG ?_));refine J.seq (J.seq (J.af [.p,.p,.p] ?_));refine .mv rfl rfl<|.P rfl (cY underlying31 rfl)<|.mv rfl rfl<|.nil ?_;refine J.block ?_;refine J.loop (ι:=aa7 s l) (fun sx=>[(1,cN l),(5,.bR 60),(6,.bR 61),(28,cN l),(29,.i l.length),(30,.i sx.pre.length)]) (fun sx=>([(60,.mp (bu D.str D.str sx.u)),(61,.mp (bu D.str iB (eR sx.fm))),(99,.arr 1 [])]++cp sx.fm)) (fun sx=>sx.rest.length) ⟨[],_,u,bp.empty,rfl,(by have e:pre=s.insts:=(by simp[hx]);rw[←e];simpa using hu),aca⟩ ?_ ?_
   ·exact(Le.jy 99 1).trans<|Le.mk rfl (.s rfl rfl (.s rfl rfl (.s rfl rfl (.s rfl rfl (.cons rfl (Sub.int zS) rfl (.s rfl rfl .nil)))))) (.eq rfl (by rfl) (gh _ _) (.eq rfl (by rfl) (zG _ _) (.arr rfl zS (.tail (fun _ _ h=>nomatch (show(none:Option Ob)=some _ from h))))))
   ·rintro⟨pre,rest,u,fm,hx,hu,kY⟩;show J _ _ _ _ [(1,cN l),(5,.bR 60),(6,.bR 61),(28,cN l),(29,.i l.length),(30,.i pre.length)] ([(60,.mp (bu D.str D.str u)),(61,.mp (bu D.str iB (eR fm))),(99,.arr 1 [])]++cp fm);have hl:=congrArg List.length hx;simp only[List.length_append]at hl;rcases rest with _|⟨x,rest⟩
    ·obtain rfl:l=pre:=by simpa using hx
     refine J.seq (J.af [.p] ?_);refine .P rfl (bQ rfl rfl)<|.nil ?_;refine J.seq ?_;refine J.eF rfl zS ?_;refine J.exit (dO (dG ?_));refine J.seq (J.seq (J.af [.p,.w] ?_));refine .mv rfl rfl<|.W rfl (L5 kp (vD:=iB) 62 underlying129 rfl rfl (yg (own:=[(60,_),(61,_),(99,_)]) rfl rfl))<|.nil ?_;refine J.block ?_;refine J.loop (ι:=aa8 s l fm) (fun sx=>[(5,.bR 60),(50,.box 62 0)]) (fun sx=>([(62,.mi 61 (eR fm).length sx.seen),(60,.mp (bu D.str D.str sx.u3)),(61,.mp (bu D.str iB (eR fm))),(99,.arr 1 [])]++cp (kM fm sx.seen))) (fun sx=>xF (eR fm).length sx.seen) ⟨[],u,List.nodup_nil,(by simpa using hu)⟩ ?_ ?_
     ·exact Le.mk rfl (.s rfl rfl (.s rfl rfl .nil)) (.cons rfl rfl (.eq rfl (by rfl) (gh _ _) (.eq rfl (by rfl) (xe _ _) (.arr rfl zS (.tail (wi (own:=[(62,_),(60,_),(61,_),(99,_)]) (jx:=[(62,_),(60,_),(61,_),(99,_)]) _ rfl))))))
     ·rintro⟨seen,u3,eU,BB⟩;show J _ _ _ _ [(5,.bR 60),(50,.box 62 0)] ([(62,.mi 61 (eR fm).length seen),(60,.mp (bu D.str D.str u3)),(61,.mp (bu D.str iB (eR fm))),(99,.arr 1 [])]++cp (kM fm seen));refine J.seq (J.vl ?_);refine Tx.n rfl trivial (L4 kp (vD:=iB) rfl rfl rfl) (fun nb cP=>?_);rcases nb with _|⟨nj,nk,nv⟩
      ·dsimp only[rZ,tp,tn];refine Tx.q rfl trivial (eC rfl rfl _) ?_;refine Tx.nil ?_;refine J.seq ?_;refine J.eF rfl rfl ?_;refine J.exit (dO (dG ?_));have hD:=OH kY cP BB;refine J.seq (J.af [.p,.w,.p] ?_);refine .mv rfl rfl<|.W rfl (CC (own:=[(62,_),(60,_),(61,_),(99,_)]) call92 rfl (hgr _ hD.qg hD.nd (aaT hD uJ (fun f hf=>(j1 f hf).2)) (aaQ hD yG yL (fun f hf=>(j1 f hf).1))) rfl rfl (.cons rfl (gh _ _) .nil) rfl rfl)<|.ag rfl rfl<|.nil ?_;refine J.ret (?_);exact dn rfl (Sub.snap (by(rw[EA (OH kY cP BB)])))
      ·dsimp only[rZ,tp,tn];refine Tx.q rfl trivial (eC rfl rfl _) ?_;refine Tx.nil ?_;refine J.seq ?_;refine J.gu rfl rfl ?_;refine J.skip ?_;refine J.block ?_;obtain⟨e,he,rfl,rfl⟩:=Pn (And.left cP);have mf:(kM fm seen).cr[nj]?=some e:=(Se _ _ _ (And.right cP)).trans he;have ru:e.live=true:=kY.live e (List.mem_of_getElem? he);refine J.seq (J.af [.r,.p,.p] ?_);refine .R rfl (LZ kp (vD:=iB) rfl rfl rfl (And.left cP))<|.P rfl (eC rfl rfl)<|.ag rfl rfl<|.nil ?_;refine J.bE ((Le.freeze 13 e.id rfl (ace (own:=[(62,_),(60,_),(61,_),(99,_)]) rfl mf ru) zS).trans (Le.mk (aQ:=[(5,_),(13,_),(50,_)]) (am:=[(62,_),(60,_),(61,_),(99,_)]++cp ((kM fm seen).kill nj)) rfl ((.s rfl rfl (.s rfl rfl (.s rfl rfl .nil)))) (.cons (D' (own:=[(62,_),(60,_),(61,_),(99,_)]) 62 mf rfl rfl) rfl (.cons (D' (own:=[(62,_),(60,_),(61,_),(99,_)]) 60 mf rfl rfl) (gh _ _) (.cons (D' (own:=[(62,_),(60,_),(61,_),(99,_)]) 61 mf rfl rfl) (by rw[←Fg];exact xe _ (seen++[nj])) (.cons (D' (own:=[(62,_),(60,_),(61,_),(99,_)]) 99 mf rfl rfl) rfl (.tail (acg (own:=[(62,_),(60,_),(61,_),(99,_)]) rfl mf)))))))) ?_;rw[←Fg];refine J.af [.p,.p,.w] ?_;refine .mv rfl rfl<|.mv rfl rfl<|.W rfl (CC (own:=[(62,_),(60,_),(61,_),(99,_)]) call91 rfl (R7 _ (by exact BB.qg) _) rfl rfl (.cons rfl (gh _ _) .nil) rfl rfl)<|.nil ?_;refine J.nil (cn ?_);refine J.nil (cZ ?_)
       exact⟨⟨seen++[nj],uU u3 e.rows,GD eU (And.right cP),by rw[akH he,←List.append_assoc];exact BB.join e.rows⟩,by exact GO ((List.getElem?_eq_some_iff.1 (And.left cP)).1) (And.right cP),Le.mk rfl (.s rfl rfl (.s rfl rfl .nil)) (.cons rfl rfl (.eq rfl (by rfl) (gh _ _) (.eq rfl (by rfl) (xe _ _) (.arr rfl zS (.tail (wi (own:=[(60,_),(62,_),(61,_),(99,_)]) (jx:=[(62,_),(60,_),(61,_),(99,_)]) _ rfl))))))⟩
    ·simp only[List.length_cons]at hl;have BG:=j1 x (by rw[hx];simp);have hpr:∀f∈pre,f.opts.length≤1000:=fun f hf=>(j1 f (by rw[hx];simp[hf])).1;refine J.seq (J.af [.p] ?_);refine .P rfl (bQ rfl rfl)<|.nil ?_;refine J.seq ?_;refine J.gu rfl zQ ?_;refine J.skip ?_;refine J.seq ?_;refine J.block ?_;refine J.seq (J.af [.p,.p,.w,.w] ?_);refine .P rfl (gm underlying31 sizeOf39 rfl rfl zO (aS aX hx rfl))<|.P rfl (tN isAgg39 sizeOf39 rfl rfl)<|.W rfl (jh 71 zeroValue39 (yg (own:=[(60,_),(61,_),(99,_)]) rfl rfl))<|.W rfl (km sizeOf39 rfl rfl rfl rfl rfl rfl)<|.nil ?_;refine J.seq (J.af [.r,.p,.p] ?_);refine .R rfl (zZ isAgg39 sizeOf39 rfl rfl rfl)<|.P rfl (ai call25 rfl (RV x (Nat.le_trans (j1 x (by rw[hx];simp)).1 zD) (j1 x (by rw[hx];simp)).2))<|.ag rfl rfl<|.nil ?_;refine J.seq (J.af [.p,.p,.w] ?_);refine .mv rfl rfl<|.mv rfl rfl<|.W rfl (CC (own:=[(71,_),(60,_),(61,_),(99,_)]) call91 rfl (R7 _ (by exact hu.qg) _) rfl rfl (.cons rfl (gh _ _) .nil) rfl rfl)<|.nil ?_;refine J.bE (Le.fY 10 71 rfl rfl rfl rfl) ?_;refine J.oU [.p,.p,.p,.p,.p,.p,.r,.p,.w,.w] lh zK ?_
     refine .mv rfl rfl<|.P rfl (kl (n:=0) 9 0 underlying39 sizeOf9 rfl rfl rfl)<|.P rfl (bP isAgg9 rfl)<|.mv rfl rfl<|.P rfl (kl (n:=0) 9 0 underlying39 sizeOf9 rfl rfl rfl)<|.P rfl (bP isAgg9 rfl)<|.R rfl (Vu kp (f:=fm) (k:=x.key) underlying129 zeroValue48 rfl rfl rfl rfl)<|.mv rfl rfl<|.W rfl (Vi (own:=[(60,_),(71,_),(61,_),(99,_)]) (f:=fm) (k:=x.key) (new:=cC x) (bt:=16) underlying48 underlying48 sizeOf9 typeInfo9 zeroValue9 rfl rfl rfl rfl rfl kY.live rfl rfl (by have:=wR x;have:=BG.1;have:=aae hpr x.key;rw[kY.rows];omega))<|.W rfl (eD kp (vD:=iB) (m:=eR fm) (k:=x.key) (v:=(fm.next,(ja fm x.key).length+(cC x).length)) underlying129 rfl rfl rfl rfl rfl ((Iw (own:=[(60,_),(71,_),(61,_),(99,_)]) zD).trans (Cr (own:=[(60,_),(71,_),(61,_),(99,_)]) rfl)))<|.nil ?_;refine J.nil (cn ?_);rw[Pm];refine J.bE (Le.jy 99 1) ?_;refine J.bE (Le.mk (aQ:=[(1,_),(5,_),(6,_),(28,_),(29,_),(30,_)]) (am:=[(60,_),(61,_),(99,.arr 1 [])]++cp (fm.add x.key (cC x))) rfl (show dE _ _ [(1,_),(5,_),(6,_),(28,_),(29,_),(30,_)]from(.s rfl rfl (.s rfl rfl (.s rfl rfl (.s rfl rfl (.s rfl rfl (.s rfl rfl .nil))))))) (.eq (Ix (own:=[(60,_),(71,_),(61,_),(99,_)]) 60 rfl rfl rfl) rfl (gh _ _) (.eq Pj rfl (zG _ _) (.cons rfl rfl (.tail (Pp (own:=[(60,_),(71,_),(61,_),(99,_)]) zD rfl)))))) ?_;refine J.af [.p,.p] ?_;refine .P rfl (bU rfl rfl (aw zO))<|.mv rfl rfl<|.nil ?_;refine J.nil (cZ ?_)
     exact⟨⟨pre++[x],rest,uU u (cC x),fm.add x.key (cC x),by simp[hx],by have:=hu.join (cC x);simpa using this,kY.add x⟩,by simp,Le.mk rfl (.s rfl rfl (.s rfl rfl (.s rfl rfl (.s rfl rfl (.s rfl rfl (.cons rfl (Sub.int zS) rfl .nil)))))) (.eq rfl (by rfl) (gh _ _) (.eq rfl (by rfl) (zG _ _) (.arr rfl zS (.tail (wi (own:=[(60,_),(61,_),(99,_)]) (jx:=[(60,_),(61,_),(99,_)]) _ rfl)))))⟩
  ·simp only[List.length_cons]at hl;refine J.seq (J.af [.p] ?_);refine .P rfl (bQ rfl rfl)<|.nil ?_;refine J.seq ?_;refine J.gu rfl zQ ?_;refine J.skip ?_;refine J.seq ?_;refine J.block ?_;refine J.seq (J.af [.p,.p,.w,.w] ?_);refine .P rfl (gm underlying23 sizeOf65 rfl rfl zO (aS gA hx rfl))<|.P rfl (tN isAgg65 sizeOf65 rfl rfl)<|.W rfl (jh 70 zeroValue65 rfl)<|.W rfl (km sizeOf65 rfl rfl rfl rfl rfl rfl)<|.nil ?_;refine J.af [.p,.p,.r,.w] ?_;refine .mv rfl rfl<|.P rfl (im (n:=0) 9 0 underlying65 sizeOf9 rfl rfl)<|.R rfl (iV isAgg9 rfl rfl rfl)<|.W rfl (hJ call90 rfl (Ni _ _) (.cons rfl (gh _ _) .nil) rfl rfl)<|.nil ?_;refine J.nil (cn ?_);refine J.af [.p,.p] ?_;refine .P rfl (bU rfl rfl (aw zO))<|.mv rfl rfl<|.nil ?_;refine J.nil (cZ ?_);exact⟨⟨pre++[x],rest,dh u x.id,by simp[hx],by have:=hu.add x.id;simpa using this⟩,by simp,Le.mk rfl (.s rfl rfl (.s rfl rfl (.s rfl rfl (.s rfl rfl (.s rfl rfl (.cons rfl (Sub.int zS) rfl .nil)))))) (.eq rfl (by rfl) (gh _ _) (.cons rfl rfl .nil))⟩
end Go.T
