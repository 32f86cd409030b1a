/- Contracts of functions that the statement reaches, and the logic in which they are proved (no condition). -/
import Derived.Test.YtapflgppmigcdaaGreatDoorA04
import Derived.Below
import Derived.Laws.MakeOwn
import Derived.Maps.RangeRun
set_option linter.all false
set_option maxRecDepth 20000
namespace Go.T
open Go
variable[bX]
def B4:Env->List Tmp->List D->Env
 |e,p::ps,d::ds=>B4 ((p,d)::e) ps ds
 |e,_,_=>e
theorem Zx{w:World}{O:Nat->Prop}{ρ:aA}{N:Nat}:∀(ps:List Tmp)(ds:List D)(vs:List Value)(env:Env)(tmps:Array Value),tmps.size=N->ps.all (fun p=>Nat.blt p N)=true->Vs w O ρ ds vs->(∀t d,env.get t=some d->V w O ρ d (tmps.getD t undef))->
  ((ps.zip vs).foldl (fun(t:Array Value) (x:Tmp×Value)=>t.setIfInBounds x.1 x.2) tmps).size=N/\∀t d,(B4 env ps ds).get t=some d->V w O ρ d (((ps.zip vs).foldl (fun(t:Array Value) (x:Tmp×Value)=>t.setIfInBounds x.1 x.2) tmps).getD t undef)
 |[],ds,vs,env,tmps,hN,_,hv,he=>by
  simp only[List.zip_nil_left,List.foldl_nil];refine⟨hN,?_⟩;cases ds<;>exact he
 |p::ps,[],vs,env,tmps,hN,_,hv,he=>by
  simp only[Vs]at hv;subst hv;simp only[List.zip_nil_right,List.foldl_nil];exact⟨hN,he⟩
 |p::ps,d::ds,vs,env,tmps,hN,hp,hv,he=>by
  simp only[Vs]at hv;obtain⟨u,us,rfl,h1,h2⟩:=hv;simp only[kJ,bd]at hp;have bA:p<tmps.size:=by rw[hN];simpa[jE]using hp.1
  simp only[List.zip_cons_cons,oe,B4];refine Zx ps ds us _ _ (by simpa using hN) hp.2 h2 ?_;intro t d' hd;rw[Env.bm]at hd;rw[C' _ _ _ _ bA];by_cases e:p=t
  ·rw[aV e]at hd|-;cases hd;exact h1
  ·rw[aF e]at hd|-;exact he t d' hd
theorem sL.fM{f:Nat->Bool}{env aY:Env}(h:sL f env aY):D.okB.fM f (aY.map (·.2))=true:=by
 induction h with
 |nil=>rfl
 |cons h hp _ ih=>simp only[cP,D.okB.fM,hp,ih,Iy]
def agt(F':Fr)(aL:Nat)(s:xQ)(cu:Env)(B':ae)(Xs:Code->ae->Prop):Exit->Env->ae->Prop
 |.normal,env,Z=>Z.get aL=some (.lp .busy none s cu)/\Le F' env (Z.set aL (.lp .ready none s cu)) [] B'
 |.ret,env,Z=>Z.get aL=some (.lp .busy none s cu)/\∃Rx,Xs .ret Rx/\Le F' env (Z.set aL (.lp .done (some .ret) s cu)) [] ((aL,.lp .done (some .ret) s cu)::Rx)
 |.exit id,env,Z=>Z.get aL=some (.lp .busy none s cu)/\∃Rx,Xs (.exit id) Rx/\Le F' env (Z.set aL (.lp .done (some (.exit id)) s cu)) [] ((aL,.lp .done (some (.exit id)) s cu)::Rx)
 |_,_,_=>False
def Q7(P:Program)(F':Fr)(aL:Nat)(s:xQ)(cu:Env)(B':ae)(Xs:Code->ae->Prop):Exit->Env->ae->Prop
 |.normal,env,Z=>Z.get aL=some (.lp .ready none s cu)/\U P F' [s.body] (agt F' aL s cu B' Xs) env (Z.set aL (.lp .busy none s cu))
 |_,_,_=>False
def JB(aL:Nat)(s:xQ)(cu:Env)(Xs:Code->ae->Prop)(o:ae):Prop:=∃j Rx,Xs j Rx/\o=(aL,.lp .done (some j) s cu)::Rx
def St.record{F':Fr}{C:Ctx}{env:Env}{Z:ae}{a:Act}{w:World}{aL:Nat}{l:Loc}{st:LoopState}{pe:Option Code}{s:xQ}{cu:Env}(qN:aL∈F'.ps)(hl:C.we aL=some l)(fC:Z.get aL=some (.lp st pe s cu))(hs:St F' C env Z a w):
  ∃fn tmps df,w.heap[l.b]?=some (.loop ⟨st,pe,fn,tmps,s.ps,s.assign,s.body,df⟩)/\∀Fg EM,St F' C env (Z.set aL (.lp Fg EM s cu)) a (w.putObj l.b (.loop ⟨Fg,EM,fn,tmps,s.ps,s.assign,s.body,df⟩)):=by
 obtain⟨ρ,hs⟩:=hs;have nQ:=hs.keep aL qN l hl;obtain⟨l',h1,h2,fn,tmps,df,h3,h4,h5⟩:=hs.tr.ok.own aL _ fC rfl;rw[nQ]at h1;cases h1;refine⟨fn,tmps,df,h3,fun Fg EM=>⟨ρ,?_⟩⟩;have aP:=Tr.cn (o':=.lp Fg EM s cu) hs.tr.ok fC rfl nQ (.loop ⟨Fg,EM,fn,tmps,s.ps,s.assign,s.body,df⟩) (fun hk=>⟨fn,tmps,df,by
  have:=(bH.1 h3).1;simp[this],h4,fun t d hd=>V.mono hk (bN.refl _) d _ (h5 t d hd)⟩)
 exact hs.step aP (fun t d hd=>aP.V (hs.env t d hd)) rfl rfl
def aqd{P:Program}{N aL lb:Nat}{ids:List Nat}{pl:List Tmp}{s:xQ}{cu:Env}{x:List D}{R:ae}{B':ae}{Xs:Code->ae->Prop}(hs:s.ps=pl.toArray)(hN:s.N=N)(DH:pl.all (fun p=>Nat.blt p N)=true)(hlen:x.length=pl.length)(qN:aL∈ids)
  (h:U P ⟨N,ids,true,none⟩ [s.assign] (Q7 P ⟨N,ids,true,none⟩ aL s cu B' Xs) (B4 cu pl x) ((aL,.lp .ready none s cu)::R)):
  QO P aL lb ids x ((aL,.lp .ready none s cu)::R) B' (JB aL s cu Xs):=⟨fun O ρ w vals l hl nO ai bY hv=>by
 subst nO;have fC:ae.get ((aL,Ob.lp .ready none s cu)::R) aL=some (.lp .ready none s cu):=by simp[ae.get]
 obtain⟨l',h1,h2,fn,tmps,df,h3,h4,h5⟩:=ai.own aL _ fC rfl;rw[hl]at h1;cases h1;have nP:=hv.length;refine⟨fn,_,s.assign,s.body,run_yield h3 (by rw[hs];simp[nP,hlen]),?_⟩;refine roundIn_of_wpIn trivial ?_;have yM:((s.ps.zip vals.toArray).foldl (fun tmps (x:Tmp×Value)=>tmps.setIfInBounds x.1 x.2) tmps)=((pl.zip vals).foldl (fun(t:Array Value) (x:Tmp×Value)=>t.setIfInBounds x.1 x.2) tmps):=by
  rw[hs];simp
 obtain⟨bb,HF⟩:=Zx (w:=w) pl x vals cu tmps (h4.trans hN) DH hv h5
 let C:Ctx:=⟨O,w,ρ,(aL,.lp .ready none s cu)::R,some l.b⟩
 have aU:St ⟨N,ids,true,none⟩ C (B4 cu pl x) ((aL,.lp .ready none s cu)::R) {tmps:=(s.ps.zip vals.toArray).foldl (fun tmps (x:Tmp×Value)=>tmps.setIfInBounds x.1 x.2) tmps,defers:=[]} w:=
  ⟨ρ,fun _ _ _ h=>h,hJ.refl ai,by rw[yM];exact HF,by rw[yM];exact bb,Marks.nil ..,(fun e=>by cases e),(fun _ _ e=>by cases e),bY⟩
 have eY:=h.start.out C _ w aU;refine wpIn_mono eY ?_;rintro e a1 w1 ⟨gb,dG,hq,hs1⟩;cases e with
 |normal=>
  obtain⟨nM,ai2⟩:=hq;obtain⟨fn1,ay_,df1,MU,ajF⟩:=hs1.record (C:=C) (l:=l) qN hl nM;refine⟨_,run_beginRound MU rfl,?_⟩;refine wpIn_mono (ai2.start.out C a1 _ (ajF .busy none)) ?_;have fin:∀(u6:Option Code)(st:LoopState)(yf:Env)(m9:ae)(a2:Act)(w2:World)(o:ae),(st=if u6.isNone then .ready else .done)->m9.get aL=some (.lp .busy none s cu)->St ⟨N,ids,true,none⟩ C yf m9 a2 w2->Le ⟨N,ids,true,none⟩ yf (m9.set aL (.lp st u6 s cu)) [] o->((u6.isNone=true/\o=B')\/(u6.isNone=false/\JB aL s cu Xs o))->
    ∃v w',(Instr.endRound l.b u6).run P w2=.ok v w'/\∃b av o,Ending.returned v=.returned (.bool b)/\((b=true/\o=B')\/(b=false/\JB aL s cu Xs o))/\hJ O w ρ ((aL,.lp .ready none s cu)::R) w' av o/\∀i∈ids,∀l,ρ i=some l->av i=some l:=by
   intro u6 st yf m9 a2 w2 o ajH qJ DK fh ho;obtain⟨fn2,ay',df2,hh2,ajG⟩:=DK.record (C:=C) (l:=l) qN hl qJ;obtain⟨av,VF⟩:=fh.out C a2 _ (ajG st u6);refine⟨_,_,run_endRound u6 hh2,u6.isNone,av,o,rfl,ho,?_,VF.keep⟩;have:=VF.tr;rw[ajH]at this;exact this
  rintro e a2 w2 ⟨yf,m9,wY,DK⟩;cases e with
  |normal=>exact fin none .ready yf m9 a2 w2 B' rfl wY.1 DK wY.2 (.inl ⟨rfl,rfl⟩)
  |ret=>
   obtain⟨qJ,Rx,hx,fh⟩:=wY;exact fin (some .ret) .done yf m9 a2 w2 _ rfl qJ DK fh (.inr ⟨rfl,.ret,Rx,hx,rfl⟩)
  |exit id=>
   obtain⟨qJ,Rx,hx,fh⟩:=wY;exact fin (some (.exit id)) .done yf m9 a2 w2 _ rfl qJ DK fh (.inr ⟨rfl,.exit id,Rx,hx,rfl⟩)
  |goto l=>exact wY.elim
  |panic ch=>exact wY.elim
  |outgrown=>exact wY.elim
 |exit id=>exact hq.elim
 |goto l=>exact hq.elim
 |ret=>exact hq.elim
 |panic ch=>exact hq.elim
 |outgrown=>exact hq.elim⟩
def are(Q:Exit->Env->ae->Prop)(cu:Env)(j:Code)(Rx:ae):Prop:=
 match j with
 |.ret=>Q .ret cu Rx
 |.exit id=>Q (.exit id) cu Rx
 |_=>False
def U.apM{α:Type}{P:Program}{F:Fr}{Q:Exit->Env->ae->Prop}{cs:List Code}{env:Env}{Z:ae}{g:Operand}{pl:List Tmp}{assign body:Code}{f:FuncId}{lo:Nat}{bO:List D}{own:ae}{enc:α->List D}{ok fin:List α->Prop}
  (aL:Nat)(S:List Nat)(cu:Env)(R:List α->ae)(Xs:Code->ae->Prop)
  (DJ:F.rd=false)(fA:∀(args:Array Value)(w:World),(callFunc f args).run P w=.ok (.enter f args) w)(hF:Cv P f lo bO own enc ok fin)
  {gb:Env}(fh:Le F env Z gb (own++R []))(hg:gb.op g=some (.fn (.func f) [] bO))(DH:pl.all (fun p=>Nat.blt p F.N)=true)(hlen:∀x,(enc x).length=pl.length)
  (he:sL (fun i=>S.contains i) gb cu)(tj:F.ps.all (fun i=>S.contains i)=true)
  (hS:∀pre,S.all (R pre).has=true)(Mv:∀j o,Xs j o->S.all o.has=true)
  (ai:∀pre i o,(R pre).get i=some o->o.okB (R pre).has=true)(Vt:∀j o,Xs j o->∀i x,o.get i=some x->x.okB o.has=true)
  (uQ:∀pre i,(lo<=i/\i<lo+100)\/i=aL->(R pre).get i=none)(U5:∀j o,Xs j o->∀i,(lo<=i/\i<lo+100)\/i=aL->o.get i=none)
  (MW:¬(lo<=aL/\aL<lo+100))(lS:own.get aL=none)
  (round:∀pre x,ok (pre++[x])->U P ⟨F.N,aL::S,true,none⟩ [assign] (Q7 P ⟨F.N,aL::S,true,none⟩ aL ⟨pl.toArray,assign,body,F.N⟩ cu ((aL,.lp .ready none ⟨pl.toArray,assign,body,F.N⟩ cu)::R (pre++[x])) Xs) (B4 cu pl (enc x)) ((aL,.lp .ready none ⟨pl.toArray,assign,body,F.N⟩ cu)::R pre))
  (done:∀xs,fin xs->U P F cs Q cu (R xs))(stop:∀j o,Xs j o->are Q cu j o):
  U P F (.rangeFunc g pl.toArray assign body::cs) Q env Z:=by
 have aex:∀C a w,St F C env Z a w->Code.wpIn (fz C.ro) 0 P (.rangeFunc g pl.toArray assign body) (fun e a' w'=>∃aY aj,kS (pK P F cs Q) Q e aY aj/\St F C aY aj a' w') a w:=by
  intro C a w hs0;obtain⟨ρ,hs⟩:=fh.out C a w hs0;have Nj:C.ro=none:=hs.rd DJ;have AX:=vq hs.env g _ hg;obtain⟨us,vs,e1,e2,e3⟩:=LS AX;have k8:us=#[]:=by simp only[Vs]at e2;exact Array.toList_eq_nil_iff.1 e2
  subst k8
  let s:xQ:=⟨pl.toArray,assign,body,F.N⟩
  let B:List α->ae:=fun pre=>(aL,.lp .ready none s cu)::R pre
  have hgB:∀(o:Ob)(r:ae) i,ae.get ((aL,o)::r) i=if aL=i then some o else r.get i:=fun o r i=>ae.bm ..
  rw[Nj];refine wpIn_rangeFunc fun fn _=>?_
  let w1:=w.alloc (.deferred (some []))
  let w2:=w1.alloc (.loop {state:=.ready,pending:=none,fn,tmps:=a.tmps,params:=pl.toArray,assign,body,defers:=w.heap.size})
  have uY:w1.heap.size=w.heap.size+1:=by simp[w1]
  have hw2:w.heap.size<w2.heap.size:=by
   have:w2.heap.size=w1.heap.size+1:=by simp[w2]
   omega
  -- the world with the block for deferred calls, then with the record
  have p6:Tr C.O w ρ (own++R []) w1 ρ (own++R []):=by
   refine Tr.pz ⟨by omega,fun b hb=>?_,rfl,rfl,iE.eq rfl rfl⟩ hs.tr.ok;show(w.heap.push _)[b]?=_;rw[pS,aF zO]
  let l:Loc:=⟨w1.heap.size,0,0⟩
  have ce:ae.get (own++R []) aL=none:=by
   rw[ae.get_append,lS];exact uQ [] aL (.inr rfl)
  have j6:Tr C.O w1 ρ (own++R []) w2 (cn ρ aL l) ((aL,.lp .ready none s cu)::(own++R [])):=by
   refine Tr.born p6.ok ce _ rfl (fun i x h _=>h) (fun i h=>h) (fun hk=>⟨fn,a.tmps,w.heap.size,?_,hs.size,fun t d hd=>?_⟩)
   ·exact World.alloc_heap_new w1 _
   ·exact V.mono hk (xI l (p6.ok.fresh aL ce)) d _ (p6.V (hs.env t d (he.sound t d hd).1))
  have Ba:=p6.trans j6;have Do:∀i,ae.get ((aL,.lp .ready none s cu)::(own++R [])) i=ae.get (own++B []) i:=by
   intro i;rw[ae.bm,ae.get_append,ae.get_append];by_cases e:aL=i
   ·subst e;simp[lS,B,ae.bm]
   ·rw[aF e];cases own.get i with
    |some z=>rfl
    |none=>simp[B,ae.bm,e]
  have ajs:cX w2 C.O (cn ρ aL l) (own++B []):=Ba.ok.congr Do;have Hy:∀b,Ot C.O (cn ρ aL l) (own++B []) b->Ot C.O (cn ρ aL l) ((aL,.lp .ready none s cu)::(own++R [])) b:=fun b hb=>(Ot.congr Do b).2 hb;have ai4:Vs w2 (Ot C.O (cn ρ aL l) (own++B [])) (cn ρ aL l) bO vs.toList:=
   Vs.mono (Kept.fp Hy) (bN.refl _) _ _ (Vs.mono Ba.kept Ba.le _ _ e3)
  have Vl:∀i,i∈S->i≠aL:=by
   intro i hi e;have h1:=de.1 (hS []) i hi;rw[e,ae.has,uQ [] aL (.inr rfl)]at h1;cases h1
  have Y:Cz P lo aL l.b (aL::S) B (JB aL s cu Xs) enc ok:=by
   have UI:∀(o:Ob)(r:ae),S.all r.has=true->(aL::S).all (ae.has ((aL,o)::r))=true:=by
    intro o r hr;rw[de]at hr|-;intro i hi;rcases cr.1 hi with rfl|hi
    ·simp[ae.has,ae.bm]
    ·have:=hr i hi;simp only[ae.has,ae.bm]at this|-;split
     ·rfl
     ·exact this
   have okE:∀(o:ae),S.all o.has=true->∀st pe,(Ob.lp st pe s cu).okB o.has=true:=by
    intro o ho st pe;show D.okB.fM o.has (cu.map (·.2))=true;have:=he.fM;exact D.tV _ (fun i hi=>de.1 ho i (by simpa using hi)) this
   have XW:∀(o:Ob)(r:ae) i,r.has i=true->ae.has ((aL,o)::r) i=true:=by
    intro o r i hi;simp only[ae.has,ae.bm]at hi|-;split
    ·rfl
    ·exact hi
   have YJ:∀st pe(r:ae),S.all r.has=true->(∀i x,r.get i=some x->x.okB r.has=true)->∀i x,ae.get ((aL,.lp st pe s cu)::r) i=some x->x.okB (ae.has ((aL,.lp st pe s cu)::r))=true:=by
    intro st pe r hr ho i x hx;rw[ae.bm]at hx;by_cases e:aL=i
    ·rw[aV e]at hx;cases hx;exact Ob.BS (XW _ r) (okE r hr st pe)
    ·rw[aF e]at hx;exact Ob.BS (XW _ r) (ho i x hx)
   have TZ:∀(o:Ob)(r:ae),(∀i,(lo<=i/\i<lo+100)\/i=aL->r.get i=none)->∀i,lo<=i->i<lo+100->ae.get ((aL,o)::r) i=none:=by
    intro o r hr i h1 h2;rw[ae.bm,aF (fun e:aL=i=>MW zO)];exact hr i (.inl ⟨h1,h2⟩)
   refine⟨c7,fun pre=>UI _ _ (hS pre),?_,fun pre=>YJ _ _ _ (hS pre) (ai pre),?_,fun pre=>TZ _ _ (uQ pre),?_,fun pre x hx=>?_⟩
   ·rintro o ⟨j,Rx,hx,rfl⟩;exact UI _ _ (Mv j Rx hx)
   ·rintro o ⟨j,Rx,hx,rfl⟩;exact YJ _ _ _ (Mv j Rx hx) (Vt j Rx hx)
   ·rintro o ⟨j,Rx,hx,rfl⟩;exact TZ _ _ (U5 j Rx hx)
   ·exact aqd rfl rfl DH (hlen x) c7 (round pre x hx)
  refine⟨w.heap.size+1,[⟨.collected w.heap.size,#[]⟩],w2,⟨.fn (.func f) vs,#[]++#[.func (.yield (w.heap.size+1)) #[] #[]]⟩,w2,f,(Value.func (.yield l.b) #[] #[]::vs.toList).toArray,w2,run_enterLoop_outer fn a.tmps pl.toArray assign body,?_,fun _ _=>trivial,?_,fun e=>by simp[fz,Fence.wide]at e,?_⟩
  ·have hm:Array.map a.eval #[Operand.const (Value.func (Fn.yield (w.heap.size+1)) #[] #[])]=#[Value.func (.yield (w.heap.size+1)) #[] #[]]:=by simp[Act.eval]
   rw[resolve];simp only[rangeCall,e1,Deferred.ofValue,hm,Sem.run_pure]
  ·have:(#[]++#[Value.func (.yield (w.heap.size+1)) #[] #[]]++vs:Array Value)=(Value.func (.yield l.b) #[] #[]::vs.toList).toArray:=by
    apply I2;simp[l,uY]
   show(callFunc f (#[]++#[Value.func (.yield (w.heap.size+1)) #[] #[]]++vs)).run P w2=_;rw[this,fA]
  ·refine callsIn_wide.2 (Calls.mono (hF.out aL l.b (aL::S) B _ Y w2 C.O (cn ρ aL l) vs.toList l (kn ..) rfl ajs (hs.ym.mono (Ba.kept.trans (Kept.fp Hy))) ai4) ?_);rintro e w3 ⟨v,av,o,rfl,ho,Bb,qL⟩;have Bf:av aL=some l:=qL aL c7 l (kn ..)
   -- the whole way from w to w3
   have eI:hJ C.O w ρ (own++R []) w3 av o:=Ba.xE.trans (Bb.ael fun i=>(Do i).symm);have pm:Marks C.w0.heap.size w3 (Ot C.O av o) (⟨.collected w.heap.size,#[]⟩::a.defers):=by
    have ajo:Marks C.w0.heap.size w2 (Ot C.O (cn ρ aL l) (own++B [])) (⟨.collected w.heap.size,#[]⟩::a.defers):=by
     have A5:=Ba.xE.marks hs.marks;refine⟨fun d hd=>?_,xw.2 ⟨fun d hd r hr e=>?_,A5.apart⟩⟩
     ·rcases cr.1 hd with rfl|hd
      ·refine⟨w.heap.size,rfl,hs.tr.size,hw2,?_,?_⟩
       ·intro hb;rcases Hy _ hb with hb|hb
        ·have:=hs.tr.ok.lt _ hb;omega
        ·rcases j6.new _ hb with hb|hb
         ·have:=(hs.tr.ok.block hb).1;omega
         ·omega
       ·show((w.heap.push _).push _)[w.heap.size]?=_;simp[pS]
      ·obtain⟨r,g1,g2,g3,g4,g5⟩:=A5.at_ d hd;exact⟨r,g1,g2,g3,fun hb=>g4 (Hy _ hb),g5⟩
     ·obtain⟨r',g1,_,g3,_⟩:=hs.marks.at_ d hd;subst e;cases hr;simp only[Deferred.mk.injEq,Target.collected.injEq,and_true]at g1;omega
    exact Bb.marks ajo
   -- what every end has in common
   have TB:∀(st:LoopState)(pe:Option Code)(Ro:ae),o=(aL,.lp st pe s cu)::Ro->st≠.busy->S.all Ro.has=true->(∀i x,Ro.get i=some x->x.okB Ro.has=true)->(∀i,(lo<=i/\i<lo+100)\/i=aL->Ro.get i=none)->
     ∃w4,(Instr.endLoop l.b).run P w3=.ok pe w4/\St F C cu Ro {a with defers:=⟨.collected w.heap.size,#[]⟩::a.defers} w4:=by
    intro st pe Ro hoe aU UG aju U7;subst hoe;have fC:ae.get ((aL,Ob.lp st pe s cu)::Ro) aL=some (.lp st pe s cu):=by simp[ae.get]
    obtain⟨l',g1,g2,TS,aaN,Sf,g3,g4,g5⟩:=Bb.ok.own aL _ fC rfl;rw[Bf]at g1;cases g1;refine⟨_,run_endLoop g3 aU,?_⟩;have Nl:∀i x,Ro.get i=some x->ae.get ((aL,.lp st pe s cu)::Ro) i=some x/\x.okB Ro.has=true:=by
     intro i x hx;refine⟨?_,aju i x hx⟩;rw[ae.bm,aF (fun e=>by rw[<-e,U7 aL (.inr rfl)]at hx;cases hx)];exact hx
    have UE:∀b,cj (cQ Ro.has av) Ro b->cj av ((aL,.lp st pe s cu)::Ro) b:=by
     rintro b ⟨i,x,l',k1,k2,k3,k4⟩;exact⟨i,x,l',(Nl i x k1).1,k2,qy k3,k4⟩
    have DC:∀b,cj (cQ Ro.has av) Ro b->b≠l.b:=by
     rintro b ⟨i,x,l',k1,k2,k3,k4⟩ e;have:=Bb.ok.inj i aL x _ l' l (Nl i x k1).1 fC k2 rfl (qy k3) Bf (k4.trans e);rw[this,U7 aL (.inr rfl)]at k1;cases k1
    have M_:=Bb.ok.sub Nl;have hk4:Kept w3 (Ot C.O (cQ Ro.has av) Ro) (w3.putObj l.b (.loop ⟨.exhausted,pe,TS,aaN,s.ps,s.assign,s.body,Sf⟩)) (Ot C.O (cQ Ro.has av) Ro):=by
     refine⟨by simp,fun b hb yJ=>⟨fun o e hs=>World.putObj_heap_other (fun e'=>?_),yJ⟩⟩;rw[e',g3]at e;cases e;cases hs
    have VI:hJ C.O w ρ (own++R []) (w3.putObj l.b (.loop ⟨.exhausted,pe,TS,aaN,s.ps,s.assign,s.body,Sf⟩)) (cQ Ro.has av) Ro:=by
     refine⟨by simpa using eI.size,fun b hb yJ=>?_,fun b hb=>eI.new b (UE b hb),⟨fun b hb=>by simpa using Bb.ok.lt b hb,M_.fresh,fun i x k1 k2=>?_,M_.inj⟩,eI.os⟩
     ·rw[World.putObj_heap_other (fun e=>by have:l.b=w.heap.size+1:=uY;omega)];exact eI.same b hb yJ
     ·obtain⟨l',k3,k4,k5⟩:=M_.own i x k1 k2;exact⟨l',k3,k4,k5.mono hk4 (bN.refl _) (World.putObj_heap_other (DC _ ⟨i,x,l',k1,k2,k3,rfl⟩))⟩
    refine⟨cQ Ro.has av,fun i hi l' yF=>?_,hs.tr.trans VI,fun t d hd=>?_,hs.size,?_,hs.rd,hs.yl,hs.gl⟩
    ·have MV:i∈S:=by simpa using List.all_eq_true.1 tj i hi
     have hr:cn ρ aL l i=some l':=by rw[qp (Vl i MV)];exact hs.keep i hi l' yF
     have:=de.1 UG i MV;simp[cQ,this,qL i (cC _ MV) l' hr]
    ·obtain⟨k1,k2⟩:=he.sound t d hd;refine V.mono VI.kept ?_ _ _ (V.cut d _ k2 (hs.env t d k1));intro j lj lR;unfold cQ at lR;split at lR
     ·rename_i hj;have M0:j∈S:=by simpa using hj
      have hr:cn ρ aL l j=some lj:=by rw[qp (Vl j M0)];exact lR
      have:=de.1 UG j M0;simp[cQ,this,qL j (cC _ M0) lj hr]
     ·cases lR
    ·have M5:Marks C.w0.heap.size w3 (Ot C.O (cQ Ro.has av) Ro) (⟨.collected w.heap.size,#[]⟩::a.defers):=pm.mono (dP _) (fun b _ yJ=>⟨rfl,fun g=>yJ (g.imp _root_.id (UE b))⟩);refine⟨fun d hd=>?_,M5.apart⟩;obtain⟨r,k1,k2,k3,k4,k5⟩:=M5.at_ d hd;refine⟨r,k1,k2,by simpa using k3,k4,?_⟩;rw[World.putObj_heap_other (fun e=>by rw[e,g3]at k5;cases k5)];exact k5
   have VA:rangePost Fence.wide 0 P l.b (fun e a' w'=>∃aY aj,kS (pK P F cs Q) Q e aY aj/\St F C aY aj a' w') {a with defers:=⟨.collected w.heap.size,#[]⟩::a.defers} (.returned v) w3:=by
    rcases ho with⟨xs,hfx,rfl⟩|⟨j,Rx,hx,rfl⟩
    ·obtain⟨w4,k1,k2⟩:=TB .ready none (R xs) rfl zS (hS xs) (ai xs) (uQ xs);exact⟨none,w4,k1,cu,R xs,(done xs hfx).out,k2⟩
    ·obtain⟨w4,k1,k2⟩:=TB .done (some j) Rx rfl zS (Mv j Rx hx) (Vt j Rx hx) (U5 j Rx hx);refine⟨some j,w4,k1,?_⟩;have aU:=stop j Rx hx;cases j with
     |ret=>exact wpIn_ret ⟨cu,Rx,aU,k2⟩
     |exit id=>exact wpIn_exit ⟨cu,Rx,aU,k2⟩
     |_=>exact aU.elim
   have nO:l.b=w.heap.size+1:=uY;rw[nO]at VA;exact VA
 exact⟨⟨aex⟩⟩
end Go.T
namespace Go.T
open Go
variable[bX]
section
variable{P:Program} {env:Env} {dst:Option Tmp} {ty:TypeId} {pos:String} {ar:Array Edge} {g:Option (Nat×Bool)}
def J_(b o n:Nat):(Addr.mk b o none).add n=⟨b,o+n,none⟩:=by
 unfold Addr.add;split
 ·rename_i h;subst h;rfl
 ·rfl
def sl{t e:TypeId}{x y:Operand}{id off n sz o2:Nat}{k:IntKind}{i:Int}(hu:P.underlying t=some (.array n e))(hs:∀w,(sizeOf e).run P w=.ok sz w)(hx:env.op x=some (.box id off))(hy:env.op y=some (.raw (.int k i)))(h0:0<=i)(hi:i.toNat<n)(ho:off+i.toNat*sz=o2)(Z:ae):
  aq P ⟨dst,.indexAddr t x y,ty,pos,ar,g⟩ env Z (.box id o2) Z:=
 .val fun O ρ a w _ hv=>by
  have h1:=hv x (by simp[Op.operands]) _ hx;have h2:=hv y (by simp[Op.operands]) _ hy;simp only[V]at h1 h2;obtain⟨l,hl,e1⟩:=h1;have bA:i<(n:Int):=by omega
  refine⟨.pointer (some ⟨l.b,o2,none⟩),?_,by simp only[V];exact⟨l,hl,rfl⟩⟩;simp[execOp,Instr.indexAt,Instr.sureAddr,asIntOf,h2,e1,bW hu,hs,h0,bA,J_,ho]
end
def Fc.rf{P:Program}{f:FuncId}{args:List D}{r:D}(h:∀w O ρ vals,Gl w O->Vs w O ρ args vals->Calls P f vals.toArray w (fun e w'=>∃v,e=.returned v/\V w' O ρ r v/\gm w w')):Fc P f args r:=⟨fun w O ρ vals _ hg hv=>h w O ρ vals hg hv⟩
def Vs.Fj{w:World}{O:Nat->Prop}{ρ:aA}{s t:aa}{vals:List Value}(h:Vs w O ρ [.str s,.str t] vals):vals=[.string ⟨s.toArray⟩,.string ⟨t.toArray⟩]/\s.length<=aD/\t.length<=aD:=by
 simp only[Vs,V]at h;obtain⟨u,us,rfl,⟨rfl,hb⟩,u',zU,rfl,⟨rfl,rN⟩,rfl⟩:=h;exact⟨rfl,hb,rN⟩
end Go.T
namespace Go.T
open Go
variable[bX]
@[reducible] def ij(s:aa):List Value:=s.map fun b=>Value.int .u8 (b.toNat:Int)
section
variable{P:Program} {env:Env} {dst:Option Tmp} {ty:TypeId} {pos:String} {ar:Array Edge} {g:Option (Nat×Bool)}
theorem abk{w:World}{O:Nat->Prop}{ρ:aA}:∀{t:aa}{us:List Value},Vs w O ρ (nC t).flatten us->us=ij t
 |[],us,h=>by simpa[nC,Vs]using h
 |c::t,us,h=>by
  simp only[nC,cP,fW,jF,q_,Vs,V]at h;obtain⟨u,zU,rfl,rfl,h2⟩:=h;simp only[ij,cP,l_,H4];exact abk h2
def ahw{w:World}{O:Nat->Prop}{ρ:aA}{t:aa}{dy:D}{v:Value}(MJ:dy=.str t\/∃f,dy=.snap 1 f (nC t))(h:V w O ρ dy v):
  (∀w',(Builtin.lenOf v).run P w'=.ok t.length w')/\(∀w',w'.heap=w.heap->(Builtin.firstCells 1 t.length v).run P w'=.ok (ij t).toArray w'):=by
 rcases MJ with rfl|⟨f,rfl⟩
 ·simp only[V]at h;obtain⟨rfl,_⟩:=h;have bb:(⟨t.toArray⟩:ByteArray).size=t.length:=by simp[ByteArray.size]
  refine⟨fun w'=>by simp[Builtin.lenOf,bb],fun w' _=>?_⟩;have he:(⟨t.toArray⟩:ByteArray).extract 0 t.length=⟨t.toArray⟩:=by
   apply ByteArray.ext;rw[ByteArray.data_extract];simp
  simp[Builtin.firstCells,he,ij]
 ·obtain⟨h1,us,h2,h3,_,h5,_⟩:=vO (P:=P) h;have:=abk h3;subst this;refine⟨fun w'=>by simpa[nC]using h1 w',fun w' e=>?_⟩;have:=h2 w' e;simpa[nC]using this
def ac2(t:aa):∀u∈ij t,u.oneCell'=true:=by
 intro u hu;simp only[ij,dh]at hu;obtain⟨b,_,rfl⟩:=hu;rfl
def Tr.Z0{O:Nat->Prop}{w:World}{ρ:aA}{Z:ae}{id bh:Nat}(ai:cX w O ρ Z):Tr O w ρ Z w ρ ((bh,.ba [])::Z.set id .dead):=by
 have h1:=Tr.Ji (id:=id) (bh:=bh) (sz:=1) ai;have look:∀i x,ae.get ((bh,Ob.ba [])::Z.set id .dead) i=some x->x.live=true->ae.get ((bh,Ob.arr 1 [])::Z.set id .dead) i=some x:=by
  intro i x h2 h3;rw[ae.bm]at h2|-;by_cases e:bh=i
  ·simp only[aV e,cH]at h2;subst h2;simp[Ob.live]at h3
  ·rw[aF e]at h2|-;exact h2
 have hO:∀b,cj ρ ((bh,.ba [])::Z.set id .dead) b->cj ρ ((bh,.arr 1 [])::Z.set id .dead) b:=by
  rintro b ⟨i,x,l,h2,h3,h4⟩;exact⟨i,x,l,look i x h2 h3,h3,h4⟩
 refine⟨h1.le,h1.size,h1.same,fun b hb=>h1.new b (hO b hb),⟨h1.ok.lt,fun i hi=>?_,fun i x h2 h3=>?_,fun i j x x' l l' a b c d=>h1.ok.inj i j x x' l l' (look i x a c) (look j x' b d) c d⟩,h1.os⟩
 ·rw[ae.bm]at hi;by_cases e:bh=i
  ·simp[e]at hi
  ·rw[aF e]at hi;exact h1.ok.fresh i (by rw[ae.bm,aF e];exact hi)
 ·obtain⟨l,g1,g2,g3⟩:=h1.ok.own i x (look i x h2 h3) h3;exact⟨l,g1,g2,g3.fp (Kept.fp fun b hb=>hb.imp _root_.id (hO b))⟩
def Pn{st xt:TypeId}{xd:TypeDesc}{ti:TypeInfo}{n id:Nat}{x y:Operand}{s t:aa}{dy:D}{Z:ae}(bh:Nat)(hu:P.underlying st=some (.slice om))(ia:P.underlying xt=some xd)(Nu:∀k,xd≠.int k)(hs:∀w,(sizeOf om).run P w=.ok 1 w)
  (jq:∀w,(typeInfo om).run P w=.ok ti w)(kA:ti.bytes=1)(hz:∀w,(zeroValue om).run P w=.ok (.int .u8 0) w)(hx:env.op x=some (.gs id n))(ho:Z.get id=some (.ba s))(hn:s.length=n)(hy:env.op y=some dy)(MJ:dy=.str t\/∃f,dy=.snap 1 f (nC t))(hid:Z.get bh=none)
  (nK:n+t.length<=140737488355328):
  aq P ⟨dst,.call ⟨.builtin .append,#[x,y],#[st,xt]⟩,ty,pos,ar,g⟩ env Z (.gs bh (n+t.length)) ((bh,.ba (s++t))::Z.set id .dead):=
 .step fun O ρ a w ai hv=>by
  have bZ:=hv x (by simp[Op.operands,Call.operands]) _ hx;have dR:=hv y (by simp[Op.operands,Call.operands]) _ hy;have eY:∀v w',(Builtin.append_ #[st,xt] ty #[a.eval x,a.eval y]).run P w=.ok v w'->(execOp a.eval ⟨dst,.call ⟨.builtin .append,#[x,y],#[st,xt]⟩,ty,pos,ar,g⟩).run P w=.ok (.value v) w':=by
   intro v w' h;simp[execOp,resolve,invoke,builtin,h]
  obtain⟨hlen,kC⟩:=ahw (P:=P) MJ dR;have jr:(ij t).length=t.length:=by simp[ij]
  -- the bytes in a new block
  have grow:∀(base:Option Addr)(cap:Nat),a.eval x=.slice base n cap->(∀w',w'.heap=w.heap->(Builtin.firstCells 1 n (.slice base n cap)).run P w'=.ok (ij s).toArray w')->¬n+t.length<=cap->
    ∃v w' av,((execOp a.eval ⟨dst,.call ⟨.builtin .append,#[x,y],#[st,xt]⟩,ty,pos,ar,g⟩).run P w=.ok (.value v) w'\/((execOp a.eval ⟨dst,.call ⟨.builtin .append,#[x,y],#[st,xt]⟩,ty,pos,ar,g⟩).run P w=.ok .skip w'/\v=undef))/\Tr O w ρ Z w' av ((bh,.ba (s++t))::Z.set id .dead)/\V w' (Ot O av ((bh,.ba (s++t))::Z.set id .dead)) av (.gs bh (n+t.length)) v:=by
   intro base cap e1 j7 hc;obtain⟨nc,wX,ajp,h2⟩:∃nc,n+t.length<=nc/\nc<=9223372036854775807/\(Builtin.append_ #[st,xt] ty #[.slice base n cap,a.eval y]).run P w=.ok (.slice (some ⟨w.heap.size,0,none⟩) (n+t.length) nc) {w with drawn:=w.drawn+1,heap:=w.heap.push (.cells ((ij s).toArray++(ij t).toArray++Builtin.zeroCells (Value.int .u8 0).cells (nc-(n+t.length))) om (0,0))}:=by
    have h1:=nextslicecap_le (n+t.length) cap zO;have h2:¬Builtin.nextslicecap (n+t.length) cap*ti.bytes>281474976710656:=by rw[kA];omega
    refine⟨(n+t.length)+(w.tape w.drawn (.appendCap (n+t.length) cap om))%(2^63-(n+t.length)),by omega,by have:=n0 (w.tape w.drawn (.appendCap (n+t.length) cap om)) (show 0<2^63-(n+t.length) by omega);omega,?_⟩;have HD:=hlen w;have Hs:=kC w.drew rfl;have U2:=j7 w.drew rfl;have gV:ti.bytes≠0:=by omega
    simp[Builtin.append_,bW hu,hs,bW ia,HD,hc,jq,gV,h2,Question.forced,Question.cut,U2,Hs,hz,newRow];simp only[World.alloc,World.drew];have h9:∀zs:Array Value,(ij s).toArray++((ij t).toArray++zs)=(ij s++ij t).toArray++zs:=fun zs=>by apply I2;simp
    rw[h9]
   rw[<-e1]at h2;have DF:cX {w with drawn:=w.drawn+1} O ρ Z:=(Tr.drawn ai (w.drawn+1) (vY _)).ok;have aP:=Tr.drawn ai (w.drawn+1) (vY _);refine⟨_,_,T.cn ρ bh ⟨w.heap.size,0,nc⟩,.inl (eY _ _ h2),aP.trans (Tr.born (w:={w with drawn:=w.drawn+1}) DF hid _ rfl rG CQ ?_),?_⟩
   ·intro hk;refine⟨(ij s).toArray++(ij t).toArray++Builtin.zeroCells (Value.int .u8 0).cells (nc-(n+t.length)),by simp,rfl,?_,?_,ajp,?_⟩
    ·simp[FC,Value.cells,ij,hn];omega
    ·simp[hn];exact wX
    ·rw[Array.toList_append,Array.toList_append,wI (by simp[ij])];rw[gZ (by simp[ij])];simp[ij]
   ·simp only[V];exact .inr ⟨by omega,_,kn ..,rfl⟩
  by_cases dQ:n=0
  ·subst dQ;obtain rfl:s=[]:=cc.1 hn;have he:∃ad,a.eval x=.slice ad 0 0:=by
    simp only[V]at bZ;rcases bZ with⟨_,ad,e⟩|⟨h,_⟩
    ·exact⟨ad,e⟩
    ·exact absurd rfl h
   obtain⟨ad,e1⟩:=he;by_cases hm:t=[]
   ·subst hm;refine⟨.slice ad 0 0,w,ρ,.inl (eY _ _ ?_),by simpa using Tr.Z0 (id:=id) (bh:=bh) ai,by simp[V]⟩;have h1:=kC w rfl;rw[e1];cases ad with
    |none=>simp[Builtin.append_,bW hu,hs,bW ia,hlen w]at h1|-;simp[h1]
    |some ad=>simp[Builtin.append_,bW hu,hs,bW ia,hlen w]at h1|-;simp[h1,storeCells]
   ·refine grow ad 0 e1 ?_ ?_
    ·intro w' _;cases ad with
     |none=>simp[Builtin.firstCells]
     |some ad=>simp[Builtin.firstCells,loadCells,loadCellsFrom]
    ·have:t.length≠0:=fun h=>hm (cc.1 h);omega
  ·have eS:(Ob.ba s).live=true:=by
    cases s with
    |nil=>simp at hn;exact absurd hn.symm dQ
    |cons r rs=>rfl
   obtain⟨l,h3,hOl,c,h4,h5,h6,h7,h8,h9⟩:=ai.own id _ ho eS;have e1:a.eval x=.slice (some ⟨l.b,0,none⟩) n l.cap:=by
    simp only[V]at bZ;rcases bZ with⟨h,_⟩|⟨_,l',h8,e⟩
    ·exact absurd h dQ
    ·rw[h3]at h8;cases h8;rw[e,h5]
   rw[hn]at h7 h9;have ai5:∀w',w'.heap=w.heap->(Builtin.firstCells 1 n (.slice (some ⟨l.b,0,none⟩) n l.cap)).run P w'=.ok (ij s).toArray w':=by
    intro w' hw;have:=Jo (P:=P) (w:=w') (b:=l.b) (c:=c) (T:=om) (by rw[hw];exact h4) n 0 0 #[] zO;simp only[Builtin.firstCells,loadCells,v8];rw[this];simp[h9]
   by_cases hc:n+t.length<=l.cap
   ·have aU:=vP (P:=P) (b:=l.b) (T:=om) (ij t) w c (0+n*1) 0 h4 (by rw[jr];omega) (ac2 t);have uU:=run_append_room (T:=ty) (a:=⟨l.b,0,none⟩) (w:=w) hu hs ia Nu (hlen w) (kC w rfl) hc (by rw[addr_add];exact aU);have aP:=Tr.cn (o':=.ba (s++t)) ai ho eS h3 (.cells (setMany c (0+n*1+0) (ij t)) om (0,0)) ?_
    ·have Dz:(Ob.ba (s++t)).live=true:=by
      cases s with
      |nil=>simp at hn;exact absurd hn.symm dQ
      |cons r rs=>rfl
     have Du:(Z.set id (.ba (s++t))).get bh=none:=by
      rw[ae.ej];by_cases e:id=bh
      ·subst e;rw[ho]at hid;cases hid
      ·rw[aF e];exact hid
     have j6:=Tr.rename (id:=id) (bh:=bh) aP.ok (by rw[ae.ej];simp) Dz Du h3;rw[ae.set_set]at j6;refine⟨_,_,Go.T.cn ρ bh l,.inl (eY _ _ (by rw[e1];exact uU)),aP.trans j6,?_⟩;simp only[V];exact .inr ⟨by omega,l,kn ..,by rw[h5]⟩
    ·intro hk;refine⟨_,by simp[(bH.1 h4).1];rfl,h5,by rw[E_];exact h6,by simp[hn];exact hc,h8,?_⟩;rw[Cm _ _ _ (by rw[jr];omega)];rw[h9,bl,hn];rw[wI (by simp[ij,hn])];rw[gZ (by simp[ij,hn])];simp[ij]
   ·exact grow (some ⟨l.b,0,none⟩) l.cap e1 ai5 hc
end
end Go.T
namespace Go.T
open Go
variable[bX]
def Tr.aor{O:Nat->Prop}{w:World}{ρ:aA}{Z:ae}(id:Nat)(ai:cX w O ρ Z):Tr O w ρ Z w ρ ((id,.ba [])::Z):=by
 have look:∀i x,ae.get ((id,Ob.ba [])::Z) i=some x->x.live=true->Z.get i=some x:=by
  intro i x h1 h2;rw[ae.bm]at h1;by_cases e:id=i
  ·simp only[aV e,cH]at h1;subst h1;simp[Ob.live]at h2
  ·rw[aF e]at h1;exact h1
 have mL:∀b,cj ρ ((id,.ba [])::Z) b->cj ρ Z b:=by
  rintro b ⟨i,x,l,h1,h2,h3⟩;exact⟨i,x,l,look i x h1 h2,h2,h3⟩
 have hk:Kept w (Ot O ρ Z) w (Ot O ρ ((id,.ba [])::Z)):=Kept.fp fun b=>Or.imp _root_.id (mL b);refine⟨bN.refl _,dP _,fun _ _ _=>rfl,fun b hb=>.inl (mL b hb),⟨ai.lt,?_,?_,?_⟩,rfl,rfl,iE.eq rfl rfl⟩
 ·intro i hi;rw[ae.bm]at hi;by_cases e:id=i
  ·simp[e]at hi
  ·rw[aF e]at hi;exact ai.fresh i hi
 ·intro i x h1 h2;obtain⟨l,h3,h4,h5⟩:=ai.own i x (look i x h1 h2) h2;exact⟨l,h3,h4,h5.mono hk (bN.refl _) rfl⟩
 ·intro i j x x' l1 l2 h1 h2 h3 h4;exact ai.inj i j x x' l1 l2 (look i x h1 h3) (look j x' h2 h4) h3 h4
section
variable{P:Program} {env:Env} {dst:Option Tmp} {ty:TypeId} {pos:String} {ar:Array Edge} {g:Option (Nat×Bool)}
def ao5{Z:ae}(id j:Nat)(hz:∀w,(zeroValue pN).run P w=.ok (.agg #[.pointer none,.slice none 0 0]) w)(hid:Z.get id=none):aq P ⟨dst,.alloc pN,ty,pos,ar,g⟩ env Z (.box id 0) ((j,.ba [])::(id,.fq j 0)::Z):=
 .step fun O ρ a w ai hv=>by
  have eY:(Instr.alloc pN true (.tuple #[])).run P w=.ok (.pointer (some ⟨w.heap.size,0,none⟩)) {w with heap:=w.heap.push (.cells #[.pointer none,.slice none 0 0] pN (0,0))}:=by
   simp[Instr.alloc,newVar,newRow,hz,Value.cells,run_newObj_alloc]
  have aP:Tr O w ρ Z {w with heap:=w.heap.push (.cells #[.pointer none,.slice none 0 0] pN (0,0))} (cn ρ id ⟨w.heap.size,0,0⟩) ((id,.fq j 0)::Z):=
   Tr.born ai hid _ rfl (fun i x h _=>h) (fun i h=>h) (fun _=>⟨.pointer none,.slice none 0 0,by simp,.inl rfl,.inl ⟨rfl,none,rfl⟩⟩)
  have j6:=Tr.aor j aP.ok;refine⟨_,_,_,.inl (by simp[execOp,eY];rfl),aP.trans j6,?_⟩;simp only[V];exact⟨_,kn ..,rfl⟩
def Px{t e:TypeId}{x:Operand}{id j n:Nat}{s:aa}{Z:ae}(ht:∀w,(isAgg t).run P w=.ok false w)(hx:env.op x=some (.box id 1))(ho:Z.get id=some (.fq j n))(hj:Z.get j=some (.ba s))(hn:s.length=n):aq P ⟨dst,.load t x,ty,pos,ar,g⟩ env Z (.gs j n) Z:=
 .val fun O ρ a w ai hv=>by
  have h1:=hv x (by simp[Op.operands]) _ hx;simp only[V]at h1;obtain⟨l,h2,e⟩:=h1;obtain⟨l',h3,_,p,v,h4,h5,h6⟩:=ai.own id _ ho rfl;rw[h2]at h3;cases h3;have hc:w.cell? ⟨l.b,1,none⟩=some v:=by simp[World.cell?,h4]
  refine⟨v,by simp[execOp,Instr.loadAt,Instr.sureAddr,e,loadVar,ht,hc],?_⟩;simp only[V];rcases h6 with h6|⟨h6,lj,h7,h8⟩
  ·exact .inl h6
  ·refine .inr ⟨h6,lj,h7,?_⟩;have eS:(Ob.ba s).live=true:=by
    cases s with
    |nil=>simp at hn;exact absurd hn.symm h6
    |cons r rs=>rfl
   obtain⟨Xb,h9,_,c,_,cB,_⟩:=ai.own j _ hj eS;rw[h7]at h9;cases h9;rw[h8,cB]
def PD{t:TypeId}{x y:Operand}{id j n j' n':Nat}{s:aa}{Z:ae}(hs:∀w,(sizeOf t).run P w=.ok 1 w)(hx:env.op x=some (.box id 1))(hy:env.op y=some (.gs j' n'))(ho:Z.get id=some (.fq j n))(hj:Z.get j'=some (.ba s))(hn:s.length=n'):
  aq P ⟨dst,.store t x y,ty,pos,ar,g⟩ env Z (.raw undef) (Z.set id (.fq j' n')):=
 .step fun O ρ a w ai hv=>by
  have h1:=hv x (by simp[Op.operands]) _ hx;have mR:=hv y (by simp[Op.operands]) _ hy;simp only[V]at h1;obtain⟨l,h2,e⟩:=h1;obtain⟨l',h3,hO,p,v,h4,h5,h6⟩:=ai.own id _ ho rfl;rw[h2]at h3;cases h3;have h7:=vP (P:=P) [a.eval y] w #[p,v] 1 0 h4 zS (by simpa using mR.one rfl);have h8:(a.eval y).cells=#[a.eval y]:=cells_one (mR.one rfl);refine⟨undef,_,ρ,.inr ⟨?_,rfl⟩,Tr.cn (o':=.fq j' n') ai ho rfl h2 (.cells (setMany #[p,v] (1+0) [a.eval y]) pN (0,0)) ?_,by simp[V]⟩
  ·simp[execOp,Instr.storeAt,Instr.sureAddr,e,storeVar,h8,hs,h7]
  ·intro hk;have rU:setMany #[p,v] (1+0) [a.eval y]=#[p,a.eval y]:=by simp[setMany]
   refine⟨p,a.eval y,by rw[rU];simp[(bH.1 h4).1],h5,?_⟩;simp only[V]at mR;rcases mR with h9|⟨h9,lj,cB,cD⟩
   ·exact .inl h9
   ·refine .inr ⟨h9,lj,cB,?_⟩;have eS:(Ob.ba s).live=true:=by
     cases s with
     |nil=>simp at hn;exact absurd hn.symm h9
     |cons r rs=>rfl
    obtain⟨Xb,cW,_,c,_,fy,_⟩:=ai.own j' _ hj eS;rw[cB]at cW;cases cW;rw[cD,fy]
end
def Le.PI{F:Fr}{env:Env}{Z:ae}{n:Nat}{s:aa}(id j j':Nat)(ho:Z.get id=some (.fq j n))(hj:Z.get j=some (.ba s))(hn:s.length=n)(hid:Z.get j'=none):
  Le F env Z env (ae.set ((j',.ba s)::Z.set j .dead) id (.fq j' n)):=.step fun O ρ w f ai hv=>by
 have ajg:id≠j:=by rintro rfl;rw[ho]at hj;cases hj
 have ajh:id≠j':=by rintro rfl;rw[ho]at hid;cases hid
 have hjj:j≠j':=by rintro rfl;rw[hj]at hid;cases hid
 have aaA:∀(av:aA),Tr O w ρ Z w av ((j',.ba s)::Z.set j .dead)->(n≠0->∀lj,ρ j=some lj->av j'=some lj)->∃av,Tr O w ρ Z w av (ae.set ((j',.ba s)::Z.set j .dead) id (.fq j' n))/\∀t d,env.get t=some d->V w (Ot O av (ae.set ((j',.ba s)::Z.set j .dead) id (.fq j' n))) av d (f t):=by
  intro av aP lR;have hg:ae.get ((j',Ob.ba s)::Z.set j .dead) id=some (.fq j n):=by
   rw[ae.bm,aF (qc ajh),ae.ej,aF (qc ajg)];exact ho
  obtain⟨l,h3,h4,p,v,h5,h6,h7⟩:=aP.ok.own id _ hg rfl;have ajE:{w with heap:=w.heap.setIfInBounds l.b (.cells #[p,v] pN (0,0))}=w:=by
   have:w.heap.setIfInBounds l.b (.cells #[p,v] pN (0,0))=w.heap:=by
    apply Iq zS;intro i h1 h2;rw[BQ];split
    ·rename_i e;subst e;exact(qe ((dW h2).symm.trans h5)).symm
    ·rfl
   rw[this]
  have j6:=Tr.cn (o':=.fq j' n) aP.ok hg rfl h3 (.cells #[p,v] pN (0,0)) (fun hk=>⟨p,v,by simp[(bH.1 h5).1],h6,?_⟩)
  ·rw[ajE]at j6;have h:=aP.trans j6;exact⟨av,h,fun t d hd=>h.V (hv t d hd)⟩
  ·rcases h7 with h7|⟨h7,lj,h8,h9⟩
   ·exact .inl h7
   ·have eS:(Ob.ba s).live=true:=by
     cases s with
     |nil=>simp at hn;exact absurd hn.symm h7
     |cons r rs=>rfl
    obtain⟨NW,g1,_⟩:=ai.own j _ hj eS;have:=aP.le j NW g1;rw[this]at h8;have e:=qe h8;exact .inr ⟨h7,NW,lR h7 NW g1,by rw[e];exact h9⟩
 cases s with
 |nil=>
  simp at hn;exact aaA ρ (Tr.Z0 (id:=j) (bh:=j') ai) (fun h=>absurd hn.symm h)
 |cons c r=>
  obtain⟨l,h3,_⟩:=ai.own j _ hj rfl;exact aaA _ (Tr.rename (id:=j) (bh:=j') ai hj rfl hid h3) (fun _ lj lR=>by rw[h3]at lR;cases lR;exact kn ..)
end Go.T
namespace Go.T
open Go
variable[bX]
section
variable{P:Program} {env:Env} {dst:Option Tmp} {ty:TypeId} {pos:String} {ar:Array Edge} {g:Option (Nat×Bool)}
def amg{z:Value}(hz:z.cells=#[z])(n k:Nat):madeCells z.cells (n+k)=(List.replicate n z).toArray++(List.replicate k z).toArray:=by
 rw[hz];apply Iq
 ·simp[madeCells]
 ·intro i h1 h2;simp only[madeCells,Array.getElem_map,Array.getElem_range];have:i%(#[z]:Array Value).size=0:=by simp[Ie]
  rw[this];simp only[FL,Bz,GK]at h2;by_cases h:i<n
  ·rw[Array.getElem_append_left (by simpa using h)];simp
  ·rw[Array.getElem_append_right zQ];simp
def aab{t e:TypeId}{ti:TypeInfo}{z:Value}{n m:Nat}(hu:P.underlying t=some (.slice e))(hs:∀w,(sizeOf e).run P w=.ok 1 w)(jq:∀w,(typeInfo e).run P w=.ok ti w)(hz:∀w,(zeroValue e).run P w=.ok z w)
  (M8:n<=m)(h0:m≠0)(hb:ti.bytes*m<=281474976710656)(UB:m<=9223372036854775807)(w:World):
  (Instr.makeSlice t (.int .i64 n) (.int .i64 m)).run P w=.ok (.slice (some ⟨w.heap.size,0,none⟩) n m) (w.alloc (.cells (madeCells z.cells m) e)):=by
 have wl:IntKind.i64.wrap (n:Int)=n:=by rw[IntKind.wrap_i64];omega
 have wc:IntKind.i64.wrap (m:Int)=m:=by rw[IntKind.wrap_i64];omega
 have n1:¬(m:Int)<0:=by omega
 have n2:¬(281474976710656<(ti.bytes:Int)*(m:Int)):=by rw[<-wv];omega
 have n3:¬(n:Int)<0:=by omega
 have n4:¬(m:Int)<n:=by omega
 simp[Instr.makeSlice,run_underlying hu,asInt,asIntOf,jq,hs,hz,wl,wc,n1,n2,n3,n4,h0,newRow,madeCells]
def xz{t e:TypeId}{ti:TypeInfo}{z:Value}{x y:Operand}{m bt:Nat}{nx ny:Int}{Z:ae}(id n:Nat)(hu:P.underlying t=some (.slice e))(hs:∀w,(sizeOf e).run P w=.ok 1 w)(jq:∀w,(typeInfo e).run P w=.ok ti w)(hz:∀w,(zeroValue e).run P w=.ok z w)
  (Nw:z.cells=#[z])(rX:z.oneCell'=true)(kA:ti.bytes=bt)(hx:env.op x=some (.raw (.int .i64 nx)))(hy:env.op y=some (.raw (.int .i64 ny)))(DD:nx=(n:Int))(DE:ny=(m:Int))(M8:n<=m)(dQ:n≠0)(hb:bt*m<=281474976710656)(UB:m<=1000000000000)(hid:Z.get id=none):
  aq P ⟨dst,.makeSlice t x y,ty,pos,ar,g⟩ env Z (.gs id n) ((id,.arr 1 (List.replicate n [.raw z]))::Z):=
 .step fun O ρ a w ai hv=>by
  have bZ:=hv x (by simp[Op.operands]) _ hx;have dR:=hv y (by simp[Op.operands]) _ hy;simp only[V]at bZ dR;subst DD;subst DE;have hr:=aab (n:=n) (m:=m) hu hs jq hz M8 zO (by rw[kA];exact hb) zO w;obtain⟨k,rfl⟩:=Nat.exists_eq_add_of_le M8;rw[amg Nw]at hr;refine⟨.slice (some ⟨w.heap.size,0,none⟩) n (n+k),_,T.cn ρ id ⟨w.heap.size,0,n+k⟩,.inl ?_,Tr.born ai hid (.cells ((List.replicate n z).toArray++(List.replicate k z).toArray) e) rfl (fun i x h _=>h) (fun i h=>h) ?_,?_⟩
  ·simp only[execOp,bZ,dR];rw[Sem.run_bind,hr];rfl
  ·intro hk;refine ig.grown (w:=w) (T:=e) (O:=Ot O ρ Z) (vs:=List.replicate n z) (zs:=(List.replicate k z).toArray) zS zS zS zS (by simp[aD];omega) (by intro r hr;rw[List.eq_of_mem_replicate hr];rfl) ?_ ?_ hk
   ·have:∀n,Vs w (Ot O ρ Z) dZ (List.replicate n [D.raw z]).flatten (List.replicate n z):=by
     intro n;induction n with
     |zero=>simp[Vs]
     |succ n ih=>rw[DW,DW];exact⟨_,_,rfl,by simp[V],ih⟩
    exact this n
   ·intro v js;rw[List.eq_of_mem_replicate js];exact rX
  ·simp only[V];exact .inr ⟨dQ,⟨w.heap.size,0,n+k⟩,by simp[T.cn],rfl⟩
def apr{t e:TypeId}{ti:TypeInfo}{z:Value}{x y:Operand}{m bt:Nat}{nx ny:Int}(hu:P.underlying t=some (.slice e))(hs:∀w,(sizeOf e).run P w=.ok 1 w)(jq:∀w,(typeInfo e).run P w=.ok ti w)(hz:∀w,(zeroValue e).run P w=.ok z w)
  (kA:ti.bytes=bt)(hx:env.op x=some (.raw (.int .i64 nx)))(hy:env.op y=some (.raw (.int .i64 ny)))(DD:nx=0)(DE:ny=(m:Int))(h0:m≠0)(hb:bt*m<=281474976710656)(UB:m<=1000000000000)(Z:ae):
  aq P ⟨dst,.makeSlice t x y,ty,pos,ar,g⟩ env Z (.snap 1 false []) Z:=
 .step fun O ρ a w ai hv=>by
  have bZ:=hv x (by simp[Op.operands]) _ hx;have dR:=hv y (by simp[Op.operands]) _ hy;simp only[V]at bZ dR;subst DD;subst DE;have hr:=aab (n:=0) (m:=m) hu hs jq hz zO h0 (by rw[kA];exact hb) zO w;refine⟨.slice (some ⟨w.heap.size,0,none⟩) 0 m,w.alloc (.cells (madeCells z.cells m) e),ρ,.inl ?_,Tr.pz ⟨by simp,fun b hb=>by show(w.heap.push _)[b]?=_;rw[pS,aF (Nat.ne_of_lt hb)],rfl,rfl,iE.eq rfl rfl⟩ ai,?_⟩
  ·simp only[execOp,bZ,dR];rw[Sem.run_bind];have mP:(Instr.makeSlice t (.int .i64 0) (.int .i64 (m:Int))).run P w=.ok (.slice (some ⟨w.heap.size,0,none⟩) 0 m) (w.alloc (.cells (madeCells z.cells m) e)):=hr;rw[mP];rfl
  ·simp[V,aD]
def ZF{t e xt:TypeId}{x y:Operand}{id n:Nat}{fP:Bool}{rows new:List (List D)}{Z:ae}(hu:P.underlying t=some (.slice e))(hs:∀w,(sizeOf e).run P w=.ok 1 w)
  (hx:env.op x=some (.gs id n))(hy:env.op y=some (.snap 1 fP new))(ho:Z.get id=some (.arr 1 rows))(hn:rows.length=n)(hm:new.length=n)(dQ:n≠0):
  aq P ⟨dst,.call ⟨.builtin .copy,#[x,y],#[t,xt]⟩,ty,pos,ar,g⟩ env Z (.raw (.int .i64 n)) (Z.set id (.arr 1 new)):=
 .step fun O ρ a w ai hv=>by
  have bZ:=hv x (by simp[Op.operands,Call.operands]) _ hx;have dR:=hv y (by simp[Op.operands,Call.operands]) _ hy;obtain⟨hlen,us,kC,k8,oA,jr,fQ⟩:=vO (P:=P) dR;simp only[V]at bZ;rcases bZ with⟨e0,_⟩|⟨_,l,h2,e1⟩
  ·exact absurd e0 dQ
  have eS:(Ob.arr 1 rows).live=true:=by
   cases rows with
   |nil=>exact absurd hn.symm dQ
   |cons=>rfl
  obtain⟨l',h3,_,c,T,h4,hc,HJ,h5⟩:=ai.own id _ ho eS;rw[h2]at h3;cases h3;have axp:us.length=n:=by rw[jr,hm,v8]
  have h6:=vP (P:=P) us w c l.off 0 h4 zO oA;rw[hm]at hlen kC;refine⟨.int .i64 n,_,ρ,.inl ?_,Tr.cn (o':=.arr 1 new) ai ho eS h2 (.cells (setMany c (l.off+0) us) T (0,0)) ?_,by simp[V]⟩
  ·simp[execOp,resolve,invoke,builtin,Builtin.copy_,run_underlying hu,e1,hlen,hs,kC w rfl,h6,goInt,Nat.min_self]
  ·intro hk;refine⟨setMany c l.off us,T,by simp[(bH.1 h4).1],by rw[E_];exact hc,by rw[hm,<-hn];exact HJ,?_⟩;have jd:new.flatten.length=us.length:=k8.length.symm;have rT:((setMany c l.off us).toList.drop l.off).take new.flatten.length=us:=by
    rw[jd,Cm us c l.off zO,ng,wH zQ,iP zQ];simp
   refine Vr.sh (c:=setMany c l.off us) (T:=T) (fr:=(0,0)) (by simp[(bH.1 h4).1]) new l.off fQ ?_ ?_
   ·rw[rT];exact Vs.mono hk (bN.refl _) _ _ k8
   ·rw[rT];exact oA
def apd{t e xt:TypeId}{x y:Operand}{fP L0:Bool}{sz:Nat}(hu:P.underlying t=some (.slice e))(hs:∀w,(sizeOf e).run P w=.ok sz w)
  (hx:env.op x=some (.snap sz fP []))(hy:env.op y=some (.snap sz L0 []))(Z:ae):
  aq P ⟨dst,.call ⟨.builtin .copy,#[x,y],#[t,xt]⟩,ty,pos,ar,g⟩ env Z (.raw (.int .i64 0)) Z:=
 .step fun O ρ a w ai hv=>by
  have bZ:=hv x (by simp[Op.operands,Call.operands]) _ hx;have dR:=hv y (by simp[Op.operands,Call.operands]) _ hy;obtain⟨hlen,us,kC,k8,oA,jr,fQ⟩:=vO (P:=P) dR;simp only[V]at bZ;obtain⟨b,cap,e1,_⟩:=bZ;have yN:us=[]:=cc.1 (by simpa using jr);subst yN;have hf:=kC w rfl;simp only[hG]at hlen hf e1;refine⟨.int .i64 0,w,ρ,.inl ?_,Tr.refl ai,by simp[V]⟩;cases b with
  |none=>simp[execOp,resolve,invoke,builtin,Builtin.copy_,run_underlying hu,e1,hlen,hs,hf,goInt]
  |some b=>simp[execOp,resolve,invoke,builtin,Builtin.copy_,run_underlying hu,e1,hlen,hs,hf,goInt,storeCells]
def aqn{t e:TypeId}{op:BinOp}(hu:P.underlying t=some (.slice e))(b:Option Addr)(n m:Nat)(w:World):(Op.equal t (.slice b n m) (.slice none 0 0)).run P w=.ok b.isNone w:=by
 show(Op.equalIn (9999+1) t (.slice b n m) (.slice none 0 0)).run P w=_;rw[Op.equalIn];cases b<;>simp[bW hu]
def ZG{t t' e:TypeId}{x y:Operand}{sz:Nat}{fP:Bool}{rows:List (List D)}(hu:P.underlying t=some (.slice e))(hx:env.op x=some (.snap sz fP rows))(hy:env.op y=some (.raw (.slice none 0 0)))(Z:ae):
  uj P ⟨dst,.binOp .eql t x y t',ty,pos,ar,g⟩ env Z (fun b:Bool=>rows≠[]->b=false) (fun b=>.raw (.bool b)) (fun _=>Z):=by
 intro O ρ a w ai bY hv;have bZ:=hv x (by simp[Op.operands]) _ hx;have dR:=hv y (by simp[Op.operands]) _ hy;simp only[V]at bZ dR;obtain⟨b,cap,e1,_,_,h3⟩:=bZ;have hr:(execOp a.eval ⟨dst,.binOp .eql t x y t',ty,pos,ar,g⟩).run P w=.ok (.value (.bool b.isNone)) w:=by
  simp[execOp,e1,dR,eqGuard,binOp,aqn (op:=.eql) hu]
 unfold Oper.wp;rw[hr];refine⟨b.isNone,ρ,_,?_,rfl,Tr.refl ai,by simp[V]⟩;intro aC;obtain⟨b',off,rfl,_⟩:=h3 aC;rfl
def aph{t t' e:TypeId}{x y:Operand}{sz:Nat}{fP:Bool}{rows:List (List D)}(hu:P.underlying t=some (.slice e))(hx:env.op x=some (.snap sz fP rows))(hy:env.op y=some (.raw (.slice none 0 0)))(aC:rows≠[])(Z:ae):
  aq P ⟨dst,.binOp .eql t x y t',ty,pos,ar,g⟩ env Z (.raw (.bool false)) Z:=by
 intro O ρ a w ai bY hv;refine Oper.wp_mono ?_ (ZG hu hx hy Z O ρ a w ai bY hv);rintro a' w' ⟨i,av,v,hA,h⟩;cases hA aC;exact⟨av,v,h⟩
end
end Go.T
namespace Go.T
open Go
variable[bX]
def ah1(b:Bool):List (List D):=match b with
 |true=>[]
 |false=>[[.box 0 0]]
@[reducible] def ghost(b:Bool):Ob:=.arr 1 (ah1 b)
def T0(lo aL:Nat)(o:ae):Bool:=o.all fun p=>!(Nat.ble lo p.1&&Nat.blt p.1 (lo+100))&&!(Nat.beq p.1 aL)
theorem T1{lo aL:Nat}:∀{o:ae},T0 lo aL o=true->∀i,(lo<=i/\i<lo+100)\/i=aL->o.get i=none
 |[],_,i,_=>rfl
 |(t,d)::r,h,i,hi=>by
  simp only[T0,kJ,bd]at h;rw[ae.bm,aF,T1 (o:=r) h.2 i hi];rintro rfl;obtain⟨⟨h1,h2⟩,_⟩:=h;rcases hi with⟨a,b⟩|rfl
  ·have e1:Nat.ble lo t=true:=by rw[Nat.ble_eq];exact a
   have e2:Nat.blt t (lo+100)=true:=by rw[jE];exact b
   simp[e1,e2]at h1
  ·simp at h2
end Go.T
namespace Go.T
open Go
variable[bX]
structure jU(P:Program)(F:Fr)(ops:Array Oper)(K:Env->ae->Prop)(eB:Nat)(listed:Array Bool)(env:Env)(Z:ae):Prop where
 out:∀(C:Ctx)(Q:Exit->Act->World->Prop),(∀a w aY aj,K aY aj->St F C aY aj a w->Q .normal a w)->∀a w,St F C env Z a w->wpAnyIn (fz C.ro) 0 P .any ops Q eB listed a w
section
variable{P:Program} {F:Fr} {ops:Array Oper} {K:Env->ae->Prop} {eB:Nat} {listed:Array Bool} {env:Env} {Z:ae}
def jU.nil(hr:Region.ready .any ops listed=[])(h:K env Z):jU P F ops K 0 listed env Z:=⟨fun _ _ hQ a w hs=>⟨hr,hQ a w env Z h hs⟩⟩
structure FG(P:Program)(F:Fr)(ops:Array Oper)(K:Env->ae->Prop)(eB:Nat)(listed:Array Bool)(env:Env)(Z:ae)(i:Nat):Prop where
 out:∃o d aj,ops[i]?=some o/\eF F.N o.dst=true/\On ops env o/\aq P o env Z d aj/\jU P F ops K eB (listed.setIfInBounds i true) (env.put o.dst d) aj
def FG.mk'{i:Nat}{o:Oper}{d:D}{aj:ae}(ho:ops[i]?=some o)(hd:eF F.N o.dst=true)(hg:On ops env o)(hq:aq P o env Z d aj)(k:jU P F ops K eB (listed.setIfInBounds i true) (env.put o.dst d) aj):FG P F ops K eB listed env Z i:=⟨o,d,aj,ho,hd,hg,hq,k⟩
theorem jU.step{l:List Nat}(hr:Region.ready .any ops listed=l)(hn:l≠[])(h:∀i∈l,FG P F ops K eB listed env Z i):jU P F ops K (eB+1) listed env Z:=⟨fun C Q hQ a w hs=>by
 refine⟨fun e=>absurd (hr▸e) hn,fun i hi=>?_⟩;rw[hr]at hi;obtain⟨o,d,aj,ho,hd,hg,hq,k⟩:=(h i hi).out;obtain⟨ρ,aU⟩:=hs;unfold wpOpIn;simp only[ho];rw[aV (Fw hg fun g b t _ _ d hd=>aU.env t d hd)];have:=hq C.O ρ a w aU.tr.ok aU.ym (fun x _ d' h=>vq aU.env x d' h);refine Oper.wpIn_mono ?_ (zZ C.ro this (by rintro a' w' ⟨av,v,rfl,_⟩;exact Act.nh ..));rintro a' w' ⟨av,v,rfl,k7,hv⟩;exact k.out C Q hQ _ _ ⟨av,aU.step k7 (wE aU.size hd (fun t d h=>k7.V (aU.env t d h)) hv) (Act.vT _ _ _) (Act.nh ..)⟩⟩
end
end Go.T
namespace Go.T
open Go
variable[bX]
abbrev SM:=List (aa×aa)
@[reducible] def sX(m:SM):List (D×D):=m.map fun p=>(.str p.1,.str p.2)
def abM(es:List MapEntry)(m:SM)(n:Nat):Prop:=es.length=m.length/\∀i k v,m[i]?=some (k,v)->∃e,es[i]?=some e/\e.born=n+i/\e.key=.string ⟨k.toArray⟩/\e.val=.string ⟨v.toArray⟩
def aaB(a b:aa):((⟨a.toArray⟩:ByteArray)==⟨b.toArray⟩)=decide (a=b):=by
  have e:((⟨a.toArray⟩:ByteArray)==⟨b.toArray⟩)=(a.toArray==b.toArray):=rfl;rw[e,mE];simp
def aot{w:World}{O:Nat->Prop}{ρ:aA}{l:Loc}{m:SM}{es:Array MapEntry}(h1:w.heap[l.b]?=some (.map es m.length))(h2:abM es.toList m 0)(h3:∀p∈m,p.1.length<=aD/\p.2.length<=aD):ig w O ρ l (.mp (sX m)):=by
  refine⟨es,by simpa[sX]using h1,by simpa[sX]using h2.1,fun i kd vd hi=>?_⟩;simp only[sX,fR,gx]at hi;obtain⟨⟨k,v⟩,g1,g2⟩:=hi;cases g2;obtain⟨e,g3,g4,g5,g6⟩:=h2.2 i k v g1;have:=h3 _ (dj g1);exact⟨e,by simpa using g3,by omega,by simp only[V];exact⟨g5,this.1⟩,by simp only[V];exact⟨g6,this.2⟩⟩
section
variable{P:Program} {env:Env} {dst:Option Tmp} {ty:TypeId} {pos:String} {ar:Array Edge} {g:Option (Nat×Bool)}
def apq{t:TypeId}{Z:ae}(id:Nat)(hid:Z.get id=none):aq P ⟨dst,.makeMap t none,ty,pos,ar,g⟩ env Z (.cL id) ((id,.mp (sX []))::Z):=
  .step fun O ρ a w ai hv=>by
    refine⟨.map (some w.heap.size),_,T.cn ρ id ⟨w.heap.size,0,0⟩,.inl ?_,Tr.born ai hid (.map #[] 0) rfl (fun i x h _=>h) (fun i h=>h) ?_,?_⟩
    · simp only[execOp,K3]
      rw[Sem.run_bind];rfl
    · intro hk
      exact aot (m:=[]) (es:=#[]) zS ⟨rfl,fun i k v h=>by simp at h⟩ zS
    · simp only[V];exact⟨⟨w.heap.size,0,0⟩,by simp[T.cn],rfl⟩
end
end Go.T
namespace Go.T
open Go
variable[bX]
open Go.ChangeMaps (setBlock)
section
variable{P:Program} {env:Env} {dst:Option Tmp} {ty:TypeId} {pos:String} {ar:Array Edge} {g:Option (Nat×Bool)}
end
end Go.T
namespace Go.T
open Go
variable[bX]
section
variable{P:Program} {env:Env} {dst:Option Tmp} {ty:TypeId} {pos:String} {ar:Array Edge} {g:Option (Nat×Bool)}
def Pr{t e:TypeId}{x:Operand}(hu:P.underlying t=some (.slice e))(hx:env.op x=some (.raw (.slice none 0 0)))(Z:ae):aq P ⟨dst,.call ⟨.builtin .cap,#[x],#[t]⟩,ty,pos,ar,g⟩ env Z (.raw (.int .i64 0)) Z:=
 .val fun _ _ a w _ hv=>⟨.int .i64 0,by
  have h1:=hv x (by simp[Op.operands,Call.operands]) _ hx;simp only[V]at h1;simp[execOp,resolve,invoke,builtin,Builtin.cap_,h1,bW hu,goInt],by simp[V]⟩
def apD{t e:TypeId}{x y:Operand}{sz:Nat}{k:IntKind}(hu:P.underlying t=some (.slice e))(hs:∀w,(sizeOf e).run P w=.ok sz w)(hx:env.op x=some (.raw (.slice none 0 0)))(hy:env.op y=some (.raw (.int k 0)))(Z:ae):
  aq P ⟨dst,.slice t x none (some y) none,ty,pos,ar,g⟩ env Z (.raw (.slice none 0 0)) Z:=
 .val fun _ _ a w _ hv=>⟨.slice none 0 0,by
  have h1:=hv x (by simp[Op.operands]) _ hx;have h2:=hv y (by simp[Op.operands]) _ hy;simp only[V]at h1 h2;simp[execOp,Instr.sliceAt,Instr.slice,bW hu,h1,h2,Instr.sliceBounds,Instr.sliceBound,asIntOf,hs],by simp[V]⟩
def apA{t e:TypeId}{x y:Operand}{sz id n:Nat}{k:IntKind}(hu:P.underlying t=some (.slice e))(hs:∀w,(sizeOf e).run P w=.ok sz w)(hx:env.op x=some (.gr id n))(hy:env.op y=some (.raw (.int k 0)))(Z:ae):
  aq P ⟨dst,.slice t x none (some y) none,ty,pos,ar,g⟩ env Z (.gr id 0) Z:=
 .val fun _ ρ a w _ hv=>by
  have h1:=hv x (by simp[Op.operands]) _ hx;have h2:=hv y (by simp[Op.operands]) _ hy;simp only[V]at h1 h2;obtain⟨l,h3,h4,e1⟩:=h1;refine⟨.slice (some ⟨l.b,l.off,none⟩) 0 l.cap,?_,by simp only[V];exact⟨l,h3,Bp _,rfl⟩⟩;simp[execOp,Instr.sliceAt,Instr.slice,bW hu,e1,h2,Instr.sliceBounds,Instr.sliceBound,asIntOf,hs,addr_add]
def ao7{st xt e:TypeId}{ti:TypeInfo}{z:Value}{k:IntKind}{sz n bt:Nat}{nx:Int}{x y:Operand}{Z:ae}(id:Nat)(hu:P.underlying st=some (.slice e))(ia:P.underlying xt=some (.int k))(hs:∀w,(sizeOf e).run P w=.ok sz w)
  (jq:∀w,(typeInfo e).run P w=.ok ti w)(hz:∀w,(zeroValue e).run P w=.ok z w)(p7:z.cells.size=sz)(bb:sz≠0)(kA:ti.bytes=bt)(hx:env.op x=some (.raw (.slice none 0 0)))(hy:env.op y=some (.raw (.int .i64 nx)))(hn:nx=(n:Int))(h0:n≠0)(hb:n*bt<=140737488355328)(uM:n<=1000000000000)(hid:Z.get id=none):
  aq P ⟨dst,.call ⟨.builtin .append,#[x,y],#[st,xt]⟩,ty,pos,ar,g⟩ env Z (.gr id n) ((id,.res sz)::Z):=
 .step fun O ρ a w ai hv=>by
  have h1:=hv x (by simp[Op.operands,Call.operands]) _ hx;have h2:=hv y (by simp[Op.operands,Call.operands]) _ hy;simp only[V]at h1 h2;subst hn;have hw:IntKind.i64.wrap (n:Int)=n:=by rw[IntKind.wrap_i64];omega
  have lO:¬(281474976710656:Int)<(n:Int)*(ti.bytes:Int):=by rw[kA,<-wv];omega
  have cR:=nextslicecap_le n 0 zO;have fH:¬Builtin.nextslicecap n 0*ti.bytes>281474976710656:=by
   have:=dd ti.bytes cR;rw[iv]at this;rw[kA]at this|-;omega
  have yI:¬n*sz=0:=by
   intro h;rcases Nat.mul_eq_zero.1 h with h|h<;>contradiction
  let nc:=n+(w.tape w.drawn (.appendCap n 0 e))%(2^63-n)
  have wX:n<=nc:=Gy ..;have eY:(Builtin.append_ #[st,xt] ty #[.slice none 0 0,.int .i64 n]).run P w=.ok (.slice (some ⟨w.heap.size,0,none⟩) n nc) {w with drawn:=w.drawn+1,heap:=w.heap.push (.cells (Builtin.zeroCells z.cells n++Builtin.zeroCells z.cells (nc-n)) e (0,0))}:=by
   have ajq:¬(n:Int)<0:=by omega
   have hmx:IntKind.i64.max=9223372036854775807:=by decide
   have wV:¬(IntKind.i64.max<(n:Int)):=by omega
   have ajn:¬((9223372036854775807:Int)<(n:Int)):=by omega
   simp[Builtin.append_,bW hu,hs,bW ia,asInt,asIntOf,hw,ajq,jq,lO,h0,wV,ajn,fH,Question.forced,Question.cut,Builtin.firstCells,hz,yI,newRow,nc];rfl
  have aP:=Tr.drawn ai (w.drawn+1) (vY _);refine⟨.slice (some ⟨w.heap.size,0,none⟩) n nc,_,T.cn ρ id ⟨w.heap.size,0,nc⟩,.inl (by simp[execOp,resolve,invoke,builtin,h1,h2,eY]),aP.trans (Tr.born (w:={w with drawn:=w.drawn+1}) aP.ok hid (.cells (Builtin.zeroCells z.cells n++Builtin.zeroCells z.cells (nc-n)) e (0,0)) rfl (fun i x h _=>h) (fun i h=>h) ?_),?_⟩
  ·intro _;refine⟨Builtin.zeroCells z.cells n++Builtin.zeroCells z.cells (nc-n),e,by simp,?_⟩;simp only[FL,FC,p7,mD];rw[<-dO,Nat.add_sub_cancel' wX];exact dP _
  ·simp only[V];exact⟨⟨w.heap.size,0,nc⟩,by simp[T.cn],wX,rfl⟩
def ZB{st xt e e':TypeId}{ti:TypeInfo}{z:Value}{sz id bt:Nat}{x y:Operand}{fP:Bool}{new:List (List D)}{Z:ae}(bh:Nat)(hu:P.underlying st=some (.slice e))(ia:P.underlying xt=some (.slice e'))(hs:∀w,(sizeOf e).run P w=.ok sz w)
  (jq:∀w,(typeInfo e).run P w=.ok ti w)(hz:∀w,(zeroValue e).run P w=.ok z w)(p7:z.cells.size=sz)(kA:ti.bytes=bt)(uL:Nat.beq bt 0=false)(hx:env.op x=some (.gr id 0))(ho:Z.get id=some (.res sz))(hy:env.op y=some (.snap sz fP new))(aC:new≠[])(hid:Z.get bh=none)
  (nK:new.length*bt<=140737488355328):
  aq P ⟨dst,.call ⟨.builtin .append,#[x,y],#[st,xt]⟩,ty,pos,ar,g⟩ env Z (.gs bh new.length) ((bh,.arr sz new)::Z.set id .dead):=
 .step fun O ρ a w ai hv=>by
  have hb:(0+new.length)*ti.bytes<=140737488355328:=by rw[kA,mD];exact nK
  have gV:ti.bytes≠0:=by
   rw[kA];intro h;subst h;simp at uL
  have dQ:new.length≠0:=fun h=>aC (cc.1 h);have bZ:=hv x (by simp[Op.operands,Call.operands]) _ hx;have dR:=hv y (by simp[Op.operands,Call.operands]) _ hy;have eY:∀v w',(Builtin.append_ #[st,xt] ty #[a.eval x,a.eval y]).run P w=.ok v w'->(execOp a.eval ⟨dst,.call ⟨.builtin .append,#[x,y],#[st,xt]⟩,ty,pos,ar,g⟩).run P w=.ok (.value v) w':=by
   intro v w' h;simp[execOp,resolve,invoke,builtin,h]
  obtain⟨hlen,us,kC,k8,oA,jr,fQ⟩:=vO (P:=P) dR;have uM:new.length<=aD:=by
   have:(0+new.length)*1<=(0+new.length)*ti.bytes:=jg _ zO;unfold aD;omega
  simp only[V]at bZ;obtain⟨l,h2,_,e1⟩:=bZ;obtain⟨l',h3,_,c,T,h4,h5⟩:=ai.own id _ ho rfl;rw[h2]at h3;cases h3;have Dz:(Ob.arr sz new).live=true:=by
   cases new with
   |nil=>exact absurd rfl aC
   |cons r rs=>rfl
  by_cases hc:0+new.length<=l.cap
  ·have AU:l.off+us.length<=c.size:=by
    rw[jr];have:new.length*sz<=l.cap*sz:=dd sz zO;omega
   have aU:=vP (P:=P) (b:=l.b) (T:=T) us w c l.off 0 h4 zO oA;have uU:=run_append_room (T:=ty) (n:=0) (a:=⟨l.b,l.off,none⟩) (w:=w) hu hs ia zS (hlen w) (kC w rfl) hc (by rw[addr_add];simpa using aU);have aP:=Tr.cn (o':=.arr sz new) ai ho rfl h2 (.cells (setMany c (l.off+0) us) T (0,0)) ?_
   ·have Du:(Z.set id (.arr sz new)).get bh=none:=by
     rw[ae.ej];by_cases e:id=bh
     ·subst e;rw[ho]at hid;cases hid
     ·rw[aF e];exact hid
    have j6:=Tr.rename (id:=id) (bh:=bh) aP.ok (by rw[ae.ej];simp) Dz Du h2;rw[ae.set_set]at j6;refine⟨_,_,Go.T.cn ρ bh l,.inl (eY _ _ (by rw[e1];exact uU)),aP.trans j6,?_⟩;simp only[V];exact .inr ⟨dQ,l,kn ..,by rw[mD]⟩
   ·intro hk;refine⟨setMany c l.off us,T,by simp[(bH.1 h4).1],by rw[E_];exact h5,⟨by omega,uM⟩,?_⟩;have rT:((setMany c l.off us).toList.drop l.off).take new.flatten.length=us:=by
     rw[k8.length.symm,Cm us c l.off zO,ng,wH zQ,iP zQ];simp
    refine Vr.sh (c:=setMany c l.off us) (T:=T) (fr:=(0,0)) (by simp[(bH.1 h4).1]) new l.off fQ ?_ ?_
    ·rw[rT];exact Vs.mono hk (bN.refl _) _ _ k8
    ·rw[rT];exact oA
  ·obtain⟨nc,h6,h7⟩:=run_append_grow (T:=ty) (w:=w) (n:=0) (cap:=l.cap) (base:=some ⟨l.b,l.off,none⟩) (vs:=[]) hu hs ia zS jq hz (fun w' _=>hlen w') kC (fun w' _=>by simp[Builtin.firstCells,loadCells,loadCellsFrom]) hc hb gV;rw[<-e1]at h7;have aP:=Tr.drawn ai (w.drawn+1) (vY _);refine⟨_,_,Go.T.cn ρ bh ⟨w.heap.size,0,nc⟩,.inl (eY _ _ h7),aP.trans (Tr.born (w:={w with drawn:=w.drawn+1}) aP.ok hid _ rfl rG CQ ?_),?_⟩
   ·intro hk;refine ig.grown (w:={w with drawn:=w.drawn+1}) (T:=e) (vs:=us) (zs:=Builtin.zeroCells z.cells (nc-(0+new.length))) zS jr (by rw[FC,p7,mD]) zO uM fQ ?_ oA hk;exact Vs.mono aP.kept (bN.refl _) _ _ k8
   ·simp only[V];exact .inr ⟨dQ,_,kn ..,by rw[mD]⟩
def ao6{st xt e e':TypeId}{sz id:Nat}{x y:Operand}{fP:Bool}(hu:P.underlying st=some (.slice e))(ia:P.underlying xt=some (.slice e'))(hs:∀w,(sizeOf e).run P w=.ok sz w)
  (hx:env.op x=some (.gr id 0))(hy:env.op y=some (.snap sz fP []))(Z:ae):
  aq P ⟨dst,.call ⟨.builtin .append,#[x,y],#[st,xt]⟩,ty,pos,ar,g⟩ env Z (.gr id 0) Z:=
 .val fun O ρ a w ai hv=>by
  have bZ:=hv x (by simp[Op.operands,Call.operands]) _ hx;have dR:=hv y (by simp[Op.operands,Call.operands]) _ hy;obtain⟨hlen,us,kC,k8,oA,jr,fQ⟩:=vO (P:=P) dR;have yN:us=[]:=cc.1 (by simpa using jr);subst yN;simp only[V]at bZ;obtain⟨l,h2,_,e1⟩:=bZ;have uU:=run_append_room (T:=ty) (n:=0) (cap:=l.cap) (a:=⟨l.b,l.off,none⟩) (w:=w) (w':=w) hu hs ia zS (hlen w) (kC w rfl) zS (by simp[storeCells]);refine⟨.slice (some ⟨l.b,l.off,none⟩) 0 l.cap,?_,by simp only[V];exact⟨l,h2,Bp _,rfl⟩⟩;rw[<-e1]at uU;simp[execOp,resolve,invoke,builtin];simp at uU;rw[uU];rfl
end
end Go.T
namespace Go.T
open Go
open Go.ChangeMaps (setBlock)
variable[bX]
variable{κ β:Type} [DecidableEq κ]
def kX(k:κ):List κ->Nat->Option Nat
 |[],_=>none
 |x::r,i=>if k=x then some i else kX k r (i+1)
structure lC(P:Program)(kt:TypeId)(kD:κ->D)(kV:κ->Value)(it:κ->Prop):Prop where
 val:∀{w:World}{O:Nat->Prop}{ρ:aA}{k:κ}{v:Value},V w O ρ (kD k) v->v=kV k/\it k
 back:∀{w:World}{O:Nat->Prop}{ρ:aA}{k:κ},it k->V w O ρ (kD k) (kV k)
 check:∀(b:Bool)(k:κ)(w:World),it k->(Instr.checkKey b 10000 kt (kV k)).run P w=.ok () w
 find:∀(k:κ)(es:List MapEntry)(ks:List κ)(w:World),es.map (·.key)=ks.map kV->(∀x∈ks,it x)->it k->
  (Instr.findKey kt (kV k) es).run P w=.ok ((kX k ks 0).map fun j=>(j,(es[j]?.map (·.val)).getD undef)) w
 stays:∀(k:κ)(w:World),(Instr.keyThatStays (kV k) (kV k)).run P w=.ok (kV k) w
@[reducible] def bP(kD:κ->D)(vD:β->D)(m:List (κ×β)):List (D×D):=m.map fun p=>(kD p.1,vD p.2)
def ei(d:β):List (κ×β)->κ->β
 |[],_=>d
 |(a,v)::r,k=>if k=a then v else ei d r k
def j4(m:List (κ×β))(k:κ):Bool:=m.any fun p=>decide (k=p.1)
def eD:List (κ×β)->κ->β->List (κ×β)
 |[],k,v=>[(k,v)]
 |(a,u)::r,k,v=>if k=a then(k,v)::r else(a,u)::eD r k v
theorem C8(d:β)(k:κ):∀(m:List (κ×β))(i:Nat),
  (kX k (m.map (·.1)) i=none/\j4 m k=false/\ei d m k=d/\∀v,eD m k v=m++[(k,v)])\/
  (∃j,j<m.length/\kX k (m.map (·.1)) i=some (i+j)/\m[j]?=some (k,ei d m k)/\j4 m k=true/\∀v,eD m k v=m.set j (k,v))
 |[],i=>.inl ⟨rfl,rfl,rfl,fun _=>rfl⟩
 |(a,u)::m,i=>by
  by_cases h:k=a
  ·subst h;exact .inr ⟨0,by simp,by simp[kX],by simp[ei],by simp[j4],fun v=>by simp[eD]⟩
  ·rcases C8 d k m (i+1)with⟨h1,h2,h3,h4⟩|⟨j,h1,h2,h3,h4,h5⟩
   ·exact .inl ⟨by simp[kX,h,h1],by simpa[j4,h]using h2,by simp[ei,h,h3],fun v=>by simp[eD,h,h4]⟩
   ·exact .inr ⟨j+1,by simp;omega,by simp only[cP,kX,h,pb,h2];congr 1;omega,by simpa[ei,h]using h3,by simpa[j4,h]using h4,fun v=>by simp[eD,h,h5]⟩
section
variable{P:Program} {kt:TypeId} {kD:κ->D} {kV:κ->Value} {it:κ->Prop} {vD:β->D}
structure uf(w:World)(O:Nat->Prop)(ρ:aA)(kV:κ->Value)(vD:β->D)(es:Array MapEntry)(m:List (κ×β)):Prop where
 len:es.size=m.length
 at_:∀(i:Nat)(k:κ)(v:β),m[i]?=some (k,v)->∃e,es[i]?=some e/\e.born=i/\e.key=kV k/\V w O ρ (vD v) e.val
def uf.keys{w:World}{O:Nat->Prop}{ρ:aA}{es:Array MapEntry}{m:List (κ×β)}(h:uf w O ρ kV vD es m):es.toList.map (·.key)=(m.map (·.1)).map kV:=by
 apply F0;intro i;simp only[fR,jW];rcases eQ i m.length with g|g
 ·obtain⟨e,g1,_,g3,_⟩:=h.at_ i (m[i]).1 (m[i]).2 (by simp[g]);rw[g1,eu g];simp[g3]
 ·rw[tT (by rw[h.len];exact g),p9 g];rfl
def EF(hK:lC P kt kD kV it){w:World}{O:Nat->Prop}{ρ:aA}{l:Loc}{m:List (κ×β)}(h:ig w O ρ l (.mp (bP kD vD m))):∃es,w.heap[l.b]?=some (.map es m.length)/\uf w O ρ kV vD es m/\∀k∈m.map (·.1),it k:=by
 obtain⟨es,h1,h2,h3⟩:=h;simp only[bP,bB]at h1 h2;have key:∀(i:Nat)(k:κ)(v:β),m[i]?=some (k,v)->∃e:MapEntry,es[i]?=some e/\e.born=i/\e.key=kV k/\V w O ρ (vD v) e.val/\it k:=by
  intro i k v hi;obtain⟨e,g1,g2,g3,g4⟩:=h3 i (kD k) (vD v) (by simp[bP,hi]);have:=hK.val g3;exact⟨e,g1,g2,this.1,g4,this.2⟩
 refine⟨es,h1,⟨h2,fun i k v hi=>?_⟩,fun k hk=>?_⟩
 ·obtain⟨e,g1,g2,g3,g4,_⟩:=key i k v hi;exact⟨e,g1,g2,g3,g4⟩
 ·obtain⟨p,hp,rfl⟩:=dh.1 hk;obtain⟨i,hi⟩:=mw hp;obtain⟨_,_,_,_,_,g5⟩:=key i p.1 p.2 hi;exact g5
def YY(hK:lC P kt kD kV it){w:World}{O:Nat->Prop}{ρ:aA}{l:Loc}{m:List (κ×β)}{es:Array MapEntry}(h1:w.heap[l.b]?=some (.map es m.length))(h2:uf w O ρ kV vD es m)(h3:∀k∈m.map (·.1),it k):ig w O ρ l (.mp (bP kD vD m)):=by
 refine⟨es,by simpa[bP]using h1,by simpa[bP]using h2.len,fun i kd vd hi=>?_⟩;simp only[bP,fR,gx]at hi;obtain⟨⟨k,v⟩,g1,g2⟩:=hi;cases g2;obtain⟨e,g3,g4,g5,g6⟩:=h2.at_ i k v g1;exact⟨e,g3,g4,by rw[g5];exact hK.back (h3 k (dh.2 ⟨(k,v),dj g1,rfl⟩)),g6⟩
variable{env:Env} {dst:Option Tmp} {ty:TypeId} {pos:String} {ar:Array Edge} {g:Option (Nat×Bool)}
def ni{t:TypeId}{Z:ae}(id:Nat)(kD:κ->D)(vD:β->D)(hid:Z.get id=none):aq P ⟨dst,.makeMap t none,ty,pos,ar,g⟩ env Z (.cL id) ((id,.mp (bP kD vD []))::Z):=apq id hid
def Xd(hK:lC P kt kD kV it){O:Nat->Prop}{ρ:aA}{w:World}{t et:TypeId}{id:Nat}{l:Loc}{m:List (κ×β)}{k:κ}{d:β}{Z:ae}{zv:Value}{c:Bool}(hu:P.underlying t=some (.map kt et))(hz:(zeroValue et).run P w=.ok zv w)(u0:V w (Ot O ρ Z) ρ (vD d) zv)
  (ai:cX w O ρ Z)(ho:Z.get id=some (.mp (bP kD vD m)))(h2:ρ id=some l)(hk:it k):
  ∃v,V w (Ot O ρ Z) ρ (vD (ei d m k)) v/\(Instr.lookup t (.map (some l.b)) (kV k) c).run P w=.ok (if c then .tuple #[v,.bool (j4 m k)]else v) w:=by
 obtain⟨l',h3,_,lS⟩:=ai.own id _ ho rfl;rw[h2]at h3;cases h3;obtain⟨es,h4,h5,h6⟩:=EF hK lS;have rO:=fun b=>hK.check b k w hk;have jI:=hK.find k es.toList (m.map (·.1)) w h5.keys h6 hk;rcases C8 d k m 0 with⟨g1,g2,g3,_⟩|⟨j,gj,g1,g2,g3,_⟩
 ·refine⟨zv,by rw[g3];exact u0,?_⟩;rw[g1]at jI;cases c<;>simp[Instr.lookup,bW hu,MapKept.run_getObj_map h4,rO,jI,hz,g2]
 ·obtain⟨e,k1,k2,k3,k4⟩:=h5.at_ j k _ g2;refine⟨e.val,k4,?_⟩;rw[g1]at jI;simp only[jk,mD,jW,k1,l8]at jI;cases c<;>simp[Instr.lookup,bW hu,MapKept.run_getObj_map h4,rO,jI,g3]
def EW(hK:lC P kt kD kV it){t et:TypeId}{x y:Operand}{id:Nat}{m:List (κ×β)}{k:κ}{d:β}{kd:D}{Z:ae}{zv:Value}(hu:P.underlying t=some (.map kt et))(hz:∀w,(zeroValue et).run P w=.ok zv w)(u0:∀(w:World) O ρ,V w O ρ (vD d) zv)
  (hx:env.op x=some (.cL id))(hy:env.op y=some kd)(rQ:kd=kD k)(ho:Z.get id=some (.mp (bP kD vD m))):
  aq P ⟨dst,.lookup t x y false,ty,pos,ar,g⟩ env Z (vD (ei d m k)) Z:=
 .val fun O ρ a w ai hv=>by
  subst rQ;have bZ:=hv x (by simp[Op.operands]) _ hx;have dR:=hK.val (hv y (by simp[Op.operands]) _ hy);simp only[V]at bZ;obtain⟨l,h2,e1⟩:=bZ;obtain⟨v,h3,h4⟩:=Xd (c:=false) hK hu (hz w) (u0 w _ ρ) ai ho h2 dR.2;exact⟨v,by simp[execOp,e1,dR.1,h4],h3⟩
def apo(hK:lC P kt kD kV it){t et:TypeId}{x y:Operand}{id:Nat}{m:List (κ×β)}{k:κ}{d:β}{kd:D}{Z:ae}{zv:Value}(hu:P.underlying t=some (.map kt et))(hz:∀w,(zeroValue et).run P w=.ok zv w)(u0:∀(w:World) O ρ,V w O ρ (vD d) zv)
  (hx:env.op x=some (.cL id))(hy:env.op y=some kd)(rQ:kd=kD k)(ho:Z.get id=some (.mp (bP kD vD m))):
  aq P ⟨dst,.lookup t x y true,ty,pos,ar,g⟩ env Z (.a_ [vD (ei d m k),.b (j4 m k)]) Z:=
 .val fun O ρ a w ai hv=>by
  subst rQ;have bZ:=hv x (by simp[Op.operands]) _ hx;have dR:=hK.val (hv y (by simp[Op.operands]) _ hy);simp only[V]at bZ;obtain⟨l,h2,e1⟩:=bZ;obtain⟨v,h3,h4⟩:=Xd (c:=true) hK hu (hz w) (u0 w _ ρ) ai ho h2 dR.2;refine⟨.tuple #[v,.bool (j4 m k)],by simp[execOp,e1,dR.1,h4],?_⟩;simp only[V,Vs];exact⟨_,rfl,_,_,rfl,h3,_,_,rfl,rfl,rfl⟩
def aqH(Mu:κ->Prop){m:List (κ×β)}{k:κ}{v:β}(h:∀x∈m.map (·.1),Mu x)(hk:Mu k):∀x∈(eD m k v).map (·.1),Mu x:=by
 induction m with
 |nil=>intro x hx;simp[eD]at hx;subst hx;exact hk
 |cons p r ih=>
  obtain⟨a,u⟩:=p;intro x hx;simp only[eD]at hx;split at hx
  ·simp only[cP,cr]at hx h;rcases hx with rfl|hx
   ·exact hk
   ·exact h x (.inr hx)
  ·simp only[cP,cr]at hx;rcases hx with rfl|hx
   ·exact h _ zS
   ·exact ih (fun y hy=>h y (by simp only[cP,cr];exact .inr hy)) x hx
def eV(hK:lC P kt kD kV it){t et:TypeId}{x y z:Operand}{id:Nat}{m:List (κ×β)}{k:κ}{v:β}{kd vd:D}{Z:ae}(hu:P.underlying t=some (.map kt et))
  (hx:env.op x=some (.cL id))(hy:env.op y=some kd)(hz:env.op z=some vd)(rQ:kd=kD k)(hvd:vd=vD v)(ho:Z.get id=some (.mp (bP kD vD m))):
  aq P ⟨dst,.mapUpdate t x y z,ty,pos,ar,g⟩ env Z (.raw undef) (Z.set id (.mp (bP kD vD (eD m k v)))):=
 .step fun O ρ a w ai hv=>by
  subst rQ;subst hvd;have bZ:=hv x (by simp[Op.operands]) _ hx;have dR:=hK.val (hv y (by simp[Op.operands]) _ hy);have VL:=hv z (by simp[Op.operands]) _ hz;simp only[V]at bZ;obtain⟨l,h2,e1⟩:=bZ;obtain⟨l',h3,_,lS⟩:=ai.own id _ ho rfl;rw[h2]at h3;cases h3;obtain⟨es,h4,h5,h6⟩:=EF hK lS;have rO:=fun b=>hK.check b k w dR.2;have jI:=hK.find k es.toList (m.map (·.1)) w h5.keys h6 dR.2;have rU:∀o',(setObj l.b o').run P w=.ok () {w with heap:=w.heap.setIfInBounds l.b o'}:=fun o'=>by simp[setObj,Sem.run,h4]
  have bA:=(bH.1 h4).1;have uT:=aqH it (v:=v) h6 dR.2;rcases C8 v k m 0 with⟨g1,_,_,g4⟩|⟨j,gj,g1,g2,_,g4⟩
  ·rw[g1]at jI;refine⟨undef,_,ρ,.inr ⟨?_,rfl⟩,Tr.cn (o':=.mp (bP kD vD (eD m k v))) ai ho rfl h2 (.map (es.push {key:=kV k,val:=a.eval z,born:=m.length}) (m.length+1)) ?_,by simp[V]⟩
   ·simp[execOp,Instr.mapUpdate,bW hu,e1,dR.1,MapKept.run_getObj_map h4,rO,jI,rU]
   ·intro j5;rw[g4]at uT j5|-;refine YY hK (es:=es.push {key:=kV k,val:=a.eval z,born:=m.length}) (by simp[bA]) ⟨by simp[h5.len],fun i k' v' hi=>?_⟩ uT;rw[pS,h5.len];by_cases e:i=m.length
    ·subst e;rw[zb (dP _)]at hi;simp at hi;obtain⟨rfl,rfl⟩:=hi;exact⟨_,by rw[aV rfl],rfl,rfl,V.mono j5 (bN.refl _) _ _ VL⟩
    ·have kG:i<m.length:=by
      rcases eQ i m.length with q|q
      ·exact q
      ·rw[p9 zQ]at hi;cases hi
     rw[r7 kG]at hi;obtain⟨x,q1,q2,q3,q4⟩:=h5.at_ i k' v' hi;exact⟨x,by rw[aF e];exact q1,q2,q3,V.mono j5 (bN.refl _) _ _ q4⟩
  ·obtain⟨e,k1,k2,k3,_⟩:=h5.at_ j k _ g2;rw[g1]at jI;simp only[jk,mD]at jI;refine⟨undef,_,ρ,.inr ⟨?_,rfl⟩,Tr.cn (o':=.mp (bP kD vD (eD m k v))) ai ho rfl h2 (.map (es.modify j fun e=>{e with key:=kV k,val:=a.eval z}) m.length) ?_,by simp[V]⟩
   ·simp[execOp,Instr.mapUpdate,bW hu,e1,dR.1,MapKept.run_getObj_map h4,rO,jI,rU,k1,k3,hK.stays]
   ·intro j5;rw[g4]at uT j5|-;refine YY hK (es:=es.modify j fun e=>{e with key:=kV k,val:=a.eval z}) (by simp[bA]) ⟨by simp[h5.len],fun i k' v' hi=>?_⟩ uT;rw[sD];rw[List.getElem?_set]at hi;by_cases e':j=i
    ·subst e';rw[aV rfl,aV gj]at hi;cases hi;exact⟨{e with key:=kV k,val:=a.eval z},by rw[aV rfl,k1];rfl,k2,rfl,V.mono j5 (bN.refl _) _ _ VL⟩
    ·rw[aF e']at hi;obtain⟨x,q1,q2,q3,q4⟩:=h5.at_ i k' v' hi;exact⟨x,by rw[aF e'];exact q1,q2,q3,V.mono j5 (bN.refl _) _ _ q4⟩
def uf.mem{w:World}{O:Nat->Prop}{ρ:aA}{es:Array MapEntry}{m:List (κ×β)}(h:uf w O ρ kV vD es m){e:MapEntry}(he:e∈es.toList):∃k v,m[e.born]?=some (k,v)/\es[e.born]?=some e/\e.key=kV k/\V w O ρ (vD v) e.val:=by
 obtain⟨j,hj⟩:=mw he;rw[jW]at hj;have bA:j<m.length:=by rw[<-h.len];exact(bH.1 hj).1
 obtain⟨e',g1,g2,g3,g4⟩:=h.at_ j (m[j]).1 (m[j]).2 (by simp[bA]);rw[hj]at g1;cases g1;subst g2;exact⟨_,_,by simp[bA],hj,g3,g4⟩
def uf.Ri{w:World}{O:Nat->Prop}{ρ:aA}{es:Array MapEntry}{m:List (κ×β)}(h:uf w O ρ kV vD es m):es.toList.map (·.born)=List.range m.length:=by
 apply F0;intro i;rw[fR,jW];rcases eQ i m.length with g|g
 ·obtain⟨e,g1,g2,_⟩:=h.at_ i (m[i]).1 (m[i]).2 (by simp[g]);rw[g1,List.getElem?_range g];simp[g2]
 ·rw[tT (by rw[h.len];exact g),p9 (by simpa using g)];rfl
def PB(hK:lC P kt kD kV it){t et:TypeId}{x:Operand}{id:Nat}{m:List (κ×β)}{Z:ae}(fb:Nat)(hu:P.underlying t=some (.map kt et))(hx:env.op x=some (.cL id))(ho:Z.get id=some (.mp (bP kD vD m)))(hid:Z.get fb=none):
  aq P ⟨dst,.range t x,ty,pos,ar,g⟩ env Z (.box fb 0) ((fb,.mi id m.length [])::Z):=
 .step fun O ρ a w ai hv=>by
  have bZ:=hv x (by simp[Op.operands]) _ hx;simp only[V]at bZ;obtain⟨l,h2,e1⟩:=bZ;obtain⟨l',h3,_,lS⟩:=ai.own id _ ho rfl;rw[h2]at h3;cases h3;obtain⟨es,h4,h5,h6⟩:=EF hK lS;have hr:=run_range_map (P:=P) w t kt et l.b es m.length hu h4;refine⟨.pointer (some ⟨w.heap.size,0,none⟩),_,T.cn ρ fb ⟨w.heap.size,0,0⟩,.inl ?_,Tr.born ai hid (.mapIter (some l.b) m.length #[] m.length) rfl (fun i x h _=>h) (fun i h=>h) ?_,?_⟩
  ·simp only[execOp,e1];rw[Sem.run_bind,hr];rfl
  ·intro hk;have aC:fb≠id:=by rintro rfl;rw[ho]at hid;cases hid
   exact⟨l,by simp[T.cn,aC.symm,h2],by simp⟩
  ·simp only[V];exact⟨⟨w.heap.size,0,0⟩,by simp[T.cn],rfl⟩
def Yr(m:List (κ×β))(seen:List Nat):Option (Nat×κ×β)->Prop
 |none=>∀j,j<m.length->j∈seen
 |some (j,k,v)=>m[j]?=some (k,v)/\j∉seen
@[reducible] def tS(kD:κ->D)(vD:β->D):Option (Nat×κ×β)->D
 |none=>.a_ [.b false]
 |some (_,k,v)=>.a_ [.b true,kD k,vD v]
@[reducible] def vj(Z:ae)(fb id n:Nat)(seen:List Nat):Option (Nat×κ×β)->ae
 |none=>Z
 |some (j,_,_)=>Z.set fb (.mi id n (seen++[j]))
def Pz(hK:lC P kt kD kV it){x:Operand}{id fb:Nat}{m:List (κ×β)}{seen:List Nat}{Z:ae}(hx:env.op x=some (.box fb 0))(hi:Z.get fb=some (.mi id m.length seen))(ho:Z.get id=some (.mp (bP kD vD m))):
  uj P ⟨dst,.next x false,ty,pos,ar,g⟩ env Z (Yr m seen) (tS kD vD) (vj Z fb id m.length seen):=by
 intro O ρ a w ai bY hv;have bZ:=hv x (by simp[Op.operands]) _ hx;simp only[V]at bZ;obtain⟨r,rR,e1⟩:=bZ;obtain⟨r',pn,_,lm,hm,hit⟩:=ai.own fb _ hi rfl;rw[rR]at pn;cases pn;obtain⟨l',h3,_,lS⟩:=ai.own id _ ho rfl;rw[hm]at h3;cases h3;obtain⟨es,h4,h5,h6⟩:=EF hK lS;have A5:∀x∈es.toList,x.born<m.length:=fun x hx=>by
  obtain⟨_,_,q,_⟩:=h5.mem hx;exact(cI.1 q).1
 unfold Oper.wp;have wS:(execOp a.eval ⟨dst,.next x false,ty,pos,ar,g⟩).run P w=((Instr.next (.pointer (some ⟨r.b,0,none⟩)) false ty).bind fun v=>Sem.pure (Next.value v)).run P w:=by
  simp only[execOp,e1];rfl
 rw[wS];rcases run_next_at (P:=P) w ty r.b lm.b m.length m.length seen.toArray es m.length hit h4 A5 (dP _)with⟨hz,eY⟩|⟨e,he,w1,uY,eY⟩
 ·have:((Instr.next (.pointer (some ⟨r.b,0,none⟩)) false ty).bind fun v=>Sem.pure (Next.value v)).run P w=.ok (.value (.tuple #[.bool false])) w:=by
   show(Sem.bind _ _).run P w=_;rw[Sem.run_bind',eY];rfl
  rw[this];refine⟨none,ρ,_,?_,rfl,Tr.refl ai,by simp[V,Vs,D.b]⟩;intro j hj;have qT:leftOf es seen.toArray=#[]:=Array.eq_empty_of_size_eq_zero hz;obtain⟨e,g1,g2,_⟩:=h5.at_ j (m[j]).1 (m[j]).2 (by simp[hj]);unfold leftOf at qT;rw[Array.filter_eq_empty_iff]at qT;have qN:e∈es:=Array.mem_of_getElem? g1;have:=qT e qN;simp at this;rw[g2]at this;exact this
 ·have Dr:e∈es.toList/\e.born∉seen:=by
   unfold leftOf at he;simp at he;exact⟨by simpa using he.1,by simpa using he.2⟩
  obtain⟨k,v,g1,g2,g3,g4⟩:=h5.mem Dr.1;have:((Instr.next (.pointer (some ⟨r.b,0,none⟩)) false ty).bind fun v=>Sem.pure (Next.value v)).run P w=.ok (.value (.tuple #[.bool true,e.key,e.val])) (setBlock w1 r.b (.mapIter (some lm.b) m.length (seen.toArray.push e.born) m.length)):=by
   show(Sem.bind _ _).run P w=_;rw[Sem.run_bind',eY];rfl
  rw[this];have p6:Tr O w ρ Z w1 ρ Z:=by
   rcases uY with rfl|rfl
   ·exact Tr.refl ai
   ·exact Tr.drawn ai _ (by first|exact vY _|omega)
  have MX:w1.heap[r.b]?=some (.mapIter (some lm.b) m.length seen.toArray m.length):=by rcases uY with rfl|rfl<;>exact hit
  have j6:=Tr.cn (o':=.mi id m.length (seen++[e.born])) p6.ok hi rfl rR (.mapIter (some lm.b) m.length (seen.toArray.push e.born) m.length) (fun _=>⟨lm,hm,by simp[(bH.1 MX).1]⟩);refine⟨some (e.born,k,v),ρ,_,⟨g1,Dr.2⟩,rfl,p6.trans j6,?_⟩;simp only[V,Vs,D.b];refine⟨_,rfl,_,_,rfl,rfl,_,_,rfl,?_,_,_,rfl,(p6.trans j6).V g4,rfl⟩;rw[g3];exact hK.back (h6 k (dh.2 ⟨(k,v),dj g1,rfl⟩))
def Ps(hK:lC P kt kD kV it){x:Operand}{id fb j:Nat}{k:κ}{v:β}{m:List (κ×β)}{seen:List Nat}{Z:ae}(hx:env.op x=some (.box fb 0))(hi:Z.get fb=some (.mi id m.length (seen++[j])))(ho:Z.get id=some (.mp (bP kD vD m)))(hj:m[j]?=some (k,v)):
  aq P ⟨dst,.entry x,ty,pos,ar,g⟩ env Z (.a_ [kD k,vD v]) Z:=
 .val fun O ρ a w ai hv=>by
  have bZ:=hv x (by simp[Op.operands]) _ hx;simp only[V]at bZ;obtain⟨r,rR,e1⟩:=bZ;obtain⟨r',pn,_,lm,hm,hit⟩:=ai.own fb _ hi rfl;rw[rR]at pn;cases pn;obtain⟨l',h3,_,lS⟩:=ai.own id _ ho rfl;rw[hm]at h3;cases h3;obtain⟨es,h4,h5,h6⟩:=EF hK lS;obtain⟨e,g1,g2,g3,g4⟩:=h5.at_ j k v hj;have Dv:w.heap[r.b]?=some (.mapIter (some lm.b) m.length (seen.toArray.push e.born) m.length):=by rw[hit,g2];simp
  have fD:(es.toList.map (·.born)).Nodup:=by rw[h5.Ri];exact Jv
  have eY:=run_entry_at (P:=P) w r.b lm.b m.length seen.toArray es m.length e Dv h4 (by simpa using Array.mem_of_getElem? g1) fD;refine⟨.tuple #[e.key,e.val],?_,?_⟩
  ·simp only[execOp,e1];rw[Sem.run_bind,eY];rfl
  ·simp only[V,Vs];refine⟨_,rfl,_,_,rfl,?_,_,_,rfl,g4,rfl⟩;rw[g3];exact hK.back (h6 k (dh.2 ⟨(k,v),dj hj,rfl⟩))
end
@[reducible] def Fu(s:aa):Value:=.string ⟨s.toArray⟩
theorem LO{k:κ}:∀{ks:List κ}{i j:Nat},kX k ks i=some j->i<=j
 |[],_,_,h=>by simp[kX]at h
 |x::ks,i,j,h=>by
  simp only[kX]at h;split at h
  ·simp at h;omega
  ·have:=LO h;omega
end Go.T
