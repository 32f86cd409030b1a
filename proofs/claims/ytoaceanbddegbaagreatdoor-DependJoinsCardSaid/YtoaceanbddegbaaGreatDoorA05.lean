/-
  Contracts of the functions that the statement reaches, and the logic in which they are proved (no condition): parts Core19, Core20, Core21, Core22, Core23, Core24, Core25, Core26, Core27, Core28, Core29.
-/
import Derived.Test.YtoaceanbddegbaaGreatDoorA04
import Derived.Below
import Derived.Laws.MakeOwn
import Derived.Maps.RangeRun
set_option linter.all false
namespace Go.T
open Go
variable[bT]
def Aw:Env→List Tmp→List D→Env
 |e,p::ps,d::ds=>Aw ((p,d)::e) ps ds
 |e,_,_=>e
theorem T7{w:World}{O:Nat→Prop}{ρ:aC}{N:Nat}:∀(ps:List Tmp)(ds:List D)(vs:List Value)(env:Env)(tmps:Array Value),tmps.size=N→ps.all (fun p=>Nat.blt p N)=true→Vs w O ρ ds vs→(∀t d,env.get t=some d→V w O ρ d (tmps.getD t undef))→
  ((ps.zip vs).foldl (fun(t:Array Value) (x:Tmp×Value)=>t.setIfInBounds x.1 x.2) tmps).size=N∧∀t d,(Aw env ps ds).get t=some d→V w O ρ d (((ps.zip vs).foldl (fun(t:Array Value) (x:Tmp×Value)=>t.setIfInBounds x.1 x.2) tmps).getD t undef)
 |[],ds,vs,env,tmps,hN,_,hv,he=>by
  simp only[List.zip_nil_left,List.foldl_nil];refine⟨hN,?_⟩;cases ds<;>exact he
 |p::ps,[],vs,env,tmps,hN,_,hv,he=>by
  simp only[Vs]at hv;subst hv;simp only[List.zip_nil_right,List.foldl_nil];exact⟨hN,he⟩
 |p::ps,d::ds,vs,env,tmps,hN,hp,hv,he=>by
  simp only[Vs]at hv;obtain⟨u,us,rfl,h1,h2⟩:=hv;simp only[List.all_cons,Bool.and_eq_true]at hp;have bN:p<tmps.size:=by rw[hN];simpa[Nat.blt_eq]using hp.1
  simp only[List.zip_cons_cons,List.foldl_cons,Aw];refine T7 ps ds us _ _ (by simpa using hN) hp.2 h2 ?_;intro t d' hd;rw[Env.bf]at hd;rw[Bt _ _ _ _ bN];by_cases e:p=t
  ·rw[if_pos e]at hd⊢;cases hd;exact h1
  ·rw[if_neg e]at hd⊢;exact he t d' hd
theorem r5.gS{f:Nat→Bool}{env aS:Env}(h:r5 f env aS):D.okB.gS f (aS.map (·.2))=true:=by
 induction h with
 |nil=>rfl
 |cons h hp _ ih=>simp only[List.map_cons,D.okB.gS,hp,ih,Bool.and_self]
def aaj(F':Fr)(aK:Nat)(s:wM)(ck:Env)(B':aa)(Xs:Code→aa→Prop):Exit→Env→aa→Prop
 |.normal,env,J=>J.get aK=some (.lp .busy none s ck)∧Le F' env (J.set aK (.lp .ready none s ck)) [] B'
 |.ret,env,J=>J.get aK=some (.lp .busy none s ck)∧∃Rx,Xs .ret Rx∧Le F' env (J.set aK (.lp .done (some .ret) s ck)) [] ((aK,.lp .done (some .ret) s ck)::Rx)
 |.exit id,env,J=>J.get aK=some (.lp .busy none s ck)∧∃Rx,Xs (.exit id) Rx∧Le F' env (J.set aK (.lp .done (some (.exit id)) s ck)) [] ((aK,.lp .done (some (.exit id)) s ck)::Rx)
 |_,_,_=>False
def M3(P:Program)(F':Fr)(aK:Nat)(s:wM)(ck:Env)(B':aa)(Xs:Code→aa→Prop):Exit→Env→aa→Prop
 |.normal,env,J=>J.get aK=some (.lp .ready none s ck)∧U P F' [s.body] (aaj F' aK s ck B' Xs) env (J.set aK (.lp .busy none s ck))
 |_,_,_=>False
def Gs(aK:Nat)(s:wM)(ck:Env)(Xs:Code→aa→Prop)(o:aa):Prop:=∃j Rx,Xs j Rx∧o=(aK,.lp .done (some j) s ck)::Rx
theorem St.record{F':Fr}{C:Ctx}{env:Env}{J:aa}{a:Act}{w:World}{aK:Nat}{l:Loc}{st:LoopState}{pe:Option Code}{s:wM}{ck:Env}(qD:aK∈F'.ps)(hl:C.u6 aK=some l)(fA:J.get aK=some (.lp st pe s ck))(hs:St F' C env J a w):
  ∃fn tmps df,w.heap[l.b]?=some (.loop ⟨st,pe,fn,tmps,s.ps,s.assign,s.body,df⟩)∧∀Df CR,St F' C env (J.set aK (.lp Df CR s ck)) a (w.putObj l.b (.loop ⟨Df,CR,fn,tmps,s.ps,s.assign,s.body,df⟩)):=by
 obtain⟨ρ,hs⟩:=hs;have nG:=hs.keep aK qD l hl;obtain⟨l',h1,h2,fn,tmps,df,h3,h4,h5⟩:=hs.tr.ok.own aK _ fA rfl;rw[nG]at h1;cases h1;refine⟨fn,tmps,df,h3,fun Df CR=>⟨ρ,?_⟩⟩;have bm:=Tr.cv (o':=.lp Df CR s ck) hs.tr.ok fA rfl nG (.loop ⟨Df,CR,fn,tmps,s.ps,s.assign,s.body,df⟩) (fun hk=>⟨fn,tmps,df,by
  have:=(Array.getElem?_eq_some_iff.1 h3).1;simp[this],h4,fun t d hd=>V.mono hk (bO.refl _) d _ (h5 t d hd)⟩)
 exact hs.step bm (fun t d hd=>bm.V (hs.env t d hd)) rfl rfl
theorem ajd{P:Program}{N aK lb:Nat}{ids:List Nat}{pl:List Tmp}{s:wM}{ck:Env}{x:List D}{R:aa}{B':aa}{Xs:Code→aa→Prop}(hs:s.ps=pl.toArray)(hN:s.N=N)(E4:pl.all (fun p=>Nat.blt p N)=true)(hlen:x.length=pl.length)(qD:aK∈ids)
  (h:U P ⟨N,ids,true,none⟩ [s.assign] (M3 P ⟨N,ids,true,none⟩ aK s ck B' Xs) (Aw ck pl x) ((aK,.lp .ready none s ck)::R)):
  MB P aK lb ids x ((aK,.lp .ready none s ck)::R) B' (Gs aK s ck Xs):=⟨fun O ρ w vals l hl ke af dH hv=>by
 subst ke;have fA:aa.get ((aK,Ob.lp .ready none s ck)::R) aK=some (.lp .ready none s ck):=by simp[aa.get]
 obtain⟨l',h1,h2,fn,tmps,df,h3,h4,h5⟩:=af.own aK _ fA rfl;rw[hl]at h1;cases h1;have B1:=hv.length;refine⟨fn,_,s.assign,s.body,run_yield h3 (by rw[hs];simp[B1,hlen]),?_⟩;refine roundIn_of_wpIn trivial ?_;have xH:((s.ps.zip vals.toArray).foldl (fun tmps (x:Tmp×Value)=>tmps.setIfInBounds x.1 x.2) tmps)=((pl.zip vals).foldl (fun(t:Array Value) (x:Tmp×Value)=>t.setIfInBounds x.1 x.2) tmps):=by
  rw[hs];simp
 obtain⟨aY,hpe⟩:=T7 (w:=w) pl x vals ck tmps (h4.trans hN) E4 hv h5
 let C:Ctx:=⟨O,w,ρ,(aK,.lp .ready none s ck)::R,some l.b⟩
 have bd:St ⟨N,ids,true,none⟩ C (Aw ck pl x) ((aK,.lp .ready none s ck)::R) {tmps:=(s.ps.zip vals.toArray).foldl (fun tmps (x:Tmp×Value)=>tmps.setIfInBounds x.1 x.2) tmps,defers:=[]} w:=
  ⟨ρ,fun _ _ _ h=>h,iw.refl af,by rw[xH];exact hpe,by rw[xH];exact aY,Marks.nil ..,(fun e=>by cases e),(fun _ _ e=>by cases e),dH⟩
 have gw:=h.start.out C _ w bd;refine wpIn_mono gw ?_;rintro e a1 w1 ⟨fH,dn,hq,hs1⟩;cases e with
 |normal=>
  obtain⟨ns,acA⟩:=hq;obtain⟨fn1,arU,df1,Jd,adb⟩:=hs1.record (C:=C) (l:=l) qD hl ns;refine⟨_,run_beginRound Jd rfl,?_⟩;refine wpIn_mono (acA.start.out C a1 _ (adb .busy none)) ?_;have fin:∀(ul:Option Code)(st:LoopState)(xc:Env)(mG:aa)(a2:Act)(w2:World)(o:aa),(st=if ul.isNone then .ready else .done)→mG.get aK=some (.lp .busy none s ck)→St ⟨N,ids,true,none⟩ C xc mG a2 w2→Le ⟨N,ids,true,none⟩ xc (mG.set aK (.lp st ul s ck)) [] o→((ul.isNone=true∧o=B')∨(ul.isNone=false∧Gs aK s ck Xs o))→
    ∃v w',(Instr.endRound l.b ul).run P w2=.ok v w'∧∃b aw o,Ending.returned v=.returned (.bool b)∧((b=true∧o=B')∨(b=false∧Gs aK s ck Xs o))∧iw O w ρ ((aK,.lp .ready none s ck)::R) w' aw o∧∀i∈ids,∀l,ρ i=some l→aw i=some l:=by
   intro ul st xc mG a2 w2 o ade qA BU gv ho;obtain⟨fn2,arV,df2,hh2,adc⟩:=BU.record (C:=C) (l:=l) qD hl qA;obtain⟨aw,QV⟩:=gv.out C a2 _ (adc st ul);refine⟨_,_,run_endRound ul hh2,ul.isNone,aw,o,rfl,ho,?_,QV.keep⟩;have:=QV.tr;rw[ade]at this;exact this
  rintro e a2 w2 ⟨xc,mG,xF,BU⟩;cases e with
  |normal=>exact fin none .ready xc mG a2 w2 B' rfl xF.1 BU xF.2 (.inl ⟨rfl,rfl⟩)
  |ret=>
   obtain⟨qA,Rx,hx,gv⟩:=xF;exact fin (some .ret) .done xc mG a2 w2 _ rfl qA BU gv (.inr ⟨rfl,.ret,Rx,hx,rfl⟩)
  |exit id=>
   obtain⟨qA,Rx,hx,gv⟩:=xF;exact fin (some (.exit id)) .done xc mG a2 w2 _ rfl qA BU gv (.inr ⟨rfl,.exit id,Rx,hx,rfl⟩)
  |goto l=>exact xF.elim
  |panic ch=>exact xF.elim
  |outgrown=>exact xF.elim
 |exit id=>exact hq.elim
 |goto l=>exact hq.elim
 |ret=>exact hq.elim
 |panic ch=>exact hq.elim
 |outgrown=>exact hq.elim⟩
def akl(Q:Exit→Env→aa→Prop)(ck:Env)(j:Code)(Rx:aa):Prop:=
 match j with
 |.ret=>Q .ret ck Rx
 |.exit id=>Q (.exit id) ck Rx
 |_=>False
theorem U.aiM{α:Type}{P:Program}{F:Fr}{Q:Exit→Env→aa→Prop}{cs:List Code}{env:Env}{J:aa}{g:Operand}{pl:List Tmp}{assign body:Code}{f:FuncId}{lo:Nat}{bx:List D}{own:aa}{enc:α→List D}{ok fin:List α→Prop}
  (aK:Nat)(S:List Nat)(ck:Env)(R:List α→aa)(Xs:Code→aa→Prop)
  (BT:F.rd=false)(fy:∀(args:Array Value)(w:World),(callFunc f args).run P w=.ok (.enter f args) w)(hF:AX P f lo bx own enc ok fin)
  {fH:Env}(gv:Le F env J fH (own++R []))(hg:fH.op g=some (.fn (.func f) [] bx))(E4:pl.all (fun p=>Nat.blt p F.N)=true)(hlen:∀x,(enc x).length=pl.length)
  (he:r5 (fun i=>S.contains i) fH ck)(sM:F.ps.all (fun i=>S.contains i)=true)
  (hS:∀pre,S.all (R pre).has=true)(IV:∀j o,Xs j o→S.all o.has=true)
  (af:∀pre i o,(R pre).get i=some o→o.okB (R pre).has=true)(QJ:∀j o,Xs j o→∀i x,o.get i=some x→x.okB o.has=true)
  (xx:∀pre i,(lo≤i∧i<lo+100)∨i=aK→(R pre).get i=none)(Qq:∀j o,Xs j o→∀i,(lo≤i∧i<lo+100)∨i=aK→o.get i=none)
  (Jg:¬(lo≤aK∧aK<lo+100))(lA:own.get aK=none)
  (round:∀pre x,ok (pre++[x])→U P ⟨F.N,aK::S,true,none⟩ [assign] (M3 P ⟨F.N,aK::S,true,none⟩ aK ⟨pl.toArray,assign,body,F.N⟩ ck ((aK,.lp .ready none ⟨pl.toArray,assign,body,F.N⟩ ck)::R (pre++[x])) Xs) (Aw ck pl (enc x)) ((aK,.lp .ready none ⟨pl.toArray,assign,body,F.N⟩ ck)::R pre))
  (done:∀xs,fin xs→U P F cs Q ck (R xs))(stop:∀j o,Xs j o→akl Q ck j o):
  U P F (.rangeFunc g pl.toArray assign body::cs) Q env J:=by
 have YP:∀C a w,St F C env J a w→Code.wpIn (fz C.ro) 0 P (.rangeFunc g pl.toArray assign body) (fun e a' w'=>∃aS ai,kr (pI P F cs Q) Q e aS ai∧St F C aS ai a' w') a w:=by
  intro C a w hs0;obtain⟨ρ,hs⟩:=gv.out C a w hs0;have zG:C.ro=none:=hs.rd BT;have zq:=uG hs.env g _ hg;obtain⟨us,vs,e1,e2,e3⟩:=Pc zq;have ot:us=#[]:=by simp only[Vs]at e2;exact Array.toList_eq_nil_iff.1 e2
  subst ot
  let s:wM:=⟨pl.toArray,assign,body,F.N⟩
  let B:List α→aa:=fun pre=>(aK,.lp .ready none s ck)::R pre
  have hgB:∀(o:Ob)(r:aa) i,aa.get ((aK,o)::r) i=if aK=i then some o else r.get i:=fun o r i=>aa.bf ..
  rw[zG];refine wpIn_rangeFunc fun fn _=>?_
  let w1:=w.alloc (.deferred (some []))
  let w2:=w1.alloc (.loop {state:=.ready,pending:=none,fn,tmps:=a.tmps,params:=pl.toArray,assign,body,defers:=w.heap.size})
  have uf:w1.heap.size=w.heap.size+1:=by simp[w1]
  have hw2:w.heap.size<w2.heap.size:=by
   have:w2.heap.size=w1.heap.size+1:=by simp[w2]
   omega
  -- the world with the block for deferred calls, then with the record
  have pV:Tr C.O w ρ (own++R []) w1 ρ (own++R []):=by
   refine Tr.qQ ⟨by omega,fun b hb=>?_,rfl,rfl,iU.eq rfl rfl⟩ hs.tr.ok;show(w.heap.push _)[b]?=_;rw[Array.getElem?_push,if_neg zO]
  let l:Loc:=⟨w1.heap.size,0,0⟩
  have cz:aa.get (own++R []) aK=none:=by
   rw[aa.get_append,lA];exact xx [] aK (.inr rfl)
  have lC:Tr C.O w1 ρ (own++R []) w2 (cv ρ aK l) ((aK,.lp .ready none s ck)::(own++R [])):=by
   refine Tr.born pV.ok cz _ rfl (fun i x h _=>h) (fun i h=>h) (fun hk=>⟨fn,a.tmps,w.heap.size,?_,hs.size,fun t d hd=>?_⟩)
   ·exact World.alloc_heap_new w1 _
   ·exact V.mono hk (wE l (pV.ok.fresh aK cz)) d _ (pV.V (hs.env t d (he.sound t d hd).1))
  have zJ:=pV.trans lC;have BC:∀i,aa.get ((aK,.lp .ready none s ck)::(own++R [])) i=aa.get (own++B []) i:=by
   intro i;rw[aa.bf,aa.get_append,aa.get_append];by_cases e:aK=i
   ·subst e;simp[lA,B,aa.bf]
   ·rw[if_neg e];cases own.get i with
    |some z=>rfl
    |none=>simp[B,aa.bf,e]
  have acZ:di w2 C.O (cv ρ aK l) (own++B []):=zJ.ok.congr BC;have E0:∀b,Ot C.O (cv ρ aK l) (own++B []) b→Ot C.O (cv ρ aK l) ((aK,.lp .ready none s ck)::(own++R [])) b:=fun b hb=>(Ot.congr BC b).2 hb;have acC:Vs w2 (Ot C.O (cv ρ aK l) (own++B [])) (cv ρ aK l) bx vs.toList:=
   Vs.mono (Kept.eP E0) (bO.refl _) _ _ (Vs.mono zJ.kept zJ.le _ _ e3)
  have QE:∀i,i∈S→i≠aK:=by
   intro i hi e;have h1:=List.all_eq_true.1 (hS []) i hi;rw[e,aa.has,xx [] aK (.inr rfl)]at h1;cases h1
  have Y:A1 P lo aK l.b (aK::S) B (Gs aK s ck Xs) enc ok:=by
   have P_:∀(o:Ob)(r:aa),S.all r.has=true→(aK::S).all (aa.has ((aK,o)::r))=true:=by
    intro o r hr;rw[List.all_eq_true]at hr⊢;intro i hi;rcases List.mem_cons.1 hi with rfl|hi
    ·simp[aa.has,aa.bf]
    ·have:=hr i hi;simp only[aa.has,aa.bf]at this⊢;split
     ·rfl
     ·exact this
   have okE:∀(o:aa),S.all o.has=true→∀st pe,(Ob.lp st pe s ck).okB o.has=true:=by
    intro o ho st pe;show D.okB.gS o.has (ck.map (·.2))=true;have:=he.gS;exact D.td _ (fun i hi=>List.all_eq_true.1 ho i (by simpa using hi)) this
   have SG:∀(o:Ob)(r:aa) i,r.has i=true→aa.has ((aK,o)::r) i=true:=by
    intro o r i hi;simp only[aa.has,aa.bf]at hi⊢;split
    ·rfl
    ·exact hi
   have Tv:∀st pe(r:aa),S.all r.has=true→(∀i x,r.get i=some x→x.okB r.has=true)→∀i x,aa.get ((aK,.lp st pe s ck)::r) i=some x→x.okB (aa.has ((aK,.lp st pe s ck)::r))=true:=by
    intro st pe r hr ho i x hx;rw[aa.bf]at hx;by_cases e:aK=i
    ·rw[if_pos e]at hx;cases hx;exact Ob.Ao (SG _ r) (okE r hr st pe)
    ·rw[if_neg e]at hx;exact Ob.Ao (SG _ r) (ho i x hx)
   have Pl:∀(o:Ob)(r:aa),(∀i,(lo≤i∧i<lo+100)∨i=aK→r.get i=none)→∀i,lo≤i→i<lo+100→aa.get ((aK,o)::r) i=none:=by
    intro o r hr i h1 h2;rw[aa.bf,if_neg (fun e:aK=i=>Jg zO)];exact hr i (.inl ⟨h1,h2⟩)
   refine⟨List.mem_cons_self,fun pre=>P_ _ _ (hS pre),?_,fun pre=>Tv _ _ _ (hS pre) (af pre),?_,fun pre=>Pl _ _ (xx pre),?_,fun pre x hx=>?_⟩
   ·rintro o ⟨j,Rx,hx,rfl⟩;exact P_ _ _ (IV j Rx hx)
   ·rintro o ⟨j,Rx,hx,rfl⟩;exact Tv _ _ _ (IV j Rx hx) (QJ j Rx hx)
   ·rintro o ⟨j,Rx,hx,rfl⟩;exact Pl _ _ (Qq j Rx hx)
   ·exact ajd rfl rfl E4 (hlen x) List.mem_cons_self (round pre x hx)
  refine⟨w.heap.size+1,[⟨.collected w.heap.size,#[]⟩],w2,⟨.fn (.func f) vs,#[]++#[.func (.yield (w.heap.size+1)) #[] #[]]⟩,w2,f,(Value.func (.yield l.b) #[] #[]::vs.toList).toArray,w2,run_enterLoop_outer fn a.tmps pl.toArray assign body,?_,fun _ _=>trivial,?_,fun e=>by simp[fz,Fence.wide]at e,?_⟩
  ·have hm:Array.map a.eval #[Operand.const (Value.func (Fn.yield (w.heap.size+1)) #[] #[])]=#[Value.func (.yield (w.heap.size+1)) #[] #[]]:=by simp[Act.eval]
   rw[resolve];simp only[rangeCall,e1,Deferred.ofValue,hm,Sem.run_pure]
  ·have:(#[]++#[Value.func (.yield (w.heap.size+1)) #[] #[]]++vs:Array Value)=(Value.func (.yield l.b) #[] #[]::vs.toList).toArray:=by
    apply Array.ext';simp[l,uf]
   show(callFunc f (#[]++#[Value.func (.yield (w.heap.size+1)) #[] #[]]++vs)).run P w2=_;rw[this,fy]
  ·refine callsIn_wide.2 (Calls.mono (hF.out aK l.b (aK::S) B _ Y w2 C.O (cv ρ aK l) vs.toList l (lr ..) rfl acZ (hs.xl.mono (zJ.kept.trans (Kept.eP E0))) acC) ?_);rintro e w3 ⟨v,aw,o,rfl,ho,zL,qC⟩;have zN:aw aK=some l:=qC aK List.mem_cons_self l (lr ..)
   -- the whole way from w to w3
   have eI:iw C.O w ρ (own++R []) w3 aw o:=zJ.wA.trans (zL.YH fun i=>(BC i).symm);have qE:Marks C.w0.heap.size w3 (Ot C.O aw o) (⟨.collected w.heap.size,#[]⟩::a.defers):=by
    have acW:Marks C.w0.heap.size w2 (Ot C.O (cv ρ aK l) (own++B [])) (⟨.collected w.heap.size,#[]⟩::a.defers):=by
     have zB:=zJ.wA.marks hs.marks;refine⟨fun d hd=>?_,List.pairwise_cons.2 ⟨fun d hd r hr e=>?_,zB.apart⟩⟩
     ·rcases List.mem_cons.1 hd with rfl|hd
      ·refine⟨w.heap.size,rfl,hs.tr.size,hw2,?_,?_⟩
       ·intro hb;rcases E0 _ hb with hb|hb
        ·have:=hs.tr.ok.lt _ hb;omega
        ·rcases lC.new _ hb with hb|hb
         ·have:=(hs.tr.ok.block hb).1;omega
         ·omega
       ·show((w.heap.push _).push _)[w.heap.size]?=_;simp[Array.getElem?_push]
      ·obtain⟨r,g1,g2,g3,g4,g5⟩:=zB.at_ d hd;exact⟨r,g1,g2,g3,fun hb=>g4 (E0 _ hb),g5⟩
     ·obtain⟨r',g1,_,g3,_⟩:=hs.marks.at_ d hd;subst e;cases hr;simp only[Deferred.mk.injEq,Target.collected.injEq,and_true]at g1;omega
    exact zL.marks acW
   -- what every end has in common
   have O0:∀(st:LoopState)(pe:Option Code)(Ro:aa),o=(aK,.lp st pe s ck)::Ro→st≠.busy→S.all Ro.has=true→(∀i x,Ro.get i=some x→x.okB Ro.has=true)→(∀i,(lo≤i∧i<lo+100)∨i=aK→Ro.get i=none)→
     ∃w4,(Instr.endLoop l.b).run P w3=.ok pe w4∧St F C ck Ro {a with defers:=⟨.collected w.heap.size,#[]⟩::a.defers} w4:=by
    intro st pe Ro hoe bd P7 ac1 Qs;subst hoe;have fA:aa.get ((aK,Ob.lp st pe s ck)::Ro) aK=some (.lp st pe s ck):=by simp[aa.get]
    obtain⟨l',g1,g2,Pb,VD,N0,g3,g4,g5⟩:=zL.ok.own aK _ fA rfl;rw[zN]at g1;cases g1;refine⟨_,run_endLoop g3 bd,?_⟩;have JH:∀i x,Ro.get i=some x→aa.get ((aK,.lp st pe s ck)::Ro) i=some x∧x.okB Ro.has=true:=by
     intro i x hx;refine⟨?_,ac1 i x hx⟩;rw[aa.bf,if_neg (fun e=>by rw[←e,Qs aK (.inr rfl)]at hx;cases hx)];exact hx
    have P6:∀b,b9 (cW Ro.has aw) Ro b→b9 aw ((aK,.lp st pe s ck)::Ro) b:=by
     rintro b ⟨i,x,l',k1,k2,k3,k4⟩;exact⟨i,x,l',(JH i x k1).1,k2,ql k3,k4⟩
    have BO:∀b,b9 (cW Ro.has aw) Ro b→b≠l.b:=by
     rintro b ⟨i,x,l',k1,k2,k3,k4⟩ e;have:=zL.ok.inj i aK x _ l' l (JH i x k1).1 fA k2 rfl (ql k3) zN (k4.trans e);rw[this,Qs aK (.inr rfl)]at k1;cases k1
    have Jw:=zL.ok.sub JH;have hk4:Kept w3 (Ot C.O (cW Ro.has aw) Ro) (w3.putObj l.b (.loop ⟨.exhausted,pe,Pb,VD,s.ps,s.assign,s.body,N0⟩)) (Ot C.O (cW Ro.has aw) Ro):=by
     refine⟨by simp,fun b hb xD=>⟨fun o e hs=>World.putObj_heap_other (fun e'=>?_),xD⟩⟩;rw[e',g3]at e;cases e;cases hs
    have QY:iw C.O w ρ (own++R []) (w3.putObj l.b (.loop ⟨.exhausted,pe,Pb,VD,s.ps,s.assign,s.body,N0⟩)) (cW Ro.has aw) Ro:=by
     refine⟨by simpa using eI.size,fun b hb xD=>?_,fun b hb=>eI.new b (P6 b hb),⟨fun b hb=>by simpa using zL.ok.lt b hb,Jw.fresh,fun i x k1 k2=>?_,Jw.inj⟩,eI.os⟩
     ·rw[World.putObj_heap_other (fun e=>by have:l.b=w.heap.size+1:=uf;omega)];exact eI.same b hb xD
     ·obtain⟨l',k3,k4,k5⟩:=Jw.own i x k1 k2;exact⟨l',k3,k4,k5.mono hk4 (bO.refl _) (World.putObj_heap_other (BO _ ⟨i,x,l',k1,k2,k3,rfl⟩))⟩
    refine⟨cW Ro.has aw,fun i hi l' zw=>?_,hs.tr.trans QY,fun t d hd=>?_,hs.size,?_,hs.rd,hs.yl,hs.gl⟩
    ·have Je:i∈S:=by simpa using List.all_eq_true.1 sM i hi
     have hr:cv ρ aK l i=some l':=by rw[qc (QE i Je)];exact hs.keep i hi l' zw
     have:=List.all_eq_true.1 P7 i Je;simp[cW,this,qC i (List.mem_cons_of_mem _ Je) l' hr]
    ·obtain⟨k1,k2⟩:=he.sound t d hd;refine V.mono QY.kept ?_ _ _ (V.cut d _ k2 (hs.env t d k1));intro j lj lw;unfold cW at lw;split at lw
     ·rename_i hj;have Jj:j∈S:=by simpa using hj
      have hr:cv ρ aK l j=some lj:=by rw[qc (QE j Jj)];exact lw
      have:=List.all_eq_true.1 P7 j Jj;simp[cW,this,qC j (List.mem_cons_of_mem _ Jj) lj hr]
     ·cases lw
    ·have Jq:Marks C.w0.heap.size w3 (Ot C.O (cW Ro.has aw) Ro) (⟨.collected w.heap.size,#[]⟩::a.defers):=qE.mono (Nat.le_refl _) (fun b _ xD=>⟨rfl,fun g=>xD (g.imp _root_.id (P6 b))⟩);refine⟨fun d hd=>?_,Jq.apart⟩;obtain⟨r,k1,k2,k3,k4,k5⟩:=Jq.at_ d hd;refine⟨r,k1,k2,by simpa using k3,k4,?_⟩;rw[World.putObj_heap_other (fun e=>by rw[e,g3]at k5;cases k5)];exact k5
   have QP:rangePost Fence.wide 0 P l.b (fun e a' w'=>∃aS ai,kr (pI P F cs Q) Q e aS ai∧St F C aS ai a' w') {a with defers:=⟨.collected w.heap.size,#[]⟩::a.defers} (.returned v) w3:=by
    rcases ho with⟨xs,hfx,rfl⟩|⟨j,Rx,hx,rfl⟩
    ·obtain⟨w4,k1,k2⟩:=O0 .ready none (R xs) rfl zS (hS xs) (af xs) (xx xs);exact⟨none,w4,k1,ck,R xs,(done xs hfx).out,k2⟩
    ·obtain⟨w4,k1,k2⟩:=O0 .done (some j) Rx rfl zS (IV j Rx hx) (QJ j Rx hx) (Qq j Rx hx);refine⟨some j,w4,k1,?_⟩;have bd:=stop j Rx hx;cases j with
     |ret=>exact wpIn_ret ⟨ck,Rx,bd,k2⟩
     |exit id=>exact wpIn_exit ⟨ck,Rx,bd,k2⟩
     |_=>exact bd.elim
   have ke:l.b=w.heap.size+1:=uf;rw[ke]at QP;exact QP
 exact⟨⟨YP⟩⟩
end Go.T
namespace Go.T
open Go
variable[bT]
section
variable{P:Program} {env:Env} {dst:Option Tmp} {ty:TypeId} {pos:String} {au:Array Edge} {g:Option (Nat×Bool)}
theorem Ha(b o n:Nat):(Addr.mk b o none).add n=⟨b,o+n,none⟩:=by
 unfold Addr.add;split
 ·rename_i h;subst h;rfl
 ·rfl
theorem CY{t e:TypeId}{x y:Operand}{id off n sz o2:Nat}{k:IntKind}{i:Int}(hu:P.underlying t=some (.array n e))(hs:∀w,(sizeOf e).run P w=.ok sz w)(hx:env.op x=some (.box id off))(hy:env.op y=some (.raw (.int k i)))(h0:0≤i)(hi:i.toNat<n)(ho:off+i.toNat*sz=o2)(J:aa):
  aq P ⟨dst,.indexAddr t x y,ty,pos,au,g⟩ env J (.box id o2) J:=
 .val fun O ρ a w _ hv=>by
  have h1:=hv x (by simp[Op.operands]) _ hx;have h2:=hv y (by simp[Op.operands]) _ hy;simp only[V]at h1 h2;obtain⟨l,hl,e1⟩:=h1;have bN:i<(n:Int):=by omega
  refine⟨.pointer (some ⟨l.b,o2,none⟩),?_,by simp only[V];exact⟨l,hl,rfl⟩⟩;simp[execOp,Instr.indexAt,Instr.sureAddr,asIntOf,h2,e1,cg hu,hs,h0,bN,Ha,ho]
end
theorem Fc.qP{P:Program}{f:FuncId}{args:List D}{r:D}(h:∀w O ρ vals,Gl w O→Vs w O ρ args vals→Calls P f vals.toArray w (fun e w'=>∃v,e=.returned v∧V w' O ρ r v∧gL w w')):Fc P f args r:=⟨fun w O ρ vals _ hg hv=>h w O ρ vals hg hv⟩
theorem Vs.Dh{w:World}{O:Nat→Prop}{ρ:aC}{s t:ae}{vals:List Value}(h:Vs w O ρ [.str s,.str t] vals):vals=[.string ⟨s.toArray⟩,.string ⟨t.toArray⟩]∧s.length≤aH∧t.length≤aH:=by
 simp only[Vs,V]at h;obtain⟨u,us,rfl,⟨rfl,hb⟩,u',yA,rfl,⟨rfl,rz⟩,rfl⟩:=h;exact⟨rfl,hb,rz⟩
end Go.T
namespace Go.T
open Go
variable[bT]
@[reducible] def iK(s:ae):List Value:=s.map fun b=>Value.int .u8 (b.toNat:Int)
section
variable{P:Program} {env:Env} {dst:Option Tmp} {ty:TypeId} {pos:String} {au:Array Edge} {g:Option (Nat×Bool)}
theorem VW{w:World}{O:Nat→Prop}{ρ:aC}:∀{t:ae}{us:List Value},Vs w O ρ (mW t).flatten us→us=iK t
 |[],us,h=>by simpa[mW,Vs]using h
 |c::t,us,h=>by
  simp only[mW,List.map_cons,List.flatten_cons,List.cons_append,List.nil_append,Vs,V]at h;obtain⟨u,yA,rfl,rfl,h2⟩:=h;simp only[iK,List.map_cons,List.cons.injEq,true_and];exact VW h2
theorem abr{w:World}{O:Nat→Prop}{ρ:aC}{t:ae}{dy:D}{v:Value}(I7:dy=.str t∨∃f,dy=.snap 1 f (mW t))(h:V w O ρ dy v):
  (∀w',(Builtin.lenOf v).run P w'=.ok t.length w')∧(∀w',w'.heap=w.heap→(Builtin.firstCells 1 t.length v).run P w'=.ok (iK t).toArray w'):=by
 rcases I7 with rfl|⟨f,rfl⟩
 ·simp only[V]at h;obtain⟨rfl,_⟩:=h;have aY:(⟨t.toArray⟩:ByteArray).size=t.length:=by simp[ByteArray.size]
  refine⟨fun w'=>by simp[Builtin.lenOf,aY],fun w' _=>?_⟩;have he:(⟨t.toArray⟩:ByteArray).extract 0 t.length=⟨t.toArray⟩:=by
   apply ByteArray.ext;rw[ByteArray.data_extract];simp
  simp[Builtin.firstCells,he,iK]
 ·obtain⟨h1,us,h2,h3,_,h5,_⟩:=yp (P:=P) h;have:=VW h3;subst this;refine⟨fun w'=>by simpa[mW]using h1 w',fun w' e=>?_⟩;have:=h2 w' e;simpa[mW]using this
theorem Xp(t:ae):∀u∈iK t,u.oneCell'=true:=by
 intro u hu;simp only[iK,List.mem_map]at hu;obtain⟨b,_,rfl⟩:=hu;rfl
theorem Tr.Uu{O:Nat→Prop}{w:World}{ρ:aC}{J:aa}{id bn:Nat}(af:di w O ρ J):Tr O w ρ J w ρ ((bn,.ba [])::J.set id .dead):=by
 have h1:=Tr.Gb (id:=id) (bn:=bn) (sz:=1) af;have look:∀i x,aa.get ((bn,Ob.ba [])::J.set id .dead) i=some x→x.live=true→aa.get ((bn,Ob.arr 1 [])::J.set id .dead) i=some x:=by
  intro i x h2 h3;rw[aa.bf]at h2⊢;by_cases e:bn=i
  ·simp only[if_pos e,Option.some.injEq]at h2;subst h2;simp[Ob.live]at h3
  ·rw[if_neg e]at h2⊢;exact h2
 have hO:∀b,b9 ρ ((bn,.ba [])::J.set id .dead) b→b9 ρ ((bn,.arr 1 [])::J.set id .dead) b:=by
  rintro b ⟨i,x,l,h2,h3,h4⟩;exact⟨i,x,l,look i x h2 h3,h3,h4⟩
 refine⟨h1.le,h1.size,h1.same,fun b hb=>h1.new b (hO b hb),⟨h1.ok.lt,fun i hi=>?_,fun i x h2 h3=>?_,fun i j x x' l l' a b c d=>h1.ok.inj i j x x' l l' (look i x a c) (look j x' b d) c d⟩,h1.os⟩
 ·rw[aa.bf]at hi;by_cases e:bn=i
  ·simp[e]at hi
  ·rw[if_neg e]at hi;exact h1.ok.fresh i (by rw[aa.bf,if_neg e];exact hi)
 ·obtain⟨l,g1,g2,g3⟩:=h1.ok.own i x (look i x h2 h3) h3;exact⟨l,g1,g2,g3.eP (Kept.eP fun b hb=>hb.imp _root_.id (hO b))⟩
theorem Lk{st xt:TypeId}{xd:TypeDesc}{ti:TypeInfo}{n id:Nat}{x y:Operand}{s t:ae}{dy:D}{J:aa}(bn:Nat)(hu:P.underlying st=some (.slice n_))(k9:P.underlying xt=some xd)(JO:∀k,xd≠.int k)(hs:∀w,(sizeOf n_).run P w=.ok 1 w)
  (lB:∀w,(typeInfo n_).run P w=.ok ti w)(pR:ti.bytes=1)(hz:∀w,(zeroValue n_).run P w=.ok (.int .u8 0) w)(hx:env.op x=some (.gs id n))(ho:J.get id=some (.ba s))(hn:s.length=n)(hy:env.op y=some dy)(I7:dy=.str t∨∃f,dy=.snap 1 f (mW t))(hid:J.get bn=none)
  (qy:n+t.length≤140737488355328):
  aq P ⟨dst,.call ⟨.builtin .append,#[x,y],#[st,xt]⟩,ty,pos,au,g⟩ env J (.gs bn (n+t.length)) ((bn,.ba (s++t))::J.set id .dead):=
 .step fun O ρ a w af hv=>by
  have cp:=hv x (by simp[Op.operands,Call.operands]) _ hx;have eD:=hv y (by simp[Op.operands,Call.operands]) _ hy;have gw:∀v w',(Builtin.append_ #[st,xt] ty #[a.eval x,a.eval y]).run P w=.ok v w'→(execOp a.eval ⟨dst,.call ⟨.builtin .append,#[x,y],#[st,xt]⟩,ty,pos,au,g⟩).run P w=.ok (.value v) w':=by
   intro v w' h;simp[execOp,resolve,invoke,builtin,h]
  obtain⟨hlen,nq⟩:=abr (P:=P) I7 eD;have k6:(iK t).length=t.length:=by simp[iK]
  -- the bytes in a new block
  have grow:∀(ez:Option Addr)(cap:Nat),a.eval x=.slice ez n cap→(∀w',w'.heap=w.heap→(Builtin.firstCells 1 n (.slice ez n cap)).run P w'=.ok (iK s).toArray w')→¬n+t.length≤cap→
    ∃v w' aw,((execOp a.eval ⟨dst,.call ⟨.builtin .append,#[x,y],#[st,xt]⟩,ty,pos,au,g⟩).run P w=.ok (.value v) w'∨((execOp a.eval ⟨dst,.call ⟨.builtin .append,#[x,y],#[st,xt]⟩,ty,pos,au,g⟩).run P w=.ok .skip w'∧v=undef))∧Tr O w ρ J w' aw ((bn,.ba (s++t))::J.set id .dead)∧V w' (Ot O aw ((bn,.ba (s++t))::J.set id .dead)) aw (.gs bn (n+t.length)) v:=by
   intro ez cap e1 mz hc;obtain⟨nc,BN,acX,h2⟩:∃nc,n+t.length≤nc∧nc≤9223372036854775807∧(Builtin.append_ #[st,xt] ty #[.slice ez n cap,a.eval y]).run P w=.ok (.slice (some ⟨w.heap.size,0,none⟩) (n+t.length) nc) {w with drawn:=w.drawn+1,heap:=w.heap.push (.cells ((iK s).toArray++(iK t).toArray++Builtin.zeroCells (Value.int .u8 0).cells (nc-(n+t.length))) n_ (0,0))}:=by
    have h1:=nextslicecap_le (n+t.length) cap zO;have h2:¬Builtin.nextslicecap (n+t.length) cap*ti.bytes>281474976710656:=by rw[pR];omega
    refine⟨(n+t.length)+(w.tape w.drawn (.appendCap (n+t.length) cap n_))%(2^63-(n+t.length)),by omega,by have:=Nat.mod_lt (w.tape w.drawn (.appendCap (n+t.length) cap n_)) (show 0<2^63-(n+t.length) by omega);omega,?_⟩;have E3:=hlen w;have Jb:=nq w.drew rfl;have hf2:=mz w.drew rfl;have sE:ti.bytes≠0:=by omega
    simp[Builtin.append_,cg hu,hs,cg k9,E3,hc,lB,sE,h2,Question.forced,Question.cut,hf2,Jb,hz,newRow];simp only[World.alloc,World.drew];have h9:∀zs:Array Value,(iK s).toArray++((iK t).toArray++zs)=(iK s++iK t).toArray++zs:=fun zs=>by apply Array.ext';simp
    rw[h9]
   rw[←e1]at h2;have BR:di {w with drawn:=w.drawn+1} O ρ J:=(Tr.drawn af (w.drawn+1) (Nat.le_succ _)).ok;have bm:=Tr.drawn af (w.drawn+1) (Nat.le_succ _);refine⟨_,_,T.cv ρ bn ⟨w.heap.size,0,nc⟩,.inl (gw _ _ h2),bm.trans (Tr.born (w:={w with drawn:=w.drawn+1}) BR hid _ rfl sj D4 ?_),?_⟩
   ·intro hk;refine⟨(iK s).toArray++(iK t).toArray++Builtin.zeroCells (Value.int .u8 0).cells (nc-(n+t.length)),by simp,rfl,?_,?_,acX,?_⟩
    ·simp[Mj,Value.cells,iK,hn];omega
    ·simp[hn];exact BN
    ·rw[Array.toList_append,Array.toList_append,List.take_append_of_le_length (by simp[iK])];rw[List.take_of_length_le (by simp[iK])];simp[iK]
   ·simp only[V];exact .inr ⟨by omega,_,lr ..,rfl⟩
  by_cases gb:n=0
  ·subst gb;obtain rfl:s=[]:=List.length_eq_zero_iff.1 hn;have he:∃ad,a.eval x=.slice ad 0 0:=by
    simp only[V]at cp;rcases cp with⟨_,ad,e⟩|⟨h,_⟩
    ·exact⟨ad,e⟩
    ·exact absurd rfl h
   obtain⟨ad,e1⟩:=he;by_cases hm:t=[]
   ·subst hm;refine⟨.slice ad 0 0,w,ρ,.inl (gw _ _ ?_),by simpa using Tr.Uu (id:=id) (bn:=bn) af,by simp[V]⟩;have h1:=nq w rfl;rw[e1];cases ad with
    |none=>simp[Builtin.append_,cg hu,hs,cg k9,hlen w]at h1⊢;simp[h1]
    |some ad=>simp[Builtin.append_,cg hu,hs,cg k9,hlen w]at h1⊢;simp[h1,storeCells]
   ·refine grow ad 0 e1 ?_ ?_
    ·intro w' _;cases ad with
     |none=>simp[Builtin.firstCells]
     |some ad=>simp[Builtin.firstCells,loadCells,loadCellsFrom]
    ·have:t.length≠0:=fun h=>hm (List.length_eq_zero_iff.1 h);omega
  ·have dT:(Ob.ba s).live=true:=by
    cases s with
    |nil=>simp at hn;exact absurd hn.symm gb
    |cons r rs=>rfl
   obtain⟨l,h3,hOl,c,h4,h5,h6,h7,h8,h9⟩:=af.own id _ ho dT;have e1:a.eval x=.slice (some ⟨l.b,0,none⟩) n l.cap:=by
    simp only[V]at cp;rcases cp with⟨h,_⟩|⟨_,l',h8,e⟩
    ·exact absurd h gb
    ·rw[h3]at h8;cases h8;rw[e,h5]
   rw[hn]at h7 h9;have acD:∀w',w'.heap=w.heap→(Builtin.firstCells 1 n (.slice (some ⟨l.b,0,none⟩) n l.cap)).run P w'=.ok (iK s).toArray w':=by
    intro w' hw;have:=Gd (P:=P) (w:=w') (b:=l.b) (c:=c) (T:=n_) (by rw[hw];exact h4) n 0 0 #[] zO;simp only[Builtin.firstCells,loadCells,Nat.mul_one];rw[this];simp[h9]
   by_cases hc:n+t.length≤l.cap
   ·have bd:=uO (P:=P) (b:=l.b) (T:=n_) (iK t) w c (0+n*1) 0 h4 (by rw[k6];omega) (Xp t);have JF:=run_append_room (T:=ty) (a:=⟨l.b,0,none⟩) (w:=w) hu hs k9 JO (hlen w) (nq w rfl) hc (by rw[addr_add];exact bd);have bm:=Tr.cv (o':=.ba (s++t)) af ho dT h3 (.cells (setMany c (0+n*1+0) (iK t)) n_ (0,0)) ?_
    ·have Jo:(Ob.ba (s++t)).live=true:=by
      cases s with
      |nil=>simp at hn;exact absurd hn.symm gb
      |cons r rs=>rfl
     have Jf:(J.set id (.ba (s++t))).get bn=none:=by
      rw[aa.eG];by_cases e:id=bn
      ·subst e;rw[ho]at hid;cases hid
      ·rw[if_neg e];exact hid
     have lC:=Tr.rename (id:=id) (bn:=bn) bm.ok (by rw[aa.eG];simp) Jo Jf h3;rw[aa.set_set]at lC;refine⟨_,_,Go.T.cv ρ bn l,.inl (gw _ _ (by rw[e1];exact JF)),bm.trans lC,?_⟩;simp only[V];exact .inr ⟨by omega,l,lr ..,by rw[h5]⟩
    ·intro hk;refine⟨_,by simp[(Array.getElem?_eq_some_iff.1 h4).1];rfl,h5,by rw[C_];exact h6,by simp[hn];exact hc,h8,?_⟩;rw[C' _ _ _ (by rw[k6];omega)];rw[h9,List.length_append,hn];rw[List.take_append_of_le_length (by simp[iK,hn])];rw[List.take_of_length_le (by simp[iK,hn])];simp[iK]
   ·exact grow (some ⟨l.b,0,none⟩) l.cap e1 acD hc
end
end Go.T
namespace Go.T
open Go
variable[bT]
theorem Tr.ahk{O:Nat→Prop}{w:World}{ρ:aC}{J:aa}(id:Nat)(af:di w O ρ J):Tr O w ρ J w ρ ((id,.ba [])::J):=by
 have look:∀i x,aa.get ((id,Ob.ba [])::J) i=some x→x.live=true→J.get i=some x:=by
  intro i x h1 h2;rw[aa.bf]at h1;by_cases e:id=i
  ·simp only[if_pos e,Option.some.injEq]at h1;subst h1;simp[Ob.live]at h2
  ·rw[if_neg e]at h1;exact h1
 have mu:∀b,b9 ρ ((id,.ba [])::J) b→b9 ρ J b:=by
  rintro b ⟨i,x,l,h1,h2,h3⟩;exact⟨i,x,l,look i x h1 h2,h2,h3⟩
 have hk:Kept w (Ot O ρ J) w (Ot O ρ ((id,.ba [])::J)):=Kept.eP fun b=>Or.imp _root_.id (mu b);refine⟨bO.refl _,Nat.le_refl _,fun _ _ _=>rfl,fun b hb=>.inl (mu b hb),⟨af.lt,?_,?_,?_⟩,rfl,rfl,iU.eq rfl rfl⟩
 ·intro i hi;rw[aa.bf]at hi;by_cases e:id=i
  ·simp[e]at hi
  ·rw[if_neg e]at hi;exact af.fresh i hi
 ·intro i x h1 h2;obtain⟨l,h3,h4,h5⟩:=af.own i x (look i x h1 h2) h2;exact⟨l,h3,h4,h5.mono hk (bO.refl _) rfl⟩
 ·intro i j x x' l1 l2 h1 h2 h3 h4;exact af.inj i j x x' l1 l2 (look i x h1 h3) (look j x' h2 h4) h3 h4
section
variable{P:Program} {env:Env} {dst:Option Tmp} {ty:TypeId} {pos:String} {au:Array Edge} {g:Option (Nat×Bool)}
theorem ah_{J:aa}(id j:Nat)(hz:∀w,(zeroValue pK).run P w=.ok (.agg #[.pointer none,.slice none 0 0]) w)(hid:J.get id=none):aq P ⟨dst,.alloc pK,ty,pos,au,g⟩ env J (.box id 0) ((j,.ba [])::(id,.fu j 0)::J):=
 .step fun O ρ a w af hv=>by
  have gw:(Instr.alloc pK true (.tuple #[])).run P w=.ok (.pointer (some ⟨w.heap.size,0,none⟩)) {w with heap:=w.heap.push (.cells #[.pointer none,.slice none 0 0] pK (0,0))}:=by
   simp[Instr.alloc,newVar,newRow,hz,Value.cells,run_newObj_alloc]
  have bm:Tr O w ρ J {w with heap:=w.heap.push (.cells #[.pointer none,.slice none 0 0] pK (0,0))} (cv ρ id ⟨w.heap.size,0,0⟩) ((id,.fu j 0)::J):=
   Tr.born af hid _ rfl (fun i x h _=>h) (fun i h=>h) (fun _=>⟨.pointer none,.slice none 0 0,by simp,.inl rfl,.inl ⟨rfl,none,rfl⟩⟩)
  have lC:=Tr.ahk j bm.ok;refine⟨_,_,_,.inl (by simp[execOp,gw];rfl),bm.trans lC,?_⟩;simp only[V];exact⟨_,lr ..,rfl⟩
theorem Lr{t e:TypeId}{x:Operand}{id j n:Nat}{s:ae}{J:aa}(ht:∀w,(isAgg t).run P w=.ok false w)(hx:env.op x=some (.box id 1))(ho:J.get id=some (.fu j n))(hj:J.get j=some (.ba s))(hn:s.length=n):aq P ⟨dst,.load t x,ty,pos,au,g⟩ env J (.gs j n) J:=
 .val fun O ρ a w af hv=>by
  have h1:=hv x (by simp[Op.operands]) _ hx;simp only[V]at h1;obtain⟨l,h2,e⟩:=h1;obtain⟨l',h3,_,p,v,h4,h5,h6⟩:=af.own id _ ho rfl;rw[h2]at h3;cases h3;have hc:w.cell? ⟨l.b,1,none⟩=some v:=by simp[World.cell?,h4]
  refine⟨v,by simp[execOp,Instr.loadAt,Instr.sureAddr,e,loadVar,ht,hc],?_⟩;simp only[V];rcases h6 with h6|⟨h6,lj,h7,h8⟩
  ·exact .inl h6
  ·refine .inr ⟨h6,lj,h7,?_⟩;have dT:(Ob.ba s).live=true:=by
    cases s with
    |nil=>simp at hn;exact absurd hn.symm h6
    |cons r rs=>rfl
   obtain⟨RY,h9,_,c,_,gE,_⟩:=af.own j _ hj dT;rw[h7]at h9;cases h9;rw[h8,gE]
theorem Ly{t:TypeId}{x y:Operand}{id j n j' n':Nat}{s:ae}{J:aa}(hs:∀w,(sizeOf t).run P w=.ok 1 w)(hx:env.op x=some (.box id 1))(hy:env.op y=some (.gs j' n'))(ho:J.get id=some (.fu j n))(hj:J.get j'=some (.ba s))(hn:s.length=n'):
  aq P ⟨dst,.store t x y,ty,pos,au,g⟩ env J (.raw undef) (J.set id (.fu j' n')):=
 .step fun O ρ a w af hv=>by
  have h1:=hv x (by simp[Op.operands]) _ hx;have k8:=hv y (by simp[Op.operands]) _ hy;simp only[V]at h1;obtain⟨l,h2,e⟩:=h1;obtain⟨l',h3,hO,p,v,h4,h5,h6⟩:=af.own id _ ho rfl;rw[h2]at h3;cases h3;have h7:=uO (P:=P) [a.eval y] w #[p,v] 1 0 h4 zS (by simpa using k8.one rfl);have h8:(a.eval y).cells=#[a.eval y]:=cells_one (k8.one rfl);refine⟨undef,_,ρ,.inr ⟨?_,rfl⟩,Tr.cv (o':=.fu j' n') af ho rfl h2 (.cells (setMany #[p,v] (1+0) [a.eval y]) pK (0,0)) ?_,by simp[V]⟩
  ·simp[execOp,Instr.storeAt,Instr.sureAddr,e,storeVar,h8,hs,h7]
  ·intro hk;have rF:setMany #[p,v] (1+0) [a.eval y]=#[p,a.eval y]:=by simp[setMany]
   refine⟨p,a.eval y,by rw[rF];simp[(Array.getElem?_eq_some_iff.1 h4).1],h5,?_⟩;simp only[V]at k8;rcases k8 with h9|⟨h9,lj,gE,f_⟩
   ·exact .inl h9
   ·refine .inr ⟨h9,lj,gE,?_⟩;have dT:(Ob.ba s).live=true:=by
     cases s with
     |nil=>simp at hn;exact absurd hn.symm h9
     |cons r rs=>rfl
    obtain⟨RY,ja,_,c,_,kW,_⟩:=af.own j' _ hj dT;rw[gE]at ja;cases ja;rw[f_,kW]
end
theorem Le.LA{F:Fr}{env:Env}{J:aa}{n:Nat}{s:ae}(id j j':Nat)(ho:J.get id=some (.fu j n))(hj:J.get j=some (.ba s))(hn:s.length=n)(hid:J.get j'=none):
  Le F env J env (aa.set ((j',.ba s)::J.set j .dead) id (.fu j' n)):=.step fun O ρ w f af hv=>by
 have acP:id≠j:=by rintro rfl;rw[ho]at hj;cases hj
 have acQ:id≠j':=by rintro rfl;rw[ho]at hid;cases hid
 have hjj:j≠j':=by rintro rfl;rw[hj]at hid;cases hid
 have Vg:∀(aw:aC),Tr O w ρ J w aw ((j',.ba s)::J.set j .dead)→(n≠0→∀lj,ρ j=some lj→aw j'=some lj)→∃aw,Tr O w ρ J w aw (aa.set ((j',.ba s)::J.set j .dead) id (.fu j' n))∧∀t d,env.get t=some d→V w (Ot O aw (aa.set ((j',.ba s)::J.set j .dead) id (.fu j' n))) aw d (f t):=by
  intro aw bm lw;have hg:aa.get ((j',Ob.ba s)::J.set j .dead) id=some (.fu j n):=by
   rw[aa.bf,if_neg (Ne.symm acQ),aa.eG,if_neg (Ne.symm acP)];exact ho
  obtain⟨l,h3,h4,p,v,h5,h6,h7⟩:=bm.ok.own id _ hg rfl;have ada:{w with heap:=w.heap.setIfInBounds l.b (.cells #[p,v] pK (0,0))}=w:=by
   have:w.heap.setIfInBounds l.b (.cells #[p,v] pK (0,0))=w.heap:=by
    apply Array.ext zS;intro i h1 h2;rw[Array.getElem_setIfInBounds];split
    ·rename_i e;subst e;exact(Option.some.inj ((Array.getElem?_eq_getElem h2).symm.trans h5)).symm
    ·rfl
   rw[this]
  have lC:=Tr.cv (o':=.fu j' n) bm.ok hg rfl h3 (.cells #[p,v] pK (0,0)) (fun hk=>⟨p,v,by simp[(Array.getElem?_eq_some_iff.1 h5).1],h6,?_⟩)
  ·rw[ada]at lC;have h:=bm.trans lC;exact⟨aw,h,fun t d hd=>h.V (hv t d hd)⟩
  ·rcases h7 with h7|⟨h7,lj,h8,h9⟩
   ·exact .inl h7
   ·have dT:(Ob.ba s).live=true:=by
     cases s with
     |nil=>simp at hn;exact absurd hn.symm h7
     |cons r rs=>rfl
    obtain⟨Ka,g1,_⟩:=af.own j _ hj dT;have:=bm.le j Ka g1;rw[this]at h8;have e:=Option.some.inj h8;exact .inr ⟨h7,Ka,lw h7 Ka g1,by rw[e];exact h9⟩
 cases s with
 |nil=>
  simp at hn;exact Vg ρ (Tr.Uu (id:=j) (bn:=j') af) (fun h=>absurd hn.symm h)
 |cons c r=>
  obtain⟨l,h3,_⟩:=af.own j _ hj rfl;exact Vg _ (Tr.rename (id:=j) (bn:=j') af hj rfl hid h3) (fun _ lj lw=>by rw[h3]at lw;cases lw;exact lr ..)
end Go.T
namespace Go.T
open Go
variable[bT]
section
variable{P:Program} {env:Env} {dst:Option Tmp} {ty:TypeId} {pos:String} {au:Array Edge} {g:Option (Nat×Bool)}
theorem afA{z:Value}(hz:z.cells=#[z])(n k:Nat):madeCells z.cells (n+k)=(List.replicate n z).toArray++(List.replicate k z).toArray:=by
 rw[hz];apply Array.ext
 ·simp[madeCells]
 ·intro i h1 h2;simp only[madeCells,Array.getElem_map,Array.getElem_range];have:i%(#[z]:Array Value).size=0:=by simp[Nat.mod_one]
  rw[this];simp only[Array.size_append,List.size_toArray,List.length_replicate]at h2;by_cases h:i<n
  ·rw[Array.getElem_append_left (by simpa using h)];simp
  ·rw[Array.getElem_append_right zQ];simp
theorem UK{t e:TypeId}{ti:TypeInfo}{z:Value}{n m:Nat}(hu:P.underlying t=some (.slice e))(hs:∀w,(sizeOf e).run P w=.ok 1 w)(lB:∀w,(typeInfo e).run P w=.ok ti w)(hz:∀w,(zeroValue e).run P w=.ok z w)
  (Ju:n≤m)(h0:m≠0)(hb:ti.bytes*m≤281474976710656)(P2:m≤9223372036854775807)(w:World):
  (Instr.makeSlice t (.int .i64 n) (.int .i64 m)).run P w=.ok (.slice (some ⟨w.heap.size,0,none⟩) n m) (w.alloc (.cells (madeCells z.cells m) e)):=by
 have wl:IntKind.i64.wrap (n:Int)=n:=by rw[IntKind.wrap_i64];omega
 have wc:IntKind.i64.wrap (m:Int)=m:=by rw[IntKind.wrap_i64];omega
 have n1:¬(m:Int)<0:=by omega
 have n2:¬(281474976710656<(ti.bytes:Int)*(m:Int)):=by rw[←Int.natCast_mul];omega
 have n3:¬(n:Int)<0:=by omega
 have n4:¬(m:Int)<n:=by omega
 simp[Instr.makeSlice,run_underlying hu,asInt,asIntOf,lB,hs,hz,wl,wc,n1,n2,n3,n4,h0,newRow,madeCells]
theorem AD{t e:TypeId}{ti:TypeInfo}{z:Value}{x y:Operand}{m bt:Nat}{nx ny:Int}{J:aa}(id n:Nat)(hu:P.underlying t=some (.slice e))(hs:∀w,(sizeOf e).run P w=.ok 1 w)(lB:∀w,(typeInfo e).run P w=.ok ti w)(hz:∀w,(zeroValue e).run P w=.ok z w)
  (JS:z.cells=#[z])(rI:z.oneCell'=true)(pR:ti.bytes=bt)(hx:env.op x=some (.raw (.int .i64 nx)))(hy:env.op y=some (.raw (.int .i64 ny)))(BP:nx=(n:Int))(BQ:ny=(m:Int))(Ju:n≤m)(gb:n≠0)(hb:bt*m≤281474976710656)(P2:m≤1000000000000)(hid:J.get id=none):
  aq P ⟨dst,.makeSlice t x y,ty,pos,au,g⟩ env J (.gs id n) ((id,.arr 1 (List.replicate n [.raw z]))::J):=
 .step fun O ρ a w af hv=>by
  have cp:=hv x (by simp[Op.operands]) _ hx;have eD:=hv y (by simp[Op.operands]) _ hy;simp only[V]at cp eD;subst BP;subst BQ;have hr:=UK (n:=n) (m:=m) hu hs lB hz Ju zO (by rw[pR];exact hb) zO w;obtain⟨k,rfl⟩:=Nat.exists_eq_add_of_le Ju;rw[afA JS]at hr;refine⟨.slice (some ⟨w.heap.size,0,none⟩) n (n+k),_,T.cv ρ id ⟨w.heap.size,0,n+k⟩,.inl ?_,Tr.born af hid (.cells ((List.replicate n z).toArray++(List.replicate k z).toArray) e) rfl (fun i x h _=>h) (fun i h=>h) ?_,?_⟩
  ·simp only[execOp,cp,eD];rw[Sem.run_bind,hr];rfl
  ·intro hk;refine iV.grown (w:=w) (T:=e) (O:=Ot O ρ J) (vs:=List.replicate n z) (zs:=(List.replicate k z).toArray) zS zS zS zS (by simp[aH];omega) (by intro r hr;rw[List.eq_of_mem_replicate hr];rfl) ?_ ?_ hk
   ·have:∀n,Vs w (Ot O ρ J) dX (List.replicate n [D.raw z]).flatten (List.replicate n z):=by
     intro n;induction n with
     |zero=>simp[Vs]
     |succ n ih=>rw[List.replicate_succ,List.replicate_succ];exact⟨_,_,rfl,by simp[V],ih⟩
    exact this n
   ·intro v j0;rw[List.eq_of_mem_replicate j0];exact rI
  ·simp only[V];exact .inr ⟨gb,⟨w.heap.size,0,n+k⟩,by simp[T.cv],rfl⟩
theorem aiw{t e:TypeId}{ti:TypeInfo}{z:Value}{x y:Operand}{m bt:Nat}{nx ny:Int}(hu:P.underlying t=some (.slice e))(hs:∀w,(sizeOf e).run P w=.ok 1 w)(lB:∀w,(typeInfo e).run P w=.ok ti w)(hz:∀w,(zeroValue e).run P w=.ok z w)
  (pR:ti.bytes=bt)(hx:env.op x=some (.raw (.int .i64 nx)))(hy:env.op y=some (.raw (.int .i64 ny)))(BP:nx=0)(BQ:ny=(m:Int))(h0:m≠0)(hb:bt*m≤281474976710656)(P2:m≤1000000000000)(J:aa):
  aq P ⟨dst,.makeSlice t x y,ty,pos,au,g⟩ env J (.snap 1 false []) J:=
 .step fun O ρ a w af hv=>by
  have cp:=hv x (by simp[Op.operands]) _ hx;have eD:=hv y (by simp[Op.operands]) _ hy;simp only[V]at cp eD;subst BP;subst BQ;have hr:=UK (n:=0) (m:=m) hu hs lB hz zO h0 (by rw[pR];exact hb) zO w;refine⟨.slice (some ⟨w.heap.size,0,none⟩) 0 m,w.alloc (.cells (madeCells z.cells m) e),ρ,.inl ?_,Tr.qQ ⟨by simp,fun b hb=>by show(w.heap.push _)[b]?=_;rw[Array.getElem?_push,if_neg (Nat.ne_of_lt hb)],rfl,rfl,iU.eq rfl rfl⟩ af,?_⟩
  ·simp only[execOp,cp,eD];rw[Sem.run_bind];have pg:(Instr.makeSlice t (.int .i64 0) (.int .i64 (m:Int))).run P w=.ok (.slice (some ⟨w.heap.size,0,none⟩) 0 m) (w.alloc (.cells (madeCells z.cells m) e)):=hr;rw[pg];rfl
  ·simp[V,aH]
theorem Ub{t e xt:TypeId}{x y:Operand}{id n:Nat}{ia:Bool}{rows new:List (List D)}{J:aa}(hu:P.underlying t=some (.slice e))(hs:∀w,(sizeOf e).run P w=.ok 1 w)
  (hx:env.op x=some (.gs id n))(hy:env.op y=some (.snap 1 ia new))(ho:J.get id=some (.arr 1 rows))(hn:rows.length=n)(hm:new.length=n)(gb:n≠0):
  aq P ⟨dst,.call ⟨.builtin .copy,#[x,y],#[t,xt]⟩,ty,pos,au,g⟩ env J (.raw (.int .i64 n)) (J.set id (.arr 1 new)):=
 .step fun O ρ a w af hv=>by
  have cp:=hv x (by simp[Op.operands,Call.operands]) _ hx;have eD:=hv y (by simp[Op.operands,Call.operands]) _ hy;obtain⟨hlen,us,nq,ot,sL,k6,gO⟩:=yp (P:=P) eD;simp only[V]at cp;rcases cp with⟨e0,_⟩|⟨_,l,h2,e1⟩
  ·exact absurd e0 gb
  have dT:(Ob.arr 1 rows).live=true:=by
   cases rows with
   |nil=>exact absurd hn.symm gb
   |cons=>rfl
  obtain⟨l',h3,_,c,T,h4,hc,E5,h5⟩:=af.own id _ ho dT;rw[h2]at h3;cases h3;have aqr:us.length=n:=by rw[k6,hm,Nat.mul_one]
  have h6:=uO (P:=P) us w c l.off 0 h4 zO sL;rw[hm]at hlen nq;refine⟨.int .i64 n,_,ρ,.inl ?_,Tr.cv (o':=.arr 1 new) af ho dT h2 (.cells (setMany c (l.off+0) us) T (0,0)) ?_,by simp[V]⟩
  ·simp[execOp,resolve,invoke,builtin,Builtin.copy_,run_underlying hu,e1,hlen,hs,nq w rfl,h6,goInt,Nat.min_self]
  ·intro hk;refine⟨setMany c l.off us,T,by simp[(Array.getElem?_eq_some_iff.1 h4).1],by rw[C_];exact hc,by rw[hm,←hn];exact E5,?_⟩;have dN:new.flatten.length=us.length:=ot.length.symm;have vI:((setMany c l.off us).toList.drop l.off).take new.flatten.length=us:=by
    rw[dN,C' us c l.off zO,List.append_assoc,List.drop_append_of_le_length zQ,List.drop_of_length_le zQ];simp
   refine Vr.ta (c:=setMany c l.off us) (T:=T) (fr:=(0,0)) (by simp[(Array.getElem?_eq_some_iff.1 h4).1]) new l.off gO ?_ ?_
   ·rw[vI];exact Vs.mono hk (bO.refl _) _ _ ot
   ·rw[vI];exact sL
theorem aih{t e xt:TypeId}{x y:Operand}{ia It:Bool}{sz:Nat}(hu:P.underlying t=some (.slice e))(hs:∀w,(sizeOf e).run P w=.ok sz w)
  (hx:env.op x=some (.snap sz ia []))(hy:env.op y=some (.snap sz It []))(J:aa):
  aq P ⟨dst,.call ⟨.builtin .copy,#[x,y],#[t,xt]⟩,ty,pos,au,g⟩ env J (.raw (.int .i64 0)) J:=
 .step fun O ρ a w af hv=>by
  have cp:=hv x (by simp[Op.operands,Call.operands]) _ hx;have eD:=hv y (by simp[Op.operands,Call.operands]) _ hy;obtain⟨hlen,us,nq,ot,sL,k6,gO⟩:=yp (P:=P) eD;simp only[V]at cp;obtain⟨b,cap,e1,_⟩:=cp;have B0:us=[]:=List.length_eq_zero_iff.1 (by simpa using k6);subst B0;have hf:=nq w rfl;simp only[List.length_nil]at hlen hf e1;refine⟨.int .i64 0,w,ρ,.inl ?_,Tr.refl af,by simp[V]⟩;cases b with
  |none=>simp[execOp,resolve,invoke,builtin,Builtin.copy_,run_underlying hu,e1,hlen,hs,hf,goInt]
  |some b=>simp[execOp,resolve,invoke,builtin,Builtin.copy_,run_underlying hu,e1,hlen,hs,hf,goInt,storeCells]
theorem ajm{t e:TypeId}{op:BinOp}(hu:P.underlying t=some (.slice e))(b:Option Addr)(n m:Nat)(w:World):(Op.equal t (.slice b n m) (.slice none 0 0)).run P w=.ok b.isNone w:=by
 show(Op.equalIn (9999+1) t (.slice b n m) (.slice none 0 0)).run P w=_;rw[Op.equalIn];cases b<;>simp[cg hu]
theorem Uc{t t' e:TypeId}{x y:Operand}{sz:Nat}{ia:Bool}{rows:List (List D)}(hu:P.underlying t=some (.slice e))(hx:env.op x=some (.snap sz ia rows))(hy:env.op y=some (.raw (.slice none 0 0)))(J:aa):
  tD P ⟨dst,.binOp .eql t x y t',ty,pos,au,g⟩ env J (fun b:Bool=>rows≠[]→b=false) (fun b=>.raw (.bool b)) (fun _=>J):=by
 intro O ρ a w af dH hv;have cp:=hv x (by simp[Op.operands]) _ hx;have eD:=hv y (by simp[Op.operands]) _ hy;simp only[V]at cp eD;obtain⟨b,cap,e1,_,_,h3⟩:=cp;have hr:(execOp a.eval ⟨dst,.binOp .eql t x y t',ty,pos,au,g⟩).run P w=.ok (.value (.bool b.isNone)) w:=by
  simp[execOp,e1,eD,eqGuard,binOp,ajm (op:=.eql) hu]
 unfold Oper.wp;rw[hr];refine⟨b.isNone,ρ,_,?_,rfl,Tr.refl af,by simp[V]⟩;intro aG;obtain⟨b',off,rfl,_⟩:=h3 aG;rfl
theorem ail{t t' e:TypeId}{x y:Operand}{sz:Nat}{ia:Bool}{rows:List (List D)}(hu:P.underlying t=some (.slice e))(hx:env.op x=some (.snap sz ia rows))(hy:env.op y=some (.raw (.slice none 0 0)))(aG:rows≠[])(J:aa):
  aq P ⟨dst,.binOp .eql t x y t',ty,pos,au,g⟩ env J (.raw (.bool false)) J:=by
 intro O ρ a w af dH hv;refine Oper.wp_mono ?_ (Uc hu hx hy J O ρ a w af dH hv);rintro a' w' ⟨i,aw,v,hA,h⟩;cases hA aG;exact⟨aw,v,h⟩
end
end Go.T
namespace Go.T
open Go
variable[bT]
def abS(b:Bool):List (List D):=match b with
 |true=>[]
 |false=>[[.box 0 0]]
@[reducible] def ghost(b:Bool):Ob:=.arr 1 (abS b)
def Pm(lo aK:Nat)(o:aa):Bool:=o.all fun p=>!(Nat.ble lo p.1&&Nat.blt p.1 (lo+100))&&!(Nat.beq p.1 aK)
theorem Pn{lo aK:Nat}:∀{o:aa},Pm lo aK o=true→∀i,(lo≤i∧i<lo+100)∨i=aK→o.get i=none
 |[],_,i,_=>rfl
 |(t,d)::r,h,i,hi=>by
  simp only[Pm,List.all_cons,Bool.and_eq_true]at h;rw[aa.bf,if_neg,Pn (o:=r) h.2 i hi];rintro rfl;obtain⟨⟨h1,h2⟩,_⟩:=h;rcases hi with⟨a,b⟩|rfl
  ·have e1:Nat.ble lo t=true:=by rw[Nat.ble_eq];exact a
   have e2:Nat.blt t (lo+100)=true:=by rw[Nat.blt_eq];exact b
   simp[e1,e2]at h1
  ·simp at h2
end Go.T
namespace Go.T
open Go
variable[bT]
structure j7(P:Program)(F:Fr)(ops:Array Oper)(K:Env→aa→Prop)(eF:Nat)(listed:Array Bool)(env:Env)(J:aa):Prop where
 out:∀(C:Ctx)(Q:Exit→Act→World→Prop),(∀a w aS ai,K aS ai→St F C aS ai a w→Q .normal a w)→∀a w,St F C env J a w→wpAnyIn (fz C.ro) 0 P .any ops Q eF listed a w
section
variable{P:Program} {F:Fr} {ops:Array Oper} {K:Env→aa→Prop} {eF:Nat} {listed:Array Bool} {env:Env} {J:aa}
theorem j7.nil(hr:Region.ready .any ops listed=[])(h:K env J):j7 P F ops K 0 listed env J:=⟨fun _ _ hQ a w hs=>⟨hr,hQ a w env J h hs⟩⟩
structure Dy(P:Program)(F:Fr)(ops:Array Oper)(K:Env→aa→Prop)(eF:Nat)(listed:Array Bool)(env:Env)(J:aa)(i:Nat):Prop where
 out:∃o d ai,ops[i]?=some o∧eQ F.N o.dst=true∧On ops env o∧aq P o env J d ai∧j7 P F ops K eF (listed.setIfInBounds i true) (env.put o.dst d) ai
theorem Dy.mk'{i:Nat}{o:Oper}{d:D}{ai:aa}(ho:ops[i]?=some o)(hd:eQ F.N o.dst=true)(hg:On ops env o)(hq:aq P o env J d ai)(k:j7 P F ops K eF (listed.setIfInBounds i true) (env.put o.dst d) ai):Dy P F ops K eF listed env J i:=⟨o,d,ai,ho,hd,hg,hq,k⟩
theorem j7.step{l:List Nat}(hr:Region.ready .any ops listed=l)(hn:l≠[])(h:∀i∈l,Dy P F ops K eF listed env J i):j7 P F ops K (eF+1) listed env J:=⟨fun C Q hQ a w hs=>by
 refine⟨fun e=>absurd (hr▸e) hn,fun i hi=>?_⟩;rw[hr]at hi;obtain⟨o,d,ai,ho,hd,hg,hq,k⟩:=(h i hi).out;obtain⟨ρ,bd⟩:=hs;unfold wpOpIn;simp only[ho];rw[if_pos (Ds hg fun g b t _ _ d hd=>bd.env t d hd)];have:=hq C.O ρ a w bd.tr.ok bd.xl (fun x _ d' h=>uG bd.env x d' h);refine Oper.wpIn_mono ?_ (yC C.ro this (by rintro a' w' ⟨aw,v,rfl,_⟩;exact Act.mI ..));rintro a' w' ⟨aw,v,rfl,kZ,hv⟩;exact k.out C Q hQ _ _ ⟨aw,bd.step kZ (vj bd.size hd (fun t d h=>kZ.V (bd.env t d h)) hv) (Act.uS _ _ _) (Act.mI ..)⟩⟩
end
end Go.T
namespace Go.T
open Go
variable[bT]
abbrev SM:=List (ae×ae)
@[reducible] def sl(m:SM):List (D×D):=m.map fun p=>(.str p.1,.str p.2)
def Wc(es:List MapEntry)(m:SM)(n:Nat):Prop:=es.length=m.length∧∀i k v,m[i]?=some (k,v)→∃e,es[i]?=some e∧e.born=n+i∧e.key=.string ⟨k.toArray⟩∧e.val=.string ⟨v.toArray⟩
theorem Vh(a b:ae):((⟨a.toArray⟩:ByteArray)==⟨b.toArray⟩)=decide (a=b):=by
  have e:((⟨a.toArray⟩:ByteArray)==⟨b.toArray⟩)=(a.toArray==b.toArray):=rfl;rw[e,Bool.eq_iff_iff];simp
theorem ahl{w:World}{O:Nat→Prop}{ρ:aC}{l:Loc}{m:SM}{es:Array MapEntry}(h1:w.heap[l.b]?=some (.map es m.length))(h2:Wc es.toList m 0)(h3:∀p∈m,p.1.length≤aH∧p.2.length≤aH):iV w O ρ l (.mp (sl m)):=by
  refine⟨es,by simpa[sl]using h1,by simpa[sl]using h2.1,fun i kd vd hi=>?_⟩;simp only[sl,List.getElem?_map,Option.map_eq_some_iff]at hi;obtain⟨⟨k,v⟩,g1,g2⟩:=hi;cases g2;obtain⟨e,g3,g4,g5,g6⟩:=h2.2 i k v g1;have:=h3 _ (List.mem_of_getElem? g1);exact⟨e,by simpa using g3,by omega,by simp only[V];exact⟨g5,this.1⟩,by simp only[V];exact⟨g6,this.2⟩⟩
section
variable{P:Program} {env:Env} {dst:Option Tmp} {ty:TypeId} {pos:String} {au:Array Edge} {g:Option (Nat×Bool)}
theorem aiv{t:TypeId}{J:aa}(id:Nat)(hid:J.get id=none):aq P ⟨dst,.makeMap t none,ty,pos,au,g⟩ env J (.dj id) ((id,.mp (sl []))::J):=
  .step fun O ρ a w af hv=>by
    refine⟨.map (some w.heap.size),_,T.cv ρ id ⟨w.heap.size,0,0⟩,.inl ?_,Tr.born af hid (.map #[] 0) rfl (fun i x h _=>h) (fun i h=>h) ?_,?_⟩
    · simp only[execOp,Option.map_none]
      rw[Sem.run_bind];rfl
    · intro hk
      exact ahl (m:=[]) (es:=#[]) zS ⟨rfl,fun i k v h=>by simp at h⟩ zS
    · simp only[V];exact⟨⟨w.heap.size,0,0⟩,by simp[T.cv],rfl⟩
end
end Go.T
namespace Go.T
open Go
variable[bT]
open Go.ChangeMaps (setBlock)
section
variable{P:Program} {env:Env} {dst:Option Tmp} {ty:TypeId} {pos:String} {au:Array Edge} {g:Option (Nat×Bool)}
end
end Go.T
namespace Go.T
open Go
variable[bT]
section
variable{P:Program} {env:Env} {dst:Option Tmp} {ty:TypeId} {pos:String} {au:Array Edge} {g:Option (Nat×Bool)}
end
end Go.T
namespace Go.T
open Go
open Go.ChangeMaps (setBlock)
variable[bT]
variable{κ β:Type} [DecidableEq κ]
def kU(k:κ):List κ→Nat→Option Nat
 |[],_=>none
 |x::r,i=>if k=x then some i else kU k r (i+1)
structure lu(P:Program)(kt:TypeId)(kD:κ→D)(kV:κ→Value)(iN:κ→Prop):Prop where
 val:∀{w:World}{O:Nat→Prop}{ρ:aC}{k:κ}{v:Value},V w O ρ (kD k) v→v=kV k∧iN k
 back:∀{w:World}{O:Nat→Prop}{ρ:aC}{k:κ},iN k→V w O ρ (kD k) (kV k)
 check:∀(b:Bool)(k:κ)(w:World),iN k→(Instr.checkKey b 10000 kt (kV k)).run P w=.ok () w
 find:∀(k:κ)(es:List MapEntry)(ks:List κ)(w:World),es.map (·.key)=ks.map kV→(∀x∈ks,iN x)→iN k→
  (Instr.findKey kt (kV k) es).run P w=.ok ((kU k ks 0).map fun j=>(j,(es[j]?.map (·.val)).getD undef)) w
 stays:∀(k:κ)(w:World),(Instr.keyThatStays (kV k) (kV k)).run P w=.ok (kV k) w
@[reducible] def bZ(kD:κ→D)(vD:β→D)(m:List (κ×β)):List (D×D):=m.map fun p=>(kD p.1,vD p.2)
def fJ(d:β):List (κ×β)→κ→β
 |[],_=>d
 |(a,v)::r,k=>if k=a then v else fJ d r k
def kX(m:List (κ×β))(k:κ):Bool:=m.any fun p=>decide (k=p.1)
def fE:List (κ×β)→κ→β→List (κ×β)
 |[],k,v=>[(k,v)]
 |(a,u)::r,k,v=>if k=a then(k,v)::r else(a,u)::fE r k v
theorem Bp(d:β)(k:κ):∀(m:List (κ×β))(i:Nat),
  (kU k (m.map (·.1)) i=none∧kX m k=false∧fJ d m k=d∧∀v,fE m k v=m++[(k,v)])∨
  (∃j,j<m.length∧kU k (m.map (·.1)) i=some (i+j)∧m[j]?=some (k,fJ d m k)∧kX m k=true∧∀v,fE m k v=m.set j (k,v))
 |[],i=>.inl ⟨rfl,rfl,rfl,fun _=>rfl⟩
 |(a,u)::m,i=>by
  by_cases h:k=a
  ·subst h;exact .inr ⟨0,by simp,by simp[kU],by simp[fJ],by simp[kX],fun v=>by simp[fE]⟩
  ·rcases Bp d k m (i+1)with⟨h1,h2,h3,h4⟩|⟨j,h1,h2,h3,h4,h5⟩
   ·exact .inl ⟨by simp[kU,h,h1],by simpa[kX,h]using h2,by simp[fJ,h,h3],fun v=>by simp[fE,h,h4]⟩
   ·exact .inr ⟨j+1,by simp;omega,by simp only[List.map_cons,kU,h,if_false,h2];congr 1;omega,by simpa[fJ,h]using h3,by simpa[kX,h]using h4,fun v=>by simp[fE,h,h5]⟩
section
variable{P:Program} {kt:TypeId} {kD:κ→D} {kV:κ→Value} {iN:κ→Prop} {vD:β→D}
structure tw(w:World)(O:Nat→Prop)(ρ:aC)(kV:κ→Value)(vD:β→D)(es:Array MapEntry)(m:List (κ×β)):Prop where
 len:es.size=m.length
 at_:∀(i:Nat)(k:κ)(v:β),m[i]?=some (k,v)→∃e,es[i]?=some e∧e.born=i∧e.key=kV k∧V w O ρ (vD v) e.val
theorem tw.keys{w:World}{O:Nat→Prop}{ρ:aC}{es:Array MapEntry}{m:List (κ×β)}(h:tw w O ρ kV vD es m):es.toList.map (·.key)=(m.map (·.1)).map kV:=by
 apply List.ext_getElem?;intro i;simp only[List.getElem?_map,Array.getElem?_toList];rcases Nat.lt_or_ge i m.length with g|g
 ·obtain⟨e,g1,_,g3,_⟩:=h.at_ i (m[i]).1 (m[i]).2 (by simp[g]);rw[g1,List.getElem?_eq_getElem g];simp[g3]
 ·rw[Array.getElem?_eq_none (by rw[h.len];exact g),List.getElem?_eq_none g];rfl
theorem CM(hK:lu P kt kD kV iN){w:World}{O:Nat→Prop}{ρ:aC}{l:Loc}{m:List (κ×β)}(h:iV w O ρ l (.mp (bZ kD vD m))):∃es,w.heap[l.b]?=some (.map es m.length)∧tw w O ρ kV vD es m∧∀k∈m.map (·.1),iN k:=by
 obtain⟨es,h1,h2,h3⟩:=h;simp only[bZ,List.length_map]at h1 h2;have key:∀(i:Nat)(k:κ)(v:β),m[i]?=some (k,v)→∃e:MapEntry,es[i]?=some e∧e.born=i∧e.key=kV k∧V w O ρ (vD v) e.val∧iN k:=by
  intro i k v hi;obtain⟨e,g1,g2,g3,g4⟩:=h3 i (kD k) (vD v) (by simp[bZ,hi]);have:=hK.val g3;exact⟨e,g1,g2,this.1,g4,this.2⟩
 refine⟨es,h1,⟨h2,fun i k v hi=>?_⟩,fun k hk=>?_⟩
 ·obtain⟨e,g1,g2,g3,g4,_⟩:=key i k v hi;exact⟨e,g1,g2,g3,g4⟩
 ·obtain⟨p,hp,rfl⟩:=List.mem_map.1 hk;obtain⟨i,hi⟩:=List.getElem?_of_mem hp;obtain⟨_,_,_,_,_,g5⟩:=key i p.1 p.2 hi;exact g5
theorem TL(hK:lu P kt kD kV iN){w:World}{O:Nat→Prop}{ρ:aC}{l:Loc}{m:List (κ×β)}{es:Array MapEntry}(h1:w.heap[l.b]?=some (.map es m.length))(h2:tw w O ρ kV vD es m)(h3:∀k∈m.map (·.1),iN k):iV w O ρ l (.mp (bZ kD vD m)):=by
 refine⟨es,by simpa[bZ]using h1,by simpa[bZ]using h2.len,fun i kd vd hi=>?_⟩;simp only[bZ,List.getElem?_map,Option.map_eq_some_iff]at hi;obtain⟨⟨k,v⟩,g1,g2⟩:=hi;cases g2;obtain⟨e,g3,g4,g5,g6⟩:=h2.at_ i k v g1;exact⟨e,g3,g4,by rw[g5];exact hK.back (h3 k (List.mem_map.2 ⟨(k,v),List.mem_of_getElem? g1,rfl⟩)),g6⟩
variable{env:Env} {dst:Option Tmp} {ty:TypeId} {pos:String} {au:Array Edge} {g:Option (Nat×Bool)}
theorem oI{t:TypeId}{J:aa}(id:Nat)(kD:κ→D)(vD:β→D)(hid:J.get id=none):aq P ⟨dst,.makeMap t none,ty,pos,au,g⟩ env J (.dj id) ((id,.mp (bZ kD vD []))::J):=aiv id hid
theorem R0(hK:lu P kt kD kV iN){O:Nat→Prop}{ρ:aC}{w:World}{t et:TypeId}{id:Nat}{l:Loc}{m:List (κ×β)}{k:κ}{d:β}{J:aa}{zv:Value}{c:Bool}(hu:P.underlying t=some (.map kt et))(hz:(zeroValue et).run P w=.ok zv w)(uh:V w (Ot O ρ J) ρ (vD d) zv)
  (af:di w O ρ J)(ho:J.get id=some (.mp (bZ kD vD m)))(h2:ρ id=some l)(hk:iN k):
  ∃v,V w (Ot O ρ J) ρ (vD (fJ d m k)) v∧(Instr.lookup t (.map (some l.b)) (kV k) c).run P w=.ok (if c then .tuple #[v,.bool (kX m k)]else v) w:=by
 obtain⟨l',h3,_,lA⟩:=af.own id _ ho rfl;rw[h2]at h3;cases h3;obtain⟨es,h4,h5,h6⟩:=CM hK lA;have rA:=fun b=>hK.check b k w hk;have jY:=hK.find k es.toList (m.map (·.1)) w h5.keys h6 hk;rcases Bp d k m 0 with⟨g1,g2,g3,_⟩|⟨j,gj,g1,g2,g3,_⟩
 ·refine⟨zv,by rw[g3];exact uh,?_⟩;rw[g1]at jY;cases c<;>simp[Instr.lookup,cg hu,MapKept.run_getObj_map h4,rA,jY,hz,g2]
 ·obtain⟨e,k1,k2,k3,k4⟩:=h5.at_ j k _ g2;refine⟨e.val,k4,?_⟩;rw[g1]at jY;simp only[Option.map_some,Nat.zero_add,Array.getElem?_toList,k1,Option.getD_some]at jY;cases c<;>simp[Instr.lookup,cg hu,MapKept.run_getObj_map h4,rA,jY,g3]
theorem Lt(hK:lu P kt kD kV iN){t et:TypeId}{x y:Operand}{id:Nat}{m:List (κ×β)}{k:κ}{d:β}{kd:D}{J:aa}{zv:Value}(hu:P.underlying t=some (.map kt et))(hz:∀w,(zeroValue et).run P w=.ok zv w)(uh:∀(w:World) O ρ,V w O ρ (vD d) zv)
  (hx:env.op x=some (.dj id))(hy:env.op y=some kd)(rC:kd=kD k)(ho:J.get id=some (.mp (bZ kD vD m))):
  aq P ⟨dst,.lookup t x y false,ty,pos,au,g⟩ env J (vD (fJ d m k)) J:=
 .val fun O ρ a w af hv=>by
  subst rC;have cp:=hv x (by simp[Op.operands]) _ hx;have eD:=hK.val (hv y (by simp[Op.operands]) _ hy);simp only[V]at cp;obtain⟨l,h2,e1⟩:=cp;obtain⟨v,h3,h4⟩:=R0 (c:=false) hK hu (hz w) (uh w _ ρ) af ho h2 eD.2;exact⟨v,by simp[execOp,e1,eD.1,h4],h3⟩
theorem ait(hK:lu P kt kD kV iN){t et:TypeId}{x y:Operand}{id:Nat}{m:List (κ×β)}{k:κ}{d:β}{kd:D}{J:aa}{zv:Value}(hu:P.underlying t=some (.map kt et))(hz:∀w,(zeroValue et).run P w=.ok zv w)(uh:∀(w:World) O ρ,V w O ρ (vD d) zv)
  (hx:env.op x=some (.dj id))(hy:env.op y=some kd)(rC:kd=kD k)(ho:J.get id=some (.mp (bZ kD vD m))):
  aq P ⟨dst,.lookup t x y true,ty,pos,au,g⟩ env J (.bl [vD (fJ d m k),.b (kX m k)]) J:=
 .val fun O ρ a w af hv=>by
  subst rC;have cp:=hv x (by simp[Op.operands]) _ hx;have eD:=hK.val (hv y (by simp[Op.operands]) _ hy);simp only[V]at cp;obtain⟨l,h2,e1⟩:=cp;obtain⟨v,h3,h4⟩:=R0 (c:=true) hK hu (hz w) (uh w _ ρ) af ho h2 eD.2;refine⟨.tuple #[v,.bool (kX m k)],by simp[execOp,e1,eD.1,h4],?_⟩;simp only[V,Vs];exact⟨_,rfl,_,_,rfl,h3,_,_,rfl,rfl,rfl⟩
theorem ajE(IU:κ→Prop){m:List (κ×β)}{k:κ}{v:β}(h:∀x∈m.map (·.1),IU x)(hk:IU k):∀x∈(fE m k v).map (·.1),IU x:=by
 induction m with
 |nil=>intro x hx;simp[fE]at hx;subst hx;exact hk
 |cons p r ih=>
  obtain⟨a,u⟩:=p;intro x hx;simp only[fE]at hx;split at hx
  ·simp only[List.map_cons,List.mem_cons]at hx h;rcases hx with rfl|hx
   ·exact hk
   ·exact h x (.inr hx)
  ·simp only[List.map_cons,List.mem_cons]at hx;rcases hx with rfl|hx
   ·exact h _ zS
   ·exact ih (fun y hy=>h y (by simp only[List.map_cons,List.mem_cons];exact .inr hy)) x hx
theorem fb(hK:lu P kt kD kV iN){t et:TypeId}{x y z:Operand}{id:Nat}{m:List (κ×β)}{k:κ}{v:β}{kd vd:D}{J:aa}(hu:P.underlying t=some (.map kt et))
  (hx:env.op x=some (.dj id))(hy:env.op y=some kd)(hz:env.op z=some vd)(rC:kd=kD k)(hvd:vd=vD v)(ho:J.get id=some (.mp (bZ kD vD m))):
  aq P ⟨dst,.mapUpdate t x y z,ty,pos,au,g⟩ env J (.raw undef) (J.set id (.mp (bZ kD vD (fE m k v)))):=
 .step fun O ρ a w af hv=>by
  subst rC;subst hvd;have cp:=hv x (by simp[Op.operands]) _ hx;have eD:=hK.val (hv y (by simp[Op.operands]) _ hy);have Q0:=hv z (by simp[Op.operands]) _ hz;simp only[V]at cp;obtain⟨l,h2,e1⟩:=cp;obtain⟨l',h3,_,lA⟩:=af.own id _ ho rfl;rw[h2]at h3;cases h3;obtain⟨es,h4,h5,h6⟩:=CM hK lA;have rA:=fun b=>hK.check b k w eD.2;have jY:=hK.find k es.toList (m.map (·.1)) w h5.keys h6 eD.2;have rF:∀o',(setObj l.b o').run P w=.ok () {w with heap:=w.heap.setIfInBounds l.b o'}:=fun o'=>by simp[setObj,Sem.run,h4]
  have bN:=(Array.getElem?_eq_some_iff.1 h4).1;have uc:=ajE iN (v:=v) h6 eD.2;rcases Bp v k m 0 with⟨g1,_,_,g4⟩|⟨j,gj,g1,g2,_,g4⟩
  ·rw[g1]at jY;refine⟨undef,_,ρ,.inr ⟨?_,rfl⟩,Tr.cv (o':=.mp (bZ kD vD (fE m k v))) af ho rfl h2 (.map (es.push {key:=kV k,val:=a.eval z,born:=m.length}) (m.length+1)) ?_,by simp[V]⟩
   ·simp[execOp,Instr.mapUpdate,cg hu,e1,eD.1,MapKept.run_getObj_map h4,rA,jY,rF]
   ·intro kc;rw[g4]at uc kc⊢;refine TL hK (es:=es.push {key:=kV k,val:=a.eval z,born:=m.length}) (by simp[bN]) ⟨by simp[h5.len],fun i k' v' hi=>?_⟩ uc;rw[Array.getElem?_push,h5.len];by_cases e:i=m.length
    ·subst e;rw[List.getElem?_append_right (Nat.le_refl _)]at hi;simp at hi;obtain⟨rfl,rfl⟩:=hi;exact⟨_,by rw[if_pos rfl],rfl,rfl,V.mono kc (bO.refl _) _ _ Q0⟩
    ·have nw:i<m.length:=by
      rcases Nat.lt_or_ge i m.length with q|q
      ·exact q
      ·rw[List.getElem?_eq_none zQ]at hi;cases hi
     rw[List.getElem?_append_left nw]at hi;obtain⟨x,q1,q2,q3,q4⟩:=h5.at_ i k' v' hi;exact⟨x,by rw[if_neg e];exact q1,q2,q3,V.mono kc (bO.refl _) _ _ q4⟩
  ·obtain⟨e,k1,k2,k3,_⟩:=h5.at_ j k _ g2;rw[g1]at jY;simp only[Option.map_some,Nat.zero_add]at jY;refine⟨undef,_,ρ,.inr ⟨?_,rfl⟩,Tr.cv (o':=.mp (bZ kD vD (fE m k v))) af ho rfl h2 (.map (es.modify j fun e=>{e with key:=kV k,val:=a.eval z}) m.length) ?_,by simp[V]⟩
   ·simp[execOp,Instr.mapUpdate,cg hu,e1,eD.1,MapKept.run_getObj_map h4,rA,jY,rF,k1,k3,hK.stays]
   ·intro kc;rw[g4]at uc kc⊢;refine TL hK (es:=es.modify j fun e=>{e with key:=kV k,val:=a.eval z}) (by simp[bN]) ⟨by simp[h5.len],fun i k' v' hi=>?_⟩ uc;rw[Array.getElem?_modify];rw[List.getElem?_set]at hi;by_cases e':j=i
    ·subst e';rw[if_pos rfl,if_pos gj]at hi;cases hi;exact⟨{e with key:=kV k,val:=a.eval z},by rw[if_pos rfl,k1];rfl,k2,rfl,V.mono kc (bO.refl _) _ _ Q0⟩
    ·rw[if_neg e']at hi;obtain⟨x,q1,q2,q3,q4⟩:=h5.at_ i k' v' hi;exact⟨x,by rw[if_neg e'];exact q1,q2,q3,V.mono kc (bO.refl _) _ _ q4⟩
theorem tw.mem{w:World}{O:Nat→Prop}{ρ:aC}{es:Array MapEntry}{m:List (κ×β)}(h:tw w O ρ kV vD es m){e:MapEntry}(he:e∈es.toList):∃k v,m[e.born]?=some (k,v)∧es[e.born]?=some e∧e.key=kV k∧V w O ρ (vD v) e.val:=by
 obtain⟨j,hj⟩:=List.getElem?_of_mem he;rw[Array.getElem?_toList]at hj;have bN:j<m.length:=by rw[←h.len];exact(Array.getElem?_eq_some_iff.1 hj).1
 obtain⟨e',g1,g2,g3,g4⟩:=h.at_ j (m[j]).1 (m[j]).2 (by simp[bN]);rw[hj]at g1;cases g1;subst g2;exact⟨_,_,by simp[bN],hj,g3,g4⟩
theorem tw.Nf{w:World}{O:Nat→Prop}{ρ:aC}{es:Array MapEntry}{m:List (κ×β)}(h:tw w O ρ kV vD es m):es.toList.map (·.born)=List.range m.length:=by
 apply List.ext_getElem?;intro i;rw[List.getElem?_map,Array.getElem?_toList];rcases Nat.lt_or_ge i m.length with g|g
 ·obtain⟨e,g1,g2,_⟩:=h.at_ i (m[i]).1 (m[i]).2 (by simp[g]);rw[g1,List.getElem?_range g];simp[g2]
 ·rw[Array.getElem?_eq_none (by rw[h.len];exact g),List.getElem?_eq_none (by simpa using g)];rfl
theorem Lw(hK:lu P kt kD kV iN){t et:TypeId}{x:Operand}{id:Nat}{m:List (κ×β)}{J:aa}(eZ:Nat)(hu:P.underlying t=some (.map kt et))(hx:env.op x=some (.dj id))(ho:J.get id=some (.mp (bZ kD vD m)))(hid:J.get eZ=none):
  aq P ⟨dst,.range t x,ty,pos,au,g⟩ env J (.box eZ 0) ((eZ,.mi id m.length [])::J):=
 .step fun O ρ a w af hv=>by
  have cp:=hv x (by simp[Op.operands]) _ hx;simp only[V]at cp;obtain⟨l,h2,e1⟩:=cp;obtain⟨l',h3,_,lA⟩:=af.own id _ ho rfl;rw[h2]at h3;cases h3;obtain⟨es,h4,h5,h6⟩:=CM hK lA;have hr:=run_range_map (P:=P) w t kt et l.b es m.length hu h4;refine⟨.pointer (some ⟨w.heap.size,0,none⟩),_,T.cv ρ eZ ⟨w.heap.size,0,0⟩,.inl ?_,Tr.born af hid (.mapIter (some l.b) m.length #[] m.length) rfl (fun i x h _=>h) (fun i h=>h) ?_,?_⟩
  ·simp only[execOp,e1];rw[Sem.run_bind,hr];rfl
  ·intro hk;have aG:eZ≠id:=by rintro rfl;rw[ho]at hid;cases hid
   exact⟨l,by simp[T.cv,aG.symm,h2],by simp⟩
  ·simp only[V];exact⟨⟨w.heap.size,0,0⟩,by simp[T.cv],rfl⟩
def Th(m:List (κ×β))(seen:List Nat):Option (Nat×κ×β)→Prop
 |none=>∀j,j<m.length→j∈seen
 |some (j,k,v)=>m[j]?=some (k,v)∧j∉seen
@[reducible] def s9(kD:κ→D)(vD:β→D):Option (Nat×κ×β)→D
 |none=>.bl [.b false]
 |some (_,k,v)=>.bl [.b true,kD k,vD v]
@[reducible] def uB(J:aa)(eZ id n:Nat)(seen:List Nat):Option (Nat×κ×β)→aa
 |none=>J
 |some (j,_,_)=>J.set eZ (.mi id n (seen++[j]))
theorem Lv(hK:lu P kt kD kV iN){x:Operand}{id eZ:Nat}{m:List (κ×β)}{seen:List Nat}{J:aa}(hx:env.op x=some (.box eZ 0))(hi:J.get eZ=some (.mi id m.length seen))(ho:J.get id=some (.mp (bZ kD vD m))):
  tD P ⟨dst,.next x false,ty,pos,au,g⟩ env J (Th m seen) (s9 kD vD) (uB J eZ id m.length seen):=by
 intro O ρ a w af dH hv;have cp:=hv x (by simp[Op.operands]) _ hx;simp only[V]at cp;obtain⟨r,rD,e1⟩:=cp;obtain⟨r',jZ,_,lm,hm,hit⟩:=af.own eZ _ hi rfl;rw[rD]at jZ;cases jZ;obtain⟨l',h3,_,lA⟩:=af.own id _ ho rfl;rw[hm]at h3;cases h3;obtain⟨es,h4,h5,h6⟩:=CM hK lA;have zB:∀x∈es.toList,x.born<m.length:=fun x hx=>by
  obtain⟨_,_,q,_⟩:=h5.mem hx;exact(List.getElem?_eq_some_iff.1 q).1
 unfold Oper.wp;have vB:(execOp a.eval ⟨dst,.next x false,ty,pos,au,g⟩).run P w=((Instr.next (.pointer (some ⟨r.b,0,none⟩)) false ty).bind fun v=>Sem.pure (Next.value v)).run P w:=by
  simp only[execOp,e1];rfl
 rw[vB];rcases run_next_at (P:=P) w ty r.b lm.b m.length m.length seen.toArray es m.length hit h4 zB (Nat.le_refl _)with⟨hz,gw⟩|⟨e,he,w1,uf,gw⟩
 ·have:((Instr.next (.pointer (some ⟨r.b,0,none⟩)) false ty).bind fun v=>Sem.pure (Next.value v)).run P w=.ok (.value (.tuple #[.bool false])) w:=by
   show(Sem.bind _ _).run P w=_;rw[Sem.run_bind',gw];rfl
  rw[this];refine⟨none,ρ,_,?_,rfl,Tr.refl af,by simp[V,Vs,D.b]⟩;intro j hj;have sQ:leftOf es seen.toArray=#[]:=Array.eq_empty_of_size_eq_zero hz;obtain⟨e,g1,g2,_⟩:=h5.at_ j (m[j]).1 (m[j]).2 (by simp[hj]);unfold leftOf at sQ;rw[Array.filter_eq_empty_iff]at sQ;have qD:e∈es:=Array.mem_of_getElem? g1;have:=sQ e qD;simp at this;rw[g2]at this;exact this
 ·have zo:e∈es.toList∧e.born∉seen:=by
   unfold leftOf at he;simp at he;exact⟨by simpa using he.1,by simpa using he.2⟩
  obtain⟨k,v,g1,g2,g3,g4⟩:=h5.mem zo.1;have:((Instr.next (.pointer (some ⟨r.b,0,none⟩)) false ty).bind fun v=>Sem.pure (Next.value v)).run P w=.ok (.value (.tuple #[.bool true,e.key,e.val])) (setBlock w1 r.b (.mapIter (some lm.b) m.length (seen.toArray.push e.born) m.length)):=by
   show(Sem.bind _ _).run P w=_;rw[Sem.run_bind',gw];rfl
  rw[this];have pV:Tr O w ρ J w1 ρ J:=by
   rcases uf with rfl|rfl
   ·exact Tr.refl af
   ·exact Tr.drawn af _ (by first|exact Nat.le_succ _|omega)
  have Jh:w1.heap[r.b]?=some (.mapIter (some lm.b) m.length seen.toArray m.length):=by rcases uf with rfl|rfl<;>exact hit
  have lC:=Tr.cv (o':=.mi id m.length (seen++[e.born])) pV.ok hi rfl rD (.mapIter (some lm.b) m.length (seen.toArray.push e.born) m.length) (fun _=>⟨lm,hm,by simp[(Array.getElem?_eq_some_iff.1 Jh).1]⟩);refine⟨some (e.born,k,v),ρ,_,⟨g1,zo.2⟩,rfl,pV.trans lC,?_⟩;simp only[V,Vs,D.b];refine⟨_,rfl,_,_,rfl,rfl,_,_,rfl,?_,_,_,rfl,(pV.trans lC).V g4,rfl⟩;rw[g3];exact hK.back (h6 k (List.mem_map.2 ⟨(k,v),List.mem_of_getElem? g1,rfl⟩))
theorem Ln(hK:lu P kt kD kV iN){x:Operand}{id eZ j:Nat}{k:κ}{v:β}{m:List (κ×β)}{seen:List Nat}{J:aa}(hx:env.op x=some (.box eZ 0))(hi:J.get eZ=some (.mi id m.length (seen++[j])))(ho:J.get id=some (.mp (bZ kD vD m)))(hj:m[j]?=some (k,v)):
  aq P ⟨dst,.entry x,ty,pos,au,g⟩ env J (.bl [kD k,vD v]) J:=
 .val fun O ρ a w af hv=>by
  have cp:=hv x (by simp[Op.operands]) _ hx;simp only[V]at cp;obtain⟨r,rD,e1⟩:=cp;obtain⟨r',jZ,_,lm,hm,hit⟩:=af.own eZ _ hi rfl;rw[rD]at jZ;cases jZ;obtain⟨l',h3,_,lA⟩:=af.own id _ ho rfl;rw[hm]at h3;cases h3;obtain⟨es,h4,h5,h6⟩:=CM hK lA;obtain⟨e,g1,g2,g3,g4⟩:=h5.at_ j k v hj;have BH:w.heap[r.b]?=some (.mapIter (some lm.b) m.length (seen.toArray.push e.born) m.length):=by rw[hit,g2];simp
  have fB:(es.toList.map (·.born)).Nodup:=by rw[h5.Nf];exact List.nodup_range
  have gw:=run_entry_at (P:=P) w r.b lm.b m.length seen.toArray es m.length e BH h4 (by simpa using Array.mem_of_getElem? g1) fB;refine⟨.tuple #[e.key,e.val],?_,?_⟩
  ·simp only[execOp,e1];rw[Sem.run_bind,gw];rfl
  ·simp only[V,Vs];refine⟨_,rfl,_,_,rfl,?_,_,_,rfl,g4,rfl⟩;rw[g3];exact hK.back (h6 k (List.mem_map.2 ⟨(k,v),List.mem_of_getElem? hj,rfl⟩))
end
@[reducible] def Dp(s:ae):Value:=.string ⟨s.toArray⟩
theorem Il{k:κ}:∀{ks:List κ}{i j:Nat},kU k ks i=some j→i≤j
 |[],_,_,h=>by simp[kU]at h
 |x::ks,i,j,h=>by
  simp only[kU]at h;split at h
  ·simp at h;omega
  ·have:=Il h;omega
end Go.T
