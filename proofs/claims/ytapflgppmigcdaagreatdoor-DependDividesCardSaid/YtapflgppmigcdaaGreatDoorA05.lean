/-
  Contracts of the functions that the statement reaches, and the logic in which they are proved (no condition): parts Core20, Core21, Core22, Core23, Core24, Core25, Core26, Core27, Core28, Core29, Core38.
-/
import Derived.Test.YtapflgppmigcdaaGreatDoorA04
import Derived.Below
import Derived.Laws.MakeOwn
import Derived.Maps.RangeRun
set_option linter.all false
namespace Go.T
open Go
variable[bV]
section
variable{P:Program} {env:Env} {dst:Option Tmp} {ty:TypeId} {pos:String} {ar:Array Edge} {g:Option (Nat×Bool)}
theorem FF(b o n:Nat):(Addr.mk b o none).add n=⟨b,o+n,none⟩:=by
 unfold Addr.add;split
 ·rename_i h;subst h;rfl
 ·rfl
theorem BC{t e:TypeId}{x y:Operand}{id off n sz o2:Nat}{k:IntKind}{i:Int}(hu:P.underlying t=some (.array n e))(hs:∀w,(sizeOf e).run P w=.ok sz w)(hx:env.op x=some (.box id off))(hy:env.op y=some (.raw (.int k i)))(h0:0≤i)(hi:i.toNat<n)(ho:off+i.toNat*sz=o2)(U:ae):
  aq P ⟨dst,.indexAddr t x y,ty,pos,ar,g⟩ env U (.box id o2) U:=
 .val fun O ρ a w _ hv=>by
  have h1:=hv x (by simp[Op.operands]) _ hx;have h2:=hv y (by simp[Op.operands]) _ hy;simp only[V]at h1 h2;obtain⟨l,hl,e1⟩:=h1;have bw:i<(n:Int):=by omega
  refine⟨.pointer (some ⟨l.b,o2,none⟩),?_,by simp only[V];exact⟨l,hl,rfl⟩⟩;simp[execOp,Instr.indexAt,Instr.sureAddr,asIntOf,h2,e1,bY hu,hs,h0,bw,FF,ho]
end
theorem Fc.o9{P:Program}{f:FuncId}{args:List D}{r:D}(h:∀w O ρ vals,Gl w O→Vs w O ρ args vals→Calls P f vals.toArray w (fun e w'=>∃v,e=.returned v∧V w' O ρ r v∧ff w w')):Fc P f args r:=⟨fun w O ρ vals _ hg hv=>h w O ρ vals hg hv⟩
theorem Vs.BY{w:World}{O:Nat→Prop}{ρ:aA}{s t:aa}{vals:List Value}(h:Vs w O ρ [.str s,.str t] vals):vals=[.string ⟨s.toArray⟩,.string ⟨t.toArray⟩]∧s.length≤aG∧t.length≤aG:=by
 simp only[Vs,V]at h;obtain⟨u,us,rfl,⟨rfl,hb⟩,u',w6,rfl,⟨rfl,tL⟩,rfl⟩:=h;exact⟨rfl,hb,tL⟩
end Go.T
namespace Go.T
open Go
variable[bV]
@[reducible] def gb(s:aa):List Value:=s.map fun b=>Value.int .u8 (b.toNat:Int)
section
variable{P:Program} {env:Env} {dst:Option Tmp} {ty:TypeId} {pos:String} {ar:Array Edge} {g:Option (Nat×Bool)}
theorem Ut{w:World}{O:Nat→Prop}{ρ:aA}:∀{t:aa}{us:List Value},Vs w O ρ (lu t).flatten us→us=gb t
 |[],us,h=>by simpa[lu,Vs]using h
 |c::t,us,h=>by
  simp only[lu,List.map_cons,List.flatten_cons,List.cons_append,List.nil_append,Vs,V]at h;obtain⟨u,w6,rfl,rfl,h2⟩:=h;simp only[gb,List.map_cons,List.cons.injEq,true_and];exact Ut h2
theorem aa5{w:World}{O:Nat→Prop}{ρ:aA}{t:aa}{dy:D}{v:Value}(HF:dy=.str t∨∃f,dy=.snap 1 f (lu t))(h:V w O ρ dy v):
  (∀w',(Builtin.lenOf v).run P w'=.ok t.length w')∧(∀w',w'.heap=w.heap→(Builtin.firstCells 1 t.length v).run P w'=.ok (gb t).toArray w'):=by
 rcases HF with rfl|⟨f,rfl⟩
 ·simp only[V]at h;obtain⟨rfl,_⟩:=h;have be:(⟨t.toArray⟩:ByteArray).size=t.length:=by simp[ByteArray.size]
  refine⟨fun w'=>by simp[Builtin.lenOf,be],fun w' _=>?_⟩;have he:(⟨t.toArray⟩:ByteArray).extract 0 t.length=⟨t.toArray⟩:=by
   apply ByteArray.ext;rw[ByteArray.data_extract];simp
  simp[Builtin.firstCells,he,gb]
 ·obtain⟨h1,us,h2,h3,_,h5,_⟩:=wW (P:=P) h;have:=Ut h3;subst this;refine⟨fun w'=>by simpa[lu]using h1 w',fun w' e=>?_⟩;have:=h2 w' e;simpa[lu]using this
theorem VS(t:aa):∀u∈gb t,u.oneCell'=true:=by
 intro u hu;simp only[gb,List.mem_map]at hu;obtain⟨b,_,rfl⟩:=hu;rfl
theorem Tr.Tb{O:Nat→Prop}{w:World}{ρ:aA}{U:ae}{id bc:Nat}(aj:cF w O ρ U):Tr O w ρ U w ρ ((bc,.ba [])::U.set id .dead):=by
 have h1:=Tr.EJ (id:=id) (bc:=bc) (sz:=1) aj;have look:∀i x,ae.get ((bc,Ob.ba [])::U.set id .dead) i=some x→x.live=true→ae.get ((bc,Ob.arr 1 [])::U.set id .dead) i=some x:=by
  intro i x h2 h3;rw[ae.aZ]at h2⊢;by_cases e:bc=i
  ·simp only[if_pos e,Option.some.injEq]at h2;subst h2;simp[Ob.live]at h3
  ·rw[if_neg e]at h2⊢;exact h2
 have hO:∀b,bQ ρ ((bc,.ba [])::U.set id .dead) b→bQ ρ ((bc,.arr 1 [])::U.set id .dead) b:=by
  rintro b ⟨i,x,l,h2,h3,h4⟩;exact⟨i,x,l,look i x h2 h3,h3,h4⟩
 refine⟨h1.le,h1.size,h1.same,fun b hb=>h1.new b (hO b hb),⟨h1.ok.lt,fun i hi=>?_,fun i x h2 h3=>?_,fun i j x x' l l' a b c d=>h1.ok.inj i j x x' l l' (look i x a c) (look j x' b d) c d⟩,h1.os⟩
 ·rw[ae.aZ]at hi;by_cases e:bc=i
  ·simp[e]at hi
  ·rw[if_neg e]at hi;exact h1.ok.fresh i (by rw[ae.aZ,if_neg e];exact hi)
 ·obtain⟨l,g1,g2,g3⟩:=h1.ok.own i x (look i x h2 h3) h3;exact⟨l,g1,g2,g3.eN (Kept.eN fun b hb=>hb.imp _root_.id (hO b))⟩
theorem JP{st xt:TypeId}{xd:TypeDesc}{ti:TypeInfo}{n id:Nat}{x y:Operand}{s t:aa}{dy:D}{U:ae}(bc:Nat)(hu:P.underlying st=some (.slice l8))(jz:P.underlying xt=some xd)(Iq:∀k,xd≠.int k)(hs:∀w,(sizeOf l8).run P w=.ok 1 w)
  (jT:∀w,(typeInfo l8).run P w=.ok ti w)(nM:ti.bytes=1)(hz:∀w,(zeroValue l8).run P w=.ok (.int .u8 0) w)(hx:env.op x=some (.gs id n))(ho:U.get id=some (.ba s))(hn:s.length=n)(hy:env.op y=some dy)(HF:dy=.str t∨∃f,dy=.snap 1 f (lu t))(hid:U.get bc=none)
  (lD:n+t.length≤140737488355328):
  aq P ⟨dst,.call ⟨.builtin .append,#[x,y],#[st,xt]⟩,ty,pos,ar,g⟩ env U (.gs bc (n+t.length)) ((bc,.ba (s++t))::U.set id .dead):=
 .step fun O ρ a w aj hv=>by
  have cc:=hv x (by simp[Op.operands,Call.operands]) _ hx;have dB:=hv y (by simp[Op.operands,Call.operands]) _ hy;have e_:∀v w',(Builtin.append_ #[st,xt] ty #[a.eval x,a.eval y]).run P w=.ok v w'→(execOp a.eval ⟨dst,.call ⟨.builtin .append,#[x,y],#[st,xt]⟩,ty,pos,ar,g⟩).run P w=.ok (.value v) w':=by
   intro v w' h;simp[execOp,resolve,invoke,builtin,h]
  obtain⟨hlen,lF⟩:=aa5 (P:=P) HF dB;have jx:(gb t).length=t.length:=by simp[gb]
  -- the bytes in a new block
  have grow:∀(iB:Option Addr)(cap:Nat),a.eval x=.slice iB n cap→(∀w',w'.heap=w.heap→(Builtin.firstCells 1 n (.slice iB n cap)).run P w'=.ok (gb s).toArray w')→¬n+t.length≤cap→
    ∃v w' av,((execOp a.eval ⟨dst,.call ⟨.builtin .append,#[x,y],#[st,xt]⟩,ty,pos,ar,g⟩).run P w=.ok (.value v) w'∨((execOp a.eval ⟨dst,.call ⟨.builtin .append,#[x,y],#[st,xt]⟩,ty,pos,ar,g⟩).run P w=.ok .skip w'∧v=undef))∧Tr O w ρ U w' av ((bc,.ba (s++t))::U.set id .dead)∧V w' (Ot O av ((bc,.ba (s++t))::U.set id .dead)) av (.gs bc (n+t.length)) v:=by
   intro iB cap e1 kP hc;obtain⟨nc,Au,ac0,h2⟩:∃nc,n+t.length≤nc∧nc≤9223372036854775807∧(Builtin.append_ #[st,xt] ty #[.slice iB n cap,a.eval y]).run P w=.ok (.slice (some ⟨w.heap.size,0,none⟩) (n+t.length) nc) {w with drawn:=w.drawn+1,heap:=w.heap.push (.cells ((gb s).toArray++(gb t).toArray++Builtin.zeroCells (Value.int .u8 0).cells (nc-(n+t.length))) l8 (0,0))}:=by
    have h1:=nextslicecap_le (n+t.length) cap zO;have h2:¬Builtin.nextslicecap (n+t.length) cap*ti.bytes>281474976710656:=by rw[nM];omega
    refine⟨(n+t.length)+(w.tape w.drawn (.appendCap (n+t.length) cap l8))%(2^63-(n+t.length)),by omega,by have:=Nat.mod_lt (w.tape w.drawn (.appendCap (n+t.length) cap l8)) (show 0<2^63-(n+t.length) by omega);omega,?_⟩;have DF:=hlen w;have Dz:=lF w.drew rfl;have OF:=kP w.drew rfl;have g9:ti.bytes≠0:=by omega
    simp[Builtin.append_,bY hu,hs,bY jz,DF,hc,jT,g9,h2,Question.forced,Question.cut,OF,Dz,hz,newRow];simp only[World.alloc,World.drew];have h9:∀zs:Array Value,(gb s).toArray++((gb t).toArray++zs)=(gb s++gb t).toArray++zs:=fun zs=>by apply Array.ext';simp
    rw[h9]
   rw[←e1]at h2;have Ay:cF {w with drawn:=w.drawn+1} O ρ U:=(Tr.drawn aj (w.drawn+1) (Nat.le_succ _)).ok;have bb:=Tr.drawn aj (w.drawn+1) (Nat.le_succ _);refine⟨_,_,T.cg ρ bc ⟨w.heap.size,0,nc⟩,.inl (e_ _ _ h2),bb.trans (Tr.born (w:={w with drawn:=w.drawn+1}) Ay hid _ rfl qo CC ?_),?_⟩
   ·intro hk;refine⟨(gb s).toArray++(gb t).toArray++Builtin.zeroCells (Value.int .u8 0).cells (nc-(n+t.length)),by simp,rfl,?_,?_,ac0,?_⟩
    ·simp[KV,Value.cells,gb,hn];omega
    ·simp[hn];exact Au
    ·rw[Array.toList_append,Array.toList_append,List.take_append_of_le_length (by simp[gb])];rw[List.take_of_length_le (by simp[gb])];simp[gb]
   ·simp only[V];exact .inr ⟨by omega,_,jH ..,rfl⟩
  by_cases dn:n=0
  ·subst dn;obtain rfl:s=[]:=List.length_eq_zero_iff.1 hn;have he:∃ad,a.eval x=.slice ad 0 0:=by
    simp only[V]at cc;rcases cc with⟨_,ad,e⟩|⟨h,_⟩
    ·exact⟨ad,e⟩
    ·exact absurd rfl h
   obtain⟨ad,e1⟩:=he;by_cases hm:t=[]
   ·subst hm;refine⟨.slice ad 0 0,w,ρ,.inl (e_ _ _ ?_),by simpa using Tr.Tb (id:=id) (bc:=bc) aj,by simp[V]⟩;have h1:=lF w rfl;rw[e1];cases ad with
    |none=>simp[Builtin.append_,bY hu,hs,bY jz,hlen w]at h1⊢;simp[h1]
    |some ad=>simp[Builtin.append_,bY hu,hs,bY jz,hlen w]at h1⊢;simp[h1,storeCells]
   ·refine grow ad 0 e1 ?_ ?_
    ·intro w' _;cases ad with
     |none=>simp[Builtin.firstCells]
     |some ad=>simp[Builtin.firstCells,loadCells,loadCellsFrom]
    ·have:t.length≠0:=fun h=>hm (List.length_eq_zero_iff.1 h);omega
  ·have dO:(Ob.ba s).live=true:=by
    cases s with
    |nil=>simp at hn;exact absurd hn.symm dn
    |cons r rs=>rfl
   obtain⟨l,h3,hOl,c,h4,h5,h6,h7,h8,h9⟩:=aj.own id _ ho dO;have e1:a.eval x=.slice (some ⟨l.b,0,none⟩) n l.cap:=by
    simp only[V]at cc;rcases cc with⟨h,_⟩|⟨_,l',h8,e⟩
    ·exact absurd h dn
    ·rw[h3]at h8;cases h8;rw[e,h5]
   rw[hn]at h7 h9;have acE:∀w',w'.heap=w.heap→(Builtin.firstCells 1 n (.slice (some ⟨l.b,0,none⟩) n l.cap)).run P w'=.ok (gb s).toArray w':=by
    intro w' hw;have:=EN (P:=P) (w:=w') (b:=l.b) (c:=c) (T:=l8) (by rw[hw];exact h4) n 0 0 #[] zO;simp only[Builtin.firstCells,loadCells,Nat.mul_one];rw[this];simp[h9]
   by_cases hc:n+t.length≤l.cap
   ·have aT:=uF (P:=P) (b:=l.b) (T:=l8) (gb t) w c (0+n*1) 0 h4 (by rw[jx];omega) (VS t);have If:=run_append_room (T:=ty) (a:=⟨l.b,0,none⟩) (w:=w) hu hs jz Iq (hlen w) (lF w rfl) hc (by rw[addr_add];exact aT);have bb:=Tr.cg (o':=.ba (s++t)) aj ho dO h3 (.cells (setMany c (0+n*1+0) (gb t)) l8 (0,0)) ?_
    ·have HY:(Ob.ba (s++t)).live=true:=by
      cases s with
      |nil=>simp at hn;exact absurd hn.symm dn
      |cons r rs=>rfl
     have HO:(U.set id (.ba (s++t))).get bc=none:=by
      rw[ae.dU];by_cases e:id=bc
      ·subst e;rw[ho]at hid;cases hid
      ·rw[if_neg e];exact hid
     have jU:=Tr.rename (id:=id) (bc:=bc) bb.ok (by rw[ae.dU];simp) HY HO h3;rw[ae.set_set]at jU;refine⟨_,_,Go.T.cg ρ bc l,.inl (e_ _ _ (by rw[e1];exact If)),bb.trans jU,?_⟩;simp only[V];exact .inr ⟨by omega,l,jH ..,by rw[h5]⟩
    ·intro hk;refine⟨_,by simp[(Array.getElem?_eq_some_iff.1 h4).1];rfl,h5,by rw[ER];exact h6,by simp[hn];exact hc,h8,?_⟩;rw[BS _ _ _ (by rw[jx];omega)];rw[h9,List.length_append,hn];rw[List.take_append_of_le_length (by simp[gb,hn])];rw[List.take_of_length_le (by simp[gb,hn])];simp[gb]
   ·exact grow (some ⟨l.b,0,none⟩) l.cap e1 acE hc
end
end Go.T
namespace Go.T
open Go
variable[bV]
theorem Tr.aha{O:Nat→Prop}{w:World}{ρ:aA}{U:ae}(id:Nat)(aj:cF w O ρ U):Tr O w ρ U w ρ ((id,.ba [])::U):=by
 have look:∀i x,ae.get ((id,Ob.ba [])::U) i=some x→x.live=true→U.get i=some x:=by
  intro i x h1 h2;rw[ae.aZ]at h1;by_cases e:id=i
  ·simp only[if_pos e,Option.some.injEq]at h1;subst h1;simp[Ob.live]at h2
  ·rw[if_neg e]at h1;exact h1
 have kJ:∀b,bQ ρ ((id,.ba [])::U) b→bQ ρ U b:=by
  rintro b ⟨i,x,l,h1,h2,h3⟩;exact⟨i,x,l,look i x h1 h2,h2,h3⟩
 have hk:Kept w (Ot O ρ U) w (Ot O ρ ((id,.ba [])::U)):=Kept.eN fun b=>Or.imp _root_.id (kJ b);refine⟨bA.refl _,Nat.le_refl _,fun _ _ _=>rfl,fun b hb=>.inl (kJ b hb),⟨aj.lt,?_,?_,?_⟩,rfl,rfl,gv.eq rfl rfl⟩
 ·intro i hi;rw[ae.aZ]at hi;by_cases e:id=i
  ·simp[e]at hi
  ·rw[if_neg e]at hi;exact aj.fresh i hi
 ·intro i x h1 h2;obtain⟨l,h3,h4,h5⟩:=aj.own i x (look i x h1 h2) h2;exact⟨l,h3,h4,h5.mono hk (bA.refl _) rfl⟩
 ·intro i j x x' l1 l2 h1 h2 h3 h4;exact aj.inj i j x x' l1 l2 (look i x h1 h3) (look j x' h2 h4) h3 h4
section
variable{P:Program} {env:Env} {dst:Option Tmp} {ty:TypeId} {pos:String} {ar:Array Edge} {g:Option (Nat×Bool)}
theorem ahD{U:ae}(id j:Nat)(hz:∀w,(zeroValue nG).run P w=.ok (.agg #[.pointer none,.slice none 0 0]) w)(hid:U.get id=none):aq P ⟨dst,.alloc nG,ty,pos,ar,g⟩ env U (.box id 0) ((j,.ba [])::(id,.d_ j 0)::U):=
 .step fun O ρ a w aj hv=>by
  have e_:(Instr.alloc nG true (.tuple #[])).run P w=.ok (.pointer (some ⟨w.heap.size,0,none⟩)) {w with heap:=w.heap.push (.cells #[.pointer none,.slice none 0 0] nG (0,0))}:=by
   simp[Instr.alloc,newVar,newRow,hz,Value.cells,run_newObj_alloc]
  have bb:Tr O w ρ U {w with heap:=w.heap.push (.cells #[.pointer none,.slice none 0 0] nG (0,0))} (cg ρ id ⟨w.heap.size,0,0⟩) ((id,.d_ j 0)::U):=
   Tr.born aj hid _ rfl (fun i x h _=>h) (fun i h=>h) (fun _=>⟨.pointer none,.slice none 0 0,by simp,.inl rfl,.inl ⟨rfl,none,rfl⟩⟩)
  have jU:=Tr.aha j bb.ok;refine⟨_,_,_,.inl (by simp[execOp,e_];rfl),bb.trans jU,?_⟩;simp only[V];exact⟨_,jH ..,rfl⟩
theorem JV{t e:TypeId}{x:Operand}{id j n:Nat}{s:aa}{U:ae}(ht:∀w,(isAgg t).run P w=.ok false w)(hx:env.op x=some (.box id 1))(ho:U.get id=some (.d_ j n))(hj:U.get j=some (.ba s))(hn:s.length=n):aq P ⟨dst,.load t x,ty,pos,ar,g⟩ env U (.gs j n) U:=
 .val fun O ρ a w aj hv=>by
  have h1:=hv x (by simp[Op.operands]) _ hx;simp only[V]at h1;obtain⟨l,h2,e⟩:=h1;obtain⟨l',h3,_,p,v,h4,h5,h6⟩:=aj.own id _ ho rfl;rw[h2]at h3;cases h3;have hc:w.cell? ⟨l.b,1,none⟩=some v:=by simp[World.cell?,h4]
  refine⟨v,by simp[execOp,Instr.loadAt,Instr.sureAddr,e,loadVar,ht,hc],?_⟩;simp only[V];rcases h6 with h6|⟨h6,lj,h7,h8⟩
  ·exact .inl h6
  ·refine .inr ⟨h6,lj,h7,?_⟩;have dO:(Ob.ba s).live=true:=by
    cases s with
    |nil=>simp at hn;exact absurd hn.symm h6
    |cons r rs=>rfl
   obtain⟨Qq,h9,_,c,_,cK,_⟩:=aj.own j _ hj dO;rw[h7]at h9;cases h9;rw[h8,cK]
theorem J1{t:TypeId}{x y:Operand}{id j n j' n':Nat}{s:aa}{U:ae}(hs:∀w,(sizeOf t).run P w=.ok 1 w)(hx:env.op x=some (.box id 1))(hy:env.op y=some (.gs j' n'))(ho:U.get id=some (.d_ j n))(hj:U.get j'=some (.ba s))(hn:s.length=n'):
  aq P ⟨dst,.store t x y,ty,pos,ar,g⟩ env U (.raw undef) (U.set id (.d_ j' n')):=
 .step fun O ρ a w aj hv=>by
  have h1:=hv x (by simp[Op.operands]) _ hx;have kO:=hv y (by simp[Op.operands]) _ hy;simp only[V]at h1;obtain⟨l,h2,e⟩:=h1;obtain⟨l',h3,hO,p,v,h4,h5,h6⟩:=aj.own id _ ho rfl;rw[h2]at h3;cases h3;have h7:=uF (P:=P) [a.eval y] w #[p,v] 1 0 h4 zS (by simpa using kO.one rfl);have h8:(a.eval y).cells=#[a.eval y]:=cells_one (kO.one rfl);refine⟨undef,_,ρ,.inr ⟨?_,rfl⟩,Tr.cg (o':=.d_ j' n') aj ho rfl h2 (.cells (setMany #[p,v] (1+0) [a.eval y]) nG (0,0)) ?_,by simp[V]⟩
  ·simp[execOp,Instr.storeAt,Instr.sureAddr,e,storeVar,h8,hs,h7]
  ·intro hk;have pI:setMany #[p,v] (1+0) [a.eval y]=#[p,a.eval y]:=by simp[setMany]
   refine⟨p,a.eval y,by rw[pI];simp[(Array.getElem?_eq_some_iff.1 h4).1],h5,?_⟩;simp only[V]at kO;rcases kO with h9|⟨h9,lj,cK,cM⟩
   ·exact .inl h9
   ·refine .inr ⟨h9,lj,cK,?_⟩;have dO:(Ob.ba s).live=true:=by
     cases s with
     |nil=>simp at hn;exact absurd hn.symm h9
     |cons r rs=>rfl
    obtain⟨Qq,dN,_,c,_,fh,_⟩:=aj.own j' _ hj dO;rw[cK]at dN;cases dN;rw[cM,fh]
end
theorem Le.J6{F:Fr}{env:Env}{U:ae}{n:Nat}{s:aa}(id j j':Nat)(ho:U.get id=some (.d_ j n))(hj:U.get j=some (.ba s))(hn:s.length=n)(hid:U.get j'=none):
  Le F env U env (ae.set ((j',.ba s)::U.set j .dead) id (.d_ j' n)):=.step fun O ρ w f aj hv=>by
 have acS:id≠j:=by rintro rfl;rw[ho]at hj;cases hj
 have acT:id≠j':=by rintro rfl;rw[ho]at hid;cases hid
 have hjj:j≠j':=by rintro rfl;rw[hj]at hid;cases hid
 have TQ:∀(av:aA),Tr O w ρ U w av ((j',.ba s)::U.set j .dead)→(n≠0→∀lj,ρ j=some lj→av j'=some lj)→∃av,Tr O w ρ U w av (ae.set ((j',.ba s)::U.set j .dead) id (.d_ j' n))∧∀t d,env.get t=some d→V w (Ot O av (ae.set ((j',.ba s)::U.set j .dead) id (.d_ j' n))) av d (f t):=by
  intro av bb jR;have hg:ae.get ((j',Ob.ba s)::U.set j .dead) id=some (.d_ j n):=by
   rw[ae.aZ,if_neg (Ne.symm acT),ae.dU,if_neg (Ne.symm acS)];exact ho
  obtain⟨l,h3,h4,p,v,h5,h6,h7⟩:=bb.ok.own id _ hg rfl;have adc:{w with heap:=w.heap.setIfInBounds l.b (.cells #[p,v] nG (0,0))}=w:=by
   have:w.heap.setIfInBounds l.b (.cells #[p,v] nG (0,0))=w.heap:=by
    apply Array.ext zS;intro i h1 h2;rw[Array.getElem_setIfInBounds];split
    ·rename_i e;subst e;exact(Option.some.inj ((Array.getElem?_eq_getElem h2).symm.trans h5)).symm
    ·rfl
   rw[this]
  have jU:=Tr.cg (o':=.d_ j' n) bb.ok hg rfl h3 (.cells #[p,v] nG (0,0)) (fun hk=>⟨p,v,by simp[(Array.getElem?_eq_some_iff.1 h5).1],h6,?_⟩)
  ·rw[adc]at jU;have h:=bb.trans jU;exact⟨av,h,fun t d hd=>h.V (hv t d hd)⟩
  ·rcases h7 with h7|⟨h7,lj,h8,h9⟩
   ·exact .inl h7
   ·have dO:(Ob.ba s).live=true:=by
     cases s with
     |nil=>simp at hn;exact absurd hn.symm h7
     |cons r rs=>rfl
    obtain⟨IK,g1,_⟩:=aj.own j _ hj dO;have:=bb.le j IK g1;rw[this]at h8;have e:=Option.some.inj h8;exact .inr ⟨h7,IK,jR h7 IK g1,by rw[e];exact h9⟩
 cases s with
 |nil=>
  simp at hn;exact TQ ρ (Tr.Tb (id:=j) (bc:=j') aj) (fun h=>absurd hn.symm h)
 |cons c r=>
  obtain⟨l,h3,_⟩:=aj.own j _ hj rfl;exact TQ _ (Tr.rename (id:=j) (bc:=j') aj hj rfl hid h3) (fun _ lj jR=>by rw[h3]at jR;cases jR;exact jH ..)
end Go.T
namespace Go.T
open Go
variable[bV]
section
variable{P:Program} {env:Env} {dst:Option Tmp} {ty:TypeId} {pos:String} {ar:Array Edge} {g:Option (Nat×Bool)}
theorem afp{z:Value}(hz:z.cells=#[z])(n k:Nat):madeCells z.cells (n+k)=(List.replicate n z).toArray++(List.replicate k z).toArray:=by
 rw[hz];apply Array.ext
 ·simp[madeCells]
 ·intro i h1 h2;simp only[madeCells,Array.getElem_map,Array.getElem_range];have:i%(#[z]:Array Value).size=0:=by simp[Nat.mod_one]
  rw[this];simp only[Array.size_append,List.size_toArray,List.length_replicate]at h2;by_cases h:i<n
  ·rw[Array.getElem_append_left (by simpa using h)];simp
  ·rw[Array.getElem_append_right zQ];simp
theorem Tq{t e:TypeId}{ti:TypeInfo}{z:Value}{n m:Nat}(hu:P.underlying t=some (.slice e))(hs:∀w,(sizeOf e).run P w=.ok 1 w)(jT:∀w,(typeInfo e).run P w=.ok ti w)(hz:∀w,(zeroValue e).run P w=.ok z w)
  (H5:n≤m)(h0:m≠0)(hb:ti.bytes*m≤281474976710656)(Oe:m≤9223372036854775807)(w:World):
  (Instr.makeSlice t (.int .i64 n) (.int .i64 m)).run P w=.ok (.slice (some ⟨w.heap.size,0,none⟩) n m) (w.alloc (.cells (madeCells z.cells m) e)):=by
 have wl:IntKind.i64.wrap (n:Int)=n:=by rw[IntKind.wrap_i64];omega
 have wc:IntKind.i64.wrap (m:Int)=m:=by rw[IntKind.wrap_i64];omega
 have n1:¬(m:Int)<0:=by omega
 have n2:¬(281474976710656<(ti.bytes:Int)*(m:Int)):=by rw[←Int.natCast_mul];omega
 have n3:¬(n:Int)<0:=by omega
 have n4:¬(m:Int)<n:=by omega
 simp[Instr.makeSlice,run_underlying hu,asInt,asIntOf,jT,hs,hz,wl,wc,n1,n2,n3,n4,h0,newRow,madeCells]
theorem wN{t e:TypeId}{ti:TypeInfo}{z:Value}{x y:Operand}{m bt:Nat}{nx ny:Int}{U:ae}(id n:Nat)(hu:P.underlying t=some (.slice e))(hs:∀w,(sizeOf e).run P w=.ok 1 w)(jT:∀w,(typeInfo e).run P w=.ok ti w)(hz:∀w,(zeroValue e).run P w=.ok z w)
  (Is:z.cells=#[z])(pL:z.oneCell'=true)(nM:ti.bytes=bt)(hx:env.op x=some (.raw (.int .i64 nx)))(hy:env.op y=some (.raw (.int .i64 ny)))(Aw:nx=(n:Int))(Ax:ny=(m:Int))(H5:n≤m)(dn:n≠0)(hb:bt*m≤281474976710656)(Oe:m≤1000000000000)(hid:U.get id=none):
  aq P ⟨dst,.makeSlice t x y,ty,pos,ar,g⟩ env U (.gs id n) ((id,.arr 1 (List.replicate n [.raw z]))::U):=
 .step fun O ρ a w aj hv=>by
  have cc:=hv x (by simp[Op.operands]) _ hx;have dB:=hv y (by simp[Op.operands]) _ hy;simp only[V]at cc dB;subst Aw;subst Ax;have hr:=Tq (n:=n) (m:=m) hu hs jT hz H5 zO (by rw[nM];exact hb) zO w;obtain⟨k,rfl⟩:=Nat.exists_eq_add_of_le H5;rw[afp Is]at hr;refine⟨.slice (some ⟨w.heap.size,0,none⟩) n (n+k),_,T.cg ρ id ⟨w.heap.size,0,n+k⟩,.inl ?_,Tr.born aj hid (.cells ((List.replicate n z).toArray++(List.replicate k z).toArray) e) rfl (fun i x h _=>h) (fun i h=>h) ?_,?_⟩
  ·simp only[execOp,cc,dB];rw[Sem.run_bind,hr];rfl
  ·intro hk;refine gw.grown (w:=w) (T:=e) (O:=Ot O ρ U) (vs:=List.replicate n z) (zs:=(List.replicate k z).toArray) zS zS zS zS (by simp[aG];omega) (by intro r hr;rw[List.eq_of_mem_replicate hr];rfl) ?_ ?_ hk
   ·have:∀n,Vs w (Ot O ρ U) di (List.replicate n [D.raw z]).flatten (List.replicate n z):=by
     intro n;induction n with
     |zero=>simp[Vs]
     |succ n ih=>rw[List.replicate_succ,List.replicate_succ];exact⟨_,_,rfl,by simp[V],ih⟩
    exact this n
   ·intro v ij;rw[List.eq_of_mem_replicate ij];exact pL
  ·simp only[V];exact .inr ⟨dn,⟨w.heap.size,0,n+k⟩,by simp[T.cg],rfl⟩
theorem ah1{t e:TypeId}{ti:TypeInfo}{z:Value}{x y:Operand}{m bt:Nat}{nx ny:Int}(hu:P.underlying t=some (.slice e))(hs:∀w,(sizeOf e).run P w=.ok 1 w)(jT:∀w,(typeInfo e).run P w=.ok ti w)(hz:∀w,(zeroValue e).run P w=.ok z w)
  (nM:ti.bytes=bt)(hx:env.op x=some (.raw (.int .i64 nx)))(hy:env.op y=some (.raw (.int .i64 ny)))(Aw:nx=0)(Ax:ny=(m:Int))(h0:m≠0)(hb:bt*m≤281474976710656)(Oe:m≤1000000000000)(U:ae):
  aq P ⟨dst,.makeSlice t x y,ty,pos,ar,g⟩ env U (.snap 1 false []) U:=
 .step fun O ρ a w aj hv=>by
  have cc:=hv x (by simp[Op.operands]) _ hx;have dB:=hv y (by simp[Op.operands]) _ hy;simp only[V]at cc dB;subst Aw;subst Ax;have hr:=Tq (n:=0) (m:=m) hu hs jT hz zO h0 (by rw[nM];exact hb) zO w;refine⟨.slice (some ⟨w.heap.size,0,none⟩) 0 m,w.alloc (.cells (madeCells z.cells m) e),ρ,.inl ?_,Tr.o_ ⟨by simp,fun b hb=>by show(w.heap.push _)[b]?=_;rw[Array.getElem?_push,if_neg (Nat.ne_of_lt hb)],rfl,rfl,gv.eq rfl rfl⟩ aj,?_⟩
  ·simp only[execOp,cc,dB];rw[Sem.run_bind];have kN:(Instr.makeSlice t (.int .i64 0) (.int .i64 (m:Int))).run P w=.ok (.slice (some ⟨w.heap.size,0,none⟩) 0 m) (w.alloc (.cells (madeCells z.cells m) e)):=hr;rw[kN];rfl
  ·simp[V,aG]
theorem SI{t e xt:TypeId}{x y:Operand}{id n:Nat}{fF:Bool}{rows new:List (List D)}{U:ae}(hu:P.underlying t=some (.slice e))(hs:∀w,(sizeOf e).run P w=.ok 1 w)
  (hx:env.op x=some (.gs id n))(hy:env.op y=some (.snap 1 fF new))(ho:U.get id=some (.arr 1 rows))(hn:rows.length=n)(hm:new.length=n)(dn:n≠0):
  aq P ⟨dst,.call ⟨.builtin .copy,#[x,y],#[t,xt]⟩,ty,pos,ar,g⟩ env U (.raw (.int .i64 n)) (U.set id (.arr 1 new)):=
 .step fun O ρ a w aj hv=>by
  have cc:=hv x (by simp[Op.operands,Call.operands]) _ hx;have dB:=hv y (by simp[Op.operands,Call.operands]) _ hy;obtain⟨hlen,us,lF,mo,qG,jx,fq⟩:=wW (P:=P) dB;simp only[V]at cc;rcases cc with⟨e0,_⟩|⟨_,l,h2,e1⟩
  ·exact absurd e0 dn
  have dO:(Ob.arr 1 rows).live=true:=by
   cases rows with
   |nil=>exact absurd hn.symm dn
   |cons=>rfl
  obtain⟨l',h3,_,c,T,h4,hc,DH,h5⟩:=aj.own id _ ho dO;rw[h2]at h3;cases h3;have apf:us.length=n:=by rw[jx,hm,Nat.mul_one]
  have h6:=uF (P:=P) us w c l.off 0 h4 zO qG;rw[hm]at hlen lF;refine⟨.int .i64 n,_,ρ,.inl ?_,Tr.cg (o':=.arr 1 new) aj ho dO h2 (.cells (setMany c (l.off+0) us) T (0,0)) ?_,by simp[V]⟩
  ·simp[execOp,resolve,invoke,builtin,Builtin.copy_,run_underlying hu,e1,hlen,hs,lF w rfl,h6,goInt,Nat.min_self]
  ·intro hk;refine⟨setMany c l.off us,T,by simp[(Array.getElem?_eq_some_iff.1 h4).1],by rw[ER];exact hc,by rw[hm,←hn];exact DH,?_⟩;have iw:new.flatten.length=us.length:=mo.length.symm;have tU:((setMany c l.off us).toList.drop l.off).take new.flatten.length=us:=by
    rw[iw,BS us c l.off zO,List.append_assoc,List.drop_append_of_le_length zQ,List.drop_of_length_le zQ];simp
   refine Vr.q_ (c:=setMany c l.off us) (T:=T) (fr:=(0,0)) (by simp[(Array.getElem?_eq_some_iff.1 h4).1]) new l.off fq ?_ ?_
   ·rw[tU];exact Vs.mono hk (bA.refl _) _ _ mo
   ·rw[tU];exact qG
theorem ahM{t e xt:TypeId}{x y:Operand}{fF G1:Bool}{sz:Nat}(hu:P.underlying t=some (.slice e))(hs:∀w,(sizeOf e).run P w=.ok sz w)
  (hx:env.op x=some (.snap sz fF []))(hy:env.op y=some (.snap sz G1 []))(U:ae):
  aq P ⟨dst,.call ⟨.builtin .copy,#[x,y],#[t,xt]⟩,ty,pos,ar,g⟩ env U (.raw (.int .i64 0)) U:=
 .step fun O ρ a w aj hv=>by
  have cc:=hv x (by simp[Op.operands,Call.operands]) _ hx;have dB:=hv y (by simp[Op.operands,Call.operands]) _ hy;obtain⟨hlen,us,lF,mo,qG,jx,fq⟩:=wW (P:=P) dB;simp only[V]at cc;obtain⟨b,cap,e1,_⟩:=cc;have AJ:us=[]:=List.length_eq_zero_iff.1 (by simpa using jx);subst AJ;have hf:=lF w rfl;simp only[List.length_nil]at hlen hf e1;refine⟨.int .i64 0,w,ρ,.inl ?_,Tr.refl aj,by simp[V]⟩;cases b with
  |none=>simp[execOp,resolve,invoke,builtin,Builtin.copy_,run_underlying hu,e1,hlen,hs,hf,goInt]
  |some b=>simp[execOp,resolve,invoke,builtin,Builtin.copy_,run_underlying hu,e1,hlen,hs,hf,goInt,storeCells]
theorem aiP{t e:TypeId}{op:BinOp}(hu:P.underlying t=some (.slice e))(b:Option Addr)(n m:Nat)(w:World):(Op.equal t (.slice b n m) (.slice none 0 0)).run P w=.ok b.isNone w:=by
 show(Op.equalIn (9999+1) t (.slice b n m) (.slice none 0 0)).run P w=_;rw[Op.equalIn];cases b<;>simp[bY hu]
theorem SJ{t t' e:TypeId}{x y:Operand}{sz:Nat}{fF:Bool}{rows:List (List D)}(hu:P.underlying t=some (.slice e))(hx:env.op x=some (.snap sz fF rows))(hy:env.op y=some (.raw (.slice none 0 0)))(U:ae):
  rF P ⟨dst,.binOp .eql t x y t',ty,pos,ar,g⟩ env U (fun b:Bool=>rows≠[]→b=false) (fun b=>.raw (.bool b)) (fun _=>U):=by
 intro O ρ a w aj cQ hv;have cc:=hv x (by simp[Op.operands]) _ hx;have dB:=hv y (by simp[Op.operands]) _ hy;simp only[V]at cc dB;obtain⟨b,cap,e1,_,_,h3⟩:=cc;have hr:(execOp a.eval ⟨dst,.binOp .eql t x y t',ty,pos,ar,g⟩).run P w=.ok (.value (.bool b.isNone)) w:=by
  simp[execOp,e1,dB,eqGuard,binOp,aiP (op:=.eql) hu]
 unfold Oper.wp;rw[hr];refine⟨b.isNone,ρ,_,?_,rfl,Tr.refl aj,by simp[V]⟩;intro aB;obtain⟨b',off,rfl,_⟩:=h3 aB;rfl
theorem ahQ{t t' e:TypeId}{x y:Operand}{sz:Nat}{fF:Bool}{rows:List (List D)}(hu:P.underlying t=some (.slice e))(hx:env.op x=some (.snap sz fF rows))(hy:env.op y=some (.raw (.slice none 0 0)))(aB:rows≠[])(U:ae):
  aq P ⟨dst,.binOp .eql t x y t',ty,pos,ar,g⟩ env U (.raw (.bool false)) U:=by
 intro O ρ a w aj cQ hv;refine Oper.wp_mono ?_ (SJ hu hx hy U O ρ a w aj cQ hv);rintro a' w' ⟨i,av,v,hA,h⟩;cases hA aB;exact⟨av,v,h⟩
end
end Go.T
namespace Go.T
open Go
variable[bV]
def aby(b:Bool):List (List D):=match b with
 |true=>[]
 |false=>[[.box 0 0]]
@[reducible] def ghost(b:Bool):Ob:=.arr 1 (aby b)
def NK(lo aH:Nat)(o:ae):Bool:=o.all fun p=>!(Nat.ble lo p.1&&Nat.blt p.1 (lo+100))&&!(Nat.beq p.1 aH)
theorem NL{lo aH:Nat}:∀{o:ae},NK lo aH o=true→∀i,(lo≤i∧i<lo+100)∨i=aH→o.get i=none
 |[],_,i,_=>rfl
 |(t,d)::r,h,i,hi=>by
  simp only[NK,List.all_cons,Bool.and_eq_true]at h;rw[ae.aZ,if_neg,NL (o:=r) h.2 i hi];rintro rfl;obtain⟨⟨h1,h2⟩,_⟩:=h;rcases hi with⟨a,b⟩|rfl
  ·have e1:Nat.ble lo t=true:=by rw[Nat.ble_eq];exact a
   have e2:Nat.blt t (lo+100)=true:=by rw[Nat.blt_eq];exact b
   simp[e1,e2]at h1
  ·simp at h2
end Go.T
namespace Go.T
open Go
variable[bV]
structure iO(P:Program)(F:Fr)(ops:Array Oper)(K:Env→ae→Prop)(dx:Nat)(listed:Array Bool)(env:Env)(U:ae):Prop where
 out:∀(C:Ctx)(Q:Exit→Act→World→Prop),(∀a w aQ ak,K aQ ak→St F C aQ ak a w→Q .normal a w)→∀a w,St F C env U a w→wpAnyIn (fz C.ro) 0 P .any ops Q dx listed a w
section
variable{P:Program} {F:Fr} {ops:Array Oper} {K:Env→ae→Prop} {dx:Nat} {listed:Array Bool} {env:Env} {U:ae}
theorem iO.nil(hr:Region.ready .any ops listed=[])(h:K env U):iO P F ops K 0 listed env U:=⟨fun _ _ hQ a w hs=>⟨hr,hQ a w env U h hs⟩⟩
structure Cd(P:Program)(F:Fr)(ops:Array Oper)(K:Env→ae→Prop)(dx:Nat)(listed:Array Bool)(env:Env)(U:ae)(i:Nat):Prop where
 out:∃o d ak,ops[i]?=some o∧ed F.N o.dst=true∧On ops env o∧aq P o env U d ak∧iO P F ops K dx (listed.setIfInBounds i true) (env.put o.dst d) ak
theorem Cd.mk'{i:Nat}{o:Oper}{d:D}{ak:ae}(ho:ops[i]?=some o)(hd:ed F.N o.dst=true)(hg:On ops env o)(hq:aq P o env U d ak)(k:iO P F ops K dx (listed.setIfInBounds i true) (env.put o.dst d) ak):Cd P F ops K dx listed env U i:=⟨o,d,ak,ho,hd,hg,hq,k⟩
theorem iO.step{l:List Nat}(hr:Region.ready .any ops listed=l)(hn:l≠[])(h:∀i∈l,Cd P F ops K dx listed env U i):iO P F ops K (dx+1) listed env U:=⟨fun C Q hQ a w hs=>by
 refine⟨fun e=>absurd (hr▸e) hn,fun i hi=>?_⟩;rw[hr]at hi;obtain⟨o,d,ak,ho,hd,hg,hq,k⟩:=(h i hi).out;obtain⟨ρ,aT⟩:=hs;unfold wpOpIn;simp only[ho];rw[if_pos (B7 hg fun g b t _ _ d hd=>aT.env t d hd)];have:=hq C.O ρ a w aT.tr.ok aT.vB (fun x _ d' h=>sH aT.env x d' h);refine Oper.wpIn_mono ?_ (w9 C.ro this (by rintro a' w' ⟨av,v,rfl,_⟩;exact Act.k9 ..));rintro a' w' ⟨av,v,rfl,jw,hv⟩;exact k.out C Q hQ _ _ ⟨av,aT.step jw (tD aT.size hd (fun t d h=>jw.V (aT.env t d h)) hv) (Act.s6 _ _ _) (Act.k9 ..)⟩⟩
end
end Go.T
namespace Go.T
open Go
variable[bV]
abbrev SM:=List (aa×aa)
@[reducible] def qs(m:SM):List (D×D):=m.map fun p=>(.str p.1,.str p.2)
def UO(es:List MapEntry)(m:SM)(n:Nat):Prop:=es.length=m.length∧∀i k v,m[i]?=some (k,v)→∃e,es[i]?=some e∧e.born=n+i∧e.key=.string ⟨k.toArray⟩∧e.val=.string ⟨v.toArray⟩
theorem TR(a b:aa):((⟨a.toArray⟩:ByteArray)==⟨b.toArray⟩)=decide (a=b):=by
  have e:((⟨a.toArray⟩:ByteArray)==⟨b.toArray⟩)=(a.toArray==b.toArray):=rfl;rw[e,Bool.eq_iff_iff];simp
theorem ahb{w:World}{O:Nat→Prop}{ρ:aA}{l:Loc}{m:SM}{es:Array MapEntry}(h1:w.heap[l.b]?=some (.map es m.length))(h2:UO es.toList m 0)(h3:∀p∈m,p.1.length≤aG∧p.2.length≤aG):gw w O ρ l (.mp (qs m)):=by
  refine⟨es,by simpa[qs]using h1,by simpa[qs]using h2.1,fun i kd vd hi=>?_⟩;simp only[qs,List.getElem?_map,Option.map_eq_some_iff]at hi;obtain⟨⟨k,v⟩,g1,g2⟩:=hi;cases g2;obtain⟨e,g3,g4,g5,g6⟩:=h2.2 i k v g1;have:=h3 _ (List.mem_of_getElem? g1);exact⟨e,by simpa using g3,by omega,by simp only[V];exact⟨g5,this.1⟩,by simp only[V];exact⟨g6,this.2⟩⟩
section
variable{P:Program} {env:Env} {dst:Option Tmp} {ty:TypeId} {pos:String} {ar:Array Edge} {g:Option (Nat×Bool)}
theorem ah0{t:TypeId}{U:ae}(id:Nat)(hid:U.get id=none):aq P ⟨dst,.makeMap t none,ty,pos,ar,g⟩ env U (.bu id) ((id,.mp (qs []))::U):=
  .step fun O ρ a w aj hv=>by
    refine⟨.map (some w.heap.size),_,T.cg ρ id ⟨w.heap.size,0,0⟩,.inl ?_,Tr.born aj hid (.map #[] 0) rfl (fun i x h _=>h) (fun i h=>h) ?_,?_⟩
    · simp only[execOp,Option.map_none]
      rw[Sem.run_bind];rfl
    · intro hk
      exact ahb (m:=[]) (es:=#[]) zS ⟨rfl,fun i k v h=>by simp at h⟩ zS
    · simp only[V];exact⟨⟨w.heap.size,0,0⟩,by simp[T.cg],rfl⟩
end
end Go.T
namespace Go.T
open Go
variable[bV]
open Go.ChangeMaps (setBlock)
section
variable{P:Program} {env:Env} {dst:Option Tmp} {ty:TypeId} {pos:String} {ar:Array Edge} {g:Option (Nat×Bool)}
end
end Go.T
namespace Go.T
open Go
variable[bV]
section
variable{P:Program} {env:Env} {dst:Option Tmp} {ty:TypeId} {pos:String} {ar:Array Edge} {g:Option (Nat×Bool)}
end
end Go.T
namespace Go.T
open Go
open Go.ChangeMaps (setBlock)
variable[bV]
variable{κ β:Type} [DecidableEq κ]
def js(k:κ):List κ→Nat→Option Nat
 |[],_=>none
 |x::r,i=>if k=x then some i else js k r (i+1)
structure jI(P:Program)(kt:TypeId)(kD:κ→D)(kV:κ→Value)(gi:κ→Prop):Prop where
 val:∀{w:World}{O:Nat→Prop}{ρ:aA}{k:κ}{v:Value},V w O ρ (kD k) v→v=kV k∧gi k
 back:∀{w:World}{O:Nat→Prop}{ρ:aA}{k:κ},gi k→V w O ρ (kD k) (kV k)
 check:∀(b:Bool)(k:κ)(w:World),gi k→(Instr.checkKey b 10000 kt (kV k)).run P w=.ok () w
 find:∀(k:κ)(es:List MapEntry)(ks:List κ)(w:World),es.map (·.key)=ks.map kV→(∀x∈ks,gi x)→gi k→
  (Instr.findKey kt (kV k) es).run P w=.ok ((js k ks 0).map fun j=>(j,(es[j]?.map (·.val)).getD undef)) w
 stays:∀(k:κ)(w:World),(Instr.keyThatStays (kV k) (kV k)).run P w=.ok (kV k) w
@[reducible] def aS(kD:κ→D)(vD:β→D)(m:List (κ×β)):List (D×D):=m.map fun p=>(kD p.1,vD p.2)
def cN(d:β):List (κ×β)→κ→β
 |[],_=>d
 |(a,v)::r,k=>if k=a then v else cN d r k
def iU(m:List (κ×β))(k:κ):Bool:=m.any fun p=>decide (k=p.1)
def dm:List (κ×β)→κ→β→List (κ×β)
 |[],k,v=>[(k,v)]
 |(a,u)::r,k,v=>if k=a then(k,v)::r else(a,u)::dm r k v
theorem zY(d:β)(k:κ):∀(m:List (κ×β))(i:Nat),
  (js k (m.map (·.1)) i=none∧iU m k=false∧cN d m k=d∧∀v,dm m k v=m++[(k,v)])∨
  (∃j,j<m.length∧js k (m.map (·.1)) i=some (i+j)∧m[j]?=some (k,cN d m k)∧iU m k=true∧∀v,dm m k v=m.set j (k,v))
 |[],i=>.inl ⟨rfl,rfl,rfl,fun _=>rfl⟩
 |(a,u)::m,i=>by
  by_cases h:k=a
  ·subst h;exact .inr ⟨0,by simp,by simp[js],by simp[cN],by simp[iU],fun v=>by simp[dm]⟩
  ·rcases zY d k m (i+1)with⟨h1,h2,h3,h4⟩|⟨j,h1,h2,h3,h4,h5⟩
   ·exact .inl ⟨by simp[js,h,h1],by simpa[iU,h]using h2,by simp[cN,h,h3],fun v=>by simp[dm,h,h4]⟩
   ·exact .inr ⟨j+1,by simp;omega,by simp only[List.map_cons,js,h,if_false,h2];congr 1;omega,by simpa[cN,h]using h3,by simpa[iU,h]using h4,fun v=>by simp[dm,h,h5]⟩
section
variable{P:Program} {kt:TypeId} {kD:κ→D} {kV:κ→Value} {gi:κ→Prop} {vD:β→D}
structure rA(w:World)(O:Nat→Prop)(ρ:aA)(kV:κ→Value)(vD:β→D)(es:Array MapEntry)(m:List (κ×β)):Prop where
 len:es.size=m.length
 at_:∀(i:Nat)(k:κ)(v:β),m[i]?=some (k,v)→∃e,es[i]?=some e∧e.born=i∧e.key=kV k∧V w O ρ (vD v) e.val
theorem rA.keys{w:World}{O:Nat→Prop}{ρ:aA}{es:Array MapEntry}{m:List (κ×β)}(h:rA w O ρ kV vD es m):es.toList.map (·.key)=(m.map (·.1)).map kV:=by
 apply List.ext_getElem?;intro i;simp only[List.getElem?_map,Array.getElem?_toList];rcases Nat.lt_or_ge i m.length with g|g
 ·obtain⟨e,g1,_,g3,_⟩:=h.at_ i (m[i]).1 (m[i]).2 (by simp[g]);rw[g1,List.getElem?_eq_getElem g];simp[g3]
 ·rw[Array.getElem?_eq_none (by rw[h.len];exact g),List.getElem?_eq_none g];rfl
theorem Bp(hK:jI P kt kD kV gi){w:World}{O:Nat→Prop}{ρ:aA}{l:Loc}{m:List (κ×β)}(h:gw w O ρ l (.mp (aS kD vD m))):∃es,w.heap[l.b]?=some (.map es m.length)∧rA w O ρ kV vD es m∧∀k∈m.map (·.1),gi k:=by
 obtain⟨es,h1,h2,h3⟩:=h;simp only[aS,List.length_map]at h1 h2;have key:∀(i:Nat)(k:κ)(v:β),m[i]?=some (k,v)→∃e:MapEntry,es[i]?=some e∧e.born=i∧e.key=kV k∧V w O ρ (vD v) e.val∧gi k:=by
  intro i k v hi;obtain⟨e,g1,g2,g3,g4⟩:=h3 i (kD k) (vD v) (by simp[aS,hi]);have:=hK.val g3;exact⟨e,g1,g2,this.1,g4,this.2⟩
 refine⟨es,h1,⟨h2,fun i k v hi=>?_⟩,fun k hk=>?_⟩
 ·obtain⟨e,g1,g2,g3,g4,_⟩:=key i k v hi;exact⟨e,g1,g2,g3,g4⟩
 ·obtain⟨p,hp,rfl⟩:=List.mem_map.1 hk;obtain⟨i,hi⟩:=List.getElem?_of_mem hp;obtain⟨_,_,_,_,_,g5⟩:=key i p.1 p.2 hi;exact g5
theorem R4(hK:jI P kt kD kV gi){w:World}{O:Nat→Prop}{ρ:aA}{l:Loc}{m:List (κ×β)}{es:Array MapEntry}(h1:w.heap[l.b]?=some (.map es m.length))(h2:rA w O ρ kV vD es m)(h3:∀k∈m.map (·.1),gi k):gw w O ρ l (.mp (aS kD vD m)):=by
 refine⟨es,by simpa[aS]using h1,by simpa[aS]using h2.len,fun i kd vd hi=>?_⟩;simp only[aS,List.getElem?_map,Option.map_eq_some_iff]at hi;obtain⟨⟨k,v⟩,g1,g2⟩:=hi;cases g2;obtain⟨e,g3,g4,g5,g6⟩:=h2.at_ i k v g1;exact⟨e,g3,g4,by rw[g5];exact hK.back (h3 k (List.mem_map.2 ⟨(k,v),List.mem_of_getElem? g1,rfl⟩)),g6⟩
variable{env:Env} {dst:Option Tmp} {ty:TypeId} {pos:String} {ar:Array Edge} {g:Option (Nat×Bool)}
theorem kn{t:TypeId}{U:ae}(id:Nat)(kD:κ→D)(vD:β→D)(hid:U.get id=none):aq P ⟨dst,.makeMap t none,ty,pos,ar,g⟩ env U (.bu id) ((id,.mp (aS kD vD []))::U):=ah0 id hid
theorem Qs(hK:jI P kt kD kV gi){O:Nat→Prop}{ρ:aA}{w:World}{t et:TypeId}{id:Nat}{l:Loc}{m:List (κ×β)}{k:κ}{d:β}{U:ae}{zv:Value}{c:Bool}(hu:P.underlying t=some (.map kt et))(hz:(zeroValue et).run P w=.ok zv w)(r9:V w (Ot O ρ U) ρ (vD d) zv)
  (aj:cF w O ρ U)(ho:U.get id=some (.mp (aS kD vD m)))(h2:ρ id=some l)(hk:gi k):
  ∃v,V w (Ot O ρ U) ρ (vD (cN d m k)) v∧(Instr.lookup t (.map (some l.b)) (kV k) c).run P w=.ok (if c then .tuple #[v,.bool (iU m k)]else v) w:=by
 obtain⟨l',h3,_,jS⟩:=aj.own id _ ho rfl;rw[h2]at h3;cases h3;obtain⟨es,h4,h5,h6⟩:=Bp hK jS;have pC:=fun b=>hK.check b k w hk;have iH:=hK.find k es.toList (m.map (·.1)) w h5.keys h6 hk;rcases zY d k m 0 with⟨g1,g2,g3,_⟩|⟨j,gj,g1,g2,g3,_⟩
 ·refine⟨zv,by rw[g3];exact r9,?_⟩;rw[g1]at iH;cases c<;>simp[Instr.lookup,bY hu,MapKept.run_getObj_map h4,pC,iH,hz,g2]
 ·obtain⟨e,k1,k2,k3,k4⟩:=h5.at_ j k _ g2;refine⟨e.val,k4,?_⟩;rw[g1]at iH;simp only[Option.map_some,Nat.zero_add,Array.getElem?_toList,k1,Option.getD_some]at iH;cases c<;>simp[Instr.lookup,bY hu,MapKept.run_getObj_map h4,pC,iH,g3]
theorem uB(hK:jI P kt kD kV gi){t et:TypeId}{x y:Operand}{id:Nat}{m:List (κ×β)}{k:κ}{d:β}{kd:D}{U:ae}{zv:Value}(hu:P.underlying t=some (.map kt et))(hz:∀w,(zeroValue et).run P w=.ok zv w)(r9:∀(w:World) O ρ,V w O ρ (vD d) zv)
  (hx:env.op x=some (.bu id))(hy:env.op y=some kd)(pE:kd=kD k)(ho:U.get id=some (.mp (aS kD vD m))):
  aq P ⟨dst,.lookup t x y false,ty,pos,ar,g⟩ env U (vD (cN d m k)) U:=
 .val fun O ρ a w aj hv=>by
  subst pE;have cc:=hv x (by simp[Op.operands]) _ hx;have dB:=hK.val (hv y (by simp[Op.operands]) _ hy);simp only[V]at cc;obtain⟨l,h2,e1⟩:=cc;obtain⟨v,h3,h4⟩:=Qs (c:=false) hK hu (hz w) (r9 w _ ρ) aj ho h2 dB.2;exact⟨v,by simp[execOp,e1,dB.1,h4],h3⟩
theorem ahY(hK:jI P kt kD kV gi){t et:TypeId}{x y:Operand}{id:Nat}{m:List (κ×β)}{k:κ}{d:β}{kd:D}{U:ae}{zv:Value}(hu:P.underlying t=some (.map kt et))(hz:∀w,(zeroValue et).run P w=.ok zv w)(r9:∀(w:World) O ρ,V w O ρ (vD d) zv)
  (hx:env.op x=some (.bu id))(hy:env.op y=some kd)(pE:kd=kD k)(ho:U.get id=some (.mp (aS kD vD m))):
  aq P ⟨dst,.lookup t x y true,ty,pos,ar,g⟩ env U (.bf [vD (cN d m k),.b (iU m k)]) U:=
 .val fun O ρ a w aj hv=>by
  subst pE;have cc:=hv x (by simp[Op.operands]) _ hx;have dB:=hK.val (hv y (by simp[Op.operands]) _ hy);simp only[V]at cc;obtain⟨l,h2,e1⟩:=cc;obtain⟨v,h3,h4⟩:=Qs (c:=true) hK hu (hz w) (r9 w _ ρ) aj ho h2 dB.2;refine⟨.tuple #[v,.bool (iU m k)],by simp[execOp,e1,dB.1,h4],?_⟩;simp only[V,Vs];exact⟨_,rfl,_,_,rfl,h3,_,_,rfl,rfl,rfl⟩
theorem ai6(Hs:κ→Prop){m:List (κ×β)}{k:κ}{v:β}(h:∀x∈m.map (·.1),Hs x)(hk:Hs k):∀x∈(dm m k v).map (·.1),Hs x:=by
 induction m with
 |nil=>intro x hx;simp[dm]at hx;subst hx;exact hk
 |cons p r ih=>
  obtain⟨a,u⟩:=p;intro x hx;simp only[dm]at hx;split at hx
  ·simp only[List.map_cons,List.mem_cons]at hx h;rcases hx with rfl|hx
   ·exact hk
   ·exact h x (.inr hx)
  ·simp only[List.map_cons,List.mem_cons]at hx;rcases hx with rfl|hx
   ·exact h _ zS
   ·exact ih (fun y hy=>h y (by simp only[List.map_cons,List.mem_cons];exact .inr hy)) x hx
theorem dJ(hK:jI P kt kD kV gi){t et:TypeId}{x y z:Operand}{id:Nat}{m:List (κ×β)}{k:κ}{v:β}{kd vd:D}{U:ae}(hu:P.underlying t=some (.map kt et))
  (hx:env.op x=some (.bu id))(hy:env.op y=some kd)(hz:env.op z=some vd)(pE:kd=kD k)(hvd:vd=vD v)(ho:U.get id=some (.mp (aS kD vD m))):
  aq P ⟨dst,.mapUpdate t x y z,ty,pos,ar,g⟩ env U (.raw undef) (U.set id (.mp (aS kD vD (dm m k v)))):=
 .step fun O ρ a w aj hv=>by
  subst pE;subst hvd;have cc:=hv x (by simp[Op.operands]) _ hx;have dB:=hK.val (hv y (by simp[Op.operands]) _ hy);have Pt:=hv z (by simp[Op.operands]) _ hz;simp only[V]at cc;obtain⟨l,h2,e1⟩:=cc;obtain⟨l',h3,_,jS⟩:=aj.own id _ ho rfl;rw[h2]at h3;cases h3;obtain⟨es,h4,h5,h6⟩:=Bp hK jS;have pC:=fun b=>hK.check b k w dB.2;have iH:=hK.find k es.toList (m.map (·.1)) w h5.keys h6 dB.2;have pI:∀o',(setObj l.b o').run P w=.ok () {w with heap:=w.heap.setIfInBounds l.b o'}:=fun o'=>by simp[setObj,Sem.run,h4]
  have bw:=(Array.getElem?_eq_some_iff.1 h4).1;have rZ:=ai6 gi (v:=v) h6 dB.2;rcases zY v k m 0 with⟨g1,_,_,g4⟩|⟨j,gj,g1,g2,_,g4⟩
  ·rw[g1]at iH;refine⟨undef,_,ρ,.inr ⟨?_,rfl⟩,Tr.cg (o':=.mp (aS kD vD (dm m k v))) aj ho rfl h2 (.map (es.push {key:=kV k,val:=a.eval z,born:=m.length}) (m.length+1)) ?_,by simp[V]⟩
   ·simp[execOp,Instr.mapUpdate,bY hu,e1,dB.1,MapKept.run_getObj_map h4,pC,iH,pI]
   ·intro iW;rw[g4]at rZ iW⊢;refine R4 hK (es:=es.push {key:=kV k,val:=a.eval z,born:=m.length}) (by simp[bw]) ⟨by simp[h5.len],fun i k' v' hi=>?_⟩ rZ;rw[Array.getElem?_push,h5.len];by_cases e:i=m.length
    ·subst e;rw[List.getElem?_append_right (Nat.le_refl _)]at hi;simp at hi;obtain⟨rfl,rfl⟩:=hi;exact⟨_,by rw[if_pos rfl],rfl,rfl,V.mono iW (bA.refl _) _ _ Pt⟩
    ·have jQ:i<m.length:=by
      rcases Nat.lt_or_ge i m.length with q|q
      ·exact q
      ·rw[List.getElem?_eq_none zQ]at hi;cases hi
     rw[List.getElem?_append_left jQ]at hi;obtain⟨x,q1,q2,q3,q4⟩:=h5.at_ i k' v' hi;exact⟨x,by rw[if_neg e];exact q1,q2,q3,V.mono iW (bA.refl _) _ _ q4⟩
  ·obtain⟨e,k1,k2,k3,_⟩:=h5.at_ j k _ g2;rw[g1]at iH;simp only[Option.map_some,Nat.zero_add]at iH;refine⟨undef,_,ρ,.inr ⟨?_,rfl⟩,Tr.cg (o':=.mp (aS kD vD (dm m k v))) aj ho rfl h2 (.map (es.modify j fun e=>{e with key:=kV k,val:=a.eval z}) m.length) ?_,by simp[V]⟩
   ·simp[execOp,Instr.mapUpdate,bY hu,e1,dB.1,MapKept.run_getObj_map h4,pC,iH,pI,k1,k3,hK.stays]
   ·intro iW;rw[g4]at rZ iW⊢;refine R4 hK (es:=es.modify j fun e=>{e with key:=kV k,val:=a.eval z}) (by simp[bw]) ⟨by simp[h5.len],fun i k' v' hi=>?_⟩ rZ;rw[Array.getElem?_modify];rw[List.getElem?_set]at hi;by_cases e':j=i
    ·subst e';rw[if_pos rfl,if_pos gj]at hi;cases hi;exact⟨{e with key:=kV k,val:=a.eval z},by rw[if_pos rfl,k1];rfl,k2,rfl,V.mono iW (bA.refl _) _ _ Pt⟩
    ·rw[if_neg e']at hi;obtain⟨x,q1,q2,q3,q4⟩:=h5.at_ i k' v' hi;exact⟨x,by rw[if_neg e'];exact q1,q2,q3,V.mono iW (bA.refl _) _ _ q4⟩
theorem rA.mem{w:World}{O:Nat→Prop}{ρ:aA}{es:Array MapEntry}{m:List (κ×β)}(h:rA w O ρ kV vD es m){e:MapEntry}(he:e∈es.toList):∃k v,m[e.born]?=some (k,v)∧es[e.born]?=some e∧e.key=kV k∧V w O ρ (vD v) e.val:=by
 obtain⟨j,hj⟩:=List.getElem?_of_mem he;rw[Array.getElem?_toList]at hj;have bw:j<m.length:=by rw[←h.len];exact(Array.getElem?_eq_some_iff.1 hj).1
 obtain⟨e',g1,g2,g3,g4⟩:=h.at_ j (m[j]).1 (m[j]).2 (by simp[bw]);rw[hj]at g1;cases g1;subst g2;exact⟨_,_,by simp[bw],hj,g3,g4⟩
theorem rA.Lz{w:World}{O:Nat→Prop}{ρ:aA}{es:Array MapEntry}{m:List (κ×β)}(h:rA w O ρ kV vD es m):es.toList.map (·.born)=List.range m.length:=by
 apply List.ext_getElem?;intro i;rw[List.getElem?_map,Array.getElem?_toList];rcases Nat.lt_or_ge i m.length with g|g
 ·obtain⟨e,g1,g2,_⟩:=h.at_ i (m[i]).1 (m[i]).2 (by simp[g]);rw[g1,List.getElem?_range g];simp[g2]
 ·rw[Array.getElem?_eq_none (by rw[h.len];exact g),List.getElem?_eq_none (by simpa using g)];rfl
theorem JZ(hK:jI P kt kD kV gi){t et:TypeId}{x:Operand}{id:Nat}{m:List (κ×β)}{U:ae}(eh:Nat)(hu:P.underlying t=some (.map kt et))(hx:env.op x=some (.bu id))(ho:U.get id=some (.mp (aS kD vD m)))(hid:U.get eh=none):
  aq P ⟨dst,.range t x,ty,pos,ar,g⟩ env U (.box eh 0) ((eh,.mi id m.length [])::U):=
 .step fun O ρ a w aj hv=>by
  have cc:=hv x (by simp[Op.operands]) _ hx;simp only[V]at cc;obtain⟨l,h2,e1⟩:=cc;obtain⟨l',h3,_,jS⟩:=aj.own id _ ho rfl;rw[h2]at h3;cases h3;obtain⟨es,h4,h5,h6⟩:=Bp hK jS;have hr:=run_range_map (P:=P) w t kt et l.b es m.length hu h4;refine⟨.pointer (some ⟨w.heap.size,0,none⟩),_,T.cg ρ eh ⟨w.heap.size,0,0⟩,.inl ?_,Tr.born aj hid (.mapIter (some l.b) m.length #[] m.length) rfl (fun i x h _=>h) (fun i h=>h) ?_,?_⟩
  ·simp only[execOp,e1];rw[Sem.run_bind,hr];rfl
  ·intro hk;have aB:eh≠id:=by rintro rfl;rw[ho]at hid;cases hid
   exact⟨l,by simp[T.cg,aB.symm,h2],by simp⟩
  ·simp only[V];exact⟨⟨w.heap.size,0,0⟩,by simp[T.cg],rfl⟩
def Ry(m:List (κ×β))(seen:List Nat):Option (Nat×κ×β)→Prop
 |none=>∀j,j<m.length→j∈seen
 |some (j,k,v)=>m[j]?=some (k,v)∧j∉seen
@[reducible] def q9(kD:κ→D)(vD:β→D):Option (Nat×κ×β)→D
 |none=>.bf [.b false]
 |some (_,k,v)=>.bf [.b true,kD k,vD v]
@[reducible] def sw(U:ae)(eh id n:Nat)(seen:List Nat):Option (Nat×κ×β)→ae
 |none=>U
 |some (j,_,_)=>U.set eh (.mi id n (seen++[j]))
theorem JX(hK:jI P kt kD kV gi){x:Operand}{id eh:Nat}{m:List (κ×β)}{seen:List Nat}{U:ae}(hx:env.op x=some (.box eh 0))(hi:U.get eh=some (.mi id m.length seen))(ho:U.get id=some (.mp (aS kD vD m))):
  rF P ⟨dst,.next x false,ty,pos,ar,g⟩ env U (Ry m seen) (q9 kD vD) (sw U eh id m.length seen):=by
 intro O ρ a w aj cQ hv;have cc:=hv x (by simp[Op.operands]) _ hx;simp only[V]at cc;obtain⟨r,pG,e1⟩:=cc;obtain⟨r',mX,_,lm,hm,hit⟩:=aj.own eh _ hi rfl;rw[pG]at mX;cases mX;obtain⟨l',h3,_,jS⟩:=aj.own id _ ho rfl;rw[hm]at h3;cases h3;obtain⟨es,h4,h5,h6⟩:=Bp hK jS;have xZ:∀x∈es.toList,x.born<m.length:=fun x hx=>by
  obtain⟨_,_,q,_⟩:=h5.mem hx;exact(List.getElem?_eq_some_iff.1 q).1
 unfold Oper.wp;have tP:(execOp a.eval ⟨dst,.next x false,ty,pos,ar,g⟩).run P w=((Instr.next (.pointer (some ⟨r.b,0,none⟩)) false ty).bind fun v=>Sem.pure (Next.value v)).run P w:=by
  simp only[execOp,e1];rfl
 rw[tP];rcases run_next_at (P:=P) w ty r.b lm.b m.length m.length seen.toArray es m.length hit h4 xZ (Nat.le_refl _)with⟨hz,e_⟩|⟨e,he,w1,r7,e_⟩
 ·have:((Instr.next (.pointer (some ⟨r.b,0,none⟩)) false ty).bind fun v=>Sem.pure (Next.value v)).run P w=.ok (.value (.tuple #[.bool false])) w:=by
   show(Sem.bind _ _).run P w=_;rw[Sem.run_bind',e_];rfl
  rw[this];refine⟨none,ρ,_,?_,rfl,Tr.refl aj,by simp[V,Vs,D.b]⟩;intro j hj;have qN:leftOf es seen.toArray=#[]:=Array.eq_empty_of_size_eq_zero hz;obtain⟨e,g1,g2,_⟩:=h5.at_ j (m[j]).1 (m[j]).2 (by simp[hj]);unfold leftOf at qN;rw[Array.filter_eq_empty_iff]at qN;have oO:e∈es:=Array.mem_of_getElem? g1;have:=qN e oO;simp at this;rw[g2]at this;exact this
 ·have Al:e∈es.toList∧e.born∉seen:=by
   unfold leftOf at he;simp at he;exact⟨by simpa using he.1,by simpa using he.2⟩
  obtain⟨k,v,g1,g2,g3,g4⟩:=h5.mem Al.1;have:((Instr.next (.pointer (some ⟨r.b,0,none⟩)) false ty).bind fun v=>Sem.pure (Next.value v)).run P w=.ok (.value (.tuple #[.bool true,e.key,e.val])) (setBlock w1 r.b (.mapIter (some lm.b) m.length (seen.toArray.push e.born) m.length)):=by
   show(Sem.bind _ _).run P w=_;rw[Sem.run_bind',e_];rfl
  rw[this];have nQ:Tr O w ρ U w1 ρ U:=by
   rcases r7 with rfl|rfl
   ·exact Tr.refl aj
   ·exact Tr.drawn aj _ (by first|exact Nat.le_succ _|omega)
  have HQ:w1.heap[r.b]?=some (.mapIter (some lm.b) m.length seen.toArray m.length):=by rcases r7 with rfl|rfl<;>exact hit
  have jU:=Tr.cg (o':=.mi id m.length (seen++[e.born])) nQ.ok hi rfl pG (.mapIter (some lm.b) m.length (seen.toArray.push e.born) m.length) (fun _=>⟨lm,hm,by simp[(Array.getElem?_eq_some_iff.1 HQ).1]⟩);refine⟨some (e.born,k,v),ρ,_,⟨g1,Al.2⟩,rfl,nQ.trans jU,?_⟩;simp only[V,Vs,D.b];refine⟨_,rfl,_,_,rfl,rfl,_,_,rfl,?_,_,_,rfl,(nQ.trans jU).V g4,rfl⟩;rw[g3];exact hK.back (h6 k (List.mem_map.2 ⟨(k,v),List.mem_of_getElem? g1,rfl⟩))
theorem JT(hK:jI P kt kD kV gi){x:Operand}{id eh j:Nat}{k:κ}{v:β}{m:List (κ×β)}{seen:List Nat}{U:ae}(hx:env.op x=some (.box eh 0))(hi:U.get eh=some (.mi id m.length (seen++[j])))(ho:U.get id=some (.mp (aS kD vD m)))(hj:m[j]?=some (k,v)):
  aq P ⟨dst,.entry x,ty,pos,ar,g⟩ env U (.bf [kD k,vD v]) U:=
 .val fun O ρ a w aj hv=>by
  have cc:=hv x (by simp[Op.operands]) _ hx;simp only[V]at cc;obtain⟨r,pG,e1⟩:=cc;obtain⟨r',mX,_,lm,hm,hit⟩:=aj.own eh _ hi rfl;rw[pG]at mX;cases mX;obtain⟨l',h3,_,jS⟩:=aj.own id _ ho rfl;rw[hm]at h3;cases h3;obtain⟨es,h4,h5,h6⟩:=Bp hK jS;obtain⟨e,g1,g2,g3,g4⟩:=h5.at_ j k v hj;have Ap:w.heap[r.b]?=some (.mapIter (some lm.b) m.length (seen.toArray.push e.born) m.length):=by rw[hit,g2];simp
  have ef:(es.toList.map (·.born)).Nodup:=by rw[h5.Lz];exact List.nodup_range
  have e_:=run_entry_at (P:=P) w r.b lm.b m.length seen.toArray es m.length e Ap h4 (by simpa using Array.mem_of_getElem? g1) ef;refine⟨.tuple #[e.key,e.val],?_,?_⟩
  ·simp only[execOp,e1];rw[Sem.run_bind,e_];rfl
  ·simp only[V,Vs];refine⟨_,rfl,_,_,rfl,?_,_,_,rfl,g4,rfl⟩;rw[g3];exact hK.back (h6 k (List.mem_map.2 ⟨(k,v),List.mem_of_getElem? hj,rfl⟩))
end
@[reducible] def B5(s:aa):Value:=.string ⟨s.toArray⟩
theorem GR{k:κ}:∀{ks:List κ}{i j:Nat},js k ks i=some j→i≤j
 |[],_,_,h=>by simp[js]at h
 |x::ks,i,j,h=>by
  simp only[js]at h;split at h
  ·simp at h;omega
  ·have:=GR h;omega
end Go.T
namespace Go.T
open Go
variable[bV]
structure bp where
 u:Option TypeDesc:=none
 agg:Option Bool:=none
 sz:Option Nat:=none
 zc:Option (List D):=none
 pl:Option (List (Nat×Nat)):=none
 bt:Option Nat:=none
structure bK(P:Program)(t:TypeId)(i:bp):Prop where
 u:∀d,i.u=some d→P.underlying t=some d
 agg:∀b,i.agg=some b→∀w,(isAgg t).run P w=.ok b w
 sz:∀n,i.sz=some n→∀w,(sizeOf t).run P w=.ok n w
 zc:∀ds,i.zc=some ds→∃z,(∀w,(zeroValue t).run P w=.ok z w)∧z.cells.toList.map jZ=ds
 pl:∀pl,i.pl=some pl→∀fs,P.underlying t=some (.struct fs)→∀w,(fs.mapM (m:=Sem) fun f=>Prod.mk f.offset<$>sizeOf f.type).run P w=.ok pl.toArray w
 bt:∀n,i.bt=some n→∃ti,(∀w,(typeInfo t).run P w=.ok ti w)∧ti.bytes=n
structure l4(P:Program)(T:TypeId→bp):Prop where
 ty:∀t,bK P t (T t)
 mixed:P.follows .mixedOrders=true
def nW{α:Type _}:List α→Nat→Option α
 |[],_=>none
 |a::_,0=>some a
 |_::l,n+1=>nW l n
theorem si{α:Type _}:∀(l:List α)(n:Nat),nW l n=l[n]?
 |[],n=>by simp[nW]
 |a::l,0=>by simp[nW]
 |a::l,n+1=>by simp[nW,si l n]
def m'{α:Type _}:List α→Nat→Bool
 |[],0=>true
 |_::l,n+1=>m' l n
 |_,_=>false
theorem yg{α:Type _}:∀(l:List α)(n:Nat),m' l n=true→l.length=n
 |[],0,_=>rfl
 |a::l,n+1,h=>by simp[yg l n h]
 |[],n+1,h=>by simp[m']at h
 |a::l,0,h=>by simp[m']at h
def xw:List D→Nat→(List D→Prop)→Prop
 |l,0,k=>k l
 |_::l,n+1,k=>xw l n k
 |[],_+1,_=>False
theorem CJ:∀(l:List D)(n:Nat)(k:List D→Prop),xw l n k→n≤l.length∧k (l.drop n)
 |l,0,k,h=>⟨Nat.zero_le _,by simpa[xw]using h⟩
 |a::l,n+1,k,h=>by
  obtain⟨h1,h2⟩:=CJ l n k h;exact⟨by simp;omega,by simpa using h2⟩
 |[],n+1,k,h=>h.elim
def zb:List D→Nat→(List D→Prop)→Prop
 |_,0,k=>k []
 |a::l,n+1,k=>zb l n fun r=>k (a::r)
 |[],_+1,_=>False
theorem E4:∀(l:List D)(n:Nat)(k:List D→Prop),zb l n k→n≤l.length∧k (l.take n)
 |l,0,k,h=>⟨Nat.zero_le _,by simpa[zb]using h⟩
 |a::l,n+1,k,h=>by
  obtain⟨h1,h2⟩:=E4 l n _ h;exact⟨by simp;omega,by simpa using h2⟩
 |[],n+1,k,h=>h.elim
def rq:List D→Nat→List D→(List D→Prop)→Prop
 |ds,_,[],k=>k ds
 |_::ds,0,c::cs,k=>rq ds 0 cs fun r=>k (c::r)
 |d::ds,n+1,c::cs,k=>rq ds n (c::cs) fun r=>k (d::r)
 |[],_,_::_,_=>False
theorem Kj(d:D):∀(cs ds:List D)(n:Nat),ko (d::ds) (n+1) cs=d::ko ds n cs
 |[],ds,n=>rfl
 |c::cs,ds,n=>by simp[ko,Kj d cs]
theorem BR:∀(ds:List D)(n:Nat)(cs:List D)(k:List D→Prop),rq ds n cs k→(cs≠[]→n+cs.length≤ds.length)∧k (ko ds n cs)
 |ds,n,[],k,h=>by
  unfold rq at h;exact⟨fun e=>absurd rfl e,h⟩
 |d::ds,0,c::cs,k,h=>by
  simp only[rq]at h;obtain⟨h1,h2⟩:=BR ds 0 cs _ h;refine⟨fun _=>?_,?_⟩
  ·cases cs with
   |nil=>simp
   |cons c' cs=>have:=h1 zS;simp at this⊢;omega
  ·simp only[ko,List.set_cons_zero,Kj];exact h2
 |d::ds,n+1,c::cs,k,h=>by
  simp only[rq]at h;obtain⟨h1,h2⟩:=BR ds n (c::cs) _ h;refine⟨fun _=>?_,?_⟩
  ·have:=h1 zS;simp at this⊢;omega
  ·rw[Kj];exact h2
 |[],n,c::cs,k,h=>by simp[rq]at h
def Ek:ae→Nat→Ob→(ae→Prop)→Prop
 |[],i,x,k=>k [(i,x)]
 |(t,d)::r,i,x,k=>bif Nat.beq t i then k ((t,x)::r)else Ek r i x fun r'=>k ((t,d)::r')
theorem RC:∀(U:ae)(i:Nat)(x:Ob)(k:ae→Prop),Ek U i x k→k (U.set i x)
 |[],i,x,k,h=>h
 |(t,d)::r,i,x,k,h=>by
  simp only[Ek]at h;simp only[ae.set];cases hb:Nat.beq t i with
  |true=>simpa only[hb,cond_true]using h
  |false=>simp only[hb,cond_false]at h⊢;exact RC r i x _ h
def xG:List Nat→ae→(Nat→Prop)→Prop
 |[],_,_=>False
 |i::is,U,k=>match U.get i with
  |none=>k i
  |some _=>xG is U k
theorem C8:∀(is:List Nat)(U:ae)(k:Nat→Prop),xG is U k→∃i,U.get i=none∧k i
 |[],U,k,h=>h.elim
 |i::is,U,k,h=>by
  simp only[xG]at h;cases hg:U.get i with
  |none=>simp only[hg]at h;exact⟨i,hg,h⟩
  |some o=>simp only[hg]at h;exact C8 is U k h
def ids:List Nat:=[0,1,2,3,4,5,6,7,8,9,10,11,12,13,14,15,16,17,18,19,20,21,22,23,24,25,26,27,28,29,30,31,32,33,34,35,36,37,38,39,40,41,42,43,44,45,46,47,48,49,50]
def Bl(e:Env):List Operand→(List D→Prop)→Prop
 |[],k=>k []
 |x::xs,k=>match e.op x with
  |some d=>Bl e xs fun r=>k (d::r)
  |none=>False
theorem Jy(e:Env):∀(xs:List Operand)(k:List D→Prop),Bl e xs k→∃ds,e.jY xs=some ds∧k ds
 |[],k,h=>⟨[],rfl,h⟩
 |x::xs,k,h=>by
  simp only[Bl]at h;cases hx:e.op x with
  |none=>simp only[hx]at h
  |some d=>
   simp only[hx]at h;obtain⟨ds,h1,h2⟩:=Jy e xs _ h;exact⟨d::ds,by simp[Env.jY,hx,h1],h2⟩
def Bt(e:Env):List (Nat×Operand)→(List (Nat×D)→Prop)→Prop
 |[],k=>k []
 |(i,x)::xs,k=>match e.op x with
  |some d=>Bt e xs fun r=>k ((i,d)::r)
  |none=>False
theorem JH(e:Env):∀(xs:List (Nat×Operand))(k:List (Nat×D)→Prop),Bt e xs k→∃ds,e.oa xs=some ds∧k ds
 |[],k,h=>⟨[],rfl,h⟩
 |(i,x)::xs,k,h=>by
  simp only[Bt]at h;cases hx:e.op x with
  |none=>simp only[hx]at h
  |some d=>
   simp only[hx]at h;obtain⟨ds,h1,h2⟩:=JH e xs _ h;exact⟨(i,d)::ds,by simp[Env.oa,hx,h1],h2⟩
def C0(pl:List (Nat×Nat)):List D→List (Nat×D)→(List D→Prop)→Prop
 |ds,[],k=>k ds
 |ds,(i,d)::r,k=>match nW pl i with
  |some (off,size)=>bif m' d.gd size&&d.kg then rq ds off d.gd fun ep=>C0 pl ep r k else False
  |none=>False
theorem Jv{d:D}{n:Nat}(h:d.gd.length=n)(hn:n≠0):d.gd≠[]:=by
 intro e;rw[e]at h;exact hn h.symm
theorem Ni(pl:List (Nat×Nat))(hp:pl.all (fun x=>!Nat.beq x.2 0)=true):∀(c6:List (Nat×D))(ds:List D)(k:List D→Prop),C0 pl ds c6 k→∃cs,lB (pl.toArray[·]?) ds c6=some cs∧k cs
 |[],ds,k,h=>⟨ds,rfl,h⟩
 |(i,d)::r,ds,k,h=>by
  simp only[C0,si]at h;cases hl:pl[i]?with
  |none=>simp only[hl]at h
  |some x=>
   obtain⟨off,size⟩:=x;simp only[hl]at h;cases hb:(m' d.gd size&&d.kg)with
   |false=>simp only[hb,cond_false]at h
   |true=>
    simp only[hb,cond_true]at h;simp only[Bool.and_eq_true]at hb;obtain⟨h1,h2⟩:=BR _ _ _ _ h;have hlen:=yg _ _ hb.1;have aB:size≠0:=by
     have:=List.all_eq_true.1 hp (off,size) (List.mem_of_getElem? hl);intro e;subst e;simp at this
    have e8:=h1 (Jv hlen aB);obtain⟨cs,h3,h4⟩:=Ni pl hp r _ k h2;refine⟨cs,?_,h4⟩;have hg:pl.toArray[i]?=some (off,size):=by simpa using hl
    have hc:(Nat.beq d.gd.length size&&Nat.ble (off+size) ds.length&&d.kg)=true:=by
     simp only[Bool.and_eq_true,Nat.beq_eq,Nat.ble_eq];exact⟨⟨hlen,by omega⟩,hb.2⟩
    simp only[lB,hg,hc,cond_true];exact h3
def Lq(e E:Env):Prop:=∀t d,e.get t=some d→d=.any∨E.get t=some d
theorem Lq.refl(e:Env):Lq e e:=fun _ _ h=>.inr h
theorem agO(e E:Env)(v:Value):e.op (.const v)=E.op (.const v):=by cases v<;>rfl
theorem Lq.op{e E:Env}(h:Lq e E){x:Operand}{d:D}(hx:e.op x=some d):d=.any∨E.op x=some d:=by
 cases x with
 |tmp t=>exact h t d hx
 |const v=>exact .inr ((agO E e v).trans hx)
 |global g=>exact .inr hx
 |func f=>exact .inr hx
theorem aq.lq{P:Program}{o:Oper}{e E:Env}{U ak:ae}{d:D}(h:Lq e E)(hq:aq P o e U d ak):aq P o E U d ak:=by
 intro O ρ a w aj cQ hv;refine hq O ρ a w aj cQ fun x hx d' hd=>?_;rcases h.op hd with rfl|hd
 ·simp[V]
 ·exact hv x hx d' hd
theorem Lq.put{e E:Env}(h:Lq e E)(t:Nat)(d:D):Lq ((t,d)::e) ((t,d)::E):=by
 intro s x hx;rw[Env.aZ]at hx⊢;by_cases g:t=s
 ·rw[if_pos g]at hx⊢;exact .inr hx
 ·rw[if_neg g]at hx⊢;exact h s x hx
theorem Lq.SA{e E:Env}(h:Lq e E)(t:Nat)(d:D):Lq ((t,.any)::e) ((t,d)::E):=by
 intro s x hx;rw[Env.aZ]at hx⊢;by_cases g:t=s
 ·rw[if_pos g]at hx;cases hx;exact .inl rfl
 ·rw[if_neg g]at hx⊢;exact h s x hx
abbrev KK:=Kind→D→ae→Prop
def SK(P:Program)(o:Oper)(e:Env)(U:ae):Kind→D→ae→Prop
 |.p,d,ak=>(∀U,aq P o e U d U)∧ak=U
 |.r,d,ak=>aq P o e U d U∧ak=U
 |.w,d,ak=>aq P o e U d ak
theorem SK.lq{P:Program}{o:Oper}{e E:Env}{U ak:ae}{k:Kind}{d:D}(hl:Lq e E)(h:SK P o e U k d ak):SK P o E U k d ak:=by
 cases k with
 |p=>exact⟨fun U=>(h.1 U).lq hl,h.2⟩
 |r=>exact⟨h.1.lq hl,h.2⟩
 |w=>exact aq.lq hl h
structure ct(P:Program)(A:Prop)(o:Oper)(e:Env)(U:ae)(K:KK):Prop where
 out:∃k d ak,(A→SK P o e U k d ak)∧K k d ak
section
variable{P:Program} {A:Prop} {o:Oper} {e:Env} {U ak:ae} {d:D} {K:KK}
theorem gP(h:A→∀U,aq P o e U d U)(k:K .p d U):ct P A o e U K:=⟨.p,d,U,fun a=>⟨h a,rfl⟩,k⟩
theorem gR(h:A→aq P o e U d U)(k:K .r d U):ct P A o e U K:=⟨.r,d,U,fun a=>⟨h a,rfl⟩,k⟩
theorem gW(h:A→aq P o e U d ak)(k:K .w d ak):ct P A o e U K:=⟨.w,d,ak,h,k⟩
theorem oP(h:∀U,aq P o e U d U)(k:K .p d U):ct P True o e U K:=gP (fun _=>h) k
theorem oR(h:aq P o e U d U)(k:K .r d U):ct P True o e U K:=gR (fun _=>h) k
theorem oW(h:aq P o e U d ak)(k:K .w d ak):ct P True o e U K:=gW (fun _=>h) k
end
structure Fi(A:Prop)(n:Int)(rows:List (List D))(K:List D→Prop):Prop where
 out:∃r,(A→0≤n∧rows[n.toNat]?=some r)∧K r
structure Fh(A:Prop)(n:Int)(s:aa)(K:UInt8→Prop):Prop where
 out:∃r,(A→0≤n∧s[n.toNat]?=some r)∧K r
theorem ix{n:Int}{rows:List (List D)}{K:List D→Prop}{r:List D}(h0:0≤n)(h:rows[n.toNat]?=some r)(k:K r):Fi True n rows K:=⟨r,fun _=>⟨h0,h⟩,k⟩
theorem wb{A:Prop}{n:Int}{rows:List (List D)}{K:List D→Prop}{r:List D}(h:A→0≤n∧rows[n.toNat]?=some r)(k:K r):Fi A n rows K:=⟨r,h,k⟩
theorem DR{n:Int}{s:aa}{K:UInt8→Prop}{r:UInt8}(h0:0≤n)(h:s[n.toNat]?=some r)(k:K r):Fh True n s K:=⟨r,fun _=>⟨h0,h⟩,k⟩
theorem DS{A:Prop}{n:Int}{s:aa}{K:UInt8→Prop}{r:UInt8}(h:A→0≤n∧s[n.toNat]?=some r)(k:K r):Fh A n s K:=⟨r,h,k⟩
structure Sd(A S K:Prop):Prop where
 s:A→S
 k:K
theorem sd{S K:Prop}(h:S)(k:K):Sd True S K:=⟨fun _=>h,k⟩
def FM(A:Prop)(op:BinOp)(k:IntKind)(n m:Int)(G:Prop)(K:D→Prop):Prop:=
 match op with
 |.add=>Sd A (k.wrap (n+m)=n+m) (K (.raw (.int k (n+m))))
 |.sub=>Sd A (k.wrap (n-m)=n-m) (K (.raw (.int k (n-m))))
 |.mul=>Sd A (k.wrap (n*m)=n*m) (K (.raw (.int k (n*m))))
 |.lss=>K (.raw (.bool (decide (n<m))))
 |.leq=>K (.raw (.bool (decide (n≤m))))
 |.gtr=>K (.raw (.bool (decide (m<n))))
 |.geq=>K (.raw (.bool (decide (m≤n))))
 |.eql=>K (.raw (.bool (decide (n=m))))
 |.neq=>K (.raw (.bool (decide (n≠m))))
 |_=>G
def FN(A:Prop)(op:BinOp)(s r:aa)(G:Prop)(K:D→Prop):Prop:=
 match op with
 |.add=>Sd A (s.length+r.length≤aG) (K (.str (s++r)))
 |.lss=>K (.raw (.bool (aa.lt s r)))
 |.leq=>K (.raw (.bool (!aa.lt r s)))
 |.gtr=>K (.raw (.bool (aa.lt r s)))
 |.geq=>K (.raw (.bool (!aa.lt s r)))
 |.eql=>K (.raw (.bool (decide (s=r))))
 |.neq=>K (.raw (.bool (decide (s≠r))))
 |_=>G
def FL(op:BinOp)(b c:Bool)(G:Prop)(K:D→Prop):Prop:=
 match op with
 |.eql=>K (.raw (.bool (b==c)))
 |.neq=>K (.raw (.bool (b !=c)))
 |_=>G
def FO(T:TypeId→bp)(A:Prop)(op:BinOp)(t:TypeId)(x y:Option D)(G:Prop)(K:D→Prop):Prop:=
 match x,y with
 |some (.raw (.int k n)),some (.raw (.int k' m))=>bif decide (k=k')then FM A op k n m G K else G
 |some (.str s),some (.str r)=>FN A op s r G K
 |some (.raw (.bool b)),some (.raw (.bool c))=>match(T t).u with
  |some .bool=>FL op b c G K
  |_=>G
 |_,_=>G
def KI(op:UnOp)(A:Prop)(x:Option D)(G:Prop)(K:D→Prop):Prop:=
 match op,x with
 |.not,some (.raw (.bool b))=>K (.raw (.bool (!b)))
 |.neg,some (.raw (.int k n))=>Sd A (k.wrap (0-n)=-n) (K (.raw (.int k (-n))))
 |_,_=>G
def F7(T:TypeId→bp)(A:Prop)(s t:TypeId)(x:Option D)(G:Prop)(K:D→Prop):Prop:=
 match x,(T s).u,(T t).u with
 |some (.raw (.int _ n)),some _,some (.int k')=>Sd A (k'.wrap n=n) (K (.raw (.int k' n)))
 |some (.str b),some _,some .string=>K (.str b)
 |_,_,_=>G
def IL(T:TypeId→bp)(t:TypeId)(x:Option D)(U:ae)(G:Prop)(K:Kind→D→Prop):Prop:=
 match x with
 |some (.aY cs)=>match(T t).agg,(T t).sz with
  |some false,_=>match cs with
   |d::_=>K .p d
   |[]=>G
  |some true,some n=>bif m' cs n then K .p (.agg cs)else zb cs n fun r=>K .p (.agg r)
  |_,_=>G
 |some (.box id off)=>match U.get id with
  |some (.cells ds)=>match(T t).agg,(T t).sz with
   |some false,_=>match nW ds off with
    |some d=>K .r d
    |none=>G
   |some true,some n=>bif Nat.beq off 0&&m' ds n then K .r (.agg ds)else xw ds off fun r=>zb r n fun r=>K .r (.agg r)
   |_,_=>G
  |_=>G
 |_=>G
def Kx(T:TypeId→bp)(t:TypeId)(x y:Option D)(U:ae)(G:Prop)(K:D→ae→Prop):Prop:=
 match x,y with
 |some (.box id off),some d=>match U.get id with
  |some (.cells ds)=>match(T t).sz with
   |some n=>bif m' d.gd n&&d.kg&&!Nat.beq n 0 then rq ds off d.gd fun ep=>Ek U id (.cells ep) fun ak=>K (.raw undef) ak else G
   |none=>G
  |_=>G
 |_,_=>G
def GK(T:TypeId→bp)(t:TypeId)(x:Option D)(f:Nat)(G:Prop)(K:D→Prop):Prop:=
 match x,(T t).u with
 |some (.agg cs),some (.struct fs)=>match nW fs.toList f with
  |some fl=>match(T fl.type).agg,(T fl.type).sz with
   |some false,_=>match nW cs fl.offset with
    |some d=>K d
    |none=>G
   |some true,some n=>xw cs fl.offset fun r=>zb r n fun r=>K (.agg r)
   |_,_=>G
  |none=>G
 |_,_=>G
def GI(T:TypeId→bp)(t:TypeId)(x:Option D)(f:Nat)(G:Prop)(K:D→Prop):Prop:=
 match x,(T t).u with
 |some (.box id off),some (.struct fs)=>match nW fs.toList f with
  |some fl=>match(T fl.type).sz with
   |some (_+1)=>K (.box id (off+fl.offset))
   |_=>G
  |none=>G
 |some (.aY cs),some (.struct fs)=>match nW fs.toList f with
  |some fl=>match(T fl.type).sz with
   |some (_+1)=>xw cs fl.offset fun r=>K (.aY r)
   |_=>G
  |none=>G
 |_,_=>G
def IH(T:TypeId→bp)(t:TypeId)(x:Option D)(G:Prop)(K:D→Prop):Prop:=
 match x,(T t).u with
 |some (.str s),some .string=>K (.raw (.int .i64 s.length))
 |some (.snap _ _ rows),some (.slice _)=>K (.raw (.int .i64 rows.length))
 |some (.gs _ n),some (.slice _)=>K (.raw (.int .i64 n))
 |some (.raw (.slice _ n _)),some (.slice _)=>K (.raw (.int .i64 n))
 |_,_=>G
def D9(mx:Bool)(x y:Option D)(G:Prop)(K:D→Prop):Prop:=
 match x,y with
 |some (.raw (.int k n)),some (.raw (.int k' m))=>bif decide (k=k')then(match mx with
  |true=>K (.raw (.int k (max n m)))
  |false=>K (.raw (.int k (min n m))))else G
 |_,_=>G
def Iu(T:TypeId→bp)(A:Prop)(t:TypeId)(x i:Option D)(G:Prop)(K:D→Prop):Prop:=
 match x,i,(T t).u with
 |some (.snap sz _ rows),some (.raw (.int _ n)),some (.slice e)=>match(T e).sz with
  |some m=>bif Nat.beq m sz then Fi A n rows fun r=>K (.aY r)else G
  |none=>G
 |_,_,_=>G
def It(T:TypeId→bp)(A:Prop)(t:TypeId)(x i:Option D)(G:Prop)(K:D→Prop):Prop:=
 match x,i,(T t).u with
 |some (.str s),some (.raw (.int _ n)),some .string=>Fh A n s fun c=>K (.raw (.int .u8 c.toNat))
 |_,_,_=>G
def Jh(x:Option D)(G:Prop)(K:D→Prop):Prop:=
 match x with
 |some (.fn (.func f) as bs)=>K (.fn (.func f) as bs)
 |some (.box i o)=>K (.box i o)
 |some (.aY cs)=>K (.aY cs)
 |_=>G
def FT(x:Option D)(U:ae)(G:Prop)(K:D→ae→Prop):Prop:=
 match x with
 |some (.agg cs)=>xG ids U fun id=>K (.box id 0) ((id,.cells cs)::U)
 |some d=>bif d.one then xG ids U fun id=>K (.box id 0) ((id,.cells [d])::U)else G
 |none=>G
def CZ(sz:Nat):List D→List (Nat×D)→(List D→Prop)→Prop
 |ds,[],k=>k ds
 |ds,(i,d)::r,k=>bif m' d.gd sz&&d.kg then rq ds (i*sz) d.gd fun ep=>CZ sz ep r k else False
theorem Nh(sz:Nat)(h0:sz≠0):∀(c6:List (Nat×D))(ds:List D)(k:List D→Prop),CZ sz ds c6 k→∃cs,lB (fun i=>some (i*sz,sz)) ds c6=some cs∧k cs
 |[],ds,k,h=>⟨ds,rfl,h⟩
 |(i,d)::r,ds,k,h=>by
  simp only[CZ]at h;cases hb:(m' d.gd sz&&d.kg)with
  |false=>simp only[hb,cond_false]at h
  |true=>
   simp only[hb,cond_true]at h;simp only[Bool.and_eq_true]at hb;obtain⟨h1,h2⟩:=BR _ _ _ _ h;have hlen:=yg _ _ hb.1;have e8:=h1 (Jv hlen h0);obtain⟨cs,h3,h4⟩:=Nh sz h0 r _ k h2;refine⟨cs,?_,h4⟩;have hc:(Nat.beq d.gd.length sz&&Nat.ble (i*sz+sz) ds.length&&d.kg)=true:=by
    simp only[Bool.and_eq_true,Nat.beq_eq,Nat.ble_eq];exact⟨⟨hlen,by omega⟩,hb.2⟩
   simp only[lB,hc,cond_true];exact h3
def FU(T:TypeId→bp)(t:TypeId)(ps:List (Nat×Operand))(e:Env)(G:Prop)(K:D→Prop):Prop:=
 match(T t).u,(T t).zc,(T t).pl with
 |some (.struct _),some ds,some pl=>bif pl.all (fun x=>!Nat.beq x.2 0)then Bt e ps fun c6=>C0 pl ds c6 fun cs=>K (.agg cs)else G
 |some (.array _ el),some ds,_=>match(T el).sz with
  |some sz=>bif Nat.beq sz 0 then G else Bt e ps fun c6=>CZ sz ds c6 fun cs=>K (.agg cs)
  |none=>G
 |_,_,_=>G
structure GE where
 g:Nat
 b:Bool
 t:Nat
 c:Bool
 env:Env
 ws:Env
def tE:Bool→Bool→Bool
 |true,true=>true
 |false,false=>true
 |_,_=>false
theorem Gz{a b:Bool}(h:tE a b=true):a=b:=by cases a<;>cases b<;>simp_all[tE]
def xE:List GE→Nat→Bool→Option GE
 |[],_,_=>none
 |x::r,t,b=>bif Nat.beq x.t t&&tE x.b b then some x else xE r t b
def JI(gs:List GE)(c x y:Operand)(e:Env)(G:Prop)(K:D→Prop):Prop:=
 match e.op c,c with
 |some (.raw (.bool b)),.tmp tc=>match x,y with
  |.tmp tx,.const (.bool false)=>match xE gs tc true with
   |some z=>match z.ws.get tx with
    |some (.raw (.bool q))=>K (.raw (.bool (b&&q)))
    |_=>G
   |none=>G
  |.const (.bool true),.tmp ty=>match xE gs tc false with
   |some z=>match z.ws.get ty with
    |some (.raw (.bool q))=>K (.raw (.bool (b||q)))
    |_=>G
   |none=>G
  |_,_=>G
 |_,_=>G
def FX(T:TypeId→bp)(b:Builtin)(args:List Operand)(tys:List TypeId)(e:Env)(G:Prop)(K:D→Prop):Prop:=
 match b,args,tys with
 |.len,[x],[t]=>IH T t (e.op x) G K
 |.max,[x,y],_=>D9 true (e.op x) (e.op y) G K
 |.min,[x,y],_=>D9 false (e.op x) (e.op y) G K
 |_,_,_=>G
def En(T:TypeId→bp)(P:Program)(A:Prop)(gs:List GE)(o:Oper)(e:Env)(U:ae)(K:KK):Prop:=
 match o.op with
 |.move x=>match e.op x with
  |some d=>K .p d U
  |none=>K .p .any U
 |.assign x=>match e.op x with
  |some d=>K .p d U
  |none=>ct P A o e U K
 |.binOp op t x y _=>FO T A op t (e.op x) (e.op y) (ct P A o e U K) fun d=>K .p d U
 |.unOp op _ x=>KI op A (e.op x) (ct P A o e U K) fun d=>K .p d U
 |.convert s t x=>F7 T A s t (e.op x) (ct P A o e U K) fun d=>K .p d U
 |.extract x i=>match e.op x with
  |some (.bf ds)=>match nW ds i with
   |some d=>K .p d U
   |none=>ct P A o e U K
  |_=>ct P A o e U K
 |.makeFunc fn xs ys=>Bl e xs.toList fun as=>Bl e ys.toList fun bs=>K .p (.fn fn as bs) U
 |.nilCheck x=>Jh (e.op x) (ct P A o e U K) fun d=>K .p d U
 |.load t x=>IL T t (e.op x) U (ct P A o e U K) fun k d=>K k d U
 |.store t x y=>Kx T t (e.op x) (e.op y) U (ct P A o e U K) fun d ak=>K .w d ak
 |.field t x f=>GK T t (e.op x) f (ct P A o e U K) fun d=>K .p d U
 |.fieldAddr t x f=>GI T t (e.op x) f (ct P A o e U K) fun d=>K .p d U
 |.indexAddr t x i=>Iu T A t (e.op x) (e.op i) (ct P A o e U K) fun d=>K .p d U
 |.index t x i=>It T A t (e.op x) (e.op i) (ct P A o e U K) fun d=>K .p d U
 |.alloc t=>match(T t).zc with
  |some ds=>xG ids U fun id=>K .w (.box id 0) ((id,.cells ds)::U)
  |none=>ct P A o e U K
 |.box _ x=>FT (e.op x) U (ct P A o e U K) fun d ak=>K .w d ak
 |.build t ps=>FU T t ps.toList e (ct P A o e U K) fun d=>K .p d U
 |.pick c x y=>JI gs c x y e (ct P A o e U K) fun d=>K .p d U
 |.call ⟨.builtin b,args,tys⟩=>FX T b args.toList tys.toList e (ct P A o e U K) fun d=>K .p d U
 |_=>ct P A o e U K
end Go.T
