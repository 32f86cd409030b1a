/-
  Contracts of the functions that the statement reaches, and the logic in which they are proved (no condition): parts Core20, Core21, Core22, Core23, Core24, Core25, Core26, Core27, Core28, Core29, Core38.
-/
import Derived.Test.YtapflgppmigcdaaGreatDoorA04
import Derived.Below
import Derived.Laws.MakeOwn
import Derived.Maps.RangeRun
set_option linter.all false
namespace Go.T
open Go
variable[bX]
section
variable{P:Program} {env:Env} {dst:Option Tmp} {ty:TypeId} {pos:String} {ar:Array Edge} {g:Option (Nat×Bool)}
theorem Hh(b o n:Nat):(Addr.mk b o none).add n=⟨b,o+n,none⟩:=by
 unfold Addr.add;split
 ·rename_i h;subst h;rfl
 ·rfl
theorem CD{t e:TypeId}{x y:Operand}{id off n sz o2:Nat}{k:IntKind}{i:Int}(hu:P.underlying t=some (.array n e))(hs:∀w,(sizeOf e).run P w=.ok sz w)(hx:env.op x=some (.box id off))(hy:env.op y=some (.raw (.int k i)))(h0:0≤i)(hi:i.toNat<n)(ho:off+i.toNat*sz=o2)(U:ae):
  aq P ⟨dst,.indexAddr t x y,ty,pos,ar,g⟩ env U (.box id o2) U:=
 .val fun O ρ a w _ hv=>by
  have h1:=hv x (by simp[Op.operands]) _ hx;have h2:=hv y (by simp[Op.operands]) _ hy;simp only[V]at h1 h2;obtain⟨l,hl,e1⟩:=h1;have bw:i<(n:Int):=by omega
  refine⟨.pointer (some ⟨l.b,o2,none⟩),?_,by simp only[V];exact⟨l,hl,rfl⟩⟩;simp[execOp,Instr.indexAt,Instr.sureAddr,asIntOf,h2,e1,ca hu,hs,h0,bw,Hh,ho]
end
theorem Fc.pU{P:Program}{f:FuncId}{args:List D}{r:D}(h:∀w O ρ vals,Gl w O→Vs w O ρ args vals→Calls P f vals.toArray w (fun e w'=>∃v,e=.returned v∧V w' O ρ r v∧fO w w')):Fc P f args r:=⟨fun w O ρ vals _ hg hv=>h w O ρ vals hg hv⟩
theorem Vs.C1{w:World}{O:Nat→Prop}{ρ:az}{s t:aa}{vals:List Value}(h:Vs w O ρ [.str s,.str t] vals):vals=[.string ⟨s.toArray⟩,.string ⟨t.toArray⟩]∧s.length≤aG∧t.length≤aG:=by
 simp only[Vs,V]at h;obtain⟨u,us,rfl,⟨rfl,hb⟩,u',xH,rfl,⟨rfl,qk⟩,rfl⟩:=h;exact⟨rfl,hb,qk⟩
end Go.T
namespace Go.T
open Go
variable[bX]
@[reducible] def gI(s:aa):List Value:=s.map fun b=>Value.int .u8 (b.toNat:Int)
section
variable{P:Program} {env:Env} {dst:Option Tmp} {ty:TypeId} {pos:String} {ar:Array Edge} {g:Option (Nat×Bool)}
theorem Xb{w:World}{O:Nat→Prop}{ρ:az}:∀{t:aa}{us:List Value},Vs w O ρ (l5 t).flatten us→us=gI t
 |[],us,h=>by simpa[l5,Vs]using h
 |c::t,us,h=>by
  simp only[l5,List.map_cons,List.flatten_cons,List.cons_append,List.nil_append,Vs,V]at h;obtain⟨u,xH,rfl,rfl,h2⟩:=h;simp only[gI,List.map_cons,List.cons.injEq,true_and];exact Xb h2
theorem acK{w:World}{O:Nat→Prop}{ρ:az}{t:aa}{dy:D}{v:Value}(JD:dy=.str t∨∃f,dy=.snap 1 f (l5 t))(h:V w O ρ dy v):
  (∀w',(Builtin.lenOf v).run P w'=.ok t.length w')∧(∀w',w'.heap=w.heap→(Builtin.firstCells 1 t.length v).run P w'=.ok (gI t).toArray w'):=by
 rcases JD with rfl|⟨f,rfl⟩
 ·simp only[V]at h;obtain⟨rfl,_⟩:=h;have aY:(⟨t.toArray⟩:ByteArray).size=t.length:=by simp[ByteArray.size]
  refine⟨fun w'=>by simp[Builtin.lenOf,aY],fun w' _=>?_⟩;have he:(⟨t.toArray⟩:ByteArray).extract 0 t.length=⟨t.toArray⟩:=by
   apply ByteArray.ext;rw[ByteArray.data_extract];simp
  simp[Builtin.firstCells,he,gI]
 ·obtain⟨h1,us,h2,h3,_,h5,_⟩:=xz (P:=P) h;have:=Xb h3;subst this;refine⟨fun w'=>by simpa[l5]using h1 w',fun w' e=>?_⟩;have:=h2 w' e;simpa[l5]using this
theorem YI(t:aa):∀u∈gI t,u.oneCell'=true:=by
 intro u hu;simp only[gI,List.mem_map]at hu;obtain⟨b,_,rfl⟩:=hu;rfl
theorem Tr.VL{O:Nat→Prop}{w:World}{ρ:az}{U:ae}{id bl:Nat}(aj:cF w O ρ U):Tr O w ρ U w ρ ((bl,.ba [])::U.set id .dead):=by
 have h1:=Tr.Gr (id:=id) (bl:=bl) (sz:=1) aj;have look:∀i x,ae.get ((bl,Ob.ba [])::U.set id .dead) i=some x→x.live=true→ae.get ((bl,Ob.arr 1 [])::U.set id .dead) i=some x:=by
  intro i x h2 h3;rw[ae.bf]at h2⊢;by_cases e:bl=i
  ·simp only[if_pos e,Option.some.injEq]at h2;subst h2;simp[Ob.live]at h3
  ·rw[if_neg e]at h2⊢;exact h2
 have hO:∀b,b8 ρ ((bl,.ba [])::U.set id .dead) b→b8 ρ ((bl,.arr 1 [])::U.set id .dead) b:=by
  rintro b ⟨i,x,l,h2,h3,h4⟩;exact⟨i,x,l,look i x h2 h3,h3,h4⟩
 refine⟨h1.le,h1.size,h1.same,fun b hb=>h1.new b (hO b hb),⟨h1.ok.lt,fun i hi=>?_,fun i x h2 h3=>?_,fun i j x x' l l' a b c d=>h1.ok.inj i j x x' l l' (look i x a c) (look j x' b d) c d⟩,h1.os⟩
 ·rw[ae.bf]at hi;by_cases e:bl=i
  ·simp[e]at hi
  ·rw[if_neg e]at hi;exact h1.ok.fresh i (by rw[ae.bf,if_neg e];exact hi)
 ·obtain⟨l,g1,g2,g3⟩:=h1.ok.own i x (look i x h2 h3) h3;exact⟨l,g1,g2,g3.fa (Kept.fa fun b hb=>hb.imp _root_.id (hO b))⟩
theorem LX{st xt:TypeId}{xd:TypeDesc}{ti:TypeInfo}{n id:Nat}{x y:Operand}{s t:aa}{dy:D}{U:ae}(bl:Nat)(hu:P.underlying st=some (.slice mQ))(jd:P.underlying xt=some xd)(Kk:∀k,xd≠.int k)(hs:∀w,(sizeOf mQ).run P w=.ok 1 w)
  (jI:∀w,(typeInfo mQ).run P w=.ok ti w)(mX:ti.bytes=1)(hz:∀w,(zeroValue mQ).run P w=.ok (.int .u8 0) w)(hx:env.op x=some (.gs id n))(ho:U.get id=some (.ba s))(hn:s.length=n)(hy:env.op y=some dy)(JD:dy=.str t∨∃f,dy=.snap 1 f (l5 t))(hid:U.get bl=none)
  (pA:n+t.length≤140737488355328):
  aq P ⟨dst,.call ⟨.builtin .append,#[x,y],#[st,xt]⟩,ty,pos,ar,g⟩ env U (.gs bl (n+t.length)) ((bl,.ba (s++t))::U.set id .dead):=
 .step fun O ρ a w aj hv=>by
  have cd:=hv x (by simp[Op.operands,Call.operands]) _ hx;have dJ:=hv y (by simp[Op.operands,Call.operands]) _ hy;have fd:∀v w',(Builtin.append_ #[st,xt] ty #[a.eval x,a.eval y]).run P w=.ok v w'→(execOp a.eval ⟨dst,.call ⟨.builtin .append,#[x,y],#[st,xt]⟩,ty,pos,ar,g⟩).run P w=.ok (.value v) w':=by
   intro v w' h;simp[execOp,resolve,invoke,builtin,h]
  obtain⟨hlen,mg⟩:=acK (P:=P) JD dJ;have j5:(gI t).length=t.length:=by simp[gI]
  -- the bytes in a new block
  have grow:∀(dz:Option Addr)(cap:Nat),a.eval x=.slice dz n cap→(∀w',w'.heap=w.heap→(Builtin.firstCells 1 n (.slice dz n cap)).run P w'=.ok (gI s).toArray w')→¬n+t.length≤cap→
    ∃v w' av,((execOp a.eval ⟨dst,.call ⟨.builtin .append,#[x,y],#[st,xt]⟩,ty,pos,ar,g⟩).run P w=.ok (.value v) w'∨((execOp a.eval ⟨dst,.call ⟨.builtin .append,#[x,y],#[st,xt]⟩,ty,pos,ar,g⟩).run P w=.ok .skip w'∧v=undef))∧Tr O w ρ U w' av ((bl,.ba (s++t))::U.set id .dead)∧V w' (Ot O av ((bl,.ba (s++t))::U.set id .dead)) av (.gs bl (n+t.length)) v:=by
   intro dz cap e1 j6 hc;obtain⟨nc,Bo,aeA,h2⟩:∃nc,n+t.length≤nc∧nc≤9223372036854775807∧(Builtin.append_ #[st,xt] ty #[.slice dz n cap,a.eval y]).run P w=.ok (.slice (some ⟨w.heap.size,0,none⟩) (n+t.length) nc) {w with drawn:=w.drawn+1,heap:=w.heap.push (.cells ((gI s).toArray++(gI t).toArray++Builtin.zeroCells (Value.int .u8 0).cells (nc-(n+t.length))) mQ (0,0))}:=by
    have h1:=nextslicecap_le (n+t.length) cap zO;have h2:¬Builtin.nextslicecap (n+t.length) cap*ti.bytes>281474976710656:=by rw[mX];omega
    refine⟨(n+t.length)+(w.tape w.drawn (.appendCap (n+t.length) cap mQ))%(2^63-(n+t.length)),by omega,by have:=Nat.mod_lt (w.tape w.drawn (.appendCap (n+t.length) cap mQ)) (show 0<2^63-(n+t.length) by omega);omega,?_⟩;have EY:=hlen w;have EQ:=mg w.drew rfl;have QQ:=j6 w.drew rfl;have gK:ti.bytes≠0:=by omega
    simp[Builtin.append_,ca hu,hs,ca jd,EY,hc,jI,gK,h2,Question.forced,Question.cut,QQ,EQ,hz,newRow];simp only[World.alloc,World.drew];have h9:∀zs:Array Value,(gI s).toArray++((gI t).toArray++zs)=(gI s++gI t).toArray++zs:=fun zs=>by apply Array.ext';simp
    rw[h9]
   rw[←e1]at h2;have Bt:cF {w with drawn:=w.drawn+1} O ρ U:=(Tr.drawn aj (w.drawn+1) (Nat.le_succ _)).ok;have bg:=Tr.drawn aj (w.drawn+1) (Nat.le_succ _);refine⟨_,_,T.cm ρ bl ⟨w.heap.size,0,nc⟩,.inl (fd _ _ h2),bg.trans (Tr.born (w:={w with drawn:=w.drawn+1}) Bt hid _ rfl q8 DP ?_),?_⟩
   ·intro hk;refine⟨(gI s).toArray++(gI t).toArray++Builtin.zeroCells (Value.int .u8 0).cells (nc-(n+t.length)),by simp,rfl,?_,?_,aeA,?_⟩
    ·simp[MU,Value.cells,gI,hn];omega
    ·simp[hn];exact Bo
    ·rw[Array.toList_append,Array.toList_append,List.take_append_of_le_length (by simp[gI])];rw[List.take_of_length_le (by simp[gI])];simp[gI]
   ·simp only[V];exact .inr ⟨by omega,_,kq ..,rfl⟩
  by_cases dY:n=0
  ·subst dY;obtain rfl:s=[]:=List.length_eq_zero_iff.1 hn;have he:∃ad,a.eval x=.slice ad 0 0:=by
    simp only[V]at cd;rcases cd with⟨_,ad,e⟩|⟨h,_⟩
    ·exact⟨ad,e⟩
    ·exact absurd rfl h
   obtain⟨ad,e1⟩:=he;by_cases hm:t=[]
   ·subst hm;refine⟨.slice ad 0 0,w,ρ,.inl (fd _ _ ?_),by simpa using Tr.VL (id:=id) (bl:=bl) aj,by simp[V]⟩;have h1:=mg w rfl;rw[e1];cases ad with
    |none=>simp[Builtin.append_,ca hu,hs,ca jd,hlen w]at h1⊢;simp[h1]
    |some ad=>simp[Builtin.append_,ca hu,hs,ca jd,hlen w]at h1⊢;simp[h1,storeCells]
   ·refine grow ad 0 e1 ?_ ?_
    ·intro w' _;cases ad with
     |none=>simp[Builtin.firstCells]
     |some ad=>simp[Builtin.firstCells,loadCells,loadCellsFrom]
    ·have:t.length≠0:=fun h=>hm (List.length_eq_zero_iff.1 h);omega
  ·have ei:(Ob.ba s).live=true:=by
    cases s with
    |nil=>simp at hn;exact absurd hn.symm dY
    |cons r rs=>rfl
   obtain⟨l,h3,hOl,c,h4,h5,h6,h7,h8,h9⟩:=aj.own id _ ho ei;have e1:a.eval x=.slice (some ⟨l.b,0,none⟩) n l.cap:=by
    simp only[V]at cd;rcases cd with⟨h,_⟩|⟨_,l',h8,e⟩
    ·exact absurd h dY
    ·rw[h3]at h8;cases h8;rw[e,h5]
   rw[hn]at h7 h9;have aef:∀w',w'.heap=w.heap→(Builtin.firstCells 1 n (.slice (some ⟨l.b,0,none⟩) n l.cap)).run P w'=.ok (gI s).toArray w':=by
    intro w' hw;have:=Gw (P:=P) (w:=w') (b:=l.b) (c:=c) (T:=mQ) (by rw[hw];exact h4) n 0 0 #[] zO;simp only[Builtin.firstCells,loadCells,Nat.mul_one];rw[this];simp[h9]
   by_cases hc:n+t.length≤l.cap
   ·have aP:=vp (P:=P) (b:=l.b) (T:=mQ) (gI t) w c (0+n*1) 0 h4 (by rw[j5];omega) (YI t);have Ka:=run_append_room (T:=ty) (a:=⟨l.b,0,none⟩) (w:=w) hu hs jd Kk (hlen w) (mg w rfl) hc (by rw[addr_add];exact aP);have bg:=Tr.cm (o':=.ba (s++t)) aj ho ei h3 (.cells (setMany c (0+n*1+0) (gI t)) mQ (0,0)) ?_
    ·have JV:(Ob.ba (s++t)).live=true:=by
      cases s with
      |nil=>simp at hn;exact absurd hn.symm dY
      |cons r rs=>rfl
     have JM:(U.set id (.ba (s++t))).get bl=none:=by
      rw[ae.dV];by_cases e:id=bl
      ·subst e;rw[ho]at hid;cases hid
      ·rw[if_neg e];exact hid
     have kJ:=Tr.rename (id:=id) (bl:=bl) bg.ok (by rw[ae.dV];simp) JV JM h3;rw[ae.set_set]at kJ;refine⟨_,_,Go.T.cm ρ bl l,.inl (fd _ _ (by rw[e1];exact Ka)),bg.trans kJ,?_⟩;simp only[V];exact .inr ⟨by omega,l,kq ..,by rw[h5]⟩
    ·intro hk;refine⟨_,by simp[(Array.getElem?_eq_some_iff.1 h4).1];rfl,h5,by rw[Gz];exact h6,by simp[hn];exact hc,h8,?_⟩;rw[CU _ _ _ (by rw[j5];omega)];rw[h9,List.length_append,hn];rw[List.take_append_of_le_length (by simp[gI,hn])];rw[List.take_of_length_le (by simp[gI,hn])];simp[gI]
   ·exact grow (some ⟨l.b,0,none⟩) l.cap e1 aef hc
end
end Go.T
namespace Go.T
open Go
variable[bX]
theorem Tr.ai9{O:Nat→Prop}{w:World}{ρ:az}{U:ae}(id:Nat)(aj:cF w O ρ U):Tr O w ρ U w ρ ((id,.ba [])::U):=by
 have look:∀i x,ae.get ((id,Ob.ba [])::U) i=some x→x.live=true→U.get i=some x:=by
  intro i x h1 h2;rw[ae.bf]at h1;by_cases e:id=i
  ·simp only[if_pos e,Option.some.injEq]at h1;subst h1;simp[Ob.live]at h2
  ·rw[if_neg e]at h1;exact h1
 have lv:∀b,b8 ρ ((id,.ba [])::U) b→b8 ρ U b:=by
  rintro b ⟨i,x,l,h1,h2,h3⟩;exact⟨i,x,l,look i x h1 h2,h2,h3⟩
 have hk:Kept w (Ot O ρ U) w (Ot O ρ ((id,.ba [])::U)):=Kept.fa fun b=>Or.imp _root_.id (lv b);refine⟨bI.refl _,Nat.le_refl _,fun _ _ _=>rfl,fun b hb=>.inl (lv b hb),⟨aj.lt,?_,?_,?_⟩,rfl,rfl,gV.eq rfl rfl⟩
 ·intro i hi;rw[ae.bf]at hi;by_cases e:id=i
  ·simp[e]at hi
  ·rw[if_neg e]at hi;exact aj.fresh i hi
 ·intro i x h1 h2;obtain⟨l,h3,h4,h5⟩:=aj.own i x (look i x h1 h2) h2;exact⟨l,h3,h4,h5.mono hk (bI.refl _) rfl⟩
 ·intro i j x x' l1 l2 h1 h2 h3 h4;exact aj.inj i j x x' l1 l2 (look i x h1 h3) (look j x' h2 h4) h3 h4
section
variable{P:Program} {env:Env} {dst:Option Tmp} {ty:TypeId} {pos:String} {ar:Array Edge} {g:Option (Nat×Bool)}
theorem ajx{U:ae}(id j:Nat)(hz:∀w,(zeroValue om).run P w=.ok (.agg #[.pointer none,.slice none 0 0]) w)(hid:U.get id=none):aq P ⟨dst,.alloc om,ty,pos,ar,g⟩ env U (.box id 0) ((j,.ba [])::(id,.eE j 0)::U):=
 .step fun O ρ a w aj hv=>by
  have fd:(Instr.alloc om true (.tuple #[])).run P w=.ok (.pointer (some ⟨w.heap.size,0,none⟩)) {w with heap:=w.heap.push (.cells #[.pointer none,.slice none 0 0] om (0,0))}:=by
   simp[Instr.alloc,newVar,newRow,hz,Value.cells,run_newObj_alloc]
  have bg:Tr O w ρ U {w with heap:=w.heap.push (.cells #[.pointer none,.slice none 0 0] om (0,0))} (cm ρ id ⟨w.heap.size,0,0⟩) ((id,.eE j 0)::U):=
   Tr.born aj hid _ rfl (fun i x h _=>h) (fun i h=>h) (fun _=>⟨.pointer none,.slice none 0 0,by simp,.inl rfl,.inl ⟨rfl,none,rfl⟩⟩)
  have kJ:=Tr.ai9 j bg.ok;refine⟨_,_,_,.inl (by simp[execOp,fd];rfl),bg.trans kJ,?_⟩;simp only[V];exact⟨_,kq ..,rfl⟩
theorem L2{t e:TypeId}{x:Operand}{id j n:Nat}{s:aa}{U:ae}(ht:∀w,(isAgg t).run P w=.ok false w)(hx:env.op x=some (.box id 1))(ho:U.get id=some (.eE j n))(hj:U.get j=some (.ba s))(hn:s.length=n):aq P ⟨dst,.load t x,ty,pos,ar,g⟩ env U (.gs j n) U:=
 .val fun O ρ a w aj hv=>by
  have h1:=hv x (by simp[Op.operands]) _ hx;simp only[V]at h1;obtain⟨l,h2,e⟩:=h1;obtain⟨l',h3,_,p,v,h4,h5,h6⟩:=aj.own id _ ho rfl;rw[h2]at h3;cases h3;have hc:w.cell? ⟨l.b,1,none⟩=some v:=by simp[World.cell?,h4]
  refine⟨v,by simp[execOp,Instr.loadAt,Instr.sureAddr,e,loadVar,ht,hc],?_⟩;simp only[V];rcases h6 with h6|⟨h6,lj,h7,h8⟩
  ·exact .inl h6
  ·refine .inr ⟨h6,lj,h7,?_⟩;have ei:(Ob.ba s).live=true:=by
    cases s with
    |nil=>simp at hn;exact absurd hn.symm h6
    |cons r rs=>rfl
   obtain⟨SP,h9,_,c,_,ct,_⟩:=aj.own j _ hj ei;rw[h7]at h9;cases h9;rw[h8,ct]
theorem L7{t:TypeId}{x y:Operand}{id j n j' n':Nat}{s:aa}{U:ae}(hs:∀w,(sizeOf t).run P w=.ok 1 w)(hx:env.op x=some (.box id 1))(hy:env.op y=some (.gs j' n'))(ho:U.get id=some (.eE j n))(hj:U.get j'=some (.ba s))(hn:s.length=n'):
  aq P ⟨dst,.store t x y,ty,pos,ar,g⟩ env U (.raw undef) (U.set id (.eE j' n')):=
 .step fun O ρ a w aj hv=>by
  have h1:=hv x (by simp[Op.operands]) _ hx;have lC:=hv y (by simp[Op.operands]) _ hy;simp only[V]at h1;obtain⟨l,h2,e⟩:=h1;obtain⟨l',h3,hO,p,v,h4,h5,h6⟩:=aj.own id _ ho rfl;rw[h2]at h3;cases h3;have h7:=vp (P:=P) [a.eval y] w #[p,v] 1 0 h4 zS (by simpa using lC.one rfl);have h8:(a.eval y).cells=#[a.eval y]:=cells_one (lC.one rfl);refine⟨undef,_,ρ,.inr ⟨?_,rfl⟩,Tr.cm (o':=.eE j' n') aj ho rfl h2 (.cells (setMany #[p,v] (1+0) [a.eval y]) om (0,0)) ?_,by simp[V]⟩
  ·simp[execOp,Instr.storeAt,Instr.sureAddr,e,storeVar,h8,hs,h7]
  ·intro hk;have qq:setMany #[p,v] (1+0) [a.eval y]=#[p,a.eval y]:=by simp[setMany]
   refine⟨p,a.eval y,by rw[qq];simp[(Array.getElem?_eq_some_iff.1 h4).1],h5,?_⟩;simp only[V]at lC;rcases lC with h9|⟨h9,lj,ct,cI⟩
   ·exact .inl h9
   ·refine .inr ⟨h9,lj,ct,?_⟩;have ei:(Ob.ba s).live=true:=by
     cases s with
     |nil=>simp at hn;exact absurd hn.symm h9
     |cons r rs=>rfl
    obtain⟨SP,dI,_,c,_,fR,_⟩:=aj.own j' _ hj ei;rw[ct]at dI;cases dI;rw[cI,fR]
end
theorem Le.Ma{F:Fr}{env:Env}{U:ae}{n:Nat}{s:aa}(id j j':Nat)(ho:U.get id=some (.eE j n))(hj:U.get j=some (.ba s))(hn:s.length=n)(hid:U.get j'=none):
  Le F env U env (ae.set ((j',.ba s)::U.set j .dead) id (.eE j' n)):=.step fun O ρ w f aj hv=>by
 have aes:id≠j:=by rintro rfl;rw[ho]at hj;cases hj
 have aet:id≠j':=by rintro rfl;rw[ho]at hid;cases hid
 have hjj:j≠j':=by rintro rfl;rw[hj]at hid;cases hid
 have Wr:∀(av:az),Tr O w ρ U w av ((j',.ba s)::U.set j .dead)→(n≠0→∀lj,ρ j=some lj→av j'=some lj)→∃av,Tr O w ρ U w av (ae.set ((j',.ba s)::U.set j .dead) id (.eE j' n))∧∀t d,env.get t=some d→V w (Ot O av (ae.set ((j',.ba s)::U.set j .dead) id (.eE j' n))) av d (f t):=by
  intro av bg kH;have hg:ae.get ((j',Ob.ba s)::U.set j .dead) id=some (.eE j n):=by
   rw[ae.bf,if_neg (Ne.symm aet),ae.dV,if_neg (Ne.symm aes)];exact ho
  obtain⟨l,h3,h4,p,v,h5,h6,h7⟩:=bg.ok.own id _ hg rfl;have aeO:{w with heap:=w.heap.setIfInBounds l.b (.cells #[p,v] om (0,0))}=w:=by
   have:w.heap.setIfInBounds l.b (.cells #[p,v] om (0,0))=w.heap:=by
    apply Array.ext zS;intro i h1 h2;rw[Array.getElem_setIfInBounds];split
    ·rename_i e;subst e;exact(Option.some.inj ((Array.getElem?_eq_getElem h2).symm.trans h5)).symm
    ·rfl
   rw[this]
  have kJ:=Tr.cm (o':=.eE j' n) bg.ok hg rfl h3 (.cells #[p,v] om (0,0)) (fun hk=>⟨p,v,by simp[(Array.getElem?_eq_some_iff.1 h5).1],h6,?_⟩)
  ·rw[aeO]at kJ;have h:=bg.trans kJ;exact⟨av,h,fun t d hd=>h.V (hv t d hd)⟩
  ·rcases h7 with h7|⟨h7,lj,h8,h9⟩
   ·exact .inl h7
   ·have ei:(Ob.ba s).live=true:=by
     cases s with
     |nil=>simp at hn;exact absurd hn.symm h7
     |cons r rs=>rfl
    obtain⟨KE,g1,_⟩:=aj.own j _ hj ei;have:=bg.le j KE g1;rw[this]at h8;have e:=Option.some.inj h8;exact .inr ⟨h7,KE,kH h7 KE g1,by rw[e];exact h9⟩
 cases s with
 |nil=>
  simp at hn;exact Wr ρ (Tr.VL (id:=j) (bl:=j') aj) (fun h=>absurd hn.symm h)
 |cons c r=>
  obtain⟨l,h3,_⟩:=aj.own j _ hj rfl;exact Wr _ (Tr.rename (id:=j) (bl:=j') aj hj rfl hid h3) (fun _ lj kH=>by rw[h3]at kH;cases kH;exact kq ..)
end Go.T
namespace Go.T
open Go
variable[bX]
section
variable{P:Program} {env:Env} {dst:Option Tmp} {ty:TypeId} {pos:String} {ar:Array Edge} {g:Option (Nat×Bool)}
theorem aha{z:Value}(hz:z.cells=#[z])(n k:Nat):madeCells z.cells (n+k)=(List.replicate n z).toArray++(List.replicate k z).toArray:=by
 rw[hz];apply Array.ext
 ·simp[madeCells]
 ·intro i h1 h2;simp only[madeCells,Array.getElem_map,Array.getElem_range];have:i%(#[z]:Array Value).size=0:=by simp[Nat.mod_one]
  rw[this];simp only[Array.size_append,List.size_toArray,List.length_replicate]at h2;by_cases h:i<n
  ·rw[Array.getElem_append_left (by simpa using h)];simp
  ·rw[Array.getElem_append_right zQ];simp
theorem V1{t e:TypeId}{ti:TypeInfo}{z:Value}{n m:Nat}(hu:P.underlying t=some (.slice e))(hs:∀w,(sizeOf e).run P w=.ok 1 w)(jI:∀w,(typeInfo e).run P w=.ok ti w)(hz:∀w,(zeroValue e).run P w=.ok z w)
  (J0:n≤m)(h0:m≠0)(hb:ti.bytes*m≤281474976710656)(Qr:m≤9223372036854775807)(w:World):
  (Instr.makeSlice t (.int .i64 n) (.int .i64 m)).run P w=.ok (.slice (some ⟨w.heap.size,0,none⟩) n m) (w.alloc (.cells (madeCells z.cells m) e)):=by
 have wl:IntKind.i64.wrap (n:Int)=n:=by rw[IntKind.wrap_i64];omega
 have wc:IntKind.i64.wrap (m:Int)=m:=by rw[IntKind.wrap_i64];omega
 have n1:¬(m:Int)<0:=by omega
 have n2:¬(281474976710656<(ti.bytes:Int)*(m:Int)):=by rw[←Int.natCast_mul];omega
 have n3:¬(n:Int)<0:=by omega
 have n4:¬(m:Int)<n:=by omega
 simp[Instr.makeSlice,run_underlying hu,asInt,asIntOf,jI,hs,hz,wl,wc,n1,n2,n3,n4,h0,newRow,madeCells]
theorem vj{t e:TypeId}{ti:TypeInfo}{z:Value}{x y:Operand}{m bt:Nat}{nx ny:Int}{U:ae}(id n:Nat)(hu:P.underlying t=some (.slice e))(hs:∀w,(sizeOf e).run P w=.ok 1 w)(jI:∀w,(typeInfo e).run P w=.ok ti w)(hz:∀w,(zeroValue e).run P w=.ok z w)
  (Km:z.cells=#[z])(qu:z.oneCell'=true)(mX:ti.bytes=bt)(hx:env.op x=some (.raw (.int .i64 nx)))(hy:env.op y=some (.raw (.int .i64 ny)))(Br:nx=(n:Int))(Bs:ny=(m:Int))(J0:n≤m)(dY:n≠0)(hb:bt*m≤281474976710656)(Qr:m≤1000000000000)(hid:U.get id=none):
  aq P ⟨dst,.makeSlice t x y,ty,pos,ar,g⟩ env U (.gs id n) ((id,.arr 1 (List.replicate n [.raw z]))::U):=
 .step fun O ρ a w aj hv=>by
  have cd:=hv x (by simp[Op.operands]) _ hx;have dJ:=hv y (by simp[Op.operands]) _ hy;simp only[V]at cd dJ;subst Br;subst Bs;have hr:=V1 (n:=n) (m:=m) hu hs jI hz J0 zO (by rw[mX];exact hb) zO w;obtain⟨k,rfl⟩:=Nat.exists_eq_add_of_le J0;rw[aha Km]at hr;refine⟨.slice (some ⟨w.heap.size,0,none⟩) n (n+k),_,T.cm ρ id ⟨w.heap.size,0,n+k⟩,.inl ?_,Tr.born aj hid (.cells ((List.replicate n z).toArray++(List.replicate k z).toArray) e) rfl (fun i x h _=>h) (fun i h=>h) ?_,?_⟩
  ·simp only[execOp,cd,dJ];rw[Sem.run_bind,hr];rfl
  ·intro hk;refine gX.grown (w:=w) (T:=e) (O:=Ot O ρ U) (vs:=List.replicate n z) (zs:=(List.replicate k z).toArray) zS zS zS zS (by simp[aG];omega) (by intro r hr;rw[List.eq_of_mem_replicate hr];rfl) ?_ ?_ hk
   ·have:∀n,Vs w (Ot O ρ U) dt (List.replicate n [D.raw z]).flatten (List.replicate n z):=by
     intro n;induction n with
     |zero=>simp[Vs]
     |succ n ih=>rw[List.replicate_succ,List.replicate_succ];exact⟨_,_,rfl,by simp[V],ih⟩
    exact this n
   ·intro v iL;rw[List.eq_of_mem_replicate iL];exact qu
  ·simp only[V];exact .inr ⟨dY,⟨w.heap.size,0,n+k⟩,by simp[T.cm],rfl⟩
theorem ajU{t e:TypeId}{ti:TypeInfo}{z:Value}{x y:Operand}{m bt:Nat}{nx ny:Int}(hu:P.underlying t=some (.slice e))(hs:∀w,(sizeOf e).run P w=.ok 1 w)(jI:∀w,(typeInfo e).run P w=.ok ti w)(hz:∀w,(zeroValue e).run P w=.ok z w)
  (mX:ti.bytes=bt)(hx:env.op x=some (.raw (.int .i64 nx)))(hy:env.op y=some (.raw (.int .i64 ny)))(Br:nx=0)(Bs:ny=(m:Int))(h0:m≠0)(hb:bt*m≤281474976710656)(Qr:m≤1000000000000)(U:ae):
  aq P ⟨dst,.makeSlice t x y,ty,pos,ar,g⟩ env U (.snap 1 false []) U:=
 .step fun O ρ a w aj hv=>by
  have cd:=hv x (by simp[Op.operands]) _ hx;have dJ:=hv y (by simp[Op.operands]) _ hy;simp only[V]at cd dJ;subst Br;subst Bs;have hr:=V1 (n:=0) (m:=m) hu hs jI hz zO h0 (by rw[mX];exact hb) zO w;refine⟨.slice (some ⟨w.heap.size,0,none⟩) 0 m,w.alloc (.cells (madeCells z.cells m) e),ρ,.inl ?_,Tr.oK ⟨by simp,fun b hb=>by show(w.heap.push _)[b]?=_;rw[Array.getElem?_push,if_neg (Nat.ne_of_lt hb)],rfl,rfl,gV.eq rfl rfl⟩ aj,?_⟩
  ·simp only[execOp,cd,dJ];rw[Sem.run_bind];have nN:(Instr.makeSlice t (.int .i64 0) (.int .i64 (m:Int))).run P w=.ok (.slice (some ⟨w.heap.size,0,none⟩) 0 m) (w.alloc (.cells (madeCells z.cells m) e)):=hr;rw[nN];rfl
  ·simp[V,aG]
theorem Vn{t e xt:TypeId}{x y:Operand}{id n:Nat}{fP:Bool}{rows new:List (List D)}{U:ae}(hu:P.underlying t=some (.slice e))(hs:∀w,(sizeOf e).run P w=.ok 1 w)
  (hx:env.op x=some (.gs id n))(hy:env.op y=some (.snap 1 fP new))(ho:U.get id=some (.arr 1 rows))(hn:rows.length=n)(hm:new.length=n)(dY:n≠0):
  aq P ⟨dst,.call ⟨.builtin .copy,#[x,y],#[t,xt]⟩,ty,pos,ar,g⟩ env U (.raw (.int .i64 n)) (U.set id (.arr 1 new)):=
 .step fun O ρ a w aj hv=>by
  have cd:=hv x (by simp[Op.operands,Call.operands]) _ hx;have dJ:=hv y (by simp[Op.operands,Call.operands]) _ hy;obtain⟨hlen,us,mg,m7,rz,j5,f_⟩:=xz (P:=P) dJ;simp only[V]at cd;rcases cd with⟨e0,_⟩|⟨_,l,h2,e1⟩
  ·exact absurd e0 dY
  have ei:(Ob.arr 1 rows).live=true:=by
   cases rows with
   |nil=>exact absurd hn.symm dY
   |cons=>rfl
  obtain⟨l',h3,_,c,T,h4,hc,E4,h5⟩:=aj.own id _ ho ei;rw[h2]at h3;cases h3;have arm:us.length=n:=by rw[j5,hm,Nat.mul_one]
  have h6:=vp (P:=P) us w c l.off 0 h4 zO rz;rw[hm]at hlen mg;refine⟨.int .i64 n,_,ρ,.inl ?_,Tr.cm (o':=.arr 1 new) aj ho ei h2 (.cells (setMany c (l.off+0) us) T (0,0)) ?_,by simp[V]⟩
  ·simp[execOp,resolve,invoke,builtin,Builtin.copy_,run_underlying hu,e1,hlen,hs,mg w rfl,h6,goInt,Nat.min_self]
  ·intro hk;refine⟨setMany c l.off us,T,by simp[(Array.getElem?_eq_some_iff.1 h4).1],by rw[Gz];exact hc,by rw[hm,←hn];exact E4,?_⟩;have iC:new.flatten.length=us.length:=m7.length.symm;have uP:((setMany c l.off us).toList.drop l.off).take new.flatten.length=us:=by
    rw[iC,CU us c l.off zO,List.append_assoc,List.drop_append_of_le_length zQ,List.drop_of_length_le zQ];simp
   refine Vr.r3 (c:=setMany c l.off us) (T:=T) (fr:=(0,0)) (by simp[(Array.getElem?_eq_some_iff.1 h4).1]) new l.off f_ ?_ ?_
   ·rw[uP];exact Vs.mono hk (bI.refl _) _ _ m7
   ·rw[uP];exact rz
theorem ajF{t e xt:TypeId}{x y:Operand}{fP IT:Bool}{sz:Nat}(hu:P.underlying t=some (.slice e))(hs:∀w,(sizeOf e).run P w=.ok sz w)
  (hx:env.op x=some (.snap sz fP []))(hy:env.op y=some (.snap sz IT []))(U:ae):
  aq P ⟨dst,.call ⟨.builtin .copy,#[x,y],#[t,xt]⟩,ty,pos,ar,g⟩ env U (.raw (.int .i64 0)) U:=
 .step fun O ρ a w aj hv=>by
  have cd:=hv x (by simp[Op.operands,Call.operands]) _ hx;have dJ:=hv y (by simp[Op.operands,Call.operands]) _ hy;obtain⟨hlen,us,mg,m7,rz,j5,f_⟩:=xz (P:=P) dJ;simp only[V]at cd;obtain⟨b,cap,e1,_⟩:=cd;have BD:us=[]:=List.length_eq_zero_iff.1 (by simpa using j5);subst BD;have hf:=mg w rfl;simp only[List.length_nil]at hlen hf e1;refine⟨.int .i64 0,w,ρ,.inl ?_,Tr.refl aj,by simp[V]⟩;cases b with
  |none=>simp[execOp,resolve,invoke,builtin,Builtin.copy_,run_underlying hu,e1,hlen,hs,hf,goInt]
  |some b=>simp[execOp,resolve,invoke,builtin,Builtin.copy_,run_underlying hu,e1,hlen,hs,hf,goInt,storeCells]
theorem akM{t e:TypeId}{op:BinOp}(hu:P.underlying t=some (.slice e))(b:Option Addr)(n m:Nat)(w:World):(Op.equal t (.slice b n m) (.slice none 0 0)).run P w=.ok b.isNone w:=by
 show(Op.equalIn (9999+1) t (.slice b n m) (.slice none 0 0)).run P w=_;rw[Op.equalIn];cases b<;>simp[ca hu]
theorem Vo{t t' e:TypeId}{x y:Operand}{sz:Nat}{fP:Bool}{rows:List (List D)}(hu:P.underlying t=some (.slice e))(hx:env.op x=some (.snap sz fP rows))(hy:env.op y=some (.raw (.slice none 0 0)))(U:ae):
  sj P ⟨dst,.binOp .eql t x y t',ty,pos,ar,g⟩ env U (fun b:Bool=>rows≠[]→b=false) (fun b=>.raw (.bool b)) (fun _=>U):=by
 intro O ρ a w aj cK hv;have cd:=hv x (by simp[Op.operands]) _ hx;have dJ:=hv y (by simp[Op.operands]) _ hy;simp only[V]at cd dJ;obtain⟨b,cap,e1,_,_,h3⟩:=cd;have hr:(execOp a.eval ⟨dst,.binOp .eql t x y t',ty,pos,ar,g⟩).run P w=.ok (.value (.bool b.isNone)) w:=by
  simp[execOp,e1,dJ,eqGuard,binOp,akM (op:=.eql) hu]
 unfold Oper.wp;rw[hr];refine⟨b.isNone,ρ,_,?_,rfl,Tr.refl aj,by simp[V]⟩;intro aD;obtain⟨b',off,rfl,_⟩:=h3 aD;rfl
theorem ajJ{t t' e:TypeId}{x y:Operand}{sz:Nat}{fP:Bool}{rows:List (List D)}(hu:P.underlying t=some (.slice e))(hx:env.op x=some (.snap sz fP rows))(hy:env.op y=some (.raw (.slice none 0 0)))(aD:rows≠[])(U:ae):
  aq P ⟨dst,.binOp .eql t x y t',ty,pos,ar,g⟩ env U (.raw (.bool false)) U:=by
 intro O ρ a w aj cK hv;refine Oper.wp_mono ?_ (Vo hu hx hy U O ρ a w aj cK hv);rintro a' w' ⟨i,av,v,hA,h⟩;cases hA aD;exact⟨av,v,h⟩
end
end Go.T
namespace Go.T
open Go
variable[bX]
def ade(b:Bool):List (List D):=match b with
 |true=>[]
 |false=>[[.box 0 0]]
@[reducible] def ghost(b:Bool):Ob:=.arr 1 (ade b)
def PY(lo aK:Nat)(o:ae):Bool:=o.all fun p=>!(Nat.ble lo p.1&&Nat.blt p.1 (lo+100))&&!(Nat.beq p.1 aK)
theorem PZ{lo aK:Nat}:∀{o:ae},PY lo aK o=true→∀i,(lo≤i∧i<lo+100)∨i=aK→o.get i=none
 |[],_,i,_=>rfl
 |(t,d)::r,h,i,hi=>by
  simp only[PY,List.all_cons,Bool.and_eq_true]at h;rw[ae.bf,if_neg,PZ (o:=r) h.2 i hi];rintro rfl;obtain⟨⟨h1,h2⟩,_⟩:=h;rcases hi with⟨a,b⟩|rfl
  ·have e1:Nat.ble lo t=true:=by rw[Nat.ble_eq];exact a
   have e2:Nat.blt t (lo+100)=true:=by rw[Nat.blt_eq];exact b
   simp[e1,e2]at h1
  ·simp at h2
end Go.T
namespace Go.T
open Go
variable[bX]
structure jn(P:Program)(F:Fr)(ops:Array Oper)(K:Env→ae→Prop)(dH:Nat)(listed:Array Bool)(env:Env)(U:ae):Prop where
 out:∀(C:Ctx)(Q:Exit→Act→World→Prop),(∀a w aQ am,K aQ am→St F C aQ am a w→Q .normal a w)→∀a w,St F C env U a w→wpAnyIn (fz C.ro) 0 P .any ops Q dH listed a w
section
variable{P:Program} {F:Fr} {ops:Array Oper} {K:Env→ae→Prop} {dH:Nat} {listed:Array Bool} {env:Env} {U:ae}
theorem jn.nil(hr:Region.ready .any ops listed=[])(h:K env U):jn P F ops K 0 listed env U:=⟨fun _ _ hQ a w hs=>⟨hr,hQ a w env U h hs⟩⟩
structure Di(P:Program)(F:Fr)(ops:Array Oper)(K:Env→ae→Prop)(dH:Nat)(listed:Array Bool)(env:Env)(U:ae)(i:Nat):Prop where
 out:∃o d am,ops[i]?=some o∧dR F.N o.dst=true∧On ops env o∧aq P o env U d am∧jn P F ops K dH (listed.setIfInBounds i true) (env.put o.dst d) am
theorem Di.mk'{i:Nat}{o:Oper}{d:D}{am:ae}(ho:ops[i]?=some o)(hd:dR F.N o.dst=true)(hg:On ops env o)(hq:aq P o env U d am)(k:jn P F ops K dH (listed.setIfInBounds i true) (env.put o.dst d) am):Di P F ops K dH listed env U i:=⟨o,d,am,ho,hd,hg,hq,k⟩
theorem jn.step{l:List Nat}(hr:Region.ready .any ops listed=l)(hn:l≠[])(h:∀i∈l,Di P F ops K dH listed env U i):jn P F ops K (dH+1) listed env U:=⟨fun C Q hQ a w hs=>by
 refine⟨fun e=>absurd (hr▸e) hn,fun i hi=>?_⟩;rw[hr]at hi;obtain⟨o,d,am,ho,hd,hg,hq,k⟩:=(h i hi).out;obtain⟨ρ,aP⟩:=hs;unfold wpOpIn;simp only[ho];rw[if_pos (Da hg fun g b t _ _ d hd=>aP.env t d hd)];have:=hq C.O ρ a w aP.tr.ok aP.wk (fun x _ d' h=>tz aP.env x d' h);refine Oper.wpIn_mono ?_ (xN C.ro this (by rintro a' w' ⟨av,v,rfl,_⟩;exact Act.lN ..));rintro a' w' ⟨av,v,rfl,j4,hv⟩;exact k.out C Q hQ _ _ ⟨av,aP.step j4 (uu aP.size hd (fun t d h=>j4.V (aP.env t d h)) hv) (Act.tV _ _ _) (Act.lN ..)⟩⟩
end
end Go.T
namespace Go.T
open Go
variable[bX]
abbrev SM:=List (aa×aa)
@[reducible] def re(m:SM):List (D×D):=m.map fun p=>(.str p.1,.str p.2)
def XF(es:List MapEntry)(m:SM)(n:Nat):Prop:=es.length=m.length∧∀i k v,m[i]?=some (k,v)→∃e,es[i]?=some e∧e.born=n+i∧e.key=.string ⟨k.toArray⟩∧e.val=.string ⟨v.toArray⟩
theorem Ws(a b:aa):((⟨a.toArray⟩:ByteArray)==⟨b.toArray⟩)=decide (a=b):=by
  have e:((⟨a.toArray⟩:ByteArray)==⟨b.toArray⟩)=(a.toArray==b.toArray):=rfl;rw[e,Bool.eq_iff_iff];simp
theorem ai'{w:World}{O:Nat→Prop}{ρ:az}{l:Loc}{m:SM}{es:Array MapEntry}(h1:w.heap[l.b]?=some (.map es m.length))(h2:XF es.toList m 0)(h3:∀p∈m,p.1.length≤aG∧p.2.length≤aG):gX w O ρ l (.mp (re m)):=by
  refine⟨es,by simpa[re]using h1,by simpa[re]using h2.1,fun i kd vd hi=>?_⟩;simp only[re,List.getElem?_map,Option.map_eq_some_iff]at hi;obtain⟨⟨k,v⟩,g1,g2⟩:=hi;cases g2;obtain⟨e,g3,g4,g5,g6⟩:=h2.2 i k v g1;have:=h3 _ (List.mem_of_getElem? g1);exact⟨e,by simpa using g3,by omega,by simp only[V];exact⟨g5,this.1⟩,by simp only[V];exact⟨g6,this.2⟩⟩
section
variable{P:Program} {env:Env} {dst:Option Tmp} {ty:TypeId} {pos:String} {ar:Array Edge} {g:Option (Nat×Bool)}
theorem ajT{t:TypeId}{U:ae}(id:Nat)(hid:U.get id=none):aq P ⟨dst,.makeMap t none,ty,pos,ar,g⟩ env U (.bR id) ((id,.mp (re []))::U):=
  .step fun O ρ a w aj hv=>by
    refine⟨.map (some w.heap.size),_,T.cm ρ id ⟨w.heap.size,0,0⟩,.inl ?_,Tr.born aj hid (.map #[] 0) rfl (fun i x h _=>h) (fun i h=>h) ?_,?_⟩
    · simp only[execOp,Option.map_none]
      rw[Sem.run_bind];rfl
    · intro hk
      exact ai' (m:=[]) (es:=#[]) zS ⟨rfl,fun i k v h=>by simp at h⟩ zS
    · simp only[V];exact⟨⟨w.heap.size,0,0⟩,by simp[T.cm],rfl⟩
end
end Go.T
namespace Go.T
open Go
variable[bX]
open Go.ChangeMaps (setBlock)
section
variable{P:Program} {env:Env} {dst:Option Tmp} {ty:TypeId} {pos:String} {ar:Array Edge} {g:Option (Nat×Bool)}
end
end Go.T
namespace Go.T
open Go
variable[bX]
section
variable{P:Program} {env:Env} {dst:Option Tmp} {ty:TypeId} {pos:String} {ar:Array Edge} {g:Option (Nat×Bool)}
end
end Go.T
namespace Go.T
open Go
open Go.ChangeMaps (setBlock)
variable[bX]
variable{κ β:Type} [DecidableEq κ]
def jY(k:κ):List κ→Nat→Option Nat
 |[],_=>none
 |x::r,i=>if k=x then some i else jY k r (i+1)
structure kr(P:Program)(kt:TypeId)(kD:κ→D)(kV:κ→Value)(gN:κ→Prop):Prop where
 val:∀{w:World}{O:Nat→Prop}{ρ:az}{k:κ}{v:Value},V w O ρ (kD k) v→v=kV k∧gN k
 back:∀{w:World}{O:Nat→Prop}{ρ:az}{k:κ},gN k→V w O ρ (kD k) (kV k)
 check:∀(b:Bool)(k:κ)(w:World),gN k→(Instr.checkKey b 10000 kt (kV k)).run P w=.ok () w
 find:∀(k:κ)(es:List MapEntry)(ks:List κ)(w:World),es.map (·.key)=ks.map kV→(∀x∈ks,gN x)→gN k→
  (Instr.findKey kt (kV k) es).run P w=.ok ((jY k ks 0).map fun j=>(j,(es[j]?.map (·.val)).getD undef)) w
 stays:∀(k:κ)(w:World),(Instr.keyThatStays (kV k) (kV k)).run P w=.ok (kV k) w
@[reducible] def bu(kD:κ→D)(vD:β→D)(m:List (κ×β)):List (D×D):=m.map fun p=>(kD p.1,vD p.2)
def dU(d:β):List (κ×β)→κ→β
 |[],_=>d
 |(a,v)::r,k=>if k=a then v else dU d r k
def jZ(m:List (κ×β))(k:κ):Bool:=m.any fun p=>decide (k=p.1)
def dN:List (κ×β)→κ→β→List (κ×β)
 |[],k,v=>[(k,v)]
 |(a,u)::r,k,v=>if k=a then(k,v)::r else(a,u)::dN r k v
theorem AY(d:β)(k:κ):∀(m:List (κ×β))(i:Nat),
  (jY k (m.map (·.1)) i=none∧jZ m k=false∧dU d m k=d∧∀v,dN m k v=m++[(k,v)])∨
  (∃j,j<m.length∧jY k (m.map (·.1)) i=some (i+j)∧m[j]?=some (k,dU d m k)∧jZ m k=true∧∀v,dN m k v=m.set j (k,v))
 |[],i=>.inl ⟨rfl,rfl,rfl,fun _=>rfl⟩
 |(a,u)::m,i=>by
  by_cases h:k=a
  ·subst h;exact .inr ⟨0,by simp,by simp[jY],by simp[dU],by simp[jZ],fun v=>by simp[dN]⟩
  ·rcases AY d k m (i+1)with⟨h1,h2,h3,h4⟩|⟨j,h1,h2,h3,h4,h5⟩
   ·exact .inl ⟨by simp[jY,h,h1],by simpa[jZ,h]using h2,by simp[dU,h,h3],fun v=>by simp[dN,h,h4]⟩
   ·exact .inr ⟨j+1,by simp;omega,by simp only[List.map_cons,jY,h,if_false,h2];congr 1;omega,by simpa[dU,h]using h3,by simpa[jZ,h]using h4,fun v=>by simp[dN,h,h5]⟩
section
variable{P:Program} {kt:TypeId} {kD:κ→D} {kV:κ→Value} {gN:κ→Prop} {vD:β→D}
structure se(w:World)(O:Nat→Prop)(ρ:az)(kV:κ→Value)(vD:β→D)(es:Array MapEntry)(m:List (κ×β)):Prop where
 len:es.size=m.length
 at_:∀(i:Nat)(k:κ)(v:β),m[i]?=some (k,v)→∃e,es[i]?=some e∧e.born=i∧e.key=kV k∧V w O ρ (vD v) e.val
theorem se.keys{w:World}{O:Nat→Prop}{ρ:az}{es:Array MapEntry}{m:List (κ×β)}(h:se w O ρ kV vD es m):es.toList.map (·.key)=(m.map (·.1)).map kV:=by
 apply List.ext_getElem?;intro i;simp only[List.getElem?_map,Array.getElem?_toList];rcases Nat.lt_or_ge i m.length with g|g
 ·obtain⟨e,g1,_,g3,_⟩:=h.at_ i (m[i]).1 (m[i]).2 (by simp[g]);rw[g1,List.getElem?_eq_getElem g];simp[g3]
 ·rw[Array.getElem?_eq_none (by rw[h.len];exact g),List.getElem?_eq_none g];rfl
theorem Cq(hK:kr P kt kD kV gN){w:World}{O:Nat→Prop}{ρ:az}{l:Loc}{m:List (κ×β)}(h:gX w O ρ l (.mp (bu kD vD m))):∃es,w.heap[l.b]?=some (.map es m.length)∧se w O ρ kV vD es m∧∀k∈m.map (·.1),gN k:=by
 obtain⟨es,h1,h2,h3⟩:=h;simp only[bu,List.length_map]at h1 h2;have key:∀(i:Nat)(k:κ)(v:β),m[i]?=some (k,v)→∃e:MapEntry,es[i]?=some e∧e.born=i∧e.key=kV k∧V w O ρ (vD v) e.val∧gN k:=by
  intro i k v hi;obtain⟨e,g1,g2,g3,g4⟩:=h3 i (kD k) (vD v) (by simp[bu,hi]);have:=hK.val g3;exact⟨e,g1,g2,this.1,g4,this.2⟩
 refine⟨es,h1,⟨h2,fun i k v hi=>?_⟩,fun k hk=>?_⟩
 ·obtain⟨e,g1,g2,g3,g4,_⟩:=key i k v hi;exact⟨e,g1,g2,g3,g4⟩
 ·obtain⟨p,hp,rfl⟩:=List.mem_map.1 hk;obtain⟨i,hi⟩:=List.getElem?_of_mem hp;obtain⟨_,_,_,_,_,g5⟩:=key i p.1 p.2 hi;exact g5
theorem UO(hK:kr P kt kD kV gN){w:World}{O:Nat→Prop}{ρ:az}{l:Loc}{m:List (κ×β)}{es:Array MapEntry}(h1:w.heap[l.b]?=some (.map es m.length))(h2:se w O ρ kV vD es m)(h3:∀k∈m.map (·.1),gN k):gX w O ρ l (.mp (bu kD vD m)):=by
 refine⟨es,by simpa[bu]using h1,by simpa[bu]using h2.len,fun i kd vd hi=>?_⟩;simp only[bu,List.getElem?_map,Option.map_eq_some_iff]at hi;obtain⟨⟨k,v⟩,g1,g2⟩:=hi;cases g2;obtain⟨e,g3,g4,g5,g6⟩:=h2.at_ i k v g1;exact⟨e,g3,g4,by rw[g5];exact hK.back (h3 k (List.mem_map.2 ⟨(k,v),List.mem_of_getElem? g1,rfl⟩)),g6⟩
variable{env:Env} {dst:Option Tmp} {ty:TypeId} {pos:String} {ar:Array Edge} {g:Option (Nat×Bool)}
theorem mF{t:TypeId}{U:ae}(id:Nat)(kD:κ→D)(vD:β→D)(hid:U.get id=none):aq P ⟨dst,.makeMap t none,ty,pos,ar,g⟩ env U (.bR id) ((id,.mp (bu kD vD []))::U):=ajT id hid
theorem SR(hK:kr P kt kD kV gN){O:Nat→Prop}{ρ:az}{w:World}{t et:TypeId}{id:Nat}{l:Loc}{m:List (κ×β)}{k:κ}{d:β}{U:ae}{zv:Value}{c:Bool}(hu:P.underlying t=some (.map kt et))(hz:(zeroValue et).run P w=.ok zv w)(s6:V w (Ot O ρ U) ρ (vD d) zv)
  (aj:cF w O ρ U)(ho:U.get id=some (.mp (bu kD vD m)))(h2:ρ id=some l)(hk:gN k):
  ∃v,V w (Ot O ρ U) ρ (vD (dU d m k)) v∧(Instr.lookup t (.map (some l.b)) (kV k) c).run P w=.ok (if c then .tuple #[v,.bool (jZ m k)]else v) w:=by
 obtain⟨l',h3,_,kI⟩:=aj.own id _ ho rfl;rw[h2]at h3;cases h3;obtain⟨es,h4,h5,h6⟩:=Cq hK kI;have ql:=fun b=>hK.check b k w hk;have il:=hK.find k es.toList (m.map (·.1)) w h5.keys h6 hk;rcases AY d k m 0 with⟨g1,g2,g3,_⟩|⟨j,gj,g1,g2,g3,_⟩
 ·refine⟨zv,by rw[g3];exact s6,?_⟩;rw[g1]at il;cases c<;>simp[Instr.lookup,ca hu,MapKept.run_getObj_map h4,ql,il,hz,g2]
 ·obtain⟨e,k1,k2,k3,k4⟩:=h5.at_ j k _ g2;refine⟨e.val,k4,?_⟩;rw[g1]at il;simp only[Option.map_some,Nat.zero_add,Array.getElem?_toList,k1,Option.getD_some]at il;cases c<;>simp[Instr.lookup,ca hu,MapKept.run_getObj_map h4,ql,il,g3]
theorem Gj(hK:kr P kt kD kV gN){t et:TypeId}{x y:Operand}{id:Nat}{m:List (κ×β)}{k:κ}{d:β}{kd:D}{U:ae}{zv:Value}(hu:P.underlying t=some (.map kt et))(hz:∀w,(zeroValue et).run P w=.ok zv w)(s6:∀(w:World) O ρ,V w O ρ (vD d) zv)
  (hx:env.op x=some (.bR id))(hy:env.op y=some kd)(qn:kd=kD k)(ho:U.get id=some (.mp (bu kD vD m))):
  aq P ⟨dst,.lookup t x y false,ty,pos,ar,g⟩ env U (vD (dU d m k)) U:=
 .val fun O ρ a w aj hv=>by
  subst qn;have cd:=hv x (by simp[Op.operands]) _ hx;have dJ:=hK.val (hv y (by simp[Op.operands]) _ hy);simp only[V]at cd;obtain⟨l,h2,e1⟩:=cd;obtain⟨v,h3,h4⟩:=SR (c:=false) hK hu (hz w) (s6 w _ ρ) aj ho h2 dJ.2;exact⟨v,by simp[execOp,e1,dJ.1,h4],h3⟩
theorem ajR(hK:kr P kt kD kV gN){t et:TypeId}{x y:Operand}{id:Nat}{m:List (κ×β)}{k:κ}{d:β}{kd:D}{U:ae}{zv:Value}(hu:P.underlying t=some (.map kt et))(hz:∀w,(zeroValue et).run P w=.ok zv w)(s6:∀(w:World) O ρ,V w O ρ (vD d) zv)
  (hx:env.op x=some (.bR id))(hy:env.op y=some kd)(qn:kd=kD k)(ho:U.get id=some (.mp (bu kD vD m))):
  aq P ⟨dst,.lookup t x y true,ty,pos,ar,g⟩ env U (.bj [vD (dU d m k),.b (jZ m k)]) U:=
 .val fun O ρ a w aj hv=>by
  subst qn;have cd:=hv x (by simp[Op.operands]) _ hx;have dJ:=hK.val (hv y (by simp[Op.operands]) _ hy);simp only[V]at cd;obtain⟨l,h2,e1⟩:=cd;obtain⟨v,h3,h4⟩:=SR (c:=true) hK hu (hz w) (s6 w _ ρ) aj ho h2 dJ.2;refine⟨.tuple #[v,.bool (jZ m k)],by simp[execOp,e1,dJ.1,h4],?_⟩;simp only[V,Vs];exact⟨_,rfl,_,_,rfl,h3,_,_,rfl,rfl,rfl⟩
theorem ak3(Jo:κ→Prop){m:List (κ×β)}{k:κ}{v:β}(h:∀x∈m.map (·.1),Jo x)(hk:Jo k):∀x∈(dN m k v).map (·.1),Jo x:=by
 induction m with
 |nil=>intro x hx;simp[dN]at hx;subst hx;exact hk
 |cons p r ih=>
  obtain⟨a,u⟩:=p;intro x hx;simp only[dN]at hx;split at hx
  ·simp only[List.map_cons,List.mem_cons]at hx h;rcases hx with rfl|hx
   ·exact hk
   ·exact h x (.inr hx)
  ·simp only[List.map_cons,List.mem_cons]at hx;rcases hx with rfl|hx
   ·exact h _ zS
   ·exact ih (fun y hy=>h y (by simp only[List.map_cons,List.mem_cons];exact .inr hy)) x hx
theorem eD(hK:kr P kt kD kV gN){t et:TypeId}{x y z:Operand}{id:Nat}{m:List (κ×β)}{k:κ}{v:β}{kd vd:D}{U:ae}(hu:P.underlying t=some (.map kt et))
  (hx:env.op x=some (.bR id))(hy:env.op y=some kd)(hz:env.op z=some vd)(qn:kd=kD k)(hvd:vd=vD v)(ho:U.get id=some (.mp (bu kD vD m))):
  aq P ⟨dst,.mapUpdate t x y z,ty,pos,ar,g⟩ env U (.raw undef) (U.set id (.mp (bu kD vD (dN m k v)))):=
 .step fun O ρ a w aj hv=>by
  subst qn;subst hvd;have cd:=hv x (by simp[Op.operands]) _ hx;have dJ:=hK.val (hv y (by simp[Op.operands]) _ hy);have Rz:=hv z (by simp[Op.operands]) _ hz;simp only[V]at cd;obtain⟨l,h2,e1⟩:=cd;obtain⟨l',h3,_,kI⟩:=aj.own id _ ho rfl;rw[h2]at h3;cases h3;obtain⟨es,h4,h5,h6⟩:=Cq hK kI;have ql:=fun b=>hK.check b k w dJ.2;have il:=hK.find k es.toList (m.map (·.1)) w h5.keys h6 dJ.2;have qq:∀o',(setObj l.b o').run P w=.ok () {w with heap:=w.heap.setIfInBounds l.b o'}:=fun o'=>by simp[setObj,Sem.run,h4]
  have bw:=(Array.getElem?_eq_some_iff.1 h4).1;have sX:=ak3 gN (v:=v) h6 dJ.2;rcases AY v k m 0 with⟨g1,_,_,g4⟩|⟨j,gj,g1,g2,_,g4⟩
  ·rw[g1]at il;refine⟨undef,_,ρ,.inr ⟨?_,rfl⟩,Tr.cm (o':=.mp (bu kD vD (dN m k v))) aj ho rfl h2 (.map (es.push {key:=kV k,val:=a.eval z,born:=m.length}) (m.length+1)) ?_,by simp[V]⟩
   ·simp[execOp,Instr.mapUpdate,ca hu,e1,dJ.1,MapKept.run_getObj_map h4,ql,il,qq]
   ·intro js;rw[g4]at sX js⊢;refine UO hK (es:=es.push {key:=kV k,val:=a.eval z,born:=m.length}) (by simp[bw]) ⟨by simp[h5.len],fun i k' v' hi=>?_⟩ sX;rw[Array.getElem?_push,h5.len];by_cases e:i=m.length
    ·subst e;rw[List.getElem?_append_right (Nat.le_refl _)]at hi;simp at hi;obtain⟨rfl,rfl⟩:=hi;exact⟨_,by rw[if_pos rfl],rfl,rfl,V.mono js (bI.refl _) _ _ Rz⟩
    ·have mh:i<m.length:=by
      rcases Nat.lt_or_ge i m.length with q|q
      ·exact q
      ·rw[List.getElem?_eq_none zQ]at hi;cases hi
     rw[List.getElem?_append_left mh]at hi;obtain⟨x,q1,q2,q3,q4⟩:=h5.at_ i k' v' hi;exact⟨x,by rw[if_neg e];exact q1,q2,q3,V.mono js (bI.refl _) _ _ q4⟩
  ·obtain⟨e,k1,k2,k3,_⟩:=h5.at_ j k _ g2;rw[g1]at il;simp only[Option.map_some,Nat.zero_add]at il;refine⟨undef,_,ρ,.inr ⟨?_,rfl⟩,Tr.cm (o':=.mp (bu kD vD (dN m k v))) aj ho rfl h2 (.map (es.modify j fun e=>{e with key:=kV k,val:=a.eval z}) m.length) ?_,by simp[V]⟩
   ·simp[execOp,Instr.mapUpdate,ca hu,e1,dJ.1,MapKept.run_getObj_map h4,ql,il,qq,k1,k3,hK.stays]
   ·intro js;rw[g4]at sX js⊢;refine UO hK (es:=es.modify j fun e=>{e with key:=kV k,val:=a.eval z}) (by simp[bw]) ⟨by simp[h5.len],fun i k' v' hi=>?_⟩ sX;rw[Array.getElem?_modify];rw[List.getElem?_set]at hi;by_cases e':j=i
    ·subst e';rw[if_pos rfl,if_pos gj]at hi;cases hi;exact⟨{e with key:=kV k,val:=a.eval z},by rw[if_pos rfl,k1];rfl,k2,rfl,V.mono js (bI.refl _) _ _ Rz⟩
    ·rw[if_neg e']at hi;obtain⟨x,q1,q2,q3,q4⟩:=h5.at_ i k' v' hi;exact⟨x,by rw[if_neg e'];exact q1,q2,q3,V.mono js (bI.refl _) _ _ q4⟩
theorem se.mem{w:World}{O:Nat→Prop}{ρ:az}{es:Array MapEntry}{m:List (κ×β)}(h:se w O ρ kV vD es m){e:MapEntry}(he:e∈es.toList):∃k v,m[e.born]?=some (k,v)∧es[e.born]?=some e∧e.key=kV k∧V w O ρ (vD v) e.val:=by
 obtain⟨j,hj⟩:=List.getElem?_of_mem he;rw[Array.getElem?_toList]at hj;have bw:j<m.length:=by rw[←h.len];exact(Array.getElem?_eq_some_iff.1 hj).1
 obtain⟨e',g1,g2,g3,g4⟩:=h.at_ j (m[j]).1 (m[j]).2 (by simp[bw]);rw[hj]at g1;cases g1;subst g2;exact⟨_,_,by simp[bw],hj,g3,g4⟩
theorem se.NG{w:World}{O:Nat→Prop}{ρ:az}{es:Array MapEntry}{m:List (κ×β)}(h:se w O ρ kV vD es m):es.toList.map (·.born)=List.range m.length:=by
 apply List.ext_getElem?;intro i;rw[List.getElem?_map,Array.getElem?_toList];rcases Nat.lt_or_ge i m.length with g|g
 ·obtain⟨e,g1,g2,_⟩:=h.at_ i (m[i]).1 (m[i]).2 (by simp[g]);rw[g1,List.getElem?_range g];simp[g2]
 ·rw[Array.getElem?_eq_none (by rw[h.len];exact g),List.getElem?_eq_none (by simpa using g)];rfl
theorem L5(hK:kr P kt kD kV gN){t et:TypeId}{x:Operand}{id:Nat}{m:List (κ×β)}{U:ae}(eI:Nat)(hu:P.underlying t=some (.map kt et))(hx:env.op x=some (.bR id))(ho:U.get id=some (.mp (bu kD vD m)))(hid:U.get eI=none):
  aq P ⟨dst,.range t x,ty,pos,ar,g⟩ env U (.box eI 0) ((eI,.mi id m.length [])::U):=
 .step fun O ρ a w aj hv=>by
  have cd:=hv x (by simp[Op.operands]) _ hx;simp only[V]at cd;obtain⟨l,h2,e1⟩:=cd;obtain⟨l',h3,_,kI⟩:=aj.own id _ ho rfl;rw[h2]at h3;cases h3;obtain⟨es,h4,h5,h6⟩:=Cq hK kI;have hr:=run_range_map (P:=P) w t kt et l.b es m.length hu h4;refine⟨.pointer (some ⟨w.heap.size,0,none⟩),_,T.cm ρ eI ⟨w.heap.size,0,0⟩,.inl ?_,Tr.born aj hid (.mapIter (some l.b) m.length #[] m.length) rfl (fun i x h _=>h) (fun i h=>h) ?_,?_⟩
  ·simp only[execOp,e1];rw[Sem.run_bind,hr];rfl
  ·intro hk;have aD:eI≠id:=by rintro rfl;rw[ho]at hid;cases hid
   exact⟨l,by simp[T.cm,aD.symm,h2],by simp⟩
  ·simp only[V];exact⟨⟨w.heap.size,0,0⟩,by simp[T.cm],rfl⟩
def Ug(m:List (κ×β))(seen:List Nat):Option (Nat×κ×β)→Prop
 |none=>∀j,j<m.length→j∈seen
 |some (j,k,v)=>m[j]?=some (k,v)∧j∉seen
@[reducible] def rZ(kD:κ→D)(vD:β→D):Option (Nat×κ×β)→D
 |none=>.bj [.b false]
 |some (_,k,v)=>.bj [.b true,kD k,vD v]
@[reducible] def tn(U:ae)(eI id n:Nat)(seen:List Nat):Option (Nat×κ×β)→ae
 |none=>U
 |some (j,_,_)=>U.set eI (.mi id n (seen++[j]))
theorem L4(hK:kr P kt kD kV gN){x:Operand}{id eI:Nat}{m:List (κ×β)}{seen:List Nat}{U:ae}(hx:env.op x=some (.box eI 0))(hi:U.get eI=some (.mi id m.length seen))(ho:U.get id=some (.mp (bu kD vD m))):
  sj P ⟨dst,.next x false,ty,pos,ar,g⟩ env U (Ug m seen) (rZ kD vD) (tn U eI id m.length seen):=by
 intro O ρ a w aj cK hv;have cd:=hv x (by simp[Op.operands]) _ hx;simp only[V]at cd;obtain⟨r,qo,e1⟩:=cd;obtain⟨r',nO,_,lm,hm,hit⟩:=aj.own eI _ hi rfl;rw[qo]at nO;cases nO;obtain⟨l',h3,_,kI⟩:=aj.own id _ ho rfl;rw[hm]at h3;cases h3;obtain⟨es,h4,h5,h6⟩:=Cq hK kI;have yP:∀x∈es.toList,x.born<m.length:=fun x hx=>by
  obtain⟨_,_,q,_⟩:=h5.mem hx;exact(List.getElem?_eq_some_iff.1 q).1
 unfold Oper.wp;have uH:(execOp a.eval ⟨dst,.next x false,ty,pos,ar,g⟩).run P w=((Instr.next (.pointer (some ⟨r.b,0,none⟩)) false ty).bind fun v=>Sem.pure (Next.value v)).run P w:=by
  simp only[execOp,e1];rfl
 rw[uH];rcases run_next_at (P:=P) w ty r.b lm.b m.length m.length seen.toArray es m.length hit h4 yP (Nat.le_refl _)with⟨hz,fd⟩|⟨e,he,w1,s2,fd⟩
 ·have:((Instr.next (.pointer (some ⟨r.b,0,none⟩)) false ty).bind fun v=>Sem.pure (Next.value v)).run P w=.ok (.value (.tuple #[.bool false])) w:=by
   show(Sem.bind _ _).run P w=_;rw[Sem.run_bind',fd];rfl
  rw[this];refine⟨none,ρ,_,?_,rfl,Tr.refl aj,by simp[V,Vs,D.b]⟩;intro j hj;have pJ:leftOf es seen.toArray=#[]:=Array.eq_empty_of_size_eq_zero hz;obtain⟨e,g1,g2,_⟩:=h5.at_ j (m[j]).1 (m[j]).2 (by simp[hj]);unfold leftOf at pJ;rw[Array.filter_eq_empty_iff]at pJ;have pE:e∈es:=Array.mem_of_getElem? g1;have:=pJ e pE;simp at this;rw[g2]at this;exact this
 ·have Bf:e∈es.toList∧e.born∉seen:=by
   unfold leftOf at he;simp at he;exact⟨by simpa using he.1,by simpa using he.2⟩
  obtain⟨k,v,g1,g2,g3,g4⟩:=h5.mem Bf.1;have:((Instr.next (.pointer (some ⟨r.b,0,none⟩)) false ty).bind fun v=>Sem.pure (Next.value v)).run P w=.ok (.value (.tuple #[.bool true,e.key,e.val])) (setBlock w1 r.b (.mapIter (some lm.b) m.length (seen.toArray.push e.born) m.length)):=by
   show(Sem.bind _ _).run P w=_;rw[Sem.run_bind',fd];rfl
  rw[this];have oB:Tr O w ρ U w1 ρ U:=by
   rcases s2 with rfl|rfl
   ·exact Tr.refl aj
   ·exact Tr.drawn aj _ (by first|exact Nat.le_succ _|omega)
  have JO:w1.heap[r.b]?=some (.mapIter (some lm.b) m.length seen.toArray m.length):=by rcases s2 with rfl|rfl<;>exact hit
  have kJ:=Tr.cm (o':=.mi id m.length (seen++[e.born])) oB.ok hi rfl qo (.mapIter (some lm.b) m.length (seen.toArray.push e.born) m.length) (fun _=>⟨lm,hm,by simp[(Array.getElem?_eq_some_iff.1 JO).1]⟩);refine⟨some (e.born,k,v),ρ,_,⟨g1,Bf.2⟩,rfl,oB.trans kJ,?_⟩;simp only[V,Vs,D.b];refine⟨_,rfl,_,_,rfl,rfl,_,_,rfl,?_,_,_,rfl,(oB.trans kJ).V g4,rfl⟩;rw[g3];exact hK.back (h6 k (List.mem_map.2 ⟨(k,v),List.mem_of_getElem? g1,rfl⟩))
theorem LZ(hK:kr P kt kD kV gN){x:Operand}{id eI j:Nat}{k:κ}{v:β}{m:List (κ×β)}{seen:List Nat}{U:ae}(hx:env.op x=some (.box eI 0))(hi:U.get eI=some (.mi id m.length (seen++[j])))(ho:U.get id=some (.mp (bu kD vD m)))(hj:m[j]?=some (k,v)):
  aq P ⟨dst,.entry x,ty,pos,ar,g⟩ env U (.bj [kD k,vD v]) U:=
 .val fun O ρ a w aj hv=>by
  have cd:=hv x (by simp[Op.operands]) _ hx;simp only[V]at cd;obtain⟨r,qo,e1⟩:=cd;obtain⟨r',nO,_,lm,hm,hit⟩:=aj.own eI _ hi rfl;rw[qo]at nO;cases nO;obtain⟨l',h3,_,kI⟩:=aj.own id _ ho rfl;rw[hm]at h3;cases h3;obtain⟨es,h4,h5,h6⟩:=Cq hK kI;obtain⟨e,g1,g2,g3,g4⟩:=h5.at_ j k v hj;have Bi:w.heap[r.b]?=some (.mapIter (some lm.b) m.length (seen.toArray.push e.born) m.length):=by rw[hit,g2];simp
  have eU:(es.toList.map (·.born)).Nodup:=by rw[h5.NG];exact List.nodup_range
  have fd:=run_entry_at (P:=P) w r.b lm.b m.length seen.toArray es m.length e Bi h4 (by simpa using Array.mem_of_getElem? g1) eU;refine⟨.tuple #[e.key,e.val],?_,?_⟩
  ·simp only[execOp,e1];rw[Sem.run_bind,fd];rfl
  ·simp only[V,Vs];refine⟨_,rfl,_,_,rfl,?_,_,_,rfl,g4,rfl⟩;rw[g3];exact hK.back (h6 k (List.mem_map.2 ⟨(k,v),List.mem_of_getElem? hj,rfl⟩))
end
@[reducible] def C_(s:aa):Value:=.string ⟨s.toArray⟩
theorem IJ{k:κ}:∀{ks:List κ}{i j:Nat},jY k ks i=some j→i≤j
 |[],_,_,h=>by simp[jY]at h
 |x::ks,i,j,h=>by
  simp only[jY]at h;split at h
  ·simp at h;omega
  ·have:=IJ h;omega
end Go.T
namespace Go.T
open Go
variable[bX]
structure bx where
 u:Option TypeDesc:=none
 agg:Option Bool:=none
 sz:Option Nat:=none
 zc:Option (List D):=none
 pl:Option (List (Nat×Nat)):=none
 bt:Option Nat:=none
structure bV(P:Program)(t:TypeId)(i:bx):Prop where
 u:∀d,i.u=some d→P.underlying t=some d
 agg:∀b,i.agg=some b→∀w,(isAgg t).run P w=.ok b w
 sz:∀n,i.sz=some n→∀w,(sizeOf t).run P w=.ok n w
 zc:∀ds,i.zc=some ds→∃z,(∀w,(zeroValue t).run P w=.ok z w)∧z.cells.toList.map lR=ds
 pl:∀pl,i.pl=some pl→∀fs,P.underlying t=some (.struct fs)→∀w,(fs.mapM (m:=Sem) fun f=>Prod.mk f.offset<$>sizeOf f.type).run P w=.ok pl.toArray w
 bt:∀n,i.bt=some n→∃ti,(∀w,(typeInfo t).run P w=.ok ti w)∧ti.bytes=n
structure mL(P:Program)(T:TypeId→bx):Prop where
 ty:∀t,bV P t (T t)
 mixed:P.follows .mixedOrders=true
def oC{α:Type _}:List α→Nat→Option α
 |[],_=>none
 |a::_,0=>some a
 |_::l,n+1=>oC l n
theorem s_{α:Type _}:∀(l:List α)(n:Nat),oC l n=l[n]?
 |[],n=>by simp[oC]
 |a::l,0=>by simp[oC]
 |a::l,n+1=>by simp[oC,s_ l n]
def nS{α:Type _}:List α→Nat→Bool
 |[],0=>true
 |_::l,n+1=>nS l n
 |_,_=>false
theorem y8{α:Type _}:∀(l:List α)(n:Nat),nS l n=true→l.length=n
 |[],0,_=>rfl
 |a::l,n+1,h=>by simp[y8 l n h]
 |[],n+1,h=>by simp[nS]at h
 |a::l,0,h=>by simp[nS]at h
def ya:List D→Nat→(List D→Prop)→Prop
 |l,0,k=>k l
 |_::l,n+1,k=>ya l n k
 |[],_+1,_=>False
theorem DX:∀(l:List D)(n:Nat)(k:List D→Prop),ya l n k→n≤l.length∧k (l.drop n)
 |l,0,k,h=>⟨Nat.zero_le _,by simpa[ya]using h⟩
 |a::l,n+1,k,h=>by
  obtain⟨h1,h2⟩:=DX l n k h;exact⟨by simp;omega,by simpa using h2⟩
 |[],n+1,k,h=>h.elim
def Ak:List D→Nat→(List D→Prop)→Prop
 |_,0,k=>k []
 |a::l,n+1,k=>Ak l n fun r=>k (a::r)
 |[],_+1,_=>False
theorem GJ:∀(l:List D)(n:Nat)(k:List D→Prop),Ak l n k→n≤l.length∧k (l.take n)
 |l,0,k,h=>⟨Nat.zero_le _,by simpa[Ak]using h⟩
 |a::l,n+1,k,h=>by
  obtain⟨h1,h2⟩:=GJ l n _ h;exact⟨by simp;omega,by simpa using h2⟩
 |[],n+1,k,h=>h.elim
def r_:List D→Nat→List D→(List D→Prop)→Prop
 |ds,_,[],k=>k ds
 |_::ds,0,c::cs,k=>r_ ds 0 cs fun r=>k (c::r)
 |d::ds,n+1,c::cs,k=>r_ ds n (c::cs) fun r=>k (d::r)
 |[],_,_::_,_=>False
theorem Mn(d:D):∀(cs ds:List D)(n:Nat),lT (d::ds) (n+1) cs=d::lT ds n cs
 |[],ds,n=>rfl
 |c::cs,ds,n=>by simp[lT,Mn d cs]
theorem CT:∀(ds:List D)(n:Nat)(cs:List D)(k:List D→Prop),r_ ds n cs k→(cs≠[]→n+cs.length≤ds.length)∧k (lT ds n cs)
 |ds,n,[],k,h=>by
  unfold r_ at h;exact⟨fun e=>absurd rfl e,h⟩
 |d::ds,0,c::cs,k,h=>by
  simp only[r_]at h;obtain⟨h1,h2⟩:=CT ds 0 cs _ h;refine⟨fun _=>?_,?_⟩
  ·cases cs with
   |nil=>simp
   |cons c' cs=>have:=h1 zS;simp at this⊢;omega
  ·simp only[lT,List.set_cons_zero,Mn];exact h2
 |d::ds,n+1,c::cs,k,h=>by
  simp only[r_]at h;obtain⟨h1,h2⟩:=CT ds n (c::cs) _ h;refine⟨fun _=>?_,?_⟩
  ·have:=h1 zS;simp at this⊢;omega
  ·rw[Mn];exact h2
 |[],n,c::cs,k,h=>by simp[r_]at h
def FW:ae→Nat→Ob→(ae→Prop)→Prop
 |[],i,x,k=>k [(i,x)]
 |(t,d)::r,i,x,k=>bif Nat.beq t i then k ((t,x)::r)else FW r i x fun r'=>k ((t,d)::r')
theorem Um:∀(U:ae)(i:Nat)(x:Ob)(k:ae→Prop),FW U i x k→k (U.set i x)
 |[],i,x,k,h=>h
 |(t,d)::r,i,x,k,h=>by
  simp only[FW]at h;simp only[ae.set];cases hb:Nat.beq t i with
  |true=>simpa only[hb,cond_true]using h
  |false=>simp only[hb,cond_false]at h⊢;exact Um r i x _ h
def yp:List Nat→ae→(Nat→Prop)→Prop
 |[],_,_=>False
 |i::is,U,k=>match U.get i with
  |none=>k i
  |some _=>yp is U k
theorem Em:∀(is:List Nat)(U:ae)(k:Nat→Prop),yp is U k→∃i,U.get i=none∧k i
 |[],U,k,h=>h.elim
 |i::is,U,k,h=>by
  simp only[yp]at h;cases hg:U.get i with
  |none=>simp only[hg]at h;exact⟨i,hg,h⟩
  |some o=>simp only[hg]at h;exact Em is U k h
def ids:List Nat:=[0,1,2,3,4,5,6,7,8,9,10,11,12,13,14,15,16,17,18,19,20,21,22,23,24,25,26,27,28,29,30,31,32,33,34,35,36,37,38,39,40,41,42,43,44,45,46,47,48,49,50]
def Ck(e:Env):List Operand→(List D→Prop)→Prop
 |[],k=>k []
 |x::xs,k=>match e.op x with
  |some d=>Ck e xs fun r=>k (d::r)
  |none=>False
theorem LF(e:Env):∀(xs:List Operand)(k:List D→Prop),Ck e xs k→∃ds,e.kg xs=some ds∧k ds
 |[],k,h=>⟨[],rfl,h⟩
 |x::xs,k,h=>by
  simp only[Ck]at h;cases hx:e.op x with
  |none=>simp only[hx]at h
  |some d=>
   simp only[hx]at h;obtain⟨ds,h1,h2⟩:=LF e xs _ h;exact⟨d::ds,by simp[Env.kg,hx,h1],h2⟩
def Cu(e:Env):List (Nat×Operand)→(List (Nat×D)→Prop)→Prop
 |[],k=>k []
 |(i,x)::xs,k=>match e.op x with
  |some d=>Cu e xs fun r=>k ((i,d)::r)
  |none=>False
theorem LO(e:Env):∀(xs:List (Nat×Operand))(k:List (Nat×D)→Prop),Cu e xs k→∃ds,e.nZ xs=some ds∧k ds
 |[],k,h=>⟨[],rfl,h⟩
 |(i,x)::xs,k,h=>by
  simp only[Cu]at h;cases hx:e.op x with
  |none=>simp only[hx]at h
  |some d=>
   simp only[hx]at h;obtain⟨ds,h1,h2⟩:=LO e xs _ h;exact⟨(i,d)::ds,by simp[Env.nZ,hx,h1],h2⟩
def Eb(pl:List (Nat×Nat)):List D→List (Nat×D)→(List D→Prop)→Prop
 |ds,[],k=>k ds
 |ds,(i,d)::r,k=>match oC pl i with
  |some (off,size)=>bif nS d.iz size&&d.mC then r_ ds off d.iz fun eP=>Eb pl eP r k else False
  |none=>False
theorem LA{d:D}{n:Nat}(h:d.iz.length=n)(hn:n≠0):d.iz≠[]:=by
 intro e;rw[e]at h;exact hn h.symm
theorem PA(pl:List (Nat×Nat))(hp:pl.all (fun x=>!Nat.beq x.2 0)=true):∀(c_:List (Nat×D))(ds:List D)(k:List D→Prop),Eb pl ds c_ k→∃cs,mV (pl.toArray[·]?) ds c_=some cs∧k cs
 |[],ds,k,h=>⟨ds,rfl,h⟩
 |(i,d)::r,ds,k,h=>by
  simp only[Eb,s_]at h;cases hl:pl[i]?with
  |none=>simp only[hl]at h
  |some x=>
   obtain⟨off,size⟩:=x;simp only[hl]at h;cases hb:(nS d.iz size&&d.mC)with
   |false=>simp only[hb,cond_false]at h
   |true=>
    simp only[hb,cond_true]at h;simp only[Bool.and_eq_true]at hb;obtain⟨h1,h2⟩:=CT _ _ _ _ h;have hlen:=y8 _ _ hb.1;have aD:size≠0:=by
     have:=List.all_eq_true.1 hp (off,size) (List.mem_of_getElem? hl);intro e;subst e;simp at this
    have eY:=h1 (LA hlen aD);obtain⟨cs,h3,h4⟩:=PA pl hp r _ k h2;refine⟨cs,?_,h4⟩;have hg:pl.toArray[i]?=some (off,size):=by simpa using hl
    have hc:(Nat.beq d.iz.length size&&Nat.ble (off+size) ds.length&&d.mC)=true:=by
     simp only[Bool.and_eq_true,Nat.beq_eq,Nat.ble_eq];exact⟨⟨hlen,by omega⟩,hb.2⟩
    simp only[mV,hg,hc,cond_true];exact h3
def Lq(e E:Env):Prop:=∀t d,e.get t=some d→d=.any∨E.get t=some d
theorem Lq.refl(e:Env):Lq e e:=fun _ _ h=>.inr h
theorem aiG(e E:Env)(v:Value):e.op (.const v)=E.op (.const v):=by cases v<;>rfl
theorem Lq.op{e E:Env}(h:Lq e E){x:Operand}{d:D}(hx:e.op x=some d):d=.any∨E.op x=some d:=by
 cases x with
 |tmp t=>exact h t d hx
 |const v=>exact .inr ((aiG E e v).trans hx)
 |global g=>exact .inr hx
 |func f=>exact .inr hx
theorem aq.lq{P:Program}{o:Oper}{e E:Env}{U am:ae}{d:D}(h:Lq e E)(hq:aq P o e U d am):aq P o E U d am:=by
 intro O ρ a w aj cK hv;refine hq O ρ a w aj cK fun x hx d' hd=>?_;rcases h.op hd with rfl|hd
 ·simp[V]
 ·exact hv x hx d' hd
theorem Lq.put{e E:Env}(h:Lq e E)(t:Nat)(d:D):Lq ((t,d)::e) ((t,d)::E):=by
 intro s x hx;rw[Env.bf]at hx⊢;by_cases g:t=s
 ·rw[if_pos g]at hx⊢;exact .inr hx
 ·rw[if_neg g]at hx⊢;exact h s x hx
theorem Lq.Ve{e E:Env}(h:Lq e E)(t:Nat)(d:D):Lq ((t,.any)::e) ((t,d)::E):=by
 intro s x hx;rw[Env.bf]at hx⊢;by_cases g:t=s
 ·rw[if_pos g]at hx;cases hx;exact .inl rfl
 ·rw[if_neg g]at hx⊢;exact h s x hx
abbrev KK:=Kind→D→ae→Prop
def SK(P:Program)(o:Oper)(e:Env)(U:ae):Kind→D→ae→Prop
 |.p,d,am=>(∀U,aq P o e U d U)∧am=U
 |.r,d,am=>aq P o e U d U∧am=U
 |.w,d,am=>aq P o e U d am
theorem SK.lq{P:Program}{o:Oper}{e E:Env}{U am:ae}{k:Kind}{d:D}(hl:Lq e E)(h:SK P o e U k d am):SK P o E U k d am:=by
 cases k with
 |p=>exact⟨fun U=>(h.1 U).lq hl,h.2⟩
 |r=>exact⟨h.1.lq hl,h.2⟩
 |w=>exact aq.lq hl h
structure cu(P:Program)(A:Prop)(o:Oper)(e:Env)(U:ae)(K:KK):Prop where
 out:∃k d am,(A→SK P o e U k d am)∧K k d am
section
variable{P:Program} {A:Prop} {o:Oper} {e:Env} {U am:ae} {d:D} {K:KK}
theorem gP(h:A→∀U,aq P o e U d U)(k:K .p d U):cu P A o e U K:=⟨.p,d,U,fun a=>⟨h a,rfl⟩,k⟩
theorem gR(h:A→aq P o e U d U)(k:K .r d U):cu P A o e U K:=⟨.r,d,U,fun a=>⟨h a,rfl⟩,k⟩
theorem gW(h:A→aq P o e U d am)(k:K .w d am):cu P A o e U K:=⟨.w,d,am,h,k⟩
theorem oP(h:∀U,aq P o e U d U)(k:K .p d U):cu P True o e U K:=gP (fun _=>h) k
theorem oR(h:aq P o e U d U)(k:K .r d U):cu P True o e U K:=gR (fun _=>h) k
theorem oW(h:aq P o e U d am)(k:K .w d am):cu P True o e U K:=gW (fun _=>h) k
end
structure GZ(A:Prop)(n:Int)(rows:List (List D))(K:List D→Prop):Prop where
 out:∃r,(A→0≤n∧rows[n.toNat]?=some r)∧K r
structure GY(A:Prop)(n:Int)(s:aa)(K:UInt8→Prop):Prop where
 out:∃r,(A→0≤n∧s[n.toNat]?=some r)∧K r
theorem ix{n:Int}{rows:List (List D)}{K:List D→Prop}{r:List D}(h0:0≤n)(h:rows[n.toNat]?=some r)(k:K r):GZ True n rows K:=⟨r,fun _=>⟨h0,h⟩,k⟩
theorem my{A:Prop}{n:Int}{rows:List (List D)}{K:List D→Prop}{r:List D}(h:A→0≤n∧rows[n.toNat]?=some r)(k:K r):GZ A n rows K:=⟨r,h,k⟩
theorem Fe{n:Int}{s:aa}{K:UInt8→Prop}{r:UInt8}(h0:0≤n)(h:s[n.toNat]?=some r)(k:K r):GY True n s K:=⟨r,fun _=>⟨h0,h⟩,k⟩
theorem Ff{A:Prop}{n:Int}{s:aa}{K:UInt8→Prop}{r:UInt8}(h:A→0≤n∧s[n.toNat]?=some r)(k:K r):GY A n s K:=⟨r,h,k⟩
structure Sd(A S K:Prop):Prop where
 s:A→S
 k:K
theorem sd{S K:Prop}(h:S)(k:K):Sd True S K:=⟨fun _=>h,k⟩
def Ht(A:Prop)(op:BinOp)(k:IntKind)(n m:Int)(G:Prop)(K:D→Prop):Prop:=
 match op with
 |.add=>Sd A (k.wrap (n+m)=n+m) (K (.raw (.int k (n+m))))
 |.sub=>Sd A (k.wrap (n-m)=n-m) (K (.raw (.int k (n-m))))
 |.mul=>Sd A (k.wrap (n*m)=n*m) (K (.raw (.int k (n*m))))
 |.lss=>K (.raw (.bool (decide (n<m))))
 |.leq=>K (.raw (.bool (decide (n≤m))))
 |.gtr=>K (.raw (.bool (decide (m<n))))
 |.geq=>K (.raw (.bool (decide (m≤n))))
 |.eql=>K (.raw (.bool (decide (n=m))))
 |.neq=>K (.raw (.bool (decide (n≠m))))
 |_=>G
def Hu(A:Prop)(op:BinOp)(s r:aa)(G:Prop)(K:D→Prop):Prop:=
 match op with
 |.add=>Sd A (s.length+r.length≤aG) (K (.str (s++r)))
 |.lss=>K (.raw (.bool (aa.lt s r)))
 |.leq=>K (.raw (.bool (!aa.lt r s)))
 |.gtr=>K (.raw (.bool (aa.lt r s)))
 |.geq=>K (.raw (.bool (!aa.lt s r)))
 |.eql=>K (.raw (.bool (decide (s=r))))
 |.neq=>K (.raw (.bool (decide (s≠r))))
 |_=>G
def Hs(op:BinOp)(b c:Bool)(G:Prop)(K:D→Prop):Prop:=
 match op with
 |.eql=>K (.raw (.bool (b==c)))
 |.neq=>K (.raw (.bool (b !=c)))
 |_=>G
def Hv(T:TypeId→bx)(A:Prop)(op:BinOp)(t:TypeId)(x y:Option D)(G:Prop)(K:D→Prop):Prop:=
 match x,y with
 |some (.raw (.int k n)),some (.raw (.int k' m))=>bif decide (k=k')then Ht A op k n m G K else G
 |some (.str s),some (.str r)=>Hu A op s r G K
 |some (.raw (.bool b)),some (.raw (.bool c))=>match(T t).u with
  |some .bool=>Hs op b c G K
  |_=>G
 |_,_=>G
def MK(op:UnOp)(A:Prop)(x:Option D)(G:Prop)(K:D→Prop):Prop:=
 match op,x with
 |.not,some (.raw (.bool b))=>K (.raw (.bool (!b)))
 |.neg,some (.raw (.int k n))=>Sd A (k.wrap (0-n)=-n) (K (.raw (.int k (-n))))
 |_,_=>G
def HL(T:TypeId→bx)(A:Prop)(s t:TypeId)(x:Option D)(G:Prop)(K:D→Prop):Prop:=
 match x,(T s).u,(T t).u with
 |some (.raw (.int _ n)),some _,some (.int k')=>Sd A (k'.wrap n=n) (K (.raw (.int k' n)))
 |some (.str b),some _,some .string=>K (.str b)
 |_,_,_=>G
def KG(T:TypeId→bx)(t:TypeId)(x:Option D)(U:ae)(G:Prop)(K:Kind→D→Prop):Prop:=
 match x with
 |some (.bc cs)=>match(T t).agg,(T t).sz with
  |some false,_=>match cs with
   |d::_=>K .p d
   |[]=>G
  |some true,some n=>bif nS cs n then K .p (.agg cs)else Ak cs n fun r=>K .p (.agg r)
  |_,_=>G
 |some (.box id off)=>match U.get id with
  |some (.cells ds)=>match(T t).agg,(T t).sz with
   |some false,_=>match oC ds off with
    |some d=>K .r d
    |none=>G
   |some true,some n=>bif Nat.beq off 0&&nS ds n then K .r (.agg ds)else ya ds off fun r=>Ak r n fun r=>K .r (.agg r)
   |_,_=>G
  |_=>G
 |_=>G
def MA(T:TypeId→bx)(t:TypeId)(x y:Option D)(U:ae)(G:Prop)(K:D→ae→Prop):Prop:=
 match x,y with
 |some (.box id off),some d=>match U.get id with
  |some (.cells ds)=>match(T t).sz with
   |some n=>bif nS d.iz n&&d.mC&&!Nat.beq n 0 then r_ ds off d.iz fun eP=>FW U id (.cells eP) fun am=>K (.raw undef) am else G
   |none=>G
  |_=>G
 |_,_=>G
def IC(T:TypeId→bx)(t:TypeId)(x:Option D)(f:Nat)(G:Prop)(K:D→Prop):Prop:=
 match x,(T t).u with
 |some (.agg cs),some (.struct fs)=>match oC fs.toList f with
  |some fl=>match(T fl.type).agg,(T fl.type).sz with
   |some false,_=>match oC cs fl.offset with
    |some d=>K d
    |none=>G
   |some true,some n=>ya cs fl.offset fun r=>Ak r n fun r=>K (.agg r)
   |_,_=>G
  |none=>G
 |_,_=>G
def IA(T:TypeId→bx)(t:TypeId)(x:Option D)(f:Nat)(G:Prop)(K:D→Prop):Prop:=
 match x,(T t).u with
 |some (.box id off),some (.struct fs)=>match oC fs.toList f with
  |some fl=>match(T fl.type).sz with
   |some (_+1)=>K (.box id (off+fl.offset))
   |_=>G
  |none=>G
 |some (.bc cs),some (.struct fs)=>match oC fs.toList f with
  |some fl=>match(T fl.type).sz with
   |some (_+1)=>ya cs fl.offset fun r=>K (.bc r)
   |_=>G
  |none=>G
 |_,_=>G
def KB(T:TypeId→bx)(t:TypeId)(x:Option D)(G:Prop)(K:D→Prop):Prop:=
 match x,(T t).u with
 |some (.str s),some .string=>K (.raw (.int .i64 s.length))
 |some (.snap _ _ rows),some (.slice _)=>K (.raw (.int .i64 rows.length))
 |some (.gs _ n),some (.slice _)=>K (.raw (.int .i64 n))
 |some (.raw (.slice _ n _)),some (.slice _)=>K (.raw (.int .i64 n))
 |_,_=>G
def FG(mx:Bool)(x y:Option D)(G:Prop)(K:D→Prop):Prop:=
 match x,y with
 |some (.raw (.int k n)),some (.raw (.int k' m))=>bif decide (k=k')then(match mx with
  |true=>K (.raw (.int k (max n m)))
  |false=>K (.raw (.int k (min n m))))else G
 |_,_=>G
def Kr(T:TypeId→bx)(A:Prop)(t:TypeId)(x i:Option D)(G:Prop)(K:D→Prop):Prop:=
 match x,i,(T t).u with
 |some (.snap sz _ rows),some (.raw (.int _ n)),some (.slice e)=>match(T e).sz with
  |some m=>bif Nat.beq m sz then GZ A n rows fun r=>K (.bc r)else G
  |none=>G
 |_,_,_=>G
def Kq(T:TypeId→bx)(A:Prop)(t:TypeId)(x i:Option D)(G:Prop)(K:D→Prop):Prop:=
 match x,i,(T t).u with
 |some (.str s),some (.raw (.int _ n)),some .string=>GY A n s fun c=>K (.raw (.int .u8 c.toNat))
 |_,_,_=>G
def Lk(x:Option D)(G:Prop)(K:D→Prop):Prop:=
 match x with
 |some (.fn (.func f) as bs)=>K (.fn (.func f) as bs)
 |some (.box i o)=>K (.box i o)
 |some (.bc cs)=>K (.bc cs)
 |_=>G
def HA(x:Option D)(U:ae)(G:Prop)(K:D→ae→Prop):Prop:=
 match x with
 |some (.agg cs)=>yp ids U fun id=>K (.box id 0) ((id,.cells cs)::U)
 |some d=>bif d.one then yp ids U fun id=>K (.box id 0) ((id,.cells [d])::U)else G
 |none=>G
def Ea(sz:Nat):List D→List (Nat×D)→(List D→Prop)→Prop
 |ds,[],k=>k ds
 |ds,(i,d)::r,k=>bif nS d.iz sz&&d.mC then r_ ds (i*sz) d.iz fun eP=>Ea sz eP r k else False
theorem Py(sz:Nat)(h0:sz≠0):∀(c_:List (Nat×D))(ds:List D)(k:List D→Prop),Ea sz ds c_ k→∃cs,mV (fun i=>some (i*sz,sz)) ds c_=some cs∧k cs
 |[],ds,k,h=>⟨ds,rfl,h⟩
 |(i,d)::r,ds,k,h=>by
  simp only[Ea]at h;cases hb:(nS d.iz sz&&d.mC)with
  |false=>simp only[hb,cond_false]at h
  |true=>
   simp only[hb,cond_true]at h;simp only[Bool.and_eq_true]at hb;obtain⟨h1,h2⟩:=CT _ _ _ _ h;have hlen:=y8 _ _ hb.1;have eY:=h1 (LA hlen h0);obtain⟨cs,h3,h4⟩:=Py sz h0 r _ k h2;refine⟨cs,?_,h4⟩;have hc:(Nat.beq d.iz.length sz&&Nat.ble (i*sz+sz) ds.length&&d.mC)=true:=by
    simp only[Bool.and_eq_true,Nat.beq_eq,Nat.ble_eq];exact⟨⟨hlen,by omega⟩,hb.2⟩
   simp only[mV,hc,cond_true];exact h3
def HB(T:TypeId→bx)(t:TypeId)(ps:List (Nat×Operand))(e:Env)(G:Prop)(K:D→Prop):Prop:=
 match(T t).u,(T t).zc,(T t).pl with
 |some (.struct _),some ds,some pl=>bif pl.all (fun x=>!Nat.beq x.2 0)then Cu e ps fun c_=>Eb pl ds c_ fun cs=>K (.agg cs)else G
 |some (.array _ el),some ds,_=>match(T el).sz with
  |some sz=>bif Nat.beq sz 0 then G else Cu e ps fun c_=>Ea sz ds c_ fun cs=>K (.agg cs)
  |none=>G
 |_,_,_=>G
structure GE where
 g:Nat
 b:Bool
 t:Nat
 c:Bool
 env:Env
 ws:Env
def uv:Bool→Bool→Bool
 |true,true=>true
 |false,false=>true
 |_,_=>false
theorem Ip{a b:Bool}(h:uv a b=true):a=b:=by cases a<;>cases b<;>simp_all[uv]
def yn:List GE→Nat→Bool→Option GE
 |[],_,_=>none
 |x::r,t,b=>bif Nat.beq x.t t&&uv x.b b then some x else yn r t b
def LP(gs:List GE)(c x y:Operand)(e:Env)(G:Prop)(K:D→Prop):Prop:=
 match e.op c,c with
 |some (.raw (.bool b)),.tmp tc=>match x,y with
  |.tmp tx,.const (.bool false)=>match yn gs tc true with
   |some z=>match z.ws.get tx with
    |some (.raw (.bool q))=>K (.raw (.bool (b&&q)))
    |_=>G
   |none=>G
  |.const (.bool true),.tmp ty=>match yn gs tc false with
   |some z=>match z.ws.get ty with
    |some (.raw (.bool q))=>K (.raw (.bool (b||q)))
    |_=>G
   |none=>G
  |_,_=>G
 |_,_=>G
def HE(T:TypeId→bx)(b:Builtin)(args:List Operand)(tys:List TypeId)(e:Env)(G:Prop)(K:D→Prop):Prop:=
 match b,args,tys with
 |.len,[x],[t]=>KB T t (e.op x) G K
 |.max,[x,y],_=>FG true (e.op x) (e.op y) G K
 |.min,[x,y],_=>FG false (e.op x) (e.op y) G K
 |_,_,_=>G
def F3(T:TypeId→bx)(P:Program)(A:Prop)(gs:List GE)(o:Oper)(e:Env)(U:ae)(K:KK):Prop:=
 match o.op with
 |.move x=>match e.op x with
  |some d=>K .p d U
  |none=>K .p .any U
 |.assign x=>match e.op x with
  |some d=>K .p d U
  |none=>cu P A o e U K
 |.binOp op t x y _=>Hv T A op t (e.op x) (e.op y) (cu P A o e U K) fun d=>K .p d U
 |.unOp op _ x=>MK op A (e.op x) (cu P A o e U K) fun d=>K .p d U
 |.convert s t x=>HL T A s t (e.op x) (cu P A o e U K) fun d=>K .p d U
 |.extract x i=>match e.op x with
  |some (.bj ds)=>match oC ds i with
   |some d=>K .p d U
   |none=>cu P A o e U K
  |_=>cu P A o e U K
 |.makeFunc fn xs ys=>Ck e xs.toList fun as=>Ck e ys.toList fun bs=>K .p (.fn fn as bs) U
 |.nilCheck x=>Lk (e.op x) (cu P A o e U K) fun d=>K .p d U
 |.load t x=>KG T t (e.op x) U (cu P A o e U K) fun k d=>K k d U
 |.store t x y=>MA T t (e.op x) (e.op y) U (cu P A o e U K) fun d am=>K .w d am
 |.field t x f=>IC T t (e.op x) f (cu P A o e U K) fun d=>K .p d U
 |.fieldAddr t x f=>IA T t (e.op x) f (cu P A o e U K) fun d=>K .p d U
 |.indexAddr t x i=>Kr T A t (e.op x) (e.op i) (cu P A o e U K) fun d=>K .p d U
 |.index t x i=>Kq T A t (e.op x) (e.op i) (cu P A o e U K) fun d=>K .p d U
 |.alloc t=>match(T t).zc with
  |some ds=>yp ids U fun id=>K .w (.box id 0) ((id,.cells ds)::U)
  |none=>cu P A o e U K
 |.box _ x=>HA (e.op x) U (cu P A o e U K) fun d am=>K .w d am
 |.build t ps=>HB T t ps.toList e (cu P A o e U K) fun d=>K .p d U
 |.pick c x y=>LP gs c x y e (cu P A o e U K) fun d=>K .p d U
 |.call ⟨.builtin b,args,tys⟩=>HE T b args.toList tys.toList e (cu P A o e U K) fun d=>K .p d U
 |_=>cu P A o e U K
end Go.T
