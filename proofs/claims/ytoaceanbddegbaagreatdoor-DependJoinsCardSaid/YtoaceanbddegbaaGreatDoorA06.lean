/-
  Contracts of the functions that the statement reaches, and the logic in which they are proved (no condition): parts Core38, Core39, Core40, Core41, Core42.
-/
import Derived.Test.YtoaceanbddegbaaGreatDoorA05
set_option linter.all false
namespace Go.T
open Go
variable[bT]
structure aO where
 u:Option TypeDesc:=none
 agg:Option Bool:=none
 sz:Option Nat:=none
 zc:Option (List D):=none
 pl:Option (List (Nat×Nat)):=none
 bt:Option Nat:=none
structure aT(P:Program)(t:TypeId)(i:aO):Prop where
 u:∀d,i.u=some d→P.underlying t=some d
 agg:∀b,i.agg=some b→∀w,(isAgg t).run P w=.ok b w
 sz:∀n,i.sz=some n→∀w,(sizeOf t).run P w=.ok n w
 zc:∀ds,i.zc=some ds→∃z,(∀w,(zeroValue t).run P w=.ok z w)∧z.cells.toList.map mK=ds
 pl:∀pl,i.pl=some pl→∀fs,P.underlying t=some (.struct fs)→∀w,(fs.mapM (m:=Sem) fun f=>Prod.mk f.offset<$>sizeOf f.type).run P w=.ok pl.toArray w
 bt:∀n,i.bt=some n→∃ti,(∀w,(typeInfo t).run P w=.ok ti w)∧ti.bytes=n
structure nW(P:Program)(T:TypeId→aO):Prop where
 ty:∀t,aT P t (T t)
 mixed:P.follows .mixedOrders=true
def pW{α:Type _}:List α→Nat→Option α
 |[],_=>none
 |a::_,0=>some a
 |_::l,n+1=>pW l n
theorem uo{α:Type _}:∀(l:List α)(n:Nat),pW l n=l[n]?
 |[],n=>by simp[pW]
 |a::l,0=>by simp[pW]
 |a::l,n+1=>by simp[pW,uo l n]
def po{α:Type _}:List α→Nat→Bool
 |[],0=>true
 |_::l,n+1=>po l n
 |_,_=>false
theorem zX{α:Type _}:∀(l:List α)(n:Nat),po l n=true→l.length=n
 |[],0,_=>rfl
 |a::l,n+1,h=>by simp[zX l n h]
 |[],n+1,h=>by simp[po]at h
 |a::l,0,h=>by simp[po]at h
def yY:List D→Nat→(List D→Prop)→Prop
 |l,0,k=>k l
 |_::l,n+1,k=>yY l n k
 |[],_+1,_=>False
theorem D':∀(l:List D)(n:Nat)(k:List D→Prop),yY l n k→n≤l.length∧k (l.drop n)
 |l,0,k,h=>⟨Nat.zero_le _,by simpa[yY]using h⟩
 |a::l,n+1,k,h=>by
  obtain⟨h1,h2⟩:=D' l n k h;exact⟨by simp;omega,by simpa using h2⟩
 |[],n+1,k,h=>h.elim
def AR:List D→Nat→(List D→Prop)→Prop
 |_,0,k=>k []
 |a::l,n+1,k=>AR l n fun r=>k (a::r)
 |[],_+1,_=>False
theorem GB:∀(l:List D)(n:Nat)(k:List D→Prop),AR l n k→n≤l.length∧k (l.take n)
 |l,0,k,h=>⟨Nat.zero_le _,by simpa[AR]using h⟩
 |a::l,n+1,k,h=>by
  obtain⟨h1,h2⟩:=GB l n _ h;exact⟨by simp;omega,by simpa using h2⟩
 |[],n+1,k,h=>h.elim
def tu:List D→Nat→List D→(List D→Prop)→Prop
 |ds,_,[],k=>k ds
 |_::ds,0,c::cs,k=>tu ds 0 cs fun r=>k (c::r)
 |d::ds,n+1,c::cs,k=>tu ds n (c::cs) fun r=>k (d::r)
 |[],_,_::_,_=>False
theorem LM(d:D):∀(cs ds:List D)(n:Nat),mN (d::ds) (n+1) cs=d::mN ds n cs
 |[],ds,n=>rfl
 |c::cs,ds,n=>by simp[mN,LM d cs]
theorem C9:∀(ds:List D)(n:Nat)(cs:List D)(k:List D→Prop),tu ds n cs k→(cs≠[]→n+cs.length≤ds.length)∧k (mN ds n cs)
 |ds,n,[],k,h=>by
  unfold tu at h;exact⟨fun e=>absurd rfl e,h⟩
 |d::ds,0,c::cs,k,h=>by
  simp only[tu]at h;obtain⟨h1,h2⟩:=C9 ds 0 cs _ h;refine⟨fun _=>?_,?_⟩
  ·cases cs with
   |nil=>simp
   |cons c' cs=>have:=h1 zS;simp at this⊢;omega
  ·simp only[mN,List.set_cons_zero,LM];exact h2
 |d::ds,n+1,c::cs,k,h=>by
  simp only[tu]at h;obtain⟨h1,h2⟩:=C9 ds n (c::cs) _ h;refine⟨fun _=>?_,?_⟩
  ·have:=h1 zS;simp at this⊢;omega
  ·rw[LM];exact h2
 |[],n,c::cs,k,h=>by simp[tu]at h
def FP:aa→Nat→Ob→(aa→Prop)→Prop
 |[],i,x,k=>k [(i,x)]
 |(t,d)::r,i,x,k=>bif Nat.beq t i then k ((t,x)::r)else FP r i x fun r'=>k ((t,d)::r')
theorem Tm:∀(J:aa)(i:Nat)(x:Ob)(k:aa→Prop),FP J i x k→k (J.set i x)
 |[],i,x,k,h=>h
 |(t,d)::r,i,x,k,h=>by
  simp only[FP]at h;simp only[aa.set];cases hb:Nat.beq t i with
  |true=>simpa only[hb,cond_true]using h
  |false=>simp only[hb,cond_false]at h⊢;exact Tm r i x _ h
def zd:List Nat→aa→(Nat→Prop)→Prop
 |[],_,_=>False
 |i::is,J,k=>match J.get i with
  |none=>k i
  |some _=>zd is J k
theorem Ev:∀(is:List Nat)(J:aa)(k:Nat→Prop),zd is J k→∃i,J.get i=none∧k i
 |[],J,k,h=>h.elim
 |i::is,J,k,h=>by
  simp only[zd]at h;cases hg:J.get i with
  |none=>simp only[hg]at h;exact⟨i,hg,h⟩
  |some o=>simp only[hg]at h;exact Ev is J k h
def ids:List Nat:=[0,1,2,3,4,5,6,7,8,9,10,11,12,13,14,15,16,17,18,19,20,21,22,23,24,25,26,27,28,29,30,31,32,33,34,35,36,37,38,39,40,41,42,43,44,45,46,47,48,49,50]
def CI(e:Env):List Operand→(List D→Prop)→Prop
 |[],k=>k []
 |x::xs,k=>match e.op x with
  |some d=>CI e xs fun r=>k (d::r)
  |none=>False
theorem KT(e:Env):∀(xs:List Operand)(k:List D→Prop),CI e xs k→∃ds,e.lH xs=some ds∧k ds
 |[],k,h=>⟨[],rfl,h⟩
 |x::xs,k,h=>by
  simp only[CI]at h;cases hx:e.op x with
  |none=>simp only[hx]at h
  |some d=>
   simp only[hx]at h;obtain⟨ds,h1,h2⟩:=KT e xs _ h;exact⟨d::ds,by simp[Env.lH,hx,h1],h2⟩
def CP(e:Env):List (Nat×Operand)→(List (Nat×D)→Prop)→Prop
 |[],k=>k []
 |(i,x)::xs,k=>match e.op x with
  |some d=>CP e xs fun r=>k ((i,d)::r)
  |none=>False
theorem KY(e:Env):∀(xs:List (Nat×Operand))(k:List (Nat×D)→Prop),CP e xs k→∃ds,e.qU xs=some ds∧k ds
 |[],k,h=>⟨[],rfl,h⟩
 |(i,x)::xs,k,h=>by
  simp only[CP]at h;cases hx:e.op x with
  |none=>simp only[hx]at h
  |some d=>
   simp only[hx]at h;obtain⟨ds,h1,h2⟩:=KY e xs _ h;exact⟨(i,d)::ds,by simp[Env.qU,hx,h1],h2⟩
def Er(pl:List (Nat×Nat)):List D→List (Nat×D)→(List D→Prop)→Prop
 |ds,[],k=>k ds
 |ds,(i,d)::r,k=>match pW pl i with
  |some (off,size)=>bif po d.jr size&&d.nO then tu ds off d.jr fun fg=>Er pl fg r k else False
  |none=>False
theorem KQ{d:D}{n:Nat}(h:d.jr.length=n)(hn:n≠0):d.jr≠[]:=by
 intro e;rw[e]at h;exact hn h.symm
theorem OW(pl:List (Nat×Nat))(hp:pl.all (fun x=>!Nat.beq x.2 0)=true):∀(dV:List (Nat×D))(ds:List D)(k:List D→Prop),Er pl ds dV k→∃cs,oh (pl.toArray[·]?) ds dV=some cs∧k cs
 |[],ds,k,h=>⟨ds,rfl,h⟩
 |(i,d)::r,ds,k,h=>by
  simp only[Er,uo]at h;cases hl:pl[i]?with
  |none=>simp only[hl]at h
  |some x=>
   obtain⟨off,size⟩:=x;simp only[hl]at h;cases hb:(po d.jr size&&d.nO)with
   |false=>simp only[hb,cond_false]at h
   |true=>
    simp only[hb,cond_true]at h;simp only[Bool.and_eq_true]at hb;obtain⟨h1,h2⟩:=C9 _ _ _ _ h;have hlen:=zX _ _ hb.1;have aG:size≠0:=by
     have:=List.all_eq_true.1 hp (off,size) (List.mem_of_getElem? hl);intro e;subst e;simp at this
    have gv:=h1 (KQ hlen aG);obtain⟨cs,h3,h4⟩:=OW pl hp r _ k h2;refine⟨cs,?_,h4⟩;have hg:pl.toArray[i]?=some (off,size):=by simpa using hl
    have hc:(Nat.beq d.jr.length size&&Nat.ble (off+size) ds.length&&d.nO)=true:=by
     simp only[Bool.and_eq_true,Nat.beq_eq,Nat.ble_eq];exact⟨⟨hlen,by omega⟩,hb.2⟩
    simp only[oh,hg,hc,cond_true];exact h3
def Lq(e E:Env):Prop:=∀t d,e.get t=some d→d=.any∨E.get t=some d
theorem Lq.refl(e:Env):Lq e e:=fun _ _ h=>.inr h
theorem ag0(e E:Env)(v:Value):e.op (.const v)=E.op (.const v):=by cases v<;>rfl
theorem Lq.op{e E:Env}(h:Lq e E){x:Operand}{d:D}(hx:e.op x=some d):d=.any∨E.op x=some d:=by
 cases x with
 |tmp t=>exact h t d hx
 |const v=>exact .inr ((ag0 E e v).trans hx)
 |global g=>exact .inr hx
 |func f=>exact .inr hx
theorem aq.lq{P:Program}{o:Oper}{e E:Env}{J ai:aa}{d:D}(h:Lq e E)(hq:aq P o e J d ai):aq P o E J d ai:=by
 intro O ρ a w af dH hv;refine hq O ρ a w af dH fun x hx d' hd=>?_;rcases h.op hd with rfl|hd
 ·simp[V]
 ·exact hv x hx d' hd
theorem Lq.put{e E:Env}(h:Lq e E)(t:Nat)(d:D):Lq ((t,d)::e) ((t,d)::E):=by
 intro s x hx;rw[Env.bf]at hx⊢;by_cases g:t=s
 ·rw[if_pos g]at hx⊢;exact .inr hx
 ·rw[if_neg g]at hx⊢;exact h s x hx
theorem Lq.T6{e E:Env}(h:Lq e E)(t:Nat)(d:D):Lq ((t,.any)::e) ((t,d)::E):=by
 intro s x hx;rw[Env.bf]at hx⊢;by_cases g:t=s
 ·rw[if_pos g]at hx;cases hx;exact .inl rfl
 ·rw[if_neg g]at hx⊢;exact h s x hx
abbrev KK:=Kind→D→aa→Prop
def SK(P:Program)(o:Oper)(e:Env)(J:aa):Kind→D→aa→Prop
 |.p,d,ai=>(∀J,aq P o e J d J)∧ai=J
 |.r,d,ai=>aq P o e J d J∧ai=J
 |.w,d,ai=>aq P o e J d ai
theorem SK.lq{P:Program}{o:Oper}{e E:Env}{J ai:aa}{k:Kind}{d:D}(hl:Lq e E)(h:SK P o e J k d ai):SK P o E J k d ai:=by
 cases k with
 |p=>exact⟨fun J=>(h.1 J).lq hl,h.2⟩
 |r=>exact⟨h.1.lq hl,h.2⟩
 |w=>exact aq.lq hl h
structure cT(P:Program)(A:Prop)(o:Oper)(e:Env)(J:aa)(K:KK):Prop where
 out:∃k d ai,(A→SK P o e J k d ai)∧K k d ai
section
variable{P:Program} {A:Prop} {o:Oper} {e:Env} {J ai:aa} {d:D} {K:KK}
theorem gP(h:A→∀J,aq P o e J d J)(k:K .p d J):cT P A o e J K:=⟨.p,d,J,fun a=>⟨h a,rfl⟩,k⟩
theorem gR(h:A→aq P o e J d J)(k:K .r d J):cT P A o e J K:=⟨.r,d,J,fun a=>⟨h a,rfl⟩,k⟩
theorem gW(h:A→aq P o e J d ai)(k:K .w d ai):cT P A o e J K:=⟨.w,d,ai,h,k⟩
theorem oP(h:∀J,aq P o e J d J)(k:K .p d J):cT P True o e J K:=gP (fun _=>h) k
theorem oR(h:aq P o e J d J)(k:K .r d J):cT P True o e J K:=gR (fun _=>h) k
theorem oW(h:aq P o e J d ai)(k:K .w d ai):cT P True o e J K:=gW (fun _=>h) k
end
structure GW(A:Prop)(n:Int)(rows:List (List D))(K:List D→Prop):Prop where
 out:∃r,(A→0≤n∧rows[n.toNat]?=some r)∧K r
structure GV(A:Prop)(n:Int)(s:ae)(K:UInt8→Prop):Prop where
 out:∃r,(A→0≤n∧s[n.toNat]?=some r)∧K r
theorem ix{n:Int}{rows:List (List D)}{K:List D→Prop}{r:List D}(h0:0≤n)(h:rows[n.toNat]?=some r)(k:K r):GW True n rows K:=⟨r,fun _=>⟨h0,h⟩,k⟩
theorem lW{A:Prop}{n:Int}{rows:List (List D)}{K:List D→Prop}{r:List D}(h:A→0≤n∧rows[n.toNat]?=some r)(k:K r):GW A n rows K:=⟨r,h,k⟩
theorem Rp{n:Int}{s:ae}{K:UInt8→Prop}{r:UInt8}(h0:0≤n)(h:s[n.toNat]?=some r)(k:K r):GV True n s K:=⟨r,fun _=>⟨h0,h⟩,k⟩
theorem Rq{A:Prop}{n:Int}{s:ae}{K:UInt8→Prop}{r:UInt8}(h:A→0≤n∧s[n.toNat]?=some r)(k:K r):GV A n s K:=⟨r,h,k⟩
structure Sd(A S K:Prop):Prop where
 s:A→S
 k:K
theorem sd{S K:Prop}(h:S)(k:K):Sd True S K:=⟨fun _=>h,k⟩
def Hj(A:Prop)(op:BinOp)(k:IntKind)(n m:Int)(G:Prop)(K:D→Prop):Prop:=
 match op with
 |.add=>Sd A (k.wrap (n+m)=n+m) (K (.raw (.int k (n+m))))
 |.sub=>Sd A (k.wrap (n-m)=n-m) (K (.raw (.int k (n-m))))
 |.mul=>Sd A (k.wrap (n*m)=n*m) (K (.raw (.int k (n*m))))
 |.lss=>K (.raw (.bool (decide (n<m))))
 |.leq=>K (.raw (.bool (decide (n≤m))))
 |.gtr=>K (.raw (.bool (decide (m<n))))
 |.geq=>K (.raw (.bool (decide (m≤n))))
 |.eql=>K (.raw (.bool (decide (n=m))))
 |.neq=>K (.raw (.bool (decide (n≠m))))
 |_=>G
def Hk(A:Prop)(op:BinOp)(s r:ae)(G:Prop)(K:D→Prop):Prop:=
 match op with
 |.add=>Sd A (s.length+r.length≤aH) (K (.str (s++r)))
 |.lss=>K (.raw (.bool (ae.lt s r)))
 |.leq=>K (.raw (.bool (!ae.lt r s)))
 |.gtr=>K (.raw (.bool (ae.lt r s)))
 |.geq=>K (.raw (.bool (!ae.lt s r)))
 |.eql=>K (.raw (.bool (decide (s=r))))
 |.neq=>K (.raw (.bool (decide (s≠r))))
 |_=>G
def Hi(op:BinOp)(b c:Bool)(G:Prop)(K:D→Prop):Prop:=
 match op with
 |.eql=>K (.raw (.bool (b==c)))
 |.neq=>K (.raw (.bool (b !=c)))
 |_=>G
def Hl(T:TypeId→aO)(A:Prop)(op:BinOp)(t:TypeId)(x y:Option D)(G:Prop)(K:D→Prop):Prop:=
 match x,y with
 |some (.raw (.int k n)),some (.raw (.int k' m))=>bif decide (k=k')then Hj A op k n m G K else G
 |some (.str s),some (.str r)=>Hk A op s r G K
 |some (.raw (.bool b)),some (.raw (.bool c))=>match(T t).u with
  |some .bool=>Hi op b c G K
  |_=>G
 |_,_=>G
def Mb(op:UnOp)(A:Prop)(x:Option D)(G:Prop)(K:D→Prop):Prop:=
 match op,x with
 |.not,some (.raw (.bool b))=>K (.raw (.bool (!b)))
 |.neg,some (.raw (.int k n))=>Sd A (k.wrap (0-n)=-n) (K (.raw (.int k (-n))))
 |_,_=>G
def HF(T:TypeId→aO)(A:Prop)(s t:TypeId)(x:Option D)(G:Prop)(K:D→Prop):Prop:=
 match x,(T s).u,(T t).u with
 |some (.raw (.int _ n)),some _,some (.int k')=>Sd A (k'.wrap n=n) (K (.raw (.int k' n)))
 |some (.str b),some _,some .string=>K (.str b)
 |_,_,_=>G
def Kb(T:TypeId→aO)(t:TypeId)(x:Option D)(J:aa)(G:Prop)(K:Kind→D→Prop):Prop:=
 match x with
 |some (.bz cs)=>match(T t).agg,(T t).sz with
  |some false,_=>match cs with
   |d::_=>K .p d
   |[]=>G
  |some true,some n=>bif po cs n then K .p (.agg cs)else AR cs n fun r=>K .p (.agg r)
  |_,_=>G
 |some (.box id off)=>match J.get id with
  |some (.cells ds)=>match(T t).agg,(T t).sz with
   |some false,_=>match pW ds off with
    |some d=>K .r d
    |none=>G
   |some true,some n=>bif Nat.beq off 0&&po ds n then K .r (.agg ds)else yY ds off fun r=>AR r n fun r=>K .r (.agg r)
   |_,_=>G
  |_=>G
 |_=>G
def LW(T:TypeId→aO)(t:TypeId)(x y:Option D)(J:aa)(G:Prop)(K:D→aa→Prop):Prop:=
 match x,y with
 |some (.box id off),some d=>match J.get id with
  |some (.cells ds)=>match(T t).sz with
   |some n=>bif po d.jr n&&d.nO&&!Nat.beq n 0 then tu ds off d.jr fun fg=>FP J id (.cells fg) fun ai=>K (.raw undef) ai else G
   |none=>G
  |_=>G
 |_,_=>G
def Ie(T:TypeId→aO)(t:TypeId)(x:Option D)(f:Nat)(G:Prop)(K:D→Prop):Prop:=
 match x,(T t).u with
 |some (.agg cs),some (.struct fs)=>match pW fs.toList f with
  |some fl=>match(T fl.type).agg,(T fl.type).sz with
   |some false,_=>match pW cs fl.offset with
    |some d=>K d
    |none=>G
   |some true,some n=>yY cs fl.offset fun r=>AR r n fun r=>K (.agg r)
   |_,_=>G
  |none=>G
 |_,_=>G
def Ib(T:TypeId→aO)(t:TypeId)(x:Option D)(f:Nat)(G:Prop)(K:D→Prop):Prop:=
 match x,(T t).u with
 |some (.box id off),some (.struct fs)=>match pW fs.toList f with
  |some fl=>match(T fl.type).sz with
   |some (_+1)=>K (.box id (off+fl.offset))
   |_=>G
  |none=>G
 |some (.bz cs),some (.struct fs)=>match pW fs.toList f with
  |some fl=>match(T fl.type).sz with
   |some (_+1)=>yY cs fl.offset fun r=>K (.bz r)
   |_=>G
  |none=>G
 |_,_=>G
def J9(T:TypeId→aO)(t:TypeId)(x:Option D)(G:Prop)(K:D→Prop):Prop:=
 match x,(T t).u with
 |some (.str s),some .string=>K (.raw (.int .i64 s.length))
 |some (.snap _ _ rows),some (.slice _)=>K (.raw (.int .i64 rows.length))
 |some (.gs _ n),some (.slice _)=>K (.raw (.int .i64 n))
 |some (.raw (.slice _ n _)),some (.slice _)=>K (.raw (.int .i64 n))
 |_,_=>G
def Fw(mx:Bool)(x y:Option D)(G:Prop)(K:D→Prop):Prop:=
 match x,y with
 |some (.raw (.int k n)),some (.raw (.int k' m))=>bif decide (k=k')then(match mx with
  |true=>K (.raw (.int k (max n m)))
  |false=>K (.raw (.int k (min n m))))else G
 |_,_=>G
def JU(T:TypeId→aO)(A:Prop)(t:TypeId)(x i:Option D)(G:Prop)(K:D→Prop):Prop:=
 match x,i,(T t).u with
 |some (.snap sz _ rows),some (.raw (.int _ n)),some (.slice e)=>match(T e).sz with
  |some m=>bif Nat.beq m sz then GW A n rows fun r=>K (.bz r)else G
  |none=>G
 |_,_,_=>G
def JT(T:TypeId→aO)(A:Prop)(t:TypeId)(x i:Option D)(G:Prop)(K:D→Prop):Prop:=
 match x,i,(T t).u with
 |some (.str s),some (.raw (.int _ n)),some .string=>GV A n s fun c=>K (.raw (.int .u8 c.toNat))
 |_,_,_=>G
def KD(x:Option D)(G:Prop)(K:D→Prop):Prop:=
 match x with
 |some (.fn (.func f) as bs)=>K (.fn (.func f) as bs)
 |some (.box i o)=>K (.box i o)
 |some (.bz cs)=>K (.bz cs)
 |_=>G
def Hp(x:Option D)(J:aa)(G:Prop)(K:D→aa→Prop):Prop:=
 match x with
 |some (.agg cs)=>zd ids J fun id=>K (.box id 0) ((id,.cells cs)::J)
 |some d=>bif d.one then zd ids J fun id=>K (.box id 0) ((id,.cells [d])::J)else G
 |none=>G
def Ep(sz:Nat):List D→List (Nat×D)→(List D→Prop)→Prop
 |ds,[],k=>k ds
 |ds,(i,d)::r,k=>bif po d.jr sz&&d.nO then tu ds (i*sz) d.jr fun fg=>Ep sz fg r k else False
theorem OU(sz:Nat)(h0:sz≠0):∀(dV:List (Nat×D))(ds:List D)(k:List D→Prop),Ep sz ds dV k→∃cs,oh (fun i=>some (i*sz,sz)) ds dV=some cs∧k cs
 |[],ds,k,h=>⟨ds,rfl,h⟩
 |(i,d)::r,ds,k,h=>by
  simp only[Ep]at h;cases hb:(po d.jr sz&&d.nO)with
  |false=>simp only[hb,cond_false]at h
  |true=>
   simp only[hb,cond_true]at h;simp only[Bool.and_eq_true]at hb;obtain⟨h1,h2⟩:=C9 _ _ _ _ h;have hlen:=zX _ _ hb.1;have gv:=h1 (KQ hlen h0);obtain⟨cs,h3,h4⟩:=OU sz h0 r _ k h2;refine⟨cs,?_,h4⟩;have hc:(Nat.beq d.jr.length sz&&Nat.ble (i*sz+sz) ds.length&&d.nO)=true:=by
    simp only[Bool.and_eq_true,Nat.beq_eq,Nat.ble_eq];exact⟨⟨hlen,by omega⟩,hb.2⟩
   simp only[oh,hc,cond_true];exact h3
def Hs(T:TypeId→aO)(t:TypeId)(ps:List (Nat×Operand))(e:Env)(G:Prop)(K:D→Prop):Prop:=
 match(T t).u,(T t).zc,(T t).pl with
 |some (.struct _),some ds,some pl=>bif pl.all (fun x=>!Nat.beq x.2 0)then CP e ps fun dV=>Er pl ds dV fun cs=>K (.agg cs)else G
 |some (.array _ el),some ds,_=>match(T el).sz with
  |some sz=>bif Nat.beq sz 0 then G else CP e ps fun dV=>Ep sz ds dV fun cs=>K (.agg cs)
  |none=>G
 |_,_,_=>G
structure GE where
 g:Nat
 b:Bool
 t:Nat
 c:Bool
 env:Env
 ws:Env
def vk:Bool→Bool→Bool
 |true,true=>true
 |false,false=>true
 |_,_=>false
theorem H3{a b:Bool}(h:vk a b=true):a=b:=by cases a<;>cases b<;>simp_all[vk]
def za:List GE→Nat→Bool→Option GE
 |[],_,_=>none
 |x::r,t,b=>bif Nat.beq x.t t&&vk x.b b then some x else za r t b
def La(gs:List GE)(c x y:Operand)(e:Env)(G:Prop)(K:D→Prop):Prop:=
 match e.op c,c with
 |some (.raw (.bool b)),.tmp tc=>match x,y with
  |.tmp tx,.const (.bool false)=>match za gs tc true with
   |some z=>match z.ws.get tx with
    |some (.raw (.bool q))=>K (.raw (.bool (b&&q)))
    |_=>G
   |none=>G
  |.const (.bool true),.tmp ty=>match za gs tc false with
   |some z=>match z.ws.get ty with
    |some (.raw (.bool q))=>K (.raw (.bool (b||q)))
    |_=>G
   |none=>G
  |_,_=>G
 |_,_=>G
def Hw(T:TypeId→aO)(b:Builtin)(args:List Operand)(tys:List TypeId)(e:Env)(G:Prop)(K:D→Prop):Prop:=
 match b,args,tys with
 |.len,[x],[t]=>J9 T t (e.op x) G K
 |.max,[x,y],_=>Fw true (e.op x) (e.op y) G K
 |.min,[x,y],_=>Fw false (e.op x) (e.op y) G K
 |_,_,_=>G
def FR(T:TypeId→aO)(P:Program)(A:Prop)(gs:List GE)(o:Oper)(e:Env)(J:aa)(K:KK):Prop:=
 match o.op with
 |.move x=>match e.op x with
  |some d=>K .p d J
  |none=>K .p .any J
 |.assign x=>match e.op x with
  |some d=>K .p d J
  |none=>cT P A o e J K
 |.binOp op t x y _=>Hl T A op t (e.op x) (e.op y) (cT P A o e J K) fun d=>K .p d J
 |.unOp op _ x=>Mb op A (e.op x) (cT P A o e J K) fun d=>K .p d J
 |.convert s t x=>HF T A s t (e.op x) (cT P A o e J K) fun d=>K .p d J
 |.extract x i=>match e.op x with
  |some (.bl ds)=>match pW ds i with
   |some d=>K .p d J
   |none=>cT P A o e J K
  |_=>cT P A o e J K
 |.makeFunc fn xs ys=>CI e xs.toList fun as=>CI e ys.toList fun bs=>K .p (.fn fn as bs) J
 |.nilCheck x=>KD (e.op x) (cT P A o e J K) fun d=>K .p d J
 |.load t x=>Kb T t (e.op x) J (cT P A o e J K) fun k d=>K k d J
 |.store t x y=>LW T t (e.op x) (e.op y) J (cT P A o e J K) fun d ai=>K .w d ai
 |.field t x f=>Ie T t (e.op x) f (cT P A o e J K) fun d=>K .p d J
 |.fieldAddr t x f=>Ib T t (e.op x) f (cT P A o e J K) fun d=>K .p d J
 |.indexAddr t x i=>JU T A t (e.op x) (e.op i) (cT P A o e J K) fun d=>K .p d J
 |.index t x i=>JT T A t (e.op x) (e.op i) (cT P A o e J K) fun d=>K .p d J
 |.alloc t=>match(T t).zc with
  |some ds=>zd ids J fun id=>K .w (.box id 0) ((id,.cells ds)::J)
  |none=>cT P A o e J K
 |.box _ x=>Hp (e.op x) J (cT P A o e J K) fun d ai=>K .w d ai
 |.build t ps=>Hs T t ps.toList e (cT P A o e J K) fun d=>K .p d J
 |.pick c x y=>La gs c x y e (cT P A o e J K) fun d=>K .p d J
 |.call ⟨.builtin b,args,tys⟩=>Hw T b args.toList tys.toList e (cT P A o e J K) fun d=>K .p d J
 |_=>cT P A o e J K
end Go.T
namespace Go.T
open Go
variable[bT]
section
variable{P:Program} {T:TypeId→aO} {A:Prop} {e:Env} {dst:Option Tmp} {ty:TypeId} {pos:String} {au:Array Edge} {g:Option (Nat×Bool)}
def kP(P:Program)(A:Prop)(o:Oper)(e:Env)(G:Prop)(K:D→Prop):Prop:=G∨∃d,(A→∀J,aq P o e J d J)∧K d
theorem kP.of{o:Oper}{G:Prop}{K:D→Prop}{d:D}(h:A→∀J,aq P o e J d J)(k:K d):kP P A o e G K:=.inr ⟨d,h,k⟩
theorem W1{op:BinOp}{t t':TypeId}{x y:Operand}{k:IntKind}{n m:Int}{G:Prop}{K:D→Prop}(hx:e.op x=some (.raw (.int k n)))(hy:e.op y=some (.raw (.int k m)))(h:Hj A op k n m G K):kP P A ⟨dst,.binOp op t x y t',ty,pos,au,g⟩ e G K:=by
 cases op<;>simp only[Hj]at h
 case add=>exact .of (fun a=>cn hx hy (h.s a)) h.k
 case sub=>exact .of (fun a=>fp hx hy (h.s a)) h.k
 case mul=>exact .of (fun a=>wh hx hy (h.s a)) h.k
 case lss=>exact .of (fun _=>bY hx hy) h
 case leq=>exact .of (fun _=>Lp hx hy) h
 case gtr=>exact .of (fun _=>ju hx hy) h
 case geq=>exact .of (fun _=>tm hx hy) h
 case eql=>exact .of (fun _=>l5 hx hy) h
 case neq=>exact .of (fun _=>wi hx hy) h
 all_goals exact .inl h
theorem W_{op:BinOp}{t t':TypeId}{x y:Operand}{s r:ae}{G:Prop}{K:D→Prop}(hx:e.op x=some (.str s))(hy:e.op y=some (.str r))(h:Hk A op s r G K):kP P A ⟨dst,.binOp op t x y t',ty,pos,au,g⟩ e G K:=by
 cases op<;>simp only[Hk]at h
 case add=>exact .of (fun a=>yg hx hy (h.s a) rfl) h.k
 case lss=>exact .of (fun _=>Uh hx hy) h
 case leq=>exact .of (fun _=>aiq hx hy) h
 case gtr=>exact .of (fun _=>Ud hx hy) h
 case geq=>exact .of (fun _=>ain hx hy) h
 case eql=>exact .of (fun _=>Az hx hy) h
 case neq=>exact .of (fun _=>Uk hx hy) h
 all_goals exact .inl h
theorem W0{op:BinOp}{t t':TypeId}{x y:Operand}{b c:Bool}{G:Prop}{K:D→Prop}(hu:P.underlying t=some .bool)(hx:e.op x=some (.raw (.bool b)))(hy:e.op y=some (.raw (.bool c)))(h:Hi op b c G K):kP P A ⟨dst,.binOp op t x y t',ty,pos,au,g⟩ e G K:=by
 cases op<;>simp only[Hi]at h
 case eql=>exact .of (fun _=>aij hu hx hy) h
 case neq=>exact .of (fun _=>Uj hu hx hy) h
 all_goals exact .inl h
theorem Xa(hT:nW P T){op:BinOp}{t t':TypeId}{x y:Operand}{G:Prop}{K:D→Prop}(h:Hl T A op t (e.op x) (e.op y) G K):kP P A ⟨dst,.binOp op t x y t',ty,pos,au,g⟩ e G K:=by
 unfold Hl at h;split at h
 ·rename_i k n k' m hx hy;cases hd:decide (k=k')with
  |false=>simp only[hd,cond_false]at h;exact .inl h
  |true=>
   simp only[hd,cond_true]at h;obtain rfl:=of_decide_eq_true hd;exact W1 hx hy h
 ·rename_i hx hy;exact W_ hx hy h
 ·rename_i hx hy;split at h
  ·rename_i hu;exact W0 ((hT.ty t).u _ hu) hx hy h
  ·exact .inl h
 ·exact .inl h
theorem am4{op:UnOp}{t:TypeId}{x:Operand}{G:Prop}{K:D→Prop}(h:Mb op A (e.op x) G K):kP P A ⟨dst,.unOp op t x,ty,pos,au,g⟩ e G K:=by
 unfold Mb at h;split at h
 ·rename_i hx;exact .of (fun _=>aiD hx) h
 ·rename_i hx;exact .of (fun a=>F7 hx (h.s a)) h.k
 ·exact .inl h
theorem YL(hT:nW P T){s t:TypeId}{x:Operand}{G:Prop}{K:D→Prop}(h:HF T A s t (e.op x) G K):kP P A ⟨dst,.convert s t x,ty,pos,au,g⟩ e G K:=by
 unfold HF at h;split at h
 ·rename_i hx hs ht;exact .of (fun a=>F5 ((hT.ty s).u _ hs) ((hT.ty t).u _ ht) hx (h.s a)) h.k
 ·rename_i hx hs ht;exact .of (fun _=>aif ((hT.ty s).u _ hs) ((hT.ty t).u _ ht) hx) h
 ·exact .inl h
theorem agv{x:Operand}{G:Prop}{K:D→Prop}(h:KD (e.op x) G K):kP P A ⟨dst,.nilCheck x,ty,pos,au,g⟩ e G K:=by
 unfold KD at h;split at h
 ·rename_i hx;exact .of (fun _=>aiB hx) h
 ·rename_i hx;exact .of (fun _=>yi hx) h
 ·rename_i hx;exact .of (fun _=>aiC hx) h
 ·exact .inl h
theorem abj(hT:nW P T){t:TypeId}{x:Operand}{f:Nat}{G:Prop}{K:D→Prop}(h:Ie T t (e.op x) f G K):kP P A ⟨dst,.field t x f,ty,pos,au,g⟩ e G K:=by
 unfold Ie at h;split at h
 ·rename_i cs fs hx hu;have BX:=(hT.ty t).u _ hu;split at h
  ·rename_i fl dN;rw[uo]at dN;have hf:(fs[f]?).map (fun x=>(x.type,x.offset))=some (fl.type,fl.offset):=by simp[←Array.getElem?_toList,dN]
   split at h
   ·rename_i ha;split at h
    ·rename_i d hd;rw[uo]at hd;exact .of (fun _=>Lo fl.type fl.offset BX ((hT.ty _).agg _ ha) hf hx hd) h
    ·exact .inl h
   ·rename_i n ha hs;obtain⟨h1,h2⟩:=D' _ _ _ h;obtain⟨h3,h4⟩:=GB _ _ _ h2;exact .of (fun _=>aim fl.type fl.offset BX ((hT.ty _).agg _ ha) ((hT.ty _).sz _ hs) hf hx (by simp at h3;omega) rfl) h4
   ·exact .inl h
  ·exact .inl h
 ·exact .inl h
theorem abd(hT:nW P T){t:TypeId}{x:Operand}{f:Nat}{G:Prop}{K:D→Prop}(h:Ib T t (e.op x) f G K):kP P A ⟨dst,.fieldAddr t x f,ty,pos,au,g⟩ e G K:=by
 unfold Ib at h;split at h
 ·rename_i id off fs hx hu;split at h
  ·rename_i fl dN;rw[uo]at dN;have hf:(fs[f]?).map (fun x=>(x.type,x.offset))=some (fl.type,fl.offset):=by simp[←Array.getElem?_toList,dN]
   split at h
   ·rename_i hs;exact .of (fun _=>bJ fl.type fl.offset ((hT.ty t).u _ hu) ((hT.ty _).sz _ hs) hf hx) h
   ·exact .inl h
  ·exact .inl h
 ·rename_i cs fs hx hu;split at h
  ·rename_i fl dN;rw[uo]at dN;have hf:(fs[f]?).map (fun x=>(x.type,x.offset))=some (fl.type,fl.offset):=by simp[←Array.getElem?_toList,dN]
   split at h
   ·rename_i hs;obtain⟨_,h2⟩:=D' _ _ _ h;exact .of (fun _=>oH fl.type fl.offset ((hT.ty t).u _ hu) ((hT.ty _).sz _ hs) hf hx rfl) h2
   ·exact .inl h
  ·exact .inl h
 ·exact .inl h
theorem adx(hT:nW P T){t:TypeId}{x i:Operand}{G:Prop}{K:D→Prop}(h:JU T A t (e.op x) (e.op i) G K):kP P A ⟨dst,.indexAddr t x i,ty,pos,au,g⟩ e G K:=by
 unfold JU at h;split at h
 ·rename_i sz ia rows k n el hx hi hu;split at h
  ·rename_i m hs;cases hb:Nat.beq m sz with
   |false=>simp only[hb,cond_false]at h;exact .inl h
   |true=>
    simp only[hb,cond_true]at h;obtain rfl:=Nat.eq_of_beq_eq_true hb;obtain⟨r,h1,h2⟩:=h.out;exact .of (fun a=>iR ((hT.ty t).u _ hu) ((hT.ty _).sz _ hs) hx hi (h1 a).1 (h1 a).2) h2
  ·exact .inl h
 ·exact .inl h
theorem adw(hT:nW P T){t:TypeId}{x i:Operand}{G:Prop}{K:D→Prop}(h:JT T A t (e.op x) (e.op i) G K):kP P A ⟨dst,.index t x i,ty,pos,au,g⟩ e G K:=by
 unfold JT at h;split at h
 ·rename_i hx hi hu;obtain⟨r,h1,h2⟩:=h.out;exact .of (fun a=>rS ((hT.ty t).u _ hu) hx hi (h1 a).1 (h1 a).2) h2
 ·exact .inl h
theorem afl(hT:nW P T){t:TypeId}{x:Operand}{G:Prop}{K:D→Prop}(h:J9 T t (e.op x) G K):kP P A ⟨dst,.call ⟨.builtin .len,#[x],#[t]⟩,ty,pos,au,g⟩ e G K:=by
 unfold J9 at h;split at h
 ·rename_i hx hu;exact .of (fun _=>ko ((hT.ty t).u _ hu) hx) h
 ·rename_i hx hu;exact .of (fun _=>cC ((hT.ty t).u _ hu) hx) h
 ·rename_i hx hu;exact .of (fun _=>uJ ((hT.ty t).u _ hu) hx) h
 ·rename_i hx hu;exact .of (fun _=>aip ((hT.ty t).u _ hu) hx) h
 ·exact .inl h
theorem SF{x y:Operand}{tys:Array TypeId}{mx:Bool}{G:Prop}{K:D→Prop}(h:Fw mx (e.op x) (e.op y) G K):kP P A ⟨dst,.call ⟨.builtin (bif mx then .max else .min),#[x,y],tys⟩,ty,pos,au,g⟩ e G K:=by
 unfold Fw at h;split at h
 ·rename_i k n k' m hx hy;cases hd:decide (k=k')with
  |false=>simp only[hd,cond_false]at h;exact .inl h
  |true=>
   simp only[hd,cond_true]at h;obtain rfl:=of_decide_eq_true hd;cases mx with
   |true=>exact .of (fun _=>CZ hx hy rfl) h
   |false=>exact .of (fun _=>AE hx hy rfl) h
 ·exact .inl h
theorem Xu(hT:nW P T){b:Builtin}{args:Array Operand}{tys:Array TypeId}{G:Prop}{K:D→Prop}(h:Hw T b args.toList tys.toList e G K):kP P A ⟨dst,.call ⟨.builtin b,args,tys⟩,ty,pos,au,g⟩ e G K:=by
 obtain⟨args⟩:=args;obtain⟨tys⟩:=tys;simp only at h;unfold Hw at h;split at h
 ·exact afl hT h
 ·exact SF (mx:=true) h
 ·exact SF (mx:=false) h
 ·exact .inl h
theorem aib{J:aa}{t el:TypeId}{n sz:Nat}{z:Value}{xs:List (Nat×Operand)}{dV:List (Nat×D)}{cs:List D}(hu:P.underlying t=some (.array n el))(hz:∀w,(zeroValue t).run P w=.ok z w)
  (hs:∀w,(sizeOf el).run P w=.ok sz w)(hx:e.qU xs=some dV)(hf:oh (fun i=>some (i*sz,sz)) (z.cells.toList.map mK) dV=some cs):
  aq P ⟨dst,.build t xs.toArray,ty,pos,au,g⟩ e J (.agg cs) J:=
 .val fun O ρ a w _ hv=>by
  obtain⟨h1,h2⟩:=CO (a:=a) xs dV hx (fun x hx d' h=>hv x (by simpa[Op.operands]using hx) d' h);obtain⟨c',h3,h4⟩:=Bn (fun i=>some (i*sz,sz)) dV _ _ z.cells cs h1 h2 (Vs.AG _) hf;refine⟨.agg c',?_,?_⟩
  ·simp[execOp,Instr.build,hz,cg hu,hs,h3]
  ·simp only[V];exact⟨_,rfl,h4⟩
theorem Xo(hT:nW P T){t:TypeId}{ps:Array (Nat×Operand)}{G:Prop}{K:D→Prop}(h:Hs T t ps.toList e G K):kP P A ⟨dst,.build t ps,ty,pos,au,g⟩ e G K:=by
 obtain⟨ps⟩:=ps;unfold Hs at h;split at h
 ·rename_i fs ds pl hu hz hp;cases hb:pl.all (fun x=>!Nat.beq x.2 0)with
  |false=>simp only[hb,cond_false]at h;exact .inl h
  |true=>
   simp only[hb,cond_true]at h;obtain⟨dV,h1,h2⟩:=KY _ _ _ h;obtain⟨cs,h3,h4⟩:=OW pl hb _ _ _ h2;obtain⟨z,h5,rfl⟩:=(hT.ty t).zc _ hz;have BX:=(hT.ty t).u _ hu;exact .of (fun _=>tj (xs:=ps) BX h5 ((hT.ty t).pl _ hp _ BX) h1 h3) h4
 ·rename_i _ n el ds hu hz;split at h
  ·rename_i sz hs;cases hb:Nat.beq sz 0 with
   |true=>simp only[hb,cond_true]at h;exact .inl h
   |false=>
    simp only[hb,cond_false]at h;obtain⟨dV,h1,h2⟩:=KY _ _ _ h;obtain⟨cs,h3,h4⟩:=OU sz (by intro e;subst e;simp at hb) _ _ _ h2;obtain⟨z,h5,rfl⟩:=(hT.ty t).zc _ hz;exact .of (fun _ _=>aib (xs:=ps) ((hT.ty t).u _ hu) h5 ((hT.ty el).sz _ hs) h1 h3) h4
  ·exact .inl h
 ·exact .inl h
end
section
variable{P:Program} {T:TypeId→aO} {A:Prop} {e:Env} {dst:Option Tmp} {ty:TypeId} {pos:String} {au:Array Edge} {g:Option (Nat×Bool)} {J:aa}
theorem afs(hT:nW P T){t:TypeId}{x:Operand}{K:KK}(h:Kb T t (e.op x) J (cT P A ⟨dst,.load t x,ty,pos,au,g⟩ e J K) fun k d=>K k d J):cT P A ⟨dst,.load t x,ty,pos,au,g⟩ e J K:=by
 unfold Kb at h;split at h
 ·rename_i cs hx;split at h
  ·rename_i ha;cases cs with
   |nil=>exact h
   |cons d cs=>exact gP (fun _=>cG ((hT.ty t).agg _ ha) hx) h
  ·rename_i n ha hs;cases hb:po cs n with
   |true=>simp only[hb,cond_true]at h;exact gP (fun _=>p7 ((hT.ty t).agg _ ha) ((hT.ty t).sz _ hs) hx (zX _ _ hb)) h
   |false=>
    simp only[hb,cond_false]at h;obtain⟨h1,h2⟩:=GB _ _ _ h;exact gP (fun _=>air ((hT.ty t).agg _ ha) ((hT.ty t).sz _ hs) hx h1 rfl) h2
  ·exact h
 ·rename_i id off hx;split at h
  ·rename_i ds ho;split at h
   ·rename_i ha;split at h
    ·rename_i d hd;rw[uo]at hd;exact gR (fun _=>bP ((hT.ty t).agg _ ha) hx ho hd) h
    ·exact h
   ·rename_i n ha hs;cases hb:(Nat.beq off 0&&po ds n)with
    |true=>
     simp only[hb,cond_true]at h;simp only[Bool.and_eq_true,Nat.beq_eq]at hb;obtain⟨rfl,hb⟩:=hb;exact gR (fun _=>AA ((hT.ty t).agg _ ha) ((hT.ty t).sz _ hs) hx ho (zX _ _ hb)) h
    |false=>
     simp only[hb,cond_false]at h;obtain⟨h1,h2⟩:=D' _ _ _ h;obtain⟨h3,h4⟩:=GB _ _ _ h2;exact gR (fun _=>Uf ((hT.ty t).agg _ ha) ((hT.ty t).sz _ hs) hx ho (by simp at h3;omega) rfl) h4
   ·exact h
  ·exact h
 ·exact h
theorem akn(hT:nW P T){t:TypeId}{x y:Operand}{K:KK}(h:LW T t (e.op x) (e.op y) J (cT P A ⟨dst,.store t x y,ty,pos,au,g⟩ e J K) fun d o=>K .w d o):cT P A ⟨dst,.store t x y,ty,pos,au,g⟩ e J K:=by
 unfold LW at h;split at h
 ·rename_i id off d hx hy;split at h
  ·rename_i ds ho;split at h
   ·rename_i n hs;cases hb:(po d.jr n&&d.nO&&!Nat.beq n 0)with
    |false=>simp only[hb,cond_false]at h;exact h
    |true=>
     simp only[hb,cond_true]at h;simp only[Bool.and_eq_true,Bool.not_eq_true']at hb;obtain⟨⟨hl,af⟩,h0⟩:=hb;have hlen:=zX _ _ hl;obtain⟨h1,h2⟩:=C9 _ _ _ _ h;have h3:=Tm _ _ _ _ h2;have aG:n≠0:=by intro e;subst e;simp at h0
     have gv:=h1 (KQ hlen aG);have ib:=(hT.ty t).sz _ hs;cases d with
     |agg cs=>exact gW (fun _=>Ul ib hx hy hlen (agY af) ho (by simp only[D.jr]at gv hlen;omega)) h3
     |_=>
      simp only[D.jr,List.length_singleton]at hlen gv;subst hlen;exact gW (fun _=>qX ib hx hy (by simpa[D.nO]using af) ho zO) h3
   ·exact h
  ·exact h
 ·exact h
theorem Xl{t:TypeId}{x:Operand}{K:KK}(h:Hp (e.op x) J (cT P A ⟨dst,.box t x,ty,pos,au,g⟩ e J K) fun d o=>K .w d o):cT P A ⟨dst,.box t x,ty,pos,au,g⟩ e J K:=by
 unfold Hp at h;split at h
 ·rename_i cs hx;obtain⟨id,h1,h2⟩:=Ev _ _ _ h;exact gW (fun _=>oG id hx h1) h2
 ·rename_i d _ hx;cases hb:d.one with
  |false=>simp only[hb,cond_false]at h;exact h
  |true=>
   simp only[hb,cond_true]at h;obtain⟨id,h1,h2⟩:=Ev _ _ _ h;exact gW (fun _=>Ll id hx hb h1) h2
 ·exact h
end
end Go.T
namespace Go.T
open Go
variable[bT]
structure j5(ops:List Oper)(E:Env)(x:GE):Prop where
 dst:(ops.toArray[x.g]?).bind (·.dst)=some x.t
 val:∃pc p,E.get x.t=some (bif pc then .raw (.bool p)else .raw undef)∧x.c=(pc&&(bif x.b then p else !p))
 env:x.c=true→Lq x.env E
 ws:∀t d,x.ws.get t=some d→d=.any∨E.get t=some (bif x.c then d else .raw undef)
theorem j5.guard{ops:List Oper}{E:Env}{x:GE}(h:j5 ops E x){p:Bool}(he:E.get x.t=some (.raw (.bool p))):x.c=(bif x.b then p else !p):=by
 obtain⟨pc,q,h1,h2⟩:=h.val;rw[he]at h1;cases pc with
 |false=>simp[undef]at h1
 |true=>simp only[cond_true,Option.some.injEq,D.raw.injEq,Value.bool.injEq]at h1;subst h1;simpa using h2
theorem j5.uniq{ops:List Oper}{E:Env}{x y:GE}(h:j5 ops E x)(h':j5 ops E y)(hg:x.g=y.g)(hb:x.b=y.b):x.c=y.c:=by
 have ht:x.t=y.t:=by
  have:=h.dst;rw[hg,h'.dst]at this;exact(Option.some.inj this).symm
 obtain⟨pc,p,h1,h2⟩:=h.val;obtain⟨pc',p',h3,h4⟩:=h'.val;rw[ht,h3]at h1;cases pc<;>cases pc'<;>simp_all[undef]
theorem Im:∀{gs:List GE}{t:Nat}{b:Bool}{z:GE},za gs t b=some z→z∈gs∧z.t=t∧z.b=b
 |[],t,b,z,h=>by simp[za]at h
 |x::r,t,b,z,h=>by
  simp only[za]at h;cases hb:(Nat.beq x.t t&&vk x.b b)with
  |true=>
   simp only[hb,cond_true,Option.some.injEq]at h;subst h;simp only[Bool.and_eq_true,Nat.beq_eq]at hb;exact⟨List.mem_cons_self,hb.1,H3 hb.2⟩
  |false=>
   simp only[hb,cond_false]at h;obtain⟨h1,h2⟩:=Im h;exact⟨List.mem_cons_of_mem _ h1,h2⟩
theorem ahu{P:Program}{A:Prop}{e E:Env}{dst:Option Tmp}{ty:TypeId}{pos:String}{au:Array Edge}{g:Option (Nat×Bool)}{ops:List Oper}{gs:List GE}{c x y:Operand}{G:Prop}{K:D→Prop}(hl:A→Lq e E)(hg:∀z∈gs,j5 ops E z)(h:La gs c x y e G K):kP P A ⟨dst,.pick c x y,ty,pos,au,g⟩ E G K:=by
 unfold La at h;split at h
 ·rename_i b tc hc;have EQ:A→E.get tc=some (.raw (.bool b)):=fun a=>by
   rcases hl a tc _ hc with h|h
   ·cases h
   ·exact h
  split at h
  ·rename_i tx;split at h
   ·rename_i z hz;obtain⟨h1,rfl,h3⟩:=Im hz;split at h
    ·rename_i q hq;refine .of (fun a=>?_) h;have hz:=(hg z h1).guard (EQ a);rw[h3,cond_true]at hz;have hw:=((hg z h1).ws _ _ hq).resolve_left zS;rw[hz]at hw;exact kN (c:=.tmp z.t) (x:=.tmp tx) (EQ a) hw
    ·exact .inl h
   ·exact .inl h
  ·rename_i tx;split at h
   ·rename_i z hz;obtain⟨h1,rfl,h3⟩:=Im hz;split at h
    ·rename_i q hq;refine .of (fun a=>?_) h;have hz:=(hg z h1).guard (EQ a);rw[h3,cond_false]at hz;have hw:=((hg z h1).ws _ _ hq).resolve_left zS;rw[hz]at hw;exact rT (c:=.tmp z.t) (y:=.tmp tx) (EQ a) hw
    ·exact .inl h
   ·exact .inl h
  ·exact .inl h
 ·exact .inl h
theorem kP.snd{P:Program}{A:Prop}{o:Oper}{e:Env}{J:aa}{K:KK}(h:kP P A o e (cT P A o e J K) fun d=>K .p d J):cT P A o e J K:=by
 rcases h with h|⟨d,h1,h2⟩
 ·exact h
 ·exact gP h1 h2
theorem cT.lq{P:Program}{A:Prop}{o:Oper}{e E:Env}{J:aa}{K:KK}(hl:A→Lq e E)(h:cT P A o e J K):cT P A o E J K:=by
 obtain⟨k,d,ai,h1,h2⟩:=h.out;exact⟨k,d,ai,fun a=>(h1 a).lq (hl a),h2⟩
theorem TC{P:Program}{T:TypeId→aO}(hT:nW P T){A:Prop}{ops:List Oper}{gs:List GE}{o:Oper}{e E:Env}{J:aa}{K:KK}(hl:A→Lq e E)(hg:∀z∈gs,j5 ops E z)(h:FR T P A gs o e J K):cT P A o E J K:=by
 obtain⟨dst,op,ty,pos,au,g⟩:=o;unfold FR at h;split at h
 ·rename_i x ho;cases ho;refine cT.lq hl ?_;split at h
  ·rename_i d hx;exact gP (fun _=>bG hx) h
  ·exact gP (fun _=>aix) h
 ·rename_i x ho;cases ho;refine cT.lq hl ?_;split at h
  ·rename_i d hx;exact gP (fun _=>Ax hx) h
  ·exact h
 ·rename_i ho;cases ho;exact cT.lq hl (Xa hT h).snd
 ·rename_i ho;cases ho;exact cT.lq hl (am4 h).snd
 ·rename_i ho;cases ho;exact cT.lq hl (YL hT h).snd
 ·rename_i ho;cases ho;refine cT.lq hl ?_;split at h
  ·rename_i ds hx;split at h
   ·rename_i d hd;rw[uo]at hd;exact gP (fun _=>iJ hx hd) h
   ·exact h
  ·exact h
 ·rename_i fn xs ys ho;cases ho;refine cT.lq hl ?_;obtain⟨as,h1,h2⟩:=KT _ _ _ h;obtain⟨bs,h3,h4⟩:=KT _ _ _ h2;exact gP (fun _=>by simpa using Lu (xs:=xs.toList) (ys:=ys.toList) h1 h3) h4
 ·rename_i ho;cases ho;exact cT.lq hl (agv h).snd
 ·rename_i ho;cases ho;exact cT.lq hl (afs hT h)
 ·rename_i ho;cases ho;exact cT.lq hl (akn hT h)
 ·rename_i ho;cases ho;exact cT.lq hl (abj hT h).snd
 ·rename_i ho;cases ho;exact cT.lq hl (abd hT h).snd
 ·rename_i ho;cases ho;exact cT.lq hl (adx hT h).snd
 ·rename_i ho;cases ho;exact cT.lq hl (adw hT h).snd
 ·rename_i t ho;cases ho;refine cT.lq hl ?_;split at h
  ·rename_i ds hz;obtain⟨z,h5,rfl⟩:=(hT.ty t).zc _ hz;obtain⟨id,h1,h2⟩:=Ev _ _ _ h;exact gW (fun _=>ln id h5 h1) h2
  ·exact h
 ·rename_i ho;cases ho;exact cT.lq hl (Xl h)
 ·rename_i ho;cases ho;exact cT.lq hl (Xo hT h).snd
 ·rename_i ho;cases ho;rcases ahu hl hg h with h|⟨d,h1,h2⟩
  ·exact cT.lq hl h
  ·exact gP h1 h2
 ·rename_i ho;cases ho;exact cT.lq hl (Xu hT h).snd
 ·exact cT.lq hl h
def y_:List GE→Nat→Bool→Option GE
 |[],_,_=>none
 |x::r,g,b=>bif Nat.beq x.g g&&vk x.b b then some x else y_ r g b
theorem Ij:∀{gs:List GE}{t:Nat}{b:Bool}{z:GE},y_ gs t b=some z→z∈gs∧z.g=t∧z.b=b
 |[],t,b,z,h=>by simp[y_]at h
 |x::r,t,b,z,h=>by
  simp only[y_]at h;cases hb:(Nat.beq x.g t&&vk x.b b)with
  |true=>
   simp only[hb,cond_true,Option.some.injEq]at h;subst h;simp only[Bool.and_eq_true,Nat.beq_eq]at hb;exact⟨List.mem_cons_self,hb.1,H3 hb.2⟩
  |false=>
   simp only[hb,cond_false]at h;obtain⟨h1,h2⟩:=Ij h;exact⟨List.mem_cons_of_mem _ h1,h2⟩
def G_(gs:List GE)(k:List GE→GE→Prop)(x:GE):Prop:=k (x::gs) x
def yB:Bool→Bool→Bool
 |true,p=>p
 |false,p=>!p
def Mh(ops:List Oper)(gs:List GE)(e:Env)(g:Nat)(b:Bool)(k:List GE→GE→Prop):Prop:=
 match y_ gs g b with
 |some x=>k gs x
 |none=>match pW ops g with
  |some og=>match og.dst,og.guard with
   |some t,none=>match e.get t with
    |some (.raw (.bool p))=>G_ gs k ⟨g,b,t,yB b p,e,[]⟩
    |_=>False
   |some t,some (g',b')=>match y_ gs g' b' with
    |some y=>match y.ws.get t with
     |some (.raw (.bool p))=>G_ gs k ⟨g,b,t,y.c&&yB b p,y.env,[]⟩
     |_=>False
    |none=>False
   |_,_=>False
  |none=>False
theorem VY(b p:Bool):yB b p=(bif b then p else !p):=by cases b<;>rfl
theorem ani{ops:List Oper}{gs:List GE}{e E:Env}{g:Nat}{b:Bool}{k:List GE→GE→Prop}(hl:Lq e E)(hg:∀z∈gs,j5 ops E z)(h:Mh ops gs e g b k):∃gN x,(∀z∈gN,j5 ops E z)∧x∈gN∧x.g=g∧x.b=b∧k gN x:=by
 unfold Mh at h;split at h
 ·rename_i x hx;obtain⟨h1,h2,h3⟩:=Ij hx;exact⟨gs,x,hg,h1,h2,h3,h⟩
 ·split at h
  ·rename_i og ho;rw[uo]at ho;have new:∀x:GE,j5 ops E x→x.g=g→x.b=b→G_ gs k x→∃gN x,(∀z∈gN,j5 ops E z)∧x∈gN∧x.g=g∧x.b=b∧k gN x:=by
    intro x hx h1 h2 h3;refine⟨x::gs,x,fun z hz=>?_,List.mem_cons_self,h1,h2,h3⟩;rcases List.mem_cons.1 hz with rfl|hz
    ·exact hx
    ·exact hg z hz
   split at h
   ·rename_i t hd _;split at h
    ·rename_i p hp;refine new _ ⟨?_,⟨true,p,?_,?_⟩,fun _=>hl,fun t d h=>by simp[Env.get]at h⟩ rfl rfl h
     ·simp[ho,hd]
     ·exact(hl t _ hp).resolve_left zS
     ·simp[VY]
    ·exact h.elim
   ·rename_i t g' b' hd _;split at h
    ·rename_i y hy;obtain⟨h1,h2,h3⟩:=Ij hy;split at h
     ·rename_i p hp;refine new _ ⟨?_,⟨y.c,p,?_,?_⟩,fun hc=>?_,fun t d h=>by simp[Env.get]at h⟩ rfl rfl h
      ·simp[ho,hd]
      ·exact((hg y h1).ws _ _ hp).resolve_left zS
      ·simp[VY]
      ·simp only[Bool.and_eq_true]at hc;exact(hg y h1).env hc.1
     ·exact h.elim
    ·exact h.elim
   ·exact h.elim
  ·exact h.elim
def CW(t:Nat)(d:D):List GE→(List GE→Prop)→Prop
 |[],k=>k []
 |⟨g,b,t',c,env,ws⟩::r,k=>bif Nat.beq t' t then CW t d r k else CW t d r fun r'=>k (⟨g,b,t',c,(t,d)::env,(t,.any)::ws⟩::r')
theorem Lh{ops:List Oper}{E:Env}{t:Nat}{d:D}:∀{gs:List GE}{k:List GE→Prop},(∀z∈gs,j5 ops E z)→CW t d gs k→∃gN,(∀z∈gN,j5 ops ((t,d)::E) z)∧k gN
 |[],k,_,h=>⟨[],by simp,h⟩
 |⟨g,b,t',c,env,ws⟩::r,k,hg,h=>by
  simp only[CW]at h;cases hb:Nat.beq t' t with
  |true=>simp only[hb,cond_true]at h;exact Lh (fun z hz=>hg z (List.mem_cons_of_mem _ hz)) h
  |false=>
   simp only[hb,cond_false]at h;have aG:¬t=t':=by rintro rfl;simp at hb
   obtain⟨gN,h1,h2⟩:=Lh (fun z hz=>hg z (List.mem_cons_of_mem _ hz)) h;refine⟨_,fun z hz=>?_,h2⟩;rcases List.mem_cons.1 hz with rfl|hz
   ·have h0:=hg _ List.mem_cons_self;obtain⟨pc,p,h3,h4⟩:=h0.val;refine⟨h0.dst,⟨pc,p,?_,h4⟩,fun hc=>(h0.env hc).put t d,fun s x hx=>?_⟩
    ·rw[Env.bf,if_neg aG];exact h3
    ·rw[Env.bf]at hx⊢;by_cases e:t=s
     ·rw[if_pos e]at hx;cases hx;exact .inl rfl
     ·rw[if_neg e]at hx⊢;exact h0.ws s x hx
   ·exact h1 z hz
def wg(g0:Nat)(b0:Bool)(t:Nat)(d:D):List GE→(List GE→Prop)→Prop
 |[],k=>k []
 |⟨g,b,t',c,env,ws⟩::r,k=>bif Nat.beq t' t then wg g0 b0 t d r k else bif Nat.beq g g0&&vk b b0 then wg g0 b0 t d r fun r'=>k (⟨g,b,t',c,(t,d)::env,(t,d)::ws⟩::r')
   else wg g0 b0 t d r fun r'=>k (⟨g,b,t',c,(t,.any)::env,(t,.any)::ws⟩::r')
theorem F3{ops:List Oper}{E:Env}{t:Nat}{d:D}{x:GE}(hx:j5 ops E x):∀{gs:List GE}{k:List GE→Prop},(∀z∈gs,j5 ops E z)→wg x.g x.b t d gs k→∃gN,(∀z∈gN,j5 ops ((t,bif x.c then d else .raw undef)::E) z)∧k gN
 |[],k,_,h=>⟨[],by simp,h⟩
 |⟨g,b,t',c,env,ws⟩::r,k,hg,h=>by
  simp only[wg]at h;cases hb:Nat.beq t' t with
  |true=>simp only[hb,cond_true]at h;exact F3 hx (fun z hz=>hg z (List.mem_cons_of_mem _ hz)) h
  |false=>
   simp only[hb,cond_false]at h;have aG:¬t=t':=by rintro rfl;simp at hb
   have h0:=hg _ List.mem_cons_self;obtain⟨pc,p,h3,h4⟩:=h0.val;cases hk:(Nat.beq g x.g&&vk b x.b)with
   |true=>
    simp only[hk,cond_true]at h;simp only[Bool.and_eq_true,Nat.beq_eq]at hk;have hc:x.c=c:=hx.uniq h0 hk.1.symm (H3 hk.2).symm;obtain⟨gN,h1,h2⟩:=F3 hx (fun z hz=>hg z (List.mem_cons_of_mem _ hz)) h;refine⟨_,fun z hz=>?_,h2⟩;rcases List.mem_cons.1 hz with rfl|hz
    ·refine⟨h0.dst,⟨pc,p,?_,h4⟩,fun zn=>?_,fun s y hy=>?_⟩
     ·rw[Env.bf,if_neg aG];exact h3
     ·have:x.c=true:=hc.trans zn;rw[this,cond_true];exact(h0.env zn).put t d
     ·rw[Env.bf]at hy⊢;by_cases e:t=s
      ·rw[if_pos e]at hy⊢;cases hy;exact .inr (by rw[hc])
      ·rw[if_neg e]at hy⊢;exact h0.ws s y hy
    ·exact h1 z hz
   |false=>
    simp only[hk,cond_false]at h;obtain⟨gN,h1,h2⟩:=F3 hx (fun z hz=>hg z (List.mem_cons_of_mem _ hz)) h;refine⟨_,fun z hz=>?_,h2⟩;rcases List.mem_cons.1 hz with rfl|hz
    ·refine⟨h0.dst,⟨pc,p,?_,h4⟩,fun zn=>(h0.env zn).T6 t _,fun s y hy=>?_⟩
     ·rw[Env.bf,if_neg aG];exact h3
     ·rw[Env.bf]at hy⊢;by_cases e:t=s
      ·rw[if_pos e]at hy;cases hy;exact .inl rfl
      ·rw[if_neg e]at hy⊢;exact h0.ws s y hy
    ·exact h1 z hz
theorem UD(k:Kind)(ks gx:List Kind):gx.reverse++(k::ks)=(k::gx).reverse++ks:=by simp
theorem anh{b p:Bool}(h:(bif b then p else !p)=true):p=b:=by cases b<;>cases p<;>first|rfl|cases h
theorem ang{b p:Bool}(h:(bif b then p else !p)=false):p=!b:=by cases b<;>cases p<;>first|rfl|cases h
theorem j5.on{ops:List Oper}{E:Env}{x:GE}(h:j5 ops E x){o:Oper}(ho:o.guard=some (x.g,x.b))(hc:x.c=true):On ops.toArray E o:=by
 obtain⟨pc,p,h1,h2⟩:=h.val;rw[hc]at h2;cases pc with
 |false=>cases h2
 |true=>exact cN ho h.dst h1 (anh h2.symm)
theorem j5.off{ops:List Oper}{E:Env}{x:GE}(h:j5 ops E x){o:Oper}(ho:o.guard=some (x.g,x.b))(hc:x.c=false):tC ops.toArray E o:=by
 obtain⟨pc,p,h1,h2⟩:=h.val;rw[hc]at h2;cases pc with
 |false=>exact Tq ho h.dst h1
 |true=>exact lk ho h.dst h1 (ang h2.symm)
end Go.T
namespace Go.T
open Go
variable[bT]
theorem qf.lq{F:Fr}{C:Ctx}{e E:Env}{J:aa}{a:Act}{w:World}{ρ:aC}(hl:Lq e E)(h:qf F C E J a w ρ):qf F C e J a w ρ:=
 ⟨h.keep,h.tr,fun t d hd=>by
  rcases hl t d hd with rfl|hd
  ·simp[V]
  ·exact h.env t d hd,h.size,h.marks,h.rd,h.yl,h.gl⟩
theorem WP.VZ{P:Program}{F:Fr}{c:Code}{Q Q':Exit→Env→aa→Prop}{env:Env}{J:aa}(h:WP P F c Q env J)(hq:∀x E o,Q x E o→∃e,Lq e E∧Q' x e o):WP P F c Q' env J:=
 ⟨fun C a w hs=>wpIn_mono (h.out C a w hs) fun x a' w' ⟨E,o,h1,ρ,h2⟩=>by
  obtain⟨e,h3,h4⟩:=hq x E o h1;exact⟨e,o,h4,ρ,h2.lq h3⟩⟩
theorem dt.pull{P:Program}{N:Nat}{ops:Array Oper}{S:Prop}{K:Env→aa→Prop}{l:List Oper}{ks:List Kind}{env:Env}{J:aa}(h:dt P N ops K l ks env J)(hs:∀e o,K e o→S):S:=by
 induction h with
 |nil h=>exact hs _ _ h
 |p _ _ _ _ ih=>exact ih
 |r _ _ _ _ ih=>exact ih
 |w _ _ _ _ ih=>exact ih
 |off _ _ _ ih=>exact ih
def Dg:List Nat→Nat→Bool
 |[],_=>false
 |s::r,i=>bif Nat.beq s i then true else Dg r i
structure Ord(ops:Array Oper)(ks:List Kind)(K:Prop):Prop where
 ok:kM ops ks=true
 k:K
theorem ord{ops:Array Oper}{ks:List Kind}{K:Prop}(k:K)(h:kM ops ks=true:=by decide+kernel):Ord ops ks K:=⟨h,k⟩
structure DA(b:Bool)(A B:Prop):Prop where
 t:b=true→A
 f:b=false→B
inductive S where
 |code (cs:List Code) (fr:List (Nat×List Code)) (e:Env) (J:aa)
 |cH (ops:Array Oper) (dr:Bool) (l:List Oper) (ks:List Kind) (gs:List GE) (e:Env) (cs:List Code) (fr:List (Nat×List Code)) (J:aa)
def iE(P:Program)(F:Fr)(Q:Exit→Env→aa→Prop):List (Nat×List Code)→Exit→Env→aa→Prop
 |[]=>Q
 |(id,cs)::fr=>bq id (U P F cs (iE P F Q fr)) (iE P F Q fr)
def CL:List (Nat×List Code)→Nat→Option (List Code×List (Nat×List Code))
 |[],_=>none
 |(id,cs)::fr,i=>bif Nat.beq i id then some (cs,fr)else CL fr i
def i_(T:TypeId→aO)(P:Program)(F:Fr)(stop:List Nat)(Q:Exit→Env→aa→Prop):Nat→S→Prop
 |0,.code cs fr e J=>U P F cs (iE P F Q fr) e J
 |0,.cH ..=>False
 |n+1,.code cs fr e J=>match cs with
  |[]=>match fr with
   |[]=>Q .normal e J
   |(_,cs)::fr=>i_ T P F stop Q n (.code cs fr e J)
  |c::cs=>match c with
   |.seq a b=>i_ T P F stop Q n (.code (a::b::cs) fr e J)
   |.skip=>i_ T P F stop Q n (.code cs fr e J)
   |.block id b=>i_ T P F stop Q n (.code [b] ((id,cs)::fr) e J)
   |.exit id=>match CL fr id with
    |some (cs,fr)=>i_ T P F stop Q n (.code cs fr e J)
    |none=>Q (.exit id) e J
   |.ret=>bif Dg stop 99999 then U P F (.ret::cs) (iE P F Q fr) e J else Q .ret e J
   |.cond x a b=>match e.op x with
    |some (.raw (.bool v))=>DA v (i_ T P F stop Q n (.code (a::cs) fr e J)) (i_ T P F stop Q n (.code (b::cs) fr e J))
    |_=>U P F (.cond x a b::cs) (iE P F Q fr) e J
   |.region id ops dr=>bif Dg stop id then U P F (.region id ops dr::cs) (iE P F Q fr) e J else i_ T P F stop Q n (.cH ops dr ops.toList [] [] e cs fr J)
   |c=>U P F (c::cs) (iE P F Q fr) e J
 |n+1,.cH ops dr l ks gs e cs fr J=>match l with
  |[]=>match dr with
   |false=>i_ T P F stop Q n (.code cs fr e J)
   |true=>Ord ops ks.reverse (i_ T P F stop Q n (.code cs fr e J))
  |o::l=>match o.guard with
   |none=>FR T P True gs o e J fun k d ai=>match o.dst with
    |none=>i_ T P F stop Q n (.cH ops dr l (k::ks) gs e cs fr ai)
    |some t=>bif Nat.blt t F.N then CW t d gs fun gN=>i_ T P F stop Q n (.cH ops dr l (k::ks) gN ((t,d)::e) cs fr ai)else False
   |some (g,b)=>Mh ops.toList gs e g b fun gs x=>FR T P (x.c=true) gs o x.env J fun k d _=>match k with
    |.w=>False
    |.p=>match o.dst with
     |none=>i_ T P F stop Q n (.cH ops dr l (.p::ks) gs e cs fr J)
     |some t=>bif Nat.blt t F.N then wg g b t d gs fun gN=>i_ T P F stop Q n (.cH ops dr l (.p::ks) gN ((t,.any)::e) cs fr J)else False
    |.r=>match o.dst with
     |none=>i_ T P F stop Q n (.cH ops dr l (.r::ks) gs e cs fr J)
     |some t=>bif Nat.blt t F.N then wg g b t d gs fun gN=>i_ T P F stop Q n (.cH ops dr l (.r::ks) gN ((t,.any)::e) cs fr J)else False
def Says(P:Program)(F:Fr)(Q:Exit→Env→aa→Prop):S→Prop
 |.code cs fr e J=>U P F cs (iE P F Q fr) e J
 |.cH ops dr l ks gs e cs fr J=>∀E,Lq e E→(∀z∈gs,j5 ops.toList E z)→∃gx,dt P F.N ops.toList.toArray (fun E' o=>∃e',Lq e' E'∧(dr=true→kM ops (gx.reverse++ks).reverse=true)∧U P F cs (iE P F Q fr) e' o) l gx E J
theorem U.exitTo{P:Program}{F:Fr}{Q:Exit→Env→aa→Prop}{e:Env}{J:aa}{id:Nat}:∀(fr:List (Nat×List Code)),(match CL fr id with
  |some (cs,fr)=>U P F cs (iE P F Q fr) e J
  |none=>Q (.exit id) e J)→iE P F Q fr (.exit id) e J
 |[],h=>h
 |(i,cs)::fr,h=>by
  simp only[CL]at h;simp only[iE,bq];cases hb:Nat.beq id i with
  |true=>simp only[hb,cond_true]at h⊢;exact h
  |false=>simp only[hb,cond_false]at h⊢;exact U.exitTo fr h
theorem Pg{P:Program}{F:Fr}{Q:Exit→Env→aa→Prop}{e:Env}{J:aa}:∀(fr:List (Nat×List Code)),Q .ret e J→iE P F Q fr .ret e J
 |[],h=>h
 |(i,cs)::fr,h=>by simp only[iE,bq];exact Pg fr h
theorem qu{T:TypeId→aO}{P:Program}(hT:nW P T){F:Fr}{stop:List Nat}{Q:Exit→Env→aa→Prop}:∀(n:Nat)(s:S),i_ T P F stop Q n s→Says P F Q s
 |0,.code cs fr e J,h=>h
 |0,.cH ..,h=>h.elim
 |n+1,.code [] [] e J,h=>⟨h⟩
 |n+1,.code [] ((i,cs)::fr) e J,h=>⟨(qu hT n (.code cs fr e J) h:U P F cs (iE P F Q fr) e J)⟩
 |n+1,.code (c::cs) fr e J,h=>by
  cases c with
  |seq a b=>exact U.seq (qu hT n (.code (a::b::cs) fr e J) h)
  |skip=>exact U.skip (qu hT n (.code cs fr e J) h)
  |block id b=>exact U.block (qu hT n (.code [b] ((id,cs)::fr) e J) h)
  |exit id=>
   refine U.exit (U.exitTo fr ?_);simp only[i_]at h;cases ho:CL fr id with
   |none=>simp only[ho]at h⊢;exact h
   |some x=>
    obtain⟨YR,fr'⟩:=x;simp only[ho]at h⊢;exact qu hT n (.code YR fr' e J) h
  |ret=>
   simp only[i_]at h;cases hs:Dg stop 99999 with
   |true=>simp only[hs,cond_true]at h;exact h
   |false=>simp only[hs,cond_false]at h;exact U.ret (Pg fr h)
  |cond x a b=>
   simp only[i_]at h;split at h
   ·rename_i v hv;exact U.cond hv (fun k=>qu hT n (.code (a::cs) fr e J) (h.t k)) (fun k=>qu hT n (.code (b::cs) fr e J) (h.f k))
   ·exact h
  |region id ops dr=>
   simp only[i_]at h;cases hs:Dg stop id with
   |true=>simp only[hs,cond_true]at h;exact h
   |false=>
    simp only[hs,cond_false]at h;have QM:ops=ops.toList.toArray:=by simp
    obtain⟨ks,h1⟩:=qu hT n (.cH ops dr ops.toList [] [] e cs fr J) h e (Lq.refl e) zS;show U P F (.region id ops dr::cs) (iE P F Q fr) e J;have fin:∀x E o,kr (fun E o=>∃e,Lq e E∧(dr=true→kM ops (ks.reverse++[]).reverse=true)∧U P F cs (iE P F Q fr) e o) (iE P F Q fr) x E o→∃e,Lq e E∧kr (pI P F cs (iE P F Q fr)) (iE P F Q fr) x e o:=by
     intro x E o hx;cases x with
     |normal=>obtain⟨e,h2,_,h3⟩:=hx;exact⟨e,h2,h3.out⟩
     |_=>exact⟨E,Lq.refl E,hx⟩
    cases dr with
    |false=>
     rw[QM];exact⟨WP.VZ (WP.region (Q:=kr (fun E o=>∃e,Lq e E∧(false=true→kM ops (List.reverse (List.reverse ks++([]:List Kind)))=true)∧U P F cs (iE P F Q fr) e o) (iE P F Q fr)) h1) fin⟩
    |true=>
     have af:kM ops.toList.toArray ks=true:=by
      have:=h1.pull fun E o ⟨e,_,h3,_⟩=>h3 rfl;simpa using this
     rw[QM];exact⟨WP.VZ (WP.Us (Q:=kr (fun E o=>∃e,Lq e E∧(true=true→kM ops (List.reverse (List.reverse ks++([]:List Kind)))=true)∧U P F cs (iE P F Q fr) e o) (iE P F Q fr)) hT.mixed af h1) fin⟩
  |_=>exact h
 |n+1,.cH ops dr [] ks gs e cs fr J,h=>fun E hl hg=>by
  refine⟨[],.nil ⟨e,hl,?_⟩⟩;simp only[i_]at h;cases dr with
  |false=>exact⟨(fun h=>by cases h),qu hT n (.code cs fr e J) h⟩
  |true=>exact⟨fun _=>h.ok,qu hT n (.code cs fr e J) h.k⟩
 |n+1,.cH ops dr (o::l) ks gs e cs fr J,h=>fun E hl hg=>by
  have ih:∀(k:Kind)(gN:List GE)(e':Env)(ai:aa)(E':Env),i_ T P F stop Q n (.cH ops dr l (k::ks) gN e' cs fr ai)→Lq e' E'→(∀z∈gN,j5 ops.toList E' z)→
    ∃gx,dt P F.N ops.toList.toArray (fun E' o=>∃e',Lq e' E'∧(dr=true→kM ops (gx.reverse++(k::ks)).reverse=true)∧U P F cs (iE P F Q fr) e' o) l gx E' ai:=
   fun k gN e' ai E' h h1 h2=>qu hT n (.cH ops dr l (k::ks) gN e' cs fr ai) h E' h1 h2
  simp only[i_]at h;split at h
  ·rename_i BF;obtain⟨k,d,ai,h1,h2⟩:=(TC hT (fun _=>hl) hg h).out;have h1:=h1 trivial;have Jy:On ops.toList.toArray E o:=by simp[On,BF]
   have step:∀(gx:List Kind),eQ F.N o.dst=true→dt P F.N ops.toList.toArray (fun E' o=>∃e',Lq e' E'∧(dr=true→kM ops (gx.reverse++(k::ks)).reverse=true)∧U P F cs (iE P F Q fr) e' o) l gx (E.put o.dst d) ai→
     ∃gx,dt P F.N ops.toList.toArray (fun E' o=>∃e',Lq e' E'∧(dr=true→kM ops (gx.reverse++ks).reverse=true)∧U P F cs (iE P F Q fr) e' o) (o::l) gx E J:=by
    intro gx hd hk;rw[UD]at hk;refine⟨k::gx,?_⟩;cases k with
    |p=>obtain⟨hq,rfl⟩:=h1;exact .p hd Jy hq hk
    |r=>obtain⟨hq,rfl⟩:=h1;exact .r hd Jy hq hk
    |w=>exact .w hd Jy h1 hk
   split at h2
   ·rename_i hd;obtain⟨gx,h3⟩:=ih k gs e ai E h2 hl hg;exact step gx (by rw[hd];rfl) (by rw[hd];exact h3)
   ·rename_i t hd;cases hb:Nat.blt t F.N with
    |false=>simp only[hb,cond_false]at h2
    |true=>
     simp only[hb,cond_true]at h2;obtain⟨gN,h3,h4⟩:=Lh hg h2;obtain⟨gx,h5⟩:=ih k gN _ ai _ h4 (hl.put t d) h3;exact step gx (by rw[hd];exact hb) (by rw[hd];exact h5)
  ·rename_i g b BF;obtain⟨IJ,x,ns,JN,rfl,rfl,h⟩:=ani hl hg h;have hx:=ns x JN;obtain⟨k,d,ai,h1,h2⟩:=(TC hT hx.env ns h).out;have step:∀(k:Kind)(gx:List Kind),k≠.w→(x.c=true→SK P o E J k d ai)→eQ F.N o.dst=true→dt P F.N ops.toList.toArray (fun E' o=>∃e',Lq e' E'∧(dr=true→kM ops (gx.reverse++(k::ks)).reverse=true)∧U P F cs (iE P F Q fr) e' o) l gx (E.put o.dst (bif x.c then d else .raw undef)) J→
     ∃gx,dt P F.N ops.toList.toArray (fun E' o=>∃e',Lq e' E'∧(dr=true→kM ops (gx.reverse++ks).reverse=true)∧U P F cs (iE P F Q fr) e' o) (o::l) gx E J:=by
    intro k gx nA h1 hd hk;rw[UD]at hk;refine⟨k::gx,?_⟩;cases hc:x.c with
    |false=>
     rw[hc,cond_false]at hk;exact .off hd (hx.off BF hc) hk
    |true=>
     rw[hc,cond_true]at hk;have h1:=h1 hc;cases k with
     |p=>exact .p hd (hx.on BF hc) h1.1 hk
     |r=>exact .r hd (hx.on BF hc) h1.1 hk
     |w=>exact absurd rfl nA
   have fin:∀(k:Kind),k≠.w→(x.c=true→SK P o E J k d ai)→(match o.dst with
     |none=>i_ T P F stop Q n (.cH ops dr l (k::ks) IJ e cs fr J)
     |some t=>bif Nat.blt t F.N then wg x.g x.b t d IJ fun gN=>i_ T P F stop Q n (.cH ops dr l (k::ks) gN ((t,.any)::e) cs fr J)else False)→
     ∃gx,dt P F.N ops.toList.toArray (fun E' o=>∃e',Lq e' E'∧(dr=true→kM ops (gx.reverse++ks).reverse=true)∧U P F cs (iE P F Q fr) e' o) (o::l) gx E J:=by
    intro k nA h1 h2;split at h2
    ·rename_i hd;obtain⟨gx,h3⟩:=ih k IJ e J E h2 hl ns;exact step k gx nA h1 (by rw[hd];rfl) (by rw[hd];exact h3)
    ·rename_i t hd;cases hb:Nat.blt t F.N with
     |false=>simp only[hb,cond_false]at h2
     |true=>
      simp only[hb,cond_true]at h2;obtain⟨gN,h3,h4⟩:=F3 (d:=d) hx ns h2;obtain⟨gx,h5⟩:=ih k gN _ J _ h4 (hl.T6 t _) h3;exact step k gx nA h1 (by rw[hd];exact hb) (by rw[hd];exact h5)
   cases k with
   |w=>exact h2.elim
   |p=>exact fin .p zS h1 h2
   |r=>exact fin .r zS h1 h2
theorem abU{T:TypeId→aO}{P:Program}(hT:nW P T){F:Fr}{stop:List Nat}(n:Nat)(cs:List Code)(Q:Exit→Env→aa→Prop)(env:Env)(J:aa)(h:i_ T P F stop Q n (.code cs [] env J)):U P F cs Q env J:=qu hT n (.code cs [] env J) h
theorem br{b:Bool}{A B:Prop}(h:b=true→A)(h':b=false→B):DA b A B:=⟨h,h'⟩
theorem bM{b:Bool}{A B:Prop}(hb:b=true)(h:A):DA b A B:=⟨fun _=>h,fun e=>(by rw[hb]at e;cases e)⟩
theorem aQ{b:Bool}{A B:Prop}(hb:b=false)(h:B):DA b A B:=⟨fun e=>(by rw[hb]at e;cases e),fun _=>h⟩
end Go.T
namespace Go.T
open Go
variable[bT]
inductive wH(P:Program)where
 |leaf
 |node (k:Nat) (i:{i:aO//aT P k i}) (l r:wH P)
def wH.get{P:Program}:wH P→Nat→aO
 |.leaf,_=>{}
 |.node k i l r,t=>bif Nat.beq t k then i.1 else bif Nat.blt t k then l.get t else r.get t
theorem aT.none(P:Program)(t:TypeId):aT P t {}:=⟨fun _ h=>(nomatch h),fun _ h=>(nomatch h),fun _ h=>(nomatch h),fun _ h=>(nomatch h),fun _ h=>(nomatch h),fun _ h=>(nomatch h)⟩
theorem wH.ok{P:Program}:∀(b:wH P)(t:Nat),aT P t (b.get t)
 |.leaf,t=>aT.none P t
 |.node k i l r,t=>by
  simp only[wH.get];cases hb:Nat.beq t k with
  |true=>obtain rfl:=Nat.eq_of_beq_eq_true hb;exact i.2
  |false=>
   simp only[cond_false];cases Nat.blt t k with
   |true=>exact l.ok t
   |false=>exact r.ok t
section
variable{P:Program} {t:TypeId} {d:TypeDesc} {b:Bool} {n:Nat} {z:Value} {ds:List D} {fs:Array Field} {pl:List (Nat×Nat)} {ti:TypeInfo} {m:Nat}
theorem bQ(ds:List D)(hu:P.underlying t=some d)(ha:∀w,(isAgg t).run P w=.ok b w)(hs:∀w,(sizeOf t).run P w=.ok n w)(hz:∀w,(zeroValue t).run P w=.ok z w)(hd:z.cells.toList.map mK=ds):aT P t {u:=some d,agg:=some b,sz:=some n,zc:=some ds}:=
 ⟨fun _ h=>by cases h;exact hu,fun _ h=>by cases h;exact ha,fun _ h=>by cases h;exact hs,fun _ h=>by cases h;exact⟨z,hz,hd⟩,fun _ h=>(nomatch h),fun _ h=>(nomatch h)⟩
theorem jP(pl:List (Nat×Nat))(ds:List D)(hu:P.underlying t=some (.struct fs))(ha:∀w,(isAgg t).run P w=.ok b w)(hs:∀w,(sizeOf t).run P w=.ok n w)(hz:∀w,(zeroValue t).run P w=.ok z w)(hd:z.cells.toList.map mK=ds)
  (hp:∀w,(fs.mapM (m:=Sem) fun f=>Prod.mk f.offset<$>sizeOf f.type).run P w=.ok pl.toArray w):aT P t {u:=some (.struct fs),agg:=some b,sz:=some n,zc:=some ds,pl:=some pl}:=
 ⟨fun _ h=>by cases h;exact hu,fun _ h=>by cases h;exact ha,fun _ h=>by cases h;exact hs,fun _ h=>by cases h;exact⟨z,hz,hd⟩,fun _ h fs' h'=>by cases h;rw[hu]at h';cases h';exact hp,fun _ h=>(nomatch h)⟩
end
mutual
theorem Tw{f:Nat→Bool}:∀(d:D),d.bk=true→d.okB f=true
 |.any,_=>rfl
 |.raw _,_=>rfl
 |.str _,_=>rfl
 |.agg ds,h=>CG ds h
 |.bl ds,h=>CG ds h
 |.snap _ _ _,_=>rfl
 |.bz _,_=>rfl
 |.pj _ _,_=>rfl
 |.box _ _,h=>by simp[D.bk]at h
 |.gs _ _,h=>by simp[D.bk]at h
 |.nf _ _,h=>by simp[D.bk]at h
 |.dj _,h=>by simp[D.bk]at h
 |.sc _ _ _,h=>by simp[D.bk]at h
 |.pZ _ _ _,h=>by simp[D.bk]at h
 |.gr _ _,h=>by simp[D.bk]at h
 |.fn _ as bs,h=>by
  simp only[D.bk,Bool.and_eq_true]at h;simp only[D.okB,CG as h.1,CG bs h.2,Bool.and_self]
theorem CG{f:Nat→Bool}:∀(ds:List D),D.bk.dw ds=true→D.okB.gS f ds=true
 |[],_=>rfl
 |d::ds,h=>by
  simp only[D.bk.dw,Bool.and_eq_true]at h;simp only[D.okB.gS,Tw d h.1,CG ds h.2,Bool.and_self]
end
theorem pr{f:Nat→Bool}{g:Go.Fn}{bx:List D}(h:D.bk.dw bx=true):(D.fn g [] bx).okB f=true:=Tw _ (by simp[D.bk,D.bk.dw,h])
theorem Fc.sub{P:Program}{f:FuncId}{ds fg:List D}{r:D}(h:Fc P f fg r)(hs:jG ds fg:=by repeat(first|exact .nil|refine .cons (Sub.refl _) ?_|refine .cons (Sub.tv _ _ _) ?_|refine .cons (Sub.nil _ _) ?_)):Fc P f ds r:=
 ⟨fun w O ρ vals hO hg hv=>h.out w O ρ vals hO hg (hs.out w O ρ vals hv)⟩
theorem an{env:Env}{t:Nat}{d r:D}(h:env.get t=some d)(s:Sub d r):∃ds,getAll env [t]=some ds∧Sub (s5 ds) r:=⟨[d],by simp[getAll,h],s⟩
theorem p9{env:Env}{t u:Nat}{d e d' e':D}(h:env.get t=some d)(h':env.get u=some e)(s:Sub d d')(s':Sub e e'):∃ds,getAll env [t,u]=some ds∧Sub (s5 ds) (.bl [d',e']):=⟨[d,e],by simp[getAll,h,h'],.GH s s'⟩
theorem C5{env:Env}{t u v:Nat}{d e f d' e' f':D}(h:env.get t=some d)(h':env.get u=some e)(IK:env.get v=some f)(s:Sub d d')(s':Sub e e')(s'':Sub f f'):∃ds,getAll env [t,u,v]=some ds∧Sub (s5 ds) (.bl [d',e',f']):=⟨[d,e,f],by simp[getAll,h,h',IK],.amX s s' s''⟩
theorem nx{ι:Type}{p q:ι→Prop}(x:ι)(h:p x)(k:q x):∃x,p x∧q x:=⟨x,h,k⟩
theorem pA{A S K:Prop}(h:A→S)(k:K):Sd A S K:=⟨h,k⟩
end Go.T
