/- Contracts of functions that the statement reaches, and the logic in which they are proved (no condition). -/
import Derived.Test.YtapflgppmigcdaaGreatDoorA05
set_option linter.all false
set_option maxRecDepth 20000
namespace Go.T
open Go
variable[bX]
structure bC where
 u:Option TypeDesc:=none
 agg:Option Bool:=none
 sz:Option Nat:=none
 zc:Option (List D):=none
 pl:Option (List (Nat×Nat)):=none
 bt:Option Nat:=none
structure bU(P:Program)(t:TypeId)(i:bC):Prop where
 u:∀d,i.u=some d->P.underlying t=some d
 agg:∀b,i.agg=some b->∀w,(isAgg t).run P w=.ok b w
 sz:∀n,i.sz=some n->∀w,(sizeOf t).run P w=.ok n w
 zc:∀ds,i.zc=some ds->∃z,(∀w,(zeroValue t).run P w=.ok z w)/\z.cells.toList.map lY=ds
 pl:∀pl,i.pl=some pl->∀fs,P.underlying t=some (.struct fs)->∀w,(fs.mapM (m:=Sem) fun f=>Prod.mk f.offset<$>sizeOf f.type).run P w=.ok pl.toArray w
 bt:∀n,i.bt=some n->∃ti,(∀w,(typeInfo t).run P w=.ok ti w)/\ti.bytes=n
structure od(P:Program)(T:TypeId->bC):Prop where
 ty:∀t,bU P t (T t)
 mixed:P.follows .mixedOrders=true
def p_{α:Type _}:List α->Nat->Option α
 |[],_=>none
 |a::_,0=>some a
 |_::l,n+1=>p_ l n
theorem u_{α:Type _}:∀(l:List α)(n:Nat),p_ l n=l[n]?
 |[],n=>by simp[p_]
 |a::l,0=>by simp[p_]
 |a::l,n+1=>by simp[p_,u_ l n]
def pt{α:Type _}:List α->Nat->Bool
 |[],0=>true
 |_::l,n+1=>pt l n
 |_,_=>false
theorem Bn{α:Type _}:∀(l:List α)(n:Nat),pt l n=true->l.length=n
 |[],0,_=>rfl
 |a::l,n+1,h=>by simp[Bn l n h]
 |[],n+1,h=>by simp[pt]at h
 |a::l,0,h=>by simp[pt]at h
def Au:List D->Nat->(List D->Prop)->Prop
 |l,0,k=>k l
 |_::l,n+1,k=>Au l n k
 |[],_+1,_=>False
theorem Gr:∀(l:List D)(n:Nat)(k:List D->Prop),Au l n k->n<=l.length/\k (l.drop n)
 |l,0,k,h=>⟨Bp _,by simpa[Au]using h⟩
 |a::l,n+1,k,h=>by
  obtain⟨h1,h2⟩:=Gr l n k h;exact⟨by simp;omega,by simpa using h2⟩
 |[],n+1,k,h=>h.elim
def Cq:List D->Nat->(List D->Prop)->Prop
 |_,0,k=>k []
 |a::l,n+1,k=>Cq l n fun r=>k (a::r)
 |[],_+1,_=>False
theorem JD:∀(l:List D)(n:Nat)(k:List D->Prop),Cq l n k->n<=l.length/\k (l.take n)
 |l,0,k,h=>⟨Bp _,by simpa[Cq]using h⟩
 |a::l,n+1,k,h=>by
  obtain⟨h1,h2⟩:=JD l n _ h;exact⟨by simp;omega,by simpa using h2⟩
 |[],n+1,k,h=>h.elim
def ub:List D->Nat->List D->(List D->Prop)->Prop
 |ds,_,[],k=>k ds
 |_::ds,0,c::cs,k=>ub ds 0 cs fun r=>k (c::r)
 |d::ds,n+1,c::cs,k=>ub ds n (c::cs) fun r=>k (d::r)
 |[],_,_::_,_=>False
theorem PY(d:D):∀(cs ds:List D)(n:Nat),mu (d::ds) (n+1) cs=d::mu ds n cs
 |[],ds,n=>rfl
 |c::cs,ds,n=>by simp[mu,PY d cs]
theorem E9:∀(ds:List D)(n:Nat)(cs:List D)(k:List D->Prop),ub ds n cs k->(cs≠[]->n+cs.length<=ds.length)/\k (mu ds n cs)
 |ds,n,[],k,h=>by
  unfold ub at h;exact⟨fun e=>absurd rfl e,h⟩
 |d::ds,0,c::cs,k,h=>by
  simp only[ub]at h;obtain⟨h1,h2⟩:=E9 ds 0 cs _ h;refine⟨fun _=>?_,?_⟩
  ·cases cs with
   |nil=>simp
   |cons c' cs=>have:=h1 zS;simp at this|-;omega
  ·simp only[mu,oG,PY];exact h2
 |d::ds,n+1,c::cs,k,h=>by
  simp only[ub]at h;obtain⟨h1,h2⟩:=E9 ds n (c::cs) _ h;refine⟨fun _=>?_,?_⟩
  ·have:=h1 zS;simp at this|-;omega
  ·rw[PY];exact h2
 |[],n,c::cs,k,h=>by simp[ub]at h
def IH:ae->Nat->Ob->(ae->Prop)->Prop
 |[],i,x,k=>k [(i,x)]
 |(t,d)::r,i,x,k=>bif Nat.beq t i then k ((t,x)::r)else IH r i x fun r'=>k ((t,d)::r')
theorem Yw:∀(Z:ae)(i:Nat)(x:Ob)(k:ae->Prop),IH Z i x k->k (Z.set i x)
 |[],i,x,k,h=>h
 |(t,d)::r,i,x,k,h=>by
  simp only[IH]at h;simp only[ae.set];cases hb:Nat.beq t i with
  |true=>simpa only[hb,iX]using h
  |false=>simp only[hb,jh]at h|-;exact Yw r i x _ h
def AH:List Nat->ae->(Nat->Prop)->Prop
 |[],_,_=>False
 |i::is,Z,k=>match Z.get i with
  |none=>k i
  |some _=>AH is Z k
theorem GX:∀(is:List Nat)(Z:ae)(k:Nat->Prop),AH is Z k->∃i,Z.get i=none/\k i
 |[],Z,k,h=>h.elim
 |i::is,Z,k,h=>by
  simp only[AH]at h;cases hg:Z.get i with
  |none=>simp only[hg]at h;exact⟨i,hg,h⟩
  |some o=>simp only[hg]at h;exact GX is Z k h
def ids:List Nat:=[0,1,2,3,4,5,6,7,8,9,10,11,12,13,14,15,16,17,18,19,20,21,22,23,24,25,26,27,28,29,30,31,32,33,34,35,36,37,38,39,40,41,42,43,44,45,46,47,48,49,50]
def EA(e:Env):List Operand->(List D->Prop)->Prop
 |[],k=>k []
 |x::xs,k=>match e.op x with
  |some d=>EA e xs fun r=>k (d::r)
  |none=>False
theorem O3(e:Env):∀(xs:List Operand)(k:List D->Prop),EA e xs k->∃ds,e.kM xs=some ds/\k ds
 |[],k,h=>⟨[],rfl,h⟩
 |x::xs,k,h=>by
  simp only[EA]at h;cases hx:e.op x with
  |none=>simp only[hx]at h
  |some d=>
   simp only[hx]at h;obtain⟨ds,h1,h2⟩:=O3 e xs _ h;exact⟨d::ds,by simp[Env.kM,hx,h1],h2⟩
def EL(e:Env):List (Nat×Operand)->(List (Nat×D)->Prop)->Prop
 |[],k=>k []
 |(i,x)::xs,k=>match e.op x with
  |some d=>EL e xs fun r=>k ((i,d)::r)
  |none=>False
theorem Pe(e:Env):∀(xs:List (Nat×Operand))(k:List (Nat×D)->Prop),EL e xs k->∃ds,e.oO xs=some ds/\k ds
 |[],k,h=>⟨[],rfl,h⟩
 |(i,x)::xs,k,h=>by
  simp only[EL]at h;cases hx:e.op x with
  |none=>simp only[hx]at h
  |some d=>
   simp only[hx]at h;obtain⟨ds,h1,h2⟩:=Pe e xs _ h;exact⟨(i,d)::ds,by simp[Env.oO,hx,h1],h2⟩
def GI(pl:List (Nat×Nat)):List D->List (Nat×D)->(List D->Prop)->Prop
 |ds,[],k=>k ds
 |ds,(i,d)::r,k=>match p_ pl i with
  |some (off,size)=>bif pt d.il size&&d.ml then ub ds off d.il fun fg=>GI pl fg r k else False
  |none=>False
def OX{d:D}{n:Nat}(h:d.il.length=n)(hn:n≠0):d.il≠[]:=by
 intro e;rw[e]at h;exact hn h.symm
theorem Tw(pl:List (Nat×Nat))(hp:pl.all (fun x=>!Nat.beq x.2 0)=true):∀(dH:List (Nat×D))(ds:List D)(k:List D->Prop),GI pl ds dH k->∃cs,nH (pl.toArray[·]?) ds dH=some cs/\k cs
 |[],ds,k,h=>⟨ds,rfl,h⟩
 |(i,d)::r,ds,k,h=>by
  simp only[GI,u_]at h;cases hl:pl[i]?with
  |none=>simp only[hl]at h
  |some x=>
   obtain⟨off,size⟩:=x;simp only[hl]at h;cases hb:(pt d.il size&&d.ml)with
   |false=>simp only[hb,jh]at h
   |true=>
    simp only[hb,iX]at h;simp only[bd]at hb;obtain⟨h1,h2⟩:=E9 _ _ _ _ h;have hlen:=Bn _ _ hb.1;have aC:size≠0:=by
     have:=de.1 hp (off,size) (dj hl);intro e;subst e;simp at this
    have fh:=h1 (OX hlen aC);obtain⟨cs,h3,h4⟩:=Tw pl hp r _ k h2;refine⟨cs,?_,h4⟩;have hg:pl.toArray[i]?=some (off,size):=by simpa using hl
    have hc:(Nat.beq d.il.length size&&Nat.ble (off+size) ds.length&&d.ml)=true:=by
     simp only[bd,BX,Nat.ble_eq];exact⟨⟨hlen,by omega⟩,hb.2⟩
    simp only[nH,hg,hc,iX];exact h3
def Lq(e E:Env):Prop:=∀t d,e.get t=some d->d=.any\/E.get t=some d
def Lq.refl(e:Env):Lq e e:=fun _ _ h=>.inr h
def anX(e E:Env)(v:Value):e.op (.const v)=E.op (.const v):=by cases v<;>rfl
theorem Lq.op{e E:Env}(h:Lq e E){x:Operand}{d:D}(hx:e.op x=some d):d=.any\/E.op x=some d:=by
 cases x with
 |tmp t=>exact h t d hx
 |const v=>exact .inr ((anX E e v).trans hx)
 |global g=>exact .inr hx
 |func f=>exact .inr hx
def aq.lq{P:Program}{o:Oper}{e E:Env}{Z aj:ae}{d:D}(h:Lq e E)(hq:aq P o e Z d aj):aq P o E Z d aj:=by
 intro O ρ a w ai bY hv;refine hq O ρ a w ai bY fun x hx d' hd=>?_;rcases h.op hd with rfl|hd
 ·simp[V]
 ·exact hv x hx d' hd
def Lq.put{e E:Env}(h:Lq e E)(t:Nat)(d:D):Lq ((t,d)::e) ((t,d)::E):=by
 intro s x hx;rw[Env.bm]at hx|-;by_cases g:t=s
 ·rw[aV g]at hx|-;exact .inr hx
 ·rw[aF g]at hx|-;exact h s x hx
def Lq.Zw{e E:Env}(h:Lq e E)(t:Nat)(d:D):Lq ((t,.any)::e) ((t,d)::E):=by
 intro s x hx;rw[Env.bm]at hx|-;by_cases g:t=s
 ·rw[aV g]at hx;cases hx;exact .inl rfl
 ·rw[aF g]at hx|-;exact h s x hx
abbrev KK:=Kind->D->ae->Prop
def SK(P:Program)(o:Oper)(e:Env)(Z:ae):Kind->D->ae->Prop
 |.p,d,aj=>(∀Z,aq P o e Z d Z)/\aj=Z
 |.r,d,aj=>aq P o e Z d Z/\aj=Z
 |.w,d,aj=>aq P o e Z d aj
theorem SK.lq{P:Program}{o:Oper}{e E:Env}{Z aj:ae}{k:Kind}{d:D}(hl:Lq e E)(h:SK P o e Z k d aj):SK P o E Z k d aj:=by
 cases k with
 |p=>exact⟨fun Z=>(h.1 Z).lq hl,h.2⟩
 |r=>exact⟨h.1.lq hl,h.2⟩
 |w=>exact aq.lq hl h
structure cO(P:Program)(A:Prop)(o:Oper)(e:Env)(Z:ae)(K:KK):Prop where
 out:∃k d aj,(A->SK P o e Z k d aj)/\K k d aj
section
variable{P:Program} {A:Prop} {o:Oper} {e:Env} {Z aj:ae} {d:D} {K:KK}
def gP(h:A->∀Z,aq P o e Z d Z)(k:K .p d Z):cO P A o e Z K:=⟨.p,d,Z,fun a=>⟨h a,rfl⟩,k⟩
def gR(h:A->aq P o e Z d Z)(k:K .r d Z):cO P A o e Z K:=⟨.r,d,Z,fun a=>⟨h a,rfl⟩,k⟩
def gW(h:A->aq P o e Z d aj)(k:K .w d aj):cO P A o e Z K:=⟨.w,d,aj,h,k⟩
def oP(h:∀Z,aq P o e Z d Z)(k:K .p d Z):cO P True o e Z K:=gP (fun _=>h) k
def oR(h:aq P o e Z d Z)(k:K .r d Z):cO P True o e Z K:=gR (fun _=>h) k
def oW(h:aq P o e Z d aj)(k:K .w d aj):cO P True o e Z K:=gW (fun _=>h) k
end
structure JS(A:Prop)(n:Int)(rows:List (List D))(K:List D->Prop):Prop where
 out:∃r,(A->0<=n/\rows[n.toNat]?=some r)/\K r
structure JR(A:Prop)(n:Int)(s:aa)(K:UInt8->Prop):Prop where
 out:∃r,(A->0<=n/\s[n.toNat]?=some r)/\K r
def ix{n:Int}{rows:List (List D)}{K:List D->Prop}{r:List D}(h0:0<=n)(h:rows[n.toNat]?=some r)(k:K r):JS True n rows K:=⟨r,fun _=>⟨h0,h⟩,k⟩
def j9{A:Prop}{n:Int}{rows:List (List D)}{K:List D->Prop}{r:List D}(h:A->0<=n/\rows[n.toNat]?=some r)(k:K r):JS A n rows K:=⟨r,h,k⟩
def Bj{n:Int}{s:aa}{K:UInt8->Prop}{r:UInt8}(h0:0<=n)(h:s[n.toNat]?=some r)(k:K r):JR True n s K:=⟨r,fun _=>⟨h0,h⟩,k⟩
def w8{A:Prop}{n:Int}{s:aa}{K:UInt8->Prop}{r:UInt8}(h:A->0<=n/\s[n.toNat]?=some r)(k:K r):JR A n s K:=⟨r,h,k⟩
structure Sd(A S K:Prop):Prop where
 s:A->S
 k:K
def sd{S K:Prop}(h:S)(k:K):Sd True S K:=⟨fun _=>h,k⟩
def Kl(A:Prop)(op:BinOp)(k:IntKind)(n m:Int)(G:Prop)(K:D->Prop):Prop:=
 match op with
 |.add=>Sd A (k.wrap (n+m)=n+m) (K (.raw (.int k (n+m))))
 |.sub=>Sd A (k.wrap (n-m)=n-m) (K (.raw (.int k (n-m))))
 |.mul=>Sd A (k.wrap (n*m)=n*m) (K (.raw (.int k (n*m))))
 |.lss=>K (.raw (.bool (decide (n<m))))
 |.leq=>K (.raw (.bool (decide (n<=m))))
 |.gtr=>K (.raw (.bool (decide (m<n))))
 |.geq=>K (.raw (.bool (decide (m<=n))))
 |.eql=>K (.raw (.bool (decide (n=m))))
 |.neq=>K (.raw (.bool (decide (n≠m))))
 |_=>G
def Km(A:Prop)(op:BinOp)(s r:aa)(G:Prop)(K:D->Prop):Prop:=
 match op with
 |.add=>Sd A (s.length+r.length<=aD) (K (.str (s++r)))
 |.lss=>K (.raw (.bool (aa.lt s r)))
 |.leq=>K (.raw (.bool (!aa.lt r s)))
 |.gtr=>K (.raw (.bool (aa.lt r s)))
 |.geq=>K (.raw (.bool (!aa.lt s r)))
 |.eql=>K (.raw (.bool (decide (s=r))))
 |.neq=>K (.raw (.bool (decide (s≠r))))
 |_=>G
def Kk(op:BinOp)(b c:Bool)(G:Prop)(K:D->Prop):Prop:=
 match op with
 |.eql=>K (.raw (.bool (b==c)))
 |.neq=>K (.raw (.bool (b !=c)))
 |_=>G
def Kn(T:TypeId->bC)(A:Prop)(op:BinOp)(t:TypeId)(x y:Option D)(G:Prop)(K:D->Prop):Prop:=
 match x,y with
 |some (.raw (.int k n)),some (.raw (.int k' m))=>bif decide (k=k')then Kl A op k n m G K else G
 |some (.str s),some (.str r)=>Km A op s r G K
 |some (.raw (.bool b)),some (.raw (.bool c))=>match(T t).u with
  |some .bool=>Kk op b c G K
  |_=>G
 |_,_=>G
def Ql(op:UnOp)(A:Prop)(x:Option D)(G:Prop)(K:D->Prop):Prop:=
 match op,x with
 |.not,some (.raw (.bool b))=>K (.raw (.bool (!b)))
 |.neg,some (.raw (.int k n))=>Sd A (k.wrap (0-n)=-n) (K (.raw (.int k (-n))))
 |_,_=>G
def KH(T:TypeId->bC)(A:Prop)(s t:TypeId)(x:Option D)(G:Prop)(K:D->Prop):Prop:=
 match x,(T s).u,(T t).u with
 |some (.raw (.int _ n)),some _,some (.int k')=>Sd A (k'.wrap n=n) (K (.raw (.int k' n)))
 |some (.str b),some _,some .string=>K (.str b)
 |_,_,_=>G
def NX(T:TypeId->bC)(t:TypeId)(x:Option D)(Z:ae)(G:Prop)(K:Kind->D->Prop):Prop:=
 match x with
 |some (.bj cs)=>match(T t).agg,(T t).sz with
  |some false,_=>match cs with
   |d::_=>K .p d
   |[]=>G
  |some true,some n=>bif pt cs n then K .p (.agg cs)else Cq cs n fun r=>K .p (.agg r)
  |_,_=>G
 |some (.box id off)=>match Z.get id with
  |some (.cells ds)=>match(T t).agg,(T t).sz with
   |some false,_=>match p_ ds off with
    |some d=>K .r d
    |none=>G
   |some true,some n=>bif Nat.beq off 0&&pt ds n then K .r (.agg ds)else Au ds off fun r=>Cq r n fun r=>K .r (.agg r)
   |_,_=>G
  |_=>G
 |_=>G
def Qa(T:TypeId->bC)(t:TypeId)(x y:Option D)(Z:ae)(G:Prop)(K:D->ae->Prop):Prop:=
 match x,y with
 |some (.box id off),some d=>match Z.get id with
  |some (.cells ds)=>match(T t).sz with
   |some n=>bif pt d.il n&&d.ml&&!Nat.beq n 0 then ub ds off d.il fun fg=>IH Z id (.cells fg) fun aj=>K (.raw undef) aj else G
   |none=>G
  |_=>G
 |_,_=>G
def LH(T:TypeId->bC)(t:TypeId)(x:Option D)(f:Nat)(G:Prop)(K:D->Prop):Prop:=
 match x,(T t).u with
 |some (.agg cs),some (.struct fs)=>match p_ fs.toList f with
  |some fl=>match(T fl.type).agg,(T fl.type).sz with
   |some false,_=>match p_ cs fl.offset with
    |some d=>K d
    |none=>G
   |some true,some n=>Au cs fl.offset fun r=>Cq r n fun r=>K (.agg r)
   |_,_=>G
  |none=>G
 |_,_=>G
def LF(T:TypeId->bC)(t:TypeId)(x:Option D)(f:Nat)(G:Prop)(K:D->Prop):Prop:=
 match x,(T t).u with
 |some (.box id off),some (.struct fs)=>match p_ fs.toList f with
  |some fl=>match(T fl.type).sz with
   |some (_+1)=>K (.box id (off+fl.offset))
   |_=>G
  |none=>G
 |some (.bj cs),some (.struct fs)=>match p_ fs.toList f with
  |some fl=>match(T fl.type).sz with
   |some (_+1)=>Au cs fl.offset fun r=>K (.bj r)
   |_=>G
  |none=>G
 |_,_=>G
def NS(T:TypeId->bC)(t:TypeId)(x:Option D)(G:Prop)(K:D->Prop):Prop:=
 match x,(T t).u with
 |some (.str s),some .string=>K (.raw (.int .i64 s.length))
 |some (.snap _ _ rows),some (.slice _)=>K (.raw (.int .i64 rows.length))
 |some (.gs _ n),some (.slice _)=>K (.raw (.int .i64 n))
 |some (.raw (.slice _ n _)),some (.slice _)=>K (.raw (.int .i64 n))
 |_,_=>G
def Ip(mx:Bool)(x y:Option D)(G:Prop)(K:D->Prop):Prop:=
 match x,y with
 |some (.raw (.int k n)),some (.raw (.int k' m))=>bif decide (k=k')then(match mx with
  |true=>K (.raw (.int k (max n m)))
  |false=>K (.raw (.int k (min n m))))else G
 |_,_=>G
def NB(T:TypeId->bC)(A:Prop)(t:TypeId)(x i:Option D)(G:Prop)(K:D->Prop):Prop:=
 match x,i,(T t).u with
 |some (.snap sz _ rows),some (.raw (.int _ n)),some (.slice e)=>match(T e).sz with
  |some m=>bif Nat.beq m sz then JS A n rows fun r=>K (.bj r)else G
  |none=>G
 |_,_,_=>G
def NA(T:TypeId->bC)(A:Prop)(t:TypeId)(x i:Option D)(G:Prop)(K:D->Prop):Prop:=
 match x,i,(T t).u with
 |some (.str s),some (.raw (.int _ n)),some .string=>JR A n s fun c=>K (.raw (.int .u8 c.toNat))
 |_,_,_=>G
def OG(x:Option D)(G:Prop)(K:D->Prop):Prop:=
 match x with
 |some (.fn (.func f) as bs)=>K (.fn (.func f) as bs)
 |some (.box i o)=>K (.box i o)
 |some (.bj cs)=>K (.bj cs)
 |_=>G
def Ks(x:Option D)(Z:ae)(G:Prop)(K:D->ae->Prop):Prop:=
 match x with
 |some (.agg cs)=>AH ids Z fun id=>K (.box id 0) ((id,.cells cs)::Z)
 |some d=>bif d.one then AH ids Z fun id=>K (.box id 0) ((id,.cells [d])::Z)else G
 |none=>G
def GH(sz:Nat):List D->List (Nat×D)->(List D->Prop)->Prop
 |ds,[],k=>k ds
 |ds,(i,d)::r,k=>bif pt d.il sz&&d.ml then ub ds (i*sz) d.il fun fg=>GH sz fg r k else False
theorem Tu(sz:Nat)(h0:sz≠0):∀(dH:List (Nat×D))(ds:List D)(k:List D->Prop),GH sz ds dH k->∃cs,nH (fun i=>some (i*sz,sz)) ds dH=some cs/\k cs
 |[],ds,k,h=>⟨ds,rfl,h⟩
 |(i,d)::r,ds,k,h=>by
  simp only[GH]at h;cases hb:(pt d.il sz&&d.ml)with
  |false=>simp only[hb,jh]at h
  |true=>
   simp only[hb,iX]at h;simp only[bd]at hb;obtain⟨h1,h2⟩:=E9 _ _ _ _ h;have hlen:=Bn _ _ hb.1;have fh:=h1 (OX hlen h0);obtain⟨cs,h3,h4⟩:=Tu sz h0 r _ k h2;refine⟨cs,?_,h4⟩;have hc:(Nat.beq d.il.length sz&&Nat.ble (i*sz+sz) ds.length&&d.ml)=true:=by
    simp only[bd,BX,Nat.ble_eq];exact⟨⟨hlen,by omega⟩,hb.2⟩
   simp only[nH,hc,iX];exact h3
def Kt(T:TypeId->bC)(t:TypeId)(ps:List (Nat×Operand))(e:Env)(G:Prop)(K:D->Prop):Prop:=
 match(T t).u,(T t).zc,(T t).pl with
 |some (.struct _),some ds,some pl=>bif pl.all (fun x=>!Nat.beq x.2 0)then EL e ps fun dH=>GI pl ds dH fun cs=>K (.agg cs)else G
 |some (.array _ el),some ds,_=>match(T el).sz with
  |some sz=>bif Nat.beq sz 0 then G else EL e ps fun dH=>GH sz ds dH fun cs=>K (.agg cs)
  |none=>G
 |_,_,_=>G
structure GE where
 g:Nat
 b:Bool
 t:Nat
 c:Bool
 env:Env
 ws:Env
def wF:Bool->Bool->Bool
 |true,true=>true
 |false,false=>true
 |_,_=>false
def Lr{a b:Bool}(h:wF a b=true):a=b:=by cases a<;>cases b<;>simp_all[wF]
def AE:List GE->Nat->Bool->Option GE
 |[],_,_=>none
 |x::r,t,b=>bif Nat.beq x.t t&&wF x.b b then some x else AE r t b
def Pf(gs:List GE)(c x y:Operand)(e:Env)(G:Prop)(K:D->Prop):Prop:=
 match e.op c,c with
 |some (.raw (.bool b)),.tmp tc=>match x,y with
  |.tmp tx,.const (.bool false)=>match AE gs tc true with
   |some z=>match z.ws.get tx with
    |some (.raw (.bool q))=>K (.raw (.bool (b&&q)))
    |_=>G
   |none=>G
  |.const (.bool true),.tmp ty=>match AE gs tc false with
   |some z=>match z.ws.get ty with
    |some (.raw (.bool q))=>K (.raw (.bool (b||q)))
    |_=>G
   |none=>G
  |_,_=>G
 |_,_=>G
def Kx(T:TypeId->bC)(b:Builtin)(args:List Operand)(tys:List TypeId)(e:Env)(G:Prop)(K:D->Prop):Prop:=
 match b,args,tys with
 |.len,[x],[t]=>NS T t (e.op x) G K
 |.max,[x,y],_=>Ip true (e.op x) (e.op y) G K
 |.min,[x,y],_=>Ip false (e.op x) (e.op y) G K
 |_,_,_=>G
def IM(T:TypeId->bC)(P:Program)(A:Prop)(gs:List GE)(o:Oper)(e:Env)(Z:ae)(K:KK):Prop:=
 match o.op with
 |.move x=>match e.op x with
  |some d=>K .p d Z
  |none=>K .p .any Z
 |.assign x=>match e.op x with
  |some d=>K .p d Z
  |none=>cO P A o e Z K
 |.binOp op t x y _=>Kn T A op t (e.op x) (e.op y) (cO P A o e Z K) fun d=>K .p d Z
 |.unOp op _ x=>Ql op A (e.op x) (cO P A o e Z K) fun d=>K .p d Z
 |.convert s t x=>KH T A s t (e.op x) (cO P A o e Z K) fun d=>K .p d Z
 |.extract x i=>match e.op x with
  |some (.a_ ds)=>match p_ ds i with
   |some d=>K .p d Z
   |none=>cO P A o e Z K
  |_=>cO P A o e Z K
 |.makeFunc fn xs ys=>EA e xs.toList fun as=>EA e ys.toList fun bs=>K .p (.fn fn as bs) Z
 |.nilCheck x=>OG (e.op x) (cO P A o e Z K) fun d=>K .p d Z
 |.load t x=>NX T t (e.op x) Z (cO P A o e Z K) fun k d=>K k d Z
 |.store t x y=>Qa T t (e.op x) (e.op y) Z (cO P A o e Z K) fun d aj=>K .w d aj
 |.field t x f=>LH T t (e.op x) f (cO P A o e Z K) fun d=>K .p d Z
 |.fieldAddr t x f=>LF T t (e.op x) f (cO P A o e Z K) fun d=>K .p d Z
 |.indexAddr t x i=>NB T A t (e.op x) (e.op i) (cO P A o e Z K) fun d=>K .p d Z
 |.index t x i=>NA T A t (e.op x) (e.op i) (cO P A o e Z K) fun d=>K .p d Z
 |.alloc t=>match(T t).zc with
  |some ds=>AH ids Z fun id=>K .w (.box id 0) ((id,.cells ds)::Z)
  |none=>cO P A o e Z K
 |.box _ x=>Ks (e.op x) Z (cO P A o e Z K) fun d aj=>K .w d aj
 |.build t ps=>Kt T t ps.toList e (cO P A o e Z K) fun d=>K .p d Z
 |.pick c x y=>Pf gs c x y e (cO P A o e Z K) fun d=>K .p d Z
 |.call ⟨.builtin b,args,tys⟩=>Kx T b args.toList tys.toList e (cO P A o e Z K) fun d=>K .p d Z
 |_=>cO P A o e Z K
end Go.T
namespace Go.T
open Go
variable[bX]
section
variable{P:Program} {T:TypeId->bC} {A:Prop} {e:Env} {dst:Option Tmp} {ty:TypeId} {pos:String} {ar:Array Edge} {g:Option (Nat×Bool)}
def kU(P:Program)(A:Prop)(o:Oper)(e:Env)(G:Prop)(K:D->Prop):Prop:=G\/∃d,(A->∀Z,aq P o e Z d Z)/\K d
def kU.of{o:Oper}{G:Prop}{K:D->Prop}{d:D}(h:A->∀Z,aq P o e Z d Z)(k:K d):kU P A o e G K:=.inr ⟨d,h,k⟩
def acP{op:BinOp}{t t':TypeId}{x y:Operand}{k:IntKind}{n m:Int}{G:Prop}{K:D->Prop}(hx:e.op x=some (.raw (.int k n)))(hy:e.op y=some (.raw (.int k m)))(h:Kl A op k n m G K):kU P A ⟨dst,.binOp op t x y t',ty,pos,ar,g⟩ e G K:=by
 cases op<;>simp only[Kl]at h
 case add=>exact .of (fun a=>bx hx hy (h.s a)) h.k
 case sub=>exact .of (fun a=>dx hx hy (h.s a)) h.k
 case mul=>exact .of (fun a=>so hx hy (h.s a)) h.k
 case lss=>exact .of (fun _=>bp hx hy) h
 case leq=>exact .of (fun _=>EV hx hy) h
 case gtr=>exact .of (fun _=>gE hx hy) h
 case geq=>exact .of (fun _=>qi hx hy) h
 case eql=>exact .of (fun _=>kO hx hy) h
 case neq=>exact .of (fun _=>zy hx hy) h
 all_goals exact .inl h
def acQ{op:BinOp}{t t':TypeId}{x y:Operand}{s r:aa}{G:Prop}{K:D->Prop}(hx:e.op x=some (.str s))(hy:e.op y=some (.str r))(h:Km A op s r G K):kU P A ⟨dst,.binOp op t x y t',ty,pos,ar,g⟩ e G K:=by
 cases op<;>simp only[Km]at h
 case add=>exact .of (fun a=>B5 hx hy (h.s a) rfl) h.k
 case lss=>exact .of (fun _=>ZM hx hy) h
 case leq=>exact .of (fun _=>apl hx hy) h
 case gtr=>exact .of (fun _=>apj hx hy) h
 case geq=>exact .of (fun _=>ZH hx hy) h
 case eql=>exact .of (fun _=>Pt hx hy) h
 case neq=>exact .of (fun _=>apt hx hy) h
 all_goals exact .inl h
def acO{op:BinOp}{t t':TypeId}{x y:Operand}{b c:Bool}{G:Prop}{K:D->Prop}(hu:P.underlying t=some .bool)(hx:e.op x=some (.raw (.bool b)))(hy:e.op y=some (.raw (.bool c)))(h:Kk op b c G K):kU P A ⟨dst,.binOp op t x y t',ty,pos,ar,g⟩ e G K:=by
 cases op<;>simp only[Kk]at h
 case eql=>exact .of (fun _=>apf hu hx hy) h
 case neq=>exact .of (fun _=>B_ hu hx hy) h
 all_goals exact .inl h
def acR(hT:od P T){op:BinOp}{t t':TypeId}{x y:Operand}{G:Prop}{K:D->Prop}(h:Kn T A op t (e.op x) (e.op y) G K):kU P A ⟨dst,.binOp op t x y t',ty,pos,ar,g⟩ e G K:=by
 unfold Kn at h;split at h
 ·rename_i k n k' m hx hy;cases hd:decide (k=k')with
  |false=>simp only[hd,jh]at h;exact .inl h
  |true=>
   simp only[hd,iX]at h;obtain rfl:=aG hd;exact acP hx hy h
 ·rename_i hx hy;exact acQ hx hy h
 ·rename_i hx hy;split at h
  ·rename_i hu;exact acO ((hT.ty t).u _ hu) hx hy h
  ·exact .inl h
 ·exact .inl h
def ato{op:UnOp}{t:TypeId}{x:Operand}{G:Prop}{K:D->Prop}(h:Ql op A (e.op x) G K):kU P A ⟨dst,.unOp op t x,ty,pos,ar,g⟩ e G K:=by
 unfold Ql at h;split at h
 ·rename_i hx;exact .of (fun _=>PA hx) h
 ·rename_i hx;exact .of (fun a=>I_ hx (h.s a)) h.k
 ·exact .inl h
def aet(hT:od P T){s t:TypeId}{x:Operand}{G:Prop}{K:D->Prop}(h:KH T A s t (e.op x) G K):kU P A ⟨dst,.convert s t x,ty,pos,ar,g⟩ e G K:=by
 unfold KH at h;split at h
 ·rename_i hx hs ht;exact .of (fun a=>B7 ((hT.ty s).u _ hs) ((hT.ty t).u _ ht) hx (h.s a)) h.k
 ·rename_i hx hs ht;exact .of (fun _=>apc ((hT.ty s).u _ hs) ((hT.ty t).u _ ht) hx) h
 ·exact .inl h
def anp{x:Operand}{G:Prop}{K:D->Prop}(h:OG (e.op x) G K):kU P A ⟨dst,.nilCheck x,ty,pos,ar,g⟩ e G K:=by
 unfold OG at h;split at h
 ·rename_i hx;exact .of (fun _=>apw hx) h
 ·rename_i hx;exact .of (fun _=>zz hx) h
 ·rename_i hx;exact .of (fun _=>apx hx) h
 ·exact .inl h
def ahf(hT:od P T){t:TypeId}{x:Operand}{f:Nat}{G:Prop}{K:D->Prop}(h:LH T t (e.op x) f G K):kU P A ⟨dst,.field t x f,ty,pos,ar,g⟩ e G K:=by
 unfold LH at h;split at h
 ·rename_i cs fs hx hu;have DN:=(hT.ty t).u _ hu;split at h
  ·rename_i fl jd;rw[u_]at jd;have hf:(fs[f]?).map (fun x=>(x.type,x.offset))=some (fl.type,fl.offset):=by simp[<-jW,jd]
   split at h
   ·rename_i ha;split at h
    ·rename_i d hd;rw[u_]at hd;exact .of (fun _=>Pv fl.type fl.offset DN ((hT.ty _).agg _ ha) hf hx hd) h
    ·exact .inl h
   ·rename_i n ha hs;obtain⟨h1,h2⟩:=Gr _ _ _ h;obtain⟨h3,h4⟩:=JD _ _ _ h2;exact .of (fun _=>api fl.type fl.offset DN ((hT.ty _).agg _ ha) ((hT.ty _).sz _ hs) hf hx (by simp at h3;omega) rfl) h4
   ·exact .inl h
  ·exact .inl h
 ·exact .inl h
def ag_(hT:od P T){t:TypeId}{x:Operand}{f:Nat}{G:Prop}{K:D->Prop}(h:LF T t (e.op x) f G K):kU P A ⟨dst,.fieldAddr t x f,ty,pos,ar,g⟩ e G K:=by
 unfold LF at h;split at h
 ·rename_i id off fs hx hu;split at h
  ·rename_i fl jd;rw[u_]at jd;have hf:(fs[f]?).map (fun x=>(x.type,x.offset))=some (fl.type,fl.offset):=by simp[<-jW,jd]
   split at h
   ·rename_i hs;exact .of (fun _=>iN fl.type fl.offset ((hT.ty t).u _ hu) ((hT.ty _).sz _ hs) hf hx) h
   ·exact .inl h
  ·exact .inl h
 ·rename_i cs fs hx hu;split at h
  ·rename_i fl jd;rw[u_]at jd;have hf:(fs[f]?).map (fun x=>(x.type,x.offset))=some (fl.type,fl.offset):=by simp[<-jW,jd]
   split at h
   ·rename_i hs;obtain⟨_,h2⟩:=Gr _ _ _ h;exact .of (fun _=>lr fl.type fl.offset ((hT.ty t).u _ hu) ((hT.ty _).sz _ hs) hf hx rfl) h2
   ·exact .inl h
  ·exact .inl h
 ·exact .inl h
def aj'(hT:od P T){t:TypeId}{x i:Operand}{G:Prop}{K:D->Prop}(h:NB T A t (e.op x) (e.op i) G K):kU P A ⟨dst,.indexAddr t x i,ty,pos,ar,g⟩ e G K:=by
 unfold NB at h;split at h
 ·rename_i sz fP rows k n el hx hi hu;split at h
  ·rename_i m hs;cases hb:Nat.beq m sz with
   |false=>simp only[hb,jh]at h;exact .inl h
   |true=>
    simp only[hb,iX]at h;obtain rfl:=pT hb;obtain⟨r,h1,h2⟩:=h.out;exact .of (fun a=>eC ((hT.ty t).u _ hu) ((hT.ty _).sz _ hs) hx hi (h1 a).1 (h1 a).2) h2
  ·exact .inl h
 ·exact .inl h
def aj6(hT:od P T){t:TypeId}{x i:Operand}{G:Prop}{K:D->Prop}(h:NA T A t (e.op x) (e.op i) G K):kU P A ⟨dst,.index t x i,ty,pos,ar,g⟩ e G K:=by
 unfold NA at h;split at h
 ·rename_i hx hi hu;obtain⟨r,h1,h2⟩:=h.out;exact .of (fun a=>nZ ((hT.ty t).u _ hu) hx hi (h1 a).1 (h1 a).2) h2
 ·exact .inl h
def alS(hT:od P T){t:TypeId}{x:Operand}{G:Prop}{K:D->Prop}(h:NS T t (e.op x) G K):kU P A ⟨dst,.call ⟨.builtin .len,#[x],#[t]⟩,ty,pos,ar,g⟩ e G K:=by
 unfold NS at h;split at h
 ·rename_i hx hu;exact .of (fun _=>gG ((hT.ty t).u _ hu) hx) h
 ·rename_i hx hu;exact .of (fun _=>cv ((hT.ty t).u _ hu) hx) h
 ·rename_i hx hu;exact .of (fun _=>vG ((hT.ty t).u _ hu) hx) h
 ·rename_i hx hu;exact .of (fun _=>Pw ((hT.ty t).u _ hu) hx) h
 ·exact .inl h
def XU{x y:Operand}{tys:Array TypeId}{mx:Bool}{G:Prop}{K:D->Prop}(h:Ip mx (e.op x) (e.op y) G K):kU P A ⟨dst,.call ⟨.builtin (bif mx then .max else .min),#[x,y],tys⟩,ty,pos,ar,g⟩ e G K:=by
 unfold Ip at h;split at h
 ·rename_i k n k' m hx hy;cases hd:decide (k=k')with
  |false=>simp only[hd,jh]at h;exact .inl h
  |true=>
   simp only[hd,iX]at h;obtain rfl:=aG hd;cases mx with
   |true=>exact .of (fun _=>EX hx hy rfl) h
   |false=>exact .of (fun _=>B9 hx hy rfl) h
 ·exact .inl h
def ac'(hT:od P T){b:Builtin}{args:Array Operand}{tys:Array TypeId}{G:Prop}{K:D->Prop}(h:Kx T b args.toList tys.toList e G K):kU P A ⟨dst,.call ⟨.builtin b,args,tys⟩,ty,pos,ar,g⟩ e G K:=by
 obtain⟨args⟩:=args;obtain⟨tys⟩:=tys;simp only at h;unfold Kx at h;split at h
 ·exact alS hT h
 ·exact XU (mx:=true) h
 ·exact XU (mx:=false) h
 ·exact .inl h
def ao9{Z:ae}{t el:TypeId}{n sz:Nat}{z:Value}{xs:List (Nat×Operand)}{dH:List (Nat×D)}{cs:List D}(hu:P.underlying t=some (.array n el))(hz:∀w,(zeroValue t).run P w=.ok z w)
  (hs:∀w,(sizeOf el).run P w=.ok sz w)(hx:e.oO xs=some dH)(hf:nH (fun i=>some (i*sz,sz)) (z.cells.toList.map lY) dH=some cs):
  aq P ⟨dst,.build t xs.toArray,ty,pos,ar,g⟩ e Z (.agg cs) Z:=
 .val fun O ρ a w _ hv=>by
  obtain⟨h1,h2⟩:=EK (a:=a) xs dH hx (fun x hx d' h=>hv x (by simpa[Op.operands]using hx) d' h);obtain⟨c',h3,h4⟩:=C6 (fun i=>some (i*sz,sz)) dH _ _ z.cells cs h1 h2 (Vs.Cc _) hf;refine⟨.agg c',?_,?_⟩
  ·simp[execOp,Instr.build,hz,bW hu,hs,h3]
  ·simp only[V];exact⟨_,rfl,h4⟩
def ac1(hT:od P T){t:TypeId}{ps:Array (Nat×Operand)}{G:Prop}{K:D->Prop}(h:Kt T t ps.toList e G K):kU P A ⟨dst,.build t ps,ty,pos,ar,g⟩ e G K:=by
 obtain⟨ps⟩:=ps;unfold Kt at h;split at h
 ·rename_i fs ds pl hu hz hp;cases hb:pl.all (fun x=>!Nat.beq x.2 0)with
  |false=>simp only[hb,jh]at h;exact .inl h
  |true=>
   simp only[hb,iX]at h;obtain⟨dH,h1,h2⟩:=Pe _ _ _ h;obtain⟨cs,h3,h4⟩:=Tw pl hb _ _ _ h2;obtain⟨z,h5,rfl⟩:=(hT.ty t).zc _ hz;have DN:=(hT.ty t).u _ hu;exact .of (fun _=>rn (xs:=ps) DN h5 ((hT.ty t).pl _ hp _ DN) h1 h3) h4
 ·rename_i _ n el ds hu hz;split at h
  ·rename_i sz hs;cases hb:Nat.beq sz 0 with
   |true=>simp only[hb,iX]at h;exact .inl h
   |false=>
    simp only[hb,jh]at h;obtain⟨dH,h1,h2⟩:=Pe _ _ _ h;obtain⟨cs,h3,h4⟩:=Tu sz (by intro e;subst e;simp at hb) _ _ _ h2;obtain⟨z,h5,rfl⟩:=(hT.ty t).zc _ hz;exact .of (fun _ _=>ao9 (xs:=ps) ((hT.ty t).u _ hu) h5 ((hT.ty el).sz _ hs) h1 h3) h4
  ·exact .inl h
 ·exact .inl h
end
section
variable{P:Program} {T:TypeId->bC} {A:Prop} {e:Env} {dst:Option Tmp} {ty:TypeId} {pos:String} {ar:Array Edge} {g:Option (Nat×Bool)} {Z:ae}
def alZ(hT:od P T){t:TypeId}{x:Operand}{K:KK}(h:NX T t (e.op x) Z (cO P A ⟨dst,.load t x,ty,pos,ar,g⟩ e Z K) fun k d=>K k d Z):cO P A ⟨dst,.load t x,ty,pos,ar,g⟩ e Z K:=by
 unfold NX at h;split at h
 ·rename_i cs hx;split at h
  ·rename_i ha;cases cs with
   |nil=>exact h
   |cons d cs=>exact gP (fun _=>bE ((hT.ty t).agg _ ha) hx) h
  ·rename_i n ha hs;cases hb:pt cs n with
   |true=>simp only[hb,iX]at h;exact gP (fun _=>vH ((hT.ty t).agg _ ha) ((hT.ty t).sz _ hs) hx (Bn _ _ hb)) h
   |false=>
    simp only[hb,jh]at h;obtain⟨h1,h2⟩:=JD _ _ _ h;exact gP (fun _=>apm ((hT.ty t).agg _ ha) ((hT.ty t).sz _ hs) hx h1 rfl) h2
  ·exact h
 ·rename_i id off hx;split at h
  ·rename_i ds ho;split at h
   ·rename_i ha;split at h
    ·rename_i d hd;rw[u_]at hd;exact gR (fun _=>iY ((hT.ty t).agg _ ha) hx ho hd) h
    ·exact h
   ·rename_i n ha hs;cases hb:(Nat.beq off 0&&pt ds n)with
    |true=>
     simp only[hb,iX]at h;simp only[bd,BX]at hb;obtain⟨rfl,hb⟩:=hb;exact gR (fun _=>B8 ((hT.ty t).agg _ ha) ((hT.ty t).sz _ hs) hx ho (Bn _ _ hb)) h
    |false=>
     simp only[hb,jh]at h;obtain⟨h1,h2⟩:=Gr _ _ _ h;obtain⟨h3,h4⟩:=JD _ _ _ h2;exact gR (fun _=>ZJ ((hT.ty t).agg _ ha) ((hT.ty t).sz _ hs) hx ho (by simp at h3;omega) rfl) h4
   ·exact h
  ·exact h
 ·exact h
def arh(hT:od P T){t:TypeId}{x y:Operand}{K:KK}(h:Qa T t (e.op x) (e.op y) Z (cO P A ⟨dst,.store t x y,ty,pos,ar,g⟩ e Z K) fun d o=>K .w d o):cO P A ⟨dst,.store t x y,ty,pos,ar,g⟩ e Z K:=by
 unfold Qa at h;split at h
 ·rename_i id off d hx hy;split at h
  ·rename_i ds ho;split at h
   ·rename_i n hs;cases hb:(pt d.il n&&d.ml&&!Nat.beq n 0)with
    |false=>simp only[hb,jh]at h;exact h
    |true=>
     simp only[hb,iX]at h;simp only[bd,lD]at hb;obtain⟨⟨hl,ai⟩,h0⟩:=hb;have hlen:=Bn _ _ hl;obtain⟨h1,h2⟩:=E9 _ _ _ _ h;have h3:=Yw _ _ _ _ h2;have aC:n≠0:=by intro e;subst e;simp at h0
     have fh:=h1 (OX hlen aC);have gX:=(hT.ty t).sz _ hs;cases d with
     |agg cs=>exact gW (fun _=>ZP gX hx hy hlen (anS ai) ho (by simp only[D.il]at fh hlen;omega)) h3
     |_=>
      simp only[D.il,nR]at hlen fh;subst hlen;exact gW (fun _=>sq gX hx hy (by simpa[D.ml]using ai) ho zO) h3
   ·exact h
  ·exact h
 ·exact h
def acY{t:TypeId}{x:Operand}{K:KK}(h:Ks (e.op x) Z (cO P A ⟨dst,.box t x,ty,pos,ar,g⟩ e Z K) fun d o=>K .w d o):cO P A ⟨dst,.box t x,ty,pos,ar,g⟩ e Z K:=by
 unfold Ks at h;split at h
 ·rename_i cs hx;obtain⟨id,h1,h2⟩:=GX _ _ _ h;exact gW (fun _=>I8 id hx h1) h2
 ·rename_i d _ hx;cases hb:d.one with
  |false=>simp only[hb,jh]at h;exact h
  |true=>
   simp only[hb,iX]at h;obtain⟨id,h1,h2⟩:=GX _ _ _ h;exact gW (fun _=>Po id hx hb h1) h2
 ·exact h
end
end Go.T
namespace Go.T
open Go
variable[bX]
structure jS(ops:List Oper)(E:Env)(x:GE):Prop where
 dst:(ops.toArray[x.g]?).bind (·.dst)=some x.t
 val:∃pc p,E.get x.t=some (bif pc then .raw (.bool p)else .raw undef)/\x.c=(pc&&(bif x.b then p else !p))
 env:x.c=true->Lq x.env E
 ws:∀t d,x.ws.get t=some d->d=.any\/E.get t=some (bif x.c then d else .raw undef)
def jS.guard{ops:List Oper}{E:Env}{x:GE}(h:jS ops E x){p:Bool}(he:E.get x.t=some (.raw (.bool p))):x.c=(bif x.b then p else !p):=by
 obtain⟨pc,q,h1,h2⟩:=h.val;rw[he]at h1;cases pc with
 |false=>simp[undef]at h1
 |true=>simp only[iX,cH,D.raw.injEq,Value.bool.injEq]at h1;subst h1;simpa using h2
def jS.uniq{ops:List Oper}{E:Env}{x y:GE}(h:jS ops E x)(h':jS ops E y)(hg:x.g=y.g)(hb:x.b=y.b):x.c=y.c:=by
 have ht:x.t=y.t:=by
  have:=h.dst;rw[hg,h'.dst]at this;exact(qe this).symm
 obtain⟨pc,p,h1,h2⟩:=h.val;obtain⟨pc',p',h3,h4⟩:=h'.val;rw[ht,h3]at h1;cases pc<;>cases pc'<;>simp_all[undef]
theorem LP:∀{gs:List GE}{t:Nat}{b:Bool}{z:GE},AE gs t b=some z->z∈gs/\z.t=t/\z.b=b
 |[],t,b,z,h=>by simp[AE]at h
 |x::r,t,b,z,h=>by
  simp only[AE]at h;cases hb:(Nat.beq x.t t&&wF x.b b)with
  |true=>
   simp only[hb,iX,cH]at h;subst h;simp only[bd,BX]at hb;exact⟨c7,hb.1,Lr hb.2⟩
  |false=>
   simp only[hb,jh]at h;obtain⟨h1,h2⟩:=LP h;exact⟨cC _ h1,h2⟩
def aoO{P:Program}{A:Prop}{e E:Env}{dst:Option Tmp}{ty:TypeId}{pos:String}{ar:Array Edge}{g:Option (Nat×Bool)}{ops:List Oper}{gs:List GE}{c x y:Operand}{G:Prop}{K:D->Prop}(hl:A->Lq e E)(hg:∀z∈gs,jS ops E z)(h:Pf gs c x y e G K):kU P A ⟨dst,.pick c x y,ty,pos,ar,g⟩ E G K:=by
 unfold Pf at h;split at h
 ·rename_i b tc hc;have Hl:A->E.get tc=some (.raw (.bool b)):=fun a=>by
   rcases hl a tc _ hc with h|h
   ·cases h
   ·exact h
  split at h
  ·rename_i tx;split at h
   ·rename_i z hz;obtain⟨h1,rfl,h3⟩:=LP hz;split at h
    ·rename_i q hq;refine .of (fun a=>?_) h;have hz:=(hg z h1).guard (Hl a);rw[h3,iX]at hz;have hw:=((hg z h1).ws _ _ hq).resolve_left zS;rw[hz]at hw;exact iy (c:=.tmp z.t) (x:=.tmp tx) (Hl a) hw
    ·exact .inl h
   ·exact .inl h
  ·rename_i tx;split at h
   ·rename_i z hz;obtain⟨h1,rfl,h3⟩:=LP hz;split at h
    ·rename_i q hq;refine .of (fun a=>?_) h;have hz:=(hg z h1).guard (Hl a);rw[h3,jh]at hz;have hw:=((hg z h1).ws _ _ hq).resolve_left zS;rw[hz]at hw;exact oT (c:=.tmp z.t) (y:=.tmp tx) (Hl a) hw
    ·exact .inl h
   ·exact .inl h
  ·exact .inl h
 ·exact .inl h
def kU.snd{P:Program}{A:Prop}{o:Oper}{e:Env}{Z:ae}{K:KK}(h:kU P A o e (cO P A o e Z K) fun d=>K .p d Z):cO P A o e Z K:=by
 rcases h with h|⟨d,h1,h2⟩
 ·exact h
 ·exact gP h1 h2
theorem cO.lq{P:Program}{A:Prop}{o:Oper}{e E:Env}{Z:ae}{K:KK}(hl:A->Lq e E)(h:cO P A o e Z K):cO P A o E Z K:=by
 obtain⟨k,d,aj,h1,h2⟩:=h.out;exact⟨k,d,aj,fun a=>(h1 a).lq (hl a),h2⟩
def YQ{P:Program}{T:TypeId->bC}(hT:od P T){A:Prop}{ops:List Oper}{gs:List GE}{o:Oper}{e E:Env}{Z:ae}{K:KK}(hl:A->Lq e E)(hg:∀z∈gs,jS ops E z)(h:IM T P A gs o e Z K):cO P A o E Z K:=by
 obtain⟨dst,op,ty,pos,ar,g⟩:=o;unfold IM at h;split at h
 ·rename_i x ho;cases ho;refine cO.lq hl ?_;split at h
  ·rename_i d hx;exact gP (fun _=>aX hx) h
  ·exact gP (fun _=>aps) h
 ·rename_i x ho;cases ho;refine cO.lq hl ?_;split at h
  ·rename_i d hx;exact gP (fun _=>zu hx) h
  ·exact h
 ·rename_i ho;cases ho;exact cO.lq hl (acR hT h).snd
 ·rename_i ho;cases ho;exact cO.lq hl (ato h).snd
 ·rename_i ho;cases ho;exact cO.lq hl (aet hT h).snd
 ·rename_i ho;cases ho;refine cO.lq hl ?_;split at h
  ·rename_i ds hx;split at h
   ·rename_i d hd;rw[u_]at hd;exact gP (fun _=>eP hx hd) h
   ·exact h
  ·exact h
 ·rename_i fn xs ys ho;cases ho;refine cO.lq hl ?_;obtain⟨as,h1,h2⟩:=O3 _ _ _ h;obtain⟨bs,h3,h4⟩:=O3 _ _ _ h2;exact gP (fun _=>by simpa using Py (xs:=xs.toList) (ys:=ys.toList) h1 h3) h4
 ·rename_i ho;cases ho;exact cO.lq hl (anp h).snd
 ·rename_i ho;cases ho;exact cO.lq hl (alZ hT h)
 ·rename_i ho;cases ho;exact cO.lq hl (arh hT h)
 ·rename_i ho;cases ho;exact cO.lq hl (ahf hT h).snd
 ·rename_i ho;cases ho;exact cO.lq hl (ag_ hT h).snd
 ·rename_i ho;cases ho;exact cO.lq hl (aj' hT h).snd
 ·rename_i ho;cases ho;exact cO.lq hl (aj6 hT h).snd
 ·rename_i t ho;cases ho;refine cO.lq hl ?_;split at h
  ·rename_i ds hz;obtain⟨z,h5,rfl⟩:=(hT.ty t).zc _ hz;obtain⟨id,h1,h2⟩:=GX _ _ _ h;exact gW (fun _=>jC id h5 h1) h2
  ·exact h
 ·rename_i ho;cases ho;exact cO.lq hl (acY h)
 ·rename_i ho;cases ho;exact cO.lq hl (ac1 hT h).snd
 ·rename_i ho;cases ho;rcases aoO hl hg h with h|⟨d,h1,h2⟩
  ·exact cO.lq hl h
  ·exact gP h1 h2
 ·rename_i ho;cases ho;exact cO.lq hl (ac' hT h).snd
 ·exact cO.lq hl h
def AD:List GE->Nat->Bool->Option GE
 |[],_,_=>none
 |x::r,g,b=>bif Nat.beq x.g g&&wF x.b b then some x else AD r g b
theorem LN:∀{gs:List GE}{t:Nat}{b:Bool}{z:GE},AD gs t b=some z->z∈gs/\z.g=t/\z.b=b
 |[],t,b,z,h=>by simp[AD]at h
 |x::r,t,b,z,h=>by
  simp only[AD]at h;cases hb:(Nat.beq x.g t&&wF x.b b)with
  |true=>
   simp only[hb,iX,cH]at h;subst h;simp only[bd,BX]at hb;exact⟨c7,hb.1,Lr hb.2⟩
  |false=>
   simp only[hb,jh]at h;obtain⟨h1,h2⟩:=LN h;exact⟨cC _ h1,h2⟩
def J8(gs:List GE)(k:List GE->GE->Prop)(x:GE):Prop:=k (x::gs) x
def jw:Bool->Bool->Bool
 |true,p=>p
 |false,p=>!p
def Qt(ops:List Oper)(gs:List GE)(e:Env)(g:Nat)(b:Bool)(k:List GE->GE->Prop):Prop:=
 match AD gs g b with
 |some x=>k gs x
 |none=>match p_ ops g with
  |some og=>match og.dst,og.guard with
   |some t,none=>match e.get t with
    |some (.raw (.bool p))=>J8 gs k ⟨g,b,t,jw b p,e,[]⟩
    |_=>False
   |some t,some (g',b')=>match AD gs g' b' with
    |some y=>match y.ws.get t with
     |some (.raw (.bool p))=>J8 gs k ⟨g,b,t,y.c&&jw b p,y.env,[]⟩
     |_=>False
    |none=>False
   |_,_=>False
  |none=>False
def abm(b p:Bool):jw b p=(bif b then p else !p):=by cases b<;>rfl
def atW{ops:List Oper}{gs:List GE}{e E:Env}{g:Nat}{b:Bool}{k:List GE->GE->Prop}(hl:Lq e E)(hg:∀z∈gs,jS ops E z)(h:Qt ops gs e g b k):∃gz x,(∀z∈gz,jS ops E z)/\x∈gz/\x.g=g/\x.b=b/\k gz x:=by
 unfold Qt at h;split at h
 ·rename_i x hx;obtain⟨h1,h2,h3⟩:=LN hx;exact⟨gs,x,hg,h1,h2,h3,h⟩
 ·split at h
  ·rename_i og ho;rw[u_]at ho;have new:∀x:GE,jS ops E x->x.g=g->x.b=b->J8 gs k x->∃gz x,(∀z∈gz,jS ops E z)/\x∈gz/\x.g=g/\x.b=b/\k gz x:=by
    intro x hx h1 h2 h3;refine⟨x::gs,x,fun z hz=>?_,c7,h1,h2,h3⟩;rcases cr.1 hz with rfl|hz
    ·exact hx
    ·exact hg z hz
   split at h
   ·rename_i t hd _;split at h
    ·rename_i p hp;refine new _ ⟨?_,⟨true,p,?_,?_⟩,fun _=>hl,fun t d h=>by simp[Env.get]at h⟩ rfl rfl h
     ·simp[ho,hd]
     ·exact(hl t _ hp).resolve_left zS
     ·simp[abm]
    ·exact h.elim
   ·rename_i t g' b' hd _;split at h
    ·rename_i y hy;obtain⟨h1,h2,h3⟩:=LN hy;split at h
     ·rename_i p hp;refine new _ ⟨?_,⟨y.c,p,?_,?_⟩,fun hc=>?_,fun t d h=>by simp[Env.get]at h⟩ rfl rfl h
      ·simp[ho,hd]
      ·exact((hg y h1).ws _ _ hp).resolve_left zS
      ·simp[abm]
      ·simp only[bd]at hc;exact(hg y h1).env hc.1
     ·exact h.elim
    ·exact h.elim
   ·exact h.elim
  ·exact h.elim
def ET(t:Nat)(d:D):List GE->(List GE->Prop)->Prop
 |[],k=>k []
 |⟨g,b,t',c,env,ws⟩::r,k=>bif Nat.beq t' t then ET t d r k else ET t d r fun r'=>k (⟨g,b,t',c,(t,d)::env,(t,.any)::ws⟩::r')
theorem Pl{ops:List Oper}{E:Env}{t:Nat}{d:D}:∀{gs:List GE}{k:List GE->Prop},(∀z∈gs,jS ops E z)->ET t d gs k->∃gz,(∀z∈gz,jS ops ((t,d)::E) z)/\k gz
 |[],k,_,h=>⟨[],by simp,h⟩
 |⟨g,b,t',c,env,ws⟩::r,k,hg,h=>by
  simp only[ET]at h;cases hb:Nat.beq t' t with
  |true=>simp only[hb,iX]at h;exact Pl (fun z hz=>hg z (cC _ hz)) h
  |false=>
   simp only[hb,jh]at h;have aC:¬t=t':=by rintro rfl;simp at hb
   obtain⟨gz,h1,h2⟩:=Pl (fun z hz=>hg z (cC _ hz)) h;refine⟨_,fun z hz=>?_,h2⟩;rcases cr.1 hz with rfl|hz
   ·have h0:=hg _ c7;obtain⟨pc,p,h3,h4⟩:=h0.val;refine⟨h0.dst,⟨pc,p,?_,h4⟩,fun hc=>(h0.env hc).put t d,fun s x hx=>?_⟩
    ·rw[Env.bm,aF aC];exact h3
    ·rw[Env.bm]at hx|-;by_cases e:t=s
     ·rw[aV e]at hx;cases hx;exact .inl rfl
     ·rw[aF e]at hx|-;exact h0.ws s x hx
   ·exact h1 z hz
def xy(g0:Nat)(b0:Bool)(t:Nat)(d:D):List GE->(List GE->Prop)->Prop
 |[],k=>k []
 |⟨g,b,t',c,env,ws⟩::r,k=>bif Nat.beq t' t then xy g0 b0 t d r k else bif Nat.beq g g0&&wF b b0 then xy g0 b0 t d r fun r'=>k (⟨g,b,t',c,(t,d)::env,(t,d)::ws⟩::r')
   else xy g0 b0 t d r fun r'=>k (⟨g,b,t',c,(t,.any)::env,(t,.any)::ws⟩::r')
theorem I7{ops:List Oper}{E:Env}{t:Nat}{d:D}{x:GE}(hx:jS ops E x):∀{gs:List GE}{k:List GE->Prop},(∀z∈gs,jS ops E z)->xy x.g x.b t d gs k->∃gz,(∀z∈gz,jS ops ((t,bif x.c then d else .raw undef)::E) z)/\k gz
 |[],k,_,h=>⟨[],by simp,h⟩
 |⟨g,b,t',c,env,ws⟩::r,k,hg,h=>by
  simp only[xy]at h;cases hb:Nat.beq t' t with
  |true=>simp only[hb,iX]at h;exact I7 hx (fun z hz=>hg z (cC _ hz)) h
  |false=>
   simp only[hb,jh]at h;have aC:¬t=t':=by rintro rfl;simp at hb
   have h0:=hg _ c7;obtain⟨pc,p,h3,h4⟩:=h0.val;cases hk:(Nat.beq g x.g&&wF b x.b)with
   |true=>
    simp only[hk,iX]at h;simp only[bd,BX]at hk;have hc:x.c=c:=hx.uniq h0 hk.1.symm (Lr hk.2).symm;obtain⟨gz,h1,h2⟩:=I7 hx (fun z hz=>hg z (cC _ hz)) h;refine⟨_,fun z hz=>?_,h2⟩;rcases cr.1 hz with rfl|hz
    ·refine⟨h0.dst,⟨pc,p,?_,h4⟩,fun AV=>?_,fun s y hy=>?_⟩
     ·rw[Env.bm,aF aC];exact h3
     ·have:x.c=true:=hc.trans AV;rw[this,iX];exact(h0.env AV).put t d
     ·rw[Env.bm]at hy|-;by_cases e:t=s
      ·rw[aV e]at hy|-;cases hy;exact .inr (by rw[hc])
      ·rw[aF e]at hy|-;exact h0.ws s y hy
    ·exact h1 z hz
   |false=>
    simp only[hk,jh]at h;obtain⟨gz,h1,h2⟩:=I7 hx (fun z hz=>hg z (cC _ hz)) h;refine⟨_,fun z hz=>?_,h2⟩;rcases cr.1 hz with rfl|hz
    ·refine⟨h0.dst,⟨pc,p,?_,h4⟩,fun AV=>(h0.env AV).Zw t _,fun s y hy=>?_⟩
     ·rw[Env.bm,aF aC];exact h3
     ·rw[Env.bm]at hy|-;by_cases e:t=s
      ·rw[aV e]at hy;cases hy;exact .inl rfl
      ·rw[aF e]at hy|-;exact h0.ws s y hy
    ·exact h1 z hz
def Z7(k:Kind)(ks gg:List Kind):gg.reverse++(k::ks)=(k::gg).reverse++ks:=by simp
def atJ{b p:Bool}(h:(bif b then p else !p)=true):p=b:=by cases b<;>cases p<;>first|rfl|cases h
def atI{b p:Bool}(h:(bif b then p else !p)=false):p=!b:=by cases b<;>cases p<;>first|rfl|cases h
def jS.on{ops:List Oper}{E:Env}{x:GE}(h:jS ops E x){o:Oper}(ho:o.guard=some (x.g,x.b))(hc:x.c=true):On ops.toArray E o:=by
 obtain⟨pc,p,h1,h2⟩:=h.val;rw[hc]at h2;cases pc with
 |false=>cases h2
 |true=>exact e7 ho h.dst h1 (atJ h2.symm)
def jS.off{ops:List Oper}{E:Env}{x:GE}(h:jS ops E x){o:Oper}(ho:o.guard=some (x.g,x.b))(hc:x.c=false):ui ops.toArray E o:=by
 obtain⟨pc,p,h1,h2⟩:=h.val;rw[hc]at h2;cases pc with
 |false=>exact OU ho h.dst h1
 |true=>exact gL ho h.dst h1 (atI h2.symm)
end Go.T
namespace Go.T
open Go
variable[bX]
def qu.lq{F:Fr}{C:Ctx}{e E:Env}{Z:ae}{a:Act}{w:World}{ρ:aA}(hl:Lq e E)(h:qu F C E Z a w ρ):qu F C e Z a w ρ:=
 ⟨h.keep,h.tr,fun t d hd=>by
  rcases hl t d hd with rfl|hd
  ·simp[V]
  ·exact h.env t d hd,h.size,h.marks,h.rd,h.yl,h.gl⟩
def WP.abn{P:Program}{F:Fr}{c:Code}{Q Q':Exit->Env->ae->Prop}{env:Env}{Z:ae}(h:WP P F c Q env Z)(hq:∀x E o,Q x E o->∃e,Lq e E/\Q' x e o):WP P F c Q' env Z:=
 ⟨fun C a w hs=>wpIn_mono (h.out C a w hs) fun x a' w' ⟨E,o,h1,ρ,h2⟩=>by
  obtain⟨e,h3,h4⟩:=hq x E o h1;exact⟨e,o,h4,ρ,h2.lq h3⟩⟩
def cN.pull{P:Program}{N:Nat}{ops:Array Oper}{S:Prop}{K:Env->ae->Prop}{l:List Oper}{ks:List Kind}{env:Env}{Z:ae}(h:cN P N ops K l ks env Z)(hs:∀e o,K e o->S):S:=by
 induction h with
 |nil h=>exact hs _ _ h
 |p _ _ _ _ ih=>exact ih
 |r _ _ _ _ ih=>exact ih
 |w _ _ _ _ ih=>exact ih
 |off _ _ _ ih=>exact ih
def Fi:List Nat->Nat->Bool
 |[],_=>false
 |s::r,i=>bif Nat.beq s i then true else Fi r i
structure Ord(ops:Array Oper)(ks:List Kind)(K:Prop):Prop where
 ok:kN ops ks=true
 k:K
def ord{ops:Array Oper}{ks:List Kind}{K:Prop}(k:K)(h:kN ops ks=true:=by decide+kernel):Ord ops ks K:=⟨h,k⟩
structure FI(b:Bool)(A B:Prop):Prop where
 t:b=true->A
 f:b=false->B
inductive S where
 |code (cs:List Code) (fr:List (Nat×List Code)) (e:Env) (Z:ae)
 |e_ (ops:Array Oper) (dr:Bool) (l:List Oper) (ks:List Kind) (gs:List GE) (e:Env) (cs:List Code) (fr:List (Nat×List Code)) (Z:ae)
def hZ(P:Program)(F:Fr)(Q:Exit->Env->ae->Prop):List (Nat×List Code)->Exit->Env->ae->Prop
 |[]=>Q
 |(id,cs)::fr=>bq id (U P F cs (hZ P F Q fr)) (hZ P F Q fr)
def EE:List (Nat×List Code)->Nat->Option (List Code×List (Nat×List Code))
 |[],_=>none
 |(id,cs)::fr,i=>bif Nat.beq i id then some (cs,fr)else EE fr i
def iK(T:TypeId->bC)(P:Program)(F:Fr)(stop:List Nat)(Q:Exit->Env->ae->Prop):Nat->S->Prop
 |0,.code cs fr e Z=>U P F cs (hZ P F Q fr) e Z
 |0,.e_ ..=>False
 |n+1,.code cs fr e Z=>match cs with
  |[]=>match fr with
   |[]=>Q .normal e Z
   |(_,cs)::fr=>iK T P F stop Q n (.code cs fr e Z)
  |c::cs=>match c with
   |.seq a b=>iK T P F stop Q n (.code (a::b::cs) fr e Z)
   |.skip=>iK T P F stop Q n (.code cs fr e Z)
   |.block id b=>iK T P F stop Q n (.code [b] ((id,cs)::fr) e Z)
   |.exit id=>match EE fr id with
    |some (cs,fr)=>iK T P F stop Q n (.code cs fr e Z)
    |none=>Q (.exit id) e Z
   |.ret=>bif Fi stop 99999 then U P F (.ret::cs) (hZ P F Q fr) e Z else Q .ret e Z
   |.cond x a b=>match e.op x with
    |some (.raw (.bool v))=>FI v (iK T P F stop Q n (.code (a::cs) fr e Z)) (iK T P F stop Q n (.code (b::cs) fr e Z))
    |_=>U P F (.cond x a b::cs) (hZ P F Q fr) e Z
   |.region id ops dr=>bif Fi stop id then U P F (.region id ops dr::cs) (hZ P F Q fr) e Z else iK T P F stop Q n (.e_ ops dr ops.toList [] [] e cs fr Z)
   |c=>U P F (c::cs) (hZ P F Q fr) e Z
 |n+1,.e_ ops dr l ks gs e cs fr Z=>match l with
  |[]=>match dr with
   |false=>iK T P F stop Q n (.code cs fr e Z)
   |true=>Ord ops ks.reverse (iK T P F stop Q n (.code cs fr e Z))
  |o::l=>match o.guard with
   |none=>IM T P True gs o e Z fun k d aj=>match o.dst with
    |none=>iK T P F stop Q n (.e_ ops dr l (k::ks) gs e cs fr aj)
    |some t=>bif Nat.blt t F.N then ET t d gs fun gz=>iK T P F stop Q n (.e_ ops dr l (k::ks) gz ((t,d)::e) cs fr aj)else False
   |some (g,b)=>Qt ops.toList gs e g b fun gs x=>IM T P (x.c=true) gs o x.env Z fun k d _=>match k with
    |.w=>False
    |.p=>match o.dst with
     |none=>iK T P F stop Q n (.e_ ops dr l (.p::ks) gs e cs fr Z)
     |some t=>bif Nat.blt t F.N then xy g b t d gs fun gz=>iK T P F stop Q n (.e_ ops dr l (.p::ks) gz ((t,.any)::e) cs fr Z)else False
    |.r=>match o.dst with
     |none=>iK T P F stop Q n (.e_ ops dr l (.r::ks) gs e cs fr Z)
     |some t=>bif Nat.blt t F.N then xy g b t d gs fun gz=>iK T P F stop Q n (.e_ ops dr l (.r::ks) gz ((t,.any)::e) cs fr Z)else False
def Says(P:Program)(F:Fr)(Q:Exit->Env->ae->Prop):S->Prop
 |.code cs fr e Z=>U P F cs (hZ P F Q fr) e Z
 |.e_ ops dr l ks gs e cs fr Z=>∀E,Lq e E->(∀z∈gs,jS ops.toList E z)->∃gg,cN P F.N ops.toList.toArray (fun E' o=>∃e',Lq e' E'/\(dr=true->kN ops (gg.reverse++ks).reverse=true)/\U P F cs (hZ P F Q fr) e' o) l gg E Z
theorem U.exitTo{P:Program}{F:Fr}{Q:Exit->Env->ae->Prop}{e:Env}{Z:ae}{id:Nat}:∀(fr:List (Nat×List Code)),(match EE fr id with
  |some (cs,fr)=>U P F cs (hZ P F Q fr) e Z
  |none=>Q (.exit id) e Z)->hZ P F Q fr (.exit id) e Z
 |[],h=>h
 |(i,cs)::fr,h=>by
  simp only[EE]at h;simp only[hZ,bq];cases hb:Nat.beq id i with
  |true=>simp only[hb,iX]at h|-;exact h
  |false=>simp only[hb,jh]at h|-;exact U.exitTo fr h
theorem TV{P:Program}{F:Fr}{Q:Exit->Env->ae->Prop}{e:Env}{Z:ae}:∀(fr:List (Nat×List Code)),Q .ret e Z->hZ P F Q fr .ret e Z
 |[],h=>h
 |(i,cs)::fr,h=>by simp only[hZ,bq];exact TV fr h
theorem qF{T:TypeId->bC}{P:Program}(hT:od P T){F:Fr}{stop:List Nat}{Q:Exit->Env->ae->Prop}:∀(n:Nat)(s:S),iK T P F stop Q n s->Says P F Q s
 |0,.code cs fr e Z,h=>h
 |0,.e_ ..,h=>h.elim
 |n+1,.code [] [] e Z,h=>⟨h⟩
 |n+1,.code [] ((i,cs)::fr) e Z,h=>⟨(qF hT n (.code cs fr e Z) h:U P F cs (hZ P F Q fr) e Z)⟩
 |n+1,.code (c::cs) fr e Z,h=>by
  cases c with
  |seq a b=>exact U.seq (qF hT n (.code (a::b::cs) fr e Z) h)
  |skip=>exact U.skip (qF hT n (.code cs fr e Z) h)
  |block id b=>exact U.block (qF hT n (.code [b] ((id,cs)::fr) e Z) h)
  |exit id=>
   refine U.exit (U.exitTo fr ?_);simp only[iK]at h;cases ho:EE fr id with
   |none=>simp only[ho]at h|-;exact h
   |some x=>
    obtain⟨cs',fr'⟩:=x;simp only[ho]at h|-;exact qF hT n (.code cs' fr' e Z) h
  |ret=>
   simp only[iK]at h;cases hs:Fi stop 99999 with
   |true=>simp only[hs,iX]at h;exact h
   |false=>simp only[hs,jh]at h;exact U.ret (TV fr h)
  |cond x a b=>
   simp only[iK]at h;split at h
   ·rename_i v hv;exact U.cond hv (fun k=>qF hT n (.code (a::cs) fr e Z) (h.t k)) (fun k=>qF hT n (.code (b::cs) fr e Z) (h.f k))
   ·exact h
  |region id ops dr=>
   simp only[iK]at h;cases hs:Fi stop id with
   |true=>simp only[hs,iX]at h;exact h
   |false=>
    simp only[hs,jh]at h;have Vx:ops=ops.toList.toArray:=by simp
    obtain⟨ks,h1⟩:=qF hT n (.e_ ops dr ops.toList [] [] e cs fr Z) h e (Lq.refl e) zS;show U P F (.region id ops dr::cs) (hZ P F Q fr) e Z;have fin:∀x E o,kS (fun E o=>∃e,Lq e E/\(dr=true->kN ops (ks.reverse++[]).reverse=true)/\U P F cs (hZ P F Q fr) e o) (hZ P F Q fr) x E o->∃e,Lq e E/\kS (pK P F cs (hZ P F Q fr)) (hZ P F Q fr) x e o:=by
     intro x E o hx;cases x with
     |normal=>obtain⟨e,h2,_,h3⟩:=hx;exact⟨e,h2,h3.out⟩
     |_=>exact⟨E,Lq.refl E,hx⟩
    cases dr with
    |false=>
     rw[Vx];exact⟨WP.abn (WP.region (Q:=kS (fun E o=>∃e,Lq e E/\(false=true->kN ops (List.reverse (List.reverse ks++([]:List Kind)))=true)/\U P F cs (hZ P F Q fr) e o) (hZ P F Q fr)) h1) fin⟩
    |true=>
     have ai:kN ops.toList.toArray ks=true:=by
      have:=h1.pull fun E o ⟨e,_,h3,_⟩=>h3 rfl;simpa using this
     rw[Vx];exact⟨WP.abn (WP.ZZ (Q:=kS (fun E o=>∃e,Lq e E/\(true=true->kN ops (List.reverse (List.reverse ks++([]:List Kind)))=true)/\U P F cs (hZ P F Q fr) e o) (hZ P F Q fr)) hT.mixed ai h1) fin⟩
  |_=>exact h
 |n+1,.e_ ops dr [] ks gs e cs fr Z,h=>fun E hl hg=>by
  refine⟨[],.nil ⟨e,hl,?_⟩⟩;simp only[iK]at h;cases dr with
  |false=>exact⟨(fun h=>by cases h),qF hT n (.code cs fr e Z) h⟩
  |true=>exact⟨fun _=>h.ok,qF hT n (.code cs fr e Z) h.k⟩
 |n+1,.e_ ops dr (o::l) ks gs e cs fr Z,h=>fun E hl hg=>by
  have ih:∀(k:Kind)(gz:List GE)(e':Env)(aj:ae)(E':Env),iK T P F stop Q n (.e_ ops dr l (k::ks) gz e' cs fr aj)->Lq e' E'->(∀z∈gz,jS ops.toList E' z)->
    ∃gg,cN P F.N ops.toList.toArray (fun E' o=>∃e',Lq e' E'/\(dr=true->kN ops (gg.reverse++(k::ks)).reverse=true)/\U P F cs (hZ P F Q fr) e' o) l gg E' aj:=
   fun k gz e' aj E' h h1 h2=>qF hT n (.e_ ops dr l (k::ks) gz e' cs fr aj) h E' h1 h2
  simp only[iK]at h;split at h
  ·rename_i Ds;obtain⟨k,d,aj,h1,h2⟩:=(YQ hT (fun _=>hl) hg h).out;have h1:=h1 trivial;have Na:On ops.toList.toArray E o:=by simp[On,Ds]
   have step:∀(gg:List Kind),eF F.N o.dst=true->cN P F.N ops.toList.toArray (fun E' o=>∃e',Lq e' E'/\(dr=true->kN ops (gg.reverse++(k::ks)).reverse=true)/\U P F cs (hZ P F Q fr) e' o) l gg (E.put o.dst d) aj->
     ∃gg,cN P F.N ops.toList.toArray (fun E' o=>∃e',Lq e' E'/\(dr=true->kN ops (gg.reverse++ks).reverse=true)/\U P F cs (hZ P F Q fr) e' o) (o::l) gg E Z:=by
    intro gg hd hk;rw[Z7]at hk;refine⟨k::gg,?_⟩;cases k with
    |p=>obtain⟨hq,rfl⟩:=h1;exact .p hd Na hq hk
    |r=>obtain⟨hq,rfl⟩:=h1;exact .r hd Na hq hk
    |w=>exact .w hd Na h1 hk
   split at h2
   ·rename_i hd;obtain⟨gg,h3⟩:=ih k gs e aj E h2 hl hg;exact step gg (by rw[hd];rfl) (by rw[hd];exact h3)
   ·rename_i t hd;cases hb:Nat.blt t F.N with
    |false=>simp only[hb,jh]at h2
    |true=>
     simp only[hb,iX]at h2;obtain⟨gz,h3,h4⟩:=Pl hg h2;obtain⟨gg,h5⟩:=ih k gz _ aj _ h4 (hl.put t d) h3;exact step gg (by rw[hd];exact hb) (by rw[hd];exact h5)
  ·rename_i g b Ds;obtain⟨Mk,x,nM,DS,rfl,rfl,h⟩:=atW hl hg h;have hx:=nM x DS;obtain⟨k,d,aj,h1,h2⟩:=(YQ hT hx.env nM h).out;have step:∀(k:Kind)(gg:List Kind),k≠.w->(x.c=true->SK P o E Z k d aj)->eF F.N o.dst=true->cN P F.N ops.toList.toArray (fun E' o=>∃e',Lq e' E'/\(dr=true->kN ops (gg.reverse++(k::ks)).reverse=true)/\U P F cs (hZ P F Q fr) e' o) l gg (E.put o.dst (bif x.c then d else .raw undef)) Z->
     ∃gg,cN P F.N ops.toList.toArray (fun E' o=>∃e',Lq e' E'/\(dr=true->kN ops (gg.reverse++ks).reverse=true)/\U P F cs (hZ P F Q fr) e' o) (o::l) gg E Z:=by
    intro k gg nN h1 hd hk;rw[Z7]at hk;refine⟨k::gg,?_⟩;cases hc:x.c with
    |false=>
     rw[hc,jh]at hk;exact .off hd (hx.off Ds hc) hk
    |true=>
     rw[hc,iX]at hk;have h1:=h1 hc;cases k with
     |p=>exact .p hd (hx.on Ds hc) h1.1 hk
     |r=>exact .r hd (hx.on Ds hc) h1.1 hk
     |w=>exact absurd rfl nN
   have fin:∀(k:Kind),k≠.w->(x.c=true->SK P o E Z k d aj)->(match o.dst with
     |none=>iK T P F stop Q n (.e_ ops dr l (k::ks) Mk e cs fr Z)
     |some t=>bif Nat.blt t F.N then xy x.g x.b t d Mk fun gz=>iK T P F stop Q n (.e_ ops dr l (k::ks) gz ((t,.any)::e) cs fr Z)else False)->
     ∃gg,cN P F.N ops.toList.toArray (fun E' o=>∃e',Lq e' E'/\(dr=true->kN ops (gg.reverse++ks).reverse=true)/\U P F cs (hZ P F Q fr) e' o) (o::l) gg E Z:=by
    intro k nN h1 h2;split at h2
    ·rename_i hd;obtain⟨gg,h3⟩:=ih k Mk e Z E h2 hl nM;exact step k gg nN h1 (by rw[hd];rfl) (by rw[hd];exact h3)
    ·rename_i t hd;cases hb:Nat.blt t F.N with
     |false=>simp only[hb,jh]at h2
     |true=>
      simp only[hb,iX]at h2;obtain⟨gz,h3,h4⟩:=I7 (d:=d) hx nM h2;obtain⟨gg,h5⟩:=ih k gz _ Z _ h4 (hl.Zw t _) h3;exact step k gg nN h1 (by rw[hd];exact hb) (by rw[hd];exact h5)
   cases k with
   |w=>exact h2.elim
   |p=>exact fin .p zS h1 h2
   |r=>exact fin .r zS h1 h2
def ah3{T:TypeId->bC}{P:Program}(hT:od P T){F:Fr}{stop:List Nat}(n:Nat)(cs:List Code)(Q:Exit->Env->ae->Prop)(env:Env)(Z:ae)(h:iK T P F stop Q n (.code cs [] env Z)):U P F cs Q env Z:=qF hT n (.code cs [] env Z) h
def br{b:Bool}{A B:Prop}(h:b=true->A)(h':b=false->B):FI b A B:=⟨h,h'⟩
def aM{b:Bool}{A B:Prop}(hb:b=true)(h:A):FI b A B:=⟨fun _=>h,fun e=>(by rw[hb]at e;cases e)⟩
def aH{b:Bool}{A B:Prop}(hb:b=false)(h:B):FI b A B:=⟨fun e=>(by rw[hb]at e;cases e),fun _=>h⟩
end Go.T
namespace Go.T
open Go
variable[bX]
inductive xM(P:Program)where
 |leaf
 |node (k:Nat) (i:{i:bC//bU P k i}) (l r:xM P)
def xM.get{P:Program}:xM P->Nat->bC
 |.leaf,_=>{}
 |.node k i l r,t=>bif Nat.beq t k then i.1 else bif Nat.blt t k then l.get t else r.get t
def bU.none(P:Program)(t:TypeId):bU P t {}:=⟨fun _ h=>(nomatch h),fun _ h=>(nomatch h),fun _ h=>(nomatch h),fun _ h=>(nomatch h),fun _ h=>(nomatch h),fun _ h=>(nomatch h)⟩
theorem xM.ok{P:Program}:∀(b:xM P)(t:Nat),bU P t (b.get t)
 |.leaf,t=>bU.none P t
 |.node k i l r,t=>by
  simp only[xM.get];cases hb:Nat.beq t k with
  |true=>obtain rfl:=pT hb;exact i.2
  |false=>
   simp only[jh];cases Nat.blt t k with
   |true=>exact l.ok t
   |false=>exact r.ok t
section
variable{P:Program} {t:TypeId} {d:TypeDesc} {b:Bool} {n:Nat} {z:Value} {ds:List D} {fs:Array Field} {pl:List (Nat×Nat)} {ti:TypeInfo} {m:Nat}
def dA(ds:List D)(hu:P.underlying t=some d)(ha:∀w,(isAgg t).run P w=.ok b w)(hs:∀w,(sizeOf t).run P w=.ok n w)(hz:∀w,(zeroValue t).run P w=.ok z w)(hd:z.cells.toList.map lY=ds):bU P t {u:=some d,agg:=some b,sz:=some n,zc:=some ds}:=
 ⟨fun _ h=>by cases h;exact hu,fun _ h=>by cases h;exact ha,fun _ h=>by cases h;exact hs,fun _ h=>by cases h;exact⟨z,hz,hd⟩,fun _ h=>(nomatch h),fun _ h=>(nomatch h)⟩
def qo(pl:List (Nat×Nat))(ds:List D)(hu:P.underlying t=some (.struct fs))(ha:∀w,(isAgg t).run P w=.ok b w)(hs:∀w,(sizeOf t).run P w=.ok n w)(hz:∀w,(zeroValue t).run P w=.ok z w)(hd:z.cells.toList.map lY=ds)
  (hp:∀w,(fs.mapM (m:=Sem) fun f=>Prod.mk f.offset<$>sizeOf f.type).run P w=.ok pl.toArray w):bU P t {u:=some (.struct fs),agg:=some b,sz:=some n,zc:=some ds,pl:=some pl}:=
 ⟨fun _ h=>by cases h;exact hu,fun _ h=>by cases h;exact ha,fun _ h=>by cases h;exact hs,fun _ h=>by cases h;exact⟨z,hz,hd⟩,fun _ h fs' h'=>by cases h;rw[hu]at h';cases h';exact hp,fun _ h=>(nomatch h)⟩
end
mutual
theorem YK{f:Nat->Bool}:∀(d:D),d.bw=true->d.okB f=true
 |.any,_=>rfl
 |.raw _,_=>rfl
 |.str _,_=>rfl
 |.agg ds,h=>Ey ds h
 |.a_ ds,h=>Ey ds h
 |.snap _ _ _,_=>rfl
 |.bj _,_=>rfl
 |.pq _ _,_=>rfl
 |.box _ _,h=>by simp[D.bw]at h
 |.gs _ _,h=>by simp[D.bw]at h
 |.pR _ _,h=>by simp[D.bw]at h
 |.cL _,h=>by simp[D.bw]at h
 |.sO _ _ _,h=>by simp[D.bw]at h
 |.qg _ _ _,h=>by simp[D.bw]at h
 |.gr _ _,h=>by simp[D.bw]at h
 |.fn _ as bs,h=>by
  simp only[D.bw,bd]at h;simp only[D.okB,Ey as h.1,Ey bs h.2,Iy]
theorem Ey{f:Nat->Bool}:∀(ds:List D),D.bw.dT ds=true->D.okB.fM f ds=true
 |[],_=>rfl
 |d::ds,h=>by
  simp only[D.bw.dT,bd]at h;simp only[D.okB.fM,YK d h.1,Ey ds h.2,Iy]
end
def rh{f:Nat->Bool}{g:Go.Fn}{bO:List D}(h:D.bw.dT bO=true):(D.fn g [] bO).okB f=true:=YK _ (by simp[D.bw,D.bw.dT,h])
def Fc.sub{P:Program}{f:FuncId}{ds fg:List D}{r:D}(h:Fc P f fg r)(hs:jx ds fg:=by repeat(first|exact .nil|refine .cons (Sub.refl _) ?_|refine .cons (Sub.sF _ _ _) ?_|refine .cons (Sub.nil _ _) ?_)):Fc P f ds r:=
 ⟨fun w O ρ vals hO hg hv=>h.out w O ρ vals hO hg (hs.out w O ρ vals hv)⟩
def af{env:Env}{t:Nat}{d r:D}(h:env.get t=some d)(s:Sub d r):∃ds,getAll env [t]=some ds/\Sub (tL ds) r:=⟨[d],by simp[getAll,h],s⟩
def cw{env:Env}{t u:Nat}{d e d' e':D}(h:env.get t=some d)(h':env.get u=some e)(s:Sub d d')(s':Sub e e'):∃ds,getAll env [t,u]=some ds/\Sub (tL ds) (.a_ [d',e']):=⟨[d,e],by simp[getAll,h,h'],.JH s s'⟩
def vQ{env:Env}{t u v:Nat}{d e f d' e' f':D}(h:env.get t=some d)(h':env.get u=some e)(Dg:env.get v=some f)(s:Sub d d')(s':Sub e e')(PR:Sub f f'):∃ds,getAll env [t,u,v]=some ds/\Sub (tL ds) (.a_ [d',e',f']):=⟨[d,e,f],by simp[getAll,h,h',Dg],.aaW s s' PR⟩
def nx{ι:Type}{p q:ι->Prop}(x:ι)(h:p x)(k:q x):∃x,p x/\q x:=⟨x,h,k⟩
def PS{A S K:Prop}(h:A->S)(k:K):Sd A S K:=⟨h,k⟩
end Go.T
