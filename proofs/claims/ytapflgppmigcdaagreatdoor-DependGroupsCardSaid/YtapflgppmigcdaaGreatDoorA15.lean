/-
  Contracts of the functions that the statement reaches, and the logic in which they are proved (no condition): parts SpecD10, W92, Core51, SpecD11, W93, W94, SpecD12, W95, W96, LayD, Core34, Core52, Core53, SpecD13.
-/
import Derived.Test.YtapflgppmigcdaaGreatDoorA14
import Derived.Shelf.SlicesE.DeleteFunc
set_option linter.all false
namespace Go.T
open Go
def jv(s:aa):Int:=if(!isName s)=true then 23 else 0
def mD(f:Fact)(code:Bool):Int:=
 if code=true then(if(!fF f.other)=true then 12 else if decide (f.other=f.cur)=true then 18 else 0)
 else if decide (jv f.other≠0)=true then jv f.other else if decide (f.other=f.dM)=true then 18 else 0
def ee(f:Fact)(code:Bool)(n:Int)(L:Bool×Bool):Int:=
 if decide (n=0)=true then jv f.dM else if decide (n=3)=true then jv f.target else if decide (n=1)=true then mD f code
 else if decide (n=2)=true then(if(!fF f.cur)=true then 12 else 0)else if decide (n=10)=true then r6 f else if decide (n=11)=true then pW f
 else if decide (n=12)=true then(if decide (f.choice<0)=true then 2 else 0)else e6 L.1 L.2 (jk f n)
theorem anL{f:Fact}(h:nJ f)(n:Int):lU (jk f n):=by
 have e:([]:aa).length≤60:=by simp
 unfold jk;split
 ·exact⟨h.dm,e⟩
 ·split
  ·exact⟨h.mN,e⟩
  ·split
   ·exact⟨h.mU,e⟩
   ·split
    ·exact h.d_
    ·split
     ·exact h.ratio
     ·split
      ·exact h.share
      ·exact⟨e,e⟩
theorem LG{f:Fact}{code:Bool}(h:code=true)(h2:(!fF f.other)=true):12=mD f code:=by rw[mD,if_pos h,if_pos h2]
theorem LH{f:Fact}{code:Bool}(h:code=true)(h2:(!fF f.other)=false)(h3:decide (f.other=f.cur)=true):18=mD f code:=by rw[mD,if_pos h,if_neg (by rw[h2];simp),if_pos h3]
theorem LI{f:Fact}{code:Bool}(h:code=true)(h2:(!fF f.other)=false)(h3:decide (f.other=f.cur)=false):0=mD f code:=by rw[mD,if_pos h,if_neg (by rw[h2];simp),if_neg (by rw[h3];simp)]
theorem LJ{f:Fact}{code:Bool}(h:code=false)(h2:decide (jv f.other≠0)=true):jv f.other=mD f code:=by rw[mD,if_neg (by rw[h];simp),if_pos h2]
theorem LK{f:Fact}{code:Bool}(h:code=false)(h2:decide (jv f.other≠0)=false)(h3:decide (f.other=f.dM)=true):18=mD f code:=by rw[mD,if_neg (by rw[h];simp),if_neg (by rw[h2];simp),if_pos h3]
theorem LL{f:Fact}{code:Bool}(h:code=false)(h2:decide (jv f.other≠0)=false)(h3:decide (f.other=f.dM)=false):0=mD f code:=by rw[mD,if_neg (by rw[h];simp),if_neg (by rw[h2];simp),if_neg (by rw[h3];simp)]
theorem ga{α:Type}{b:Bool}{x y z:α}(h:b=true)(k:z=x):z=if b=true then x else y:=by rw[if_pos h];exact k
theorem aco{f:Fact}{code:Bool}{n:Int}{L:Bool×Bool}(h4:4≤n)(h9:n≤9):e6 L.1 L.2 (jk f n)=ee f code n L:=by
 have key:∀k:Int,(k<4∨9<k)→¬decide (n=k)=true:=fun k hk e=>by have:=of_decide_eq_true e;omega
 unfold ee;rw[if_neg (key 0 zO),if_neg (key 3 zO),if_neg (key 1 zO),if_neg (key 2 zO),if_neg (key 10 zO),if_neg (key 11 zO),if_neg (key 12 zO)]
open Go.Proofs Go.Proofs.Tryz
set_option maxRecDepth 20000
theorem agR(w:World)(O:Nat→Prop)(ρ:az):V w O ρ (bM none) .nilFunc:=by simp[V]
theorem zq(s:aa):Fc Tryz.prog 124 [.str s] (.i (jv s)):=ahU s
theorem acm(f:Fact)(hf:nJ f)(w:aa)(c:Int)(h:Nat→Bool)(m:iv)(code:Bool)(n:Int)(L:Bool×Bool)(hs:n=0∨n=3∨n=1∨n=2∨n=10∨n=11∨n=12):Fc Tryz.prog 88 [.agg (aX f),.agg (cO w c h (c7 m) code),.i n] (.i (ee f code n L)):=by
 refine Fc.mk' [6] func88 rfl ntmps88 rfl rfl rfl (fun t w=>results_tmp results88 t _ w) ?_;refine go [] ?_;refine br (fun h1=>?_) (fun h1=>?_)
 ·refine oP (ek call124 rfl rfl (zq _)) ?_;exact ah rfl (Sub.int (by unfold ee;exact iT h1))
 ·refine br (fun h2=>?_) (fun h2=>?_)
  ·refine oP (ek call124 rfl rfl (zq _)) ?_;exact ah rfl (Sub.int (by unfold ee;exact iF h1 (iT h2)))
  ·refine br (fun h3=>?_) (fun h3=>?_)
   ·refine br (fun h4=>?_) (fun h4=>?_)
    ·refine oP (ai call125 rfl (Fb _)) ?_;refine br (fun h5=>?_) (fun h5=>?_)
     ·exact ah rfl (Sub.int (by unfold ee;exact iF h1 (iF h2 (ga h3 (LG h4 h5)))))
     ·refine br (fun h6=>?_) (fun h6=>?_)
      ·exact ah rfl (Sub.int (by unfold ee;exact iF h1 (iF h2 (ga h3 (LH h4 h5 h6)))))
      ·exact ah rfl (Sub.int (by unfold ee;exact iF h1 (iF h2 (ga h3 (LI h4 h5 h6)))))
    ·refine oP (ek call124 rfl rfl (zq _)) ?_;refine br (fun h7=>?_) (fun h7=>?_)
     ·exact ah rfl (Sub.int (by unfold ee;exact iF h1 (iF h2 (ga h3 (LJ h4 h7)))))
     ·refine br (fun h8=>?_) (fun h8=>?_)
      ·exact ah rfl (Sub.int (by unfold ee;exact iF h1 (iF h2 (ga h3 (LK h4 h7 h8)))))
      ·exact ah rfl (Sub.int (by unfold ee;exact iF h1 (iF h2 (ga h3 (LL h4 h7 h8)))))
   ·refine br (fun h9=>?_) (fun h9=>?_)
    ·refine oP (ai call125 rfl (Fb _)) ?_;refine br (fun ct=>?_) (fun ct=>?_)
     ·exact ah rfl (Sub.int (by unfold ee;exact iF h1 (iF h2 (iF h3 (ga h9 (iT ct))))))
     ·exact ah rfl (Sub.int (by unfold ee;exact iF h1 (iF h2 (iF h3 (ga h9 (iF ct rfl))))))
    ·refine br (fun cI=>?_) (fun cI=>?_)
     ·refine oP (ai call126 rfl (NR f hf)) ?_;exact ah rfl (Sub.int (by unfold ee;exact iF h1 (iF h2 (iF h3 (iF h9 (iT cI))))))
     ·refine br (fun dI=>?_) (fun dI=>?_)
      ·refine oP (ai call127 rfl (NQ f hf)) ?_;exact ah rfl (Sub.int (by unfold ee;exact iF h1 (iF h2 (iF h3 (iF h9 (iF cI (iT dI)))))))
      ·refine bk (decide_eq_true (by simp at h1 h2 h3 h9 cI dI;omega)) ?_;refine br (fun fR=>?_) (fun fR=>?_)
       ·exact ah rfl (Sub.int (by unfold ee;exact iF h1 (iF h2 (iF h3 (iF h9 (iF cI (iF dI (ga (decide_eq_true (by simp at h1 h2 h3 h9 cI dI;omega)) (iT fR)))))))))
       ·exact ah rfl (Sub.int (by unfold ee;exact iF h1 (iF h2 (iF h3 (iF h9 (iF cI (iF dI (ga (decide_eq_true (by simp at h1 h2 h3 h9 cI dI;omega)) (iF fR rfl)))))))))
theorem acr(f:Fact)(hf:nJ f)(w:aa)(c:Int)(h:Nat→Bool)(code:Bool)(n:Int)(L:Bool×Bool)(hs:n=0∨n=3∨n=1∨n=2∨n=10∨n=11∨n=12):Fc Tryz.prog 88 [.agg (aX f),.agg (cO w c h (D.raw (.map none)) code),.i n] (.i (ee f code n L)):=by
 refine Fc.mk' [6] func88 rfl ntmps88 rfl rfl rfl (fun t w=>results_tmp results88 t _ w) ?_;refine go [] ?_;refine br (fun h1=>?_) (fun h1=>?_)
 ·refine oP (ek call124 rfl rfl (zq _)) ?_;exact ah rfl (Sub.int (by unfold ee;exact iT h1))
 ·refine br (fun h2=>?_) (fun h2=>?_)
  ·refine oP (ek call124 rfl rfl (zq _)) ?_;exact ah rfl (Sub.int (by unfold ee;exact iF h1 (iT h2)))
  ·refine br (fun h3=>?_) (fun h3=>?_)
   ·refine br (fun h4=>?_) (fun h4=>?_)
    ·refine oP (ai call125 rfl (Fb _)) ?_;refine br (fun h5=>?_) (fun h5=>?_)
     ·exact ah rfl (Sub.int (by unfold ee;exact iF h1 (iF h2 (ga h3 (LG h4 h5)))))
     ·refine br (fun h6=>?_) (fun h6=>?_)
      ·exact ah rfl (Sub.int (by unfold ee;exact iF h1 (iF h2 (ga h3 (LH h4 h5 h6)))))
      ·exact ah rfl (Sub.int (by unfold ee;exact iF h1 (iF h2 (ga h3 (LI h4 h5 h6)))))
    ·refine oP (ek call124 rfl rfl (zq _)) ?_;refine br (fun h7=>?_) (fun h7=>?_)
     ·exact ah rfl (Sub.int (by unfold ee;exact iF h1 (iF h2 (ga h3 (LJ h4 h7)))))
     ·refine br (fun h8=>?_) (fun h8=>?_)
      ·exact ah rfl (Sub.int (by unfold ee;exact iF h1 (iF h2 (ga h3 (LK h4 h7 h8)))))
      ·exact ah rfl (Sub.int (by unfold ee;exact iF h1 (iF h2 (ga h3 (LL h4 h7 h8)))))
   ·refine br (fun h9=>?_) (fun h9=>?_)
    ·refine oP (ai call125 rfl (Fb _)) ?_;refine br (fun ct=>?_) (fun ct=>?_)
     ·exact ah rfl (Sub.int (by unfold ee;exact iF h1 (iF h2 (iF h3 (ga h9 (iT ct))))))
     ·exact ah rfl (Sub.int (by unfold ee;exact iF h1 (iF h2 (iF h3 (ga h9 (iF ct rfl))))))
    ·refine br (fun cI=>?_) (fun cI=>?_)
     ·refine oP (ai call126 rfl (NR f hf)) ?_;exact ah rfl (Sub.int (by unfold ee;exact iF h1 (iF h2 (iF h3 (iF h9 (iT cI))))))
     ·refine br (fun dI=>?_) (fun dI=>?_)
      ·refine oP (ai call127 rfl (NQ f hf)) ?_;exact ah rfl (Sub.int (by unfold ee;exact iF h1 (iF h2 (iF h3 (iF h9 (iF cI (iT dI)))))))
      ·refine bk (decide_eq_true (by simp at h1 h2 h3 h9 cI dI;omega)) ?_;refine br (fun fR=>?_) (fun fR=>?_)
       ·exact ah rfl (Sub.int (by unfold ee;exact iF h1 (iF h2 (iF h3 (iF h9 (iF cI (iF dI (ga (decide_eq_true (by simp at h1 h2 h3 h9 cI dI;omega)) (iT fR)))))))))
       ·exact ah rfl (Sub.int (by unfold ee;exact iF h1 (iF h2 (iF h3 (iF h9 (iF cI (iF dI (ga (decide_eq_true (by simp at h1 h2 h3 h9 cI dI;omega)) (iF fR rfl)))))))))
theorem acp(f:Fact)(hf:nJ f)(w:aa)(c:Int)(h:Nat→Bool)(m:iv)(code:Bool)(n:Int)(L:Bool×Bool)(h4:4≤n)(h9:n≤9)(hB:dU none m n=some L):Fc Tryz.prog 88 [.agg (aX f),.agg (cO w c h (c7 m) code),.i n] (.i (ee f code n L)):=by
 refine Fc.mk' [6] func88 rfl ntmps88 rfl rfl rfl (fun t w=>results_tmp results88 t _ w) ?_;refine go [] ?_;refine a_ zQ ?_;refine a_ zQ ?_;refine a_ zQ ?_;refine a_ zQ ?_;refine a_ zQ ?_;refine a_ zQ ?_;refine a_ zQ ?_;refine oP (fun _=>ajQ eM (vD:=bM) (m:=m) (k:=n) (d:=none) underlying119 zeroValue154 agR rfl rfl rfl rfl) ?_;refine oP (ai call128 rfl (W_ f n zO zO)) ?_;refine oP (ek call175 (by exact congrArg (fun z=>some (bM z)) hB) rfl (Lp (jk f n) L.1 L.2 (anL hf n))) ?_;refine ord ?_;exact ah rfl (Sub.int (by exact aco zO zO))
end Go.T
namespace Go.T
open Go
variable[bX]
section
variable{P:Program} {F:Fr} {ops:Array Oper} {K:Env→ae→Prop}
theorem aq.o0{o:Oper}{env:Env}{U:ae}{d:D}{am:ae}(h:aq P o env U d am):sj P o env U (fun _:Unit=>True) (fun _=>d) (fun _=>am):=fun O ρ a w aj hg hv=>
 Oper.wp_mono (by rintro a' w' ⟨av,v,h⟩;exact⟨(),av,v,trivial,h⟩) (h O ρ a w aj hg hv)
def G6(P:Program)(F:Fr)(ops:Array Oper)(I:Array Bool→Env→ae→Prop)(i:Nat)(o:Oper):Prop:=
 ∀listed env U,listed.size=ops.size→I listed env U→aZ listed i=false→(∀e∈o.after,Region.binds .any e=true→aZ listed e.on=true)→
  ∃(ι:Type) (A:ι→Prop) (d:ι→D) (am:ι→ae),dR F.N o.dst=true∧On ops env o∧sj P o env U A d am∧∀j,A j→∃fD cX,Le F (env.put o.dst (d j)) (am j) fD cX∧I (listed.setIfInBounds i true) fD cX
def vN(P:Program)(F:Fr)(ops:Array Oper)(I:Array Bool→Env→ae→Prop):Nat→List Oper→Prop
 |_,[]=>True
 |i,o::l=>G6 P F ops I i o∧vN P F ops I (i+1) l
theorem vN.get{I:Array Bool→Env→ae→Prop}:∀{l:List Oper}{k i:Nat}{o:Oper},vN P F ops I k l→l[i]?=some o→G6 P F ops I (k+i) o
 |[],k,i,o,_,h=>by simp at h
 |x::l,k,0,o,hs,h=>by simp at h;subst h;exact hs.1
 |x::l,k,i+1,o,hs,h=>by
  have:=vN.get hs.2 (i:=i) (o:=o) (by simpa using h);rwa[Nat.add_right_comm,Nat.add_assoc]at this
theorem jn.afD{I:Array Bool→Env→ae→Prop}(hb:Ay ops=true)(sV:∀listed env U,listed.size=ops.size→(∀i,i<ops.size→aZ listed i=true)→I listed env U→K env U)
  (aP:vN P F ops I 0 ops.toList):∀(dH:Nat)(listed:Array Bool)(env:Env)(U:ae),listed.size=ops.size→vA listed ops.size≤dH→I listed env U→jn P F ops K dH listed env U:=by
 intro dH;induction dH with
 |zero=>
  intro listed env U hs hf hI;have dW:∀i,i<ops.size→aZ listed i=true:=fun i hi=>by
   cases e:aZ listed i with
   |true=>rfl
   |false=>have:=WQ hi e;omega
  refine jn.nil ?_ (sV listed env U hs dW hI);rw[List.eq_nil_iff_forall_not_mem];intro i hi;have:=Gp hs hi;rw[dW i this.1]at this;cases this.2.1
 |succ dH ih=>
  intro listed env U hs hf hI;refine⟨fun C Q hQ a w By=>⟨fun hr=>hQ a w env U (sV listed env U hs (VB hs hb hr) hI) By,fun i hi=>?_⟩⟩;obtain⟨h1,h2,h3⟩:=Gp hs hi;have ho:ops[i]?=some ops[i]:=Array.getElem?_eq_getElem h1;have h4:G6 P F ops I (0+i) ops[i]:=vN.get aP (by simpa using ho);rw[Nat.zero_add]at h4;obtain⟨ι,A,d,am,q1,q2,q3,q4⟩:=h4 listed env U hs hI h2 (h3 _ ho);obtain⟨ρ,rB⟩:=By;unfold wpOpIn;simp only[ho];rw[if_pos (Da q2 fun g b t _ _ d hd=>rB.env t d hd)];have:=q3 C.O ρ a w rB.tr.ok rB.wk (fun x _ d' h=>tz rB.env x d' h);refine Oper.wpIn_mono ?_ (xN C.ro this (by rintro a' w' ⟨j,av,v,_,rfl,_⟩;exact Act.lN ..));rintro a' w' ⟨j,av,v,hA,rfl,j4,hv⟩;obtain⟨fD,cX,q5,q6⟩:=q4 j hA;exact(jn.bE q5 (ih _ _ _ (by simpa using hs) (by have:=WR h1 hs.symm h2;omega) q6)).out C Q hQ _ _ ⟨av,rB.step j4 (uu rB.size q1 (fun t d h=>j4.V (rB.env t d h)) hv) (Act.tV _ _ _) (Act.lN ..)⟩
theorem J.akt{ι:Type}{A:ι→Prop}{fD:ι→Env}{cX:ι→ae}{env:Env}{U:ae}{Q:Exit→Env→ae→Prop}{cs:List Code}{id:Nat}{l:List Oper}{c:Code}(I:Array Bool→Env→ae→Prop)(hm:P.follows .mixedOrders=true)(hb:Ay l.toArray=true)
  (h0:I (Array.replicate l.length false) env U)(aP:vN P F l.toArray I 0 l)(sV:∀listed e o,listed.size=l.length→(∀i,i<l.length→aZ listed i=true)→I listed e o→∃i,A i∧Le F e o (fD i) (cX i))
  (k:∀i,A i→J P F (c::cs) Q (fD i) (cX i)):J P F (.region id l.toArray true::c::cs) Q env U:=⟨⟨fun C a w hs=>by
 refine wpIn_region_any hm ?_;have hT:jn P F l.toArray (fun e o=>∃i,A i∧Le F e o (fD i) (cX i)) l.length (Array.replicate l.length false) env U:=
  jn.afD (I:=I) hb (by simpa using sV) (by simpa using aP) l.length _ env U zS (by
   have:vA (Array.replicate l.length false) l.toArray.size≤(List.range l.toArray.size).length:=List.countP_le_length;simpa using this) h0
 have:=hT.out C (fun e a' w'=>∃aQ am,jS (od P F (c::cs) Q) Q e aQ am∧St F C aQ am a' w') (fun a w aQ am hk hs=>by
  obtain⟨i,hA,eY⟩:=hk;exact⟨fD i,cX i,(k i hA).out,eY.out C a w hs⟩) a _ hs.drew
 simpa using this⟩⟩
end
end Go.T
namespace Go.T
open Go
def Ao:nC:=⟨[],0,fun _=>false,none,false⟩
def KZ(k:Int)(v:nC):Prop:=qU k v∨(eW k=none∧v=Ao)
theorem CO{k:Int}{r:jm}(h:eW k=some r):1≤k∧k≤18:=by
 rcases Decidable.em (1≤k∧k≤18)with g|g
 ·exact g
 ·unfold eW at h;rw[if_neg zO,if_neg zO,if_neg zO,if_neg zO,if_neg zO,if_neg zO,if_neg zO,if_neg zO,if_neg zO,if_neg zO,if_neg zO,if_neg zO,if_neg zO,if_neg zO,if_neg zO,if_neg zO,if_neg zO,if_neg zO]at h;cases h
theorem akG{k:Int}(h:∀j:Int,1≤j→j≤18→k≠j):eW k=none:=by
 cases e:eW k with
 |none=>rfl
 |some r=>have:=CO e;exact absurd rfl (h k this.1 this.2)
def wT:List Int:=[1,2,3,4,5,6,7,8,9,10,11,12,13,14,15,16,17,18]
theorem FA{k:Int}:k∈wT↔1≤k∧k≤18:=by
 constructor
 ·intro h;simp only[wT,List.mem_cons,List.not_mem_nil,or_false]at h;omega
 ·intro h;simp only[wT,List.mem_cons,List.not_mem_nil,or_false];omega
theorem Ez{β:Type}(d:β):∀(m:List (Int×β))(k:Int),k∈m.map (·.1)→(k,dU d m k)∈m
 |[],k,h=>by cases h
 |(a,v)::r,k,h=>by
  by_cases e:k=a
  ·subst e;simp[dU]
  ·simp only[dU,if_neg e];exact List.mem_cons_of_mem _ (Ez d r k (by simpa[e]using h))
theorem P_{β:Type}(d:β):∀(m:List (Int×β))(k:Int),k∉m.map (·.1)→dU d m k=d
 |[],k,_=>rfl
 |(a,v)::r,k,h=>by
  simp only[List.map_cons,List.mem_cons,not_or]at h;simp only[dU,if_neg h.1];exact P_ d r k h.2
theorem Qz{β:Type}(m:List (Int×β))(k:Int):jZ m k=true↔k∈m.map (·.1):=by
 unfold jZ;rw[List.any_eq_true,List.mem_map];constructor
 ·rintro⟨p,hp,h⟩;exact⟨p,hp,(of_decide_eq_true h).symm⟩
 ·rintro⟨p,hp,rfl⟩;exact⟨p,hp,by simp⟩
theorem af8{m:List (Int×nC)}(h1:(m.map (·.1)).Perm wT)(h2:∀p∈m,qU p.1 p.2)(k:Int):KZ k (dU Ao m k)∧jZ m k=(eW k).isSome:=by
 by_cases hk:k∈m.map (·.1)
 ·have h3:=h2 _ (Ez Ao m k hk);refine⟨.inl h3,?_⟩;obtain⟨r,hr,_⟩:=h3;rw[show jZ m k=true from(Qz m k).2 hk];simp only at hr;rw[hr];rfl
 ·have h3:eW k=none:=akG fun j hj JP e=>hk (h1.mem_iff.2 (FA.2 ⟨by omega,by omega⟩));refine⟨.inr ⟨h3,P_ _ _ _ hk⟩,?_⟩;rw[h3];cases e:jZ m k with
  |false=>rfl
  |true=>exact absurd ((Qz m k).1 e) hk
def oD(r:jm)(n:Int):Bool×Bool:=(dU none (r.num.getD []) n).getD (false,false)
def Wo(n:Int):Bool:=decide (n=0)||decide (n=3)||decide (n=1)||decide (n=2)||decide (n=10)||decide (n=11)||decide (n=12)
def VW(r:jm):Bool:=r.more.all Wo&&(match r.num with|none=>true|some E=>E.all (fun p=>decide (4≤p.1)&&decide (p.1≤9)&&p.2.isSome)&&decide ((E.map (·.1)).Nodup))
theorem akE{k:Int}{r:jm}(h:eW k=some r):VW r=true:=by
 have h1:=CO h;have h2:k=1∨k=2∨k=3∨k=4∨k=5∨k=6∨k=7∨k=8∨k=9∨k=10∨k=11∨k=12∨k=13∨k=14∨k=15∨k=16∨k=17∨k=18:=by omega
 rcases h2 with rfl|rfl|rfl|rfl|rfl|rfl|rfl|rfl|rfl|rfl|rfl|rfl|rfl|rfl|rfl|rfl|rfl|rfl<;>(have h':=Option.some.inj h;rw[←h'];decide)
def me(r:jm)(n:Nat):Bool:=b9 (r.num.getD []) r.more n
theorem ad5{E m:iv}(h:cS E m)(more:List Int)(j:Nat):b9 m more j=b9 E more j:=by
 have key:∀a:iv,(a.any fun p=>decide (p.1=(j:Int)))=true↔(j:Int)∈a.map (·.1):=by
  intro a;rw[List.any_eq_true,List.mem_map];constructor
  ·rintro⟨p,hp,h⟩;exact⟨p,hp,of_decide_eq_true h⟩
  ·rintro⟨p,hp,h⟩;exact⟨p,hp,decide_eq_true h⟩
 unfold b9
 congr 1
 rw[Bool.eq_iff_iff,key,key];exact h.1.mem_iff
theorem aia{E:iv}(hn:(E.map (·.1)).Nodup){k:Int}{a b:mJ}(ha:(k,a)∈E)(hb:(k,b)∈E):a=b:=by
 induction E with
 |nil=>cases ha
 |cons p E ih=>
  rw[List.map_cons,List.nodup_cons]at hn;rcases List.mem_cons.1 ha with e1|h1<;>rcases List.mem_cons.1 hb with e2|h2
  ·rw[←e1]at e2;exact(Prod.mk.inj e2).2.symm
  ·exact absurd (by have:=List.mem_map_of_mem (f:=Prod.fst) h2;rw[←e1];exact this) hn.1
  ·exact absurd (by have:=List.mem_map_of_mem (f:=Prod.fst) h1;rw[←e2];exact this) hn.1
  ·exact ih hn.2 h1 h2
theorem ail{E m:iv}{n:Int}(h:cS E m)(hn:(E.map (·.1)).Nodup)(hs:∀p∈E,p.2.isSome=true)(hk:n∈m.map (·.1)):dU none m n=some ((dU none E n).getD (false,false)):=by
 have h1:=h.2 _ (Ez none m n hk);have h2:=Ez none E n (h.1.mem_iff.1 hk);have h3:=aia hn h1 h2;rw[h3];have h4:=hs _ h2;simp only at h4;cases e:dU none E n with
 |none=>rw[e]at h4;cases h4
 |some L=>rfl
def kX(f:Fact)(r:jm):List Int→Int
 |[]=>0
 |n::l=>if me r n.toNat=true then(if decide (ee f r.code n (oD r n)≠0)=true then ee f r.code n (oD r n)else kX f r l)else if(!dT f n)=true then 1 else kX f r l
@[reducible] def ic:List Int:=[0,1,2,3,4,5,6,7,8,9,10,11,12]
theorem Eh{pre rest:List Int}{x:Int}(h:ic=pre++x::rest):x=(pre.length:Int)∧x<13:=by
 have h1:ic[pre.length]?=some x:=by rw[h];simp
 have hl:pre.length<13:=by
  have:=congrArg List.length h;simp at this;omega
 have key:∀i:Nat,i<13→ic[i]?=some (i:Int):=by decide
 rw[key _ hl]at h1;cases h1;exact⟨rfl,by omega⟩
def xK(f:Fact):Fact:=⟨f.key,f.lW,true,0,0,[],[],[],[],[],[],[],⟨[],[]⟩,⟨[],[]⟩,⟨[],[]⟩,[],[],0⟩
def wU(f:Fact):Int:=
 match eW f.kind with
 |none=>7
 |some r=>kX f r ic
def gJ(f:Fact):Int:=
 if(!isName f.key)=true then 23 else if decide (f.lW<0)=true then 2 else if f.cancelled=true then(if(!Ah f (xK f))=true then 1 else 0)
 else if(decide (f.day< -25567)||decide (84005<f.day))=true then 13 else wU f
theorem Pt{e:Int}{f:Fact}{r:jm}{n:Int}{l:List Int}(hp:e=kX f r (n::l))(h:me r n.toNat=true)(h2:decide (ee f r.code n (oD r n)≠0)=true):ee f r.code n (oD r n)=e:=by rw[hp,kX,if_pos h,if_pos h2]
theorem Pv{e:Int}{f:Fact}{r:jm}{n:Int}{l:List Int}(hp:e=kX f r (n::l))(h:me r n.toNat=true)(h2:decide (ee f r.code n (oD r n)≠0)=false):e=kX f r l:=by rw[hp,kX,if_pos h,if_neg (by rw[h2];simp)]
theorem Pw{e:Int}{f:Fact}{r:jm}{n:Int}{l:List Int}(hp:e=kX f r (n::l))(h:me r n.toNat=false)(h2:(!dT f n)=true):1=e:=by rw[hp,kX,if_neg (by rw[h];simp),if_pos h2]
theorem Px{e:Int}{f:Fact}{r:jm}{n:Int}{l:List Int}(hp:e=kX f r (n::l))(h:me r n.toNat=false)(h2:(!dT f n)=false):e=kX f r l:=by rw[hp,kX,if_neg (by rw[h];simp),if_neg (by rw[h2];simp)]
theorem O4{w:aa}{c:Int}{h:Nat→Bool}{num:D}{code:Bool}{j:Nat}(hj:j<13):(cO w c h num code)[2+j]?=some (.b (h j)):=by
 have:=abz (w:=w) (c:=c) (h:=h) (num:=num) (code:=code) (i:=(j:Int)) zO zO;simpa using this
theorem Sl{k:Int}{v:nC}{r:jm}(hv:qU k v)(hr:eW k=some r)(j:Nat):v.h j=me r j:=by
 obtain⟨r',nN,_,_,_,h4⟩:=hv;rw[hr]at nN;cases nN;unfold Mh at h4;unfold me;cases e:r.num with
 |none=>rw[e]at h4;rw[h4.2];rfl
 |some E=>
  rw[e]at h4;obtain⟨m,hm,_,h5⟩:=h4;rw[h5];exact ad5 hm r.more j
theorem Sn{k:Int}{v:nC}{r:jm}(hv:KZ k v)(hr:eW k=some r):qU k v:=by
 rcases hv with hv|⟨hn,_⟩
 ·exact hv
 ·rw[hr]at hn;cases hn
theorem VY{k:Int}(h:(!(eW k).isSome)=false):∃r,eW k=some r:=by
 cases e:eW k with
 |none=>rw[e]at h;cases h
 |some r=>exact⟨r,rfl⟩
theorem NU{f:Fact}(h:(!(eW f.kind).isSome)=true):7=wU f:=by
 unfold wU;cases e:eW f.kind with
 |none=>rfl
 |some r=>rw[e]at h;cases h
theorem NX{f:Fact}{r:jm}(h:eW f.kind=some r):wU f=kX f r ic:=by unfold wU;rw[h]
theorem DB{f:Fact}(h1:(!isName f.key)=false)(h2:decide (f.lW<0)=false)(h3:f.cancelled=false)(h4:(decide (f.day< -25567)||decide (84005<f.day))=false):gJ f=wU f:=by
 unfold gJ;rw[if_neg (by rw[h1];simp),if_neg (by rw[h2];simp),if_neg (by rw[h3];simp),if_neg (by rw[h4];simp)]
theorem anO(f:Fact):iP [.agg (aX f),.agg [.str f.key,.i f.lW,.b true,.raw (.int .i64 0),.raw (.int .i64 0),.str [],.str [],.str [],.str [],.str [],.str [],.str [],.str [],.str [],.str [],.str [],.str [],.str [],.raw (.slice none 0 0),.raw (.slice none 0 0),.raw (.int .i64 0)]] [.agg (aX f),.agg (aX (xK f))]:=by
 refine .cons (Sub.refl _) (.cons (Sub.agg ?_) .nil);repeat(first|exact .nil|refine .cons (Sub.refl _) ?_|refine .cons (Sub.nil _ _) ?_)
open Go.Proofs Go.Proofs.Tryz
set_option maxRecDepth 20000
theorem Ps{f:Fact}(hf:nJ f){k:Int}{v:nC}{r:jm}(hv:qU k v)(hr:eW k=some r){n:Int}(h0:0≤n)(fR:n<13)(hh:me r n.toNat=true):Fc Tryz.prog 88 [.agg (aX f),eZ v,.i n] (.i (ee f r.code n (oD r n))):=by
 obtain⟨r',nN,e1,e2,e3,h4⟩:=hv;rw[hr]at nN;cases nN;have hg:=akE hr;unfold VW at hg;rw[Bool.and_eq_true]at hg;have yV:∀x∈r.more,x=0∨x=3∨x=1∨x=2∨x=10∨x=11∨x=12:=fun x hx=>by
  have:=List.all_eq_true.1 hg.1 x hx;simp only[Wo,Bool.or_eq_true,decide_eq_true_eq]at this;omega
 obtain⟨vw,vc,vh,vn,o_⟩:=v;simp only at e1 e2 e3;subst e3;have hnt:((n.toNat:Nat):Int)=n:=by omega
 unfold me b9 at hh;rw[Bool.or_eq_true,hnt]at hh;have yN:(r.more.any fun x=>decide (x=n))=true→n=0∨n=3∨n=1∨n=2∨n=10∨n=11∨n=12:=fun h=>by
  obtain⟨x,hx,e⟩:=List.any_eq_true.1 h;obtain rfl:x=n:=of_decide_eq_true e;exact yV x hx
 unfold Mh at h4;cases e:r.num with
 |none=>
  rw[e]at h4 hh;simp only at h4;obtain⟨rfl,_⟩:=h4;refine acr f hf vw vc vh r.code n _ (yN ?_);rcases hh with hh|hh
  ·simp at hh
  ·exact hh
 |some E=>
  rw[e]at h4 hh hg;simp only at h4 hg;obtain⟨m,hm,rfl,_⟩:=h4;rw[Bool.and_eq_true]at hg;have eU:=of_decide_eq_true hg.2.2;have hE:∀p∈E,(4≤p.1∧p.1≤9)∧p.2.isSome=true:=fun p hp=>by
   have:=List.all_eq_true.1 hg.2.1 p hp;rw[Bool.and_eq_true,Bool.and_eq_true]at this;exact⟨⟨of_decide_eq_true this.1.1,of_decide_eq_true this.1.2⟩,this.2⟩
  rcases hh with hh|hh
  ·simp only[Option.getD_some]at hh;obtain⟨p,hp,e2⟩:=List.any_eq_true.1 hh;have e2:=of_decide_eq_true e2;have h49:=(hE p hp).1;have JS:n∈m.map (·.1):=hm.1.mem_iff.2 (e2▸List.mem_map_of_mem (f:=Prod.fst) hp);have hB:=ail hm eU (fun p hp=>(hE p hp).2) JS;refine acp f hf vw vc vh m r.code n _ zO zO ?_;rw[hB];unfold oD;rw[e];rfl
  ·exact acm f hf vw vc vh m r.code n _ (yN hh)
def AA:List (Option Nat):=[some 33,some 34,some 35,some 36,some 32,some 37,some 38,some 3,none,some 4]
def YR(f:Fact):List (D→Prop):=[fun d=>∃m,Fh m∧d=uS gE eZ m,fun d=>d=.bc ((aX f).drop 4),fun d=>d=.i f.kind,fun d=>∃v,KZ f.kind v∧d=.bj [eZ v,.b (eW f.kind).isSome],fun d=>∃v,KZ f.kind v∧d=.bj [eZ v,.b (eW f.kind).isSome],
 fun d=>∃v,KZ f.kind v∧d=eZ v,fun d=>d=.b (eW f.kind).isSome,fun d=>d=.box 1 0,fun _=>True,fun d=>d=.b (eW f.kind).isSome]
def HD(f:Fact)(i:Nat):D→Prop:=((YR f)[i]?).getD fun _=>True
theorem NI:vY AA=true:=by decide+kernel
abbrev CF:Fr:=⟨60,[],false,none⟩
structure vJ(f:Fact)(listed:Array Bool)(env:Env)(U:ae):Prop where
 aA:pd AA (HD f) listed env
 b1:env.get 1=some (.bc (aX f))
 bo:aZ listed 7=false→U.get 1=none
 al:aZ listed 7=true→aZ listed 8=false→∃ds:List D,ds.length=17∧U.get 1=some (.cells ds)
 c8:aZ listed 8=true→aZ listed 7=true
 st:aZ listed 8=true→∃v,KZ f.kind v∧U.get 1=some (.cells (cO v.w v.c v.h (Cg v.num) v.code))
abbrev GX(f:Fact)(listed:Array Bool)(env:Env)(U:ae)(i:Nat)(o:Oper)(ops:Array Oper):Prop:=
 ∃(ι:Type) (A:ι→Prop) (d:ι→D) (am:ι→ae),dR CF.N o.dst=true∧On ops env o∧sj Tryz.prog o env U A d am∧∀j,A j→∃fD cX,Le CF (env.put o.dst (d j)) (am j) fD cX∧vJ f (listed.setIfInBounds i true) fD cX
section
variable{f:Fact} {ops:Array Oper} {listed:Array Bool} {env:Env} {U:ae} {i t:Nat} {o:Oper}
theorem vg{ι:Type}{A:ι→Prop}{d:ι→D}(hs:listed.size=ops.size)(hn:Nat.blt i ops.size=true)(hI:vJ f listed env U)(hi:AA[i]?=some (some t))(ht:(!(t==1))=true)(Jj:(!(i==7)&&!(i==8))=true)(hN:dR CF.N (some t)=true)(ho:o.dst=some t)(hg:o.guard=none)(hV:∀j,A j→HD f i (d j))(hq:sj Tryz.prog o env U A d (fun _=>U)):GX f listed env U i o ops:=by
 have aY:i<listed.size:=by rw[hs];simpa[Nat.blt_eq]using hn
 rw[Bool.and_eq_true]at Jj;have h7:i≠7:=by simpa using Jj.1
 have h8:i≠8:=by simpa using Jj.2
 have Kg:t≠1:=by simpa using ht
 refine⟨ι,A,d,_,by rw[ho];exact hN,tv hg,hq,fun j hj=>⟨(t,d j)::env,U,by rw[ho];exact Le.refl _ _ _,hI.aA.put NI aY hi (hV j hj),by rw[Env.bf,if_neg Kg];exact hI.b1,fun e=>hI.bo ?_,fun e e'=>hI.al ?_ ?_,fun e=>BQ aY (hI.c8 ?_),fun e=>hI.st ?_⟩⟩;all_goals first|(rwa[fp aY,if_neg h7]at e;done)|(rwa[fp aY,if_neg h8]at e';done)|(rwa[fp aY,if_neg h8]at e;done)
theorem X'{z:Value}(hs:listed.size=ops.size)(hn:Nat.blt 8 ops.size=true)(hI:vJ f listed env U)(hl:aZ listed 7=false)(hi:AA[7]?=some (some t))(ht:(!(t==1))=true)(hN:dR CF.N (some t)=true)(ho:o.dst=some t)(hg:o.guard=none)(hV:HD f 7 (.box 1 0))(hz:(z.cells.toList.map lR).length=17)
  (hq:U.get 1=none→aq Tryz.prog o env U (.box 1 0) ((1,.cells (z.cells.toList.map lR))::U)):GX f listed env U 7 o ops:=by
 have rv:8<listed.size:=by rw[hs];simpa[Nat.blt_eq]using hn
 have aY:7<listed.size:=by omega
 have h8:aZ listed 8=false:=by
  cases e:aZ listed 8 with
  |false=>rfl
  |true=>have:=hI.c8 e;rw[hl]at this;cases this
 have Kg:t≠1:=by simpa using ht
 refine⟨_,_,_,_,by rw[ho];exact hN,tv hg,(hq (hI.bo hl)).o0,fun j hj=>⟨(t,.box 1 0)::env,_,by rw[ho];exact Le.refl _ _ _,hI.aA.put NI aY hi hV,by rw[Env.bf,if_neg Kg];exact hI.b1,fun e=>?_,fun _ _=>⟨_,hz,by rw[ae.bf,if_pos rfl]⟩,fun _=>by rw[fp aY,if_pos rfl],fun e=>?_⟩⟩
 ·rw[fp aY,if_pos rfl]at e;cases e
 ·rw[fp aY,if_neg zD,h8]at e;cases e
theorem alz{v:nC}(hs:listed.size=ops.size)(hn:Nat.blt 8 ops.size=true)(hI:vJ f listed env U)(hl:aZ listed 8=false)(h7:aZ listed 7=true)(hi:AA[8]?=some none)(ho:o.dst=none)(hg:o.guard=none)(hv:KZ f.kind v)
  (hq:∀ds:List D,ds.length=17→U.get 1=some (.cells ds)→aq Tryz.prog o env U (.raw undef) (U.set 1 (.cells (cO v.w v.c v.h (Cg v.num) v.code)))):GX f listed env U 8 o ops:=by
 have aY:8<listed.size:=by rw[hs];simpa[Nat.blt_eq]using hn
 obtain⟨ds,g1,g2⟩:=hI.al h7 hl;refine⟨_,_,_,_,by rw[ho];rfl,tv hg,(hq ds g1 g2).o0,fun j hj=>⟨env,_,by rw[ho];exact Le.refl _ _ _,hI.aA.none aY hi,hI.b1,fun e=>?_,fun _ e=>?_,fun _=>BQ aY h7,fun _=>⟨v,hv,by rw[ae.dV,if_pos rfl]⟩⟩⟩
 ·rw[fp aY,if_neg zD,h7]at e;cases e
 ·rw[fp aY,if_pos rfl]at e;cases e
end
theorem afB{f:Fact}{n:Nat}{env:Env}{U:ae}(h1:env.get 1=some (.bc (aX f)))(bY:U.get 1=none):vJ f (Array.replicate n false) env U:=by
 refine⟨fun j t h=>?_,h1,fun _=>bY,fun h=>?_,fun h=>?_,fun h=>?_⟩<;>(rw[zg]at h;cases h)
theorem abD{f:Fact}{listed:Array Bool}{env:Env}{U:ae}(dW:∀i,i<10→aZ listed i=true)(hI:vJ f listed env U):∃v,KZ f.kind v∧Le CF env U [(1,.bc (aX f)),(3,.box 1 0),(4,.b (eW f.kind).isSome)] [(1,.cells (cO v.w v.c v.h (Cg v.num) v.code))]:=by
 obtain⟨v,hv,ho⟩:=hI.st (dW 8 zD);obtain⟨d3,e3,q3⟩:=hI.aA 7 3 (dW 7 zD) rfl;obtain⟨d4,e4,q4⟩:=hI.aA 9 4 (dW 9 zD) rfl;have q3:d3=.box 1 0:=q3;have q4:d4=.b (eW f.kind).isSome:=q4;subst q3;subst q4;refine⟨v,hv,Le.mk rfl (.cons hI.b1 (Sub.refl _) rfl (.cons e3 (Sub.refl _) rfl (.cons e4 (Sub.refl _) rfl .nil))) (.cons ho ?_ .nil)⟩;obtain⟨w,c,h,nu,code⟩:=v;cases nu<;>rfl
theorem af7(w:World)(O:Nat→Prop)(ρ:az):V w O ρ (eZ Ao) (.agg #[.string ⟨#[]⟩,.int .i64 0,.bool false,.bool false,.bool false,.bool false,.bool false,.bool false,.bool false,.bool false,.bool false,.bool false,.bool false,.bool false,.bool false,.map none,.bool false]):=by
 simp only[V];exact⟨_,rfl,by simp[V,Vs,aG,Ao,D.i,D.b]⟩
structure Zm(f:Fact)(vw:aa)(vc:Int)(vh:Nat→Bool)(o_:Bool)(r:jm)where
 pre:List Int
 rest:List Int
 hx:ic=pre++rest
 hp:gJ f=kX f r rest
structure Zl(f:Fact)(vw:aa)(vc:Int)(vh:Nat→Bool)(m:iv)(o_:Bool)(r:jm)where
 pre:List Int
 rest:List Int
 hx:ic=pre++rest
 hp:gJ f=kX f r rest
theorem NT(f:Fact)(hf:nJ f):Fc Tryz.prog 44 [.agg (aX f)] (.i (gJ f)):=by
 refine Fc.mk' [2] func44 rfl ntmps44 rfl rfl rfl (fun t w=>results_tmp results44 t _ w) ?_;refine go [11,17] ?_;refine oP (ai call86 rfl (zr _)) ?_;refine br (fun h1=>?_) (fun h1=>?_)
 ·exact ah rfl (Sub.int (by unfold gJ;exact iT h1))
 ·refine br (fun h2=>?_) (fun h2=>?_)
  ·exact ah rfl (Sub.int (by(unfold gJ;exact iF h1 (iT h2))))
  ·refine br (fun h3=>?_) (fun h3=>?_)
   ·refine oP (ai call76 rfl (Fc.sub (akU f (xK f)) (anO f))) ?_;refine br (fun h4=>?_) (fun h4=>?_)
    ·exact ah rfl (Sub.int (by(unfold gJ;exact iF h1 (iF h2 (ga h3 (iT h4))))))
    ·exact ah rfl (Sub.int (by(unfold gJ;exact iF h1 (iF h2 (ga h3 (iF h4 rfl))))))
   ·refine br (fun h5=>?_) (fun h5=>?_)
    ·exact ah rfl (Sub.int (by(unfold gJ;exact iF h1 (iF h2 (iF h3 (iT h5))))))
    ·refine J.bE (Le.fY 1 0 rfl rfl rfl rfl) ?_;refine J.akt (A:=fun v=>KZ f.kind v) (fD:=fun _=>[(1,.bc (aX f)),(3,.box 1 0),(4,.b (eW f.kind).isSome)]) (cX:=fun v=>[(1,.cells (cO v.w v.c v.h (Cg v.num) v.code))]) (vJ f) lh zK ?_ ?_ ?_ ?_
     ·exact afB rfl rfl
     ·exact⟨(fun _ _ _ hs hI hl hd=>by
    skip;exact vg hs zK hI rfl rfl rfl rfl rfl rfl (fun m hm=>⟨m,hm,rfl⟩) (Vl call87 rfl af9 _)),
   (fun _ _ _ hs hI hl hd=>by
    skip;exact vg hs zK hI rfl rfl rfl rfl rfl rfl (fun _ _=>rfl) (aq.o0 (kl (n:=0) 3 4 underlying39 sizeOf3 rfl (by exact hI.b1) rfl _))),
   (fun _ _ _ hs hI hl hd=>by
    obtain⟨_,H9,rfl⟩:=hI.aA 1 34 (dp hd 1 zK) rfl;exact vg hs zK hI rfl rfl rfl rfl rfl rfl (fun _ _=>rfl) (aq.o0 (bP isAgg3 (by exact H9) _))),
   (fun _ _ _ hs hI hl hd=>by
    obtain⟨_,H8,mm,hA,rfl⟩:=hI.aA 0 33 (dp hd 0 zK) rfl;obtain⟨_,H_,rfl⟩:=hI.aA 2 35 (dp hd 2 zK) rfl;obtain⟨hk1,wF⟩:=af8 hA.1 hA.2 f.kind;exact vg hs zK hI rfl rfl rfl rfl rfl rfl (fun _ _=>⟨_,hk1,by rw[←wF]⟩) (aq.o0 (ajS eM (vD:=eZ) (m:=mm) (k:=f.kind) (d:=Ao) underlying123 zeroValue121 af7 (by exact H8) rfl (by exact H_) rfl))),
   (fun _ _ _ hs hI hl hd=>by
    obtain⟨_,H',v,hv,rfl⟩:=hI.aA 3 36 (dp hd 3 zK) rfl;exact vg hs zK hI rfl rfl rfl rfl rfl rfl (fun _ _=>⟨v,hv,rfl⟩) (aq.o0 (aT (by exact H') _))),
   (fun _ _ _ hs hI hl hd=>by
    obtain⟨_,AO,v,hv,rfl⟩:=hI.aA 4 32 (dp hd 4 zK) rfl;exact vg hs zK hI rfl rfl rfl rfl rfl rfl (fun _ _=>⟨v,hv,rfl⟩) (aq.o0 (eC (by exact AO) rfl _))),
   (fun _ _ _ hs hI hl hd=>by
    obtain⟨_,AO,v,hv,rfl⟩:=hI.aA 4 32 (dp hd 4 zK) rfl;exact vg hs zK hI rfl rfl rfl rfl rfl rfl (fun _ _=>rfl) (aq.o0 (eC (by exact AO) rfl _))),
   (fun _ _ _ hs hI hl hd=>by
    skip;exact X' hs zK hI hl rfl rfl rfl rfl rfl rfl rfl (fun bY=>jh 1 zeroValue121 bY)),
   (fun _ _ _ hs hI hl hd=>by
    obtain⟨_,Ia,v,hv,rfl⟩:=hI.aA 5 37 (dp hd 5 zK) rfl;obtain⟨_,e3,rfl⟩:=hI.aA 7 3 (dp hd 7 zK) rfl;exact alz (v:=v) hs zK hI hl (dp hd 7 zK) rfl rfl rfl hv (fun ds h1 h2=>km sizeOf121 (by exact e3) (by exact Ia) rfl (by obtain⟨w,c,h,nu,code⟩:=v;cases nu<;>rfl) h2 h1)),
   (fun _ _ _ hs hI hl hd=>by
    obtain⟨_,v8,rfl⟩:=hI.aA 6 38 (dp hd 6 zK) rfl;exact vg hs zK hI rfl rfl rfl rfl rfl rfl (fun _ _=>rfl) (aq.o0 (zX (by exact v8) _))),trivial⟩
     ·intro listed e ob hs dW hI;exact abD dW hI
     ·rintro⟨vw,vc,vh,_|m,o_⟩ hv
      ·show J _ _ _ _ [(1,.bc (aX f)),(3,.box 1 0),(4,.b (eW f.kind).isSome)] [(1,.cells (cO vw vc vh (D.raw (.map none)) o_))];refine go [11,17] ?_;refine br (fun h6=>?_) (fun h6=>?_)
       ·exact ah rfl (Sub.int (by exact(NU h6).trans (DB h1 h2 h3 h5).symm))
       ·obtain⟨r,hr⟩:=VY h6;have hk:=Sn hv hr;have hh:∀j,vh j=me r j:=Sl hk hr;refine J.loop (ι:=Zm f vw vc vh o_ r) (fun sx=>[(1,.bc (aX f)),(3,.box 1 0),(41,.i sx.pre.length)]) (fun sx=>[(1,.cells (cO vw vc vh (D.raw (.map none)) o_))]) (fun sx=>sx.rest.length) ⟨[],_,rfl,(DB h1 h2 h3 h5).trans (NX hr)⟩ ?_ ?_
        ·exact Le.mk rfl (.s rfl rfl (.s rfl rfl (.s rfl rfl .nil))) (.cons rfl rfl .nil)
        ·rintro⟨pre,rest,hx,hp⟩;show J _ _ _ _ [(1,.bc (aX f)),(3,.box 1 0),(41,.i pre.length)] [(1,.cells (cO vw vc vh (D.raw (.map none)) o_))];rcases rest with _|⟨x,rest⟩
         ·have hl:=congrArg List.length hx;simp only[List.length_append,List.length_cons,List.length_nil]at hl;refine go [11,17] ?_;refine a_ zQ ?_;refine go [11,17] ?_;exact ah rfl (Sub.int (by exact hp.symm))
         ·obtain⟨e9,fR⟩:=Eh hx;subst e9;refine go [11,17] ?_;refine bk zQ ?_;refine J.af [.p,.p,.p,.r] ?_;refine .mv rfl rfl<|.P rfl (im (n:=12) 118 2 underlying121 sizeOf118 rfl rfl)<|.P rfl (CD (o2:=2+pre.length) underlying118 sizeOf4 rfl rfl zO zO zO)<|.R rfl (iV isAgg4 rfl rfl (O4 zO))<|.nil ?_;refine go [11,17] ?_;refine br (fun h7=>?_) (fun h7=>?_)
          ·refine oP (ai call88 rfl (Ps (v:=⟨vw,vc,vh,none,o_⟩) hf hk hr (n:=(pre.length:Int)) zO zO (by rw[Int.toNat_natCast,←hh];assumption))) ?_;refine br (fun h8=>?_) (fun h8=>?_)
           ·exact ah rfl (Sub.int (by exact Pt hp (by rw[Int.toNat_natCast,←hh];assumption) zA))
           ·refine go [11,17] ?_;refine sd (aw zO) ?_;exact nx ⟨pre++[(pre.length:Int)],rest,by simp[hx],by exact Pv hp (by rw[Int.toNat_natCast,←hh];assumption) zA⟩ zS (Le.mk rfl (.s rfl rfl (.s rfl rfl (.cons rfl (Sub.int zS) rfl .nil))) (.cons rfl rfl .nil))
          ·refine oP (ai call89 rfl (OZ f (pre.length:Int) zO zO)) ?_;refine br (fun h9=>?_) (fun h9=>?_)
           ·exact ah rfl (Sub.int (by exact Pw hp (by rw[Int.toNat_natCast,←hh];assumption) zA))
           ·refine go [11,17] ?_;refine sd (aw zO) ?_;exact nx ⟨pre++[(pre.length:Int)],rest,by simp[hx],by exact Px hp (by rw[Int.toNat_natCast,←hh];assumption) zA⟩ zS (Le.mk rfl (.s rfl rfl (.s rfl rfl (.cons rfl (Sub.int zS) rfl .nil))) (.cons rfl rfl .nil))
      ·show J _ _ _ _ [(1,.bc (aX f)),(3,.box 1 0),(4,.b (eW f.kind).isSome)] [(1,.cells (cO vw vc vh (c7 m) o_))];refine go [11,17] ?_;refine br (fun ct=>?_) (fun ct=>?_)
       ·exact ah rfl (Sub.int (by exact(NU ct).trans (DB h1 h2 h3 h5).symm))
       ·obtain⟨r,hr⟩:=VY ct;have hk:=Sn hv hr;have hh:∀j,vh j=me r j:=Sl hk hr;refine J.loop (ι:=Zl f vw vc vh m o_ r) (fun sx=>[(1,.bc (aX f)),(3,.box 1 0),(41,.i sx.pre.length)]) (fun sx=>[(1,.cells (cO vw vc vh (c7 m) o_))]) (fun sx=>sx.rest.length) ⟨[],_,rfl,(DB h1 h2 h3 h5).trans (NX hr)⟩ ?_ ?_
        ·exact Le.mk rfl (.s rfl rfl (.s rfl rfl (.s rfl rfl .nil))) (.cons rfl rfl .nil)
        ·rintro⟨pre,rest,hx,hp⟩;show J _ _ _ _ [(1,.bc (aX f)),(3,.box 1 0),(41,.i pre.length)] [(1,.cells (cO vw vc vh (c7 m) o_))];rcases rest with _|⟨x,rest⟩
         ·have hl:=congrArg List.length hx;simp only[List.length_append,List.length_cons,List.length_nil]at hl;refine go [11,17] ?_;refine a_ zQ ?_;refine go [11,17] ?_;exact ah rfl (Sub.int (by exact hp.symm))
         ·obtain⟨e9,fR⟩:=Eh hx;subst e9;refine go [11,17] ?_;refine bk zQ ?_;refine J.af [.p,.p,.p,.r] ?_;refine .mv rfl rfl<|.P rfl (im (n:=12) 118 2 underlying121 sizeOf118 rfl rfl)<|.P rfl (CD (o2:=2+pre.length) underlying118 sizeOf4 rfl rfl zO zO zO)<|.R rfl (iV isAgg4 rfl rfl (O4 zO))<|.nil ?_;refine go [11,17] ?_;refine br (fun cI=>?_) (fun cI=>?_)
          ·refine oP (ai call88 rfl (Ps (v:=⟨vw,vc,vh,some m,o_⟩) hf hk hr (n:=(pre.length:Int)) zO zO (by rw[Int.toNat_natCast,←hh];assumption))) ?_;refine br (fun dI=>?_) (fun dI=>?_)
           ·exact ah rfl (Sub.int (by exact Pt hp (by rw[Int.toNat_natCast,←hh];assumption) zA))
           ·refine go [11,17] ?_;refine sd (aw zO) ?_;exact nx ⟨pre++[(pre.length:Int)],rest,by simp[hx],by exact Pv hp (by rw[Int.toNat_natCast,←hh];assumption) zA⟩ zS (Le.mk rfl (.s rfl rfl (.s rfl rfl (.cons rfl (Sub.int zS) rfl .nil))) (.cons rfl rfl .nil))
          ·refine oP (ai call89 rfl (OZ f (pre.length:Int) zO zO)) ?_;refine br (fun fR=>?_) (fun fR=>?_)
           ·exact ah rfl (Sub.int (by exact Pw hp (by rw[Int.toNat_natCast,←hh];assumption) zA))
           ·refine go [11,17] ?_;refine sd (aw zO) ?_;exact nx ⟨pre++[(pre.length:Int)],rest,by simp[hx],by exact Px hp (by rw[Int.toNat_natCast,←hh];assumption) zA⟩ zS (Le.mk rfl (.s rfl rfl (.s rfl rfl (.cons rfl (Sub.int zS) rfl .nil))) (.cons rfl rfl .nil))
end Go.T
namespace Go.T
open Go
abbrev UM:=List (aa×aa)
def aI(u:UM):List aa:=u.map (·.1)
def dh(u:UM)(x:aa):UM:=if jZ u x=true then u else dN u x x
structure qT(u:UM)(lS:aa→aa)(rk:aa→Nat):Prop where
 val:∀x∈aI u,dU [] u x∈aI u
 step:∀x∈aI u,dU [] u x≠x→lS x=lS (dU [] u x)∧rk (dU [] u x)<rk x
 stop:∀x∈aI u,dU [] u x=x→lS x=x
theorem qT.Ac{u:UM}{lS:aa→aa}{rk:aa→Nat}(h:qT u lS rk):∀(n:Nat)(x:aa),rk x=n→x∈aI u→lS x∈aI u∧dU [] u (lS x)=lS x:=by
 intro n;induction n using Nat.strongRecOn with
 |_ n ih=>
  intro x hn hx;by_cases e:dU [] u x=x
  ·rw[h.stop x hx e];exact⟨hx,e⟩
  ·obtain⟨h1,h2⟩:=h.step x hx e;rw[h1];exact ih _ (hn▸h2) _ rfl (h.val x hx)
theorem qT.uniq{u:UM}{lS VM:aa→aa}{rk rk':aa→Nat}(h:qT u lS rk)(h':qT u VM rk'):∀(n:Nat)(x:aa),rk x=n→x∈aI u→lS x=VM x:=by
 intro n;induction n using Nat.strongRecOn with
 |_ n ih=>
  intro x hn hx;by_cases e:dU [] u x=x
  ·rw[h.stop x hx e,h'.stop x hx e]
  ·obtain⟨h1,h2⟩:=h.step x hx e;rw[h1,(h'.step x hx e).1];exact ih _ (hn▸h2) _ rfl (h.val x hx)
def lf(u:UM):Prop:=∃p:(aa→aa)×(aa→Nat),qT u p.1 p.2
open Classical in
noncomputable def aJ(u:UM)(x:aa):aa:=if h:lf u then(Classical.choose h).1 x else x
theorem Gu{u:UM}{lS:aa→aa}{rk:aa→Nat}(h:qT u lS rk){x:aa}(hx:x∈aI u):aJ u x=lS x:=by
 have hg:lf u:=⟨(lS,rk),h⟩;unfold aJ;rw[dif_pos hg];exact((Classical.choose_spec hg).uniq h) _ x rfl hx
theorem lf.wj{u:UM}(h:lf u):∃rk,qT u (aJ u) rk:=by
 obtain⟨⟨lS,rk⟩,hf⟩:=h;have key:∀x∈aI u,aJ u x=lS x:=fun x hx=>Gu hf hx;refine⟨rk,hf.val,fun x hx e=>?_,fun x hx e=>?_⟩
 ·rw[key x hx,key _ (hf.val x hx)];exact hf.step x hx e
 ·rw[key x hx];exact hf.stop x hx e
theorem QB{u:UM}{x:aa}:jZ u x=true↔x∈aI u:=by
 unfold jZ aI;rw[List.any_eq_true,List.mem_map];constructor
 ·rintro⟨p,hp,h⟩;exact⟨p,hp,(of_decide_eq_true h).symm⟩
 ·rintro⟨p,hp,rfl⟩;exact⟨p,hp,by simp⟩
theorem rJ{u:UM}{x v y:aa}:y∈aI (dN u x v)↔y=x∨y∈aI u:=by
 induction u with
 |nil=>simp[dN,aI]
 |cons p r ih=>
  obtain⟨a,b⟩:=p;simp only[dN];split
  ·rename_i e;subst e;simp[aI]
  ·have:=ih;simp only[aI,List.map_cons,List.mem_cons]at this⊢;rw[this];constructor
   ·rintro(h|h|h)
    ·exact .inr (.inl h)
    ·exact .inl h
    ·exact .inr (.inr h)
   ·rintro(h|h|h)
    ·exact .inr (.inl h)
    ·exact .inl h
    ·exact .inr (.inr h)
theorem yt{u:UM}{x v y:aa}:dU [] (dN u x v) y=if y=x then v else dU [] u y:=by
 induction u with
 |nil=>simp[dN,dU]
 |cons p r ih=>
  obtain⟨a,b⟩:=p;simp only[dN];split
  ·rename_i e;subst e;simp only[dU];split<;>rfl
  ·rename_i e;simp only[dU,ih];by_cases h1:y=a
   ·subst h1;rw[if_pos rfl,if_pos rfl,if_neg (fun h=>e h.symm)]
   ·rw[if_neg h1,if_neg h1]
theorem adh:lf []:=⟨(id,fun _=>0),fun x hx=>by simp[aI]at hx,fun x hx=>by simp[aI]at hx,fun x hx=>by simp[aI]at hx⟩
theorem Du{u:UM}(h:lf u)(x:aa):lf (dh u x)∧(∀y,y∈aI (dh u x)↔y=x∨y∈aI u)∧(∀y∈aI u,aJ (dh u x) y=aJ u y)∧(x∉aI u→aJ (dh u x) x=x):=by
 unfold dh;by_cases hx:x∈aI u
 ·rw[if_pos (QB.2 hx)];exact⟨h,fun y=>⟨.inr,fun e=>e.elim (fun e=>e▸hx) id⟩,fun _ _=>rfl,fun e=>absurd hx e⟩
 ·rw[if_neg (fun e=>hx (QB.1 e))];obtain⟨rk,hf⟩:=h.wj;have aD:∀y∈aI u,y≠x:=fun y hy e=>hx (e▸hy);have hF:qT (dN u x x) (fun y=>if y=x then x else aJ u y) rk:=by
   refine⟨fun y hy=>?_,fun y hy e=>?_,fun y hy e=>?_⟩
   ·rw[yt];split
    ·exact rJ.2 (.inl rfl)
    ·rename_i e;exact rJ.2 (.inr (hf.val y ((rJ.1 hy).resolve_left e)))
   ·rw[yt]at e⊢;by_cases g:y=x
    ·rw[if_pos g]at e;exact absurd g.symm e
    ·have wP:=(rJ.1 hy).resolve_left g;rw[if_neg g]at e⊢;rw[if_neg g,if_neg (aD _ (hf.val y wP))];exact hf.step y wP e
   ·rw[yt]at e;by_cases g:y=x
    ·rw[if_pos g];exact g.symm
    ·have wP:=(rJ.1 hy).resolve_left g;rw[if_neg g]at e⊢;exact hf.stop y wP e
  refine⟨⟨(_,_),hF⟩,fun y=>rJ,fun y hy=>?_,fun _=>?_⟩
  ·rw[Gu hF (rJ.2 (.inr hy)),if_neg (aD y hy)]
  ·rw[Gu hF (rJ.2 (.inl rfl)),if_pos rfl]
theorem SO{u:UM}(h:lf u){a b:aa}(ha:a∈aI u)(hb:b∈aI u):lf (dN u (aJ u a) (aJ u b))∧(∀y,y∈aI (dN u (aJ u a) (aJ u b))↔y∈aI u)∧
  (∀y∈aI u,aJ (dN u (aJ u a) (aJ u b)) y=if aJ u y=aJ u a then aJ u b else aJ u y):=by
 obtain⟨rk,hf⟩:=h.wj;obtain⟨ka,sa⟩:=hf.Ac _ a rfl ha;obtain⟨kb,sb⟩:=hf.Ac _ b rfl hb;have wH:∀y,y∈aI (dN u (aJ u a) (aJ u b))↔y∈aI u:=fun y=>rJ.trans ⟨fun e=>e.elim (fun e=>e▸ka) id,.inr⟩;have ra:aJ u (aJ u a)=aJ u a:=hf.stop _ ka sa;have rb:aJ u (aJ u b)=aJ u b:=hf.stop _ kb sb;have hF:qT (dN u (aJ u a) (aJ u b)) (fun y=>if aJ u y=aJ u a then aJ u b else aJ u y) (fun y=>if aJ u y=aJ u a then rk y+rk (aJ u b)+1 else rk y):=by
  refine⟨fun y hy=>?_,fun y hy e=>?_,fun y hy e=>?_⟩
  ·rw[wH]at hy⊢;rw[yt];split
   ·exact kb
   ·exact hf.val y hy
  ·rw[wH]at hy;rw[yt]at e⊢;by_cases g:y=aJ u a
   ·rw[if_pos g]at e⊢;have wu:aJ u b≠aJ u a:=fun e'=>e (e'.trans g.symm);subst g;simp only[ra,rb,if_true,if_neg wu];exact⟨trivial,by omega⟩
   ·rw[if_neg g]at e⊢;obtain⟨h1,h2⟩:=hf.step y hy e;simp only[←h1];refine⟨trivial,?_⟩;split<;>omega
  ·rw[wH]at hy;rw[yt]at e;by_cases g:y=aJ u a
   ·rw[if_pos g]at e;subst g;simp only[ra,if_true];exact e
   ·rw[if_neg g]at e;have h1:=hf.stop y hy e;have:aJ u y≠aJ u a:=fun e'=>g (h1.symm.trans e');simp only[if_neg this];exact h1
 exact⟨⟨(_,_),hF⟩,wH,fun y hy=>Gu hF ((wH y).2 hy)⟩
noncomputable def rI(a:aa)(u:UM)(x:aa):UM:=dN (dh u x) (aJ (dh u x) x) (aJ (dh u x) a)
noncomputable def uU(u:UM)(l:List aa):UM:=l.foldl (rI (l.headD [])) u
theorem R5{u:UM}(h:lf u){a x:aa}(ha:a=x∨a∈aI u):lf (rI a u x)∧(∀y,y∈aI (rI a u x)↔y=x∨y∈aI u):=by
 obtain⟨h1,h2,h3,h4⟩:=Du h x;obtain⟨g1,g2,g3⟩:=SO h1 ((h2 x).2 (.inl rfl)) ((h2 a).2 ha);exact⟨g1,fun y=>(g2 y).trans (h2 y)⟩
end Go.T
namespace Go.T
open Go Go.Proofs Go.Proofs.Tryz
set_option maxRecDepth 20000
theorem Nw(f:Fact)(hf:nJ f):Fc Tryz.prog 43 [.agg (aX f)] (.b (decide (gJ f≠0))):=by
 refine Fc.mk' [2] func43 rfl ntmps43 rfl rfl rfl (fun t w=>results_tmp results43 t _ w) ?_;refine go [] ?_;refine oP (ai call44 rfl (NT _ zA)) ?_;exact ah rfl (Sub.refl _)
theorem kp:kr Tryz.prog 9 D.str C_ dj:=afZ underlying9
theorem ML(w:World)(O:Nat→Prop)(ρ:az):V w O ρ (D.str []) (.string ⟨#[]⟩):=by simp[V,aG]
theorem Ni(u:UM)(x:aa):dF Tryz.prog 90 [.bR 60,.str x] [(60,.mp (bu D.str D.str u))] (.bj []) [(60,.mp (bu D.str D.str (dh u x)))]:=by
 refine dF.mk' [] func90 rfl ntmps90 rfl rfl rfl (fun t w=>results_none results90 t _ w) ?_;refine go [] ?_;refine oR (ajR kp (vD:=D.str) (k:=x) (d:=[]) underlying128 zeroValue9 ML rfl rfl rfl rfl) ?_;refine br (fun h1=>?_) (fun h1=>?_)
 ·refine oW (eD kp (vD:=D.str) (k:=x) (v:=x) underlying128 rfl rfl rfl rfl rfl rfl) ?_;exact Me (Sub.refl _) (.eq rfl (by(unfold dh;(rw[if_neg (by rw[show jZ u x=false by simpa using h1];simp)];done))) (gh _ _) .nil)
 ·exact Me (Sub.refl _) (.eq rfl (by(unfold dh;(rw[if_pos (by simpa using h1)];done))) (gh _ _) .nil)
structure akB(u:UM)(rk:aa→Nat)(x:aa)where
 sy:aa
 hy:sy∈aI u
 hr:aJ u sy=aJ u x
theorem Mg(u:UM)(hg:lf u)(x:aa)(hx:x∈aI u):dF Tryz.prog 129 [.bR 60,.str x] [(60,.mp (bu D.str D.str u))] (.str (aJ u x)) [(60,.mp (bu D.str D.str u))]:=by
 refine dF.mk' [4] func129 rfl ntmps129 rfl rfl rfl (fun t w=>results_tmp results129 t _ w) ?_;obtain⟨rk,hf⟩:=hg.wj;refine go [] ?_;refine J.loop (ι:=akB u rk x) (fun sx=>[(0,.bR 60),(1,.str sx.sy)]) (fun sx=>[(60,.mp (bu D.str D.str u))]) (fun sx=>rk sx.sy) ⟨x,hx,rfl⟩ ?_ ?_
 ·exact Le.mk rfl (.s rfl rfl (.s rfl rfl .nil)) (.eq rfl (by rfl) (gh _ _) .nil)
 ·rintro⟨sy,hy,hr⟩;show J _ _ _ _ [(0,.bR 60),(1,.str sy)] [(60,.mp (bu D.str D.str u))];refine go [] ?_;refine oR (Gj kp (vD:=D.str) (k:=sy) (d:=[]) underlying128 zeroValue9 ML rfl rfl rfl rfl) ?_;refine br (fun h1=>?_) (fun h1=>?_)
  ·refine oR (Gj kp (vD:=D.str) (k:=sy) (d:=[]) underlying128 zeroValue9 ML rfl rfl rfl rfl) ?_;exact nx ⟨dU [] u sy,hf.val _ hy,by rw[←hr];exact(hf.step _ hy (by simpa using h1)).1.symm⟩ (by exact(hf.step _ hy (by simpa using h1)).2) (Le.mk rfl (.s rfl rfl (.s rfl rfl .nil)) (.eq rfl (by rfl) (gh _ _) .nil))
  ·refine go [] ?_;exact vm rfl (Sub.str (by rw[←hr];exact(hf.stop _ hy (by simpa using h1)).symm)) (.eq rfl (by rfl) (gh _ _) .nil)
theorem ael{l:List aa}(h:l≠[]):(l.map fun s=>[D.str s])[(0:Int).toNat]?=some [.str (l.headD [])]:=by
 cases l with
 |nil=>exact absurd rfl h
 |cons a l=>rfl
structure afT(u:UM)(l:List aa)where
 pre:List aa
 rest:List aa
 u1:UM
 hx:l=pre++rest
 hu:uU u l=rest.foldl (rI (l.headD [])) u1
 jr:lf u1
 hh:pre=[]∨l.headD []∈aI u1
theorem R7(u:UM)(hg:lf u)(l:List aa):dF Tryz.prog 91 [.bR 60,aL l] [(60,.mp (bu D.str D.str u))] (.bj []) [(60,.mp (bu D.str D.str (uU u l)))]:=by
 refine dF.mk' [] func91 rfl ntmps91 rfl rfl rfl (fun t w=>results_none results91 t _ w) ?_;refine J.eu 1 rfl (fun hb=>?_);simp only[List.length_map,aG]at hb;refine go [] ?_;refine J.loop (ι:=afT u l) (fun sx=>[(0,.bR 60),(1,aL l),(6,aL l),(7,.i l.length),(8,.i sx.pre.length)]) (fun sx=>[(60,.mp (bu D.str D.str sx.u1))]) (fun sx=>sx.rest.length) ⟨[],l,u,rfl,rfl,hg,.inl rfl⟩ ?_ ?_
 ·exact Le.mk rfl (.s rfl rfl (.s rfl rfl (.s rfl rfl (.cons rfl (Sub.int zS) rfl (.s rfl rfl .nil))))) (.eq rfl (by rfl) (gh _ _) .nil)
 ·rintro⟨pre,rest,u1,hx,hu,jr,hh⟩;show J _ _ _ _ [(0,.bR 60),(1,aL l),(6,aL l),(7,.i l.length),(8,.i pre.length)] [(60,.mp (bu D.str D.str u1))];have hl:=congrArg List.length hx;simp only[List.length_append]at hl;rcases rest with _|⟨x,rest⟩
  ·skip;refine go [] ?_;refine a_ (by simp at hl⊢;omega) ?_;refine J.nil ?_;exact Me (Sub.refl _) (.eq rfl (by rw[show uU u l=u1 from hu]) (gh _ _) .nil)
  ·simp only[List.length_cons]at hl;have ES:l.headD []=x∨l.headD []∈aI u1:=by
     rcases hh with e|e
     ·left;rw[hx,e];rfl
     ·exact .inr e
   have hA:=Du jr x;have JK:=ES;refine go [] ?_;refine bk zQ ?_;refine ix zO (aS (fun s=>[D.str s]) hx rfl) ?_;refine oW (hJ call90 rfl (Ni _ _) (.cons rfl (gh _ _) .nil) rfl rfl) ?_;refine oW (hJ call129 rfl (Mg _ hA.1 _ ((hA.2.1 _).2 (.inl rfl))) (.cons rfl (gh _ _) .nil) rfl rfl) ?_;refine ix zD (ael (l:=l) (by rw[hx];simp)) ?_;refine oW (hJ call129 rfl (Mg _ hA.1 _ ((hA.2.1 _).2 JK)) (.cons rfl (gh _ _) .nil) rfl rfl) ?_;refine oW (eD kp (vD:=D.str) (k:=(aJ (dh u1 x) x)) (v:=(aJ (dh u1 x) (l.headD []))) underlying128 rfl rfl rfl rfl rfl rfl) ?_;refine ord ?_;refine sd (aw zO) ?_;exact nx ⟨pre++[x],rest,rI (l.headD []) u1 x,by simp[hx],hu,(R5 jr ES).1,.inr (((R5 jr ES).2 _).2 ES)⟩ zS (Le.mk rfl (.s rfl rfl (.s rfl rfl (.s rfl rfl (.s rfl rfl (.cons rfl (Sub.int zS) rfl .nil))))) (.eq rfl (by rfl) (gh _ _) .nil))
end Go.T
namespace Go.Proofs
open Go.Shelf Go.RowKit Go.Lib Go.Sort
set_option maxRecDepth 20000
def Tryz.HV:Go.Shelf.Ren:=⟨fun|6=>46|10=>61|n=>n,fun|0=>0|3=>3|4=>4|22=>48|23=>9|25=>51|n=>n,fun|n=>n⟩
theorem Tryz.Ow:SlLaysH.n10 Tryz.prog Tryz.HV:={
 mixed:=by kernel_rfl
 f6:=⟨Tryz.f46.name,by decide,Tryz.func46.trans (congrArg some (by kernel_rfl))⟩
 f10:=⟨Tryz.f61.name,by decide,Tryz.func61.trans (congrArg some (by kernel_rfl))⟩
 t0:=Tryz.underlying0
 a0:=Tryz.isAgg0
 z0:=Tryz.sizeOf0
 v0:=Tryz.zeroValue0
 t3:=Tryz.underlying3
 a3:=Tryz.isAgg3
 z3:=Tryz.sizeOf3
 v3:=Tryz.zeroValue3
 t4:=Tryz.underlying4
 a4:=Tryz.isAgg4
 z4:=Tryz.sizeOf4
 v4:=Tryz.zeroValue4
 t22:=Tryz.underlying48
 a22:=Tryz.isAgg48
 z22:=Tryz.sizeOf48
 v22:=Tryz.zeroValue48
 a23:=Tryz.isAgg9
 z23:=Tryz.sizeOf9
 t25:=Tryz.underlying51
 a25:=Tryz.isAgg51
 z25:=Tryz.sizeOf51
 v25:=Tryz.zeroValue51
}
end Go.Proofs
namespace Go.T
open Go Go.Proofs Go.Shelf Go.RowKit Go.Lib Go.Sort
variable[bX]
theorem Vg(W:World)(b_ off:Nat)(d:Array (List UInt8)):putRow encStr W b_ off d=putRowK (fun s:List UInt8=>[encStr s]) 1 W b_ off d:=by
 unfold putRowK putRow
 congr 1
 funext c
 unfold putCells
 congr 1
 funext k x
 simp only[size_flatK,Nat.mul_one];by_cases h:off≤k∧k<off+d.size
 ·rw[if_pos h,if_pos h,get_flatK _ _ _ _ zO];simp[Nat.mod_one]
 ·rw[if_neg h,if_neg h]
theorem holds_one{w:World}{b_ off:Nat}{d:Array (List UInt8)}(h:HoldsK (fun s:List UInt8=>[encStr s]) 1 w b_ off d):Holds encStr w b_ off d:=by
 intro j hj;have:=h j (by simpa using hj);rw[get_flatK _ _ _ _ zO]at this;simpa[Nat.mod_one]using this
abbrev fB:={s:aa//s.length≤aG}
instance:Inhabited fB:=⟨⟨[],by simp[aG]⟩⟩
theorem AS:GW 1 (fun x:fB=>[D.str x.1]) (fun x=>[encStr x.1]):=by
 refine⟨fun _=>rfl,fun _=>rfl,fun x v hv=>?_,fun x w O ρ vs h=>?_,fun x w O ρ=>?_⟩
 ·simp only[List.mem_cons,List.not_mem_nil,or_false]at hv;subst hv;rfl
 ·simp only[Vs,V]at h;obtain⟨_,_,rfl,h1,rfl⟩:=h;rw[h1.1]
 ·simp only[Vs,V];exact⟨_,_,rfl,⟨rfl,x.2⟩,rfl⟩
theorem Ef(d:List fB):flatK (fun x:fB=>[encStr x.1]) 1 d.toArray=flatK (fun s:List UInt8=>[encStr s]) 1 (d.map Subtype.val).toArray:=by
 apply Array.ext
 ·simp
 ·intro i h1 h2;simp only[size_flatK,List.size_toArray]at h1;have hi:i<d.length:=by omega
  have e1:=get_flatK (fun x:fB=>[encStr x.1]) 1 d.toArray i (by simpa using h1);have e2:=get_flatK (fun s:List UInt8=>[encStr s]) 1 (d.map Subtype.val).toArray i (by simpa using h1);rw[getElem!_pos _ i (by simpa using h1)]at e1;rw[getElem!_pos _ i (by simpa using h1)]at e2;rw[e1,e2];simp[Nat.mod_one,hi]
theorem alp{P:Program}{r:Ren}(L:SlLaysM.n6 P r)(id:Nat)(l:List fB)(hl:l.length<4611686018427387904)(l2:List fB)(bN:l2.map Subtype.val=(l.map Subtype.val).mergeSort fun x y=>decide (x≤y)):
  dF P (r.f 6) [.gs id l.length] [(id,.arr 1 (l.map fun x=>[D.str x.1]))] (.bj []) [(id,.arr 1 (l2.map fun x=>[D.str x.1]))]:=⟨fun w O ρ vals aj cK hv=>by
 have hlen:l2.length=l.length:=by have:=congrArg List.length bN;simpa using this
 simp only[Vs,V]at hv;obtain⟨v1,us,rfl,h1,rfl⟩:=hv;rcases h1 with⟨hn,a,rfl⟩|⟨hn,aN,iD,rfl⟩
 ·obtain rfl:l=[]:=List.length_eq_zero_iff.1 hn;obtain rfl:l2=[]:=List.length_eq_zero_iff.1 hlen;refine Calls.mono (AnyM.slices_Sort_string_none L a 0 w) ?_;rintro e w' ⟨rfl,rfl⟩;exact⟨_,ρ,rfl,Tr.refl aj,by simp[V,Vs]⟩
 ·have eS:ae.get [(id,Ob.arr 1 (l.map fun x=>[D.str x.1]))] id=some (.arr 1 (l.map fun x=>[D.str x.1])):=by simp[ae.get]
  have ei:(Ob.arr 1 (l.map fun x:fB=>[D.str x.1])).live=true:=by
   cases l with
   |nil=>simp at hn
   |cons x l=>rfl
  obtain⟨l',h3,yO,c,T,hb,aY,rr,rC⟩:=aj.own id _ eS ei;rw[iD]at h3;cases h3;have rm:=J3 AS hb rC;have hH:HoldsK (fun s:List UInt8=>[encStr s]) 1 w aN.b aN.off (l.map Subtype.val).toArray:=by
   unfold HoldsK at*;rw[←Ef];exact rm
  have lA:aN.b<w.heap.size:=(Array.getElem?_eq_some_iff.1 hb).1;have key:=AnyM.slices_Sort_string L aN.b aN.off aN.cap (l.map Subtype.val) w (holds_one hH) lA (by simpa using hl);rw[List.length_map]at key;refine Calls.mono key ?_;rintro e w' ⟨rfl,n,os,rfl⟩;have Kj:grow (putRow encStr (Sort.ahead w n) aN.b aN.off ((l.map Subtype.val).mergeSort fun x y=>decide (x≤y)).toArray) os=sortWorldK (fun x:fB=>[encStr x.1]) 1 w aN.b aN.off n l2.toArray os:=by
   rw[Vg,←bN];unfold sortWorldK putRowK;rw[Ef]
  rw[Kj];have yF:(sortWorldK (fun x:fB=>[encStr x.1]) 1 w aN.b aN.off n l2.toArray os).heap[aN.b]?=some (.cells (putCells _root_.id aN.off (flatK (fun x:fB=>[encStr x.1]) 1 l2.toArray) c) T (0,0)):=by
   unfold sortWorldK putRowK putRow mapBlock Sort.grow Sort.ahead;simp only;rw[Array.getElem?_append_left (by simpa using lA),Array.getElem?_modify,if_pos rfl,hb];rfl
  have sY:w.heap.size≤(sortWorldK (fun x:fB=>[encStr x.1]) 1 w aN.b aN.off n l2.toArray os).heap.size:=size_sortWorldK_c _ 1 w aN.b aN.off n l2.toArray os;have Jn:HoldsK (fun x:fB=>[encStr x.1]) 1 (sortWorldK (fun x:fB=>[encStr x.1]) 1 w aN.b aN.off n l2.toArray os) aN.b aN.off l2.toArray:=holdsK_sortWorldK_c _ 1 w aN.b aN.off l.toArray l2.toArray n os rm lA (by simpa using hlen);have yR:∀b,b8 ρ [(id,Ob.arr 1 (l2.map fun x=>[D.str x.1]))] b→b8 ρ [(id,Ob.arr 1 (l.map fun x=>[D.str x.1]))] b:=by
   rintro b ⟨i,o,q,g1,g2,g3,g4⟩;obtain⟨rfl,_⟩:=pv g1;exact⟨_,_,q,eS,ei,g3,g4⟩
  refine⟨_,ρ,rfl,⟨bI.refl _,sY,fun b kG fZ=>?_,fun b kG=>.inl (yR b kG),⟨fun b kG=>Nat.lt_of_lt_of_le (aj.lt b kG) sY,fun i hi=>?_,fun i o g1 g2=>?_,fun i j o o' q q' g1 g2 _ _ _ _ _=>?_⟩,rfl,rfl,.inl ⟨rfl,Nat.le_add_right _ _⟩⟩,by simp[V,Vs]⟩
  ·refine QO kG fun e=>fZ ?_;exact⟨id,_,aN,eS,ei,iD,e.symm⟩
  ·exact aj.fresh i (I5 hi)
  ·obtain⟨rfl,rfl⟩:=pv g1;exact⟨aN,iD,yO,_,T,yF,by simpa[putCells]using aY,by simpa[hlen]using rr,M9 AS Jn⟩
  ·exact(pv g1).1.trans (pv g2).1.symm⟩
end Go.T
namespace Go.T
open Go Go.Proofs Go.Shelf Go.RowKit Go.Lib Go.Sort
variable[bX]
theorem VX{w:World}{O:Nat→Prop}{ρ:az}{id:Nat}{l l3:List fB}{aN:Loc}(aj:cF w O ρ [(id,Ob.arr 1 (l.map fun x=>[D.str x.1]))])(hl:l≠[])(iD:ρ id=some aN)(hlen:l3.length=l.length)(n:Nat)(os:Array Obj)(h:Nat):
  Tr O w ρ [(id,Ob.arr 1 (l.map fun x=>[D.str x.1]))] (grow (putRow encStr (Sort.ahead w n) aN.b aN.off (l3.map Subtype.val).toArray) os) ρ [(id,Ob.arr 1 ((l3.map fun x=>[D.str x.1]).take h))]:=by
 have eS:ae.get [(id,Ob.arr 1 (l.map fun x=>[D.str x.1]))] id=some (.arr 1 (l.map fun x=>[D.str x.1])):=by simp[ae.get]
 have ei:(Ob.arr 1 (l.map fun x:fB=>[D.str x.1])).live=true:=by
  cases l with
  |nil=>exact absurd rfl hl
  |cons x l=>rfl
 obtain⟨l',h3,yO,c,T,hb,aY,rr,rC⟩:=aj.own id _ eS ei;rw[iD]at h3;cases h3;have rm:=J3 AS hb rC;have lA:aN.b<w.heap.size:=(Array.getElem?_eq_some_iff.1 hb).1;have Kj:grow (putRow encStr (Sort.ahead w n) aN.b aN.off (l3.map Subtype.val).toArray) os=sortWorldK (fun x:fB=>[encStr x.1]) 1 w aN.b aN.off n l3.toArray os:=by
  rw[Vg];unfold sortWorldK putRowK;rw[Ef]
 rw[Kj];have yF:(sortWorldK (fun x:fB=>[encStr x.1]) 1 w aN.b aN.off n l3.toArray os).heap[aN.b]?=some (.cells (putCells _root_.id aN.off (flatK (fun x:fB=>[encStr x.1]) 1 l3.toArray) c) T (0,0)):=by
  unfold sortWorldK putRowK putRow mapBlock Sort.grow Sort.ahead;simp only;rw[Array.getElem?_append_left (by simpa using lA),Array.getElem?_modify,if_pos rfl,hb];rfl
 have sY:w.heap.size≤(sortWorldK (fun x:fB=>[encStr x.1]) 1 w aN.b aN.off n l3.toArray os).heap.size:=size_sortWorldK_c _ 1 w aN.b aN.off n l3.toArray os;have Jn:HoldsK (fun x:fB=>[encStr x.1]) 1 (sortWorldK (fun x:fB=>[encStr x.1]) 1 w aN.b aN.off n l3.toArray os) aN.b aN.off l3.toArray:=holdsK_sortWorldK_c _ 1 w aN.b aN.off l.toArray l3.toArray n os rm lA (by simpa using hlen);have yR:∀b,b8 ρ [(id,Ob.arr 1 ((l3.map fun x=>[D.str x.1]).take h))] b→b8 ρ [(id,Ob.arr 1 (l.map fun x=>[D.str x.1]))] b:=by
  rintro b ⟨i,o,q,g1,g2,g3,g4⟩;obtain⟨rfl,_⟩:=pv g1;exact⟨_,_,q,eS,ei,g3,g4⟩
 refine⟨bI.refl _,sY,fun b kG fZ=>?_,fun b kG=>.inl (yR b kG),⟨fun b kG=>Nat.lt_of_lt_of_le (aj.lt b kG) sY,fun i hi=>?_,fun i o g1 g2=>?_,fun i j o o' q q' g1 g2 _ _ _ _ _=>?_⟩,rfl,rfl,.inl ⟨rfl,Nat.le_add_right _ _⟩⟩
 ·refine QO kG fun e=>fZ ?_;exact⟨id,_,aN,eS,ei,iD,e.symm⟩
 ·exact aj.fresh i (I5 hi)
 ·obtain⟨rfl,rfl⟩:=pv g1;refine⟨aN,iD,yO,_,T,yF,by simpa[putCells]using aY,?_,Hd _ _ _ (M9 AS Jn)⟩;have:l3.length≤aN.cap∧l3.length≤aG:=by simpa[hlen]using rr
  simp only[List.length_take,List.length_map];omega
 ·exact(pv g1).1.trans (pv g2).1.symm
def zx:fB:=⟨[],by simp[aG]⟩
theorem TA(l2:List fB)(k:Nat):(l2++List.replicate k zx).map Subtype.val=l2.map Subtype.val++List.replicate k []:=by simp[zx]
theorem UP{O:Nat→Prop}{w:World}{ρ:az}{id:Nat}{l:List fB}{aN:Loc}(aj:cF w O ρ [(id,Ob.arr 1 (l.map fun x=>[D.str x.1]))])(hl:l≠[])(iD:ρ id=some aN):l.length≤aN.cap∧Holds encStr w aN.b aN.off (l.map Subtype.val).toArray:=by
 have eS:ae.get [(id,Ob.arr 1 (l.map fun x=>[D.str x.1]))] id=some (.arr 1 (l.map fun x=>[D.str x.1])):=by simp[ae.get]
 have ei:(Ob.arr 1 (l.map fun x:fB=>[D.str x.1])).live=true:=by
  cases l with
  |nil=>exact absurd rfl hl
  |cons x l=>rfl
 obtain⟨l',h3,yO,c,T,hb,aY,rr,rC⟩:=aj.own id _ eS ei;rw[iD]at h3;cases h3;have rm:=J3 AS hb rC;have hH:HoldsK (fun s:List UInt8=>[encStr s]) 1 w aN.b aN.off (l.map Subtype.val).toArray:=by
  unfold HoldsK at*;rw[←Ef];exact rm
 exact⟨by simpa using rr.1,holds_one hH⟩
theorem Ox{P:Program}{r:Ren}(L:SlLaysH.n10 P r)(hz:∀w,(zeroValue (r.t 23)).run P w=.ok (encStr []) w){g:Nat}(eg:∀args w,(callFunc g args).run P w=.ok (.enter g args) w){p:aa→Bool}
  (hp:∀(x:aa) W,FnGives P g #[] #[encStr x] (.bool (p x)) W)(id:Nat)(l:List fB)(aD:l≠[])(hl:l.length<4611686018427387904)(l2:List fB)(bN:l2.map Subtype.val=(l.map Subtype.val).filter fun x=>!p x)
  {O:Nat→Prop}{w:World}{ρ:az}{aN:Loc}(aj:cF w O ρ [(id,Ob.arr 1 (l.map fun x=>[D.str x.1]))])(iD:ρ id=some aN):
  Calls P (r.f 10) #[.slice (some ⟨aN.b,aN.off,none⟩) l.length aN.cap,.func (.func g) #[] #[]] w fun e w'=>e=.returned (.slice (some ⟨aN.b,aN.off,none⟩) l2.length aN.cap)∧Tr O w ρ [(id,Ob.arr 1 (l.map fun x=>[D.str x.1]))] w' ρ [(id,Ob.arr 1 (l2.map fun x=>[D.str x.1]))]:=by
 obtain⟨cJ,hH⟩:=UP aj aD iD;have key:=AnyE.slices_DeleteFunc L encStr (fun _=>rfl) p g #[] eg [] hz aN.b aN.off aN.cap (l.map Subtype.val).toArray w (fun W x _=>hp x W) (fun n os dk x _=>hp x _) hH zQ (by simpa using cJ);simp only[←bN,List.size_toArray,List.length_map]at key;refine Calls.mono key ?_;rintro e w' ⟨rfl,q,rfl⟩;have eY:l2.length≤l.length:=by
  have:=congrArg List.length bN;have:=List.length_filter_le (fun x=>!p x) (l.map Subtype.val);simp only[List.length_map]at*;omega
 refine⟨rfl,?_⟩;have h1:=VX aj aD iD (l3:=l2++List.replicate (l.length-l2.length) zx) zQ q #[] l2.length;rw[grow_empty,TA]at h1;have e2:((l2++List.replicate (l.length-l2.length) zx).map fun x:fB=>[D.str x.1]).take l2.length=l2.map fun x=>[D.str x.1]:=by
  rw[List.map_append];exact List.take_left' (List.length_map ..)
 rw[e2]at h1;exact h1
theorem aaw{P:Program}{r:Ren}(L:SlLaysH.n10 P r)(hz:∀w,(zeroValue (r.t 23)).run P w=.ok (encStr []) w){g:Nat}(eg:∀args w,(callFunc g args).run P w=.ok (.enter g args) w){p:aa→Bool}
  (hp:∀(x:aa) W,FnGives P g #[] #[encStr x] (.bool (p x)) W)(id:Nat)(l:List fB)(hl:l.length<4611686018427387904)(l2:List fB)(bN:l2.map Subtype.val=(l.map Subtype.val).filter fun x=>!p x)(h2:l2≠[]):
  dF P (r.f 10) [.gs id l.length,.fn (.func g) [] []] [(id,.arr 1 (l.map fun x=>[D.str x.1]))] (.gs id l2.length) [(id,.arr 1 (l2.map fun x=>[D.str x.1]))]:=⟨fun w O ρ vals aj cK hv=>by
 have aD:l≠[]:=by
  rintro rfl;exact h2 (List.map_eq_nil_iff.1 bN)
 simp only[Vs,V]at hv;obtain⟨v1,us,rfl,h1,v2,us2,rfl,⟨a1,a2,rfl,e1,e2⟩,rfl⟩:=hv;obtain rfl:a1=#[]:=by simpa using e1
 obtain rfl:a2=#[]:=by simpa using e2
 rcases h1 with⟨hn,a,rfl⟩|⟨hn,aN,iD,rfl⟩
 ·exact absurd (List.length_eq_zero_iff.1 hn) aD
 ·refine Calls.mono (Ox L hz eg hp id l aD hl l2 bN aj iD) ?_;rintro e w' ⟨rfl,ht⟩;exact⟨_,ρ,rfl,ht,by simp only[V];exact .inr ⟨by simpa using h2,aN,iD,rfl⟩⟩⟩
theorem aav{P:Program}{r:Ren}(L:SlLaysH.n10 P r)(hz:∀w,(zeroValue (r.t 23)).run P w=.ok (encStr []) w){g:Nat}(eg:∀args w,(callFunc g args).run P w=.ok (.enter g args) w){p:aa→Bool}
  (hp:∀(x:aa) W,FnGives P g #[] #[encStr x] (.bool (p x)) W)(id:Nat)(l:List fB)(aD:l≠[])(hl:l.length<4611686018427387904)(bN:((l.map Subtype.val).filter fun x=>!p x)=[]):
  dF P (r.f 10) [.gs id l.length,.fn (.func g) [] []] [(id,.arr 1 (l.map fun x=>[D.str x.1]))] (.snap 1 false []) [(id,.arr 1 [])]:=⟨fun w O ρ vals aj cK hv=>by
 simp only[Vs,V]at hv;obtain⟨v1,us,rfl,h1,v2,us2,rfl,⟨a1,a2,rfl,e1,e2⟩,rfl⟩:=hv;obtain rfl:a1=#[]:=by simpa using e1
 obtain rfl:a2=#[]:=by simpa using e2
 rcases h1 with⟨hn,a,rfl⟩|⟨hn,aN,iD,rfl⟩
 ·exact absurd (List.length_eq_zero_iff.1 hn) aD
 ·refine Calls.mono (Ox L hz eg hp id l aD hl [] (by simpa using bN.symm) aj iD) ?_;rintro e w' ⟨rfl,ht⟩;exact⟨_,ρ,rfl,ht,by simp only[V];exact⟨_,_,rfl,⟨by simp,by simp⟩,by simp,by simp⟩⟩⟩
theorem ZF{P:Program}{f:Nat}
  (hk:∀(b_ off cap:Nat)(zs:List (List UInt8))(w:World),Holds encStr w b_ off zs.toArray→zs.length≤9223372036854775807→zs.length≤cap→Calls P f #[.slice (some ⟨b_,off,none⟩) zs.length cap] w fun e w'=>e=.returned (.slice (some ⟨b_,off,none⟩) (Lib.compact zs).length cap)∧∃q,w'=putRow encStr (Sort.ahead w q) b_ off (Lib.compact zs++List.replicate (zs.length-(Lib.compact zs).length) []).toArray)
  (id:Nat)(l:List fB)(aD:l≠[])(hl:l.length<4611686018427387904)(l2:List fB)(bN:l2.map Subtype.val=Lib.compact (l.map Subtype.val))(h2:l2≠[])(eY:l2.length≤l.length):
  dF P f [.gs id l.length] [(id,.arr 1 (l.map fun x=>[D.str x.1]))] (.gs id l2.length) [(id,.arr 1 (l2.map fun x=>[D.str x.1]))]:=⟨fun w O ρ vals aj cK hv=>by
 simp only[Vs,V]at hv;obtain⟨v1,us,rfl,h1,rfl⟩:=hv;rcases h1 with⟨hn,a,rfl⟩|⟨hn,aN,iD,rfl⟩
 ·exact absurd (List.length_eq_zero_iff.1 hn) aD
 ·obtain⟨cJ,hH⟩:=UP aj aD iD;have key:=hk aN.b aN.off aN.cap (l.map Subtype.val) w hH zQ (by simpa using cJ);simp only[←bN,List.length_map]at key;refine Calls.mono key ?_;rintro e w' ⟨rfl,q,rfl⟩;have h1:=VX aj aD iD (l3:=l2++List.replicate (l.length-l2.length) zx) zQ q #[] l2.length;rw[grow_empty,TA]at h1;have e2:((l2++List.replicate (l.length-l2.length) zx).map fun x:fB=>[D.str x.1]).take l2.length=l2.map fun x=>[D.str x.1]:=by
   rw[List.map_append];exact List.take_left' (List.length_map ..)
  rw[e2]at h1;exact⟨_,ρ,rfl,h1,by simp only[V];exact .inr ⟨by simpa using h2,aN,iD,rfl⟩⟩⟩
end Go.T
namespace Go.T
open Go
variable[bX]
variable{P:Program} {env:Env} {dst:Option Tmp} {ty:TypeId} {pos:String} {ar:Array Edge} {g:Option (Nat×Bool)}
theorem Gh{t e:TypeId}{n sz:Nat}{z:Value}{xs:List (Nat×Operand)}{c_:List (Nat×D)}{cs:List D}{rows:List (List D)}{U:ae}(id:Nat)(hu:P.underlying t=some (.slice e))(hs:∀w,(sizeOf e).run P w=.ok sz w)(hn:Nat.ble (n*sz) 16777216=true)(cP:Nat.ble n 16777216=true)
  (dY:Nat.beq (n*sz) 0=false)(hz:∀w,(zeroValue e).run P w=.ok z w)(hx:env.nZ xs=some c_)
  (hf:mV (fun i=>some (i*sz,sz)) (((List.range (n*sz)).map fun x=>(z.cells.toList[x%z.cells.toList.length]?).getD default).map lR) c_=some cs)(hr:rows.flatten=cs)(hlen:rows.length=n)(f_:rows.all (fun r=>Nat.beq r.length sz)=true)(h1:nW cs=true)(hp:D.bz.ec cs=true)(hid:U.get id=none):
  aq P ⟨dst,.buildSlice t n xs.toArray,ty,pos,ar,g⟩ env U (.gs id n) ((id,.arr sz rows)::U):=
 .step fun O ρ a w aj hv=>by
  have hn:=Nat.le_of_ble_eq_true hn;have cP:=Nat.le_of_ble_eq_true cP;have dY:n*sz≠0:=by intro h;rw[h]at dY;simp at dY
  rw[←Xw]at hf;obtain⟨h2,h3⟩:=Ct (a:=a) xs c_ hx (fun x hx d' h=>hv x (by simpa[Op.operands]using hx) d' h);obtain⟨c',h4,h5⟩:=AW (fun i=>some (i*sz,sz)) c_ _ _ ((Array.range (n*sz)).map (z.cells[· %z.cells.size]!)) cs h2 h3 (Vs.Aa _) hf;have h8:Vs w (Ot O ρ U) dt cs c'.toList:=Vs.pure cs _ hp h5;have hl:c'.toList.length=cs.length:=h8.length;have ow:n≠0:=by rintro rfl;simp at dY
  refine⟨.slice (some ⟨w.heap.size,0,none⟩) n n,_,T.cm ρ id ⟨w.heap.size,0,n⟩,.inl ?_,Tr.born aj hid (.cells c' e) rfl (fun i x h _=>h) (fun i h=>h) ?_,?_⟩
  ·have h6:¬n*sz>2^24:=by omega
   have h9:Instr.fill (fun i=>some (i*sz,sz)) ((Array.range (n*sz)).map fun x=>z.cells[x%z.cells.size]!) ((Array.map (fun x=>(x.1,a.eval x.2)) xs.toArray).toList)=some c':=by
    simpa using h4
   simp only[execOp,Instr.buildSlice,Sem.run_bind,ca hu,Result.andThen_ok,hs,if_neg h6,if_neg dY,Sem.run_pure,hz,h9];simp[newRow];try rfl
  ·intro hk;have E4:∀r∈rows,r.length=sz:=fun r nN=>by
    have:=List.all_eq_true.1 f_ r nN;simpa using this
   have iC:∀(l:List (List D)),(∀r∈l,r.length=sz)→l.flatten.length=l.length*sz:=by
    intro l hl;induction l with
    |nil=>simp
    |cons a l ih=>rw[List.flatten_cons,List.length_append,hl a List.mem_cons_self,ih fun r hr=>hl r (List.mem_cons_of_mem _ hr),List.length_cons,Nat.add_mul,Nat.one_mul,Nat.add_comm]
   refine gX.grown (w:=w) (T:=e) (vs:=c'.toList) (zs:=#[]) zS ?_ (by simp[hlen]) zO (by unfold aG;omega) E4 ?_ (fun v iL=>h8.one h1 v iL) hk
   ·rw[hl,←hr,iC rows E4]
   ·rw[hr];exact h8
  ·simp only[V];exact .inr ⟨ow,_,kq ..,rfl⟩
end Go.T
namespace Go.T
open Go
inductive fK(Ls:List (List aa)):aa→aa→Prop
  |refl (x:aa):fK Ls x x
  |one {l:List aa} {x y:aa} (h:l∈Ls) (hx:x∈l) (hy:y∈l):fK Ls x y
  |symm {x y:aa} (h:fK Ls x y):fK Ls y x
  |trans {x y z:aa} (h:fK Ls x y) (h':fK Ls y z):fK Ls x z
def named(Ls:List (List aa))(x:aa):Prop:=∃l∈Ls,x∈l
theorem fK.named{Ls:List (List aa)}{x y:aa}(h:fK Ls x y):x=y∨(Go.T.named Ls x∧Go.T.named Ls y):=by
  induction h with
  |refl x=>exact .inl rfl
  |one h hx hy=>exact .inr ⟨⟨_,h,hx⟩,⟨_,h,hy⟩⟩
  |symm _ ih=>exact ih.imp Eq.symm fun h=>⟨h.2,h.1⟩
  |trans _ _ ih nP=>
    rcases ih with rfl|h
    · exact nP
    · rcases nP with rfl|h'
      · exact .inr h
      · exact .inr ⟨h.1,h'.2⟩
theorem fK.mono{Ls iY:List (List aa)}(hs:∀l∈Ls,∃l'∈iY,∀x∈l,x∈l'){x y:aa}(h:fK Ls x y):fK iY x y:=by
  induction h with
  |refl x=>exact .refl x
  |one h hx hy=>obtain⟨l',h1,h2⟩:=hs _ h;exact .one h1 (h2 _ hx) (h2 _ hy)
  |symm _ ih=>exact .symm ih
  |trans _ _ ih nP=>exact .trans ih nP
structure fA(u:UM)(Ls:List (List aa)):Prop where
  qg:lf u
  keys:∀x,x∈aI u↔named Ls x
  conn:∀x y,x∈aI u→y∈aI u→(aJ u x=aJ u y↔fK Ls x y)
  nd:(aI u).Nodup
theorem Mm{x v:aa}:∀{u:UM},(aI u).Nodup→(aI (dN u x v)).Nodup
  |[],_=>by simp[dN,aI]
  |(a,b)::r,h=>by
    have h':a∉aI r∧(aI r).Nodup:=by unfold aI at h;rwa[List.map_cons,List.nodup_cons]at h
    simp only[dN];split
    · rename_i c;subst c;unfold aI;rw[List.map_cons,List.nodup_cons];exact h'
    · rename_i c
      show((a::aI (dN r x v))).Nodup;rw[List.nodup_cons];refine⟨fun h2=>?_,Mm h'.2⟩;rcases rJ.1 h2 with h3|h3
      · exact c h3.symm
      · exact h'.1 h3
theorem Nh{u:UM}(x:aa)(h:(aI u).Nodup):(aI (dh u x)).Nodup:=by
  unfold dh;split
  · exact h
  · exact Mm h
theorem V3:fA [] []:=⟨adh,fun x=>by simp[aI,named],fun x y hx=>by simp[aI]at hx,by simp[aI]⟩
theorem fA.mono{u:UM}{Ls iY:List (List aa)}(h:fA u Ls)(h1:∀l∈Ls,∃l'∈iY,∀x∈l,x∈l')(h2:∀l∈iY,∃l'∈Ls,∀x∈l,x∈l'):fA u iY:=
  ⟨h.qg,fun x=>(h.keys x).trans ⟨fun⟨l,hl,hx⟩=>by obtain⟨l',g1,g2⟩:=h1 l hl;exact⟨l',g1,g2 x hx⟩,fun⟨l,hl,hx⟩=>by obtain⟨l',g1,g2⟩:=h2 l hl;exact⟨l',g1,g2 x hx⟩⟩,
   fun x y hx hy=>(h.conn x y hx hy).trans ⟨fK.mono h1,fK.mono h2⟩,h.nd⟩
theorem akW{u:UM}{pre:List aa}{Ls:List (List aa)}{a x:aa}(h:fA u (pre::Ls))(ha:a=x∨a∈pre)(oA:pre=[]∨a∈pre):fA (rI a u x) ((pre++[x])::Ls):=by
  obtain⟨a1,a2,a3,a4⟩:=Du h.qg x;have hax:a=x∨a∈aI u:=ha.imp id fun e=>(h.keys a).2 ⟨pre,List.mem_cons_self,e⟩;have kx:x∈aI (dh u x):=(a2 x).2 (.inl rfl);have ka:a∈aI (dh u x):=(a2 a).2 hax;obtain⟨g1,g2,g3⟩:=SO a1 kx ka;have pE:a∈pre++[x]:=by
    rcases ha with rfl|e
    · simp
    · exact List.mem_append_left _ e
  have wH:∀y,y∈aI (rI a u x)↔named ((pre++[x])::Ls) y:=fun y=>by
    have:=(g2 y).trans (a2 y);refine this.trans ?_;rw[h.keys y];constructor
    · rintro(rfl|⟨l,hl,hy⟩)
      · exact⟨_,List.mem_cons_self,by simp⟩
      · rcases List.mem_cons.1 hl with rfl|hl
        · exact⟨_,List.mem_cons_self,List.mem_append_left _ hy⟩
        · exact⟨l,List.mem_cons_of_mem _ hl,hy⟩
    · rintro⟨l,hl,hy⟩
      rcases List.mem_cons.1 hl with rfl|hl
      · rcases List.mem_append.1 hy with hy|hy
        · exact .inr ⟨pre,List.mem_cons_self,hy⟩
        · exact .inl (by simpa using hy)
      · exact .inr ⟨l,List.mem_cons_of_mem _ hl,hy⟩
  have up:∀{y z:aa},fK (pre::Ls) y z→fK ((pre++[x])::Ls) y z:=fun hc=>hc.mono fun l hl=>by
    rcases List.mem_cons.1 hl with rfl|hl
    · exact⟨_,List.mem_cons_self,fun y hy=>List.mem_append_left _ hy⟩
    · exact⟨l,List.mem_cons_of_mem _ hl,fun _=>id⟩
  -- the names that belong together ahead of the link
  have E1:∀y z,y∈aI (dh u x)→z∈aI (dh u x)→aJ (dh u x) y=aJ (dh u x) z→fK ((pre++[x])::Ls) y z:=by
    intro y z hy hz e;by_cases j8:y∈aI u<;>by_cases j9:z∈aI u
    · rw[a3 y j8,a3 z j9]at e
      exact up ((h.conn y z j8 j9).1 e)
    · obtain rfl:z=x:=((a2 z).1 hz).resolve_right j9
      rw[a3 y j8,a4 j9]at e;obtain⟨rk,hf⟩:=h.qg.wj;have:=(hf.Ac _ y rfl j8).1;rw[e]at this;exact absurd this j9
    · obtain rfl:y=x:=((a2 y).1 hy).resolve_right j8
      rw[a3 z j9,a4 j8]at e;obtain⟨rk,hf⟩:=h.qg.wj;have:=(hf.Ac _ z rfl j9).1;rw[←e]at this;exact absurd this j8
    · obtain rfl:y=x:=((a2 y).1 hy).resolve_right j8
      obtain rfl:z=y:=((a2 z).1 hz).resolve_right j9;exact .refl _
  have jt:fK ((pre++[x])::Ls) x a:=.one List.mem_cons_self zS pE;refine⟨g1,wH,fun y z hy hz=>?_,Mm (Nh x h.nd)⟩;have wQ:=(g2 y).1 hy;have qu:=(g2 z).1 hz;rw[show aJ (rI a u x) y=_ from g3 y wQ,show aJ (rI a u x) z=_ from g3 z qu];constructor
  · intro e
    by_cases p:aJ (dh u x) y=aJ (dh u x) x<;>by_cases q:aJ (dh u x) z=aJ (dh u x) x
    · exact(E1 y x wQ kx p).trans (E1 z x qu kx q).symm
    · rw[if_pos p,if_neg q]at e
      exact((E1 y x wQ kx p).trans jt).trans (E1 a z ka qu e)
    · rw[if_neg p,if_pos q]at e
      exact(E1 y a wQ ka e).trans ((E1 z x qu kx q).trans jt).symm
    · rw[if_neg p,if_neg q]at e
      exact E1 y z wQ qu e
  · intro hc
    -- by the way the names are connected
    have key:∀{y z:aa},fK ((pre++[x])::Ls) y z→y=z∨(y∈aI (dh u x)∧z∈aI (dh u x)∧(if aJ (dh u x) y=aJ (dh u x) x then aJ (dh u x) a else aJ (dh u x) y)=(if aJ (dh u x) z=aJ (dh u x) x then aJ (dh u x) a else aJ (dh u x) z)):=by
      intro y z hc;induction hc with
      |refl y=>exact .inl rfl
      |symm _ ih=>exact ih.imp Eq.symm fun⟨p,q,r⟩=>⟨q,p,r.symm⟩
      |trans _ _ ih nP=>
        rcases ih with rfl|⟨p,q,r⟩
        · exact nP
        · rcases nP with rfl|⟨p',q',r'⟩
          · exact .inr ⟨p,q,r⟩
          · exact .inr ⟨p,q',r.trans r'⟩
      |@one l y z hl hy hz=>
        right;have val:∀w∈pre++[x],w∈aI (dh u x)∧(if aJ (dh u x) w=aJ (dh u x) x then aJ (dh u x) a else aJ (dh u x) w)=aJ (dh u x) a:=by
          intro w hw;rcases List.mem_append.1 hw with hw|hw
          · have sU:a∈pre:=by
              rcases oA with e|e
              · rw[e]at hw;cases hw
              · exact e
            have kw:=(h.keys w).2 ⟨pre,List.mem_cons_self,hw⟩;have R8:=(h.keys a).2 ⟨pre,List.mem_cons_self,sU⟩;refine⟨(a2 w).2 (.inr kw),?_⟩;have e1:aJ (dh u x) w=aJ (dh u x) a:=by
              rw[a3 w kw,a3 a R8];exact(h.conn w a kw R8).2 (.one List.mem_cons_self hw sU)
            split
            · rfl
            · exact e1
          · obtain rfl:w=x:=by simpa using hw
            exact⟨kx,by rw[if_pos rfl]⟩
        rcases List.mem_cons.1 hl with rfl|hl
        · exact⟨(val y hy).1,(val z hz).1,(val y hy).2.trans (val z hz).2.symm⟩
        · have ky:=(h.keys y).2 ⟨l,List.mem_cons_of_mem _ hl,hy⟩
          have kz:=(h.keys z).2 ⟨l,List.mem_cons_of_mem _ hl,hz⟩;have e1:aJ (dh u x) y=aJ (dh u x) z:=by
            rw[a3 y ky,a3 z kz];exact(h.conn y z ky kz).2 (.one (List.mem_cons_of_mem _ hl) hy hz)
          exact⟨(a2 y).2 (.inr ky),(a2 z).2 (.inr kz),by rw[e1]⟩
    rcases key hc with rfl|⟨_,_,e⟩
    · rfl
    · exact e
theorem V2{u:UM}{Ls:List (List aa)}(h:fA u Ls)(l:List aa):fA (uU u l) (l::Ls):=by
  have cE:∀{x y:aa},fK ([]::Ls) x y→fK Ls x y:=fun hc=>by
    induction hc with
    |refl x=>exact .refl x
    |symm _ ih=>exact .symm ih
    |trans _ _ ih nP=>exact .trans ih nP
    |one hl hx hy=>
      rcases List.mem_cons.1 hl with rfl|hl
      · cases hx
      · exact .one hl hx hy
  have h0:fA u ([]::Ls):=⟨h.qg,fun x=>(h.keys x).trans ⟨fun⟨l,hl,hx⟩=>⟨l,List.mem_cons_of_mem _ hl,hx⟩,fun⟨l,hl,hx⟩=>by
    rcases List.mem_cons.1 hl with rfl|hl
    · cases hx
    · exact⟨l,hl,hx⟩⟩,fun x y hx hy=>(h.conn x y hx hy).trans ⟨fK.mono fun l hl=>⟨l,List.mem_cons_of_mem _ hl,fun _=>id⟩,cE⟩,h.nd⟩
  have key:∀(rest pre:List aa)(v:UM),l=pre++rest→fA v (pre::Ls)→fA (rest.foldl (rI (l.headD [])) v) (l::Ls):=by
    intro rest;induction rest with
    |nil=>intro pre v e hv;rw[List.append_nil]at e;rw[e];exact hv
    |cons x rest ih=>
      intro pre v e hv;refine ih (pre++[x]) _ (by rw[e];simp) (akW hv ?_ ?_)
      · rw[e];cases pre with
        |nil=>exact .inl rfl
        |cons p q=>exact .inr List.mem_cons_self
      · rw[e];cases pre with
        |nil=>exact .inl rfl
        |cons p q=>exact .inr List.mem_cons_self
  exact key l [] u rfl h0
end Go.T
