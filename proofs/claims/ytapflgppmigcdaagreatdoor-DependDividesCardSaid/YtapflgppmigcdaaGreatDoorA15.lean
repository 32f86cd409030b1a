/-
  Contracts of the functions that the statement reaches, and the logic in which they are proved (no condition): parts SpecD10, W92, Core51, SpecD11, W93, W94, SpecD12, W95, W96, LayD, Core34, Core52, Core53, SpecD13.
-/
import Derived.Test.YtapflgppmigcdaaGreatDoorA14
import Derived.Shelf.SlicesE.DeleteFunc
set_option linter.all false
namespace Go.T
open Go
def iq(s:aa):Int:=if(!isName s)=true then 23 else 0
def kl(f:Fact)(code:Bool):Int:=
 if code=true then(if(!gA f.other)=true then 12 else if decide (f.other=f.cur)=true then 18 else 0)
 else if decide (iq f.other≠0)=true then iq f.other else if decide (f.other=f.eY)=true then 18 else 0
def dw(f:Fact)(code:Bool)(n:Int)(L:Bool×Bool):Int:=
 if decide (n=0)=true then iq f.eY else if decide (n=3)=true then iq f.target else if decide (n=1)=true then kl f code
 else if decide (n=2)=true then(if(!gA f.cur)=true then 12 else 0)else if decide (n=10)=true then rj f else if decide (n=11)=true then nn f
 else if decide (n=12)=true then(if decide (f.choice<0)=true then 2 else 0)else eF L.1 L.2 (iM f n)
theorem alM{f:Fact}(h:kC f)(n:Int):lk (iM f n):=by
 have e:([]:aa).length≤60:=by simp
 unfold iM;split
 ·exact⟨h.c_,e⟩
 ·split
  ·exact⟨h.mH,e⟩
  ·split
   ·exact⟨h.mP,e⟩
   ·split
    ·exact h.du
    ·split
     ·exact h.ratio
     ·split
      ·exact h.share
      ·exact⟨e,e⟩
theorem Jz{f:Fact}{code:Bool}(h:code=true)(h2:(!gA f.other)=true):12=kl f code:=by rw[kl,if_pos h,if_pos h2]
theorem JA{f:Fact}{code:Bool}(h:code=true)(h2:(!gA f.other)=false)(h3:decide (f.other=f.cur)=true):18=kl f code:=by rw[kl,if_pos h,if_neg (by rw[h2];simp),if_pos h3]
theorem JB{f:Fact}{code:Bool}(h:code=true)(h2:(!gA f.other)=false)(h3:decide (f.other=f.cur)=false):0=kl f code:=by rw[kl,if_pos h,if_neg (by rw[h2];simp),if_neg (by rw[h3];simp)]
theorem JC{f:Fact}{code:Bool}(h:code=false)(h2:decide (iq f.other≠0)=true):iq f.other=kl f code:=by rw[kl,if_neg (by rw[h];simp),if_pos h2]
theorem JD{f:Fact}{code:Bool}(h:code=false)(h2:decide (iq f.other≠0)=false)(h3:decide (f.other=f.eY)=true):18=kl f code:=by rw[kl,if_neg (by rw[h];simp),if_neg (by rw[h2];simp),if_pos h3]
theorem JE{f:Fact}{code:Bool}(h:code=false)(h2:decide (iq f.other≠0)=false)(h3:decide (f.other=f.eY)=false):0=kl f code:=by rw[kl,if_neg (by rw[h];simp),if_neg (by rw[h2];simp),if_neg (by rw[h3];simp)]
theorem fI{α:Type}{b:Bool}{x y z:α}(h:b=true)(k:z=x):z=if b=true then x else y:=by rw[if_pos h];exact k
theorem aaM{f:Fact}{code:Bool}{n:Int}{L:Bool×Bool}(h4:4≤n)(h9:n≤9):eF L.1 L.2 (iM f n)=dw f code n L:=by
 have key:∀k:Int,(k<4∨9<k)→¬decide (n=k)=true:=fun k hk e=>by have:=of_decide_eq_true e;omega
 unfold dw;rw[if_neg (key 0 zO),if_neg (key 3 zO),if_neg (key 1 zO),if_neg (key 2 zO),if_neg (key 10 zO),if_neg (key 11 zO),if_neg (key 12 zO)]
open Go.Proofs Go.Proofs.Tryz
set_option maxRecDepth 20000
theorem ae6(w:World)(O:Nat→Prop)(ρ:aA):V w O ρ (bC none) .nilFunc:=by simp[V]
theorem yy(s:aa):Fc Tryz.prog 124 [.str s] (.i (iq s)):=af4 s
theorem aaK(f:Fact)(hf:kC f)(w:aa)(c:Int)(h:Nat→Bool)(m:gV)(code:Bool)(n:Int)(L:Bool×Bool)(hs:n=0∨n=3∨n=1∨n=2∨n=10∨n=11∨n=12):Fc Tryz.prog 88 [.agg (aM f),.agg (cH w c h (cV m) code),.i n] (.i (dw f code n L)):=by
 refine Fc.mk' [6] func88 rfl ntmps88 rfl rfl rfl (fun t w=>results_tmp results88 t _ w) ?_;refine go [] ?_;refine br (fun h1=>?_) (fun h1=>?_)
 ·refine oP (dX call124 rfl rfl (yy _)) ?_;exact ah rfl (Sub.int (by unfold dw;exact iT h1))
 ·refine br (fun h2=>?_) (fun h2=>?_)
  ·refine oP (dX call124 rfl rfl (yy _)) ?_;exact ah rfl (Sub.int (by unfold dw;exact iF h1 (iT h2)))
  ·refine br (fun h3=>?_) (fun h3=>?_)
   ·refine br (fun h4=>?_) (fun h4=>?_)
    ·refine oP (ai call125 rfl (DP _)) ?_;refine br (fun h5=>?_) (fun h5=>?_)
     ·exact ah rfl (Sub.int (by unfold dw;exact iF h1 (iF h2 (fI h3 (Jz h4 h5)))))
     ·refine br (fun h6=>?_) (fun h6=>?_)
      ·exact ah rfl (Sub.int (by unfold dw;exact iF h1 (iF h2 (fI h3 (JA h4 h5 h6)))))
      ·exact ah rfl (Sub.int (by unfold dw;exact iF h1 (iF h2 (fI h3 (JB h4 h5 h6)))))
    ·refine oP (dX call124 rfl rfl (yy _)) ?_;refine br (fun h7=>?_) (fun h7=>?_)
     ·exact ah rfl (Sub.int (by unfold dw;exact iF h1 (iF h2 (fI h3 (JC h4 h7)))))
     ·refine br (fun h8=>?_) (fun h8=>?_)
      ·exact ah rfl (Sub.int (by unfold dw;exact iF h1 (iF h2 (fI h3 (JD h4 h7 h8)))))
      ·exact ah rfl (Sub.int (by unfold dw;exact iF h1 (iF h2 (fI h3 (JE h4 h7 h8)))))
   ·refine br (fun h9=>?_) (fun h9=>?_)
    ·refine oP (ai call125 rfl (DP _)) ?_;refine br (fun cK=>?_) (fun cK=>?_)
     ·exact ah rfl (Sub.int (by unfold dw;exact iF h1 (iF h2 (iF h3 (fI h9 (iT cK))))))
     ·exact ah rfl (Sub.int (by unfold dw;exact iF h1 (iF h2 (iF h3 (fI h9 (iF cK rfl))))))
    ·refine br (fun cM=>?_) (fun cM=>?_)
     ·refine oP (ai call126 rfl (LM f hf)) ?_;exact ah rfl (Sub.int (by unfold dw;exact iF h1 (iF h2 (iF h3 (iF h9 (iT cM))))))
     ·refine br (fun dN=>?_) (fun dN=>?_)
      ·refine oP (ai call127 rfl (LL f hf)) ?_;exact ah rfl (Sub.int (by unfold dw;exact iF h1 (iF h2 (iF h3 (iF h9 (iF cM (iT dN)))))))
      ·refine a_ (decide_eq_true (by simp at h1 h2 h3 h9 cM dN;omega)) ?_;refine br (fun fh=>?_) (fun fh=>?_)
       ·exact ah rfl (Sub.int (by unfold dw;exact iF h1 (iF h2 (iF h3 (iF h9 (iF cM (iF dN (fI (decide_eq_true (by simp at h1 h2 h3 h9 cM dN;omega)) (iT fh)))))))))
       ·exact ah rfl (Sub.int (by unfold dw;exact iF h1 (iF h2 (iF h3 (iF h9 (iF cM (iF dN (fI (decide_eq_true (by simp at h1 h2 h3 h9 cM dN;omega)) (iF fh rfl)))))))))
theorem aaP(f:Fact)(hf:kC f)(w:aa)(c:Int)(h:Nat→Bool)(code:Bool)(n:Int)(L:Bool×Bool)(hs:n=0∨n=3∨n=1∨n=2∨n=10∨n=11∨n=12):Fc Tryz.prog 88 [.agg (aM f),.agg (cH w c h (D.raw (.map none)) code),.i n] (.i (dw f code n L)):=by
 refine Fc.mk' [6] func88 rfl ntmps88 rfl rfl rfl (fun t w=>results_tmp results88 t _ w) ?_;refine go [] ?_;refine br (fun h1=>?_) (fun h1=>?_)
 ·refine oP (dX call124 rfl rfl (yy _)) ?_;exact ah rfl (Sub.int (by unfold dw;exact iT h1))
 ·refine br (fun h2=>?_) (fun h2=>?_)
  ·refine oP (dX call124 rfl rfl (yy _)) ?_;exact ah rfl (Sub.int (by unfold dw;exact iF h1 (iT h2)))
  ·refine br (fun h3=>?_) (fun h3=>?_)
   ·refine br (fun h4=>?_) (fun h4=>?_)
    ·refine oP (ai call125 rfl (DP _)) ?_;refine br (fun h5=>?_) (fun h5=>?_)
     ·exact ah rfl (Sub.int (by unfold dw;exact iF h1 (iF h2 (fI h3 (Jz h4 h5)))))
     ·refine br (fun h6=>?_) (fun h6=>?_)
      ·exact ah rfl (Sub.int (by unfold dw;exact iF h1 (iF h2 (fI h3 (JA h4 h5 h6)))))
      ·exact ah rfl (Sub.int (by unfold dw;exact iF h1 (iF h2 (fI h3 (JB h4 h5 h6)))))
    ·refine oP (dX call124 rfl rfl (yy _)) ?_;refine br (fun h7=>?_) (fun h7=>?_)
     ·exact ah rfl (Sub.int (by unfold dw;exact iF h1 (iF h2 (fI h3 (JC h4 h7)))))
     ·refine br (fun h8=>?_) (fun h8=>?_)
      ·exact ah rfl (Sub.int (by unfold dw;exact iF h1 (iF h2 (fI h3 (JD h4 h7 h8)))))
      ·exact ah rfl (Sub.int (by unfold dw;exact iF h1 (iF h2 (fI h3 (JE h4 h7 h8)))))
   ·refine br (fun h9=>?_) (fun h9=>?_)
    ·refine oP (ai call125 rfl (DP _)) ?_;refine br (fun cK=>?_) (fun cK=>?_)
     ·exact ah rfl (Sub.int (by unfold dw;exact iF h1 (iF h2 (iF h3 (fI h9 (iT cK))))))
     ·exact ah rfl (Sub.int (by unfold dw;exact iF h1 (iF h2 (iF h3 (fI h9 (iF cK rfl))))))
    ·refine br (fun cM=>?_) (fun cM=>?_)
     ·refine oP (ai call126 rfl (LM f hf)) ?_;exact ah rfl (Sub.int (by unfold dw;exact iF h1 (iF h2 (iF h3 (iF h9 (iT cM))))))
     ·refine br (fun dN=>?_) (fun dN=>?_)
      ·refine oP (ai call127 rfl (LL f hf)) ?_;exact ah rfl (Sub.int (by unfold dw;exact iF h1 (iF h2 (iF h3 (iF h9 (iF cM (iT dN)))))))
      ·refine a_ (decide_eq_true (by simp at h1 h2 h3 h9 cM dN;omega)) ?_;refine br (fun fh=>?_) (fun fh=>?_)
       ·exact ah rfl (Sub.int (by unfold dw;exact iF h1 (iF h2 (iF h3 (iF h9 (iF cM (iF dN (fI (decide_eq_true (by simp at h1 h2 h3 h9 cM dN;omega)) (iT fh)))))))))
       ·exact ah rfl (Sub.int (by unfold dw;exact iF h1 (iF h2 (iF h3 (iF h9 (iF cM (iF dN (fI (decide_eq_true (by simp at h1 h2 h3 h9 cM dN;omega)) (iF fh rfl)))))))))
theorem aaN(f:Fact)(hf:kC f)(w:aa)(c:Int)(h:Nat→Bool)(m:gV)(code:Bool)(n:Int)(L:Bool×Bool)(h4:4≤n)(h9:n≤9)(hB:cN none m n=some L):Fc Tryz.prog 88 [.agg (aM f),.agg (cH w c h (cV m) code),.i n] (.i (dw f code n L)):=by
 refine Fc.mk' [6] func88 rfl ntmps88 rfl rfl rfl (fun t w=>results_tmp results88 t _ w) ?_;refine go [] ?_;refine aR zQ ?_;refine aR zQ ?_;refine aR zQ ?_;refine aR zQ ?_;refine aR zQ ?_;refine aR zQ ?_;refine aR zQ ?_;refine oP (fun _=>ahX dW (vD:=bC) (m:=m) (k:=n) (d:=none) underlying119 zeroValue154 ae6 rfl rfl rfl rfl) ?_;refine oP (ai call128 rfl (Ug f n zO zO)) ?_;refine oP (dX call175 (by exact congrArg (fun z=>some (bC z)) hB) rfl (Jm (iM f n) L.1 L.2 (alM hf n))) ?_;refine ord ?_;exact ah rfl (Sub.int (by exact aaM zO zO))
end Go.T
namespace Go.T
open Go
variable[bV]
section
variable{P:Program} {F:Fr} {ops:Array Oper} {K:Env→ae→Prop}
theorem aq.s9{o:Oper}{env:Env}{U:ae}{d:D}{ak:ae}(h:aq P o env U d ak):rF P o env U (fun _:Unit=>True) (fun _=>d) (fun _=>ak):=fun O ρ a w aj hg hv=>
 Oper.wp_mono (by rintro a' w' ⟨av,v,h⟩;exact⟨(),av,v,trivial,h⟩) (h O ρ a w aj hg hv)
def Fq(P:Program)(F:Fr)(ops:Array Oper)(I:Array Bool→Env→ae→Prop)(i:Nat)(o:Oper):Prop:=
 ∀listed env U,listed.size=ops.size→I listed env U→bm listed i=false→(∀e∈o.after,Region.binds .any e=true→bm listed e.on=true)→
  ∃(ι:Type) (A:ι→Prop) (d:ι→D) (ak:ι→ae),ed F.N o.dst=true∧On ops env o∧rF P o env U A d ak∧∀j,A j→∃fE dl,Le F (env.put o.dst (d j)) (ak j) fE dl∧I (listed.setIfInBounds i true) fE dl
def u5(P:Program)(F:Fr)(ops:Array Oper)(I:Array Bool→Env→ae→Prop):Nat→List Oper→Prop
 |_,[]=>True
 |i,o::l=>Fq P F ops I i o∧u5 P F ops I (i+1) l
theorem u5.get{I:Array Bool→Env→ae→Prop}:∀{l:List Oper}{k i:Nat}{o:Oper},u5 P F ops I k l→l[i]?=some o→Fq P F ops I (k+i) o
 |[],k,i,o,_,h=>by simp at h
 |x::l,k,0,o,hs,h=>by simp at h;subst h;exact hs.1
 |x::l,k,i+1,o,hs,h=>by
  have:=u5.get hs.2 (i:=i) (o:=o) (by simpa using h);rwa[Nat.add_right_comm,Nat.add_assoc]at this
theorem iO.adT{I:Array Bool→Env→ae→Prop}(hb:zq ops=true)(rX:∀listed env U,listed.size=ops.size→(∀i,i<ops.size→bm listed i=true)→I listed env U→K env U)
  (aT:u5 P F ops I 0 ops.toList):∀(dx:Nat)(listed:Array Bool)(env:Env)(U:ae),listed.size=ops.size→uO listed ops.size≤dx→I listed env U→iO P F ops K dx listed env U:=by
 intro dx;induction dx with
 |zero=>
  intro listed env U hs hf hI;have ez:∀i,i<ops.size→bm listed i=true:=fun i hi=>by
   cases e:bm listed i with
   |true=>rfl
   |false=>have:=T' hi e;omega
  refine iO.nil ?_ (rX listed env U hs ez hI);rw[List.eq_nil_iff_forall_not_mem];intro i hi;have:=EH hs hi;rw[ez i this.1]at this;cases this.2.1
 |succ dx ih=>
  intro listed env U hs hf hI;refine⟨fun C Q hQ a w AE=>⟨fun hr=>hQ a w env U (rX listed env U hs (S0 hs hb hr) hI) AE,fun i hi=>?_⟩⟩;obtain⟨h1,h2,h3⟩:=EH hs hi;have ho:ops[i]?=some ops[i]:=Array.getElem?_eq_getElem h1;have h4:Fq P F ops I (0+i) ops[i]:=u5.get aT (by simpa using ho);rw[Nat.zero_add]at h4;obtain⟨ι,A,d,ak,q1,q2,q3,q4⟩:=h4 listed env U hs hI h2 (h3 _ ho);obtain⟨ρ,qI⟩:=AE;unfold wpOpIn;simp only[ho];rw[if_pos (B7 q2 fun g b t _ _ d hd=>qI.env t d hd)];have:=q3 C.O ρ a w qI.tr.ok qI.vB (fun x _ d' h=>sH qI.env x d' h);refine Oper.wpIn_mono ?_ (w9 C.ro this (by rintro a' w' ⟨j,av,v,_,rfl,_⟩;exact Act.k9 ..));rintro a' w' ⟨j,av,v,hA,rfl,jw,hv⟩;obtain⟨fE,dl,q5,q6⟩:=q4 j hA;exact(iO.bP q5 (ih _ _ _ (by simpa using hs) (by have:=Ua h1 hs.symm h2;omega) q6)).out C Q hQ _ _ ⟨av,qI.step jw (tD qI.size q1 (fun t d h=>jw.V (qI.env t d h)) hv) (Act.s6 _ _ _) (Act.k9 ..)⟩
theorem J.aiv{ι:Type}{A:ι→Prop}{fE:ι→Env}{dl:ι→ae}{env:Env}{U:ae}{Q:Exit→Env→ae→Prop}{cs:List Code}{id:Nat}{l:List Oper}{c:Code}(I:Array Bool→Env→ae→Prop)(hm:P.follows .mixedOrders=true)(hb:zq l.toArray=true)
  (h0:I (Array.replicate l.length false) env U)(aT:u5 P F l.toArray I 0 l)(rX:∀listed e o,listed.size=l.length→(∀i,i<l.length→bm listed i=true)→I listed e o→∃i,A i∧Le F e o (fE i) (dl i))
  (k:∀i,A i→J P F (c::cs) Q (fE i) (dl i)):J P F (.region id l.toArray true::c::cs) Q env U:=⟨⟨fun C a w hs=>by
 refine wpIn_region_any hm ?_;have hT:iO P F l.toArray (fun e o=>∃i,A i∧Le F e o (fE i) (dl i)) l.length (Array.replicate l.length false) env U:=
  iO.adT (I:=I) hb (by simpa using rX) (by simpa using aT) l.length _ env U zS (by
   have:uO (Array.replicate l.length false) l.toArray.size≤(List.range l.toArray.size).length:=List.countP_le_length;simpa using this) h0
 have:=hT.out C (fun e a' w'=>∃aQ ak,jk (nD P F (c::cs) Q) Q e aQ ak∧St F C aQ ak a' w') (fun a w aQ ak hk hs=>by
  obtain⟨i,hA,e8⟩:=hk;exact⟨fE i,dl i,(k i hA).out,e8.out C a w hs⟩) a _ hs.drew
 simpa using this⟩⟩
end
end Go.T
namespace Go.T
open Go
def uT:kr:=⟨[],0,fun _=>false,none,false⟩
def KZ(k:Int)(v:kr):Prop:=qf k v∨(dC k=none∧v=uT)
theorem BL{k:Int}{r:ir}(h:dC k=some r):1≤k∧k≤18:=by
 rcases Decidable.em (1≤k∧k≤18)with g|g
 ·exact g
 ·unfold dC at h;rw[if_neg zO,if_neg zO,if_neg zO,if_neg zO,if_neg zO,if_neg zO,if_neg zO,if_neg zO,if_neg zO,if_neg zO,if_neg zO,if_neg zO,if_neg zO,if_neg zO,if_neg zO,if_neg zO,if_neg zO,if_neg zO]at h;cases h
theorem aiJ{k:Int}(h:∀j:Int,1≤j→j≤18→k≠j):dC k=none:=by
 cases e:dC k with
 |none=>rfl
 |some r=>have:=BL e;exact absurd rfl (h k this.1 this.2)
def we:List Int:=[1,2,3,4,5,6,7,8,9,10,11,12,13,14,15,16,17,18]
theorem D6{k:Int}:k∈we↔1≤k∧k≤18:=by
 constructor
 ·intro h;simp only[we,List.mem_cons,List.not_mem_nil,or_false]at h;omega
 ·intro h;simp only[we,List.mem_cons,List.not_mem_nil,or_false];omega
theorem De{β:Type}(d:β):∀(m:List (Int×β))(k:Int),k∈m.map (·.1)→(k,cN d m k)∈m
 |[],k,h=>by cases h
 |(a,v)::r,k,h=>by
  by_cases e:k=a
  ·subst e;simp[cN]
  ·simp only[cN,if_neg e];exact List.mem_cons_of_mem _ (De d r k (by simpa[e]using h))
theorem NX{β:Type}(d:β):∀(m:List (Int×β))(k:Int),k∉m.map (·.1)→cN d m k=d
 |[],k,_=>rfl
 |(a,v)::r,k,h=>by
  simp only[List.map_cons,List.mem_cons,not_or]at h;simp only[cN,if_neg h.1];exact NX d r k h.2
theorem Ol{β:Type}(m:List (Int×β))(k:Int):iU m k=true↔k∈m.map (·.1):=by
 unfold iU;rw[List.any_eq_true,List.mem_map];constructor
 ·rintro⟨p,hp,h⟩;exact⟨p,hp,(of_decide_eq_true h).symm⟩
 ·rintro⟨p,hp,rfl⟩;exact⟨p,hp,by simp⟩
theorem Iz{m:List (Int×kr)}(h1:(m.map (·.1)).Perm we)(h2:∀p∈m,qf p.1 p.2)(k:Int):KZ k (cN uT m k)∧iU m k=(dC k).isSome:=by
 by_cases hk:k∈m.map (·.1)
 ·have h3:=h2 _ (De uT m k hk);refine⟨.inl h3,?_⟩;obtain⟨r,hr,_⟩:=h3;rw[show iU m k=true from(Ol m k).2 hk];simp only at hr;rw[hr];rfl
 ·have h3:dC k=none:=aiJ fun j hj HR e=>hk (h1.mem_iff.2 (D6.2 ⟨by omega,by omega⟩));refine⟨.inr ⟨h3,NX _ _ _ hk⟩,?_⟩;rw[h3];cases e:iU m k with
  |false=>rfl
  |true=>exact absurd ((Ol m k).1 e) hk
def mr(r:ir)(n:Int):Bool×Bool:=(cN none (r.num.getD []) n).getD (false,false)
def TM(n:Int):Bool:=decide (n=0)||decide (n=3)||decide (n=1)||decide (n=2)||decide (n=10)||decide (n=11)||decide (n=12)
def Tm(r:ir):Bool:=r.more.all TM&&(match r.num with|none=>true|some E=>E.all (fun p=>decide (4≤p.1)&&decide (p.1≤9)&&p.2.isSome)&&decide ((E.map (·.1)).Nodup))
theorem aiH{k:Int}{r:ir}(h:dC k=some r):Tm r=true:=by
 have h1:=BL h;have h2:k=1∨k=2∨k=3∨k=4∨k=5∨k=6∨k=7∨k=8∨k=9∨k=10∨k=11∨k=12∨k=13∨k=14∨k=15∨k=16∨k=17∨k=18:=by omega
 rcases h2 with rfl|rfl|rfl|rfl|rfl|rfl|rfl|rfl|rfl|rfl|rfl|rfl|rfl|rfl|rfl|rfl|rfl|rfl<;>(have h':=Option.some.inj h;rw[←h'];decide)
def iV(r:ir)(n:Nat):Bool:=bS (r.num.getD []) r.more n
theorem acm{E m:gV}(h:cO E m)(more:List Int)(j:Nat):bS m more j=bS E more j:=by
 have key:∀a:gV,(a.any fun p=>decide (p.1=(j:Int)))=true↔(j:Int)∈a.map (·.1):=by
  intro a;rw[List.any_eq_true,List.mem_map];constructor
  ·rintro⟨p,hp,h⟩;exact⟨p,hp,of_decide_eq_true h⟩
  ·rintro⟨p,hp,h⟩;exact⟨p,hp,decide_eq_true h⟩
 unfold bS
 congr 1
 rw[Bool.eq_iff_iff,key,key];exact h.1.mem_iff
theorem agk{E:gV}(hn:(E.map (·.1)).Nodup){k:Int}{a b:lY}(ha:(k,a)∈E)(hb:(k,b)∈E):a=b:=by
 induction E with
 |nil=>cases ha
 |cons p E ih=>
  rw[List.map_cons,List.nodup_cons]at hn;rcases List.mem_cons.1 ha with e1|h1<;>rcases List.mem_cons.1 hb with e2|h2
  ·rw[←e1]at e2;exact(Prod.mk.inj e2).2.symm
  ·exact absurd (by have:=List.mem_map_of_mem (f:=Prod.fst) h2;rw[←e1];exact this) hn.1
  ·exact absurd (by have:=List.mem_map_of_mem (f:=Prod.fst) h1;rw[←e2];exact this) hn.1
  ·exact ih hn.2 h1 h2
theorem agu{E m:gV}{n:Int}(h:cO E m)(hn:(E.map (·.1)).Nodup)(hs:∀p∈E,p.2.isSome=true)(hk:n∈m.map (·.1)):cN none m n=some ((cN none E n).getD (false,false)):=by
 have h1:=h.2 _ (De none m n hk);have h2:=De none E n (h.1.mem_iff.1 hk);have h3:=agk hn h1 h2;rw[h3];have h4:=hs _ h2;simp only at h4;cases e:cN none E n with
 |none=>rw[e]at h4;cases h4
 |some L=>rfl
def jr(f:Fact)(r:ir):List Int→Int
 |[]=>0
 |n::l=>if iV r n.toNat=true then(if decide (dw f r.code n (mr r n)≠0)=true then dw f r.code n (mr r n)else jr f r l)else if(!cS f n)=true then 1 else jr f r l
@[reducible] def gf:List Int:=[0,1,2,3,4,5,6,7,8,9,10,11,12]
theorem C4{pre rest:List Int}{x:Int}(h:gf=pre++x::rest):x=(pre.length:Int)∧x<13:=by
 have h1:gf[pre.length]?=some x:=by rw[h];simp
 have hl:pre.length<13:=by
  have:=congrArg List.length h;simp at this;omega
 have key:∀i:Nat,i<13→gf[i]?=some (i:Int):=by decide
 rw[key _ hl]at h1;cases h1;exact⟨rfl,by omega⟩
def uR(f:Fact):Fact:=⟨f.key,f.ib,true,0,0,[],[],[],[],[],[],[],⟨[],[]⟩,⟨[],[]⟩,⟨[],[]⟩,[],[],0⟩
def ua(f:Fact):Int:=
 match dC f.kind with
 |none=>7
 |some r=>jr f r gf
def eP(f:Fact):Int:=
 if(!isName f.key)=true then 23 else if decide (f.ib<0)=true then 2 else if f.cancelled=true then(if(!wX f (uR f))=true then 1 else 0)
 else if(decide (f.day< -25567)||decide (84005<f.day))=true then 13 else ua f
theorem Nc{e:Int}{f:Fact}{r:ir}{n:Int}{l:List Int}(hp:e=jr f r (n::l))(h:iV r n.toNat=true)(h2:decide (dw f r.code n (mr r n)≠0)=true):dw f r.code n (mr r n)=e:=by rw[hp,jr,if_pos h,if_pos h2]
theorem Nd{e:Int}{f:Fact}{r:ir}{n:Int}{l:List Int}(hp:e=jr f r (n::l))(h:iV r n.toNat=true)(h2:decide (dw f r.code n (mr r n)≠0)=false):e=jr f r l:=by rw[hp,jr,if_pos h,if_neg (by rw[h2];simp)]
theorem Nf{e:Int}{f:Fact}{r:ir}{n:Int}{l:List Int}(hp:e=jr f r (n::l))(h:iV r n.toNat=false)(h2:(!cS f n)=true):1=e:=by rw[hp,jr,if_neg (by rw[h];simp),if_pos h2]
theorem Ng{e:Int}{f:Fact}{r:ir}{n:Int}{l:List Int}(hp:e=jr f r (n::l))(h:iV r n.toNat=false)(h2:(!cS f n)=false):e=jr f r l:=by rw[hp,jr,if_neg (by rw[h];simp),if_neg (by rw[h2];simp)]
theorem MP{w:aa}{c:Int}{h:Nat→Bool}{num:D}{code:Bool}{j:Nat}(hj:j<13):(cH w c h num code)[2+j]?=some (.b (h j)):=by
 have:=ZZ (w:=w) (c:=c) (h:=h) (num:=num) (code:=code) (i:=(j:Int)) zO zO;simpa using this
theorem P8{k:Int}{v:kr}{r:ir}(hv:qf k v)(hr:dC k=some r)(j:Nat):v.h j=iV r j:=by
 obtain⟨r',kN,_,_,_,h4⟩:=hv;rw[hr]at kN;cases kN;unfold Ka at h4;unfold iV;cases e:r.num with
 |none=>rw[e]at h4;rw[h4.2];rfl
 |some E=>
  rw[e]at h4;obtain⟨m,hm,_,h5⟩:=h4;rw[h5];exact acm hm r.more j
theorem IB{k:Int}{v:kr}{r:ir}(hv:KZ k v)(hr:dC k=some r):qf k v:=by
 rcases hv with hv|⟨hn,_⟩
 ·exact hv
 ·rw[hr]at hn;cases hn
theorem Kb{k:Int}(h:(!(dC k).isSome)=false):∃r,dC k=some r:=by
 cases e:dC k with
 |none=>rw[e]at h;cases h
 |some r=>exact⟨r,rfl⟩
theorem LN{f:Fact}(h:(!(dC f.kind).isSome)=true):7=ua f:=by
 unfold ua;cases e:dC f.kind with
 |none=>rfl
 |some r=>rw[e]at h;cases h
theorem LQ{f:Fact}{r:ir}(h:dC f.kind=some r):ua f=jr f r gf:=by unfold ua;rw[h]
theorem Ct{f:Fact}(h1:(!isName f.key)=false)(h2:decide (f.ib<0)=false)(h3:f.cancelled=false)(h4:(decide (f.day< -25567)||decide (84005<f.day))=false):eP f=ua f:=by
 unfold eP;rw[if_neg (by rw[h1];simp),if_neg (by rw[h2];simp),if_neg (by rw[h3];simp),if_neg (by rw[h4];simp)]
theorem alR(f:Fact):iv [.agg (aM f),.agg [.str f.key,.i f.ib,.b true,.raw (.int .i64 0),.raw (.int .i64 0),.str [],.str [],.str [],.str [],.str [],.str [],.str [],.str [],.str [],.str [],.str [],.str [],.str [],.raw (.slice none 0 0),.raw (.slice none 0 0),.raw (.int .i64 0)]] [.agg (aM f),.agg (aM (uR f))]:=by
 refine .cons (Sub.refl _) (.cons (Sub.agg ?_) .nil);repeat(first|exact .nil|refine .cons (Sub.refl _) ?_|refine .cons (Sub.nil _ _) ?_)
open Go.Proofs Go.Proofs.Tryz
set_option maxRecDepth 20000
theorem Nb{f:Fact}(hf:kC f){k:Int}{v:kr}{r:ir}(hv:qf k v)(hr:dC k=some r){n:Int}(h0:0≤n)(fh:n<13)(hh:iV r n.toNat=true):Fc Tryz.prog 88 [.agg (aM f),eD v,.i n] (.i (dw f r.code n (mr r n))):=by
 obtain⟨r',kN,e1,e2,e3,h4⟩:=hv;rw[hr]at kN;cases kN;have hg:=aiH hr;unfold Tm at hg;rw[Bool.and_eq_true]at hg;have x5:∀x∈r.more,x=0∨x=3∨x=1∨x=2∨x=10∨x=11∨x=12:=fun x hx=>by
  have:=List.all_eq_true.1 hg.1 x hx;simp only[TM,Bool.or_eq_true,decide_eq_true_eq]at this;omega
 obtain⟨vw,vc,vh,vn,ow⟩:=v;simp only at e1 e2 e3;subst e3;have hnt:((n.toNat:Nat):Int)=n:=by omega
 unfold iV bS at hh;rw[Bool.or_eq_true,hnt]at hh;have xX:(r.more.any fun x=>decide (x=n))=true→n=0∨n=3∨n=1∨n=2∨n=10∨n=11∨n=12:=fun h=>by
  obtain⟨x,hx,e⟩:=List.any_eq_true.1 h;obtain rfl:x=n:=of_decide_eq_true e;exact x5 x hx
 unfold Ka at h4;cases e:r.num with
 |none=>
  rw[e]at h4 hh;simp only at h4;obtain⟨rfl,_⟩:=h4;refine aaP f hf vw vc vh r.code n _ (xX ?_);rcases hh with hh|hh
  ·simp at hh
  ·exact hh
 |some E=>
  rw[e]at h4 hh hg;simp only at h4 hg;obtain⟨m,hm,rfl,_⟩:=h4;rw[Bool.and_eq_true]at hg;have ef:=of_decide_eq_true hg.2.2;have hE:∀p∈E,(4≤p.1∧p.1≤9)∧p.2.isSome=true:=fun p hp=>by
   have:=List.all_eq_true.1 hg.2.1 p hp;rw[Bool.and_eq_true,Bool.and_eq_true]at this;exact⟨⟨of_decide_eq_true this.1.1,of_decide_eq_true this.1.2⟩,this.2⟩
  rcases hh with hh|hh
  ·simp only[Option.getD_some]at hh;obtain⟨p,hp,e2⟩:=List.any_eq_true.1 hh;have e2:=of_decide_eq_true e2;have h49:=(hE p hp).1;have HU:n∈m.map (·.1):=hm.1.mem_iff.2 (e2▸List.mem_map_of_mem (f:=Prod.fst) hp);have hB:=agu hm ef (fun p hp=>(hE p hp).2) HU;refine aaN f hf vw vc vh m r.code n _ zO zO ?_;rw[hB];unfold mr;rw[e];rfl
  ·exact aaK f hf vw vc vh m r.code n _ (xX hh)
def zt:List (Option Nat):=[some 33,some 34,some 35,some 36,some 32,some 37,some 38,some 3,none,some 4]
def V1(f:Fact):List (D→Prop):=[fun d=>∃m,yd m∧d=tW fV eD m,fun d=>d=.aY ((aM f).drop 4),fun d=>d=.i f.kind,fun d=>∃v,KZ f.kind v∧d=.bf [eD v,.b (dC f.kind).isSome],fun d=>∃v,KZ f.kind v∧d=.bf [eD v,.b (dC f.kind).isSome],
 fun d=>∃v,KZ f.kind v∧d=eD v,fun d=>d=.b (dC f.kind).isSome,fun d=>d=.box 1 0,fun _=>True,fun d=>d=.b (dC f.kind).isSome]
def FW(f:Fact)(i:Nat):D→Prop:=((V1 f)[i]?).getD fun _=>True
theorem LB:zG zt=true:=by decide+kernel
abbrev CF:Fr:=⟨60,[],false,none⟩
structure uZ(f:Fact)(listed:Array Bool)(env:Env)(U:ae):Prop where
 aC:pq zt (FW f) listed env
 b1:env.get 1=some (.aY (aM f))
 bo:bm listed 7=false→U.get 1=none
 al:bm listed 7=true→bm listed 8=false→∃ds:List D,ds.length=17∧U.get 1=some (.cells ds)
 c8:bm listed 8=true→bm listed 7=true
 st:bm listed 8=true→∃v,KZ f.kind v∧U.get 1=some (.cells (cH v.w v.c v.h (yG v.num) v.code))
abbrev Fg(f:Fact)(listed:Array Bool)(env:Env)(U:ae)(i:Nat)(o:Oper)(ops:Array Oper):Prop:=
 ∃(ι:Type) (A:ι→Prop) (d:ι→D) (ak:ι→ae),ed CF.N o.dst=true∧On ops env o∧rF Tryz.prog o env U A d ak∧∀j,A j→∃fE dl,Le CF (env.put o.dst (d j)) (ak j) fE dl∧uZ f (listed.setIfInBounds i true) fE dl
section
variable{f:Fact} {ops:Array Oper} {listed:Array Bool} {env:Env} {U:ae} {i t:Nat} {o:Oper}
theorem uz{ι:Type}{A:ι→Prop}{d:ι→D}(hs:listed.size=ops.size)(hn:Nat.blt i ops.size=true)(hI:uZ f listed env U)(hi:zt[i]?=some (some t))(ht:(!(t==1))=true)(Hn:(!(i==7)&&!(i==8))=true)(hN:ed CF.N (some t)=true)(ho:o.dst=some t)(hg:o.guard=none)(hV:∀j,A j→FW f i (d j))(hq:rF Tryz.prog o env U A d (fun _=>U)):Fg f listed env U i o ops:=by
 have be:i<listed.size:=by rw[hs];simpa[Nat.blt_eq]using hn
 rw[Bool.and_eq_true]at Hn;have h7:i≠7:=by simpa using Hn.1
 have h8:i≠8:=by simpa using Hn.2
 have Il:t≠1:=by simpa using ht
 refine⟨ι,A,d,_,by rw[ho];exact hN,sG hg,hq,fun j hj=>⟨(t,d j)::env,U,by rw[ho];exact Le.refl _ _ _,hI.aC.put LB be hi (hV j hj),by rw[Env.aZ,if_neg Il];exact hI.b1,fun e=>hI.bo ?_,fun e e'=>hI.al ?_ ?_,fun e=>AQ be (hI.c8 ?_),fun e=>hI.st ?_⟩⟩;all_goals first|(rwa[hG be,if_neg h7]at e;done)|(rwa[hG be,if_neg h8]at e';done)|(rwa[hG be,if_neg h8]at e;done)
theorem Vm{z:Value}(hs:listed.size=ops.size)(hn:Nat.blt 8 ops.size=true)(hI:uZ f listed env U)(hl:bm listed 7=false)(hi:zt[7]?=some (some t))(ht:(!(t==1))=true)(hN:ed CF.N (some t)=true)(ho:o.dst=some t)(hg:o.guard=none)(hV:FW f 7 (.box 1 0))(hz:(z.cells.toList.map jZ).length=17)
  (hq:U.get 1=none→aq Tryz.prog o env U (.box 1 0) ((1,.cells (z.cells.toList.map jZ))::U)):Fg f listed env U 7 o ops:=by
 have qF:8<listed.size:=by rw[hs];simpa[Nat.blt_eq]using hn
 have be:7<listed.size:=by omega
 have h8:bm listed 8=false:=by
  cases e:bm listed 8 with
  |false=>rfl
  |true=>have:=hI.c8 e;rw[hl]at this;cases this
 have Il:t≠1:=by simpa using ht
 refine⟨_,_,_,_,by rw[ho];exact hN,sG hg,(hq (hI.bo hl)).s9,fun j hj=>⟨(t,.box 1 0)::env,_,by rw[ho];exact Le.refl _ _ _,hI.aC.put LB be hi hV,by rw[Env.aZ,if_neg Il];exact hI.b1,fun e=>?_,fun _ _=>⟨_,hz,by rw[ae.aZ,if_pos rfl]⟩,fun _=>by rw[hG be,if_pos rfl],fun e=>?_⟩⟩
 ·rw[hG be,if_pos rfl]at e;cases e
 ·rw[hG be,if_neg zD,h8]at e;cases e
theorem ajA{v:kr}(hs:listed.size=ops.size)(hn:Nat.blt 8 ops.size=true)(hI:uZ f listed env U)(hl:bm listed 8=false)(h7:bm listed 7=true)(hi:zt[8]?=some none)(ho:o.dst=none)(hg:o.guard=none)(hv:KZ f.kind v)
  (hq:∀ds:List D,ds.length=17→U.get 1=some (.cells ds)→aq Tryz.prog o env U (.raw undef) (U.set 1 (.cells (cH v.w v.c v.h (yG v.num) v.code)))):Fg f listed env U 8 o ops:=by
 have be:8<listed.size:=by rw[hs];simpa[Nat.blt_eq]using hn
 obtain⟨ds,g1,g2⟩:=hI.al h7 hl;refine⟨_,_,_,_,by rw[ho];rfl,sG hg,(hq ds g1 g2).s9,fun j hj=>⟨env,_,by rw[ho];exact Le.refl _ _ _,hI.aC.none be hi,hI.b1,fun e=>?_,fun _ e=>?_,fun _=>AQ be h7,fun _=>⟨v,hv,by rw[ae.dU,if_pos rfl]⟩⟩⟩
 ·rw[hG be,if_neg zD,h7]at e;cases e
 ·rw[hG be,if_pos rfl]at e;cases e
end
theorem adR{f:Fact}{n:Nat}{env:Env}{U:ae}(h1:env.get 1=some (.aY (aM f)))(ca:U.get 1=none):uZ f (Array.replicate n false) env U:=by
 refine⟨fun j t h=>?_,h1,fun _=>ca,fun h=>?_,fun h=>?_,fun h=>?_⟩<;>(rw[yn]at h;cases h)
theorem Z3{f:Fact}{listed:Array Bool}{env:Env}{U:ae}(ez:∀i,i<10→bm listed i=true)(hI:uZ f listed env U):∃v,KZ f.kind v∧Le CF env U [(1,.aY (aM f)),(3,.box 1 0),(4,.b (dC f.kind).isSome)] [(1,.cells (cH v.w v.c v.h (yG v.num) v.code))]:=by
 obtain⟨v,hv,ho⟩:=hI.st (ez 8 zD);obtain⟨d3,e3,q3⟩:=hI.aC 7 3 (ez 7 zD) rfl;obtain⟨d4,e4,q4⟩:=hI.aC 9 4 (ez 9 zD) rfl;have q3:d3=.box 1 0:=q3;have q4:d4=.b (dC f.kind).isSome:=q4;subst q3;subst q4;refine⟨v,hv,Le.mk rfl (.cons hI.b1 (Sub.refl _) rfl (.cons e3 (Sub.refl _) rfl (.cons e4 (Sub.refl _) rfl .nil))) (.cons ho ?_ .nil)⟩;obtain⟨w,c,h,nu,code⟩:=v;cases nu<;>rfl
theorem P5(w:World)(O:Nat→Prop)(ρ:aA):V w O ρ (eD uT) (.agg #[.string ⟨#[]⟩,.int .i64 0,.bool false,.bool false,.bool false,.bool false,.bool false,.bool false,.bool false,.bool false,.bool false,.bool false,.bool false,.bool false,.bool false,.map none,.bool false]):=by
 simp only[V];exact⟨_,rfl,by simp[V,Vs,aG,uT,D.i,D.b]⟩
structure Ww(f:Fact)(vw:aa)(vc:Int)(vh:Nat→Bool)(ow:Bool)(r:ir)where
 pre:List Int
 rest:List Int
 hx:gf=pre++rest
 hp:eP f=jr f r rest
structure Wv(f:Fact)(vw:aa)(vc:Int)(vh:Nat→Bool)(m:gV)(ow:Bool)(r:ir)where
 pre:List Int
 rest:List Int
 hx:gf=pre++rest
 hp:eP f=jr f r rest
theorem F1(f:Fact)(hf:kC f):Fc Tryz.prog 44 [.agg (aM f)] (.i (eP f)):=by
 refine Fc.mk' [2] func44 rfl ntmps44 rfl rfl rfl (fun t w=>results_tmp results44 t _ w) ?_;refine go [11,17] ?_;refine oP (ai call86 rfl (yz _)) ?_;refine br (fun h1=>?_) (fun h1=>?_)
 ·exact ah rfl (Sub.int (by unfold eP;exact iT h1))
 ·refine br (fun h2=>?_) (fun h2=>?_)
  ·exact ah rfl (Sub.int (by(unfold eP;exact iF h1 (iT h2))))
  ·refine br (fun h3=>?_) (fun h3=>?_)
   ·refine oP (ai call76 rfl (Fc.sub (ai0 f (uR f)) (alR f))) ?_;refine br (fun h4=>?_) (fun h4=>?_)
    ·exact ah rfl (Sub.int (by(unfold eP;exact iF h1 (iF h2 (fI h3 (iT h4))))))
    ·exact ah rfl (Sub.int (by(unfold eP;exact iF h1 (iF h2 (fI h3 (iF h4 rfl))))))
   ·refine br (fun h5=>?_) (fun h5=>?_)
    ·exact ah rfl (Sub.int (by(unfold eP;exact iF h1 (iF h2 (iF h3 (iT h5))))))
    ·refine J.bP (Le.gg 1 0 rfl rfl rfl rfl) ?_;refine J.aiv (A:=fun v=>KZ f.kind v) (fE:=fun _=>[(1,.aY (aM f)),(3,.box 1 0),(4,.b (dC f.kind).isSome)]) (dl:=fun v=>[(1,.cells (cH v.w v.c v.h (yG v.num) v.code))]) (uZ f) nC zK ?_ ?_ ?_ ?_
     ·exact adR rfl rfl
     ·exact⟨(fun _ _ _ hs hI hl hd=>by
    skip;exact uz hs zK hI rfl rfl rfl rfl rfl rfl (fun m hm=>⟨m,hm,rfl⟩) (JS call87 rfl P6 _)),
   (fun _ _ _ hs hI hl hd=>by
    skip;exact uz hs zK hI rfl rfl rfl rfl rfl rfl (fun _ _=>rfl) (aq.s9 (mD (n:=0) 3 4 underlying39 sizeOf3 rfl (by exact hI.b1) rfl _))),
   (fun _ _ _ hs hI hl hd=>by
    obtain⟨_,Gq,rfl⟩:=hI.aC 1 34 (dp hd 1 zK) rfl;exact uz hs zK hI rfl rfl rfl rfl rfl rfl (fun _ _=>rfl) (aq.s9 (bX isAgg3 (by exact Gq) _))),
   (fun _ _ _ hs hI hl hd=>by
    obtain⟨_,Gp,mm,hA,rfl⟩:=hI.aC 0 33 (dp hd 0 zK) rfl;obtain⟨_,Gr,rfl⟩:=hI.aC 2 35 (dp hd 2 zK) rfl;obtain⟨hk1,vP⟩:=Iz hA.1 hA.2 f.kind;exact uz hs zK hI rfl rfl rfl rfl rfl rfl (fun _ _=>⟨_,hk1,by rw[←vP]⟩) (aq.s9 (SR dW (vD:=eD) (m:=mm) (k:=f.kind) (d:=uT) underlying123 zeroValue121 P5 (by exact Gp) rfl (by exact Gr) rfl))),
   (fun _ _ _ hs hI hl hd=>by
    obtain⟨_,Gs,v,hv,rfl⟩:=hI.aC 3 36 (dp hd 3 zK) rfl;exact uz hs zK hI rfl rfl rfl rfl rfl rfl (fun _ _=>⟨v,hv,rfl⟩) (aq.s9 (aX (by exact Gs) _))),
   (fun _ _ _ hs hI hl hd=>by
    obtain⟨_,zJ,v,hv,rfl⟩:=hI.aC 4 32 (dp hd 4 zK) rfl;exact uz hs zK hI rfl rfl rfl rfl rfl rfl (fun _ _=>⟨v,hv,rfl⟩) (aq.s9 (dY (by exact zJ) rfl _))),
   (fun _ _ _ hs hI hl hd=>by
    obtain⟨_,zJ,v,hv,rfl⟩:=hI.aC 4 32 (dp hd 4 zK) rfl;exact uz hs zK hI rfl rfl rfl rfl rfl rfl (fun _ _=>rfl) (aq.s9 (dY (by exact zJ) rfl _))),
   (fun _ _ _ hs hI hl hd=>by
    skip;exact Vm hs zK hI hl rfl rfl rfl rfl rfl rfl rfl (fun ca=>jE 1 zeroValue121 ca)),
   (fun _ _ _ hs hI hl hd=>by
    obtain⟨_,Gt,v,hv,rfl⟩:=hI.aC 5 37 (dp hd 5 zK) rfl;obtain⟨_,e3,rfl⟩:=hI.aC 7 3 (dp hd 7 zK) rfl;exact ajA (v:=v) hs zK hI hl (dp hd 7 zK) rfl rfl rfl hv (fun ds h1 h2=>lf sizeOf121 (by exact e3) (by exact Gt) rfl (by obtain⟨w,c,h,nu,code⟩:=v;cases nu<;>rfl) h2 h1)),
   (fun _ _ _ hs hI hl hd=>by
    obtain⟨_,vk,rfl⟩:=hI.aC 6 38 (dp hd 6 zK) rfl;exact uz hs zK hI rfl rfl rfl rfl rfl rfl (fun _ _=>rfl) (aq.s9 (wL (by exact vk) _))),trivial⟩
     ·intro listed e ob hs ez hI;exact Z3 ez hI
     ·rintro⟨vw,vc,vh,_|m,ow⟩ hv
      ·show J _ _ _ _ [(1,.aY (aM f)),(3,.box 1 0),(4,.b (dC f.kind).isSome)] [(1,.cells (cH vw vc vh (D.raw (.map none)) ow))];refine go [11,17] ?_;refine br (fun h6=>?_) (fun h6=>?_)
       ·exact ah rfl (Sub.int (by exact(LN h6).trans (Ct h1 h2 h3 h5).symm))
       ·obtain⟨r,hr⟩:=Kb h6;have hk:=IB hv hr;have hh:∀j,vh j=iV r j:=P8 hk hr;refine J.loop (ι:=Ww f vw vc vh ow r) (fun sx=>[(1,.aY (aM f)),(3,.box 1 0),(41,.i sx.pre.length)]) (fun sx=>[(1,.cells (cH vw vc vh (D.raw (.map none)) ow))]) (fun sx=>sx.rest.length) ⟨[],_,rfl,(Ct h1 h2 h3 h5).trans (LQ hr)⟩ ?_ ?_
        ·exact Le.mk rfl (.s rfl rfl (.s rfl rfl (.s rfl rfl .nil))) (.cons rfl rfl .nil)
        ·rintro⟨pre,rest,hx,hp⟩;show J _ _ _ _ [(1,.aY (aM f)),(3,.box 1 0),(41,.i pre.length)] [(1,.cells (cH vw vc vh (D.raw (.map none)) ow))];rcases rest with _|⟨x,rest⟩
         ·have hl:=congrArg List.length hx;simp only[List.length_append,List.length_cons,List.length_nil]at hl;refine go [11,17] ?_;refine aR zQ ?_;refine go [11,17] ?_;exact ah rfl (Sub.int (by exact hp.symm))
         ·obtain⟨e9,fh⟩:=C4 hx;subst e9;refine go [11,17] ?_;refine a_ zQ ?_;refine J.af [.p,.p,.p,.r] ?_;refine .mv rfl rfl<|.P rfl (hZ (n:=12) 118 2 underlying121 sizeOf118 rfl rfl)<|.P rfl (BC (o2:=2+pre.length) underlying118 sizeOf4 rfl rfl zO zO zO)<|.R rfl (iK isAgg4 rfl rfl (MP zO))<|.nil ?_;refine go [11,17] ?_;refine br (fun h7=>?_) (fun h7=>?_)
          ·refine oP (ai call88 rfl (Nb (v:=⟨vw,vc,vh,none,ow⟩) hf hk hr (n:=(pre.length:Int)) zO zO (by rw[Int.toNat_natCast,←hh];assumption))) ?_;refine br (fun h8=>?_) (fun h8=>?_)
           ·exact ah rfl (Sub.int (by exact Nc hp (by rw[Int.toNat_natCast,←hh];assumption) zA))
           ·refine go [11,17] ?_;refine sd (az zO) ?_;exact nx ⟨pre++[(pre.length:Int)],rest,by simp[hx],by exact Nd hp (by rw[Int.toNat_natCast,←hh];assumption) zA⟩ zS (Le.mk rfl (.s rfl rfl (.s rfl rfl (.cons rfl (Sub.int zS) rfl .nil))) (.cons rfl rfl .nil))
          ·refine oP (ai call89 rfl (MN f (pre.length:Int) zO zO)) ?_;refine br (fun h9=>?_) (fun h9=>?_)
           ·exact ah rfl (Sub.int (by exact Nf hp (by rw[Int.toNat_natCast,←hh];assumption) zA))
           ·refine go [11,17] ?_;refine sd (az zO) ?_;exact nx ⟨pre++[(pre.length:Int)],rest,by simp[hx],by exact Ng hp (by rw[Int.toNat_natCast,←hh];assumption) zA⟩ zS (Le.mk rfl (.s rfl rfl (.s rfl rfl (.cons rfl (Sub.int zS) rfl .nil))) (.cons rfl rfl .nil))
      ·show J _ _ _ _ [(1,.aY (aM f)),(3,.box 1 0),(4,.b (dC f.kind).isSome)] [(1,.cells (cH vw vc vh (cV m) ow))];refine go [11,17] ?_;refine br (fun cK=>?_) (fun cK=>?_)
       ·exact ah rfl (Sub.int (by exact(LN cK).trans (Ct h1 h2 h3 h5).symm))
       ·obtain⟨r,hr⟩:=Kb cK;have hk:=IB hv hr;have hh:∀j,vh j=iV r j:=P8 hk hr;refine J.loop (ι:=Wv f vw vc vh m ow r) (fun sx=>[(1,.aY (aM f)),(3,.box 1 0),(41,.i sx.pre.length)]) (fun sx=>[(1,.cells (cH vw vc vh (cV m) ow))]) (fun sx=>sx.rest.length) ⟨[],_,rfl,(Ct h1 h2 h3 h5).trans (LQ hr)⟩ ?_ ?_
        ·exact Le.mk rfl (.s rfl rfl (.s rfl rfl (.s rfl rfl .nil))) (.cons rfl rfl .nil)
        ·rintro⟨pre,rest,hx,hp⟩;show J _ _ _ _ [(1,.aY (aM f)),(3,.box 1 0),(41,.i pre.length)] [(1,.cells (cH vw vc vh (cV m) ow))];rcases rest with _|⟨x,rest⟩
         ·have hl:=congrArg List.length hx;simp only[List.length_append,List.length_cons,List.length_nil]at hl;refine go [11,17] ?_;refine aR zQ ?_;refine go [11,17] ?_;exact ah rfl (Sub.int (by exact hp.symm))
         ·obtain⟨e9,fh⟩:=C4 hx;subst e9;refine go [11,17] ?_;refine a_ zQ ?_;refine J.af [.p,.p,.p,.r] ?_;refine .mv rfl rfl<|.P rfl (hZ (n:=12) 118 2 underlying121 sizeOf118 rfl rfl)<|.P rfl (BC (o2:=2+pre.length) underlying118 sizeOf4 rfl rfl zO zO zO)<|.R rfl (iK isAgg4 rfl rfl (MP zO))<|.nil ?_;refine go [11,17] ?_;refine br (fun cM=>?_) (fun cM=>?_)
          ·refine oP (ai call88 rfl (Nb (v:=⟨vw,vc,vh,some m,ow⟩) hf hk hr (n:=(pre.length:Int)) zO zO (by rw[Int.toNat_natCast,←hh];assumption))) ?_;refine br (fun dN=>?_) (fun dN=>?_)
           ·exact ah rfl (Sub.int (by exact Nc hp (by rw[Int.toNat_natCast,←hh];assumption) zA))
           ·refine go [11,17] ?_;refine sd (az zO) ?_;exact nx ⟨pre++[(pre.length:Int)],rest,by simp[hx],by exact Nd hp (by rw[Int.toNat_natCast,←hh];assumption) zA⟩ zS (Le.mk rfl (.s rfl rfl (.s rfl rfl (.cons rfl (Sub.int zS) rfl .nil))) (.cons rfl rfl .nil))
          ·refine oP (ai call89 rfl (MN f (pre.length:Int) zO zO)) ?_;refine br (fun fh=>?_) (fun fh=>?_)
           ·exact ah rfl (Sub.int (by exact Nf hp (by rw[Int.toNat_natCast,←hh];assumption) zA))
           ·refine go [11,17] ?_;refine sd (az zO) ?_;exact nx ⟨pre++[(pre.length:Int)],rest,by simp[hx],by exact Ng hp (by rw[Int.toNat_natCast,←hh];assumption) zA⟩ zS (Le.mk rfl (.s rfl rfl (.s rfl rfl (.cons rfl (Sub.int zS) rfl .nil))) (.cons rfl rfl .nil))
end Go.T
namespace Go.T
open Go
abbrev UM:=List (aa×aa)
def aD(u:UM):List aa:=u.map (·.1)
def dc(u:UM)(x:aa):UM:=if iU u x=true then u else dm u x x
structure qe(u:UM)(lg:aa→aa)(rk:aa→Nat):Prop where
 val:∀x∈aD u,cN [] u x∈aD u
 step:∀x∈aD u,cN [] u x≠x→lg x=lg (cN [] u x)∧rk (cN [] u x)<rk x
 stop:∀x∈aD u,cN [] u x=x→lg x=x
theorem qe.y5{u:UM}{lg:aa→aa}{rk:aa→Nat}(h:qe u lg rk):∀(n:Nat)(x:aa),rk x=n→x∈aD u→lg x∈aD u∧cN [] u (lg x)=lg x:=by
 intro n;induction n using Nat.strongRecOn with
 |_ n ih=>
  intro x hn hx;by_cases e:cN [] u x=x
  ·rw[h.stop x hx e];exact⟨hx,e⟩
  ·obtain⟨h1,h2⟩:=h.step x hx e;rw[h1];exact ih _ (hn▸h2) _ rfl (h.val x hx)
theorem qe.uniq{u:UM}{lg Tc:aa→aa}{rk rk':aa→Nat}(h:qe u lg rk)(h':qe u Tc rk'):∀(n:Nat)(x:aa),rk x=n→x∈aD u→lg x=Tc x:=by
 intro n;induction n using Nat.strongRecOn with
 |_ n ih=>
  intro x hn hx;by_cases e:cN [] u x=x
  ·rw[h.stop x hx e,h'.stop x hx e]
  ·obtain⟨h1,h2⟩:=h.step x hx e;rw[h1,(h'.step x hx e).1];exact ih _ (hn▸h2) _ rfl (h.val x hx)
def kq(u:UM):Prop:=∃p:(aa→aa)×(aa→Nat),qe u p.1 p.2
open Classical in
noncomputable def aF(u:UM)(x:aa):aa:=if h:kq u then(Classical.choose h).1 x else x
theorem EL{u:UM}{lg:aa→aa}{rk:aa→Nat}(h:qe u lg rk){x:aa}(hx:x∈aD u):aF u x=lg x:=by
 have hg:kq u:=⟨(lg,rk),h⟩;unfold aF;rw[dif_pos hg];exact((Classical.choose_spec hg).uniq h) _ x rfl hx
theorem kq.vA{u:UM}(h:kq u):∃rk,qe u (aF u) rk:=by
 obtain⟨⟨lg,rk⟩,hf⟩:=h;have key:∀x∈aD u,aF u x=lg x:=fun x hx=>EL hf hx;refine⟨rk,hf.val,fun x hx e=>?_,fun x hx e=>?_⟩
 ·rw[key x hx,key _ (hf.val x hx)];exact hf.step x hx e
 ·rw[key x hx];exact hf.stop x hx e
theorem Oo{u:UM}{x:aa}:iU u x=true↔x∈aD u:=by
 unfold iU aD;rw[List.any_eq_true,List.mem_map];constructor
 ·rintro⟨p,hp,h⟩;exact⟨p,hp,(of_decide_eq_true h).symm⟩
 ·rintro⟨p,hp,rfl⟩;exact⟨p,hp,by simp⟩
theorem qR{u:UM}{x v y:aa}:y∈aD (dm u x v)↔y=x∨y∈aD u:=by
 induction u with
 |nil=>simp[dm,aD]
 |cons p r ih=>
  obtain⟨a,b⟩:=p;simp only[dm];split
  ·rename_i e;subst e;simp[aD]
  ·have:=ih;simp only[aD,List.map_cons,List.mem_cons]at this⊢;rw[this];constructor
   ·rintro(h|h|h)
    ·exact .inr (.inl h)
    ·exact .inl h
    ·exact .inr (.inr h)
   ·rintro(h|h|h)
    ·exact .inr (.inl h)
    ·exact .inl h
    ·exact .inr (.inr h)
theorem xJ{u:UM}{x v y:aa}:cN [] (dm u x v) y=if y=x then v else cN [] u y:=by
 induction u with
 |nil=>simp[dm,cN]
 |cons p r ih=>
  obtain⟨a,b⟩:=p;simp only[dm];split
  ·rename_i e;subst e;simp only[cN];split<;>rfl
  ·rename_i e;simp only[cN,ih];by_cases h1:y=a
   ·subst h1;rw[if_pos rfl,if_pos rfl,if_neg (fun h=>e h.symm)]
   ·rw[if_neg h1,if_neg h1]
theorem abB:kq []:=⟨(id,fun _=>0),fun x hx=>by simp[aD]at hx,fun x hx=>by simp[aD]at hx,fun x hx=>by simp[aD]at hx⟩
theorem Cn{u:UM}(h:kq u)(x:aa):kq (dc u x)∧(∀y,y∈aD (dc u x)↔y=x∨y∈aD u)∧(∀y∈aD u,aF (dc u x) y=aF u y)∧(x∉aD u→aF (dc u x) x=x):=by
 unfold dc;by_cases hx:x∈aD u
 ·rw[if_pos (Oo.2 hx)];exact⟨h,fun y=>⟨.inr,fun e=>e.elim (fun e=>e▸hx) id⟩,fun _ _=>rfl,fun e=>absurd hx e⟩
 ·rw[if_neg (fun e=>hx (Oo.1 e))];obtain⟨rk,hf⟩:=h.vA;have aB:∀y∈aD u,y≠x:=fun y hy e=>hx (e▸hy);have hF:qe (dm u x x) (fun y=>if y=x then x else aF u y) rk:=by
   refine⟨fun y hy=>?_,fun y hy e=>?_,fun y hy e=>?_⟩
   ·rw[xJ];split
    ·exact qR.2 (.inl rfl)
    ·rename_i e;exact qR.2 (.inr (hf.val y ((qR.1 hy).resolve_left e)))
   ·rw[xJ]at e⊢;by_cases g:y=x
    ·rw[if_pos g]at e;exact absurd g.symm e
    ·have v7:=(qR.1 hy).resolve_left g;rw[if_neg g]at e⊢;rw[if_neg g,if_neg (aB _ (hf.val y v7))];exact hf.step y v7 e
   ·rw[xJ]at e;by_cases g:y=x
    ·rw[if_pos g];exact g.symm
    ·have v7:=(qR.1 hy).resolve_left g;rw[if_neg g]at e⊢;exact hf.stop y v7 e
  refine⟨⟨(_,_),hF⟩,fun y=>qR,fun y hy=>?_,fun _=>?_⟩
  ·rw[EL hF (qR.2 (.inr hy)),if_neg (aB y hy)]
  ·rw[EL hF (qR.2 (.inl rfl)),if_pos rfl]
theorem Qp{u:UM}(h:kq u){a b:aa}(ha:a∈aD u)(hb:b∈aD u):kq (dm u (aF u a) (aF u b))∧(∀y,y∈aD (dm u (aF u a) (aF u b))↔y∈aD u)∧
  (∀y∈aD u,aF (dm u (aF u a) (aF u b)) y=if aF u y=aF u a then aF u b else aF u y):=by
 obtain⟨rk,hf⟩:=h.vA;obtain⟨ka,sa⟩:=hf.y5 _ a rfl ha;obtain⟨kb,sb⟩:=hf.y5 _ b rfl hb;have vR:∀y,y∈aD (dm u (aF u a) (aF u b))↔y∈aD u:=fun y=>qR.trans ⟨fun e=>e.elim (fun e=>e▸ka) id,.inr⟩;have ra:aF u (aF u a)=aF u a:=hf.stop _ ka sa;have rb:aF u (aF u b)=aF u b:=hf.stop _ kb sb;have hF:qe (dm u (aF u a) (aF u b)) (fun y=>if aF u y=aF u a then aF u b else aF u y) (fun y=>if aF u y=aF u a then rk y+rk (aF u b)+1 else rk y):=by
  refine⟨fun y hy=>?_,fun y hy e=>?_,fun y hy e=>?_⟩
  ·rw[vR]at hy⊢;rw[xJ];split
   ·exact kb
   ·exact hf.val y hy
  ·rw[vR]at hy;rw[xJ]at e⊢;by_cases g:y=aF u a
   ·rw[if_pos g]at e⊢;have vG:aF u b≠aF u a:=fun e'=>e (e'.trans g.symm);subst g;simp only[ra,rb,if_true,if_neg vG];exact⟨trivial,by omega⟩
   ·rw[if_neg g]at e⊢;obtain⟨h1,h2⟩:=hf.step y hy e;simp only[←h1];refine⟨trivial,?_⟩;split<;>omega
  ·rw[vR]at hy;rw[xJ]at e;by_cases g:y=aF u a
   ·rw[if_pos g]at e;subst g;simp only[ra,if_true];exact e
   ·rw[if_neg g]at e;have h1:=hf.stop y hy e;have:aF u y≠aF u a:=fun e'=>g (h1.symm.trans e');simp only[if_neg this];exact h1
 exact⟨⟨(_,_),hF⟩,vR,fun y hy=>EL hF ((vR y).2 hy)⟩
noncomputable def qQ(a:aa)(u:UM)(x:aa):UM:=dm (dc u x) (aF (dc u x) x) (aF (dc u x) a)
noncomputable def tY(u:UM)(l:List aa):UM:=l.foldl (qQ (l.headD [])) u
theorem PU{u:UM}(h:kq u){a x:aa}(ha:a=x∨a∈aD u):kq (qQ a u x)∧(∀y,y∈aD (qQ a u x)↔y=x∨y∈aD u):=by
 obtain⟨h1,h2,h3,h4⟩:=Cn h x;obtain⟨g1,g2,g3⟩:=Qp h1 ((h2 x).2 (.inl rfl)) ((h2 a).2 ha);exact⟨g1,fun y=>(g2 y).trans (h2 y)⟩
end Go.T
namespace Go.T
open Go Go.Proofs Go.Proofs.Tryz
set_option maxRecDepth 20000
theorem Lr(f:Fact)(hf:kC f):Fc Tryz.prog 43 [.agg (aM f)] (.b (decide (eP f≠0))):=by
 refine Fc.mk' [2] func43 rfl ntmps43 rfl rfl rfl (fun t w=>results_tmp results43 t _ w) ?_;refine go [] ?_;refine oP (ai call44 rfl (F1 _ zA)) ?_;exact ah rfl (Sub.refl _)
theorem ic:jI Tryz.prog 9 D.str B5 de:=ad' underlying9
theorem KP(w:World)(O:Nat→Prop)(ρ:aA):V w O ρ (D.str []) (.string ⟨#[]⟩):=by simp[V,aG]
theorem Lj(u:UM)(x:aa):dv Tryz.prog 90 [.bu 60,.str x] [(60,.mp (aS D.str D.str u))] (.bf []) [(60,.mp (aS D.str D.str (dc u x)))]:=by
 refine dv.mk' [] func90 rfl ntmps90 rfl rfl rfl (fun t w=>results_none results90 t _ w) ?_;refine go [] ?_;refine oR (ahY ic (vD:=D.str) (k:=x) (d:=[]) underlying128 zeroValue9 KP rfl rfl rfl rfl) ?_;refine br (fun h1=>?_) (fun h1=>?_)
 ·refine oW (dJ ic (vD:=D.str) (k:=x) (v:=x) underlying128 rfl rfl rfl rfl rfl rfl) ?_;exact J9 (Sub.refl _) (.eq rfl (by(unfold dc;(rw[if_neg (by rw[show iU u x=false by simpa using h1];simp)];done))) (fx _ _) .nil)
 ·exact J9 (Sub.refl _) (.eq rfl (by(unfold dc;(rw[if_pos (by simpa using h1)];done))) (fx _ _) .nil)
structure aiE(u:UM)(rk:aa→Nat)(x:aa)where
 sy:aa
 hy:sy∈aD u
 hr:aF u sy=aF u x
theorem J'(u:UM)(hg:kq u)(x:aa)(hx:x∈aD u):dv Tryz.prog 129 [.bu 60,.str x] [(60,.mp (aS D.str D.str u))] (.str (aF u x)) [(60,.mp (aS D.str D.str u))]:=by
 refine dv.mk' [4] func129 rfl ntmps129 rfl rfl rfl (fun t w=>results_tmp results129 t _ w) ?_;obtain⟨rk,hf⟩:=hg.vA;refine go [] ?_;refine J.loop (ι:=aiE u rk x) (fun sx=>[(0,.bu 60),(1,.str sx.sy)]) (fun sx=>[(60,.mp (aS D.str D.str u))]) (fun sx=>rk sx.sy) ⟨x,hx,rfl⟩ ?_ ?_
 ·exact Le.mk rfl (.s rfl rfl (.s rfl rfl .nil)) (.eq rfl (by rfl) (fx _ _) .nil)
 ·rintro⟨sy,hy,hr⟩;show J _ _ _ _ [(0,.bu 60),(1,.str sy)] [(60,.mp (aS D.str D.str u))];refine go [] ?_;refine oR (uB ic (vD:=D.str) (k:=sy) (d:=[]) underlying128 zeroValue9 KP rfl rfl rfl rfl) ?_;refine br (fun h1=>?_) (fun h1=>?_)
  ·refine oR (uB ic (vD:=D.str) (k:=sy) (d:=[]) underlying128 zeroValue9 KP rfl rfl rfl rfl) ?_;exact nx ⟨cN [] u sy,hf.val _ hy,by rw[←hr];exact(hf.step _ hy (by simpa using h1)).1.symm⟩ (by exact(hf.step _ hy (by simpa using h1)).2) (Le.mk rfl (.s rfl rfl (.s rfl rfl .nil)) (.eq rfl (by rfl) (fx _ _) .nil))
  ·refine go [] ?_;exact uE rfl (Sub.str (by rw[←hr];exact(hf.stop _ hy (by simpa using h1)).symm)) (.eq rfl (by rfl) (fx _ _) .nil)
theorem acL{l:List aa}(h:l≠[]):(l.map fun s=>[D.str s])[(0:Int).toNat]?=some [.str (l.headD [])]:=by
 cases l with
 |nil=>exact absurd rfl h
 |cons a l=>rfl
structure ad5(u:UM)(l:List aa)where
 pre:List aa
 rest:List aa
 u1:UM
 hx:l=pre++rest
 hu:tY u l=rest.foldl (qQ (l.headD [])) u1
 lH:kq u1
 hh:pre=[]∨l.headD []∈aD u1
theorem PV(u:UM)(hg:kq u)(l:List aa):dv Tryz.prog 91 [.bu 60,cw l] [(60,.mp (aS D.str D.str u))] (.bf []) [(60,.mp (aS D.str D.str (tY u l)))]:=by
 refine dv.mk' [] func91 rfl ntmps91 rfl rfl rfl (fun t w=>results_none results91 t _ w) ?_;refine J.ej 1 rfl (fun hb=>?_);simp only[List.length_map,aG]at hb;refine go [] ?_;refine J.loop (ι:=ad5 u l) (fun sx=>[(0,.bu 60),(1,cw l),(6,cw l),(7,.i l.length),(8,.i sx.pre.length)]) (fun sx=>[(60,.mp (aS D.str D.str sx.u1))]) (fun sx=>sx.rest.length) ⟨[],l,u,rfl,rfl,hg,.inl rfl⟩ ?_ ?_
 ·exact Le.mk rfl (.s rfl rfl (.s rfl rfl (.s rfl rfl (.cons rfl (Sub.int zS) rfl (.s rfl rfl .nil))))) (.eq rfl (by rfl) (fx _ _) .nil)
 ·rintro⟨pre,rest,u1,hx,hu,lH,hh⟩;show J _ _ _ _ [(0,.bu 60),(1,cw l),(6,cw l),(7,.i l.length),(8,.i pre.length)] [(60,.mp (aS D.str D.str u1))];have hl:=congrArg List.length hx;simp only[List.length_append]at hl;rcases rest with _|⟨x,rest⟩
  ·skip;refine go [] ?_;refine aR (by simp at hl⊢;omega) ?_;refine J.nil ?_;exact J9 (Sub.refl _) (.eq rfl (by rw[show tY u l=u1 from hu]) (fx _ _) .nil)
  ·simp only[List.length_cons]at hl;have DC:l.headD []=x∨l.headD []∈aD u1:=by
     rcases hh with e|e
     ·left;rw[hx,e];rfl
     ·exact .inr e
   have hA:=Cn lH x;have HM:=DC;refine go [] ?_;refine a_ zQ ?_;refine ix zO (bn (fun s=>[D.str s]) hx rfl) ?_;refine oW (gE call90 rfl (Lj _ _) (.cons rfl (fx _ _) .nil) rfl rfl) ?_;refine oW (gE call129 rfl (J' _ hA.1 _ ((hA.2.1 _).2 (.inl rfl))) (.cons rfl (fx _ _) .nil) rfl rfl) ?_;refine ix zD (acL (l:=l) (by rw[hx];simp)) ?_;refine oW (gE call129 rfl (J' _ hA.1 _ ((hA.2.1 _).2 HM)) (.cons rfl (fx _ _) .nil) rfl rfl) ?_;refine oW (dJ ic (vD:=D.str) (k:=(aF (dc u1 x) x)) (v:=(aF (dc u1 x) (l.headD []))) underlying128 rfl rfl rfl rfl rfl rfl) ?_;refine ord ?_;refine sd (az zO) ?_;exact nx ⟨pre++[x],rest,qQ (l.headD []) u1 x,by simp[hx],hu,(PU lH DC).1,.inr (((PU lH DC).2 _).2 DC)⟩ zS (Le.mk rfl (.s rfl rfl (.s rfl rfl (.s rfl rfl (.s rfl rfl (.cons rfl (Sub.int zS) rfl .nil))))) (.eq rfl (by rfl) (fx _ _) .nil))
end Go.T
namespace Go.Proofs
open Go.Shelf Go.RowKit Go.Lib Go.Sort
set_option maxRecDepth 20000
def Tryz.Gd:Go.Shelf.Ren:=⟨fun|6=>46|10=>61|n=>n,fun|0=>0|3=>3|4=>4|22=>48|23=>9|25=>51|n=>n,fun|n=>n⟩
theorem Tryz.Mm:SlLaysH.n10 Tryz.prog Tryz.Gd:={
 mixed:=by kernel_rfl
 f6:=⟨Tryz.f46.name,by decide,Tryz.func46.trans (congrArg some (by kernel_rfl))⟩
 f10:=⟨Tryz.f61.name,by decide,Tryz.func61.trans (congrArg some (by kernel_rfl))⟩
 t0:=Tryz.underlying0
 a0:=Tryz.isAgg0
 z0:=Tryz.sizeOf0
 v0:=Tryz.zeroValue0
 t3:=Tryz.underlying3
 a3:=Tryz.isAgg3
 z3:=Tryz.sizeOf3
 v3:=Tryz.zeroValue3
 t4:=Tryz.underlying4
 a4:=Tryz.isAgg4
 z4:=Tryz.sizeOf4
 v4:=Tryz.zeroValue4
 t22:=Tryz.underlying48
 a22:=Tryz.isAgg48
 z22:=Tryz.sizeOf48
 v22:=Tryz.zeroValue48
 a23:=Tryz.isAgg9
 z23:=Tryz.sizeOf9
 t25:=Tryz.underlying51
 a25:=Tryz.isAgg51
 z25:=Tryz.sizeOf51
 v25:=Tryz.zeroValue51
}
end Go.Proofs
namespace Go.T
open Go Go.Proofs Go.Shelf Go.RowKit Go.Lib Go.Sort
variable[bV]
theorem SC(W:World)(bW off:Nat)(d:Array (List UInt8)):putRow encStr W bW off d=putRowK (fun s:List UInt8=>[encStr s]) 1 W bW off d:=by
 unfold putRowK putRow
 congr 1
 funext c
 unfold putCells
 congr 1
 funext k x
 simp only[size_flatK,Nat.mul_one];by_cases h:off≤k∧k<off+d.size
 ·rw[if_pos h,if_pos h,get_flatK _ _ _ _ zO];simp[Nat.mod_one]
 ·rw[if_neg h,if_neg h]
theorem holds_one{w:World}{bW off:Nat}{d:Array (List UInt8)}(h:HoldsK (fun s:List UInt8=>[encStr s]) 1 w bW off d):Holds encStr w bW off d:=by
 intro j hj;have:=h j (by simpa using hj);rw[get_flatK _ _ _ _ zO]at this;simpa[Nat.mod_one]using this
abbrev e6:={s:aa//s.length≤aG}
instance:Inhabited e6:=⟨⟨[],by simp[aG]⟩⟩
theorem zM:Ff 1 (fun x:e6=>[D.str x.1]) (fun x=>[encStr x.1]):=by
 refine⟨fun _=>rfl,fun _=>rfl,fun x v hv=>?_,fun x w O ρ vs h=>?_,fun x w O ρ=>?_⟩
 ·simp only[List.mem_cons,List.not_mem_nil,or_false]at hv;subst hv;rfl
 ·simp only[Vs,V]at h;obtain⟨_,_,rfl,h1,rfl⟩:=h;rw[h1.1]
 ·simp only[Vs,V];exact⟨_,_,rfl,⟨rfl,x.2⟩,rfl⟩
theorem C2(d:List e6):flatK (fun x:e6=>[encStr x.1]) 1 d.toArray=flatK (fun s:List UInt8=>[encStr s]) 1 (d.map Subtype.val).toArray:=by
 apply Array.ext
 ·simp
 ·intro i h1 h2;simp only[size_flatK,List.size_toArray]at h1;have hi:i<d.length:=by omega
  have e1:=get_flatK (fun x:e6=>[encStr x.1]) 1 d.toArray i (by simpa using h1);have e2:=get_flatK (fun s:List UInt8=>[encStr s]) 1 (d.map Subtype.val).toArray i (by simpa using h1);rw[getElem!_pos _ i (by simpa using h1)]at e1;rw[getElem!_pos _ i (by simpa using h1)]at e2;rw[e1,e2];simp[Nat.mod_one,hi]
theorem ajs{P:Program}{r:Ren}(L:SlLaysM.n6 P r)(id:Nat)(l:List e6)(hl:l.length<4611686018427387904)(l2:List e6)(bL:l2.map Subtype.val=(l.map Subtype.val).mergeSort fun x y=>decide (x≤y)):
  dv P (r.f 6) [.gs id l.length] [(id,.arr 1 (l.map fun x=>[D.str x.1]))] (.bf []) [(id,.arr 1 (l2.map fun x=>[D.str x.1]))]:=⟨fun w O ρ vals aj cQ hv=>by
 have hlen:l2.length=l.length:=by have:=congrArg List.length bL;simpa using this
 simp only[Vs,V]at hv;obtain⟨v1,us,rfl,h1,rfl⟩:=hv;rcases h1 with⟨hn,a,rfl⟩|⟨hn,aN,g_,rfl⟩
 ·obtain rfl:l=[]:=List.length_eq_zero_iff.1 hn;obtain rfl:l2=[]:=List.length_eq_zero_iff.1 hlen;refine Calls.mono (AnyM.slices_Sort_string_none L a 0 w) ?_;rintro e w' ⟨rfl,rfl⟩;exact⟨_,ρ,rfl,Tr.refl aj,by simp[V,Vs]⟩
 ·have eB:ae.get [(id,Ob.arr 1 (l.map fun x=>[D.str x.1]))] id=some (.arr 1 (l.map fun x=>[D.str x.1])):=by simp[ae.get]
  have dO:(Ob.arr 1 (l.map fun x:e6=>[D.str x.1])).live=true:=by
   cases l with
   |nil=>simp at hn
   |cons x l=>rfl
  obtain⟨l',h3,xY,c,T,hb,be,qC,qK⟩:=aj.own id _ eB dO;rw[g_]at h3;cases h3;have qz:=H8 zM hb qK;have hH:HoldsK (fun s:List UInt8=>[encStr s]) 1 w aN.b aN.off (l.map Subtype.val).toArray:=by
   unfold HoldsK at*;rw[←C2];exact qz
  have kM:aN.b<w.heap.size:=(Array.getElem?_eq_some_iff.1 hb).1;have key:=AnyM.slices_Sort_string L aN.b aN.off aN.cap (l.map Subtype.val) w (holds_one hH) kM (by simpa using hl);rw[List.length_map]at key;refine Calls.mono key ?_;rintro e w' ⟨rfl,n,os,rfl⟩;have Io:grow (putRow encStr (Sort.ahead w n) aN.b aN.off ((l.map Subtype.val).mergeSort fun x y=>decide (x≤y)).toArray) os=sortWorldK (fun x:e6=>[encStr x.1]) 1 w aN.b aN.off n l2.toArray os:=by
   rw[SC,←bL];unfold sortWorldK putRowK;rw[C2]
  rw[Io];have xS:(sortWorldK (fun x:e6=>[encStr x.1]) 1 w aN.b aN.off n l2.toArray os).heap[aN.b]?=some (.cells (putCells _root_.id aN.off (flatK (fun x:e6=>[encStr x.1]) 1 l2.toArray) c) T (0,0)):=by
   unfold sortWorldK putRowK putRow mapBlock Sort.grow Sort.ahead;simp only;rw[Array.getElem?_append_left (by simpa using kM),Array.getElem?_modify,if_pos rfl,hb];rfl
  have r3:w.heap.size≤(sortWorldK (fun x:e6=>[encStr x.1]) 1 w aN.b aN.off n l2.toArray os).heap.size:=size_sortWorldK_c _ 1 w aN.b aN.off n l2.toArray os;have Hr:HoldsK (fun x:e6=>[encStr x.1]) 1 (sortWorldK (fun x:e6=>[encStr x.1]) 1 w aN.b aN.off n l2.toArray os) aN.b aN.off l2.toArray:=holdsK_sortWorldK_c _ 1 w aN.b aN.off l.toArray l2.toArray n os qz kM (by simpa using hlen);have x3:∀b,bQ ρ [(id,Ob.arr 1 (l2.map fun x=>[D.str x.1]))] b→bQ ρ [(id,Ob.arr 1 (l.map fun x=>[D.str x.1]))] b:=by
   rintro b ⟨i,o,q,g1,g2,g3,g4⟩;obtain⟨rfl,_⟩:=oG g1;exact⟨_,_,q,eB,dO,g3,g4⟩
  refine⟨_,ρ,rfl,⟨bA.refl _,r3,fun b kL fp=>?_,fun b kL=>.inl (x3 b kL),⟨fun b kL=>Nat.lt_of_lt_of_le (aj.lt b kL) r3,fun i hi=>?_,fun i o g1 g2=>?_,fun i j o o' q q' g1 g2 _ _ _ _ _=>?_⟩,rfl,rfl,.inl ⟨rfl,Nat.le_add_right _ _⟩⟩,by simp[V,Vs]⟩
  ·refine OD kL fun e=>fp ?_;exact⟨id,_,aN,eB,dO,g_,e.symm⟩
  ·exact aj.fresh i (G_ hi)
  ·obtain⟨rfl,rfl⟩:=oG g1;exact⟨aN,g_,xY,_,T,xS,by simpa[putCells]using be,by simpa[hlen]using qC,K8 zM Hr⟩
  ·exact(oG g1).1.trans (oG g2).1.symm⟩
end Go.T
namespace Go.T
open Go Go.Proofs Go.Shelf Go.RowKit Go.Lib Go.Sort
variable[bV]
theorem Tn{w:World}{O:Nat→Prop}{ρ:aA}{id:Nat}{l l3:List e6}{aN:Loc}(aj:cF w O ρ [(id,Ob.arr 1 (l.map fun x=>[D.str x.1]))])(hl:l≠[])(g_:ρ id=some aN)(hlen:l3.length=l.length)(n:Nat)(os:Array Obj)(h:Nat):
  Tr O w ρ [(id,Ob.arr 1 (l.map fun x=>[D.str x.1]))] (grow (putRow encStr (Sort.ahead w n) aN.b aN.off (l3.map Subtype.val).toArray) os) ρ [(id,Ob.arr 1 ((l3.map fun x=>[D.str x.1]).take h))]:=by
 have eB:ae.get [(id,Ob.arr 1 (l.map fun x=>[D.str x.1]))] id=some (.arr 1 (l.map fun x=>[D.str x.1])):=by simp[ae.get]
 have dO:(Ob.arr 1 (l.map fun x:e6=>[D.str x.1])).live=true:=by
  cases l with
  |nil=>exact absurd rfl hl
  |cons x l=>rfl
 obtain⟨l',h3,xY,c,T,hb,be,qC,qK⟩:=aj.own id _ eB dO;rw[g_]at h3;cases h3;have qz:=H8 zM hb qK;have kM:aN.b<w.heap.size:=(Array.getElem?_eq_some_iff.1 hb).1;have Io:grow (putRow encStr (Sort.ahead w n) aN.b aN.off (l3.map Subtype.val).toArray) os=sortWorldK (fun x:e6=>[encStr x.1]) 1 w aN.b aN.off n l3.toArray os:=by
  rw[SC];unfold sortWorldK putRowK;rw[C2]
 rw[Io];have xS:(sortWorldK (fun x:e6=>[encStr x.1]) 1 w aN.b aN.off n l3.toArray os).heap[aN.b]?=some (.cells (putCells _root_.id aN.off (flatK (fun x:e6=>[encStr x.1]) 1 l3.toArray) c) T (0,0)):=by
  unfold sortWorldK putRowK putRow mapBlock Sort.grow Sort.ahead;simp only;rw[Array.getElem?_append_left (by simpa using kM),Array.getElem?_modify,if_pos rfl,hb];rfl
 have r3:w.heap.size≤(sortWorldK (fun x:e6=>[encStr x.1]) 1 w aN.b aN.off n l3.toArray os).heap.size:=size_sortWorldK_c _ 1 w aN.b aN.off n l3.toArray os;have Hr:HoldsK (fun x:e6=>[encStr x.1]) 1 (sortWorldK (fun x:e6=>[encStr x.1]) 1 w aN.b aN.off n l3.toArray os) aN.b aN.off l3.toArray:=holdsK_sortWorldK_c _ 1 w aN.b aN.off l.toArray l3.toArray n os qz kM (by simpa using hlen);have x3:∀b,bQ ρ [(id,Ob.arr 1 ((l3.map fun x=>[D.str x.1]).take h))] b→bQ ρ [(id,Ob.arr 1 (l.map fun x=>[D.str x.1]))] b:=by
  rintro b ⟨i,o,q,g1,g2,g3,g4⟩;obtain⟨rfl,_⟩:=oG g1;exact⟨_,_,q,eB,dO,g3,g4⟩
 refine⟨bA.refl _,r3,fun b kL fp=>?_,fun b kL=>.inl (x3 b kL),⟨fun b kL=>Nat.lt_of_lt_of_le (aj.lt b kL) r3,fun i hi=>?_,fun i o g1 g2=>?_,fun i j o o' q q' g1 g2 _ _ _ _ _=>?_⟩,rfl,rfl,.inl ⟨rfl,Nat.le_add_right _ _⟩⟩
 ·refine OD kL fun e=>fp ?_;exact⟨id,_,aN,eB,dO,g_,e.symm⟩
 ·exact aj.fresh i (G_ hi)
 ·obtain⟨rfl,rfl⟩:=oG g1;refine⟨aN,g_,xY,_,T,xS,by simpa[putCells]using be,?_,FA _ _ _ (K8 zM Hr)⟩;have:l3.length≤aN.cap∧l3.length≤aG:=by simpa[hlen]using qC
  simp only[List.length_take,List.length_map];omega
 ·exact(oG g1).1.trans (oG g2).1.symm
def yD:e6:=⟨[],by simp[aG]⟩
theorem QV(l2:List e6)(k:Nat):(l2++List.replicate k yD).map Subtype.val=l2.map Subtype.val++List.replicate k []:=by simp[yD]
theorem R5{O:Nat→Prop}{w:World}{ρ:aA}{id:Nat}{l:List e6}{aN:Loc}(aj:cF w O ρ [(id,Ob.arr 1 (l.map fun x=>[D.str x.1]))])(hl:l≠[])(g_:ρ id=some aN):l.length≤aN.cap∧Holds encStr w aN.b aN.off (l.map Subtype.val).toArray:=by
 have eB:ae.get [(id,Ob.arr 1 (l.map fun x=>[D.str x.1]))] id=some (.arr 1 (l.map fun x=>[D.str x.1])):=by simp[ae.get]
 have dO:(Ob.arr 1 (l.map fun x:e6=>[D.str x.1])).live=true:=by
  cases l with
  |nil=>exact absurd rfl hl
  |cons x l=>rfl
 obtain⟨l',h3,xY,c,T,hb,be,qC,qK⟩:=aj.own id _ eB dO;rw[g_]at h3;cases h3;have qz:=H8 zM hb qK;have hH:HoldsK (fun s:List UInt8=>[encStr s]) 1 w aN.b aN.off (l.map Subtype.val).toArray:=by
  unfold HoldsK at*;rw[←C2];exact qz
 exact⟨by simpa using qC.1,holds_one hH⟩
theorem Mn{P:Program}{r:Ren}(L:SlLaysH.n10 P r)(hz:∀w,(zeroValue (r.t 23)).run P w=.ok (encStr []) w){g:Nat}(eg:∀args w,(callFunc g args).run P w=.ok (.enter g args) w){p:aa→Bool}
  (hp:∀(x:aa) W,FnGives P g #[] #[encStr x] (.bool (p x)) W)(id:Nat)(l:List e6)(aB:l≠[])(hl:l.length<4611686018427387904)(l2:List e6)(bL:l2.map Subtype.val=(l.map Subtype.val).filter fun x=>!p x)
  {O:Nat→Prop}{w:World}{ρ:aA}{aN:Loc}(aj:cF w O ρ [(id,Ob.arr 1 (l.map fun x=>[D.str x.1]))])(g_:ρ id=some aN):
  Calls P (r.f 10) #[.slice (some ⟨aN.b,aN.off,none⟩) l.length aN.cap,.func (.func g) #[] #[]] w fun e w'=>e=.returned (.slice (some ⟨aN.b,aN.off,none⟩) l2.length aN.cap)∧Tr O w ρ [(id,Ob.arr 1 (l.map fun x=>[D.str x.1]))] w' ρ [(id,Ob.arr 1 (l2.map fun x=>[D.str x.1]))]:=by
 obtain⟨dA,hH⟩:=R5 aj aB g_;have key:=AnyE.slices_DeleteFunc L encStr (fun _=>rfl) p g #[] eg [] hz aN.b aN.off aN.cap (l.map Subtype.val).toArray w (fun W x _=>hp x W) (fun n os dk x _=>hp x _) hH zQ (by simpa using dA);simp only[←bL,List.size_toArray,List.length_map]at key;refine Calls.mono key ?_;rintro e w' ⟨rfl,q,rfl⟩;have e8:l2.length≤l.length:=by
  have:=congrArg List.length bL;have:=List.length_filter_le (fun x=>!p x) (l.map Subtype.val);simp only[List.length_map]at*;omega
 refine⟨rfl,?_⟩;have h1:=Tn aj aB g_ (l3:=l2++List.replicate (l.length-l2.length) yD) zQ q #[] l2.length;rw[grow_empty,QV]at h1;have e2:((l2++List.replicate (l.length-l2.length) yD).map fun x:e6=>[D.str x.1]).take l2.length=l2.map fun x=>[D.str x.1]:=by
  rw[List.map_append];exact List.take_left' (List.length_map ..)
 rw[e2]at h1;exact h1
theorem X2{P:Program}{r:Ren}(L:SlLaysH.n10 P r)(hz:∀w,(zeroValue (r.t 23)).run P w=.ok (encStr []) w){g:Nat}(eg:∀args w,(callFunc g args).run P w=.ok (.enter g args) w){p:aa→Bool}
  (hp:∀(x:aa) W,FnGives P g #[] #[encStr x] (.bool (p x)) W)(id:Nat)(l:List e6)(hl:l.length<4611686018427387904)(l2:List e6)(bL:l2.map Subtype.val=(l.map Subtype.val).filter fun x=>!p x)(h2:l2≠[]):
  dv P (r.f 10) [.gs id l.length,.fn (.func g) [] []] [(id,.arr 1 (l.map fun x=>[D.str x.1]))] (.gs id l2.length) [(id,.arr 1 (l2.map fun x=>[D.str x.1]))]:=⟨fun w O ρ vals aj cQ hv=>by
 have aB:l≠[]:=by
  rintro rfl;exact h2 (List.map_eq_nil_iff.1 bL)
 simp only[Vs,V]at hv;obtain⟨v1,us,rfl,h1,v2,us2,rfl,⟨a1,a2,rfl,e1,e2⟩,rfl⟩:=hv;obtain rfl:a1=#[]:=by simpa using e1
 obtain rfl:a2=#[]:=by simpa using e2
 rcases h1 with⟨hn,a,rfl⟩|⟨hn,aN,g_,rfl⟩
 ·exact absurd (List.length_eq_zero_iff.1 hn) aB
 ·refine Calls.mono (Mn L hz eg hp id l aB hl l2 bL aj g_) ?_;rintro e w' ⟨rfl,ht⟩;exact⟨_,ρ,rfl,ht,by simp only[V];exact .inr ⟨by simpa using h2,aN,g_,rfl⟩⟩⟩
theorem X1{P:Program}{r:Ren}(L:SlLaysH.n10 P r)(hz:∀w,(zeroValue (r.t 23)).run P w=.ok (encStr []) w){g:Nat}(eg:∀args w,(callFunc g args).run P w=.ok (.enter g args) w){p:aa→Bool}
  (hp:∀(x:aa) W,FnGives P g #[] #[encStr x] (.bool (p x)) W)(id:Nat)(l:List e6)(aB:l≠[])(hl:l.length<4611686018427387904)(bL:((l.map Subtype.val).filter fun x=>!p x)=[]):
  dv P (r.f 10) [.gs id l.length,.fn (.func g) [] []] [(id,.arr 1 (l.map fun x=>[D.str x.1]))] (.snap 1 false []) [(id,.arr 1 [])]:=⟨fun w O ρ vals aj cQ hv=>by
 simp only[Vs,V]at hv;obtain⟨v1,us,rfl,h1,v2,us2,rfl,⟨a1,a2,rfl,e1,e2⟩,rfl⟩:=hv;obtain rfl:a1=#[]:=by simpa using e1
 obtain rfl:a2=#[]:=by simpa using e2
 rcases h1 with⟨hn,a,rfl⟩|⟨hn,aN,g_,rfl⟩
 ·exact absurd (List.length_eq_zero_iff.1 hn) aB
 ·refine Calls.mono (Mn L hz eg hp id l aB hl [] (by simpa using bL.symm) aj g_) ?_;rintro e w' ⟨rfl,ht⟩;exact⟨_,ρ,rfl,ht,by simp only[V];exact⟨_,_,rfl,⟨by simp,by simp⟩,by simp,by simp⟩⟩⟩
theorem W1{P:Program}{f:Nat}
  (hk:∀(bW off cap:Nat)(zs:List (List UInt8))(w:World),Holds encStr w bW off zs.toArray→zs.length≤9223372036854775807→zs.length≤cap→Calls P f #[.slice (some ⟨bW,off,none⟩) zs.length cap] w fun e w'=>e=.returned (.slice (some ⟨bW,off,none⟩) (Lib.compact zs).length cap)∧∃q,w'=putRow encStr (Sort.ahead w q) bW off (Lib.compact zs++List.replicate (zs.length-(Lib.compact zs).length) []).toArray)
  (id:Nat)(l:List e6)(aB:l≠[])(hl:l.length<4611686018427387904)(l2:List e6)(bL:l2.map Subtype.val=Lib.compact (l.map Subtype.val))(h2:l2≠[])(e8:l2.length≤l.length):
  dv P f [.gs id l.length] [(id,.arr 1 (l.map fun x=>[D.str x.1]))] (.gs id l2.length) [(id,.arr 1 (l2.map fun x=>[D.str x.1]))]:=⟨fun w O ρ vals aj cQ hv=>by
 simp only[Vs,V]at hv;obtain⟨v1,us,rfl,h1,rfl⟩:=hv;rcases h1 with⟨hn,a,rfl⟩|⟨hn,aN,g_,rfl⟩
 ·exact absurd (List.length_eq_zero_iff.1 hn) aB
 ·obtain⟨dA,hH⟩:=R5 aj aB g_;have key:=hk aN.b aN.off aN.cap (l.map Subtype.val) w hH zQ (by simpa using dA);simp only[←bL,List.length_map]at key;refine Calls.mono key ?_;rintro e w' ⟨rfl,q,rfl⟩;have h1:=Tn aj aB g_ (l3:=l2++List.replicate (l.length-l2.length) yD) zQ q #[] l2.length;rw[grow_empty,QV]at h1;have e2:((l2++List.replicate (l.length-l2.length) yD).map fun x:e6=>[D.str x.1]).take l2.length=l2.map fun x=>[D.str x.1]:=by
   rw[List.map_append];exact List.take_left' (List.length_map ..)
  rw[e2]at h1;exact⟨_,ρ,rfl,h1,by simp only[V];exact .inr ⟨by simpa using h2,aN,g_,rfl⟩⟩⟩
end Go.T
namespace Go.T
open Go
variable[bV]
variable{P:Program} {env:Env} {dst:Option Tmp} {ty:TypeId} {pos:String} {ar:Array Edge} {g:Option (Nat×Bool)}
theorem JR{t e:TypeId}{n sz:Nat}{z:Value}{xs:List (Nat×Operand)}{c6:List (Nat×D)}{cs:List D}{rows:List (List D)}{U:ae}(id:Nat)(hu:P.underlying t=some (.slice e))(hs:∀w,(sizeOf e).run P w=.ok sz w)(hn:Nat.ble (n*sz) 16777216=true)(cm:Nat.ble n 16777216=true)
  (dn:Nat.beq (n*sz) 0=false)(hz:∀w,(zeroValue e).run P w=.ok z w)(hx:env.oa xs=some c6)
  (hf:lB (fun i=>some (i*sz,sz)) (((List.range (n*sz)).map fun x=>(z.cells.toList[x%z.cells.toList.length]?).getD default).map jZ) c6=some cs)(hr:rows.flatten=cs)(hlen:rows.length=n)(fq:rows.all (fun r=>Nat.beq r.length sz)=true)(h1:kZ cs=true)(hp:D.bG.eG cs=true)(hid:U.get id=none):
  aq P ⟨dst,.buildSlice t n xs.toArray,ty,pos,ar,g⟩ env U (.gs id n) ((id,.arr sz rows)::U):=
 .step fun O ρ a w aj hv=>by
  have hn:=Nat.le_of_ble_eq_true hn;have cm:=Nat.le_of_ble_eq_true cm;have dn:n*sz≠0:=by intro h;rw[h]at dn;simp at dn
  rw[←UE]at hf;obtain⟨h2,h3⟩:=Bs (a:=a) xs c6 hx (fun x hx d' h=>hv x (by simpa[Op.operands]using hx) d' h);obtain⟨c',h4,h5⟩:=zV (fun i=>some (i*sz,sz)) c6 _ _ ((Array.range (n*sz)).map (z.cells[· %z.cells.size]!)) cs h2 h3 (Vs.y3 _) hf;have h8:Vs w (Ot O ρ U) di cs c'.toList:=Vs.pure cs _ hp h5;have hl:c'.toList.length=cs.length:=h8.length;have nN:n≠0:=by rintro rfl;simp at dn
  refine⟨.slice (some ⟨w.heap.size,0,none⟩) n n,_,T.cg ρ id ⟨w.heap.size,0,n⟩,.inl ?_,Tr.born aj hid (.cells c' e) rfl (fun i x h _=>h) (fun i h=>h) ?_,?_⟩
  ·have h6:¬n*sz>2^24:=by omega
   have h9:Instr.fill (fun i=>some (i*sz,sz)) ((Array.range (n*sz)).map fun x=>z.cells[x%z.cells.size]!) ((Array.map (fun x=>(x.1,a.eval x.2)) xs.toArray).toList)=some c':=by
    simpa using h4
   simp only[execOp,Instr.buildSlice,Sem.run_bind,bY hu,Result.andThen_ok,hs,if_neg h6,if_neg dn,Sem.run_pure,hz,h9];simp[newRow];try rfl
  ·intro hk;have DH:∀r∈rows,r.length=sz:=fun r kN=>by
    have:=List.all_eq_true.1 fq r kN;simpa using this
   have iw:∀(l:List (List D)),(∀r∈l,r.length=sz)→l.flatten.length=l.length*sz:=by
    intro l hl;induction l with
    |nil=>simp
    |cons a l ih=>rw[List.flatten_cons,List.length_append,hl a List.mem_cons_self,ih fun r hr=>hl r (List.mem_cons_of_mem _ hr),List.length_cons,Nat.add_mul,Nat.one_mul,Nat.add_comm]
   refine gw.grown (w:=w) (T:=e) (vs:=c'.toList) (zs:=#[]) zS ?_ (by simp[hlen]) zO (by unfold aG;omega) DH ?_ (fun v ij=>h8.one h1 v ij) hk
   ·rw[hl,←hr,iw rows DH]
   ·rw[hr];exact h8
  ·simp only[V];exact .inr ⟨nN,_,jH ..,rfl⟩
end Go.T
namespace Go.T
open Go
inductive fP(Ls:List (List aa)):aa→aa→Prop
  |refl (x:aa):fP Ls x x
  |one {l:List aa} {x y:aa} (h:l∈Ls) (hx:x∈l) (hy:y∈l):fP Ls x y
  |symm {x y:aa} (h:fP Ls x y):fP Ls y x
  |trans {x y z:aa} (h:fP Ls x y) (h':fP Ls y z):fP Ls x z
def named(Ls:List (List aa))(x:aa):Prop:=∃l∈Ls,x∈l
theorem fP.named{Ls:List (List aa)}{x y:aa}(h:fP Ls x y):x=y∨(Go.T.named Ls x∧Go.T.named Ls y):=by
  induction h with
  |refl x=>exact .inl rfl
  |one h hx hy=>exact .inr ⟨⟨_,h,hx⟩,⟨_,h,hy⟩⟩
  |symm _ ih=>exact ih.imp Eq.symm fun h=>⟨h.2,h.1⟩
  |trans _ _ ih mZ=>
    rcases ih with rfl|h
    · exact mZ
    · rcases mZ with rfl|h'
      · exact .inr h
      · exact .inr ⟨h.1,h'.2⟩
theorem fP.mono{Ls rD:List (List aa)}(hs:∀l∈Ls,∃l'∈rD,∀x∈l,x∈l'){x y:aa}(h:fP Ls x y):fP rD x y:=by
  induction h with
  |refl x=>exact .refl x
  |one h hx hy=>obtain⟨l',h1,h2⟩:=hs _ h;exact .one h1 (h2 _ hx) (h2 _ hy)
  |symm _ ih=>exact .symm ih
  |trans _ _ ih mZ=>exact .trans ih mZ
structure e5(u:UM)(Ls:List (List aa)):Prop where
  pz:kq u
  keys:∀x,x∈aD u↔named Ls x
  conn:∀x y,x∈aD u→y∈aD u→(aF u x=aF u y↔fP Ls x y)
  nd:(aD u).Nodup
theorem Kg{x v:aa}:∀{u:UM},(aD u).Nodup→(aD (dm u x v)).Nodup
  |[],_=>by simp[dm,aD]
  |(a,b)::r,h=>by
    have h':a∉aD r∧(aD r).Nodup:=by unfold aD at h;rwa[List.map_cons,List.nodup_cons]at h
    simp only[dm];split
    · rename_i c;subst c;unfold aD;rw[List.map_cons,List.nodup_cons];exact h'
    · rename_i c
      show((a::aD (dm r x v))).Nodup;rw[List.nodup_cons];refine⟨fun h2=>?_,Kg h'.2⟩;rcases qR.1 h2 with h3|h3
      · exact c h3.symm
      · exact h'.1 h3
theorem Li{u:UM}(x:aa)(h:(aD u).Nodup):(aD (dc u x)).Nodup:=by
  unfold dc;split
  · exact h
  · exact Kg h
theorem Tt:e5 [] []:=⟨abB,fun x=>by simp[aD,named],fun x y hx=>by simp[aD]at hx,by simp[aD]⟩
theorem e5.mono{u:UM}{Ls rD:List (List aa)}(h:e5 u Ls)(h1:∀l∈Ls,∃l'∈rD,∀x∈l,x∈l')(h2:∀l∈rD,∃l'∈Ls,∀x∈l,x∈l'):e5 u rD:=
  ⟨h.pz,fun x=>(h.keys x).trans ⟨fun⟨l,hl,hx⟩=>by obtain⟨l',g1,g2⟩:=h1 l hl;exact⟨l',g1,g2 x hx⟩,fun⟨l,hl,hx⟩=>by obtain⟨l',g1,g2⟩:=h2 l hl;exact⟨l',g1,g2 x hx⟩⟩,
   fun x y hx hy=>(h.conn x y hx hy).trans ⟨fP.mono h1,fP.mono h2⟩,h.nd⟩
theorem ai2{u:UM}{pre:List aa}{Ls:List (List aa)}{a x:aa}(h:e5 u (pre::Ls))(ha:a=x∨a∈pre)(nP:pre=[]∨a∈pre):e5 (qQ a u x) ((pre++[x])::Ls):=by
  obtain⟨a1,a2,a3,a4⟩:=Cn h.pz x;have hax:a=x∨a∈aD u:=ha.imp id fun e=>(h.keys a).2 ⟨pre,List.mem_cons_self,e⟩;have kx:x∈aD (dc u x):=(a2 x).2 (.inl rfl);have ka:a∈aD (dc u x):=(a2 a).2 hax;obtain⟨g1,g2,g3⟩:=Qp a1 kx ka;have oO:a∈pre++[x]:=by
    rcases ha with rfl|e
    · simp
    · exact List.mem_append_left _ e
  have vR:∀y,y∈aD (qQ a u x)↔named ((pre++[x])::Ls) y:=fun y=>by
    have:=(g2 y).trans (a2 y);refine this.trans ?_;rw[h.keys y];constructor
    · rintro(rfl|⟨l,hl,hy⟩)
      · exact⟨_,List.mem_cons_self,by simp⟩
      · rcases List.mem_cons.1 hl with rfl|hl
        · exact⟨_,List.mem_cons_self,List.mem_append_left _ hy⟩
        · exact⟨l,List.mem_cons_of_mem _ hl,hy⟩
    · rintro⟨l,hl,hy⟩
      rcases List.mem_cons.1 hl with rfl|hl
      · rcases List.mem_append.1 hy with hy|hy
        · exact .inr ⟨pre,List.mem_cons_self,hy⟩
        · exact .inl (by simpa using hy)
      · exact .inr ⟨l,List.mem_cons_of_mem _ hl,hy⟩
  have up:∀{y z:aa},fP (pre::Ls) y z→fP ((pre++[x])::Ls) y z:=fun hc=>hc.mono fun l hl=>by
    rcases List.mem_cons.1 hl with rfl|hl
    · exact⟨_,List.mem_cons_self,fun y hy=>List.mem_append_left _ hy⟩
    · exact⟨l,List.mem_cons_of_mem _ hl,fun _=>id⟩
  -- the names that belong together ahead of the link
  have E1:∀y z,y∈aD (dc u x)→z∈aD (dc u x)→aF (dc u x) y=aF (dc u x) z→fP ((pre++[x])::Ls) y z:=by
    intro y z hy hz e;by_cases jA:y∈aD u<;>by_cases jB:z∈aD u
    · rw[a3 y jA,a3 z jB]at e
      exact up ((h.conn y z jA jB).1 e)
    · obtain rfl:z=x:=((a2 z).1 hz).resolve_right jB
      rw[a3 y jA,a4 jB]at e;obtain⟨rk,hf⟩:=h.pz.vA;have:=(hf.y5 _ y rfl jA).1;rw[e]at this;exact absurd this jB
    · obtain rfl:y=x:=((a2 y).1 hy).resolve_right jA
      rw[a3 z jB,a4 jA]at e;obtain⟨rk,hf⟩:=h.pz.vA;have:=(hf.y5 _ z rfl jB).1;rw[←e]at this;exact absurd this jA
    · obtain rfl:y=x:=((a2 y).1 hy).resolve_right jA
      obtain rfl:z=y:=((a2 z).1 hz).resolve_right jB;exact .refl _
  have iX:fP ((pre++[x])::Ls) x a:=.one List.mem_cons_self zS oO;refine⟨g1,vR,fun y z hy hz=>?_,Kg (Li x h.nd)⟩;have v8:=(g2 y).1 hy;have pL:=(g2 z).1 hz;rw[show aF (qQ a u x) y=_ from g3 y v8,show aF (qQ a u x) z=_ from g3 z pL];constructor
  · intro e
    by_cases p:aF (dc u x) y=aF (dc u x) x<;>by_cases q:aF (dc u x) z=aF (dc u x) x
    · exact(E1 y x v8 kx p).trans (E1 z x pL kx q).symm
    · rw[if_pos p,if_neg q]at e
      exact((E1 y x v8 kx p).trans iX).trans (E1 a z ka pL e)
    · rw[if_neg p,if_pos q]at e
      exact(E1 y a v8 ka e).trans ((E1 z x pL kx q).trans iX).symm
    · rw[if_neg p,if_neg q]at e
      exact E1 y z v8 pL e
  · intro hc
    -- by the way the names are connected
    have key:∀{y z:aa},fP ((pre++[x])::Ls) y z→y=z∨(y∈aD (dc u x)∧z∈aD (dc u x)∧(if aF (dc u x) y=aF (dc u x) x then aF (dc u x) a else aF (dc u x) y)=(if aF (dc u x) z=aF (dc u x) x then aF (dc u x) a else aF (dc u x) z)):=by
      intro y z hc;induction hc with
      |refl y=>exact .inl rfl
      |symm _ ih=>exact ih.imp Eq.symm fun⟨p,q,r⟩=>⟨q,p,r.symm⟩
      |trans _ _ ih mZ=>
        rcases ih with rfl|⟨p,q,r⟩
        · exact mZ
        · rcases mZ with rfl|⟨p',q',r'⟩
          · exact .inr ⟨p,q,r⟩
          · exact .inr ⟨p,q',r.trans r'⟩
      |@one l y z hl hy hz=>
        right;have val:∀w∈pre++[x],w∈aD (dc u x)∧(if aF (dc u x) w=aF (dc u x) x then aF (dc u x) a else aF (dc u x) w)=aF (dc u x) a:=by
          intro w hw;rcases List.mem_append.1 hw with hw|hw
          · have rW:a∈pre:=by
              rcases nP with e|e
              · rw[e]at hw;cases hw
              · exact e
            have kw:=(h.keys w).2 ⟨pre,List.mem_cons_self,hw⟩;have PW:=(h.keys a).2 ⟨pre,List.mem_cons_self,rW⟩;refine⟨(a2 w).2 (.inr kw),?_⟩;have e1:aF (dc u x) w=aF (dc u x) a:=by
              rw[a3 w kw,a3 a PW];exact(h.conn w a kw PW).2 (.one List.mem_cons_self hw rW)
            split
            · rfl
            · exact e1
          · obtain rfl:w=x:=by simpa using hw
            exact⟨kx,by rw[if_pos rfl]⟩
        rcases List.mem_cons.1 hl with rfl|hl
        · exact⟨(val y hy).1,(val z hz).1,(val y hy).2.trans (val z hz).2.symm⟩
        · have ky:=(h.keys y).2 ⟨l,List.mem_cons_of_mem _ hl,hy⟩
          have kz:=(h.keys z).2 ⟨l,List.mem_cons_of_mem _ hl,hz⟩;have e1:aF (dc u x) y=aF (dc u x) z:=by
            rw[a3 y ky,a3 z kz];exact(h.conn y z ky kz).2 (.one (List.mem_cons_of_mem _ hl) hy hz)
          exact⟨(a2 y).2 (.inr ky),(a2 z).2 (.inr kz),by rw[e1]⟩
    rcases key hc with rfl|⟨_,_,e⟩
    · rfl
    · exact e
theorem Ts{u:UM}{Ls:List (List aa)}(h:e5 u Ls)(l:List aa):e5 (tY u l) (l::Ls):=by
  have cE:∀{x y:aa},fP ([]::Ls) x y→fP Ls x y:=fun hc=>by
    induction hc with
    |refl x=>exact .refl x
    |symm _ ih=>exact .symm ih
    |trans _ _ ih mZ=>exact .trans ih mZ
    |one hl hx hy=>
      rcases List.mem_cons.1 hl with rfl|hl
      · cases hx
      · exact .one hl hx hy
  have h0:e5 u ([]::Ls):=⟨h.pz,fun x=>(h.keys x).trans ⟨fun⟨l,hl,hx⟩=>⟨l,List.mem_cons_of_mem _ hl,hx⟩,fun⟨l,hl,hx⟩=>by
    rcases List.mem_cons.1 hl with rfl|hl
    · cases hx
    · exact⟨l,hl,hx⟩⟩,fun x y hx hy=>(h.conn x y hx hy).trans ⟨fP.mono fun l hl=>⟨l,List.mem_cons_of_mem _ hl,fun _=>id⟩,cE⟩,h.nd⟩
  have key:∀(rest pre:List aa)(v:UM),l=pre++rest→e5 v (pre::Ls)→e5 (rest.foldl (qQ (l.headD [])) v) (l::Ls):=by
    intro rest;induction rest with
    |nil=>intro pre v e hv;rw[List.append_nil]at e;rw[e];exact hv
    |cons x rest ih=>
      intro pre v e hv;refine ih (pre++[x]) _ (by rw[e];simp) (ai2 hv ?_ ?_)
      · rw[e];cases pre with
        |nil=>exact .inl rfl
        |cons p q=>exact .inr List.mem_cons_self
      · rw[e];cases pre with
        |nil=>exact .inl rfl
        |cons p q=>exact .inr List.mem_cons_self
  exact key l [] u rfl h0
end Go.T
