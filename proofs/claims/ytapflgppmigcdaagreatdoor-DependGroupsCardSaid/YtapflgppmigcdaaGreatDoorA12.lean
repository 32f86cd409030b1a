/-
  Contracts of the functions that the statement reaches, and the logic in which they are proved (no condition): parts W80, Div14, W81, W82, SpecD3, Div15, Div16, Core30, Core31, Core32, Core33, Core36, W83, W84, W72, SpecD4.
-/
import Derived.Test.YtapflgppmigcdaaGreatDoorA11
import Derived.Shelf.SlSortCmp.WholeK
set_option linter.all false
namespace Go.T
open Go Go.Proofs Go.Proofs.Tryz
set_option maxRecDepth 20000
theorem OL(M N:Nat)(wn:(ak M).length≤10000)(wo:(ak N).length≤10000)(hN:N≠0):Fc Tryz.prog 340 [aF (ak M),aF (ak N)] (.bj [aF (ak (M/N)),aF (ak (M%N))]):=by
 by_cases h:M<N
 ·exact aaI M N wn wo h
 ·by_cases h1:(ak N).length=1
  ·exact aaP M N wn wo h h1
  ·refine aaJ M N wn wo h ?_;have h2:(ak N).length≠0:=fun e=>hN (pO e);omega
structure alw(M N:Nat)where
 pre:List (Nat×Nat)
 m:Nat
 n:Nat
 hs:jo M N=pre++jo m n
 hm:(ak m).length≤10000
 hn:(ak n).length≤10000
theorem alv(M N:Nat)(hM:(ak M).length≤10000)(hN:(ak N).length≤10000):Ap (α:=Nat×Nat) Tryz.prog 357 8000 [.box 8000 0,.box 8001 0] [(8000,.cells [aF (ak M)]),(8001,.cells [aF (ak N)])] (fun p=>[aF (ak p.1),aF (ak p.2)]) (fun p=>p<+:jo M N) (fun p=>p=jo M N):=by
 refine Ap.mk' func357 rfl ntmps357 rfl (fun t w=>results_none results357 t _ w) (fun aK lb ids B X Y=>?_);refine J.block ?_;refine J.loop (ι:=alw M N) (fun sx=>[(0,yv lb),(1,.box 8000 0),(2,.box 8001 0)]) (fun sx=>([(8000,.cells [aF (ak sx.m)]),(8001,.cells [aF (ak sx.n)])]++B sx.pre)) (fun sx=>sx.n) ⟨[],M,N,rfl,hM,hN⟩ ?_ ?_
 ·exact Le.mk (LU (Y.has _) rfl) (.s rfl rfl (.s rfl rfl (.s rfl rfl .nil))) (.cons rfl rfl (.cons rfl rfl (.tail (MF (own:=[(8000,_),(8001,_)]) (jx:=[(8000,_),(8001,_)]) rfl (Y.free _) (Y.Cj _)))))
 ·rintro⟨pre,m,n,hs,hm,hn⟩;show J _ _ _ _ [(0,yv lb),(1,.box 8000 0),(2,.box 8001 0)] ([(8000,.cells [aF (ak m)]),(8001,.cells [aF (ak n)])]++B pre);refine J.seq (J.seq (J.vl ?_));refine Tx.q rfl trivial (aT rfl _) ?_;refine Tx.q rfl trivial (iV isAgg244 rfl rfl rfl) ?_;refine Tx.q rfl trivial (iV isAgg244 rfl rfl rfl) ?_;refine Tx.bE (Le.mk (am:=[(8000,_),(8001,_)]++B (pre)) (LU (Y.has _) rfl) (show dE _ _ [(0,_),(1,_),(2,_),(6,_),(7,_),(8,_)]from(.s rfl rfl (.s rfl rfl (.s rfl rfl (.s rfl rfl (.s rfl rfl (.s rfl rfl .nil))))))) (.cons (i:=8000) rfl rfl (.cons (i:=8001) rfl rfl (.tail (MF (own:=[(8000,_),(8001,_)]) (jx:=[(8000,_),(8001,_)]) rfl (Y.free _) (Y.Cj _)))))) ?_;refine Tx.y Y (own:=[(8000,_),(8001,_)]) (pre:=pre) (aQ:=[(0,_),(1,_),(2,_),(6,_),(7,_),(8,_)]) (m,n) rfl rfl rfl trivial rfl rfl rfl (abY hs) rfl rfl (.cons rfl rfl (.cons rfl rfl (.cons rfl rfl (.cons rfl rfl (.cons rfl rfl (.cons rfl rfl .nil)))))) ?_ (fun o hX=>?_)
  ·skip;refine Tx.q rfl trivial (aT rfl _) ?_;refine Tx.q rfl (eB rfl rfl rfl rfl) (iV isAgg244 rfl rfl rfl) ?_;refine Tx.q rfl (eB rfl rfl rfl rfl) (cY underlying244 rfl _) ?_;refine Tx.q rfl (eB rfl rfl rfl rfl) (gn rfl rfl _) ?_;refine Tx.q rfl trivial (tP rfl rfl rfl _) ?_;refine Tx.nil ?_;refine J.cond rfl (fun h1=>?_) (fun h1=>?_)
   ·have dY:n≠0:=by rintro rfl;simp[bb,ng]at h1
    refine J.skip ?_;refine J.block ?_;refine J.seq (J.af [.r,.r,.p,.p,.p,.p,.p,.p] ?_);refine .R rfl (iV isAgg244 rfl rfl rfl)<|.R rfl (iV isAgg244 rfl rfl rfl)<|.P rfl (ai call340 rfl (OL _ _ zA zA zA))<|.mv rfl rfl<|.P rfl (eC rfl rfl)<|.P rfl (eC rfl rfl)<|.ag rfl rfl<|.ag rfl rfl<|.nil ?_;refine J.af [.r,.p,.w,.w] ?_;refine .R rfl (iV isAgg244 rfl rfl rfl)<|.mv rfl rfl<|.W rfl (r8 sizeOf244 rfl rfl rfl rfl zS)<|.W rfl (r8 sizeOf244 rfl rfl rfl rfl zS)<|.nil ?_;refine J.nil (cn ?_);refine J.nil (cZ ?_);exact⟨⟨pre++[(m,n)],n,m%n,abX hs dY,hn,Nat.le_trans (oG (Nat.le_of_lt (Nat.mod_lt _ (Nat.pos_of_ne_zero dY)))) hn⟩,by exact Nat.mod_lt _ (Nat.pos_of_ne_zero dY),Le.mk (LU (Y.has _) rfl) (.s rfl rfl (.s rfl rfl (.s rfl rfl .nil))) (.cons rfl rfl (.cons rfl rfl (.tail (MF (own:=[(8000,_),(8001,_)]) (jx:=[(8000,_),(8001,_)]) rfl (Y.free _) (Y.Cj _)))))⟩
   ·have bJ:=h1;try simp only[bs]at bJ
    refine J.exit (dO (dG ?_));refine J.nil ?_;exact aky (.inr rfl) (pre++[(m,n)]) (by exact abW hs (pO (by simpa[bb]using bJ))) (tC (own:=[(8000,_),(8001,_)]) rfl (Y.free _))
  ·skip;refine Tx.q rfl trivial (aT rfl _) ?_;refine Tx.off rfl (gf rfl rfl rfl rfl) ?_;refine Tx.off rfl (gf rfl rfl rfl rfl) ?_;refine Tx.off rfl (gf rfl rfl rfl rfl) ?_;refine Tx.q rfl trivial (xr rfl rfl rfl _) ?_;refine Tx.nil ?_;refine J.eF rfl rfl ?_;refine J.exit (dO (dG ?_));refine J.nil ?_;exact akz (.inr rfl) o hX (tC (own:=[(8000,_),(8001,_)]) rfl (Y.P0 _ hX))
theorem alx(a b:List Nat):dF Tryz.prog 339 [aF a,aF b] [] (.fn (.func 357) [] [.box 8000 0,.box 8001 0]) [(8000,.cells [aF a]),(8001,.cells [aF b])]:=by
 refine dF.mk' [4] func339 rfl ntmps339 rfl rfl rfl (fun t w=>results_tmp results339 t _ w) ?_;refine J.seq (J.af [.w,.w,.p] ?_);refine .W rfl (LY 8000 rfl rfl rfl)<|.W rfl (LY 8001 rfl rfl rfl)<|.ag rfl rfl<|.nil ?_;refine J.seq (J.af [.p,.p] ?_);refine .P rfl (L3 (xs:=[]) (ys:=_) rfl rfl)<|.ag rfl rfl<|.nil ?_;refine J.ret (?_);exact vm rfl (by exact Sub.refl _) (.cons rfl rfl (.cons rfl rfl .nil))
end Go.T
namespace Go.T
open Go
theorem rO(s:aa):(ak (val s).natAbs).length≤s.length:=by
 rw[←EB];have h1:=qh (digits s).1;have h2:=kW s;omega
theorem Am(s:aa):(val s).natAbs<10^s.length:=by
 have h1:=pT (digits s).1 (nE s);have h2:=kW s;have h3:10^(digits s).1.length≤10^s.length:=Nat.pow_le_pow_right zO h2;unfold val;split<;>omega
theorem Ch{n:Int}{k:Nat}(h:n.natAbs<10^k):(ofInt n).length≤k+1:=by
 have:=zu k n.natAbs h;unfold ofInt;split<;>simp<;>omega
theorem FX{n:Int}{s:aa}(h:n.natAbs≤(val s).natAbs):(ofInt n).length≤s.length+1:=Ch (Nat.lt_of_le_of_lt h (Am s))
theorem Wz(cD:Bool)(n:Nat):tZ cD (ak n)=ofInt (if cD then -(n:Int)else n):=by rw[C6 _ (eN n),e5]
theorem IM{a b:Int}(hb:0<b)(h:¬(decide (a<0)=true∧a.natAbs%b.natAbs≠0)):(if decide (a<0)then -((a.natAbs/b.natAbs:Nat):Int)else((a.natAbs/b.natAbs:Nat):Int))=a/b:=by
 obtain⟨n,rfl⟩:∃n:Nat,b=n:=⟨b.toNat,by omega⟩;simp only[Int.natAbs_natCast]at h⊢;by_cases ha:a<0
 ·simp only[ha,decide_true,if_true,true_and]at h⊢;have hm:a.natAbs%n=0:=by omega
  obtain⟨k,hk⟩:∃k:Nat,a=-(k:Int):=⟨a.natAbs,by omega⟩;subst hk;simp only[Int.natAbs_neg,Int.natAbs_natCast]at hm⊢;have hd:=Nat.div_add_mod k n;rw[hm,Nat.add_zero]at hd;have e:-(k:Int)=(n:Int)*(-((k/n:Nat):Int)):=by
   rw[Int.mul_neg,←Int.natCast_mul,hd]
  rw[e,Int.mul_ediv_cancel_left _ zO]
 ·simp only[ha,decide_false]at h⊢;obtain⟨k,hk⟩:∃k:Nat,a=(k:Int):=⟨a.toNat,by omega⟩;subst hk;simp
theorem PH{a b:Int}(hb:0<b)(ha:a<0)(h:a.natAbs%b.natAbs≠0):-((a.natAbs/b.natAbs+1:Nat):Int)=a/b:=by
 obtain⟨n,rfl⟩:∃n:Nat,b=n:=⟨b.toNat,by omega⟩;obtain⟨k,hk⟩:∃k:Nat,a=-(k:Int):=⟨a.natAbs,by omega⟩;subst hk;simp only[Int.natAbs_neg,Int.natAbs_natCast]at h⊢;have hd:=Nat.div_add_mod k n;have bw:=Nat.mod_lt k (y:=n) zO;have e:-(k:Int)=(n:Int)*(-((k/n+1:Nat):Int))+((n-k%n:Nat):Int):=by
  have h1:(k:Int)=(n:Int)*((k/n:Nat):Int)+((k%n:Nat):Int):=by rw[←Int.natCast_mul,←Int.natCast_add,hd]
  have h2:((n-k%n:Nat):Int)=(n:Int)-((k%n:Nat):Int):=by omega
  have h3:((k/n+1:Nat):Int)=((k/n:Nat):Int)+1:=by omega
  rw[h2,h3,Int.mul_neg,Int.mul_add,Int.mul_one];omega
 rw[e,Int.add_comm,Int.add_mul_ediv_left _ _ zO,Int.ediv_eq_zero_of_lt zO zO];omega
theorem Tj{n:Nat}(h:0<((ak n).length:Int)):n≠0:=by
 rintro rfl;rw[ng]at h;simp at h
theorem Wc{a b:Int}(hb:0<b)(h:¬decide (a<0)=decide (b<0)):a<0:=by
 have:decide (b<0)=false:=by simp;omega
 rw[this]at h;simpa using h
theorem aa'{a b:Int}(hb:0<b)(h:(¬decide (a<0)=decide (b<0))∧0<((ak (a.natAbs%b.natAbs)).length:Int)):ofInt (if(decide (a<0)!=decide (b<0))=true then -((a.natAbs/b.natAbs+1:Nat):Int)else((a.natAbs/b.natAbs+1:Nat):Int))=ofInt (a/b):=by
 have ha:=Wc hb h.1;have h0:decide (b<0)=false:=by simp;omega
 rw[if_pos (by simp[ha,h0]),PH hb ha (Tj h.2)]
theorem abb{a b:Int}(hb:0<b)(h:(¬decide (a<0)=decide (b<0))∧0<((ak (a.natAbs%b.natAbs)).length:Int)):ofInt (if decide (b<0)=true then -((b.natAbs-a.natAbs%b.natAbs:Nat):Int)else((b.natAbs-a.natAbs%b.natAbs:Nat):Int))=ofInt (a%b):=by
 have ha:=Wc hb h.1;have h1:=PH hb ha (Tj h.2);rw[if_neg zQ]
 congr 1
 have h2:=Int.mul_ediv_add_emod a b;have h3:=Nat.div_add_mod a.natAbs b.natAbs;have h4:=Nat.mod_lt a.natAbs (y:=b.natAbs) zO;rw[←h1]at h2;obtain⟨n,rfl⟩:∃n:Nat,b=n:=⟨b.toNat,by omega⟩;simp only[Int.natAbs_natCast]at*;have h5:((n*(a.natAbs/n)+a.natAbs%n:Nat):Int)=a.natAbs:=by rw[h3]
 rw[Int.natCast_add,Int.natCast_mul]at h5;have h6:(n:Int)*-((a.natAbs/n+1:Nat):Int)=-((n:Int)*((a.natAbs/n:Nat):Int))-n:=by rw[Int.mul_neg,Int.natCast_add,Int.mul_add];omega
 rw[h6]at h2;omega
theorem aa_{a b:Int}(hb:0<b)(h:(decide (a<0)!=decide (b<0))=false∨((ak (a.natAbs%b.natAbs)).length:Int)≤0):ofInt (if(decide (a<0)!=decide (b<0))=true then -((a.natAbs/b.natAbs:Nat):Int)else((a.natAbs/b.natAbs:Nat):Int))=ofInt (a/b):=by
 have h0:decide (b<0)=false:=by simp;omega
 have:=IM (a:=a) hb (by
  rintro⟨g1,g2⟩;rcases h with h|h
  ·rw[g1,h0]at h;simp at h
  ·exact g2 (pO zO))
 rw[←this,h0];simp
theorem aba{a b:Int}(hb:0<b)(h:(decide (a<0)!=decide (b<0))=false∨((ak (a.natAbs%b.natAbs)).length:Int)≤0):ofInt (if decide (b<0)=true then -((a.natAbs%b.natAbs:Nat):Int)else((a.natAbs%b.natAbs:Nat):Int))=ofInt (a%b):=by
 have h0:decide (b<0)=false:=by simp;omega
 have h1:=IM (a:=a) hb (by
  rintro⟨g1,g2⟩;rcases h with h|h
  ·rw[g1,h0]at h;simp at h
  ·exact g2 (pO zO))
 rw[if_neg zQ]
 congr 1
 have h2:=Int.mul_ediv_add_emod a b;have h3:=Nat.div_add_mod a.natAbs b.natAbs;rw[←h1]at h2;obtain⟨n,rfl⟩:∃n:Nat,b=n:=⟨b.toNat,by omega⟩;simp only[Int.natAbs_natCast]at*;have h5:((n*(a.natAbs/n)+a.natAbs%n:Nat):Int)=a.natAbs:=by rw[h3]
 rw[Int.natCast_add,Int.natCast_mul]at h5;by_cases g1:a<0
 ·simp only[g1,decide_true,if_true,Int.mul_neg]at h2;have:a.natAbs%n=0:=by
   rcases h with h|h
   ·simp[g1]at h;omega
   ·exact pO zO
  omega
 ·simp only[g1,decide_false,Bool.false_eq_true,if_false]at h2;omega
open Go.Proofs Go.Proofs.Tryz
set_option maxRecDepth 20000
theorem xu(s:aa)(hs:s.length≤100000):Fc Tryz.prog 238 [.str s] (.agg (mS (decide (val s<0)) (ak (val s).natAbs))):=by
 have:=tQ s hs;rw[Li,EB]at this;exact this
theorem C7(cD:Bool)(n:Nat)(h:(ak n).length≤20000):Fc Tryz.prog 239 [.agg (mS cD (ak n))] (.str (ofInt (if cD then -(n:Int)else n))):=by
 have:=Al cD (ak n) (eN n) h;rw[Wz]at this;exact this
theorem Uc(s:aa)(hs:s.length≤9000):Fc Tryz.prog 311 [.str s] (.str (ofInt (-val s))):=by
 have:=ah6 s hs;rw[Li,EB,Wz]at this;have e:(if(!decide (val s<0))=true then -((val s).natAbs:Int)else((val s).natAbs:Int))=-val s:=by
  by_cases h:val s<0
  ·simp[h];omega
  ·simp[h];omega
 rw[e]at this;exact this
theorem ah9:Sub (.raw (.slice none 0 0)) (aF (ak (s9 []))):=by
 rw[show s9 []=0 from rfl,ng];exact Sub.nil _ false
theorem P3(a b:aa)(ha:a.length≤4000)(hb:b.length≤4000):Fc Tryz.prog 312 [.str a,.str b] (.str (ofInt (Int.gcd (val a) (val b):Int))):=by
 refine Fc.mk' [4] func312 rfl ntmps312 rfl rfl rfl (fun t w=>results_tmp results312 t _ w) ?_;have EX:=rO a;have mq:=rO b;have cK:(ak (Nat.gcd (val a).natAbs (val b).natAbs)).length≤10000:=by
  rcases Nat.eq_zero_or_pos (val a).natAbs with e|e
  ·rw[e,Nat.gcd_zero_left];omega
  ·exact Nat.le_trans (oG (Nat.gcd_le_left _ e)) zO
 refine J.seq (J.af [.p] ?_);refine .ag rfl rfl<|.nil ?_;refine J.seq (J.af [.w] ?_);refine .W rfl (jh 0 zeroValue244 rfl)<|.nil ?_;refine J.seq (J.seq (J.af [.p,.p,.p,.p,.p,.p,.w] ?_));refine .mv rfl rfl<|.P rfl (ai call238 rfl (xu _ zO))<|.P rfl (L1 244 1 underlying246 isAgg244 rfl rfl rfl)<|.mv rfl rfl<|.P rfl (ai call238 rfl (xu _ zO))<|.P rfl (L1 244 1 underlying246 isAgg244 rfl rfl rfl)<|.W rfl (hJ call339 rfl (alx _ _) .nil rfl rfl)<|.nil ?_;refine J.block ?_;refine J.aj' (α:=Nat×Nat) 7900 [0] [(0,_),(1,_),(4,_),(5,_),(7,_),(8,_),(9,_),(10,_),(11,_),(12,_)] (fun(pre:List (Nat×Nat))=>[(0,.cells [aF (ak (s9 pre))])]) (fun _ _=>False) rfl call357 (alv (val a).natAbs (val b).natAbs zO zO) (fD:=[(0,_),(1,_),(4,_),(5,_),(7,_),(8,_),(9,_),(10,_),(11,_),(12,_),(13,_)]) ((Le.fa 0 0 rfl rfl ah9).trans<|Le.mk (am:=[(8000,_),(8001,_)]++(fun(pre:List (Nat×Nat))=>[(0,.cells [aF (ak (s9 pre))])]) []) rfl (show dE _ _ [(0,_),(1,_),(4,_),(5,_),(7,_),(8,_),(9,_),(10,_),(11,_),(12,_),(13,_)]from(.s rfl rfl (.s rfl rfl (.s rfl rfl (.s rfl rfl (.s rfl rfl (.s rfl rfl (.s rfl rfl (.s rfl rfl (.s rfl rfl (.s rfl rfl (.s rfl rfl .nil)))))))))))) (.cons (i:=8000) rfl rfl (.cons (i:=8001) rfl rfl (.cons rfl rfl .nil)))) rfl rfl (fun _=>rfl) (.cons rfl rfl (.cons rfl rfl (.cons rfl rfl (.cons rfl rfl (.cons rfl rfl (.cons rfl rfl (.cons rfl rfl (.cons rfl rfl (.cons rfl rfl (.cons rfl rfl .nil)))))))))) rfl (fun _=>rfl) (by rintro j o h;exact h.elim) (fun _=>ae.Ly rfl) (by rintro j o h;exact h.elim) (fun _=>PZ rfl) (by rintro j o h;exact h.elim) zD rfl (fun pre x aj=>?_) (fun xs ER=>?_) (fun _ _ h=>h.elim)
 ·skip;refine J.af [.p] ?_;refine .ag rfl rfl<|.nil ?_;refine J.nil ⟨rfl,?_⟩;refine J.block ?_;refine J.af [.p,.w] ?_;refine .mv rfl rfl<|.W rfl (r8 sizeOf244 rfl rfl rfl rfl zS)<|.nil ?_;refine J.nil (cn ?_);refine J.nil ?_;exact⟨rfl,Le.mk rfl .nil (.cons rfl rfl (.eq rfl (by rw[agc];rfl) rfl .nil))⟩
 ·skip;subst ER;rw[agb];refine J.nil (cn ?_);refine J.seq (J.af [.r,.p,.p,.p] ?_);refine .R rfl (iV isAgg244 rfl rfl rfl)<|.P rfl (pZ (pl:=#[(0,1),(1,1)]) underlying246 zeroValue246 (fun w=>by kernel_rfl) rfl rfl)<|.P rfl (ai call239 rfl (C7 false _ (Nat.le_trans cK zD)))<|.ag rfl rfl<|.nil ?_;refine J.ret (?_);exact dn rfl (Sub.refl _)
structure al8 where
 u:Unit
theorem al7:Fc Tryz.prog 338 [.snap 1 false [],.snap 1 false []] (.snap 1 false []):=by
 refine Fc.mk' [4] func338 rfl ntmps338 rfl rfl rfl (fun t w=>results_tmp results338 t _ w) ?_;refine go [] ?_;refine sd (en zO zS) ?_;refine oP (Vw underlying244 sizeOf184 typeInfo184 rfl rfl rfl rfl) ?_;refine J.loop (ι:=al8) (fun sx=>[(17,aF []),(18,.i 0),(19,.i 0),(1,.snap 1 false []),(5,aF [])]) (fun sx=>[]) (fun sx=>0) ⟨()⟩ ?_ ?_
 ·exact Le.mk rfl (.s rfl rfl (.s rfl rfl (.s rfl rfl (.s rfl rfl (.s rfl rfl .nil))))) .nil
 ·rintro⟨u⟩;show J _ _ _ _ [(17,aF []),(18,.i 0),(19,.i 0),(1,.snap 1 false []),(5,aF [])] []
  skip
  ·skip;refine go [] ?_;refine a_ zS ?_;refine go [] ?_;refine oP (ai call284 rfl (q7 _)) ?_;exact ah rfl (Sub.refl _)
theorem al6(M N:Nat)(hM:(ak M).length≤20000)(hN:(ak N).length≤20000):Fc Tryz.prog 338 [aF (ak M),aF (ak N)] (aF (ak (M*N))):=by
 by_cases h:(ak M).length+(ak N).length≠0
 ·have:=WD (ak M) (ak N) h hM hN (eN M) (eN N);rw[e5,e5]at this;exact this
 ·have e1:=pO (n:=M) zO;have e2:=pO (n:=N) zO;subst e1;subst e2;rw[ng];exact al7
theorem ahP(a b:Int):(if(decide (a<0)!=decide (b<0))=true then -((a.natAbs*b.natAbs:Nat):Int)else((a.natAbs*b.natAbs:Nat):Int))=a*b:=by
 rw[←Int.natAbs_mul];by_cases h1:a<0<;>by_cases h2:b<0
 ·have:=Int.mul_pos_of_neg_of_neg h1 h2;simp[h1,h2];omega
 ·have:a*b≤0:=Int.mul_nonpos_of_nonpos_of_nonneg zO zO;simp[h1,h2];omega
 ·have:a*b≤0:=Int.mul_nonpos_of_nonneg_of_nonpos zO zO;simp[h1,h2];omega
 ·have:0≤a*b:=Int.mul_nonneg zO zO;simp[h1,h2];omega
theorem ahc{M N:Nat}:(ak (M*N)).length≤(ak M).length+(ak N).length:=by
 refine KQ ?_;have h1:=u4 M;have h2:=u4 N;rw[Nat.pow_add];rcases Nat.eq_zero_or_pos N with e|e
 ·subst e;rw[Nat.mul_zero];exact Nat.mul_pos (Nat.pow_pos dv) (Nat.pow_pos dv)
 ·exact Nat.mul_lt_mul_of_lt_of_le h1 (Nat.le_of_lt h2) zO
theorem La(a b:aa)(ha:a.length≤4000)(hb:b.length≤4000):Fc Tryz.prog 305 [.str a,.str b] (.str (ofInt (val a*val b))):=by
 refine Fc.mk' [4] func305 rfl ntmps305 rfl rfl rfl (fun t w=>results_tmp results305 t _ w) ?_;have EX:=rO a;have mq:=rO b;have Q_:=ahc (M:=(val a).natAbs) (N:=(val b).natAbs);refine go [] ?_;refine oP (ai call238 rfl (xu _ zO)) ?_;refine oP (ai call238 rfl (xu _ zO)) ?_;refine oP (ai call338 rfl (al6 _ _ zO zO)) ?_;refine oP (ai call239 rfl (C7 _ _ zO)) ?_;refine ord ?_;exact ah rfl (Sub.str (by rw[ahP]))
theorem ajr(M:Nat)(h:(ak M).length≤20000):Fc Tryz.prog 280 [aF (ak M),.snap 1 true (bb [1])] (aF (mE (ak M) [1])):=
 (LQ (ak M) [1] h zS (eN M) (fun x hx=>by simp at hx;subst hx;unfold gB;omega)).sub
theorem ahC(N r:Nat)(h:(ak N).length≤20000)(hr:r<N):Fc Tryz.prog 281 [aF (ak N),aF (ak r)] (aF (ak (N-r))):=by
 have h1:(ak N).length≠0:=fun e=>by have:=pO e;omega
 have h2:=FF (ak N) (ak r) h1 h (Nat.le_trans (oG (Nat.le_of_lt hr)) h) (eN N) (eN r);have h3:=tX (ak N) (ak r) 0 (eN N) (eN r) zO (by rw[e5,e5];omega);have h4:=xC (ak N) (ak r) 0 (eN N) (eN r) zO;rw[q0 h4,h3,e5,e5,Nat.add_zero]at h2;exact h2
theorem al0(cD:Bool)(n:Nat)(h:(ak n).length≤10000):Fc Tryz.prog 239 [.agg (mS cD (mE (ak n) [1]))] (.str (ofInt (if cD then -((n+1:Nat):Int)else(n+1:Nat)))):=by
 have h1:aR [1]:=fun x hx=>by simp at hx;subst hx;unfold gB;omega
 have h2:=LR (ak n) [1];have:=Al cD (mE (ak n) [1]) (Gc (eN n) h1) (by simp at h2;omega);rw[C6 _ (Gc (eN n) h1),LS,e5]at this;simpa[an]using this
theorem DS(a b:aa)(ha:a.length≤4000)(hb:b.length≤4000)(h0:0<val b):Fc Tryz.prog 313 [.str a,.str b] (.bj [.str (ofInt (val a/val b)),.str (ofInt (val a%val b)),.i 0]):=by
 refine Fc.mk' [4,5,6] func313 rfl ntmps313 rfl rfl rfl (fun t w=>results_tmp3 results313 t _ w) ?_;have EX:=rO a;have mq:=rO b;have dY:(val b).natAbs≠0:=by omega
 have hq:=oG (Nat.div_le_self (val a).natAbs (val b).natAbs);have hr:=oG (Nat.mod_le (val a).natAbs (val b).natAbs);have f_:=Nat.mod_lt (val a).natAbs (Nat.pos_of_ne_zero dY);have yU:=oG (Nat.sub_le (val b).natAbs ((val a).natAbs%(val b).natAbs));have gK:decide (val b<0)=false:=by simp;omega
 refine go [] ?_;refine oP (ai call238 rfl (xu _ zO)) ?_;refine oP (ai call238 rfl (xu _ zO)) ?_;refine a_ (by simp[bb];exact fun e=>dY (pO (by rw[e];rfl))) ?_;refine oP (ai call340 rfl (OL _ _ zO zO zA)) ?_;refine br (fun h1=>?_) (fun h1=>?_)
 ·have bJ:=h1;try simp only[bs]at bJ
  refine oP (bK (n:=1) (rows:=bb [1]) underlying244 sizeOf184 rfl rfl rfl zeroValue184 rfl rfl rfl rfl rfl rfl rfl) ?_;refine oP (ai call280 rfl (ajr _ zO)) ?_;refine oP (ai call281 rfl (ahC _ _ zO f_)) ?_;refine ord ?_;refine oP (ai call239 rfl (by exact al0 _ _ zO)) ?_;refine oP (ai call239 rfl (C7 _ _ zO)) ?_;refine ord ?_;exact CQ rfl rfl rfl (Sub.str (by exact aa' h0 bJ)) (Sub.str (by exact abb h0 bJ)) (Sub.refl _)
 ·have bJ:=h1;try simp only[bs]at bJ
  refine oP (ai call239 rfl (by exact C7 _ _ zO)) ?_;refine oP (ai call239 rfl (C7 _ _ zO)) ?_;refine ord ?_;exact CQ rfl rfl rfl (Sub.str (by exact aa_ h0 bJ)) (Sub.str (by exact aba h0 bJ)) (Sub.refl _)
end Go.T
namespace Go.T
open Go
def lU(f:aM):Prop:=f.num.length≤60∧f.den.length≤60
def p8(x:aW):Prop:=lU x.fk∧lU x.fh∧lU x.e_
def sg(f:aM):Int:=fw (val f.num-val [])
def bH(f:aM):aa×aa:=if decide (fw (val f.den-val [])=0)then(f.num,[49])else(f.num,f.den)
def iq(n d:Int):Int×Int:=
 let n1:=if d<0 then -n else n
 let d1:=if d<0 then -d else d
 (n1/(Int.gcd n1 d1:Int),d1/(Int.gcd n1 d1:Int))
def cw(n d:Int):aM:=⟨ofInt (iq n d).1,if ofInt (iq n d).2=[49]then[]else ofInt (iq n d).2⟩
def g_(f:aM):Int:=if f=cw (val (bH f).1) (val (bH f).2)then 0 else 1
def jD(a:aa):Int:=if decide (a≠[])&&decide (((a.headD 0).toNat:Int)=45)then(a.length:Int)-1 else a.length
theorem aeh{a:aa}(h:a≠[]):a[(0:Int).toNat]?=some (a.headD 0):=by cases a with
 |nil=>exact absurd rfl h
 |cons c a=>rfl
def jw(f:aM):Int:=if decide (g_ f≠0)then 1 else if decide (40<max (jD f.num) (jD f.den))then 4 else 0
def U9(i:aW):Bool:=decide (sg i.fk≠0)||decide (sg i.fh≠0)||decide (i.qC≠0)||decide (i.count≠0)||decide (sg i.e_≠0)||decide (i.other≠[])
def ND(i:aW):Bool:=decide (sg i.fk≤0)||decide (sg i.fh<0)||!([1,2,3,4,6,12].any fun n=>decide (i.qC=n))||decide (i.count<1)||decide (5<i.count)
def NF(i:aW):Bool:=decide (i.other≠[])||decide (sg i.e_≠0)
def Eo(i:aW):Bool:=decide (sg i.fk≠0)||decide (sg i.fh≠0)||decide (i.qC≠0)||decide (i.count≠0)
def Gb(i:aW):Int:=if U9 i=true then 1 else 0
def Dy(i:aW):Int:=if ND i=true then 2 else if NF i=true then 1 else 0
def Ep(i:aW):Int:=if(!fF i.other||decide (i.other=i.cur))=true then 12 else if decide (sg i.e_≤0)=true then 2 else if Eo i=true then 1 else 0
theorem iS{b:Bool}{x y:Int}(h:b=true):x=if b=true then x else y:=by rw[if_pos h]
theorem cW{b:Bool}{x y z:Int}(h:b=false)(k:z=y):z=if b=true then x else y:=by rw[if_neg (by rw[h];simp)];exact k
theorem ua:val []=0:=by decide
theorem val_one:val [49]=1:=by decide
theorem GB{n:Int}:fw n<0↔n<0:=by unfold fw;split<;>(try split)<;>omega
theorem Aj{n:Int}:fw n=0↔n=0:=by unfold fw;split<;>(try split)<;>omega
theorem Mq(d:aa):fw (val d-val [])<0↔val d<0:=by rw[ua,GB];omega
theorem VD{n d:aa}(h:decide (fw (val d-val [])<0)=true):
  ofInt (val (ofInt (-val n))/val (ofInt (Int.gcd (val (ofInt (-val n))) (val (ofInt (-val d))):Int)))=ofInt (iq (val n) (val d)).1∧
  ofInt (val (ofInt (-val d))/val (ofInt (Int.gcd (val (ofInt (-val n))) (val (ofInt (-val d))):Int)))=ofInt (iq (val n) (val d)).2:=by
 have h':val d<0:=(Mq d).1 (of_decide_eq_true h);simp only[gp,iq,if_pos h',and_self]
theorem xv{n d:aa}(h:decide (fw (val d-val [])<0)=false):
  ofInt (val n/val (ofInt (Int.gcd (val n) (val d):Int)))=ofInt (iq (val n) (val d)).1∧ofInt (val d/val (ofInt (Int.gcd (val n) (val d):Int)))=ofInt (iq (val n) (val d)).2:=by
 have h':¬val d<0:=fun e=>of_decide_eq_false h ((Mq d).2 e);simp only[gp,iq,if_neg h',and_self]
theorem Uf(s:aa):(ofInt (-val s)).length≤s.length+1:=FX zS
theorem IY(n:Int){d:aa}(h0:val d≠0):(ofInt (Int.gcd n (val d):Int)).length≤d.length+1:=by
 refine FX ?_;rw[Int.natAbs_natCast];exact Nat.gcd_le_right _ zO
theorem Eu(n:Int){d:Int}(h0:d≠0):0<val (ofInt (Int.gcd n d:Int)):=by
 rw[gp];have:=Nat.gcd_pos_of_pos_right n.natAbs (n:=d.natAbs) zO;have e:Int.gcd n d=Nat.gcd n.natAbs d.natAbs:=rfl;omega
theorem ac3(n:Int){d:aa}(h0:val d≠0):(ofInt (Int.gcd n (val (ofInt (-val d))):Int)).length≤d.length+1:=by
 rw[gp,Int.gcd_neg];exact IY n h0
theorem P2(n:Int){d:aa}(h0:val d≠0):0<val (ofInt (Int.gcd n (val (ofInt (-val d))):Int)):=Eu n (by rw[gp];omega)
theorem Te{n d:Int}(h:decide (ofInt (iq n d).2=[49])=true):[]=(cw n d).den:=by simp only[cw];rw[if_pos (of_decide_eq_true h)]
theorem Tf{n d:Int}(h:decide (ofInt (iq n d).2=[49])=false):ofInt (iq n d).2=(cw n d).den:=by simp only[cw];rw[if_neg (of_decide_eq_false h)]
theorem zN(f:aM):(bH f).1=f.num:=by unfold bH;split<;>rfl
theorem zM(f:aM):val (bH f).2≠0:=by
 unfold bH;split
 ·show val [49]≠0;decide
 ·rename_i h;intro e;apply h;simp only[decide_eq_true_eq];rw[Aj];show val f.den-val []=0;rw[ua];have:val f.den=0:=e;omega
theorem UZ(f:aM){k:Nat}(hk:1≤k)(h:f.den.length≤k):(bH f).2.length≤k:=by unfold bH;split<;>simp<;>omega
theorem NW{f:aM}{n d:Int}(h:(!decide ([f.num,f.den]=[(cw n d).num,(cw n d).den]))=true):¬f=cw n d:=by
 rintro e;rw[←e]at h;simp at h
theorem NV{f:aM}{n d:Int}(h:(!decide ([f.num,f.den]=[(cw n d).num,(cw n d).den]))=false):f=cw n d:=by
 have:=of_decide_eq_true (by simpa using h:decide ([f.num,f.den]=[(cw n d).num,(cw n d).den])=true);simp only[List.cons.injEq,and_true]at this;cases f;exact congr (congrArg aM.mk this.1) this.2
theorem FJ(s t:aa):(ofInt (val s*val t)).length≤s.length+t.length+1:=by
 refine Ch ?_;rw[Int.natAbs_mul,Nat.pow_add];have h1:=Am s;have h2:=Am t;rcases Nat.eq_zero_or_pos (val t).natAbs with e|e
 ·rw[e,Nat.mul_zero];exact Nat.mul_pos (Nat.pow_pos zO) (Nat.pow_pos zO)
 ·exact Nat.mul_lt_mul_of_lt_of_le h1 (Nat.le_of_lt h2) zO
def xD(f g:aM):aM:=cw (val (bH f).1*val (bH g).2-val (bH g).1*val (bH f).2) (val (bH f).2*val (bH g).2)
def qZ(f g:aM):Int:=fw (val (xD f g).num-val [])
def c6:aM:=⟨[],[]⟩
def ta(pos part:Bool)(f:aM)(Yp:Bool)(aG:Bool):Int:=if decide (g_ f≠0)=true then 1 else if aG=true then 4 else if Yp=true then 2 else 0
def Fq(pos part:Bool)(f:aM):Bool:=decide (qZ f c6<0)||(pos&&decide (qZ f c6=0))||(part&&decide (0<qZ f (cw (val [49]) (val [49]))))
theorem MD{f g:aM}{k:Nat}(hf:f.num.length≤k∧f.den.length≤k)(hg:g.num.length≤k∧g.den.length≤k)(hk:1≤k):
  (bH f).1.length≤k∧(bH f).2.length≤k∧(bH g).1.length≤k∧(bH g).2.length≤k:=
 ⟨by rw[zN];exact hf.1,UZ f hk hf.2,by rw[zN];exact hg.1,UZ g hk hg.2⟩
theorem ajv{f g:aM}:val (ofInt (val (bH f).2*val (bH g).2))≠0:=by
 rw[gp];exact Int.mul_ne_zero (zM f) (zM g)
theorem ait{a b:Int}{k:Nat}(ha:a.natAbs<10^k)(hb:b.natAbs<10^k):(ofInt (a-b)).length≤k+2:=by
 refine Ch (k:=k+1) ?_;rw[Nat.pow_succ];omega
theorem zp(s t:aa):(val s*val t).natAbs<10^(s.length+t.length):=by
 rw[Int.natAbs_mul,Nat.pow_add];have h1:=Am s;have h2:=Am t;rcases Nat.eq_zero_or_pos (val t).natAbs with e|e
 ·rw[e,Nat.mul_zero];exact Nat.mul_pos (Nat.pow_pos zO) (Nat.pow_pos zO)
 ·exact Nat.mul_lt_mul_of_lt_of_le h1 (Nat.le_of_lt h2) zO
theorem Av{n:Int}{j k:Nat}(h:n.natAbs<10^j)(hk:j≤k):n.natAbs<10^k:=Nat.lt_of_lt_of_le h (Nat.pow_le_pow_right zO hk)
theorem akn{n d:Int}(h:d≠0):(iq n d).1.natAbs≤n.natAbs∧(iq n d).2.natAbs≤d.natAbs:=by
 have key:∀x y:Int,(x/(y:Int)).natAbs≤x.natAbs:=fun x y=>Int.natAbs_ediv_le_natAbs x y;unfold iq;by_cases g:d<0
 ·simp only[if_pos g];exact⟨Nat.le_trans (key _ _) zO,Nat.le_trans (key _ _) zO⟩
 ·simp only[if_neg g];exact⟨key _ _,key _ _⟩
theorem Tg{n d:Int}{k:Nat}(h:d≠0)(hn:n.natAbs<10^k)(hd:d.natAbs<10^k):(cw n d).num.length≤k+1∧(cw n d).den.length≤k+1:=by
 have h1:=akn (n:=n) h;refine⟨Ch (n:=(iq n d).1) (by have:=h1.1;omega),?_⟩;simp only[cw];split
 ·simp
 ·exact Ch (by have:=h1.2;omega)
theorem alK{f g:aM}{k:Nat}(hk:1≤k)(hf:f.num.length≤k∧f.den.length≤k)(hg:g.num.length≤k∧g.den.length≤k):(xD f g).num.length≤2*k+2∧(xD f g).den.length≤2*k+2:=by
 obtain⟨h1,h2,h3,h4⟩:=MD hf hg hk;have a1:=Av (zp (bH f).1 (bH g).2) (k:=2*k) zO;have a2:=Av (zp (bH g).1 (bH f).2) (k:=2*k) zO;have a3:=Av (zp (bH f).2 (bH g).2) (k:=2*k) zO;have ct:10^(2*k+1)=10^(2*k)*10:=Nat.pow_succ ..;exact Tg (k:=2*k+1) (Int.mul_ne_zero (zM f) (zM g)) zO zO
theorem aji(a:aa):bH ⟨a,[]⟩=(a,[49]):=by
 unfold bH;rw[if_pos (by show decide (fw (val []-val [])=0)=true;decide)]
theorem DH(x:List Nat):¬iA x []<0:=fun h=>NZ h rfl
theorem XZ{n1:Bool}{x:List Nat}(k1:nV n1 x):aR (ib n1 x true []).2∧jM (ib n1 x true []).1 (ib n1 x true []).2=jM n1 x∧(ib n1 x true []).2.length≤x.length+1:=by
 have ho:aR []:=fun _ h=>by simp at h
 cases n1 with
 |true=>
  simp only[ib,beq_self_eq_true,if_true];have:=LR x [];refine⟨Gc k1.ok ho,?_,by simpa using this⟩;simp[jM,LS,an]
 |false=>
  have e:(false==true)=false:=rfl;simp only[ib,e,Bool.false_eq_true,if_false,if_neg (DH x)];have h1:=xC x [] 0 k1.ok ho zO;have h2:=tX x [] 0 k1.ok ho zO (by simp[an]);have h3:=C2 x [] 0;refine⟨x5 h1,?_,by have:=um (fN x [] 0);omega⟩;rw[q0 h1,h2];simp[jM,e5,an]
theorem aih{s:aa}(h:val s≠0):nV (!(digits s).2) (fE (digits s).1):=by
 have h1:=nn s;refine⟨h1.ok,h1.cut,fun _ h0=>h ?_⟩;rw[←mB s,List.length_eq_zero_iff.1 h0];simp[jM,an]
theorem aii(s:aa):jM (!(digits s).2) (fE (digits s).1)=-val s:=by
 rw[←mB s];unfold jM;cases(digits s).2<;>simp
open Go.Proofs Go.Shelf Go.RowKit Go.Lib Go.Sort
@[reducible] def calm:bX:=⟨False⟩
theorem adR{w w':World}(h:@fO calm w w'):∃q os',w'=Sort.grow (w.drewN q) os':=by
  obtain⟨h1,h2,h3,h4,h5⟩:=h;have h6:w'.tape=w.tape∧w.drawn≤w'.drawn:=by
    rcases h5 with h|h
    · exact h
    · exact h.elim
  clear h5;refine⟨w'.drawn-w.drawn,w'.heap.extract w.heap.size w'.heap.size,?_⟩;have hh:w'.heap=w.heap++w'.heap.extract w.heap.size w'.heap.size:=by
    apply Array.ext_getElem?;intro i;rcases Nat.lt_or_ge i w.heap.size with g|g
    · rw[Array.getElem?_append_left g,h2 i g]
    · rw[Array.getElem?_append_right g,Array.getElem?_extract]
      by_cases e:i<w'.heap.size
      · rw[if_pos zO];congr 1;omega
      · rw[if_neg zO,Array.getElem?_eq_none zO]
  have hd:(w.drewN (w'.drawn-w.drawn))={w with drawn:=w'.drawn}:=by
    unfold World.drewN;congr 1;omega
  rw[hd];unfold Sort.grow;cases w';simp only at*;obtain⟨h6,_⟩:=h6;subst h3;subst h4;subst h6
  congr 1
section
variable{α:Type} [Inhabited α] {P:Program}
structure GW(k:Nat)(nH:α→List D)(mT:α→List Value):Prop where
  len:∀x,(mT x).length=k
  KA:∀x,(nH x).length=k
  one:∀x,∀v∈mT x,v.oneCell'=true
  toV:∀x(w:World)(O:Nat→Prop)(ρ:az) vs,Vs w O ρ (nH x) vs→vs=mT x
  back:∀x(w:World)(O:Nat→Prop)(ρ:az),Vs w O ρ (nH x) (mT x)
variable{k:Nat} {nH:α→List D} {mT:α→List Value}
theorem QO{w:World}{b_ off m:Nat}{dk:Array α}{os:Array Obj}{b:Nat}(hb:b<w.heap.size)(aD:b≠b_):(sortWorldK mT k w b_ off m dk os).heap[b]?=w.heap[b]?:=by
  unfold sortWorldK putRowK putRow mapBlock Sort.grow Sort.ahead;simp only;rw[Array.getElem?_append_left (by simpa using hb),Array.getElem?_modify,if_neg (Ne.symm aD)]
theorem J3(hE:GW k nH mT){w:World}{O:Nat→Prop}{b off:Nat}{c:Array Value}{T:TypeId}{l:List α}(hb:w.heap[b]?=some (.cells c T (0,0)))(h:Vr w O b off k (l.map nH)):HoldsK mT k w b off l.toArray:=by
  intro j hj;rw[size_flatK]at hj;simp only[List.size_toArray]at hj;have k0:0<k:=by
      rcases Nat.eq_zero_or_pos k with e|e;· subst e;simp at hj
      · exact e
  have hi:j/k<l.length:=by rw[Nat.div_lt_iff_lt_mul k0];exact hj
  have hc:j%k<k:=Nat.mod_lt _ k0;rw[get_flatK _ _ _ _ (by simpa using hj)];obtain⟨_,h1⟩:=h.get _ _ (j/k) (nH l[j/k]) (by simp[hi]);have uD:j%k<(nH l[j/k]).length:=by rw[hE.KA];exact hc
  obtain⟨d,hd⟩:∃d,(nH l[j/k])[j%k]?=some d:=⟨(nH l[j/k])[j%k],List.getElem?_eq_getElem uD⟩;have j6:=Vc.GL hb _ _ h1;have hv:=hE.toV _ _ _ _ _ j6.1;obtain⟨v,g1,g2⟩:=Vc.get _ _ h1 _ _ hd;have e:off+j/k*k+j%k=off+j:=by have:=Nat.div_add_mod j k;rw[Nat.mul_comm]at this;omega
  rw[e]at g1;have g3:(mT l[j/k])[j%k]?=some v:=by
    rw[←hv];have:c[off+j]?=some v:=by simpa[World.cell?,hb]using g1
    rw[List.getElem?_take,if_pos (by rw[hE.KA];exact hc),List.getElem?_drop,e];simpa using this
  refine⟨?_,by simp[World.frozen?,hb]⟩;rw[g1];have e1:(l.toArray)[j/k]! =l[j/k]:=by simp[hi]
  have e2:(mT l[j/k])[j%k]! =v:=by rw[List.getElem!_eq_getElem?_getD,g3];rfl
  rw[e1,e2];rfl
theorem M9(hE:GW k nH mT){w:World}{O:Nat→Prop}{b off:Nat}{l:List α}(h:HoldsK mT k w b off l.toArray):Vr w O b off k (l.map nH):=by
  have key:∀(r pre:List α),l=pre++r→Vr w O b (off+pre.length*k) k (r.map nH):=by
    intro r;induction r with
    |nil=>intro _ _;simp[Vr]
    |cons x r ih=>
      intro pre hp;simp only[List.map_cons,Vr];have hi:pre.length<l.toArray.size:=by subst hp;simp
      refine⟨⟨hE.KA x,?_⟩,?_⟩
      · have hx:(l.toArray)[pre.length]! =x:=by subst hp;simp
        have cell:∀c,c<k→w.cell? ⟨b,off+pre.length*k+c,none⟩=some (mT x)[c]!:=fun c hc=>by
          have:=(h.cell hi hc).1;rwa[hx]at this
        have gen:∀(ds:List D)(us:List Value)(n:Nat),Vs w O dt ds us→(∀u∈us,u.oneCell'=true)→(∀j u,us[j]?=some u→w.cell? ⟨b,n+j,none⟩=some u)→Vc w O b n ds:=by
          intro ds;induction ds with
          |nil=>intro us n _ _ _;simp[Vc]
          |cons d ds ih2=>
            intro us n h1 h2 h3;simp only[Vs]at h1;obtain⟨u,xH,rfl,h4,h5⟩:=h1;simp only[Vc];refine⟨⟨u,⟨by simpa using h3 0 u rfl,h2 u zS⟩,h4⟩,ih2 xH (n+1) h5 (fun v hv=>h2 v (by simp[hv])) (fun j v hj=>?_)⟩;have:=h3 (j+1) v (by simpa using hj);rwa[show n+(j+1)=n+1+j by omega]at this
        refine gen _ (mT x) _ (hE.back x w O dt) (hE.one x) (fun j u hj=>?_);have hjk:j<k:=by rw[←hE.len x];exact(List.getElem?_eq_some_iff.1 hj).1
        rw[cell j hjk,List.getElem!_eq_getElem?_getD,hj];rfl
      · have:=ih (pre++[x]) (by simp[hp])
        simp only[List.length_append,List.length_singleton,Nat.add_mul,Nat.one_mul]at this;rwa[Nat.add_assoc]
  simpa using key l [] rfl
end
variable[bX]
variable{α:Type} [Inhabited α] {P:Program} {k:Nat} {nH:α→List D} {mT:α→List Value}
theorem pv{id:Nat}{x o:Ob}{i:Nat}(h:ae.get [(id,x)] i=some o):i=id∧o=x:=by
 rw[ae.bf]at h;split at h
 ·rename_i e;cases h;exact⟨e.symm,rfl⟩
 ·simp[ae.get]at h
theorem I5{id:Nat}{x y:Ob}{i:Nat}(h:ae.get [(id,x)] i=none):ae.get [(id,y)] i=none:=by
 rw[ae.bf]at h⊢;split at h
 ·cases h
 ·rename_i e;rw[if_neg e];rfl
end Go.T
namespace Go.T
open Go
open Go.ChangeMaps (setBlock)
variable[bX]
variable{κ β:Type} [DecidableEq κ]
@[reducible] def uS(kD:κ→D)(vD:β→D)(m:List (κ×β)):D:=.nQ (m.map fun p=>kD p.1) (m.map fun p=>vD p.2)
section
variable{P:Program} {kt:TypeId} {kD:κ→D} {kV:κ→Value} {gN:κ→Prop} {vD:β→D}
theorem D8(hK:kr P kt kD kV gN){w:World}{O:Nat→Prop}{b:Nat}{m:List (κ×β)}(h:vI w O b (m.map fun p=>kD p.1) (m.map fun p=>vD p.2)):
  ∃es,w.heap[b]?=some (.map es m.length)∧se w O dt kV vD es m∧∀k∈m.map (·.1),gN k:=by
 obtain⟨es,h1,⟨h2,h3,h4⟩,h5,h6⟩:=h;have hl:=h5.length;simp only[List.length_map,Array.length_toList]at hl h2;have key:∀(i:Nat)(k:κ)(v:β),m[i]?=some (k,v)→∃e:MapEntry,es[i]?=some e∧e.born=i∧e.key=kV k∧V w O dt (vD v) e.val∧gN k:=by
  intro i k v hi;have bw:i<es.size:=by rw[hl];exact(List.getElem?_eq_some_iff.1 hi).1
  obtain⟨u,g1,g2⟩:=h5.get i (kD k) (by simp[hi]);obtain⟨u',g3,g4⟩:=h6.get i (vD v) (by simp[hi]);have he:es[i]?=some es[i]:=by simp[bw]
  simp only[List.getElem?_map,Array.getElem?_toList,he,Option.map_some,Option.some.injEq]at g1 g3;subst g1;subst g3;have:=hK.val g2;exact⟨es[i],he,h4 i _ he,this.1,g4,this.2⟩
 refine⟨es,h2,⟨hl,fun i k v hi=>?_⟩,fun k hk=>?_⟩
 ·obtain⟨e,g1,g2,g3,g4,_⟩:=key i k v hi;exact⟨e,g1,g2,g3,g4⟩
 ·obtain⟨p,hp,rfl⟩:=List.mem_map.1 hk;obtain⟨i,hi⟩:=List.getElem?_of_mem hp;obtain⟨_,_,_,_,_,g5⟩:=key i p.1 p.2 hi;exact g5
theorem Le.El{F:Fr}{env:Env}{U:ae}{m:List (κ×β)}(t id:Nat)(ht:env.get t=some (.bR id))(ho:U.get id=some (.mp (bu kD vD m)))(hk:∀k,(kD k).bz=true)(sZ:∀v,(vD v).bz=true):
  Le F env U ((t,uS kD vD m)::env) (U.set id .dead):=.step fun O ρ w f aj hv=>by
 have bg:=Tr.die id aj;refine⟨ρ,bg,fun s d h=>?_⟩;rw[Env.bf]at h;by_cases e:t=s
 ·rw[if_pos e]at h;cases h;subst e;have s0:=hv t _ ht;simp only[V]at s0;obtain⟨l,e1,e⟩:=s0;obtain⟨l',h3,h4,es,h5,h6,h7⟩:=aj.own id _ ho rfl;rw[e1]at h3;cases h3;have js:=bg.kept;refine Dp.2 ⟨l.b,e,es,⟨(Array.getElem?_eq_some_iff.1 h5).1,?_⟩,⟨by simpa[bu]using h5,by simp,fun i x hx=>?_⟩,?_,?_⟩
  ·rintro(hb|⟨i,x,l',g1,g2,g3,g4⟩)
   ·exact h4 hb
   ·have hx:=q8 i x g1 g2;have:=aj.inj i id x _ l' l hx ho g2 rfl g3 e1 g4;subst this;rw[ae.dV]at g1;simp only[if_true,Option.some.injEq]at g1;subst g1;simp[Ob.live]at g2
  ·have hi:i<m.length:=by
    have:=(Array.getElem?_eq_some_iff.1 hx).1;rw[h6]at this;simpa[bu]using this
   obtain⟨x',g1,g2,_⟩:=h7 i (kD m[i].1) (vD m[i].2) (by simp[bu,hi]);rw[hx]at g1;cases g1;exact g2
  ·refine Vs.Lw (by simpa[bu]using h6) fun i d v hd wN=>?_;simp only[List.getElem?_map,Option.map_eq_some_iff]at hd;obtain⟨p,hp,rfl⟩:=hd;obtain⟨x',g1,_,g3,_⟩:=h7 i (kD p.1) (vD p.2) (by simp[bu,hp]);simp only[List.getElem?_map,Array.getElem?_toList,g1,Option.map_some,Option.some.injEq]at wN;subst wN;exact V.mono js (bI.refl _) _ _ (V.pure _ _ (hk _) g3)
  ·refine Vs.Lw (by simpa[bu]using h6) fun i d v hd wN=>?_;simp only[List.getElem?_map,Option.map_eq_some_iff]at hd;obtain⟨p,hp,rfl⟩:=hd;obtain⟨x',g1,_,_,g4⟩:=h7 i (kD p.1) (vD p.2) (by simp[bu,hp]);simp only[List.getElem?_map,Array.getElem?_toList,g1,Option.map_some,Option.some.injEq]at wN;subst wN;exact V.mono js (bI.refl _) _ _ (V.pure _ _ (sZ _) g4)
 ·rw[if_neg e]at h;exact bg.V (hv s d h)
variable{env:Env} {dst:Option Tmp} {ty:TypeId} {pos:String} {ar:Array Edge} {g:Option (Nat×Bool)}
theorem ajQ(hK:kr P kt kD kV gN){t et:TypeId}{x y:Operand}{m:List (κ×β)}{k:κ}{d:β}{kd md:D}{U:ae}{zv:Value}(hu:P.underlying t=some (.map kt et))(hz:∀w,(zeroValue et).run P w=.ok zv w)(s6:∀(w:World) O ρ,V w O ρ (vD d) zv)
  (hx:env.op x=some md)(JY:md=uS kD vD m)(hy:env.op y=some kd)(qn:kd=kD k):
  aq P ⟨dst,.lookup t x y false,ty,pos,ar,g⟩ env U (vD (dU d m k)) U:=
 .val fun O ρ a w aj hv=>by
  subst qn;subst JY;obtain⟨b,e1,qm⟩:=Dp.1 (hv x (by simp[Op.operands]) _ hx);have dJ:=hK.val (hv y (by simp[Op.operands]) _ hy);obtain⟨es,h4,h5,h6⟩:=D8 hK qm;have ql:=fun b=>hK.check b k w dJ.2;have il:=hK.find k es.toList (m.map (·.1)) w h5.keys h6 dJ.2;rcases AY d k m 0 with⟨g1,g2,g3,_⟩|⟨j,gj,g1,g2,g3,_⟩
  ·refine⟨zv,?_,by rw[g3];exact s6 _ _ _⟩;rw[g1]at il;simp[execOp,e1,dJ.1,Instr.lookup,ca hu,MapKept.run_getObj_map h4,ql,il,hz]
  ·obtain⟨e,k1,k2,k3,k4⟩:=h5.at_ j k _ g2;refine⟨e.val,?_,V.mono (Kept.refl _ _) (Af ρ) _ _ k4⟩;rw[g1]at il;simp only[Option.map_some,Nat.zero_add,Array.getElem?_toList,k1,Option.getD_some]at il;simp[execOp,e1,dJ.1,Instr.lookup,ca hu,MapKept.run_getObj_map h4,ql,il]
theorem aj2{t Sm et:TypeId}{x:Operand}{ks vs:List D}{U:ae}(eI:Nat)(hu:P.underlying t=some (.map Sm et))(hx:env.op x=some (.nQ ks vs))(hid:U.get eI=none):
  aq P ⟨dst,.range t x,ty,pos,ar,g⟩ env U (.box eI 0) ((eI,.mj ks vs [])::U):=
 .step fun O ρ a w aj hv=>by
  obtain⟨b,e1,qm⟩:=Dp.1 (hv x (by simp[Op.operands]) _ hx);obtain⟨es,h1,⟨h2,_,_⟩,_⟩:=id qm;have hr:=run_range_map (P:=P) w t Sm et b es ks.length hu h2;refine⟨.pointer (some ⟨w.heap.size,0,none⟩),_,T.cm ρ eI ⟨w.heap.size,0,0⟩,.inl ?_,Tr.born aj hid (.mapIter (some b) ks.length #[] ks.length) rfl (fun i x h _=>h) (fun i h=>h) ?_,?_⟩
  ·simp only[execOp,e1];rw[Sem.run_bind,hr];rfl
  ·intro hk;exact⟨b,qm.mono hk,by simp⟩
  ·simp only[V];exact⟨⟨w.heap.size,0,0⟩,by simp[T.cm],rfl⟩
@[reducible] def tp(U:ae)(eI:Nat)(ks vs:List D)(seen:List Nat):Option (Nat×κ×β)→ae
 |none=>U
 |some (j,_,_)=>U.set eI (.mj ks vs (seen++[j]))
theorem ajY(hK:kr P kt kD kV gN){x:Operand}{eI:Nat}{m:List (κ×β)}{seen:List Nat}{U:ae}(hx:env.op x=some (.box eI 0))(hi:U.get eI=some (.mj (m.map fun p=>kD p.1) (m.map fun p=>vD p.2) seen)):
  sj P ⟨dst,.next x false,ty,pos,ar,g⟩ env U (Ug m seen) (rZ kD vD) (tp U eI (m.map fun p=>kD p.1) (m.map fun p=>vD p.2) seen):=by
 intro O ρ a w aj cK hv;have cd:=hv x (by simp[Op.operands]) _ hx;simp only[V]at cd;obtain⟨r,qo,e1⟩:=cd;obtain⟨r',nO,_,b,qm,hit⟩:=aj.own eI _ hi rfl;rw[qo]at nO;cases nO;obtain⟨es,h4,h5,h6⟩:=D8 hK qm;simp only[List.length_map]at hit;have yP:∀x∈es.toList,x.born<m.length:=fun x hx=>by
  obtain⟨_,_,q,_⟩:=h5.mem hx;exact(List.getElem?_eq_some_iff.1 q).1
 unfold Oper.wp;have uH:(execOp a.eval ⟨dst,.next x false,ty,pos,ar,g⟩).run P w=((Instr.next (.pointer (some ⟨r.b,0,none⟩)) false ty).bind fun v=>Sem.pure (Next.value v)).run P w:=by
  simp only[execOp,e1];rfl
 rw[uH];rcases run_next_at (P:=P) w ty r.b b m.length m.length seen.toArray es m.length hit h4 yP (Nat.le_refl _)with⟨hz,fd⟩|⟨e,he,w1,s2,fd⟩
 ·have:((Instr.next (.pointer (some ⟨r.b,0,none⟩)) false ty).bind fun v=>Sem.pure (Next.value v)).run P w=.ok (.value (.tuple #[.bool false])) w:=by
   show(Sem.bind _ _).run P w=_;rw[Sem.run_bind',fd];rfl
  rw[this];refine⟨none,ρ,_,?_,rfl,Tr.refl aj,by simp[V,Vs,D.b]⟩;intro j hj;have pJ:leftOf es seen.toArray=#[]:=Array.eq_empty_of_size_eq_zero hz;obtain⟨e,g1,g2,_⟩:=h5.at_ j (m[j]).1 (m[j]).2 (by simp[hj]);unfold leftOf at pJ;rw[Array.filter_eq_empty_iff]at pJ;have pE:e∈es:=Array.mem_of_getElem? g1;have:=pJ e pE;simp at this;rw[g2]at this;exact this
 ·have Bf:e∈es.toList∧e.born∉seen:=by
   unfold leftOf at he;simp at he;exact⟨by simpa using he.1,by simpa using he.2⟩
  obtain⟨k,v,g1,g2,g3,g4⟩:=h5.mem Bf.1;have:((Instr.next (.pointer (some ⟨r.b,0,none⟩)) false ty).bind fun v=>Sem.pure (Next.value v)).run P w=.ok (.value (.tuple #[.bool true,e.key,e.val])) (setBlock w1 r.b (.mapIter (some b) m.length (seen.toArray.push e.born) m.length)):=by
   show(Sem.bind _ _).run P w=_;rw[Sem.run_bind',fd];rfl
  rw[this];have oB:Tr O w ρ U w1 ρ U:=by
   rcases s2 with rfl|rfl
   ·exact Tr.refl aj
   ·exact Tr.drawn aj _ (by first|exact Nat.le_succ _|omega)
  have JO:w1.heap[r.b]?=some (.mapIter (some b) m.length seen.toArray m.length):=by rcases s2 with rfl|rfl<;>exact hit
  have kJ:=Tr.cm (o':=.mj (m.map fun p=>kD p.1) (m.map fun p=>vD p.2) (seen++[e.born])) oB.ok hi rfl qo (.mapIter (some b) m.length (seen.toArray.push e.born) m.length) (fun rq=>⟨b,(qm.mono oB.kept).mono rq,by simp[(Array.getElem?_eq_some_iff.1 JO).1]⟩);refine⟨some (e.born,k,v),ρ,_,⟨g1,Bf.2⟩,rfl,oB.trans kJ,?_⟩;simp only[V,Vs,D.b];refine⟨_,rfl,_,_,rfl,rfl,_,_,rfl,?_,_,_,rfl,(oB.trans kJ).V (V.mono (Kept.refl _ _) (Af ρ) _ _ g4),rfl⟩;rw[g3];exact hK.back (h6 k (List.mem_map.2 ⟨(k,v),List.mem_of_getElem? g1,rfl⟩))
theorem ajG(hK:kr P kt kD kV gN){x:Operand}{eI j:Nat}{k:κ}{v:β}{m:List (κ×β)}{seen:List Nat}{U:ae}(hx:env.op x=some (.box eI 0))(hi:U.get eI=some (.mj (m.map fun p=>kD p.1) (m.map fun p=>vD p.2) (seen++[j])))(hj:m[j]?=some (k,v)):
  aq P ⟨dst,.entry x,ty,pos,ar,g⟩ env U (.bj [kD k,vD v]) U:=
 .val fun O ρ a w aj hv=>by
  have cd:=hv x (by simp[Op.operands]) _ hx;simp only[V]at cd;obtain⟨r,qo,e1⟩:=cd;obtain⟨r',nO,_,b,qm,hit⟩:=aj.own eI _ hi rfl;rw[qo]at nO;cases nO;obtain⟨es,h4,h5,h6⟩:=D8 hK qm;obtain⟨e,g1,g2,g3,g4⟩:=h5.at_ j k v hj;have Bi:w.heap[r.b]?=some (.mapIter (some b) m.length (seen.toArray.push e.born) m.length):=by rw[hit,g2];simp
  have eU:(es.toList.map (·.born)).Nodup:=by rw[h5.NG];exact List.nodup_range
  have fd:=run_entry_at (P:=P) w r.b b m.length seen.toArray es m.length e Bi h4 (by simpa using Array.mem_of_getElem? g1) eU;refine⟨.tuple #[e.key,e.val],?_,?_⟩
  ·simp only[execOp,e1];rw[Sem.run_bind,fd];rfl
  ·simp only[V,Vs];refine⟨_,rfl,_,_,rfl,?_,_,_,rfl,V.mono (Kept.refl _ _) (Af ρ) _ _ g4,rfl⟩;rw[g3];exact hK.back (h6 k (List.mem_map.2 ⟨(k,v),List.mem_of_getElem? hj,rfl⟩))
end
structure xP{ι:Type}(P:Program)(f:FuncId)(args:List D)(A:ι→Prop)(r:ι→D):Prop where
 out:∀w O ρ vals,(∀b,O b→b<w.heap.size)→Gl w O→Vs w O ρ args vals→Calls P f vals.toArray w (fun e w'=>∃i v,A i∧e=.returned v∧V w' O ρ (r i) v∧fO w w')
def akx{ι:Type}(ts:List Nat)(A:ι→Prop)(r:ι→D):Exit→Env→ae→Prop
 |.ret,env,_|.normal,env,_=>∃i ds,A i∧getAll env ts=some ds∧Sub (rT ds) (r i)
 |_,_,_=>False
theorem xP.mk'{ι:Type}{P:Program}{f:FuncId}{fn:Func}{c:Code}{args:List D}{A:ι→Prop}{r:ι→D}(ts:List Nat)(hf:P.funcs[f]?=some fn)(hb:fn.body=some c){N:Nat}(hN:fn.ntmps=N)(hn:Nat.ble args.length N=true)(hp:D.bz.ec args=true)(hr:∀i,(r i).bz=true)
  (qp:∀tmps w,(results fn tmps).run P w=.ok (CK ts tmps) w)(h:J P ⟨N,[],false,none⟩ [c] (akx ts A r) (qc args 0) []):xP P f args A r:=⟨fun w O ρ vals hO cK sZ=>by
 have bY:∀b,¬b8 dt [] b:=fun b ⟨i,o,l,h1,_⟩=>by simp[ae.get]at h1
 have aj:cF w O dt []:=⟨hO,fun _ _=>rfl,fun i o h1=>by simp[ae.get]at h1,fun i j o o' l l' h1=>by simp[ae.get]at h1⟩;have hv:Vs w (Ot O dt []) dt args vals:=Vs.mono (Kept.fa fun b hb=>hb.elim _root_.id (fun g=>(bY b g).elim)) (bI.refl _) _ _ (Vs.pure args vals hp sZ);refine AD hf hb h.start (St.begin fn.ntmps hN (Nat.le_of_ble_eq_true hn) aj (cK.mono (Kept.fa fun b hb=>hb.elim _root_.id (fun g=>(bY b g).elim))) hv [] none (fun _ _ e=>by cases e)) ?_ ?_
 ·intro e aQ am hq;cases e<;>first|exact .inl rfl|exact .inr rfl|exact hq.elim
 ·intro e aQ am tmps w' av hq _ bg uG;have:∃i ds,A i∧getAll aQ ts=some ds∧Sub (rT ds) (r i):=by cases e<;>first|exact hq|exact hq.elim
  obtain⟨i,ds,hA,h1,h2⟩:=this;refine⟨_,qp _ _,i,_,hA,rfl,?_,bg.size,fun b hb=>bg.same b hb (bY b),bg.os⟩;have rC:=h2.out _ _ _ _ (Vs.res (Ev uG ts ds h1));exact V.pure _ _ (hr i) (V.mono (O':=O) (Kept.fa fun b hb=>Or.inl hb) (bI.refl _) _ _ rC)⟩
theorem Vl{ι:Type}{P:Program}{f:FuncId}{env:Env}{dst:Option Tmp}{ty:TypeId}{pos:String}{ar:Array Edge}{g:Option (Nat×Bool)}{xs:List Operand}{tys:Array TypeId}{ds:List D}{A:ι→Prop}{r:ι→D}
  (fc:∀(args:Array Value)(w:World),(callFunc f args).run P w=.ok (.enter f args) w)(hx:env.kg xs=some ds)(hf:xP P f ds A r)(U:ae):
  sj P ⟨dst,.call ⟨.value (.func f),xs.toArray,tys⟩,ty,pos,ar,g⟩ env U A r (fun _=>U):=by
 intro O ρ a w aj cK hv;have j6:=tA xs ds hx (fun x hx d' h=>hv x (by simp[Op.operands,Call.operands,hx]) d' h);have fd:(execOp a.eval ⟨dst,.call ⟨.value (.func f),xs.toArray,tys⟩,ty,pos,ar,g⟩).run P w=.ok (.enter f (xs.map a.eval).toArray) w:=by
  have h1:execOp a.eval ⟨dst,.call ⟨.value (.func f),xs.toArray,tys⟩,ty,pos,ar,g⟩=callFunc f (xs.map a.eval).toArray:=by
   simp[execOp,resolve,Deferred.ofValue,Act.eval,invoke,Bind.bind,Sem.bind,Pure.pure]
  rw[h1,fc]
 unfold Oper.wp;rw[fd];simp only[Oper.upon];refine Calls.mono (hf.out w (Ot O ρ U) ρ _ ?_ cK j6) ?_
 ·rintro b (hb|⟨i,o,l,h1,h2,h3,h4⟩)
  ·exact aj.lt b hb
  ·obtain⟨l',h5,_,h6⟩:=aj.own i o h1 h2;rw[h3]at h5;cases h5;exact h4▸h6.lt h2
 ·rintro e w' ⟨i,v,hA,rfl,h1,h2⟩;exact⟨i,ρ,v,hA,rfl,Tr.oK h2 aj,h1⟩
end Go.T
namespace Go.T
open Go
variable[bX]
end Go.T
namespace Go.T
open Go
variable[bX]
variable{P:Program} {env:Env} {dst:Option Tmp} {ty:TypeId} {pos:String} {ar:Array Edge} {g:Option (Nat×Bool)}
theorem Vj{st xt e e':TypeId}{ti:TypeInfo}{z:Value}{sz bt:Nat}{x y:Operand}{fP:Bool}{rows new:List (List D)}(hu:P.underlying st=some (.slice e))(jd:P.underlying xt=some (.slice e'))(hs:∀w,(sizeOf e).run P w=.ok sz w)
  (jI:∀w,(typeInfo e).run P w=.ok ti w)(hz:∀w,(zeroValue e).run P w=.ok z w)(s5:z.cells.size=sz)(mX:ti.bytes=bt)(ww:Nat.beq bt 0=false)(hx:env.op x=some (.snap sz true rows))(hy:env.op y=some (.snap sz fP new))(aD:new≠[])
  (pA:(rows.length+new.length)*bt≤140737488355328)(U:ae):
  aq P ⟨dst,.call ⟨.builtin .append,#[x,y],#[st,xt]⟩,ty,pos,ar,g⟩ env U (.snap sz false (rows++new)) U:=
 .step fun O ρ a w aj hv=>by
  have hb:(rows.length+new.length)*ti.bytes≤140737488355328:=by rw[mX];exact pA
  have gK:ti.bytes≠0:=by
   rw[mX];intro h;subst h;simp at ww
  have cd:=hv x (by simp[Op.operands,Call.operands]) _ hx;have dJ:=hv y (by simp[Op.operands,Call.operands]) _ hy;have fd:∀v w',(Builtin.append_ #[st,xt] ty #[a.eval x,a.eval y]).run P w=.ok v w'→(execOp a.eval ⟨dst,.call ⟨.builtin .append,#[x,y],#[st,xt]⟩,ty,pos,ar,g⟩).run P w=.ok (.value v) w':=by
   intro v w' h;simp[execOp,resolve,invoke,builtin,h]
  obtain⟨hlen,us,mg,m7,rz,j5,f_⟩:=xz (P:=P) dJ;obtain⟨Bl,vs,QW,j6,aeG,BE,yT⟩:=xz (P:=P) cd;have Bp:new.length≠0:=fun h=>aD (List.length_eq_zero_iff.1 h);have Ba:rows.length+new.length≤aG:=by
   have:(rows.length+new.length)*1≤(rows.length+new.length)*ti.bytes:=Nat.mul_le_mul_left _ zO;unfold aG;omega
  have BF:=cd;simp only[V]at BF;obtain⟨ad,cap,e1,Bb,QE,_⟩:=BF;have cJ:=QE trivial;rw[e1]at QW;obtain⟨nc,h1,h2⟩:=run_append_grow (T:=ty) (w:=w) hu hs jd zS jI hz (fun w' _=>hlen w') mg (vs:=vs) (fun w' hw'=>QW w' hw') zO hb gK;rw[←e1]at h2;have bw:∀b,Ot O ρ U b→b<w.heap.size:=by
   rintro b (hb|⟨i,o,l,h1,h2,h3,h4⟩)
   ·exact aj.lt b hb
   ·obtain⟨l',h5,_,h6⟩:=aj.own i o h1 h2;rw[h3]at h5;cases h5;exact h4▸h6.lt h2
  have bN:(rows++new).length=rows.length+new.length:=by rw[List.length_append]
  have sU:(vs++us).toArray=vs.toArray++us.toArray:=by simp
  have bg:Tr O w ρ U {w with drawn:=w.drawn+1,heap:=w.heap.push (.cells (vs.toArray++us.toArray++Builtin.zeroCells z.cells (nc-(rows.length+new.length))) e (0,0))} ρ U:=
   Tr.oK ⟨by simp,fun b hb=>by simp[Array.getElem?_push,Nat.ne_of_lt hb],rfl,rfl,.inl ⟨rfl,Nat.le_succ _⟩⟩ aj
  refine⟨_,_,ρ,.inl (fd _ _ h2),bg,?_⟩;have hg:=gX.grown (ρ:=ρ) (b:=w.heap.size) (nc:=nc) (sz:=sz) (T:=e) (ds:=rows++new) (vs:=vs++us) (zs:=Builtin.zeroCells z.cells (nc-(rows.length+new.length))) (w':={w with drawn:=w.drawn+1,heap:=w.heap.push (.cells (vs.toArray++us.toArray++Builtin.zeroCells z.cells (nc-(rows.length+new.length))) e (0,0))}) (by rw[sU];simp) (by rw[List.length_append,bN,BE,j5,Nat.add_mul]) (by rw[MU,s5,bN]) (by rw[bN];exact h1) (by rw[bN];exact Ba)
   (fun r hr=>(List.mem_append.1 hr).elim (yT r) (f_ r)) (by rw[List.flatten_append];exact Vs.append j6 m7) (fun v iL=>(List.mem_append.1 iL).elim (aeG v) (rz v)) bg.kept
  obtain⟨c,T,q1,q2,q3,q4⟩:=hg;simp only[V];exact⟨_,_,by rw[bN],⟨by rw[bN];exact h1,by rw[bN];exact Ba⟩,by simp,fun _=>⟨w.heap.size,0,rfl,⟨by simp,fun ho=>Nat.lt_irrefl _ (bw _ ho)⟩,q4⟩⟩
theorem Vh{st xt e e':TypeId}{sz:Nat}{x y:Operand}{fP IT:Bool}{rows:List (List D)}(hu:P.underlying st=some (.slice e))(jd:P.underlying xt=some (.slice e'))(hs:∀w,(sizeOf e).run P w=.ok sz w)(hx:env.op x=some (.snap sz fP rows))(hy:env.op y=some (.snap sz IT []))(U:ae):
  aq P ⟨dst,.call ⟨.builtin .append,#[x,y],#[st,xt]⟩,ty,pos,ar,g⟩ env U (.snap sz fP rows) U:=
 .val fun O ρ a w aj hv=>by
  have cd:=hv x (by simp[Op.operands,Call.operands]) _ hx;have dJ:=hv y (by simp[Op.operands,Call.operands]) _ hy;obtain⟨hlen,us,mg,m7,rz,j5,f_⟩:=xz (P:=P) dJ;have BD:us=[]:=by have:=j5;simp at this;exact this
  subst BD;have BF:=cd;simp only[V]at BF;obtain⟨ad,cap,e1,Bb,QE,_⟩:=BF;have h1:=mg w rfl;refine⟨_,?_,cd⟩;have:(Builtin.append_ #[st,xt] ty #[a.eval x,a.eval y]).run P w=.ok (a.eval x) w:=by
   rw[e1];cases ad with
   |none=>simp[Builtin.append_,ca hu,hs,ca jd,hlen w,Bb]at h1⊢;simp[h1]
   |some ad=>simp[Builtin.append_,ca hu,hs,ca jd,hlen w,Bb]at h1⊢;simp[h1,storeCells]
  simp[execOp,resolve,invoke,builtin,this]
end Go.T
namespace Go.T
open Go Go.Proofs Go.Proofs.Tryz
set_option maxRecDepth 20000
theorem Zs:Fc Tryz.prog 323 [aF []] (aF []):=by
 refine Fc.mk' [2] func323 rfl ntmps323 rfl rfl rfl (fun t w=>results_tmp results323 t _ w) ?_;refine J.seq (J.af [.p] ?_);refine .ag rfl rfl<|.nil ?_;refine J.seq (J.seq (J.vl ?_));refine Tx.q rfl trivial (aT rfl _) ?_;refine Tx.n rfl trivial (Vo underlying244 rfl rfl _) (fun nb cP=>?_);dsimp only;refine Tx.nil ?_;refine J.cond rfl (fun h1=>?_) (fun h1=>?_)
 ·refine J.seq (J.af [.p] ?_);refine .ag rfl rfl<|.nil ?_;refine J.ret (?_);exact dn rfl (by exact Sub.nil _ false)
 ·refine J.skip ?_;refine J.seq (J.af [.p,.p,.p,.p] ?_);refine .P rfl (tL underlying244 sizeOf184)<|.mv rfl rfl<|.P rfl (Vh underlying244 underlying244 sizeOf184 rfl rfl)<|.ag rfl rfl<|.nil ?_;refine J.ret (?_);exact dn rfl (by exact Sub.qQ _ _ _)
structure ahE where
 u:Unit
theorem ahD:Fc Tryz.prog 281 [aF [],aF []] (aF []):=by
 refine Fc.mk' [4] func281 rfl ntmps281 rfl rfl rfl (fun t w=>results_tmp results281 t _ w) ?_;refine go [] ?_;refine oP (ai call323 rfl Zs) ?_;refine J.loop (ι:=ahE) (fun sx=>[(5,aF []),(6,.raw (.int .u64 ((0:Nat):Int))),(12,.i 0),(13,.i 0),(1,aF [])]) (fun sx=>[]) (fun sx=>0) ⟨()⟩ ?_ ?_
 ·exact Le.mk rfl (.s rfl rfl (.s rfl rfl (.s rfl rfl (.s rfl rfl (.s rfl rfl .nil))))) .nil
 ·rintro⟨u⟩;show J _ _ _ _ [(5,aF []),(6,.raw (.int .u64 ((0:Nat):Int))),(12,.i 0),(13,.i 0),(1,aF [])] []
  skip
  ·skip;refine go [] ?_;refine a_ zS ?_;refine go [] ?_;refine oP (ai call284 rfl (q7 [])) ?_;exact ah rfl (Sub.refl _)
theorem ahG(x:List Nat)(uQ:x.length≤20000)(iG:aR x):Fc Tryz.prog 281 [aF x,aF []] (aF (bm (fN x [] 0))):=by
 by_cases h:x.length≠0
 ·exact FF x [] h uQ zS iG (fun _ h=>by simp at h)
 ·obtain rfl:x=[]:=List.length_eq_zero_iff.1 zO;exact ahD
theorem X0(n1:Bool)(x:List Nat)(k1:nV n1 x)(hx:x.length≤9000):Fc Tryz.prog 237 [.agg (mS n1 x),.agg (mS true [])] (.agg (mS (ib n1 x true []).1 (ib n1 x true []).2)):=by
 refine Fc.je func237 rfl ntmps237 rfl rfl rfl ?_;refine go [99999] ?_;refine br (fun h1=>?_) (fun h1=>?_)
 ·refine oP (ai call280 rfl (LQ x [] zO zS k1.ok (fun _ h=>by simp at h))) ?_;refine ord ?_;refine J.ret (?_);exact Rd.cA results237 isAgg246 sizeOf246 rfl rfl rfl (Sub.agg (.cons (Sub.bool (by unfold ib;(rw[if_pos zA];done))) (.cons (Sub.snap (by unfold ib;(rw[if_pos zA];done))) .nil)))
 ·refine oP (ai call240 rfl (x4 x [] zO zS)) ?_;refine a_ (by simpa using DH x) ?_;refine oP (ai call281 rfl (ahG x zO k1.ok)) ?_;refine ord ?_;refine J.ret (?_);exact Rd.cA results237 isAgg246 sizeOf246 rfl rfl rfl (Sub.agg (.cons (Sub.bool (by unfold ib;(rw[if_neg (by simpa using ‹(n1==true)=false›),if_neg (DH x)];done))) (.cons (Sub.snap (by unfold ib;(rw[if_neg (by simpa using ‹(n1==true)=false›),if_neg (DH x)];done))) .nil)))
theorem alJ(s t:aa)(hs:s.length≤4000)(ht:t.length≤4000)(hv:val t=0):Fc Tryz.prog 308 [.str s,.str t] (.str (ofInt (val s-val t))):=by
 refine Fc.mk' [4] func308 rfl ntmps308 rfl rfl rfl (fun t w=>results_tmp results308 t _ w) ?_;have pC:=kW s;have cK:=qh (digits s).1;have h1:=nn s;have h3:=XZ h1;have e0:(val t).natAbs=0:=by omega
 have e1:decide (val t<0)=false:=by simp;omega
 have Rq:=xu t zO;rw[e0,e1,ng]at Rq;refine go [] ?_;refine oP (ai call238 rfl Rq) ?_;refine oP (ai call238 rfl (tQ s zO)) ?_;refine oP (ai call237 rfl (X0 (digits s).2 (fE (digits s).1) h1 zO)) ?_;refine oP (ai call239 rfl (Al _ _ h3.1 zO)) ?_;refine ord ?_;exact ah rfl (Sub.str (by rw[C6 _ h3.1,show val s-val t=val s by omega,←mB s,←h3.2.1];rfl))
theorem alL(s t:aa)(hs:s.length≤4000)(ht:t.length≤4000)(hv:val t≠0):Fc Tryz.prog 308 [.str s,.str t] (.str (ofInt (val s-val t))):=by
 refine Fc.mk' [4] func308 rfl ntmps308 rfl rfl rfl (fun t w=>results_tmp results308 t _ w) ?_;have pC:=kW s;have cK:=qh (digits s).1;have QK:=kW t;have QZ:=qh (digits t).1;have h1:=nn s;have h2:=aih hv;have h3:=Nd h1 h2;have h4:=Nc (digits s).2 (!(digits t).2) (fE (digits s).1) (fE (digits t).1);have h5:=Nf h1 h2;refine go [] ?_;refine oP (ai call238 rfl (tQ t zO)) ?_;refine oP (ai call238 rfl (tQ s zO)) ?_;refine oP (ai call237 rfl (Ng (digits s).2 (fE (digits s).1) (!(digits t).2) (fE (digits t).1) h1 h2 zO zO)) ?_;refine oP (ai call239 rfl (Al _ _ h3 zO)) ?_;refine ord ?_;exact ah rfl (Sub.str (by rw[C6 _ h3];have h6:=aii t;rw[h6,mB s]at h5;rw[show val s-val t=val s+-val t by omega,←h5];rfl))
theorem alM(s t:aa)(hs:s.length≤4000)(ht:t.length≤4000):Fc Tryz.prog 308 [.str s,.str t] (.str (ofInt (val s-val t))):=by
 by_cases h:val t=0
 ·exact alJ s t hs ht h
 ·exact alL s t hs ht h
theorem F9(f:aM)(hs:f.den.length≤4000):Fc Tryz.prog 222 [.agg (cj f)] (.bj [.str (bH f).1,.str (bH f).2]):=by
 refine Fc.mk' [2,3] func222 rfl ntmps222 rfl rfl rfl (fun t w=>results_tmp2 results222 t _ w) ?_;refine go [] ?_;refine oP (ai call186 rfl (AG f.den [] hs zS)) ?_;refine br (fun h1=>?_) (fun h1=>?_)
 ·exact fu rfl rfl (Sub.str (by unfold bH;rw[if_pos h1])) (Sub.str (by unfold bH;rw[if_pos h1]))
 ·refine ord ?_;exact fu rfl rfl (Sub.str (by unfold bH;rw[if_neg (by rw[h1];simp)])) (Sub.str (by unfold bH;rw[if_neg (by rw[h1];simp)]))
theorem akp(n d:aa)(hn:n.length≤3000)(hd:d.length≤3000)(h0:val d≠0):Fc Tryz.prog 271 [.str n,.str d] (.bj [.str (ofInt (iq (val n) (val d)).1),.str (ofInt (iq (val n) (val d)).2)]):=by
 refine Fc.mk' [4,5] func271 rfl ntmps271 rfl rfl rfl (fun t w=>results_tmp2 results271 t _ w) ?_;have hnn:=Uf n;have eU:=Uf d;have jr:=IY (val n) h0;have j2:=ac3 (val (ofInt (-val n))) h0;refine go [] ?_;refine oP (ai call186 rfl (AG d [] zO zS)) ?_;refine br (fun h1=>?_) (fun h1=>?_)
 ·refine oP (ai call311 rfl (Uc _ zO)) ?_;refine oP (ai call311 rfl (Uc _ zO)) ?_;refine oP (ai call312 rfl (P3 _ _ zO zO)) ?_;refine oP (ai call313 rfl (DS _ _ zO zO (by exact P2 _ h0))) ?_;refine oP (ai call313 rfl (DS _ _ zO zO (by exact P2 _ h0))) ?_;exact fu rfl rfl (Sub.str (by(have h9:=VD (n:=n) (d:=d) h1;exact h9.1))) (Sub.str (by(have h9:=VD (n:=n) (d:=d) h1;exact h9.2)))
 ·refine oP (ai call312 rfl (P3 _ _ zO zO)) ?_;refine oP (ai call313 rfl (DS _ _ zO zO (by exact Eu _ h0))) ?_;refine oP (ai call313 rfl (DS _ _ zO zO (by exact Eu _ h0))) ?_;exact fu rfl rfl (Sub.str (by(have h9:=xv (n:=n) (d:=d) h1;exact h9.1))) (Sub.str (by(have h9:=xv (n:=n) (d:=d) h1;exact h9.2)))
theorem KP(n d:aa)(hn:n.length≤3000)(hd:d.length≤3000)(h0:val d≠0):Fc Tryz.prog 224 [.str n,.str d] (.agg (cj (cw (val n) (val d)))):=by
 refine Fc.je func224 rfl ntmps224 rfl rfl rfl ?_;refine go [99999] ?_;refine oP (ai call271 rfl (akp _ _ zA zA zA)) ?_;refine br (fun h1=>?_) (fun h1=>?_)
 ·refine J.ret (?_);exact Rd.cA results224 isAgg35 sizeOf35 rfl rfl rfl (Sub.agg (.r (.cons (Sub.str (by exact Te h1)) .nil)))
 ·refine J.ret (?_);exact Rd.cA results224 isAgg35 sizeOf35 rfl rfl rfl (Sub.agg (.r (.cons (Sub.str (by exact Tf h1)) .nil)))
theorem PU(f:aM)(hs:lU f):Fc Tryz.prog 177 [.agg (cj f)] (.i (g_ f)):=by
 refine Fc.mk' [2] func177 rfl ntmps177 rfl rfl rfl (fun t w=>results_tmp results177 t _ w) ?_;have hp:=MD (f:=f) (g:=f) ⟨hs.1,hs.2⟩ ⟨hs.1,hs.2⟩ zD;refine go [] ?_;refine oP (ai call222 rfl (F9 f (Nat.le_trans hs.2 zD))) ?_;refine oP (ai call224 rfl (KP _ _ zO zO (zM f))) ?_;refine oP (qK (xs:=[f.num,f.den]) (ys:=[(cw (val (bH f).1) (val (bH f).2)).num,(cw (val (bH f).1) (val (bH f).2)).den]) underlying35 (by kernel_rfl) (by kernel_rfl) (.cons zK underlying33 isAgg33 rfl (.cons zK underlying33 isAgg33 rfl (.nil _))) rfl rfl rfl rfl rfl rfl) ?_;refine ord ?_;refine br (fun h1=>?_) (fun h1=>?_)
 ·exact ah rfl (Sub.int (by unfold g_;rw[if_neg (NW h1)]))
 ·exact ah rfl (Sub.int (by unfold g_;rw[if_pos (NV h1)]))
theorem acN(a:aa)(hs:a.length≤3000):Fc Tryz.prog 179 [.str a] (.agg (cj (cw (val a) (val [49])))):=by
 refine Fc.je func179 rfl ntmps179 rfl rfl rfl ?_;refine go [99999] ?_;refine oP (ai call224 rfl (KP a [49] hs zS zD)) ?_;refine J.ret (?_);exact Rd.cA results179 isAgg35 sizeOf35 rfl rfl rfl (Sub.agg (.r (.r .nil)))
structure afE(s:aa)where
 pre:List UInt8
 rest:List UInt8
 hx:s=pre++rest
 hp:pre.all (fun c=>65≤c.toNat&&c.toNat≤90)=true
 h3:s.length=3
theorem R2(s:aa):Fc Tryz.prog 171 [.str s] (.b (fF s)):=by
 refine Fc.mk' [2] func171 rfl ntmps171 rfl rfl rfl (fun t w=>results_tmp results171 t _ w) ?_;refine J.l4 0 rfl (fun hb=>?_);simp only[aG]at hb;refine go [] ?_;refine br (fun h1=>?_) (fun h1=>?_)
 ·exact ah rfl (Sub.bool (by grind[fF]))
 ·refine oP (Vk (u:=.string) underlying9 underlying152 underlying5 rfl) ?_;refine J.loop (ι:=afE s) (fun sx=>[(9,.snap 1 false (s.map fun c=>[.raw (.int .u8 (UInt8.toNat c:Int))])),(10,.i s.length),(11,.i sx.pre.length)]) (fun sx=>[]) (fun sx=>sx.rest.length) ⟨[],s,rfl,rfl,by simp at h1;omega⟩ ?_ ?_
  ·exact Le.mk rfl (.s rfl rfl (.cons rfl (Sub.int zS) rfl (.s rfl rfl .nil))) .nil
  ·rintro⟨pre,rest,hx,hp,h3⟩;show J _ _ _ _ [(9,.snap 1 false (s.map fun c=>[.raw (.int .u8 (UInt8.toNat c:Int))])),(10,.i s.length),(11,.i pre.length)] [];have hl:=congrArg List.length hx;simp only[List.length_append]at hl;rcases rest with _|⟨x,rest⟩
   ·skip;refine go [] ?_;refine a_ (by simp at hl⊢;omega) ?_;refine go [] ?_;exact ah rfl (Sub.bool (by grind[fF]))
   ·simp only[List.length_cons]at hl;refine go [] ?_;refine bk zQ ?_;refine ix zO (aS (fun c=>[D.raw (.int .u8 (UInt8.toNat c:Int))]) hx rfl) ?_;refine br (fun h2=>?_) (fun h2=>?_)
    ·exact ah rfl (Sub.bool (by grind[fF]))
    ·refine sd (aw zO) ?_;exact nx ⟨pre++[x],rest,by simp[hx],by grind,h3⟩ zS (Le.mk rfl (.s rfl rfl (.s rfl rfl (.cons rfl (Sub.int zS) rfl .nil))) .nil)
theorem tU(f:aM)(hs:f.num.length≤60):Fc Tryz.prog 267 [.agg (cj f)] (.i (sg f)):=by
 refine Fc.mk' [2] func267 rfl ntmps267 rfl rfl rfl (fun t w=>results_tmp results267 t _ w) ?_;refine go [] ?_;refine oP (ai call186 rfl (AG f.num [] zO zS)) ?_;exact ah rfl (Sub.refl _)
theorem ajp(i:aW)(hs:p8 i):Fc Tryz.prog 218 [.agg (gA i)] (.i (Gb i)):=by
 refine Fc.mk' [2] func218 rfl ntmps218 rfl rfl rfl (fun t w=>results_tmp results218 t _ w) ?_;refine go [] ?_;refine oP (ai call267 rfl (tU i.fk hs.1.1)) ?_;refine gP (fun hg=>ai call267 rfl (tU i.fh hs.2.1.1)) ?_;refine gP (fun hg=>ai call267 rfl (tU i.e_ hs.2.2.1)) ?_;refine br (fun h1=>?_) (fun h1=>?_)
 ·exact ah rfl (Sub.int (by exact iS h1))
 ·exact ah rfl (Sub.int (by exact cW h1 rfl))
structure ae'(l:List Int)(n:Int)where
 pre:List Int
 rest:List Int
 hx:l=pre++rest
 hp:pre.any (fun m=>decide (n=m))=false
theorem ae_(l:List Int)(n:Int):Fc Tryz.prog 304 [ir l,.i n] (.i (jq (fun m=>decide (n=m)) l)):=by
 refine Fc.mk' [4] func304 rfl ntmps304 rfl rfl rfl (fun t w=>results_tmp results304 t _ w) ?_;refine J.eu 0 rfl (fun hb=>?_);simp only[List.length_map,aG]at hb;refine go [] ?_;refine J.loop (ι:=ae' l n) (fun sx=>[(0,ir l),(1,.i n),(6,ir l),(7,.i l.length),(8,.i sx.pre.length)]) (fun sx=>[]) (fun sx=>sx.rest.length) ⟨[],l,rfl,rfl⟩ ?_ ?_
 ·exact Le.mk rfl (.s rfl rfl (.s rfl rfl (.s rfl rfl (.cons rfl (Sub.int zS) rfl (.s rfl rfl .nil))))) .nil
 ·rintro⟨pre,rest,hx,hp⟩;show J _ _ _ _ [(0,ir l),(1,.i n),(6,ir l),(7,.i l.length),(8,.i pre.length)] [];have hl:=congrArg List.length hx;simp only[List.length_append]at hl;rcases rest with _|⟨x,rest⟩
  ·skip;refine go [] ?_;refine a_ (by simp at hl⊢;omega) ?_;refine go [] ?_;exact ah rfl (Sub.int (by exact sM hx hp))
  ·simp only[List.length_cons]at hl;refine go [] ?_;refine bk zQ ?_;refine ix zO (aS (fun n=>[D.i n]) hx rfl) ?_;refine br (fun h1=>?_) (fun h1=>?_)
   ·exact ah rfl (Sub.int (by exact sN hx hp h1))
   ·refine sd (aw zO) ?_;exact nx ⟨pre++[x],rest,by simp[hx],iZ hp h1⟩ zS (Le.mk rfl (.s rfl rfl (.s rfl rfl (.s rfl rfl (.s rfl rfl (.cons rfl (Sub.int zS) rfl .nil))))) .nil)
theorem ad6(l:List Int)(n:Int):Fc Tryz.prog 268 [ir l,.i n] (.b (l.any (fun m=>decide (n=m)))):=by
 refine Fc.mk' [4] func268 rfl ntmps268 rfl rfl rfl (fun t w=>results_tmp results268 t _ w) ?_;refine go [] ?_;refine oP (ai call304 rfl (ae_ _ _)) ?_;exact ah rfl (Sub.bool (by exact ux _ l))
theorem YD(i:aW)(hs:p8 i):Fc Tryz.prog 219 [.agg (gA i)] (.i (Dy i)):=by
 refine Fc.mk' [2] func219 rfl ntmps219 rfl rfl rfl (fun t w=>results_tmp results219 t _ w) ?_;refine go [2] ?_;refine J.bE (Le.fY 1 0 rfl rfl rfl rfl) ?_;refine J.bE (Le.fY 3 1 rfl rfl rfl rfl) ?_;refine go [] ?_;refine oP (ai call267 rfl (tU i.fk hs.1.1)) ?_;refine gP (fun hg=>ai call267 rfl (tU i.fh hs.2.1.1)) ?_;refine gP (fun hg=>aj5 (rows:=[[D.i 1],[D.i 2],[D.i 3],[D.i 4],[D.i 6],[D.i 12]]) underlying274 sizeOf3 rfl zD zD rfl rfl rfl zD) ?_;refine gP (fun hg=>ai call268 rfl (ad6 [1,2,3,4,6,12] i.qC).sub) ?_;refine ord ?_;refine br (fun h1=>?_) (fun h1=>?_)
 ·exact ah rfl (Sub.int (by exact iS h1))
 ·refine gP (fun hg=>ai call267 rfl (tU i.e_ hs.2.2.1)) ?_;refine br (fun h2=>?_) (fun h2=>?_)
  ·exact ah rfl (Sub.int (by exact cW h1 (iS h2)))
  ·refine go [2] ?_;exact ah rfl (Sub.int (by exact cW h1 (cW h2 rfl)))
theorem acS(i:aW)(hs:p8 i):Fc Tryz.prog 220 [.agg (gA i)] (.i (Ep i)):=by
 refine Fc.mk' [2] func220 rfl ntmps220 rfl rfl rfl (fun t w=>results_tmp results220 t _ w) ?_;refine go [] ?_;refine oP (ai call171 rfl (R2 _)) ?_;refine br (fun h1=>?_) (fun h1=>?_)
 ·exact ah rfl (Sub.int (by exact iS h1))
 ·refine oP (ai call267 rfl (tU i.e_ hs.2.2.1)) ?_;refine br (fun h2=>?_) (fun h2=>?_)
  ·exact ah rfl (Sub.int (by exact cW h1 (iS h2)))
  ·refine oP (ai call267 rfl (tU i.fk hs.1.1)) ?_;refine gP (fun hg=>ai call267 rfl (tU i.fh hs.2.1.1)) ?_;refine br (fun h3=>?_) (fun h3=>?_)
   ·exact ah rfl (Sub.int (by exact cW h1 (cW h2 (iS h3))))
   ·exact ah rfl (Sub.int (by exact cW h1 (cW h2 (cW h3 rfl))))
theorem Oz(a:aa):Fc Tryz.prog 221 [.str a] (.i (jD a)):=by
 refine Fc.mk' [2] func221 rfl ntmps221 rfl rfl rfl (fun t w=>results_tmp results221 t _ w) ?_;refine J.l4 0 rfl (fun hb=>?_);simp only[aG]at hb;refine go [] ?_;refine Ff (fun hg=>And.intro zD (aeh (by simpa[pa]using hg))) ?_;refine br (fun h1=>?_) (fun h1=>?_)
 ·refine sd (aw zO) ?_;exact ah rfl (Sub.int (by unfold jD;rw[if_pos h1]))
 ·exact ah rfl (Sub.int (by unfold jD;rw[if_neg (by rw[h1];simp)]))
theorem aif(f:aM)(hs:lU f):Fc Tryz.prog 174 [.agg (cj f)] (.i (jw f)):=by
 refine Fc.mk' [2] func174 rfl ntmps174 rfl rfl rfl (fun t w=>results_tmp results174 t _ w) ?_;refine go [] ?_;refine oP (ai call177 rfl (PU _ zA)) ?_;refine br (fun h1=>?_) (fun h1=>?_)
 ·exact ah rfl (Sub.int (by exact iS h1))
 ·refine oP (ai call221 rfl (Oz _)) ?_;refine oP (ai call221 rfl (Oz _)) ?_;refine ord ?_;refine br (fun h2=>?_) (fun h2=>?_)
  ·exact ah rfl (Sub.int (by exact cW h1 (iS h2)))
  ·exact ah rfl (Sub.int (by exact cW h1 (cW h2 rfl)))
theorem afJ(x:aW)(id:aa):Fc Tryz.prog 167 [.agg (gA x),.bc [.str id]] (.b (decide (x.id=id))):=by
 refine Fc.mk' [3] func167 rfl ntmps167 rfl rfl rfl (fun t w=>results_tmp results167 t _ w) ?_;refine go [] ?_;exact ah rfl (Sub.refl _)
structure ae9(l:List aW)(P:aW→Bool)where
 pre:List aW
 rest:List aW
 hx:l=pre++rest
 hp:pre.any P=false
theorem ae8(l:List aW)(f:FuncId)(bC:List D)(cJ:D.bz.ec bC=true)(P:aW→Bool)(fc:∀(args:Array Value)(w:World),(callFunc f args).run Tryz.prog w=.ok (.enter f args) w)(hP:∀x∈l,Fc Tryz.prog f (.agg (gA x)::bC) (.b (P x))):Fc Tryz.prog 166 [iW l,.fn (.func f) [] bC] (.i (jq P l)):=by
 refine Fc.mk' [4] func166 rfl ntmps166 rfl (by simp[D.bz,D.bz.ec,cJ]) rfl (fun t w=>results_tmp results166 t _ w) ?_;refine J.eu 0 rfl (fun hb=>?_);simp only[List.length_map,aG]at hb;refine go [] ?_;refine J.loop (ι:=ae9 l P) (fun sx=>[(0,iW l),(1,.fn (.func f) [] bC),(6,iW l),(7,.i l.length),(8,.i sx.pre.length)]) (fun sx=>[]) (fun sx=>sx.rest.length) ⟨[],l,rfl,rfl⟩ ?_ ?_
 ·exact Le.mk rfl (.s rfl rfl (.cons rfl (Sub.refl _) (pV cJ) (.s rfl rfl (.cons rfl (Sub.int zS) rfl (.s rfl rfl .nil))))) .nil
 ·rintro⟨pre,rest,hx,hp⟩;show J _ _ _ _ [(0,iW l),(1,.fn (.func f) [] bC),(6,iW l),(7,.i l.length),(8,.i pre.length)] [];have hl:=congrArg List.length hx;simp only[List.length_append]at hl;rcases rest with _|⟨x,rest⟩
  ·skip;refine go [] ?_;refine a_ (by simp at hl⊢;omega) ?_;refine go [] ?_;exact ah rfl (Sub.int (by exact sM hx hp))
  ·simp only[List.length_cons]at hl;refine go [] ?_;refine bk zQ ?_;refine ix zO (aS gA hx rfl) ?_;refine oP (ek fc rfl rfl (hP x (by rw[hx];simp))) ?_;refine br (fun h1=>?_) (fun h1=>?_)
   ·exact ah rfl (Sub.int (by exact sN hx hp h1))
   ·refine sd (aw zO) ?_;exact nx ⟨pre++[x],rest,by simp[hx],iZ hp h1⟩ zS (Le.mk rfl (.s rfl rfl (.cons rfl (Sub.refl _) (pV cJ) (.s rfl rfl (.s rfl rfl (.cons rfl (Sub.int zS) rfl .nil))))) .nil)
theorem acH(l:List aW)(id:aa):Fc Tryz.prog 111 [iW l,.str id] (.bj [.i (max (jq (fun x=>decide (x.id=id)) l) 0),.b (l.any (fun x=>decide (x.id=id)))]):=by
 refine Fc.mk' [4,5] func111 rfl ntmps111 rfl rfl rfl (fun t w=>results_tmp2 results111 t _ w) ?_;refine go [1] ?_;refine J.bE (Le.fY 3 0 rfl rfl rfl rfl) ?_;refine go [] ?_;refine oP (ai call166 rfl (ae8 l _ [.bc [.str id]] rfl (fun x=>decide (x.id=id)) call167 (fun x _=>afJ x id))) ?_;exact fu rfl rfl (Sub.refl _) (Sub.bool (by exact ux _ l))
end Go.T
namespace Go.T
open Go
theorem K3{α:Type}{a b c x:α}{pre rest:List α}(hx:[a,b,c]=pre++x::rest):x=a∨x=b∨x=c:=by
 have:x∈[a,b,c]:=by rw[hx];simp
 simpa using this
def yb(k:Int):Bool:=decide (k=2)||decide (k=5)
def vo(k:Int)(i:aW):Int:=if k=2 then Dy i else if k=5 then Ep i else Gb i
def K1(i:aW):Bool:=decide (i.rP≠0)&&(!xI i.rP||decide (i.rP≤i.wS))||decide (i.rP=0)&&yb i.kind
def iU(d:Int):List aM→Int
 |[]=>d
 |f::r=>if decide (jw f≠0)=true then jw f else iU d r
def kc(i:aW):Int:=
 if(!isName i.id)=true then 23 else if(decide (i.kind<1)||decide (5<i.kind))=true then 7 else if(!fF i.cur)=true then 12
 else if(decide (i.places<0)||decide (12<i.places))=true then 2 else if(!xI i.wS)=true then 13 else if K1 i=true then 13 else iU (vo i.kind i) [i.fk,i.fh,i.e_]
theorem aip{d:Int}{l rest:List aM}{x:aM}(h:iU d l=iU d (x::rest))(k:decide (jw x≠0)=true):jw x=iU d l:=by rw[h,iU,if_pos k]
theorem aio{d:Int}{l rest:List aM}{x:aM}(h:iU d l=iU d (x::rest))(k:decide (jw x≠0)=false):iU d l=iU d rest:=by rw[h,iU,if_neg (by rw[k];simp)]
def ll(i:aW):List aa:=if i.kind=5 then[i.cur,i.other]else[i.cur]
def BL(i:aW)(t:List bA):Int:=if(ll i).any (fun c=>!(mb c t).2)=true then 12 else 0
def pK(pre:List aW)(x:aW)(t:List bA):Int:=if decide (kc x≠0)=true then kc x else if pre.any (fun y=>decide (y.id=x.id))=true then 5 else BL x t
def rG(t:List bA)(pre:List aW):List aW→Int
 |[]=>0
 |x::r=>if decide (pK pre x t≠0)=true then pK pre x t else rG t (pre++[x]) r
def kU(l:List aW)(t:List bA):Int:=if decide (l6 t≠0)=true then 1 else if decide (64<(l.length:Int))=true then 4 else rG t [] l
theorem RN{pre:List aW}{x:aW}{t:List bA}(h:decide (kc x≠0)=true):pK pre x t=kc x:=by rw[pK,if_pos h]
theorem RO{pre:List aW}{x:aW}{t:List bA}(h:decide (kc x≠0)=false)(h2:pre.any (fun y=>decide (y.id=x.id))=true):pK pre x t=5:=by rw[pK,if_neg (by rw[h];simp),if_pos h2]
theorem Fa{pre:List aW}{x:aW}{t:List bA}(h:decide (kc x≠0)=false)(h2:pre.any (fun y=>decide (y.id=x.id))=false):pK pre x t=BL x t:=by rw[pK,if_neg (by rw[h];simp),if_neg (by rw[h2];simp)]
theorem y4{l pre rest:List aW}{x:aW}{t:List bA}{n:Int}(h:kU l t=rG t pre (x::rest))(he:pK pre x t=n)(hn:decide (n≠0)=true):n=kU l t:=by rw[h,rG,he,if_pos hn]
theorem R0{l pre rest:List aW}{x:aW}{t:List bA}{n:Int}(h:kU l t=rG t pre (x::rest))(he:pK pre x t=n)(hn:decide (n≠0)=false):kU l t=rG t (pre++[x]) rest:=by
 rw[h,rG,he,if_neg (by rw[hn];simp)]
theorem RZ{l:List aW}{t:List bA}(h1:decide (l6 t≠0)=false)(h2:decide (64<(l.length:Int))=false):kU l t=rG t [] l:=by rw[kU,if_neg (by rw[h1];simp),if_neg (by rw[h2];simp)]
end Go.T
