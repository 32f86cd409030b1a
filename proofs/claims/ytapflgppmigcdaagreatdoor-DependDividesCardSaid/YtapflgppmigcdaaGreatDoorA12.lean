/-
  Contracts of the functions that the statement reaches, and the logic in which they are proved (no condition): parts W80, Div14, W81, W82, SpecD3, Div15, Div16, Core30, Core31, Core32, Core33, Core36, W83, W84, W72, SpecD4.
-/
import Derived.Test.YtapflgppmigcdaaGreatDoorA11
import Derived.Shelf.SlSortCmp.WholeK
set_option linter.all false
namespace Go.T
open Go Go.Proofs Go.Proofs.Tryz
set_option maxRecDepth 20000
theorem MB(M N:Nat)(vC:(au M).length≤10000)(vE:(au N).length≤10000)(hN:N≠0):Fc Tryz.prog 340 [aE (au M),aE (au N)] (.bf [aE (au (M/N)),aE (au (M%N))]):=by
 by_cases h:M<N
 ·exact Yc M N vC vE h
 ·by_cases h1:(au N).length=1
  ·exact Yj M N vC vE h h1
  ·refine Yd M N vC vE h ?_;have h2:(au N).length≠0:=fun e=>hN (pS e);omega
structure ajx(M N:Nat)where
 pre:List (Nat×Nat)
 m:Nat
 n:Nat
 hs:iS M N=pre++iS m n
 hm:(au m).length≤10000
 hn:(au n).length≤10000
theorem ajw(M N:Nat)(hM:(au M).length≤10000)(hN:(au N).length≤10000):zh (α:=Nat×Nat) Tryz.prog 357 8000 [.box 8000 0,.box 8001 0] [(8000,.cells [aE (au M)]),(8001,.cells [aE (au N)])] (fun p=>[aE (au p.1),aE (au p.2)]) (fun p=>p<+:iS M N) (fun p=>p=iS M N):=by
 refine zh.mk' func357 rfl ntmps357 rfl (fun t w=>results_none results357 t _ w) (fun aH lb ids B X Y=>?_);refine J.block ?_;refine J.loop (ι:=ajx M N) (fun sx=>[(0,yv lb),(1,.box 8000 0),(2,.box 8001 0)]) (fun sx=>([(8000,.cells [aE (au sx.m)]),(8001,.cells [aE (au sx.n)])]++B sx.pre)) (fun sx=>sx.n) ⟨[],M,N,rfl,hM,hN⟩ ?_ ?_
 ·exact Le.mk (JM (Y.has _) rfl) (.s rfl rfl (.s rfl rfl (.s rfl rfl .nil))) (.cons rfl rfl (.cons rfl rfl (.tail (KA (own:=[(8000,_),(8001,_)]) (iZ:=[(8000,_),(8001,_)]) rfl (Y.free _) (Y.Bk _)))))
 ·rintro⟨pre,m,n,hs,hm,hn⟩;show J _ _ _ _ [(0,yv lb),(1,.box 8000 0),(2,.box 8001 0)] ([(8000,.cells [aE (au m)]),(8001,.cells [aE (au n)])]++B pre);refine J.seq (J.seq (J.sZ ?_));refine Tx.q rfl trivial (aX rfl _) ?_;refine Tx.q rfl trivial (iK isAgg244 rfl rfl rfl) ?_;refine Tx.q rfl trivial (iK isAgg244 rfl rfl rfl) ?_;refine Tx.bP (Le.mk (ak:=[(8000,_),(8001,_)]++B (pre)) (JM (Y.has _) rfl) (show eO _ _ [(0,_),(1,_),(2,_),(6,_),(7,_),(8,_)]from(.s rfl rfl (.s rfl rfl (.s rfl rfl (.s rfl rfl (.s rfl rfl (.s rfl rfl .nil))))))) (.cons (i:=8000) rfl rfl (.cons (i:=8001) rfl rfl (.tail (KA (own:=[(8000,_),(8001,_)]) (iZ:=[(8000,_),(8001,_)]) rfl (Y.free _) (Y.Bk _)))))) ?_;refine Tx.y Y (own:=[(8000,_),(8001,_)]) (pre:=pre) (aQ:=[(0,_),(1,_),(2,_),(6,_),(7,_),(8,_)]) (m,n) rfl rfl rfl trivial rfl rfl rfl (aal hs) rfl rfl (.cons rfl rfl (.cons rfl rfl (.cons rfl rfl (.cons rfl rfl (.cons rfl rfl (.cons rfl rfl .nil)))))) ?_ (fun o hX=>?_)
  ·skip;refine Tx.q rfl trivial (aX rfl _) ?_;refine Tx.q rfl (fX rfl rfl rfl rfl) (iK isAgg244 rfl rfl rfl) ?_;refine Tx.q rfl (fX rfl rfl rfl rfl) (dE underlying244 rfl _) ?_;refine Tx.q rfl (fX rfl rfl rfl rfl) (gp rfl rfl _) ?_;refine Tx.q rfl trivial (wQ rfl rfl rfl _) ?_;refine Tx.nil ?_;refine J.cond rfl (fun h1=>?_) (fun h1=>?_)
   ·have dn:n≠0:=by rintro rfl;simp[aV,oZ]at h1
    refine J.skip ?_;refine J.block ?_;refine J.seq (J.af [.r,.r,.p,.p,.p,.p,.p,.p] ?_);refine .R rfl (iK isAgg244 rfl rfl rfl)<|.R rfl (iK isAgg244 rfl rfl rfl)<|.P rfl (ai call340 rfl (MB _ _ zA zA zA))<|.mv rfl rfl<|.P rfl (dY rfl rfl)<|.P rfl (dY rfl rfl)<|.ag rfl rfl<|.ag rfl rfl<|.nil ?_;refine J.af [.r,.p,.w,.w] ?_;refine .R rfl (iK isAgg244 rfl rfl rfl)<|.mv rfl rfl<|.W rfl (rn sizeOf244 rfl rfl rfl rfl zS)<|.W rfl (rn sizeOf244 rfl rfl rfl rfl zS)<|.nil ?_;refine J.nil (cC ?_);refine J.nil (dG ?_);exact⟨⟨pre++[(m,n)],n,m%n,aak hs dn,hn,Nat.le_trans (sk (Nat.le_of_lt (Nat.mod_lt _ (Nat.pos_of_ne_zero dn)))) hn⟩,by exact Nat.mod_lt _ (Nat.pos_of_ne_zero dn),Le.mk (JM (Y.has _) rfl) (.s rfl rfl (.s rfl rfl (.s rfl rfl .nil))) (.cons rfl rfl (.cons rfl rfl (.tail (KA (own:=[(8000,_),(8001,_)]) (iZ:=[(8000,_),(8001,_)]) rfl (Y.free _) (Y.Bk _)))))⟩
   ·have bE:=h1;try simp only[bs]at bE
    refine J.exit (ei (dZ ?_));refine J.nil ?_;exact aiA (.inr rfl) (pre++[(m,n)]) (by exact aaj hs (pS (by simpa[aV]using bE))) (sM (own:=[(8000,_),(8001,_)]) rfl (Y.free _))
  ·skip;refine Tx.q rfl trivial (aX rfl _) ?_;refine Tx.off rfl (jD rfl rfl rfl rfl) ?_;refine Tx.off rfl (jD rfl rfl rfl rfl) ?_;refine Tx.off rfl (jD rfl rfl rfl rfl) ?_;refine Tx.q rfl trivial (BE rfl rfl rfl _) ?_;refine Tx.nil ?_;refine J.eQ rfl rfl ?_;refine J.exit (ei (dZ ?_));refine J.nil ?_;exact aiB (.inr rfl) o hX (sM (own:=[(8000,_),(8001,_)]) rfl (Y.NM _ hX))
theorem ajy(a b:List Nat):dv Tryz.prog 339 [aE a,aE b] [] (.fn (.func 357) [] [.box 8000 0,.box 8001 0]) [(8000,.cells [aE a]),(8001,.cells [aE b])]:=by
 refine dv.mk' [4] func339 rfl ntmps339 rfl rfl rfl (fun t w=>results_tmp results339 t _ w) ?_;refine J.seq (J.af [.w,.w,.p] ?_);refine .W rfl (JQ 8000 rfl rfl rfl)<|.W rfl (JQ 8001 rfl rfl rfl)<|.ag rfl rfl<|.nil ?_;refine J.seq (J.af [.p,.p] ?_);refine .P rfl (JW (xs:=[]) (ys:=_) rfl rfl)<|.ag rfl rfl<|.nil ?_;refine J.ret (?_);exact uE rfl (by exact Sub.refl _) (.cons rfl rfl (.cons rfl rfl .nil))
end Go.T
namespace Go.T
open Go
theorem uf(s:aa):(au (val s).natAbs).length≤s.length:=by
 rw[←Dj];have h1:=pA (digits s).1;have h2:=jO s;omega
theorem zf(s:aa):(val s).natAbs<10^s.length:=by
 have h1:=o8 (digits s).1 (mM s);have h2:=jO s;have h3:10^(digits s).1.length≤10^s.length:=Nat.pow_le_pow_right zO h2;unfold val;split<;>omega
theorem Bh{n:Int}{k:Nat}(h:n.natAbs<10^k):(ofInt n).length≤k+1:=by
 have:=yB k n.natAbs h;unfold ofInt;split<;>simp<;>omega
theorem El{n:Int}{s:aa}(h:n.natAbs≤(val s).natAbs):(ofInt n).length≤s.length+1:=Bh (Nat.lt_of_le_of_lt h (zf s))
theorem TY(cD:Bool)(n:Nat):s8 cD (au n)=ofInt (if cD then -(n:Int)else n):=by rw[B2 _ (fW n),gk]
theorem Nv{a b:Int}(hb:0<b)(h:¬(decide (a<0)=true∧a.natAbs%b.natAbs≠0)):(if decide (a<0)then -((a.natAbs/b.natAbs:Nat):Int)else((a.natAbs/b.natAbs:Nat):Int))=a/b:=by
 obtain⟨n,rfl⟩:∃n:Nat,b=n:=⟨b.toNat,by omega⟩;simp only[Int.natAbs_natCast]at h⊢;by_cases ha:a<0
 ·simp only[ha,decide_true,if_true,true_and]at h⊢;have hm:a.natAbs%n=0:=by omega
  obtain⟨k,hk⟩:∃k:Nat,a=-(k:Int):=⟨a.natAbs,by omega⟩;subst hk;simp only[Int.natAbs_neg,Int.natAbs_natCast]at hm⊢;have hd:=Nat.div_add_mod k n;rw[hm,Nat.add_zero]at hd;have e:-(k:Int)=(n:Int)*(-((k/n:Nat):Int)):=by
   rw[Int.mul_neg,←Int.natCast_mul,hd]
  rw[e,Int.mul_ediv_cancel_left _ zO]
 ·simp only[ha,decide_false]at h⊢;obtain⟨k,hk⟩:∃k:Nat,a=(k:Int):=⟨a.toNat,by omega⟩;subst hk;simp
theorem Nu{a b:Int}(hb:0<b)(ha:a<0)(h:a.natAbs%b.natAbs≠0):-((a.natAbs/b.natAbs+1:Nat):Int)=a/b:=by
 obtain⟨n,rfl⟩:∃n:Nat,b=n:=⟨b.toNat,by omega⟩;obtain⟨k,hk⟩:∃k:Nat,a=-(k:Int):=⟨a.natAbs,by omega⟩;subst hk;simp only[Int.natAbs_neg,Int.natAbs_natCast]at h⊢;have hd:=Nat.div_add_mod k n;have bw:=Nat.mod_lt k (y:=n) zO;have e:-(k:Int)=(n:Int)*(-((k/n+1:Nat):Int))+((n-k%n:Nat):Int):=by
  have h1:(k:Int)=(n:Int)*((k/n:Nat):Int)+((k%n:Nat):Int):=by rw[←Int.natCast_mul,←Int.natCast_add,hd]
  have h2:((n-k%n:Nat):Int)=(n:Int)-((k%n:Nat):Int):=by omega
  have h3:((k/n+1:Nat):Int)=((k/n:Nat):Int)+1:=by omega
  rw[h2,h3,Int.mul_neg,Int.mul_add,Int.mul_one];omega
 rw[e,Int.add_comm,Int.add_mul_ediv_left _ _ zO,Int.ediv_eq_zero_of_lt zO zO];omega
theorem QM{n:Nat}(h:0<((au n).length:Int)):n≠0:=by
 rintro rfl;rw[oZ]at h;simp at h
theorem TB{a b:Int}(hb:0<b)(h:¬decide (a<0)=decide (b<0)):a<0:=by
 have:decide (b<0)=false:=by simp;omega
 rw[this]at h;simpa using h
theorem Yw{a b:Int}(hb:0<b)(h:(¬decide (a<0)=decide (b<0))∧0<((au (a.natAbs%b.natAbs)).length:Int)):ofInt (if(decide (a<0)!=decide (b<0))=true then -((a.natAbs/b.natAbs+1:Nat):Int)else((a.natAbs/b.natAbs+1:Nat):Int))=ofInt (a/b):=by
 have ha:=TB hb h.1;have h0:decide (b<0)=false:=by simp;omega
 rw[if_pos (by simp[ha,h0]),Nu hb ha (QM h.2)]
theorem Yy{a b:Int}(hb:0<b)(h:(¬decide (a<0)=decide (b<0))∧0<((au (a.natAbs%b.natAbs)).length:Int)):ofInt (if decide (b<0)=true then -((b.natAbs-a.natAbs%b.natAbs:Nat):Int)else((b.natAbs-a.natAbs%b.natAbs:Nat):Int))=ofInt (a%b):=by
 have ha:=TB hb h.1;have h1:=Nu hb ha (QM h.2);rw[if_neg zQ]
 congr 1
 have h2:=Int.mul_ediv_add_emod a b;have h3:=Nat.div_add_mod a.natAbs b.natAbs;have h4:=Nat.mod_lt a.natAbs (y:=b.natAbs) zO;rw[←h1]at h2;obtain⟨n,rfl⟩:∃n:Nat,b=n:=⟨b.toNat,by omega⟩;simp only[Int.natAbs_natCast]at*;have h5:((n*(a.natAbs/n)+a.natAbs%n:Nat):Int)=a.natAbs:=by rw[h3]
 rw[Int.natCast_add,Int.natCast_mul]at h5;have h6:(n:Int)*-((a.natAbs/n+1:Nat):Int)=-((n:Int)*((a.natAbs/n:Nat):Int))-n:=by rw[Int.mul_neg,Int.natCast_add,Int.mul_add];omega
 rw[h6]at h2;omega
theorem Yv{a b:Int}(hb:0<b)(h:(decide (a<0)!=decide (b<0))=false∨((au (a.natAbs%b.natAbs)).length:Int)≤0):ofInt (if(decide (a<0)!=decide (b<0))=true then -((a.natAbs/b.natAbs:Nat):Int)else((a.natAbs/b.natAbs:Nat):Int))=ofInt (a/b):=by
 have h0:decide (b<0)=false:=by simp;omega
 have:=Nv (a:=a) hb (by
  rintro⟨g1,g2⟩;rcases h with h|h
  ·rw[g1,h0]at h;simp at h
  ·exact g2 (pS zO))
 rw[←this,h0];simp
theorem Yx{a b:Int}(hb:0<b)(h:(decide (a<0)!=decide (b<0))=false∨((au (a.natAbs%b.natAbs)).length:Int)≤0):ofInt (if decide (b<0)=true then -((a.natAbs%b.natAbs:Nat):Int)else((a.natAbs%b.natAbs:Nat):Int))=ofInt (a%b):=by
 have h0:decide (b<0)=false:=by simp;omega
 have h1:=Nv (a:=a) hb (by
  rintro⟨g1,g2⟩;rcases h with h|h
  ·rw[g1,h0]at h;simp at h
  ·exact g2 (pS zO))
 rw[if_neg zQ]
 congr 1
 have h2:=Int.mul_ediv_add_emod a b;have h3:=Nat.div_add_mod a.natAbs b.natAbs;rw[←h1]at h2;obtain⟨n,rfl⟩:∃n:Nat,b=n:=⟨b.toNat,by omega⟩;simp only[Int.natAbs_natCast]at*;have h5:((n*(a.natAbs/n)+a.natAbs%n:Nat):Int)=a.natAbs:=by rw[h3]
 rw[Int.natCast_add,Int.natCast_mul]at h5;by_cases g1:a<0
 ·simp only[g1,decide_true,if_true,Int.mul_neg]at h2;have:a.natAbs%n=0:=by
   rcases h with h|h
   ·simp[g1]at h;omega
   ·exact pS zO
  omega
 ·simp only[g1,decide_false,Bool.false_eq_true,if_false]at h2;omega
open Go.Proofs Go.Proofs.Tryz
set_option maxRecDepth 20000
theorem wR(s:aa)(hs:s.length≤100000):Fc Tryz.prog 238 [.str s] (.agg (mb (decide (val s<0)) (au (val s).natAbs))):=by
 have:=sY s hs;rw[Jf,Dj]at this;exact this
theorem B3(cD:Bool)(n:Nat)(h:(au n).length≤20000):Fc Tryz.prog 239 [.agg (mb cD (au n))] (.str (ofInt (if cD then -(n:Int)else n))):=by
 have:=zd cD (au n) (fW n) h;rw[TY]at this;exact this
theorem Rt(s:aa)(hs:s.length≤9000):Fc Tryz.prog 311 [.str s] (.str (ofInt (-val s))):=by
 have:=agd s hs;rw[Jf,Dj,TY]at this;have e:(if(!decide (val s<0))=true then -((val s).natAbs:Int)else((val s).natAbs:Int))=-val s:=by
  by_cases h:val s<0
  ·simp[h];omega
  ·simp[h];omega
 rw[e]at this;exact this
theorem agh:Sub (.raw (.slice none 0 0)) (aE (au (sf []))):=by
 rw[show sf []=0 from rfl,oZ];exact Sub.nil _ false
theorem NQ(a b:aa)(ha:a.length≤4000)(hb:b.length≤4000):Fc Tryz.prog 312 [.str a,.str b] (.str (ofInt (Int.gcd (val a) (val b):Int))):=by
 refine Fc.mk' [4] func312 rfl ntmps312 rfl rfl rfl (fun t w=>results_tmp results312 t _ w) ?_;have HV:=uf a;have mh:=uf b;have cQ:(au (Nat.gcd (val a).natAbs (val b).natAbs)).length≤10000:=by
  rcases Nat.eq_zero_or_pos (val a).natAbs with e|e
  ·rw[e,Nat.gcd_zero_left];omega
  ·exact Nat.le_trans (sk (Nat.gcd_le_left _ e)) zO
 refine J.seq (J.af [.p] ?_);refine .ag rfl rfl<|.nil ?_;refine J.seq (J.af [.w] ?_);refine .W rfl (jE 0 zeroValue244 rfl)<|.nil ?_;refine J.seq (J.seq (J.af [.p,.p,.p,.p,.p,.p,.w] ?_));refine .mv rfl rfl<|.P rfl (ai call238 rfl (wR _ zO))<|.P rfl (JU 244 1 underlying246 isAgg244 rfl rfl rfl)<|.mv rfl rfl<|.P rfl (ai call238 rfl (wR _ zO))<|.P rfl (JU 244 1 underlying246 isAgg244 rfl rfl rfl)<|.W rfl (gE call339 rfl (ajy _ _) .nil rfl rfl)<|.nil ?_;refine J.block ?_;refine J.aie (α:=Nat×Nat) 7900 [0] [(0,_),(1,_),(4,_),(5,_),(7,_),(8,_),(9,_),(10,_),(11,_),(12,_)] (fun(pre:List (Nat×Nat))=>[(0,.cells [aE (au (sf pre))])]) (fun _ _=>False) rfl call357 (ajw (val a).natAbs (val b).natAbs zO zO) (fE:=[(0,_),(1,_),(4,_),(5,_),(7,_),(8,_),(9,_),(10,_),(11,_),(12,_),(13,_)]) ((Le.eN 0 0 rfl rfl agh).trans<|Le.mk (ak:=[(8000,_),(8001,_)]++(fun(pre:List (Nat×Nat))=>[(0,.cells [aE (au (sf pre))])]) []) rfl (show eO _ _ [(0,_),(1,_),(4,_),(5,_),(7,_),(8,_),(9,_),(10,_),(11,_),(12,_),(13,_)]from(.s rfl rfl (.s rfl rfl (.s rfl rfl (.s rfl rfl (.s rfl rfl (.s rfl rfl (.s rfl rfl (.s rfl rfl (.s rfl rfl (.s rfl rfl (.s rfl rfl .nil)))))))))))) (.cons (i:=8000) rfl rfl (.cons (i:=8001) rfl rfl (.cons rfl rfl .nil)))) rfl rfl (fun _=>rfl) (.cons rfl rfl (.cons rfl rfl (.cons rfl rfl (.cons rfl rfl (.cons rfl rfl (.cons rfl rfl (.cons rfl rfl (.cons rfl rfl (.cons rfl rfl (.cons rfl rfl .nil)))))))))) rfl (fun _=>rfl) (by rintro j o h;exact h.elim) (fun _=>ae.Js rfl) (by rintro j o h;exact h.elim) (fun _=>NL rfl) (by rintro j o h;exact h.elim) zD rfl (fun pre x aj=>?_) (fun xs DA=>?_) (fun _ _ h=>h.elim)
 ·skip;refine J.af [.p] ?_;refine .ag rfl rfl<|.nil ?_;refine J.nil ⟨rfl,?_⟩;refine J.block ?_;refine J.af [.p,.w] ?_;refine .mv rfl rfl<|.W rfl (rn sizeOf244 rfl rfl rfl rfl zS)<|.nil ?_;refine J.nil (cC ?_);refine J.nil ?_;exact⟨rfl,Le.mk rfl .nil (.cons rfl rfl (.eq rfl (by rw[aem];rfl) rfl .nil))⟩
 ·skip;subst DA;rw[ael];refine J.nil (cC ?_);refine J.seq (J.af [.r,.p,.p,.p] ?_);refine .R rfl (iK isAgg244 rfl rfl rfl)<|.P rfl (rl (pl:=#[(0,1),(1,1)]) underlying246 zeroValue246 (fun w=>by kernel_rfl) rfl rfl)<|.P rfl (ai call239 rfl (B3 false _ (Nat.le_trans cQ zD)))<|.ag rfl rfl<|.nil ?_;refine J.ret (?_);exact dF rfl (Sub.refl _)
structure aj9 where
 u:Unit
theorem aj8:Fc Tryz.prog 338 [.snap 1 false [],.snap 1 false []] (.snap 1 false []):=by
 refine Fc.mk' [4] func338 rfl ntmps338 rfl rfl rfl (fun t w=>results_tmp results338 t _ w) ?_;refine go [] ?_;refine sd (eJ zO zS) ?_;refine oP (SS underlying244 sizeOf184 typeInfo184 rfl rfl rfl rfl) ?_;refine J.loop (ι:=aj9) (fun sx=>[(17,aE []),(18,.i 0),(19,.i 0),(1,.snap 1 false []),(5,aE [])]) (fun sx=>[]) (fun sx=>0) ⟨()⟩ ?_ ?_
 ·exact Le.mk rfl (.s rfl rfl (.s rfl rfl (.s rfl rfl (.s rfl rfl (.s rfl rfl .nil))))) .nil
 ·rintro⟨u⟩;show J _ _ _ _ [(17,aE []),(18,.i 0),(19,.i 0),(1,.snap 1 false []),(5,aE [])] []
  skip
  ·skip;refine go [] ?_;refine aR zS ?_;refine go [] ?_;refine oP (ai call284 rfl (qn _)) ?_;exact ah rfl (Sub.refl _)
theorem aj7(M N:Nat)(hM:(au M).length≤20000)(hN:(au N).length≤20000):Fc Tryz.prog 338 [aE (au M),aE (au N)] (aE (au (M*N))):=by
 by_cases h:(au M).length+(au N).length≠0
 ·have:=T0 (au M) (au N) h hM hN (fW M) (fW N);rw[gk,gk]at this;exact this
 ·have e1:=pS (n:=M) zO;have e2:=pS (n:=N) zO;subst e1;subst e2;rw[oZ];exact aj8
theorem af1(a b:Int):(if(decide (a<0)!=decide (b<0))=true then -((a.natAbs*b.natAbs:Nat):Int)else((a.natAbs*b.natAbs:Nat):Int))=a*b:=by
 rw[←Int.natAbs_mul];by_cases h1:a<0<;>by_cases h2:b<0
 ·have:=Int.mul_pos_of_neg_of_neg h1 h2;simp[h1,h2];omega
 ·have:a*b≤0:=Int.mul_nonpos_of_nonpos_of_nonneg zO zO;simp[h1,h2];omega
 ·have:a*b≤0:=Int.mul_nonpos_of_nonneg_of_nonpos zO zO;simp[h1,h2];omega
 ·have:0≤a*b:=Int.mul_nonneg zO zO;simp[h1,h2];omega
theorem afq{M N:Nat}:(au (M*N)).length≤(au M).length+(au N).length:=by
 refine IX ?_;have h1:=ue M;have h2:=ue N;rw[Nat.pow_add];rcases Nat.eq_zero_or_pos N with e|e
 ·subst e;rw[Nat.mul_zero];exact Nat.mul_pos (Nat.pow_pos dz) (Nat.pow_pos dz)
 ·exact Nat.mul_lt_mul_of_lt_of_le h1 (Nat.le_of_lt h2) zO
theorem I_(a b:aa)(ha:a.length≤4000)(hb:b.length≤4000):Fc Tryz.prog 305 [.str a,.str b] (.str (ofInt (val a*val b))):=by
 refine Fc.mk' [4] func305 rfl ntmps305 rfl rfl rfl (fun t w=>results_tmp results305 t _ w) ?_;have HV:=uf a;have mh:=uf b;have O3:=afq (M:=(val a).natAbs) (N:=(val b).natAbs);refine go [] ?_;refine oP (ai call238 rfl (wR _ zO)) ?_;refine oP (ai call238 rfl (wR _ zO)) ?_;refine oP (ai call338 rfl (aj7 _ _ zO zO)) ?_;refine oP (ai call239 rfl (B3 _ _ zO)) ?_;refine ord ?_;exact ah rfl (Sub.str (by rw[af1]))
theorem ahx(M:Nat)(h:(au M).length≤20000):Fc Tryz.prog 280 [aE (au M),.snap 1 true (aV [1])] (aE (lS (au M) [1])):=
 (JJ (au M) [1] h zS (fW M) (fun x hx=>by simp at hx;subst hx;unfold gB;omega)).sub
theorem afQ(N r:Nat)(h:(au N).length≤20000)(hr:r<N):Fc Tryz.prog 281 [aE (au N),aE (au r)] (aE (au (N-r))):=by
 have h1:(au N).length≠0:=fun e=>by have:=pS e;omega
 have h2:=D8 (au N) (au r) h1 h (Nat.le_trans (sk (Nat.le_of_lt hr)) h) (fW N) (fW r);have h3:=uI (au N) (au r) 0 (fW N) (fW r) zO (by rw[gk,gk];omega);have h4:=za (au N) (au r) 0 (fW N) (fW r) zO;rw[vb h4,h3,gk,gk,Nat.add_zero]at h2;exact h2
theorem aj0(cD:Bool)(n:Nat)(h:(au n).length≤10000):Fc Tryz.prog 239 [.agg (mb cD (lS (au n) [1]))] (.str (ofInt (if cD then -((n+1:Nat):Int)else(n+1:Nat)))):=by
 have h1:aU [1]:=fun x hx=>by simp at hx;subst hx;unfold gB;omega
 have h2:=JK (au n) [1];have:=zd cD (lS (au n) [1]) (Ew (fW n) h1) (by simp at h2;omega);rw[B2 _ (Ew (fW n) h1),JL,gk]at this;simpa[an]using this
theorem CG(a b:aa)(ha:a.length≤4000)(hb:b.length≤4000)(h0:0<val b):Fc Tryz.prog 313 [.str a,.str b] (.bf [.str (ofInt (val a/val b)),.str (ofInt (val a%val b)),.i 0]):=by
 refine Fc.mk' [4,5,6] func313 rfl ntmps313 rfl rfl rfl (fun t w=>results_tmp3 results313 t _ w) ?_;have HV:=uf a;have mh:=uf b;have dn:(val b).natAbs≠0:=by omega
 have hq:=sk (Nat.div_le_self (val a).natAbs (val b).natAbs);have hr:=sk (Nat.mod_le (val a).natAbs (val b).natAbs);have fq:=Nat.mod_lt (val a).natAbs (Nat.pos_of_ne_zero dn);have AD:=sk (Nat.sub_le (val b).natAbs ((val a).natAbs%(val b).natAbs));have g9:decide (val b<0)=false:=by simp;omega
 refine go [] ?_;refine oP (ai call238 rfl (wR _ zO)) ?_;refine oP (ai call238 rfl (wR _ zO)) ?_;refine aR (by simp[aV];exact fun e=>dn (pS (by rw[e];rfl))) ?_;refine oP (ai call340 rfl (MB _ _ zO zO zA)) ?_;refine br (fun h1=>?_) (fun h1=>?_)
 ·have bE:=h1;try simp only[bs]at bE
  refine oP (bI (n:=1) (rows:=aV [1]) underlying244 sizeOf184 rfl rfl rfl zeroValue184 rfl rfl rfl rfl rfl rfl rfl) ?_;refine oP (ai call280 rfl (ahx _ zO)) ?_;refine oP (ai call281 rfl (afQ _ _ zO fq)) ?_;refine ord ?_;refine oP (ai call239 rfl (by exact aj0 _ _ zO)) ?_;refine oP (ai call239 rfl (B3 _ _ zO)) ?_;refine ord ?_;exact BO rfl rfl rfl (Sub.str (by exact Yw h0 bE)) (Sub.str (by exact Yy h0 bE)) (Sub.refl _)
 ·have bE:=h1;try simp only[bs]at bE
  refine oP (ai call239 rfl (by exact B3 _ _ zO)) ?_;refine oP (ai call239 rfl (B3 _ _ zO)) ?_;refine ord ?_;exact BO rfl rfl rfl (Sub.str (by exact Yv h0 bE)) (Sub.str (by exact Yx h0 bE)) (Sub.refl _)
end Go.T
namespace Go.T
open Go
def lk(f:aP):Prop:=f.num.length≤60∧f.den.length≤60
def pj(x:bJ):Prop:=lk x.j7∧lk x.j6∧lk x.kp
def sg(f:aP):Int:=fO (val f.num-val [])
def bB(f:aP):aa×aa:=if decide (fO (val f.den-val [])=0)then(f.num,[49])else(f.num,f.den)
def gQ(n d:Int):Int×Int:=
 let n1:=if d<0 then -n else n
 let d1:=if d<0 then -d else d
 (n1/(Int.gcd n1 d1:Int),d1/(Int.gcd n1 d1:Int))
def cI(n d:Int):aP:=⟨ofInt (gQ n d).1,if ofInt (gQ n d).2=[49]then[]else ofInt (gQ n d).2⟩
def jM(f:aP):Int:=if f=cI (val (bB f).1) (val (bB f).2)then 0 else 1
def i_(a:aa):Int:=if decide (a≠[])&&decide (((a.headD 0).toNat:Int)=45)then(a.length:Int)-1 else a.length
theorem acG{a:aa}(h:a≠[]):a[(0:Int).toNat]?=some (a.headD 0):=by cases a with
 |nil=>exact absurd rfl h
 |cons c a=>rfl
def lO(f:aP):Int:=if decide (jM f≠0)then 1 else if decide (40<max (i_ f.num) (i_ f.den))then 4 else 0
def ahu(i:bJ):Bool:=decide (sg i.j7≠0)||decide (sg i.j6≠0)||decide (i.A_≠0)||decide (i.count≠0)||decide (sg i.kp≠0)||decide (i.other≠[])
def VL(i:bJ):Bool:=decide (sg i.j7≤0)||decide (sg i.j6<0)||!([1,2,3,4,6,12].any fun n=>decide (i.A_=n))||decide (i.count<1)||decide (5<i.count)
def VM(i:bJ):Bool:=decide (i.other≠[])||decide (sg i.kp≠0)
def abf(i:bJ):Bool:=decide (sg i.j7≠0)||decide (sg i.j6≠0)||decide (i.A_≠0)||decide (i.count≠0)
def Su(i:bJ):Int:=if ahu i=true then 1 else 0
def Ly(i:bJ):Int:=if VL i=true then 2 else if VM i=true then 1 else 0
def NN(i:bJ):Int:=if(!gA i.other||decide (i.other=i.cur))=true then 12 else if decide (sg i.kp≤0)=true then 2 else if abf i=true then 1 else 0
theorem iY{b:Bool}{x y:Int}(h:b=true):x=if b=true then x else y:=by rw[if_pos h]
theorem cT{b:Bool}{x y z:Int}(h:b=false)(k:z=y):z=if b=true then x else y:=by rw[if_neg (by rw[h];simp)];exact k
theorem uQ:val []=0:=by decide
theorem val_one:val [49]=1:=by decide
theorem ET{n:Int}:fO n<0↔n<0:=by unfold fO;split<;>(try split)<;>omega
theorem y_{n:Int}:fO n=0↔n=0:=by unfold fO;split<;>(try split)<;>omega
theorem Kn(d:aa):fO (val d-val [])<0↔val d<0:=by rw[uQ,ET];omega
theorem S8{n d:aa}(h:decide (fO (val d-val [])<0)=true):
  ofInt (val (ofInt (-val n))/val (ofInt (Int.gcd (val (ofInt (-val n))) (val (ofInt (-val d))):Int)))=ofInt (gQ (val n) (val d)).1∧
  ofInt (val (ofInt (-val d))/val (ofInt (Int.gcd (val (ofInt (-val n))) (val (ofInt (-val d))):Int)))=ofInt (gQ (val n) (val d)).2:=by
 have h':val d<0:=(Kn d).1 (of_decide_eq_true h);simp only[f_,gQ,if_pos h',and_self]
theorem wS{n d:aa}(h:decide (fO (val d-val [])<0)=false):
  ofInt (val n/val (ofInt (Int.gcd (val n) (val d):Int)))=ofInt (gQ (val n) (val d)).1∧ofInt (val d/val (ofInt (Int.gcd (val n) (val d):Int)))=ofInt (gQ (val n) (val d)).2:=by
 have h':¬val d<0:=fun e=>of_decide_eq_false h ((Kn d).2 e);simp only[f_,gQ,if_neg h',and_self]
theorem Rw(s:aa):(ofInt (-val s)).length≤s.length+1:=El zS
theorem G4(n:Int){d:aa}(h0:val d≠0):(ofInt (Int.gcd n (val d):Int)).length≤d.length+1:=by
 refine El ?_;rw[Int.natAbs_natCast];exact Nat.gcd_le_right _ zO
theorem Db(n:Int){d:Int}(h0:d≠0):0<val (ofInt (Int.gcd n d:Int)):=by
 rw[f_];have:=Nat.gcd_pos_of_pos_right n.natAbs (n:=d.natAbs) zO;have e:Int.gcd n d=Nat.gcd n.natAbs d.natAbs:=rfl;omega
theorem abo(n:Int){d:aa}(h0:val d≠0):(ofInt (Int.gcd n (val (ofInt (-val d))):Int)).length≤d.length+1:=by
 rw[f_,Int.gcd_neg];exact G4 n h0
theorem NP(n:Int){d:aa}(h0:val d≠0):0<val (ofInt (Int.gcd n (val (ofInt (-val d))):Int)):=Db n (by rw[f_];omega)
theorem QI{n d:Int}(h:decide (ofInt (gQ n d).2=[49])=true):[]=(cI n d).den:=by simp only[cI];rw[if_pos (of_decide_eq_true h)]
theorem QJ{n d:Int}(h:decide (ofInt (gQ n d).2=[49])=false):ofInt (gQ n d).2=(cI n d).den:=by simp only[cI];rw[if_neg (of_decide_eq_false h)]
theorem yR(f:aP):(bB f).1=f.num:=by unfold bB;split<;>rfl
theorem yQ(f:aP):val (bB f).2≠0:=by
 unfold bB;split
 ·show val [49]≠0;decide
 ·rename_i h;intro e;apply h;simp only[decide_eq_true_eq];rw[y_];show val f.den-val []=0;rw[uQ];have:val f.den=0:=e;omega
theorem Si(f:aP){k:Nat}(hk:1≤k)(h:f.den.length≤k):(bB f).2.length≤k:=by unfold bB;split<;>simp<;>omega
theorem LP{f:aP}{n d:Int}(h:(!decide ([f.num,f.den]=[(cI n d).num,(cI n d).den]))=true):¬f=cI n d:=by
 rintro e;rw[←e]at h;simp at h
theorem LO{f:aP}{n d:Int}(h:(!decide ([f.num,f.den]=[(cI n d).num,(cI n d).den]))=false):f=cI n d:=by
 have:=of_decide_eq_true (by simpa using h:decide ([f.num,f.den]=[(cI n d).num,(cI n d).den])=true);simp only[List.cons.injEq,and_true]at this;cases f;exact congr (congrArg aP.mk this.1) this.2
theorem Ea(s t:aa):(ofInt (val s*val t)).length≤s.length+t.length+1:=by
 refine Bh ?_;rw[Int.natAbs_mul,Nat.pow_add];have h1:=zf s;have h2:=zf t;rcases Nat.eq_zero_or_pos (val t).natAbs with e|e
 ·rw[e,Nat.mul_zero];exact Nat.mul_pos (Nat.pow_pos zO) (Nat.pow_pos zO)
 ·exact Nat.mul_lt_mul_of_lt_of_le h1 (Nat.le_of_lt h2) zO
def wZ(f g:aP):aP:=cI (val (bB f).1*val (bB g).2-val (bB g).1*val (bB f).2) (val (bB f).2*val (bB g).2)
def ql(f g:aP):Int:=fO (val (wZ f g).num-val [])
def dH:aP:=⟨[],[]⟩
def sj(pos part:Bool)(f:aP)(Vx:Bool)(aG:Bool):Int:=if decide (jM f≠0)=true then 1 else if aG=true then 4 else if Vx=true then 2 else 0
def DZ(pos part:Bool)(f:aP):Bool:=decide (ql f dH<0)||(pos&&decide (ql f dH=0))||(part&&decide (0<ql f (cI (val [49]) (val [49]))))
theorem Ky{f g:aP}{k:Nat}(hf:f.num.length≤k∧f.den.length≤k)(hg:g.num.length≤k∧g.den.length≤k)(hk:1≤k):
  (bB f).1.length≤k∧(bB f).2.length≤k∧(bB g).1.length≤k∧(bB g).2.length≤k:=
 ⟨by rw[yR];exact hf.1,Si f hk hf.2,by rw[yR];exact hg.1,Si g hk hg.2⟩
theorem ahB{f g:aP}:val (ofInt (val (bB f).2*val (bB g).2))≠0:=by
 rw[f_];exact Int.mul_ne_zero (yQ f) (yQ g)
theorem agD{a b:Int}{k:Nat}(ha:a.natAbs<10^k)(hb:b.natAbs<10^k):(ofInt (a-b)).length≤k+2:=by
 refine Bh (k:=k+1) ?_;rw[Nat.pow_succ];omega
theorem yx(s t:aa):(val s*val t).natAbs<10^(s.length+t.length):=by
 rw[Int.natAbs_mul,Nat.pow_add];have h1:=zf s;have h2:=zf t;rcases Nat.eq_zero_or_pos (val t).natAbs with e|e
 ·rw[e,Nat.mul_zero];exact Nat.mul_pos (Nat.pow_pos zO) (Nat.pow_pos zO)
 ·exact Nat.mul_lt_mul_of_lt_of_le h1 (Nat.le_of_lt h2) zO
theorem zm{n:Int}{j k:Nat}(h:n.natAbs<10^j)(hk:j≤k):n.natAbs<10^k:=Nat.lt_of_lt_of_le h (Nat.pow_le_pow_right zO hk)
theorem air{n d:Int}(h:d≠0):(gQ n d).1.natAbs≤n.natAbs∧(gQ n d).2.natAbs≤d.natAbs:=by
 have key:∀x y:Int,(x/(y:Int)).natAbs≤x.natAbs:=fun x y=>Int.natAbs_ediv_le_natAbs x y;unfold gQ;by_cases g:d<0
 ·simp only[if_pos g];exact⟨Nat.le_trans (key _ _) zO,Nat.le_trans (key _ _) zO⟩
 ·simp only[if_neg g];exact⟨key _ _,key _ _⟩
theorem QK{n d:Int}{k:Nat}(h:d≠0)(hn:n.natAbs<10^k)(hd:d.natAbs<10^k):(cI n d).num.length≤k+1∧(cI n d).den.length≤k+1:=by
 have h1:=air (n:=n) h;refine⟨Bh (n:=(gQ n d).1) (by have:=h1.1;omega),?_⟩;simp only[cI];split
 ·simp
 ·exact Bh (by have:=h1.2;omega)
theorem ajL{f g:aP}{k:Nat}(hk:1≤k)(hf:f.num.length≤k∧f.den.length≤k)(hg:g.num.length≤k∧g.den.length≤k):(wZ f g).num.length≤2*k+2∧(wZ f g).den.length≤2*k+2:=by
 obtain⟨h1,h2,h3,h4⟩:=Ky hf hg hk;have a1:=zm (yx (bB f).1 (bB g).2) (k:=2*k) zO;have a2:=zm (yx (bB g).1 (bB f).2) (k:=2*k) zO;have a3:=zm (yx (bB f).2 (bB g).2) (k:=2*k) zO;have cK:10^(2*k+1)=10^(2*k)*10:=Nat.pow_succ ..;exact QK (k:=2*k+1) (Int.mul_ne_zero (yQ f) (yQ g)) zO zO
theorem ahm(a:aa):bB ⟨a,[]⟩=(a,[49]):=by
 unfold bB;rw[if_pos (by show decide (fO (val []-val [])=0)=true;decide)]
theorem Cy(x:List Nat):¬ig x []<0:=fun h=>LX h rfl
theorem Va{n1:Bool}{x:List Nat}(k1:ng n1 x):aU (gK n1 x true []).2∧jg (gK n1 x true []).1 (gK n1 x true []).2=jg n1 x∧(gK n1 x true []).2.length≤x.length+1:=by
 have ho:aU []:=fun _ h=>by simp at h
 cases n1 with
 |true=>
  simp only[gK,beq_self_eq_true,if_true];have:=JK x [];refine⟨Ew k1.ok ho,?_,by simpa using this⟩;simp[jg,JL,an]
 |false=>
  have e:(false==true)=false:=rfl;simp only[gK,e,Bool.false_eq_true,if_false,if_neg (Cy x)];have h1:=za x [] 0 k1.ok ho zO;have h2:=uI x [] 0 k1.ok ho zO (by simp[an]);have h3:=BZ x [] 0;refine⟨xn h1,?_,by have:=tw (gH x [] 0);omega⟩;rw[vb h1,h2];simp[jg,gk,an]
theorem agq{s:aa}(h:val s≠0):ng (!(digits s).2) (e7 (digits s).1):=by
 have h1:=my s;refine⟨h1.ok,h1.cut,fun _ h0=>h ?_⟩;rw[←lR s,List.length_eq_zero_iff.1 h0];simp[jg,an]
theorem agr(s:aa):jg (!(digits s).2) (e7 (digits s).1)=-val s:=by
 rw[←lR s];unfold jg;cases(digits s).2<;>simp
open Go.Proofs Go.Shelf Go.RowKit Go.Lib Go.Sort
@[reducible] def calm:bV:=⟨False⟩
theorem ab'{w w':World}(h:@ff calm w w'):∃q os',w'=Sort.grow (w.drewN q) os':=by
  obtain⟨h1,h2,h3,h4,h5⟩:=h;have h6:w'.tape=w.tape∧w.drawn≤w'.drawn:=by
    rcases h5 with h|h
    · exact h
    · exact h.elim
  clear h5;refine⟨w'.drawn-w.drawn,w'.heap.extract w.heap.size w'.heap.size,?_⟩;have hh:w'.heap=w.heap++w'.heap.extract w.heap.size w'.heap.size:=by
    apply Array.ext_getElem?;intro i;rcases Nat.lt_or_ge i w.heap.size with g|g
    · rw[Array.getElem?_append_left g,h2 i g]
    · rw[Array.getElem?_append_right g,Array.getElem?_extract]
      by_cases e:i<w'.heap.size
      · rw[if_pos zO];congr 1;omega
      · rw[if_neg zO,Array.getElem?_eq_none zO]
  have hd:(w.drewN (w'.drawn-w.drawn))={w with drawn:=w'.drawn}:=by
    unfold World.drewN;congr 1;omega
  rw[hd];unfold Sort.grow;cases w';simp only at*;obtain⟨h6,_⟩:=h6;subst h3;subst h4;subst h6
  congr 1
section
variable{α:Type} [Inhabited α] {P:Program}
structure Ff(k:Nat)(mO:α→List D)(mc:α→List Value):Prop where
  len:∀x,(mc x).length=k
  IG:∀x,(mO x).length=k
  one:∀x,∀v∈mc x,v.oneCell'=true
  toV:∀x(w:World)(O:Nat→Prop)(ρ:aA) vs,Vs w O ρ (mO x) vs→vs=mc x
  back:∀x(w:World)(O:Nat→Prop)(ρ:aA),Vs w O ρ (mO x) (mc x)
variable{k:Nat} {mO:α→List D} {mc:α→List Value}
theorem OD{w:World}{bW off m:Nat}{dk:Array α}{os:Array Obj}{b:Nat}(hb:b<w.heap.size)(aB:b≠bW):(sortWorldK mc k w bW off m dk os).heap[b]?=w.heap[b]?:=by
  unfold sortWorldK putRowK putRow mapBlock Sort.grow Sort.ahead;simp only;rw[Array.getElem?_append_left (by simpa using hb),Array.getElem?_modify,if_neg (Ne.symm aB)]
theorem H8(hE:Ff k mO mc){w:World}{O:Nat→Prop}{b off:Nat}{c:Array Value}{T:TypeId}{l:List α}(hb:w.heap[b]?=some (.cells c T (0,0)))(h:Vr w O b off k (l.map mO)):HoldsK mc k w b off l.toArray:=by
  intro j hj;rw[size_flatK]at hj;simp only[List.size_toArray]at hj;have k0:0<k:=by
      rcases Nat.eq_zero_or_pos k with e|e;· subst e;simp at hj
      · exact e
  have hi:j/k<l.length:=by rw[Nat.div_lt_iff_lt_mul k0];exact hj
  have hc:j%k<k:=Nat.mod_lt _ k0;rw[get_flatK _ _ _ _ (by simpa using hj)];obtain⟨_,h1⟩:=h.get _ _ (j/k) (mO l[j/k]) (by simp[hi]);have tM:j%k<(mO l[j/k]).length:=by rw[hE.IG];exact hc
  obtain⟨d,hd⟩:∃d,(mO l[j/k])[j%k]?=some d:=⟨(mO l[j/k])[j%k],List.getElem?_eq_getElem tM⟩;have kP:=Vc.E5 hb _ _ h1;have hv:=hE.toV _ _ _ _ _ kP.1;obtain⟨v,g1,g2⟩:=Vc.get _ _ h1 _ _ hd;have e:off+j/k*k+j%k=off+j:=by have:=Nat.div_add_mod j k;rw[Nat.mul_comm]at this;omega
  rw[e]at g1;have g3:(mc l[j/k])[j%k]?=some v:=by
    rw[←hv];have:c[off+j]?=some v:=by simpa[World.cell?,hb]using g1
    rw[List.getElem?_take,if_pos (by rw[hE.IG];exact hc),List.getElem?_drop,e];simpa using this
  refine⟨?_,by simp[World.frozen?,hb]⟩;rw[g1];have e1:(l.toArray)[j/k]! =l[j/k]:=by simp[hi]
  have e2:(mc l[j/k])[j%k]! =v:=by rw[List.getElem!_eq_getElem?_getD,g3];rfl
  rw[e1,e2];rfl
theorem K8(hE:Ff k mO mc){w:World}{O:Nat→Prop}{b off:Nat}{l:List α}(h:HoldsK mc k w b off l.toArray):Vr w O b off k (l.map mO):=by
  have key:∀(r pre:List α),l=pre++r→Vr w O b (off+pre.length*k) k (r.map mO):=by
    intro r;induction r with
    |nil=>intro _ _;simp[Vr]
    |cons x r ih=>
      intro pre hp;simp only[List.map_cons,Vr];have hi:pre.length<l.toArray.size:=by subst hp;simp
      refine⟨⟨hE.IG x,?_⟩,?_⟩
      · have hx:(l.toArray)[pre.length]! =x:=by subst hp;simp
        have cell:∀c,c<k→w.cell? ⟨b,off+pre.length*k+c,none⟩=some (mc x)[c]!:=fun c hc=>by
          have:=(h.cell hi hc).1;rwa[hx]at this
        have gen:∀(ds:List D)(us:List Value)(n:Nat),Vs w O di ds us→(∀u∈us,u.oneCell'=true)→(∀j u,us[j]?=some u→w.cell? ⟨b,n+j,none⟩=some u)→Vc w O b n ds:=by
          intro ds;induction ds with
          |nil=>intro us n _ _ _;simp[Vc]
          |cons d ds ih2=>
            intro us n h1 h2 h3;simp only[Vs]at h1;obtain⟨u,w6,rfl,h4,h5⟩:=h1;simp only[Vc];refine⟨⟨u,⟨by simpa using h3 0 u rfl,h2 u zS⟩,h4⟩,ih2 w6 (n+1) h5 (fun v hv=>h2 v (by simp[hv])) (fun j v hj=>?_)⟩;have:=h3 (j+1) v (by simpa using hj);rwa[show n+(j+1)=n+1+j by omega]at this
        refine gen _ (mc x) _ (hE.back x w O di) (hE.one x) (fun j u hj=>?_);have hjk:j<k:=by rw[←hE.len x];exact(List.getElem?_eq_some_iff.1 hj).1
        rw[cell j hjk,List.getElem!_eq_getElem?_getD,hj];rfl
      · have:=ih (pre++[x]) (by simp[hp])
        simp only[List.length_append,List.length_singleton,Nat.add_mul,Nat.one_mul]at this;rwa[Nat.add_assoc]
  simpa using key l [] rfl
end
variable[bV]
variable{α:Type} [Inhabited α] {P:Program} {k:Nat} {mO:α→List D} {mc:α→List Value}
theorem oG{id:Nat}{x o:Ob}{i:Nat}(h:ae.get [(id,x)] i=some o):i=id∧o=x:=by
 rw[ae.aZ]at h;split at h
 ·rename_i e;cases h;exact⟨e.symm,rfl⟩
 ·simp[ae.get]at h
theorem G_{id:Nat}{x y:Ob}{i:Nat}(h:ae.get [(id,x)] i=none):ae.get [(id,y)] i=none:=by
 rw[ae.aZ]at h⊢;split at h
 ·cases h
 ·rename_i e;rw[if_neg e];rfl
end Go.T
namespace Go.T
open Go
open Go.ChangeMaps (setBlock)
variable[bV]
variable{κ β:Type} [DecidableEq κ]
@[reducible] def tW(kD:κ→D)(vD:β→D)(m:List (κ×β)):D:=.m_ (m.map fun p=>kD p.1) (m.map fun p=>vD p.2)
section
variable{P:Program} {kt:TypeId} {kD:κ→D} {kV:κ→Value} {gi:κ→Prop} {vD:β→D}
theorem CU(hK:jI P kt kD kV gi){w:World}{O:Nat→Prop}{b:Nat}{m:List (κ×β)}(h:uY w O b (m.map fun p=>kD p.1) (m.map fun p=>vD p.2)):
  ∃es,w.heap[b]?=some (.map es m.length)∧rA w O di kV vD es m∧∀k∈m.map (·.1),gi k:=by
 obtain⟨es,h1,⟨h2,h3,h4⟩,h5,h6⟩:=h;have hl:=h5.length;simp only[List.length_map,Array.length_toList]at hl h2;have key:∀(i:Nat)(k:κ)(v:β),m[i]?=some (k,v)→∃e:MapEntry,es[i]?=some e∧e.born=i∧e.key=kV k∧V w O di (vD v) e.val∧gi k:=by
  intro i k v hi;have bw:i<es.size:=by rw[hl];exact(List.getElem?_eq_some_iff.1 hi).1
  obtain⟨u,g1,g2⟩:=h5.get i (kD k) (by simp[hi]);obtain⟨u',g3,g4⟩:=h6.get i (vD v) (by simp[hi]);have he:es[i]?=some es[i]:=by simp[bw]
  simp only[List.getElem?_map,Array.getElem?_toList,he,Option.map_some,Option.some.injEq]at g1 g3;subst g1;subst g3;have:=hK.val g2;exact⟨es[i],he,h4 i _ he,this.1,g4,this.2⟩
 refine⟨es,h2,⟨hl,fun i k v hi=>?_⟩,fun k hk=>?_⟩
 ·obtain⟨e,g1,g2,g3,g4,_⟩:=key i k v hi;exact⟨e,g1,g2,g3,g4⟩
 ·obtain⟨p,hp,rfl⟩:=List.mem_map.1 hk;obtain⟨i,hi⟩:=List.getElem?_of_mem hp;obtain⟨_,_,_,_,_,g5⟩:=key i p.1 p.2 hi;exact g5
theorem Le.C7{F:Fr}{env:Env}{U:ae}{m:List (κ×β)}(t id:Nat)(ht:env.get t=some (.bu id))(ho:U.get id=some (.mp (aS kD vD m)))(hk:∀k,(kD k).bG=true)(r4:∀v,(vD v).bG=true):
  Le F env U ((t,tW kD vD m)::env) (U.set id .dead):=.step fun O ρ w f aj hv=>by
 have bb:=Tr.die id aj;refine⟨ρ,bb,fun s d h=>?_⟩;rw[Env.aZ]at h;by_cases e:t=s
 ·rw[if_pos e]at h;cases h;subst e;have r6:=hv t _ ht;simp only[V]at r6;obtain⟨l,e1,e⟩:=r6;obtain⟨l',h3,h4,es,h5,h6,h7⟩:=aj.own id _ ho rfl;rw[e1]at h3;cases h3;have iW:=bb.kept;refine Cj.2 ⟨l.b,e,es,⟨(Array.getElem?_eq_some_iff.1 h5).1,?_⟩,⟨by simpa[aS]using h5,by simp,fun i x hx=>?_⟩,?_,?_⟩
  ·rintro(hb|⟨i,x,l',g1,g2,g3,g4⟩)
   ·exact h4 hb
   ·have hx:=qo i x g1 g2;have:=aj.inj i id x _ l' l hx ho g2 rfl g3 e1 g4;subst this;rw[ae.dU]at g1;simp only[if_true,Option.some.injEq]at g1;subst g1;simp[Ob.live]at g2
  ·have hi:i<m.length:=by
    have:=(Array.getElem?_eq_some_iff.1 hx).1;rw[h6]at this;simpa[aS]using this
   obtain⟨x',g1,g2,_⟩:=h7 i (kD m[i].1) (vD m[i].2) (by simp[aS,hi]);rw[hx]at g1;cases g1;exact g2
  ·refine Vs.Jp (by simpa[aS]using h6) fun i d v hd qL=>?_;simp only[List.getElem?_map,Option.map_eq_some_iff]at hd;obtain⟨p,hp,rfl⟩:=hd;obtain⟨x',g1,_,g3,_⟩:=h7 i (kD p.1) (vD p.2) (by simp[aS,hp]);simp only[List.getElem?_map,Array.getElem?_toList,g1,Option.map_some,Option.some.injEq]at qL;subst qL;exact V.mono iW (bA.refl _) _ _ (V.pure _ _ (hk _) g3)
  ·refine Vs.Jp (by simpa[aS]using h6) fun i d v hd qL=>?_;simp only[List.getElem?_map,Option.map_eq_some_iff]at hd;obtain⟨p,hp,rfl⟩:=hd;obtain⟨x',g1,_,_,g4⟩:=h7 i (kD p.1) (vD p.2) (by simp[aS,hp]);simp only[List.getElem?_map,Array.getElem?_toList,g1,Option.map_some,Option.some.injEq]at qL;subst qL;exact V.mono iW (bA.refl _) _ _ (V.pure _ _ (r4 _) g4)
 ·rw[if_neg e]at h;exact bb.V (hv s d h)
variable{env:Env} {dst:Option Tmp} {ty:TypeId} {pos:String} {ar:Array Edge} {g:Option (Nat×Bool)}
theorem ahX(hK:jI P kt kD kV gi){t et:TypeId}{x y:Operand}{m:List (κ×β)}{k:κ}{d:β}{kd md:D}{U:ae}{zv:Value}(hu:P.underlying t=some (.map kt et))(hz:∀w,(zeroValue et).run P w=.ok zv w)(r9:∀(w:World) O ρ,V w O ρ (vD d) zv)
  (hx:env.op x=some md)(H3:md=tW kD vD m)(hy:env.op y=some kd)(pE:kd=kD k):
  aq P ⟨dst,.lookup t x y false,ty,pos,ar,g⟩ env U (vD (cN d m k)) U:=
 .val fun O ρ a w aj hv=>by
  subst pE;subst H3;obtain⟨b,e1,pD⟩:=Cj.1 (hv x (by simp[Op.operands]) _ hx);have dB:=hK.val (hv y (by simp[Op.operands]) _ hy);obtain⟨es,h4,h5,h6⟩:=CU hK pD;have pC:=fun b=>hK.check b k w dB.2;have iH:=hK.find k es.toList (m.map (·.1)) w h5.keys h6 dB.2;rcases zY d k m 0 with⟨g1,g2,g3,_⟩|⟨j,gj,g1,g2,g3,_⟩
  ·refine⟨zv,?_,by rw[g3];exact r9 _ _ _⟩;rw[g1]at iH;simp[execOp,e1,dB.1,Instr.lookup,bY hu,MapKept.run_getObj_map h4,pC,iH,hz]
  ·obtain⟨e,k1,k2,k3,k4⟩:=h5.at_ j k _ g2;refine⟨e.val,?_,V.mono (Kept.refl _ _) (y7 ρ) _ _ k4⟩;rw[g1]at iH;simp only[Option.map_some,Nat.zero_add,Array.getElem?_toList,k1,Option.getD_some]at iH;simp[execOp,e1,dB.1,Instr.lookup,bY hu,MapKept.run_getObj_map h4,pC,iH]
theorem ah8{t P9 et:TypeId}{x:Operand}{ks vs:List D}{U:ae}(eh:Nat)(hu:P.underlying t=some (.map P9 et))(hx:env.op x=some (.m_ ks vs))(hid:U.get eh=none):
  aq P ⟨dst,.range t x,ty,pos,ar,g⟩ env U (.box eh 0) ((eh,.mj ks vs [])::U):=
 .step fun O ρ a w aj hv=>by
  obtain⟨b,e1,pD⟩:=Cj.1 (hv x (by simp[Op.operands]) _ hx);obtain⟨es,h1,⟨h2,_,_⟩,_⟩:=id pD;have hr:=run_range_map (P:=P) w t P9 et b es ks.length hu h2;refine⟨.pointer (some ⟨w.heap.size,0,none⟩),_,T.cg ρ eh ⟨w.heap.size,0,0⟩,.inl ?_,Tr.born aj hid (.mapIter (some b) ks.length #[] ks.length) rfl (fun i x h _=>h) (fun i h=>h) ?_,?_⟩
  ·simp only[execOp,e1];rw[Sem.run_bind,hr];rfl
  ·intro hk;exact⟨b,pD.mono hk,by simp⟩
  ·simp only[V];exact⟨⟨w.heap.size,0,0⟩,by simp[T.cg],rfl⟩
@[reducible] def sA(U:ae)(eh:Nat)(ks vs:List D)(seen:List Nat):Option (Nat×κ×β)→ae
 |none=>U
 |some (j,_,_)=>U.set eh (.mj ks vs (seen++[j]))
theorem ah4(hK:jI P kt kD kV gi){x:Operand}{eh:Nat}{m:List (κ×β)}{seen:List Nat}{U:ae}(hx:env.op x=some (.box eh 0))(hi:U.get eh=some (.mj (m.map fun p=>kD p.1) (m.map fun p=>vD p.2) seen)):
  rF P ⟨dst,.next x false,ty,pos,ar,g⟩ env U (Ry m seen) (q9 kD vD) (sA U eh (m.map fun p=>kD p.1) (m.map fun p=>vD p.2) seen):=by
 intro O ρ a w aj cQ hv;have cc:=hv x (by simp[Op.operands]) _ hx;simp only[V]at cc;obtain⟨r,pG,e1⟩:=cc;obtain⟨r',mX,_,b,pD,hit⟩:=aj.own eh _ hi rfl;rw[pG]at mX;cases mX;obtain⟨es,h4,h5,h6⟩:=CU hK pD;simp only[List.length_map]at hit;have xZ:∀x∈es.toList,x.born<m.length:=fun x hx=>by
  obtain⟨_,_,q,_⟩:=h5.mem hx;exact(List.getElem?_eq_some_iff.1 q).1
 unfold Oper.wp;have tP:(execOp a.eval ⟨dst,.next x false,ty,pos,ar,g⟩).run P w=((Instr.next (.pointer (some ⟨r.b,0,none⟩)) false ty).bind fun v=>Sem.pure (Next.value v)).run P w:=by
  simp only[execOp,e1];rfl
 rw[tP];rcases run_next_at (P:=P) w ty r.b b m.length m.length seen.toArray es m.length hit h4 xZ (Nat.le_refl _)with⟨hz,e_⟩|⟨e,he,w1,r7,e_⟩
 ·have:((Instr.next (.pointer (some ⟨r.b,0,none⟩)) false ty).bind fun v=>Sem.pure (Next.value v)).run P w=.ok (.value (.tuple #[.bool false])) w:=by
   show(Sem.bind _ _).run P w=_;rw[Sem.run_bind',e_];rfl
  rw[this];refine⟨none,ρ,_,?_,rfl,Tr.refl aj,by simp[V,Vs,D.b]⟩;intro j hj;have qN:leftOf es seen.toArray=#[]:=Array.eq_empty_of_size_eq_zero hz;obtain⟨e,g1,g2,_⟩:=h5.at_ j (m[j]).1 (m[j]).2 (by simp[hj]);unfold leftOf at qN;rw[Array.filter_eq_empty_iff]at qN;have oO:e∈es:=Array.mem_of_getElem? g1;have:=qN e oO;simp at this;rw[g2]at this;exact this
 ·have Al:e∈es.toList∧e.born∉seen:=by
   unfold leftOf at he;simp at he;exact⟨by simpa using he.1,by simpa using he.2⟩
  obtain⟨k,v,g1,g2,g3,g4⟩:=h5.mem Al.1;have:((Instr.next (.pointer (some ⟨r.b,0,none⟩)) false ty).bind fun v=>Sem.pure (Next.value v)).run P w=.ok (.value (.tuple #[.bool true,e.key,e.val])) (setBlock w1 r.b (.mapIter (some b) m.length (seen.toArray.push e.born) m.length)):=by
   show(Sem.bind _ _).run P w=_;rw[Sem.run_bind',e_];rfl
  rw[this];have nQ:Tr O w ρ U w1 ρ U:=by
   rcases r7 with rfl|rfl
   ·exact Tr.refl aj
   ·exact Tr.drawn aj _ (by first|exact Nat.le_succ _|omega)
  have HQ:w1.heap[r.b]?=some (.mapIter (some b) m.length seen.toArray m.length):=by rcases r7 with rfl|rfl<;>exact hit
  have jU:=Tr.cg (o':=.mj (m.map fun p=>kD p.1) (m.map fun p=>vD p.2) (seen++[e.born])) nQ.ok hi rfl pG (.mapIter (some b) m.length (seen.toArray.push e.born) m.length) (fun qB=>⟨b,(pD.mono nQ.kept).mono qB,by simp[(Array.getElem?_eq_some_iff.1 HQ).1]⟩);refine⟨some (e.born,k,v),ρ,_,⟨g1,Al.2⟩,rfl,nQ.trans jU,?_⟩;simp only[V,Vs,D.b];refine⟨_,rfl,_,_,rfl,rfl,_,_,rfl,?_,_,_,rfl,(nQ.trans jU).V (V.mono (Kept.refl _ _) (y7 ρ) _ _ g4),rfl⟩;rw[g3];exact hK.back (h6 k (List.mem_map.2 ⟨(k,v),List.mem_of_getElem? g1,rfl⟩))
theorem ahN(hK:jI P kt kD kV gi){x:Operand}{eh j:Nat}{k:κ}{v:β}{m:List (κ×β)}{seen:List Nat}{U:ae}(hx:env.op x=some (.box eh 0))(hi:U.get eh=some (.mj (m.map fun p=>kD p.1) (m.map fun p=>vD p.2) (seen++[j])))(hj:m[j]?=some (k,v)):
  aq P ⟨dst,.entry x,ty,pos,ar,g⟩ env U (.bf [kD k,vD v]) U:=
 .val fun O ρ a w aj hv=>by
  have cc:=hv x (by simp[Op.operands]) _ hx;simp only[V]at cc;obtain⟨r,pG,e1⟩:=cc;obtain⟨r',mX,_,b,pD,hit⟩:=aj.own eh _ hi rfl;rw[pG]at mX;cases mX;obtain⟨es,h4,h5,h6⟩:=CU hK pD;obtain⟨e,g1,g2,g3,g4⟩:=h5.at_ j k v hj;have Ap:w.heap[r.b]?=some (.mapIter (some b) m.length (seen.toArray.push e.born) m.length):=by rw[hit,g2];simp
  have ef:(es.toList.map (·.born)).Nodup:=by rw[h5.Lz];exact List.nodup_range
  have e_:=run_entry_at (P:=P) w r.b b m.length seen.toArray es m.length e Ap h4 (by simpa using Array.mem_of_getElem? g1) ef;refine⟨.tuple #[e.key,e.val],?_,?_⟩
  ·simp only[execOp,e1];rw[Sem.run_bind,e_];rfl
  ·simp only[V,Vs];refine⟨_,rfl,_,_,rfl,?_,_,_,rfl,V.mono (Kept.refl _ _) (y7 ρ) _ _ g4,rfl⟩;rw[g3];exact hK.back (h6 k (List.mem_map.2 ⟨(k,v),List.mem_of_getElem? hj,rfl⟩))
end
structure xa{ι:Type}(P:Program)(f:FuncId)(args:List D)(A:ι→Prop)(r:ι→D):Prop where
 out:∀w O ρ vals,(∀b,O b→b<w.heap.size)→Gl w O→Vs w O ρ args vals→Calls P f vals.toArray w (fun e w'=>∃i v,A i∧e=.returned v∧V w' O ρ (r i) v∧ff w w')
def aiz{ι:Type}(ts:List Nat)(A:ι→Prop)(r:ι→D):Exit→Env→ae→Prop
 |.ret,env,_|.normal,env,_=>∃i ds,A i∧getAll env ts=some ds∧Sub (qX ds) (r i)
 |_,_,_=>False
theorem xa.mk'{ι:Type}{P:Program}{f:FuncId}{fn:Func}{c:Code}{args:List D}{A:ι→Prop}{r:ι→D}(ts:List Nat)(hf:P.funcs[f]?=some fn)(hb:fn.body=some c){N:Nat}(hN:fn.ntmps=N)(hn:Nat.ble args.length N=true)(hp:D.bG.eG args=true)(hr:∀i,(r i).bG=true)
  (pH:∀tmps w,(results fn tmps).run P w=.ok (BH ts tmps) w)(h:J P ⟨N,[],false,none⟩ [c] (aiz ts A r) (pt args 0) []):xa P f args A r:=⟨fun w O ρ vals hO cQ r4=>by
 have ca:∀b,¬bQ di [] b:=fun b ⟨i,o,l,h1,_⟩=>by simp[ae.get]at h1
 have aj:cF w O di []:=⟨hO,fun _ _=>rfl,fun i o h1=>by simp[ae.get]at h1,fun i j o o' l l' h1=>by simp[ae.get]at h1⟩;have hv:Vs w (Ot O di []) di args vals:=Vs.mono (Kept.eN fun b hb=>hb.elim _root_.id (fun g=>(ca b g).elim)) (bA.refl _) _ _ (Vs.pure args vals hp r4);refine zu hf hb h.start (St.begin fn.ntmps hN (Nat.le_of_ble_eq_true hn) aj (cQ.mono (Kept.eN fun b hb=>hb.elim _root_.id (fun g=>(ca b g).elim))) hv [] none (fun _ _ e=>by cases e)) ?_ ?_
 ·intro e aQ ak hq;cases e<;>first|exact .inl rfl|exact .inr rfl|exact hq.elim
 ·intro e aQ ak tmps w' av hq _ bb tO;have:∃i ds,A i∧getAll aQ ts=some ds∧Sub (qX ds) (r i):=by cases e<;>first|exact hq|exact hq.elim
  obtain⟨i,ds,hA,h1,h2⟩:=this;refine⟨_,pH _ _,i,_,hA,rfl,?_,bb.size,fun b hb=>bb.same b hb (ca b),bb.os⟩;have qK:=h2.out _ _ _ _ (Vs.res (Dc tO ts ds h1));exact V.pure _ _ (hr i) (V.mono (O':=O) (Kept.eN fun b hb=>Or.inl hb) (bA.refl _) _ _ qK)⟩
theorem JS{ι:Type}{P:Program}{f:FuncId}{env:Env}{dst:Option Tmp}{ty:TypeId}{pos:String}{ar:Array Edge}{g:Option (Nat×Bool)}{xs:List Operand}{tys:Array TypeId}{ds:List D}{A:ι→Prop}{r:ι→D}
  (gh:∀(args:Array Value)(w:World),(callFunc f args).run P w=.ok (.enter f args) w)(hx:env.jY xs=some ds)(hf:xa P f ds A r)(U:ae):
  rF P ⟨dst,.call ⟨.value (.func f),xs.toArray,tys⟩,ty,pos,ar,g⟩ env U A r (fun _=>U):=by
 intro O ρ a w aj cQ hv;have kP:=uu xs ds hx (fun x hx d' h=>hv x (by simp[Op.operands,Call.operands,hx]) d' h);have e_:(execOp a.eval ⟨dst,.call ⟨.value (.func f),xs.toArray,tys⟩,ty,pos,ar,g⟩).run P w=.ok (.enter f (xs.map a.eval).toArray) w:=by
  have h1:execOp a.eval ⟨dst,.call ⟨.value (.func f),xs.toArray,tys⟩,ty,pos,ar,g⟩=callFunc f (xs.map a.eval).toArray:=by
   simp[execOp,resolve,Deferred.ofValue,Act.eval,invoke,Bind.bind,Sem.bind,Pure.pure]
  rw[h1,gh]
 unfold Oper.wp;rw[e_];simp only[Oper.upon];refine Calls.mono (hf.out w (Ot O ρ U) ρ _ ?_ cQ kP) ?_
 ·rintro b (hb|⟨i,o,l,h1,h2,h3,h4⟩)
  ·exact aj.lt b hb
  ·obtain⟨l',h5,_,h6⟩:=aj.own i o h1 h2;rw[h3]at h5;cases h5;exact h4▸h6.lt h2
 ·rintro e w' ⟨i,v,hA,rfl,h1,h2⟩;exact⟨i,ρ,v,hA,rfl,Tr.o_ h2 aj,h1⟩
end Go.T
namespace Go.T
open Go
variable[bV]
end Go.T
namespace Go.T
open Go
variable[bV]
variable{P:Program} {env:Env} {dst:Option Tmp} {ty:TypeId} {pos:String} {ar:Array Edge} {g:Option (Nat×Bool)}
theorem ahF{st xt e e':TypeId}{ti:TypeInfo}{z:Value}{sz bt:Nat}{x y:Operand}{fF:Bool}{rows new:List (List D)}(hu:P.underlying st=some (.slice e))(jz:P.underlying xt=some (.slice e'))(hs:∀w,(sizeOf e).run P w=.ok sz w)
  (jT:∀w,(typeInfo e).run P w=.ok ti w)(hz:∀w,(zeroValue e).run P w=.ok z w)(v_:z.cells.size=sz)(nM:ti.bytes=bt)(Af:Nat.beq bt 0=false)(hx:env.op x=some (.snap sz true rows))(hy:env.op y=some (.snap sz fF new))(aB:new≠[])
  (lD:(rows.length+new.length)*bt≤140737488355328)(U:ae):
  aq P ⟨dst,.call ⟨.builtin .append,#[x,y],#[st,xt]⟩,ty,pos,ar,g⟩ env U (.snap sz false (rows++new)) U:=
 .step fun O ρ a w aj hv=>by
  have hb:(rows.length+new.length)*ti.bytes≤140737488355328:=by rw[nM];exact lD
  have g9:ti.bytes≠0:=by
   rw[nM];intro h;subst h;simp at Af
  have cc:=hv x (by simp[Op.operands,Call.operands]) _ hx;have dB:=hv y (by simp[Op.operands,Call.operands]) _ hy;have e_:∀v w',(Builtin.append_ #[st,xt] ty #[a.eval x,a.eval y]).run P w=.ok v w'→(execOp a.eval ⟨dst,.call ⟨.builtin .append,#[x,y],#[st,xt]⟩,ty,pos,ar,g⟩).run P w=.ok (.value v) w':=by
   intro v w' h;simp[execOp,resolve,invoke,builtin,h]
  obtain⟨hlen,us,lF,mo,qG,jx,fq⟩:=wW (P:=P) dB;obtain⟨Ar,vs,OM,kP,ac6,qJ,x4⟩:=wW (P:=P) cc;have Av:new.length≠0:=fun h=>aB (List.length_eq_zero_iff.1 h);have Ah:rows.length+new.length≤aG:=by
   have:(rows.length+new.length)*1≤(rows.length+new.length)*ti.bytes:=Nat.mul_le_mul_left _ zO;unfold aG;omega
  have AK:=cc;simp only[V]at AK;obtain⟨ad,cap,e1,Hz,Ov,_⟩:=AK;have dA:=Ov trivial;rw[e1]at OM;obtain⟨nc,h1,h2⟩:=run_append_grow (T:=ty) (w:=w) hu hs jz zS jT hz (fun w' _=>hlen w') lF (vs:=vs) (fun w' hw'=>OM w' hw') zO hb g9;rw[←e1]at h2;have bw:∀b,Ot O ρ U b→b<w.heap.size:=by
   rintro b (hb|⟨i,o,l,h1,h2,h3,h4⟩)
   ·exact aj.lt b hb
   ·obtain⟨l',h5,_,h6⟩:=aj.own i o h1 h2;rw[h3]at h5;cases h5;exact h4▸h6.lt h2
  have bL:(rows++new).length=rows.length+new.length:=by rw[List.length_append]
  have rW:(vs++us).toArray=vs.toArray++us.toArray:=by simp
  have bb:Tr O w ρ U {w with drawn:=w.drawn+1,heap:=w.heap.push (.cells (vs.toArray++us.toArray++Builtin.zeroCells z.cells (nc-(rows.length+new.length))) e (0,0))} ρ U:=
   Tr.o_ ⟨by simp,fun b hb=>by simp[Array.getElem?_push,Nat.ne_of_lt hb],rfl,rfl,.inl ⟨rfl,Nat.le_succ _⟩⟩ aj
  refine⟨_,_,ρ,.inl (e_ _ _ h2),bb,?_⟩;have hg:=gw.grown (ρ:=ρ) (b:=w.heap.size) (nc:=nc) (sz:=sz) (T:=e) (ds:=rows++new) (vs:=vs++us) (zs:=Builtin.zeroCells z.cells (nc-(rows.length+new.length))) (w':={w with drawn:=w.drawn+1,heap:=w.heap.push (.cells (vs.toArray++us.toArray++Builtin.zeroCells z.cells (nc-(rows.length+new.length))) e (0,0))}) (by rw[rW];simp) (by rw[List.length_append,bL,qJ,jx,Nat.add_mul]) (by rw[KV,v_,bL]) (by rw[bL];exact h1) (by rw[bL];exact Ah)
   (fun r hr=>(List.mem_append.1 hr).elim (x4 r) (fq r)) (by rw[List.flatten_append];exact Vs.append kP mo) (fun v ij=>(List.mem_append.1 ij).elim (ac6 v) (qG v)) bb.kept
  obtain⟨c,T,q1,q2,q3,q4⟩:=hg;simp only[V];exact⟨_,_,by rw[bL],⟨by rw[bL];exact h1,by rw[bL];exact Ah⟩,by simp,fun _=>⟨w.heap.size,0,rfl,⟨by simp,fun ho=>Nat.lt_irrefl _ (bw _ ho)⟩,q4⟩⟩
theorem ahE{st xt e e':TypeId}{sz:Nat}{x y:Operand}{fF G1:Bool}{rows:List (List D)}(hu:P.underlying st=some (.slice e))(jz:P.underlying xt=some (.slice e'))(hs:∀w,(sizeOf e).run P w=.ok sz w)(hx:env.op x=some (.snap sz fF rows))(hy:env.op y=some (.snap sz G1 []))(U:ae):
  aq P ⟨dst,.call ⟨.builtin .append,#[x,y],#[st,xt]⟩,ty,pos,ar,g⟩ env U (.snap sz fF rows) U:=
 .val fun O ρ a w aj hv=>by
  have cc:=hv x (by simp[Op.operands,Call.operands]) _ hx;have dB:=hv y (by simp[Op.operands,Call.operands]) _ hy;obtain⟨hlen,us,lF,mo,qG,jx,fq⟩:=wW (P:=P) dB;have AJ:us=[]:=by have:=jx;simp at this;exact this
  subst AJ;have AK:=cc;simp only[V]at AK;obtain⟨ad,cap,e1,Hz,Ov,_⟩:=AK;have h1:=lF w rfl;refine⟨_,?_,cc⟩;have:(Builtin.append_ #[st,xt] ty #[a.eval x,a.eval y]).run P w=.ok (a.eval x) w:=by
   rw[e1];cases ad with
   |none=>simp[Builtin.append_,bY hu,hs,bY jz,hlen w,Hz]at h1⊢;simp[h1]
   |some ad=>simp[Builtin.append_,bY hu,hs,bY jz,hlen w,Hz]at h1⊢;simp[h1,storeCells]
  simp[execOp,resolve,invoke,builtin,this]
end Go.T
namespace Go.T
open Go Go.Proofs Go.Proofs.Tryz
set_option maxRecDepth 20000
theorem WC:Fc Tryz.prog 323 [aE []] (aE []):=by
 refine Fc.mk' [2] func323 rfl ntmps323 rfl rfl rfl (fun t w=>results_tmp results323 t _ w) ?_;refine J.seq (J.af [.p] ?_);refine .ag rfl rfl<|.nil ?_;refine J.seq (J.seq (J.sZ ?_));refine Tx.q rfl trivial (aX rfl _) ?_;refine Tx.n rfl trivial (SJ underlying244 rfl rfl _) (fun nb cm=>?_);dsimp only;refine Tx.nil ?_;refine J.cond rfl (fun h1=>?_) (fun h1=>?_)
 ·refine J.seq (J.af [.p] ?_);refine .ag rfl rfl<|.nil ?_;refine J.ret (?_);exact dF rfl (by exact Sub.nil _ false)
 ·refine J.skip ?_;refine J.seq (J.af [.p,.p,.p,.p] ?_);refine .P rfl (SF underlying244 sizeOf184)<|.mv rfl rfl<|.P rfl (ahE underlying244 underlying244 sizeOf184 rfl rfl)<|.ag rfl rfl<|.nil ?_;refine J.ret (?_);exact dF rfl (by exact Sub.ru _ _ _)
structure afS where
 u:Unit
theorem afR:Fc Tryz.prog 281 [aE [],aE []] (aE []):=by
 refine Fc.mk' [4] func281 rfl ntmps281 rfl rfl rfl (fun t w=>results_tmp results281 t _ w) ?_;refine go [] ?_;refine oP (ai call323 rfl WC) ?_;refine J.loop (ι:=afS) (fun sx=>[(5,aE []),(6,.raw (.int .u64 ((0:Nat):Int))),(12,.i 0),(13,.i 0),(1,aE [])]) (fun sx=>[]) (fun sx=>0) ⟨()⟩ ?_ ?_
 ·exact Le.mk rfl (.s rfl rfl (.s rfl rfl (.s rfl rfl (.s rfl rfl (.s rfl rfl .nil))))) .nil
 ·rintro⟨u⟩;show J _ _ _ _ [(5,aE []),(6,.raw (.int .u64 ((0:Nat):Int))),(12,.i 0),(13,.i 0),(1,aE [])] []
  skip
  ·skip;refine go [] ?_;refine aR zS ?_;refine go [] ?_;refine oP (ai call284 rfl (qn [])) ?_;exact ah rfl (Sub.refl _)
theorem afT(x:List Nat)(v6:x.length≤20000)(jy:aU x):Fc Tryz.prog 281 [aE x,aE []] (aE (bh (gH x [] 0))):=by
 by_cases h:x.length≠0
 ·exact D8 x [] h v6 zS jy (fun _ h=>by simp at h)
 ·obtain rfl:x=[]:=List.length_eq_zero_iff.1 zO;exact afR
theorem Vb(n1:Bool)(x:List Nat)(k1:ng n1 x)(hx:x.length≤9000):Fc Tryz.prog 237 [.agg (mb n1 x),.agg (mb true [])] (.agg (mb (gK n1 x true []).1 (gK n1 x true []).2)):=by
 refine Fc.iI func237 rfl ntmps237 rfl rfl rfl ?_;refine go [99999] ?_;refine br (fun h1=>?_) (fun h1=>?_)
 ·refine oP (ai call280 rfl (JJ x [] zO zS k1.ok (fun _ h=>by simp at h))) ?_;refine ord ?_;refine J.ret (?_);exact Rd.cA results237 isAgg246 sizeOf246 rfl rfl rfl (Sub.agg (.cons (Sub.bool (by unfold gK;(rw[if_pos zA];done))) (.cons (Sub.snap (by unfold gK;(rw[if_pos zA];done))) .nil)))
 ·refine oP (ai call240 rfl (xm x [] zO zS)) ?_;refine aR (by simpa using Cy x) ?_;refine oP (ai call281 rfl (afT x zO k1.ok)) ?_;refine ord ?_;refine J.ret (?_);exact Rd.cA results237 isAgg246 sizeOf246 rfl rfl rfl (Sub.agg (.cons (Sub.bool (by unfold gK;(rw[if_neg (by simpa using ‹(n1==true)=false›),if_neg (Cy x)];done))) (.cons (Sub.snap (by unfold gK;(rw[if_neg (by simpa using ‹(n1==true)=false›),if_neg (Cy x)];done))) .nil)))
theorem ajK(s t:aa)(hs:s.length≤4000)(ht:t.length≤4000)(hv:val t=0):Fc Tryz.prog 308 [.str s,.str t] (.str (ofInt (val s-val t))):=by
 refine Fc.mk' [4] func308 rfl ntmps308 rfl rfl rfl (fun t w=>results_tmp results308 t _ w) ?_;have oL:=jO s;have cQ:=pA (digits s).1;have h1:=my s;have h3:=Va h1;have e0:(val t).natAbs=0:=by omega
 have e1:decide (val t<0)=false:=by simp;omega
 have Pk:=wR t zO;rw[e0,e1,oZ]at Pk;refine go [] ?_;refine oP (ai call238 rfl Pk) ?_;refine oP (ai call238 rfl (sY s zO)) ?_;refine oP (ai call237 rfl (Vb (digits s).2 (e7 (digits s).1) h1 zO)) ?_;refine oP (ai call239 rfl (zd _ _ h3.1 zO)) ?_;refine ord ?_;exact ah rfl (Sub.str (by rw[B2 _ h3.1,show val s-val t=val s by omega,←lR s,←h3.2.1];rfl))
theorem ajM(s t:aa)(hs:s.length≤4000)(ht:t.length≤4000)(hv:val t≠0):Fc Tryz.prog 308 [.str s,.str t] (.str (ofInt (val s-val t))):=by
 refine Fc.mk' [4] func308 rfl ntmps308 rfl rfl rfl (fun t w=>results_tmp results308 t _ w) ?_;have oL:=jO s;have cQ:=pA (digits s).1;have OB:=jO t;have OO:=pA (digits t).1;have h1:=my s;have h2:=agq hv;have h3:=Lf h1 h2;have h4:=Ld (digits s).2 (!(digits t).2) (e7 (digits s).1) (e7 (digits t).1);have h5:=Lg h1 h2;refine go [] ?_;refine oP (ai call238 rfl (sY t zO)) ?_;refine oP (ai call238 rfl (sY s zO)) ?_;refine oP (ai call237 rfl (Lh (digits s).2 (e7 (digits s).1) (!(digits t).2) (e7 (digits t).1) h1 h2 zO zO)) ?_;refine oP (ai call239 rfl (zd _ _ h3 zO)) ?_;refine ord ?_;exact ah rfl (Sub.str (by rw[B2 _ h3];have h6:=agr t;rw[h6,lR s]at h5;rw[show val s-val t=val s+-val t by omega,←h5];rfl))
theorem ajN(s t:aa)(hs:s.length≤4000)(ht:t.length≤4000):Fc Tryz.prog 308 [.str s,.str t] (.str (ofInt (val s-val t))):=by
 by_cases h:val t=0
 ·exact ajK s t hs ht h
 ·exact ajM s t hs ht h
theorem Et(f:aP)(hs:f.den.length≤4000):Fc Tryz.prog 222 [.agg (cG f)] (.bf [.str (bB f).1,.str (bB f).2]):=by
 refine Fc.mk' [2,3] func222 rfl ntmps222 rfl rfl rfl (fun t w=>results_tmp2 results222 t _ w) ?_;refine go [] ?_;refine oP (ai call186 rfl (zy f.den [] hs zS)) ?_;refine br (fun h1=>?_) (fun h1=>?_)
 ·exact gS rfl rfl (Sub.str (by unfold bB;rw[if_pos h1])) (Sub.str (by unfold bB;rw[if_pos h1]))
 ·refine ord ?_;exact gS rfl rfl (Sub.str (by unfold bB;rw[if_neg (by rw[h1];simp)])) (Sub.str (by unfold bB;rw[if_neg (by rw[h1];simp)]))
theorem ait(n d:aa)(hn:n.length≤3000)(hd:d.length≤3000)(h0:val d≠0):Fc Tryz.prog 271 [.str n,.str d] (.bf [.str (ofInt (gQ (val n) (val d)).1),.str (ofInt (gQ (val n) (val d)).2)]):=by
 refine Fc.mk' [4,5] func271 rfl ntmps271 rfl rfl rfl (fun t w=>results_tmp2 results271 t _ w) ?_;have hnn:=Rw n;have ef:=Rw d;have lH:=G4 (val n) h0;have oM:=abo (val (ofInt (-val n))) h0;refine go [] ?_;refine oP (ai call186 rfl (zy d [] zO zS)) ?_;refine br (fun h1=>?_) (fun h1=>?_)
 ·refine oP (ai call311 rfl (Rt _ zO)) ?_;refine oP (ai call311 rfl (Rt _ zO)) ?_;refine oP (ai call312 rfl (NQ _ _ zO zO)) ?_;refine oP (ai call313 rfl (CG _ _ zO zO (by exact NP _ h0))) ?_;refine oP (ai call313 rfl (CG _ _ zO zO (by exact NP _ h0))) ?_;exact gS rfl rfl (Sub.str (by(have h9:=S8 (n:=n) (d:=d) h1;exact h9.1))) (Sub.str (by(have h9:=S8 (n:=n) (d:=d) h1;exact h9.2)))
 ·refine oP (ai call312 rfl (NQ _ _ zO zO)) ?_;refine oP (ai call313 rfl (CG _ _ zO zO (by exact Db _ h0))) ?_;refine oP (ai call313 rfl (CG _ _ zO zO (by exact Db _ h0))) ?_;exact gS rfl rfl (Sub.str (by(have h9:=wS (n:=n) (d:=d) h1;exact h9.1))) (Sub.str (by(have h9:=wS (n:=n) (d:=d) h1;exact h9.2)))
theorem IU(n d:aa)(hn:n.length≤3000)(hd:d.length≤3000)(h0:val d≠0):Fc Tryz.prog 224 [.str n,.str d] (.agg (cG (cI (val n) (val d)))):=by
 refine Fc.iI func224 rfl ntmps224 rfl rfl rfl ?_;refine go [99999] ?_;refine oP (ai call271 rfl (ait _ _ zA zA zA)) ?_;refine br (fun h1=>?_) (fun h1=>?_)
 ·refine J.ret (?_);exact Rd.cA results224 isAgg35 sizeOf35 rfl rfl rfl (Sub.agg (.r (.cons (Sub.str (by exact QI h1)) .nil)))
 ·refine J.ret (?_);exact Rd.cA results224 isAgg35 sizeOf35 rfl rfl rfl (Sub.agg (.r (.cons (Sub.str (by exact QJ h1)) .nil)))
theorem NG(f:aP)(hs:lk f):Fc Tryz.prog 177 [.agg (cG f)] (.i (jM f)):=by
 refine Fc.mk' [2] func177 rfl ntmps177 rfl rfl rfl (fun t w=>results_tmp results177 t _ w) ?_;have hp:=Ky (f:=f) (g:=f) ⟨hs.1,hs.2⟩ ⟨hs.1,hs.2⟩ zD;refine go [] ?_;refine oP (ai call222 rfl (Et f (Nat.le_trans hs.2 zD))) ?_;refine oP (ai call224 rfl (IU _ _ zO zO (yQ f))) ?_;refine oP (sX (xs:=[f.num,f.den]) (ys:=[(cI (val (bB f).1) (val (bB f).2)).num,(cI (val (bB f).1) (val (bB f).2)).den]) underlying35 (by kernel_rfl) (by kernel_rfl) (.cons zK underlying33 isAgg33 rfl (.cons zK underlying33 isAgg33 rfl (.nil _))) rfl rfl rfl rfl rfl rfl) ?_;refine ord ?_;refine br (fun h1=>?_) (fun h1=>?_)
 ·exact ah rfl (Sub.int (by unfold jM;rw[if_neg (LP h1)]))
 ·exact ah rfl (Sub.int (by unfold jM;rw[if_pos (LO h1)]))
theorem aa8(a:aa)(hs:a.length≤3000):Fc Tryz.prog 179 [.str a] (.agg (cG (cI (val a) (val [49])))):=by
 refine Fc.iI func179 rfl ntmps179 rfl rfl rfl ?_;refine go [99999] ?_;refine oP (ai call224 rfl (IU a [49] hs zS zD)) ?_;refine J.ret (?_);exact Rd.cA results179 isAgg35 sizeOf35 rfl rfl rfl (Sub.agg (.r (.r .nil)))
structure adU(s:aa)where
 pre:List UInt8
 rest:List UInt8
 hx:s=pre++rest
 hp:pre.all (fun c=>65≤c.toNat&&c.toNat≤90)=true
 h3:s.length=3
theorem PQ(s:aa):Fc Tryz.prog 171 [.str s] (.b (gA s)):=by
 refine Fc.mk' [2] func171 rfl ntmps171 rfl rfl rfl (fun t w=>results_tmp results171 t _ w) ?_;refine J.l7 0 rfl (fun hb=>?_);simp only[aG]at hb;refine go [] ?_;refine br (fun h1=>?_) (fun h1=>?_)
 ·exact ah rfl (Sub.bool (by grind[gA]))
 ·refine oP (SG (u:=.string) underlying9 underlying152 underlying5 rfl) ?_;refine J.loop (ι:=adU s) (fun sx=>[(9,.snap 1 false (s.map fun c=>[.raw (.int .u8 (UInt8.toNat c:Int))])),(10,.i s.length),(11,.i sx.pre.length)]) (fun sx=>[]) (fun sx=>sx.rest.length) ⟨[],s,rfl,rfl,by simp at h1;omega⟩ ?_ ?_
  ·exact Le.mk rfl (.s rfl rfl (.cons rfl (Sub.int zS) rfl (.s rfl rfl .nil))) .nil
  ·rintro⟨pre,rest,hx,hp,h3⟩;show J _ _ _ _ [(9,.snap 1 false (s.map fun c=>[.raw (.int .u8 (UInt8.toNat c:Int))])),(10,.i s.length),(11,.i pre.length)] [];have hl:=congrArg List.length hx;simp only[List.length_append]at hl;rcases rest with _|⟨x,rest⟩
   ·skip;refine go [] ?_;refine aR (by simp at hl⊢;omega) ?_;refine go [] ?_;exact ah rfl (Sub.bool (by grind[gA]))
   ·simp only[List.length_cons]at hl;refine go [] ?_;refine a_ zQ ?_;refine ix zO (bn (fun c=>[D.raw (.int .u8 (UInt8.toNat c:Int))]) hx rfl) ?_;refine br (fun h2=>?_) (fun h2=>?_)
    ·exact ah rfl (Sub.bool (by grind[gA]))
    ·refine sd (az zO) ?_;exact nx ⟨pre++[x],rest,by simp[hx],by grind,h3⟩ zS (Le.mk rfl (.s rfl rfl (.s rfl rfl (.cons rfl (Sub.int zS) rfl .nil))) .nil)
theorem s5(f:aP)(hs:f.num.length≤60):Fc Tryz.prog 267 [.agg (cG f)] (.i (sg f)):=by
 refine Fc.mk' [2] func267 rfl ntmps267 rfl rfl rfl (fun t w=>results_tmp results267 t _ w) ?_;refine go [] ?_;refine oP (ai call186 rfl (zy f.num [] zO zS)) ?_;exact ah rfl (Sub.refl _)
theorem ahv(i:bJ)(hs:pj i):Fc Tryz.prog 218 [.agg (iD i)] (.i (Su i)):=by
 refine Fc.mk' [2] func218 rfl ntmps218 rfl rfl rfl (fun t w=>results_tmp results218 t _ w) ?_;refine go [] ?_;refine oP (ai call267 rfl (s5 i.j7 hs.1.1)) ?_;refine gP (fun hg=>ai call267 rfl (s5 i.j6 hs.2.1.1)) ?_;refine gP (fun hg=>ai call267 rfl (s5 i.kp hs.2.2.1)) ?_;refine br (fun h1=>?_) (fun h1=>?_)
 ·exact ah rfl (Sub.int (by exact iY h1))
 ·exact ah rfl (Sub.int (by exact cT h1 rfl))
structure adx(l:List Int)(n:Int)where
 pre:List Int
 rest:List Int
 hx:l=pre++rest
 hp:pre.any (fun m=>decide (n=m))=false
theorem adw(l:List Int)(n:Int):Fc Tryz.prog 304 [gU l,.i n] (.i (ja (fun m=>decide (n=m)) l)):=by
 refine Fc.mk' [4] func304 rfl ntmps304 rfl rfl rfl (fun t w=>results_tmp results304 t _ w) ?_;refine J.ej 0 rfl (fun hb=>?_);simp only[List.length_map,aG]at hb;refine go [] ?_;refine J.loop (ι:=adx l n) (fun sx=>[(0,gU l),(1,.i n),(6,gU l),(7,.i l.length),(8,.i sx.pre.length)]) (fun sx=>[]) (fun sx=>sx.rest.length) ⟨[],l,rfl,rfl⟩ ?_ ?_
 ·exact Le.mk rfl (.s rfl rfl (.s rfl rfl (.s rfl rfl (.cons rfl (Sub.int zS) rfl (.s rfl rfl .nil))))) .nil
 ·rintro⟨pre,rest,hx,hp⟩;show J _ _ _ _ [(0,gU l),(1,.i n),(6,gU l),(7,.i l.length),(8,.i pre.length)] [];have hl:=congrArg List.length hx;simp only[List.length_append]at hl;rcases rest with _|⟨x,rest⟩
  ·skip;refine go [] ?_;refine aR (by simp at hl⊢;omega) ?_;refine go [] ?_;exact ah rfl (Sub.int (by exact vy hx hp))
  ·simp only[List.length_cons]at hl;refine go [] ?_;refine a_ zQ ?_;refine ix zO (bn (fun n=>[D.i n]) hx rfl) ?_;refine br (fun h1=>?_) (fun h1=>?_)
   ·exact ah rfl (Sub.int (by exact tG hx hp h1))
   ·refine sd (az zO) ?_;exact nx ⟨pre++[x],rest,by simp[hx],ku hp h1⟩ zS (Le.mk rfl (.s rfl rfl (.s rfl rfl (.s rfl rfl (.s rfl rfl (.cons rfl (Sub.int zS) rfl .nil))))) .nil)
theorem acn(l:List Int)(n:Int):Fc Tryz.prog 268 [gU l,.i n] (.b (l.any (fun m=>decide (n=m)))):=by
 refine Fc.mk' [4] func268 rfl ntmps268 rfl rfl rfl (fun t w=>results_tmp results268 t _ w) ?_;refine go [] ?_;refine oP (ai call304 rfl (adw _ _)) ?_;exact ah rfl (Sub.bool (by exact vx _ l))
theorem VN(i:bJ)(hs:pj i):Fc Tryz.prog 219 [.agg (iD i)] (.i (Ly i)):=by
 refine Fc.mk' [2] func219 rfl ntmps219 rfl rfl rfl (fun t w=>results_tmp results219 t _ w) ?_;refine go [2] ?_;refine J.bP (Le.gg 1 0 rfl rfl rfl rfl) ?_;refine J.bP (Le.gg 3 1 rfl rfl rfl rfl) ?_;refine go [] ?_;refine oP (ai call267 rfl (s5 i.j7 hs.1.1)) ?_;refine gP (fun hg=>ai call267 rfl (s5 i.j6 hs.2.1.1)) ?_;refine gP (fun hg=>ah' (rows:=[[D.i 1],[D.i 2],[D.i 3],[D.i 4],[D.i 6],[D.i 12]]) underlying274 sizeOf3 rfl zD zD rfl rfl rfl zD) ?_;refine gP (fun hg=>ai call268 rfl (acn [1,2,3,4,6,12] i.A_).sub) ?_;refine ord ?_;refine br (fun h1=>?_) (fun h1=>?_)
 ·exact ah rfl (Sub.int (by exact iY h1))
 ·refine gP (fun hg=>ai call267 rfl (s5 i.kp hs.2.2.1)) ?_;refine br (fun h2=>?_) (fun h2=>?_)
  ·exact ah rfl (Sub.int (by exact cT h1 (iY h2)))
  ·refine go [2] ?_;exact ah rfl (Sub.int (by exact cT h1 (cT h2 rfl)))
theorem abc(i:bJ)(hs:pj i):Fc Tryz.prog 220 [.agg (iD i)] (.i (NN i)):=by
 refine Fc.mk' [2] func220 rfl ntmps220 rfl rfl rfl (fun t w=>results_tmp results220 t _ w) ?_;refine go [] ?_;refine oP (ai call171 rfl (PQ _)) ?_;refine br (fun h1=>?_) (fun h1=>?_)
 ·exact ah rfl (Sub.int (by exact iY h1))
 ·refine oP (ai call267 rfl (s5 i.kp hs.2.2.1)) ?_;refine br (fun h2=>?_) (fun h2=>?_)
  ·exact ah rfl (Sub.int (by exact cT h1 (iY h2)))
  ·refine oP (ai call267 rfl (s5 i.j7 hs.1.1)) ?_;refine gP (fun hg=>ai call267 rfl (s5 i.j6 hs.2.1.1)) ?_;refine br (fun h3=>?_) (fun h3=>?_)
   ·exact ah rfl (Sub.int (by exact cT h1 (cT h2 (iY h3))))
   ·exact ah rfl (Sub.int (by exact cT h1 (cT h2 (cT h3 rfl))))
theorem Mq(a:aa):Fc Tryz.prog 221 [.str a] (.i (i_ a)):=by
 refine Fc.mk' [2] func221 rfl ntmps221 rfl rfl rfl (fun t w=>results_tmp results221 t _ w) ?_;refine J.l7 0 rfl (fun hb=>?_);simp only[aG]at hb;refine go [] ?_;refine DS (fun hg=>And.intro zD (acG (by simpa[lW]using hg))) ?_;refine br (fun h1=>?_) (fun h1=>?_)
 ·refine sd (az zO) ?_;exact ah rfl (Sub.int (by unfold i_;rw[if_pos h1]))
 ·exact ah rfl (Sub.int (by unfold i_;rw[if_neg (by rw[h1];simp)]))
theorem agp(f:aP)(hs:lk f):Fc Tryz.prog 174 [.agg (cG f)] (.i (lO f)):=by
 refine Fc.mk' [2] func174 rfl ntmps174 rfl rfl rfl (fun t w=>results_tmp results174 t _ w) ?_;refine go [] ?_;refine oP (ai call177 rfl (NG _ zA)) ?_;refine br (fun h1=>?_) (fun h1=>?_)
 ·exact ah rfl (Sub.int (by exact iY h1))
 ·refine oP (ai call221 rfl (Mq _)) ?_;refine oP (ai call221 rfl (Mq _)) ?_;refine ord ?_;refine br (fun h2=>?_) (fun h2=>?_)
  ·exact ah rfl (Sub.int (by exact cT h1 (iY h2)))
  ·exact ah rfl (Sub.int (by exact cT h1 (cT h2 rfl)))
theorem adZ(x:bJ)(id:aa):Fc Tryz.prog 167 [.agg (iD x),.aY [.str id]] (.b (decide (x.id=id))):=by
 refine Fc.mk' [3] func167 rfl ntmps167 rfl rfl rfl (fun t w=>results_tmp results167 t _ w) ?_;refine go [] ?_;exact ah rfl (Sub.refl _)
structure adv(l:List bJ)(P:bJ→Bool)where
 pre:List bJ
 rest:List bJ
 hx:l=pre++rest
 hp:pre.any P=false
theorem adu(l:List bJ)(f:FuncId)(b8:List D)(dA:D.bG.eG b8=true)(P:bJ→Bool)(gh:∀(args:Array Value)(w:World),(callFunc f args).run Tryz.prog w=.ok (.enter f args) w)(hP:∀x∈l,Fc Tryz.prog f (.agg (iD x)::b8) (.b (P x))):Fc Tryz.prog 166 [j0 l,.fn (.func f) [] b8] (.i (ja P l)):=by
 refine Fc.mk' [4] func166 rfl ntmps166 rfl (by simp[D.bG,D.bG.eG,dA]) rfl (fun t w=>results_tmp results166 t _ w) ?_;refine J.ej 0 rfl (fun hb=>?_);simp only[List.length_map,aG]at hb;refine go [] ?_;refine J.loop (ι:=adv l P) (fun sx=>[(0,j0 l),(1,.fn (.func f) [] b8),(6,j0 l),(7,.i l.length),(8,.i sx.pre.length)]) (fun sx=>[]) (fun sx=>sx.rest.length) ⟨[],l,rfl,rfl⟩ ?_ ?_
 ·exact Le.mk rfl (.s rfl rfl (.cons rfl (Sub.refl _) (rf dA) (.s rfl rfl (.cons rfl (Sub.int zS) rfl (.s rfl rfl .nil))))) .nil
 ·rintro⟨pre,rest,hx,hp⟩;show J _ _ _ _ [(0,j0 l),(1,.fn (.func f) [] b8),(6,j0 l),(7,.i l.length),(8,.i pre.length)] [];have hl:=congrArg List.length hx;simp only[List.length_append]at hl;rcases rest with _|⟨x,rest⟩
  ·skip;refine go [] ?_;refine aR (by simp at hl⊢;omega) ?_;refine go [] ?_;exact ah rfl (Sub.int (by exact vy hx hp))
  ·simp only[List.length_cons]at hl;refine go [] ?_;refine a_ zQ ?_;refine ix zO (bn iD hx rfl) ?_;refine oP (dX gh rfl rfl (hP x (by rw[hx];simp))) ?_;refine br (fun h1=>?_) (fun h1=>?_)
   ·exact ah rfl (Sub.int (by exact tG hx hp h1))
   ·refine sd (az zO) ?_;exact nx ⟨pre++[x],rest,by simp[hx],ku hp h1⟩ zS (Le.mk rfl (.s rfl rfl (.cons rfl (Sub.refl _) (rf dA) (.s rfl rfl (.s rfl rfl (.cons rfl (Sub.int zS) rfl .nil))))) .nil)
theorem aa3(l:List bJ)(id:aa):Fc Tryz.prog 111 [j0 l,.str id] (.bf [.i (max (ja (fun x=>decide (x.id=id)) l) 0),.b (l.any (fun x=>decide (x.id=id)))]):=by
 refine Fc.mk' [4,5] func111 rfl ntmps111 rfl rfl rfl (fun t w=>results_tmp2 results111 t _ w) ?_;refine go [1] ?_;refine J.bP (Le.gg 3 0 rfl rfl rfl rfl) ?_;refine go [] ?_;refine oP (ai call166 rfl (adu l _ [.aY [.str id]] rfl (fun x=>decide (x.id=id)) call167 (fun x _=>adZ x id))) ?_;exact gS rfl rfl (Sub.refl _) (Sub.bool (by exact vx _ l))
end Go.T
namespace Go.T
open Go
theorem QX{α:Type}{a b c x:α}{pre rest:List α}(hx:[a,b,c]=pre++x::rest):x=a∨x=b∨x=c:=by
 have:x∈[a,b,c]:=by rw[hx];simp
 simpa using this
def zN(k:Int):Bool:=decide (k=2)||decide (k=5)
def BM(k:Int)(i:bJ):Int:=if k=2 then Ly i else if k=5 then NN i else Su i
def afC(i:bJ):Bool:=decide (i.A7≠0)&&(!KJ i.A7||decide (i.A7≤i.DQ))||decide (i.A7=0)&&zN i.kind
def n0(d:Int):List aP→Int
 |[]=>d
 |f::r=>if decide (lO f≠0)=true then lO f else n0 d r
def ke(i:bJ):Int:=
 if(!isName i.id)=true then 23 else if(decide (i.kind<1)||decide (5<i.kind))=true then 7 else if(!gA i.cur)=true then 12
 else if(decide (i.places<0)||decide (12<i.places))=true then 2 else if(!KJ i.DQ)=true then 13 else if afC i=true then 13 else n0 (BM i.kind i) [i.j7,i.j6,i.kp]
theorem agz{d:Int}{l rest:List aP}{x:aP}(h:n0 d l=n0 d (x::rest))(k:decide (lO x≠0)=true):lO x=n0 d l:=by rw[h,n0,if_pos k]
theorem agy{d:Int}{l rest:List aP}{x:aP}(h:n0 d l=n0 d (x::rest))(k:decide (lO x≠0)=false):n0 d l=n0 d rest:=by rw[h,n0,if_neg (by rw[k];simp)]
def lv(i:bJ):List aa:=if i.kind=5 then[i.cur,i.other]else[i.cur]
def IA(i:bJ)(t:List cp):Int:=if(lv i).any (fun c=>!(lC c t).2)=true then 12 else 0
def nU(pre:List bJ)(x:bJ)(t:List cp):Int:=if decide (ke x≠0)=true then ke x else if pre.any (fun y=>decide (y.id=x.id))=true then 5 else IA x t
def pM(t:List cp)(pre:List bJ):List bJ→Int
 |[]=>0
 |x::r=>if decide (nU pre x t≠0)=true then nU pre x t else pM t (pre++[x]) r
def mI(l:List bJ)(t:List cp):Int:=if decide (pv t≠0)=true then 1 else if decide (64<(l.length:Int))=true then 4 else pM t [] l
theorem adG{pre:List bJ}{x:bJ}{t:List cp}(h:decide (ke x≠0)=true):nU pre x t=ke x:=by rw[nU,if_pos h]
theorem adH{pre:List bJ}{x:bJ}{t:List cp}(h:decide (ke x≠0)=false)(h2:pre.any (fun y=>decide (y.id=x.id))=true):nU pre x t=5:=by rw[nU,if_neg (by rw[h];simp),if_pos h2]
theorem PG{pre:List bJ}{x:bJ}{t:List cp}(h:decide (ke x≠0)=false)(h2:pre.any (fun y=>decide (y.id=x.id))=false):nU pre x t=IA x t:=by rw[nU,if_neg (by rw[h];simp),if_neg (by rw[h2];simp)]
theorem Iw{l pre rest:List bJ}{x:bJ}{t:List cp}{n:Int}(h:mI l t=pM t pre (x::rest))(he:nU pre x t=n)(hn:decide (n≠0)=true):n=mI l t:=by rw[h,pM,he,if_pos hn]
theorem adO{l pre rest:List bJ}{x:bJ}{t:List cp}{n:Int}(h:mI l t=pM t pre (x::rest))(he:nU pre x t=n)(hn:decide (n≠0)=false):mI l t=pM t (pre++[x]) rest:=by
 rw[h,pM,he,if_neg (by rw[hn];simp)]
theorem adN{l:List bJ}{t:List cp}(h1:decide (pv t≠0)=false)(h2:decide (64<(l.length:Int))=false):mI l t=pM t [] l:=by rw[mI,if_neg (by rw[h1];simp),if_neg (by rw[h2];simp)]
end Go.T
