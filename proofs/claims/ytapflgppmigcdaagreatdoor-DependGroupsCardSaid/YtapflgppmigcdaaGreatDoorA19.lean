/-
  Contracts of the functions that the statement reaches, and the logic in which they are proved (no condition): parts W115, SpecR2, W116, W117, W118, W119.
-/
import Derived.Test.YtapflgppmigcdaaGreatDoorA18
set_option linter.all false
namespace Go.T
open Go Go.Proofs Go.Proofs.Tryz
set_option maxRecDepth 20000
def jj(f:aM):Prop:=f.num.length≤60∧f.den.length≤60
theorem OI(a b:aa)(ha:a.length≤5000)(hb:b.length≤5000)(Jr:val a≠0)(gK:0<val b)(hx:0≤val a∨val a%val b=0):Fc Tryz.prog 356 [.str a,.str b] (.bj [.str (ofInt (val a/val b)),.str (ofInt (val a%val b)),.i 0]):=by
 refine Fc.mk' [4,5,6] func356 rfl ntmps356 rfl rfl rfl (fun t w=>results_tmp3 results356 t _ w) ?_;have EX:=rO a;have mq:=rO b;have hq1:(ak ((val a).natAbs/(val b).natAbs)).length≤5000:=Nat.le_trans (oG (Nat.div_le_self _ _)) zO;have uO:(ak ((val a).natAbs%(val b).natAbs)).length≤5000:=Nat.le_trans (oG (Nat.mod_le _ _)) zO;refine J.seq (J.af [.p,.p,.p] ?_);refine .ag rfl rfl<|.ag rfl rfl<|.ag rfl rfl<|.nil ?_;refine J.seq (J.af [.p,.p,.p,.p,.p,.p,.p] ?_);refine .mv rfl rfl<|.P rfl (ai call255 rfl (GA _))<|.mv rfl rfl<|.P rfl (eC rfl rfl)<|.P rfl (eC rfl rfl)<|.ag rfl rfl<|.ag rfl rfl<|.nil ?_;refine J.seq (J.af [.p,.p,.p,.p,.p,.p,.p] ?_);refine .mv rfl rfl<|.P rfl (ai call255 rfl (GA _))<|.mv rfl rfl<|.P rfl (eC rfl rfl)<|.P rfl (eC rfl rfl)<|.ag rfl rfl<|.ag rfl rfl<|.nil ?_;refine J.seq (J.seq (J.af [.p,.p,.p,.p,.p] ?_));refine .mv rfl rfl<|.mv rfl rfl<|.gT rfl (.inl rfl) rfl rfl rfl (fun hg=>pk (fun _=>aT rfl _))<|.gT rfl (.inl rfl) rfl rfl rfl (fun hg=>pk (fun _=>jQ (bh rfl hg) rfl _))<|.P rfl (gO rfl rfl)<|.nil ?_;refine J.eF rfl (aaS gK) ?_;refine J.skip ?_;refine J.seq (J.seq (J.af [.p,.p,.p,.p] ?_));refine .mv rfl rfl<|.mv rfl rfl<|.gT rfl (.inl rfl) rfl rfl rfl (fun hg=>pk (fun _=>aT rfl _))<|.P rfl (gO rfl rfl)<|.nil ?_;refine J.cond rfl (fun h1=>?_) (fun h1=>?_)
 ·have lB:=h1;refine J.seq (J.oU [.p,.p,.p,.p,.p,.p,.p,.p] lh zK ?_);refine .mv rfl rfl<|.mv rfl rfl<|.P rfl (lO rfl rfl (OK lB gK) (uo lB gK).1)<|.mv rfl rfl<|.mv rfl rfl<|.P rfl (oS rfl rfl (OK lB gK) (uo lB gK).2.1)<|.ag rfl rfl<|.ag rfl rfl<|.nil ?_;refine J.seq (J.seq (J.af [.p,.p,.p,.p,.p,.p,.p,.p,.p] ?_));refine .mv rfl rfl<|.P rfl (z6 rfl rfl)<|.mv rfl rfl<|.gT rfl (.inl rfl) rfl rfl rfl (fun hg=>pk (fun _=>aT rfl _))<|.gT rfl (.inl rfl) rfl rfl rfl (fun hg=>pk (fun _=>bQ (bh rfl hg) rfl _))<|.gT rfl (.inl rfl) rfl rfl rfl (fun hg=>pk (fun _=>aT rfl _))<|.gT rfl (.inl rfl) rfl rfl rfl (fun hg=>pk (fun _=>bQ (bh rfl hg) rfl _))<|.gT rfl (.inl rfl) rfl rfl rfl (fun hg=>pk (fun _=>z7 underlying4 (bh rfl hg) (bh rfl hg) _))<|.P rfl (gO rfl rfl)<|.nil ?_;refine J.cond rfl (fun h2=>?_) (fun h2=>?_)
  ·refine J.seq (J.af [.p,.p,.p] ?_);refine .mv rfl rfl<|.P rfl (dw rfl rfl ((uo lB gK).2.2.1 h2).1)<|.ag rfl rfl<|.nil ?_;refine J.af [.p,.p,.p,.p] ?_;refine .mv rfl rfl<|.mv rfl rfl<|.P rfl (bU rfl rfl ((uo lB gK).2.2.1 h2).2)<|.ag rfl rfl<|.nil ?_;refine J.seq (J.af [.p,.p,.p,.p,.p,.p,.p] ?_);refine .mv rfl rfl<|.P rfl (ai call199 rfl (xb _ (by exact(DT lB gK).1)))<|.mv rfl rfl<|.P rfl (ai call199 rfl (xb _ (by exact(DT lB gK).2)))<|.ag rfl rfl<|.ag rfl rfl<|.ag rfl rfl<|.nil ?_;refine J.ret (?_);exact Md rfl rfl rfl (Sub.refl _) (Sub.refl _) (Sub.refl _)
  ·refine J.skip ?_;refine J.seq (J.af [.p,.p,.p,.p,.p,.p,.p] ?_);refine .mv rfl rfl<|.P rfl (ai call199 rfl (xb _ (by(rw[((uo lB gK).2.2.2 h2).1];exact(DT lB gK).1))))<|.mv rfl rfl<|.P rfl (ai call199 rfl (xb _ (by(rw[((uo lB gK).2.2.2 h2).2];exact(DT lB gK).2))))<|.ag rfl rfl<|.ag rfl rfl<|.ag rfl rfl<|.nil ?_;refine J.ret (?_);exact Md rfl rfl rfl (Sub.str (by(rw[((uo lB gK).2.2.2 h2).1];done))) (Sub.str (by(rw[((uo lB gK).2.2.2 h2).2];done))) (Sub.refl _)
 ·refine J.skip ?_;refine J.seq (J.af [.p,.p,.p,.p,.w,.w,.w,.w] ?_);refine .mv rfl rfl<|.P rfl (ai call256 rfl (Gn _ zO))<|.mv rfl rfl<|.P rfl (ai call256 rfl (Gn _ zO))<|.W rfl (jh 0 zeroValue260 rfl)<|.W rfl (jh 1 zeroValue260 rfl)<|.W rfl (km sizeOf260 rfl rfl rfl rfl rfl rfl)<|.W rfl (km sizeOf260 rfl rfl rfl rfl rfl rfl)<|.nil ?_;refine J.seq (J.af [.p,.r,.p,.r,.p,.p,.p,.p,.p,.p] ?_);refine .P rfl (im (n:=0) 25 1 underlying260 sizeOf25 rfl rfl)<|.R rfl (iV isAgg25 rfl rfl rfl)<|.P rfl (im (n:=0) 25 1 underlying260 sizeOf25 rfl rfl)<|.R rfl (iV isAgg25 rfl rfl rfl)<|.P rfl (ai call364 rfl (aa2 _ _ zO zO zO zO))<|.mv rfl rfl<|.P rfl (eC rfl rfl)<|.P rfl (eC rfl rfl)<|.ag rfl rfl<|.ag rfl rfl<|.nil ?_;refine J.bE (Le.fY 13 0 rfl rfl rfl rfl) ?_;refine J.bE (Le.fY 14 1 rfl rfl rfl rfl) ?_;refine J.bE (show Le _ _ _ [(13,.bc [.b (decide (val a<0)),sI (ak (val a).natAbs)]),(14,.bc [.b (decide (val b<0)),sI (ak (val b).natAbs)]),(15,sI (ak ((val a).natAbs/(val b).natAbs))),(16,sI (ak ((val a).natAbs%(val b).natAbs)))] []from Le.mk rfl (.s rfl rfl (.s rfl rfl (.s rfl rfl (.s rfl rfl .nil)))) .nil) ?_
  refine J.seq (J.VH (A:=fun _:Unit=>True) (fD:=fun _=>[(13,.bc [.b (decide (val a<0)),sI (ak (val a).natAbs)]),(14,.bc [.b (decide (val b<0)),sI (ak (val b).natAbs)]),(16,sI (ak ((val a).natAbs%(val b).natAbs))),(17,.box 20 0),(18,.box 21 0)]) (cX:=fun _=>[(20,.cells [.b ((decide (val a<0))!=(decide (val b<0))),sI (ak ((val a).natAbs/(val b).natAbs))]),(21,.cells [.b (decide (val a<0)),sI (ak ((val a).natAbs%(val b).natAbs))])]) (qa [some 74,some 75,some 76,some 77,some 78,some 79,some 80,some 81,some 82,some 83,some 84,some 17,some 18,none,none] [.bc [.b (decide (val a<0)),sI (ak (val a).natAbs)],.b (decide (val a<0)),.bc [.b (decide (val b<0)),sI (ak (val b).natAbs)],.b (decide (val b<0)),.b ((decide (val a<0))!=(decide (val b<0))),sI (ak ((val a).natAbs/(val b).natAbs)),.agg [.b ((decide (val a<0))!=(decide (val b<0))),sI (ak ((val a).natAbs/(val b).natAbs))],.bc [.b (decide (val a<0)),sI (ak (val a).natAbs)],.b (decide (val a<0)),sI (ak ((val a).natAbs%(val b).natAbs)),.agg [.b (decide (val a<0)),sI (ak ((val a).natAbs%(val b).natAbs))],.box 20 0,.box 21 0,.any,.any] [(13,.bc [.b (decide (val a<0)),sI (ak (val a).natAbs)]),(14,.bc [.b (decide (val b<0)),sI (ak (val b).natAbs)]),(15,sI (ak ((val a).natAbs/(val b).natAbs))),(16,sI (ak ((val a).natAbs%(val b).natAbs)))] (⟨11,13,20,[.raw (.bool false),.raw (.slice none 0 0)],[.b ((decide (val a<0))!=(decide (val b<0))),sI (ak ((val a).natAbs/(val b).natAbs))]⟩:Bx) (⟨12,14,21,[.raw (.bool false),.raw (.slice none 0 0)],[.b (decide (val a<0)),sI (ak ((val a).natAbs%(val b).natAbs))]⟩:Bx)) lh zK (afA rfl rfl) ?_ ?_ ?_)
  ·exact⟨(fun _ _ _ hs hI hl hd=>by
    have H3:=hI.cH 13 _ rfl;exact qJ hI hs (kl (n:=0) 4 0 underlying260 sizeOf4 rfl (by exact H3) rfl _) rfl rfl zD rfl rfl rfl rfl rfl rfl),
    (fun _ _ _ hs hI hl hd=>by
    have Ib:=hI.at (dp hd 0 zK) (j:=0) rfl rfl;exact qJ hI hs (bP isAgg4 (by exact Ib) _) rfl rfl zD rfl rfl rfl rfl rfl rfl),
    (fun _ _ _ hs hI hl hd=>by
    have e14:=hI.cH 14 _ rfl;exact qJ hI hs (kl (n:=0) 4 0 underlying260 sizeOf4 rfl (by exact e14) rfl _) rfl rfl zD rfl rfl rfl rfl rfl rfl),
    (fun _ _ _ hs hI hl hd=>by
    have Ic:=hI.at (dp hd 2 zK) (j:=2) rfl rfl;exact qJ hI hs (bP isAgg4 (by exact Ic) _) rfl rfl zD rfl rfl rfl rfl rfl rfl),
    (fun _ _ _ hs hI hl hd=>by
    have AQ:=hI.at (dp hd 1 zK) (j:=1) rfl rfl;have Ie:=hI.at (dp hd 3 zK) (j:=3) rfl rfl;exact qJ hI hs (z7 underlying4 (by exact AQ) (by exact Ie) _) rfl rfl zD rfl rfl rfl rfl rfl rfl),
    (fun _ _ _ hs hI hl hd=>by
    have eQ:=hI.cH 15 _ rfl;exact qJ hI hs (aT (by exact eQ) _) rfl rfl zD rfl rfl rfl rfl rfl rfl),
    (fun _ _ _ hs hI hl hd=>by
    have If:=hI.at (dp hd 4 zK) (j:=4) rfl rfl;have Ig:=hI.at (dp hd 5 zK) (j:=5) rfl rfl;exact qJ hI hs (pZ (pl:=#[(0,1),(1,1)]) (c_:=[(0,.b ((decide (val a<0))!=(decide (val b<0)))),(1,sI (ak ((val a).natAbs/(val b).natAbs)))]) underlying260 zeroValue260 (fun w=>by kernel_rfl) (by simp only[Env.nZ,Env.op,If,Ig]) rfl _) rfl rfl zD rfl rfl rfl rfl rfl rfl),
    (fun _ _ _ hs hI hl hd=>by
    have H3:=hI.cH 13 _ rfl;exact qJ hI hs (kl (n:=0) 4 0 underlying260 sizeOf4 rfl (by exact H3) rfl _) rfl rfl zD rfl rfl rfl rfl rfl rfl),
    (fun _ _ _ hs hI hl hd=>by
    have AR:=hI.at (dp hd 7 zK) (j:=7) rfl rfl;exact qJ hI hs (bP isAgg4 (by exact AR) _) rfl rfl zD rfl rfl rfl rfl rfl rfl),
    (fun _ _ _ hs hI hl hd=>by
    have H4:=hI.cH 16 _ rfl;exact qJ hI hs (aT (by exact H4) _) rfl rfl zD rfl rfl rfl rfl rfl rfl),
    (fun _ _ _ hs hI hl hd=>by
    have Ii:=hI.at (dp hd 8 zK) (j:=8) rfl rfl;have Ij:=hI.at (dp hd 9 zK) (j:=9) rfl rfl;exact qJ hI hs (pZ (pl:=#[(0,1),(1,1)]) (c_:=[(0,.b (decide (val a<0))),(1,sI (ak ((val a).natAbs%(val b).natAbs)))]) underlying260 zeroValue260 (fun w=>by kernel_rfl) (by simp only[Env.nZ,Env.op,Ii,Ij]) rfl _) rfl rfl zD rfl rfl rfl rfl rfl rfl),
    (fun _ _ _ hs hI hl hd=>Ts hI hs hl (fun bY=>jh 20 zeroValue260 bY) rfl rfl zD rfl rfl rfl rfl rfl rfl),
    (fun _ _ _ hs hI hl hd=>uc.swap (Ts hI.swap hs hl (fun bY=>jh 21 zeroValue260 bY) rfl rfl zD rfl rfl rfl rfl rfl rfl)),
    (fun _ _ _ hs hI hl hd=>by
    have H5:=hI.at (dp hd 11 zK) (j:=11) rfl rfl;have Ih:=hI.at (dp hd 6 zK) (j:=6) rfl rfl;exact Pz hI hs hl (dp hd 11 zK) (fun ho=>km sizeOf260 (by exact H5) (by exact Ih) rfl rfl ho rfl) rfl rfl rfl rfl rfl),
    (fun _ _ _ hs hI hl hd=>by
    have H6:=hI.at (dp hd 12 zK) (j:=12) rfl rfl;have Ik:=hI.at (dp hd 10 zK) (j:=10) rfl rfl;exact uc.swap (Pz hI.swap hs hl (dp hd 12 zK) (fun ho=>km sizeOf260 (by exact H6) (by exact Ik) rfl rfl ho rfl) rfl rfl rfl rfl rfl)),trivial⟩
  ·intro listed e ob hs dW hI;exact⟨(),trivial,Le.mk rfl (.cons (hI.cH 13 _ rfl) (Sub.refl _) rfl (.cons (hI.cH 14 _ rfl) (Sub.refl _) rfl (.cons (hI.cH 16 _ rfl) (Sub.refl _) rfl (.cons (hI.at (j:=11) (dW 11 zD) rfl rfl) (Sub.refl _) rfl (.cons (hI.at (j:=12) (dW 12 zD) rfl rfl) (Sub.refl _) rfl .nil))))) (.cons (hI.b1.yes (dW 13 zD)) rfl (.cons (hI.b2.yes (dW 14 zD)) rfl .nil))⟩
  intro _ _;refine J.seq (J.seq (J.af [.p,.p,.p,.p,.p,.p,.p,.p,.p,.p] ?_));refine .mv rfl rfl<|.P rfl (cY underlying25 rfl)<|.P rfl (gn rfl rfl)<|.mv rfl rfl<|.gT rfl (.inl rfl) rfl rfl rfl (fun hg=>pk (fun _=>kl (n:=0) 4 0 underlying260 sizeOf4 rfl rfl rfl _))<|.gT rfl (.inl rfl) rfl rfl rfl (fun hg=>pk (fun _=>bP isAgg4 (bh rfl hg) _))<|.gT rfl (.inl rfl) rfl rfl rfl (fun hg=>pk (fun _=>kl (n:=0) 4 0 underlying260 sizeOf4 rfl rfl rfl _))<|.gT rfl (.inl rfl) rfl rfl rfl (fun hg=>pk (fun _=>bP isAgg4 (bh rfl hg) _))<|.gT rfl (.inl rfl) rfl rfl rfl (fun hg=>pk (fun _=>z7 underlying4 (bh rfl hg) (bh rfl hg) _))<|.P rfl (gO rfl rfl)<|.nil ?_;refine J.eF rfl (aaR gK hx) ?_;refine J.skip ?_;refine J.seq (J.oU [.r,.p,.r,.p,.p,.p,.p] lh zK ?_);refine .R rfl (zZ isAgg260 sizeOf260 rfl rfl rfl)<|.P rfl (ai call257 rfl (MT _ _ zO))<|.R rfl (zZ isAgg260 sizeOf260 rfl rfl rfl)<|.P rfl (ai call257 rfl (MT _ _ zO))<|.ag rfl rfl<|.ag rfl rfl<|.ag rfl rfl<|.nil ?_;refine J.ret (?_);exact Md rfl rfl rfl (Sub.str (by rw[(HZ gK hx).1])) (Sub.str (by rw[(HZ gK hx).2.1])) (Sub.refl _)
theorem aaO(m n:Nat)(hm:m≠0)(hn:n≠0)(h1:(ofInt (m:Int)).length≤5000)(h2:(ofInt (n:Int)).length≤5000):Fc Tryz.prog 356 [.str (ofInt (m:Int)),.str (ofInt (n:Int))] (.bj [.str (ofInt ((m/n:Nat):Int)),.str (ofInt ((m%n:Nat):Int)),.i 0]):=by
 have:=OI (ofInt (m:Int)) (ofInt (n:Int)) h1 h2 (by rw[gp];omega) (by rw[gp];omega) (.inl (by rw[gp];omega));rw[gp,gp,←Int.natCast_ediv,←Int.natCast_emod]at this;exact this
structure ac1(a b:aa)where
 m:Nat
 n:Nat
 hm:m≠0
 hg:Nat.gcd m n=Nat.gcd (val a).natAbs (val b).natAbs
 hk:m≤max (val a).natAbs (val b).natAbs∧n≤max (val a).natAbs (val b).natAbs
theorem ac0(a b:aa)(ha:a.length≤4000)(hb:b.length≤4000)(Jr:val a≠0):Fc Tryz.prog 334 [.str a,.str b] (.str (ofInt (Int.gcd (val a) (val b):Int))):=by
 refine Fc.mk' [4] func334 rfl ntmps334 rfl rfl rfl (fun t w=>results_tmp results334 t _ w) ?_;refine go [] ?_;refine oP (ai call251 rfl (sA _)) ?_;refine oP (ai call251 rfl (sA _)) ?_;refine J.loop (ι:=ac1 a b) (fun sx=>[(9,.str (ofInt (sx.m:Int))),(10,.str (ofInt (sx.n:Int)))]) (fun sx=>[]) (fun sx=>sx.n) ⟨(val a).natAbs,(val b).natAbs,by omega,rfl,by omega,by omega⟩ ?_ ?_
 ·exact Le.mk rfl (.cons rfl (Sub.str (by exact P4 _)) rfl (.cons rfl (Sub.str (by exact P4 _)) rfl .nil)) .nil
 ·rintro⟨m,n,hm,hg,hk⟩;show J _ _ _ _ [(9,.str (ofInt (m:Int))),(10,.str (ofInt (n:Int)))] [];refine go [] ?_;refine br (fun h1=>?_) (fun h1=>?_)
  ·have dY:n≠0:=by rintro rfl;simp[Lu]at h1
   refine oP (ai call356 rfl (aaO m n hm dY (by have:=Uo hk.1;omega) (by have:=Uo hk.2;omega))) ?_;exact nx ⟨n,m%n,dY,by rw[←hg,Nat.gcd_comm m n,Nat.gcd_rec n m,Nat.gcd_comm],hk.2,Nat.le_trans (Nat.mod_le _ _) hk.1⟩ (by exact Nat.mod_lt _ zO) (Le.mk rfl (.s rfl rfl (.s rfl rfl .nil)) .nil)
  ·have dY:n=0:=by have:=Up.1 (by simpa using h1);omega
   refine go [] ?_;exact ah rfl (Sub.str (by subst dY;rw[Nat.gcd_zero_right]at hg;rw[hg];rfl))
theorem Pc(a b:aa)(ha:a.length≤5000)(hb:b.length≤5000)(Jr:val a≠0)(gK:0<val b)(hx:val a%val b=0):Fc Tryz.prog 335 [.str a,.str b] (.str (ofInt (val a/val b))):=by
 refine Fc.mk' [4] func335 rfl ntmps335 rfl rfl rfl (fun t w=>results_tmp results335 t _ w) ?_;refine go [] ?_;refine oP (ai call356 rfl (OI a b ha hb Jr gK (.inr hx))) ?_;exact ah rfl (Sub.refl _)
theorem MW(a:aa):Fc Tryz.prog 252 [.str a] (.b (decide (fT a []=0))):=by
 refine Fc.mk' [2] func252 rfl ntmps252 rfl rfl rfl (fun t w=>results_tmp results252 t _ w) ?_;refine go [] ?_;refine oP (ai call195 rfl (x1 _ _)) ?_;exact ah rfl (Sub.refl _)
theorem Lt:Fc Tryz.prog 199 [.i 1] (.str [49]):=by
 have:=xb 1 zO;rwa[ofInt_one]at this
theorem UE:Fc Tryz.prog 253 [] (.str [49]):=by
 refine Fc.mk' [0] func253 rfl ntmps253 rfl rfl rfl (fun t w=>results_tmp results253 t _ w) ?_;refine go [] ?_;refine oP (ai call199 rfl Lt) ?_;exact ah rfl (Sub.refl _)
theorem ako(n d:aa)(hn:n.length≤2000)(hd:d.length≤2000)(pB:0<val d):Fc Tryz.prog 295 [.str n,.str d] (.agg (cj (cw (val n) (val d)))):=by
 refine Fc.je func295 rfl ntmps295 rfl rfl rfl ?_;have cK:=IY (val n) (d:=d) zO;refine go [99999] ?_;refine oP (ai call252 rfl (MW _)) ?_;refine br (fun h1=>?_) (fun h1=>?_)
 ·refine J.ret (?_);exact Rd.cA results295 isAgg35 sizeOf35 rfl rfl rfl (Sub.agg (.cons (Sub.str (by rw[VC pB h1])) (.cons (Sub.str (by rw[VC pB h1])) .nil)))
 ·refine oP (ai call334 rfl (ac0 n d zO zO (VE h1))) ?_;refine oP (ai call335 rfl (Pc _ _ zO zO (VE h1) (Et (val n) (val d) pB).1 (Et (val n) (val d) pB).2.1)) ?_;refine oP (ai call335 rfl (Pc _ _ zO zO zO (Et (val n) (val d) pB).1 (Et (val n) (val d) pB).2.2)) ?_;refine oP (ai call253 rfl UE) ?_;refine oP (ai call195 rfl (x1 _ _)) ?_;refine ord ?_;refine br (fun h2=>?_) (fun h2=>?_)
  ·refine J.ret (?_);exact Rd.cA results295 isAgg35 sizeOf35 rfl rfl rfl (Sub.agg (.cons (Sub.str (by(rw[(xv (CJ pB)).1];rfl))) (.cons (Sub.str (by exact Te (by rw[←(xv (CJ pB)).2,←VF];exact h2))) .nil)))
  ·refine J.ret (?_);exact Rd.cA results295 isAgg35 sizeOf35 rfl rfl rfl (Sub.agg (.cons (Sub.str (by(rw[(xv (CJ pB)).1];rfl))) (.cons (Sub.str (by(rw[(xv (CJ pB)).2];exact Tf (by rw[←(xv (CJ pB)).2,←VF];exact h2)))) .nil)))
theorem L9(f:aM)(hf:jj f):Fc Tryz.prog 196 [.agg (cj f)] (.bj [.str (e7 f).1,.str (e7 f).2]):=by
 refine Fc.mk' [2,3] func196 rfl ntmps196 rfl rfl rfl (fun t w=>results_tmp2 results196 t _ w) ?_;have EQ:=hf.1;have QQ:=hf.2;refine go [] ?_;refine oP (ai call252 rfl (MW _)) ?_;refine br (fun h1=>?_) (fun h1=>?_)
 ·refine oP (ai call253 rfl UE) ?_;refine ord ?_;exact fu rfl rfl (Sub.str (by rw[CH h1])) (Sub.str (by rw[CH h1]))
 ·refine oP (ai call195 rfl (x1 _ _)) ?_;refine br (fun h2=>?_) (fun h2=>?_)
  ·refine oP (ai call254 rfl (Ub _ zO)) ?_;refine oP (ai call254 rfl (Ub _ zO)) ?_;refine ord ?_;exact fu rfl rfl (Sub.str (by rw[Vz h1 h2])) (Sub.str (by rw[Vz h1 h2]))
  ·refine ord ?_;exact fu rfl rfl (Sub.str (by rw[VA h1 h2])) (Sub.str (by rw[VA h1 h2]))
theorem NK(f:aM)(hf:jj f):Fc Tryz.prog 259 [.agg (cj f)] (.agg (cj (cw (val (bH f).1) (val (bH f).2)))):=by
 refine Fc.je func259 rfl ntmps259 rfl rfl rfl ?_;have f_:=L_ f zO hf;refine go [99999] ?_;refine oP (ai call196 rfl (L9 _ zA)) ?_;refine oP (ai call295 rfl (ako _ _ zO zO (CI _))) ?_;refine J.ret (?_);exact Rd.cA results259 isAgg35 sizeOf35 rfl rfl rfl (Sub.agg (.cons (Sub.str (by rw[Fv])) (.cons (Sub.str (by rw[Fv])) .nil)))
theorem Zh(f:aM)(hf:jj f):Fc Tryz.prog 249 [.agg (cj f)] (.i (g_ f)):=by
 refine Fc.mk' [2] func249 rfl ntmps249 rfl rfl rfl (fun t w=>results_tmp results249 t _ w) ?_;refine go [] ?_;refine oP (ai call259 rfl (NK _ zA)) ?_;refine oP (qK (xs:=[f.num,f.den]) (ys:=[(cw (val (bH f).1) (val (bH f).2)).num,(cw (val (bH f).1) (val (bH f).2)).den]) underlying35 (by kernel_rfl) (by kernel_rfl) (.cons zK underlying33 isAgg33 rfl (.cons zK underlying33 isAgg33 rfl (.nil _))) rfl rfl rfl rfl rfl rfl) ?_;refine ord ?_;refine br (fun h1=>?_) (fun h1=>?_)
 ·exact ah rfl (Sub.int (by unfold g_;rw[if_neg (NW h1)]))
 ·exact ah rfl (Sub.int (by unfold g_;rw[if_pos (NV h1)]))
theorem N4(f k:aM)(hf:jj f)(hh:jj k):Fc Tryz.prog 143 [.agg (cj f),.agg (cj k)] (.i (jz f k)):=by
 refine Fc.mk' [4] func143 rfl ntmps143 rfl rfl rfl (fun t w=>results_tmp results143 t _ w) ?_;have f_:=L_ f zO hf;have arj:=L_ k zO hh;refine go [] ?_;refine oP (ai call196 rfl (L9 _ zA)) ?_;refine oP (ai call196 rfl (L9 _ zA)) ?_;refine oP (ai call197 rfl (TN _ _ zO zO)) ?_;refine oP (ai call197 rfl (TN _ _ zO zO)) ?_;refine oP (ai call195 rfl (x1 _ _)) ?_;exact ah rfl (Sub.refl _)
theorem xA(f:aM)(hf:jj f):Fc Tryz.prog 191 [.agg (cj f)] (.i (jz f c6)):=by
 refine Fc.mk' [2] func191 rfl ntmps191 rfl rfl rfl (fun t w=>results_tmp results191 t _ w) ?_;refine go [] ?_;refine oP (ai call143 rfl (N4 f c6 hf ⟨by decide,by decide⟩)) ?_;exact ah rfl (Sub.refl _)
theorem UY:cw (val (bH ⟨[49],[49]⟩).1) (val (bH ⟨[49],[49]⟩).2)=cw 1 1:=by
 have e:bH ⟨[49],[49]⟩=([49],[49]):=by unfold bH;rw[if_neg zD]
 rw[e,val_one]
theorem ah7:Fc Tryz.prog 198 [.str [49],.str [49]] (.bj [.agg (cj (cw 1 1)),.i 0]):=by
 refine Fc.je func198 rfl ntmps198 rfl rfl rfl ?_;refine go [99999] ?_;refine oP (ai call252 rfl (MW _)) ?_;refine a_ zD ?_;refine oP (ai call259 rfl (NK ⟨[49],[49]⟩ ⟨by decide,by decide⟩)) ?_;refine J.ret (?_);exact Rd.Dz results198 isAgg35 sizeOf35 rfl rfl rfl rfl (Sub.agg (.cons (Sub.str (by rw[UY])) (.cons (Sub.str (by rw[UY])) .nil))) (Sub.refl _)
theorem akc:Fc Tryz.prog 144 [.i 1,.i 1] (.agg (cj (cw 1 1))):=by
 refine Fc.je func144 rfl ntmps144 rfl rfl rfl ?_;refine go [99999] ?_;refine oP (ai call199 rfl Lt) ?_;refine oP (ai call199 rfl Lt) ?_;refine oP (ai call198 rfl ah7) ?_;refine J.ret (?_);exact Rd.cA results144 isAgg35 sizeOf35 rfl rfl rfl (Sub.agg (.r (.r .nil)))
end Go.T
namespace Go.T
open Go
def AF(k:Int):Bool:=decide (k=7)||decide (k=16)
def ri(k:Int):List Int:=
 if k=1 then[2,5]else if k=2 then[2,5]else if k=6 then[2,5]else if k=17 then[2,5]else if k=18 then[2,5]
 else if k=3 then[0,4,5,6]else if k=4 then[0,4,5,6,10]else if k=5 then[0,7]else if k=13 then[0,7]else if k=14 then[0,7]else if k=15 then[0,7]
 else if k=7 then[1,2,4,5]else if k=8 then[0,7,8]else if k=9 then[0,1,7,8,9]else if k=10 then[0,11]else if k=11 then[0,3,12]
 else if k=12 then[0,1,4,7,8]else if k=16 then[1,2,8]else[]
def lz(k n:Int):Bool:=(ri k).any fun m=>decide (m=n)
def xM(k:Int):aa:=match eW k with
 |some r=>r.w
 |none=>[]
def zR(k n:Int):Bool:=!(decide (n=6)||(decide (n=5)&&(decide (k=3)||decide (k=4))))
def SJ(k n:Int):Bool×Bool:=if n=7 then(decide (k=5)||decide (k=13),false)else if n=8 then(true,false)else if n=9 then(false,true)else(zR k n,false)
theorem alT:(wT.all fun k=>ic.all fun n=>match eW k with|some r=>(me r n.toNat==lz k n)&&(r.code==AF k)&&decide (r.w≠[])|none=>false)=true:=by decide
theorem alU:(wT.all fun k=>[4,5,6,7,8,9].all fun n=>match eW k with|some r=>!me r n.toNat||decide (oD r n=SJ k n)|none=>false)=true:=by decide
theorem alS:(wT.all fun k=>!lz k 11||lz k 0)=true:=by decide
theorem Gv{k:Int}{r:jm}(h:eW k=some r){n:Int}(hn:n∈ic):me r n.toNat=lz k n∧r.code=AF k∧r.w≠[]:=by
 have h1:=List.all_eq_true.1 (List.all_eq_true.1 alT k (FA.2 (CO h))) n hn;rw[h]at h1;simpa[and_assoc]using h1
theorem akF{k:Int}{r:jm}(h:eW k=some r){n:Int}(hn:n∈[(4:Int),5,6,7,8,9])(hh:me r n.toNat=true):oD r n=SJ k n:=by
 have h1:=List.all_eq_true.1 (List.all_eq_true.1 alU k (FA.2 (CO h))) n hn;rw[h]at h1;simpa[hh]using h1
theorem an6(k:Int):decide (xM k=[])=!(eW k).isSome:=by
 unfold xM;cases h:eW k with
 |none=>rfl
 |some r=>simpa using (Gv h (n:=0) zD).2.2
def F4(o:cT):Bool:=(decide (o.other≠[])&&decide (jz o.ratio c6=0))||(decide (o.other=[])&&(!decide (jz o.ratio c6=0)||decide (jz o.value c6≠0)))
def zJ(i:aa)(o:cT)(d:Int):Int:=if(decide (o.other≠[])&&!isName o.other)=true then 23 else if(decide (o.other≠[])&&decide (o.other=i))=true then 18 else nf [o.ratio,o.d_,o.value] (if F4 o=true then 2 else d)
def pX(i:aa):List cT→Int
 |[]=>0
 |o::r=>zJ i o (pX i r)
def qH(f:Fact):Int:=if decide ((f.opts.length:Int)=0)=true then 11 else if decide (8<(f.opts.length:Int))=true then 4 else pX f.dM f.opts
theorem SN:∀(l:List aM){d d':Int},((∀x∈l,e6 false false x=0)→d=d')→nf l d=nf l d'
 |[],d,d',h=>h zS
 |x::r,d,d',h=>by
  simp only[nf];by_cases k:decide (e6 false false x≠0)=true
  ·rw[if_pos k,if_pos k]
  ·rw[if_neg k,if_neg k];refine SN r fun hr=>h fun y hy=>?_;rcases List.mem_cons.1 hy with rfl|hy
   ·simpa using k
   ·exact hr y hy
theorem akf(f:aM):jz f c6=0↔val f.num=0:=by
 have h2:e7 c6=([],[49]):=CH zD;have h3:=z_ f;unfold jz;rw[h2,r2,gp,gp,val_one,ua,Aj];have e:val (bH f).1=val f.num:=by rw[zN]
 by_cases k:val (bH f).2<0
 ·rw[(h3.1 k).1,e];simp
 ·rw[(h3.2 k).1,e];simp
theorem HG{f:aM}(h:g_ f=0):jz f c6=0↔f=c6:=by
 rw[akf];constructor
 ·intro hv;have hf:f=cw (val (bH f).1) (val (bH f).2):=by
   unfold g_ at h;by_cases k:f=cw (val (bH f).1) (val (bH f).2)
   ·exact k
   ·rw[if_neg k]at h;cases h
  rw[hf,←Fv];have:val (e7 f).1=0:=by
   have h3:=z_ f;by_cases k:val (bH f).2<0
   ·rw[(h3.1 k).1,zN,hv];rfl
   ·rw[(h3.2 k).1,zN,hv]
  rw[this,Td (CI f)];rfl
 ·rintro rfl;exact ua
theorem SL{pos part:Bool}{f:aM}(h:e6 pos part f=0):g_ f=0:=by
 unfold e6 ta at h;by_cases k:decide (g_ f≠0)=true
 ·rw[if_pos k]at h;cases h
 ·simpa using k
theorem Ek(f:aM):decide ([f.num,f.den]=[[],[]])=decide (f=c6):=by
 rw[decide_eq_decide];cases f;simp[c6]
theorem aiI{i:aa}(hi:i≠[])(o:cT){d d':Int}(hd:d=d'):zJ i o d=zI i o d':=by
 subst hd;unfold zJ zI;by_cases h1:(decide (o.other≠[])&&!isName o.other)=true
 ·rw[if_pos h1,if_pos h1]
 ·rw[if_neg h1,if_neg h1];have e:(decide (o.other≠[])&&decide (o.other=i))=decide (o.other=i):=by
   by_cases k:o.other=i
   ·simp[k,hi]
   ·simp[k]
  rw[e];by_cases h2:decide (o.other=i)=true
  ·rw[if_pos h2,if_pos h2]
  ·rw[if_neg h2,if_neg h2];refine SN _ fun hl=>?_;have e1:decide (jz o.ratio c6=0)=decide (o.ratio=c6):=decide_eq_decide.2 (HG (SL (hl o.ratio zS)));have hc:=HG (SL (hl o.value zS));have e2:decide (jz o.value c6≠0)=!decide (o.value=c6):=by
    rw[decide_not];congr 1;exact decide_eq_decide.2 hc
   have:F4 o=Cl o:=by
    unfold F4 Cl;rw[Ek,Ek,e1,e2];by_cases k:o.other=[]
    ·simp[k]
    ·simp[k]
   rw[this]
theorem UI{i:aa}(hi:i≠[]):∀l:List cT,pX i l=oL i l
 |[]=>rfl
 |o::r=>aiI hi o (UI hi r)
theorem aiS{f:Fact}(hi:f.dM≠[]):qH f=pW f:=by
 unfold qH pW;rw[UI hi]
def tT(f:aM):Int:=if decide (e6 false false f≠0)=true then e6 false false f else if decide (0<jz f (cw 1 1))=true then 2 else 0
theorem ald(f:aM):tT f=e6 false true f:=by
 have e:cw 1 1=cw (val [49]) (val [49]):=by rw[val_one]
 unfold tT;rw[L',e];unfold e6 ta Fq;by_cases h:decide (g_ f≠0)=true
 ·rw[if_pos h,if_pos h];rfl
 ·rw[if_neg h,if_neg h];generalize (decide (40<((ko f.num [45]).length:Int))||decide (40<((ko f.den [45]).length:Int)))=aG;generalize decide (qZ f c6<0)=lo;generalize decide (0<qZ f (cw (val [49]) (val [49])))=hi;cases aG<;>cases lo<;>cases hi<;>simp
def rh(f:Fact)(n:Int):Int:=
 if decide (n=0)=true then jv f.dM else if decide (n=1)=true then mD f (AF f.kind)else if decide (n=2)=true then(if(!fF f.cur)=true then 12 else 0)
 else if decide (n=3)=true then jv f.target else if decide (n=4)=true then e6 true false ⟨f.dm,[]⟩else if decide (n=5)=true then e6 (zR f.kind 5) false ⟨f.mN,[]⟩
 else if decide (n=6)=true then e6 false false ⟨f.mU,[]⟩else if decide (n=7)=true then e6 (decide (f.kind=5)||decide (f.kind=13)) false f.d_
 else if decide (n=8)=true then e6 true false f.ratio else if decide (n=9)=true then tT f.share else if decide (n=10)=true then r6 f else if decide (n=11)=true then qH f
 else if decide (n=12)=true then(if decide (f.choice<0)=true then 2 else 0)else 0
theorem acq{f:Fact}{r:jm}(h:eW f.kind=some r){n:Int}(hn:n∈ic)(hh:lz f.kind n=true)(hi:n=11→f.dM≠[]):rh f n=ee f r.code n (oD r n):=by
 have h1:=Gv h hn;rw[hh]at h1;have h2:=fun k=>akF h (n:=n) k h1.1;simp only[ic,List.mem_cons,List.not_mem_nil,or_false]at hn;rw[h1.2.1];rcases hn with rfl|rfl|rfl|rfl|rfl|rfl|rfl|rfl|rfl|rfl|rfl|rfl|rfl
 ·rfl
 ·rfl
 ·rfl
 ·rfl
 ·rw[h2 zD];rfl
 ·rw[h2 zD];rfl
 ·rw[h2 zD];rfl
 ·rw[h2 zD];rfl
 ·rw[h2 zD];rfl
 ·rw[h2 zD];exact ald f.share
 ·rfl
 ·exact aiS (hi rfl)
 ·rfl
def lr(f:Fact):List Int→Int
 |[]=>0
 |n::l=>if lz f.kind n=true then(if decide (rh f n≠0)=true then rh f n else lr f l)else if(!dT f n)=true then 1 else lr f l
theorem ID{f:Fact}{r:jm}(h:eW f.kind=some r):∀(l:List Int),(∀n∈l,n∈ic)→(lz f.kind 11=true→f.dM≠[])→lr f l=kX f r l
 |[],_,_=>rfl
 |n::l,hl,hi=>by
  have h1:=Gv h (hl n zS);have ih:=ID h l (fun m hm=>hl m (by simp[hm])) hi;simp only[lr,kX];rw[h1.1,ih];by_cases k:lz f.kind n=true
  ·rw[if_pos k,if_pos k,acq h (hl n zS) k (fun e=>hi (by rw[←e];exact k))]
  ·rw[if_neg k,if_neg k]
def jV(f:Fact):Int:=
 if(!isName f.key)=true then 23 else if decide (f.lW<0)=true then 2
 else if f.cancelled=true then(if ic.any (fun n=>!dT f n)=true then 1 else if(decide (f.day≠0)||decide (f.kind≠0))=true then 1 else 0)
 else if(decide (f.day< -25567)||decide (84005<f.day))=true then 13 else if decide (xM f.kind=[])=true then 7 else lr f ic
theorem acT(f:aM):[f.num,f.den]=[[],[]]↔f=c6:=decide_eq_decide.1 (Ek f)
theorem anP{f:Fact}(h:f.cancelled=true):(!Ah f (xK f))=(ic.any (fun n=>!dT f n)||(decide (f.day≠0)||decide (f.kind≠0))):=by
 have e1:jE f.fL []=true↔(f.fL.length:Int)=0:=by cases f.fL<;>simp[jE]<;>omega
 have e2:jE f.opts []=true↔(f.opts.length:Int)=0:=by cases f.opts<;>simp[jE]<;>omega
 have f0:dT f 0=true↔f.dM=[]:=decide_eq_true_iff;have f1:dT f 1=true↔f.other=[]:=decide_eq_true_iff;have f2:dT f 2=true↔f.cur=[]:=decide_eq_true_iff;have f3:dT f 3=true↔f.target=[]:=decide_eq_true_iff;have f4:dT f 4=true↔f.dm=[]:=by rw[show dT f 4=decide (jk f 4=c6)from rfl,decide_eq_true_eq];simp[jk,c6]
 have f5:dT f 5=true↔f.mN=[]:=by rw[show dT f 5=decide (jk f 5=c6)from rfl,decide_eq_true_eq];simp[jk,c6]
 have f6:dT f 6=true↔f.mU=[]:=by rw[show dT f 6=decide (jk f 6=c6)from rfl,decide_eq_true_eq];simp[jk,c6]
 have f7:dT f 7=true↔f.d_=c6:=by rw[show dT f 7=decide (jk f 7=c6)from rfl,decide_eq_true_eq];simp[jk]
 have f8:dT f 8=true↔f.ratio=c6:=by rw[show dT f 8=decide (jk f 8=c6)from rfl,decide_eq_true_eq];simp[jk]
 have f9:dT f 9=true↔f.share=c6:=by rw[show dT f 9=decide (jk f 9=c6)from rfl,decide_eq_true_eq];simp[jk]
 have f10:dT f 10=true↔(f.fL.length:Int)=0:=decide_eq_true_iff;have f11:dT f 11=true↔(f.opts.length:Int)=0:=decide_eq_true_iff;have f12:dT f 12=true↔f.choice=0:=decide_eq_true_iff;have key:Ah f (xK f)=true↔¬(ic.any (fun n=>!dT f n)||(decide (f.day≠0)||decide (f.kind≠0)))=true:=by
  simp only[Ah,xK,ic,List.any_cons,List.any_nil,Bool.or_false,Bool.and_eq_true,Bool.or_eq_true,decide_eq_true_eq,Bool.not_eq_true',acT,h,beq_self_eq_true,true_and,not_or,Bool.not_eq_false,f0,f1,f2,f3,f4,f5,f6,f7,f8,f9,f10,f11,f12,e1,e2,ne_eq,Classical.not_not];constructor
  ·rintro⟨⟨⟨⟨⟨⟨⟨⟨⟨⟨⟨⟨⟨⟨a1,a2⟩,a3⟩,a4⟩,a5⟩,a6⟩,a7⟩,a8⟩,a9⟩,b1⟩,b2⟩,b3⟩,b4⟩,b5⟩,b6⟩;exact⟨⟨of_decide_eq_true a3,of_decide_eq_true a4,of_decide_eq_true a5,of_decide_eq_true a6,of_decide_eq_true a7,of_decide_eq_true a8,of_decide_eq_true a9,b1,b2,b3,b4,b5,of_decide_eq_true b6⟩,of_decide_eq_true a1,of_decide_eq_true a2⟩
  ·rintro⟨⟨a1,a2,a3,a4,a5,a6,a7,a8,a9,b1,b2,b3,b4⟩,b5,b6⟩;simp[*]
 cases k:Ah f (xK f)with
 |true=>
  have:=key.1 k;simp only[Bool.not_true];exact(Bool.eq_false_iff.2 this).symm
 |false=>
  simp only[Bool.not_false];cases k2:(ic.any (fun n=>!dT f n)||(decide (f.day≠0)||decide (f.kind≠0)))with
  |true=>rfl
  |false=>
   have:=key.2 (by rw[k2];simp);rw[k]at this;cases this
theorem Zn(f:Fact):jV f=gJ f:=by
 unfold jV gJ;by_cases h1:(!isName f.key)=true
 ·rw[if_pos h1,if_pos h1]
 rw[if_neg h1,if_neg h1];by_cases h2:decide (f.lW<0)=true
 ·rw[if_pos h2,if_pos h2]
 rw[if_neg h2,if_neg h2];by_cases h3:f.cancelled=true
 ·rw[if_pos h3,if_pos h3,anP h3];by_cases k:(ic.any fun n=>!dT f n)=true
  ·rw[if_pos k,if_pos (by rw[k];rfl)]
  ·rw[if_neg k];by_cases k2:(decide (f.day≠0)||decide (f.kind≠0))=true
   ·rw[if_pos k2,if_pos (by rw[k2,Bool.or_true])]
   ·rw[if_neg k2,if_neg (by rw[Bool.or_eq_true];exact fun e=>e.elim k k2)]
 rw[if_neg h3,if_neg h3];by_cases h4:(decide (f.day< -25567)||decide (84005<f.day))=true
 ·rw[if_pos h4,if_pos h4]
 rw[if_neg h4,if_neg h4,an6];unfold wU;cases h:eW f.kind with
 |none=>rfl
 |some r=>
  simp only[Option.isSome_some,Bool.not_true,Bool.false_eq_true,if_false];by_cases hz:lz f.kind 0=true
  ·by_cases hn:jv f.dM=0
   ·refine ID h ic (fun _ h=>h) fun _ e=>?_;rw[e]at hn;revert hn;decide
   ·have e:rh f 0=jv f.dM:=rfl;have e':ee f r.code 0 (oD r 0)=jv f.dM:=rfl;have h1:=(Gv h (n:=0) zD).1;show(if lz f.kind 0=true then(if decide (rh f 0≠0)=true then rh f 0 else _)else _)=(if me r (0:Int).toNat=true then(if decide (ee f r.code 0 (oD r 0)≠0)=true then ee f r.code 0 (oD r 0)else _)else _);rw[h1,if_pos hz,if_pos hz,e,e',if_pos (decide_eq_true hn),if_pos (decide_eq_true hn)]
  ·refine ID h ic (fun _ h=>h) fun k=>?_;have:=List.all_eq_true.1 alS f.kind (FA.2 (CO h));rw[k]at this;exact absurd (by simpa using this) hz
open Go.Proofs Go.Proofs.Tryz
set_option maxRecDepth 20000
structure sL(f:Fact):Prop where
 fL:∀p∈f.fL,p.gb.length≤200∧p.dm.length≤13
 dm:f.dm.length≤13
 mN:f.mN.length≤13
 mU:f.mU.length≤13
 d_:jj f.d_
 ratio:jj f.ratio
 share:jj f.share
 opts:∀o∈f.opts,jj o.ratio∧jj o.d_∧jj o.value
theorem aay{a:aa}(h:(decide (0<(a.length:Int))&&decide (((a.headD 0).toNat:Int)=45))=true):(a.length:Int)-1=jD a:=by
 rw[Bool.and_eq_true]at h;have h1:a≠[]:=by rintro rfl;simp at h
 unfold jD;rw[if_pos (by rw[h.2];simpa using h1)]
theorem aax{a:aa}(h:(decide (0<(a.length:Int))&&decide (((a.headD 0).toNat:Int)=45))=false):(a.length:Int)=jD a:=by
 unfold jD;rw[if_neg];intro k;rw[Bool.and_eq_true]at k;have h1:a≠[]:=by simpa using k.1
 have:0<a.length:=List.length_pos_iff.2 h1;rw[k.2]at h;simp at h;exact h1 h
theorem ai7{f:Fact}{c:Bool}(h:c=false)(h2:(!isName f.other)=true):23=mD f c:=by
 have e:jv f.other=23:=by unfold jv;rw[if_pos h2]
 have:=LJ (f:=f) h (by rw[e];decide);rwa[e]at this
theorem UK{f:Fact}(h2:(!isName f.other)=false):decide (jv f.other≠0)=false:=by
 have e:jv f.other=0:=by unfold jv;rw[if_neg (by rw[h2];simp)]
 rw[e];decide
theorem num_1{f:aM}(h:decide (g_ f≠0)=true):1=jw f:=by unfold jw;rw[if_pos h]
theorem aij{f:aM}(h:decide (g_ f≠0)=false)(h2:(decide (40<jD f.num)||decide (40<jD f.den))=true):4=jw f:=by
 unfold jw;rw[if_neg (by rw[h];simp),if_pos];simp only[Bool.or_eq_true,decide_eq_true_eq]at h2⊢;omega
theorem aik{f:aM}(h:decide (g_ f≠0)=false)(h2:(decide (40<jD f.num)||decide (40<jD f.den))=false):0=jw f:=by
 unfold jw;rw[if_neg (by rw[h];simp),if_neg];simp only[Bool.or_eq_false_iff,decide_eq_false_iff_not,decide_eq_true_eq]at h2⊢;omega
theorem HY(a:aa):Fc Tryz.prog 194 [.str a] (.i (jD a)):=by
 refine Fc.mk' [2] func194 rfl ntmps194 rfl rfl rfl (fun t w=>results_tmp results194 t _ w) ?_;refine J.l4 0 rfl (fun hb=>?_);simp only[aG]at hb;refine J.seq (J.af [.p] ?_);refine .ag rfl rfl<|.nil ?_;refine J.seq (J.seq (J.af [.p,.p,.p,.p,.p,.p,.p,.p] ?_));refine .mv rfl rfl<|.P rfl (fV underlying33 rfl)<|.P rfl (gn rfl rfl)<|.mv rfl rfl<|.gT rfl (.inl rfl) rfl rfl rfl (fun hg=>pk (fun _=>aT rfl _))<|.gT rfl (.inl rfl) rfl rfl rfl (fun hg=>pk (fun _=>nr underlying33 (bh rfl hg) rfl (c:=a.headD 0) zD (EP rfl (by simpa using hg)) _))<|.gT rfl (.inl rfl) rfl rfl rfl (fun hg=>pk (fun _=>jQ (bh rfl hg) rfl _))<|.P rfl (gO rfl rfl)<|.nil ?_;refine J.cond rfl (fun h1=>?_) (fun h1=>?_)
 ·refine J.seq (J.af [.p,.p,.p,.p] ?_);refine .mv rfl rfl<|.P rfl (fV underlying33 rfl)<|.P rfl (dw rfl rfl (aw zO))<|.ag rfl rfl<|.nil ?_;refine J.ret (?_);exact dn rfl (Sub.int (by exact aay h1))
 ·refine J.skip ?_;refine J.seq (J.af [.p,.p,.p] ?_);refine .mv rfl rfl<|.P rfl (fV underlying33 rfl)<|.ag rfl rfl<|.nil ?_;refine J.ret (?_);exact dn rfl (Sub.int (by exact aax h1))
structure ZD(s:aa)where
 pre:List UInt8
 rest:List UInt8
 hx:s=pre++rest
 hp:pre.all (fun c=>65≤c.toNat&&c.toNat≤90)=true
theorem DI(s:aa):Fc Tryz.prog 139 [.str s] (.b (fF s)):=by
 refine Fc.mk' [2] func139 rfl ntmps139 rfl rfl rfl (fun t w=>results_tmp results139 t _ w) ?_;refine J.l4 0 rfl (fun hb=>?_);simp only[aG]at hb;refine J.seq (J.af [.p] ?_);refine .ag rfl rfl<|.nil ?_;refine J.seq (J.seq (J.af [.p] ?_));refine .ag rfl rfl<|.nil ?_;refine J.block ?_;refine J.loop (ι:=ZD s) (fun sx=>[(0,.str s),(3,.i sx.pre.length)]) (fun sx=>[]) (fun sx=>sx.rest.length) ⟨[],s,rfl,rfl⟩ ?_ ?_
 ·exact Le.mk rfl (.s rfl rfl (.s rfl rfl .nil)) .nil
 ·rintro⟨pre,rest,hx,hp⟩;show J _ _ _ _ [(0,.str s),(3,.i pre.length)] [];have hl:=congrArg List.length hx;simp only[List.length_append]at hl;rcases rest with _|⟨x,rest⟩
  ·skip;refine J.seq (J.seq (J.af [.p,.p,.p,.p] ?_));refine .mv rfl rfl<|.mv rfl rfl<|.P rfl (fV underlying9 rfl)<|.P rfl (bQ rfl rfl)<|.nil ?_;refine J.eF rfl (by simp at hl⊢;omega) ?_;refine J.exit (dO (dG ?_));refine J.seq (J.af [.p,.p,.p,.p] ?_);refine .mv rfl rfl<|.P rfl (fV underlying9 rfl)<|.P rfl (jQ rfl rfl)<|.ag rfl rfl<|.nil ?_;refine J.ret (?_);exact dn rfl (Sub.bool (by grind[fF]))
  ·simp only[List.length_cons]at hl;refine J.seq (J.seq (J.af [.p,.p,.p,.p] ?_));refine .mv rfl rfl<|.mv rfl rfl<|.P rfl (fV underlying9 rfl)<|.P rfl (bQ rfl rfl)<|.nil ?_;refine J.gu rfl zQ ?_;refine J.skip ?_;refine J.seq ?_;refine J.block ?_;refine J.seq (J.af [.p,.p,.p,.p,.p,.p,.p,.p,.p,.p] ?_);refine .mv rfl rfl<|.mv rfl rfl<|.P rfl (nr underlying9 rfl rfl zO (mu hx rfl))<|.P rfl (bQ rfl rfl)<|.mv rfl rfl<|.gF rfl (.inl rfl) rfl rfl rfl (fun hg=>pk (fun _=>aT rfl _))<|.gF rfl (.inl rfl) rfl rfl rfl (fun hg=>pk (fun _=>aT rfl _))<|.gF rfl (.inl rfl) rfl rfl rfl (fun hg=>pk (fun _=>nr underlying9 (bh rfl (nt hg)) (bh rfl (nt hg)) zO (mu hx rfl) _))<|.gF rfl (.inl rfl) rfl rfl rfl (fun hg=>pk (fun _=>gn (bh rfl (nt hg)) rfl _))<|.P rfl (nw rfl rfl)<|.nil ?_;refine J.cond rfl (fun h1=>?_) (fun h1=>?_)
   ·refine J.seq (J.af [.p] ?_);refine .ag rfl rfl<|.nil ?_;refine J.ret (jU (sc (jU (?_))));exact dn rfl (Sub.bool (by grind[fF]))
   ·refine J.skip ?_;refine J.nil (cn ?_);refine J.af [.p,.p,.p] ?_;refine .mv rfl rfl<|.P rfl (bU rfl rfl (aw zO))<|.ag rfl rfl<|.nil ?_;refine J.nil (cZ ?_);exact⟨⟨pre++[x],rest,by simp[hx],by grind⟩,by simp,Le.mk rfl (.s rfl rfl (.cons rfl (Sub.int zS) rfl .nil)) .nil⟩
theorem Uk(f:aM)(hf:jj f):Fc Tryz.prog 190 [.agg (cj f)] (.i (jw f)):=by
 refine Fc.mk' [2] func190 rfl ntmps190 rfl rfl rfl (fun t w=>results_tmp results190 t _ w) ?_;refine go [] ?_;refine oP (ai call249 rfl (Zh _ zA)) ?_;refine br (fun h1=>?_) (fun h1=>?_)
 ·exact ah rfl (Sub.int (by exact num_1 h1))
 ·refine oP (ai call194 rfl (HY _)) ?_;refine gP (fun hg=>ai call194 rfl (HY _)) ?_;refine br (fun h2=>?_) (fun h2=>?_)
  ·exact ah rfl (Sub.int (by exact aij h1 h2))
  ·exact ah rfl (Sub.int (by exact aik h1 h2))
theorem air(k:Int):Fc Tryz.prog 192 [.i k] (.b (AF k)):=by
 refine Fc.mk' [2] func192 rfl ntmps192 rfl rfl rfl (fun t w=>results_tmp results192 t _ w) ?_;refine go [] ?_;exact ah rfl (Sub.refl _)
theorem an1(a:aa)(pos:Bool):Fc Tryz.prog 140 [.str a,.str (if pos then[49]else[])] (.i (xL pos a)):=by
 refine Fc.mk' [4] func140 rfl ntmps140 rfl rfl rfl (fun t w=>results_tmp results140 t _ w) ?_;refine go [] ?_;refine oP (ai call193 rfl (Za _)) ?_;refine br (fun h1=>?_) (fun h1=>?_)
 ·exact ah rfl (Sub.int (by unfold xL;exact iT h1))
 ·refine oP (ai call194 rfl (HY _)) ?_;refine br (fun h2=>?_) (fun h2=>?_)
  ·exact ah rfl (Sub.int (by unfold xL;exact iF h1 (iT h2)))
  ·refine oP (ai call195 rfl (x1 _ _)) ?_;refine br (fun h3=>?_) (fun h3=>?_)
   ·exact ah rfl (Sub.int (by unfold xL;exact iF h1 (iF h2 (iT h3))))
   ·exact ah rfl (Sub.int (by unfold xL;exact iF h1 (iF h2 (iF h3 (rfl)))))
theorem MN(a:aa)(pos:Bool):Fc Tryz.prog 140 [.str a,.str (if pos then[49]else[])] (.i (e6 pos false ⟨a,[]⟩)):=by
 have:=an1 a pos;rwa[an3]at this
theorem Xm(a:aa):Fc Tryz.prog 140 [.str a,.str [49]] (.i (e6 true false ⟨a,[]⟩)):=MN a true
theorem an2(a:aa):Fc Tryz.prog 140 [.str a,.str []] (.i (e6 false false ⟨a,[]⟩)):=MN a false
theorem aim(f:aM)(pos:Bool)(hf:jj f):Fc Tryz.prog 142 [.agg (cj f),.b pos] (.i (zC pos f)):=by
 refine Fc.mk' [4] func142 rfl ntmps142 rfl rfl rfl (fun t w=>results_tmp results142 t _ w) ?_;refine go [] ?_;refine oP (ai call190 rfl (Uk _ zA)) ?_;refine br (fun h1=>?_) (fun h1=>?_)
 ·exact ah rfl (Sub.int (by unfold zC;exact iT h1))
 ·refine oP (ai call191 rfl (xA _ zA)) ?_;refine gP (fun hg=>ai call191 rfl (xA _ zA)) ?_;refine br (fun h2=>?_) (fun h2=>?_)
  ·exact ah rfl (Sub.int (by unfold zC;exact iF h1 (iT h2)))
  ·exact ah rfl (Sub.int (by unfold zC;exact iF h1 (iF h2 (rfl))))
theorem zB(f:aM)(pos:Bool)(hf:jj f):Fc Tryz.prog 142 [.agg (cj f),.b pos] (.i (e6 pos false f)):=by
 have:=aim f pos hf;rwa[ain]at this
theorem T2(s:aa):Fc Tryz.prog 137 [.str s] (.i (jv s)):=by
 refine Fc.mk' [2] func137 rfl ntmps137 rfl rfl rfl (fun t w=>results_tmp results137 t _ w) ?_;refine go [] ?_;refine oP (ai call94 rfl (w8 _)) ?_;refine br (fun h1=>?_) (fun h1=>?_)
 ·exact ah rfl (Sub.int (by unfold jv;exact iT h1))
 ·exact ah rfl (Sub.int (by unfold jv;exact iF h1 (rfl)))
theorem ai8(f:Fact):Fc Tryz.prog 138 [.agg (aX f)] (.i (mD f (AF f.kind))):=by
 refine Fc.mk' [2] func138 rfl ntmps138 rfl rfl rfl (fun t w=>results_tmp results138 t _ w) ?_;refine go [] ?_;refine oP (ai call192 rfl (air _)) ?_;refine br (fun h1=>?_) (fun h1=>?_)
 ·refine oP (ai call139 rfl (DI _)) ?_;refine br (fun h2=>?_) (fun h2=>?_)
  ·exact ah rfl (Sub.int (by exact LG h1 h2))
  ·refine br (fun h3=>?_) (fun h3=>?_)
   ·exact ah rfl (Sub.int (by exact LH h1 h2 h3))
   ·exact ah rfl (Sub.int (by exact LI h1 h2 h3))
 ·refine oP (ai call94 rfl (w8 _)) ?_;refine br (fun h4=>?_) (fun h4=>?_)
  ·exact ah rfl (Sub.int (by exact ai7 h1 h4))
  ·refine br (fun h5=>?_) (fun h5=>?_)
   ·exact ah rfl (Sub.int (by exact LK h1 (UK h4) h5))
   ·exact ah rfl (Sub.int (by exact LL h1 (UK h4) h5))
@[reducible] def sK(l:List Int):D:=.snap 1 false (l.map fun(n:Int)=>[D.i n])
theorem SE(k n:Int):(if zR k n then([49]:aa)else[])=if(decide (n=6)||(decide (n=5)&&(decide (k=3)||decide (k=4))))=true then[]else[49]:=by
 unfold zR;cases(decide (n=6)||(decide (n=5)&&(decide (k=3)||decide (k=4))))<;>rfl
theorem acu(k:Int):(ri k).length≤5:=by
 have H:∀(c:Prop)[Decidable c](a b:List Int),a.length≤5→b.length≤5→(if c then a else b).length≤5:=fun c _ a b ha hb=>by split<;>assumption
 unfold ri;repeat(first|decide|refine H _ _ _ zD ?_)
theorem IP(s:aa):decide (s=[])=decide ((⟨s,[]⟩:aM)=c6):=by
 rw[decide_eq_decide];simp[c6]
theorem akQ{k:Int}(h:ri k=[]):Sub (D.raw (Value.slice none 0 0)) (sK (ri k)):=by rw[h];exact Sub.nil _ _
theorem agM(k n:Int):Fc Tryz.prog 141 [.i k,.i n] (.str (if zR k n then[49]else[])):=by
 refine Fc.mk' [4] func141 rfl ntmps141 rfl rfl rfl (fun t w=>results_tmp results141 t _ w) ?_;refine go [] ?_;refine br (fun h1=>?_) (fun h1=>?_)
 ·exact ah rfl (Sub.str (by rw[SE];exact iT h1))
 ·exact ah rfl (Sub.str (by rw[SE];exact iF h1 (rfl)))
theorem acv(k:Int):Fc Tryz.prog 136 [.i k] (sK (ri k)):=by
 refine Fc.mk' [2] func136 rfl ntmps136 rfl rfl rfl (fun t w=>results_tmp results136 t _ w) ?_;refine go [] ?_;refine br (fun h1=>?_) (fun h1=>?_)
 ·refine bk h1 ?_;refine oP (bK (n:=2) (rows:=[[D.i 2],[D.i 5]]) underlying25 sizeOf3 rfl rfl rfl zeroValue3 rfl rfl rfl rfl rfl rfl rfl) ?_;exact ah rfl (Sub.snap (by obtain rfl:=of_decide_eq_true h1;rfl))
 ·have bJ:=h1;try simp only[bs]at bJ
  refine br (fun h2=>?_) (fun h2=>?_)
  ·refine bk h2 ?_;refine oP (bK (n:=2) (rows:=[[D.i 2],[D.i 5]]) underlying25 sizeOf3 rfl rfl rfl zeroValue3 rfl rfl rfl rfl rfl rfl rfl) ?_;exact ah rfl (Sub.snap (by obtain rfl:=of_decide_eq_true h2;rfl))
  ·have de:=h2;try simp only[bs]at de
   refine br (fun h3=>?_) (fun h3=>?_)
   ·refine bk h3 ?_;refine oP (bK (n:=2) (rows:=[[D.i 2],[D.i 5]]) underlying25 sizeOf3 rfl rfl rfl zeroValue3 rfl rfl rfl rfl rfl rfl rfl) ?_;exact ah rfl (Sub.snap (by obtain rfl:=of_decide_eq_true h3;rfl))
   ·have fI:=h3;try simp only[bs]at fI
    refine br (fun h4=>?_) (fun h4=>?_)
    ·refine bk h4 ?_;refine oP (bK (n:=2) (rows:=[[D.i 2],[D.i 5]]) underlying25 sizeOf3 rfl rfl rfl zeroValue3 rfl rfl rfl rfl rfl rfl rfl) ?_;exact ah rfl (Sub.snap (by obtain rfl:=of_decide_eq_true h4;rfl))
    ·have fU:=h4;try simp only[bs]at fU
     refine br (fun h5=>?_) (fun h5=>?_)
     ·refine oP (bK (n:=2) (rows:=[[D.i 2],[D.i 5]]) underlying25 sizeOf3 rfl rfl rfl zeroValue3 rfl rfl rfl rfl rfl rfl rfl) ?_;exact ah rfl (Sub.snap (by obtain rfl:=of_decide_eq_true h5;rfl))
     ·have lJ:=h5;try simp only[bs]at lJ
      refine br (fun h6=>?_) (fun h6=>?_)
      ·refine oP (bK (n:=4) (rows:=[[D.i 0],[D.i 4],[D.i 5],[D.i 6]]) underlying25 sizeOf3 rfl rfl rfl zeroValue3 rfl rfl rfl rfl rfl rfl rfl) ?_;exact ah rfl (Sub.snap (by obtain rfl:=of_decide_eq_true h6;rfl))
      ·have tG:=h6;try simp only[bs]at tG
       refine br (fun h7=>?_) (fun h7=>?_)
       ·refine oP (bK (n:=5) (rows:=[[D.i 0],[D.i 4],[D.i 5],[D.i 6],[D.i 10]]) underlying25 sizeOf3 rfl rfl rfl zeroValue3 rfl rfl rfl rfl rfl rfl rfl) ?_;exact ah rfl (Sub.snap (by obtain rfl:=of_decide_eq_true h7;rfl))
       ·have tH:=h7;try simp only[bs]at tH
        refine br (fun h8=>?_) (fun h8=>?_)
        ·refine bk h8 ?_;refine oP (bK (n:=2) (rows:=[[D.i 0],[D.i 7]]) underlying25 sizeOf3 rfl rfl rfl zeroValue3 rfl rfl rfl rfl rfl rfl rfl) ?_;exact ah rfl (Sub.snap (by obtain rfl:=of_decide_eq_true h8;rfl))
        ·have tI:=h8;try simp only[bs]at tI
         refine br (fun h9=>?_) (fun h9=>?_)
         ·refine bk h9 ?_;refine oP (bK (n:=2) (rows:=[[D.i 0],[D.i 7]]) underlying25 sizeOf3 rfl rfl rfl zeroValue3 rfl rfl rfl rfl rfl rfl rfl) ?_;exact ah rfl (Sub.snap (by obtain rfl:=of_decide_eq_true h9;rfl))
         ·have tJ:=h9;try simp only[bs]at tJ
          refine br (fun ct=>?_) (fun ct=>?_)
          ·refine bk ct ?_;refine oP (bK (n:=2) (rows:=[[D.i 0],[D.i 7]]) underlying25 sizeOf3 rfl rfl rfl zeroValue3 rfl rfl rfl rfl rfl rfl rfl) ?_;exact ah rfl (Sub.snap (by obtain rfl:=of_decide_eq_true ct;rfl))
          ·have tD:=ct;try simp only[bs]at tD
           refine br (fun cI=>?_) (fun cI=>?_)
           ·refine oP (bK (n:=2) (rows:=[[D.i 0],[D.i 7]]) underlying25 sizeOf3 rfl rfl rfl zeroValue3 rfl rfl rfl rfl rfl rfl rfl) ?_;exact ah rfl (Sub.snap (by obtain rfl:=of_decide_eq_true cI;rfl))
           ·have tE:=cI;try simp only[bs]at tE
            refine br (fun dI=>?_) (fun dI=>?_)
            ·refine oP (bK (n:=4) (rows:=[[D.i 1],[D.i 2],[D.i 4],[D.i 5]]) underlying25 sizeOf3 rfl rfl rfl zeroValue3 rfl rfl rfl rfl rfl rfl rfl) ?_;exact ah rfl (Sub.snap (by obtain rfl:=of_decide_eq_true dI;rfl))
            ·have tF:=dI;try simp only[bs]at tF
             refine br (fun fR=>?_) (fun fR=>?_)
             ·refine oP (bK (n:=3) (rows:=[[D.i 0],[D.i 7],[D.i 8]]) underlying25 sizeOf3 rfl rfl rfl zeroValue3 rfl rfl rfl rfl rfl rfl rfl) ?_;exact ah rfl (Sub.snap (by obtain rfl:=of_decide_eq_true fR;rfl))
             ·have Cw:=fR;try simp only[bs]at Cw
              refine br (fun mc=>?_) (fun mc=>?_)
              ·refine oP (bK (n:=5) (rows:=[[D.i 0],[D.i 1],[D.i 7],[D.i 8],[D.i 9]]) underlying25 sizeOf3 rfl rfl rfl zeroValue3 rfl rfl rfl rfl rfl rfl rfl) ?_;exact ah rfl (Sub.snap (by obtain rfl:=of_decide_eq_true mc;rfl))
              ·have Cx:=mc;try simp only[bs]at Cx
               refine br (fun mW=>?_) (fun mW=>?_)
               ·refine oP (bK (n:=2) (rows:=[[D.i 0],[D.i 11]]) underlying25 sizeOf3 rfl rfl rfl zeroValue3 rfl rfl rfl rfl rfl rfl rfl) ?_;exact ah rfl (Sub.snap (by obtain rfl:=of_decide_eq_true mW;rfl))
               ·have Cy:=mW;try simp only[bs]at Cy
                refine br (fun jc=>?_) (fun jc=>?_)
                ·have xj:=jc;try simp only[bs]at xj
                 refine oP (bK (n:=3) (rows:=[[D.i 0],[D.i 3],[D.i 12]]) underlying25 sizeOf3 rfl rfl rfl zeroValue3 rfl rfl rfl rfl rfl rfl rfl) ?_;exact ah rfl (Sub.snap (by obtain rfl:=of_decide_eq_true jc;rfl))
                ·have xj:=jc;try simp only[bs]at xj
                 refine br (fun qj=>?_) (fun qj=>?_)
                 ·have xk:=qj;try simp only[bs]at xk
                  refine oP (bK (n:=5) (rows:=[[D.i 0],[D.i 1],[D.i 4],[D.i 7],[D.i 8]]) underlying25 sizeOf3 rfl rfl rfl zeroValue3 rfl rfl rfl rfl rfl rfl rfl) ?_;exact ah rfl (Sub.snap (by obtain rfl:=of_decide_eq_true qj;rfl))
                 ·have xk:=qj;try simp only[bs]at xk
                  refine br (fun sT=>?_) (fun sT=>?_)
                  ·have xl:=sT;try simp only[bs]at xl
                   refine oP (bK (n:=3) (rows:=[[D.i 1],[D.i 2],[D.i 8]]) underlying25 sizeOf3 rfl rfl rfl zeroValue3 rfl rfl rfl rfl rfl rfl rfl) ?_;exact ah rfl (Sub.snap (by obtain rfl:=of_decide_eq_true sT;rfl))
                  ·have xl:=sT;try simp only[bs]at xl
                   exact ah rfl (by exact akQ (by simp only[ri, *,if_false]))
structure aeb(k n:Int)where
 pre:List Int
 rest:List Int
 hx:ri k=pre++rest
 hp:pre.any (fun m=>decide (m=n))=false
theorem aea(k n:Int):Fc Tryz.prog 98 [.i k,.i n] (.b (lz k n)):=by
 refine Fc.mk' [4] func98 rfl ntmps98 rfl rfl rfl (fun t w=>results_tmp results98 t _ w) ?_;have iC:=acu k;refine go [] ?_;refine oP (ai call136 rfl (acv _)) ?_;refine J.loop (ι:=aeb k n) (fun sx=>[(1,.i n),(5,sK (ri k)),(6,.i sx.pre.length)]) (fun sx=>[]) (fun sx=>sx.rest.length) ⟨[],_,rfl,rfl⟩ ?_ ?_
 ·exact Le.mk rfl (.s rfl rfl (.s rfl rfl (.s rfl rfl .nil))) .nil
 ·rintro⟨pre,rest,hx,hp⟩;show J _ _ _ _ [(1,.i n),(5,sK (ri k)),(6,.i pre.length)] [];have hl:=congrArg List.length hx;simp only[List.length_append]at hl;rcases rest with _|⟨x,rest⟩
  ·skip;refine go [] ?_;refine a_ (by simp at hl⊢;omega) ?_;refine go [] ?_;exact ah rfl (Sub.bool (by unfold lz;grind))
  ·simp only[List.length_cons]at hl;refine go [] ?_;refine bk zQ ?_;refine ix zO (aS (fun(n:Int)=>[D.i n]) hx rfl) ?_;refine br (fun h1=>?_) (fun h1=>?_)
   ·have bJ:=h1;try simp only[bs]at bJ
    exact ah rfl (Sub.bool (by unfold lz;grind))
   ·have bJ:=h1;try simp only[bs]at bJ
    refine sd (aw zO) ?_;exact nx ⟨pre++[x],rest,by simp[hx],by grind⟩ zS (Le.mk rfl (.s rfl rfl (.s rfl rfl (.cons rfl (Sub.int zS) rfl .nil))) .nil)
theorem an7(k:Int):Fc Tryz.prog 97 [.i k] (.str (xM k)):=by
 refine Fc.mk' [2] func97 rfl ntmps97 rfl rfl rfl (fun t w=>results_tmp results97 t _ w) ?_;refine go [] ?_;refine br (fun h1=>?_) (fun h1=>?_)
 ·have bJ:=h1;try simp only[bs]at bJ
  exact ah rfl (Sub.str (by obtain rfl:=of_decide_eq_true h1;rfl))
 ·have bJ:=h1;try simp only[bs]at bJ
  refine br (fun h2=>?_) (fun h2=>?_)
  ·have de:=h2;try simp only[bs]at de
   exact ah rfl (Sub.str (by obtain rfl:=of_decide_eq_true h2;rfl))
  ·have de:=h2;try simp only[bs]at de
   refine br (fun h3=>?_) (fun h3=>?_)
   ·have fI:=h3;try simp only[bs]at fI
    exact ah rfl (Sub.str (by obtain rfl:=of_decide_eq_true h3;rfl))
   ·have fI:=h3;try simp only[bs]at fI
    refine br (fun h4=>?_) (fun h4=>?_)
    ·have fU:=h4;try simp only[bs]at fU
     exact ah rfl (Sub.str (by obtain rfl:=of_decide_eq_true h4;rfl))
    ·have fU:=h4;try simp only[bs]at fU
     refine br (fun h5=>?_) (fun h5=>?_)
     ·have lJ:=h5;try simp only[bs]at lJ
      exact ah rfl (Sub.str (by obtain rfl:=of_decide_eq_true h5;rfl))
     ·have lJ:=h5;try simp only[bs]at lJ
      refine br (fun h6=>?_) (fun h6=>?_)
      ·have tG:=h6;try simp only[bs]at tG
       exact ah rfl (Sub.str (by obtain rfl:=of_decide_eq_true h6;rfl))
      ·have tG:=h6;try simp only[bs]at tG
       refine br (fun h7=>?_) (fun h7=>?_)
       ·have tH:=h7;try simp only[bs]at tH
        exact ah rfl (Sub.str (by obtain rfl:=of_decide_eq_true h7;rfl))
       ·have tH:=h7;try simp only[bs]at tH
        refine br (fun h8=>?_) (fun h8=>?_)
        ·have tI:=h8;try simp only[bs]at tI
         exact ah rfl (Sub.str (by obtain rfl:=of_decide_eq_true h8;rfl))
        ·have tI:=h8;try simp only[bs]at tI
         refine br (fun h9=>?_) (fun h9=>?_)
         ·have tJ:=h9;try simp only[bs]at tJ
          exact ah rfl (Sub.str (by obtain rfl:=of_decide_eq_true h9;rfl))
         ·have tJ:=h9;try simp only[bs]at tJ
          refine br (fun ct=>?_) (fun ct=>?_)
          ·have tD:=ct;try simp only[bs]at tD
           exact ah rfl (Sub.str (by obtain rfl:=of_decide_eq_true ct;rfl))
          ·have tD:=ct;try simp only[bs]at tD
           refine br (fun cI=>?_) (fun cI=>?_)
           ·have tE:=cI;try simp only[bs]at tE
            exact ah rfl (Sub.str (by obtain rfl:=of_decide_eq_true cI;rfl))
           ·have tE:=cI;try simp only[bs]at tE
            refine br (fun dI=>?_) (fun dI=>?_)
            ·have tF:=dI;try simp only[bs]at tF
             exact ah rfl (Sub.str (by obtain rfl:=of_decide_eq_true dI;rfl))
            ·have tF:=dI;try simp only[bs]at tF
             refine br (fun fR=>?_) (fun fR=>?_)
             ·have Cw:=fR;try simp only[bs]at Cw
              exact ah rfl (Sub.str (by obtain rfl:=of_decide_eq_true fR;rfl))
             ·have Cw:=fR;try simp only[bs]at Cw
              refine br (fun mc=>?_) (fun mc=>?_)
              ·have Cx:=mc;try simp only[bs]at Cx
               exact ah rfl (Sub.str (by obtain rfl:=of_decide_eq_true mc;rfl))
              ·have Cx:=mc;try simp only[bs]at Cx
               refine br (fun mW=>?_) (fun mW=>?_)
               ·have Cy:=mW;try simp only[bs]at Cy
                exact ah rfl (Sub.str (by obtain rfl:=of_decide_eq_true mW;rfl))
               ·have Cy:=mW;try simp only[bs]at Cy
                refine br (fun jc=>?_) (fun jc=>?_)
                ·have xj:=jc;try simp only[bs]at xj
                 exact ah rfl (Sub.str (by obtain rfl:=of_decide_eq_true jc;rfl))
                ·have xj:=jc;try simp only[bs]at xj
                 refine br (fun qj=>?_) (fun qj=>?_)
                 ·have xk:=qj;try simp only[bs]at xk
                  exact ah rfl (Sub.str (by obtain rfl:=of_decide_eq_true qj;rfl))
                 ·have xk:=qj;try simp only[bs]at xk
                  refine br (fun sT=>?_) (fun sT=>?_)
                  ·have xl:=sT;try simp only[bs]at xl
                   exact ah rfl (Sub.str (by obtain rfl:=of_decide_eq_true sT;rfl))
                  ·have xl:=sT;try simp only[bs]at xl
                   exact ah rfl (Sub.str (by simp at*;simp[xM,eW, *]))
theorem Xv(f:Fact)(n:Int)(h0:0≤n)(hn:n<13):Fc Tryz.prog 95 [.agg (aX f),.i n] (.b (dT f n)):=by
 refine Fc.mk' [4] func95 rfl ntmps95 rfl rfl rfl (fun t w=>results_tmp results95 t _ w) ?_;refine go [] ?_;refine br (fun h1=>?_) (fun h1=>?_)
 ·have bJ:=h1;try simp only[bs]at bJ
  exact ah rfl (Sub.bool (by(try simp only[List.length_map]);(obtain rfl:=of_decide_eq_true h1;rfl)))
 ·have bJ:=h1;try simp only[bs]at bJ
  refine br (fun h2=>?_) (fun h2=>?_)
  ·have de:=h2;try simp only[bs]at de
   exact ah rfl (Sub.bool (by(try simp only[List.length_map]);(obtain rfl:=of_decide_eq_true h2;rfl)))
  ·have de:=h2;try simp only[bs]at de
   refine br (fun h3=>?_) (fun h3=>?_)
   ·have fI:=h3;try simp only[bs]at fI
    exact ah rfl (Sub.bool (by(try simp only[List.length_map]);(obtain rfl:=of_decide_eq_true h3;rfl)))
   ·have fI:=h3;try simp only[bs]at fI
    refine br (fun h4=>?_) (fun h4=>?_)
    ·have fU:=h4;try simp only[bs]at fU
     exact ah rfl (Sub.bool (by(try simp only[List.length_map]);(obtain rfl:=of_decide_eq_true h4;rfl)))
    ·have fU:=h4;try simp only[bs]at fU
     refine br (fun h5=>?_) (fun h5=>?_)
     ·have lJ:=h5;try simp only[bs]at lJ
      exact ah rfl (Sub.bool (by(try simp only[List.length_map]);(obtain rfl:=of_decide_eq_true h5;exact IP _)))
     ·have lJ:=h5;try simp only[bs]at lJ
      refine br (fun h6=>?_) (fun h6=>?_)
      ·have tG:=h6;try simp only[bs]at tG
       exact ah rfl (Sub.bool (by(try simp only[List.length_map]);(obtain rfl:=of_decide_eq_true h6;exact IP _)))
      ·have tG:=h6;try simp only[bs]at tG
       refine br (fun h7=>?_) (fun h7=>?_)
       ·have tH:=h7;try simp only[bs]at tH
        exact ah rfl (Sub.bool (by(try simp only[List.length_map]);(obtain rfl:=of_decide_eq_true h7;exact IP _)))
       ·have tH:=h7;try simp only[bs]at tH
        refine br (fun h8=>?_) (fun h8=>?_)
        ·have tI:=h8;try simp only[bs]at tI
         refine oP (xo (xs:=[f.d_.num,f.d_.den]) (ys:=[[],[]]) underlying35 (by kernel_rfl) (by kernel_rfl) (.cons zK underlying33 isAgg33 rfl (.cons zK underlying33 isAgg33 rfl (.nil _))) rfl rfl rfl rfl rfl rfl) ?_;exact ah rfl (Sub.bool (by(try simp only[List.length_map]);(obtain rfl:=of_decide_eq_true h8;exact Ej _ c6)))
        ·have tI:=h8;try simp only[bs]at tI
         refine br (fun h9=>?_) (fun h9=>?_)
         ·have tJ:=h9;try simp only[bs]at tJ
          refine oP (xo (xs:=[f.ratio.num,f.ratio.den]) (ys:=[[],[]]) underlying35 (by kernel_rfl) (by kernel_rfl) (.cons zK underlying33 isAgg33 rfl (.cons zK underlying33 isAgg33 rfl (.nil _))) rfl rfl rfl rfl rfl rfl) ?_;exact ah rfl (Sub.bool (by(try simp only[List.length_map]);(obtain rfl:=of_decide_eq_true h9;exact Ej _ c6)))
         ·have tJ:=h9;try simp only[bs]at tJ
          refine br (fun ct=>?_) (fun ct=>?_)
          ·have tD:=ct;try simp only[bs]at tD
           refine oP (xo (xs:=[f.share.num,f.share.den]) (ys:=[[],[]]) underlying35 (by kernel_rfl) (by kernel_rfl) (.cons zK underlying33 isAgg33 rfl (.cons zK underlying33 isAgg33 rfl (.nil _))) rfl rfl rfl rfl rfl rfl) ?_;exact ah rfl (Sub.bool (by(try simp only[List.length_map]);(obtain rfl:=of_decide_eq_true ct;exact Ej _ c6)))
          ·have tD:=ct;try simp only[bs]at tD
           refine br (fun cI=>?_) (fun cI=>?_)
           ·have tE:=cI;try simp only[bs]at tE
            exact ah rfl (Sub.bool (by(try simp only[List.length_map]);(obtain rfl:=of_decide_eq_true cI;rfl)))
           ·have tE:=cI;try simp only[bs]at tE
            refine br (fun dI=>?_) (fun dI=>?_)
            ·have tF:=dI;try simp only[bs]at tF
             exact ah rfl (Sub.bool (by(try simp only[List.length_map]);(obtain rfl:=of_decide_eq_true dI;rfl)))
            ·have tF:=dI;try simp only[bs]at tF
             exact ah rfl (Sub.bool (by(try simp only[List.length_map]);(have e12:n=12:=zO;subst e12;rfl)))
@[reducible] def qE(s:aa):Bool:=s.all fun c=>decide (c≠47)
theorem N':∀{a b c d:aa},a++47::b=c++47::d→(∀x∈a,x≠47)→(∀x∈c,x≠47)→a=c∧b=d
 |[],b,[],d,h,_,_=>by simpa using h
 |[],b,y::c,d,h,_,h2=>by simp at h;exact absurd h.1.symm (h2 y zS)
 |x::a,b,[],d,h,h1,_=>by simp at h;exact absurd h.1 (h1 x zS)
 |x::a,b,y::c,d,h,h1,h2=>by
  simp only[List.cons_append,List.cons.injEq]at h;obtain⟨e1,e2⟩:=N' h.2 (fun z hz=>h1 z (by simp[hz])) (fun z hz=>h2 z (by simp[hz]));exact⟨by rw[h.1,e1],e2⟩
theorem HP{s pre rest:aa}(h:s=pre++47::rest)(hp:qE pre=true):fX s 47=(pre,rest,true):=by
 have m6:∀x∈pre,x≠47:=fun x hx=>of_decide_eq_true (List.all_eq_true.1 hp x hx);rcases E_ 47 s with⟨h0,_,e,ha⟩|⟨_,ha⟩
 ·obtain⟨e1,e2⟩:=N' (h.symm.trans e) m6 ha;unfold fX;rw[if_pos h0,←e1,←e2]
 ·exact absurd rfl (ha 47 (by rw[h];simp))
theorem Z7{s:aa}(hp:qE s=true):fX s 47=(s,[],false):=by
 have m6:∀x∈s,x≠47:=fun x hx=>of_decide_eq_true (List.all_eq_true.1 hp x hx);rcases E_ 47 s with⟨h0,_,e,ha⟩|⟨h0,ha⟩
 ·exact absurd rfl (m6 47 (by rw[e];simp))
 ·unfold fX;rw[if_neg zO]
theorem ah'{s:aa}{x:UInt8}(h:qE s=true)(hx:decide ((x.toNat:Int)=47)=false):qE (s++[x])=true:=by
 have:x≠47:=by rintro rfl;exact absurd hx zD
 rw[qE,List.all_append,show(s.all fun c=>decide (c≠47))=true from h];simpa using this
theorem aej{s:aa}(h:0<s.length):s[(0:Int).toNat]?=some (s.headD 0):=by
 cases s with
 |nil=>simp at h
 |cons c r=>rfl
theorem ag6{s:aa}(hp:qE s=true):qB s=false:=by unfold qB;rw[Z7 hp];rfl
theorem ag3{s pre rest:aa}(h:s=pre++47::rest)(hp:qE pre=true)(hn:isName pre=false):qB s=false:=by unfold qB;rw[HP h hp,hn];rfl
theorem ag4{s pre rest:aa}(h:s=pre++47::rest)(hp:qE pre=true)(hd:rest.all bZ=false):qB s=false:=by unfold qB zf;rw[HP h hp];simp only;rw[hd];simp
theorem ag5{s pre rest:aa}(h:s=pre++47::rest)(hp:qE pre=true)(hn:isName pre=true)(hd:rest.all bZ=true):qB s=(decide (1≤(rest.length:Int))&&decide ((rest.length:Int)≤4)&&decide (((rest.headD 0).toNat:Int)≠48)):=by
 unfold qB zf;rw[HP h hp];simp only;rw[hd,hn,Bool.eq_iff_iff];simp only[Bool.true_and,Bool.and_eq_true,decide_eq_true_eq];omega
structure agY(s:aa)where
 pre:List UInt8
 rest:List UInt8
 hx:s=pre++rest
 hp:qE pre=true
structure agZ(s:aa)(pre rest:aa)(hx:s=pre++47::rest)(hp:qE pre=true)(hn:isName pre=true)where
 au:List UInt8
 aC:List UInt8
 aU:rest=au++aC
 hd:au.all bZ=true
theorem agX(s:aa):Fc Tryz.prog 200 [.str s] (.b (qB s)):=by
 refine Fc.mk' [2] func200 rfl ntmps200 rfl rfl rfl (fun t w=>results_tmp results200 t _ w) ?_;refine J.l4 0 rfl (fun hb=>?_);simp only[aG]at hb;refine go [] ?_;refine J.loop (ι:=agY s) (fun sx=>[(0,.str s),(3,.i (-1)),(4,.i sx.pre.length)]) (fun sx=>[]) (fun sx=>sx.rest.length) ⟨[],s,rfl,rfl⟩ ?_ ?_
 ·exact Le.mk rfl (.s rfl rfl (.s rfl rfl (.s rfl rfl .nil))) .nil
 ·rintro⟨pre,rest,hx,hp⟩;show J _ _ _ _ [(0,.str s),(3,.i (-1)),(4,.i pre.length)] [];have hl:=congrArg List.length hx;simp only[List.length_append]at hl;rcases rest with _|⟨x,rest⟩
  ·skip;refine go [] ?_;refine a_ (by simp at hl⊢;omega) ?_;refine go [] ?_;refine gP (d:=.str []) (fun hg=>absurd (show pa false (decide ((-1:Int)<0))=true from hg) zD) ?_;refine gP (d:=.b false) (fun hg=>absurd (show pa false (decide ((-1:Int)<0))=true from hg) zD) ?_;refine bk rfl ?_;exact ah rfl (Sub.bool (ag6 (by obtain rfl:s=pre:=(by simpa using hx);exact hp)).symm)
  ·simp only[List.length_cons]at hl;refine go [] ?_;refine bk zQ ?_;refine Fe zO (mu hx rfl) ?_;refine br (fun h1=>?_) (fun h1=>?_)
   ·refine go [] ?_;obtain rfl:x=47:=UInt8.toNat_inj.1 (by simp only[decide_eq_true_eq]at h1;have h47:x.toNat=47:=zO;rw[h47];rfl);refine gP (fun hg=>r7 underlying9 rfl (h:=pre.length) (r:=pre) (.inl ⟨rfl,rfl⟩) (.inr ⟨_,_,rfl,rfl⟩) zO zO (by rw[hx];simp)) ?_;refine gP (fun hg=>ai call94 rfl (w8 _)) ?_;refine br (fun h2=>?_) (fun h2=>?_)
    ·have de:=h2;try simp only[bs]at de
     exact ah rfl (Sub.bool (by exact(ag3 hx hp (by simpa using de.resolve_left zO)).symm))
    ·have de:=h2;try simp only[bs]at de
     have hn:isName pre=true:=de.2;refine sd (aw zO) ?_;refine oP (r7 underlying9 rfl (l:=pre.length+1) (r:=rest) (.inr ⟨_,_,rfl,tw rfl zS⟩) (.inl ⟨rfl,rfl⟩) (by simp at*;omega) zO (by rw[hx];simp;exact List.take_of_length_le zO)) ?_;refine J.loop (ι:=agZ s pre rest hx hp hn) (fun sx=>[(5,.str rest),(6,.i sx.au.length)]) (fun sx=>[]) (fun sx=>sx.aC.length) ⟨[],rest,rfl,rfl⟩ ?_ ?_
     ·exact Le.mk rfl (.s rfl rfl (.s rfl rfl .nil)) .nil
     ·rintro⟨au,aC,aU,hd⟩;show J _ _ _ _ [(5,.str rest),(6,.i au.length)] [];have bN:=congrArg List.length aU;simp only[List.length_append]at bN;rcases aC with _|⟨x2,aC⟩
      ·skip;refine go [] ?_;refine a_ (by simp at bN⊢;omega) ?_;refine go [] ?_;refine Ff (fun hg=>And.intro zD (aej (by simp[pa]at hg;omega))) ?_;exact ah rfl (Sub.bool (by(rw[ag5 hx hp hn (by obtain rfl:rest=au:=(by simpa using aU);exact hd)];done)))
      ·simp only[List.length_cons]at bN;refine go [] ?_;refine bk zQ ?_;refine Fe zO (mu aU rfl) ?_;refine Ff (fun hg=>And.intro zO (mu aU rfl)) ?_;refine br (fun h3=>?_) (fun h3=>?_)
       ·exact ah rfl (Sub.bool (by exact(ag4 hx hp (by grind[bZ])).symm))
       ·refine sd (aw zO) ?_;exact nx ⟨au++[x2],aC,by simp[aU],by grind[bZ]⟩ zS (Le.mk rfl (.s rfl rfl (.cons rfl (Sub.int zS) rfl .nil)) .nil)
   ·refine sd (aw zO) ?_;exact nx ⟨pre++[x],rest,by simp[hx],ah' hp zA⟩ zS (Le.mk rfl (.s rfl rfl (.s rfl rfl (.cons rfl (Sub.int zS) rfl .nil))) .nil)
theorem ag2(s:aa):Fc Tryz.prog 200 [.str s] (.b (qw s)):=by
 have:=agX s;rwa[ag1]at this
theorem aaz{s:aa}(h:(val s).natAbs<100000000000000000):(digits s).1.length≤17:=by
 rw[AK];refine zu 17 _ (Nat.lt_of_le_of_lt (Nat.le_of_eq ?_) h);unfold val;cases(digits s).2<;>simp
theorem alO{a b:aa}{n:Nat}(ha:(val a).natAbs≤n*10000000000000)(hb:b.length≤13):(val (qb a b)).natAbs≤(n+1)*10000000000000:=by
 have h1:=Am b;have h2:10^b.length≤10^13:=Nat.pow_le_pow_right zO hb;unfold qb;rw[gp];omega
theorem ahu{l pre au aC q:List du}{y:du}(h:l=pre++q)(h2:pre=au++y::aC):l=au++y::(aC++q):=by rw[h,h2];simp
theorem aiT{f:Fact}(h:decide ((f.opts.length:Int)=0)=false)(h2:decide (8<(f.opts.length:Int))=false):qH f=pX f.dM f.opts:=by rw[qH,if_neg (by rw[h];simp),if_neg (by rw[h2];simp)]
theorem aiU{f:Fact}(h:decide ((f.opts.length:Int)=0)=true):11=qH f:=by rw[qH,if_pos h]
theorem aiV{f:Fact}(h:decide ((f.opts.length:Int)=0)=false)(h2:decide (8<(f.opts.length:Int))=true):4=qH f:=by rw[qH,if_neg (by rw[h];simp),if_pos h2]
theorem aiJ{e:Int}{i:aa}{o:cT}{r:List cT}(hp:e=pX i (o::r))(h:(decide (o.other≠[])&&!isName o.other)=true):23=e:=by rw[hp,pX,zJ,if_pos h]
theorem aiK{e:Int}{i:aa}{o:cT}{r:List cT}(hp:e=pX i (o::r))(h:(decide (o.other≠[])&&!isName o.other)=false)(h2:(decide (o.other≠[])&&decide (o.other=i))=true):18=e:=by rw[hp,pX,zJ,if_neg (by rw[h];simp),if_pos h2]
theorem Cm{e:Int}{i:aa}{o:cT}{r:List cT}(hp:e=pX i (o::r))(h:(decide (o.other≠[])&&!isName o.other)=false)(h2:(decide (o.other≠[])&&decide (o.other=i))=false):e=nf [o.ratio,o.d_,o.value] (if F4 o=true then 2 else pX i r):=by
 rw[hp,pX,zJ,if_neg (by rw[h];simp),if_neg (by rw[h2];simp)]
structure ajn(f:Fact)where
 pre:List du
 rest:List du
 sum:aa
 hx:f.fL=pre++rest
 hp:r6 f=k_ f.dm pre sum rest
 Ru:(val sum).natAbs≤pre.length*10000000000000
 A8:f.fL.length≤64
structure ajo(f:Fact)(pre:List du)(x:du)(sum:aa)where
 au:List du
 aC:List du
 aU:pre=au++aC
 hq:au.any (fun y=>decide (y.gb=x.gb))=false
theorem ajm(f:Fact)(hf:sL f):Fc Tryz.prog 145 [.agg (aX f)] (.i (r6 f)):=by
 refine Fc.mk' [2] func145 rfl ntmps145 rfl rfl rfl (fun t w=>results_tmp results145 t _ w) ?_;refine J.vR 0 18 rfl rfl (fun hb=>?_);simp only[List.length_map,aG]at hb;refine go [] ?_;refine br (fun h1=>?_) (fun h1=>?_)
 ·exact ah rfl (Sub.int (by exact U8 (by simpa using h1)))
 ·refine J.loop (ι:=ajn f) (fun sx=>[(1,.box 0 0),(3,.str sx.sum),(4,.i sx.pre.length)]) (fun sx=>[(0,.cells (aX f))]) (fun sx=>sx.rest.length) ⟨[],_,[],rfl,U1 (by simpa using h1),by decide,by have h9:=h1;simp at h9;omega⟩ ?_ ?_
  ·exact Le.mk rfl (.s rfl rfl (.s rfl rfl (.s rfl rfl .nil))) (.cons rfl rfl .nil)
  ·rintro⟨pre,rest,sum,hx,hp,Ru,A8⟩;show J _ _ _ _ [(1,.box 0 0),(3,.str sum),(4,.i pre.length)] [(0,.cells (aX f))];have hl:=congrArg List.length hx;simp only[List.length_append]at hl;rcases rest with _|⟨x,rest⟩
   ·skip;refine go [] ?_;refine a_ (by simp at hl⊢;omega) ?_;refine go [] ?_;refine oP (ai call195 rfl (x1 _ _)) ?_;refine br (fun h2=>?_) (fun h2=>?_)
    ·exact ah rfl (Sub.int (by exact U6 hp (by rw[←r2];assumption)))
    ·exact ah rfl (Sub.int (by exact U7 hp (by rw[←r2];assumption)))
   ·simp only[List.length_cons]at hl;have yY:=hf.fL x (by rw[hx];simp);refine go [] ?_;refine bk zQ ?_;refine ix zO (aS jX hx rfl) ?_;refine oP (ai call200 rfl (ag2 _)) ?_;refine br (fun h3=>?_) (fun h3=>?_)
    ·exact ah rfl (Sub.int (by exact U2 hp zA))
    ·refine J.loop (ι:=ajo f pre x sum) (fun sx=>[(1,.box 0 0),(3,.str sum),(4,.i pre.length),(5,.i sx.au.length)]) (fun sx=>[(0,.cells (aX f))]) (fun sx=>sx.aC.length) ⟨[],pre,rfl,rfl⟩ ?_ ?_
     ·exact Le.mk rfl (.s rfl rfl (.s rfl rfl (.s rfl rfl (.s rfl rfl .nil)))) (.cons rfl rfl .nil)
     ·rintro⟨au,aC,aU,hq⟩;show J _ _ _ _ [(1,.box 0 0),(3,.str sum),(4,.i pre.length),(5,.i au.length)] [(0,.cells (aX f))];have bN:=congrArg List.length aU;simp only[List.length_append]at bN;rcases aC with _|⟨y,aC⟩
      ·have E3:pre.any (fun y=>decide (y.gb=x.gb))=false:=by rw[aU,List.append_nil];exact hq
       refine go [] ?_;refine a_ (by simp at bN⊢;omega) ?_;refine go [] ?_;refine ix zO (aS jX hx rfl) ?_;refine oP (ai call140 rfl (Xm x.dm)) ?_;refine br (fun h4=>?_) (fun h4=>?_)
       ·exact ah rfl (Sub.int (by exact U4 hp zA E3 zA))
       ·refine ix zO (aS jX hx rfl) ?_;refine oP (ai call201 rfl (XY sum x.dm (aaz zO) (by have:=kW x.dm;have:=yY.2;omega))) ?_;refine go [] ?_;refine sd (aw zO) ?_;exact nx ⟨pre++[x],rest,qb sum x.dm,by simp[hx],U5 hp h3 E3 zA,by have:=alO (n:=pre.length) Ru yY.2;simpa using this,A8⟩ zS (Le.mk rfl (.s rfl rfl (.s rfl rfl (.cons rfl (Sub.int zS) rfl .nil))) (.cons rfl rfl .nil))
      ·simp only[List.length_cons]at bN;refine go [] ?_;refine bk zQ ?_;refine ix zO (aS jX (ahu hx aU) rfl) ?_;refine ix zO (aS jX hx rfl) ?_;refine ord ?_;refine br (fun h5=>?_) (fun h5=>?_)
       ·exact ah rfl (Sub.int (by exact U3 hp zA (by rw[aU,List.any_append,List.any_cons];simp at*;grind)))
       ·refine sd (aw zO) ?_;exact nx ⟨au++[y],aC,by simp[aU],by rw[List.any_append,hq];simpa using h5⟩ zS (Le.mk rfl (.s rfl rfl (.s rfl rfl (.s rfl rfl (.cons rfl (Sub.int zS) rfl .nil)))) (.cons rfl rfl .nil))
structure aiR(f:Fact)where
 pre:List cT
 rest:List cT
 hx:f.opts=pre++rest
 hp:qH f=pX f.dM rest
theorem aiQ(f:Fact)(hf:sL f):Fc Tryz.prog 146 [.agg (aX f)] (.i (qH f)):=by
 refine Fc.mk' [2] func146 rfl ntmps146 rfl rfl rfl (fun t w=>results_tmp results146 t _ w) ?_;refine J.vR 0 19 rfl rfl (fun hb=>?_);simp only[List.length_map,aG]at hb;refine go [] ?_;refine br (fun h1=>?_) (fun h1=>?_)
 ·exact ah rfl (Sub.int (by exact aiU (by simpa using h1)))
 ·refine br (fun h2=>?_) (fun h2=>?_)
  ·exact ah rfl (Sub.int (by exact aiV (by simpa using h1) (by simpa using h2)))
  ·refine J.loop (ι:=aiR f) (fun sx=>[(1,.box 0 0),(3,.i sx.pre.length)]) (fun sx=>[(0,.cells (aX f))]) (fun sx=>sx.rest.length) ⟨[],_,rfl,aiT (by simpa using h1) (by simpa using h2)⟩ ?_ ?_
   ·exact Le.mk rfl (.s rfl rfl (.s rfl rfl .nil)) (.cons rfl rfl .nil)
   ·rintro⟨pre,rest,hx,hp⟩;show J _ _ _ _ [(1,.box 0 0),(3,.i pre.length)] [(0,.cells (aX f))];have hl:=congrArg List.length hx;simp only[List.length_append]at hl;rcases rest with _|⟨x,rest⟩
    ·skip;refine go [] ?_;refine a_ (by simp at hl⊢;omega) ?_;refine go [] ?_;exact ah rfl (Sub.int (by rw[hp];rfl))
    ·simp only[List.length_cons]at hl;have iG:=hf.opts x (by rw[hx];simp);refine go [] ?_;refine bk zQ ?_;refine ix zO (aS ma hx rfl) ?_;refine gP (fun hg=>ai call94 rfl (w8 _)) ?_;refine br (fun h3=>?_) (fun h3=>?_)
     ·exact ah rfl (Sub.int (by exact aiJ hp h3))
     ·refine br (fun h4=>?_) (fun h4=>?_)
      ·exact ah rfl (Sub.int (by exact aiK hp h3 h4))
      ·refine oP (ai call142 rfl (zB x.ratio false iG.1)) ?_;refine br (fun h5=>?_) (fun h5=>?_)
       ·exact ah rfl (Sub.int (by exact Ft (Cm hp h3 h4) h5))
       ·refine oP (ai call142 rfl (zB x.d_ false iG.2.1)) ?_;refine br (fun h6=>?_) (fun h6=>?_)
        ·exact ah rfl (Sub.int (by exact Ft (rM (Cm hp h3 h4) h5) h6))
        ·refine oP (ai call142 rfl (zB x.value false iG.2.2)) ?_;refine br (fun h7=>?_) (fun h7=>?_)
         ·exact ah rfl (Sub.int (by exact Ft (rM (rM (Cm hp h3 h4) h5) h6) h7))
         ·refine oP (ai call191 rfl (xA x.ratio iG.1)) ?_;refine gP (fun hg=>ai call191 rfl (xA x.value iG.2.2)) ?_;refine br (fun h8=>?_) (fun h8=>?_)
          ·exact ah rfl (Sub.int (by exact UH (Fs (rM (rM (rM (Cm hp h3 h4) h5) h6) h7)) h8))
          ·refine sd (aw zO) ?_;exact nx ⟨pre++[x],rest,by simp[hx],UG (Fs (rM (rM (rM (Cm hp h3 h4) h5) h6) h7)) h8⟩ zS (Le.mk rfl (.s rfl rfl (.cons rfl (Sub.int zS) rfl .nil)) (.cons rfl rfl .nil))
end Go.T
