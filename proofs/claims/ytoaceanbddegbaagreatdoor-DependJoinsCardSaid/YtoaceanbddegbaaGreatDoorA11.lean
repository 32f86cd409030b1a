/-
  Contracts of the functions that the statement reaches, and the logic in which they are proved (no condition): parts W79, Div13, W80, Div14, W81, W82, SpecD3, Div15, Div16, Core30, Core31, Core32, Core33, Core36.
-/
import Derived.Test.YtoaceanbddegbaaGreatDoorA10
import Derived.Shelf.SlSortCmp.WholeK
set_option linter.all false
namespace Go.T
open Go Go.Proofs Go.Proofs.Tryz
set_option maxRecDepth 20000
theorem Af{x:Nat}(h:x<gB):x*gB<18446744073709551616∧∀y,y<gB→x*gB+y<18446744073709551616:=by
 have h1:x*gB≤999999999*gB:=Nat.mul_le_mul_right _ (by unfold gB at*;omega);unfold gB at*;exact⟨by omega,fun y hy=>by omega⟩
theorem SH{x y:Nat}(h:x<gB)(k:y<gB):x*y<18446744073709551616:=Nat.lt_of_le_of_lt (Nat.mul_le_mul_left _ (Nat.le_of_lt k)) (Af h).1
theorem VI{a:List Nat}(h:aU a)(i k:Nat):q7 a i k<18446744073709551616:=(Af (fP h _)).2 _ (fP h _)
structure ZG(M N:Nat)where
 a:List Nat
 out:List Nat
 i:Nat
 hd:DO (M*dS N) (N*dS N) a out i (dK N)
 EP:a.length=dL M N+2
 xy:i≤out.length
structure ZH(M N:Nat)(a out:List Nat)(i:Nat)where
 g:Nat
 kI:GS a (ak (N*dS N)) i (dK N) g
structure ZI(M N:Nat)(a out:List Nat)(i g:Nat)where
 av:List Nat
 aN:List Nat
 a1:List Nat
 c:Nat
 bg:(ak (N*dS N))=av++aN
 hm:MS a a1 g c i (dK N) av
 qA:(g-1)*ao (ak (N*dS N))*gB^i≤ao a
structure ZJ(M N:Nat)(a1 out:List Nat)(i g c:Nat)where
 av:List Nat
 aN:List Nat
 a2:List Nat
 d:Nat
 bg:(ak (N*dS N))=av++aN
 hp:AB a1 a2 d i (dK N) av
theorem ZF(M N:Nat)(xm:(ak M).length≤10000)(xn:(ak N).length≤10000)(h:¬M<N)(h2:2≤(ak N).length):Fc Tryz.prog 334 [bc (ak M),bc (ak N)] (.bl [bc (ak (M/N)),bc (ak (M%N))]):=by
 refine pO func334 ntmps334 results334 ?_;have xG:=NT (N:=N) zO;have hM0:M≠0:=by have:=L' h2;unfold gB at this;omega
 have hdL:=Y7 (M:=M) (N:=N) zO;have hdK:=Y6 h;have aqh:=HJ h2;have eL:(ak (M*dS N)).length=dL M N:=rfl;have eK:(ak (N*dS N)).length=dK N:=rfl;have ic:=Y5 h2
 refine U.seq<|rg<|.ag rfl rfl<|.ag rfl rfl<|.nil<|U.seq<|U.seq<|rg<|.mv rfl rfl<|.mv rfl rfl<|.P rfl (aj call155 rfl (yP _ _ zO zO))<|.P rfl (bY rfl rfl)<|.nil<|U.fG rfl (by simpa using fun hc=>h (HB.1 hc))<|U.skip<|U.seq<|U.seq<|rg<|.mv rfl rfl<|.P rfl (cC underlying188 rfl)<|.P rfl (l5 rfl rfl)<|.nil<|U.fG rfl (by simp[bD];omega)<|U.skip<|U.seq<|rg<|.mv rfl rfl<|.mv rfl rfl<|.P rfl (cC underlying188 rfl)<|.P rfl (fp rfl rfl (aW zO zQ))<|.P rfl (iR underlying188 sizeOf243 rfl rfl (by simp[bD];omega) (ui (l:=ak N) (k:=(ak N).length-1) (b:=nth (ak N) ((ak N).length-1)) (r:=[]) (J1 zO) (by simp[bD];omega)))<|.P rfl (cG isAgg243 rfl)<|.P rfl (cn rfl rfl (addN (b:=1) (by have:=fP (ek N) ((ak N).length-1);unfold gB at*;omega)))<|.P rfl (oJ rfl rfl zO (Lz (a:=gB) zD))<|.ag rfl rfl<|.nil<|U.seq<|rg<|.mv rfl rfl<|.mv rfl rfl<|.P rfl (cm (n:=1) (rows:=bD [dS N]) underlying188 sizeOf243 rfl rfl rfl zeroValue243 rfl rfl rfl rfl rfl rfl rfl)<|.W rfl (eu call332 rfl (akZ M (dS N) xm (Be N) xG hM0) .nil rfl rfl)<|.P rfl (cm (n:=2) (rows:=bD [0,0]) underlying188 sizeOf243 rfl rfl rfl zeroValue243 rfl rfl rfl rfl rfl rfl rfl)<|.W rfl (dJ 0 underlying188 underlying188 sizeOf243 typeInfo243 zeroValue243 rfl (bt:=8) rfl rfl rfl rfl (by simp[bD]) rfl rfl zQ)<|.mv rfl rfl<|.mv rfl rfl<|.P rfl (cm (n:=1) (rows:=bD [dS N]) underlying188 sizeOf243 rfl rfl rfl zeroValue243 rfl rfl rfl rfl rfl rfl rfl)<|.P rfl (aj call332 rfl (ak0 N (dS N) xn xG))<|.ag rfl rfl<|.ag rfl rfl<|.nil ?_
 refine U.seq<|rg<|.mv rfl rfl<|.P rfl (cC underlying188 rfl)<|.ag rfl rfl<|.nil<|U.seq<|rg<|.mv rfl rfl<|.P rfl (uJ underlying188 rfl)<|.mv rfl rfl<|.P rfl (fp rfl rfl (aW zQ zQ))<|.W rfl (AD (bt:=8) 1 (dL M N+2-dK N) underlying188 sizeOf243 typeInfo243 zeroValue243 rfl rfl rfl rfl rfl (by simp[bD];omega) (by simp[bD];omega) (Nat.le_refl (dL M N+2-dK N)) zO zO zO rfl)<|.ag rfl rfl<|.nil<|U.seq<|U.seq<|rg<|.mv rfl rfl<|.P rfl (uJ underlying188 rfl)<|.mv rfl rfl<|.P rfl (fp rfl rfl (aW zQ zQ))<|.P rfl (fp rfl rfl (aW zQ zQ))<|.ag rfl rfl<|.nil<|U.block<|U.loop (ι:=ZG M N) (fun sx=>[(9,.gs 0 (dL M N+2)),(10,bc (ak (N*dS N))),(11,.i (dK N)),(12,.gs 1 (dL M N+2-dK N)),(8,.raw (.int .u64 ((dS N):Int))),(13,.i ((sx.i:Int)-1))]) (fun sx=>[(1,.arr 1 (bD sx.out)),(0,.arr 1 (bD sx.a))]) (fun sx=>sx.i) ⟨_,_,_,Y8 h h2,by simp[dL],by simp⟩ ?_ ?_
 ·exact Le.mk rfl (.cons rfl (Sub.refl _) rfl (.s rfl rfl (.cons rfl (Sub.int zQ) rfl (.cons rfl (Sub.refl _) rfl (.s rfl rfl (.cons rfl (Sub.int zQ) rfl .nil)))))) (.arr rfl (by simp[bD]) (.arr rfl (by simp[bD]) .nil))
 ·rintro⟨a,out,i,hd,EP,xy⟩;dsimp only;rcases i with _|i
  ·have hol:=hd.2.2.1;have P4:0<N:=by have:=L' h2;unfold gB at this;omega
   have EW:=V' hd (Be N) P4 (s0 _);have gO:(ak (M%N*dS N)).length≤dK N:=uu (Nat.mul_le_mul_right _ (Nat.le_of_lt (Nat.mod_lt _ P4)));refine U.seq<|U.seq<|rg<|.mv rfl rfl<|.P rfl (tm rfl rfl)<|.nil<|U.fG rfl zS<|U.exit (fc (eY ?_));refine U.bC (Le.freeze 9 0 rfl rfl (by simp[bD];omega)) ?_;refine U.seq<|rg<|.mv rfl rfl<|.mv rfl rfl<|.P rfl (kp underlying188 sizeOf243 rfl (h:=dK N) (r:=bD (a.take (dK N))) (.inl ⟨rfl,rfl⟩) (.inr ⟨_,_,rfl,rfl⟩) zO (by simp[bD];omega) (by simp[bD]))<|.P rfl (aj call158 rfl (si _))<|.mv rfl rfl<|.P rfl (aj call342 (by rw[←EW.2];rfl) (U6 (M%N*dS N) (dS N) zO (Be N) xG))<|.mv rfl rfl<|.P rfl (iJ rfl rfl)<|.P rfl (iJ rfl rfl)<|.ag rfl rfl<|.ag rfl rfl<|.nil ?_;refine U.bC (Le.freeze 12 1 rfl rfl (by simp[bD];omega)) ?_;refine U.seq<|rg<|.mv rfl rfl<|.P rfl (aj call158 rfl (si _))<|.mv rfl rfl<|.ag rfl rfl<|.ag rfl rfl<|.nil<|U.ret (?_);exact uM rfl rfl (Sub.snap (by rw[EW.1])) (Sub.snap (by rw[Nat.mul_div_cancel _ (Be N)]))
  ·have ua:=HJ h2;have hb:=ek (N*dS N);have hz:=GQ hd hb rfl (gI _);have hol:=hd.2.2.1;have qx:=hd.1;have hl:i+dK N<a.length:=by omega
   have hg0:=We qx hb hl (fun j hj=>hz j hj) rfl ua ic;refine U.seq<|U.seq<|rg<|.mv rfl rfl<|.P rfl (tm rfl rfl)<|.nil<|U.iY rfl zS<|U.skip<|U.seq<|U.block<|U.seq (U.qY [.p,.p,.p,.p,.p,.r,.p,.p,.p,.p,.p,.p,.p,.r,.p,.p] mS zK ?_);refine .mv rfl rfl<|.mv rfl rfl<|.mv rfl rfl<|.P rfl (cn rfl rfl (aB zO))<|.P rfl (b8 (off:=(i+dK N)*1) underlying188 sizeOf243 rfl rfl zO zO zO)<|.R rfl (fN (r:=_) (i+dK N) 0 isAgg243 rfl rfl rfl (iD (by simp at*;omega)) rfl)<|.P rfl (wh rfl rfl (mulN (c:=gB) zD (Af (fP qx (i+dK N))).1))<|.mv rfl rfl<|.mv rfl rfl<|.mv rfl rfl<|.P rfl (cn rfl rfl (aB zO))<|.P rfl (fp rfl rfl (aB zO))<|.P rfl (b8 (off:=(i+dK N-1)*1) underlying188 sizeOf243 rfl rfl zO zO zO)<|.R rfl (fN (r:=_) (i+dK N-1) 0 isAgg243 rfl rfl rfl (iD (by simp at*;omega)) rfl)<|.P rfl (cn rfl rfl (addN ((Af (fP qx (i+dK N))).2 _ (fP qx (i+dK N-1)))))<|.ag rfl rfl<|.nil<|U.seq<|rg<|.mv rfl rfl<|.mv rfl rfl<|.mv rfl rfl<|.P rfl (fp rfl rfl (aB zO))<|.P rfl (iR underlying188 sizeOf243 rfl rfl zO (ui (l:=(ak (N*dS N))) (k:=dK N-1) (b:=nth (ak (N*dS N)) (dK N-1)) (r:=[]) (J1 (by show dK N≠0;omega)) zO))<|.P rfl (cG isAgg243 rfl)<|.P rfl (oJ rfl rfl zO (Lz (VI qx i (dK N))))<|.P rfl (AE rfl rfl rfl)<|.ag rfl rfl<|.nil<|U.seq<|U.block<|U.loop (ι:=ZH M N a out i) (fun sx=>[(9,.gs 0 (dL M N+2)),(10,bc (ak (N*dS N))),(11,.i (dK N)),(12,.gs 1 (dL M N+2-dK N)),(8,.raw (.int .u64 ((dS N):Int))),(13,.i (i:Int)),(14,.raw (.int .u64 ((q7 a i (dK N)):Int))),(15,.raw (.int .u64 (sx.g:Int)))]) (fun sx=>[(1,.arr 1 (bD out)),(0,.arr 1 (bD a))]) (fun sx=>sx.g) ⟨_,hg0⟩ ?_ ?_
   ·exact Le.mk rfl (.cons rfl (Sub.gs zS) rfl (.n 2 rfl rfl (.cons rfl (Sub.gs zS) rfl (.s rfl rfl (.cons rfl (Sub.int zS) rfl (.s rfl rfl (.cons rfl (Sub.int (by exact af9 _)) rfl .nil))))))) (.arr rfl (by rfl) (.arr rfl (by rfl) .nil))
   ·rintro⟨g,kI⟩;dsimp only;refine U.block<|U.seq<|rg<|.mv rfl rfl<|.mv rfl rfl<|.mv rfl rfl<|.mv rfl rfl<|.P rfl (fp rfl rfl (aB zO))<|.P rfl (iR underlying188 sizeOf243 rfl rfl zO (ui (l:=(ak (N*dS N))) (k:=dK N-1) (b:=nth (ak (N*dS N)) (dK N-1)) (r:=[]) (J1 (by show dK N≠0;omega)) zO))<|.P rfl (cG isAgg243 rfl)<|.P rfl (wh rfl rfl (mulN rfl (SH kI.1 (fP hb (dK N-1)))))<|.P rfl (fp rfl rfl (rY kI.2.1 (VI qx i (dK N))))<|.ag rfl rfl<|.nil<|U.seq (U.seq (U.qY [.p,.p,.p,.p,.p,.p,.p,.p,.p,.p,.p,.p,.p,.p,.p,.p,.p,.p,.r,.p,.p,.p] mS zK ?_))
    refine .mv rfl rfl<|.P rfl (tm rfl rfl)<|.mv rfl rfl<|.gF rfl (.inl rfl) rfl rfl rfl (fun hg=>pk (fun _=>bG rfl _))<|.gF rfl (.inl rfl) rfl rfl rfl (fun hg=>pk (fun _=>bG rfl _))<|.gF rfl (.inl rfl) rfl rfl rfl (fun hg=>pk (fun _=>bG rfl _))<|.gF rfl (.inl rfl) rfl rfl rfl (fun hg=>pk (fun _=>fp (bI rfl (nt hg)) rfl (aB zO) _))<|.gF rfl (.inl rfl) rfl rfl rfl (fun hg=>pk (fun _=>iR underlying188 sizeOf243 (bI rfl (nt hg)) (bI rfl (nt hg)) zO (ui (l:=(ak (N*dS N))) (k:=dK N-2) (b:=nth (ak (N*dS N)) (dK N-2)) (r:=_) (w6 (by show dK N-2<dK N;omega)) zO) _))<|.gF rfl (.inl rfl) rfl rfl rfl (fun hg=>pk (fun _=>cG isAgg243 (bI rfl (nt hg)) _))<|.gF rfl (.inl rfl) rfl rfl rfl (fun hg=>pk (fun _=>wh (bI rfl (nt hg)) (bI rfl (nt hg)) (mulN rfl (SH kI.1 (fP hb (dK N-2)))) _))<|.gF rfl (.inl rfl) rfl rfl rfl (fun hg=>pk (fun _=>bG rfl _))<|.gF rfl (.inl rfl) rfl rfl rfl (fun hg=>pk (fun _=>wh (bI rfl (nt hg)) rfl (mulN (c:=gB) zD (Af (by have h9:=of_decide_eq_false hg;unfold gB at*;omega)).1) _))<|.gF rfl (.inl rfl) rfl rfl rfl (fun hg=>pk (fun _=>bG rfl _))<|.gF rfl (.inl rfl) rfl rfl rfl (fun hg=>pk (fun _=>bG rfl _))<|.gF rfl (.inl rfl) rfl rfl rfl (fun hg=>pk (fun _=>bG rfl _))<|.gF rfl (.inl rfl) rfl rfl rfl (fun hg=>pk (fun _=>cn (bI rfl (nt hg)) (bI rfl (nt hg)) (aB zO) _)) ?_
    refine .gF rfl (.inl rfl) rfl rfl rfl (fun hg=>pk (fun _=>fp (bI rfl (nt hg)) rfl (aB zO) _))<|.gF rfl (.inl rfl) rfl rfl rfl (fun hg=>pk (fun _=>b8 (off:=(i+dK N-2)*1) underlying188 sizeOf243 (bI rfl (nt hg)) (bI rfl (nt hg)) zO zO zO _))<|.gF rfl (.inr rfl) rfl rfl rfl (fun hg=>rk (fN (r:=_) (i+dK N-2) 0 isAgg243 (bI rfl (nt hg)) rfl rfl (iD (by simp at*;omega)) rfl))<|.gF rfl (.inl rfl) rfl rfl rfl (fun hg=>pk (fun _=>cn (bI rfl (nt hg)) (bI rfl (nt hg)) (addN ((Af (by have h9:=of_decide_eq_false hg;unfold gB at*;omega)).2 _ (fP qx (i+dK N-2)))) _))<|.gF rfl (.inl rfl) rfl rfl rfl (fun hg=>pk (fun _=>Lp (bI rfl (nt hg)) (bI rfl (nt hg)) _))<|.P rfl (rT rfl rfl)<|.nil<|U.cond rfl (fun h1=>?_) (fun h1=>?_)
    ·have a_:=h1;try simp only[bs]at a_
     refine U.exit (Xn rfl (fc (eY ?_)));refine U.seq<|rg<|.ag rfl rfl<|.nil<|U.seq<|U.seq<|rg<|.mv rfl rfl<|.P rfl (cC underlying188 rfl)<|.mv rfl rfl<|.nil<|U.block<|U.loop (ι:=ZI M N a out i g) (fun sx=>[(9,.gs 0 (dL M N+2)),(10,bc (ak (N*dS N))),(11,.i (dK N)),(12,.gs 1 (dL M N+2-dK N)),(8,.raw (.int .u64 ((dS N):Int))),(13,.i (i:Int)),(15,.raw (.int .u64 (g:Int))),(17,.raw (.int .u64 (sx.c:Int))),(134,bc (ak (N*dS N))),(135,.i (dK N)),(136,.i sx.av.length)]) (fun sx=>[(1,.arr 1 (bD out)),(0,.arr 1 (bD sx.a1))]) (fun sx=>sx.aN.length) ⟨[],_,a,0,rfl,Wi qx g i (dK N),by rcases a_ with h9|h9;exact Mm qx hb hl (fun j hj=>hz j hj) rfl ua ic kI (.inl (by unfold gB;omega));exact Mm qx hb hl (fun j hj=>hz j hj) rfl ua ic kI (.inr zO)⟩ ?_ ?_
     ·exact Le.mk rfl (.cons rfl (Sub.refl _) rfl (.n 2 rfl rfl (.cons rfl (Sub.refl _) rfl (.n 5 rfl rfl (.cons rfl (Sub.int zQ) rfl (.s rfl rfl .nil)))))) (.arr rfl (by rfl) (.arr rfl (by rfl) .nil))
     ·rintro⟨av,aN,a1,c,bg,hm,qA⟩;dsimp only;rcases lc bg with⟨rfl,bW⟩|⟨x2,aN,rfl,bW⟩
      ·obtain rfl:av=(ak (N*dS N)):=by simpa using bg.symm
       have IW:=hm.2.2.1;refine U.seq<|rg<|.P rfl (bY rfl rfl)<|.nil<|U.seq<|U.fG rfl zQ<|U.exit (fc (eY ?_));refine U.seq<|U.seq<|rg<|.mv rfl rfl<|.mv rfl rfl<|.mv rfl rfl<|.P rfl (cn rfl rfl (aB zO))<|.P rfl (b8 (off:=(i+dK N)*1) underlying188 sizeOf243 rfl rfl zO zO zO)<|.R rfl (fN (r:=_) (i+dK N) 0 isAgg243 rfl rfl rfl (iD (by simp at*;omega)) rfl)<|.mv rfl rfl<|.P rfl (tm rfl rfl)<|.nil<|U.cond rfl (fun h2=>?_) (fun h2=>?_)
       ·have dO:=h2;try simp only[bs]at dO
        refine rg<|.mv rfl rfl<|.mv rfl rfl<|.mv rfl rfl<|.P rfl (cn rfl rfl (aB zO))<|.P rfl (b8 (off:=(i+dK N)*1) underlying188 sizeOf243 rfl rfl zO zO zO)<|.R rfl (fN (r:=_) (i+dK N) 0 isAgg243 rfl rfl rfl (iD (by simp at*;omega)) rfl)<|.mv rfl rfl<|.P rfl (fp rfl rfl (rY zO (by have:=fP hm.1 (i+dK N);unfold gB at*;omega)))<|.P rfl (b8 (off:=(i+dK N)*1) underlying188 sizeOf243 rfl rfl zO zO zO)<|.W rfl (jd (r:=_) (i+dK N) 0 sizeOf243 rfl rfl rfl rfl rfl rfl (iD (by simp at*;omega)) zS)<|.nil<|rg<|.mv rfl rfl<|.mv rfl rfl<|.mv rfl rfl<|.P rfl (b8 (off:=(i)*1) underlying188 sizeOf243 rfl rfl zO zO zO)<|.W rfl (jd (r:=_) (i) 0 sizeOf243 rfl rfl rfl rfl rfl rfl (iD (by simp at*;omega)) zS)<|.nil<|U.nil (dv ?_);refine rg<|.mv rfl rfl<|.P rfl (fp rfl rfl (aB zO))<|.ag rfl rfl<|.nil<|U.nil (dx ?_);exact⟨⟨a1.set (i+dK N) (nth a1 (i+dK N)-c),out.set i g,i,Wa hd (gI _) (by simpa[gI]using kI.2.2) kI.1 hm rfl zO zO zO,by simp;omega,by simp;omega⟩,by simp,Le.mk rfl (.cons rfl (Sub.refl _) rfl (.n 2 rfl rfl (.cons rfl (Sub.refl _) rfl (.n 2 rfl rfl .nil)))) (.arr rfl (by exact tP) (.arr rfl (by exact tP) .nil))⟩
       ·have dO:=h2;try simp only[bs]at dO
        have ns:=Wk hd hb (gI _) rfl hm zO;refine U.seq<|rg<|.mv rfl rfl<|.P rfl (fp rfl rfl (rY (b:=1) zO (by have:=kI.1;unfold gB at*;omega)))<|.ag rfl rfl<|.nil<|U.seq<|rg<|.ag rfl rfl<|.nil<|U.seq<|U.seq<|rg<|.mv rfl rfl<|.P rfl (cC underlying188 rfl)<|.mv rfl rfl<|.nil<|U.block<|U.loop (ι:=ZJ M N a1 out i g c) (fun sx=>[(9,.gs 0 (dL M N+2)),(10,bc (ak (N*dS N))),(11,.i (dK N)),(12,.gs 1 (dL M N+2-dK N)),(8,.raw (.int .u64 ((dS N):Int))),(13,.i (i:Int)),(15,.raw (.int .u64 ((g-1:Nat):Int))),(17,.raw (.int .u64 (c:Int))),(20,.raw (.int .u64 (sx.d:Int))),(198,bc (ak (N*dS N))),(199,.i (dK N)),(200,.i sx.av.length)]) (fun sx=>[(1,.arr 1 (bD out)),(0,.arr 1 (bD sx.a2))]) (fun sx=>sx.aN.length) ⟨[],_,a1,0,rfl,V6 hm.1 i (dK N)⟩ ?_ ?_
        ·exact Le.mk rfl (.cons rfl (Sub.refl _) rfl (.n 2 rfl rfl (.cons rfl (Sub.refl _) rfl (.n 6 rfl rfl (.cons rfl (Sub.int zQ) rfl (.s rfl rfl .nil)))))) (.arr rfl (by rfl) (.arr rfl (by rfl) .nil))
        ·rintro⟨av,aN,a2,d,bg,hp⟩;dsimp only;have bW:=congrArg List.length bg;simp only[List.length_append]at bW;rcases aN with _|⟨x2,aN⟩
         ·obtain rfl:av=(ak (N*dS N)):=by simpa using bg.symm
          have IW:=hm.2.2.1;have acs:=hp.2.2.1;have Qh:=V_ hd hb (gI _) rfl (by simpa[gI]using qA) kI.1 hm zO hp zO zO;refine U.seq<|rg<|.P rfl (bY rfl rfl)<|.nil<|U.seq<|U.fG rfl zQ<|U.exit (fc (eY ?_));refine rg<|.mv rfl rfl<|.mv rfl rfl<|.mv rfl rfl<|.P rfl (cn rfl rfl (aB zO))<|.mv rfl rfl<|.mv rfl rfl<|.mv rfl rfl<|.P rfl (cn rfl rfl (aB zO))<|.P rfl (b8 (off:=(i+dK N)*1) underlying188 sizeOf243 rfl rfl zO zO zO)<|.R rfl (fN (r:=_) (i+dK N) 0 isAgg243 rfl rfl rfl (iD (by simp at*;omega)) rfl)<|.mv rfl rfl<|.P rfl (cn rfl rfl (addN (by have:=fP hp.1 (i+dK N);have:=hp.2.1;unfold gB at*;omega)))<|.mv rfl rfl<|.P rfl (fp rfl rfl (rY (by have:=Qh.2.1;omega) (by have:=fP hp.1 (i+dK N);have:=hp.2.1;unfold gB at*;omega)))<|.P rfl (b8 (off:=(i+dK N)*1) underlying188 sizeOf243 rfl rfl zO zO zO)<|.W rfl (jd (r:=_) (i+dK N) 0 sizeOf243 rfl rfl rfl rfl rfl rfl (iD (by simp at*;omega)) zS)<|.nil<|rg<|.mv rfl rfl<|.mv rfl rfl<|.mv rfl rfl<|.P rfl (b8 (off:=(i)*1) underlying188 sizeOf243 rfl rfl zO zO zO)<|.W rfl (jd (r:=_) (i) 0 sizeOf243 rfl rfl rfl rfl rfl rfl (iD (by simp at*;omega)) zS)<|.nil<|U.nil (dv ?_);refine rg<|.mv rfl rfl<|.P rfl (fp rfl rfl (aB zO))<|.ag rfl rfl<|.nil<|U.nil (dx ?_);exact⟨⟨a2.set (i+dK N) (nth a2 (i+dK N)+d-c),out.set i (g-1),i,Qh.2.2,by simp;omega,by simp;omega⟩,by simp,Le.mk rfl (.cons rfl (Sub.refl _) rfl (.n 2 rfl rfl (.cons rfl (Sub.refl _) rfl (.n 2 rfl rfl .nil)))) (.arr rfl (by exact tP) (.arr rfl (by exact tP) .nil))⟩
         ·simp only[List.length_cons]at bW;have IW:=hm.2.2.1;have acs:=hp.2.2.1;have nD:=hb x2 (by rw[bg];simp);have ub:(av++x2::aN).length=dK N:=by rw[←bg];rfl
          refine U.seq<|rg<|.P rfl (bY rfl rfl)<|.nil<|U.seq<|U.iY rfl zQ<|U.skip<|U.seq<|U.block<|U.seq<|rg<|.mv rfl rfl<|.ag rfl rfl<|.nil<|U.seq (U.qY [.p,.p,.p,.p,.p,.r,.p,.p,.p,.p,.p,.p,.p,.p,.w] mS zK ?_);refine .mv rfl rfl<|.mv rfl rfl<|.mv rfl rfl<|.P rfl (cn rfl rfl (aB zO))<|.P rfl (b8 (off:=(i+av.length)*1) underlying188 sizeOf243 rfl rfl zO zO zO)<|.R rfl (fN (r:=_) (i+av.length) 0 isAgg243 rfl rfl rfl (iD (by simp at*;omega)) rfl)<|.mv rfl rfl<|.mv rfl rfl<|.P rfl (iR underlying188 sizeOf243 rfl rfl zO (bb (fun(n:Nat)=>[D.raw (.int .u64 (n:Int))]) bg rfl))<|.P rfl (cG isAgg243 rfl)<|.mv rfl rfl<|.P rfl (cn rfl rfl (addN (by have:=hp.2.1;unfold gB at*;omega)))<|.P rfl (cn rfl rfl (addN (by have:=fP hp.1 (i+av.length);have:=hp.2.1;unfold gB at*;omega)))<|.P rfl (b8 (off:=(i+av.length)*1) underlying188 sizeOf243 rfl rfl zO zO zO)<|.W rfl (jd (r:=_) (i+av.length) 0 sizeOf243 rfl rfl rfl rfl rfl rfl (iD (by simp at*;omega)) zS)<|.nil<|U.seq<|rg<|.mv rfl rfl<|.mv rfl rfl<|.mv rfl rfl<|.P rfl (cn rfl rfl (aB zO))<|.P rfl (b8 (off:=(i+av.length)*1) underlying188 sizeOf243 rfl rfl zO zO zO)<|.R rfl (fN (r:=_) (i+av.length) 0 isAgg243 rfl rfl rfl (im (iD (by simp at*;omega))) rfl)<|.P rfl (oJ rfl rfl zD (wm (by have:=fP hp.1 (i+av.length);have:=hp.2.1;unfold gB at*;omega)))<|.ag rfl rfl<|.nil ?_
          refine rg<|.mv rfl rfl<|.mv rfl rfl<|.mv rfl rfl<|.P rfl (cn rfl rfl (aB zO))<|.P rfl (b8 (off:=(i+av.length)*1) underlying188 sizeOf243 rfl rfl zO zO zO)<|.R rfl (fN (r:=_) (i+av.length) 0 isAgg243 rfl rfl rfl (im (iD (by simp at*;omega))) rfl)<|.P rfl (qW rfl rfl zD (uL _))<|.P rfl (b8 (off:=(i+av.length)*1) underlying188 sizeOf243 rfl rfl zO zO zO)<|.W rfl (jd (r:=_) (i+av.length) 0 sizeOf243 rfl rfl rfl rfl rfl rfl (im (iD (by simp at*;omega))) zS)<|.nil<|U.nil (dv ?_);refine rg<|.P rfl (cn rfl rfl (aB zO))<|.mv rfl rfl<|.nil<|U.nil (dx ?_);exact⟨⟨av++[x2],aN,a2.set (i+av.length) ((nth a2 (i+av.length)+(x2+d))%gB),(nth a2 (i+av.length)+(x2+d))/gB,by simp[bg],V7 hp nD (by simp at ub;omega) (by simp at ub;have:=hp.2.2.1;have:=hm.2.2.1;omega)⟩,by simp,Le.mk rfl (.cons rfl (Sub.refl _) rfl (.n 2 rfl rfl (.cons rfl (Sub.refl _) rfl (.n 7 rfl rfl (.cons rfl (Sub.int zS) rfl .nil))))) (.arr rfl (by rfl) (.arr rfl (by simp[bD]) .nil))⟩
      ·have IW:=hm.2.2.1;have nD:=hb x2 (by rw[bg];simp);have ub:(av++x2::aN).length=dK N:=by rw[←bg];rfl
       refine U.seq<|rg<|.P rfl (bY rfl rfl)<|.nil<|U.seq<|U.iY rfl zQ<|U.skip<|U.seq<|U.block<|U.seq<|rg<|.mv rfl rfl<|.ag rfl rfl<|.nil<|U.seq<|rg<|.mv rfl rfl<|.mv rfl rfl<|.mv rfl rfl<|.P rfl (iR underlying188 sizeOf243 rfl rfl zO (bb (fun(n:Nat)=>[D.raw (.int .u64 (n:Int))]) bg rfl))<|.P rfl (cG isAgg243 rfl)<|.P rfl (wh rfl rfl (mulN rfl (GY kI.1 nD hm.2.1).1))<|.mv rfl rfl<|.P rfl (cn rfl rfl (addN (GY kI.1 nD hm.2.1).2))<|.ag rfl rfl<|.nil<|U.seq<|rg<|.mv rfl rfl<|.P rfl (oJ rfl rfl zD (wm (GY kI.1 nD hm.2.1).2))<|.ag rfl rfl<|.nil<|U.seq<|rg<|.mv rfl rfl<|.P rfl (qW rfl rfl zD (uL _))<|.ag rfl rfl<|.nil<|U.seq<|U.seq<|rg<|.mv rfl rfl<|.mv rfl rfl<|.mv rfl rfl<|.P rfl (cn rfl rfl (aB zO))<|.P rfl (b8 (off:=(i+av.length)*1) underlying188 sizeOf243 rfl rfl zO zO zO)<|.R rfl (fN (r:=_) (i+av.length) 0 isAgg243 rfl rfl rfl (iD (by simp at*;omega)) rfl)<|.mv rfl rfl<|.P rfl (bY rfl rfl)<|.nil<|U.cond rfl (fun h3=>?_) (fun h3=>?_)
       ·have gU:=h3;try simp only[bs]at gU
        refine U.seq<|rg<|.mv rfl rfl<|.mv rfl rfl<|.mv rfl rfl<|.P rfl (cn rfl rfl (aB zO))<|.P rfl (b8 (off:=(i+av.length)*1) underlying188 sizeOf243 rfl rfl zO zO zO)<|.R rfl (fN (r:=_) (i+av.length) 0 isAgg243 rfl rfl rfl (iD (by simp at*;omega)) rfl)<|.P rfl (cn rfl rfl (addN (b:=gB) (by have:=fP hm.1 (i+av.length);unfold gB at*;omega)))<|.P rfl (b8 (off:=(i+av.length)*1) underlying188 sizeOf243 rfl rfl zO zO zO)<|.W rfl (jd (r:=_) (i+av.length) 0 sizeOf243 rfl rfl rfl rfl rfl rfl (iD (by simp at*;omega)) zS)<|.nil<|rg<|.mv rfl rfl<|.P rfl (cn rfl rfl (addN (b:=1) (by have:=Mo kI.1 nD hm.2.1;unfold gB at*;omega)))<|.ag rfl rfl<|.nil<|rg<|.mv rfl rfl<|.mv rfl rfl<|.mv rfl rfl<|.P rfl (cn rfl rfl (aB zO))<|.P rfl (b8 (off:=(i+av.length)*1) underlying188 sizeOf243 rfl rfl zO zO zO)<|.R rfl (fN (r:=_) (i+av.length) 0 isAgg243 rfl rfl rfl (im (iD (by simp at*;omega))) rfl)<|.mv rfl rfl<|.P rfl (fp rfl rfl (rY (by have:=G4 (g*x2+c);omega) (by have:=fP hm.1 (i+av.length);unfold gB at*;omega)))<|.P rfl (b8 (off:=(i+av.length)*1) underlying188 sizeOf243 rfl rfl zO zO zO)<|.W rfl (jd (r:=_) (i+av.length) 0 sizeOf243 rfl rfl rfl rfl rfl rfl (im (iD (by simp at*;omega))) zS)<|.nil ?_;refine U.nil (dv ?_);refine rg<|.P rfl (cn rfl rfl (aB zO))<|.mv rfl rfl<|.nil<|U.nil (dx ?_)
        exact⟨⟨av++[x2],aN,a1.set (i+av.length) (nth a1 (i+av.length)+gB-(g*x2+c)%gB),(g*x2+c)/gB+1,by simp[bg],Mn (e:=1) hm kI.1 nD (by simp at ub;omega) (by simp at ub;have:=hm.2.2.1;omega) (by have:=G4 (g*x2+c);omega) zO (Wj kI.1 nD hm.2.1 (x:=nth a1 (i+av.length)) zO),qA⟩,by simp,Le.mk rfl (.cons rfl (Sub.refl _) rfl (.n 2 rfl rfl (.cons rfl (Sub.refl _) rfl (.n 6 rfl rfl (.cons rfl (Sub.int zS) rfl .nil))))) (.arr rfl (by rfl) (.arr rfl (by simp[bD]) .nil))⟩
       ·have gU:=h3;try simp only[bs]at gU
        refine U.skip<|rg<|.mv rfl rfl<|.mv rfl rfl<|.mv rfl rfl<|.P rfl (cn rfl rfl (aB zO))<|.P rfl (b8 (off:=(i+av.length)*1) underlying188 sizeOf243 rfl rfl zO zO zO)<|.R rfl (fN (r:=_) (i+av.length) 0 isAgg243 rfl rfl rfl (iD (by simp at*;omega)) rfl)<|.mv rfl rfl<|.P rfl (fp rfl rfl (rY (by have:=G4 (g*x2+c);omega) (by have:=fP hm.1 (i+av.length);unfold gB at*;omega)))<|.P rfl (b8 (off:=(i+av.length)*1) underlying188 sizeOf243 rfl rfl zO zO zO)<|.W rfl (jd (r:=_) (i+av.length) 0 sizeOf243 rfl rfl rfl rfl rfl rfl (iD (by simp at*;omega)) zS)<|.nil<|U.nil (dv ?_);refine rg<|.P rfl (cn rfl rfl (aB zO))<|.mv rfl rfl<|.nil<|U.nil (dx ?_);exact⟨⟨av++[x2],aN,a1.set (i+av.length) (nth a1 (i+av.length)-(g*x2+c)%gB),(g*x2+c)/gB+0,by simp[bg],Mn (e:=0) hm kI.1 nD (by simp at ub;omega) (by simp at ub;have:=hm.2.2.1;omega) zO (by have:=fP hm.1 (i+av.length);omega) (Mo kI.1 nD hm.2.1),qA⟩,by simp,Le.mk rfl (.cons rfl (Sub.refl _) rfl (.n 2 rfl rfl (.cons rfl (Sub.refl _) rfl (.n 6 rfl rfl (.cons rfl (Sub.int zS) rfl .nil))))) (.arr rfl (by rfl) (.arr rfl (by exact tP) .nil))⟩
    ·have a_:=h1;try simp only[bs]at a_
     have ns:=(Ml qx hb hl (fun j hj=>hz j hj) rfl ua kI zO).1;refine U.skip<|rg<|.mv rfl rfl<|.P rfl (fp rfl rfl (rY (b:=1) zO (by have:=kI.1;unfold gB at*;omega)))<|.ag rfl rfl<|.nil<|U.nil (dv ?_);refine U.nil (dx ?_);exact⟨⟨g-1,(Ml qx hb hl (fun j hj=>hz j hj) rfl ua kI zO).2⟩,by simp;omega,Le.mk rfl (.cons rfl (Sub.gs zS) rfl (.n 2 rfl rfl (.cons rfl (Sub.gs zS) rfl (.n 4 rfl rfl .nil)))) (.arr rfl (by rfl) (.arr rfl (by rfl) .nil))⟩
end Go.T
namespace Go.T
open Go
def j8(m n:Nat):List (Nat×Nat):=if h:n=0 then[(m,n)]else(m,n)::j8 n (m%n)
termination_by n
decreasing_by exact Nat.mod_lt _ (Nat.pos_of_ne_zero h)
theorem H5(m:Nat):j8 m 0=[(m,0)]:=by rw[j8];simp
theorem H6{m n:Nat}(h:n≠0):j8 m n=(m,n)::j8 n (m%n):=by rw[j8];simp[h]
theorem OD(m n:Nat):∃r,j8 m n=(m,n)::r:=by
 by_cases h:n=0
 ·subst h;exact⟨[],H5 m⟩
 ·exact⟨_,H6 h⟩
def um(l:List (Nat×Nat)):Nat:=(l.getLast?.getD (0,0)).1
theorem aeM(l:List (Nat×Nat))(x:Nat×Nat):um (l++[x])=x.1:=by simp[um]
theorem aeL(m n:Nat):um (j8 m n)=Nat.gcd m n:=by
 induction n using Nat.strongRecOn generalizing m with
 |_ n ih=>
  by_cases h:n=0
  ·subst h;rw[H5];simp[um]
  ·rw[H6 h];obtain⟨r,hr⟩:=OD n (m%n);have h1:=ih (m%n) (Nat.mod_lt _ (Nat.pos_of_ne_zero h)) n;rw[hr]at h1⊢;rw[Nat.gcd_comm m n,Nat.gcd_rec n m,Nat.gcd_comm (m%n) n,←h1];simp[um]
theorem aaW{M N m n:Nat}{pre:List (Nat×Nat)}(h:j8 M N=pre++j8 m n):pre++[(m,n)]<+:j8 M N:=by
 obtain⟨r,hr⟩:=OD m n;exact⟨r,by rw[h,hr];simp⟩
theorem aaV{M N m n:Nat}{pre:List (Nat×Nat)}(h:j8 M N=pre++j8 m n)(hn:n≠0):j8 M N=(pre++[(m,n)])++j8 n (m%n):=by rw[h,H6 hn];simp
theorem aaU{M N m n:Nat}{pre:List (Nat×Nat)}(h:j8 M N=pre++j8 m n)(hn:n=0):pre++[(m,n)]=j8 M N:=by subst hn;rw[h,H5]
theorem ur{n:Nat}(h:(ak n).length=0):n=0:=by
 rcases Nat.eq_zero_or_pos n with e|e
 ·exact e
 ·rw[xS zO]at h;simp at h
theorem EJ(s:ae):gu (digits s).1=ak (val s).natAbs:=by
 have h:=oB s;have hv:=nN s;rw[afI h.ok h.cut]
 congr 1
 unfold kL at hv;split at hv<;>omega
theorem KB(s:ae):(digits s).2=decide (val s<0):=by
 have h:=oB s;have hv:=nN s;cases e:(digits s).2 with
 |true=>
  have:=Cr h.cut (h.Cx e);rw[e]at hv;simp[kL]at hv;exact(decide_eq_true zO).symm
 |false=>
  rw[e]at hv;simp[kL]at hv;exact(decide_eq_false zO).symm
open Go.Proofs Go.Proofs.Tryz
set_option maxRecDepth 20000
theorem Oa(M N:Nat)(xm:(ak M).length≤10000)(xn:(ak N).length≤10000)(hN:N≠0):Fc Tryz.prog 334 [bc (ak M),bc (ak N)] (.bl [bc (ak (M/N)),bc (ak (M%N))]):=by
 by_cases h:M<N
 ·exact ZE M N xm xn h
 ·by_cases h1:(ak N).length=1
  ·exact ZK M N xm xn h h1
  ·refine ZF M N xm xn h ?_;have h2:(ak N).length≠0:=fun e=>hN (ur e);omega
structure akj(M N:Nat)where
 pre:List (Nat×Nat)
 m:Nat
 n:Nat
 hs:j8 M N=pre++j8 m n
 hm:(ak m).length≤10000
 hn:(ak n).length≤10000
theorem aki(M N:Nat)(hM:(ak M).length≤10000)(hN:(ak N).length≤10000):AX (α:=Nat×Nat) Tryz.prog 341 8000 [.box 8000 0,.box 8001 0] [(8000,.cells [bc (ak M)]),(8001,.cells [bc (ak N)])] (fun p=>[bc (ak p.1),bc (ak p.2)]) (fun p=>p<+:j8 M N) (fun p=>p=j8 M N):=by
 refine AX.mk' func341 rfl ntmps341 rfl (fun t w=>results_none results341 t _ w) (fun aK lb ids B X Y=>?_);refine U.block<|U.loop (ι:=akj M N) (fun sx=>[(0,yv lb),(1,.box 8000 0),(2,.box 8001 0)]) (fun sx=>([(8000,.cells [bc (ak sx.m)]),(8001,.cells [bc (ak sx.n)])]++B sx.pre)) (fun sx=>sx.n) ⟨[],M,N,rfl,hM,hN⟩ ?_ ?_
 ·exact Le.mk (Lg (Y.has _) rfl) (.n 3 rfl rfl .nil) (.cons rfl rfl (.cons rfl rfl (.tail (L7 (own:=[(8000,_),(8001,_)]) (km:=[(8000,_),(8001,_)]) rfl (Y.free _) (Y.CH _)))))
 ·rintro⟨pre,m,n,hs,hm,hn⟩;dsimp only;refine U.seq (U.seq (U.wo ?_));refine Tx.q rfl trivial (bG rfl _)<|Tx.q rfl trivial (bP isAgg188 rfl rfl rfl)<|Tx.q rfl trivial (bP isAgg188 rfl rfl rfl)<|Tx.bC (Le.mk (ai:=[(8000,_),(8001,_)]++B (pre)) (Lg (Y.has _) rfl) (show du _ _ [(0,_),(1,_),(2,_),(6,_),(7,_),(8,_)]from(.n 6 rfl rfl .nil)) (.cons (i:=8000) rfl rfl (.cons (i:=8001) rfl rfl (.tail (L7 (own:=[(8000,_),(8001,_)]) (km:=[(8000,_),(8001,_)]) rfl (Y.free _) (Y.CH _))))))<|Tx.y Y (own:=[(8000,_),(8001,_)]) (pre:=pre) (aS:=[(0,_),(1,_),(2,_),(6,_),(7,_),(8,_)]) (m,n) rfl rfl rfl trivial rfl rfl rfl (aaW hs) rfl rfl (.cons rfl rfl (.cons rfl rfl (.cons rfl rfl (.cons rfl rfl (.cons rfl rfl (.cons rfl rfl .nil)))))) ?_ (fun o hX=>?_)
  ·skip;refine Tx.q rfl trivial (bG rfl _)<|Tx.q rfl (cN rfl rfl rfl rfl) (bP isAgg188 rfl rfl rfl)<|Tx.q rfl (cN rfl rfl rfl rfl) (cC underlying188 rfl _)<|Tx.q rfl (cN rfl rfl rfl rfl) (ju rfl rfl _)<|Tx.q rfl trivial (qV rfl rfl rfl _)<|Tx.nil<|U.cond rfl (fun h1=>?_) (fun h1=>?_)
   ·have gb:n≠0:=by rintro rfl;simp[bD,qO]at h1
    refine U.skip<|U.block<|U.seq<|rg<|.R rfl (bP isAgg188 rfl rfl rfl)<|.R rfl (bP isAgg188 rfl rfl rfl)<|.P rfl (aj call334 rfl (Oa _ _ zA zA zA))<|.mv rfl rfl<|.P rfl (iJ rfl rfl)<|.P rfl (iJ rfl rfl)<|.ag rfl rfl<|.ag rfl rfl<|.nil<|rg<|.R rfl (bP isAgg188 rfl rfl rfl)<|.mv rfl rfl<|.W rfl (qX sizeOf188 rfl rfl rfl rfl zS)<|.W rfl (qX sizeOf188 rfl rfl rfl rfl zS)<|.nil<|U.nil (dv ?_);refine U.nil (dx ?_);exact⟨⟨pre++[(m,n)],n,m%n,aaV hs gb,hn,Nat.le_trans (uu (Nat.le_of_lt (Nat.mod_lt _ (Nat.pos_of_ne_zero gb)))) hn⟩,by exact Nat.mod_lt _ (Nat.pos_of_ne_zero gb),Le.mk (Lg (Y.has _) rfl) (.n 3 rfl rfl .nil) (.cons rfl rfl (.cons rfl rfl (.tail (L7 (own:=[(8000,_),(8001,_)]) (km:=[(8000,_),(8001,_)]) rfl (Y.free _) (Y.CH _)))))⟩
   ·have a_:=h1;try simp only[bs]at a_
    refine U.exit (fc (eY ?_));exact U.nil<|ai4 (.inr rfl) (pre++[(m,n)]) (by exact aaU hs (ur (by simpa[bD]using a_))) (uH (own:=[(8000,_),(8001,_)]) rfl (Y.free _))
  ·skip;refine Tx.q rfl trivial (bG rfl _)<|Tx.off rfl (lk rfl rfl rfl rfl)<|Tx.off rfl (lk rfl rfl rfl rfl)<|Tx.off rfl (lk rfl rfl rfl rfl)<|Tx.q rfl trivial (C0 rfl rfl rfl _)<|Tx.nil<|U.fG rfl rfl<|U.exit (fc (eY ?_));exact U.nil<|ai5 (.inr rfl) o hX (uH (own:=[(8000,_),(8001,_)]) rfl (Y.Po _ hX))
theorem akk(a b:List Nat):bh Tryz.prog 333 [bc a,bc b] [] (.fn (.func 341) [] [.box 8000 0,.box 8001 0]) [(8000,.cells [bc a]),(8001,.cells [bc b])]:=by
 refine xj func333 ntmps333 results333 ?_;refine U.seq<|rg<|.W rfl (Ll 8000 rfl rfl rfl)<|.W rfl (Ll 8001 rfl rfl rfl)<|.ag rfl rfl<|.nil<|U.seq<|rg<|.P rfl (Lu (xs:=[]) (ys:=_) rfl rfl)<|.ag rfl rfl<|.nil<|U.ret (?_);exact wq rfl (by exact Sub.refl _) (.cons rfl rfl (.cons rfl rfl .nil))
end Go.T
namespace Go.T
open Go
theorem vV(s:ae):(ak (val s).natAbs).length≤s.length:=by
 rw[←EJ];have h1:=ru (digits s).1;have h2:=m_ s;omega
theorem Dq(s:ae):(val s).natAbs<10^s.length:=by
 have h1:=s8 (digits s).1 (pM s);have h2:=m_ s;have h3:10^(digits s).1.length≤10^s.length:=Nat.pow_le_pow_right zO h2;unfold val;split<;>omega
theorem CC{n:Int}{k:Nat}(h:n.natAbs<10^k):(ofInt n).length≤k+1:=by
 have:=FG k n.natAbs h;unfold ofInt;split<;>simp<;>omega
theorem To{n:Int}{s:ae}(h:n.natAbs≤(val s).natAbs):(ofInt n).length≤s.length+1:=CC (Nat.lt_of_le_of_lt h (Dq s))
theorem Vz(neg:Bool)(n:Nat):uY neg (ak n)=ofInt (if neg then -(n:Int)else n):=by rw[Dl _ (ek n),gI]
theorem O8{a b:Int}(hb:0<b)(h:¬(decide (a<0)=true∧a.natAbs%b.natAbs≠0)):(if decide (a<0)then -((a.natAbs/b.natAbs:Nat):Int)else((a.natAbs/b.natAbs:Nat):Int))=a/b:=by
 obtain⟨n,rfl⟩:∃n:Nat,b=n:=⟨b.toNat,by omega⟩;simp only[Int.natAbs_natCast]at h⊢;by_cases ha:a<0
 ·simp only[ha,decide_true,if_true,true_and]at h⊢;have hm:a.natAbs%n=0:=by omega
  obtain⟨k,hk⟩:∃k:Nat,a=-(k:Int):=⟨a.natAbs,by omega⟩;subst hk;simp only[Int.natAbs_neg,Int.natAbs_natCast]at hm⊢;have hd:=Nat.div_add_mod k n;rw[hm,Nat.add_zero]at hd;have e:-(k:Int)=(n:Int)*(-((k/n:Nat):Int)):=by
   rw[Int.mul_neg,←Int.natCast_mul,hd]
  rw[e,Int.mul_ediv_cancel_left _ zO]
 ·simp only[ha,decide_false]at h⊢;obtain⟨k,hk⟩:∃k:Nat,a=(k:Int):=⟨a.toNat,by omega⟩;subst hk;simp
theorem O7{a b:Int}(hb:0<b)(ha:a<0)(h:a.natAbs%b.natAbs≠0):-((a.natAbs/b.natAbs+1:Nat):Int)=a/b:=by
 obtain⟨n,rfl⟩:∃n:Nat,b=n:=⟨b.toNat,by omega⟩;obtain⟨k,hk⟩:∃k:Nat,a=-(k:Int):=⟨a.natAbs,by omega⟩;subst hk;simp only[Int.natAbs_neg,Int.natAbs_natCast]at h⊢;have hd:=Nat.div_add_mod k n;have bN:=Nat.mod_lt k (y:=n) zO;have e:-(k:Int)=(n:Int)*(-((k/n+1:Nat):Int))+((n-k%n:Nat):Int):=by
  have h1:(k:Int)=(n:Int)*((k/n:Nat):Int)+((k%n:Nat):Int):=by rw[←Int.natCast_mul,←Int.natCast_add,hd]
  have h2:((n-k%n:Nat):Int)=(n:Int)-((k%n:Nat):Int):=by omega
  have h3:((k/n+1:Nat):Int)=((k/n:Nat):Int)+1:=by omega
  rw[h2,h3,Int.mul_neg,Int.mul_add,Int.mul_one];omega
 rw[e,Int.add_comm,Int.add_mul_ediv_left _ _ zO,Int.ediv_eq_zero_of_lt zO zO];omega
theorem Si{n:Nat}(h:0<((ak n).length:Int)):n≠0:=by
 rintro rfl;rw[qO]at h;simp at h
theorem UY{a b:Int}(hb:0<b)(h:¬decide (a<0)=decide (b<0)):a<0:=by
 have:decide (b<0)=false:=by simp;omega
 rw[this]at h;simpa using h
theorem ZV{a b:Int}(hb:0<b)(h:(¬decide (a<0)=decide (b<0))∧0<((ak (a.natAbs%b.natAbs)).length:Int)):ofInt (if(decide (a<0)!=decide (b<0))=true then -((a.natAbs/b.natAbs+1:Nat):Int)else((a.natAbs/b.natAbs+1:Nat):Int))=ofInt (a/b):=by
 have ha:=UY hb h.1;have h0:decide (b<0)=false:=by simp;omega
 rw[if_pos (by simp[ha,h0]),O7 hb ha (Si h.2)]
theorem ZX{a b:Int}(hb:0<b)(h:(¬decide (a<0)=decide (b<0))∧0<((ak (a.natAbs%b.natAbs)).length:Int)):ofInt (if decide (b<0)=true then -((b.natAbs-a.natAbs%b.natAbs:Nat):Int)else((b.natAbs-a.natAbs%b.natAbs:Nat):Int))=ofInt (a%b):=by
 have ha:=UY hb h.1;have h1:=O7 hb ha (Si h.2);rw[if_neg zQ]
 congr 1
 have h2:=Int.mul_ediv_add_emod a b;have h3:=Nat.div_add_mod a.natAbs b.natAbs;have h4:=Nat.mod_lt a.natAbs (y:=b.natAbs) zO;rw[←h1]at h2;obtain⟨n,rfl⟩:∃n:Nat,b=n:=⟨b.toNat,by omega⟩;simp only[Int.natAbs_natCast]at*;have h5:((n*(a.natAbs/n)+a.natAbs%n:Nat):Int)=a.natAbs:=by rw[h3]
 rw[Int.natCast_add,Int.natCast_mul]at h5;have h6:(n:Int)*-((a.natAbs/n+1:Nat):Int)=-((n:Int)*((a.natAbs/n:Nat):Int))-n:=by rw[Int.mul_neg,Int.natCast_add,Int.mul_add];omega
 rw[h6]at h2;omega
theorem ZU{a b:Int}(hb:0<b)(h:(decide (a<0)!=decide (b<0))=false∨((ak (a.natAbs%b.natAbs)).length:Int)≤0):ofInt (if(decide (a<0)!=decide (b<0))=true then -((a.natAbs/b.natAbs:Nat):Int)else((a.natAbs/b.natAbs:Nat):Int))=ofInt (a/b):=by
 have h0:decide (b<0)=false:=by simp;omega
 have:=O8 (a:=a) hb (by
  rintro⟨g1,g2⟩;rcases h with h|h
  ·rw[g1,h0]at h;simp at h
  ·exact g2 (ur zO))
 rw[←this,h0];simp
theorem ZW{a b:Int}(hb:0<b)(h:(decide (a<0)!=decide (b<0))=false∨((ak (a.natAbs%b.natAbs)).length:Int)≤0):ofInt (if decide (b<0)=true then -((a.natAbs%b.natAbs:Nat):Int)else((a.natAbs%b.natAbs:Nat):Int))=ofInt (a%b):=by
 have h0:decide (b<0)=false:=by simp;omega
 have h1:=O8 (a:=a) hb (by
  rintro⟨g1,g2⟩;rcases h with h|h
  ·rw[g1,h0]at h;simp at h
  ·exact g2 (ur zO))
 rw[if_neg zQ]
 congr 1
 have h2:=Int.mul_ediv_add_emod a b;have h3:=Nat.div_add_mod a.natAbs b.natAbs;rw[←h1]at h2;obtain⟨n,rfl⟩:∃n:Nat,b=n:=⟨b.toNat,by omega⟩;simp only[Int.natAbs_natCast]at*;have h5:((n*(a.natAbs/n)+a.natAbs%n:Nat):Int)=a.natAbs:=by rw[h3]
 rw[Int.natCast_add,Int.natCast_mul]at h5;by_cases g1:a<0
 ·simp only[g1,decide_true,if_true,Int.mul_neg]at h2;have:a.natAbs%n=0:=by
   rcases h with h|h
   ·simp[g1]at h;omega
   ·exact ur zO
  omega
 ·simp only[g1,decide_false,Bool.false_eq_true,if_false]at h2;omega
open Go.Proofs Go.Proofs.Tryz
set_option maxRecDepth 20000
theorem yj(s:ae)(hs:s.length≤100000):Fc Tryz.prog 109 [.str s] (.agg (pN (decide (val s<0)) (ak (val s).natAbs))):=by
 have:=uK s hs;rw[KB,EJ]at this;exact this
theorem Dm(neg:Bool)(n:Nat)(h:(ak n).length≤20000):Fc Tryz.prog 110 [.agg (pN neg (ak n))] (.str (ofInt (if neg then -(n:Int)else n))):=by
 have:=AS neg (ak n) (ek n) h;rw[Vz]at this;exact this
theorem Tf(s:ae)(hs:s.length≤9000):Fc Tryz.prog 319 [.str s] (.str (ofInt (-val s))):=by
 have:=ags s hs;rw[KB,EJ,Vz]at this;have e:(if(!decide (val s<0))=true then -((val s).natAbs:Int)else((val s).natAbs:Int))=-val s:=by
  by_cases h:val s<0
  ·simp[h];omega
  ·simp[h];omega
 rw[e]at this;exact this
theorem agu:Sub (.raw (.slice none 0 0)) (bc (ak (um []))):=by
 rw[show um []=0 from rfl,qO];exact Sub.nil _ false
theorem Pt(a b:ae)(ha:a.length≤4000)(hb:b.length≤4000):Fc Tryz.prog 320 [.str a,.str b] (.str (ofInt (Int.gcd (val a) (val b):Int))):=by
 refine bE func320 ntmps320 results320 ?_;have sG:=vV a;have ke:=vV b;have dH:(ak (Nat.gcd (val a).natAbs (val b).natAbs)).length≤10000:=by
  rcases Nat.eq_zero_or_pos (val a).natAbs with e|e
  ·rw[e,Nat.gcd_zero_left];omega
  ·exact Nat.le_trans (uu (Nat.gcd_le_left _ e)) zO
 refine U.seq<|rg<|.ag rfl rfl<|.nil<|U.seq<|rg<|.W rfl (ln 0 zeroValue188 rfl)<|.nil<|U.seq<|U.seq<|rg<|.mv rfl rfl<|.P rfl (aj call109 rfl (yj _ zO))<|.P rfl (Lo 188 1 underlying190 isAgg188 rfl rfl rfl)<|.mv rfl rfl<|.P rfl (aj call109 rfl (yj _ zO))<|.P rfl (Lo 188 1 underlying190 isAgg188 rfl rfl rfl)<|.W rfl (eu call333 rfl (akk _ _) .nil rfl rfl)<|.nil<|U.block<|U.aiM (α:=Nat×Nat) 7900 [0] [(0,_),(1,_),(4,_),(5,_),(7,_),(8,_),(9,_),(10,_),(11,_),(12,_)] (fun(pre:List (Nat×Nat))=>[(0,.cells [bc (ak (um pre))])]) (fun _ _=>False) rfl call341 (aki (val a).natAbs (val b).natAbs zO zO) (fH:=[(0,_),(1,_),(4,_),(5,_),(7,_),(8,_),(9,_),(10,_),(11,_),(12,_),(13,_)]) ((Le.eP 0 0 rfl rfl agu).trans<|Le.mk (ai:=[(8000,_),(8001,_)]++(fun(pre:List (Nat×Nat))=>[(0,.cells [bc (ak (um pre))])]) []) rfl (show du _ _ [(0,_),(1,_),(4,_),(5,_),(7,_),(8,_),(9,_),(10,_),(11,_),(12,_),(13,_)]from(.n 11 rfl rfl .nil)) (.cons (i:=8000) rfl rfl (.cons (i:=8001) rfl rfl (.cons rfl rfl .nil)))) rfl rfl (fun _=>rfl) (.cons rfl rfl (.cons rfl rfl (.cons rfl rfl (.cons rfl rfl (.cons rfl rfl (.cons rfl rfl (.cons rfl rfl (.cons rfl rfl (.cons rfl rfl (.cons rfl rfl .nil)))))))))) rfl (fun _=>rfl) (by rintro j o h;exact h.elim) (fun _=>aa.KO rfl) (by rintro j o h;exact h.elim) (fun _=>Pn rfl) (by rintro j o h;exact h.elim) zD rfl (fun pre x af=>?_) (fun xs EW=>?_) (fun _ _ h=>h.elim)
 ·skip;refine rg<|.ag rfl rfl<|.nil<|U.nil ⟨rfl,?_⟩;refine U.block<|rg<|.mv rfl rfl<|.W rfl (qX sizeOf188 rfl rfl rfl rfl zS)<|.nil<|U.nil (dv ?_);exact U.nil<|⟨rfl,Le.mk rfl .nil (.cons rfl rfl (.eq rfl (by rw[aeM];rfl) rfl .nil))⟩
 ·skip;subst EW;rw[aeL];refine U.nil (dv ?_);refine U.seq<|rg<|.R rfl (bP isAgg188 rfl rfl rfl)<|.P rfl (tj (pl:=#[(0,1),(1,1)]) underlying190 zeroValue190 (fun w=>by kernel_rfl) rfl rfl)<|.P rfl (aj call110 rfl (Dm false _ (Nat.le_trans dH zD)))<|.ag rfl rfl<|.nil<|U.ret (?_);exact bS rfl (Sub.refl _)
structure ak3 where
 u:Unit
theorem ak2:Fc Tryz.prog 332 [.snap 1 false [],.snap 1 false []] (.snap 1 false []):=by
 refine bE func332 ntmps332 results332 ?_;refine go []<|sd (aW zO zS)<|oP (Ui underlying188 sizeOf243 typeInfo243 rfl rfl rfl rfl)<|U.loop (ι:=ak3) (fun sx=>[(17,bc []),(18,.i 0),(19,.i 0),(1,.snap 1 false []),(5,bc [])]) (fun sx=>[]) (fun sx=>0) ⟨()⟩ ?_ ?_
 ·exact Le.mk rfl (.n 5 rfl rfl .nil) .nil
 ·rintro⟨u⟩;try dsimp only
  skip
  ·skip;exact go []<|aQ zS<|go []<|oP (aj call158 rfl (si _))<|an rfl (Sub.refl _)
theorem ak1(M N:Nat)(hM:(ak M).length≤20000)(hN:(ak N).length≤20000):Fc Tryz.prog 332 [bc (ak M),bc (ak N)] (bc (ak (M*N))):=by
 by_cases h:(ak M).length+(ak N).length≠0
 ·have:=VB (ak M) (ak N) h hM hN (ek M) (ek N);rw[gI,gI]at this;exact this
 ·have e1:=ur (n:=M) zO;have e2:=ur (n:=N) zO;subst e1;subst e2;rw[qO];exact ak2
theorem agh(a b:Int):(if(decide (a<0)!=decide (b<0))=true then -((a.natAbs*b.natAbs:Nat):Int)else((a.natAbs*b.natAbs:Nat):Int))=a*b:=by
 rw[←Int.natAbs_mul];by_cases h1:a<0<;>by_cases h2:b<0
 ·have:=Int.mul_pos_of_neg_of_neg h1 h2;simp[h1,h2];omega
 ·have:a*b≤0:=Int.mul_nonpos_of_nonpos_of_nonneg zO zO;simp[h1,h2];omega
 ·have:a*b≤0:=Int.mul_nonpos_of_nonneg_of_nonpos zO zO;simp[h1,h2];omega
 ·have:0≤a*b:=Int.mul_nonneg zO zO;simp[h1,h2];omega
theorem afD{M N:Nat}:(ak (M*N)).length≤(ak M).length+(ak N).length:=by
 refine Kf ?_;have h1:=s0 M;have h2:=s0 N;rw[Nat.pow_add];rcases Nat.eq_zero_or_pos N with e|e
 ·subst e;rw[Nat.mul_zero];exact Nat.mul_pos (Nat.pow_pos ee) (Nat.pow_pos ee)
 ·exact Nat.mul_lt_mul_of_lt_of_le h1 (Nat.le_of_lt h2) zO
theorem Kw(a b:ae)(ha:a.length≤4000)(hb:b.length≤4000):Fc Tryz.prog 313 [.str a,.str b] (.str (ofInt (val a*val b))):=by
 refine bE func313 ntmps313 results313 ?_;have sG:=vV a;have ke:=vV b;have QF:=afD (M:=(val a).natAbs) (N:=(val b).natAbs);exact go []<|oP (aj call109 rfl (yj _ zO))<|oP (aj call109 rfl (yj _ zO))<|oP (aj call332 rfl (ak1 _ _ zO zO))<|oP (aj call110 rfl (Dm _ _ zO))<|ord<|an rfl (Sub.str (by rw[agh]))
theorem ahI(M:Nat)(h:(ak M).length≤20000):Fc Tryz.prog 154 [bc (ak M),.snap 1 true (bD [1])] (bc (nQ (ak M) [1])):=
 (Lc (ak M) [1] h zS (ek M) (fun x hx=>by simp at hx;subst hx;unfold gB;omega)).sub
theorem af'(N r:Nat)(h:(ak N).length≤20000)(hr:r<N):Fc Tryz.prog 156 [bc (ak N),bc (ak r)] (bc (ak (N-r))):=by
 have h1:(ak N).length≠0:=fun e=>by have:=ur e;omega
 have h2:=Fv (ak N) (ak r) h1 h (Nat.le_trans (uu (Nat.le_of_lt hr)) h) (ek N) (ek r);have h3:=uV (ak N) (ak r) 0 (ek N) (ek r) zO (by rw[gI,gI];omega);have h4:=yx (ak N) (ak r) 0 (ek N) (ek r) zO;rw[tJ h4,h3,gI,gI,Nat.add_zero]at h2;exact h2
theorem akY(neg:Bool)(n:Nat)(h:(ak n).length≤10000):Fc Tryz.prog 110 [.agg (pN neg (nQ (ak n) [1]))] (.str (ofInt (if neg then -((n+1:Nat):Int)else(n+1:Nat)))):=by
 have h1:aU [1]:=fun x hx=>by simp at hx;subst hx;unfold gB;omega
 have h2:=Ld (ak n) [1];have:=AS neg (nQ (ak n) [1]) (F0 (ek n) h1) (by simp at h2;omega);rw[Dl _ (F0 (ek n) h1),Lf,gI]at this;simpa[ao]using this
theorem D9(a b:ae)(ha:a.length≤4000)(hb:b.length≤4000)(h0:0<val b):Fc Tryz.prog 321 [.str a,.str b] (.bl [.str (ofInt (val a/val b)),.str (ofInt (val a%val b)),.i 0]):=by
 refine Io func321 ntmps321 results321 ?_;have sG:=vV a;have ke:=vV b;have gb:(val b).natAbs≠0:=by omega
 have hq:=uu (Nat.div_le_self (val a).natAbs (val b).natAbs);have hr:=uu (Nat.mod_le (val a).natAbs (val b).natAbs);have gO:=Nat.mod_lt (val a).natAbs (Nat.pos_of_ne_zero gb);have qI:=uu (Nat.sub_le (val b).natAbs ((val a).natAbs%(val b).natAbs));have sE:decide (val b<0)=false:=by simp;omega
 refine go []<|oP (aj call109 rfl (yj _ zO))<|oP (aj call109 rfl (yj _ zO))<|aQ (by simp[bD];exact fun e=>gb (ur (by rw[e];rfl)))<|oP (aj call334 rfl (Oa _ _ zO zO zA))<|br (fun h1=>?_) (fun h1=>?_)
 ·have a_:=h1;try simp only[bs]at a_
  exact oP (cm (n:=1) (rows:=bD [1]) underlying188 sizeOf243 rfl rfl rfl zeroValue243 rfl rfl rfl rfl rfl rfl rfl)<|oP (aj call154 rfl (ahI _ zO))<|oP (aj call156 rfl (af' _ _ zO gO))<|ord<|oP (aj call110 rfl (by exact akY _ _ zO))<|oP (aj call110 rfl (Dm _ _ zO))<|ord<|C5 rfl rfl rfl (Sub.str (by exact ZV h0 a_)) (Sub.str (by exact ZX h0 a_)) (Sub.refl _)
 ·have a_:=h1;try simp only[bs]at a_
  exact oP (aj call110 rfl (by exact Dm _ _ zO))<|oP (aj call110 rfl (Dm _ _ zO))<|ord<|C5 rfl rfl rfl (Sub.str (by exact ZU h0 a_)) (Sub.str (by exact ZW h0 a_)) (Sub.refl _)
end Go.T
namespace Go.T
open Go
def mO(f:cF):Prop:=f.num.length≤60∧f.den.length≤60
def rX(x:cK):Prop:=mO x.oe∧mO x.oa∧mO x.oN
def sg(f:cF):Int:=jf (val f.num-val [])
def eW(f:cF):ae×ae:=if decide (jf (val f.den-val [])=0)then(f.num,[49])else(f.num,f.den)
def l6(n d:Int):Int×Int:=
 let n1:=if d<0 then -n else n
 let d1:=if d<0 then -d else d
 (n1/(Int.gcd n1 d1:Int),d1/(Int.gcd n1 d1:Int))
def j1(n d:Int):cF:=⟨ofInt (l6 n d).1,if ofInt (l6 n d).2=[49]then[]else ofInt (l6 n d).2⟩
def Ba(f:cF):Int:=if f=j1 (val (eW f).1) (val (eW f).2)then 0 else 1
def Bf(a:ae):Int:=if decide (a≠[])&&decide (((a.headD 0).toNat:Int)=45)then(a.length:Int)-1 else a.length
theorem acF{a:ae}(h:a≠[]):a[(0:Int).toNat]?=some (a.headD 0):=by cases a with
 |nil=>exact absurd rfl h
 |cons c a=>rfl
def An(f:cF):Int:=if decide (Ba f≠0)then 1 else if decide (40<max (Bf f.num) (Bf f.den))then 4 else 0
def ahF(i:cK):Bool:=decide (sg i.oe≠0)||decide (sg i.oa≠0)||decide (i.Cu≠0)||decide (i.count≠0)||decide (sg i.oN≠0)||decide (i.other≠[])
def Xi(i:cK):Bool:=decide (sg i.oe≤0)||decide (sg i.oa<0)||!([1,2,3,4,6,12].any fun n=>decide (i.Cu=n))||decide (i.count<1)||decide (5<i.count)
def Xj(i:cK):Bool:=decide (i.other≠[])||decide (sg i.oN≠0)
def abE(i:cK):Bool:=decide (sg i.oe≠0)||decide (sg i.oa≠0)||decide (i.Cu≠0)||decide (i.count≠0)
def TY(i:cK):Int:=if ahF i=true then 1 else 0
def Nd(i:cK):Int:=if Xi i=true then 2 else if Xj i=true then 1 else 0
def Pp(i:cK):Int:=if(!ig i.other||decide (i.other=i.cur))=true then 12 else if decide (sg i.oN≤0)=true then 2 else if abE i=true then 1 else 0
theorem kh{b:Bool}{x y:Int}(h:b=true):x=if b=true then x else y:=by rw[if_pos h]
theorem dI{b:Bool}{x y z:Int}(h:b=false)(k:z=y):z=if b=true then x else y:=by rw[if_neg (by rw[h];simp)];exact k
theorem VR:val []=0:=by decide
theorem ajT{n:Int}:jf n<0↔n<0:=by unfold jf;split<;>(try split)<;>omega
theorem ajU{n:Int}:jf n=0↔n=0:=by unfold jf;split<;>(try split)<;>omega
theorem UZ(d:ae):jf (val d-val [])<0↔val d<0:=by rw[VR,ajT];omega
theorem Up{n d:ae}(h:decide (jf (val d-val [])<0)=true):
  ofInt (val (ofInt (-val n))/val (ofInt (Int.gcd (val (ofInt (-val n))) (val (ofInt (-val d))):Int)))=ofInt (l6 (val n) (val d)).1∧
  ofInt (val (ofInt (-val d))/val (ofInt (Int.gcd (val (ofInt (-val n))) (val (ofInt (-val d))):Int)))=ofInt (l6 (val n) (val d)).2:=by
 have h':val d<0:=(UZ d).1 (of_decide_eq_true h);simp only[q8,l6,if_pos h',and_self]
theorem Uo{n d:ae}(h:decide (jf (val d-val [])<0)=false):
  ofInt (val n/val (ofInt (Int.gcd (val n) (val d):Int)))=ofInt (l6 (val n) (val d)).1∧ofInt (val d/val (ofInt (Int.gcd (val n) (val d):Int)))=ofInt (l6 (val n) (val d)).2:=by
 have h':¬val d<0:=fun e=>of_decide_eq_false h ((UZ d).2 e);simp only[q8,l6,if_neg h',and_self]
theorem Tg(s:ae):(ofInt (-val s)).length≤s.length+1:=To zS
theorem Pr(n:Int){d:ae}(h0:val d≠0):(ofInt (Int.gcd n (val d):Int)).length≤d.length+1:=by
 refine To ?_;rw[Int.natAbs_natCast];exact Nat.gcd_le_right _ zO
theorem Iv(n:Int){d:Int}(h0:d≠0):0<val (ofInt (Int.gcd n d:Int)):=by
 rw[q8];have:=Nat.gcd_pos_of_pos_right n.natAbs (n:=d.natAbs) zO;have e:Int.gcd n d=Nat.gcd n.natAbs d.natAbs:=rfl;omega
theorem abL(n:Int){d:ae}(h0:val d≠0):(ofInt (Int.gcd n (val (ofInt (-val d))):Int)).length≤d.length+1:=by
 rw[q8,Int.gcd_neg];exact Pr n h0
theorem Ps(n:Int){d:ae}(h0:val d≠0):0<val (ofInt (Int.gcd n (val (ofInt (-val d))):Int)):=Iv n (by rw[q8];omega)
theorem afB{n d:Int}(h:decide (ofInt (l6 n d).2=[49])=true):[]=(j1 n d).den:=by simp only[j1];rw[if_pos (of_decide_eq_true h)]
theorem afC{n d:Int}(h:decide (ofInt (l6 n d).2=[49])=false):ofInt (l6 n d).2=(j1 n d).den:=by simp only[j1];rw[if_neg (of_decide_eq_false h)]
theorem K0(f:cF):(eW f).1=f.num:=by unfold eW;split<;>rfl
theorem CQ(f:cF):val (eW f).2≠0:=by
 unfold eW;split
 ·show val [49]≠0;decide
 ·rename_i h;intro e;apply h;simp only[decide_eq_true_eq];rw[ajU];show val f.den-val []=0;rw[VR];have:val f.den=0:=e;omega
theorem TV(f:cF){k:Nat}(hk:1≤k)(h:f.den.length≤k):(eW f).2.length≤k:=by unfold eW;split<;>simp<;>omega
theorem X_{f:cF}{n d:Int}(h:(!decide ([f.num,f.den]=[(j1 n d).num,(j1 n d).den]))=true):¬f=j1 n d:=by
 rintro e;rw[←e]at h;simp at h
theorem X9{f:cF}{n d:Int}(h:(!decide ([f.num,f.den]=[(j1 n d).num,(j1 n d).den]))=false):f=j1 n d:=by
 have:=of_decide_eq_true (by simpa using h:decide ([f.num,f.den]=[(j1 n d).num,(j1 n d).den])=true);simp only[List.cons.injEq,and_true]at this;cases f;exact congr (congrArg cF.mk this.1) this.2
theorem Fz(s t:ae):(ofInt (val s*val t)).length≤s.length+t.length+1:=by
 refine CC ?_;rw[Int.natAbs_mul,Nat.pow_add];have h1:=Dq s;have h2:=Dq t;rcases Nat.eq_zero_or_pos (val t).natAbs with e|e
 ·rw[e,Nat.mul_zero];exact Nat.mul_pos (Nat.pow_pos zO) (Nat.pow_pos zO)
 ·exact Nat.mul_lt_mul_of_lt_of_le h1 (Nat.le_of_lt h2) zO
def AO(f g:cF):cF:=j1 (val (eW f).1*val (eW g).2-val (eW g).1*val (eW f).2) (val (eW f).2*val (eW g).2)
def DW(f g:cF):Int:=jf (val (AO f g).num-val [])
def yE:cF:=⟨[],[]⟩
def Ca(pos part:Bool)(f:cF)(WT:Bool)(aH:Bool):Int:=if decide (Ba f≠0)=true then 1 else if aH=true then 4 else if WT=true then 2 else 0
def afn(pos part:Bool)(f:cF):Bool:=decide (DW f yE<0)||(pos&&decide (DW f yE=0))||(part&&decide (0<DW f (j1 (val [49]) (val [49]))))
theorem L1{f g:cF}{k:Nat}(hf:f.num.length≤k∧f.den.length≤k)(hg:g.num.length≤k∧g.den.length≤k)(hk:1≤k):
  (eW f).1.length≤k∧(eW f).2.length≤k∧(eW g).1.length≤k∧(eW g).2.length≤k:=
 ⟨by rw[K0];exact hf.1,TV f hk hf.2,by rw[K0];exact hg.1,TV g hk hg.2⟩
theorem ahU{f g:cF}:val (ofInt (val (eW f).2*val (eW g).2))≠0:=by
 rw[q8];exact Int.mul_ne_zero (CQ f) (CQ g)
theorem agO{a b:Int}{k:Nat}(ha:a.natAbs<10^k)(hb:b.natAbs<10^k):(ofInt (a-b)).length≤k+2:=by
 refine CC (k:=k+1) ?_;rw[Nat.pow_succ];omega
theorem Cv(s t:ae):(val s*val t).natAbs<10^(s.length+t.length):=by
 rw[Int.natAbs_mul,Nat.pow_add];have h1:=Dq s;have h2:=Dq t;rcases Nat.eq_zero_or_pos (val t).natAbs with e|e
 ·rw[e,Nat.mul_zero];exact Nat.mul_pos (Nat.pow_pos zO) (Nat.pow_pos zO)
 ·exact Nat.mul_lt_mul_of_lt_of_le h1 (Nat.le_of_lt h2) zO
theorem A2{n:Int}{j k:Nat}(h:n.natAbs<10^j)(hk:j≤k):n.natAbs<10^k:=Nat.lt_of_lt_of_le h (Nat.pow_le_pow_right zO hk)
theorem aiW{n d:Int}(h:d≠0):(l6 n d).1.natAbs≤n.natAbs∧(l6 n d).2.natAbs≤d.natAbs:=by
 have key:∀x y:Int,(x/(y:Int)).natAbs≤x.natAbs:=fun x y=>Int.natAbs_ediv_le_natAbs x y;unfold l6;by_cases g:d<0
 ·simp only[if_pos g];exact⟨Nat.le_trans (key _ _) zO,Nat.le_trans (key _ _) zO⟩
 ·simp only[if_neg g];exact⟨key _ _,key _ _⟩
theorem Sg{n d:Int}{k:Nat}(h:d≠0)(hn:n.natAbs<10^k)(hd:d.natAbs<10^k):(j1 n d).num.length≤k+1∧(j1 n d).den.length≤k+1:=by
 have h1:=aiW (n:=n) h;refine⟨CC (n:=(l6 n d).1) (by have:=h1.1;omega),?_⟩;simp only[j1];split
 ·simp
 ·exact CC (by have:=h1.2;omega)
theorem akx{f g:cF}{k:Nat}(hk:1≤k)(hf:f.num.length≤k∧f.den.length≤k)(hg:g.num.length≤k∧g.den.length≤k):(AO f g).num.length≤2*k+2∧(AO f g).den.length≤2*k+2:=by
 obtain⟨h1,h2,h3,h4⟩:=L1 hf hg hk;have a1:=A2 (Cv (eW f).1 (eW g).2) (k:=2*k) zO;have a2:=A2 (Cv (eW g).1 (eW f).2) (k:=2*k) zO;have a3:=A2 (Cv (eW f).2 (eW g).2) (k:=2*k) zO;have gE:10^(2*k+1)=10^(2*k)*10:=Nat.pow_succ ..;exact Sg (k:=2*k+1) (Int.mul_ne_zero (CQ f) (CQ g)) zO zO
theorem D0(x:List Nat):¬js x []<0:=fun h=>Nu h rfl
theorem Wu{n1:Bool}{x:List Nat}(k1:pq n1 x):aU (jk n1 x true []).2∧kL (jk n1 x true []).1 (jk n1 x true []).2=kL n1 x∧(jk n1 x true []).2.length≤x.length+1:=by
 have ho:aU []:=fun _ h=>by simp at h
 cases n1 with
 |true=>
  simp only[jk,beq_self_eq_true,if_true];have:=Ld x [];refine⟨F0 k1.ok ho,?_,by simpa using this⟩;simp[kL,Lf,ao]
 |false=>
  have e:(false==true)=false:=rfl;simp only[jk,e,Bool.false_eq_true,if_false,if_neg (D0 x)];have h1:=yx x [] 0 k1.ok ho zO;have h2:=uV x [] 0 k1.ok ho zO (by simp[ao]);have h3:=Di x [] 0;refine⟨yR h1,?_,by have:=vg (gK x [] 0);omega⟩;rw[tJ h1,h2];simp[kL,gI,ao]
theorem agD{s:ae}(h:val s≠0):pq (!(digits s).2) (gu (digits s).1):=by
 have h1:=oB s;refine⟨h1.ok,h1.cut,fun _ h0=>h ?_⟩;rw[←nN s,List.length_eq_zero_iff.1 h0];simp[kL,ao]
theorem agE(s:ae):kL (!(digits s).2) (gu (digits s).1)=-val s:=by
 rw[←nN s];unfold kL;cases(digits s).2<;>simp
open Go.Proofs Go.Shelf Go.RowKit Go.Lib Go.Sort
@[reducible] def calm:bT:=⟨False⟩
theorem acj{w w':World}(h:@gL calm w w'):∃q os',w'=Sort.grow (w.drewN q) os':=by
  obtain⟨h1,h2,h3,h4,h5⟩:=h;have h6:w'.tape=w.tape∧w.drawn≤w'.drawn:=by
    rcases h5 with h|h
    · exact h
    · exact h.elim
  clear h5;refine⟨w'.drawn-w.drawn,w'.heap.extract w.heap.size w'.heap.size,?_⟩;have hh:w'.heap=w.heap++w'.heap.extract w.heap.size w'.heap.size:=by
    apply Array.ext_getElem?;intro i;rcases Nat.lt_or_ge i w.heap.size with g|g
    · rw[Array.getElem?_append_left g,h2 i g]
    · rw[Array.getElem?_append_right g,Array.getElem?_extract]
      by_cases e:i<w'.heap.size
      · rw[if_pos zO];congr 1;omega
      · rw[if_neg zO,Array.getElem?_eq_none zO]
  have hd:(w.drewN (w'.drawn-w.drawn))={w with drawn:=w'.drawn}:=by
    unfold World.drewN;congr 1;omega
  rw[hd];unfold Sort.grow;cases w';simp only at*;obtain⟨h6,_⟩:=h6;subst h3;subst h4;subst h6
  congr 1
section
variable{α:Type} [Inhabited α] {P:Program}
structure GR(k:Nat)(oY:α→List D)(od:α→List Value):Prop where
  len:∀x,(od x).length=k
  J8:∀x,(oY x).length=k
  one:∀x,∀v∈od x,v.oneCell'=true
  toV:∀x(w:World)(O:Nat→Prop)(ρ:aC) vs,Vs w O ρ (oY x) vs→vs=od x
  back:∀x(w:World)(O:Nat→Prop)(ρ:aC),Vs w O ρ (oY x) (od x)
variable{k:Nat} {oY:α→List D} {od:α→List Value}
theorem Qm{w:World}{bw off m:Nat}{dk:Array α}{os:Array Obj}{b:Nat}(hb:b<w.heap.size)(aG:b≠bw):(sortWorldK od k w bw off m dk os).heap[b]?=w.heap[b]?:=by
  unfold sortWorldK putRowK putRow mapBlock Sort.grow Sort.ahead;simp only;rw[Array.getElem?_append_left (by simpa using hb),Array.getElem?_modify,if_neg (Ne.symm aG)]
theorem Jx(hE:GR k oY od){w:World}{O:Nat→Prop}{b off:Nat}{c:Array Value}{T:TypeId}{l:List α}(hb:w.heap[b]?=some (.cells c T (0,0)))(h:Vr w O b off k (l.map oY)):HoldsK od k w b off l.toArray:=by
  intro j hj;rw[size_flatK]at hj;simp only[List.size_toArray]at hj;have k0:0<k:=by
      rcases Nat.eq_zero_or_pos k with e|e;· subst e;simp at hj
      · exact e
  have hi:j/k<l.length:=by rw[Nat.div_lt_iff_lt_mul k0];exact hj
  have hc:j%k<k:=Nat.mod_lt _ k0;rw[get_flatK _ _ _ _ (by simpa using hj)];obtain⟨_,h1⟩:=h.get _ _ (j/k) (oY l[j/k]) (by simp[hi]);have eU:j%k<(oY l[j/k]).length:=by rw[hE.J8];exact hc
  obtain⟨d,hd⟩:∃d,(oY l[j/k])[j%k]?=some d:=⟨(oY l[j/k])[j%k],List.getElem?_eq_getElem eU⟩;have mz:=Vc.GF hb _ _ h1;have hv:=hE.toV _ _ _ _ _ mz.1;obtain⟨v,g1,g2⟩:=Vc.get _ _ h1 _ _ hd;have e:off+j/k*k+j%k=off+j:=by have:=Nat.div_add_mod j k;rw[Nat.mul_comm]at this;omega
  rw[e]at g1;have g3:(od l[j/k])[j%k]?=some v:=by
    rw[←hv];have:c[off+j]?=some v:=by simpa[World.cell?,hb]using g1
    rw[List.getElem?_take,if_pos (by rw[hE.J8];exact hc),List.getElem?_drop,e];simpa using this
  refine⟨?_,by simp[World.frozen?,hb]⟩;rw[g1];have e1:(l.toArray)[j/k]! =l[j/k]:=by simp[hi]
  have e2:(od l[j/k])[j%k]! =v:=by rw[List.getElem!_eq_getElem?_getD,g3];rfl
  rw[e1,e2];rfl
theorem Mz(hE:GR k oY od){w:World}{O:Nat→Prop}{b off:Nat}{l:List α}(h:HoldsK od k w b off l.toArray):Vr w O b off k (l.map oY):=by
  have key:∀(r pre:List α),l=pre++r→Vr w O b (off+pre.length*k) k (r.map oY):=by
    intro r;induction r with
    |nil=>intro _ _;simp[Vr]
    |cons x r ih=>
      intro pre hp;simp only[List.map_cons,Vr];have hi:pre.length<l.toArray.size:=by subst hp;simp
      refine⟨⟨hE.J8 x,?_⟩,?_⟩
      · have hx:(l.toArray)[pre.length]! =x:=by subst hp;simp
        have cell:∀c,c<k→w.cell? ⟨b,off+pre.length*k+c,none⟩=some (od x)[c]!:=fun c hc=>by
          have:=(h.cell hi hc).1;rwa[hx]at this
        have gen:∀(ds:List D)(us:List Value)(n:Nat),Vs w O dX ds us→(∀u∈us,u.oneCell'=true)→(∀j u,us[j]?=some u→w.cell? ⟨b,n+j,none⟩=some u)→Vc w O b n ds:=by
          intro ds;induction ds with
          |nil=>intro us n _ _ _;simp[Vc]
          |cons d ds ih2=>
            intro us n h1 h2 h3;simp only[Vs]at h1;obtain⟨u,yA,rfl,h4,h5⟩:=h1;simp only[Vc];refine⟨⟨u,⟨by simpa using h3 0 u rfl,h2 u zS⟩,h4⟩,ih2 yA (n+1) h5 (fun v hv=>h2 v (by simp[hv])) (fun j v hj=>?_)⟩;have:=h3 (j+1) v (by simpa using hj);rwa[show n+(j+1)=n+1+j by omega]at this
        refine gen _ (od x) _ (hE.back x w O dX) (hE.one x) (fun j u hj=>?_);have hjk:j<k:=by rw[←hE.len x];exact(List.getElem?_eq_some_iff.1 hj).1
        rw[cell j hjk,List.getElem!_eq_getElem?_getD,hj];rfl
      · have:=ih (pre++[x]) (by simp[hp])
        simp only[List.length_append,List.length_singleton,Nat.add_mul,Nat.one_mul]at this;rwa[Nat.add_assoc]
  simpa using key l [] rfl
end
variable[bT]
variable{α:Type} [Inhabited α] {P:Program} {k:Nat} {oY:α→List D} {od:α→List Value}
theorem qt{id:Nat}{x o:Ob}{i:Nat}(h:aa.get [(id,x)] i=some o):i=id∧o=x:=by
 rw[aa.bf]at h;split at h
 ·rename_i e;cases h;exact⟨e.symm,rfl⟩
 ·simp[aa.get]at h
theorem Iy{id:Nat}{x y:Ob}{i:Nat}(h:aa.get [(id,x)] i=none):aa.get [(id,y)] i=none:=by
 rw[aa.bf]at h⊢;split at h
 ·cases h
 ·rename_i e;rw[if_neg e];rfl
end Go.T
namespace Go.T
open Go
open Go.ChangeMaps (setBlock)
variable[bT]
variable{κ β:Type} [DecidableEq κ]
@[reducible] def vM(kD:κ→D)(vD:β→D)(m:List (κ×β)):D:=.pj (m.map fun p=>kD p.1) (m.map fun p=>vD p.2)
section
variable{P:Program} {kt:TypeId} {kD:κ→D} {kV:κ→Value} {iN:κ→Prop} {vD:β→D}
theorem Em(hK:lu P kt kD kV iN){w:World}{O:Nat→Prop}{b:Nat}{m:List (κ×β)}(h:wK w O b (m.map fun p=>kD p.1) (m.map fun p=>vD p.2)):
  ∃es,w.heap[b]?=some (.map es m.length)∧tw w O dX kV vD es m∧∀k∈m.map (·.1),iN k:=by
 obtain⟨es,h1,⟨h2,h3,h4⟩,h5,h6⟩:=h;have hl:=h5.length;simp only[List.length_map,Array.length_toList]at hl h2;have key:∀(i:Nat)(k:κ)(v:β),m[i]?=some (k,v)→∃e:MapEntry,es[i]?=some e∧e.born=i∧e.key=kV k∧V w O dX (vD v) e.val∧iN k:=by
  intro i k v hi;have bN:i<es.size:=by rw[hl];exact(List.getElem?_eq_some_iff.1 hi).1
  obtain⟨u,g1,g2⟩:=h5.get i (kD k) (by simp[hi]);obtain⟨u',g3,g4⟩:=h6.get i (vD v) (by simp[hi]);have he:es[i]?=some es[i]:=by simp[bN]
  simp only[List.getElem?_map,Array.getElem?_toList,he,Option.map_some,Option.some.injEq]at g1 g3;subst g1;subst g3;have:=hK.val g2;exact⟨es[i],he,h4 i _ he,this.1,g4,this.2⟩
 refine⟨es,h2,⟨hl,fun i k v hi=>?_⟩,fun k hk=>?_⟩
 ·obtain⟨e,g1,g2,g3,g4,_⟩:=key i k v hi;exact⟨e,g1,g2,g3,g4⟩
 ·obtain⟨p,hp,rfl⟩:=List.mem_map.1 hk;obtain⟨i,hi⟩:=List.getElem?_of_mem hp;obtain⟨_,_,_,_,_,g5⟩:=key i p.1 p.2 hi;exact g5
theorem Le.Eu{F:Fr}{env:Env}{J:aa}{m:List (κ×β)}(t id:Nat)(ht:env.get t=some (.dj id))(ho:J.get id=some (.mp (bZ kD vD m)))(hk:∀k,(kD k).bk=true)(jC:∀v,(vD v).bk=true):
  Le F env J ((t,vM kD vD m)::env) (J.set id .dead):=.step fun O ρ w f af hv=>by
 have bm:=Tr.die id af;refine⟨ρ,bm,fun s d h=>?_⟩;rw[Env.bf]at h;by_cases e:t=s
 ·rw[if_pos e]at h;cases h;subst e;have ue:=hv t _ ht;simp only[V]at ue;obtain⟨l,e1,e⟩:=ue;obtain⟨l',h3,h4,es,h5,h6,h7⟩:=af.own id _ ho rfl;rw[e1]at h3;cases h3;have kc:=bm.kept;refine DF.2 ⟨l.b,e,es,⟨(Array.getElem?_eq_some_iff.1 h5).1,?_⟩,⟨by simpa[bZ]using h5,by simp,fun i x hx=>?_⟩,?_,?_⟩
  ·rintro(hb|⟨i,x,l',g1,g2,g3,g4⟩)
   ·exact h4 hb
   ·have hx:=sj i x g1 g2;have:=af.inj i id x _ l' l hx ho g2 rfl g3 e1 g4;subst this;rw[aa.eG]at g1;simp only[if_true,Option.some.injEq]at g1;subst g1;simp[Ob.live]at g2
  ·have hi:i<m.length:=by
    have:=(Array.getElem?_eq_some_iff.1 hx).1;rw[h6]at this;simpa[bZ]using this
   obtain⟨x',g1,g2,_⟩:=h7 i (kD m[i].1) (vD m[i].2) (by simp[bZ,hi]);rw[hx]at g1;cases g1;exact g2
  ·refine Vs.KN (by simpa[bZ]using h6) fun i d v hd xI=>?_;simp only[List.getElem?_map,Option.map_eq_some_iff]at hd;obtain⟨p,hp,rfl⟩:=hd;obtain⟨x',g1,_,g3,_⟩:=h7 i (kD p.1) (vD p.2) (by simp[bZ,hp]);simp only[List.getElem?_map,Array.getElem?_toList,g1,Option.map_some,Option.some.injEq]at xI;subst xI;exact V.mono kc (bO.refl _) _ _ (V.pure _ _ (hk _) g3)
  ·refine Vs.KN (by simpa[bZ]using h6) fun i d v hd xI=>?_;simp only[List.getElem?_map,Option.map_eq_some_iff]at hd;obtain⟨p,hp,rfl⟩:=hd;obtain⟨x',g1,_,_,g4⟩:=h7 i (kD p.1) (vD p.2) (by simp[bZ,hp]);simp only[List.getElem?_map,Array.getElem?_toList,g1,Option.map_some,Option.some.injEq]at xI;subst xI;exact V.mono kc (bO.refl _) _ _ (V.pure _ _ (jC _) g4)
 ·rw[if_neg e]at h;exact bm.V (hv s d h)
variable{env:Env} {dst:Option Tmp} {ty:TypeId} {pos:String} {au:Array Edge} {g:Option (Nat×Bool)}
theorem ais(hK:lu P kt kD kV iN){t et:TypeId}{x y:Operand}{m:List (κ×β)}{k:κ}{d:β}{kd md:D}{J:aa}{zv:Value}(hu:P.underlying t=some (.map kt et))(hz:∀w,(zeroValue et).run P w=.ok zv w)(uh:∀(w:World) O ρ,V w O ρ (vD d) zv)
  (hx:env.op x=some md)(Jr:md=vM kD vD m)(hy:env.op y=some kd)(rC:kd=kD k):
  aq P ⟨dst,.lookup t x y false,ty,pos,au,g⟩ env J (vD (fJ d m k)) J:=
 .val fun O ρ a w af hv=>by
  subst rC;subst Jr;obtain⟨b,e1,nz⟩:=DF.1 (hv x (by simp[Op.operands]) _ hx);have eD:=hK.val (hv y (by simp[Op.operands]) _ hy);obtain⟨es,h4,h5,h6⟩:=Em hK nz;have rA:=fun b=>hK.check b k w eD.2;have jY:=hK.find k es.toList (m.map (·.1)) w h5.keys h6 eD.2;rcases Bp d k m 0 with⟨g1,g2,g3,_⟩|⟨j,gj,g1,g2,g3,_⟩
  ·refine⟨zv,?_,by rw[g3];exact uh _ _ _⟩;rw[g1]at jY;simp[execOp,e1,eD.1,Instr.lookup,cg hu,MapKept.run_getObj_map h4,rA,jY,hz]
  ·obtain⟨e,k1,k2,k3,k4⟩:=h5.at_ j k _ g2;refine⟨e.val,?_,V.mono (Kept.refl _ _) (AK ρ) _ _ k4⟩;rw[g1]at jY;simp only[Option.map_some,Nat.zero_add,Array.getElem?_toList,k1,Option.getD_some]at jY;simp[execOp,e1,eD.1,Instr.lookup,cg hu,MapKept.run_getObj_map h4,rA,jY]
theorem aiE{t RF et:TypeId}{x:Operand}{ks vs:List D}{J:aa}(eZ:Nat)(hu:P.underlying t=some (.map RF et))(hx:env.op x=some (.pj ks vs))(hid:J.get eZ=none):
  aq P ⟨dst,.range t x,ty,pos,au,g⟩ env J (.box eZ 0) ((eZ,.mj ks vs [])::J):=
 .step fun O ρ a w af hv=>by
  obtain⟨b,e1,nz⟩:=DF.1 (hv x (by simp[Op.operands]) _ hx);obtain⟨es,h1,⟨h2,_,_⟩,_⟩:=id nz;have hr:=run_range_map (P:=P) w t RF et b es ks.length hu h2;refine⟨.pointer (some ⟨w.heap.size,0,none⟩),_,T.cv ρ eZ ⟨w.heap.size,0,0⟩,.inl ?_,Tr.born af hid (.mapIter (some b) ks.length #[] ks.length) rfl (fun i x h _=>h) (fun i h=>h) ?_,?_⟩
  ·simp only[execOp,e1];rw[Sem.run_bind,hr];rfl
  ·intro hk;exact⟨b,nz.mono hk,by simp⟩
  ·simp only[V];exact⟨⟨w.heap.size,0,0⟩,by simp[T.cv],rfl⟩
@[reducible] def uC(J:aa)(eZ:Nat)(ks vs:List D)(seen:List Nat):Option (Nat×κ×β)→aa
 |none=>J
 |some (j,_,_)=>J.set eZ (.mj ks vs (seen++[j]))
theorem aiz(hK:lu P kt kD kV iN){x:Operand}{eZ:Nat}{m:List (κ×β)}{seen:List Nat}{J:aa}(hx:env.op x=some (.box eZ 0))(hi:J.get eZ=some (.mj (m.map fun p=>kD p.1) (m.map fun p=>vD p.2) seen)):
  tD P ⟨dst,.next x false,ty,pos,au,g⟩ env J (Th m seen) (s9 kD vD) (uC J eZ (m.map fun p=>kD p.1) (m.map fun p=>vD p.2) seen):=by
 intro O ρ a w af dH hv;have cp:=hv x (by simp[Op.operands]) _ hx;simp only[V]at cp;obtain⟨r,rD,e1⟩:=cp;obtain⟨r',jZ,_,b,nz,hit⟩:=af.own eZ _ hi rfl;rw[rD]at jZ;cases jZ;obtain⟨es,h4,h5,h6⟩:=Em hK nz;simp only[List.length_map]at hit;have zB:∀x∈es.toList,x.born<m.length:=fun x hx=>by
  obtain⟨_,_,q,_⟩:=h5.mem hx;exact(List.getElem?_eq_some_iff.1 q).1
 unfold Oper.wp;have vB:(execOp a.eval ⟨dst,.next x false,ty,pos,au,g⟩).run P w=((Instr.next (.pointer (some ⟨r.b,0,none⟩)) false ty).bind fun v=>Sem.pure (Next.value v)).run P w:=by
  simp only[execOp,e1];rfl
 rw[vB];rcases run_next_at (P:=P) w ty r.b b m.length m.length seen.toArray es m.length hit h4 zB (Nat.le_refl _)with⟨hz,gw⟩|⟨e,he,w1,uf,gw⟩
 ·have:((Instr.next (.pointer (some ⟨r.b,0,none⟩)) false ty).bind fun v=>Sem.pure (Next.value v)).run P w=.ok (.value (.tuple #[.bool false])) w:=by
   show(Sem.bind _ _).run P w=_;rw[Sem.run_bind',gw];rfl
  rw[this];refine⟨none,ρ,_,?_,rfl,Tr.refl af,by simp[V,Vs,D.b]⟩;intro j hj;have sQ:leftOf es seen.toArray=#[]:=Array.eq_empty_of_size_eq_zero hz;obtain⟨e,g1,g2,_⟩:=h5.at_ j (m[j]).1 (m[j]).2 (by simp[hj]);unfold leftOf at sQ;rw[Array.filter_eq_empty_iff]at sQ;have qD:e∈es:=Array.mem_of_getElem? g1;have:=sQ e qD;simp at this;rw[g2]at this;exact this
 ·have zo:e∈es.toList∧e.born∉seen:=by
   unfold leftOf at he;simp at he;exact⟨by simpa using he.1,by simpa using he.2⟩
  obtain⟨k,v,g1,g2,g3,g4⟩:=h5.mem zo.1;have:((Instr.next (.pointer (some ⟨r.b,0,none⟩)) false ty).bind fun v=>Sem.pure (Next.value v)).run P w=.ok (.value (.tuple #[.bool true,e.key,e.val])) (setBlock w1 r.b (.mapIter (some b) m.length (seen.toArray.push e.born) m.length)):=by
   show(Sem.bind _ _).run P w=_;rw[Sem.run_bind',gw];rfl
  rw[this];have pV:Tr O w ρ J w1 ρ J:=by
   rcases uf with rfl|rfl
   ·exact Tr.refl af
   ·exact Tr.drawn af _ (by first|exact Nat.le_succ _|omega)
  have Jh:w1.heap[r.b]?=some (.mapIter (some b) m.length seen.toArray m.length):=by rcases uf with rfl|rfl<;>exact hit
  have lC:=Tr.cv (o':=.mj (m.map fun p=>kD p.1) (m.map fun p=>vD p.2) (seen++[e.born])) pV.ok hi rfl rD (.mapIter (some b) m.length (seen.toArray.push e.born) m.length) (fun ub=>⟨b,(nz.mono pV.kept).mono ub,by simp[(Array.getElem?_eq_some_iff.1 Jh).1]⟩);refine⟨some (e.born,k,v),ρ,_,⟨g1,zo.2⟩,rfl,pV.trans lC,?_⟩;simp only[V,Vs,D.b];refine⟨_,rfl,_,_,rfl,rfl,_,_,rfl,?_,_,_,rfl,(pV.trans lC).V (V.mono (Kept.refl _ _) (AK ρ) _ _ g4),rfl⟩;rw[g3];exact hK.back (h6 k (List.mem_map.2 ⟨(k,v),List.mem_of_getElem? g1,rfl⟩))
theorem aii(hK:lu P kt kD kV iN){x:Operand}{eZ j:Nat}{k:κ}{v:β}{m:List (κ×β)}{seen:List Nat}{J:aa}(hx:env.op x=some (.box eZ 0))(hi:J.get eZ=some (.mj (m.map fun p=>kD p.1) (m.map fun p=>vD p.2) (seen++[j])))(hj:m[j]?=some (k,v)):
  aq P ⟨dst,.entry x,ty,pos,au,g⟩ env J (.bl [kD k,vD v]) J:=
 .val fun O ρ a w af hv=>by
  have cp:=hv x (by simp[Op.operands]) _ hx;simp only[V]at cp;obtain⟨r,rD,e1⟩:=cp;obtain⟨r',jZ,_,b,nz,hit⟩:=af.own eZ _ hi rfl;rw[rD]at jZ;cases jZ;obtain⟨es,h4,h5,h6⟩:=Em hK nz;obtain⟨e,g1,g2,g3,g4⟩:=h5.at_ j k v hj;have BH:w.heap[r.b]?=some (.mapIter (some b) m.length (seen.toArray.push e.born) m.length):=by rw[hit,g2];simp
  have fB:(es.toList.map (·.born)).Nodup:=by rw[h5.Nf];exact List.nodup_range
  have gw:=run_entry_at (P:=P) w r.b b m.length seen.toArray es m.length e BH h4 (by simpa using Array.mem_of_getElem? g1) fB;refine⟨.tuple #[e.key,e.val],?_,?_⟩
  ·simp only[execOp,e1];rw[Sem.run_bind,gw];rfl
  ·simp only[V,Vs];refine⟨_,rfl,_,_,rfl,?_,_,_,rfl,V.mono (Kept.refl _ _) (AK ρ) _ _ g4,rfl⟩;rw[g3];exact hK.back (h6 k (List.mem_map.2 ⟨(k,v),List.mem_of_getElem? hj,rfl⟩))
end
structure yG{ι:Type}(P:Program)(f:FuncId)(args:List D)(A:ι→Prop)(r:ι→D):Prop where
 out:∀w O ρ vals,(∀b,O b→b<w.heap.size)→Gl w O→Vs w O ρ args vals→Calls P f vals.toArray w (fun e w'=>∃i v,A i∧e=.returned v∧V w' O ρ (r i) v∧gL w w')
def ai3{ι:Type}(ts:List Nat)(A:ι→Prop)(r:ι→D):Exit→Env→aa→Prop
 |.ret,env,_|.normal,env,_=>∃i ds,A i∧getAll env ts=some ds∧Sub (s5 ds) (r i)
 |_,_,_=>False
theorem yG.mk'{ι:Type}{P:Program}{f:FuncId}{fn:Func}{c:Code}{args:List D}{A:ι→Prop}{r:ι→D}(ts:List Nat)(hf:P.funcs[f]?=some fn)(hb:fn.body=some c){N:Nat}(hN:fn.ntmps=N)(hn:Nat.ble args.length N=true)(hp:D.bk.dw args=true)(hr:∀i,(r i).bk=true)
  (rE:∀tmps w,(results fn tmps).run P w=.ok (C1 ts tmps) w)(h:U P ⟨N,[],false,none⟩ [c] (ai3 ts A r) (mc args 0) []):yG P f args A r:=⟨fun w O ρ vals hO dH jC=>by
 have cz:∀b,¬b9 dX [] b:=fun b ⟨i,o,l,h1,_⟩=>by simp[aa.get]at h1
 have af:di w O dX []:=⟨hO,fun _ _=>rfl,fun i o h1=>by simp[aa.get]at h1,fun i j o o' l l' h1=>by simp[aa.get]at h1⟩;have hv:Vs w (Ot O dX []) dX args vals:=Vs.mono (Kept.eP fun b hb=>hb.elim _root_.id (fun g=>(cz b g).elim)) (bO.refl _) _ _ (Vs.pure args vals hp jC);refine A' hf hb h.start (St.begin fn.ntmps hN (Nat.le_of_ble_eq_true hn) af (dH.mono (Kept.eP fun b hb=>hb.elim _root_.id (fun g=>(cz b g).elim))) hv [] none (fun _ _ e=>by cases e)) ?_ ?_
 ·intro e aS ai hq;cases e<;>first|exact .inl rfl|exact .inr rfl|exact hq.elim
 ·intro e aS ai tmps w' aw hq _ bm vA;have:∃i ds,A i∧getAll aS ts=some ds∧Sub (s5 ds) (r i):=by cases e<;>first|exact hq|exact hq.elim
  obtain⟨i,ds,hA,h1,h2⟩:=this;refine⟨_,rE _ _,i,_,hA,rfl,?_,bm.size,fun b hb=>bm.same b hb (cz b),bm.os⟩;have sO:=h2.out _ _ _ _ (Vs.res (Ez vA ts ds h1));exact V.pure _ _ (hr i) (V.mono (O':=O) (Kept.eP fun b hb=>Or.inl hb) (bO.refl _) _ _ sO)⟩
theorem T'{ι:Type}{P:Program}{f:FuncId}{env:Env}{dst:Option Tmp}{ty:TypeId}{pos:String}{au:Array Edge}{g:Option (Nat×Bool)}{xs:List Operand}{tys:Array TypeId}{ds:List D}{A:ι→Prop}{r:ι→D}
  (fy:∀(args:Array Value)(w:World),(callFunc f args).run P w=.ok (.enter f args) w)(hx:env.lH xs=some ds)(hf:yG P f ds A r)(J:aa):
  tD P ⟨dst,.call ⟨.value (.func f),xs.toArray,tys⟩,ty,pos,au,g⟩ env J A r (fun _=>J):=by
 intro O ρ a w af dH hv;have mz:=v8 xs ds hx (fun x hx d' h=>hv x (by simp[Op.operands,Call.operands,hx]) d' h);have gw:(execOp a.eval ⟨dst,.call ⟨.value (.func f),xs.toArray,tys⟩,ty,pos,au,g⟩).run P w=.ok (.enter f (xs.map a.eval).toArray) w:=by
  have h1:execOp a.eval ⟨dst,.call ⟨.value (.func f),xs.toArray,tys⟩,ty,pos,au,g⟩=callFunc f (xs.map a.eval).toArray:=by
   simp[execOp,resolve,Deferred.ofValue,Act.eval,invoke,Bind.bind,Sem.bind,Pure.pure]
  rw[h1,fy]
 unfold Oper.wp;rw[gw];simp only[Oper.upon];refine Calls.mono (hf.out w (Ot O ρ J) ρ _ ?_ dH mz) ?_
 ·rintro b (hb|⟨i,o,l,h1,h2,h3,h4⟩)
  ·exact af.lt b hb
  ·obtain⟨l',h5,_,h6⟩:=af.own i o h1 h2;rw[h3]at h5;cases h5;exact h4▸h6.lt h2
 ·rintro e w' ⟨i,v,hA,rfl,h1,h2⟩;exact⟨i,ρ,v,hA,rfl,Tr.qQ h2 af,h1⟩
end Go.T
namespace Go.T
open Go
variable[bT]
end Go.T
namespace Go.T
open Go
variable[bT]
variable{P:Program} {env:Env} {dst:Option Tmp} {ty:TypeId} {pos:String} {au:Array Edge} {g:Option (Nat×Bool)}
theorem aia{st xt e e':TypeId}{ti:TypeInfo}{z:Value}{sz bt:Nat}{x y:Operand}{ia:Bool}{rows new:List (List D)}(hu:P.underlying st=some (.slice e))(k9:P.underlying xt=some (.slice e'))(hs:∀w,(sizeOf e).run P w=.ok sz w)
  (lB:∀w,(typeInfo e).run P w=.ok ti w)(hz:∀w,(zeroValue e).run P w=.ok z w)(xM:z.cells.size=sz)(pR:ti.bytes=bt)(Bz:Nat.beq bt 0=false)(hx:env.op x=some (.snap sz true rows))(hy:env.op y=some (.snap sz ia new))(aG:new≠[])
  (qy:(rows.length+new.length)*bt≤140737488355328)(J:aa):
  aq P ⟨dst,.call ⟨.builtin .append,#[x,y],#[st,xt]⟩,ty,pos,au,g⟩ env J (.snap sz false (rows++new)) J:=
 .step fun O ρ a w af hv=>by
  have hb:(rows.length+new.length)*ti.bytes≤140737488355328:=by rw[pR];exact qy
  have sE:ti.bytes≠0:=by
   rw[pR];intro h;subst h;simp at Bz
  have cp:=hv x (by simp[Op.operands,Call.operands]) _ hx;have eD:=hv y (by simp[Op.operands,Call.operands]) _ hy;have gw:∀v w',(Builtin.append_ #[st,xt] ty #[a.eval x,a.eval y]).run P w=.ok v w'→(execOp a.eval ⟨dst,.call ⟨.builtin .append,#[x,y],#[st,xt]⟩,ty,pos,au,g⟩).run P w=.ok (.value v) w':=by
   intro v w' h;simp[execOp,resolve,invoke,builtin,h]
  obtain⟨hlen,us,nq,ot,sL,k6,gO⟩:=yp (P:=P) eD;obtain⟨BK,vs,Qt,mz,ac3,B1,zH⟩:=yp (P:=P) cp;have BO:new.length≠0:=fun h=>aG (List.length_eq_zero_iff.1 h);have BB:rows.length+new.length≤aH:=by
   have:(rows.length+new.length)*1≤(rows.length+new.length)*ti.bytes:=Nat.mul_le_mul_left _ zO;unfold aH;omega
  have B2:=cp;simp only[V]at B2;obtain⟨ad,cap,e1,I1,Qe,_⟩:=B2;have ct:=Qe trivial;rw[e1]at Qt;obtain⟨nc,h1,h2⟩:=run_append_grow (T:=ty) (w:=w) hu hs k9 zS lB hz (fun w' _=>hlen w') nq (vs:=vs) (fun w' hw'=>Qt w' hw') zO hb sE;rw[←e1]at h2;have bN:∀b,Ot O ρ J b→b<w.heap.size:=by
   rintro b (hb|⟨i,o,l,h1,h2,h3,h4⟩)
   ·exact af.lt b hb
   ·obtain⟨l',h5,_,h6⟩:=af.own i o h1 h2;rw[h3]at h5;cases h5;exact h4▸h6.lt h2
  have bW:(rows++new).length=rows.length+new.length:=by rw[List.length_append]
  have tZ:(vs++us).toArray=vs.toArray++us.toArray:=by simp
  have bm:Tr O w ρ J {w with drawn:=w.drawn+1,heap:=w.heap.push (.cells (vs.toArray++us.toArray++Builtin.zeroCells z.cells (nc-(rows.length+new.length))) e (0,0))} ρ J:=
   Tr.qQ ⟨by simp,fun b hb=>by simp[Array.getElem?_push,Nat.ne_of_lt hb],rfl,rfl,.inl ⟨rfl,Nat.le_succ _⟩⟩ af
  refine⟨_,_,ρ,.inl (gw _ _ h2),bm,?_⟩;have hg:=iV.grown (ρ:=ρ) (b:=w.heap.size) (nc:=nc) (sz:=sz) (T:=e) (ds:=rows++new) (vs:=vs++us) (zs:=Builtin.zeroCells z.cells (nc-(rows.length+new.length))) (w':={w with drawn:=w.drawn+1,heap:=w.heap.push (.cells (vs.toArray++us.toArray++Builtin.zeroCells z.cells (nc-(rows.length+new.length))) e (0,0))}) (by rw[tZ];simp) (by rw[List.length_append,bW,B1,k6,Nat.add_mul]) (by rw[Mj,xM,bW]) (by rw[bW];exact h1) (by rw[bW];exact BB)
   (fun r hr=>(List.mem_append.1 hr).elim (zH r) (gO r)) (by rw[List.flatten_append];exact Vs.append mz ot) (fun v j0=>(List.mem_append.1 j0).elim (ac3 v) (sL v)) bm.kept
  obtain⟨c,T,q1,q2,q3,q4⟩:=hg;simp only[V];exact⟨_,_,by rw[bW],⟨by rw[bW];exact h1,by rw[bW];exact BB⟩,by simp,fun _=>⟨w.heap.size,0,rfl,⟨by simp,fun ho=>Nat.lt_irrefl _ (bN _ ho)⟩,q4⟩⟩
theorem ah'{st xt e e':TypeId}{sz:Nat}{x y:Operand}{ia It:Bool}{rows:List (List D)}(hu:P.underlying st=some (.slice e))(k9:P.underlying xt=some (.slice e'))(hs:∀w,(sizeOf e).run P w=.ok sz w)(hx:env.op x=some (.snap sz ia rows))(hy:env.op y=some (.snap sz It []))(J:aa):
  aq P ⟨dst,.call ⟨.builtin .append,#[x,y],#[st,xt]⟩,ty,pos,au,g⟩ env J (.snap sz ia rows) J:=
 .val fun O ρ a w af hv=>by
  have cp:=hv x (by simp[Op.operands,Call.operands]) _ hx;have eD:=hv y (by simp[Op.operands,Call.operands]) _ hy;obtain⟨hlen,us,nq,ot,sL,k6,gO⟩:=yp (P:=P) eD;have B0:us=[]:=by have:=k6;simp at this;exact this
  subst B0;have B2:=cp;simp only[V]at B2;obtain⟨ad,cap,e1,I1,Qe,_⟩:=B2;have h1:=nq w rfl;refine⟨_,?_,cp⟩;have:(Builtin.append_ #[st,xt] ty #[a.eval x,a.eval y]).run P w=.ok (a.eval x) w:=by
   rw[e1];cases ad with
   |none=>simp[Builtin.append_,cg hu,hs,cg k9,hlen w,I1]at h1⊢;simp[h1]
   |some ad=>simp[Builtin.append_,cg hu,hs,cg k9,hlen w,I1]at h1⊢;simp[h1,storeCells]
  simp[execOp,resolve,invoke,builtin,this]
end Go.T
