/-
  Contracts of the functions that the statement reaches, and the logic in which they are proved (no condition): parts W171.
-/
import Derived.Test.YtoaceanbddegbaaGreatDoorA19
set_option linter.all false
namespace Go.T
open Go Go.Proofs Go.Proofs.Tryz
set_option maxRecDepth 20000
set_option maxHeartbeats 40000000
inductive K7
 |mo
 |lo
 |ga
 |st
 |ef
 |re
 |en
@[reducible] def El:(t:K7)→Type
 |.mo=>bj
 |.lo=>jR
 |.ga=>jF
 |.st=>jT
 |.ef=>jw
 |.re=>jS
 |.en=>j6
instance apC:(t:K7)→Inhabited (El t)
 |.mo=>inferInstanceAs (Inhabited bj)
 |.lo=>inferInstanceAs (Inhabited jR)
 |.ga=>inferInstanceAs (Inhabited jF)
 |.st=>inferInstanceAs (Inhabited jT)
 |.ef=>inferInstanceAs (Inhabited jw)
 |.re=>inferInstanceAs (Inhabited jS)
 |.en=>inferInstanceAs (Inhabited j6)
@[reducible] def bL:(t:K7)→El t→List D
 |.mo=>bU
 |.lo=>iA
 |.ga=>gX
 |.st=>iC
 |.ef=>ei
 |.re=>iB
 |.en=>hZ
@[reducible] def c7:(t:K7)→El t→El t→Int
 |.mo=>fw
 |.lo=>gA
 |.ga=>gp
 |.st=>gD
 |.ef=>gn
 |.re=>gC
 |.en=>gz
@[reducible] def k7:(t:K7)→Nat
 |.mo=>2
 |.lo=>7
 |.ga=>10
 |.st=>6
 |.ef=>7
 |.re=>2
 |.en=>3
@[reducible] def sl7:(t:K7)→Nat
 |.mo=>25
 |.lo=>24
 |.ga=>26
 |.st=>27
 |.ef=>28
 |.re=>29
 |.en=>32
@[reducible] def H0:(t:K7)→Nat
 |.mo=>39
 |.lo=>97
 |.ga=>102
 |.st=>109
 |.ef=>115
 |.re=>120
 |.en=>45
@[reducible] def fW:(t:K7)→Nat
 |.mo=>262
 |.lo=>278
 |.ga=>279
 |.st=>280
 |.ef=>281
 |.re=>282
 |.en=>283
@[reducible] def fR:(t:K7)→Nat
 |.mo=>203
 |.lo=>213
 |.ga=>214
 |.st=>215
 |.ef=>216
 |.re=>217
 |.en=>218
@[reducible] def fI:(t:K7)→Nat
 |.mo=>152
 |.lo=>164
 |.ga=>166
 |.st=>168
 |.ef=>170
 |.re=>172
 |.en=>174
@[reducible] def fM:(t:K7)→Nat
 |.mo=>153
 |.lo=>165
 |.ga=>167
 |.st=>169
 |.ef=>171
 |.re=>173
 |.en=>175
@[reducible] def fT:(t:K7)→Nat
 |.mo=>107
 |.lo=>111
 |.ga=>112
 |.st=>113
 |.ef=>114
 |.re=>115
 |.en=>116
@[reducible] def fS:(t:K7)→Nat
 |.mo=>74
 |.lo=>77
 |.ga=>78
 |.st=>80
 |.ef=>81
 |.re=>82
 |.en=>83
@[reducible] def fC:(t:K7)→Nat
 |.mo=>28
 |.lo=>33
 |.ga=>36
 |.st=>41
 |.ef=>44
 |.re=>47
 |.en=>50
theorem Hv:(t:K7)→∀(args:Array Value)(w:World),(callFunc (fW t) args).run Tryz.prog w=.ok (.enter (fW t) args) w
 |.mo=>call262
 |.lo=>call278
 |.ga=>call279
 |.st=>call280
 |.ef=>call281
 |.re=>call282
 |.en=>call283
theorem Xr:(t:K7)→∀(args:Array Value)(w:World),(callFunc (fR t) args).run Tryz.prog w=.ok (.enter (fR t) args) w
 |.mo=>call203
 |.lo=>call213
 |.ga=>call214
 |.st=>call215
 |.ef=>call216
 |.re=>call217
 |.en=>call218
theorem Ni:(t:K7)→∀(args:Array Value)(w:World),(callFunc (fI t) args).run Tryz.prog w=.ok (.enter (fI t) args) w
 |.mo=>call152
 |.lo=>call164
 |.ga=>call166
 |.st=>call168
 |.ef=>call170
 |.re=>call172
 |.en=>call174
theorem DR:(t:K7)→∀(args:Array Value)(w:World),(callFunc (fM t) args).run Tryz.prog w=.ok (.enter (fM t) args) w
 |.mo=>call153
 |.lo=>call165
 |.ga=>call167
 |.st=>call169
 |.ef=>call171
 |.re=>call173
 |.en=>call175
theorem Xt:(t:K7)→∀(args:Array Value)(w:World),(callFunc (fT t) args).run Tryz.prog w=.ok (.enter (fT t) args) w
 |.mo=>call107
 |.lo=>call111
 |.ga=>call112
 |.st=>call113
 |.ef=>call114
 |.re=>call115
 |.en=>call116
theorem DQ:(t:K7)→∀(args:Array Value)(w:World),(callFunc (fC t) args).run Tryz.prog w=.ok (.enter (fC t) args) w
 |.mo=>call28
 |.lo=>call33
 |.ga=>call36
 |.st=>call41
 |.ef=>call44
 |.re=>call47
 |.en=>call50
theorem jQ:(t:K7)→Tryz.prog.underlying (sl7 t)=some (.slice (H0 t))
 |.mo=>underlying25
 |.lo=>underlying24
 |.ga=>underlying26
 |.st=>underlying27
 |.ef=>underlying28
 |.re=>underlying29
 |.en=>underlying32
theorem dY:(t:K7)→∀w,(sizeOf (H0 t)).run Tryz.prog w=.ok (k7 t) w
 |.mo=>sizeOf39
 |.lo=>sizeOf97
 |.ga=>sizeOf102
 |.st=>sizeOf109
 |.ef=>sizeOf115
 |.re=>sizeOf120
 |.en=>sizeOf45
theorem mU:(t:K7)→∀w,(isAgg (H0 t)).run Tryz.prog w=.ok true w
 |.mo=>isAgg39
 |.lo=>isAgg97
 |.ga=>isAgg102
 |.st=>isAgg109
 |.ef=>isAgg115
 |.re=>isAgg120
 |.en=>isAgg45
theorem DV:(t:K7)→∀x y:El t,Fc Tryz.prog (fC t) [.agg (bL t x),.agg (bL t y)] (.i (c7 t x y))
 |.mo=>Yu
 |.lo=>Yn
 |.ga=>Yh
 |.st=>Yw
 |.ef=>Ye
 |.re=>Yv
 |.en=>Yj
theorem YA:(t:K7)→hG (c7 t)
 |.mo=>NK
 |.lo=>NJ
 |.ga=>NI
 |.st=>NM
 |.ef=>NF
 |.re=>NL
 |.en=>NG
@[reducible] def ar{t:K7}(_:List (El t)):K7:=t
structure akG{t:K7}(d:List (El t))(a b n:Nat)where
 i:Nat
 hi:i≤n
theorem L5{t:K7}(d:List (El t))(a b n:Nat)(A B N:Int)(eA:A=a)(eB:B=b)(eN:N=n)(hA:a+n≤d.length)(hB:b+n≤d.length)(hl:d.length≤1000000):bh Tryz.prog (fW t) [.gs 9000 d.length,.i A,.i B,.i N,.fn (.func (fC t)) [] []] [(9000,.arr (k7 t) ((d).map (bL t)))] (.bl []) [(9000,.arr (k7 t) ((l7 d a b n).map (bL t)))]:=by
 cases t<;>(
  first|refine bh.mk' [] func262 rfl ntmps262 rfl rfl rfl (fun t w=>results_none results262 t _ w) ?_|refine bh.mk' [] func278 rfl ntmps278 rfl rfl rfl (fun t w=>results_none results278 t _ w) ?_|refine bh.mk' [] func279 rfl ntmps279 rfl rfl rfl (fun t w=>results_none results279 t _ w) ?_|refine bh.mk' [] func280 rfl ntmps280 rfl rfl rfl (fun t w=>results_none results280 t _ w) ?_|refine bh.mk' [] func281 rfl ntmps281 rfl rfl rfl (fun t w=>results_none results281 t _ w) ?_|refine bh.mk' [] func282 rfl ntmps282 rfl rfl rfl (fun t w=>results_none results282 t _ w) ?_|refine bh.mk' [] func283 rfl ntmps283 rfl rfl rfl (fun t w=>results_none results283 t _ w) ?_
  subst eA;subst eB;subst eN;refine go [] ?_;refine U.loop (ι:=akG d a b n) (fun sx=>[(0,.gs 9000 d.length),(1,.i a),(2,.i b),(3,.i n),(4,.fn (.func (fC (ar d))) [] []),(10,.i sx.i)]) (fun sx=>[(9000,.arr (k7 (ar d)) ((l7 d a b sx.i).map (bL (ar d))))]) (fun sx=>n-sx.i) ⟨0,by omega⟩ ?_ ?_
  ·exact Le.mk rfl (.cons rfl (Sub.gs zS) rfl (.cons rfl Sub.aF rfl (.cons rfl Sub.aF rfl (.cons rfl Sub.aF rfl (.s rfl rfl (.cons rfl Sub.aF rfl .nil)))))) (.arr rfl (by first|rfl|exact wv _ _ _ _) .nil)
  ·rintro⟨i,hi⟩;show U _ _ _ _ [(0,.gs 9000 d.length),(1,.i a),(2,.i b),(3,.i n),(4,.fn (.func (fC (ar d))) [] []),(10,.i i)] [(9000,.arr (k7 (ar d)) ((l7 d a b i).map (bL (ar d))))];refine go [] ?_;refine br (fun h1=>?_) (fun h1=>?_)
   ·have a_:=h1;try simp only[bs]at a_
    refine sd (aW (by first|omega|(have:=of_decide_eq_true hg;omega)|(simp;done)|(simp;omega)) (by first|omega|(have:=of_decide_eq_true hg;omega)|(simp;done)|(simp;omega))) ?_;refine sd (aW (by first|omega|(have:=of_decide_eq_true hg;omega)|(simp;done)|(simp;omega)) (by first|omega|(have:=of_decide_eq_true hg;omega)|(simp;done)|(simp;omega))) ?_;refine sd (aW (by first|omega|(have:=of_decide_eq_true hg;omega)|(simp;done)|(simp;omega)) (by first|omega|(have:=of_decide_eq_true hg;omega)|(simp;done)|(simp;omega))) ?_;refine oP (jM (b+i) (jQ (ar d)) (dY (ar d)) rfl rfl (by first|omega|(have:=of_decide_eq_true hg;omega)|(simp;done)|(simp;omega)) (by first|omega|(have:=of_decide_eq_true hg;omega)|(simp;done)|(simp;omega)) (by first|omega|(have:=of_decide_eq_true hg;omega)|(simp;done)|(simp;omega))) ?_;refine oR (nR (j:=b+i) (r:=_) (mU (ar d)) (dY (ar d)) rfl rfl rfl rfl (mM (bL (ar d)) (d:=l7 d a b i) (by first|omega|(simp only[cP,c6,cc,cX,cY,cq,cu,dc,c_]at*;omega)))) ?_;refine sd (aW (by first|omega|(have:=of_decide_eq_true hg;omega)|(simp;done)|(simp;omega)) (by first|omega|(have:=of_decide_eq_true hg;omega)|(simp;done)|(simp;omega))) ?_;refine oP (jM (a+i) (jQ (ar d)) (dY (ar d)) rfl rfl (by first|omega|(have:=of_decide_eq_true hg;omega)|(simp;done)|(simp;omega)) (by first|omega|(have:=of_decide_eq_true hg;omega)|(simp;done)|(simp;omega)) (by first|omega|(have:=of_decide_eq_true hg;omega)|(simp;done)|(simp;omega))) ?_
    refine oR (nR (j:=a+i) (r:=_) (mU (ar d)) (dY (ar d)) rfl rfl rfl rfl (mM (bL (ar d)) (d:=l7 d a b i) (by first|omega|(simp only[cP,c6,cc,cX,cY,cq,cu,dc,c_]at*;omega)))) ?_;refine oP (jM (a+i) (jQ (ar d)) (dY (ar d)) rfl rfl (by first|omega|(have:=of_decide_eq_true hg;omega)|(simp;done)|(simp;omega)) (by first|omega|(have:=of_decide_eq_true hg;omega)|(simp;done)|(simp;omega)) (by first|omega|(have:=of_decide_eq_true hg;omega)|(simp;done)|(simp;omega))) ?_;refine oW (wk (j:=a+i) (dY (ar d)) rfl rfl rfl rfl rfl rfl rfl rfl (by simp[cP];omega)) ?_;refine oP (jM (b+i) (jQ (ar d)) (dY (ar d)) rfl rfl (by first|omega|(have:=of_decide_eq_true hg;omega)|(simp;done)|(simp;omega)) (by first|omega|(have:=of_decide_eq_true hg;omega)|(simp;done)|(simp;omega)) (by first|omega|(have:=of_decide_eq_true hg;omega)|(simp;done)|(simp;omega))) ?_;refine oW (wk (j:=b+i) (dY (ar d)) rfl rfl rfl rfl rfl rfl rfl rfl (by simp[cP];omega)) ?_;refine ord ?_;refine sd (aW (by first|omega|(have:=of_decide_eq_true hg;omega)|(simp;done)|(simp;omega)) (by first|omega|(have:=of_decide_eq_true hg;omega)|(simp;done)|(simp;omega))) ?_;exact nx ⟨i+1,by omega⟩ (by(try dsimp only);omega) (Le.mk rfl (.cons rfl (Sub.gs zS) rfl (.cons rfl Sub.aF rfl (.cons rfl Sub.aF rfl (.cons rfl Sub.aF rfl (.s rfl rfl (.cons rfl Sub.aF rfl .nil)))))) (.arr rfl (by first|rfl|exact wv _ _ _ _) .nil))
   ·have a_:=h1;try simp only[bs]at a_
    refine U.nil ?_;exact tn (Sub.refl _) (.eq rfl (by first|rfl|(rw[show i=n by omega])) rfl .nil))
structure ai_{t:K7}(d:List (El t))(a m b:Nat)where
 e:List (El t)
 i:Nat
 j:Nat
 k:Nat
 hr:lJ k e m i j=lJ ((m-a)+(b-m)) d m (m-a) (b-m)
 hk:i+j≤k
 hi:0<i
 hj:0<j
 nz:i≤m
 Jk:m+j≤e.length
 my:e.length≤1000000
theorem ai9{t:K7}(d:List (El t))(a m b:Nat)(A M B:Int)(eA:A=a)(eM:M=m)(eB:B=b)(hA:a<m)(hB:m<b)(hC:b≤d.length)(hl:d.length≤1000000):bh Tryz.prog (fR t) [.gs 9000 d.length,.i A,.i M,.i B,.fn (.func (fC t)) [] []] [(9000,.arr (k7 t) ((d).map (bL t)))] (.bl []) [(9000,.arr (k7 t) ((lJ ((m-a)+(b-m)) d m (m-a) (b-m)).map (bL t)))]:=by
 cases t<;>(
  first|refine bh.mk' [] func203 rfl ntmps203 rfl rfl rfl (fun t w=>results_none results203 t _ w) ?_|refine bh.mk' [] func213 rfl ntmps213 rfl rfl rfl (fun t w=>results_none results213 t _ w) ?_|refine bh.mk' [] func214 rfl ntmps214 rfl rfl rfl (fun t w=>results_none results214 t _ w) ?_|refine bh.mk' [] func215 rfl ntmps215 rfl rfl rfl (fun t w=>results_none results215 t _ w) ?_|refine bh.mk' [] func216 rfl ntmps216 rfl rfl rfl (fun t w=>results_none results216 t _ w) ?_|refine bh.mk' [] func217 rfl ntmps217 rfl rfl rfl (fun t w=>results_none results217 t _ w) ?_|refine bh.mk' [] func218 rfl ntmps218 rfl rfl rfl (fun t w=>results_none results218 t _ w) ?_
  subst eA;subst eM;subst eB;refine go [] ?_;refine sd (aW (by first|omega|(have:=of_decide_eq_true hg;omega)|(simp;done)|(simp;omega)) (by first|omega|(have:=of_decide_eq_true hg;omega)|(simp;done)|(simp;omega))) ?_;refine sd (aW (by first|omega|(have:=of_decide_eq_true hg;omega)|(simp;done)|(simp;omega)) (by first|omega|(have:=of_decide_eq_true hg;omega)|(simp;done)|(simp;omega))) ?_;refine U.loop (ι:=ai_ d a m b) (fun sx=>[(0,.gs 9000 sx.e.length),(2,.i m),(4,.fn (.func (fC (ar d))) [] []),(10,.i sx.i),(11,.i sx.j)]) (fun sx=>[(9000,.arr (k7 (ar d)) ((sx.e).map (bL (ar d))))]) (fun sx=>sx.k) ⟨d,m-a,b-m,(m-a)+(b-m),rfl,by omega,by omega,by omega,by omega,by omega,by omega⟩ ?_ ?_
  ·exact Le.mk rfl (.cons rfl (Sub.gs (by simp only[cP,c6,cc,cX,cY,cq,cu,dc,c_,eS,fF,fk,fa,fh])) rfl (.cons rfl Sub.aF rfl (.s rfl rfl (.cons rfl Sub.aF rfl (.cons rfl Sub.aF rfl .nil))))) (.arr rfl (by rfl) .nil)
  ·rintro⟨e,i,j,k,hr,hk,hi,hj,nz,Jk,my⟩;show U _ _ _ _ [(0,.gs 9000 e.length),(2,.i m),(4,.fn (.func (fC (ar d))) [] []),(10,.i i),(11,.i j)] [(9000,.arr (k7 (ar d)) ((e).map (bL (ar d))))];refine go [] ?_;refine br (fun h1=>?_) (fun h1=>?_)
   ·have a_:=h1;try simp only[bs]at a_
    refine br (fun h2=>?_) (fun h2=>?_)
    ·have dO:=h2;try simp only[bs]at dO
     refine sd (aW (by first|omega|(have:=of_decide_eq_true hg;omega)|(simp;done)|(simp;omega)) (by first|omega|(have:=of_decide_eq_true hg;omega)|(simp;done)|(simp;omega))) ?_;refine oW (eu (Hv (ar d)) rfl (L5 e (m-i) m j _ _ _ zO rfl rfl zO zO zO) (.cons rfl rfl .nil) rfl rfl) ?_;refine sd (aW (by first|omega|(have:=of_decide_eq_true hg;omega)|(simp;done)|(simp;omega)) (by first|omega|(have:=of_decide_eq_true hg;omega)|(simp;done)|(simp;omega))) ?_;exact nx ⟨l7 e (m-i) m j,i-j,j,k-1,ajb hr hk hj zO,by omega,by omega,by omega,by omega,by simp only[cP,c6,cc,cX,cY,cq,cu,dc,c_,eS,fF,fk,fa,fh];omega,by simp only[cP,c6,cc,cX,cY,cq,cu,dc,c_,eS,fF,fk,fa,fh];omega⟩ (by(try dsimp only);omega) (Le.mk rfl (.cons rfl (Sub.gs (by simp only[cP,c6,cc,cX,cY,cq,cu,dc,c_,eS,fF,fk,fa,fh])) rfl (.cons rfl Sub.aF rfl (.s rfl rfl (.cons rfl Sub.aF rfl (.cons rfl Sub.aF rfl .nil))))) (.arr rfl (by rfl) .nil))
    ·have dO:=h2;try simp only[bs]at dO
     refine sd (aW (by first|omega|(have:=of_decide_eq_true hg;omega)|(simp;done)|(simp;omega)) (by first|omega|(have:=of_decide_eq_true hg;omega)|(simp;done)|(simp;omega))) ?_;refine sd (aW (by first|omega|(have:=of_decide_eq_true hg;omega)|(simp;done)|(simp;omega)) (by first|omega|(have:=of_decide_eq_true hg;omega)|(simp;done)|(simp;omega))) ?_;refine sd (aW (by first|omega|(have:=of_decide_eq_true hg;omega)|(simp;done)|(simp;omega)) (by first|omega|(have:=of_decide_eq_true hg;omega)|(simp;done)|(simp;omega))) ?_;refine oW (eu (Hv (ar d)) rfl (L5 e (m-i) (m+j-i) i _ _ _ zO zO rfl zO zO zO) (.cons rfl rfl .nil) rfl rfl) ?_;refine sd (aW (by first|omega|(have:=of_decide_eq_true hg;omega)|(simp;done)|(simp;omega)) (by first|omega|(have:=of_decide_eq_true hg;omega)|(simp;done)|(simp;omega))) ?_;exact nx ⟨l7 e (m-i) (m+j-i) i,i,j-i,k-1,ajc hr hk hi zO,by omega,by omega,by omega,by omega,by simp only[cP,c6,cc,cX,cY,cq,cu,dc,c_,eS,fF,fk,fa,fh];omega,by simp only[cP,c6,cc,cX,cY,cq,cu,dc,c_,eS,fF,fk,fa,fh];omega⟩ (by(try dsimp only);omega) (Le.mk rfl (.cons rfl (Sub.gs (by simp only[cP,c6,cc,cX,cY,cq,cu,dc,c_,eS,fF,fk,fa,fh])) rfl (.cons rfl Sub.aF rfl (.s rfl rfl (.cons rfl Sub.aF rfl (.cons rfl Sub.aF rfl .nil))))) (.arr rfl (by rfl) .nil))
   ·have a_:=h1;try simp only[bs]at a_
    refine go [] ?_;refine sd (aW (by first|omega|(have:=of_decide_eq_true hg;omega)|(simp;done)|(simp;omega)) (by first|omega|(have:=of_decide_eq_true hg;omega)|(simp;done)|(simp;omega))) ?_;refine oW (eu (Hv (ar d)) rfl (L5 e (m-i) m i _ _ _ zO rfl rfl zO zO zO) (.cons rfl rfl .nil) rfl rfl) ?_;exact tn (Sub.refl _) (.eq rfl (by rw[←aja hr hk hi zO]) rfl .nil))
structure adl{t:K7}(d:List (El t))(a b:Nat)where
 e:List (El t)
 i:Nat
 k:Nat
 hr:qJ (c7 t) a k e i=qK (c7 t) d a b
 hk:k=b-i
 hi:a<i
 hbe:b≤e.length
 my:e.length≤1000000
structure adm{t:K7}(d:List (El t))(a b:Nat)(e:List (El t))(i:Nat)where
 f:List (El t)
 j:Nat
 hf:lD (c7 t) a j f=lD (c7 t) a i e
 hj:j≤i
 dN:f.length=e.length
theorem Q5{t:K7}(d:List (El t))(a b:Nat)(A B:Int)(eA:A=a)(eB:B=b)(hA:a≤b)(hB:b≤d.length)(hl:d.length≤1000000):bh Tryz.prog (fI t) [.gs 9000 d.length,.i A,.i B,.fn (.func (fC t)) [] []] [(9000,.arr (k7 t) ((d).map (bL t)))] (.bl []) [(9000,.arr (k7 t) ((qK (c7 t) d a b).map (bL t)))]:=by
 cases t<;>(
  first|refine bh.mk' [] func152 rfl ntmps152 rfl rfl rfl (fun t w=>results_none results152 t _ w) ?_|refine bh.mk' [] func164 rfl ntmps164 rfl rfl rfl (fun t w=>results_none results164 t _ w) ?_|refine bh.mk' [] func166 rfl ntmps166 rfl rfl rfl (fun t w=>results_none results166 t _ w) ?_|refine bh.mk' [] func168 rfl ntmps168 rfl rfl rfl (fun t w=>results_none results168 t _ w) ?_|refine bh.mk' [] func170 rfl ntmps170 rfl rfl rfl (fun t w=>results_none results170 t _ w) ?_|refine bh.mk' [] func172 rfl ntmps172 rfl rfl rfl (fun t w=>results_none results172 t _ w) ?_|refine bh.mk' [] func174 rfl ntmps174 rfl rfl rfl (fun t w=>results_none results174 t _ w) ?_
  subst eA;subst eB;refine go [] ?_;refine sd (aW (by first|omega|(have:=of_decide_eq_true hg;omega)|(simp;done)|(simp;omega)) (by first|omega|(have:=of_decide_eq_true hg;omega)|(simp;done)|(simp;omega))) ?_;refine U.loop (ι:=adl d a b) (fun sx=>[(0,.gs 9000 sx.e.length),(1,.i a),(2,.i b),(3,.fn (.func (fC (ar d))) [] []),(8,.i sx.i)]) (fun sx=>[(9000,.arr (k7 (ar d)) ((sx.e).map (bL (ar d))))]) (fun sx=>sx.k) ⟨d,a+1,b-(a+1),rfl,rfl,by omega,by omega,by omega⟩ ?_ ?_
  ·exact Le.mk rfl (.cons rfl (Sub.gs (by simp only[cP,c6,cc,cX,cY,cq,cu,dc,c_,eS,fF,fk,fa,fh])) rfl (.cons rfl Sub.aF rfl (.cons rfl Sub.aF rfl (.s rfl rfl (.cons rfl Sub.aF rfl .nil))))) (.arr rfl (by rfl) .nil)
  ·rintro⟨e,i,k,hr,hk,hi,hbe,my⟩;show U _ _ _ _ [(0,.gs 9000 e.length),(1,.i a),(2,.i b),(3,.fn (.func (fC (ar d))) [] []),(8,.i i)] [(9000,.arr (k7 (ar d)) ((e).map (bL (ar d))))];refine go [] ?_;refine br (fun h1=>?_) (fun h1=>?_)
   ·have a_:=h1;try simp only[bs]at a_
    refine U.loop (ι:=adm d a b e i) (fun sx=>[(0,.gs 9000 sx.f.length),(1,.i a),(2,.i b),(3,.fn (.func (fC (ar d))) [] []),(8,.i i),(9,.i sx.j)]) (fun sx=>[(9000,.arr (k7 (ar d)) ((sx.f).map (bL (ar d))))]) (fun sx=>sx.j) ⟨e,i,rfl,by omega,rfl⟩ ?_ ?_
    ·exact Le.mk rfl (.cons rfl (Sub.gs (by simp only[cP,c6,cc,cX,cY,cq,cu,dc,c_,eS,fF,fk,fa,fh])) rfl (.cons rfl Sub.aF rfl (.cons rfl Sub.aF rfl (.s rfl rfl (.cons rfl Sub.aF rfl (.cons rfl Sub.aF rfl .nil)))))) (.arr rfl (by first|rfl|exact wv _ _ _ _) .nil)
    ·rintro⟨f,j,hf,hj,dN⟩;show U _ _ _ _ [(0,.gs 9000 f.length),(1,.i a),(2,.i b),(3,.fn (.func (fC (ar d))) [] []),(8,.i i),(9,.i j)] [(9000,.arr (k7 (ar d)) ((f).map (bL (ar d))))];refine go [] ?_;refine gP (fun hg=>jM (j) (jQ (ar d)) (dY (ar d)) rfl rfl (by first|omega|(have:=of_decide_eq_true hg;omega)|(simp;done)|(simp;omega)) (by first|omega|(have:=of_decide_eq_true hg;omega)|(simp;done)|(simp;omega)) (by first|omega|(have:=of_decide_eq_true hg;omega)|(simp;done)|(simp;omega))) ?_;refine gR (fun hg=>nR (j:=j) (r:=_) (mU (ar d)) (dY (ar d)) rfl rfl rfl rfl (mM (bL (ar d)) (d:=f) (by first|omega|(simp only[cP,c6,cc,cX,cY,cq,cu,dc,c_]at*;omega)))) ?_;refine pA (fun hg=>(aW (by have:=of_decide_eq_true hg;omega) (by have:=of_decide_eq_true hg;omega))) ?_;refine gP (fun hg=>jM (j-1) (jQ (ar d)) (dY (ar d)) rfl rfl (by first|omega|(have:=of_decide_eq_true hg;omega)|(simp;done)|(simp;omega)) (by first|omega|(have:=of_decide_eq_true hg;omega)|(simp;done)|(simp;omega)) (by first|omega|(have:=of_decide_eq_true hg;omega)|(simp;done)|(simp;omega))) ?_;refine gR (fun hg=>nR (j:=j-1) (r:=_) (mU (ar d)) (dY (ar d)) rfl rfl rfl rfl (mM (bL (ar d)) (d:=f) (by first|omega|(simp only[cP,c6,cc,cX,cY,cq,cu,dc,c_]at*;omega)))) ?_;refine gP (fun hg=>cR (DQ (ar d)) rfl rfl (DV (ar d) _ _)) ?_;refine ord ?_;refine br (fun h2=>?_) (fun h2=>?_)
     ·have dO:=h2;try simp only[bs]at dO
      refine sd (aW (by first|omega|(have:=of_decide_eq_true hg;omega)|(simp;done)|(simp;omega)) (by first|omega|(have:=of_decide_eq_true hg;omega)|(simp;done)|(simp;omega))) ?_;refine sd (aW (by first|omega|(have:=of_decide_eq_true hg;omega)|(simp;done)|(simp;omega)) (by first|omega|(have:=of_decide_eq_true hg;omega)|(simp;done)|(simp;omega))) ?_;refine oP (jM (j-1) (jQ (ar d)) (dY (ar d)) rfl rfl (by first|omega|(have:=of_decide_eq_true hg;omega)|(simp;done)|(simp;omega)) (by first|omega|(have:=of_decide_eq_true hg;omega)|(simp;done)|(simp;omega)) (by first|omega|(have:=of_decide_eq_true hg;omega)|(simp;done)|(simp;omega))) ?_;refine oR (nR (j:=j-1) (r:=_) (mU (ar d)) (dY (ar d)) rfl rfl rfl rfl (mM (bL (ar d)) (d:=f) (by first|omega|(simp only[cP,c6,cc,cX,cY,cq,cu,dc,c_]at*;omega)))) ?_;refine oP (jM (j) (jQ (ar d)) (dY (ar d)) rfl rfl (by first|omega|(have:=of_decide_eq_true hg;omega)|(simp;done)|(simp;omega)) (by first|omega|(have:=of_decide_eq_true hg;omega)|(simp;done)|(simp;omega)) (by first|omega|(have:=of_decide_eq_true hg;omega)|(simp;done)|(simp;omega))) ?_;refine oR (nR (j:=j) (r:=_) (mU (ar d)) (dY (ar d)) rfl rfl rfl rfl (mM (bL (ar d)) (d:=f) (by first|omega|(simp only[cP,c6,cc,cX,cY,cq,cu,dc,c_]at*;omega)))) ?_;refine oP (jM (j) (jQ (ar d)) (dY (ar d)) rfl rfl (by first|omega|(have:=of_decide_eq_true hg;omega)|(simp;done)|(simp;omega)) (by first|omega|(have:=of_decide_eq_true hg;omega)|(simp;done)|(simp;omega)) (by first|omega|(have:=of_decide_eq_true hg;omega)|(simp;done)|(simp;omega))) ?_
      refine oW (wk (j:=j) (dY (ar d)) rfl rfl rfl rfl rfl rfl rfl rfl zQ) ?_;refine oP (jM (j-1) (jQ (ar d)) (dY (ar d)) rfl rfl (by first|omega|(have:=of_decide_eq_true hg;omega)|(simp;done)|(simp;omega)) (by first|omega|(have:=of_decide_eq_true hg;omega)|(simp;done)|(simp;omega)) (by first|omega|(have:=of_decide_eq_true hg;omega)|(simp;done)|(simp;omega))) ?_;refine oW (wk (j:=j-1) (dY (ar d)) rfl rfl rfl rfl rfl rfl rfl rfl zQ) ?_;refine ord ?_;refine sd (aW (by first|omega|(have:=of_decide_eq_true hg;omega)|(simp;done)|(simp;omega)) (by first|omega|(have:=of_decide_eq_true hg;omega)|(simp;done)|(simp;omega))) ?_;exact nx ⟨swp f j (j-1),j-1,adD hf zA,by omega,by rw[cu];exact dN⟩ (by(try dsimp only);omega) (Le.mk rfl (.cons rfl (Sub.gs (by simp only[cP,c6,cc,cX,cY,cq,cu,dc,c_,eS,fF,fk,fa,fh])) rfl (.cons rfl Sub.aF rfl (.cons rfl Sub.aF rfl (.s rfl rfl (.cons rfl Sub.aF rfl (.cons rfl Sub.aF rfl .nil)))))) (.arr rfl (by first|rfl|exact wv _ _ _ _) .nil))
     ·have dO:=h2;try simp only[bs]at dO
      refine U.nil (dv ?_);refine go [] ?_;refine sd (aW (by first|omega|(have:=of_decide_eq_true hg;omega)|(simp;done)|(simp;omega)) (by first|omega|(have:=of_decide_eq_true hg;omega)|(simp;done)|(simp;omega))) ?_;exact nx ⟨f,i+1,k-1,by rw[adB hf zA];exact adF hr zO,by omega,by omega,by omega,by omega⟩ (by(try dsimp only);omega) (Le.mk rfl (.cons rfl (Sub.gs (by simp only[cP,c6,cc,cX,cY,cq,cu,dc,c_,eS,fF,fk,fa,fh])) rfl (.cons rfl Sub.aF rfl (.cons rfl Sub.aF rfl (.s rfl rfl (.cons rfl Sub.aF rfl .nil))))) (.arr rfl (by rfl) .nil))
   ·have a_:=h1;try simp only[bs]at a_
    refine U.nil ?_;exact tn (Sub.refl _) (.eq rfl (by rw[←adE hr zO]) rfl .nil))
structure akJ{t:K7}(d:List (El t))(a m b:Nat)where
 i:Nat
 j:Nat
 k:Nat
 hr:hY (p1 (c7 t) d a) k i j=hY (p1 (c7 t) d a) (b-m) m b
 hk:j-i≤k
 rB:i≤j
 hmi:m≤i
 hjb:j≤b
structure akK{t:K7}(d:List (El t))(a m b:Nat)(i:Nat)where
 e:List (El t)
 q:Nat
 r:Nat
 hq:pC r e q=pC (i-1-a) d a
 jZ:q+r=i-1
 haq:a≤q
 my:e.length=d.length
structure akL{t:K7}(d:List (El t))(a m b:Nat)where
 i:Nat
 j:Nat
 k:Nat
 hr:hY (p2 (c7 t) d m) k i j=hY (p2 (c7 t) d m) (m-a) a m
 hk:j-i≤k
 rB:i≤j
 hai:a≤i
 Jk:j≤m
structure akM{t:K7}(d:List (El t))(a m b:Nat)(i:Nat)where
 e:List (El t)
 q:Nat
 r:Nat
 hq:pB r e q=pB (m-i) d m
 jZ:q=i+r
 hqm:q≤m
 my:e.length=d.length
structure akN{t:K7}(d:List (El t))(a m b:Nat)where
 i:Nat
 j:Nat
 k:Nat
 hr:hY (p3 (c7 t) d (((a+b)/2)+m-1)) k i j=kq (c7 t) d a m b
 hk:j-i≤k
 rB:i≤j
 pd:a≤i∧(a+b)/2+m-b≤i
 zt:j≤m∧j≤(a+b)/2
theorem syS{t:K7}(n:Nat)(ih:∀(d:List (El t))(a m b:Nat)(A M B:Int),A=a→M=m→B=b→a<m→m<b→b≤d.length→d.length≤1000000→b-a≤n→bh Tryz.prog (fM t) [.gs 9000 d.length,.i A,.i M,.i B,.fn (.func (fC t)) [] []] [(9000,.arr (k7 t) (d.map (bL t)))] (.bl []) [(9000,.arr (k7 t) ((jE (c7 t) n d a m b).map (bL t)))])(d:List (El t))(a m b:Nat)(A M B:Int)(eA:A=a)(eM:M=m)(eB:B=b)(hA:a<m)(hB:m<b)(hC:b≤d.length)(hl:d.length≤1000000)(hn:b-a≤n+1):bh Tryz.prog (fM t) [.gs 9000 d.length,.i A,.i M,.i B,.fn (.func (fC t)) [] []] [(9000,.arr (k7 t) ((d).map (bL t)))] (.bl []) [(9000,.arr (k7 t) ((jE (c7 t) (n+1) d a m b).map (bL t)))]:=by
 cases t<;>(
  first|refine bh.mk' [] func153 rfl ntmps153 rfl rfl rfl (fun t w=>results_none results153 t _ w) ?_|refine bh.mk' [] func165 rfl ntmps165 rfl rfl rfl (fun t w=>results_none results165 t _ w) ?_|refine bh.mk' [] func167 rfl ntmps167 rfl rfl rfl (fun t w=>results_none results167 t _ w) ?_|refine bh.mk' [] func169 rfl ntmps169 rfl rfl rfl (fun t w=>results_none results169 t _ w) ?_|refine bh.mk' [] func171 rfl ntmps171 rfl rfl rfl (fun t w=>results_none results171 t _ w) ?_|refine bh.mk' [] func173 rfl ntmps173 rfl rfl rfl (fun t w=>results_none results173 t _ w) ?_|refine bh.mk' [] func175 rfl ntmps175 rfl rfl rfl (fun t w=>results_none results175 t _ w) ?_
  subst eA;subst eM;subst eB;have hsb:=akO hA hB;refine go [27,39,41] ?_;refine sd (aW (by first|omega|(have:=of_decide_eq_true hg;omega)|(simp;done)|(simp;omega)) (by first|omega|(have:=of_decide_eq_true hg;omega)|(simp;done)|(simp;omega))) ?_;refine br (fun h1=>?_) (fun h1=>?_)
  ·have a_:=h1;try simp only[bs]at a_
   refine U.loop (ι:=akJ d a m b) (fun sx=>[(0,.gs 9000 d.length),(1,.i a),(2,.i m),(3,.i b),(4,.fn (.func (fC (ar d))) [] []),(10,.i sx.i),(11,.i sx.j)]) (fun sx=>[(9000,.arr (k7 (ar d)) ((d).map (bL (ar d))))]) (fun sx=>sx.j-sx.i) ⟨m,b,b-m,rfl,by omega,by omega,by omega,by omega⟩ ?_ ?_
   ·exact Le.mk rfl (.cons rfl (Sub.gs (by simp only[cP,c6,cc,cX,cY,cq,cu,dc,c_,eS,fF,fk,fa,fh])) rfl (.cons rfl Sub.aF rfl (.cons rfl Sub.aF rfl (.cons rfl Sub.aF rfl (.s rfl rfl (.cons rfl Sub.aF rfl (.cons rfl Sub.aF rfl .nil))))))) (.arr rfl (by rfl) .nil)
   ·rintro⟨i,j,k,hr,hk,rB,hmi,hjb⟩;show U _ _ _ _ [(0,.gs 9000 d.length),(1,.i a),(2,.i m),(3,.i b),(4,.fn (.func (fC (ar d))) [] []),(10,.i i),(11,.i j)] [(9000,.arr (k7 (ar d)) ((d).map (bL (ar d))))];refine go [27,39,41] ?_;refine br (fun h2=>?_) (fun h2=>?_)
    ·have dO:=h2;try simp only[bs]at dO
     refine sd (aW (by first|omega|(have:=of_decide_eq_true hg;omega)|(simp;done)|(simp;omega)) (by first|omega|(have:=of_decide_eq_true hg;omega)|(simp;done)|(simp;omega))) ?_;refine sd (u5 (by first|omega|(have:=of_decide_eq_true hg;omega)|(simp;done)|(simp;omega)) (by first|omega|(have:=of_decide_eq_true hg;omega)|(simp;done)|(simp;omega))) ?_;refine oP (F9 rfl rfl rfl) ?_;refine sd (aW (by first|omega|(have:=of_decide_eq_true hg;omega)|(simp;done)|(simp;omega)) (by first|omega|(have:=of_decide_eq_true hg;omega)|(simp;done)|(simp;omega))) ?_;refine oP (jM ((i+j)/2) (jQ (ar d)) (dY (ar d)) rfl rfl (by first|omega|(have:=of_decide_eq_true hg;omega)|(simp;done)|(simp;omega)) (by first|omega|(have:=of_decide_eq_true hg;omega)|(simp;done)|(simp;omega)) (by first|omega|(have:=of_decide_eq_true hg;omega)|(simp;done)|(simp;omega))) ?_;refine oR (nR (j:=(i+j)/2) (r:=_) (mU (ar d)) (dY (ar d)) rfl rfl rfl rfl (mM (bL (ar d)) (d:=d) (by first|omega|(simp only[cP,c6,cc,cX,cY,cq,cu,dc,c_]at*;omega)))) ?_;refine oP (jM (a) (jQ (ar d)) (dY (ar d)) rfl rfl (by first|omega|(have:=of_decide_eq_true hg;omega)|(simp;done)|(simp;omega)) (by first|omega|(have:=of_decide_eq_true hg;omega)|(simp;done)|(simp;omega)) (by first|omega|(have:=of_decide_eq_true hg;omega)|(simp;done)|(simp;omega))) ?_;refine oR (nR (j:=a) (r:=_) (mU (ar d)) (dY (ar d)) rfl rfl rfl rfl (mM (bL (ar d)) (d:=d) (by first|omega|(simp only[cP,c6,cc,cX,cY,cq,cu,dc,c_]at*;omega)))) ?_;refine oP (cR (DQ (ar d)) rfl rfl (DV (ar d) _ _)) ?_;refine ord ?_;refine br (fun h3=>?_) (fun h3=>?_)
     ·have gU:=h3;try simp only[bs]at gU
      refine sd (aW (by first|omega|(have:=of_decide_eq_true hg;omega)|(simp;done)|(simp;omega)) (by first|omega|(have:=of_decide_eq_true hg;omega)|(simp;done)|(simp;omega))) ?_;exact nx ⟨(i+j)/2+1,j,k-1,Hr hr hk zO zA,by omega,by omega,by omega,by omega⟩ (by(try dsimp only);omega) (Le.mk rfl (.cons rfl (Sub.gs (by simp only[cP,c6,cc,cX,cY,cq,cu,dc,c_,eS,fF,fk,fa,fh])) rfl (.cons rfl Sub.aF rfl (.cons rfl Sub.aF rfl (.cons rfl Sub.aF rfl (.s rfl rfl (.cons rfl Sub.aF rfl (.cons rfl Sub.aF rfl .nil))))))) (.arr rfl (by rfl) .nil))
     ·have gU:=h3;try simp only[bs]at gU
      exact nx ⟨i,(i+j)/2,k-1,Hq hr hk zO zA,by omega,by omega,by omega,by omega⟩ (by(try dsimp only);omega) (Le.mk rfl (.cons rfl (Sub.gs (by simp only[cP,c6,cc,cX,cY,cq,cu,dc,c_,eS,fF,fk,fa,fh])) rfl (.cons rfl Sub.aF rfl (.cons rfl Sub.aF rfl (.cons rfl Sub.aF rfl (.s rfl rfl (.cons rfl Sub.aF rfl (.cons rfl Sub.aF rfl .nil))))))) (.arr rfl (by rfl) .nil))
    ·have dO:=h2;try simp only[bs]at dO
     refine go [27,39,41] ?_;refine U.loop (ι:=akK d a m b i) (fun sx=>[(0,.gs 9000 sx.e.length),(10,.i i),(13,.i sx.q)]) (fun sx=>[(9000,.arr (k7 (ar d)) ((sx.e).map (bL (ar d))))]) (fun sx=>sx.r) ⟨d,a,i-1-a,rfl,by omega,by omega,rfl⟩ ?_ ?_
     ·exact Le.mk rfl (.cons rfl (Sub.gs (by simp only[cP,c6,cc,cX,cY,cq,cu,dc,c_,eS,fF,fk,fa,fh])) rfl (.cons rfl Sub.aF rfl (.cons rfl Sub.aF rfl .nil))) (.arr rfl (by first|rfl|exact wv _ _ _ _) .nil)
     ·rintro⟨e,q,r,hq,jZ,haq,my⟩;show U _ _ _ _ [(0,.gs 9000 e.length),(10,.i i),(13,.i q)] [(9000,.arr (k7 (ar d)) ((e).map (bL (ar d))))];refine go [27,39,41] ?_;refine sd (aW (by first|omega|(have:=of_decide_eq_true hg;omega)|(simp;done)|(simp;omega)) (by first|omega|(have:=of_decide_eq_true hg;omega)|(simp;done)|(simp;omega))) ?_;refine br (fun h4=>?_) (fun h4=>?_)
      ·have il:=h4;try simp only[bs]at il
       refine sd (aW (by first|omega|(have:=of_decide_eq_true hg;omega)|(simp;done)|(simp;omega)) (by first|omega|(have:=of_decide_eq_true hg;omega)|(simp;done)|(simp;omega))) ?_;refine sd (aW (by first|omega|(have:=of_decide_eq_true hg;omega)|(simp;done)|(simp;omega)) (by first|omega|(have:=of_decide_eq_true hg;omega)|(simp;done)|(simp;omega))) ?_;refine oP (jM (q+1) (jQ (ar d)) (dY (ar d)) rfl rfl (by first|omega|(have:=of_decide_eq_true hg;omega)|(simp;done)|(simp;omega)) (by first|omega|(have:=of_decide_eq_true hg;omega)|(simp;done)|(simp;omega)) (by first|omega|(have:=of_decide_eq_true hg;omega)|(simp;done)|(simp;omega))) ?_;refine oR (nR (j:=q+1) (r:=_) (mU (ar d)) (dY (ar d)) rfl rfl rfl rfl (mM (bL (ar d)) (d:=e) (by first|omega|(simp only[cP,c6,cc,cX,cY,cq,cu,dc,c_]at*;omega)))) ?_;refine oP (jM (q) (jQ (ar d)) (dY (ar d)) rfl rfl (by first|omega|(have:=of_decide_eq_true hg;omega)|(simp;done)|(simp;omega)) (by first|omega|(have:=of_decide_eq_true hg;omega)|(simp;done)|(simp;omega)) (by first|omega|(have:=of_decide_eq_true hg;omega)|(simp;done)|(simp;omega))) ?_;refine oR (nR (j:=q) (r:=_) (mU (ar d)) (dY (ar d)) rfl rfl rfl rfl (mM (bL (ar d)) (d:=e) (by first|omega|(simp only[cP,c6,cc,cX,cY,cq,cu,dc,c_]at*;omega)))) ?_;refine oP (jM (q) (jQ (ar d)) (dY (ar d)) rfl rfl (by first|omega|(have:=of_decide_eq_true hg;omega)|(simp;done)|(simp;omega)) (by first|omega|(have:=of_decide_eq_true hg;omega)|(simp;done)|(simp;omega)) (by first|omega|(have:=of_decide_eq_true hg;omega)|(simp;done)|(simp;omega))) ?_
       refine oW (wk (j:=q) (dY (ar d)) rfl rfl rfl rfl rfl rfl rfl rfl zQ) ?_;refine oP (jM (q+1) (jQ (ar d)) (dY (ar d)) rfl rfl (by first|omega|(have:=of_decide_eq_true hg;omega)|(simp;done)|(simp;omega)) (by first|omega|(have:=of_decide_eq_true hg;omega)|(simp;done)|(simp;omega)) (by first|omega|(have:=of_decide_eq_true hg;omega)|(simp;done)|(simp;omega))) ?_;refine oW (wk (j:=q+1) (dY (ar d)) rfl rfl rfl rfl rfl rfl rfl rfl zQ) ?_;refine ord ?_;refine sd (aW (by first|omega|(have:=of_decide_eq_true hg;omega)|(simp;done)|(simp;omega)) (by first|omega|(have:=of_decide_eq_true hg;omega)|(simp;done)|(simp;omega))) ?_;exact nx ⟨swp e q (q+1),q+1,r-1,ajO hq zO,by omega,by omega,by rw[cu];exact my⟩ (by(try dsimp only);omega) (Le.mk rfl (.cons rfl (Sub.gs (by simp only[cP,c6,cc,cX,cY,cq,cu,dc,c_,eS,fF,fk,fa,fh])) rfl (.cons rfl Sub.aF rfl (.cons rfl Sub.aF rfl .nil))) (.arr rfl (by first|rfl|exact wv _ _ _ _) .nil))
      ·have il:=h4;try simp only[bs]at il
       refine go [27,39,41] ?_;exact UB (Sub.refl _) (.eq rfl (by first|exact congrArg (fun l=>Ob.arr (k7 (ar d)) (List.map (bL (ar d)) l)) ((Gi hq zO).trans (Gy (n:=n) zO (mV hr zO)))|exact congrArg (fun l=>Ob.arr (k7 (ar d)) (List.map (bL (ar d)) l)) ((Gh hq zO).trans (Gz (n:=n) zO zO (mV hr zO)))|exact congrArg (fun l=>Ob.arr (k7 (ar d)) (List.map (bL (ar d)) l)) ((AQ (a:=((a+b)/2)) (m:=((a+b)/2+m-i)) (b:=b) zO zO).symm.trans (wz (n:=n) zO zO (mV hr zO)))|exact congrArg (fun l=>Ob.arr (k7 (ar d)) (List.map (bL (ar d)) l)) ((AP (a:=((a+b)/2)) (m:=((a+b)/2+m-i)) (b:=b) zO).symm.trans (wz (n:=n) zO zO (mV hr zO)))) rfl .nil)
  ·have a_:=h1;try simp only[bs]at a_
   refine sd (aW (by first|omega|(have:=of_decide_eq_true hg;omega)|(simp;done)|(simp;omega)) (by first|omega|(have:=of_decide_eq_true hg;omega)|(simp;done)|(simp;omega))) ?_;refine br (fun h5=>?_) (fun h5=>?_)
   ·have uI:=h5;try simp only[bs]at uI
    refine U.loop (ι:=akL d a m b) (fun sx=>[(0,.gs 9000 d.length),(1,.i a),(2,.i m),(3,.i b),(4,.fn (.func (fC (ar d))) [] []),(14,.i sx.i),(15,.i sx.j)]) (fun sx=>[(9000,.arr (k7 (ar d)) ((d).map (bL (ar d))))]) (fun sx=>sx.j-sx.i) ⟨a,m,m-a,rfl,by omega,by omega,by omega,by omega⟩ ?_ ?_
    ·exact Le.mk rfl (.cons rfl (Sub.gs (by simp only[cP,c6,cc,cX,cY,cq,cu,dc,c_,eS,fF,fk,fa,fh])) rfl (.cons rfl Sub.aF rfl (.cons rfl Sub.aF rfl (.cons rfl Sub.aF rfl (.s rfl rfl (.cons rfl Sub.aF rfl (.cons rfl Sub.aF rfl .nil))))))) (.arr rfl (by rfl) .nil)
    ·rintro⟨i,j,k,hr,hk,rB,hai,Jk⟩;show U _ _ _ _ [(0,.gs 9000 d.length),(1,.i a),(2,.i m),(3,.i b),(4,.fn (.func (fC (ar d))) [] []),(14,.i i),(15,.i j)] [(9000,.arr (k7 (ar d)) ((d).map (bL (ar d))))];refine go [27,39,41] ?_;refine br (fun h6=>?_) (fun h6=>?_)
     ·have K6:=h6;try simp only[bs]at K6
      refine sd (aW (by first|omega|(have:=of_decide_eq_true hg;omega)|(simp;done)|(simp;omega)) (by first|omega|(have:=of_decide_eq_true hg;omega)|(simp;done)|(simp;omega))) ?_;refine sd (u5 (by first|omega|(have:=of_decide_eq_true hg;omega)|(simp;done)|(simp;omega)) (by first|omega|(have:=of_decide_eq_true hg;omega)|(simp;done)|(simp;omega))) ?_;refine oP (F9 rfl rfl rfl) ?_;refine sd (aW (by first|omega|(have:=of_decide_eq_true hg;omega)|(simp;done)|(simp;omega)) (by first|omega|(have:=of_decide_eq_true hg;omega)|(simp;done)|(simp;omega))) ?_;refine oP (jM (m) (jQ (ar d)) (dY (ar d)) rfl rfl (by first|omega|(have:=of_decide_eq_true hg;omega)|(simp;done)|(simp;omega)) (by first|omega|(have:=of_decide_eq_true hg;omega)|(simp;done)|(simp;omega)) (by first|omega|(have:=of_decide_eq_true hg;omega)|(simp;done)|(simp;omega))) ?_;refine oR (nR (j:=m) (r:=_) (mU (ar d)) (dY (ar d)) rfl rfl rfl rfl (mM (bL (ar d)) (d:=d) (by first|omega|(simp only[cP,c6,cc,cX,cY,cq,cu,dc,c_]at*;omega)))) ?_;refine oP (jM ((i+j)/2) (jQ (ar d)) (dY (ar d)) rfl rfl (by first|omega|(have:=of_decide_eq_true hg;omega)|(simp;done)|(simp;omega)) (by first|omega|(have:=of_decide_eq_true hg;omega)|(simp;done)|(simp;omega)) (by first|omega|(have:=of_decide_eq_true hg;omega)|(simp;done)|(simp;omega))) ?_;refine oR (nR (j:=(i+j)/2) (r:=_) (mU (ar d)) (dY (ar d)) rfl rfl rfl rfl (mM (bL (ar d)) (d:=d) (by first|omega|(simp only[cP,c6,cc,cX,cY,cq,cu,dc,c_]at*;omega)))) ?_;refine oP (cR (DQ (ar d)) rfl rfl (DV (ar d) _ _)) ?_;refine ord ?_;refine br (fun h7=>?_) (fun h7=>?_)
      ·have K8:=h7;try simp only[bs]at K8
       refine sd (aW (by first|omega|(have:=of_decide_eq_true hg;omega)|(simp;done)|(simp;omega)) (by first|omega|(have:=of_decide_eq_true hg;omega)|(simp;done)|(simp;omega))) ?_;exact nx ⟨(i+j)/2+1,j,k-1,Hr hr hk zO zA,by omega,by omega,by omega,by omega⟩ (by(try dsimp only);omega) (Le.mk rfl (.cons rfl (Sub.gs (by simp only[cP,c6,cc,cX,cY,cq,cu,dc,c_,eS,fF,fk,fa,fh])) rfl (.cons rfl Sub.aF rfl (.cons rfl Sub.aF rfl (.cons rfl Sub.aF rfl (.s rfl rfl (.cons rfl Sub.aF rfl (.cons rfl Sub.aF rfl .nil))))))) (.arr rfl (by rfl) .nil))
      ·have K8:=h7;try simp only[bs]at K8
       exact nx ⟨i,(i+j)/2,k-1,Hq hr hk zO zA,by omega,by omega,by omega,by omega⟩ (by(try dsimp only);omega) (Le.mk rfl (.cons rfl (Sub.gs (by simp only[cP,c6,cc,cX,cY,cq,cu,dc,c_,eS,fF,fk,fa,fh])) rfl (.cons rfl Sub.aF rfl (.cons rfl Sub.aF rfl (.cons rfl Sub.aF rfl (.s rfl rfl (.cons rfl Sub.aF rfl (.cons rfl Sub.aF rfl .nil))))))) (.arr rfl (by rfl) .nil))
     ·have K6:=h6;try simp only[bs]at K6
      refine go [27,39,41] ?_;refine U.loop (ι:=akM d a m b i) (fun sx=>[(0,.gs 9000 sx.e.length),(14,.i i),(17,.i sx.q)]) (fun sx=>[(9000,.arr (k7 (ar d)) ((sx.e).map (bL (ar d))))]) (fun sx=>sx.r) ⟨d,m,m-i,rfl,by omega,by omega,rfl⟩ ?_ ?_
      ·exact Le.mk rfl (.cons rfl (Sub.gs (by simp only[cP,c6,cc,cX,cY,cq,cu,dc,c_,eS,fF,fk,fa,fh])) rfl (.cons rfl Sub.aF rfl (.cons rfl Sub.aF rfl .nil))) (.arr rfl (by first|rfl|exact wv _ _ _ _) .nil)
      ·rintro⟨e,q,r,hq,jZ,hqm,my⟩;show U _ _ _ _ [(0,.gs 9000 e.length),(14,.i i),(17,.i q)] [(9000,.arr (k7 (ar d)) ((e).map (bL (ar d))))];refine go [27,39,41] ?_;refine br (fun h8=>?_) (fun h8=>?_)
       ·have K9:=h8;try simp only[bs]at K9
        refine sd (aW (by first|omega|(have:=of_decide_eq_true hg;omega)|(simp;done)|(simp;omega)) (by first|omega|(have:=of_decide_eq_true hg;omega)|(simp;done)|(simp;omega))) ?_;refine sd (aW (by first|omega|(have:=of_decide_eq_true hg;omega)|(simp;done)|(simp;omega)) (by first|omega|(have:=of_decide_eq_true hg;omega)|(simp;done)|(simp;omega))) ?_;refine oP (jM (q-1) (jQ (ar d)) (dY (ar d)) rfl rfl (by first|omega|(have:=of_decide_eq_true hg;omega)|(simp;done)|(simp;omega)) (by first|omega|(have:=of_decide_eq_true hg;omega)|(simp;done)|(simp;omega)) (by first|omega|(have:=of_decide_eq_true hg;omega)|(simp;done)|(simp;omega))) ?_;refine oR (nR (j:=q-1) (r:=_) (mU (ar d)) (dY (ar d)) rfl rfl rfl rfl (mM (bL (ar d)) (d:=e) (by first|omega|(simp only[cP,c6,cc,cX,cY,cq,cu,dc,c_]at*;omega)))) ?_;refine oP (jM (q) (jQ (ar d)) (dY (ar d)) rfl rfl (by first|omega|(have:=of_decide_eq_true hg;omega)|(simp;done)|(simp;omega)) (by first|omega|(have:=of_decide_eq_true hg;omega)|(simp;done)|(simp;omega)) (by first|omega|(have:=of_decide_eq_true hg;omega)|(simp;done)|(simp;omega))) ?_;refine oR (nR (j:=q) (r:=_) (mU (ar d)) (dY (ar d)) rfl rfl rfl rfl (mM (bL (ar d)) (d:=e) (by first|omega|(simp only[cP,c6,cc,cX,cY,cq,cu,dc,c_]at*;omega)))) ?_;refine oP (jM (q) (jQ (ar d)) (dY (ar d)) rfl rfl (by first|omega|(have:=of_decide_eq_true hg;omega)|(simp;done)|(simp;omega)) (by first|omega|(have:=of_decide_eq_true hg;omega)|(simp;done)|(simp;omega)) (by first|omega|(have:=of_decide_eq_true hg;omega)|(simp;done)|(simp;omega))) ?_
        refine oW (wk (j:=q) (dY (ar d)) rfl rfl rfl rfl rfl rfl rfl rfl zQ) ?_;refine oP (jM (q-1) (jQ (ar d)) (dY (ar d)) rfl rfl (by first|omega|(have:=of_decide_eq_true hg;omega)|(simp;done)|(simp;omega)) (by first|omega|(have:=of_decide_eq_true hg;omega)|(simp;done)|(simp;omega)) (by first|omega|(have:=of_decide_eq_true hg;omega)|(simp;done)|(simp;omega))) ?_;refine oW (wk (j:=q-1) (dY (ar d)) rfl rfl rfl rfl rfl rfl rfl rfl zQ) ?_;refine ord ?_;refine sd (aW (by first|omega|(have:=of_decide_eq_true hg;omega)|(simp;done)|(simp;omega)) (by first|omega|(have:=of_decide_eq_true hg;omega)|(simp;done)|(simp;omega))) ?_;exact nx ⟨swp e q (q-1),q-1,r-1,ajN hq zO,by omega,by omega,by rw[cu];exact my⟩ (by(try dsimp only);omega) (Le.mk rfl (.cons rfl (Sub.gs (by simp only[cP,c6,cc,cX,cY,cq,cu,dc,c_,eS,fF,fk,fa,fh])) rfl (.cons rfl Sub.aF rfl (.cons rfl Sub.aF rfl .nil))) (.arr rfl (by first|rfl|exact wv _ _ _ _) .nil))
       ·have K9:=h8;try simp only[bs]at K9
        refine go [27,39,41] ?_;exact UB (Sub.refl _) (.eq rfl (by first|exact congrArg (fun l=>Ob.arr (k7 (ar d)) (List.map (bL (ar d)) l)) ((Gi hq zO).trans (Gy (n:=n) zO (mV hr zO)))|exact congrArg (fun l=>Ob.arr (k7 (ar d)) (List.map (bL (ar d)) l)) ((Gh hq zO).trans (Gz (n:=n) zO zO (mV hr zO)))|exact congrArg (fun l=>Ob.arr (k7 (ar d)) (List.map (bL (ar d)) l)) ((AQ (a:=((a+b)/2)) (m:=((a+b)/2+m-i)) (b:=b) zO zO).symm.trans (wz (n:=n) zO zO (mV hr zO)))|exact congrArg (fun l=>Ob.arr (k7 (ar d)) (List.map (bL (ar d)) l)) ((AP (a:=((a+b)/2)) (m:=((a+b)/2+m-i)) (b:=b) zO).symm.trans (wz (n:=n) zO zO (mV hr zO)))) rfl .nil)
   ·have uI:=h5;try simp only[bs]at uI
    refine sd (aW (by first|omega|(have:=of_decide_eq_true hg;omega)|(simp;done)|(simp;omega)) (by first|omega|(have:=of_decide_eq_true hg;omega)|(simp;done)|(simp;omega))) ?_;refine sd (u5 (by first|omega|(have:=of_decide_eq_true hg;omega)|(simp;done)|(simp;omega)) (by first|omega|(have:=of_decide_eq_true hg;omega)|(simp;done)|(simp;omega))) ?_;refine oP (F9 rfl rfl rfl) ?_;refine sd (aW (by first|omega|(have:=of_decide_eq_true hg;omega)|(simp;done)|(simp;omega)) (by first|omega|(have:=of_decide_eq_true hg;omega)|(simp;done)|(simp;omega))) ?_;refine sd (aW (by first|omega|(have:=of_decide_eq_true hg;omega)|(simp;done)|(simp;omega)) (by first|omega|(have:=of_decide_eq_true hg;omega)|(simp;done)|(simp;omega))) ?_;refine U.cH [.p,.p,.p] ?_;refine .mv rfl rfl<|.mv rfl rfl<|.P rfl (ju rfl rfl)<|.nil ?_;refine U.join [(0,.gs 9000 d.length),(1,.i a),(2,.i m),(3,.i b),(4,.fn (.func (fC (ar d))) [] []),(18,.i (((a+b)/2):Nat)),(19,.i (((a+b)/2)+m:Nat)),(20,.i (uX a b m)),(21,.i (uW a b m))] [(9000,.arr (k7 (ar d)) ((d).map (bL (ar d))))] ?_ ?_
    ·skip;refine go [27,39,41] ?_;refine br (fun h9=>?_) (fun h9=>?_)
     ·have K_:=h9;try simp only[bs]at K_
      refine sd (aW (by first|omega|(have:=of_decide_eq_true hg;omega)|(simp;done)|(simp;omega)) (by first|omega|(have:=of_decide_eq_true hg;omega)|(simp;done)|(simp;omega))) ?_;exact nx () zD (Le.mk rfl (.cons rfl (Sub.gs zS) rfl (.cons rfl Sub.aF rfl (.cons rfl Sub.aF rfl (.cons rfl Sub.aF rfl (.s rfl rfl (.cons rfl Sub.aF rfl (.cons rfl Sub.aF rfl (.cons rfl (Sub.int (by unfold uX;split<;>omega)) rfl (.cons rfl (Sub.int (by unfold uW;split<;>omega)) rfl .nil))))))))) (.arr rfl (by rfl) .nil))
     ·have K_:=h9;try simp only[bs]at K_
      exact nx () zD (Le.mk rfl (.cons rfl (Sub.gs zS) rfl (.cons rfl Sub.aF rfl (.cons rfl Sub.aF rfl (.cons rfl Sub.aF rfl (.s rfl rfl (.cons rfl Sub.aF rfl (.cons rfl Sub.aF rfl (.cons rfl (Sub.int (by unfold uX;split<;>omega)) rfl (.cons rfl (Sub.int (by unfold uW;split<;>omega)) rfl .nil))))))))) (.arr rfl (by rfl) .nil))
    ·skip;refine go [27,39,41] ?_;refine sd (aW (by first|omega|(have:=of_decide_eq_true hg;omega)|(simp;done)|(simp;omega)) (by first|omega|(have:=of_decide_eq_true hg;omega)|(simp;done)|(simp;omega))) ?_;refine U.loop (ι:=akN d a m b) (fun sx=>[(0,.gs 9000 d.length),(1,.i a),(2,.i m),(3,.i b),(4,.fn (.func (fC (ar d))) [] []),(20,.i sx.i),(21,.i sx.j),(18,.i (((a+b)/2):Nat)),(19,.i (((a+b)/2)+m:Nat)),(22,.i (((a+b)/2)+m-1:Nat))]) (fun sx=>[(9000,.arr (k7 (ar d)) ((d).map (bL (ar d))))]) (fun sx=>sx.j-sx.i) ⟨uX a b m,uW a b m,uW a b m-uX a b m,rfl,by omega,by omega,by omega,by omega⟩ ?_ ?_
     ·exact Le.mk rfl (.cons rfl (Sub.gs (by simp only[cP,c6,cc,cX,cY,cq,cu,dc,c_,eS,fF,fk,fa,fh])) rfl (.cons rfl Sub.aF rfl (.cons rfl Sub.aF rfl (.cons rfl Sub.aF rfl (.s rfl rfl (.cons rfl Sub.aF rfl (.cons rfl Sub.aF rfl (.cons rfl Sub.aF rfl (.cons rfl Sub.aF rfl (.cons rfl Sub.aF rfl .nil)))))))))) (.arr rfl (by rfl) .nil)
     ·rintro⟨i,j,k,hr,hk,rB,pd,zt⟩;show U _ _ _ _ [(0,.gs 9000 d.length),(1,.i a),(2,.i m),(3,.i b),(4,.fn (.func (fC (ar d))) [] []),(20,.i i),(21,.i j),(18,.i (((a+b)/2):Nat)),(19,.i (((a+b)/2)+m:Nat)),(22,.i (((a+b)/2)+m-1:Nat))] [(9000,.arr (k7 (ar d)) ((d).map (bL (ar d))))];refine go [27,39,41] ?_;refine br (fun gE=>?_) (fun gE=>?_)
      ·have K1:=gE;try simp only[bs]at K1
       refine sd (aW (by first|omega|(have:=of_decide_eq_true hg;omega)|(simp;done)|(simp;omega)) (by first|omega|(have:=of_decide_eq_true hg;omega)|(simp;done)|(simp;omega))) ?_;refine sd (u5 (by first|omega|(have:=of_decide_eq_true hg;omega)|(simp;done)|(simp;omega)) (by first|omega|(have:=of_decide_eq_true hg;omega)|(simp;done)|(simp;omega))) ?_;refine oP (F9 rfl rfl rfl) ?_;refine sd (aW (by first|omega|(have:=of_decide_eq_true hg;omega)|(simp;done)|(simp;omega)) (by first|omega|(have:=of_decide_eq_true hg;omega)|(simp;done)|(simp;omega))) ?_;refine sd (aW (by first|omega|(have:=of_decide_eq_true hg;omega)|(simp;done)|(simp;omega)) (by first|omega|(have:=of_decide_eq_true hg;omega)|(simp;done)|(simp;omega))) ?_;refine oP (jM ((a+b)/2+m-1-(i+j)/2) (jQ (ar d)) (dY (ar d)) rfl rfl (by first|omega|(have:=of_decide_eq_true hg;omega)|(simp;done)|(simp;omega)) (by first|omega|(have:=of_decide_eq_true hg;omega)|(simp;done)|(simp;omega)) (by first|omega|(have:=of_decide_eq_true hg;omega)|(simp;done)|(simp;omega))) ?_;refine oR (nR (j:=(a+b)/2+m-1-(i+j)/2) (r:=_) (mU (ar d)) (dY (ar d)) rfl rfl rfl rfl (mM (bL (ar d)) (d:=d) (by first|omega|(simp only[cP,c6,cc,cX,cY,cq,cu,dc,c_]at*;omega)))) ?_;refine oP (jM ((i+j)/2) (jQ (ar d)) (dY (ar d)) rfl rfl (by first|omega|(have:=of_decide_eq_true hg;omega)|(simp;done)|(simp;omega)) (by first|omega|(have:=of_decide_eq_true hg;omega)|(simp;done)|(simp;omega)) (by first|omega|(have:=of_decide_eq_true hg;omega)|(simp;done)|(simp;omega))) ?_
       refine oR (nR (j:=(i+j)/2) (r:=_) (mU (ar d)) (dY (ar d)) rfl rfl rfl rfl (mM (bL (ar d)) (d:=d) (by first|omega|(simp only[cP,c6,cc,cX,cY,cq,cu,dc,c_]at*;omega)))) ?_;refine oP (cR (DQ (ar d)) rfl rfl (DV (ar d) _ _)) ?_;refine ord ?_;refine br (fun f_=>?_) (fun f_=>?_)
       ·have K2:=f_;try simp only[bs]at K2
        refine sd (aW (by first|omega|(have:=of_decide_eq_true hg;omega)|(simp;done)|(simp;omega)) (by first|omega|(have:=of_decide_eq_true hg;omega)|(simp;done)|(simp;omega))) ?_;exact nx ⟨(i+j)/2+1,j,k-1,Hr hr hk zO zA,by omega,by omega,by omega,by omega⟩ (by(try dsimp only);omega) (Le.mk rfl (.cons rfl (Sub.gs (by simp only[cP,c6,cc,cX,cY,cq,cu,dc,c_,eS,fF,fk,fa,fh])) rfl (.cons rfl Sub.aF rfl (.cons rfl Sub.aF rfl (.cons rfl Sub.aF rfl (.s rfl rfl (.cons rfl Sub.aF rfl (.cons rfl Sub.aF rfl (.cons rfl Sub.aF rfl (.cons rfl Sub.aF rfl (.cons rfl Sub.aF rfl .nil)))))))))) (.arr rfl (by rfl) .nil))
       ·have K2:=f_;try simp only[bs]at K2
        exact nx ⟨i,(i+j)/2,k-1,Hq hr hk zO zA,by omega,by omega,by omega,by omega⟩ (by(try dsimp only);omega) (Le.mk rfl (.cons rfl (Sub.gs (by simp only[cP,c6,cc,cX,cY,cq,cu,dc,c_,eS,fF,fk,fa,fh])) rfl (.cons rfl Sub.aF rfl (.cons rfl Sub.aF rfl (.cons rfl Sub.aF rfl (.s rfl rfl (.cons rfl Sub.aF rfl (.cons rfl Sub.aF rfl (.cons rfl Sub.aF rfl (.cons rfl Sub.aF rfl (.cons rfl Sub.aF rfl .nil)))))))))) (.arr rfl (by rfl) .nil))
      ·have K1:=gE;try simp only[bs]at K1
       refine go [27,39,41] ?_;refine sd (aW (by first|omega|(have:=of_decide_eq_true hg;omega)|(simp;done)|(simp;omega)) (by first|omega|(have:=of_decide_eq_true hg;omega)|(simp;done)|(simp;omega))) ?_;refine U.cH [.p,.p,.p,.p,.p,.p,.p,.p] ?_;refine .mv rfl rfl<|.mv rfl rfl<|.P rfl (bY rfl rfl)<|.mv rfl rfl<|.gT rfl (.inl rfl) rfl rfl rfl (fun hg=>pk (fun _=>bG rfl _))<|.gT rfl (.inl rfl) rfl rfl rfl (fun hg=>pk (fun _=>bG rfl _))<|.gT rfl (.inl rfl) rfl rfl rfl (fun hg=>pk (fun _=>bY (bI rfl hg) (bI rfl hg) _))<|.P rfl (kN rfl rfl)<|.nil ?_;refine U.join [(0,.gs 9000 (lN d m i ((a+b)/2+m-i)).length),(1,.i a),(2,.i m),(3,.i b),(4,.fn (.func (fC (ar d))) [] []),(18,.i (((a+b)/2):Nat)),(20,.i i),(24,.i (((a+b)/2+m-i):Nat))] [(9000,.arr (k7 (ar d)) ((lN d m i ((a+b)/2+m-i)).map (bL (ar d))))] ?_ ?_
       ·skip;refine go [27,39,41] ?_;refine br (fun ja=>?_) (fun ja=>?_)
        ·have K3:=ja;try simp only[bs]at K3
         refine oW (eu (Xr (ar d)) rfl (ai9 d i m ((a+b)/2+m-i) _ _ _ rfl rfl zO zO zO zO hl) (.cons rfl rfl .nil) rfl rfl) ?_;exact nx () zD (Le.mk rfl (.cons rfl (Sub.gs (by simp only[cP,c6,cc,cX,cY,cq,cu,dc,c_,eS,fF,fk,fa,fh])) rfl (.cons rfl Sub.aF rfl (.cons rfl Sub.aF rfl (.cons rfl Sub.aF rfl (.s rfl rfl (.cons rfl Sub.aF rfl (.cons rfl Sub.aF rfl (.cons rfl Sub.aF rfl .nil)))))))) (.arr rfl (by first|exact congrArg _ (Vt zO zO).symm|exact congrArg _ (Vq (s:=i) (b:=((a+b)/2+m-i)) zO).symm) .nil))
        ·have K3:=ja;try simp only[bs]at K3
         exact nx () zD (Le.mk rfl (.cons rfl (Sub.gs (by simp only[cP,c6,cc,cX,cY,cq,cu,dc,c_,eS,fF,fk,fa,fh])) rfl (.cons rfl Sub.aF rfl (.cons rfl Sub.aF rfl (.cons rfl Sub.aF rfl (.s rfl rfl (.cons rfl Sub.aF rfl (.cons rfl Sub.aF rfl (.cons rfl Sub.aF rfl .nil)))))))) (.arr rfl (by first|exact congrArg _ (Vt zO zO).symm|exact congrArg _ (Vq (s:=i) (b:=((a+b)/2+m-i)) zO).symm) .nil))
       ·skip;refine go [27,39,41] ?_;refine U.cH [.p,.p,.p,.p,.p,.p,.p,.p] ?_;refine .mv rfl rfl<|.mv rfl rfl<|.P rfl (bY rfl rfl)<|.mv rfl rfl<|.gT rfl (.inl rfl) rfl rfl rfl (fun hg=>pk (fun _=>bG rfl _))<|.gT rfl (.inl rfl) rfl rfl rfl (fun hg=>pk (fun _=>bG rfl _))<|.gT rfl (.inl rfl) rfl rfl rfl (fun hg=>pk (fun _=>bY (bI rfl hg) (bI rfl hg) _))<|.P rfl (kN rfl rfl)<|.nil ?_;refine U.join [(0,.gs 9000 (rZ (c7 (ar d)) (lN d m i ((a+b)/2+m-i)) a ((a+b)/2) i n).length),(1,.i a),(2,.i m),(3,.i b),(4,.fn (.func (fC (ar d))) [] []),(18,.i (((a+b)/2):Nat)),(20,.i i),(24,.i (((a+b)/2+m-i):Nat))] [(9000,.arr (k7 (ar d)) ((rZ (c7 (ar d)) (lN d m i ((a+b)/2+m-i)) a ((a+b)/2) i n).map (bL (ar d))))] ?_ ?_
        ·skip;refine go [27,39,41] ?_;refine br (fun kW=>?_) (fun kW=>?_)
         ·have K4:=kW;try simp only[bs]at K4
          refine oW (eu (DR (ar d)) rfl (ih (lN d m i ((a+b)/2+m-i)) a i ((a+b)/2) _ _ _ rfl rfl zO zO zO (by simp only[cP,c6,cc,cX,cY,cq,cu,dc,c_,eS,fF,fk,fa,fh];omega) (by simp only[cP,c6,cc,cX,cY,cq,cu,dc,c_,eS,fF,fk,fa,fh];omega) zO) (.cons rfl rfl .nil) rfl rfl) ?_;exact nx () zD (Le.mk rfl (.cons rfl (Sub.gs (by simp only[cP,c6,cc,cX,cY,cq,cu,dc,c_,eS,fF,fk,fa,fh])) rfl (.cons rfl Sub.aF rfl (.cons rfl Sub.aF rfl (.cons rfl Sub.aF rfl (.s rfl rfl (.cons rfl Sub.aF rfl (.cons rfl Sub.aF rfl (.cons rfl Sub.aF rfl .nil)))))))) (.arr rfl (by first|exact congrArg _ (AQ (a:=a) (m:=i) (b:=((a+b)/2)) zO zO).symm|exact congrArg _ (AP (a:=a) (m:=i) (b:=((a+b)/2)) zO).symm) .nil))
         ·have K4:=kW;try simp only[bs]at K4
          exact nx () zD (Le.mk rfl (.cons rfl (Sub.gs (by simp only[cP,c6,cc,cX,cY,cq,cu,dc,c_,eS,fF,fk,fa,fh])) rfl (.cons rfl Sub.aF rfl (.cons rfl Sub.aF rfl (.cons rfl Sub.aF rfl (.s rfl rfl (.cons rfl Sub.aF rfl (.cons rfl Sub.aF rfl (.cons rfl Sub.aF rfl .nil)))))))) (.arr rfl (by first|exact congrArg _ (AQ (a:=a) (m:=i) (b:=((a+b)/2)) zO zO).symm|exact congrArg _ (AP (a:=a) (m:=i) (b:=((a+b)/2)) zO).symm) .nil))
        ·skip;refine go [27,39,41] ?_;refine br (fun IL=>?_) (fun IL=>?_)
         ·have K5:=IL;try simp only[bs]at K5
          refine oW (eu (DR (ar d)) rfl (ih (rZ (c7 (ar d)) (lN d m i ((a+b)/2+m-i)) a ((a+b)/2) i n) ((a+b)/2) ((a+b)/2+m-i) b _ _ _ zO zO rfl zO zO (by simp only[cP,c6,cc,cX,cY,cq,cu,dc,c_,eS,fF,fk,fa,fh];omega) (by simp only[cP,c6,cc,cX,cY,cq,cu,dc,c_,eS,fF,fk,fa,fh];omega) zO) (.cons rfl rfl .nil) rfl rfl) ?_;exact tn (Sub.refl _) (.eq rfl (by first|exact congrArg (fun l=>Ob.arr (k7 (ar d)) (List.map (bL (ar d)) l)) ((Gi hq zO).trans (Gy (n:=n) zO (mV hr zO)))|exact congrArg (fun l=>Ob.arr (k7 (ar d)) (List.map (bL (ar d)) l)) ((Gh hq zO).trans (Gz (n:=n) zO zO (mV hr zO)))|exact congrArg (fun l=>Ob.arr (k7 (ar d)) (List.map (bL (ar d)) l)) ((AQ (a:=((a+b)/2)) (m:=((a+b)/2+m-i)) (b:=b) zO zO).symm.trans (wz (n:=n) zO zO (mV hr zO)))|exact congrArg (fun l=>Ob.arr (k7 (ar d)) (List.map (bL (ar d)) l)) ((AP (a:=((a+b)/2)) (m:=((a+b)/2+m-i)) (b:=b) zO).symm.trans (wz (n:=n) zO zO (mV hr zO)))) rfl .nil)
         ·have K5:=IL;try simp only[bs]at K5
          exact tn (Sub.refl _) (.eq rfl (by first|exact congrArg (fun l=>Ob.arr (k7 (ar d)) (List.map (bL (ar d)) l)) ((Gi hq zO).trans (Gy (n:=n) zO (mV hr zO)))|exact congrArg (fun l=>Ob.arr (k7 (ar d)) (List.map (bL (ar d)) l)) ((Gh hq zO).trans (Gz (n:=n) zO zO (mV hr zO)))|exact congrArg (fun l=>Ob.arr (k7 (ar d)) (List.map (bL (ar d)) l)) ((AQ (a:=((a+b)/2)) (m:=((a+b)/2+m-i)) (b:=b) zO zO).symm.trans (wz (n:=n) zO zO (mV hr zO)))|exact congrArg (fun l=>Ob.arr (k7 (ar d)) (List.map (bL (ar d)) l)) ((AP (a:=((a+b)/2)) (m:=((a+b)/2+m-i)) (b:=b) zO).symm.trans (wz (n:=n) zO zO (mV hr zO)))) rfl .nil))
theorem L6{t:K7}:∀(n:Nat)(d:List (El t))(a m b:Nat)(A M B:Int),A=a→M=m→B=b→a<m→m<b→b≤d.length→d.length≤1000000→b-a≤n→bh Tryz.prog (fM t) [.gs 9000 d.length,.i A,.i M,.i B,.fn (.func (fC t)) [] []] [(9000,.arr (k7 t) (d.map (bL t)))] (.bl []) [(9000,.arr (k7 t) ((jE (c7 t) n d a m b).map (bL t)))]
 |0,_,_,_,_,_,_,_,_,_,_,h1,h2,_,_,h=>by exfalso;omega
 |n+1,d,a,m,b,A,M,B,eA,eM,eB,h1,h2,h3,h4,h5=>syS n (L6 n) d a m b A M B eA eM eB h1 h2 h3 h4 h5
structure akd{t:K7}(d:List (El t))where
 e:List (El t)
 x:Nat
 k:Nat
 hr:pn (c7 t) k e x=pn (c7 t) d.length d 0
 hx:x≤e.length
 hk:e.length≤x+k
 my:e.length=d.length
structure ake{t:K7}(d:List (El t))where
 e:List (El t)
 s:Nat
 k:Nat
 hr:pQ (c7 t) k s e=Gr (c7 t) d
 hs:0<s
 hk:e.length≤s+k
 my:e.length=d.length
structure akf{t:K7}(d:List (El t))(e:List (El t))(s:Nat)where
 f:List (El t)
 x:Nat
 k2:Nat
 jZ:nP (c7 t) s k2 f x=nP (c7 t) s (e.length+1) e 0
 hx:x≤f.length
 ua:f.length<x+k2
 dN:f.length=e.length
theorem akc{t:K7}(d:List (El t))(N:Int)(eN:N=d.length)(hl:d.length≤1000000):bh Tryz.prog (fT t) [.gs 9000 d.length,.i N,.fn (.func (fC t)) [] []] [(9000,.arr (k7 t) ((d).map (bL t)))] (.bl []) [(9000,.arr (k7 t) ((Gr (c7 t) d).map (bL t)))]:=by
 cases t<;>(
  first|refine bh.mk' [] func107 rfl ntmps107 rfl rfl rfl (fun t w=>results_none results107 t _ w) ?_|refine bh.mk' [] func111 rfl ntmps111 rfl rfl rfl (fun t w=>results_none results111 t _ w) ?_|refine bh.mk' [] func112 rfl ntmps112 rfl rfl rfl (fun t w=>results_none results112 t _ w) ?_|refine bh.mk' [] func113 rfl ntmps113 rfl rfl rfl (fun t w=>results_none results113 t _ w) ?_|refine bh.mk' [] func114 rfl ntmps114 rfl rfl rfl (fun t w=>results_none results114 t _ w) ?_|refine bh.mk' [] func115 rfl ntmps115 rfl rfl rfl (fun t w=>results_none results115 t _ w) ?_|refine bh.mk' [] func116 rfl ntmps116 rfl rfl rfl (fun t w=>results_none results116 t _ w) ?_
  subst eN;refine go [] ?_;refine U.loop (ι:=akd d) (fun sx=>[(0,.gs 9000 sx.e.length),(1,.i d.length),(2,.fn (.func (fC (ar d))) [] []),(6,.i 20),(7,.i sx.x),(8,.i ((sx.x:Int)+20))]) (fun sx=>[(9000,.arr (k7 (ar d)) ((sx.e).map (bL (ar d))))]) (fun sx=>d.length-sx.x) ⟨d,0,d.length,rfl,by omega,by omega,rfl⟩ ?_ ?_
  ·exact Le.mk rfl (.cons rfl (Sub.gs (by simp only[cP,c6,cc,cX,cY,cq,cu,dc,c_,eS,fF,fk,fa,fh])) rfl (.cons rfl Sub.aF rfl (.s rfl rfl (.cons rfl Sub.aF rfl (.cons rfl Sub.aF rfl (.cons rfl Sub.aF rfl .nil)))))) (.arr rfl (by rfl) .nil)
  ·rintro⟨e,x,k,hr,hx,hk,my⟩;show U _ _ _ _ [(0,.gs 9000 e.length),(1,.i d.length),(2,.fn (.func (fC (ar d))) [] []),(6,.i 20),(7,.i x),(8,.i ((x:Int)+20))] [(9000,.arr (k7 (ar d)) ((e).map (bL (ar d))))];refine go [] ?_;refine br (fun h1=>?_) (fun h1=>?_)
   ·have a_:=h1;try simp only[bs]at a_
    refine oW (eu (Ni (ar d)) rfl (Q5 e x (x+20) _ _ rfl zO zO zO zO) (.cons rfl rfl .nil) rfl rfl) ?_;refine sd (aW (by first|omega|(have:=of_decide_eq_true hg;omega)|(simp;done)|(simp;omega)) (by first|omega|(have:=of_decide_eq_true hg;omega)|(simp;done)|(simp;omega))) ?_;exact nx ⟨qK (c7 (ar d)) e x (x+20),x+20,k-1,adz hr zO zO,by rw[cq];omega,by rw[cq];omega,by rw[cq];omega⟩ (by(try dsimp only);omega) (Le.mk rfl (.cons rfl (Sub.gs (by simp only[cP,c6,cc,cX,cY,cq,cu,dc,c_,eS,fF,fk,fa,fh])) rfl (.cons rfl Sub.aF rfl (.s rfl rfl (.cons rfl Sub.aF rfl (.cons rfl Sub.aF rfl (.cons rfl Sub.aF rfl .nil)))))) (.arr rfl (by rfl) .nil))
   ·have a_:=h1;try simp only[bs]at a_
    refine go [] ?_;refine oW (eu (Ni (ar d)) rfl (Q5 e x e.length _ _ rfl zO zO zO zO) (.cons rfl rfl .nil) rfl rfl) ?_;refine U.loop (ι:=ake d) (fun sx=>[(0,.gs 9000 sx.e.length),(1,.i d.length),(2,.fn (.func (fC (ar d))) [] []),(6,.i sx.s)]) (fun sx=>[(9000,.arr (k7 (ar d)) ((sx.e).map (bL (ar d))))]) (fun sx=>sx.k) ⟨qK (c7 (ar d)) e x e.length,20,d.length,by rw[ady hr zO];rfl,by omega,by rw[cq];omega,by rw[cq];omega⟩ ?_ ?_
    ·exact Le.mk rfl (.cons rfl (Sub.gs (by simp only[cP,c6,cc,cX,cY,cq,cu,dc,c_,eS,fF,fk,fa,fh])) rfl (.cons rfl Sub.aF rfl (.s rfl rfl (.cons rfl Sub.aF rfl .nil)))) (.arr rfl (by rfl) .nil)
    ·rintro⟨e,s,k,hr,hs,hk,my⟩;show U _ _ _ _ [(0,.gs 9000 e.length),(1,.i d.length),(2,.fn (.func (fC (ar d))) [] []),(6,.i s)] [(9000,.arr (k7 (ar d)) ((e).map (bL (ar d))))];refine go [] ?_;refine br (fun h2=>?_) (fun h2=>?_)
     ·have dO:=h2;try simp only[bs]at dO
      refine sd (aW (by first|omega|(have:=of_decide_eq_true hg;omega)|(simp;done)|(simp;omega)) (by first|omega|(have:=of_decide_eq_true hg;omega)|(simp;done)|(simp;omega))) ?_;refine U.loop (ι:=akf d e s) (fun sx=>[(0,.gs 9000 sx.f.length),(1,.i d.length),(2,.fn (.func (fC (ar d))) [] []),(6,.i s),(7,.i sx.x),(8,.i ((sx.x:Int)+2*(s:Int)))]) (fun sx=>[(9000,.arr (k7 (ar d)) ((sx.f).map (bL (ar d))))]) (fun sx=>e.length-sx.x) ⟨e,0,e.length+1,rfl,by omega,by omega,rfl⟩ ?_ ?_
      ·exact Le.mk rfl (.cons rfl (Sub.gs (by simp only[cP,c6,cc,cX,cY,cq,cu,dc,c_,eS,fF,fk,fa,fh])) rfl (.cons rfl Sub.aF rfl (.s rfl rfl (.cons rfl Sub.aF rfl (.cons rfl Sub.aF rfl (.cons rfl Sub.aF rfl .nil)))))) (.arr rfl (by rfl) .nil)
      ·rintro⟨f,x,k2,jZ,hx,ua,dN⟩;show U _ _ _ _ [(0,.gs 9000 f.length),(1,.i d.length),(2,.fn (.func (fC (ar d))) [] []),(6,.i s),(7,.i x),(8,.i ((x:Int)+2*(s:Int)))] [(9000,.arr (k7 (ar d)) ((f).map (bL (ar d))))];refine go [] ?_;refine br (fun h3=>?_) (fun h3=>?_)
       ·have gU:=h3;try simp only[bs]at gU
        refine sd (aW (by first|omega|(have:=of_decide_eq_true hg;omega)|(simp;done)|(simp;omega)) (by first|omega|(have:=of_decide_eq_true hg;omega)|(simp;done)|(simp;omega))) ?_;refine oW (eu (DR (ar d)) rfl (L6 (2*s) f x (x+s) (x+2*s) _ _ _ rfl zO zO zO zO zO zO zO) (.cons rfl rfl .nil) rfl rfl) ?_;refine sd (aW (by first|omega|(have:=of_decide_eq_true hg;omega)|(simp;done)|(simp;omega)) (by first|omega|(have:=of_decide_eq_true hg;omega)|(simp;done)|(simp;omega))) ?_;refine sd (aW (by first|omega|(have:=of_decide_eq_true hg;omega)|(simp;done)|(simp;omega)) (by first|omega|(have:=of_decide_eq_true hg;omega)|(simp;done)|(simp;omega))) ?_;exact nx ⟨jE (c7 (ar d)) (2*s) f x (x+s) (x+2*s),x+2*s,k2-1,ahs jZ zO zO,by rw[cc];omega,by rw[cc];omega,by rw[cc];omega⟩ (by(try dsimp only);omega) (Le.mk rfl (.cons rfl (Sub.gs (by simp only[cP,c6,cc,cX,cY,cq,cu,dc,c_,eS,fF,fk,fa,fh])) rfl (.cons rfl Sub.aF rfl (.s rfl rfl (.cons rfl Sub.aF rfl (.cons rfl Sub.aF rfl (.cons rfl Sub.aF rfl .nil)))))) (.arr rfl (by rfl) .nil))
       ·have gU:=h3;try simp only[bs]at gU
        refine go [] ?_;refine sd (aW (by first|omega|(have:=of_decide_eq_true hg;omega)|(simp;done)|(simp;omega)) (by first|omega|(have:=of_decide_eq_true hg;omega)|(simp;done)|(simp;omega))) ?_;refine br (fun h4=>?_) (fun h4=>?_)
        ·have il:=h4;try simp only[bs]at il
         refine oW (eu (DR (ar d)) rfl (L6 (2*s) f x (x+s) f.length _ _ _ rfl zO zO zO zO zO zO zO) (.cons rfl rfl .nil) rfl rfl) ?_;refine sd (aW (by first|omega|(have:=of_decide_eq_true hg;omega)|(simp;done)|(simp;omega)) (by first|omega|(have:=of_decide_eq_true hg;omega)|(simp;done)|(simp;omega))) ?_;refine U.nil (dx ?_);exact⟨⟨jE (c7 (ar d)) (2*s) f x (x+s) f.length,2*s,k-1,by rw[ahq jZ zO zO zO];exact PT hr zO zO,by omega,by rw[cc];omega,by rw[cc];omega⟩,by(try dsimp only);omega,Le.mk rfl (.cons rfl (Sub.gs (by simp only[cP,c6,cc,cX,cY,cq,cu,dc,c_,eS,fF,fk,fa,fh])) rfl (.cons rfl Sub.aF rfl (.s rfl rfl (.cons rfl Sub.aF rfl .nil)))) (.arr rfl (by rfl) .nil)⟩
        ·have il:=h4;try simp only[bs]at il
         refine sd (aW (by first|omega|(have:=of_decide_eq_true hg;omega)|(simp;done)|(simp;omega)) (by first|omega|(have:=of_decide_eq_true hg;omega)|(simp;done)|(simp;omega))) ?_;refine U.nil (dx ?_);exact⟨⟨f,2*s,k-1,by rw[ahr jZ zO zO zO];exact PT hr zO zO,by omega,by skip;omega,by skip;omega⟩,by(try dsimp only);omega,Le.mk rfl (.cons rfl (Sub.gs (by simp only[cP,c6,cc,cX,cY,cq,cu,dc,c_,eS,fF,fk,fa,fh])) rfl (.cons rfl Sub.aF rfl (.s rfl rfl (.cons rfl Sub.aF rfl .nil)))) (.arr rfl (by rfl) .nil)⟩
     ·have dO:=h2;try simp only[bs]at dO
      refine U.nil ?_;exact tn (Sub.refl _) (.eq rfl (by exact congrArg (fun l=>Ob.arr (k7 (ar d)) (List.map (bL (ar d)) l)) (aci hr zO)) rfl .nil))
theorem yu{t:K7}(d:List (El t))(hl:d.length≤1000000):bh Tryz.prog (fS t) [.gs 9000 d.length,.fn (.func (fC t)) [] []] [(9000,.arr (k7 t) ((d).map (bL t)))] (.bl []) [(9000,.arr (k7 t) ((sorted (c7 t) d).map (bL t)))]:=by
 cases t<;>(
  first|refine bh.mk' [] func74 rfl ntmps74 rfl rfl rfl (fun t w=>results_none results74 t _ w) ?_|refine bh.mk' [] func77 rfl ntmps77 rfl rfl rfl (fun t w=>results_none results77 t _ w) ?_|refine bh.mk' [] func78 rfl ntmps78 rfl rfl rfl (fun t w=>results_none results78 t _ w) ?_|refine bh.mk' [] func80 rfl ntmps80 rfl rfl rfl (fun t w=>results_none results80 t _ w) ?_|refine bh.mk' [] func81 rfl ntmps81 rfl rfl rfl (fun t w=>results_none results81 t _ w) ?_|refine bh.mk' [] func82 rfl ntmps82 rfl rfl rfl (fun t w=>results_none results82 t _ w) ?_|refine bh.mk' [] func83 rfl ntmps83 rfl rfl rfl (fun t w=>results_none results83 t _ w) ?_
  refine go [] ?_;refine oW (eu (Xt (ar d)) rfl (akc d _ rfl hl) (.cons rfl rfl .nil) rfl rfl) ?_;exact tn (Sub.refl _) (.eq rfl (by exact congrArg (fun l=>Ob.arr (k7 (ar d)) (List.map (bL (ar d)) l)) (akg (YA (ar d)) d)) rfl .nil))
theorem aj'(d:List bj)(hl:d.length≤1000000):bh Tryz.prog 74 [.gs 9000 d.length,.fn (.func 28) [] []] [(9000,.arr 2 (d.map bU))] (.bl []) [(9000,.arr 2 ((sorted fw d).map bU))]:=yu (t:=.mo) d hl
theorem aj_(d:List jR)(hl:d.length≤1000000):bh Tryz.prog 77 [.gs 9000 d.length,.fn (.func 33) [] []] [(9000,.arr 7 (d.map iA))] (.bl []) [(9000,.arr 7 ((sorted gA d).map iA))]:=yu (t:=.lo) d hl
theorem aj9(d:List jF)(hl:d.length≤1000000):bh Tryz.prog 78 [.gs 9000 d.length,.fn (.func 36) [] []] [(9000,.arr 10 (d.map gX))] (.bl []) [(9000,.arr 10 ((sorted gp d).map gX))]:=yu (t:=.ga) d hl
theorem akb(d:List jT)(hl:d.length≤1000000):bh Tryz.prog 80 [.gs 9000 d.length,.fn (.func 41) [] []] [(9000,.arr 6 (d.map iC))] (.bl []) [(9000,.arr 6 ((sorted gD d).map iC))]:=yu (t:=.st) d hl
theorem aj7(d:List jw)(hl:d.length≤1000000):bh Tryz.prog 81 [.gs 9000 d.length,.fn (.func 44) [] []] [(9000,.arr 7 (d.map ei))] (.bl []) [(9000,.arr 7 ((sorted gn d).map ei))]:=yu (t:=.ef) d hl
theorem aka(d:List jS)(hl:d.length≤1000000):bh Tryz.prog 82 [.gs 9000 d.length,.fn (.func 47) [] []] [(9000,.arr 2 (d.map iB))] (.bl []) [(9000,.arr 2 ((sorted gC d).map iB))]:=yu (t:=.re) d hl
theorem aj8(d:List j6)(hl:d.length≤1000000):bh Tryz.prog 83 [.gs 9000 d.length,.fn (.func 50) [] []] [(9000,.arr 3 (d.map hZ))] (.bl []) [(9000,.arr 3 ((sorted gz d).map hZ))]:=yu (t:=.en) d hl
end Go.T
