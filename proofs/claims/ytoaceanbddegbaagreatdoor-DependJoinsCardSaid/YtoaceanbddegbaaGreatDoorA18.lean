/-
  Contracts of the functions that the statement reaches, and the logic in which they are proved (no condition): parts SpecJ3, W150, SpecR4, W158, W159, SpecJ4, SpecJ5, SpecJ6, SpecJ7, Core66.
-/
import Derived.Test.YtoaceanbddegbaaGreatDoorA17
import Derived.Laws.Entries
set_option linter.all false
namespace Go.T
open Go
def cI(a b:Int):Int:=if a<b then -1 else if b<a then 1 else 0
def fw(x y:bj):Int:=dm x.cur y.cur
def gA(x y:jR):Int:=dm x.ie y.ie
def gp(x y:jF):Int:=if cI x.closed y.closed≠0 then cI x.closed y.closed else dm x.fe y.fe
def gD(x y:jT):Int:=dm x.fe y.fe
def gn(x y:jw):Int:=if cI x.day y.day≠0 then cI x.day y.day else dm x.fe y.fe
def gC(x y:jS):Int:=dm x.key y.key
theorem NK:hG fw:=tG.on bj.cur
theorem NJ:hG gA:=tG.on jR.ie
theorem NI:hG gp:=(HE.on jF.closed).lex (tG.on jF.fe)
theorem NM:hG gD:=tG.on jT.fe
theorem NF:hG gn:=(HE.on jw.day).lex (tG.on jw.fe)
theorem NL:hG gC:=tG.on jS.key
theorem NH:hG jJ:=by
 have h1:hG fun a b:dM=>if me a b≠0 then me a b else kl a.fq b.fq:=by
  have e:(fun a b:dM=>kl a.fq b.fq)=fun a b=>jf (val a.fq-val b.fq):=by funext a b;exact Tl _ _
  have k:hG me:=(tG.on dM.mT).lex (tG.on dM.oV);exact k.lex (e▸YC.on dM.fq)
 have e:∀a b,mZ a b=qi (fun a b:dM=>if me a b≠0 then me a b else kl a.fq b.fq) a b:=fun a=>by
  induction a with
  |nil=>intro b;cases b<;>rfl
  |cons x a ih=>
   intro b;cases b with
   |nil=>rfl
   |cons y b=>
    simp only[mZ,qi,ih b];by_cases c:me x y=0
    ·simp[c]
    ·simp[c]
 have h2:hG mZ:=by
  have:mZ=qi (fun a b:dM=>if me a b≠0 then me a b else kl a.fq b.fq):=by funext a b;exact e a b
  rw[this];exact YB h1
 have h3:=(HE.on Entry.day).lex ((tG.on Entry.fe).lex (h2.on Entry.lines));have:jJ=fun x y=>if(if x.day<y.day then -1 else if y.day<x.day then 1 else 0:Int)≠0 then(if x.day<y.day then -1 else if y.day<x.day then 1 else 0)else if dm x.fe y.fe≠0 then dm x.fe y.fe else mZ x.lines y.lines:=by
  funext x y
  unfold jJ;rcases Int.lt_trichotomy x.day y.day with g|g|g
  ·simp[g];omega
  ·simp[g]
  ·have h1:¬x.day<y.day:=by omega
   simp[g,h1];omega
 rw[this];exact h3
abbrev j6:={e:Entry//∀l∈e.lines,l.fq.length≤20}
instance:Inhabited j6:=⟨⟨⟨0,[],[]⟩,by simp⟩⟩
@[reducible] def hZ(x:j6):List D:=kC x.1
def gz(x y:j6):Int:=jJ x.1 y.1
theorem NG:hG gz:=NH.on Subtype.val
def oO(m:bj):List bj→List bj
 |[]=>if m.cV=[]then[]else[m]
 |x::l=>if x.cur=m.cur then oO ⟨m.cur,ma m.cV x.cV⟩ l else(if m.cV=[]then[]else[m])++oO x l
def lM:List bj→List bj
 |[]=>[]
 |m::l=>oO m l
theorem akC{m x:bj}{l:List bj}(h:x.cur=m.cur):oO m (x::l)=oO ⟨m.cur,ma m.cV x.cV⟩ l:=by rw[oO,if_pos h]
theorem Vl{m:bj}{l:List bj}(h:∀x r,l=x::r→x.cur≠m.cur):oO m l=(if m.cV=[]then[]else[m])++lM l:=by
 cases l with
 |nil=>simp[oO,lM]
 |cons x l=>rw[oO,if_neg (h x l rfl)];rfl
def jy(pre:List bj):List bj→Int
 |[]=>0
 |m::ms=>if ig m.cur=false then 23 else if rj m.cV≠0 then 1 else if m.cV=[]then 11 else if 0<pre.length∧ae.lt (pre.getLastD default).cur m.cur=false then 8 else jy (pre++[m]) ms
def jW(l:List bj):Int:=if 16<l.length then 4 else jy [] l
@[reducible] def ew(l:List bj):D:=.snap 2 false (l.map bU)
theorem Nx{pre l rest:List bj}{x:bj}(hp:jy [] l=jy pre (x::rest))(h0:l.length≤16)(h:ig x.cur=false):jW l=23:=by rw[jW,if_neg zO,hp,jy,if_pos h]
theorem Ny{pre l rest:List bj}{x:bj}(hp:jy [] l=jy pre (x::rest))(h0:l.length≤16)(h:ig x.cur=true)(h2:rj x.cV≠0):jW l=1:=by rw[jW,if_neg zO,hp,jy,if_neg (by rw[h];decide),if_pos h2]
theorem Nz{pre l rest:List bj}{x:bj}(hp:jy [] l=jy pre (x::rest))(h0:l.length≤16)(h:ig x.cur=true)(h2:¬rj x.cV≠0)(h3:x.cV=[]):jW l=11:=by rw[jW,if_neg zO,hp,jy,if_neg (by rw[h];decide),if_neg h2,if_pos h3]
theorem NA{pre l rest:List bj}{x:bj}(hp:jy [] l=jy pre (x::rest))(h0:l.length≤16)(h:ig x.cur=true)(h2:¬rj x.cV≠0)(h3:¬x.cV=[])(h4:0<pre.length∧ae.lt (pre.getLastD default).cur x.cur=false):jW l=8:=by rw[jW,if_neg zO,hp,jy,if_neg (by rw[h];decide),if_neg h2,if_neg h3,if_pos h4]
theorem NB{pre l rest:List bj}{x:bj}(hp:jy [] l=jy pre (x::rest))(h:ig x.cur=true)(h2:¬rj x.cV≠0)(h3:¬x.cV=[])(h4:¬(0<pre.length∧ae.lt (pre.getLastD default).cur x.cur=false)):jy [] l=jy (pre++[x]) rest:=by rw[hp,jy,if_neg (by rw[h];decide),if_neg h2,if_neg h3,if_neg h4]
theorem NC{pre l:List bj}(hp:jy [] l=jy pre [])(h0:l.length≤16):jW l=0:=by rw[jW,if_neg zO,hp];rfl
theorem ND{l:List bj}(h0:16<l.length):jW l=4:=by rw[jW,if_pos h0]
structure ah where
 bX:List jR
 bH:List bj
 b_:List jF
 steps:List jT
 cr:List jw
 cJ:List jS
 entries:List j6
 deriving Inhabited
def B6(l:List ah):ah where
 bX:=sorted gA (l.flatMap ah.bX)
 bH:=lM (sorted fw (l.flatMap ah.bH))
 b_:=sorted gp (l.flatMap ah.b_)
 steps:=sorted gD (l.flatMap ah.steps)
 cr:=sorted gn (l.flatMap ah.cr)
 cJ:=sorted gC (l.flatMap ah.cJ)
 entries:=sorted gz (l.flatMap ah.entries)
theorem uT{α:Type}(c:α→α→Int)(l:List α):(sorted c l).length=l.length:=rP l
theorem aj4{α:Type}{c:α→α→Int}{l:List α}{x:α}:x∈sorted c l↔x∈l:=(List.mergeSort_perm l _).mem_iff
@[reducible] def fU(l:List jR):D:=.snap 7 false (l.map iA)
@[reducible] def fQ(l:List jF):D:=.snap 10 false (l.map gX)
@[reducible] def fX(l:List jT):D:=.snap 6 false (l.map iC)
@[reducible] def fD(l:List jw):D:=.snap 7 false (l.map ei)
@[reducible] def fV(l:List jS):D:=.snap 2 false (l.map iB)
@[reducible] def je(l:List j6):D:=.snap 3 false (l.map hZ)
@[reducible] def gM(b:ah):List D:=[fU b.bX,ew b.bH,fQ b.b_,fX b.steps,fD b.cr,fV b.cJ,je b.entries]
@[reducible] def cj(l:List ah):D:=.snap 7 false (l.map gM)
def Ef:ah:=⟨[],[],[],[],[],[],[]⟩
def sW(l:List ah):ah×Int:=if l.any (fun b=>decide (jW b.bH≠0))=true then(Ef,1)else if 16<(B6 l).bH.length then(Ef,4)else(B6 l,0)
open Go.Proofs Go.Proofs.Tryz
set_option maxRecDepth 20000
structure Yp(a b:List dM)where
 pre:List dM
 rest:List dM
 py:List dM
 ry:List dM
 hx:a=pre++rest
 hy:b=py++ry
 he:py.length=pre.length
 hp:rl rest ry=rl a b
theorem Yo(a b:List dM)(ha:∀l∈a,l.fq.length≤20)(hb:∀l∈b,l.fq.length≤20):Fc Tryz.prog 84 [pz a,pz b,.fn (.func 85) [] []] (.i (rl a b)):=by
 refine Fc.mk' [6] func84 rfl ntmps84 rfl rfl rfl (fun t w=>results_tmp results84 t _ w) ?_;refine U.ec 0 rfl (fun hba=>?_);simp only[List.length_map,aH]at hba;refine U.ec 1 rfl (fun qy=>?_);simp only[List.length_map,aH]at qy;refine go [] ?_;refine U.loop (ι:=Yp a b) (fun sx=>[(0,pz a),(1,pz b),(2,.fn (.func 85) [] []),(11,pz a),(12,.i a.length),(13,.i sx.pre.length)]) (fun sx=>[]) (fun sx=>sx.rest.length) ⟨[],a,[],b,rfl,rfl,rfl,rfl⟩ ?_ ?_
 ·exact Le.mk rfl (.s rfl rfl (.s rfl rfl (.s rfl rfl (.s rfl rfl (.cons rfl (Sub.int zS) rfl (.s rfl rfl .nil)))))) .nil
 ·rintro⟨pre,rest,py,ry,hx,hy,he,hp⟩;show U _ _ _ _ [(0,pz a),(1,pz b),(2,.fn (.func 85) [] []),(11,pz a),(12,.i a.length),(13,.i pre.length)] [];have hl:=congrArg List.length hx;have bW:=congrArg List.length hy;simp only[List.length_append]at hl bW;rcases rest with _|⟨x,rest⟩<;>rcases ry with _|⟨z,ry⟩
  ·simp only[List.length_cons,List.length_nil]at hl bW;refine go [] ?_;refine aQ zQ ?_;refine go [] ?_;refine aQ zQ ?_;exact an rfl (Sub.int (by rw[←hp];rfl))
  ·simp only[List.length_cons,List.length_nil]at hl bW;refine go [] ?_;refine aQ zQ ?_;refine go [] ?_;refine bM zQ ?_;exact an rfl (Sub.int (by rw[←hp];rfl))
  ·simp only[List.length_cons,List.length_nil]at hl bW;refine go [] ?_;refine bM zQ ?_;refine ix zO (bb iZ hx rfl) ?_;refine bM zQ ?_;exact an rfl (Sub.int (by rw[←hp];rfl))
  ·simp only[List.length_cons,List.length_nil]at hl bW;refine go [] ?_;refine bM zQ ?_;refine ix zO (bb iZ hx rfl) ?_;refine aQ zQ ?_;refine ix zO (bb iZ hy zO) ?_;refine oP (cR call85 rfl rfl (Ym _ _ (by have:=ha x (by rw[hx];simp);omega) (by have:=hb z (by rw[hy];simp);omega))) ?_;refine br (fun h1=>?_) (fun h1=>?_)
   ·have a_:=h1;try simp only[bs]at a_
    exact an rfl (Sub.int (by rw[←hp];(simp only[rl];rw[if_pos zO])))
   ·have a_:=h1;try simp only[bs]at a_
    refine sd (aB zO) ?_;exact nx ⟨pre++[x],rest,py++[z],ry,by simp[hx],by simp[hy],by simp[he],by rw[←hp];simp only[rl];rw[if_neg zO]⟩ zS (Le.mk rfl (.s rfl rfl (.s rfl rfl (.s rfl rfl (.s rfl rfl (.s rfl rfl (.cons rfl (Sub.int zS) rfl .nil)))))) .nil)
theorem Yg(a b:Entry)(ha:∀l∈a.lines,l.fq.length≤20)(hb:∀l∈b.lines,l.fq.length≤20):Fc Tryz.prog 50 [.agg (kC a),.agg (kC b)] (.i (HA a b)):=by
 refine Fc.mk' [4] func50 rfl ntmps50 rfl rfl rfl (fun t w=>results_tmp results50 t _ w) ?_;refine go [] ?_;refine oP (aj call38 rfl (Hz _ _)) ?_;refine oP (aj call29 rfl (sh _ _)) ?_;refine oP (aj call84 rfl (Yo _ _ ha hb)) ?_;refine oP (cm (n:=3) (rows:=[tF a.day b.day,dm a.fe b.fe,rl a.lines b.lines].map fun n=>[.i n]) underlying67 sizeOf3 rfl rfl rfl zeroValue3 rfl rfl rfl rfl rfl rfl rfl) ?_;refine oP (aj call37 rfl (CJ [tF a.day b.day,dm a.fe b.fe,rl a.lines b.lines])) ?_;refine ord ?_;exact an rfl (Sub.refl _)
theorem Yu(x y:bj):Fc Tryz.prog 28 [.agg (bU x),.agg (bU y)] (.i (fw x y)):=by
 refine Fc.mk' [4] func28 rfl ntmps28 rfl rfl rfl (fun t w=>results_tmp results28 t _ w) ?_;refine go [] ?_;refine oP (aj call29 rfl (sh _ _)) ?_;exact an rfl (Sub.refl _)
theorem Yn(x y:jR):Fc Tryz.prog 33 [.agg (iA x),.agg (iA y)] (.i (gA x y)):=by
 refine Fc.mk' [4] func33 rfl ntmps33 rfl rfl rfl (fun t w=>results_tmp results33 t _ w) ?_;refine go [] ?_;refine oP (aj call29 rfl (sh _ _)) ?_;exact an rfl (Sub.refl _)
theorem Yh(x y:jF):Fc Tryz.prog 36 [.agg (gX x),.agg (gX y)] (.i (gp x y)):=by
 refine Fc.mk' [4] func36 rfl ntmps36 rfl rfl rfl (fun t w=>results_tmp results36 t _ w) ?_;refine go [] ?_;refine oP (aj call38 rfl (Hz _ _)) ?_;refine oP (aj call29 rfl (sh _ _)) ?_;refine oP (cm (n:=2) (rows:=[cI x.closed y.closed,dm x.fe y.fe].map fun n=>[.i n]) underlying67 sizeOf3 rfl rfl rfl zeroValue3 rfl rfl rfl rfl rfl rfl rfl) ?_;refine oP (aj call37 rfl (CJ [cI x.closed y.closed,dm x.fe y.fe])) ?_;refine ord ?_;exact an rfl (Sub.int (by simp only[lZ,gp];split<;>first|rfl|(split<;>simp_all)))
theorem Yw(x y:jT):Fc Tryz.prog 41 [.agg (iC x),.agg (iC y)] (.i (gD x y)):=by
 refine Fc.mk' [4] func41 rfl ntmps41 rfl rfl rfl (fun t w=>results_tmp results41 t _ w) ?_;refine go [] ?_;refine oP (aj call29 rfl (sh _ _)) ?_;exact an rfl (Sub.refl _)
theorem Ye(x y:jw):Fc Tryz.prog 44 [.agg (ei x),.agg (ei y)] (.i (gn x y)):=by
 refine Fc.mk' [4] func44 rfl ntmps44 rfl rfl rfl (fun t w=>results_tmp results44 t _ w) ?_;refine go [] ?_;refine oP (aj call38 rfl (Hz _ _)) ?_;refine oP (aj call29 rfl (sh _ _)) ?_;refine oP (cm (n:=2) (rows:=[cI x.day y.day,dm x.fe y.fe].map fun n=>[.i n]) underlying67 sizeOf3 rfl rfl rfl zeroValue3 rfl rfl rfl rfl rfl rfl rfl) ?_;refine oP (aj call37 rfl (CJ [cI x.day y.day,dm x.fe y.fe])) ?_;refine ord ?_;exact an rfl (Sub.int (by simp only[lZ,gn];split<;>first|rfl|(split<;>simp_all)))
theorem Yv(x y:jS):Fc Tryz.prog 47 [.agg (iB x),.agg (iB y)] (.i (gC x y)):=by
 refine Fc.mk' [4] func47 rfl ntmps47 rfl rfl rfl (fun t w=>results_tmp results47 t _ w) ?_;refine go [] ?_;refine oP (aj call29 rfl (sh _ _)) ?_;exact an rfl (Sub.refl _)
theorem Yb(a b:Int):tF a b=if a≠b then(if a<b then -1 else 1)else 0:=by unfold tF;grind
theorem Yl(a b:dM):Bc a b=if me a b≠0 then me a b else kl a.fq b.fq:=by
 unfold Bc;rw[aha,←Tl];simp only[lZ];split
 ·rfl
 ·split
  ·rfl
  ·rename_i h;simp at h;exact h.symm
theorem Nt:∀a b:List dM,rl a b=mZ a b
 |[],[]=>rfl
 |[],_::_=>rfl
 |_::_,[]=>rfl
 |x::a,y::b=>by
  simp only[rl,mZ,Nt a b,Yl];grind
theorem Yf:HA=jJ:=by
 funext a b
 unfold HA jJ;rw[Yb,Nt];simp only[lZ];grind
theorem Yj(x y:j6):Fc Tryz.prog 50 [.agg (hZ x),.agg (hZ y)] (.i (gz x y)):=by
 have:=Yg x.1 y.1 x.2 y.2;rwa[Yf]at this
end Go.T
namespace Go.T
open Go
def uQ(s:ae):Bool:=decide ((digits s).1.length≤17)
def oL(s:ae):Int:=if(digits s).1.length≤17 then val s else 0
theorem U3{s:ae}(h:uQ s=true):oL s=val s:=by
 unfold uQ at h;unfold oL;rw[if_pos (of_decide_eq_true h)]
theorem U2{s:ae}(h:uQ s=true):-100000000000000000<val s∧val s<100000000000000000:=by
 unfold uQ at h;have h:=of_decide_eq_true h;have h1:=s8 (digits s).1 (pM s);have h3:10^(digits s).1.length≤10^17:=Nat.pow_le_pow_right zO h;unfold val;split<;>omega
open Go.Proofs Go.Proofs.Tryz
set_option maxRecDepth 20000
theorem ajS(s:ae)(hs:17<(digits s).1.length):Fc Tryz.prog 124 [.str s] (.bl [.i 0,.b false]):=by
 refine Fc.mk' [2,3] func124 rfl ntmps124 rfl rfl rfl (fun t w=>results_tmp2 results124 t _ w) ?_;refine U.qh 0 rfl (fun hb=>?_);simp only[aH]at hb;refine go [] ?_;refine oP (aj call176 rfl (yV _)) ?_;refine bM zQ ?_;exact p9 rfl rfl (Sub.refl _) (Sub.refl _)
theorem U4(s:ae):Fc Tryz.prog 124 [.str s] (.bl [.i (oL s),.b (uQ s)]):=by
 by_cases h:(digits s).1.length≤17
 ·have:=ajQ s h;simpa[oL,uQ,h]using this
 ·have:=ajS s zO;simpa[oL,uQ,h]using this
theorem Oe(l:List Nat)(i:Nat):ao (l.drop i)=nth l i+gB*ao (l.drop (i+1)):=by
 rcases Nat.lt_or_ge i l.length with h|h
 ·have e:l.drop i=l[i]::l.drop (i+1):=List.drop_eq_getElem_cons h;have e2:nth l i=l[i]:=by simp[nth,h]
  rw[e,ao,e2]
 ·rw[CA h,List.drop_eq_nil_of_le h,List.drop_eq_nil_of_le zO];simp[ao]
theorem ahR{out A B:List Nat}{i c S:Nat}(hi:out.length=i)(hv:ao out+gB^i*(c+ao (A.drop i)+ao (B.drop i))=S):
  ao (out++[(nth A i+nth B i+c)%gB])+gB^(i+1)*((nth A i+nth B i+c)/gB+ao (A.drop (i+1))+ao (B.drop (i+1)))=S:=by
 rw[xT,hi,←hv,Oe A i,Oe B i,Nat.pow_succ];have h:=Nat.mod_add_div (nth A i+nth B i+c) gB;generalize (nth A i+nth B i+c)%gB=u at h⊢;generalize (nth A i+nth B i+c)/gB=v at h⊢;generalize ao (A.drop (i+1))=x at h⊢;generalize ao (B.drop (i+1))=y at h⊢;generalize gB^i=g;have e:c+(nth A i+gB*x)+(nth B i+gB*y)=u+gB*(v+x+y):=by rw[Nat.mul_add,Nat.mul_add];omega
 have e2:g*(u+gB*(v+x+y))=u*g+g*gB*(v+x+y):=by
  generalize v+x+y=z;rw[Nat.mul_add,Nat.mul_assoc,Nat.mul_comm u g]
 rw[e,e2,Nat.add_assoc]
theorem CT{A B:List Nat}{i c:Nat}(hA:aU A)(hB:aU B)(hc:c≤1):(nth A i+nth B i+c)/gB≤1∧nth A i+nth B i+c<9223372036854775808:=by
 have h1:=fP hA i;have h2:=fP hB i;refine⟨?_,by unfold gB at*;omega⟩;rw[Nat.div_le_iff_le_mul_add_pred ee];unfold gB at*;omega
theorem ahQ{out:List Nat}{v:Nat}(ho:aU out):aU (out++[v%gB]):=fun y hy=>by
 rcases List.mem_append.1 hy with h|h
 ·exact ho y h
 ·obtain rfl:y=v%gB:=by simpa using h
  exact Nat.mod_lt _ ee
theorem ahP{la lb i c c2:Nat}(h:i<la∨i<lb∨0<c)(h2:c2≤1)(h3:la≤i→lb≤i→c2=0):2*(la+lb-(i+1))+c2<2*(la+lb-i)+c:=by omega
theorem ahO{la lb i c c2:Nat}(h:i<la∨i<lb∨0<c)(h2:i≤la+lb∨(i≤la+lb+1∧c=0))(h3:la≤i→lb≤i→c2=0):i+1≤la+lb∨(i+1≤la+lb+1∧c2=0):=by
 by_cases k1:la≤i
 ·by_cases k2:lb≤i
  ·have:=h3 k1 k2;omega
  ·omega
 ·omega
theorem T2{A B:List Nat}{i c:Nat}(hc:c≤1)(h1:A.length≤i)(h2:B.length≤i):(nth A i+nth B i+c)/gB=0:=by
 rw[CA h1,CA h2];exact Nat.div_eq_of_lt (by unfold gB;omega)
theorem ahN{out A B:List Nat}{i c S:Nat}(ho:aU out)(hv:ao out+gB^i*(c+ao (A.drop i)+ao (B.drop i))=S)(h1:A.length≤i)(h2:B.length≤i)(h3:c=0):bp out=ak S:=by
 subst h3;rw[List.drop_eq_nil_of_le h1,List.drop_eq_nil_of_le h2]at hv;rw[tJ ho,←hv];simp[ao]
structure ahM(A B:Nat)where
 i:Nat
 c:Nat
 out:List Nat
 hi:out.length=i
 hc:c≤1
 ho:aU out
 nz:i≤(ak A).length+(ak B).length∨(i≤(ak A).length+(ak B).length+1∧c=0)
 hv:ao out+gB^i*(c+ao ((ak A).drop i)+ao ((ak B).drop i))=A+B
theorem ahL(A B:Nat)(hA:(ak A).length≤20000)(hB:(ak B).length≤20000):Fc Tryz.prog 177 [sI (ak A),sI (ak B)] (sI (ak (A+B))):=by
 refine Fc.mk' [4] func177 rfl ntmps177 rfl rfl rfl (fun t w=>results_tmp results177 t _ w) ?_;refine U.seq (U.cH [.p] ?_);refine .ag rfl rfl<|.nil ?_;refine U.seq (U.cH [.p,.p] ?_);refine .P rfl (rR underlying67 sizeOf3)<|.ag rfl rfl<|.nil ?_;refine U.seq (U.cH [.p] ?_);refine .ag rfl rfl<|.nil ?_;refine U.seq (U.seq (U.cH [.p] ?_));refine .ag rfl rfl<|.nil ?_;refine U.block ?_;refine U.loop (ι:=ahM A B) (fun sx=>[(0,sI (ak A)),(1,sI (ak B)),(5,.gs 0 sx.out.length),(6,.i (sx.c:Int)),(7,.i (sx.i:Int))]) (fun sx=>[(0,.arr 1 (encI sx.out))]) (fun sx=>2*((ak A).length+(ak B).length-sx.i)+sx.c) ⟨0,0,[],rfl,by omega,(fun _ h=>by cases h),by omega,by simp[ao,gI]⟩ ?_ ?_
 ·exact(Le.ij 0 1).trans<|Le.mk rfl (.s rfl rfl (.s rfl rfl (.cons rfl (Sub.sw _ _) rfl (.s rfl rfl (.s rfl rfl .nil))))) (.arr rfl (by rfl) .nil)
 ·rintro⟨i,c,out,hi,hc,ho,nz,hv⟩;show U _ _ _ _ [(0,sI (ak A)),(1,sI (ak B)),(5,.gs 0 out.length),(6,.i (c:Int)),(7,.i (i:Int))] [(0,.arr 1 (encI out))];refine U.seq (U.seq (U.cH [.p,.p,.p,.p,.p,.p,.p,.p,.p,.p,.p,.p,.p,.p] ?_));refine .mv rfl rfl<|.mv rfl rfl<|.P rfl (cC underlying67 rfl)<|.P rfl (bY rfl rfl)<|.mv rfl rfl<|.gF rfl (.inl rfl) rfl rfl rfl (fun hg=>pk (fun _=>bG rfl _))<|.gF rfl (.inl rfl) rfl rfl rfl (fun hg=>pk (fun _=>bG rfl _))<|.gF rfl (.inl rfl) rfl rfl rfl (fun hg=>pk (fun _=>cC underlying67 (bI rfl (nt hg)) _))<|.gF rfl (.inl rfl) rfl rfl rfl (fun hg=>pk (fun _=>bY (bI rfl (nt hg)) (bI rfl (nt hg)) _))<|.P rfl (rT rfl rfl)<|.mv rfl rfl<|.gF rfl (.inl rfl) rfl rfl rfl (fun hg=>pk (fun _=>bG rfl _))<|.gF rfl (.inl rfl) rfl rfl rfl (fun hg=>pk (fun _=>ju (bI rfl (nt hg)) rfl _))<|.P rfl (rT rfl rfl)<|.nil ?_;refine U.cond rfl (fun h1=>?_) (fun h1=>?_)
  ·refine U.skip ?_;refine U.seq ?_;refine U.block ?_;refine U.seq (U.cH [.p,.p,.p,.p,.p,.p,.p,.p,.p,.p] ?_);refine .mv rfl rfl<|.mv rfl rfl<|.P rfl (aj call219 rfl (IE _ _))<|.mv rfl rfl<|.mv rfl rfl<|.P rfl (aj call219 rfl (IE _ _))<|.P rfl (cn rfl rfl (ME (by have:=(CT (i:=i) (ek A) (ek B) hc).2;omega)))<|.mv rfl rfl<|.P rfl (cn rfl rfl (ME (CT (i:=i) (ek A) (ek B) hc).2))<|.ag rfl rfl<|.nil ?_;refine U.seq (U.cH [.p,.p,.p,.p,.w,.p] ?_);refine .mv rfl rfl<|.mv rfl rfl<|.P rfl (qW rfl rfl zD (uL _))<|.P rfl (F4 underlying67 sizeOf3 zeroValue3 rfl rfl rfl rfl rfl)<|.W rfl (dJ 1 underlying67 underlying67 sizeOf3 typeInfo3 zeroValue3 rfl (bt:=8) rfl rfl rfl rfl zS rfl rfl zQ)<|.ag rfl rfl<|.nil ?_;refine U.cH [.p,.p,.p] ?_;refine .mv rfl rfl<|.P rfl (oJ rfl rfl zD (aiL (CT (i:=i) (ek A) (ek B) hc).2))<|.ag rfl rfl<|.nil ?_;refine U.nil (dv ?_);refine U.cH [.p,.p,.p] ?_;refine .mv rfl rfl<|.P rfl (cn rfl rfl (aB zO))<|.ag rfl rfl<|.nil ?_;refine U.nil (dx ?_);exact⟨⟨i+1,(nth (ak A) i+nth (ak B) i+c)/gB,out++[(nth (ak A) i+nth (ak B) i+c)%gB],by simp[hi],(CT (i:=i) (ek A) (ek B) hc).1,ahQ ho,ahO (by simp at*;omega) nz (fun k1 k2=>T2 hc k1 k2),ahR hi hv⟩,by exact ahP (by simp at*;omega) (CT (i:=i) (ek A) (ek B) hc).1 (fun k1 k2=>T2 hc k1 k2),(Le.mk (ai:=[(1,_)]) rfl (show du _ _ [(0,_),(1,_),(5,_),(6,_),(7,_)]from(.s rfl rfl (.s rfl rfl (.s rfl rfl (.s rfl rfl (.s rfl rfl .nil)))))) (.cons (i:=1) rfl rfl .nil)).trans<|(Le.j4 5 1 0 rfl rfl zS rfl).trans<|Le.mk rfl (.s rfl rfl (.s rfl rfl (.cons rfl (Sub.gs zS) rfl (.s rfl rfl (.s rfl rfl .nil))))) (.arr rfl (by simp[encI]) .nil)⟩
  ·refine U.exit (fc (eY ?_));refine U.bC (Le.freeze 5 0 rfl rfl zS) ?_;refine U.seq (U.cH [.p,.p,.p] ?_);refine .mv rfl rfl<|.P rfl (aj call220 rfl (VJ _))<|.ag rfl rfl<|.nil ?_;refine U.ret (?_);exact bS rfl (Sub.snap (by rw[ahN ho hv (by simp at*;omega) (by simp at*;omega) (by simp at*;omega)]))
def nX(x y:Int):Bool×Nat:=if decide (x<0)==decide (y<0)then(decide (x<0),x.natAbs+y.natAbs)else if decide (0≤j3 (ak x.natAbs) (ak y.natAbs))=true then(decide (x<0),x.natAbs-y.natAbs)else(decide (y<0),y.natAbs-x.natAbs)
theorem KV(m n:Nat):decide (0≤j3 (ak m) (ak n))=decide (n≤m):=by
 rw[ahf,decide_eq_decide];unfold jf;split
 ·omega
 ·split<;>omega
theorem Wx(x y:Int):(if(nX x y).1 then -((nX x y).2:Int)else(nX x y).2)=x+y:=by
 unfold nX;rw[KV];by_cases h1:x<0<;>by_cases h2:y<0<;>by_cases h3:y.natAbs≤x.natAbs<;>simp[h1,h2,h3]<;>omega
theorem Ww{x y:Int}{k:Nat}(hx:(ak x.natAbs).length≤k)(hy:(ak y.natAbs).length≤k):(ak (nX x y).2).length≤k+1:=by
 have h:(nX x y).2≤x.natAbs+y.natAbs:=by
  unfold nX;split
  ·exact Nat.le_refl _
  ·split
   ·show x.natAbs-y.natAbs≤_;omega
   ·show y.natAbs-x.natAbs≤_;omega
 refine Kf ?_;have h1:=s0 x.natAbs;have h2:=s0 y.natAbs;have h3:gB^(ak x.natAbs).length≤gB^k:=Nat.pow_le_pow_right ee hx;have h4:gB^(ak y.natAbs).length≤gB^k:=Nat.pow_le_pow_right ee hy;have h5:2*gB^k≤gB^(k+1):=by rw[Nat.pow_succ,Nat.mul_comm];exact Nat.mul_le_mul_left _ (by unfold gB;omega)
 omega
theorem MJ{x y:Int}(h:(decide (x<0)==decide (y<0))=true):nX x y=(decide (x<0),x.natAbs+y.natAbs):=by unfold nX;rw[if_pos h]
theorem MK{x y:Int}(h:(decide (x<0)==decide (y<0))=false)(h2:decide (0≤j3 (ak x.natAbs) (ak y.natAbs))=true):nX x y=(decide (x<0),x.natAbs-y.natAbs):=by unfold nX;rw[if_neg (by rw[h];simp),if_pos h2]
theorem ML{x y:Int}(h:(decide (x<0)==decide (y<0))=false)(h2:decide (0≤j3 (ak x.natAbs) (ak y.natAbs))=false):nX x y=(decide (y<0),y.natAbs-x.natAbs):=by unfold nX;rw[if_neg (by rw[h];simp),if_neg (by rw[h2];simp)]
theorem G'{a b:ae}(h:(uQ a&&uQ b)=true):IntKind.i64.wrap (oL a+oL b)=oL a+oL b∧(-1000000000000000000<oL a+oL b∧oL a+oL b<1000000000000000000)∧ofInt (oL a+oL b)=ma a b:=by
 simp only[Bool.and_eq_true]at h;have h1:=U2 h.1;have h2:=U2 h.2;rw[U3 h.1,U3 h.2];exact⟨aW zO zO,⟨by omega,by omega⟩,rfl⟩
theorem abM(m n:Nat)(h:decide (0≤j3 (ak m) (ak n))=true):n≤m:=by rw[KV]at h;exact of_decide_eq_true h
theorem afj(m n:Nat)(h:decide (0≤j3 (ak m) (ak n))=false):m≤n:=by rw[KV]at h;have:=of_decide_eq_false h;omega
theorem Wy(x y:Int)(hx:(ak x.natAbs).length≤10000)(hy:(ak y.natAbs).length≤10000):Fc Tryz.prog 127 [.agg [.b (decide (x<0)),sI (ak (x).natAbs)],.agg [.b (decide (y<0)),sI (ak (y).natAbs)]] (.agg [.b (nX x y).1,sI (ak (nX x y).2)]):=by
 refine Fc.j2 func127 rfl ntmps127 rfl rfl rfl ?_;refine go [99999] ?_;refine br (fun h1=>?_) (fun h1=>?_)
 ·refine oP (aj call177 rfl (ahL _ _ zO zO)) ?_;refine ord ?_;refine U.ret (?_);exact Rd.cA results127 isAgg210 sizeOf210 rfl rfl rfl (Sub.agg (.cons (Sub.bool (by rw[MJ zA])) (.cons (Sub.snap (by rw[MJ zA])) .nil)))
 ·refine oP (aj call178 rfl (ahh _ _ zO zO)) ?_;refine br (fun h2=>?_) (fun h2=>?_)
  ·refine oP (aj call179 rfl (SE _ _ zO zO (abM _ _ zA))) ?_;refine ord ?_;refine U.ret (?_);exact Rd.cA results127 isAgg210 sizeOf210 rfl rfl rfl (Sub.agg (.cons (Sub.bool (by rw[MK zA zA])) (.cons (Sub.snap (by rw[MK zA zA])) .nil)))
  ·refine oP (aj call179 rfl (SE _ _ zO zO (afj _ _ zA))) ?_;refine ord ?_;refine U.ret (?_);exact Rd.cA results127 isAgg210 sizeOf210 rfl rfl rfl (Sub.agg (.cons (Sub.bool (by rw[ML zA zA])) (.cons (Sub.snap (by rw[ML zA zA])) .nil)))
theorem Wt(a b:ae)(ha:a.length≤8000)(hb:b.length≤8000):Fc Tryz.prog 90 [.str a,.str b] (.str (ma a b)):=by
 refine Fc.mk' [4] func90 rfl ntmps90 rfl rfl rfl (fun t w=>results_tmp results90 t _ w) ?_;have sG:=vV a;have ke:=vV b;refine go [] ?_;refine oP (aj call124 rfl (U4 _)) ?_;refine oP (aj call124 rfl (U4 _)) ?_;refine br (fun h1=>?_) (fun h1=>?_)
 ·refine sd ((G' h1).1) ?_;refine oP (aj call125 rfl (agI _ (G' h1).2.1)) ?_;exact an rfl (Sub.str (by exact(G' h1).2.2))
 ·refine oP (aj call128 rfl (Um _ zO)) ?_;refine oP (aj call128 rfl (Um _ zO)) ?_;refine oP (aj call127 rfl (Wy _ _ zO zO)) ?_;refine oP (aj call126 rfl (ann _ _ (Nat.le_trans (Ww (k:=8000) zO zO) zO))) ?_;exact an rfl (Sub.str (by unfold ma;rw[Wx]))
structure WW(l:List bj)where
 pre:List bj
 rest:List bj
 hx:l=pre++rest
 hp:jy [] l=jy pre rest
 h0:l.length≤16
theorem WV(l:List bj):Fc Tryz.prog 25 [ew l] (.i (jW l)):=by
 refine Fc.mk' [2] func25 rfl ntmps25 rfl rfl rfl (fun t w=>results_tmp results25 t _ w) ?_;refine U.ec 0 rfl (fun hb=>?_);simp only[List.length_map,aH]at hb;refine go [] ?_;refine br (fun h1=>?_) (fun h1=>?_)
 ·have a_:=h1;try simp only[bs]at a_
  exact an rfl (Sub.int (by exact(ND zO).symm))
 ·have a_:=h1;try simp only[bs]at a_
  refine U.loop (ι:=WW l) (fun sx=>[(0,ew l),(8,ew l),(9,.i l.length),(10,.i sx.pre.length)]) (fun sx=>[]) (fun sx=>sx.rest.length) ⟨[],l,rfl,rfl,by omega⟩ ?_ ?_
  ·exact Le.mk rfl (.s rfl rfl (.s rfl rfl (.cons rfl (Sub.int zS) rfl (.s rfl rfl .nil)))) .nil
  ·rintro⟨pre,rest,hx,hp,h0⟩;show U _ _ _ _ [(0,ew l),(8,ew l),(9,.i l.length),(10,.i pre.length)] [];have hl:=congrArg List.length hx;simp only[List.length_append]at hl;rcases rest with _|⟨x,rest⟩
   ·skip;refine go [] ?_;refine aQ (by simp at hl⊢;omega) ?_;refine go [] ?_;exact an rfl (Sub.int (by exact(NC hp h0).symm))
   ·simp only[List.length_cons]at hl;refine go [] ?_;refine bM zQ ?_;refine ix zO (bb bU hx rfl) ?_;refine oP (aj call72 rfl (Rk _)) ?_;refine br (fun h2=>?_) (fun h2=>?_)
    ·exact an rfl (Sub.int (by exact(Nx hp h0 (by simp_all)).symm))
    ·refine oP (aj call73 rfl (adT _)) ?_;refine br (fun h3=>?_) (fun h3=>?_)
     ·exact an rfl (Sub.int (by exact(Ny hp h0 (by simp_all) (by simp_all)).symm))
     ·refine br (fun h4=>?_) (fun h4=>?_)
      ·exact an rfl (Sub.int (by exact(Nz hp h0 (by simp_all) (by simp_all) (by simp_all)).symm))
      ·refine pA (fun hg=>(aW (by have:=of_decide_eq_true hg;omega) (by have:=of_decide_eq_true hg;omega))) ?_;refine lW (fun hg=>And.intro (by have:=of_decide_eq_true hg;omega) (E9 bU hx (by have:=of_decide_eq_true hg;omega) zO)) ?_;refine ord ?_;refine br (fun h5=>?_) (fun h5=>?_)
       ·exact an rfl (Sub.int (by exact(NA hp h0 (by simp_all) (by simp_all) (by simp_all) (by simp_all)).symm))
       ·refine sd (aB zO) ?_;exact nx ⟨pre++[x],rest,by simp[hx],NB hp (by simp_all) (by simp_all) (by simp_all) (by simp_all),h0⟩ zS (Le.mk rfl (.s rfl rfl (.s rfl rfl (.s rfl rfl (.cons rfl (Sub.int zS) rfl .nil)))) .nil)
structure WY(l:List bj)where
 pre:List bj
 rest:List bj
 hx:l=pre++rest
 hp:jy [] l=jy pre rest
 h0:l.length≤16
theorem WX(l:List bj):Fc Tryz.prog 51 [ew l] (.i (jW l)):=by
 refine Fc.mk' [2] func51 rfl ntmps51 rfl rfl rfl (fun t w=>results_tmp results51 t _ w) ?_;refine U.ec 0 rfl (fun hb=>?_);simp only[List.length_map,aH]at hb;refine go [] ?_;refine br (fun h1=>?_) (fun h1=>?_)
 ·have a_:=h1;try simp only[bs]at a_
  exact an rfl (Sub.int (by exact(ND zO).symm))
 ·have a_:=h1;try simp only[bs]at a_
  refine U.loop (ι:=WY l) (fun sx=>[(0,ew l),(3,.i sx.pre.length)]) (fun sx=>[]) (fun sx=>sx.rest.length) ⟨[],l,rfl,rfl,by omega⟩ ?_ ?_
  ·exact Le.mk rfl (.s rfl rfl (.s rfl rfl .nil)) .nil
  ·rintro⟨pre,rest,hx,hp,h0⟩;show U _ _ _ _ [(0,ew l),(3,.i pre.length)] [];have hl:=congrArg List.length hx;simp only[List.length_append]at hl;rcases rest with _|⟨x,rest⟩
   ·skip;refine go [] ?_;refine aQ (by simp at hl⊢;omega) ?_;refine go [] ?_;exact an rfl (Sub.int (by exact(NC hp h0).symm))
   ·simp only[List.length_cons]at hl;refine go [] ?_;refine bM zQ ?_;refine ix zO (bb bU hx rfl) ?_;refine oP (aj call86 rfl (Yy _)) ?_;refine br (fun h2=>?_) (fun h2=>?_)
    ·exact an rfl (Sub.int (by exact(Nx hp h0 (by simp_all)).symm))
    ·refine ix zO (bb bU hx rfl) ?_;refine oP (aj call87 rfl (XX _)) ?_;refine br (fun h3=>?_) (fun h3=>?_)
     ·exact an rfl (Sub.int (by exact(Ny hp h0 (by simp_all) (by simp_all)).symm))
     ·refine ix zO (bb bU hx rfl) ?_;refine br (fun h4=>?_) (fun h4=>?_)
      ·exact an rfl (Sub.int (by exact(Nz hp h0 (by simp_all) (by simp_all) (by simp_all)).symm))
      ·refine lW (fun hg=>And.intro zO (bb bU hx rfl)) ?_;refine pA (fun hg=>(aW (by have:=of_decide_eq_true hg;omega) (by have:=of_decide_eq_true hg;omega))) ?_;refine lW (fun hg=>And.intro (by have:=of_decide_eq_true hg;omega) (E9 bU hx (by have:=of_decide_eq_true hg;omega) zO)) ?_;refine ord ?_;refine br (fun h5=>?_) (fun h5=>?_)
       ·exact an rfl (Sub.int (by exact(NA hp h0 (by simp_all) (by simp_all) (by simp_all) (by simp_all)).symm))
       ·refine sd (aB zO) ?_;exact nx ⟨pre++[x],rest,by simp[hx],NB hp (by simp_all) (by simp_all) (by simp_all) (by simp_all),h0⟩ zS (Le.mk rfl (.s rfl rfl (.cons rfl (Sub.int zS) rfl .nil)) .nil)
end Go.T
namespace Go.T
section
variable{α:Type} [Inhabited α]
def swp(d:List α)(i j:Nat):List α:=(d.set i (at_ d j)).set j (at_ d i)
theorem cu(d:List α)(i j:Nat):(swp d i j).length=d.length:=by simp[swp]
def l7(d:List α)(a b:Nat):Nat→List α
 |0=>d
 |n+1=>swp (l7 d a b n) (a+n) (b+n)
theorem cP(d:List α)(a b n:Nat):(l7 d a b n).length=d.length:=by
 induction n with
 |zero=>rfl
 |succ n ih=>rw[l7,cu,ih]
def lJ:Nat→List α→Nat→Nat→Nat→List α
 |0,d,_,_,_=>d
 |n+1,d,m,i,j=>if i=j then l7 d (m-i) m i else if j<i then lJ n (l7 d (m-i) m j) m (i-j) j else lJ n (l7 d (m-i) (m+j-i) i) m i (j-i)
theorem c6:∀(n:Nat)(d:List α)(m i j:Nat),(lJ n d m i j).length=d.length
 |0,_,_,_,_=>rfl
 |n+1,d,m,i,j=>by
  rw[lJ];split
  ·exact cP _ _ _ _
  ·split<;>rw[c6,cP]
def hY(p:Nat→Bool):Nat→Nat→Nat→Nat
 |0,i,_=>i
 |n+1,i,j=>if i<j then(if p ((i+j)/2)=true then hY p n ((i+j)/2+1) j else hY p n i ((i+j)/2))else i
def pC:Nat→List α→Nat→List α
 |0,d,_=>d
 |n+1,d,k=>pC n (swp d k (k+1)) (k+1)
def pB:Nat→List α→Nat→List α
 |0,d,_=>d
 |n+1,d,k=>pB n (swp d k (k-1)) (k-1)
theorem dc:∀(n:Nat)(d:List α)(k:Nat),(pC n d k).length=d.length
 |0,_,_=>rfl
 |n+1,d,k=>by rw[pC,dc,cu]
theorem c_:∀(n:Nat)(d:List α)(k:Nat),(pB n d k).length=d.length
 |0,_,_=>rfl
 |n+1,d,k=>by rw[pB,c_,cu]
variable(c:α→α→Int)
def lD(a:Nat):Nat→List α→List α
 |0,d=>d
 |j+1,d=>if(decide (a<j+1)&&decide (c (at_ d (j+1)) (at_ d j)<0))=true then lD a j (swp d (j+1) j)else d
theorem cX(a:Nat):∀(j:Nat)(d:List α),(lD c a j d).length=d.length
 |0,_=>rfl
 |j+1,d=>by
  rw[lD];split
  ·rw[cX a j,cu]
  ·rfl
def qJ(a:Nat):Nat→List α→Nat→List α
 |0,d,_=>d
 |k+1,d,i=>qJ a k (lD c a i d) (i+1)
theorem cY(a:Nat):∀(k:Nat)(d:List α)(i:Nat),(qJ c a k d i).length=d.length
 |0,_,_=>rfl
 |k+1,d,i=>by rw[qJ,cY a k,cX]
def qK(d:List α)(a b:Nat):List α:=qJ c a (b-(a+1)) d (a+1)
theorem cq(d:List α)(a b:Nat):(qK c d a b).length=d.length:=cY _ _ _ _ _
@[reducible] def p1(d:List α)(a h:Nat):Bool:=decide (c (at_ d h) (at_ d a)<0)
@[reducible] def p2(d:List α)(m h:Nat):Bool:=!decide (c (at_ d m) (at_ d h)<0)
@[reducible] def p3(d:List α)(p h:Nat):Bool:=!decide (c (at_ d (p-h)) (at_ d h)<0)
def kq(d:List α)(a m b:Nat):Nat:=hY (p3 c d ((a+b)/2+m-1)) ((if(a+b)/2<m then(a+b)/2 else m)-(if(a+b)/2<m then(a+b)/2+m-b else a)) (if(a+b)/2<m then(a+b)/2+m-b else a) (if(a+b)/2<m then(a+b)/2 else m)
def lN(d:List α)(m s e:Nat):List α:=if(decide (s<m)&&decide (m<e))=true then lJ ((m-s)+(e-m)) d m (m-s) (e-m)else d
theorem eS(d:List α)(m s e:Nat):(lN d m s e).length=d.length:=by
 unfold lN;split
 ·exact c6 _ _ _ _ _
 ·rfl
def jE:Nat→List α→Nat→Nat→Nat→List α
 |0,d,_,_,_=>d
 |n+1,d,a,m,b=>
  if m-a=1 then pC (hY (p1 c d a) (b-m) m b-1-a) d a
  else if b-m=1 then pB (m-hY (p2 c d m) (m-a) a m) d m
  else if(decide ((a+b)/2<(a+b)/2+m-kq c d a m b)&&decide ((a+b)/2+m-kq c d a m b<b))=true then
   jE n (if(decide (a<kq c d a m b)&&decide (kq c d a m b<(a+b)/2))=true then jE n (lN d m (kq c d a m b) ((a+b)/2+m-kq c d a m b)) a (kq c d a m b) ((a+b)/2)else lN d m (kq c d a m b) ((a+b)/2+m-kq c d a m b)) ((a+b)/2) ((a+b)/2+m-kq c d a m b) b
  else(if(decide (a<kq c d a m b)&&decide (kq c d a m b<(a+b)/2))=true then jE n (lN d m (kq c d a m b) ((a+b)/2+m-kq c d a m b)) a (kq c d a m b) ((a+b)/2)else lN d m (kq c d a m b) ((a+b)/2+m-kq c d a m b))
theorem cc:∀(n:Nat)(d:List α)(a m b:Nat),(jE c n d a m b).length=d.length
 |0,_,_,_,_=>rfl
 |n+1,d,a,m,b=>by
  rw[jE];split
  ·exact dc _ _ _
  ·split
   ·exact c_ _ _ _
   ·split
    ·rw[cc n];split
     ·rw[cc n,eS]
     ·exact eS _ _ _ _
    ·split
     ·rw[cc n,eS]
     ·exact eS _ _ _ _
def pn:Nat→List α→Nat→List α
 |0,d,a=>qK c d a d.length
 |k+1,d,a=>if a+20≤d.length then pn k (qK c d a (a+20)) (a+20)else qK c d a d.length
theorem fk:∀(k:Nat)(d:List α)(a:Nat),(pn c k d a).length=d.length
 |0,_,_=>cq _ _ _ _
 |k+1,d,a=>by
  rw[pn];split
  ·rw[fk k,cq]
  ·exact cq _ _ _ _
def nP(s:Nat):Nat→List α→Nat→List α
 |0,d,_=>d
 |k+1,d,a=>if a+2*s≤d.length then nP s k (jE c (2*s) d a (a+s) (a+2*s)) (a+2*s)else if a+s<d.length then jE c (2*s) d a (a+s) d.length else d
theorem fa(s:Nat):∀(k:Nat)(d:List α)(a:Nat),(nP c s k d a).length=d.length
 |0,_,_=>rfl
 |k+1,d,a=>by
  rw[nP];split
  ·rw[fa s k,cc]
  ·split
   ·exact cc _ _ _ _ _ _
   ·rfl
def pQ:Nat→Nat→List α→List α
 |0,_,d=>d
 |k+1,s,d=>if s<d.length then pQ k (2*s) (nP c s (d.length+1) d 0)else d
theorem fh:∀(k s:Nat)(d:List α),(pQ c k s d).length=d.length
 |0,_,_=>rfl
 |k+1,s,d=>by
  rw[pQ];split
  ·rw[fh k,fa]
  ·rfl
def Gr(d:List α):List α:=pQ c d.length 20 (pn c d.length d 0)
end
section
variable{α:Type} [Inhabited α]
theorem qg{a r:List α}{x:α}{i:Nat}(h:i=a.length):at_ (a++x::r) i=x:=by subst h;simp[at_]
theorem Vp(p q r:List α)(x y:α):swp (p++x::q++y::r) p.length (p.length+1+q.length)=p++y::q++x::r:=by
 unfold swp;have e1:at_ (p++x::q++y::r) (p.length+1+q.length)=y:=qg zQ;have e2:at_ (p++x::q++y::r) p.length=x:=by rw[List.append_assoc,List.cons_append];exact qg rfl
 rw[e1,e2];exact akH p q r x y
theorem akI(p r:List α)(x y:α):swp (p++x::y::r) p.length (p.length+1)=p++y::x::r:=by
 have:=Vp p [] r x y;simpa using this
theorem Vo(p r:List α)(x y:α):swp (p++x::y::r) (p.length+1) p.length=p++y::x::r:=by
 have e1:at_ (p++x::y::r) p.length=x:=qg rfl;have e2:at_ (p++x::y::r) (p.length+1)=y:=by
  rw[show p++x::y::r=(p++[x])++y::r by simp];exact qg zS
 unfold swp;rw[e1,e2,List.set_append_right _ _ zO,List.set_append_right _ _ zO];simp
theorem Gx:∀(n:Nat)(p u q v r:List α),u.length=n→v.length=n→l7 (p++u++q++v++r) p.length (p.length+n+q.length) n=p++v++q++u++r
 |0,p,u,q,v,r,hu,hv=>by
  rw[List.length_eq_zero_iff.1 hu,List.length_eq_zero_iff.1 hv];rfl
 |n+1,p,u,q,v,r,hu,hv=>by
  rcases zU u with rfl|⟨u,x,rfl⟩
  ·simp at hu
  rcases zU v with rfl|⟨v,y,rfl⟩
  ·simp at hv
  simp only[List.length_append,List.length_singleton,Nat.add_right_cancel_iff]at hu hv;have ih:=Gx n p u (x::q) v (y::r) hu hv;rw[l7];have e1:p++(u++[x])++q++(v++[y])++r=p++u++(x::q)++v++(y::r):=by simp
  have e2:p.length+n+(x::q).length=p.length+(n+1)+q.length:=by simp;omega
  rw[e2]at ih;rw[e1,ih];have e3:p++v++x::q++u++y::r=(p++v)++x::(q++u)++y::r:=by simp
  have e4:=Vp (p++v) (q++u) r x y;simp only[List.length_append]at e4;rw[e3,show p.length+n=p.length+v.length by omega,show p.length+(n+1)+q.length+n=p.length+v.length+1+(q.length+u.length) by omega,e4];simp
theorem LG:∀(n:Nat)(p u v r:List α),u.length+v.length≤n→u≠[]→v≠[]→lJ n (p++u++v++r) (p.length+u.length) u.length v.length=p++v++u++r
 |0,p,u,v,r,h,hu,hv=>by
  exfalso;exact hu (List.length_eq_zero_iff.1 zO)
 |n+1,p,u,v,r,h,hu,hv=>by
  have E7:=List.length_pos_iff.2 hu;have ic:=List.length_pos_iff.2 hv;rw[lJ];split
  ·rename_i e;have:=Gx u.length p u [] v r rfl e.symm;simp only[List.append_nil,List.length_nil,Nat.add_zero]at this;rw[show p.length+u.length-u.length=p.length by omega];exact this
  ·split
   ·rename_i e1 e2;have e3:u=u.take v.length++u.drop v.length:=(List.take_append_drop _ _).symm;have h1:(u.take v.length).length=v.length:=by simp;omega
    have h2:(u.drop v.length).length=u.length-v.length:=by simp
    generalize hU:u.take v.length=u1 at e3 h1;generalize hU2:u.drop v.length=u2 at e3 h2;have s:=Gx v.length p u1 u2 v r h1 rfl;have e4:p++u++v++r=p++u1++u2++v++r:=by rw[e3];simp
    rw[show p.length+u.length-u.length=p.length by omega,e4,show p.length+u.length=p.length+v.length+u2.length by omega,s];have ih:=LG n (p++v) u2 u1 r zO (by intro k;rw[k]at h2;simp at h2;omega) (by intro k;rw[k]at h1;simp at h1;omega);rw[h2,h1,List.length_append]at ih;rw[h2,ih,e3];simp
   ·rename_i e1 e2;have e3:v=v.take (v.length-u.length)++v.drop (v.length-u.length):=(List.take_append_drop _ _).symm;have h1:(v.take (v.length-u.length)).length=v.length-u.length:=by simp
    have h2:(v.drop (v.length-u.length)).length=u.length:=by simp;omega
    generalize hV:v.take (v.length-u.length)=v1 at e3 h1;generalize hV2:v.drop (v.length-u.length)=v2 at e3 h2;have s:=Gx u.length p u v1 v2 r rfl h2;have e4:p++u++v++r=p++u++v1++v2++r:=by rw[e3];simp
    rw[show p.length+u.length-u.length=p.length by omega,e4,show p.length+u.length+v.length-u.length=p.length+u.length+v1.length by omega,s];have ih:=LG n p v2 v1 (u++r) zO (by intro k;rw[k]at h2;simp at h2;omega) (by intro k;rw[k]at h1;simp at h1;omega);rw[h2,h1]at ih;have e5:p++v2++v1++u++r=p++v2++v1++(u++r):=by simp
    rw[e5,ih,e3];simp
theorem A9(p:Nat→Bool):∀(n i j:Nat),i≤j→j-i≤n→i≤hY p n i j∧hY p n i j≤j∧(hY p n i j=i∨p (hY p n i j-1)=true)∧(hY p n i j=j∨p (hY p n i j)=false)
 |0,i,j,h,hn=>by
  have:i=j:=by omega
  subst this;exact⟨Nat.le_refl _,Nat.le_refl _,.inl rfl,.inl rfl⟩
 |n+1,i,j,h,hn=>by
  rw[hY];split
  ·split
   ·rename_i hp;obtain⟨h1,h2,h3,h4⟩:=A9 p n ((i+j)/2+1) j zO zO;refine⟨by omega,h2,.inr ?_,h4⟩;rcases h3 with h3|h3
    ·rw[h3,Nat.add_sub_cancel];exact hp
    ·exact h3
   ·rename_i hp;obtain⟨h1,h2,h3,h4⟩:=A9 p n i ((i+j)/2) zO zO;refine⟨h1,by omega,h3,.inr ?_⟩;rcases h4 with h4|h4
    ·rw[h4];simpa using hp
    ·exact h4
  ·have:i=j:=by omega
   subst this;exact⟨Nat.le_refl _,Nat.le_refl _,.inl rfl,.inl rfl⟩
theorem U1:∀(b p r:List α)(x:α),pC b.length (p++x::(b++r)) p.length=p++b++x::r
 |[],p,r,x=>by simp[pC]
 |y::b,p,r,x=>by
  have ih:=U1 b (p++[y]) r x;simp only[List.length_cons,pC,List.cons_append];rw[akI];simp only[List.length_append,List.length_singleton,List.append_assoc,List.singleton_append]at ih;rw[ih];simp
theorem U0:∀(n:Nat)(a p r:List α)(y:α),a.length=n→pB n (p++a++y::r) (p.length+n)=p++y::(a++r)
 |0,a,p,r,y,h=>by rw[List.length_eq_zero_iff.1 h];simp[pB]
 |n+1,a,p,r,y,h=>by
  rcases zU a with rfl|⟨a,z,rfl⟩
  ·simp at h
  simp only[List.length_append,List.length_singleton,Nat.add_right_cancel_iff]at h;rw[pB];have e:p++(a++[z])++y::r=(p++a)++z::y::r:=by simp
  have s:=Vo (p++a) r z y;simp only[List.length_append,h]at s;rw[e,show p.length+(n+1)-1=p.length+n by omega,show p.length+(n+1)=p.length+n+1 by omega,s,show p++a++y::z::r=p++a++y::([z]++r) by simp,U0 n a p _ y h];simp
variable{c:α→α→Int} (hc:hG c)
include hc
theorem Q9(a:Nat)(pre r l:List α)(x:α)(ha:pre.length=a):∀(n:Nat)(s q:List α),s.length=n→sorted c l=s++q→(∀y∈q,bA c y x=false)→
  lD c a (a+n) (pre++s++x::(q++r))=pre++sorted c (l++[x])++r
 |0,s,q,hs,hl,hq=>by
  have e:=List.length_eq_zero_iff.1 hs;subst e;have h:sorted c (l++[x])=[]++x::q:=(Lj hc.pre hl hq (.inl rfl)).symm;have:∀d:List α,lD c a (a+0) d=d:=fun d=>by
   cases a with
   |zero=>rfl
   |succ a=>rw[Nat.add_zero,lD];simp
  rw[this,h];simp
 |n+1,s,q,hs,hl,hq=>by
  rcases zU s with rfl|⟨s,z,rfl⟩
  ·simp at hs
  simp only[List.length_append,List.length_singleton,Nat.add_right_cancel_iff]at hs;rw[←Nat.add_assoc,lD];have e:pre++(s++[z])++x::(q++r)=(pre++s)++z::x::(q++r):=by simp
  have hlen:(pre++s).length=a+n:=by simp;omega
  have e1:at_ ((pre++s)++z::x::(q++r)) (a+n)=z:=qg hlen.symm;have e2:at_ ((pre++s)++z::x::(q++r)) (a+n+1)=x:=by
   rw[show pre++s++z::x::(q++r)=(pre++s++[z])++x::(q++r) by simp];exact qg zQ
  rw[e,e1,e2];have hd:decide (a<a+n+1)=true:=decide_eq_true zO;rw[hd,Bool.true_and];split
  ·rename_i h;have s2:=Vo (pre++s) (q++r) z x;rw[hlen]at s2;rw[s2,show pre++s++x::z::(q++r)=pre++s++x::((z::q)++r) by simp];exact Q9 a pre r l x ha n s (z::q) hs (by rw[hl];simp) fun y hy=>by
    rcases List.mem_cons.1 hy with rfl|hy
    ·exact J5 h
    ·exact hq y hy
  ·rename_i h;have h2:sorted c (l++[x])=(s++[z])++x::q:=(Lj hc.pre hl hq (.inr ⟨s,z,rfl,J4 (by simpa using h)⟩)).symm;rw[h2];simp
theorem Q_(a:Nat)(pre r:List α)(ha:pre.length=a):∀(l2 l1:List α),qJ c a l2.length (pre++sorted c l1++l2++r) (a+l1.length)=pre++sorted c (l1++l2)++r
 |[],l1=>by simp[qJ]
 |x::l2,l1=>by
  rw[List.length_cons,qJ];have hl:(sorted c l1).length=l1.length:=rP l1;have h:=Q9 hc a pre (l2++r) l1 x ha l1.length (sorted c l1) [] hl zS zS;rw[List.nil_append]at h;rw[show pre++sorted c l1++x::l2++r=pre++sorted c l1++x::(l2++r) by simp,h];have ih:=Q_ a pre r ha l2 (l1++[x]);rw[show a+l1.length+1=a+(l1++[x]).length by simp;omega];rw[show pre++sorted c (l1++[x])++(l2++r)=pre++sorted c (l1++[x])++l2++r by simp,ih];simp
theorem JV(pre l r:List α):qK c (pre++l++r) pre.length (pre.length+l.length)=pre++sorted c l++r:=by
 unfold qK;cases l with
 |nil=>simp[qJ,Ae]
 |cons x l=>
  have h:=Q_ hc pre.length pre r rfl l [x];have e:sorted c [x]=[x]:=by simp[sorted,List.mergeSort]
  rw[e]at h;rw[show pre.length+(x::l).length-(pre.length+1)=l.length by simp;omega];have e2:pre++x::l++r=pre++[x]++l++r:=by simp
  rw[e2];exact h
theorem akP{d:List α}{p u v r:List α}(hd:d=p++u++v++r){m s e:Nat}(hs:s=p.length)(hm:m=s+u.length)(he:e=m+v.length):lN d m s e=p++v++u++r:=by
 unfold lN;split
 ·rename_i h;simp only[Bool.and_eq_true,decide_eq_true_eq]at h;have h1:u≠[]:=by rintro rfl;simp at hm;omega
  have h2:v≠[]:=by rintro rfl;simp at he;omega
  have:=LG (u.length+v.length) p u v r (Nat.le_refl _) h1 h2;rw[hd,show m-s=u.length by omega,show e-m=v.length by omega,show m=p.length+u.length by omega];exact this
 ·rename_i h;simp only[Bool.and_eq_true,decide_eq_true_eq]at h;rw[hd];by_cases h1:u=[]
  ·subst h1;simp
  ·have:=List.length_pos_iff.2 h1;have h2:v=[]:=List.length_eq_zero_iff.1 zO;subst h2;simp
theorem afd{d:List α}{a h:Nat}(k:p1 c d a h=true):bA c (at_ d a) (at_ d h)=false:=J5 k
theorem afe{d:List α}{a h:Nat}(k:p1 c d a h=false):bA c (at_ d a) (at_ d h)=true:=J4 k
theorem RP{d:List α}{a h:Nat}(k:p2 c d a h=true):bA c (at_ d h) (at_ d a)=true:=J4 (by simpa[p2]using k)
theorem RQ{d:List α}{a h:Nat}(k:p2 c d a h=false):bA c (at_ d h) (at_ d a)=false:=J5 (by simpa[p2]using k)
theorem ajC{p l r:List α}{i j:Nat}(hi:i=p.length)(hj:j=i+l.length):lK (p++l++r) i j=l:=by
 subst hi;subst hj;simp[lK]
theorem AM{d p l r:List α}(hd:d=p++l++r){i j:Nat}(hi:i=p.length)(hj:j=i+l.length):lK d i j=l:=by rw[hd];exact ajC hc hi hj
end
section
variable{α:Type} [Inhabited α] {c:α→α→Int} (hc:hG c)
include hc
theorem Gp{l a b:List α}(hl:l=a++b)(h:iv (bA c) l):iv (bA c) a∧iv (bA c) b∧∀x∈a,∀y∈b,bA c x y=true:=by
 rw[hl]at h;exact List.pairwise_append.1 h
theorem afu{w v:List α}{x z:α}(hs:iv (bA c) (w++[z]))(h:bA c x z=false):∀y∈w++[z],bA c x y=false:=fun y hy=>by
 rcases List.mem_append.1 hy with k|k
 ·cases q:bA c x y with
  |false=>rfl
  |true=>
   rw[hc.pre.jO x y z q ((List.pairwise_append.1 hs).2.2 y k z zS)]at h;cases h
 ·obtain rfl:y=z:=by simpa using k
  exact h
theorem am6{w:List α}{x z:α}(hs:iv (bA c) (z::w))(h:bA c x z=true):∀y∈z::w,bA c x y=true:=fun y hy=>by
 rcases List.mem_cons.1 hy with rfl|k
 ·exact h
 ·exact hc.pre.jO x z y h ((List.pairwise_cons.1 hs).1 y k)
theorem am5{w:List α}{x z:α}(hs:iv (bA c) (z::w))(h:bA c z x=false):∀y∈z::w,bA c y x=false:=fun y hy=>by
 rcases List.mem_cons.1 hy with rfl|k
 ·exact h
 ·cases q:bA c y x with
  |false=>rfl
  |true=>rw[hc.pre.jO z y x ((List.pairwise_cons.1 hs).1 y k) q]at h;cases h
theorem akR(p v r:List α)(x:α)(hv:iv (bA c) v):
  pC (hY (p1 c (p++x::(v++r)) p.length) v.length (p.length+1) (p.length+1+v.length)-1-p.length) (p++x::(v++r)) p.length=p++List.merge [x] v (bA c)++r:=by
 obtain⟨h1,h2,h3,h4⟩:=A9 (p1 c (p++x::(v++r)) p.length) v.length (p.length+1) (p.length+1+v.length) zO zO;generalize hY (p1 c (p++x::(v++r)) p.length) v.length (p.length+1) (p.length+1+v.length)=s at*;have e0:at_ (p++x::(v++r)) p.length=x:=qg rfl;have jC:v=v.take (s-(p.length+1))++v.drop (s-(p.length+1)):=(List.take_append_drop _ _).symm;have l1:(v.take (s-(p.length+1))).length=s-(p.length+1):=by simp;omega
 have l2:(v.drop (s-(p.length+1))).length=v.length-(s-(p.length+1)):=by simp
 generalize v.take (s-(p.length+1))=v1 at jC l1;generalize v.drop (s-(p.length+1))=v2 at jC l2;obtain⟨L3,L4,-⟩:=Gp hc jC hv;have a1:∀y∈v1,bA c x y=false:=by
  rcases zU v1 with rfl|⟨w,z,rfl⟩
  ·simp
  ·simp only[List.length_append,List.length_singleton]at l1;rcases h3 with h3|h3
   ·omega
   ·have k:=afd hc h3;rw[e0]at k;have e1:at_ (p++x::(v++r)) (s-1)=z:=by
     rw[show p++x::(v++r)=(p++x::w)++z::(v2++r) by rw[jC];simp];exact qg zQ
    rw[e1]at k;exact afu (v:=[]) hc L3 k
 have a2:∀y∈v2,bA c x y=true:=by
  cases v2 with
  |nil=>simp
  |cons z w=>
   simp only[List.length_cons]at l2;rcases h4 with h4|h4
   ·omega
   ·have k:=afe hc h4;rw[e0]at k;have e1:at_ (p++x::(v++r)) s=z:=by
     rw[show p++x::(v++r)=(p++x::v1)++z::(w++r) by rw[jC];simp];exact qg zQ
    rw[e1]at k;exact am6 hc L4 k
 have hm:=afS hc.pre (x:=x) (b1:=v1) (b2:=v2) (jC▸hv) a1 a2;rw[←jC]at hm;rw[hm,show s-1-p.length=v1.length by omega];have:=U1 v1 p (v2++r) x;rw[show p++x::(v++r)=p++x::(v1++(v2++r)) by rw[jC];simp,this];simp
theorem akS(p u r:List α)(y:α)(hu:iv (bA c) u):
  pB (p.length+u.length-hY (p2 c (p++u++y::r) (p.length+u.length)) u.length p.length (p.length+u.length)) (p++u++y::r) (p.length+u.length)=p++List.merge u [y] (bA c)++r:=by
 obtain⟨h1,h2,h3,h4⟩:=A9 (p2 c (p++u++y::r) (p.length+u.length)) u.length p.length (p.length+u.length) zO zO;generalize hY (p2 c (p++u++y::r) (p.length+u.length)) u.length p.length (p.length+u.length)=s at*;have e0:at_ (p++u++y::r) (p.length+u.length)=y:=qg zS;have nB:u=u.take (s-p.length)++u.drop (s-p.length):=(List.take_append_drop _ _).symm;have l1:(u.take (s-p.length)).length=s-p.length:=by simp;omega
 have l2:(u.drop (s-p.length)).length=u.length-(s-p.length):=by simp
 generalize u.take (s-p.length)=u1 at nB l1;generalize u.drop (s-p.length)=u2 at nB l2;obtain⟨LX,LY,-⟩:=Gp hc nB hu;have a1:∀x∈u1,bA c x y=true:=by
  rcases zU u1 with rfl|⟨w,z,rfl⟩
  ·simp
  ·simp only[List.length_append,List.length_singleton]at l1;rcases h3 with h3|h3
   ·omega
   ·have k:=RP hc h3;rw[e0]at k;have e1:at_ (p++u++y::r) (s-1)=z:=by
     rw[show p++u++y::r=(p++w)++z::(u2++y::r) by rw[nB];simp];exact qg zQ
    rw[e1]at k;exact Vd hc.pre LX k
 have a2:∀x∈u2,bA c x y=false:=by
  cases u2 with
  |nil=>simp
  |cons z w=>
   simp only[List.length_cons]at l2;rcases h4 with h4|h4
   ·omega
   ·have k:=RQ hc h4;rw[e0]at k;have e1:at_ (p++u++y::r) s=z:=by
     rw[show p++u++y::r=(p++u1)++z::(w++y::r) by rw[nB];simp];exact qg zQ
    rw[e1]at k;exact am5 hc LY k
 have hm:=SD hc.pre (y:=y) (a1:=u1) (a2:=u2) (nB▸hu) a1 a2;rw[←nB]at hm;have hl:u.length=u1.length+u2.length:=by rw[nB];simp
 have:=U0 u2.length u2 (p++u1) r y rfl;rw[hm,show p.length+u.length-s=u2.length by omega,show p.length+u.length=(p++u1).length+u2.length by simp;omega];rw[show p++u++y::r=p++u1++u2++y::r by rw[nB];simp,this];simp
theorem GA:∀(n:Nat)(p u v r:List α),u≠[]→v≠[]→u.length+v.length≤n→iv (bA c) u→iv (bA c) v→
  jE c n (p++u++v++r) p.length (p.length+u.length) (p.length+u.length+v.length)=p++List.merge u v (bA c)++r
 |0,p,u,v,r,h1,h2,h,_,_=>by
  exfalso;exact h1 (List.length_eq_zero_iff.1 zO)
 |n+1,p,u,v,r,h1,h2,h,hu,hv=>by
  have E7:=List.length_pos_iff.2 h1;have ic:=List.length_pos_iff.2 h2;rw[jE];split
  ·rename_i g;cases u with
   |nil=>exact absurd rfl h1
   |cons x u=>
    have:u=[]:=List.length_eq_zero_iff.1 (by simp only[List.length_cons]at g;omega);subst this;have:=akR hc p v r x hv;simp only[List.length_singleton,List.append_assoc,List.singleton_append]at this⊢;rw[show p.length+1+v.length-(p.length+1)=v.length by omega];exact this
  ·split
   ·rename_i g1 g;cases v with
    |nil=>exact absurd rfl h2
    |cons y v=>
     have:v=[]:=List.length_eq_zero_iff.1 (by simp only[List.length_cons]at g;omega);subst this;have:=akS hc p u r y hu;simp only[List.append_assoc,List.singleton_append]at this⊢;rw[show p.length+u.length-p.length=u.length by omega];exact this
   ·rename_i g1 g2;have hd:p++u++v++r=p++u++(v++r):=by simp
    have sA:AY (bA c) (p++u++v++r) p.length (p.length+u.length):=Ve (by simp only[List.length_append];omega) (by rw[AM hc hd rfl rfl];exact hu);have sB:AY (bA c) (p++u++v++r) (p.length+u.length) (p.length+u.length+v.length):=Ve (by simp only[List.length_append];omega) (by rw[AM hc (p:=p++u) (l:=v) (r:=r) rfl zS rfl];exact hv);have aql:(p.length+(p.length+u.length+v.length))/2=p.length+(u.length+v.length)/2:=by omega
    have hS:Mq (bA c) (p++u++v++r) (if(p.length+(p.length+u.length+v.length))/2<p.length+u.length then(p.length+(p.length+u.length+v.length))/2+(p.length+u.length)-(p.length+u.length+v.length)else p.length) (if(p.length+(p.length+u.length+v.length))/2<p.length+u.length then(p.length+(p.length+u.length+v.length))/2 else p.length+u.length) ((p.length+(p.length+u.length+v.length))/2+(p.length+u.length)-1) (kq c (p++u++v++r) p.length (p.length+u.length) (p.length+u.length+v.length)) (kq c (p++u++v++r) p.length (p.length+u.length) (p.length+u.length+v.length)):=by
     have hb:(if(p.length+(p.length+u.length+v.length))/2<p.length+u.length then(p.length+(p.length+u.length+v.length))/2+(p.length+u.length)-(p.length+u.length+v.length)else p.length)≤(if(p.length+(p.length+u.length+v.length))/2<p.length+u.length then(p.length+(p.length+u.length+v.length))/2 else p.length+u.length):=by split<;>omega
     obtain⟨k1,k2,k3,k4⟩:=A9 (p3 c (p++u++v++r) ((p.length+(p.length+u.length+v.length))/2+(p.length+u.length)-1)) _ _ _ hb (Nat.le_refl _);refine⟨k1,Nat.le_refl _,k2,?_,?_⟩
     ·rcases k3 with k3|k3
      ·exact .inl k3
      ·exact .inr (RP (d:=[at_ (p++u++v++r) _,at_ (p++u++v++r) _]) (a:=1) (h:=0) hc k3)
     ·rcases k4 with k4|k4
      ·exact .inl k4
      ·exact .inr (RQ (d:=[at_ (p++u++v++r) _,at_ (p++u++v++r) _]) (a:=1) (h:=0) hc k4)
    have hE:=akQ hc.pre (a:=p.length) (m:=p.length+u.length) (b:=p.length+u.length+v.length) zO zO (by simp only[List.length_append];omega) sA sB rfl rfl rfl hS;generalize kq c (p++u++v++r) p.length (p.length+u.length) (p.length+u.length+v.length)=s at*;obtain⟨b1,b2,b3,b4,b5,b6,b7,lo,up⟩:=hE;generalize hmm:(p.length+(p.length+u.length+v.length))/2=mid at*;generalize zo:mid+(p.length+u.length)-s=e at*;have nB:u=u.take (s-p.length)++u.drop (s-p.length):=(List.take_append_drop _ _).symm;have l1:(u.take (s-p.length)).length=s-p.length:=by simp;omega
    have l2:(u.drop (s-p.length)).length=u.length-(s-p.length):=by simp
    generalize u.take (s-p.length)=u1 at nB l1;generalize u.drop (s-p.length)=u2 at nB l2;have jC:v=v.take (e-(p.length+u.length))++v.drop (e-(p.length+u.length)):=(List.take_append_drop _ _).symm;have l3:(v.take (e-(p.length+u.length))).length=e-(p.length+u.length):=by simp;omega
    have l4:(v.drop (e-(p.length+u.length))).length=v.length-(e-(p.length+u.length)):=by simp
    generalize v.take (e-(p.length+u.length))=v1 at jC l3;generalize v.drop (e-(p.length+u.length))=v2 at jC l4;have dd:p++u++v++r=p++u1++u2++v1++(v2++r):=by rw[nB,jC];simp
    have q1:lK (p++u++v++r) p.length s=u1:=AM hc (p:=p) (r:=u2++v1++(v2++r)) (by rw[dd];simp) rfl zO;have q2:lK (p++u++v++r) s (p.length+u.length)=u2:=AM hc (p:=p++u1) (r:=v1++(v2++r)) (by rw[dd];simp) zQ zO;have q3:lK (p++u++v++r) (p.length+u.length) e=v1:=AM hc (p:=p++u1++u2) (r:=v2++r) (by rw[dd]) zQ zO;have q4:lK (p++u++v++r) e (p.length+u.length+v.length)=v2:=AM hc (p:=p++u1++u2++v1) (r:=r) (by rw[dd];simp) zQ zO;rw[q1,q4]at lo;rw[q2,q3]at up;have R:=akP hc (d:=p++u++v++r) (p:=p++u1) (u:=u2) (v:=v1) (r:=v2++r) dd (m:=p.length+u.length) (s:=s) (e:=e) zQ zO zO;obtain⟨LX,LY,-⟩:=Gp hc nB hu;obtain⟨L3,L4,-⟩:=Gp hc jC hv;have ms:=Ks hc.pre (nB▸hu) (jC▸hv) lo up;rw[←nB,←jC]at ms;rw[R,←ms];have d2:(if(decide (p.length<s)&&decide (s<mid))=true then jE c n (p++u1++v1++u2++(v2++r)) p.length s mid else p++u1++v1++u2++(v2++r))=p++List.merge u1 v1 (bA c)++u2++v2++r:=by
     split
     ·rename_i k;simp only[Bool.and_eq_true,decide_eq_true_eq]at k;have ih:=GA n p u1 v1 (u2++(v2++r)) (by rintro rfl;simp at l1;omega) (by rintro rfl;simp at l3;omega) zO LX L3;rw[show p.length+u1.length=s by omega,show s+v1.length=mid by omega]at ih;rw[show p++u1++v1++u2++(v2++r)=p++u1++v1++(u2++(v2++r)) by simp,ih];simp
     ·rename_i k;simp only[Bool.and_eq_true,decide_eq_true_eq]at k;by_cases k1:u1=[]
      ·subst k1;rw[SB hc.pre];simp
      ·have:=List.length_pos_iff.2 k1;have k2:v1=[]:=List.length_eq_zero_iff.1 zO;subst k2;rw[SC hc.pre];simp
    rw[d2];split
    ·rename_i k;simp only[Bool.and_eq_true,decide_eq_true_eq]at k;have hl:(p++List.merge u1 v1 (bA c)).length=mid:=by simp[List.length_merge];omega
     have ih:=GA n (p++List.merge u1 v1 (bA c)) u2 v2 r (by rintro rfl;simp at l2;omega) (by rintro rfl;simp at l4;omega) zO LY L4;rw[hl,show mid+u2.length=e by omega,show e+v2.length=p.length+u.length+v.length by omega]at ih;rw[ih];simp
    ·rename_i k;simp only[Bool.and_eq_true,decide_eq_true_eq]at k;by_cases k1:u2=[]
     ·subst k1;rw[SB hc.pre];simp
     ·have:=List.length_pos_iff.2 k1;have k2:v2=[]:=List.length_eq_zero_iff.1 zO;subst k2;rw[SC hc.pre];simp
theorem Q8:∀(k:Nat)(pre l:List α),l.length≤k→pn c k (pre++l) pre.length=pre++bw (bA c) 20 l
 |0,pre,l,h=>by
  have:=List.length_eq_zero_iff.1 (Nat.le_zero.1 h);subst this;have:=JV hc pre [] [];rw[pn,r_ zS,Ae];simpa[Ae]using this
 |k+1,pre,l,h=>by
  rw[pn];split
  ·rename_i g;simp only[List.length_append]at g;have e:l=l.take 20++l.drop 20:=(List.take_append_drop _ _).symm;have l1:(l.take 20).length=20:=by simp;omega
   have s:=JV hc pre (l.take 20) (l.drop 20);rw[l1,List.append_assoc,←e]at s;have ih:=Q8 k (pre++sorted c (l.take 20)) (l.drop 20) zQ;rw[show(pre++sorted c (l.take 20)).length=pre.length+20 by rw[List.length_append,rP,l1]]at ih;rw[s,ih,DP (l:=l) (s:=20) zO zO];simp
  ·rename_i g;simp only[List.length_append]at g;have s:=JV hc pre l [];rw[r_ zO,show(pre++l).length=pre.length+l.length by simp];simpa using s
theorem TW{s:Nat}(hs:0<s):∀(k:Nat)(pre l:List α),l.length<k→nP c s k (pre++bw (bA c) s l) pre.length=pre++bw (bA c) (2*s) l
 |0,pre,l,h=>by omega
 |k+1,pre,l,h=>by
  have hb:(bw (bA c) s l).length=l.length:=Nb hs l;rw[nP];split
  ·rename_i g;simp only[List.length_append,hb]at g;obtain⟨e1,e2⟩:=Xh hc.pre (s:=s) hs (l:=l) zO;have l1:(sorted c (l.take s)).length=s:=by rw[rP];simp;omega
   have l2:(sorted c ((l.drop s).take s)).length=s:=by rw[rP];simp;omega
   have f:=GA hc (2*s) pre (sorted c (l.take s)) (sorted c ((l.drop s).take s)) (bw (bA c) s (l.drop (2*s))) (by intro q;rw[q]at l1;simp at l1;omega) (by intro q;rw[q]at l2;simp at l2;omega) zO (s4 hc.pre _) (s4 hc.pre _);rw[l1,l2,e2,show pre.length+s+s=pre.length+2*s by omega]at f;rw[e1,show pre++((l.take s).mergeSort (bA c)++(((l.drop s).take s).mergeSort (bA c)++bw (bA c) s (l.drop (2*s))))=pre++sorted c (l.take s)++sorted c ((l.drop s).take s)++bw (bA c) s (l.drop (2*s)) by simp,f];have ih:=TW hs k (pre++(l.take (2*s)).mergeSort (bA c)) (l.drop (2*s)) zQ;rw[show(pre++(l.take (2*s)).mergeSort (bA c)).length=pre.length+2*s by rw[List.length_append,rP];simp;omega]at ih;rw[ih,DP (s:=2*s) (l:=l) zO zO];simp
  ·rename_i g;simp only[List.length_append,hb]at g;split
   ·rename_i g2;simp only[List.length_append,hb]at g2;obtain⟨e1,e2⟩:=Xf hc.pre (s:=s) hs (l:=l) zO zO;have l1:(sorted c (l.take s)).length=s:=by rw[rP];simp;omega
    have l2:(sorted c (l.drop s)).length=l.length-s:=by rw[rP];simp
    have f:=GA hc (2*s) pre (sorted c (l.take s)) (sorted c (l.drop s)) [] (by intro q;rw[q]at l1;simp at l1;omega) (by intro q;rw[q]at l2;simp at l2;omega) zO (s4 hc.pre _) (s4 hc.pre _);rw[l1,l2,e2,List.append_nil,List.append_nil]at f;rw[show(pre++bw (bA c) s l).length=pre.length+s+(l.length-s) by rw[List.length_append,hb];omega,e1,←List.append_assoc,f]
   ·rename_i g2;simp only[List.length_append,hb]at g2;rw[r_ zO,r_ zO]
theorem PU(l:List α):∀(k s:Nat),0<s→l.length≤s+k→pQ c k s (bw (bA c) s l)=sorted c l
 |0,s,hs,h=>by rw[pQ,r_ zO]
 |k+1,s,hs,h=>by
  have hb:(bw (bA c) s l).length=l.length:=Nb hs l;rw[pQ,hb];split
  ·have:=TW hc hs (l.length+1) [] l zO;simp only[List.nil_append,List.length_nil]at this;rw[this];exact PU l k (2*s) zO zO
  ·rw[r_ zO]
theorem akg(l:List α):Gr c l=sorted c l:=by
 have:=Q8 hc l.length [] l (Nat.le_refl _);simp only[List.nil_append,List.length_nil]at this;rw[Gr,this];exact PU hc l l.length 20 zO zO
end
section
variable{α:Type} [Inhabited α] {c:α→α→Int} {R d e:List α} {a b m i j k n s:Nat}
theorem aja(h:lJ k e m i j=R)(hk:i+j≤k)(hi:0<i)(g:i=j):l7 e (m-i) m i=R:=by
 cases k with
 |zero=>omega
 |succ k=>rw[lJ,if_pos g]at h;exact h
theorem ajb(h:lJ k e m i j=R)(hk:i+j≤k)(hj:0<j)(g:j<i):lJ (k-1) (l7 e (m-i) m j) m (i-j) j=R:=by
 cases k with
 |zero=>omega
 |succ k=>rw[lJ,if_neg zO,if_pos g]at h;exact h
theorem ajc(h:lJ k e m i j=R)(hk:i+j≤k)(hi:0<i)(g:i<j):lJ (k-1) (l7 e (m-i) (m+j-i) i) m i (j-i)=R:=by
 cases k with
 |zero=>omega
 |succ k=>rw[lJ,if_neg zO,if_neg zO]at h;exact h
theorem adC(h:lD c a j e=R)(g:a<j)(hc:c (at_ e j) (at_ e (j-1))<0):lD c a (j-1) (swp e j (j-1))=R:=by
 cases j with
 |zero=>omega
 |succ j=>rw[lD,if_pos (by rw[decide_eq_true g,Bool.true_and];exact decide_eq_true hc)]at h;exact h
theorem adA(h:lD c a j e=R)(g:¬(a<j∧c (at_ e j) (at_ e (j-1))<0)):e=R:=by
 cases j with
 |zero=>exact h
 |succ j=>rw[lD,if_neg (by rw[Bool.and_eq_true,decide_eq_true_eq,decide_eq_true_eq];exact g)]at h;exact h
theorem adD(h:lD c a j e=R)(g:(decide ((a:Int)<(j:Int))&&decide (c (at_ e j) (at_ e (j-1))<0))=true):lD c a (j-1) (swp e j (j-1))=R:=by
 simp only[Bool.and_eq_true,decide_eq_true_eq]at g;exact adC h zO g.2
theorem adB(h:lD c a j e=R)(g:(decide ((a:Int)<(j:Int))&&decide (c (at_ e j) (at_ e (j-1))<0))=false):e=R:=
 adA h fun k=>by
  rw[decide_eq_true (show(a:Int)<(j:Int) by omega),Bool.true_and,decide_eq_false_iff_not]at g;exact g k.2
theorem adF(h:qJ c a k e i=R)(hk:0<k):qJ c a (k-1) (lD c a i e) (i+1)=R:=by
 cases k with
 |zero=>omega
 |succ k=>exact h
theorem adE(h:qJ c a k e i=R)(hk:k=0):e=R:=by subst hk;exact h
variable{p:Nat→Bool} {S:Nat}
theorem Hr(h:hY p k i j=S)(hk:j-i≤k)(g:i<j)(hp:p ((i+j)/2)=true):hY p (k-1) ((i+j)/2+1) j=S:=by
 cases k with
 |zero=>omega
 |succ k=>rw[hY,if_pos g,if_pos hp]at h;exact h
theorem Hq(h:hY p k i j=S)(hk:j-i≤k)(g:i<j)(hp:p ((i+j)/2)=false):hY p (k-1) i ((i+j)/2)=S:=by
 cases k with
 |zero=>omega
 |succ k=>rw[hY,if_pos g,if_neg (by rw[hp];decide)]at h;exact h
theorem mV(h:hY p k i j=S)(g:¬i<j):S=i:=by
 cases k with
 |zero=>exact h.symm
 |succ k=>rw[hY,if_neg g]at h;exact h.symm
theorem ajO(h:pC k e i=R)(hk:0<k):pC (k-1) (swp e i (i+1)) (i+1)=R:=by
 cases k with
 |zero=>omega
 |succ k=>exact h
theorem Gi(h:pC k e i=R)(hk:k=0):e=R:=by subst hk;exact h
theorem ajN(h:pB k e i=R)(hk:0<k):pB (k-1) (swp e i (i-1)) (i-1)=R:=by
 cases k with
 |zero=>omega
 |succ k=>exact h
theorem Gh(h:pB k e i=R)(hk:k=0):e=R:=by subst hk;exact h
theorem Vt(h1:s<m)(h2:m<b):lN d m s b=lJ ((m-s)+(b-m)) d m (m-s) (b-m):=by unfold lN;rw[if_pos (by simp[h1,h2])]
theorem Vq(h:¬(s<m∧m<b)):lN d m s b=d:=by unfold lN;rw[if_neg (by simpa using h)]
variable(c n d a m b) in
def rZ:List α:=if(decide (a<m)&&decide (m<b))=true then jE c n d a m b else d
theorem AQ(h1:a<m)(h2:m<b):rZ c d a b m n=jE c n d a m b:=by unfold rZ;rw[if_pos (by simp[h1,h2])]
theorem AP(h:¬(a<m∧m<b)):rZ c d a b m n=d:=by unfold rZ;rw[if_neg (by simpa using h)]
theorem fF:(rZ c d a b m n).length=d.length:=by
 unfold rZ;split
 ·exact cc _ _ _ _ _ _
 ·rfl
theorem Gy(h:m-a=1)(hi:hY (p1 c d a) (b-m) m b=i):pC (i-1-a) d a=jE c (n+1) d a m b:=by subst hi;rw[jE,if_pos h]
theorem Gz(h1:¬m-a=1)(h:b-m=1)(hi:hY (p2 c d m) (m-a) a m=i):pB (m-i) d m=jE c (n+1) d a m b:=by subst hi;rw[jE,if_neg h1,if_pos h]
theorem wz(h1:¬m-a=1)(h2:¬b-m=1)(hs:kq c d a m b=s):rZ c (rZ c (lN d m s ((a+b)/2+m-s)) a ((a+b)/2) s n) ((a+b)/2) b ((a+b)/2+m-s) n=jE c (n+1) d a m b:=by subst hs;rw[jE,if_neg h1,if_neg h2];rfl
variable(a m b) in
def uX:Nat:=if(a+b)/2<m then(a+b)/2+m-b else a
variable(a m b) in
def uW:Nat:=if(a+b)/2<m then(a+b)/2 else m
theorem akO(h1:a<m)(h2:m<b):a≤uX a b m∧(a+b)/2+m-b≤uX a b m∧uW a b m≤m∧uW a b m≤(a+b)/2∧uX a b m≤uW a b m:=by
 unfold uX uW;split<;>omega
theorem adz(h:pn c k e a=R)(hk:0<k)(g:a+20≤e.length):pn c (k-1) (qK c e a (a+20)) (a+20)=R:=by
 cases k with
 |zero=>omega
 |succ k=>rw[pn,if_pos g]at h;exact h
theorem ady(h:pn c k e a=R)(g:¬a+20≤e.length):qK c e a e.length=R:=by
 cases k with
 |zero=>exact h
 |succ k=>rw[pn,if_neg g]at h;exact h
theorem ahs(h:nP c s k e a=R)(hk:0<k)(g:a+2*s≤e.length):nP c s (k-1) (jE c (2*s) e a (a+s) (a+2*s)) (a+2*s)=R:=by
 cases k with
 |zero=>omega
 |succ k=>rw[nP,if_pos g]at h;exact h
theorem ahq(h:nP c s k e a=R)(hk:0<k)(g:¬a+2*s≤e.length)(g2:a+s<e.length):jE c (2*s) e a (a+s) e.length=R:=by
 cases k with
 |zero=>omega
 |succ k=>rw[nP,if_neg g,if_pos g2]at h;exact h
theorem ahr(h:nP c s k e a=R)(hk:0<k)(g:¬a+2*s≤e.length)(g2:¬a+s<e.length):e=R:=by
 cases k with
 |zero=>omega
 |succ k=>rw[nP,if_neg g,if_neg g2]at h;exact h
theorem PT(h:pQ c k s e=R)(hk:0<k)(g:s<e.length):pQ c (k-1) (2*s) (nP c s (e.length+1) e 0)=R:=by
 cases k with
 |zero=>omega
 |succ k=>rw[pQ,if_pos g]at h;exact h
theorem aci(h:pQ c k s e=R)(g:¬s<e.length):e=R:=by
 cases k with
 |zero=>exact h
 |succ k=>rw[pQ,if_neg g]at h;exact h
theorem ye(hc:hG c){l:List α}{x:α}(hk:k≤(sorted c l).length)(hq:∀j,k≤j→j<(sorted c l).length→bA c (at_ (sorted c l) j) x=false)(hn:k=0∨bA c (at_ (sorted c l) (k-1)) x=true):
  (sorted c l).take k++x::(sorted c l).drop k=sorted c (l++[x]):=by
 generalize hs:sorted c l=s at*;refine Lj hc.pre (hs.trans (List.take_append_drop k s).symm) (fun y hy=>?_) ?_
 ·obtain⟨j,hj,e⟩:=List.getElem_of_mem hy;rw[List.length_drop]at hj;rw[List.getElem_drop]at e;have:=hq (k+j) zO zO;rwa[Hf zO,e]at this
 ·rcases hn with h|h
  ·subst h;exact .inl rfl
  ·cases k with
   |zero=>exact .inl rfl
   |succ k=>
    refine .inr ⟨s.take k,at_ s k,?_,h⟩;rw[Hf zO,List.take_append_getElem zO]
theorem yd{s:List α}{x:α}{u:Bool}(h:(decide (0<(k:Int))&&u)=true)(e:u=!bA c (at_ s (k-1)) x)(hq:∀j,k≤j→j<s.length→bA c (at_ s j) x=false):∀j,k-1≤j→j<s.length→bA c (at_ s j) x=false:=fun j h1 h2=>by
 simp only[Bool.and_eq_true,decide_eq_true_eq]at h;rcases Nat.lt_or_ge j k with g|g
 ·have:j=k-1:=by omega
  subst this;rw[e]at h;simpa using h.2
 ·exact hq j g h2
theorem yc{s:List α}{x:α}{u:Bool}(h:(decide (0<(k:Int))&&u)=false)(e:u=!bA c (at_ s (k-1)) x):k=0∨bA c (at_ s (k-1)) x=true:=by
 rw[Bool.and_eq_false_iff,decide_eq_false_iff_not]at h;rcases h with h|h
 ·exact .inl zO
 ·rw[e]at h;exact .inr (by simpa using h)
end
open Go
section
variable[bT] {P:Program} {env:Env} {dst:Option Tmp} {ty:TypeId} {pos:String} {au:Array Edge} {g:Option (Nat×Bool)}
theorem F9{t t':TypeId}{x y:Operand}{a r:Int}(hx:env.op x=some (.raw (.int .u64 a)))(hy:env.op y=some (.raw (.int .u64 1)))(h:a/2=r)(J:aa):
  aq P ⟨dst,.binOp .shr t x y t',ty,pos,au,g⟩ env J (.raw (.int .u64 r)) J:=pw hx hy (fun w=>⟨qw ..,by
 have e:(binOp .shr t (.int .u64 a) (.int .u64 1))=pure (.int .u64 r):=by
  show Op.shift .shr .u64 a .u64 1=_;rw[shift_shr .u64 .u64 a 1 zD zD];show pure (Value.int .u64 (a/2))=_;rw[h]
 rw[e];rfl⟩) J
theorem jM{t e:TypeId}{x y:Operand}{id n sz:Nat}{k:IntKind}{i:Int}(j:Nat)(hu:P.underlying t=some (.slice e))(hs:∀w,(sizeOf e).run P w=.ok sz w)(hx:env.op x=some (.gs id n))(hy:env.op y=some (.raw (.int k i)))(h0:0≤i)(hj:i.toNat=j)(hi:j<n)(J:aa):
  aq P ⟨dst,.indexAddr t x y,ty,pos,au,g⟩ env J (.nf id (j*sz)) J:=b8 hu hs hx hy h0 zO (by rw[hj]) J
end
section
variable{α:Type} [Inhabited α] (enc:α→List D)
theorem mM{d:List α}{j:Nat}(h:j<d.length):(d.map enc)[j]?=some (enc (at_ d j)):=by
 rw[List.getElem?_map,List.getElem?_eq_getElem h,Hf h];rfl
theorem rU{d:List α}{k:Nat}{n:Int}(h:0<k)(hk:k≤d.length)(hn:n=(k:Int)-1):(d.map enc)[n.toNat]?=some (enc (at_ d (k-1))):=by
 rw[show n.toNat=k-1 by omega];exact mM enc zO
theorem wv(d:List α)(i j:Nat):((d.map enc).set i (enc (at_ d j))).set j (enc (at_ d i))=(swp d i j).map enc:=by simp[swp,List.map_set]
end
theorem iM{p:Prop}[Decidable p](h:decide p=true):p:=of_decide_eq_true h
theorem vu{p:Prop}[Decidable p]{b:Bool}(h:(decide p&&b)=true):p:=by simp only[Bool.and_eq_true]at h;exact of_decide_eq_true h.1
theorem vv{p:Prop}[Decidable p]{b c:Bool}(h:((decide p&&b)&&c)=true):p:=by simp only[Bool.and_eq_true]at h;exact of_decide_eq_true h.1.1
theorem U.join[bT]{P:Program}{F:Fr}{Q:Exit→Env→aa→Prop}{env:Env}{J:aa}{x y:Code}{cs:List Code}(fH:Env)(dn:aa)
  (h:U P F [x] (kr (fun e o=>∃u:Unit,(0:Nat)<1∧Le F e o fH dn) Q) env J)(k:U P F (y::cs) Q fH dn):U P F (x::y::cs) Q env J:=⟨by
 refine WP.mono h.start fun e env J h=>?_;cases e with
 |normal=>
  obtain⟨_,_,hl⟩:=h;exact(U.bC hl k).out
 |_=>exact h⟩
end Go.T
